/-
  asoflaw20.DeltaSigns, walked.
-/
import Derived.Test.YtfnpfkgmacaboaaGreatKZ3
import Derived.Test.YtfnpfkgmacaboaaGreatM38
import Derived.Test.YtfnpfkgmacaboaaGreatM42
import Derived.Test.YtfnpfkgmacaboaaGreatM37
namespace Go.Proofs.YtfnpfkgmacaboaaGreat
open Go.ChangeShapes Go.WideShapes Go.ChangeAt Go.RowKit
set_option linter.unusedVariables false
set_option linter.unusedSimpArgs false
set_option maxRecDepth 100000
set_option maxHeartbeats 4000000
open Go.Maps
def metB (x:Dl)(e:En):Bool:=e.tick==x.tick
def toldB (x:Dl)(e:En):Bool:=e.no==x.r.no&&(e.tick==x.r.tk&&(decide (e.tick<=x.tick)&&(e.kind==1&&(eqF e.base (x.r.src,x.r.seq)&&(e.ev==x.r.ev&&decide (e.vs=x.r.vs))))))
theorem any_snoc {α:Type}{f:α->Bool}{l:List α}{q:Nat}{e:α}(h:l[q]?=some e):(l.take (q+1)).any f=((l.take q).any f||f e):=by
 rw[ZaO h,List.any_append]
 simp
/-- The operations of a region of a body. -/
def opsIn (n:Nat):Code->Option (Array Oper)
 |.region id ops _=>if id=n then some ops else none
 |.seq a b=>(match opsIn n a with|some x=>some x|none=>opsIn n b)
 |.cond _ a b=>(match opsIn n a with|some x=>some x|none=>opsIn n b)
 |.block _ b=>opsIn n b
 |.loop b=>opsIn n b
 |.scope b=>opsIn n b
 |_=>none
def opsOf (f:Func)(n:Nat):Array Oper:=(f.body.bind (opsIn n)).getD #[]
theorem lex15:Region.lexB .any (opsOf Tryz.f6 15)=true:=by kernel_rfl
theorem lex23:Region.lexB .any (opsOf Tryz.f6 23)=true:=by kernel_rfl
theorem met_split {mb c M:Bool}(h:M=(mb||c)):(mb=true/\M=true)∨(mb=false/\c=false/\M=false)∨(mb=false/\c=true/\M=true):=by
 subst h;cases mb<;>cases c<;>simp
theorem told_split {tb c1 c2 c3 c4 c5 c6 c7 A:Bool}(h:A=(tb||(c1&&(c2&&(c3&&(c4&&(c5&&(c6&&c7)))))))) :
 (tb=true/\A=true)∨(tb=false/\c1=false/\A=false)∨(tb=false/\c1=true/\c2=false/\A=false)∨(tb=false/\c1=true/\c2=true/\c3=false/\A=false)∨(tb=false/\c1=true/\c2=true/\c3=true/\c4=false/\A=false) ∨
 (tb=false/\c1=true/\c2=true/\c3=true/\c4=true/\c5=false/\A=false)∨(tb=false/\c1=true/\c2=true/\c3=true/\c4=true/\c5=true/\c6=false/\A=false) ∨
 (tb=false/\c1=true/\c2=true/\c3=true/\c4=true/\c5=true/\c6=true/\c7=false/\A=false)∨(tb=false/\c1=true/\c2=true/\c3=true/\c4=true/\c5=true/\c6=true/\c7=true/\A=true):=by
 subst h
 revert tb c1 c2 c3 c4 c5 c6 c7
 decide
theorem signs_all {l:List En}(hO:Order l)(hl:∀ x∈l,OkF x.base)(hs:∀ x∈l,x.kind=1->1<=x.seq){x:Dl}(hx:x.kn∈consK (fromK l)):(x.n=1∨x.n=-1)/\l.any (metB x)=true/\l.any (toldB x)=true:=by
 obtain⟨h1,⟨e,he,h2⟩,f,r,hf,h3,h4,h5,h6,h7⟩:=law_signs hO hl hs hx
 refine⟨h1,List.any_eq_true.2 ⟨e,he,by have h2':e.tick=x.tick:=h2;simp[metB,h2']⟩,List.any_eq_true.2 ⟨f,hf,?_⟩⟩
 have hk:r.key=x.r.key:=h7
 have e9:f.base=(x.r.src,x.r.seq):=by
  rw[h5]
  unfold Rw.key at hk
  simp only[Prod.mk.injEq]at hk
  rw[hk.2.1.1,hk.2.1.2]
 unfold Rw.key at hk
 simp only[Prod.mk.injEq]at hk
 obtain⟨e1,⟨e2,e3⟩,e4,e5,e6,e7,e8⟩:=hk
 have r1:r.ev=f.ev:=congrArg Rw.ev h6
 have r4:r.no=f.no:=congrArg Rw.no h6
 have r5:r.tk=f.tick:=congrArg Rw.tk h6
 have r8:r.vs=f.vs:=congrArg Rw.vs h6
 rw[r1]at e1
 rw[r4]at e4
 rw[r5]at e5
 rw[r8]at e8
 clear h6 r1 r4 r5 r8
 have h3':f.tick<=x.tick:=h3
 unfold toldB
 rw[Zba.2 e9]
 simp[e1,e4,e5,e8,h4,e5 ▸ h3']
theorem rise_step {E rs:List Rw}(hE:RiseE E)(hk:rs.map Rw.key=E.map Rw.key){p:Nat}{a b:Rw}(ha:rs[p]?=some a)(hb:rs[p+1]?=some b):orI (cmpI a.ev b.ev) (orI (cmpS a.src b.src) (cmpI a.seq b.seq))<0:=by
 have get:∀ (q:Nat) (r:Rw),rs[q]?=some r->∃ s:Rw,E[q]?=some s/\s.key=r.key:=fun q r hr=>by
  have h:=congrArg (fun x:List RK=>x[q]?) hk
  simp only[List.getElem?_map,hr,Option.map_some]at h
  cases h0:E[q]? with
  |none=>rw[h0]at h;cases h
  |some s=>rw[h0]at h;injection h with h;exact⟨s,rfl,h.symm⟩
 obtain⟨s,hs,es⟩:=get p a ha
 obtain⟨u,hu,eu⟩:=get (p+1) b hb
 obtain⟨h1,rfl⟩:=List.getElem?_eq_some_iff.1 hs
 obtain⟨h2,rfl⟩:=List.getElem?_eq_some_iff.1 hu
 have h:=(List.pairwise_iff_getElem.1 hE) p (p+1) h1 h2 (by omega)
 generalize E[p]=s at *
 generalize E[p+1]=u at *
 unfold Rw.key at es eu
 simp only[Prod.mk.injEq]at es eu
 obtain⟨a1,⟨a2,a3⟩,-⟩:=es
 obtain⟨b1,⟨b2,b3⟩,-⟩:=eu
 rw[<-a1,<-a2,<-a3,<-b1,<-b2,<-b3]
 exact h
theorem from_len3 {l:List En}(h5:l.length<=60)(hb:∀ y∈l,OkF y.base)(hs:∀ y∈l,y.kind=1->1<=y.seq){ds:List Dl}(hd:ds.map Dl.kn=consK (fromK l)):ds.length<=7200:=by
 have h1:ds.length=(ds.map Dl.kn).length:=by simp
 rw[hd]at h1
 have h2:=Zfy (fromK l)
 have h3:=(frS_len (ZeR hb hs) l.length).1
 have h4:(fromK l).length=(frS l l.length).1.length:=by simp[fromK,fromL]
 have h6:l.length*(2*l.length)<=60*(2*60):=Nat.mul_le_mul h5 (by omega)
 omega
theorem LogOk.kept {l:List En}{w w':World}(h:LogOk l w)(hb:Below w.heap.size w w'):LogOk l w':=⟨h.1,fun e he=>(h.2.1 e he).kept hb,h.2.2⟩
set_option maxHeartbeats 16000000 in
theorem lsigns_any (l:List En)(ao:Option Addr)(c:Nat)(t:Int)(hl:l.length<=140737488355328)(w:World)(h:Zaf En.cells 40 w ao l)(hs:∀ e∈l,e.Seen w) :
 Calls Tryz.prog 6 #[.slice ao l.length c,.int .i64 t] w fun e w'=>e=.returned (.bool true)/\Below w.heap.size w w':=by
 have H1:=Lib.hid h
 have HS:=Lib.hid hs
 have HL:=Lib.hid hl
 clear h hs hl
 go_enter Tryz.func6,Tryz.ntmps6
 go_upto_region 5 with(first|(go_at_call 9;refine(Zfu _).mono ?_;rintro e w1 ⟨rfl,hb⟩;have HW1:Hid (Below w.heap.size w w1):=hb;clear hb)|(go_at_call 10;refine(lvalid_any l _ _ HL.out _ (H1.out.kept HW1.out) (fun e he=>(HS.out e he).kept HW1.out)).mono ?_;rintro e w2 ⟨b,rfl,hq,hb⟩;have HQ:=Lib.hid hq;have HW12:=Lib.hid hb;have HW2:Hid (Below w.heap.size w w2):=ZT HW1.out hb;clear hq hb;cases b)|fail)
 all_goals first
  |(go_ret;exact⟨rfl,HW2.out⟩)
  |skip
 have HOK:Hid (LogOk l w2):=(HQ.out (by first|rfl|trivial)).kept HW12.out
 have HEN:Hid (EnsAt w2 ao l):=HOK.out.ens (H1.out.kept HW2.out) (fun e he=>(HS.out e he).kept HW2.out)
 have HL1:Hid (l.length<=60):=HOK.out.1
 have HBA:Hid (∀ y∈l,OkF y.base):=HEN.out.bases
 have HOR:Hid (Order l):=HOK.out.order
 have HSQ:Hid (∀ y∈l,y.kind=1->1<=y.seq):=HOK.out.seqs
 go_upto_region 6 with(first|(go_at_call 13;refine(Zdq l _ _ (by have:=HL1.out;omega) _ HEN.out).mono ?_;rintro e w3 ⟨v,ds,rfl,hsl,hk,hb⟩;obtain⟨a3,c3,rfl,-,-,hd⟩:=hsl;have HDS:=Lib.hid hd;have HDK:Hid (ds.map Dl.kn=consK (fromK l)):=hk;have HDL:Hid (ds.length<=7200):=from_len3 HL1.out HBA.out HSQ.out hk;have HE3:=Lib.hid (HEN.out.kept hb);have HW3:=Lib.hid (ZT HW2.out hb);clear hd hk hb)|fail)
 clear HEN HOK HQ HW2
 go_wp2_with fail
 go_loopw [6] (fun j wr=>∃ i:Nat,i<=ds.length/\j=.int .i64 i/\Hid (Below w3.heap.size w3 wr)) (fun j _=>ds.length - (intOf j).toNat)
 case atStart=>exact⟨0,by omega,rfl,ZR w3⟩
 case round =>
  obtain⟨i,hi,rfl,HB3⟩:=hrel
  rename World=>wr
  have hdl:=HDL.out
  have hll:=HL1.out
  by_cases hlt:i<ds.length
  · obtain⟨x,hx⟩:∃ x,ds[i]?=some x:=⟨ds[i],List.getElem?_eq_getElem hlt⟩
    obtain⟨b1,o1,rfl,hr1⟩:=ZaT (HDS.out.1.kept HB3.out) hx
    have HXC:Hid (∀ w',Below wr.heap.size wr w'->w'.cell? ⟨b1,o1+i*10,none⟩=some (.string x.r.src)/\w'.cell? ⟨b1,o1+i*10+1,none⟩=some (.int .i64 x.r.seq)/\w'.cell? ⟨b1,o1+i*10+2,none⟩=some (.string x.r.tb)/\w'.cell? ⟨b1,o1+i*10+3,none⟩=some (.string x.r.ky)/\w'.cell? ⟨b1,o1+i*10+4,none⟩=some (.int .i64 x.r.ev)/\w'.cell? ⟨b1,o1+i*10+5,none⟩=some (.slice x.r.fa x.r.vs.length x.r.fc)/\w'.cell? ⟨b1,o1+i*10+6,none⟩=some (.int .i64 x.r.no)/\w'.cell? ⟨b1,o1+i*10+7,none⟩=some (.int .i64 x.r.tk)/\w'.cell? ⟨b1,o1+i*10+8,none⟩=some (.int .i64 x.tick)/\w'.cell? ⟨b1,o1+i*10+9,none⟩=some (.int .i64 x.n)):=fun w' hb=>⟨Zaa (hr1 i x hx 0 _ rfl) hb,Zaa (hr1 i x hx 1 _ rfl) hb,Zaa (hr1 i x hx 2 _ rfl) hb,Zaa (hr1 i x hx 3 _ rfl) hb,Zaa (hr1 i x hx 4 _ rfl) hb,Zaa (hr1 i x hx 5 _ rfl) hb,Zaa (hr1 i x hx 6 _ rfl) hb,Zaa (hr1 i x hx 7 _ rfl) hb,Zaa (hr1 i x hx 8 _ rfl) hb,Zaa (hr1 i x hx 9 _ rfl) hb⟩
    have HSG:=Lib.hid (signs_all HOR.out HBA.out HSQ.out (x:=x) (by rw[<-HDK.out];exact List.mem_map.2 ⟨x,List.mem_of_getElem? hx,rfl⟩))
    have hxo:=HDS.out.2 x (List.mem_of_getElem? hx)
    have HXF:Hid (∀ w',Below wr.heap.size wr w'->Zaf valC 3 w' x.r.fa x.r.vs):=fun w' hb=>(hxo.r.lies.kept HB3.out).kept hb
    have HXL:Hid (x.r.vs.length<=1048576):=hxo.r.len
    clear hr1 hx hxo
    go_wp2_with fail
    go_loopw [7,8,9] (fun m u k wq=>∃ q:Nat,q<=l.length/\k=.int .i64 q/\m=.bool ((l.take q).any (metB x))/\u=.bool ((l.take q).any (toldB x))/\Hid (Below wr.heap.size wr wq)) (fun _ _ k _=>l.length - (intOf k).toNat)
    case atStart=>exact⟨0,by omega,rfl,rfl,rfl,ZR wr⟩
    case round =>
     obtain⟨q,hq,rfl,rfl,rfl,HBR⟩:=hrel
     rename World=>wq
     by_cases hlq:q<l.length
     · obtain⟨e,he⟩:∃ e,l[q]?=some e:=⟨l[q],List.getElem?_eq_getElem hlq⟩
       obtain⟨b2,o2,rfl,hr3⟩:=ZaT (HE3.out.1.kept HB3.out) he
       have HEC:Hid (∀ w',Below wr.heap.size wr w'->∀ j v,e.cells[j]?=some v->w'.cell? ⟨b2,o2+q*40+j,none⟩=some v):=fun w' hb j v hj=>Zaa (hr3 q e he j v hj) hb
       have HFD:Hid (∀ w',Below wr.heap.size wr w'->∀ j v,([.string e.src,.int .i64 e.seq,.int .i64 e.fk,.int .i64 e.ref,.string e.tb,.string e.ky,.int .i64 e.ev,.slice e.fa e.vs.length e.fc]:List Value)[j]?=some v->w'.cell? ⟨b2,o2+q*40+3+j,none⟩=some v):=fun w' hb j v hj=>by
        have hj8:j<8:=(List.getElem?_eq_some_iff.1 hj).1
        rw[Nat.add_assoc]
        refine HEC.out w' hb (3+j) v ?_
        match j,hj with
        |0,hj=>exact hj
        |1,hj=>exact hj
        |2,hj=>exact hj
        |3,hj=>exact hj
        |4,hj=>exact hj
        |5,hj=>exact hj
        |6,hj=>exact hj
        |7,hj=>exact hj
       have heo:=HE3.out.2 e (List.mem_of_getElem? he)
       have HEF:Hid (∀ w',Below wr.heap.size wr w'->Zaf valC 3 w' e.fa e.vs):=fun w' hb=>(heo.lies.kept HB3.out).kept hb
       have HLV:Hid (e.vs.length<=1048576/\x.r.vs.length<=1048576):=⟨heo.len,HXL.out⟩
       have HMQ:Hid ((l.take (q+1)).any (metB x)=((l.take q).any (metB x)||(e.tick==x.tick))):=any_snoc he
       have HTQ:Hid ((l.take (q+1)).any (toldB x)=((l.take q).any (toldB x)||(e.no==x.r.no&&(e.tick==x.r.tk&&(decide (e.tick<=x.tick)&&(e.kind==1&&(eqF e.base (x.r.src,x.r.seq)&&(e.ev==x.r.ev&&decide (e.vs=x.r.vs))))))))):=any_snoc he
       clear hr3 he heo
       generalize (l.take q).any (metB x)=mb at *
       generalize (l.take q).any (toldB x)=tb at *
       obtain⟨c0,c1,c2,c3,c4,c5,c6,c7,c8,c9⟩:=HXC.out _ HBR.out
       have n1:=HEC.out _ HBR.out 1 (.int .i64 e.tick) rfl
       have hg5:∀ op a b w,(eqGuard op 24 a b (.agg #[.string (baseF e.src e.seq e.fk e.ref).1,.int .i64 (baseF e.src e.seq e.fk e.ref).2]) (.agg #[.string x.r.src,.int .i64 x.r.seq])).run Tryz.prog w=.ok () w:=fun op a b w=>guard36 op a b e.base (x.r.src,x.r.seq) w
       have he5:∀ w,(binOp .eql 24 (.agg #[.string (baseF e.src e.seq e.fk e.ref).1,.int .i64 (baseF e.src e.seq e.fk e.ref).2]) (.agg #[.string x.r.src,.int .i64 x.r.seq])).run Tryz.prog w=.ok (.bool (eqF e.base (x.r.src,x.r.seq))) w:=eql36 e.base (x.r.src,x.r.seq)
       obtain⟨M,hMM⟩:∃ M,(l.take (q+1)).any (metB x)=M:=⟨_,rfl⟩
       rw[hMM]at HMQ
       have HM:=Lib.hid hMM
       clear hMM
       go_upto_region 13 with fail
       try simp only[Act.put,m1,m2,m3]
       go_cut [7] (fun v wx=>v=.bool M/\Hid (Below wr.heap.size wr wx))
       case first =>
        rcases met_split HMQ.out with⟨rfl,rfl⟩|⟨rfl,hm,rfl⟩|⟨rfl,hm,rfl⟩
        all_goals
         go_quiet (fail)
         go_wp2_with fail
         go_meet
         case rel=>exact⟨rfl,by first|exact HBR.out|exact Zag HBR.out _|exact ZD HBR.out⟩
       case rest =>
        obtain⟨rfl,HBQ⟩:=hcut
        rename World=>W
        have HFC:Hid (∀ j v,([.string e.src,.int .i64 e.seq,.int .i64 e.fk,.int .i64 e.ref,.string e.tb,.string e.ky,.int .i64 e.ev,.slice e.fa e.vs.length e.fc]:List Value)[j]?=some v->W.cell? ⟨b2,o2+q*40+3+j,none⟩=some v):=fun j v hj=>HFD.out _ HBQ.out j v hj
        go_upto_region 15 with(first|(refine Zat rfl 27 (.tmp 51) rfl b2 (o2+q*40+3) [.string e.src,.int .i64 e.seq,.int .i64 e.fk,.int .i64 e.ref,.string e.tb,.string e.ky,.int .i64 e.ev,.slice e.fa e.vs.length e.fc] rfl HFC.out _ Tryz.underlying27 rfl (by kernel_rfl) ?_)|((with_reducible refine Zbf 27 ?_);refine Zbm rfl rfl 27 _ _ rfl rfl rfl [.string e.src,.int .i64 e.seq,.int .i64 e.fk,.int .i64 e.ref,.string e.tb,.string e.ky,.int .i64 e.ev,.slice e.fa e.vs.length e.fc] rfl rfl (by kernel_rfl) (by rfl) ?_;intro g7 w8 hbx hg7 hb;have HDB:=Lib.hid hbx;have HB8:=Lib.hid (ZT HBQ.out hb);clear hg7 hbx hb)|fail)
        clear c0 c1 c2 c3 c4 c5 c6 c7 c8 c9 n1
        obtain⟨c0,c1,c2,c3,c4,c5,c6,c7,c8,c9⟩:=HXC.out w8 HB8.out
        have n0:=HEC.out w8 HB8.out 0 (.int .i64 e.no) rfl
        have n1:=HEC.out w8 HB8.out 1 (.int .i64 e.tick) rfl
        have n2:=HEC.out w8 HB8.out 2 (.int .i64 e.kind) rfl
        simp only[Nat.add_zero]at n0
        have r0:=fun d os=>cell_regrown (w:=w8) c0 d os
        have r1:=fun d os=>cell_regrown (w:=w8) c1 d os
        have r2:=fun d os=>cell_regrown (w:=w8) c2 d os
        have r3:=fun d os=>cell_regrown (w:=w8) c3 d os
        have r4:=fun d os=>cell_regrown (w:=w8) c4 d os
        have r5:=fun d os=>cell_regrown (w:=w8) c5 d os
        have r6:=fun d os=>cell_regrown (w:=w8) c6 d os
        have r7:=fun d os=>cell_regrown (w:=w8) c7 d os
        have r8:=fun d os=>cell_regrown (w:=w8) c8 d os
        have r9:=fun d os=>cell_regrown (w:=w8) c9 d os
        have r10:=fun d os=>cell_regrown (w:=w8) n0 d os
        have r11:=fun d os=>cell_regrown (w:=w8) n1 d os
        have r12:=fun d os=>cell_regrown (w:=w8) n2 d os
        have r13:=fun d os=>cell_regrown (w:=w8) (HDB.out.cell 0 (.string e.src) rfl) d os
        have r14:=fun d os=>cell_regrown (w:=w8) (HDB.out.cell 1 (.int .i64 e.seq) rfl) d os
        have r15:=fun d os=>cell_regrown (w:=w8) (HDB.out.cell 2 (.int .i64 e.fk) rfl) d os
        have r16:=fun d os=>cell_regrown (w:=w8) (HDB.out.cell 3 (.int .i64 e.ref) rfl) d os
        have r17:=fun d os=>cell_regrown (w:=w8) (HDB.out.cell 4 (.string e.tb) rfl) d os
        have r18:=fun d os=>cell_regrown (w:=w8) (HDB.out.cell 5 (.string e.ky) rfl) d os
        have r19:=fun d os=>cell_regrown (w:=w8) (HDB.out.cell 6 (.int .i64 e.ev) rfl) d os
        have r20:=fun d os=>cell_regrown (w:=w8) (HDB.out.cell 7 (.slice e.fa e.vs.length e.fc) rfl) d os
        have HC23:=Lib.hid (fun d os=>Calls.regrown_of (rbase_any e.src e.tb e.ky e.seq e.fk e.ref e.ev e.fa e.vs.length e.fc (Go.Sort.grow (redrawn w8 d) os)))
        have HC24:=Lib.hid (fun d os=>Calls.regrown_of (samevals_any e.vs x.r.vs e.fa x.r.fa e.fc x.r.fc (by have:=HLV.out.1;omega) (by have:=HLV.out.2;omega) (Go.Sort.grow (redrawn w8 d) os) (HEF.out _ (ZT HB8.out (below_regrown w8 d os))) (HXF.out _ (ZT HB8.out (below_regrown w8 d os)))))
        generalize decide (e.vs=x.r.vs)=c7b at *
        generalize eqF e.base (x.r.src,x.r.seq)=c5b at *
        clear HDB
        try simp only[Act.put,m1,m2,m3]
        refine wp_region_quiet_below (by kernel_rfl) (by refine Eq.trans (congrArg (Region.lexB .any) (?_:_=opsOf Tryz.f6 15)) lex15;kernel_rfl) ?_
        try simp only[List.append]
        rcases told_split HTQ.out with⟨rfl,hT⟩|⟨rfl,h1,hT⟩|⟨rfl,h1,h2,hT⟩|⟨rfl,h1,h2,h3,hT⟩|⟨rfl,h1,h2,h3,h4,hT⟩|⟨rfl,h1,h2,h3,h4,rfl,hT⟩|⟨rfl,h1,h2,h3,h4,rfl,h6,hT⟩|⟨rfl,h1,h2,h3,h4,rfl,h6,rfl,hT⟩|⟨rfl,h1,h2,h3,h4,rfl,h6,rfl,hT⟩
        all_goals
         have HT:=Lib.hid hT
         clear hT
         repeat(go_big_quiet_step (first|with_reducible exact HC23.out _ _|with_reducible exact HC24.out _ _))
         refine wpQuiet_nil ?_
         intro _ hw'
         obtain⟨p9,hw''⟩:=hw'
         subst hw''
         have HZ9:=below_regrown w8 p9.d p9.os
         clear HC23 HC24 r0 r1 r2 r3 r4 r5 r6 r7 r8 r9 r10 r11 r12 r13 r14 r15 r16 r17 r18 r19 r20
         generalize Go.Sort.grow (redrawn w8 p9.d) p9.os=V2 at *
         have HB2:Hid (Below wr.heap.size wr V2):=ZT HB8.out HZ9
         clear HZ9
         go_wp2_with fail
         go_roundw
         case rel=>exact⟨q+1,by omega,by go_num,by rw[HM.out],by rw[HT.out],HB2⟩
         case measure=>simp[intOf];omega
     · obtain rfl:q=l.length:=by omega
       rw[List.take_length,HSG.out.2.1,HSG.out.2.2]
       obtain⟨c0,c1,c2,c3,c4,c5,c6,c7,c8,c9⟩:=HXC.out _ HBR.out
       have HB3q:Hid (Below w3.heap.size w3 wq):=ZT HB3.out HBR.out
       rcases HSG.out.1 with hn|hn
       · rw[hn]at c9
         go_wp2_with fail
         go_roundw
         case rel=>exact⟨i+1,by omega,by go_num,HB3q⟩
         case measure=>simp[intOf];omega
       · rw[hn]at c9
         go_wp2_with fail
         go_roundw
         case rel=>exact⟨i+1,by omega,by go_num,HB3q⟩
         case measure=>simp[intOf];omega
  · obtain rfl:i=ds.length:=by omega
    go_wp2_with (first|(go_at_call 18;refine(fat_any ds _ _ (by have:=HDL.out;omega) t _ (HDS.out.kept HB3.out)).mono ?_;rintro e w4 ⟨v,rs,rfl,hown,hlen,hat,hb⟩;obtain⟨a4,c4,rfl,-,-,hr⟩:=hown.lies;have HR4:=Lib.hid hr;have HRK:Hid (rs.map Rw.key=(effL l t).map Rw.key):=Zd9 HOR.out HBA.out (by rw[HDK.out]at hat;exact hat);have HRL:Hid (rs.length<=7200):=Nat.le_trans hlen HDL.out;have HE4:=Lib.hid ((HE3.out.kept HB3.out).kept hb);have HW4:=Lib.hid (ZT (ZT HW3.out HB3.out) hb);clear hown hr hat hlen hb)|fail)
    go_loopw [12] (fun j wr=>∃ i:Nat,i<=rs.length/\j=.int .i64 i/\Hid (Below w4.heap.size w4 wr)) (fun j _=>rs.length - (intOf j).toNat)
    case atStart=>exact⟨0,by omega,rfl,ZR w4⟩
    case round =>
     obtain⟨i,hi,rfl,HB⟩:=hrel
     rename World=>wr
     have hrl:=HRL.out
     by_cases hlt:i<rs.length
     · obtain⟨r,hr⟩:∃ r,rs[i]?=some r:=⟨rs[i],List.getElem?_eq_getElem hlt⟩
       obtain⟨r0,hr0,hkk⟩:∃ r0,(effL l t)[i]?=some r0/\r0.key=r.key:=by
        have h:=congrArg (fun q:List RK=>q[i]?) HRK.out
        simp only[List.getElem?_map,hr,Option.map_some]at h
        cases h0:(effL l t)[i]? with
        |none=>rw[h0]at h;cases h
        |some r0=>rw[h0]at h;injection h with h;exact⟨r0,rfl,h.symm⟩
       have hid:(r0.src,r0.seq)=(r.src,r.seq):=by unfold Rw.key at hkk;simp only[Prod.mk.injEq]at hkk;rw[hkk.2.1.1,hkk.2.1.2]
       have HKK:Hid (cmpR r0.key r.key=0):=by show _=_;rw[hkk];exact Zbe.refl _
       obtain⟨b,off,rfl,hrow⟩:=ZaT (HR4.out.1.kept HB.out) hr
       have HRI:=Lib.hid hr
       have HRW:Hid (∀ w',Below wr.heap.size wr w'->∀ q s,rs[q]?=some s->∀ j v,(Rw.cells s)[j]?=some v->w'.cell? ⟨b,off+q*8+j,none⟩=some v):=fun w' hb q s hs j v hj=>Zaa (hrow q s hs j v hj) hb
       have y0:wr.cell? ⟨b,off+i*8,none⟩=some (.string r.src):=hrow i r hr 0 _ rfl
       have y1:wr.cell? ⟨b,off+i*8+1,none⟩=some (.int .i64 r.seq):=hrow i r hr 1 _ rfl
       clear hrow
       go_upto_region 23 with(first
        |(go_at_call 25;refine(find15_any l _ _ (by have:=HL1.out;omega) r0 (r.src,r.seq) hid t (List.mem_of_getElem? hr0) _ (HE4.out.kept HB.out)).mono ?_;rintro ee w5 ⟨rfl,hb⟩;have HB5:=Lib.hid (ZT HB.out hb);have HBR5:=Lib.hid hb;clear hb)
        |((with_reducible refine Zbf 68 ?_);refine Zbm rfl rfl 68 _ _ rfl rfl rfl (Rw.cells r0) rfl rfl (by kernel_rfl) (by rfl) ?_;intro g7 w8 hbx hg7 hb;have HDB:=Lib.hid hbx;have HB8:=Lib.hid (ZT HB5.out hb);have HBR8:=Lib.hid (ZT HBR5.out hb);clear hg7 hbx hb)
        |fail)
       have HRC:Hid (∀ w',Below w8.heap.size w8 w'->∀ (j:Nat) v,(Rw.cells r)[j]?=some v->w'.cell? ⟨b,off+i*8+j,none⟩=some v):=fun w' hb=>HRW.out w' (ZT HBR8.out hb) i r HRI.out
       have HRO:Hid (∀ w',Below w8.heap.size w8 w'->r.Ok w'):=fun w' hb=>((HR4.out.2 r (List.mem_of_getElem? HRI.out)).kept HB8.out).kept hb
       have HR0O:Hid (∀ w',Below w8.heap.size w8 w'->r0.Ok w'):=fun w' hb=>by
        obtain⟨y,hy,-,-,-,e⟩:=Zfv HBA.out HSQ.out (List.mem_of_getElem? hr0)
        rw[e]
        exact((HE4.out.2 y hy).row (by rw[hid];exact⟨(HR4.out.2 r (List.mem_of_getElem? HRI.out)).src,(HR4.out.2 r (List.mem_of_getElem? HRI.out)).ints.1⟩)).kept (ZT HB8.out hb)
       have HF26:Hid (∀ w',Below w8.heap.size w8 w'->Calls Tryz.prog 26 #[r0.val,r.val] w' fun e w2=>e=.returned (.int .i64 0)/\Below w'.heap.size w' w2):=fun w' hb=>by
        have h:=rfull_any r0 r w' (HR0O.out w' hb) (HRO.out w' hb)
        rw[HKK.out]at h
        exact h
       clear y0 y1 hid
       by_cases hz:i=0
       · subst hz
         have rr0:=fun d os=>cell_regrown (w:=w8) (by have h:=HDB.out.cell 0 (.string r0.src) rfl;exact h) d os
         have rr1:=fun d os=>cell_regrown (w:=w8) (by have h:=HDB.out.cell 1 (.int .i64 r0.seq) rfl;exact h) d os
         have rr2:=fun d os=>cell_regrown (w:=w8) (by have h:=HDB.out.cell 2 (.string r0.tb) rfl;exact h) d os
         have rr3:=fun d os=>cell_regrown (w:=w8) (by have h:=HDB.out.cell 3 (.string r0.ky) rfl;exact h) d os
         have rr4:=fun d os=>cell_regrown (w:=w8) (by have h:=HDB.out.cell 4 (.int .i64 r0.ev) rfl;exact h) d os
         have rr5:=fun d os=>cell_regrown (w:=w8) (by have h:=HDB.out.cell 5 (.slice r0.fa r0.vs.length r0.fc) rfl;exact h) d os
         have rr6:=fun d os=>cell_regrown (w:=w8) (by have h:=HDB.out.cell 6 (.int .i64 r0.no) rfl;exact h) d os
         have rr7:=fun d os=>cell_regrown (w:=w8) (by have h:=HDB.out.cell 7 (.int .i64 r0.tk) rfl;exact h) d os
         have rr8:=fun d os=>cell_regrown (w:=w8) (HRC.out w8 (ZR _) 0 (.string r.src) rfl) d os
         have rr9:=fun d os=>cell_regrown (w:=w8) (HRC.out w8 (ZR _) 1 (.int .i64 r.seq) rfl) d os
         have rr10:=fun d os=>cell_regrown (w:=w8) (HRC.out w8 (ZR _) 2 (.string r.tb) rfl) d os
         have rr11:=fun d os=>cell_regrown (w:=w8) (HRC.out w8 (ZR _) 3 (.string r.ky) rfl) d os
         have rr12:=fun d os=>cell_regrown (w:=w8) (HRC.out w8 (ZR _) 4 (.int .i64 r.ev) rfl) d os
         have rr13:=fun d os=>cell_regrown (w:=w8) (HRC.out w8 (ZR _) 5 (.slice r.fa r.vs.length r.fc) rfl) d os
         have rr14:=fun d os=>cell_regrown (w:=w8) (HRC.out w8 (ZR _) 6 (.int .i64 r.no) rfl) d os
         have rr15:=fun d os=>cell_regrown (w:=w8) (HRC.out w8 (ZR _) 7 (.int .i64 r.tk) rfl) d os
         simp only[Nat.add_zero]at rr8
         have HC26:=Lib.hid (fun d os=>Calls.regrown_of (HF26.out (Go.Sort.grow (redrawn w8 d) os) (below_regrown w8 d os)))
         try simp only[Act.put,m1,m2,m3]
         refine wp_region_quiet_below (by kernel_rfl) (by refine Eq.trans (congrArg (Region.lexB .any) (?_:_=opsOf Tryz.f6 23)) lex23;kernel_rfl) ?_
         try simp only[List.append]
         repeat(go_big_quiet_step (first|with_reducible exact HC26.out _ _))
         refine wpQuiet_nil ?_
         intro _ hw'
         obtain⟨p9,hw''⟩:=hw'
         subst hw''
         have HZ9:=below_regrown w8 p9.d p9.os
         clear HC26 rr0 rr1 rr2 rr3 rr4 rr5 rr6 rr7 rr8 rr9 rr10 rr11 rr12 rr13 rr14 rr15
         generalize Go.Sort.grow (redrawn w8 p9.d) p9.os=V2 at *
         have HB2:Hid (Below w4.heap.size w4 V2):=ZT HB8.out HZ9
         clear HZ9
         go_wp2_with fail
         go_roundw
         case rel=>exact⟨0+1,by omega,by go_num,HB2⟩
         case measure=>simp[intOf];omega
       · obtain⟨p,rfl⟩:∃ p,i=p+1:=⟨i - 1,by omega⟩
         obtain⟨rp,hrp⟩:∃ s,rs[p]?=some s:=⟨rs[p]'(by omega),List.getElem?_eq_getElem _⟩
         have HPC:Hid (∀ w',Below w8.heap.size w8 w'->∀ j v,(Rw.cells rp)[j]?=some v->w'.cell? ⟨b,off+p*8+j,none⟩=some v):=fun w' hb=>HRW.out w' (ZT HBR8.out hb) p rp hrp
         obtain⟨z,hz1,hz2⟩:∃ z,orI (cmpI rp.ev r.ev) (orI (cmpS rp.src r.src) (cmpI rp.seq r.seq))=z/\z<0:=⟨_,rfl,rise_step (Zed HBA.out) HRK.out hrp HRI.out⟩
         have HZ:Hid (orI (cmpI rp.ev r.ev) (orI (cmpS rp.src r.src) (cmpI rp.seq r.seq))=z/\z<0):=⟨hz1,hz2⟩
         have hz3:decide (0<=z)=false:=decide_eq_false (by omega)
         have hz4:decide (z ≥ 0)=false:=hz3
         have hp1:IntKind.i64.wrap ((p:Int)+1 - 1)=p:=by rw[show(p:Int)+1 - 1=p by omega];exact IntWalk.i64_in _ (by omega)
         have hp2:decide ((0:Int)<(p:Int)+1)=true:=decide_eq_true (by omega)
         have hp3:decide ((p:Int)+1>(0:Int))=true:=hp2
         have HF27:Hid (∀ w',Calls Tryz.prog 27 #[rp.val,r.val] w' fun e w2=>e=.returned (.int .i64 z)/\Below w'.heap.size w' w2):=fun w'=>by
          have h:=rrow_any rp.src r.src rp.tb r.tb rp.ky r.ky rp.seq r.seq rp.ev r.ev rp.no r.no rp.tk r.tk rp.fa r.fa rp.vs.length rp.fc r.vs.length r.fc w'
          rw[hz1]at h
          exact h
         clear hz1 hrp
         have rr0:=fun d os=>cell_regrown (w:=w8) (by have h:=HDB.out.cell 0 (.string r0.src) rfl;exact h) d os
         have rr1:=fun d os=>cell_regrown (w:=w8) (by have h:=HDB.out.cell 1 (.int .i64 r0.seq) rfl;exact h) d os
         have rr2:=fun d os=>cell_regrown (w:=w8) (by have h:=HDB.out.cell 2 (.string r0.tb) rfl;exact h) d os
         have rr3:=fun d os=>cell_regrown (w:=w8) (by have h:=HDB.out.cell 3 (.string r0.ky) rfl;exact h) d os
         have rr4:=fun d os=>cell_regrown (w:=w8) (by have h:=HDB.out.cell 4 (.int .i64 r0.ev) rfl;exact h) d os
         have rr5:=fun d os=>cell_regrown (w:=w8) (by have h:=HDB.out.cell 5 (.slice r0.fa r0.vs.length r0.fc) rfl;exact h) d os
         have rr6:=fun d os=>cell_regrown (w:=w8) (by have h:=HDB.out.cell 6 (.int .i64 r0.no) rfl;exact h) d os
         have rr7:=fun d os=>cell_regrown (w:=w8) (by have h:=HDB.out.cell 7 (.int .i64 r0.tk) rfl;exact h) d os
         have rr8:=fun d os=>cell_regrown (w:=w8) (HRC.out w8 (ZR _) 0 (.string r.src) rfl) d os
         have rr9:=fun d os=>cell_regrown (w:=w8) (HRC.out w8 (ZR _) 1 (.int .i64 r.seq) rfl) d os
         have rr10:=fun d os=>cell_regrown (w:=w8) (HRC.out w8 (ZR _) 2 (.string r.tb) rfl) d os
         have rr11:=fun d os=>cell_regrown (w:=w8) (HRC.out w8 (ZR _) 3 (.string r.ky) rfl) d os
         have rr12:=fun d os=>cell_regrown (w:=w8) (HRC.out w8 (ZR _) 4 (.int .i64 r.ev) rfl) d os
         have rr13:=fun d os=>cell_regrown (w:=w8) (HRC.out w8 (ZR _) 5 (.slice r.fa r.vs.length r.fc) rfl) d os
         have rr14:=fun d os=>cell_regrown (w:=w8) (HRC.out w8 (ZR _) 6 (.int .i64 r.no) rfl) d os
         have rr15:=fun d os=>cell_regrown (w:=w8) (HRC.out w8 (ZR _) 7 (.int .i64 r.tk) rfl) d os
         have rr16:=fun d os=>cell_regrown (w:=w8) (HPC.out w8 (ZR _) 0 (.string rp.src) rfl) d os
         have rr17:=fun d os=>cell_regrown (w:=w8) (HPC.out w8 (ZR _) 1 (.int .i64 rp.seq) rfl) d os
         have rr18:=fun d os=>cell_regrown (w:=w8) (HPC.out w8 (ZR _) 2 (.string rp.tb) rfl) d os
         have rr19:=fun d os=>cell_regrown (w:=w8) (HPC.out w8 (ZR _) 3 (.string rp.ky) rfl) d os
         have rr20:=fun d os=>cell_regrown (w:=w8) (HPC.out w8 (ZR _) 4 (.int .i64 rp.ev) rfl) d os
         have rr21:=fun d os=>cell_regrown (w:=w8) (HPC.out w8 (ZR _) 5 (.slice rp.fa rp.vs.length rp.fc) rfl) d os
         have rr22:=fun d os=>cell_regrown (w:=w8) (HPC.out w8 (ZR _) 6 (.int .i64 rp.no) rfl) d os
         have rr23:=fun d os=>cell_regrown (w:=w8) (HPC.out w8 (ZR _) 7 (.int .i64 rp.tk) rfl) d os
         simp only[Nat.add_zero]at rr8 rr16
         have HC26:=Lib.hid (fun d os=>Calls.regrown_of (HF26.out (Go.Sort.grow (redrawn w8 d) os) (below_regrown w8 d os)))
         have HC27:=Lib.hid (fun d os=>Calls.regrown_of (HF27.out (Go.Sort.grow (redrawn w8 d) os)))
         try simp only[Act.put,m1,m2,m3]
         refine wp_region_quiet_below (by kernel_rfl) (by refine Eq.trans (congrArg (Region.lexB .any) (?_:_=opsOf Tryz.f6 23)) lex23;kernel_rfl) ?_
         try simp only[List.append]
         repeat(go_big_quiet_step (first|with_reducible exact HC26.out _ _|with_reducible exact HC27.out _ _))
         refine wpQuiet_nil ?_
         intro _ hw'
         obtain⟨p9,hw''⟩:=hw'
         subst hw''
         have HZ9:=below_regrown w8 p9.d p9.os
         clear HC26 HC27 rr0 rr1 rr2 rr3 rr4 rr5 rr6 rr7 rr8 rr9 rr10 rr11 rr12 rr13 rr14 rr15 rr16 rr17 rr18 rr19 rr20 rr21 rr22 rr23
         generalize Go.Sort.grow (redrawn w8 p9.d) p9.os=V2 at *
         have HB2:Hid (Below w4.heap.size w4 V2):=ZT HB8.out HZ9
         clear HZ9
         go_wp2_with fail
         go_roundw
         case rel=>exact⟨p+1+1,by omega,by go_num,HB2⟩
         case measure=>simp[intOf];omega
     · obtain rfl:i=rs.length:=by omega
       go_wp2_with fail
       go_ret
       exact⟨rfl,ZT HW4.out HB.out⟩
end Go.Proofs.YtfnpfkgmacaboaaGreat
