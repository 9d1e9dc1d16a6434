/- Texts joined by a program. -/
import Derived.Test.YtfnpfkgmacaboaaGreatM26
namespace Go.Proofs.YtfnpfkgmacaboaaGreat
open Go.Proofs.Tryz
open Lib (hid)
open Go.ChangeShapes Go.WideShapes Go.ChangeAt Go.RowKit Go.Maps
set_option linter.unusedVariables false
set_option linter.unusedSimpArgs false
theorem wp_genA {P:Program}{c:Code}{Q:Exit->Act->World->Prop}{a:Act}{w:World}(h:∀ A V,A=a->V=w->c.wp P Q A V):c.wp P Q a w:=h a w rfl rfl
theorem Abouts.same {w w':World}{B:Nat}{T:Hdr}{a:Who->List FID}(h:Abouts w B T a)(hb:∀ g,B<=g->g<w.heap.size->w'.heap[g]?=w.heap[g]?):Abouts w' B T a :=
 ⟨fun k=>(h.own k).same (fun g hg=>hb g ((h.own k).lt g hg).1 ((h.own k).lt g hg).2),h.apart⟩
theorem ErAt.kept {w0 w w':World}{s:Er}{i m:Nat}{T:Hdr}(h:ErAt w0 w s i m T)(hb:Below w.heap.size w w'):ErAt w0 w' s i m T :=
 ⟨h.ids.kept hb,h.about.kept hb,h.kinds.kept hb,h.rows.same (fun g _ hg=>hb.block g hg),h.below.trans (hb.mono h.below.size),Nat.le_trans h.size hb.size⟩
theorem ErAt.next {w0 w:World}{s:Er}{i m:Nat}{T:Hdr}(h:ErAt w0 w s i m T){x:En}(e:stepR s x=s):ErAt w0 w (stepR s x) (i+1) m T:=by
 rw[e]
 exact⟨h.ids,h.about.mono (Nat.le_succ _),h.kinds.mono (Nat.le_succ _),h.rows,h.below,h.size⟩
theorem ErAt.stepA {w0 w w':World}{s:Er}{i m:Nat}{T:Hdr}(h:ErAt w0 w s i m T){x:En}(h3:x.kind=3)(hc:x.ck=1)(hx:x.tn.size<=1048576)
 (ht:Tab w' keysN (w0.heap.size+2) (i+1) (tabV (putF (tabK s) ⟨x.tn,hx⟩ x.te) Value.string)) (hg:w.grownBy w' (some (w0.heap.size+2))):ErAt w0 w' (stepR s x) (i+1) m T:=by
 have e:stepR s x={ s with kinds:=fun k=>if k=x.tn then some x.te else s.kinds k }:=if_pos ⟨h3,hc⟩
 rw[e]
 refine⟨h.ids.grown hg (fun e=>by injection e with e;omega),(h.about.grown hg (fun e=>by injection e with e;omega)).mono (Nat.le_succ _),?_,h.rows.same (fun g h1 h2=>hg.block g h2 (fun e=>by injection e with e;omega)),h.below.grown hg h.below.size (fun k e=>by injection e with e;omega),Nat.le_trans h.size hg.size⟩
 have e2:tabK { s with kinds:=fun k=>if k=x.tn then some x.te else s.kinds k }=putF (tabK s) ⟨x.tn,hx⟩ x.te:=by
  funext k
  unfold tabK putF
  show(if k.1=x.tn then _ else _)=_
  by_cases q:k.1=x.tn
  · rw[if_pos q,if_pos (Subtype.ext q)]
  · rw[if_neg q,if_neg (fun e=>q (by rw[e]))]
 rw[e2];exact ht
theorem tabI_put (s:Er)(y:FID)(hy:OkF y):putF (tabI s) ⟨y,hy⟩ true=tabI { s with ids:=fun k=>eqF k y||s.ids k }:=by
 funext k
 unfold tabI putF
 by_cases q:k.1=y
 · rw[if_pos (Subtype.ext q)]
   show _=if (eqF k.1 y||s.ids k.1)=true then _ else _
   rw[if_pos (by rw[ZaW.2 q];rfl)]
 · rw[if_neg (fun e=>q (by rw[e]))]
   show _=if (eqF k.1 y||s.ids k.1)=true then _ else _
   have:eqF k.1 y=false:=by cases e:eqF k.1 y with
    |false=>rfl
    |true=>exact absurd (ZaW.1 e) q
   rw[this];rfl
theorem ErAt.putId {w0 w w':World}{s:Er}{i m:Nat}{T:Hdr}(h:ErAt w0 w s i m T){y:FID}(hy:OkF y)
 (ht:Tab w' keysF w0.heap.size (m+1) (tabV (putF (tabI s) ⟨y,hy⟩ true) Value.bool)) (hg:w.grownBy w' (some w0.heap.size)):ErAt w0 w' { s with ids:=fun k=>eqF k y||s.ids k } i (m+1) T:=by
 refine⟨by rw[<-tabI_put s y hy];exact ht,h.about.grown hg (fun e=>by injection e with e;omega),h.kinds.grown hg (fun e=>by injection e with e;omega),h.rows.same (fun g h1 h2=>hg.block g h2 (fun e=>by injection e with e;omega)),h.below.grown hg h.below.size (fun k e=>by injection e with e;omega),Nat.le_trans h.size hg.size⟩
theorem ErAt.stepC {w0 w w':World}{s:Er}{i m:Nat}{T:Hdr}(h:ErAt w0 w s i m T){x:En}(h2:x.kind=2)(he:x.ek=2)(hy:OkF (x.esr,x.esq))
 (ht:Tab w' keysF w0.heap.size (m+1) (tabV (putF (tabI s) ⟨(x.esr,x.esq),hy⟩ true) Value.bool)) (hg:w.grownBy w' (some w0.heap.size)):ErAt w0 w' (stepR s x) (i+1) (m+1) T:=by
 have e:stepR s x={ s with ids:=fun k=>eqF k (x.esr,x.esq)||s.ids k }:=by unfold stepR;simp[h2,he]
 rw[e]
 have h1:=h.putId hy ht hg
 exact⟨h1.ids,h1.about.mono (Nat.le_succ _),h1.kinds.mono (Nat.le_succ _),h1.rows,h1.below,h1.size⟩
section
variable {P:Program} {kt:TypeId} {κ β:Type} [DecidableEq κ] {Z:Keyz P kt κ} {w:World} {b n:Nat} {F:κ->Option β} {mkV:β->Value} {ops:Array Oper} {rest:List Oper} {o:Oper} {a:Act} {Q:Exit->Act->World->Prop}
theorem wpList_lookS {T:κ->Option Value}(hg:o.guard=none)(m x:Operand)(t:TypeId)(hop:o.op=Op.lookup t m x false)(e:TypeId)(ht:P.underlying t=some (.map kt e)){z:Value}(hz:(zeroValue e).run P w=.ok z w)
 (hm:a.eval m=.map (some b)) (h:Tab w Z b n T) (k:κ) (hx:a.eval x=Z.val k) (hk:Z.ok k) (v:Value) (hv:(T k).getD z=v) (hK:wpList P ops Q rest (a.put o.dst v) w):wpList P ops Q (o :: rest) a w :=
 ZeU hg m x t hop e ht hz hm h k hx hk (by rw[hv];exact hK)
theorem wpList_lookV (hg:o.guard=none)(m x:Operand)(t:TypeId)(hop:o.op=Op.lookup t m x false)(e:TypeId)(ht:P.underlying t=some (.map kt e)){z:Value}(hz:(zeroValue e).run P w=.ok z w)
 (hm:a.eval m=.map (some b)) (h:Tab w Z b n (tabV F mkV)) (k:κ) (hx:a.eval x=Z.val k) (hk:Z.ok k) (v:Value) (hv:((F k).map mkV).getD z=v) (hK:wpList P ops Q rest (a.put o.dst v) w):wpList P ops Q (o :: rest) a w :=
 ZeU hg m x t hop e ht hz hm h k hx hk (by rw[show(tabV F mkV k).getD z=v from hv];exact hK)
end
theorem Own.liesAt {α:Type}{enc:α->List Value}{k:Nat}{e:TypeId}{w:World}{B n c:Nat}{a:Option Addr}{l:List α}(hE:Enc enc k)(h:Own enc k e w B (.slice a n c) l):Zac enc k w a l:=by
 obtain⟨a2,c2,Ki,-,-,hlies⟩:=h.lies hE
 injection Ki with Ki _ _
 rw[Ki];exact hlies
theorem memF_snoc (l:List FID)(y k:FID):memF (l++[y]) k=(memF l k||eqF y k):=by unfold memF;simp
theorem ErAt.made (w:World):ErAt w (((w.alloc (.map #[] 0)).alloc (.map #[] 0)).alloc (.map #[] 0)) Er.none 0 0 (fun _=>none):=by
 have t1:=ZdJ w keysF
 have t2:=ZdJ (w.alloc (.map #[] 0)) keysW
 have t3:=ZdJ ((w.alloc (.map #[] 0)).alloc (.map #[] 0)) keysN
 simp only[World.size_alloc]at t2 t3
 exact⟨(t1.alloc _).alloc _,t2.alloc _,t3,⟨fun k=>Own.nil _ _,fun k k' g _ e=>by cases e⟩,(Zak _ _).alloc (by simp;omega) _,by simp⟩
set_option maxRecDepth 100000 in
set_option maxHeartbeats 8000000 in
theorem erased_any (l:List En)(ao:Option Addr)(c:Nat)(hl:l.length<=100000)(w:World)(h:EnsAt w ao l) :
 Calls prog 45 #[.slice ao l.length c] w fun e w'=>∃ m T,e=.returned (.map (some w.heap.size))/\ErAt w w' (erS l) l.length m T:=by
 have H:=hid h
 clear h
 have hmm:=@run_makeMap prog
 go_enter func45,ntmps45
 go_wp2_with fail
 have HM:=hid (ErAt.made w)
 obtain⟨N,hN⟩:∃ N,N=100001:=⟨_,rfl⟩
 have HN:=hid hN
 have hlN:l.length<N:=by omega
 clear hN
 clear hmm
 go_loopw [16] (fun v wr=>∃ (i m:Nat) (T:Hdr),i<=l.length/\v=.int .i64 i/\m<=i*N/\Hid (ErAt w wr (erS (l.take i)) i m T)) (fun v _=>l.length - (intOf v).toNat)
 case atStart=>exact⟨0,0,_,by omega,rfl,Nat.zero_le _,HM⟩
 case round =>
  obtain⟨i,m,T,hi,rfl,hm,HE⟩:=hrel
  by_cases hlt:i<l.length
  · obtain⟨x,hx⟩:∃ x,l[i]?=some x:=⟨l[i],List.getElem?_eq_getElem hlt⟩
    obtain⟨b,off,rfl,hrow⟩:=Zat (H.out.1.kept HE.out.below) hx
    have HC:Hid (∀ j v,x.cells[j]?=some v->wr.cell? ⟨b,off+i*40+j,none⟩=some v):=fun j v hv=>hrow i x hx j v hv
    have Gc:Hid (x.Ok w):=H.out.2 x (List.mem_of_getElem? hx)
    have HF:Hid (erS (l.take (i+1))=stepR (erS (l.take i)) x):=by show _=_;rw[Zar hx,ZeL]
    have HG:Hid (Box (wr.alloc (.cells x.cells.toArray 48)) wr.heap.size x.cells.toArray 48):=Box.new _ _ _
    have Cf:Hid (ErAt w (wr.alloc (.cells x.cells.toArray 48)) (erS (l.take i)) i m T):=HE.out.kept (Zab _)
    have HW:Hid (w.heap.size+3<=wr.heap.size):=HE.out.size
    have k2:=HG.out.cell 2 (.int .i64 x.kind) rfl
    have Qk:Hid (∀ k,((erS (l.take i)).about k).length<=i):=fun k=>Nat.le_trans (erS_about _ k) (by simp;omega)
    have Bt:Hid (∀ k v,(erS (l.take i)).kinds k=some v->v.size<=1048576):=erS_kinds _ _ (fun y hy=>(H.out.2 y (List.mem_of_mem_take hy)).te)
    have Ma:Hid (∀ k,∀ y∈(erS (l.take i)).about k,OkF y):=erS_ok _ (fun y hy=>(H.out.2 y (List.mem_of_mem_take hy)).base)
    generalize erS (l.take i)=s at *
    have him:i<Go.maxLen:=by unfold maxLen;omega
    have hmm:m+N<Go.maxLen:=by
     have h1:i*N<=100000*N:=Nat.mul_le_mul_right _ (by omega)
     have h2:=HN.out
     rw[h2]at h1 hm ⊢
     unfold maxLen;omega
    have Uj:Hid (m<=(i+1)*N):=Nat.le_trans hm (Nat.mul_le_mul_right _ (Nat.le_succ _))
    have HMN:Hid (m+N<=(i+1)*N):=by show _<=_;rw[Nat.add_mul,Nat.one_mul];exact Nat.add_le_add_right hm _
    clear hm
    clear hrow hx HE
    by_cases h3:x.kind=3
    · have d3:(x.kind==3)=true:=by simpa using h3
      have d1:(x.kind==1)=false:=by rw[h3];rfl
      have d2:(x.kind==2)=false:=by rw[h3];rfl
      have k16:=HG.out.cell 16 (.int .i64 x.ck) rfl
      by_cases hc:x.ck=1
      · have dc:(x.ck==1)=true:=by simpa using hc
        have k17:=HG.out.cell 17 (.string x.tn) rfl
        have k18:=HG.out.cell 18 (.string x.te) rfl
        go_wp2_with (first|(refine Zal rfl 48 (.tmp 18) rfl b (off+i*40) x.cells rfl HC.out _ underlying48 rfl (by kernel_rfl) ?_)|(refine Zba rfl rfl 48 (.tmp 7) (.tmp 19) rfl rfl rfl x.cells rfl rfl (by kernel_rfl) x.cells_one ?_)|(refine ZbU rfl (.tmp 30) (.tmp 34) (.tmp 38) 127 rfl 9 underlying127 rfl Cf.out.kinds him ⟨x.tn,Gc.out.tn⟩ rfl trivial x.te rfl ?_;intro w5 Vk Kk))
        go_roundw
        case rel=>exact⟨i+1,m,T,by omega,by go_num,Uj.out,by rw[HF.out];exact Cf.out.stepA h3 hc Gc.out.tn Vk Kk⟩
        case measure=>simp[intOf];omega
      · have dc:(x.ck==1)=false:=by simpa using hc
        go_wp2_with (first|(refine Zal rfl 48 (.tmp 18) rfl b (off+i*40) x.cells rfl HC.out _ underlying48 rfl (by kernel_rfl) ?_)|(refine Zba rfl rfl 48 (.tmp 7) (.tmp 19) rfl rfl rfl x.cells rfl rfl (by kernel_rfl) x.cells_one ?_))
        go_roundw
        case rel=>exact⟨i+1,m,T,by omega,by go_num,Uj.out,by rw[HF.out];exact Cf.out.next (by unfold stepR;simp[h3,hc])⟩
        case measure=>simp[intOf];omega
    · have d3:(x.kind==3)=false:=by simpa using h3
      by_cases h1:x.kind=1
      · have d1:(x.kind==1)=true:=by simpa using h1
        have d2:(x.kind==2)=false:=by rw[h1];rfl
        have k5:=HG.out.cell 5 (.int .i64 x.fk) rfl
        by_cases hf:x.fk=3
        · have df:(x.fk != 3)=false:=by simpa using hf
          go_wp2_with (first|(refine Zal rfl 48 (.tmp 18) rfl b (off+i*40) x.cells rfl HC.out _ underlying48 rfl (by kernel_rfl) ?_)|(refine Zba rfl rfl 48 (.tmp 7) (.tmp 19) rfl rfl rfl x.cells rfl rfl (by kernel_rfl) x.cells_one ?_))
          go_roundw
          case rel=>exact⟨i+1,m,T,by omega,by go_num,Uj.out,by rw[HF.out];exact Cf.out.next (by unfold stepR;simp[h1,hf])⟩
          case measure=>simp[intOf];omega
        · have df:(x.fk != 3)=true:=by simpa using hf
          have k7:=HG.out.cell 7 (.string x.tb) rfl
          have k8:=HG.out.cell 8 (.string x.ky) rfl
          obtain⟨who,hwho⟩:∃ who,who=whoF s x:=⟨_,rfl⟩
          have Ao:=hid hwho
          have HL:Hid (((tabK s ⟨x.tb,Gc.out.tb⟩).map Value.string).getD (.string ⟨#[]⟩)=.string who.1):=by
           show _=_;rw[hwho];unfold whoF tabK;cases s.kinds x.tb<;>rfl
          clear hwho
          go_upto_region 11 with(first|(refine Zal rfl 48 (.tmp 18) rfl b (off+i*40) x.cells rfl HC.out _ underlying48 rfl (by kernel_rfl) ?_)|(refine Zba rfl rfl 48 (.tmp 7) (.tmp 19) rfl rfl rfl x.cells rfl rfl (by kernel_rfl) x.cells_one ?_)|(refine wpList_lookV rfl (.tmp 49) (.tmp 52) 127 rfl 9 underlying127 (Tryz.zeroValue9 _) rfl Cf.out.kinds ⟨x.tb,Gc.out.tb⟩ rfl trivial _ HL.out ?_))
          refine wp_genA (fun A V hA hV=>?_)
          have HEV:Hid (ErAt w V s i m T):=by rw[hV];exact Cf.out.kept (Zab _)
          have Ky:Hid (Box V wr.heap.size x.cells.toArray 48):=by rw[hV];exact HG.out.kept (Zab _)
          have HBH:Hid (Box V (wr.heap.size+1) #[.string who.1,.string who.2] 129):=by
           have e:x.ky=who.2:=by rw[Ao.out];rfl
           rw[hV,e];show Box _ _ _ _;have:=Box.new (wr.alloc (.cells x.cells.toArray 48)) #[.string who.1,.string who.2] 129;simpa using this
          have Ow:Hid (OkW who):=by
           rw[Ao.out]
           refine⟨?_,Gc.out.ky⟩
           show((s.kinds x.tb).getD ⟨#[]⟩).size<=1048576
           cases e:s.kinds x.tb with
           |none=>exact Nat.zero_le _
           |some v=>exact Bt.out _ v e
          have hA4:A.eval (.tmp 4)=.map (some (w.heap.size+1)):=by rw[hA];rfl
          have hA7:A.eval (.tmp 7)=.pointer (some ⟨wr.heap.size,0,none⟩):=by rw[hA];rfl
          have hA8:A.eval (.tmp 8)=.pointer (some ⟨wr.heap.size+1,0,none⟩):=by rw[hA];rfl
          have hAs:68<=A.tmps.size:=by rw[hA];simp
          refine about_region (by exact⟨rfl,rfl,rfl⟩) (by exact⟨rfl,rfl,rfl⟩) (by exact⟨rfl,rfl,rfl⟩) (by exact⟨rfl,rfl,rfl⟩) (by exact⟨rfl,rfl,rfl⟩) (by exact⟨rfl,rfl,rfl⟩) (by exact⟨rfl,rfl,rfl⟩) (by exact⟨rfl,rfl,rfl⟩) (by exact⟨rfl,rfl,rfl⟩) (by exact⟨rfl,rfl,rfl⟩) (by exact⟨rfl,rfl,rfl⟩)
           (by kernel_rfl) (by kernel_rfl) (by kernel_rfl) ⟨by kernel_rfl,by kernel_rfl⟩ (by kernel_rfl) ⟨by kernel_rfl,by kernel_rfl,by kernel_rfl⟩ (by kernel_rfl) ⟨by kernel_rfl,by kernel_rfl,by kernel_rfl⟩ (by kernel_rfl)
           hA4 hA7 hA8 hAs HEV.out him (Nat.le_trans (Qk.out who) (by omega)) Ky.out HBH.out Ow.out ?_
          intro st gs v' w5 Lk
          have HE5:=hid Lk
          have Ba:Hid (stepR s x={ s with about:=fun k=>if k=who then s.about k++[x.base]else s.about k }):=by
           show _=_;rw[Ao.out];unfold stepR;simp[h1,hf]
          subst hA
          clear Lk hV hA4 hA7 hA8 hAs
          go_wp2_with fail
          go_roundw
          case rel=>exact⟨i+1,m,_,by omega,by go_num,Uj.out,by rw[HF.out,Ba.out];exact HE5⟩
          case measure=>simp[intOf];omega
      · have d1:(x.kind==1)=false:=by simpa using h1
        by_cases h2:x.kind=2
        · have d2:(x.kind==2)=true:=by simpa using h2
          have k11:=HG.out.cell 11 (.int .i64 x.ek) rfl
          by_cases he:x.ek=2
          · have de:(x.ek==2)=true:=by simpa using he
            have k14:=HG.out.cell 14 (.string x.esr) rfl
            have k15:=HG.out.cell 15 (.int .i64 x.esq) rfl
            have hy:OkF (x.esr,x.esq):=⟨Gc.out.esr,Gc.out.ints.2.2.2.2.2.2.2.2.1⟩
            go_wp2_with (first|(refine Zal rfl 48 (.tmp 18) rfl b (off+i*40) x.cells rfl HC.out _ underlying48 rfl (by kernel_rfl) ?_)|(refine Zba rfl rfl 48 (.tmp 7) (.tmp 19) rfl rfl rfl x.cells rfl rfl (by kernel_rfl) x.cells_one ?_)|(refine ZbU rfl (.tmp 78) (.tmp 81) (.const (.bool true)) 88 rfl 4 underlying88 rfl Cf.out.ids (by omega) ⟨(x.esr,x.esq),hy⟩ rfl trivial true rfl ?_;intro w5 Vk Kk))
            go_roundw
            case rel=>exact⟨i+1,m+1,T,by omega,by go_num,Nat.le_trans (Nat.add_le_add_left (by omega) m) HMN.out,by rw[HF.out];exact Cf.out.stepC h2 he hy Vk Kk⟩
            case measure=>simp[intOf];omega
          · have de:(x.ek==2)=false:=by simpa using he
            have k12:=HG.out.cell 12 (.string x.een) rfl
            have k13:=HG.out.cell 13 (.string x.eky) rfl
            have hwo:OkW (x.een,x.eky):=⟨Gc.out.een,Gc.out.eky⟩
            obtain⟨lst,hlst⟩:∃ lst,lst=s.about (x.een,x.eky):=⟨_,rfl⟩
            have Xs:=hid hlst
            have Ql:Hid (∀ y∈lst,OkF y):=fun y hy=>Ma.out _ y (by rw[<-hlst];exact hy)
            have Yb:Hid (lst.length<=i):=by rw[hlst];exact Qk.out _
            have hown:Own fidC 2 24 (wr.alloc (.cells x.cells.toArray 48)) (w.heap.size+3) (hdrV T ⟨(x.een,x.eky),hwo⟩) lst:=by rw[hlst];exact Cf.out.rows.own ⟨(x.een,x.eky),hwo⟩
            obtain⟨a1,c1,hv,-,-,-⟩:=hown.lies Zbi
            have HV:=hid hv
            have HTV:Hid ((T ⟨(x.een,x.eky),hwo⟩).getD (.slice none 0 0)=.slice a1 lst.length c1):=hv
            obtain⟨n,hn⟩:∃ n,n=lst.length:=⟨_,rfl⟩
            rw[<-hn]at HTV Yb HV
            have Ol:=hid hn
            have hni:n<=i:=Yb.out
            clear hlst hown hv hn
            go_wp2_with (first|(refine Zal rfl 48 (.tmp 18) rfl b (off+i*40) x.cells rfl HC.out _ underlying48 rfl (by kernel_rfl) ?_)|(refine Zba rfl rfl 48 (.tmp 7) (.tmp 19) rfl rfl rfl x.cells rfl rfl (by kernel_rfl) x.cells_one ?_)|(refine wpList_lookS rfl (.tmp 86) (.tmp 93) 126 rfl 64 underlying126 (Tryz.zeroValue64 _) rfl Cf.out.about ⟨(x.een,x.eky),hwo⟩ rfl trivial _ HTV.out ?_))
            clear HC HG k2 k11 k12 k13 Qk Bt Ma
            rename World=>wo
            go_loopw [96] (fun v wr=>∃ (j m':Nat),j<=n/\v=.int .i64 j/\m'<=m+j/\Hid (ErAt w wr { s with ids:=fun k=>memF (lst.take j) k||s.ids k } i m' T)) (fun v _=>n - (intOf v).toNat)
            case atStart=>exact⟨0,m,by omega,rfl,by omega,Cf⟩
            case round =>
             obtain⟨j,m',hj,rfl,hm',Kn⟩:=hrel
             by_cases hjn:j<n
             · obtain⟨y,hy⟩:∃ y,lst[j]?=some y:=⟨lst[j]'(by rw[<-Ol.out];exact hjn),List.getElem?_eq_getElem _⟩
               have hown:Own fidC 2 24 wr (w.heap.size+3) (hdrV T ⟨(x.een,x.eky),hwo⟩) lst:=by rw[Xs.out];exact Kn.out.rows.own ⟨(x.een,x.eky),hwo⟩
               rw[HV.out]at hown
               have hlies:=Own.liesAt Zbi hown
               obtain⟨b2,off2,rfl,Gd⟩:=Zat hlies hy
               obtain⟨y0,y1⟩:=Za2 Gd hy
               have hyo:OkF y:=Ql.out y (List.mem_of_getElem? hy)
               have HSJ:Hid ({ s with ids:=fun k=>memF (lst.take (j+1)) k||s.ids k }={ s with ids:=fun k=>eqF k y||(memF (lst.take j) k||s.ids k) }):=by
                show _=_
                congr 1
                funext k
                rw[Zar hy,memF_snoc,Bool.or_comm (memF _ _) (eqF y k),Bool.or_assoc,eqF_comm]
               have Cv:Hid (ErAt w (wr.alloc (.cells #[.string y.1,.int .i64 y.2] 24)) { s with ids:=fun k=>memF (lst.take j) k||s.ids k } i m' T):=Kn.out.kept (Zab _)
               have Sv:m' < Go.maxLen:=by omega
               clear hown hlies Gd hy
               go_wp2_with (first|(refine ZbU rfl (.tmp 100) (.tmp 101) (.const (.bool true)) 88 rfl 4 underlying88 rfl Cv.out.ids Sv ⟨y,hyo⟩ rfl trivial true rfl ?_;intro w5 Vk Kk))
               go_roundw
               case rel=>exact⟨j+1,m'+1,by omega,by go_num,by omega,by rw[HSJ.out];exact Cv.out.putId hyo Vk Kk⟩
               case measure=>simp[intOf];omega
             · obtain rfl:j=n:=by omega
               have Ag:Hid (ErAt w wr (stepR s x) (i+1) m' T):=by
                have e:stepR s x={ s with ids:=fun k=>memF (lst.take j) k||s.ids k }:=by rw[Ol.out,List.take_length,Xs.out];unfold stepR;simp[h2,he]
                rw[e]
                exact⟨Kn.out.ids,Kn.out.about.mono (Nat.le_succ _),Kn.out.kinds.mono (Nat.le_succ _),Kn.out.rows,Kn.out.below,Kn.out.size⟩
               have HMJ:Hid (m'<=(i+1)*N):=Nat.le_trans (by omega) HMN.out
               go_wp2_with fail
               go_roundw
               case rel=>exact⟨i+1,m',T,by omega,by go_num,HMJ.out,by rw[HF.out];exact Ag⟩
               case measure=>simp[intOf];omega
        · have d2:(x.kind==2)=false:=by simpa using h2
          go_wp2_with (first|(refine Zal rfl 48 (.tmp 18) rfl b (off+i*40) x.cells rfl HC.out _ underlying48 rfl (by kernel_rfl) ?_)|(refine Zba rfl rfl 48 (.tmp 7) (.tmp 19) rfl rfl rfl x.cells rfl rfl (by kernel_rfl) x.cells_one ?_))
          go_roundw
          case rel=>exact⟨i+1,m,T,by omega,by go_num,Uj.out,by rw[HF.out];exact Cf.out.next (by unfold stepR;simp[h3,h1,h2])⟩
          case measure=>simp[intOf];omega
  · obtain rfl:i=l.length:=by omega
    rw[List.take_length]at HE
    go_wp2_with fail
    go_ret
    exact⟨m,T,rfl,HE.out⟩
theorem basesF_mem (l:List En):∀ (k:FID) (b:Bs),Zbj l k=some b->b.2=zeroE∨b.2∈l:=by
 have key:∀ (l:List En) (F:FID->Option Bs) (M:List En),(∀ k b,F k=some b->b.2=zeroE∨b.2∈M)->∀ k b,l.foldl stepB F k=some b->b.2=zeroE∨b.2∈M++l:=by
  intro l
  induction l with
  |nil=>intro F M h k b hb;simpa using h k b hb
  |cons x l ih =>
   intro F M h k b hb
   have:=ih (stepB F x) (M++[x]) (fun k b hb=>?_) k b hb
   · simpa using this
   · unfold stepB at hb
     split at hb
     · replace hb:(if eqF k x.base=true then some (nextB ((F k).getD zeroB) x)else F k)=some b:=hb
       by_cases e:eqF k x.base=true
       · rw[if_pos e]at hb
         injection hb with hb
         rw[<-hb]
         unfold nextB
         show(if _ then x else _)=zeroE∨(if _ then x else _)∈_
         split
         · right;simp
         · cases hF:F k with
           |none=>left;rfl
           |some c=>rcases h k c hF with q|q
                    · left;exact q
                    · right;simp;left;exact q
       · rw[if_neg e]at hb
         rcases h k b hb with q|q
         · left;exact q
         · right;simp[q]
     · rcases h k b hb with q|q
       · left;exact q
       · right;simp[q]
 intro k b hb
 have:=key l (fun _=>none) [] (fun k b h=>by cases h) k b hb
 simpa using this
theorem basesF_ok (l:List En)(hl:∀ x∈l,OkF x.base):∀ (k:FID) (b:Bs),Zbj l k=some b->OkF k:=by
 have key:∀ (l:List En) (F:FID->Option Bs),(∀ x∈l,OkF x.base)->(∀ k b,F k=some b->OkF k)->∀ k b,l.foldl stepB F k=some b->OkF k:=by
  intro l
  induction l with
  |nil=>intro F _ h k b hb;exact h k b hb
  |cons x l ih =>
   intro F hl h k b hb
   refine ih (stepB F x) (fun y hy=>hl y (by simp[hy])) (fun k b hb=>?_) k b hb
   unfold stepB at hb
   split at hb
   · replace hb:(if eqF k x.base=true then some (nextB ((F k).getD zeroB) x)else F k)=some b:=hb
     by_cases e:eqF k x.base=true
     · rw[ZaW.1 e];exact hl x (by simp)
     · rw[if_neg e]at hb;exact h k b hb
   · exact h k b hb
 exact key l (fun _=>none) hl (fun k b h=>by cases h)
theorem zeroE_ok (w:World):zeroE.Ok w:=by
 constructor<;>first|exact Or.inl rfl|(simp[zeroE];done)|(simp[zeroE,I64];done)|exact Nat.zero_le _
theorem Zb9 {l:List En}{t:Int}{x:En}(h:x∈untl l t):x∈l/\x.tick<=t:=by
 unfold untl at h
 rw[List.mem_filter]at h
 exact⟨h.1,by simpa using h.2⟩
def effF (l:List En)(t:Int)(k:FID):Option Rw :=
 match Zbj (untl l t) k with
 |some b=>if b.1=true/\b.2.fk≠3/\erF l k=false then some (b.2.row k)else none
 |none=>none
theorem Zcf {l:List En}{t:Int}{k:FID}{r:Rw}(h:effF l t k=some r):(r.src,r.seq)=k:=by
 unfold effF at h
 split at h
 · split at h
   · injection h with h;rw[<-h];rfl
   · cases h
 · cases h
theorem effF_ok {l:List En}{t:Int}{w:World}(hl:∀ x∈l,x.Ok w){k:FID}{r:Rw}(hk:OkF k)(h:effF l t k=some r):r.Ok w:=by
 unfold effF at h
 split at h
 · rename_i b hb
   split at h
   · injection h with h
     rw[<-h]
     rcases basesF_mem _ k b hb with q|q
     · rw[q];exact(zeroE_ok w).row hk
     · exact(hl _ (Zb9 q).1).row hk
   · cases h
 · cases h
abbrev EK:=Int × FID
def Rw.ek (r:Rw):EK:=(r.ev,(r.src,r.seq))
def cmpE:EK->EK->Int:=fun x y=>orI (cmpI x.1 y.1) (cmpID x.2 y.2)
theorem ZaN:Cmp cmpE:=Zbn.pair Zb3
structure EffIs (l:List En) (t:Int) (rows:List Rw):Prop where
 rise:rows.Pairwise (fun x y=>cmpE x.ek y.ek<0)
 mem:∀ r∈rows,effF l t (r.src,r.seq)=some r
 all:∀ k r,effF l t k=some r->r∈rows
structure TookE (l:List En) (t:Int) (left:{ k:FID // OkF k }->Bool) (xs:List Rw):Prop where
 mem:∀ r∈xs,effF l t (r.src,r.seq)=some r/\∃ h:OkF (r.src,r.seq),left ⟨_,h⟩=false
 out:∀ k:{ k:FID // OkF k },left k=false->∀ r,effF l t k.1=some r->r∈xs
 nodup:(xs.map (fun r=>((r.src,r.seq):FID))).Nodup
theorem TookE.start (l:List En)(t:Int):TookE l t (fun k=>(tabV (tabB (untl l t)) bsV k).isSome) []:=by
 refine⟨fun r h=>(by cases h),fun k hl r hr=>?_,List.Pairwise.nil⟩
 have e:Zbj (untl l t) k.1=none:=by
  unfold tabV tabB at hl
  cases e:Zbj (untl l t) k.1 with
  |none=>rfl
  |some b=>simp only[e]at hl;cases hl
 unfold effF at hr
 rw[e]at hr
 cases hr
theorem TookE.skip {l:List En}{t:Int}{left:{ k:FID // OkF k }->Bool}{xs:List Rw}(h:TookE l t left xs){k:{ k:FID // OkF k }}(hk:effF l t k.1=none):TookE l t (fun x=>left x&&!decide (x=k)) xs:=by
 refine⟨fun r hr=>?_,fun x hl r hr=>?_,h.nodup⟩
 · obtain⟨h1,h2,h3⟩:=h.mem r hr
   exact⟨h1,h2,by rw[h3];rfl⟩
 · by_cases q:x=k
   · subst q;rw[hk]at hr;cases hr
   · exact h.out x (by simpa [q]using hl) r hr
theorem TookE.take {l:List En}{t:Int}{left:{ k:FID // OkF k }->Bool}{xs:List Rw}(h:TookE l t left xs){k:{ k:FID // OkF k }}{r:Rw}(hl:left k=true)(hr:effF l t k.1=some r):TookE l t (fun x=>left x&&!decide (x=k)) (xs++[r]):=by
 have hk:=Zcf hr
 refine⟨fun u hu=>?_,fun x hx u hu=>?_,?_⟩
 · rcases List.mem_append.1 hu with hu|hu
   · obtain⟨h1,h2,h3⟩:=h.mem u hu
     exact⟨h1,h2,by rw[h3];rfl⟩
   · simp at hu
     subst hu
     refine⟨by rw[hk];exact hr,by rw[hk];exact k.2,?_⟩
     have:(⟨(u.src,u.seq),by rw[hk];exact k.2⟩:{ k:FID // OkF k })=k:=Subtype.ext hk
     rw[this];simp
 · by_cases q:x=k
   · subst q;rw[hr]at hu;injection hu with hu;simp[hu]
   · exact List.mem_append_left _ (h.out x (by simpa [q]using hx) u hu)
 · rw[List.map_append,List.nodup_append]
   refine⟨h.nodup,by simp,fun a ha b hb=>?_⟩
   simp at hb
   subst hb
   obtain⟨u,hu,rfl⟩:=List.mem_map.1 ha
   intro e
   obtain⟨-,h2,h3⟩:=h.mem u hu
   have:(⟨(u.src,u.seq),h2⟩:{ k:FID // OkF k })=k:=Subtype.ext (e.trans hk)
   rw[this,hl]at h3
   cases h3
theorem TookE.done {l:List En}{t:Int}{left:{ k:FID // OkF k }->Bool}{xs p:List Rw}(h:TookE l t left xs)(hd:∀ k,left k=false)(hl:∀ x∈l,OkF x.base)(hp:xs.Perm p)(hs:p.Pairwise (fun x y=>¬ cmpE y.ek x.ek<0)):EffIs l t p:=by
 have hnd:(p.map (fun r=>((r.src,r.seq):FID))).Nodup:=(hp.map _).nodup_iff.1 h.nodup
 refine⟨?_,fun r hr=>(h.mem r (hp.mem_iff.2 hr)).1,fun k r hr=>hp.mem_iff.1 ?_⟩
 · have h2:p.Pairwise (fun x y=>((x.src,x.seq):FID)≠(y.src,y.seq)):=by
     have:=hnd
     unfold List.Nodup at this
     rwa [List.pairwise_map]at this
   refine(hs.and h2).imp ?_
   rintro x y ⟨a1,a2⟩
   have t1:=ZaN.turn x.ek y.ek
   have t2:=ZaN.turn y.ek x.ek
   have t3:cmpE x.ek y.ek≠0:=fun e=>a2 (congrArg Prod.snd ((ZaN.zero _ _).1 e))
   omega
 · have hok:OkF k:=by
     unfold effF at hr
     split at hr
     · rename_i b hb
       exact basesF_ok (untl l t) (fun x hx=>hl x (Zb9 hx).1) k b hb
     · cases hr
   exact h.out ⟨k,hok⟩ (hd _) r hr
theorem setRow_alloc2 (w:World)(old new:Array Value)(t:TypeId)(o:Obj):((w.alloc (.cells old t)).alloc o).setRow w.heap.size new=(w.alloc (.cells new t)).alloc o:=by
 have e:((w.heap.push (.cells old t)).push o).modify w.heap.size (fun|.cells _ elem frozen=>.cells new elem frozen|o=>o)=(w.heap.push (.cells new t)).push o:=by
  apply Array.ext_getElem?
  intro i
  rw[Array.getElem?_modify,Array.getElem?_push,Array.getElem?_push,Array.getElem?_push,Array.getElem?_push]
  simp only[Array.size_push]
  by_cases h:w.heap.size=i
  · subst h;simp
  · rw[if_neg h]
    by_cases h2:i=w.heap.size+1
    · rw[if_pos h2,if_pos h2]
    · rw[if_neg h2,if_neg h2,if_neg (fun e=>h e.symm),if_neg (fun e=>h e.symm)]
 show({ (w.alloc (.cells old t)).alloc o with heap:=((w.heap.push (.cells old t)).push o).modify w.heap.size (fun|.cells _ elem frozen=>.cells new elem frozen|o=>o) }:World)=_
 rw[e]
 rfl
theorem put_none (a:Act)(v:Value):a.put none v=a:=rfl
theorem Zd7 {P:Program}{ty:TypeId}{n:Nat}(hi:(P.info? ty).map (fun i=>(i.zero.map (fun z=>z.cells.size),i.size))=some (some n,n)):∃ i,P.info? ty=some i/\∃ z,i.zero=some z/\i.size=n/\z.cells.size=n:=by
 cases hq:P.info? ty with
 |none=>rw[hq]at hi;simp at hi
 |some i =>
  rw[hq]at hi
  simp at hi
  obtain⟨⟨z,h3,h4⟩,h5⟩:=hi
  exact⟨i,rfl,z,h3,h5,h4⟩
section
variable {P:Program} {ops:Array Oper} {rest:List Oper} {o o1 o2 o3 o4:Oper} {a:Act} {w:World} {Q:Exit->Act->World->Prop}
theorem wpList_boxes (He:o1.guard=none)(Ye:o2.guard=none)(Gg:o3.guard=none)(Hh:o4.guard=none)(t1 t2:TypeId)(x1 y1 x2 y2:Operand)(h1:o1.op=.alloc t1)(h2:o2.op=.alloc t2)(h3:o3.op=.store t1 x1 y1)(h4:o4.op=.store t2 x2 y2)(Rh:o3.dst=none)(hd4:o4.dst=none)(L1 L2:List Value)
 (Ff:((a.put o1.dst (.pointer (some ⟨w.heap.size,0,none⟩))).put o2.dst (.pointer (some ⟨w.heap.size+1,0,none⟩))).eval x1=.pointer (some ⟨w.heap.size,0,none⟩)) (Gp:((a.put o1.dst (.pointer (some ⟨w.heap.size,0,none⟩))).put o2.dst (.pointer (some ⟨w.heap.size+1,0,none⟩))).eval y1=.agg L1.toArray)
 (Eg:((a.put o1.dst (.pointer (some ⟨w.heap.size,0,none⟩))).put o2.dst (.pointer (some ⟨w.heap.size+1,0,none⟩))).eval x2=.pointer (some ⟨w.heap.size+1,0,none⟩)) (Jj:((a.put o1.dst (.pointer (some ⟨w.heap.size,0,none⟩))).put o2.dst (.pointer (some ⟨w.heap.size+1,0,none⟩))).eval y2=.agg L2.toArray)
 (Np:(P.info? t1).map (fun i=>(i.zero.map (fun z=>z.cells.size),i.size))=some (some L1.length,L1.length)) (Oq:∀ v∈L1,v.oneCell'=true)
 (Jk:(P.info? t2).map (fun i=>(i.zero.map (fun z=>z.cells.size),i.size))=some (some L2.length,L2.length)) (Nq:∀ v∈L2,v.oneCell'=true)
 (h:wpList P ops Q rest ((a.put o1.dst (.pointer (some ⟨w.heap.size,0,none⟩))).put o2.dst (.pointer (some ⟨w.heap.size+1,0,none⟩))) ((w.alloc (.cells L1.toArray t1)).alloc (.cells L2.toArray t2))):wpList P ops Q (o1 :: o2 :: o3 :: o4 :: rest) a w:=by
 obtain⟨i1,Fg,z1,Ea,hs1,Iv⟩:=Zd7 Np
 obtain⟨i2,Ob,z2,Fa,hs2,Hv⟩:=Zd7 Jk
 refine wpList_plain He fun K hK=>?_
 unfold Oper.wp
 rw[Zbr t1 h1 _ i1 z1 Fg Ea]
 refine hK _ _ (wpList_plain Ye fun K hK=>?_)
 unfold Oper.wp
 rw[Zbr t2 h2 _ i2 z2 Ob Fa]
 rw[show(w.alloc (.cells z1.cells t1)).heap.size=w.heap.size+1 by simp]
 refine hK _ _ (wpList_plain Gg fun K hK=>?_)
 unfold Oper.wp
 rw[ZbG t1 x1 y1 h3 _ w.heap.size L1.toArray z1.cells t1 Ff Gp ((Below.heap_alloc _ _ _ (by simp)).trans (heap_alloc_new w _)) (by simp[Fg,hs1]) (by simpa using Iv) (by simpa using Oq),setRow_alloc2]
 refine hK _ _ ?_
 rw[Rh,put_none]
 refine wpList_plain Hh fun K hK=>?_
 unfold Oper.wp
 have e:((w.alloc (.cells L1.toArray t1)).alloc (.cells z2.cells t2)).setRow (w.heap.size+1) L2.toArray=(w.alloc (.cells L1.toArray t1)).alloc (.cells L2.toArray t2):=by
  have:=Zca (w.alloc (.cells L1.toArray t1)) z2.cells L2.toArray t2
  rwa [show(w.alloc (.cells L1.toArray t1)).heap.size=w.heap.size+1 by simp]at this
 have hb:((w.alloc (.cells L1.toArray t1)).alloc (.cells z2.cells t2)).heap[w.heap.size+1]?=some (.cells z2.cells t2 (0,0)):=by
  have:=heap_alloc_new (w.alloc (.cells L1.toArray t1)) (.cells z2.cells t2)
  rwa [show(w.alloc (.cells L1.toArray t1)).heap.size=w.heap.size+1 by simp]at this
 rw[ZbG t2 x2 y2 h4 _ (w.heap.size+1) L2.toArray z2.cells t2 Eg Jj hb (by simp[Ob,hs2]) (by simpa using Hv) (by simpa using Nq),e]
 refine hK _ _ ?_
 rw[hd4]
 exact h
variable {kt:TypeId} {κ β:Type} [DecidableEq κ] {Z:Keyz P kt κ} {b n:Nat} {F:κ->Option β} {mkV:β->Value}
theorem Zem (hw:Region.wanted o (yielded ops a.tmps)=true)(m x:Operand)(t:TypeId)(hop:o.op=Op.lookup t m x false)(e:TypeId)(ht:P.underlying t=some (.map kt e)){z:Value}(hz:(zeroValue e).run P w=.ok z w)
 (hm:a.eval m=.map (some b)) (h:Tab w Z b n (tabV F mkV)) (k:κ) (hx:a.eval x=Z.val k) (hk:Z.ok k) (v:Value) (hv:((F k).map mkV).getD z=v) (hK:wpList P ops Q rest (a.put o.dst v) w):wpList P ops Q (o :: rest) a w:=by
 refine Go.wpList_step fun K' hK'=>?_
 rw[if_pos hw]
 have hrun:=h.look ht hz hk
 rw[show((tabV F mkV) k).getD z=v from hv]at hrun
 unfold Oper.wp
 simp[execOp,hop,hm,hx,hrun,Result.andThen]
 exact hK' _ _ hK
end
def SlR (w:World)(v:Value)(l:List Rw):Prop:=∃ ao c,v=.slice ao l.length c/\l.length<=c/\(ao=none->c=0)/\ZaY w ao l
theorem SlR.kept {w w':World}{v:Value}{l:List Rw}(h:SlR w v l)(hb:Below w.heap.size w w'):SlR w' v l:=let ⟨a,c,h1,h2,h3,h4⟩:=h;⟨a,c,h1,h2,h3,h4.kept hb⟩
theorem sortR_any (w0:World)(l:List Rw)(w:World)(hB:Go.RowKit.Below w0.heap.size w0 w)(ao:Option Addr)(cap:Nat)(h:Own Rw.cells 8 68 w w0.heap.size (.slice ao l.length cap) l)(hl:l.length<4611686018427387904) :
 Calls prog 47 #[.slice ao l.length cap,.func (.func 48) #[] #[]] w fun r w'=>r=.returned (.tuple #[])/\∃ p,l.Perm p/\p.Pairwise (fun x y=>¬ cmpE y.ek x.ek<0)/\Zac Rw.cells 8 w' ao p/\Go.RowKit.Below w0.heap.size w0 w' :=
 sort_gen encR ZaN Rw.ek (fun _=>True) Tryz.sortR Tryz.isAgg68 Tryz.sizeOf68 (by decide) 48 (Go.Proofs.enters_of func48 (by kernel_rfl) rfl) w0
  (fun x y _ _ w' hb=>frow_any x y w') l w hB ao cap h (fun _ _=>trivial) hl
set_option maxRecDepth 100000 in
set_option maxHeartbeats 8000000 in
theorem eff_any (l:List En)(ao:Option Addr)(c:Nat)(t:Int)(hl:l.length<=100000)(w:World)(h:EnsAt w ao l) :
 Calls prog 19 #[.slice ao l.length c,.int .i64 t] w fun e w'=>∃ v rows,e=.returned v/\SlR w' v rows/\EffIs l t rows/\rows.length<=l.length/\(∀ g,v.ownBlock=some g->w.heap.size<=g)/\Below w.heap.size w w':=by
 have H:=hid h
 clear h
 have HE:=hid (erased_any l ao c hl w H.out)
 have HBs:=hid (fun w' (hb:Below w.heap.size w w')=>bases_any l ao c t (by omega) w' (H.out.kept hb))
 go_enter func19,ntmps19
 go_wp2_with (first
  |(go_at_call 45;(with_reducible refine HE.out.mono ?_);rintro e w1 ⟨m,T,rfl,hE⟩;have Ux:=hid hE;have Qb:=hid hE.below;clear hE)
  |(go_at_call 46;(with_reducible refine(HBs.out _ Qb.out).mono ?_);rintro e w2 ⟨b2,m2,rfl,ht,Sv,Sd,hb⟩;have Td:=hid ht;have La:Hid (Below w.heap.size w w2):=Qb.out.trans (hb.mono Qb.out.size);have Js:Hid (Tab w2 keysF w.heap.size m (tabV (tabI (erS l)) Value.bool)):=Ux.out.ids.kept hb;clear ht hb)
  |(at_range;refine Zel rfl (.tmp 13) 90 rfl 93 underlying90 rfl Td.out ?_;intro w3 cnt0 hrg hgr hsz;have HRg:=hid hrg;have HGr:=hid hgr;have HSz:=hid hsz;clear hrg hgr hsz))
 go_frame
 have Ib:Hid (Below w.heap.size w w3):=La.out.grown HGr.out La.out.size (fun j hj=>by cases hj)
 have Xd:Hid (cnt0<=m2):=HRg.out.cnt_le
 have Rj:Hid (Tab w3 keysF w.heap.size m (tabV (tabI (erS l)) Value.bool)):=Js.out.grown HGr.out (by simp)
 have Hbr:Hid (b2<w3.heap.size/\w2.heap.size<w3.heap.size):=by have h1:=HSz.out;have h2:=Td.out.lt;exact⟨by omega,by omega⟩
 have Hwr:Hid (w.heap.size<=w2.heap.size):=La.out.size
 have Vo:Hid (w.heap.size<b2/\w.heap.size<w2.heap.size):=by have h1:=Js.out.lt;have h2:=Ux.out.size;exact⟨by omega,h1⟩
 generalize w2.heap.size=r at *
 clear HE HBs Ux Qb La Td Js HGr HSz
 go_loopw [4] (fun v wr=>∃ (xs:List Rw) (left:{ k:FID // OkF k }->Bool) (cnt:Nat) (v0:Value),v0=v/\Hid (Own Rw.cells 8 68 wr w3.heap.size v xs/\xs.length+cnt<=cnt0)/\Hid (Tabs wr keysF b2 r m2 (tabV (tabB (untl l t)) bsV) left cnt)/\Hid (TookE l t left xs)/\Hid (Tab wr keysF w.heap.size m (tabV (tabI (erS l)) Value.bool))/\Hid (Below w.heap.size w wr)/\Hid (w3.heap.size<=wr.heap.size)) (fun _ wr=>wr.rangeLeft b2 r)
 case atStart=>exact⟨[],_,cnt0,_,rfl,⟨Own.nil _ _,by simp⟩,HRg,TookE.start l t,Rj,Ib,Nat.le_refl _⟩
 case round =>
  obtain⟨xs,left,cnt,v0,rfl,HOw,HTs,HTk,Js,HB,HS⟩:=hrel
  go_wp2_with (at_next;refine Zek rfl (.tmp 14) rfl (fun k=>fidV k.1) (fun k=>rfl) rfl HTs.out ?_ ?_)
  · unfold ThenDone
    intro hdone
    have HDone:=hid hdone
    clear hdone
    have Kc:=hid HOw.out.1.lt
    obtain⟨a2,c2,rfl,Ff,Eg,Jv⟩:=HOw.out.1.lies encR
    have HLx:Hid (xs.length<=l.length):=by have h1:=HOw.out.2;have h2:=Xd.out;show _<=_;omega
    have HSort:=hid (sortR_any w xs wr HB.out a2 c2 (HOw.out.1.mono (by have h1:=Vo.out.2;have h2:=Hbr.out.2;omega)) (by have:=HLx.out;omega))
    have Ra:=hid Ff
    have Ia:=hid Eg
    clear Ff Eg Jv
    generalize hxl:xs.length=xl at *
    have Qp:=hid hxl
    clear hxl
    go_wp2_with (go_at_call 47;(with_reducible refine HSort.out.mono ?_);rintro e w5 ⟨rfl,p,hp,hr,hlies,hb⟩;have HP:=hid hp;have HRr:=hid hr;have HLi:=hid hlies;have Xe:=hid hb;clear hp hr hlies hb)
    go_ret
    have hfin:=HTk.out.done (fun k=>HDone.out k trivial) (fun x hx=>(H.out.2 x hx).base) HP.out (HRr.out.imp (fun {x y} h=>by omega))
    have hpl:p.length=xl:=by rw[<-HP.out.length_eq,Qp.out]
    refine⟨_,p,rfl,⟨a2,c2,by rw[hpl];rfl,by rw[hpl];exact Ra.out,Ia.out,HLi.out,fun r hr=>(effF_ok H.out.2 (HTk.out.mem r (HP.out.mem_iff.2 hr)).2.1 (hfin.mem r hr)).kept Xe.out⟩,hfin,by rw[hpl];exact HLx.out,fun g hg=>by have h1:=(Kc.out g hg).1;have h2:=Vo.out.2;have h3:=Hbr.out.2;omega,Xe.out⟩
  · unfold ThenMore
    intro k d w4 cnt4 _ hlk hFk ht4 Tq Hh hs4 hen
    have HLk:=hid hlk
    have HFk:Hid (Zbj (untl l t) k.1=some d):=hFk
    have Qu:=hid ht4
    have HLt:=hid Tq
    have Nk:=hid hs4
    have Ld:Hid (Own Rw.cells 8 68 w4 w3.heap.size v0 xs):=HOw.out.1.grow Hh Hbr.out.2
    have Ac:Hid (Below w.heap.size w w4):=HB.out.grown Hh HB.out.size (fun j hj=>by injection hj with hj;subst hj;exact Hwr.out)
    have Hs:Hid (Tab w4 keysF w.heap.size m (tabV (tabI (erS l)) Value.bool)):=Js.out.grown Hh (fun e=>by injection e with e;have:=Vo.out.2;omega)
    clear hlk hFk ht4 Tq Hh hs4
    go_upto_region 5 with(first|(refine wpList_boxes rfl rfl rfl rfl 24 93 (.tmp 6) (.tmp 18) (.tmp 7) (.tmp 19) rfl rfl rfl rfl rfl rfl (fidC k.1) (Bs.cells d) rfl rfl rfl rfl (by kernel_rfl) (fidC_one k.1) (by kernel_rfl) (Bs.cells_one d) ?_))
    refine Zan (fun X hX=>?_)
    have Gb:Hid (Below w4.heap.size w4 X):=by rw[hX];exact Zak _ _
    have HK6:Hid (Box X w4.heap.size (fidC k.1).toArray 24):=by rw[hX];exact(Box.new w4 _ _).kept (Zab _)
    have Dt:Hid (Box X (w4.heap.size+1) (Bs.cells d).toArray 93):=by rw[hX];show Box _ _ _ _;have:=Box.new (w4.alloc (.cells (fidC k.1).toArray 24)) (Bs.cells d).toArray 93;simpa using this
    have HXs:Hid (X.heap.size=w4.heap.size+2):=by rw[hX];show _=_;simp
    have HC8:Hid (∀ j v,([.string d.2.src,.int .i64 d.2.seq,.int .i64 d.2.fk,.int .i64 d.2.ref,.string d.2.tb,.string d.2.ky,.int .i64 d.2.ev,.slice d.2.fa d.2.vs.length d.2.fc]:List Value)[j]?=some v->X.cell? ⟨w4.heap.size+1,4+j,none⟩=some v):=fun j v hv=>Dt.out.cell (4+j) v (by have:=fact_cells d.2 j v hv;rw[List.getElem?_toArray]at this ⊢;show(Value.bool d.1 :: d.2.cells)[4+j]?=some v;rw[show 4+j=(3+j)+1 by omega,List.getElem?_cons_succ];exact this)
    clear hX hen
    go_upto_region 6 with(first|(refine Zal rfl 27 (.tmp 21) rfl (w4.heap.size+1) 4 [.string d.2.src,.int .i64 d.2.seq,.int .i64 d.2.fk,.int .i64 d.2.ref,.string d.2.tb,.string d.2.ky,.int .i64 d.2.ev,.slice d.2.fa d.2.vs.length d.2.fc] rfl HC8.out _ underlying27 rfl (by kernel_rfl) ?_))
    refine Zan (fun Y hY=>?_)
    have Lu:Hid (Below X.heap.size X Y):=by rw[hY];exact Zab _
    have HYs:Hid (Y.heap.size=w4.heap.size+3):=by rw[hY];show _=_;simp;exact HXs.out
    have Dn:Hid (Box Y (w4.heap.size+2) #[.string d.2.src,.int .i64 d.2.seq,.int .i64 d.2.fk,.int .i64 d.2.ref,.string d.2.tb,.string d.2.ky,.int .i64 d.2.ev,.slice d.2.fa d.2.vs.length d.2.fc] 27):=by rw[hY,<-HXs.out];exact Box.new X _ _
    rw[HXs.out]
    have Gv:Hid (Below w4.heap.size w4 Y):=Gb.out.trans (Lu.out.mono (by have:=HXs.out;omega))
    have HI:=hid (HK6.out.kept Lu.out)
    have HD:=hid (Dt.out.kept Lu.out)
    clear hY HC8 HK6 Dt Gb Lu HXs
    have i0:=HI.out.cell 0 (.string k.1.1) rfl
    have i1:=HI.out.cell 1 (.int .i64 k.1.2) rfl
    have g0:=HD.out.cell 0 (.bool d.1) rfl
    have g1:=HD.out.cell 1 (.int .i64 d.2.no) rfl
    have g2:=HD.out.cell 2 (.int .i64 d.2.tick) rfl
    have f2:=Dn.out.cell 2 (.int .i64 d.2.fk) rfl
    have Yu:Hid (((tabI (erS l) k).map Value.bool).getD (.bool false)=.bool (erF l k.1)):=by
     show _=_
     unfold tabI erF
     cases (erS l).ids k.1<;>rfl
    have Kh:=hid (Hs.out.kept Gv.out)
    have Jl:=hid (Qu.out.kept Gv.out)
    have Uu:=hid (Ld.out.kept Gv.out)
    have Xr:Hid (Below w.heap.size w Y):=Ac.out.trans (Gv.out.mono Ac.out.size)
    have Ru:Hid (w3.heap.size<=Y.heap.size):=by have h1:=HYs.out;have h2:=Nk.out;have h3:=HS.out;show _<=_;omega
    have Dq:Hid (effF l t k.1=if d.1=true/\d.2.fk≠3/\erF l k.1=false then some (d.2.row k.1)else none):=by show _=_;unfold effF;rw[HFk.out]
    clear Hs Qu Ld Ac HFk
    have had:d.1=true∨d.1=false:=by cases d.1<;>simp
    rcases had with ha|ha
    · rw[ha]at g0
      by_cases hf:d.2.fk=3
      · have df:(d.2.fk==3)=true:=by simpa using hf
        have HTk2:=hid (HTk.out.skip (k:=k) (by rw[Dq.out,if_neg (fun q=>q.2.1 hf)]))
        go_wp2_with fail
        go_roundw
        case rel=>exact⟨xs,_,cnt4,_,rfl,⟨Uu.out,by have h1:=HOw.out.2;have h2:=HLt.out;omega⟩,Jl,HTk2,Kh,Xr,Ru⟩
        case measure=>rw[Jl.out.left_eq,HTs.out.left_eq];exact HLt.out
      · have df:(d.2.fk==3)=false:=by simpa using hf
        have her:erF l k.1=true∨erF l k.1=false:=by cases erF l k.1<;>simp
        rcases her with he|he
        · have HTk2:=hid (HTk.out.skip (k:=k) (by rw[Dq.out,if_neg (fun q=>by rw[he]at q;cases q.2.2)]))
          rw[he]at Yu
          go_wp2_with (refine Zem rfl (.tmp 32) (.tmp 33) 88 rfl 4 underlying88 (Tryz.zeroValue4 _) rfl Kh.out k rfl trivial _ Yu.out ?_)
          go_roundw
          case rel=>exact⟨xs,_,cnt4,_,rfl,⟨Uu.out,by have h1:=HOw.out.2;have h2:=HLt.out;omega⟩,Jl,HTk2,Kh,Xr,Ru⟩
          case measure=>rw[Jl.out.left_eq,HTs.out.left_eq];exact HLt.out
        · have HTk2:=hid (HTk.out.take (k:=k) (r:=d.2.row k.1) HLk.out (by rw[Dq.out,if_pos ⟨ha,hf,he⟩]))
          rw[he]at Yu
          obtain⟨x,hx⟩:∃ x,x=d.2.row k.1:=⟨_,rfl⟩
          have HX:=hid hx
          rw[<-hx]at HTk2
          have f4:=Dn.out.cell 4 (.string d.2.tb) rfl
          have f5:=Dn.out.cell 5 (.string d.2.ky) rfl
          have f6:=Dn.out.cell 6 (.int .i64 d.2.ev) rfl
          have f7:=Dn.out.cell 7 (.slice d.2.fa d.2.vs.length d.2.fc) rfl
          have Of:Hid (Own Rw.cells 8 68 (Y.alloc (.cells #[.string k.1.1,.int .i64 k.1.2,.string d.2.tb,.string d.2.ky,.int .i64 d.2.ev,.slice d.2.fa d.2.vs.length d.2.fc,.int .i64 d.2.no,.int .i64 d.2.tick] 68)) w3.heap.size v0 xs):=Uu.out.kept (Zab _)
          have Kd:Hid (Zac Rw.cells 8 (Y.alloc (.cells #[.string k.1.1,.int .i64 k.1.2,.string d.2.tb,.string d.2.ky,.int .i64 d.2.ev,.slice d.2.fa d.2.vs.length d.2.fc,.int .i64 d.2.no,.int .i64 d.2.tick] 68)) (some ⟨Y.heap.size,0,none⟩) [x]):=by rw[hx];exact Zav (d.2.row k.1) _ encR
          have Xm:=hid (Jl.out.kept (Zab (w:=Y) (.cells #[.string k.1.1,.int .i64 k.1.2,.string d.2.tb,.string d.2.ky,.int .i64 d.2.ev,.slice d.2.fa d.2.vs.length d.2.fc,.int .i64 d.2.no,.int .i64 d.2.tick] 68)))
          have Tl:=hid (Kh.out.kept (Zab (w:=Y) (.cells #[.string k.1.1,.int .i64 k.1.2,.string d.2.tb,.string d.2.ky,.int .i64 d.2.ev,.slice d.2.fa d.2.vs.length d.2.fc,.int .i64 d.2.no,.int .i64 d.2.tick] 68)))
          have Sc:Hid (w3.heap.size<=(Y.alloc (.cells #[.string k.1.1,.int .i64 k.1.2,.string d.2.tb,.string d.2.ky,.int .i64 d.2.ev,.slice d.2.fa d.2.vs.length d.2.fc,.int .i64 d.2.no,.int .i64 d.2.tick] 68)).heap.size):=by have:=Ru.out;show _<=_;simp;omega
          have Zh:Hid (Below w.heap.size w (Y.alloc (.cells #[.string k.1.1,.int .i64 k.1.2,.string d.2.tb,.string d.2.ky,.int .i64 d.2.ev,.slice d.2.fa d.2.vs.length d.2.fc,.int .i64 d.2.no,.int .i64 d.2.tick] 68))):=Xr.out.alloc Xr.out.size _
          have HLa:Hid (xs.length+[x].length<=1000000000):=by show _<=_;have h1:=HOw.out.2;have h2:=Xd.out;simp;omega
          clear hx
          go_wp2_with (first|(refine Zem rfl (.tmp 32) (.tmp 33) 88 rfl 4 underlying88 (Tryz.zeroValue4 _) rfl Kh.out k rfl trivial _ Yu.out ?_)|(at_builtin;refine Zai elR encR rfl (.tmp 36) (.tmp 53) rfl rfl rfl Of.out Kd.out rfl (fun e=>by cases e) Sc.out HLa.out ?_;intro v5 w5 ho hb;have Bc:=hid ho;have Ya:=hid hb;clear ho hb))
          go_roundw
          case rel=>exact⟨xs++[x],_,cnt4,_,rfl,⟨Bc.out,by have h1:=HOw.out.2;have h2:=HLt.out;simp;omega⟩,Xm.out.below Ya.out Hbr.out.1 Hbr.out.2,HTk2,Tl.out.blocks (Ya.out.block _ (by have h1:=Vo.out.2;have h2:=Hbr.out.2;omega)),Zh.out.trans (Ya.out.mono (by have h1:=Vo.out.2;have h2:=Hbr.out.2;omega)),Nat.le_trans Sc.out Ya.out.size⟩
          case measure=>rw[(Xm.out.below Ya.out Hbr.out.1 Hbr.out.2).left_eq,HTs.out.left_eq];exact HLt.out
    · rw[ha]at g0
      have HTk2:=hid (HTk.out.skip (k:=k) (by rw[Dq.out,if_neg (fun q=>by rw[ha]at q;cases q.1)]))
      go_wp2_with fail
      go_roundw
      case rel=>exact⟨xs,_,cnt4,_,rfl,⟨Uu.out,by have h1:=HOw.out.2;have h2:=HLt.out;omega⟩,Jl,HTk2,Kh,Xr,Ru⟩
      case measure=>rw[Jl.out.left_eq,HTs.out.left_eq];exact HLt.out
theorem cloneE_any (l:List En)(ao:Option Addr)(c:Nat)(hl:l.length<=100000000)(hsp:∀ a,ao=some a->a.spot=none)(w:World)(h:Zac En.cells 40 w ao l) :
 Calls prog 43 #[.slice ao l.length c] w fun e w'=>∃ v,e=.returned v/\Own En.cells 40 48 w' w.heap.size v l/\Below w.heap.size w w':=by
 cases ao with
 |none =>
  have hn:l=[]:=by
   rcases h with h|⟨_,_,h,_⟩
   · exact h
   · cases h
  subst hn
  refine(Go.Proofs.AnyE.slices_Clone_nil Tryz.cloneE 0 c w).mono ?_
  rintro e w' ⟨rfl,rfl⟩
  exact⟨_,rfl,Own.nil _ _,Below.refl _ _⟩
 |some a =>
  obtain⟨i,z,hi,Xc,Ea,Fa,Ef⟩:=elE.parts
  have hcells:∃ b off,a=⟨b,off,none⟩/\∀ j u,(encs En.cells l)[j]?=some u->w.cell? ⟨b,off+j,none⟩=some u:=by
   rcases h with rfl|⟨b,off,he,hr⟩
   · have:=hsp a rfl
     obtain⟨b,off,sp⟩:=a
     cases this
     exact⟨b,off,rfl,fun j u hj=>by simp[encs]at hj⟩
   · injection he with he
     exact⟨b,off,he,fun j u hj=>hr.cells encE.len (by decide) j u hj⟩
  obtain⟨b,off,rfl,hc⟩:=hcells
  have Ov:∀ w,(sizeOf 48).run prog w=.ok 40 w:=fun w=>run_size elE.size w
  refine(Go.Proofs.AnyE.slices_Clone Tryz.cloneE i z 40 528 hi Xc Ea Fa Ef (by decide) Ov b off l.length c (encs En.cells l) w (Za7 encE.len l) (by unfold maxLen;omega) (by omega) hc (ZbB encE.one l)).mono ?_
  rintro e w' ⟨v,rfl,ho,-,hb⟩
  exact⟨v,rfl,ho,hb⟩
theorem EffIs.unique {l:List En}{t:Int}{p q:List Rw}(hp:EffIs l t p)(hq:EffIs l t q):p=q:=by
 have nd:∀ {p:List Rw},EffIs l t p->p.Nodup:=fun h=>h.rise.imp (fun {x y} h e=>by rw[e,ZaN.refl]at h;omega)
 refine List.Perm.eq_of_pairwise (le:=fun x y=>cmpE x.ek y.ek<0) (fun a b _ _ h1 h2=>?_) hp.rise hq.rise ((List.perm_ext_iff_of_nodup (nd hp) (nd hq)).2 fun r=>⟨fun h=>hq.all _ _ (hp.mem r h),fun h=>hp.all _ _ (hq.mem r h)⟩)
 have:=ZaN.trans _ _ _ h1 h2
 rw[ZaN.refl]at this
 omega
open Classical in
noncomputable def effL (l:List En)(t:Int):List Rw:=if h:∃ rows,EffIs l t rows then Classical.choose h else []
theorem ZcD {l:List En}{t:Int}{rows:List Rw}(h:EffIs l t rows):effL l t=rows:=by
 have hex:∃ rows,EffIs l t rows:=⟨rows,h⟩
 unfold effL
 rw[dif_pos hex]
 exact(Classical.choose_spec hex).unique h
theorem ZeN (l:List En)(ao:Option Addr)(c:Nat)(t:Int)(hl:l.length<=100000)(w:World)(h:EnsAt w ao l) :
 Calls prog 19 #[.slice ao l.length c,.int .i64 t] w fun e w'=>∃ v,e=.returned v/\SlR w' v (effL l t)/\EffIs l t (effL l t)/\(effL l t).length<=l.length/\(∀ g,v.ownBlock=some g->w.heap.size<=g)/\Below w.heap.size w w':=by
 refine(eff_any l ao c t hl w h).mono ?_
 rintro e w' ⟨v,rows,rfl,h1,h2,h3,h4,h5⟩
 rw[ZcD h2]
 exact⟨v,rfl,h1,h2,h3,h4,h5⟩
def Za3 (l:List En)(i:Nat):Bool:=match l[i]?,l[i+1]? with
 |some x,some y=>y.tick==x.tick
 |_,_=>false
def ZbM (l:List En)(i:Nat):Int:=match l[i]? with
 |some x=>x.tick
 |none=>0
noncomputable def Zb0 (l:List En)(s:List Dl × List Rw)(i:Nat):List Dl × List Rw :=
 if Za3 l i=true then s else(s.1++betD s.2 (effL l (ZbM l i)) (ZbM l i),effL l (ZbM l i))
noncomputable def frS (l:List En)(n:Nat):List Dl × List Rw:=(List.range n).foldl (Zb0 l) ([],[])
noncomputable def fromL (l:List En):List Dl:=(frS l l.length).1
theorem Zce (l:List En)(i:Nat):frS l (i+1)=Zb0 l (frS l i) i:=by
 unfold frS
 rw[List.range_succ,List.foldl_append];rfl
section
variable {P:Program} {ops:Array Oper} {rest:List Oper} {o1 o2 o3:Oper} {a:Act} {w:World} {Q:Exit->Act->World->Prop}
theorem wpList_boxM (He:o1.guard=none)(Ye:o2.guard=none)(Gg:o3.guard=none)(ty:TypeId)(x y z:Operand)(h1:o1.op=.alloc ty)(h2:o2.op=.assign z)(h3:o3.op=.store ty x y)(hd:o3.dst=none)(L:List Value)(u:Value)
 (hz:(a.put o1.dst (.pointer (some ⟨w.heap.size,0,none⟩))).eval z=u) (hx:((a.put o1.dst (.pointer (some ⟨w.heap.size,0,none⟩))).put o2.dst u).eval x=.pointer (some ⟨w.heap.size,0,none⟩)) (hy:((a.put o1.dst (.pointer (some ⟨w.heap.size,0,none⟩))).put o2.dst u).eval y=.agg L.toArray)
 (hi:(P.info? ty).map (fun i=>(i.zero.map (fun z=>z.cells.size),i.size))=some (some L.length,L.length)) (hone:∀ v∈L,v.oneCell'=true)
 (h:wpList P ops Q rest ((a.put o1.dst (.pointer (some ⟨w.heap.size,0,none⟩))).put o2.dst u) (w.alloc (.cells L.toArray ty))):wpList P ops Q (o1 :: o2 :: o3 :: rest) a w:=by
 obtain⟨i,hq,z0,Xc,hs,hzs⟩:=Zd7 hi
 refine wpList_plain He fun K hK=>?_
 unfold Oper.wp
 rw[Zbr ty h1 _ i z0 hq Xc]
 refine hK _ _ (wpList_plain Ye fun K hK=>?_)
 have e2:(execOp (a.put o1.dst (.pointer (some ⟨w.heap.size,0,none⟩))).eval o2).run P (w.alloc (.cells z0.cells ty))=.ok (.value u) (w.alloc (.cells z0.cells ty)):=by
  unfold execOp
  simp only[h2,hz]
  rfl
 unfold Oper.wp
 rw[e2]
 refine hK _ _ (wpList_plain Gg fun K hK=>?_)
 unfold Oper.wp
 rw[ZbG ty x y h3 _ w.heap.size L.toArray z0.cells ty hx hy (heap_alloc_new w _) (by simp[hq,hs]) (by simpa using hzs) (by simpa using hone),Zca]
 refine hK _ _ ?_
 rw[hd]
 exact h
end
theorem effL_ok {l:List En}{t:Int}{w:World}(hl:∀ x∈l,x.Ok w):∀ r∈effL l t,r.Ok w:=by
 intro r hr
 unfold effL at hr
 split at hr
 · rename_i h
   have hs:=Classical.choose_spec h
   have he:=hs.mem r hr
   refine effF_ok hl ?_ he
   unfold effF at he
   split at he
   · rename_i b hb
     exact basesF_ok (untl l t) (fun x hx=>(hl x (Zb9 hx).1).base) _ b hb
   · cases he
 · cases hr
theorem frS_ok {l:List En}{w:World}(hl:∀ x∈l,x.Ok w):∀ i,i<=l.length->(∀ d∈(frS l i).1,d.Ok w)/\∀ r∈(frS l i).2,r.Ok w:=by
 intro i
 induction i with
 |zero=>intro _;exact⟨fun d hd=>by simp[frS]at hd,fun r hr=>by simp[frS]at hr⟩
 |succ i ih =>
  intro hi
  obtain⟨h1,h2⟩:=ih (by omega)
  obtain⟨x,hx⟩:∃ x,l[i]?=some x:=⟨l[i],List.getElem?_eq_getElem hi⟩
  have ht:I64 (ZbM l i):=by unfold ZbM;rw[hx];exact(hl x (List.mem_of_getElem? hx)).ints.2.1
  rw[Zce]
  unfold Zb0
  split
  · exact⟨h1,h2⟩
  · refine⟨fun d hd=>?_,effL_ok hl⟩
    rcases List.mem_append.1 hd with hd|hd
    · exact h1 d hd
    · unfold betD at hd
      rcases List.mem_append.1 hd with hd|hd<;>obtain⟨y,hy,rfl⟩:=List.mem_map.1 hd
      · exact⟨h2 y hy,ht,Zbw _ (by simp)⟩
      · exact⟨effL_ok hl y hy,ht,Zbw _ (by simp)⟩
theorem ZbV {P:Program}{α:Type}{enc:α->List Value}{k bytes:Nat}{e t:TypeId}{w:World}{B:Nat}{v:Value}{l m:List α}{ops:Array Oper}{rest:List Oper}{o:Oper}{a:Act}{Q:Exit->Act->World->Prop}{ao:Option Addr}{n c:Nat}(E:El P e t k bytes)(hE:Enc enc k)(hgd:o.guard=none)(s x:Operand)
 (ho:o.op=.call { callee:=.builtin .append,args:=#[s,x],argTypes:=#[t,t] }) (hs:a.eval s=v) (hx:a.eval x=.slice ao n c)
 (hO:Own enc k e w B v l) (hS:Zac enc k w ao m) (hn:n=m.length) (hc:ao=none->c=0) (hB:B<=w.heap.size) (hl:l.length+m.length<=1000000000)
 (h:∀ v' w1,Own enc k e w1 B v' (l++m)->w.grownBy w1 v.ownBlock->(v'.ownBlock=v.ownBlock∨v'.ownBlock=some w.heap.size)->wpList P ops Q rest (a.put o.dst v') w1) :
 wpList P ops Q (o :: rest) a w:=by
 obtain⟨i,z,hi,Xc,Ea,Fa,Ef⟩:=E.parts
 have hpos:=E.pos
 have hfew:=E.few
 subst hn
 cases ao with
 |none =>
  have hk:m=[]:=by
   rcases hS with h|⟨_,_,h,_⟩
   · exact h
   · cases h
  subst hk
  have h0:=hc rfl
  subst h0
  refine wpList_append_own_none hgd s x t ho B e i k E.und hi v _ _ hs hO hx ?_
  exact h v w (by rw[List.append_nil];exact hO) ⟨rfl,rfl,rfl,Nat.le_refl _,fun _ _ _=>rfl⟩ (Or.inl rfl)
 |some ad =>
  have hcells:∀ j v,(encs enc m)[j]?=some v->w.cell? (ad.add j)=some v:=by
   intro j u hj
   rcases hS with rfl|⟨b,off,he,hr⟩
   · simp[encs]at hj
   · injection he with he;subst he
     rw[ZbE];exact hr.cells hE.len hpos j u hj
  have hbytes:(l.length+m.length)*bytes<=140737488355328:=Nat.le_trans (Nat.mul_le_mul hl hfew) (by decide)
  obtain⟨v',w1,hrun,hown,hgr,-,hblk⟩:=run_append_own_at (P:=P) w B t o.type e i z k bytes E.und hi Xc Ea Fa Ef hpos v _ _ hO ad m.length c (encs enc m) (Za7 hE.len m) hcells (ZbB hE.one m) (by unfold maxLen;omega) hbytes hB
  refine wpList_plain hgd fun K hK=>?_
  unfold Oper.wp
  simp[execOp,ho,resolve,invoke,builtin,hs,hx,hrun,Result.andThen]
  refine hK _ _ (h v' w1 ?_ hgr hblk)
  unfold Own
  rw[Za8,List.length_append];exact hown
theorem Zac.same {α:Type}{enc:α->List Value}{k:Nat}{w w':World}{ao:Option Addr}{l:List α}(h:Zac enc k w ao l)(hb:∀ b off,ao=Option.some ⟨b,off,none⟩->b<w.heap.size->w'.heap[b]?=w.heap[b]?)(hk:∀ x∈l,0<(enc x).length):Zac enc k w' ao l:=by
 rcases h with h|⟨b,off,rfl,h⟩
 · exact Or.inl h
 · refine Or.inr ⟨b,off,rfl,?_⟩
   intro i x hx j v hv
   have hc:=h i x hx j v hv
   have:=hb b off rfl (Zfk hc)
   simp only[World.cell?,this]at hc ⊢
   exact hc
def Zfp (w:World)(u v:Value)(l:List Rw):Prop:=∃ a c,u=.slice a l.length c/\Zac Rw.cells 8 w a l/\∀ g,u.ownBlock=some g->l=[]∨v.ownBlock≠some g
theorem Zfp.kept {w w':World}{u v:Value}{l:List Rw}(h:Zfp w u v l)(hb:Below w.heap.size w w'):Zfp w' u v l:=by
 obtain⟨a,c,h1,h2,h3⟩:=h
 exact⟨a,c,h1,h2.kept hb,h3⟩
theorem betD_len {A i j L:Nat}{p q:List Rw}(h1:A<=i*2000)(h2:p.length<=L)(h3:q.length<=L)(hl:L<=1000)(hj:j=i+1)(hi:i<L)(t:Int):A+(betD p q t).length<=j*2000/\j*2000<=1000000000:=by
 unfold betD
 rw[List.length_append,List.length_map,List.length_map]
 omega
theorem Zeb {V w6 w7 w8:World}{a2:Option Addr}{c2:Nat}{v0 v8:Value}{l:List Rw}(h:Zac Rw.cells 8 w7 a2 l)(hg:w7.grownBy w8 v0.ownBlock)(hv:v8.ownBlock=v0.ownBlock∨v8.ownBlock=some w7.heap.size)
 (h6:∀ g,(Value.slice a2 l.length c2).ownBlock=some g->V.heap.size<=g) {B:Nat} (hlt:∀ g,v0.ownBlock=some g->B<=g/\g<V.heap.size) (hs:V.heap.size<=w6.heap.size/\w6.heap.size<=w7.heap.size):Zfp w8 (.slice a2 l.length c2) v8 l:=by
 have hb:∀ b off,a2=some ⟨b,off,none⟩->V.heap.size<=b:=fun b off e=>h6 b (by rw[e];rfl)
 refine⟨a2,c2,rfl,h.same (fun b off e hb'=>hg.block b hb' (fun q=>?_)) (fun x _=>by show 0<8;omega),fun g hg'=>?_⟩
 · have h1:=hb b off e
   have h2:=(hlt b q.symm).2
   omega
 · rcases h with h|⟨b,off,rfl,hr⟩
   · exact Or.inl h
   · by_cases hl:l=[]
     · exact Or.inl hl
     · right
       have hgb:b=g:=by injection hg'
       subst hgb
       have hlt':b<w7.heap.size:=by
        cases l with
        |nil=>exact absurd rfl hl
        |cons x l=>exact Zfk (hr 0 x rfl 0 _ rfl)
       have h1:=hb b off rfl
       rcases hv with q|q
       · rw[q];intro e;have:=(hlt b e).2;omega
       · rw[q];intro e;injection e with e;omega
set_option maxRecDepth 100000 in
set_option maxHeartbeats 8000000 in
theorem ZeK (l:List En)(ao:Option Addr)(c:Nat)(hl:l.length<=1000)(w:World)(h:EnsAt w ao l) :
 Calls prog 13 #[.slice ao l.length c] w fun e w'=>∃ v ds,e=.returned v/\SlD w' v ds/\ds.map Dl.kn=consK ((fromL l).map Dl.kn)/\Below w.heap.size w w':=by
 have H:=hid h
 clear h
 go_enter func13,ntmps13
 go_wp2_with fail
 go_loopw [2,3,9] (fun v u jj wr=>∃ (i:Nat) (v0 u0:Value),v0=v/\u0=u/\i<=l.length/\jj=.int .i64 i/\Hid (Own Dl.cells 10 70 wr w.heap.size v (frS l i).1/\(frS l i).1.length<=i*2000)/\Hid (Zfp wr u v (frS l i).2/\(frS l i).2.length<=l.length)/\Hid (Below w.heap.size w wr)) (fun _ _ jj _=>l.length - (intOf jj).toNat)
 case atStart=>exact⟨0,_,_,rfl,rfl,by omega,rfl,⟨Own.nil _ _,by simp[frS]⟩,⟨⟨none,0,rfl,Or.inl (by simp[frS]),fun g e=>by cases e⟩,by simp[frS]⟩,Below.refl _ _⟩
 case round =>
  obtain⟨i,v0,u0,rfl,rfl,hi,rfl,HD,HU,HB⟩:=hrel
  by_cases hlt:i<l.length
  · obtain⟨x,hx⟩:∃ x,l[i]?=some x:=⟨l[i],List.getElem?_eq_getElem hlt⟩
    obtain⟨b,off,rfl,hrow⟩:=Zat (H.out.1.kept HB.out) hx
    have HC:Hid (∀ j v,x.cells[j]?=some v->wr.cell? ⟨b,off+i*40+j,none⟩=some v):=fun j v hv=>hrow i x hx j v hv
    have HX:=hid hx
    have Gc:Hid (x.Ok w):=H.out.2 x (List.mem_of_getElem? hx)
    have Ig:=hid hrow
    clear hrow hx
    go_upto_region 5 with(first|(refine Zal rfl 48 (.tmp 12) rfl b (off+i*40) x.cells rfl HC.out _ underlying48 rfl (by kernel_rfl) ?_)|(refine wpList_boxM rfl rfl rfl 48 (.tmp 5) (.tmp 13) (.tmp 11) rfl rfl rfl rfl x.cells (.int .i64 (i:Int)) rfl rfl rfl (by kernel_rfl) x.cells_one ?_))
    go_frame
    refine Zan (fun X hX=>?_)
    have Gb:Hid (Below w.heap.size w X):=by rw[hX];exact HB.out.alloc HB.out.size _
    have Dj:Hid (Below wr.heap.size wr X):=by rw[hX];exact Zab _
    have HG:Hid (Box X wr.heap.size x.cells.toArray 48):=by rw[hX];exact Box.new _ _ _
    have Yx:Hid (Own Dl.cells 10 70 X w.heap.size v0 (frS l i).1):=HD.out.1.kept Dj.out
    have Ew:Hid (Zfp X u0 v0 (frS l i).2):=HU.out.1.kept Dj.out
    have k1:=HG.out.cell 1 (.int .i64 x.tick) rfl
    have Mf:Hid (ZbM l i=x.tick):=by show _=_;unfold ZbM;rw[HX.out]
    clear hX
    obtain⟨j,hj⟩:∃ j,j=i+1:=⟨_,rfl⟩
    have ws1:IntKind.i64.wrap ((i:Int)+1)=(j:Int):=by rw[IntWalk.i64_in _ (by omega)];omega
    have HJ:=hid hj
    clear hj
    by_cases hn:i+1<l.length/\Za3 l i=true
    · obtain⟨Yd,Pe⟩:=hn
      obtain⟨y,hy⟩:∃ y,l[i+1]?=some y:=⟨l[i+1],List.getElem?_eq_getElem Yd⟩
      have hyt:y.tick=x.tick:=by
       unfold Za3 at Pe
       rw[HX.out,hy]at Pe
       simpa using Pe
      have hjl:j<l.length:=by rw[HJ.out];exact Yd
      have d1:decide ((j:Int)<l.length)=true:=decide_eq_true (by omega)
      have y1:X.cell? ⟨b,off+j*40+1,none⟩=some (.int .i64 x.tick):=by rw[<-hyt,HJ.out];exact Zaa (Ig.out (i+1) y hy 1 _ rfl) Dj.out
      have HF:Hid (frS l j=frS l i):=by show _=_;rw[HJ.out,Zce];unfold Zb0;rw[if_pos Pe]
      clear hy hyt Pe
      go_quiet (fail)
      generalize hV:X.drewN nq=V
      have Aa:Hid (Below w.heap.size w V):=by rw[<-hV];exact Zad Gb.out _
      have Pf:Hid (Below X.heap.size X V):=by rw[<-hV];exact Zad (Below.refl _ _) _
      clear hV
      go_wp2_with fail
      go_roundw
      case rel=>exact⟨j,_,_,rfl,rfl,by rw[HJ.out];omega,rfl,by rw[HF.out];exact⟨Yx.out.kept Pf.out,Nat.le_trans HD.out.2 (Nat.mul_le_mul_right _ (by rw[HJ.out];omega))⟩,by rw[HF.out];exact⟨Ew.out.kept Pf.out,HU.out.2⟩,Aa⟩
      case measure=>have:=HJ.out;simp[intOf];omega
    · have hns:Za3 l i=false:=by
        cases e:Za3 l i with
        |false=>rfl
        |true =>
         refine absurd ⟨?_,e⟩ hn
         unfold Za3 at e
         rw[HX.out]at e
         rcases Nat.lt_or_ge (i+1) l.length with q|q
         · exact q
         · rw[List.getElem?_eq_none q]at e;cases e
      have HF:Hid (frS l j=((frS l i).1++betD (frS l i).2 (effL l x.tick) x.tick,effL l x.tick)):=by
       show _=_;rw[HJ.out,Zce];unfold Zb0;rw[if_neg (by rw[hns];decide),Mf.out]
      have Nl:Hid (∀ r∈(frS l i).2,r.Ok w):=(frS_ok H.out.2 i (by omega)).2
      clear hn
      by_cases Yd:i+1<l.length
      · obtain⟨y,hy⟩:∃ y,l[i+1]?=some y:=⟨l[i+1],List.getElem?_eq_getElem Yd⟩
        have hyt:(y.tick==x.tick)=false:=by
         unfold Za3 at hns
         rw[HX.out,hy]at hns
         exact hns
        have hjl:j<l.length:=by rw[HJ.out];exact Yd
        have d1:decide ((j:Int)<l.length)=true:=decide_eq_true (by omega)
        have y1:X.cell? ⟨b,off+j*40+1,none⟩=some (.int .i64 y.tick):=by rw[HJ.out];exact Zaa (Ig.out (i+1) y hy 1 _ rfl) Dj.out
        clear hy hns
        go_quiet (fail)
        generalize hV:X.drewN nq=V
        have Aa:Hid (Below w.heap.size w V):=by rw[<-hV];exact Zad Gb.out _
        have Pf:Hid (Below X.heap.size X V):=by rw[<-hV];exact Zad (Below.refl _ _) _
        clear hV
        have Ln:Hid (Own Dl.cells 10 70 V w.heap.size v0 (frS l i).1):=Yx.out.kept Pf.out
        obtain⟨a1,c1,rfl,Xf,Uk⟩:=Ew.out.kept Pf.out
        have Jo:Hid (ZaY V a1 (frS l i).2):=⟨Xf,fun r hr=>(Nl.out r hr).kept Aa.out⟩
        have t1:=(HG.out.kept Pf.out).cell 1 (.int .i64 x.tick) rfl
        have HE:=hid (ZeN l (some ⟨b,off,none⟩) c x.tick (by omega) V (H.out.kept Aa.out))
        have Yh:=hid (fun(a2:Option Addr) (c2:Nat) (w6:World) (hb:Below V.heap.size V w6) (h6:ZaY w6 a2 (effL l x.tick)) (h7:(effL l x.tick).length<=10000000)=>Zdv (frS l i).2 (effL l x.tick) a1 a2 c1 c2 x.tick Gc.out.ints.2.1 (by have:=HU.out.2;omega) h7 w6 (Jo.out.kept hb) h6)
        clear Xf Uk k1
        go_wp2_with (first
         |(go_at_call 19;(with_reducible refine HE.out.mono ?_);rintro e w6 ⟨v6,rfl,Pv,Pp,Lm,Mm,Kf⟩;obtain⟨a2,c2,rfl,Qn,Pn,Gf⟩:=Pv;have Vi:=hid Gf;have Bj:=hid Lm;have Tl:=hid Mm;have Zh:=hid Kf;have Xm:=Zaa t1 Kf;have Dh:Hid (Below w.heap.size w w6):=Aa.out.trans (Kf.mono Aa.out.size);have Ek:=hid (Yh.out a2 c2 w6 Kf Gf (by omega));have Ap:=hid (Ln.out.kept Kf);clear Qn Pn Gf Pp Lm Mm Kf)
         |(go_at_call 39;(with_reducible refine Ek.out.mono ?_);rintro e w7 ⟨v7,rfl,Jm,Xg⟩;obtain⟨a7,c7,rfl,Mr,Sm,Rm⟩:=Jm.lies;have Tj:=hid Rm;have Au:=hid Sm;have Ug:Hid (Below w.heap.size w w7):=Dh.out.trans (Xg.mono Dh.out.size);have Mn:=hid (Ap.out.kept Xg);have Ko:Hid (Zac Rw.cells 8 w7 a2 (effL l x.tick)):=Vi.out.1.kept Xg;have Ve:Hid (V.heap.size<=w6.heap.size/\w6.heap.size<=w7.heap.size):=⟨Zh.out.size,Xg.size⟩;have HLa:Hid ((frS l i).1.length+(betD (frS l i).2 (effL l x.tick) x.tick).length<=j*2000/\j*2000<=1000000000):=betD_len HD.out.2 HU.out.2 Bj.out hl HJ.out hlt x.tick;clear Mr Sm Rm Jm Xg)
         |(at_builtin;refine ZbV elD encD rfl (.tmp 34) (.tmp 39) rfl rfl rfl Mn.out Tj.out.1 rfl Au.out Ug.out.size (Nat.le_trans HLa.out.1 HLa.out.2) ?_;intro v8 w8 ho hg hv;have Bn:=hid ho;have Gn:=hid hg;have Hl:=hid hv;clear ho hg hv))
        go_roundw
        case rel=>exact⟨j,_,_,rfl,rfl,by rw[HJ.out];omega,rfl,by rw[HF.out];exact⟨Bn.out,by rw[List.length_append];exact HLa.out.1⟩,by rw[HF.out];exact⟨Zeb Ko.out Gn.out Hl.out Tl.out Ln.out.lt Ve.out,Bj.out⟩,Ug.out.grown Gn.out Ug.out.size (fun k e=>(Mn.out.lt k e).1)⟩
        case measure=>have:=HJ.out;simp[intOf];omega
      · have d1:decide (j<l.length)=false:=decide_eq_false (by rw[HJ.out];omega)
        clear Yd
        clear hns
        go_quiet (fail)
        clear d1
        generalize hV:X.drewN nq=V
        have Aa:Hid (Below w.heap.size w V):=by rw[<-hV];exact Zad Gb.out _
        have Pf:Hid (Below X.heap.size X V):=by rw[<-hV];exact Zad (Below.refl _ _) _
        clear hV
        have Ln:Hid (Own Dl.cells 10 70 V w.heap.size v0 (frS l i).1):=Yx.out.kept Pf.out
        obtain⟨a1,c1,rfl,Xf,Uk⟩:=Ew.out.kept Pf.out
        have Jo:Hid (ZaY V a1 (frS l i).2):=⟨Xf,fun r hr=>(Nl.out r hr).kept Aa.out⟩
        have t1:=(HG.out.kept Pf.out).cell 1 (.int .i64 x.tick) rfl
        have HE:=hid (ZeN l (some ⟨b,off,none⟩) c x.tick (by omega) V (H.out.kept Aa.out))
        have Yh:=hid (fun(a2:Option Addr) (c2:Nat) (w6:World) (hb:Below V.heap.size V w6) (h6:ZaY w6 a2 (effL l x.tick)) (h7:(effL l x.tick).length<=10000000)=>Zdv (frS l i).2 (effL l x.tick) a1 a2 c1 c2 x.tick Gc.out.ints.2.1 (by have:=HU.out.2;omega) h7 w6 (Jo.out.kept hb) h6)
        clear Xf Uk k1
        go_wp2_with (first
         |(go_at_call 19;(with_reducible refine HE.out.mono ?_);rintro e w6 ⟨v6,rfl,Pv,Pp,Lm,Mm,Kf⟩;obtain⟨a2,c2,rfl,Qn,Pn,Gf⟩:=Pv;have Vi:=hid Gf;have Bj:=hid Lm;have Tl:=hid Mm;have Zh:=hid Kf;have Xm:=Zaa t1 Kf;have Dh:Hid (Below w.heap.size w w6):=Aa.out.trans (Kf.mono Aa.out.size);have Ek:=hid (Yh.out a2 c2 w6 Kf Gf (by omega));have Ap:=hid (Ln.out.kept Kf);clear Qn Pn Gf Pp Lm Mm Kf)
         |(go_at_call 39;(with_reducible refine Ek.out.mono ?_);rintro e w7 ⟨v7,rfl,Jm,Xg⟩;obtain⟨a7,c7,rfl,Mr,Sm,Rm⟩:=Jm.lies;have Tj:=hid Rm;have Au:=hid Sm;have Ug:Hid (Below w.heap.size w w7):=Dh.out.trans (Xg.mono Dh.out.size);have Mn:=hid (Ap.out.kept Xg);have Ko:Hid (Zac Rw.cells 8 w7 a2 (effL l x.tick)):=Vi.out.1.kept Xg;have Ve:Hid (V.heap.size<=w6.heap.size/\w6.heap.size<=w7.heap.size):=⟨Zh.out.size,Xg.size⟩;have HLa:Hid ((frS l i).1.length+(betD (frS l i).2 (effL l x.tick) x.tick).length<=j*2000/\j*2000<=1000000000):=betD_len HD.out.2 HU.out.2 Bj.out hl HJ.out hlt x.tick;clear Mr Sm Rm Jm Xg)
         |(at_builtin;refine ZbV elD encD rfl (.tmp 34) (.tmp 39) rfl rfl rfl Mn.out Tj.out.1 rfl Au.out Ug.out.size (Nat.le_trans HLa.out.1 HLa.out.2) ?_;intro v8 w8 ho hg hv;have Bn:=hid ho;have Gn:=hid hg;have Hl:=hid hv;clear ho hg hv))
        go_roundw
        case rel=>exact⟨j,_,_,rfl,rfl,by rw[HJ.out];omega,rfl,by rw[HF.out];exact⟨Bn.out,by rw[List.length_append];exact HLa.out.1⟩,by rw[HF.out];exact⟨Zeb Ko.out Gn.out Hl.out Tl.out Ln.out.lt Ve.out,Bj.out⟩,Ug.out.grown Gn.out Ug.out.size (fun k e=>(Mn.out.lt k e).1)⟩
        case measure=>have:=HJ.out;simp[intOf];omega
  · obtain rfl:i=l.length:=by omega
    have Vu:Hid (OwnD wr w.heap.size v0 (fromL l)):=⟨HD.out.1,fun d hd=>((frS_ok H.out.2 l.length (Nat.le_refl _)).1 d hd).kept HB.out⟩
    obtain⟨a2,c2,rfl,Fr,Mi,Rh⟩:=Vu.out.slD
    have Tc:Hid ((fromL l).length<=10000000):=by have:=HD.out.2;show(frS l l.length).1.length<=_;omega
    have Xi:=hid (ZcZ (fromL l) a2 c2 Tc.out wr Rh)
    clear Fr Mi Rh
    generalize hfl:(fromL l).length=fl at *
    clear hfl
    go_wp2_with (go_at_call 32;(with_reducible refine Xi.out.mono ?_);rintro e w5 ⟨v5,ds,rfl,Hm,Qe,Rd,Qm⟩;have De:=hid Hm;have Et:=hid Rd;have Xe:=hid (HB.out.trans (Qm.mono HB.out.size));clear Hm Qe Rd Qm)
    go_ret
    exact⟨_,ds,rfl,De.out,Et.out,Xe.out⟩
end Go.Proofs.YtfnpfkgmacaboaaGreat
