/- Texts joined by a program. -/
import Derived.Test.YtfnpfkgmacaboaaGreatM41
import Derived.Test.YtfnpfkgmacaboaaGreatM42
namespace Go.Proofs.YtfnpfkgmacaboaaGreat
open Lib (hid)
open Go.ChangeShapes Go.WideShapes Go.ChangeAt Go.RowKit
set_option linter.unusedVariables false
set_option linter.unusedSimpArgs false
set_option maxRecDepth 100000
set_option maxHeartbeats 4000000
def RowX (w:World)(B:Nat)(s:Sl)(r:List Int):Prop:=s.2.1=r.length/\Own nC 1 3 w B (.slice s.1 s.2.1 s.2.2) r
theorem RowX.kept {w w':World}{B:Nat}{s:Sl}{r:List Int}(h:RowX w B s r)(hb:Below w.heap.size w w'):RowX w' B s r:=⟨h.1,h.2.kept hb⟩
theorem RowX.lies {w:World}{B:Nat}{s:Sl}{r:List Int}(h:RowX w B s r):Zac nC 1 w s.1 r:=by
 obtain⟨a,c,he,-,-,hl⟩:=h.2.lies encI
 injection he with e1 e2 e3
 subst e1
 exact hl
theorem RowX.grown {w w':World}{B B2:Nat}{s:Sl}{r:List Int}{v:Value}{L:List Sl}(h:RowX w B s r)(hO:Own slC 1 101 w B2 v L)(hg:w.grownBy w' v.ownBlock):RowX w' B s r:=by
 refine⟨h.1,h.2.same (fun g hk=>?_)⟩
 rcases h.2.2 with⟨e,-⟩|⟨g2,cap,cur,e,h5,h6,h7⟩
 · rw[e]at hk;cases hk
 · rw[e]at hk
   injection hk with hk
   subst hk
   exact hg.block _ (Array.getElem?_eq_some_iff.1 h6).1 (fun e=>Own.ne_box hO h6 (by decide) e.symm)
def Zbz (p:Nat->Bool)(N k:Nat):List Int:=(((List.range N).drop k).filter p).map (fun k:Nat=>(k:Int))
theorem rowFrom_at {p:Nat->Bool}{N k:Nat}(h:k<N):Zbz p N k=(if p k=true then [(k:Int)]else [])++Zbz p N (k+1):=by
 unfold Zbz
 rw[ZaD (x:=k) (by simp[h]),List.filter_cons]
 split<;>simp_all
theorem rowFrom_end {p:Nat->Bool}{N k:Nat}(h:N<=k):Zbz p N k=[]:=by
 unfold Zbz
 rw[List.drop_of_length_le (by simpa using h)]
 rfl
theorem rowFrom_ok (p:Nat->Bool)(N:Nat):(Zbz p N 0).length<=N/\∀ x∈Zbz p N 0,0<=x/\x<N:=by
 unfold Zbz
 refine⟨?_,fun x hx=>?_⟩
 · rw[List.length_map,List.drop_zero]
   exact Nat.le_trans (List.length_filter_le _ _) (by simp)
 · rw[List.mem_map]at hx
   obtain⟨k,hk,rfl⟩:=hx
   rw[List.drop_zero,List.mem_filter,List.mem_range]at hk
   omega
def GraphR (N:List ByteArray)(R:List (List Int))(w:World)(e:Ending)(w':World):Prop:=∃ (a:Option Addr) (c:Nat) (a2:Option Addr) (c2:Nat),e=.returned (.tuple #[.slice a N.length c,.slice a2 R.length c2])/\StrsX w' a c N/\GrR w' R a2/\Below w.heap.size w w'
theorem graph_det (w0:World)(F:List Ft)(hfl:F.length<=1000)(hfok:∀ f∈F,f.Ok w0):∃ R:List (List Int),R.length=(Zeq F).length/\∀ (c_ta:Option Addr) (c_tn:Nat) (c_tc:Nat) (c_fa:Option Addr) (c_fc:Nat) (c_da:Option Addr) (c_dn:Nat) (c_dc:Nat) (c_qa:Option Addr) (c_qn:Nat) (c_qc:Nat) (w:World),Below w0.heap.size w0 w->Zac Ft.cells 18 w c_fa F->Calls Tryz.prog 193 #[.agg #[.slice c_ta c_tn c_tc,.slice c_fa F.length c_fc,.slice c_da c_dn c_dc,.slice c_qa c_qn c_qc]] w (GraphR (Zeq F) R w):=by
 obtain⟨nx,hnx⟩:=pick (fun s=>next_det w0 F (by omega) hfok s)
 obtain⟨ib,hib⟩:=pick (P:=fun(p:ByteArray × ByteArray) (r:Bool)=>(nx p.1).length<=80->∀ (a:Option Addr) (c:Nat) (w:World),StrsX w a c (nx p.1)->Calls Tryz.prog 208 #[.slice a (nx p.1).length c,.string p.2] w (RetB r w)) (fun p=>by
  by_cases h:(nx p.1).length<=80
  · obtain⟨r,hr⟩:=in12_det (nx p.1) p.2 (by omega)
    exact⟨r,fun _=>hr⟩
  · exact⟨false,fun h2=>(h h2).elim⟩)
 have hnl:=namesF_len F
 generalize hNM:Zeq F=NM at hnl ⊢
 obtain⟨pb,hpb⟩:∃ pb:ByteArray->Nat->Bool,∀ (s:ByteArray) (k:Nat) (s2:ByteArray),NM[k]?=some s2->pb s k=ib (s,s2):=⟨fun s k=>match NM[k]? with|some s2=>ib (s,s2)|none=>false,fun s k s2 h=>by dsimp only;rw[h]⟩
 obtain⟨rw_,hrw⟩:∃ rw_:ByteArray->List Int,∀ s,rw_ s=Zbz (pb s) NM.length 0:=⟨_,fun _=>rfl⟩
 refine⟨NM.map rw_,by simp,fun c_ta c_tn c_tc c_fa c_fc c_da c_dn c_dc c_qa c_qn c_qc w Oa hft=>?_⟩
 have HNA:=hid hnx
 have Xj:=hid hib
 have Po:=hid hNM
 have HPB:=hid hpb
 have Kb:Hid (∀ s,rw_ s=[]++Zbz (pb s) NM.length 0):=hrw
 have Ui:Hid (∀ s,(rw_ s).length<=NM.length/\∀ x∈rw_ s,0<=x/\x<NM.length):=fun s=>by rw[hrw s];exact rowFrom_ok _ _
 have Ja:=hid Oa
 have Be:=hid hft
 have hF:F.length<=100000:=by omega
 clear hnx hib hNM hpb hrw Oa hft hfok
 generalize hRR:NM.map rw_=RR
 have Lh:=hid hRR
 clear hRR
 go_enter Tryz.func193,Tryz.ntmps193
 go_upto_region 1 with fail
 refine gen1 (fun V B0 Aa=>?_)
 have HS:=hs1 B0
 simp only[Cl,Nat.reduceAdd]at HS
 have KK:=HS.out V (ZR V)
 have Bf:Hid (Zac Ft.cells 18 V c_fa F):=Be.out.kept Aa.out
 have Ga:Hid (Below w0.heap.size w0 V):=Ja.out.trans (Aa.out.mono Ja.out.size)
 go_upto_region 2 with(first|(go_at_call 206;refine(names12_is _ _ _ _ _ _ _ _ _ _ _ _ F hF Bf.out).mono ?_;rintro e w4 ⟨a4,c4,rfl,h4,hb⟩;have Du:=hid h4;have Vm:Hid (Below V.heap.size V w4):=ZT bt hb;clear h4 hb)|fail)
 rw[Po.out]at Du ⊢
 have Vj:=hid Du.out.2.2
 go_wp2_with fail
 go_loopw [5,6] (fun v jj wr=>∃ (i:Nat) (L5:List Sl) (v0:Value),v0=v/\i<=NM.length/\jj=.int .i64 i/\Hid (Own slC 1 101 wr w4.heap.size v L5)/\L5.length=i/\Hid (∀ (j:Nat) (s:Sl) (nm:ByteArray),L5[j]?=some s->NM[j]?=some nm->RowX wr w4.heap.size s (rw_ nm))/\Hid (Below w4.heap.size w4 wr)) (fun _ jj _=>NM.length - (intOf jj).toNat)
 case atStart=>exact⟨0,[],_,rfl,by omega,rfl,Own.nil _ _,by simp,hid (fun j s nm hs=>by simp at hs),ZR w4⟩
 case round =>
  obtain⟨i,L5,v0,rfl,hi,rfl,HO,Qe,HM,Ze⟩:=hrel
  have HR:Hid (Below V.heap.size V wr):=ZT Vm.out Ze.out
  have KK:=HS.out _ HR.out
  by_cases hlt:i<NM.length
  · obtain⟨s,hs⟩:∃ s,NM[i]?=some s:=⟨NM[i],List.getElem?_eq_getElem hlt⟩
    have HSI:=hid hs
    obtain⟨b7,o7,rfl,Jp⟩:=(Vj.out.kept Ze.out).some (by omega)
    have Ko:=hid Jp
    have d0:=Zbs Jp hs
    have Fo:Hid (∀ w',Below wr.heap.size wr w'->w'.cell? ⟨b7,o7+i,none⟩=some (.string s)):=fun w' hb=>Zaa d0 hb
    obtain⟨L,Xu,Fi⟩:∃ L,Hid (L=nx s)/\Hid (∀ (c_ta:Option Addr) (c_tn:Nat) (c_tc:Nat) (c_fa:Option Addr) (c_fc:Nat) (c_da:Option Addr) (c_dn:Nat) (c_dc:Nat) (c_qa:Option Addr) (c_qn:Nat) (c_qc:Nat) (w:World),Below w0.heap.size w0 w->Zac Ft.cells 18 w c_fa F->Calls Tryz.prog 207 #[.agg #[.slice c_ta c_tn c_tc,.slice c_fa F.length c_fc,.slice c_da c_dn c_dc,.slice c_qa c_qn c_qc],.string s] w (fun e w'=>StrsR L w e w'/\L.length<=80)):=⟨_,hid rfl,HNA.out s⟩
    clear Jp hs
    go_upto_region 6 with fail
    refine wrt (S:=fun w'=>Below wr.heap.size wr w') (.free 0 (.free 1 (.free 2 (.free 3 (.free 4 (.one 5 (.free 6 .done))))))) (ZD (ZR wr)) ?_
    have Ca:=fun wq (hSw:(fun w'=>Below wr.heap.size wr w') wq)=>And.intro (HS.out wq (ZT HR.out hSw)) (Fo.out wq hSw)
    refine tk Ca (.agg #[.slice c_ta c_tn c_tc,.slice c_fa F.length c_fc,.slice c_da c_dn c_dc,.slice c_qa c_qn c_qc]) ?_
    refine tk Ca (.slice (some ⟨b7,o7,none⟩) NM.length c4) ?_
    refine tk Ca (.int .i64 i) ?_
    refine tk Ca (.pointer (some ⟨b7,o7+i,none⟩)) ?_
    refine tk Ca (.string s) ?_
    refine t1 fun K hK=>?_
    go_wp2_with (go_at_call 207;refine(Fi.out _ _ _ _ _ _ _ _ _ _ _ _ (Ga.out.trans (Below.mono (ZT HR.out bt) Ga.out.size)) (Bf.out.kept (ZT HR.out bt))).mono ?_;rintro e w5 ⟨⟨a5,c5,rfl,h5,hb⟩,Rv⟩;have HA5:=hid h5;have HM5:=hid Rv;have Db:Hid (Below wr.heap.size wr w5):=ZT bt hb;clear h5 hb Rv)
    refine hk hK Db.out ?_
    clear hK K
    refine tk Ca (.slice a5 L.length c5) ?_
    refine ZaP ?_
    go_wp2_with fail
    go_loopw [8,9] (fun v jj w2=>∃ (k:Nat) (l8:List Int) (v0:Value),v0=v/\k<=NM.length/\jj=.int .i64 k/\Hid (Own nC 1 3 w2 w5.heap.size v l8)/\l8.length<=k/\Hid (rw_ s=l8++Zbz (pb s) NM.length k)/\Hid (Below w5.heap.size w5 w2)) (fun _ jj _=>NM.length - (intOf jj).toNat)
    case atStart=>exact⟨0,[],_,rfl,by omega,rfl,Own.nil _ _,by simp,Kb.out s,ZR w5⟩
    case round =>
     obtain⟨k,l8,v8,rfl,hk,rfl,Fb,hl8,Wu,Ke⟩:=hrel
     rename World=>w2
     by_cases hlk:k<NM.length
     · obtain⟨s2,hs2⟩:∃ s2,NM[k]?=some s2:=⟨NM[k],List.getElem?_eq_getElem hlk⟩
       have d1:w2.cell? ⟨b7,o7+k,none⟩=some (.string s2):=Zaa (Zbs Ko.out hs2) (ZT Db.out Ke.out)
       have Mb:Hid (l8.length+[(k:Int)].length<=1000000000):=by show _<=_;simp;omega
       have hpk:=HPB.out s k s2 hs2
       obtain⟨b8,Av,Ks,Eo⟩:∃ b8:Bool,Hid (L.length<=80->∀ (a:Option Addr) (c:Nat) (w:World),StrsX w a c L->Calls Tryz.prog 208 #[.slice a L.length c,.string s2] w (RetB b8 w))/\Hid (b8=true->rw_ s=(l8++[(k:Int)])++Zbz (pb s) NM.length (k+1))/\Hid (b8=false->rw_ s=l8++Zbz (pb s) NM.length (k+1)) :=
        ⟨pb s k,hid (by rw[hpk,Xu.out];exact Xj.out (s,s2)),hid (fun e=>by rw[Wu.out,rowFrom_at hlk,if_pos e];simp),hid (fun e=>by rw[Wu.out,rowFrom_at hlk,if_neg (by rw[e];decide)];simp)⟩
       clear hs2 hpk Wu
       go_wp2_with (first|(go_at_call 208;refine(Av.out HM5.out _ _ _ (HA5.out.kept Ke.out)).mono ?_;rintro e w8 ⟨rfl,hb⟩;have Lf:Hid (Below w5.heap.size w5 w8):=ZT Ke.out hb;have Bn:=hid (Fb.out.kept hb);clear hb;cases b8)|(at_builtin;refine Zai elI encI rfl (.tmp 36) (.tmp 38) rfl rfl rfl (Bn.out.kept (Zab _)) (Zav (k:Int) _ encI) rfl (fun e=>by cases e) (Nat.le_trans Lf.out.size (Zab _).size) Mb.out ?_;intro v3 w3 ho hb;have Sb:=hid ho;have Yg:Hid (Below w5.heap.size w5 w3):=(Lf.out.alloc Lf.out.size _).trans hb;clear ho hb)|fail)
       all_goals
        go_roundw
       all_goals first
        |(case rel=>exact⟨k+1,l8,_,rfl,by omega,by go_num,Bn.out,by omega,Eo.out (by first|rfl|trivial),Lf.out⟩)
        |(case rel=>exact⟨k+1,l8++[(k:Int)],_,rfl,by omega,by go_num,Sb.out,by simp;omega,Ks.out (by first|rfl|trivial),Yg.out⟩)
        |(case measure=>simp[intOf];omega)
     · obtain⟨a8,c8,rfl,-,-,h8⟩:=Fb.out.lies encI
       have HL8:=Fb
       have Ma:=hid (HO.out.kept (ZT Db.out Ke.out))
       have Lh:Hid (rw_ s=l8):=by show _=_;rw[Wu.out,rowFrom_end (by omega),List.append_nil]
       clear h8
       have Zc:Hid (Below w4.heap.size w4 w2):=ZT Ze.out (ZT Db.out Ke.out)
       have HL:Hid (L5.length+[((a8,l8.length,c8):Sl)].length<=1000000000):=by show _<=_;simp;omega
       go_wp2_with (first|(at_builtin;refine ZbV elSl encSl rfl (.tmp 40) (.tmp 42) rfl rfl rfl (Ma.out.kept (Zab _)) (Zav (a8,l8.length,c8) _ encSl) rfl (fun e=>by cases e) (Nat.le_trans Zc.out.size (Zab _).size) HL.out ?_;intro v3 w3 ho hg hv;have Sb:=hid ho;have Ib:=hid hg;have Yg:Hid (Below w4.heap.size w4 w3):=(Zc.out.alloc Zc.out.size _).grown hg (Nat.le_trans Zc.out.size (Zab _).size) (fun k e=>(Own.lt Ma.out k e).1);clear ho hg hv)|fail)
       refine⟨⟨i+1,L5++[(a8,l8.length,c8)],_,rfl,by omega,by go_num,Sb.out,by simp;omega,hid (fun j u nm hu hn=>?_),Yg.out⟩,?_⟩
       · by_cases hj:j<L5.length
         · rw[List.getElem?_append_left hj]at hu
           exact(((HM.out j u nm hu hn).kept (ZT Db.out Ke.out)).kept (Zab _)).grown (Ma.out.kept (Zab _)) Ib.out
         · have Mp:j=L5.length:=by
             have:=(List.getElem?_eq_some_iff.1 hu).1
             simp at this
             omega
           subst Mp
           have Xf:u=(a8,l8.length,c8):=by simpa using hu.symm
           subst Xf
           have Pe:nm=s:=by rw[Qe,HSI.out]at hn;injection hn with hn;exact hn.symm
           subst Pe
           rw[Lh.out]
           exact RowX.grown ⟨rfl,(HL8.out.mono (Nat.le_trans Ze.out.size Db.out.size)).kept (Zab _)⟩ (Ma.out.kept (Zab _)) Ib.out
       · simp[intOf];omega
  · go_wp2_with fail
    obtain⟨a5,c5,rfl,-,-,h5⟩:=HO.out.lies encSl
    go_ret2
    obtain rfl:i=NM.length:=by omega
    have hRl:RR.length=NM.length:=by rw[<-Lh.out,List.length_map]
    have hg:GrR wr RR a5:=⟨fun r hr=>by
     rw[<-Lh.out,List.mem_map]at hr
     obtain⟨s,-,rfl⟩:=hr
     rw[hRl]
     exact Ui.out s,L5,by omega,h5,fun j s r hs hr=>by
     rw[<-Lh.out,List.getElem?_map]at hr
     cases hn:NM[j]? with
     |none=>rw[hn]at hr;cases hr
     |some nm =>
      rw[hn]at hr
      injection hr with hr
      subst hr
      exact⟨(HM.out j s nm hs hn).1,(HM.out j s nm hs hn).lies⟩⟩
    rw[Qe,<-hRl]
    refine⟨a4,c4,a5,c5,by rw[hRl];rfl,Du.out.kept Ze.out,hg,ZT Aa.out HR.out⟩
end Go.Proofs.YtfnpfkgmacaboaaGreat
