/- Texts joined by a program. -/
import Derived.Test.YtfnpfkgmacaboaaGreatM36
import Derived.Test.YtfnpfkgmacaboaaGreatM40
namespace Go.Proofs.YtfnpfkgmacaboaaGreat
open Lib (hid)
open Go.ChangeShapes Go.WideShapes Go.ChangeAt Go.RowKit
set_option linter.unusedVariables false
set_option linter.unusedSimpArgs false
set_option maxRecDepth 100000
set_option maxHeartbeats 4000000
theorem next_det (w0:World)(F:List Ft)(hfl:F.length<=100000)(hfok:∀ f∈F,f.Ok w0)(nm:ByteArray):∃ L:List ByteArray,∀ (c_ta:Option Addr) (c_tn:Nat) (c_tc:Nat) (c_fa:Option Addr) (c_fc:Nat) (c_da:Option Addr) (c_dn:Nat) (c_dc:Nat) (c_qa:Option Addr) (c_qn:Nat) (c_qc:Nat) (w:World),Below w0.heap.size w0 w->Zac Ft.cells 18 w c_fa F->Calls Tryz.prog 207 #[.agg #[.slice c_ta c_tn c_tc,.slice c_fa F.length c_fc,.slice c_da c_dn c_dc,.slice c_qa c_qn c_qc],.string nm] w (fun e w'=>StrsR L w e w'/\L.length<=80):=by
 obtain⟨f5,bf,Mj,hf⟩:=ZdX w0 F hfl hfok nm
 obtain⟨n5,Fh⟩:=Mj.2
 obtain⟨D,hD⟩:=direct_det w0 n5 80 f5.b Fh
 obtain⟨A,hA⟩:∃ A,A=(D [] []).1:=⟨_,rfl⟩
 have hd:=fun fa fc ta tc w h1 h2 h3=>hD [] [] fa fc ta tc w h1 h2 h3 (by simp) (by simp)
 rw[<-hA]at hd
 obtain⟨nb,hnb⟩:=pick (P:=fun(s:ByteArray) (b:Bool)=>∃ f:Ft,∀ (c_ta:Option Addr) (c_tn:Nat) (c_tc:Nat) (c_fa:Option Addr) (c_fc:Nat) (c_da:Option Addr) (c_dn:Nat) (c_dc:Nat) (c_qa:Option Addr) (c_qn:Nat) (c_qc:Nat) (w:World),Zac Ft.cells 18 w c_fa F->Calls Tryz.prog 217 #[.agg #[.slice c_ta c_tn c_tc,.slice c_fa F.length c_fc,.slice c_da c_dn c_dc,.slice c_qa c_qn c_qc],.string s] w (FindR f b w)) (fun s=>let ⟨f,b,_,h⟩:=ZdX w0 F hfl hfok s;⟨b,f,h⟩)
 obtain⟨R,hR⟩:∃ R,R=A.filter nb:=⟨_,rfl⟩
 refine⟨R,fun c_ta c_tn c_tc c_fa c_fc c_da c_dn c_dc c_qa c_qn c_qc w Oa hft=>?_⟩
 have HF:=hid hf
 have HD:=hid hd
 have Aj:=hid hnb
 have Af:=hid hR
 have Ja:=hid Oa
 have Be:=hid hft
 clear hf hd hnb hR Oa hft hfok Mj Fh hD hA
 go_enter Tryz.func207,Tryz.ntmps207
 go_upto_region 1 with fail
 refine gen1 (fun V B0 Aa=>?_)
 have HS:=hs1 B0
 simp only[Cl,Nat.reduceAdd]at HS
 have KK:=HS.out V (ZR V)
 have Bf:Hid (Zac Ft.cells 18 V c_fa F):=Be.out.kept Aa.out
 go_upto_region 2 with(first|(go_at_call 217;refine(HF.out _ _ _ _ _ _ _ _ _ _ _ _ (Bf.out.kept bt)).mono ?_;rintro e w5 ⟨rfl,hb⟩;have Db:Hid (Below V.heap.size V w5):=ZT bt hb;clear hb)|((with_reducible refine ZaK 44 ?_);refine Zbe rfl rfl 44 _ _ rfl rfl rfl (Ft.cells f5) rfl rfl (by kernel_rfl) (by rfl) V bt ?_;intro w8 hbx hbe hbl;have Za:=hid hbx;have Lf:Hid (Below V.heap.size V w8):=hbe;have Ha:Hid (∀ j v,(Ex.cells f5.b)[j]?=some v->w8.cell? ⟨w5.heap.size,5+j,none⟩=some v):=fun j v hj=>hbx.cell (5+j) v (ZaU (k:=5) (m:=12) hj rfl);clear hbx hbe hbl)|fail)
 go_upto_region 3 with(first|((with_reducible refine Zah 42 ?_);refine LV w5.heap.size 5 (Ex.cells f5.b) Ha.out ?_)|(go_at_call 218;refine(HD.out none 0 none 0 _ (Ja.out.trans (Below.mono (ZT Aa.out Lf.out) Ja.out.size)) (StrsX.nil _) (StrsX.nil _)).mono ?_;rintro e w6 ⟨a7,c7,a8,c8,rfl,h7,-,Qv,-,hb⟩;have HA7:=hid h7;have HM7:=hid Qv;have Qj:Hid (Below V.heap.size V w6):=ZT bt hb;clear h7 hb Qv)|fail)
 have HL7:=hid HA7.out.2.2
 go_wp2_with fail
 go_loopw [9,10] (fun v jj wr=>∃ (i:Nat) (l9:List ByteArray) (v0:Value),v0=v/\i<=A.length/\jj=.int .i64 i/\Hid (Own (fun s:ByteArray=>[Value.string s]) 1 9 wr w6.heap.size v l9)/\l9.length<=i/\Hid (R=l9++(A.drop i).filter nb)/\Hid (Below w6.heap.size w6 wr)) (fun _ jj _=>A.length - (intOf jj).toNat)
 case atStart=>exact⟨0,[],_,rfl,by omega,rfl,Own.nil _ _,by simp,Af,ZR w6⟩
 case round =>
  clear Af
  obtain⟨i,l9,v0,rfl,hi,rfl,HO,Vq,Af,Ze⟩:=hrel
  have HR:Hid (Below V.heap.size V wr):=ZT Qj.out Ze.out
  have KK:=HS.out _ HR.out
  have Qv:A.length<=80:=by have:=HM7.out;simpa using this
  by_cases hlt:i<A.length
  · obtain⟨s,hs⟩:∃ s,A[i]?=some s:=⟨A[i],List.getElem?_eq_getElem hlt⟩
    obtain⟨b7,o7,rfl,Jp⟩:=(HL7.out.kept Ze.out).some (by omega)
    have d0:=Zbs Jp hs
    have Fo:Hid (∀ w',Below wr.heap.size wr w'->w'.cell? ⟨b7,o7+i,none⟩=some (.string s)):=fun w' hb=>Zaa d0 hb
    have HL:Hid (l9.length+[s].length<=1000000000):=by show _<=_;simp;omega
    have hnx:=Aj.out s
    have Qs:Hid (nb s=true->R=(l9++[s])++(A.drop (i+1)).filter nb):=fun e=>by rw[Af.out,ZaD hs,List.filter_cons_of_pos e];simp
    have Ss:Hid (nb s=false->R=l9++(A.drop (i+1)).filter nb):=fun e=>by rw[Af.out,ZaD hs,List.filter_cons_of_neg (by rw[e];decide)]
    obtain⟨b5,g5,Fi,HRT,Zm⟩:∃ (b5:Bool) (g5:Ft),Hid (∀ (c_ta:Option Addr) (c_tn:Nat) (c_tc:Nat) (c_fa:Option Addr) (c_fc:Nat) (c_da:Option Addr) (c_dn:Nat) (c_dc:Nat) (c_qa:Option Addr) (c_qn:Nat) (c_qc:Nat) (w:World),Zac Ft.cells 18 w c_fa F->Calls Tryz.prog 217 #[.agg #[.slice c_ta c_tn c_tc,.slice c_fa F.length c_fc,.slice c_da c_dn c_dc,.slice c_qa c_qn c_qc],.string s] w (FindR g5 b5 w))/\Hid (b5=true->R=(l9++[s])++(A.drop (i+1)).filter nb)/\Hid (b5=false->R=l9++(A.drop (i+1)).filter nb):=let ⟨g,hg⟩:=hnx;⟨_,g,hg,Qs,Ss⟩
    clear Jp hs hnx Qs Ss Af
    go_upto_region 7 with fail
    refine wrt (S:=fun w'=>Below wr.heap.size wr w') (.free 0 (.free 1 (.free 2 (.free 3 (.free 4 (.two 5 (.free 6 (.free 7 (.free 8 (.one 9 (.one 10 (.free 11 .done)))))) 9 (.one 5 (.free 6 (.free 7 (.free 8 (.one 10 (.free 11 .done)))))))))))) (ZD (ZR wr)) ?_
    have Ca:=fun wq (hSw:(fun w'=>Below wr.heap.size wr w') wq)=>And.intro (HS.out wq (ZT HR.out hSw)) (Fo.out wq hSw)
    refine tk Ca (.agg #[.slice c_ta c_tn c_tc,.slice c_fa F.length c_fc,.slice c_da c_dn c_dc,.slice c_qa c_qn c_qc]) ?_
    refine tk Ca (.slice (some ⟨b7,o7,none⟩) A.length c7) ?_
    refine tk Ca (.int .i64 i) ?_
    refine tk Ca (.pointer (some ⟨b7,o7+i,none⟩)) ?_
    refine tk Ca (.string s) ?_
    refine ZeX ?p1 ?q1
    case' p1 =>
     refine t1 fun K hK=>?_
     go_wp2_with (go_at_call 217;refine(Fi.out _ _ _ _ _ _ _ _ _ _ _ _ (Bf.out.kept (ZT HR.out bt))).mono ?_;rintro e w5 ⟨rfl,hb⟩;have Db:Hid (Below wr.heap.size wr w5):=ZT bt hb;clear hb)
     refine hk hK Db.out ?_
     clear hK K
     refine tk Ca (.tuple #[.agg (Ft.cells g5).toArray,.bool b5]) ?_
     refine tk Ca (.agg (Ft.cells g5).toArray) ?_
     refine tk Ca (.bool b5) ?_
     refine t1 fun K hK=>?_
     refine Zed 44 rfl [.string ⟨#[]⟩,.string ⟨#[]⟩,.int .i64 0,.slice none 0 0,.string ⟨#[]⟩,.int .i64 0,.string ⟨#[]⟩,.string ⟨#[]⟩,.string ⟨#[]⟩,.int .i64 0,.int .i64 0,.string ⟨#[]⟩,.slice none 0 0,.int .i64 0,.int .i64 0,.int .i64 0,.slice none 0 0,.int .i64 0] (by kernel_rfl) ?_
     intro w9 hnb hbe
     have HN:=hid hnb
     have Zf:Hid (Below wr.heap.size wr w9):=ZT bt hbe
     refine hk hK Zf.out ?_
     clear hK K hnb hbe
     refine t1 fun K hK=>?_
     have Ab:=HN
     refine Zcn 44 _ _ rfl rfl _ 44 _ (Ft.cells g5) rfl rfl Ab.out (by kernel_rfl) (by rfl) (by rfl) wr bt (by first|exact Db.out.size|exact Nat.le_refl _) ?_
     intro w10 Ud Pb hot
     have Xb:Hid (Below wr.heap.size wr w10):=Pb
     refine hk hK Xb.out ?_
     clear hK K Ud Pb hot
     refine tk Ca (.bool b5) ?_
     refine ZaP ?_
    case' q1 =>
     refine t1 fun K hK=>?_
     refine Zed 44 rfl [.string ⟨#[]⟩,.string ⟨#[]⟩,.int .i64 0,.slice none 0 0,.string ⟨#[]⟩,.int .i64 0,.string ⟨#[]⟩,.string ⟨#[]⟩,.string ⟨#[]⟩,.int .i64 0,.int .i64 0,.string ⟨#[]⟩,.slice none 0 0,.int .i64 0,.int .i64 0,.int .i64 0,.slice none 0 0,.int .i64 0] (by kernel_rfl) ?_
     intro w9 hnb hbe
     have HN:=hid hnb
     have Zf:Hid (Below wr.heap.size wr w9):=ZT bt hbe
     refine hk hK Zf.out ?_
     clear hK K hnb hbe
     refine t1 fun K hK=>?_
     go_wp2_with (go_at_call 217;refine(Fi.out _ _ _ _ _ _ _ _ _ _ _ _ (Bf.out.kept (ZT HR.out bt))).mono ?_;rintro e w5 ⟨rfl,hb⟩;have Db:Hid (Below wr.heap.size wr w5):=ZT bt hb;have hKB:=hid hb;clear hb)
     refine hk hK Db.out ?_
     clear hK K
     refine tk Ca (.tuple #[.agg (Ft.cells g5).toArray,.bool b5]) ?_
     refine tk Ca (.agg (Ft.cells g5).toArray) ?_
     refine tk Ca (.bool b5) ?_
     refine t1 fun K hK=>?_
     have Ab:=hid (HN.out.kept hKB.out)
     refine Zcn 44 _ _ rfl rfl _ 44 _ (Ft.cells g5) rfl rfl Ab.out (by kernel_rfl) (by rfl) (by rfl) wr bt (by first|exact Db.out.size|exact Nat.le_refl _) ?_
     intro w10 Ud Pb hot
     have Xb:Hid (Below wr.heap.size wr w10):=Pb
     refine hk hK Xb.out ?_
     clear hK K Ud Pb hot
     refine tk Ca (.bool b5) ?_
     refine ZaP ?_
    all_goals
     have d0:=Fo.out _ Xb.out
     have Lw:Hid (Below V.heap.size V w10):=ZT HR.out Xb.out
     have Kg:Hid (Below w6.heap.size w6 w10):=ZT Ze.out Xb.out
     have Ma:=hid (HO.out.kept Xb.out)
     cases b5
     all_goals
      go_wp2_with (first|(at_builtin;refine Zai elS encS rfl (.tmp 41) (.tmp 46) rfl rfl rfl ((HO.out.kept Xb.out).kept (Zab _)) (Zav _ _ encS) rfl (fun e=>by cases e) (Nat.le_trans Kg.out.size (Zab _).size) HL.out ?_;intro v3 w3 ho hb;have Sb:=hid ho;have Zi:Hid (Below w6.heap.size w6 w3):=(Kg.out.alloc Kg.out.size _).trans hb;clear ho hb)|fail)
     all_goals
      go_roundw
     all_goals first
      |(case rel=>exact⟨i+1,l9,_,rfl,by omega,by go_num,Ma.out,by omega,Zm.out (by first|rfl|trivial),Kg.out⟩)
      |(case rel=>exact⟨i+1,l9++[s],_,rfl,by omega,by go_num,Sb.out,by simp;omega,HRT.out (by first|rfl|trivial),Zi.out⟩)
      |(case measure=>simp[intOf];omega)
  · have HT:Hid (R=l9):=by show _=_;rw[Af.out,List.drop_of_length_le (by omega)];simp
    go_wp2_with fail
    obtain⟨a5,c5,rfl,h5⟩:=StrsX.own HO.out
    go_ret
    exact⟨StrsR.of HT.out h5 (ZT Aa.out HR.out),by rw[HT.out];omega⟩
end Go.Proofs.YtfnpfkgmacaboaaGreat
