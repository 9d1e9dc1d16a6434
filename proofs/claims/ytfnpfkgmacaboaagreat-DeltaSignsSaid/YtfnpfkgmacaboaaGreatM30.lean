/- Texts joined by a program. -/
import Derived.Test.YtfnpfkgmacaboaaGreatM28
import Derived.Test.YtfnpfkgmacaboaaGreatM29
namespace Go.Proofs.YtfnpfkgmacaboaaGreat
open Go.Proofs.Tryz
open Lib (hid)
open Go.ChangeShapes Go.WideShapes Go.ChangeAt Go.RowKit
set_option linter.unusedVariables false
set_option linter.unusedSimpArgs false
set_option maxRecDepth 100000
set_option maxHeartbeats 4000000
theorem Zb2 (a:Option Addr)(n c:Nat)(f:Ft)(w0:World)(B:Nat)(hB:B<=100000)(w:World)(h:FtsC w0 B w a n c)(hf:f.Ok w0):Calls prog 185 #[.slice a n c,f.val] w (FtsPost w0 (B+1) w):=by
 obtain⟨⟨l,rfl,hl,hok,h1⟩,hlc,hcn⟩:=h
 have H0:=hid h1
 have HOK:=hid hok
 have HCN:=hid hcn
 have HFO:=hid hf
 clear h1 hok hcn hf
 dsimp only[Ft.val]
 go_enter func185,ntmps185
 go_upto_region 1 with(first|(refine Za9 rfl 44 (.tmp 1) rfl f.cells rfl ?_)|fail)
 refine Zam (fun V hV=>?_)
 have B0:Hid (Box V w.heap.size f.cells.toArray 44):=by rw[hV];exact Box.new _ _ _
 have HBV:Hid (Below w.heap.size w V):=by rw[hV];exact Zab _
 clear hV
 have HN:Hid (∀ w',Below V.heap.size V w'->w'.cell? ⟨w.heap.size,0,none⟩=some (.string f.m)):=fun w' h=>(B0.out.kept h).cell 0 _ rfl
 have HFC:Hid (∀ w',Below V.heap.size V w'->∀ j v,f.cells[j]?=some v->w'.cell? ⟨w.heap.size,0+j,none⟩=some v):=fun w' h j v hj=>by rw[Nat.zero_add];exact(B0.out.kept h).cell j v (by rw[List.getElem?_toArray];exact hj)
 have H:Hid (Zaf Ft.cells 18 V a l):=H0.out.kept HBV.out
 go_wp2_with fail
 go_loopw [5] (fun v wr=>∃ j:Nat,j<=l.length/\v=.int .i64 j/\Hid (Below V.heap.size V wr)) (fun v _=>l.length - (intOf v).toNat)
 case atStart=>exact⟨0,by omega,rfl,ZR V⟩
 case round =>
  obtain⟨j,hj,rfl,HR⟩:=hrel
  rename World=>wr
  have k0:=HN.out _ HR.out
  by_cases hjl:j<l.length
  · obtain⟨x,hx⟩:∃ x,l[j]?=some x:=⟨l[j],List.getElem?_eq_getElem hjl⟩
    obtain⟨b1,o1,rfl,hr1⟩:=(H.out.kept HR.out).some (by omega)
    have d0:=Ft.name hr1 hx
    clear hr1 hx
    have hd:decide ((j:Int)<(l.length:Int))=true:=by simpa using hjl
    go_upto_region 2 with fail
    go_quiet (fail)
    go_upto_region 4 with fail
    all_goals first
     |(refine⟨⟨j+1,by omega,by go_num,Zag HR.out _⟩,?_⟩;(simp[intOf];omega))
     |skip
    all_goals
     refine Zam (fun W hW=>?_)
     have HRW:Hid (Below V.heap.size V W):=by rw[hW];repeat(first|exact HR.out|refine Zag ?_ _)
     clear hW
     have hcu:=fun w=>ZbY elFt (some ⟨b1,o1,none⟩) l.length c j (by omega) w
     obtain⟨A,hcf,hA1,hA2⟩:=ZbZ elFt (some ⟨b1,o1,none⟩) l.length c j hj
     have HLT:=hid (H.out.take j)
     have HLD:=hid (ZbH H.out hlc hA2)
     have HTL:Hid (j=(l.take j).length):=by show _=_;simp;omega
     have HDL:Hid (l.length - j=(l.drop j).length):=by show _=_;simp
     have HL1:Hid (([]:List Ft).length+(l.take j).length<=1000000000):=by show _<=_;simp;omega
     have HL2:Hid (([]++l.take j).length+[f].length<=1000000000):=by show _<=_;simp;omega
     have HL3:Hid (([]++l.take j++[f]).length+(l.drop j).length<=1000000000):=by show _<=_;simp;omega
     have HL4:Hid (([]++l.take j++[f]++l.drop j).length<=B+1):=by show _<=_;simp;omega
     have HOK2:Hid (∀ t∈[]++l.take j++[f]++l.drop j,t.Ok w0):=fun t ht=>by
      simp only[List.nil_append,List.mem_append,List.mem_singleton]at ht
      rcases ht with(ht|ht)|ht
      · exact HOK.out t (List.mem_of_mem_take ht)
      · rw[ht];exact HFO.out
      · exact HOK.out t (List.mem_of_mem_drop ht)
     have HO1:Hid (Own Ft.cells 18 44 (W.alloc (.cells #[] 44)) V.heap.size (.slice (some ⟨W.heap.size,0,none⟩) 0 0) []):=Own.lit HRW.out.size
     have HX1:Hid (Below V.heap.size V (W.alloc (.cells #[] 44))):=HRW.out.alloc HRW.out.size _
     clear hA1 hA2
     go_upto_region 5 with(first|(at_builtin;refine Za2 elFt encFt rfl (.tmp 23) (.tmp 26) rfl rfl rfl HO1.out (HLT.out.kept HX1.out) HTL.out HX1.out.size HL1.out ?_;intro v2 w2 ho hb;have HO2:=hid ho;have HX2:Hid (Below V.heap.size V w2):=HX1.out.trans hb;clear ho hb)|fail)
     refine ZaI (S:=fun w'=>Below V.heap.size V w') (.free 0 (.free 1 (.free 4 (.free 5 (.free 6 (.one 2 (.one 3 (.one 7 (.free 8 .done))))))))) (by kernel_rfl) (by kernel_rfl) (fun _ _ _ _ _ h=>h) (by kernel_rfl) (by kernel_rfl) (ZD HX2.out) ?_
     refine Zac _ (v2) rfl (by rfl) (by intro wq hSw;skip;go_simp) ?_
     try simp only[Act.put,m1,m2,m3]
     refine ZbV _ rfl (by rfl) 44 _ rfl w.heap.size 0 f.cells rfl (fun w hS=>HFC.out w hS) _ underlying44 rfl (by kernel_rfl) ?_
     intro v1 hv1
     subst hv1
     try simp only[Act.put,m1,m2,m3]
     refine Zac _ (.slice (some ⟨b1,o1,none⟩) l.length c) rfl (by rfl) (by intro wq hSw;skip;go_simp) ?_
     try simp only[Act.put,m1,m2,m3]
     refine Zac _ (.int .i64 j) rfl (by rfl) (by intro wq hSw;skip;go_simp) ?_
     try simp only[Act.put,m1,m2,m3]
     refine Zac _ (.slice A (l.length - j) (c - j)) rfl (by rfl) (by intro wq hSw;skip;go_simp) ?_
     try simp only[Act.put,m1,m2,m3]
     refine ZaN _ rfl (by rfl) (fun K hK=>?_)
     refine Zfm elFt (by decide) _ rfl f.cells rfl rfl ?_
     refine hK.out _ _ (ZA (ZD HX2.out) _) (fun hHeld=>?_)
     clear hK K
     try simp only[Act.put,m1,m2,m3]
     refine ZaN _ rfl (by rfl) (fun K hK=>?_)
     refine Zc6 (v:=v2) (l:=[]++l.take j) (m:=[f]) (n:=1) (c:=1) (ao:=some ⟨w2.drew.heap.size,0,none⟩) (B:=V.heap.size) elFt encFt (.tmp 28) (.tmp 30) (by rfl) (by rfl) (by rfl) ((HO2.out.kept (ZD (ZR _))).kept (Zab _)) (ZaG f _ encFt) rfl (Nat.le_trans (ZD HX2.out).size (Zab _).size) HL2.out ?_
     intro v3 w3 ho hb
     have HO3:=hid ho
     have HX3:Hid (Below V.heap.size V w3):=(ZA (ZD HX2.out) _).trans hb
     refine hK.out _ _ HX3.out (fun hHeld=>?_)
     clear hK K ho hb
     try simp only[Act.put,m1,m2,m3]
     refine ZaN _ rfl (by rfl) (fun K hK=>?_)
     refine Zc6 elFt encFt (.tmp 31) (.tmp 34) rfl rfl rfl HO3.out (HLD.out.kept HX3.out) HDL.out HX3.out.size HL3.out ?_
     intro v4 w4 ho hb
     have HO4:=hid ho
     have HX4:Hid (Below V.heap.size V w4):=HX3.out.trans hb
     refine hK.out _ _ HX4.out (fun hHeld=>?_)
     clear hK K ho hb
     try simp only[Act.put,m1,m2,m3]
     refine Zac _ (v4) rfl (by rfl) (by intro wq hSw;skip;go_simp) ?_
     try simp only[Act.put,m1,m2,m3]
     refine Zbb ?_
     obtain⟨a5,c5,rfl,h5⟩:=FtsC.own HO4.out HL4.out HOK2.out
     go_wp2_with fail
     go_ret
     exact⟨_,_,_,rfl,h5,ZT HBV.out HX4.out⟩
  · have hd:decide ((j:Int)<(l.length:Int))=false:=by simpa using hjl
    go_upto_region 2 with fail
    go_quiet (fail)
    go_upto_region 4 with fail
    refine Zam (fun W hW=>?_)
    have HRW:Hid (Below V.heap.size V W):=by rw[hW];repeat(first|exact HR.out|refine Zag ?_ _)
    clear hW
    have hcu:=fun w=>ZbY elFt a l.length c j (by omega) w
    obtain⟨A,hcf,hA1,hA2⟩:=ZbZ elFt a l.length c j hj
    have HLT:=hid (H.out.take j)
    have HLD:=hid (ZbH H.out hlc hA2)
    have HTL:Hid (j=(l.take j).length):=by show _=_;simp;omega
    have HDL:Hid (l.length - j=(l.drop j).length):=by show _=_;simp
    have HL1:Hid (([]:List Ft).length+(l.take j).length<=1000000000):=by show _<=_;simp;omega
    have HL2:Hid (([]++l.take j).length+[f].length<=1000000000):=by show _<=_;simp;omega
    have HL3:Hid (([]++l.take j++[f]).length+(l.drop j).length<=1000000000):=by show _<=_;simp;omega
    have HL4:Hid (([]++l.take j++[f]++l.drop j).length<=B+1):=by show _<=_;simp;omega
    have HOK2:Hid (∀ t∈[]++l.take j++[f]++l.drop j,t.Ok w0):=fun t ht=>by
     simp only[List.nil_append,List.mem_append,List.mem_singleton]at ht
     rcases ht with(ht|ht)|ht
     · exact HOK.out t (List.mem_of_mem_take ht)
     · rw[ht];exact HFO.out
     · exact HOK.out t (List.mem_of_mem_drop ht)
    have HO1:Hid (Own Ft.cells 18 44 (W.alloc (.cells #[] 44)) V.heap.size (.slice (some ⟨W.heap.size,0,none⟩) 0 0) []):=Own.lit HRW.out.size
    have HX1:Hid (Below V.heap.size V (W.alloc (.cells #[] 44))):=HRW.out.alloc HRW.out.size _
    clear hA1 hA2
    go_upto_region 5 with(first|(at_builtin;refine Za2 elFt encFt rfl (.tmp 23) (.tmp 26) rfl rfl rfl HO1.out (HLT.out.kept HX1.out) HTL.out HX1.out.size HL1.out ?_;intro v2 w2 ho hb;have HO2:=hid ho;have HX2:Hid (Below V.heap.size V w2):=HX1.out.trans hb;clear ho hb)|fail)
    refine ZaI (S:=fun w'=>Below V.heap.size V w') (.free 0 (.free 1 (.free 4 (.free 5 (.free 6 (.one 2 (.one 3 (.one 7 (.free 8 .done))))))))) (by kernel_rfl) (by kernel_rfl) (fun _ _ _ _ _ h=>h) (by kernel_rfl) (by kernel_rfl) (ZD HX2.out) ?_
    refine Zac _ (v2) rfl (by rfl) (by intro wq hSw;skip;go_simp) ?_
    try simp only[Act.put,m1,m2,m3]
    refine ZbV _ rfl (by rfl) 44 _ rfl w.heap.size 0 f.cells rfl (fun w hS=>HFC.out w hS) _ underlying44 rfl (by kernel_rfl) ?_
    intro v1 hv1
    subst hv1
    try simp only[Act.put,m1,m2,m3]
    refine Zac _ (.slice a l.length c) rfl (by rfl) (by intro wq hSw;skip;go_simp) ?_
    try simp only[Act.put,m1,m2,m3]
    refine Zac _ (.int .i64 j) rfl (by rfl) (by intro wq hSw;skip;go_simp) ?_
    try simp only[Act.put,m1,m2,m3]
    refine Zac _ (.slice A (l.length - j) (c - j)) rfl (by rfl) (by intro wq hSw;skip;go_simp) ?_
    try simp only[Act.put,m1,m2,m3]
    refine ZaN _ rfl (by rfl) (fun K hK=>?_)
    refine Zfm elFt (by decide) _ rfl f.cells rfl rfl ?_
    refine hK.out _ _ (ZA (ZD HX2.out) _) (fun hHeld=>?_)
    clear hK K
    try simp only[Act.put,m1,m2,m3]
    refine ZaN _ rfl (by rfl) (fun K hK=>?_)
    refine Zc6 (v:=v2) (l:=[]++l.take j) (m:=[f]) (n:=1) (c:=1) (ao:=some ⟨w2.drew.heap.size,0,none⟩) (B:=V.heap.size) elFt encFt (.tmp 28) (.tmp 30) (by rfl) (by rfl) (by rfl) ((HO2.out.kept (ZD (ZR _))).kept (Zab _)) (ZaG f _ encFt) rfl (Nat.le_trans (ZD HX2.out).size (Zab _).size) HL2.out ?_
    intro v3 w3 ho hb
    have HO3:=hid ho
    have HX3:Hid (Below V.heap.size V w3):=(ZA (ZD HX2.out) _).trans hb
    refine hK.out _ _ HX3.out (fun hHeld=>?_)
    clear hK K ho hb
    try simp only[Act.put,m1,m2,m3]
    refine ZaN _ rfl (by rfl) (fun K hK=>?_)
    refine Zc6 elFt encFt (.tmp 31) (.tmp 34) rfl rfl rfl HO3.out (HLD.out.kept HX3.out) HDL.out HX3.out.size HL3.out ?_
    intro v4 w4 ho hb
    have HO4:=hid ho
    have HX4:Hid (Below V.heap.size V w4):=HX3.out.trans hb
    refine hK.out _ _ HX4.out (fun hHeld=>?_)
    clear hK K ho hb
    try simp only[Act.put,m1,m2,m3]
    refine Zac _ (v4) rfl (by rfl) (by intro wq hSw;skip;go_simp) ?_
    try simp only[Act.put,m1,m2,m3]
    refine Zbb ?_
    obtain⟨a5,c5,rfl,h5⟩:=FtsC.own HO4.out HL4.out HOK2.out
    go_wp2_with fail
    go_ret
    exact⟨_,_,_,rfl,h5,ZT HBV.out HX4.out⟩
theorem newest_any (c_ta:Option Addr)(c_tn:Nat)(c_tc:Nat)(c_fa:Option Addr)(c_fn:Nat)(c_fc:Nat)(c_da:Option Addr)(c_dn:Nat)(c_dc:Nat)(c_qa:Option Addr)(c_qn:Nat)(c_qc:Nat)(nm:ByteArray)(w:World)(w0:World)(B:Nat)(hB:B<=100000)(h:CatW w0 B w c_ta c_tn c_fa c_fn c_da c_dn c_qa c_qn):Calls prog 184 #[.agg #[.slice c_ta c_tn c_tc,.slice c_fa c_fn c_fc,.slice c_da c_dn c_dc,.slice c_qa c_qn c_qc],.string nm] w (GotI w):=by
 obtain⟨lf,rfl,hlf,hokf,hf⟩:=h.f
 obtain⟨ld,rfl,hld,hokd,hd⟩:=h.d
 obtain⟨lq,rfl,hlq,hokq,hq⟩:=h.q
 have HF0:=hid hf
 have HD0:=hid hd
 have HQ0:=hid hq
 clear hf hd hq hokf hokd hokq h
 go_enter func184,ntmps184
 go_upto_region 1 with fail
 refine Zam (fun V hV=>?_)
 have B0:Hid (Box V w.heap.size #[.slice c_ta c_tn c_tc,.slice c_fa lf.length c_fc,.slice c_da ld.length c_dc,.slice c_qa lq.length c_qc] 118):=by rw[hV];exact ZaE _ _ _
 have HBV:Hid (Below w.heap.size w V):=by rw[hV];exact(by repeat first|exact ZR _|refine ZA ?_ _)
 clear hV
 have HS:Hid (∀ w',Below V.heap.size V w'->w'.cell? ⟨w.heap.size,0,none⟩=some (.slice c_ta c_tn c_tc)/\w'.cell? ⟨w.heap.size,1,none⟩=some (.slice c_fa lf.length c_fc)/\w'.cell? ⟨w.heap.size,2,none⟩=some (.slice c_da ld.length c_dc)/\w'.cell? ⟨w.heap.size,3,none⟩=some (.slice c_qa lq.length c_qc)):=fun w' h=>⟨(B0.out.kept h).cell 0 _ rfl,(B0.out.kept h).cell 1 _ rfl,(B0.out.kept h).cell 2 _ rfl,(B0.out.kept h).cell 3 _ rfl⟩
 obtain⟨k0_0,k0_1,k0_2,k0_3⟩:=HS.out V (ZR V)
 have HF:Hid (Zaf Ft.cells 18 V c_fa lf):=HF0.out.kept HBV.out
 have HD:Hid (Zaf Ft.cells 18 V c_da ld):=HD0.out.kept HBV.out
 have HQ:Hid (Zaf Ft.cells 18 V c_qa lq):=HQ0.out.kept HBV.out
 have HL1:Hid (([]:List Ft).length+lf.length<=1000000000):=by show _<=_;simp;omega
 have HL2:Hid (([]++lf).length+ld.length<=1000000000):=by show _<=_;simp;omega
 have HL3:Hid (([]++lf++ld).length+lq.length<=1000000000):=by show _<=_;simp;omega
 have HL4:Hid (([]++lf++ld++lq).length<=1000000000):=by show _<=_;simp;omega
 refine ZaI (S:=fun w'=>Below V.heap.size V w') (.free 1 (.free 2 (.free 4 (.free 5 (.free 7 (.free 8 (.one 0 (.one 3 (.one 6 (.one 9 (.free 10 .done))))))))))) (by kernel_rfl) (by kernel_rfl) (fun _ _ _ _ _ h=>h) (by kernel_rfl) (by kernel_rfl) (ZD (ZR V)) ?_
 refine Zac _ (.pointer (some ⟨w.heap.size,1,none⟩)) rfl (by rfl) (by intro wq hSw;have KQ:=HS.out wq hSw;obtain⟨k0_0,k0_1,k0_2,k0_3⟩:=KQ;go_simp) ?_
 try simp only[Act.put,m1,m2,m3]
 refine Zac _ (.slice c_fa lf.length c_fc) rfl (by rfl) (by intro wq hSw;have KQ:=HS.out wq hSw;obtain⟨k0_0,k0_1,k0_2,k0_3⟩:=KQ;go_simp) ?_
 try simp only[Act.put,m1,m2,m3]
 refine Zac _ (.pointer (some ⟨w.heap.size,2,none⟩)) rfl (by rfl) (by intro wq hSw;have KQ:=HS.out wq hSw;obtain⟨k0_0,k0_1,k0_2,k0_3⟩:=KQ;go_simp) ?_
 try simp only[Act.put,m1,m2,m3]
 refine Zac _ (.slice c_da ld.length c_dc) rfl (by rfl) (by intro wq hSw;have KQ:=HS.out wq hSw;obtain⟨k0_0,k0_1,k0_2,k0_3⟩:=KQ;go_simp) ?_
 try simp only[Act.put,m1,m2,m3]
 refine Zac _ (.pointer (some ⟨w.heap.size,3,none⟩)) rfl (by rfl) (by intro wq hSw;have KQ:=HS.out wq hSw;obtain⟨k0_0,k0_1,k0_2,k0_3⟩:=KQ;go_simp) ?_
 try simp only[Act.put,m1,m2,m3]
 refine Zac _ (.slice c_qa lq.length c_qc) rfl (by rfl) (by intro wq hSw;have KQ:=HS.out wq hSw;obtain⟨k0_0,k0_1,k0_2,k0_3⟩:=KQ;go_simp) ?_
 try simp only[Act.put,m1,m2,m3]
 refine ZaN _ rfl (by rfl) (fun K hK=>?_)
 go_wp2_with fail
 have HX1:Hid (Below V.heap.size V (V.drew.alloc (.cells #[] 44))):=ZA (ZD (ZR V)) _
 have HO1:Hid (Own Ft.cells 18 44 (V.drew.alloc (.cells #[] 44)) V.heap.size (.slice (some ⟨V.drew.heap.size,0,none⟩) 0 0) []):=Own.lit (ZD (ZR V)).size
 refine hK.out _ _ HX1.out (fun hHeld=>?_)
 clear hK K
 try simp only[Act.put,m1,m2,m3]
 refine ZaN _ rfl (by rfl) (fun K hK=>?_)
 refine Zc6 elFt encFt (.tmp 8) (.tmp 10) rfl rfl rfl HO1.out (HF.out.kept HX1.out) rfl HX1.out.size HL1.out ?_
 intro v2 w2 ho hb
 have HO2:=hid ho
 have HX2:Hid (Below V.heap.size V w2):=(HX1.out).trans hb
 refine hK.out _ _ HX2.out (fun hHeld=>?_)
 clear hK K ho hb
 try simp only[Act.put,m1,m2,m3]
 refine ZaN _ rfl (by rfl) (fun K hK=>?_)
 refine Zc6 elFt encFt (.tmp 11) (.tmp 13) rfl rfl rfl HO2.out (HD.out.kept HX2.out) rfl HX2.out.size HL2.out ?_
 intro v3 w3 ho hb
 have HO3:=hid ho
 have HX3:Hid (Below V.heap.size V w3):=(HX2.out).trans hb
 refine hK.out _ _ HX3.out (fun hHeld=>?_)
 clear hK K ho hb
 try simp only[Act.put,m1,m2,m3]
 refine ZaN _ rfl (by rfl) (fun K hK=>?_)
 refine Zc6 elFt encFt (.tmp 14) (.tmp 16) rfl rfl rfl HO3.out (HQ.out.kept HX3.out) rfl HX3.out.size HL3.out ?_
 intro v4 w4 ho hb
 have HO4:=hid ho
 have HX4:Hid (Below V.heap.size V w4):=(HX3.out).trans hb
 refine hK.out _ _ HX4.out (fun hHeld=>?_)
 clear hK K ho hb
 try simp only[Act.put,m1,m2,m3]
 refine Zac _ (v4) rfl (by rfl) (by intro wq hSw;have KQ:=HS.out wq hSw;obtain⟨k0_0,k0_1,k0_2,k0_3⟩:=KQ;go_simp) ?_
 try simp only[Act.put,m1,m2,m3]
 refine Zbb ?_
 obtain⟨a5,c5,rfl,-,-,hl5⟩:=HO4.out.lies encFt
 have H5:=hid hl5
 clear hl5
 generalize []++lf++ld++lq=L at *
 go_wp2_with fail
 go_loop [6,7] (fun u v=>∃ (i:Nat) (k:Int),i<=L.length/\v=.int .i64 i/\u=.int .i64 k) (fun _ v=>L.length - (intOf v).toNat)
 case atStart=>exact⟨0,0,by omega,rfl,rfl⟩
 case round =>
  obtain⟨i,k,hi,rfl,rfl⟩:=hrel
  have hll:=HL4.out
  by_cases hlt:i<L.length
  · obtain⟨x,hx⟩:∃ x,L[i]?=some x:=⟨L[i],List.getElem?_eq_getElem hlt⟩
    obtain⟨b1,o1,rfl,hr1⟩:=H5.out.some (by omega)
    have c0:=Ft.name hr1 hx
    have c17:=hr1 i x hx 17 _ rfl
    clear hr1 hx
    go_wp2_with fail
    all_goals(go_round;(case rel=>exact⟨i+1,_,by omega,by go_num,rfl⟩);(case measure=>simp[intOf];omega))
  · go_wp2_with fail
    go_ret
    exact⟨_,rfl,ZT HBV.out HX4.out⟩
theorem ZcO (w:World):(Instr.build 118 (#[]:Array (Nat × Value))).run prog w=.ok (.agg #[.slice none 0 0,.slice none 0 0,.slice none 0 0,.slice none 0 0]) w:=by
 simp[Instr.build,Tryz.zeroValue118,underlying118,Program.fieldsOf,Instr.fill,go_sem]
theorem build32 (w:World):(Instr.build 32 (#[]:Array (Nat × Value))).run prog w=.ok (.agg #[.string ⟨#[]⟩,.string ⟨#[]⟩,.slice none 0 0,.int .i64 0]) w:=by
 simp[Instr.build,Tryz.zeroValue32,underlying32,Program.fieldsOf,Instr.fill,go_sem]
structure TbsC (w0:World) (B:Nat) (w:World) (a:Option Addr) (n c:Nat):Prop where
 lies:TbsW w0 B w a n
 cap:n<=c
 zero:a=none->c=0
theorem TbsC.kept {w0:World}{B:Nat}{w w':World}{a:Option Addr}{n c:Nat}(h:TbsC w0 B w a n c)(hb:Below w.heap.size w w'):TbsC w0 B w' a n c:=⟨h.lies.kept hb,h.cap,h.zero⟩
theorem TbsC.nil (w0:World)(B:Nat)(w:World):TbsC w0 B w none 0 0:=⟨TbsW.nil _ _ _ _,Nat.le_refl _,fun _=>rfl⟩
theorem TbsC.own {w0 w:World}{B C:Nat}{v:Value}{l:List Tb}(h:Own Tb.cells 4 32 w B v l)(hl:l.length<=C)(hok:∀ t∈l,FdsAt w0 t.fa t.fn):∃ a c,v=.slice a l.length c/\TbsC w0 C w a l.length c :=
 let ⟨a,c,h1,h2,h3,h4⟩:=h.lies encT;⟨a,c,h1,⟨l,rfl,hl,hok,h4⟩,h2,h3⟩
theorem TbsC.mono {w0:World}{B C:Nat}{w:World}{a:Option Addr}{n c:Nat}(h:TbsC w0 B w a n c)(hB:B<=C):TbsC w0 C w a n c:=⟨let ⟨l,h1,h2,h3⟩:=h.lies;⟨l,h1,by omega,h3⟩,h.cap,h.zero⟩
theorem FtsC.mono {w0:World}{B C:Nat}{w:World}{a:Option Addr}{n c:Nat}(h:FtsC w0 B w a n c)(hB:B<=C):FtsC w0 C w a n c:=⟨let ⟨l,h1,h2,h3⟩:=h.lies;⟨l,h1,by omega,h3⟩,h.cap,h.zero⟩
def NoStr (cs:Array Value):Prop:=∀ v∈cs.toList,∀ s,v≠.string s
theorem strs_off {w:World}{g:Nat}{cs:Array Value}{t:TypeId}(hg:Box w g cs t)(hcs:NoStr cs){b off:Nat}{s:ByteArray}(h:w.cell? ⟨b,off,none⟩=some (.string s)):b≠g:=by
 intro e
 subst e
 simp only[World.cell?,show w.heap[b]?=_ from hg]at h
 have hm:(.string s:Value)∈cs.toList:=by
  have h2:cs[off]?=some (.string s):=by simpa using h
  obtain⟨hi,he⟩:=Array.getElem?_eq_some_iff.1 h2
  rw[<-he]
  exact Array.getElem_mem_toList hi
 exact hcs _ hm s rfl
theorem FtsC.put {w0:World}{B:Nat}{w w':World}{a:Option Addr}{n c g:Nat}{cs:Array Value}{t:TypeId}(h:FtsC w0 B w a n c)(hg:Box w g cs t)(hcs:NoStr cs)(hot:∀ k,k≠g->w'.heap[k]?=w.heap[k]?):FtsC w0 B w' a n c:=by
 obtain⟨⟨l,rfl,hl,hok,h1⟩,h2,h3⟩:=h
 refine⟨⟨l,rfl,hl,hok,?_⟩,h2,h3⟩
 rcases h1 with h1|⟨b,off,rfl,hr⟩
 · exact Or.inl h1
 · cases l with
   |nil=>exact Or.inl rfl
   |cons x l =>
    have hb:b≠g:=strs_off hg hcs (s:=x.m) (hr 0 x rfl 0 _ rfl)
    exact Or.inr ⟨b,off,rfl,hr.same (hot b hb)⟩
theorem TbsC.put {w0:World}{B:Nat}{w w':World}{a:Option Addr}{n c g:Nat}{cs:Array Value}{t:TypeId}(h:TbsC w0 B w a n c)(hg:Box w g cs t)(hcs:NoStr cs)(hot:∀ k,k≠g->w'.heap[k]?=w.heap[k]?):TbsC w0 B w' a n c:=by
 obtain⟨⟨l,rfl,hl,hok,h1⟩,h2,h3⟩:=h
 refine⟨⟨l,rfl,hl,hok,?_⟩,h2,h3⟩
 rcases h1 with h1|⟨b,off,rfl,hr⟩
 · exact Or.inl h1
 · cases l with
   |nil=>exact Or.inl rfl
   |cons x l =>
    have hb:b≠g:=strs_off hg hcs (s:=x.m) (hr 0 x rfl 0 _ rfl)
    exact Or.inr ⟨b,off,rfl,hr.same (hot b hb)⟩
theorem ZbS (a b c d:Option Addr)(x1 x2 y1 y2 z1 z2 u1 u2:Nat):NoStr #[.slice a x1 x2,.slice b y1 y2,.slice c z1 z2,.slice d u1 u2]:=by
 intro v hv s e
 subst e
 simp at hv
structure Ct where
 ta:Option Addr
 tn:Nat
 tc:Nat
 fa:Option Addr
 fn:Nat
 fc:Nat
 da:Option Addr
 dn:Nat
 dc:Nat
 qa:Option Addr
 qn:Nat
 qc:Nat
abbrev Ct.val (c:Ct):Value:=.agg #[.slice c.ta c.tn c.tc,.slice c.fa c.fn c.fc,.slice c.da c.dn c.dc,.slice c.qa c.qn c.qc]
structure Ct.Ok (w0:World) (B:Nat) (w:World) (c:Ct):Prop where
 t:TbsC w0 B w c.ta c.tn c.tc
 f:FtsC w0 B w c.fa c.fn c.fc
 d:FtsC w0 B w c.da c.dn c.dc
 q:FtsC w0 B w c.qa c.qn c.qc
theorem Ct.Ok.kept {w0:World}{B:Nat}{w w':World}{c:Ct}(h:c.Ok w0 B w)(hb:Below w.heap.size w w'):c.Ok w0 B w':=⟨h.t.kept hb,h.f.kept hb,h.d.kept hb,h.q.kept hb⟩
theorem Ct.Ok.mono {w0:World}{B C:Nat}{w:World}{c:Ct}(h:c.Ok w0 B w)(hB:B<=C):c.Ok w0 C w:=⟨h.t.mono hB,h.f.mono hB,h.d.mono hB,h.q.mono hB⟩
theorem Ct.Ok.put {w0:World}{B:Nat}{w w':World}{c:Ct}{g:Nat}{cs:Array Value}{t:TypeId}(h:c.Ok w0 B w)(hg:Box w g cs t)(hcs:NoStr cs)(hot:∀ k,k≠g->w'.heap[k]?=w.heap[k]?):c.Ok w0 B w':=⟨h.t.put hg hcs hot,h.f.put hg hcs hot,h.d.put hg hcs hot,h.q.put hg hcs hot⟩
theorem Ct.Ok.w {w0:World}{B:Nat}{w:World}{c:Ct}(h:c.Ok w0 B w):CatW w0 B w c.ta c.tn c.fa c.fn c.da c.dn c.qa c.qn:=⟨h.t.lies,h.f.lies,h.d.lies,h.q.lies⟩
def Ct.zero:Ct:=⟨none,0,0,none,0,0,none,0,0,none,0,0⟩
theorem Ct.zero_ok (w0:World)(B:Nat)(w:World):Ct.zero.Ok w0 B w:=⟨TbsC.nil _ _ _,FtsC.nil _ _ _,FtsC.nil _ _ _,FtsC.nil _ _ _⟩
def Ct.cells (c:Ct):List Value:=[.slice c.ta c.tn c.tc,.slice c.fa c.fn c.fc,.slice c.da c.dn c.dc,.slice c.qa c.qn c.qc]
structure Cs (w0 w:World) (B g r:Nat) (c:Ct) (W:World):Prop where
 box:Box W g c.cells.toArray 118
 res:Box W r #[.slice none 0 0,.slice none 0 0,.slice none 0 0,.slice none 0 0] 118
 ok:c.Ok w0 B W
 below:Below w.heap.size w W
 old:Below w0.heap.size w0 w
 hg:w.heap.size<=g
 hr:w.heap.size<=r
 ne:r≠g
section
variable {w0 w W W':World} {B B' g r:Nat} {c c':Ct}
theorem Cs.kept (h:Cs w0 w B g r c W)(hb:Below W.heap.size W W'):Cs w0 w B g r c W':=⟨h.box.kept hb,h.res.kept hb,h.ok.kept hb,ZT h.below hb,h.old,h.hg,h.hr,h.ne⟩
theorem Cs.wz (h:Cs w0 w B g r c W):Below w0.heap.size w0 W:=h.old.trans (h.below.mono h.old.size)
theorem Cs.q {ta:Option Addr}{tn tc:Nat}{fa:Option Addr}{fn fc:Nat}{da:Option Addr}{dn dc:Nat}{qa:Option Addr}{qn qc:Nat}(h:Cs w0 w B g r ⟨ta,tn,tc,fa,fn,fc,da,dn,dc,qa,qn,qc⟩ W) :
 W.cell? ⟨g,0,none⟩=some (.slice ta tn tc)/\W.cell? ⟨g,1,none⟩=some (.slice fa fn fc)/\W.cell? ⟨g,2,none⟩=some (.slice da dn dc)/\W.cell? ⟨g,3,none⟩=some (.slice qa qn qc) :=
 ⟨h.box.cell 0 _ rfl,h.box.cell 1 _ rfl,h.box.cell 2 _ rfl,h.box.cell 3 _ rfl⟩
theorem Cs.set {j:Nat}{v:Value}(h:Cs w0 w B g r c W)(hb:Box W' g (c.cells.toArray.setIfInBounds j v) 118)(hc:c.cells.toArray.setIfInBounds j v=c'.cells.toArray)(hbe:Below w.heap.size w W')(hot:∀ k,k≠g->W'.heap[k]?=W.heap[k]?)(hok:c'.Ok w0 B' W):Cs w0 w B' g r c' W' :=
 ⟨hc ▸ hb,(hot r h.ne).trans h.res,hok.put h.box (ZbS _ _ _ _ _ _ _ _ _ _ _ _) hot,hbe,h.old,h.hg,h.hr,h.ne⟩
structure Rs (w0 w:World) (B r:Nat) (c:Ct) (W:World):Prop where
 box:Box W r c.cells.toArray 118
 ok:c.Ok w0 B W
 below:Below w.heap.size w W
end
section
variable {w0 w W W':World} {B B' g r:Nat} {c c':Ct} {o:Oper} {a:Act} {K:Act->World->Prop} {Q:Exit->Act->World->Prop} {ops:Array Oper} {rest:List Oper}
theorem Zfl (ty:TypeId)(hty:(prog.info? ty).map (·.size)=some 1)(x y:Operand)(ho:o.op=.store ty x y)(hd:o.dst=none)(h:Cs w0 w B g r c W)(j:Nat)(hj:j<4)(v:Value)(hv:v.cells=#[v])(h1:v.oneCell'=true)
 (hx:a.eval x=.pointer (some ⟨g,j,none⟩)) (hy:a.eval y=v) (c':Ct) (hc:c.cells.toArray.setIfInBounds j v=c'.cells.toArray) (hok:c'.Ok w0 B' W)
 (hk:∀ W',Cs w0 w B' g r c' W'->(∀ k,k≠g->W'.heap[k]?=W.heap[k]?)->K a W'):o.wp prog a W K Q :=
 Zfj ty x y ho hd g j 118 _ v hx hy hv h1 h.box hty hj w h.below h.hg (fun W' hb hbe hot=>hk W' (h.set hb hc hbe hot hok) hot)
theorem Zbz (hgd:o.guard=none)(ty:TypeId)(hty:(prog.info? ty).map (·.size)=some 1)(x y:Operand)(ho:o.op=.store ty x y)(hd:o.dst=none)(h:Cs w0 w B g r c W)(j:Nat)(hj:j<4)(v:Value)(hv:v.cells=#[v])(h1:v.oneCell'=true)
 (hx:a.eval x=.pointer (some ⟨g,j,none⟩)) (hy:a.eval y=v) (c':Ct) (hc:c.cells.toArray.setIfInBounds j v=c'.cells.toArray) (hok:c'.Ok w0 B' W)
 (hk:∀ W',Cs w0 w B' g r c' W'->(∀ k,k≠g->W'.heap[k]?=W.heap[k]?)->wpList prog ops Q rest a W'):wpList prog ops Q (o :: rest) a W :=
 ZdM hgd ty x y ho hd g j 118 _ v hx hy hv h1 h.box hty hj w h.below h.hg (fun W' hb hbe hot=>hk W' (h.set hb hc hbe hot hok) hot)
theorem Zav (hgd:o.guard=none)(x y:Operand)(ho:o.op=.store 118 x y)(hd:o.dst=none)(h:Cs w0 w B g r c W)(c':Ct)(hx:a.eval x=.pointer (some ⟨r,0,none⟩))(hy:a.eval y=.agg c'.cells.toArray)(hok:c'.Ok w0 B' W)
 (hk:∀ W',Rs w0 w B' r c' W'->(∀ k,k≠r->W'.heap[k]?=W.heap[k]?)->wpList prog ops Q rest a W'):wpList prog ops Q (o :: rest) a W :=
 Zai hgd 118 x y ho hd r 118 _ c'.cells hx hy h.res (by kernel_rfl) rfl rfl w h.below h.hr (fun W' hb hbe hot=>hk W' ⟨hb,hok.put h.res (ZbS _ _ _ _ _ _ _ _ _ _ _ _) hot,hbe⟩ hot)
end
def CatSame (c:Ct)(w0:World)(B:Nat)(w:World)(e:Ending)(w':World):Prop:=∃ (c2:Ct) (k:Int),e=.returned (.tuple #[c2.val,.int .i64 k])/\c2.Ok w0 B w'/\(k=0->c2.ta=c.ta/\c2.tn=c.tn/\c2.tc=c.tc)/\Below w.heap.size w w'
def IdxTwo (n:Nat)(w:World)(e:Ending)(w':World):Prop:=(e=.returned (.int .i64 (-1))∨∃ k:Nat,k<n/\e=.returned (.int .i64 k))/\Below w.heap.size w w'
theorem IdxPost.two {n:Nat}{w w':World}{e:Ending}(h:IdxPost n w e w'):IdxTwo n w e w':=by
 obtain⟨k,rfl,h1,h2,hb⟩:=h
 refine⟨?_,hb⟩
 by_cases h:k<0
 · left
   obtain rfl:k=-1:=by omega
   rfl
 · right
   exact⟨k.toNat,by omega,by rw[Int.toNat_of_nonneg (by omega)]⟩
theorem Box.aside {W W':World}{g b:Nat}{cs:Array Value}{t:TypeId}(h:Box W g cs t)(hot:∀ k,k≠b->W'.heap[k]?=W.heap[k]?)(hne:g≠b):Box W' g cs t:=(hot g hne).trans h
theorem FtsC.elem {w0 W:World}{B:Nat}{a:Option Addr}{n cp k:Nat}(h:FtsC w0 B W a n cp)(hk:k<n):∃ (x:Ft) (b o:Nat),a=some ⟨b,o,none⟩/\x.Ok w0/\∀ W',Below W.heap.size W W'->∀ j v,x.cells[j]?=some v->W'.cell? ⟨b,o+k*18+j,none⟩=some v:=by
 obtain⟨⟨l,rfl,hl,hok,h1⟩,-,-⟩:=h
 obtain⟨b,o,rfl,hr⟩:=h1.some (by omega)
 exact⟨l[k],b,o,rfl,hok _ (List.getElem_mem hk),fun W' hb j v hj=>Zaa (hr k _ (List.getElem?_eq_getElem hk) j v hj) hb⟩
theorem Zbm {P:Program}{ops:Array Oper}{rest:List Oper}{a:Act}{W:World}{Q:Exit->Act->World->Prop}{o1 o2:Oper}(hg1:o1.guard=none)(hg2:o2.guard=none)(ty:TypeId)(x y:Operand)(h1:o1.op=.alloc ty)(h2:o2.op=.store ty x y)(hd:o2.dst=none)(L:List Value)
 (hx:(a.put o1.dst (.pointer (some ⟨W.heap.size,0,none⟩))).eval x=.pointer (some ⟨W.heap.size,0,none⟩)) (hy:(a.put o1.dst (.pointer (some ⟨W.heap.size,0,none⟩))).eval y=.agg L.toArray)
 (hi:(P.info? ty).map (fun i=>(i.zero.map (fun z=>z.cells.size),i.size))=some (some L.length,L.length)) (hone:(L.all (·.oneCell'))=true)
 (h:∀ g w',Box w' g L.toArray ty->W.heap.size=g->Below W.heap.size W w'->wpList P ops Q rest (a.put o1.dst (.pointer (some ⟨g,0,none⟩))) w'):wpList P ops Q (o1 :: o2 :: rest) a W :=
 Zbl hg1 hg2 ty x y h1 h2 hd L hx hy hi hone W (Below.refl _ _) (fun w' hb _ hbl=>h _ w' hb rfl hbl)
theorem drop_any (c:Ct)(nm:ByteArray)(w w0:World)(hw0:Below w0.heap.size w0 w)(B:Nat)(hB:B<=1000)(h:c.Ok w0 B w):Calls prog 168 #[c.val,.string nm] w (CatSame c w0 (B+2) w):=by
 obtain⟨ta,tn,tc,fa,fn,fc,da,dn,dc,qa,qn,qc⟩:=c
 have hB2:B<=100000:=by omega
 dsimp only[Ct.val]
 go_enter func168,ntmps168
 go_upto_region 1 with fail
 refine Zam (fun V hV=>?_)
 have HST:Hid (Cs w0 w B w.heap.size (w.heap.size+1) ⟨ta,tn,tc,fa,fn,fc,da,dn,dc,qa,qn,qc⟩ V):=by
  have hb:Below w.heap.size w V:=by rw[hV];exact(by repeat first|exact ZR _|refine ZA ?_ _)
  exact⟨by rw[hV];exact Za4 _ _ _ _ _,by rw[hV];exact Za3 _ _ _ _ _,h.kept hb,hb,hw0,Nat.le_refl _,by omega,by omega⟩
 clear hV h
 have qq:=HST.out.q
 obtain⟨q0,q1,q2,q3⟩:=qq
 go_wp2_with (first|(go_at_call 183;refine(Zcx _ _ _ _ B hB2 _ (HST.out.ok.d.lies.at HST.out.wz)).mono ?_;intro e w5 hp;obtain⟨hp,hb⟩:=hp.two;have HST:=hid (HST.out.kept hb);clear hb;have qq:=HST.out.q;obtain⟨q0,q1,q2,q3⟩:=qq;(rcases hp with rfl|⟨k5,hk5,rfl⟩))|(go_at_call 186;refine(Zb8 _ _ _ k5 hk5 w0 _ (by omega) _ HST.out.ok.d).mono ?_;rintro e w5 ⟨a5,n5,c5,rfl,h5,hb⟩;have H5:=hid h5;clear h5;have HST:=hid (HST.out.kept hb);clear hb;have qq:=HST.out.q;obtain⟨q0,q1,q2,q3⟩:=qq)|((with_reducible refine Zal 116 ?_);refine Zbz rfl 116 (by kernel_rfl) _ _ rfl rfl HST.out 2 (by decide) (.slice a5 n5 c5) rfl rfl rfl rfl ⟨ta,tn,tc,fa,fn,fc,a5,n5,c5,qa,qn,qc⟩ rfl ⟨HST.out.ok.t,HST.out.ok.f,H5.out,HST.out.ok.q⟩ ?_;intro w6 hst hot;have HST:=hid hst;clear hst hot;have qq:=HST.out.q;obtain⟨q0,q1,q2,q3⟩:=qq)|((with_reducible refine Zaw 118 ?_);refine Zah rfl 118 #[] rfl Ct.zero.cells (fun w=>ZcO w) ?_;intro v hv;obtain rfl:=hv.out)|((with_reducible refine Zal 118 ?_);refine Zav rfl _ _ rfl rfl HST.out Ct.zero rfl rfl (Ct.zero_ok _ B _) ?_;intro w9 hR hotr;have HR:=hid hR;have HOT:=hid hotr;clear hR hotr)|((with_reducible refine Zaq 118 ?_);refine Zaj rfl 118 _ rfl _ _ 118 rfl HST.out.box _ underlying118 rfl (by kernel_rfl) ?_;intro v hv;obtain rfl:=hv.out)|((with_reducible refine Zal 118 ?_);refine Zav rfl _ _ rfl rfl HST.out _ rfl rfl HST.out.ok ?_;intro w9 hR hotr;have HR:=hid hR;have HOT:=hid hotr;clear hR hotr)|fail)
 all_goals
  (try simp only[Exit.inBlock,Exit.then]);refine bodyPost_ret (Zad rfl rfl HR.out.box underlying118 rfl (by kernel_rfl)) rfl ?_
  exact⟨_,_,rfl,HR.out.ok.mono (by omega),(fun e=>by first|exact⟨rfl,rfl,rfl⟩|cases e|(exfalso;omega)),HR.out.below⟩
theorem enforce_any (c:Ct)(nm:ByteArray)(w w0:World)(hw0:Below w0.heap.size w0 w)(B:Nat)(hB:B<=1000)(h:c.Ok w0 B w):Calls prog 166 #[c.val,.string nm] w (CatSame c w0 (B+2) w):=by
 obtain⟨ta,tn,tc,fa,fn,fc,da,dn,dc,qa,qn,qc⟩:=c
 have hB2:B<=100000:=by omega
 dsimp only[Ct.val]
 go_enter func166,ntmps166
 go_upto_region 1 with fail
 refine Zam (fun V hV=>?_)
 have HST:Hid (Cs w0 w B w.heap.size (w.heap.size+1) ⟨ta,tn,tc,fa,fn,fc,da,dn,dc,qa,qn,qc⟩ V):=by
  have hb:Below w.heap.size w V:=by rw[hV];exact(by repeat first|exact ZR _|refine ZA ?_ _)
  exact⟨by rw[hV];exact Za4 _ _ _ _ _,by rw[hV];exact Za3 _ _ _ _ _,h.kept hb,hb,hw0,Nat.le_refl _,by omega,by omega⟩
 clear hV h
 have qq:=HST.out.q
 obtain⟨q0,q1,q2,q3⟩:=qq
 go_upto_region 4 with(first|(go_at_call 183;refine(Zcx _ _ _ _ B hB2 _ (HST.out.ok.d.lies.at HST.out.wz)).mono ?_;intro e w5 hp;obtain⟨hp,hb⟩:=hp.two;have HST:=hid (HST.out.kept hb);clear hb;have qq:=HST.out.q;obtain⟨q0,q1,q2,q3⟩:=qq;(rcases hp with rfl|⟨k5,hk5,rfl⟩))|((with_reducible refine Zaw 118 ?_);refine Zah rfl 118 #[] rfl Ct.zero.cells (fun w=>ZcO w) ?_;intro v hv;obtain rfl:=hv.out)|((with_reducible refine Zal 118 ?_);refine Zav rfl _ _ rfl rfl HST.out Ct.zero rfl rfl (Ct.zero_ok _ B _) ?_;intro w9 hR hotr;have HR:=hid hR;have HOT:=hid hotr;clear hR hotr)|fail)
 · (try simp only[Exit.inBlock,Exit.then]);refine bodyPost_ret (Zad rfl rfl HR.out.box underlying118 rfl (by kernel_rfl)) rfl ?_
   exact⟨_,_,rfl,HR.out.ok.mono (by omega),(fun e=>by first|exact⟨rfl,rfl,rfl⟩|cases e|(exfalso;omega)),HR.out.below⟩
 obtain⟨x1,b1,o1,rfl,hx,hc⟩:=HST.out.ok.d.elem hk5
 have HX1:=hid hx
 have HXC1:=hid hc
 clear hx hc
 have qq:=HST.out.q
 obtain⟨q0,q1,q2,q3⟩:=qq
 go_upto_region 7 with(first|((with_reducible refine Zaq 44 ?_);refine Zas rfl 44 _ rfl b1 (o1+k5*18) (Ft.cells x1) rfl (HXC1.out _ (ZR _)) _ underlying44 rfl (by kernel_rfl) ?_;intro v hv;obtain rfl:=hv.out)|((with_reducible refine Zbf 44 ?_);refine Zbm rfl rfl 44 _ _ rfl rfl rfl (Ft.cells x1) rfl rfl (by kernel_rfl) (by rfl) ?_;intro g7 w8 hbx hg7 hb;have hg8:w.heap.size+1<g7:=(by(have:=HST.out.res.lt;omega));have HFB:=hid hbx;clear hg7 hbx;have HST:=hid (HST.out.kept hb);clear hb;have qq:=HST.out.q;obtain⟨q0,q1,q2,q3⟩:=qq)|(go_at_call 186;refine(Zb8 _ _ _ k5 hk5 w0 _ (by omega) _ HST.out.ok.d).mono ?_;rintro e w5 ⟨a5,n5,c5,rfl,h5,hb⟩;have H5:=hid h5;clear h5;have HST:=hid (HST.out.kept hb);have HFB:=hid (HFB.out.kept hb);clear hb;have qq:=HST.out.q;obtain⟨q0,q1,q2,q3⟩:=qq)|((with_reducible refine Zal 116 ?_);refine Zbz rfl 116 (by kernel_rfl) _ _ rfl rfl HST.out 2 (by decide) (.slice a5 n5 c5) rfl rfl rfl rfl ⟨ta,tn,tc,fa,fn,fc,a5,n5,c5,qa,qn,qc⟩ rfl ⟨HST.out.ok.t,HST.out.ok.f,H5.out,HST.out.ok.q⟩ ?_;intro w6 hst hot;have HST:=hid hst;have HFB:=hid (HFB.out.aside hot (by omega));clear hst hot;have qq:=HST.out.q;obtain⟨q0,q1,q2,q3⟩:=qq)|(go_at_call 183;refine(Zcx _ _ _ _ B hB2 _ (HST.out.ok.f.lies.at HST.out.wz)).mono ?_;intro e w5 hp;obtain⟨hp,hb⟩:=hp.two;have HST:=hid (HST.out.kept hb);have HFB:=hid (HFB.out.kept hb);clear hb;have qq:=HST.out.q;obtain⟨q0,q1,q2,q3⟩:=qq;(rcases hp with rfl|⟨k8,hk8,rfl⟩))|fail)
 · go_wp2_with (first|((with_reducible refine Zaq 44 ?_);refine Zaj rfl 44 _ rfl g7 (Ft.cells x1) 44 rfl HFB.out _ underlying44 rfl (by kernel_rfl) ?_;intro v hv;obtain rfl:=hv.out)|(go_at_call 185;refine(Zb2 _ _ _ x1 w0 _ (by omega) _ HST.out.ok.f HX1.out).mono ?_;rintro e w5 ⟨a10,n10,c10,rfl,h5,hb⟩;have H10:=hid h5;clear h5;have HST:=hid (HST.out.kept hb);have HFB:=hid (HFB.out.kept hb);clear hb;have qq:=HST.out.q;obtain⟨q0,q1,q2,q3⟩:=qq)|((with_reducible refine Zal 116 ?_);refine Zbz rfl 116 (by kernel_rfl) _ _ rfl rfl HST.out 1 (by decide) (.slice a10 n10 c10) rfl rfl rfl rfl ⟨ta,tn,tc,a10,n10,c10,a5,n5,c5,qa,qn,qc⟩ rfl ⟨(HST.out.ok.mono (Nat.le_succ _)).t,H10.out,(HST.out.ok.mono (Nat.le_succ _)).d,(HST.out.ok.mono (Nat.le_succ _)).q⟩ ?_;intro w6 hst hot;have HST:=hid hst;have HFB:=hid (HFB.out.aside hot (by omega));clear hst hot;have qq:=HST.out.q;obtain⟨q0,q1,q2,q3⟩:=qq)|((with_reducible refine Zaq 118 ?_);refine Zaj rfl 118 _ rfl _ _ 118 rfl HST.out.box _ underlying118 rfl (by kernel_rfl) ?_;intro v hv;obtain rfl:=hv.out)|((with_reducible refine Zal 118 ?_);refine Zav rfl _ _ rfl rfl HST.out _ rfl rfl HST.out.ok ?_;intro w9 hR hotr;have HR:=hid hR;have HOT:=hid hotr;clear hR hotr)|fail)
   (try simp only[Exit.inBlock,Exit.then]);refine bodyPost_ret (Zad rfl rfl HR.out.box underlying118 rfl (by kernel_rfl)) rfl ?_
   exact⟨_,_,rfl,HR.out.ok.mono (by omega),(fun e=>by first|exact⟨rfl,rfl,rfl⟩|cases e|(exfalso;omega)),HR.out.below⟩
 · obtain⟨x2,b2,o2,rfl,hx,hc⟩:=HST.out.ok.f.elem hk8
   have HX2:=hid hx
   have HXC2:=hid hc
   clear hx hc
   have qq:=HST.out.q
   obtain⟨q0,q1,q2,q3⟩:=qq
   go_upto_region 8 with fail
   refine Zbk (S:=fun w'=>Below w5.heap.size w5 w') 9 (.free 0 (.free 1 (.free 2 (.free 3 (.free 4 (.free 5 (.free 6 (.one 7 (.free 8 (.one 9 .done)))))))))) (by kernel_rfl) (by kernel_rfl) (fun _ _ _ _ _ h=>h) (by kernel_rfl) (by kernel_rfl) (ZD (ZR _)) (fun hSS=>?_)
   refine ZaD (hSS) _ (.pointer (some ⟨w.heap.size,3,none⟩)) rfl (by rfl) (by intro wq hSw;have KQ:=(HST.out.kept hSw).q;obtain⟨q0,q1,q2,q3⟩:=KQ;go_simp) ?_
   try simp only[Act.put,m1,m2,m3]
   refine ZaD (hSS) _ (.slice qa qn qc) rfl (by rfl) (by intro wq hSw;have KQ:=(HST.out.kept hSw).q;obtain⟨q0,q1,q2,q3⟩:=KQ;go_simp) ?_
   try simp only[Act.put,m1,m2,m3]
   refine ZaD (hSS) _ (.pointer (some ⟨w.heap.size,1,none⟩)) rfl (by rfl) (by intro wq hSw;have KQ:=(HST.out.kept hSw).q;obtain⟨q0,q1,q2,q3⟩:=KQ;go_simp) ?_
   try simp only[Act.put,m1,m2,m3]
   refine ZaD (hSS) _ (.slice (some ⟨b2,o2,none⟩) fn fc) rfl (by rfl) (by intro wq hSw;have KQ:=(HST.out.kept hSw).q;obtain⟨q0,q1,q2,q3⟩:=KQ;go_simp) ?_
   try simp only[Act.put,m1,m2,m3]
   refine ZaD (hSS) _ (.int .i64 k8) rfl (by rfl) (by intro wq hSw;have KQ:=(HST.out.kept hSw).q;obtain⟨q0,q1,q2,q3⟩:=KQ;go_simp) ?_
   try simp only[Act.put,m1,m2,m3]
   refine ZaD (hSS) _ (.pointer (some ⟨b2,o2+k8*18,none⟩)) rfl (by rfl) (by intro wq hSw;have KQ:=(HST.out.kept hSw).q;obtain⟨q0,q1,q2,q3⟩:=KQ;go_simp) ?_
   try simp only[Act.put,m1,m2,m3]
   refine ZdR (hSS) _ rfl (by rfl) 44 _ rfl b2 (o2+k8*18) (Ft.cells x2) rfl (fun w hS=>HXC2.out w hS) _ underlying44 rfl (by kernel_rfl) ?_
   intro v6 hv6
   subst hv6
   try simp only[Act.put,m1,m2,m3]
   refine ZbA _ rfl (by rfl) (fun K hK=>?_)
   go_wp2_with (go_at_call 185;refine(Zb2 _ _ _ x2 w0 _ (by omega) _ (HST.out.kept (ZD (ZR _))).ok.q HX2.out).mono ?_;rintro e w8 ⟨a8,n8,c8,rfl,h5,hb⟩;have H8:=hid h5;have HS7:Hid (Below w5.heap.size w5 w8):=ZT (ZD (ZR _)) hb;clear h5 hb)
   refine hK.out _ _ (fun _=>HS7.out) ?_
   clear hK K
   try simp only[Act.put,m1,m2,m3]
   refine ZaD (HS7.out) _ (.pointer (some ⟨w.heap.size,3,none⟩)) rfl (by rfl) (by intro wq hSw;have KQ:=(HST.out.kept hSw).q;obtain⟨q0,q1,q2,q3⟩:=KQ;go_simp) ?_
   try simp only[Act.put,m1,m2,m3]
   refine ZbA _ rfl (by rfl) (fun K hK=>?_)
   refine Zfl 116 (by kernel_rfl) _ _ rfl rfl (HST.out.kept HS7.out) 3 (by decide) (.slice a8 n8 c8) rfl rfl rfl rfl ⟨ta,tn,tc,some ⟨b2,o2,none⟩,fn,fc,a5,n5,c5,a8,n8,c8⟩ rfl ⟨((HST.out.kept HS7.out).ok.mono (Nat.le_succ _)).t,((HST.out.kept HS7.out).ok.mono (Nat.le_succ _)).f,((HST.out.kept HS7.out).ok.mono (Nat.le_succ _)).d,H8.out⟩ ?_
   intro w6 hst hot
   have HST:=hid hst
   have HFB:=hid ((HFB.out.kept HS7.out).aside hot (by omega))
   refine hK.out _ _ (fun e=>absurd rfl e) ?_
   clear hK K hst hot
   have qq:=HST.out.q
   obtain⟨q0,q1,q2,q3⟩:=qq
   try simp only[Act.put,m1,m2,m3]
   refine ZdS ?_
   go_wp2_with (first|(go_at_call 186;refine(Zb8 _ _ _ k8 hk8 w0 _ (by omega) _ HST.out.ok.f).mono ?_;rintro e w5 ⟨a9,n9,c9,rfl,h5,hb⟩;have H9:=hid h5;clear h5;have HST:=hid (HST.out.kept hb);have HFB:=hid (HFB.out.kept hb);clear hb;have qq:=HST.out.q;obtain⟨q0,q1,q2,q3⟩:=qq)|((with_reducible refine Zal 116 ?_);refine Zbz rfl 116 (by kernel_rfl) _ _ rfl rfl HST.out 1 (by decide) (.slice a9 n9 c9) rfl rfl rfl rfl ⟨ta,tn,tc,a9,n9,c9,a5,n5,c5,a8,n8,c8⟩ rfl ⟨HST.out.ok.t,H9.out,HST.out.ok.d,HST.out.ok.q⟩ ?_;intro w6 hst hot;have HST:=hid hst;have HFB:=hid (HFB.out.aside hot (by omega));clear hst hot;have qq:=HST.out.q;obtain⟨q0,q1,q2,q3⟩:=qq)|((with_reducible refine Zaq 44 ?_);refine Zaj rfl 44 _ rfl g7 (Ft.cells x1) 44 rfl HFB.out _ underlying44 rfl (by kernel_rfl) ?_;intro v hv;obtain rfl:=hv.out)|(go_at_call 185;refine(Zb2 _ _ _ x1 w0 _ (by omega) _ HST.out.ok.f HX1.out).mono ?_;rintro e w5 ⟨a10,n10,c10,rfl,h5,hb⟩;have H10:=hid h5;clear h5;have HST:=hid (HST.out.kept hb);have HFB:=hid (HFB.out.kept hb);clear hb;have qq:=HST.out.q;obtain⟨q0,q1,q2,q3⟩:=qq)|((with_reducible refine Zal 116 ?_);refine Zbz rfl 116 (by kernel_rfl) _ _ rfl rfl HST.out 1 (by decide) (.slice a10 n10 c10) rfl rfl rfl rfl ⟨ta,tn,tc,a10,n10,c10,a5,n5,c5,a8,n8,c8⟩ rfl ⟨(HST.out.ok.mono (Nat.le_succ _)).t,H10.out,(HST.out.ok.mono (Nat.le_succ _)).d,(HST.out.ok.mono (Nat.le_succ _)).q⟩ ?_;intro w6 hst hot;have HST:=hid hst;have HFB:=hid (HFB.out.aside hot (by omega));clear hst hot;have qq:=HST.out.q;obtain⟨q0,q1,q2,q3⟩:=qq)|((with_reducible refine Zaq 118 ?_);refine Zaj rfl 118 _ rfl _ _ 118 rfl HST.out.box _ underlying118 rfl (by kernel_rfl) ?_;intro v hv;obtain rfl:=hv.out)|((with_reducible refine Zal 118 ?_);refine Zav rfl _ _ rfl rfl HST.out _ rfl rfl HST.out.ok ?_;intro w9 hR hotr;have HR:=hid hR;have HOT:=hid hotr;clear hR hotr)|fail)
   (try simp only[Exit.inBlock,Exit.then]);refine bodyPost_ret (Zad rfl rfl HR.out.box underlying118 rfl (by kernel_rfl)) rfl ?_
   exact⟨_,_,rfl,HR.out.ok.mono (by omega),(fun e=>by first|exact⟨rfl,rfl,rfl⟩|cases e|(exfalso;omega)),HR.out.below⟩
theorem rollback_any (c:Ct)(nm:ByteArray)(w w0:World)(hw0:Below w0.heap.size w0 w)(B:Nat)(hB:B<=1000)(h:c.Ok w0 B w):Calls prog 167 #[c.val,.string nm] w (CatSame c w0 (B+2) w):=by
 obtain⟨ta,tn,tc,fa,fn,fc,da,dn,dc,qa,qn,qc⟩:=c
 have hB2:B<=100000:=by omega
 dsimp only[Ct.val]
 go_enter func167,ntmps167
 go_upto_region 1 with fail
 refine Zam (fun V hV=>?_)
 have HST:Hid (Cs w0 w B w.heap.size (w.heap.size+1) ⟨ta,tn,tc,fa,fn,fc,da,dn,dc,qa,qn,qc⟩ V):=by
  have hb:Below w.heap.size w V:=by rw[hV];exact(by repeat first|exact ZR _|refine ZA ?_ _)
  exact⟨by rw[hV];exact Za4 _ _ _ _ _,by rw[hV];exact Za3 _ _ _ _ _,h.kept hb,hb,hw0,Nat.le_refl _,by omega,by omega⟩
 clear hV h
 have qq:=HST.out.q
 obtain⟨q0,q1,q2,q3⟩:=qq
 go_upto_region 4 with(first|(go_at_call 183;refine(Zcx _ _ _ _ B hB2 _ (HST.out.ok.f.lies.at HST.out.wz)).mono ?_;intro e w5 hp;obtain⟨hp,hb⟩:=hp.two;have HST:=hid (HST.out.kept hb);clear hb;have qq:=HST.out.q;obtain⟨q0,q1,q2,q3⟩:=qq;(rcases hp with rfl|⟨k5,hk5,rfl⟩))|((with_reducible refine Zaw 118 ?_);refine Zah rfl 118 #[] rfl Ct.zero.cells (fun w=>ZcO w) ?_;intro v hv;obtain rfl:=hv.out)|((with_reducible refine Zal 118 ?_);refine Zav rfl _ _ rfl rfl HST.out Ct.zero rfl rfl (Ct.zero_ok _ B _) ?_;intro w9 hR hotr;have HR:=hid hR;have HOT:=hid hotr;clear hR hotr)|fail)
 · (try simp only[Exit.inBlock,Exit.then]);refine bodyPost_ret (Zad rfl rfl HR.out.box underlying118 rfl (by kernel_rfl)) rfl ?_
   exact⟨_,_,rfl,HR.out.ok.mono (by omega),(fun e=>by first|exact⟨rfl,rfl,rfl⟩|cases e|(exfalso;omega)),HR.out.below⟩
 go_upto_region 7 with(first|(go_at_call 187;refine(last_any _ _ _ _ B hB2 _ (HST.out.ok.q.lies.at HST.out.wz)).mono ?_;intro e w5 hp;obtain⟨hp,hb⟩:=hp.two;have HST:=hid (HST.out.kept hb);clear hb;have qq:=HST.out.q;obtain⟨q0,q1,q2,q3⟩:=qq;(rcases hp with rfl|⟨k6,hk6,rfl⟩))|(go_at_call 183;refine(Zcx _ _ _ _ B hB2 _ (HST.out.ok.d.lies.at HST.out.wz)).mono ?_;intro e w5 hp;obtain⟨hp,hb⟩:=hp.two;have HST:=hid (HST.out.kept hb);clear hb;have qq:=HST.out.q;obtain⟨q0,q1,q2,q3⟩:=qq;(rcases hp with rfl|⟨kd,hkd,rfl⟩))|((with_reducible refine Zaw 118 ?_);refine Zah rfl 118 #[] rfl Ct.zero.cells (fun w=>ZcO w) ?_;intro v hv;obtain rfl:=hv.out)|((with_reducible refine Zal 118 ?_);refine Zav rfl _ _ rfl rfl HST.out Ct.zero rfl rfl (Ct.zero_ok _ B _) ?_;intro w9 hR hotr;have HR:=hid hR;have HOT:=hid hotr;clear hR hotr)|fail)
 all_goals first
  |((try simp only[Exit.inBlock,Exit.then]);refine bodyPost_ret (Zad rfl rfl HR.out.box underlying118 rfl (by kernel_rfl)) rfl ?_;exact⟨_,_,rfl,HR.out.ok.mono (by omega),(fun e=>by first|exact⟨rfl,rfl,rfl⟩|cases e|(exfalso;omega)),HR.out.below⟩)
  |skip
 obtain⟨x1,b1,o1,rfl,hx,hc⟩:=HST.out.ok.q.elem hk6
 have HX1:=hid hx
 have HXC1:=hid hc
 clear hx hc
 have qq:=HST.out.q
 obtain⟨q0,q1,q2,q3⟩:=qq
 go_upto_region 8 with(first|((with_reducible refine Zaq 44 ?_);refine Zas rfl 44 _ rfl b1 (o1+k6*18) (Ft.cells x1) rfl (HXC1.out _ (ZR _)) _ underlying44 rfl (by kernel_rfl) ?_;intro v hv;obtain rfl:=hv.out)|((with_reducible refine Zbf 44 ?_);refine Zbm rfl rfl 44 _ _ rfl rfl rfl (Ft.cells x1) rfl rfl (by kernel_rfl) (by rfl) ?_;intro g7 w8 hbx hg7 hb;have hg8:w.heap.size+1<g7:=(by(have:=HST.out.res.lt;omega));have HFB:=hid hbx;clear hg7 hbx;have HST:=hid (HST.out.kept hb);clear hb;have qq:=HST.out.q;obtain⟨q0,q1,q2,q3⟩:=qq)|fail)
 obtain⟨x2,b2,o2,rfl,hx,hc⟩:=HST.out.ok.f.elem hk5
 have HX2:=hid hx
 have HXC2:=hid hc
 clear hx hc
 have qq:=HST.out.q
 obtain⟨q0,q1,q2,q3⟩:=qq
 refine Zbk (S:=fun w'=>Below w8.heap.size w8 w') 9 (.free 0 (.free 1 (.free 2 (.free 3 (.free 4 (.free 5 (.free 6 (.one 7 (.free 8 (.one 9 .done)))))))))) (by kernel_rfl) (by kernel_rfl) (fun _ _ _ _ _ h=>h) (by kernel_rfl) (by kernel_rfl) (ZD (ZR _)) (fun hSS=>?_)
 refine ZaD (hSS) _ (.pointer (some ⟨w.heap.size,2,none⟩)) rfl (by rfl) (by intro wq hSw;have KQ:=(HST.out.kept hSw).q;obtain⟨q0,q1,q2,q3⟩:=KQ;go_simp) ?_
 try simp only[Act.put,m1,m2,m3]
 refine ZaD (hSS) _ (.slice da dn dc) rfl (by rfl) (by intro wq hSw;have KQ:=(HST.out.kept hSw).q;obtain⟨q0,q1,q2,q3⟩:=KQ;go_simp) ?_
 try simp only[Act.put,m1,m2,m3]
 refine ZaD (hSS) _ (.pointer (some ⟨w.heap.size,1,none⟩)) rfl (by rfl) (by intro wq hSw;have KQ:=(HST.out.kept hSw).q;obtain⟨q0,q1,q2,q3⟩:=KQ;go_simp) ?_
 try simp only[Act.put,m1,m2,m3]
 refine ZaD (hSS) _ (.slice (some ⟨b2,o2,none⟩) fn fc) rfl (by rfl) (by intro wq hSw;have KQ:=(HST.out.kept hSw).q;obtain⟨q0,q1,q2,q3⟩:=KQ;go_simp) ?_
 try simp only[Act.put,m1,m2,m3]
 refine ZaD (hSS) _ (.int .i64 k5) rfl (by rfl) (by intro wq hSw;have KQ:=(HST.out.kept hSw).q;obtain⟨q0,q1,q2,q3⟩:=KQ;go_simp) ?_
 try simp only[Act.put,m1,m2,m3]
 refine ZaD (hSS) _ (.pointer (some ⟨b2,o2+k5*18,none⟩)) rfl (by rfl) (by intro wq hSw;have KQ:=(HST.out.kept hSw).q;obtain⟨q0,q1,q2,q3⟩:=KQ;go_simp) ?_
 try simp only[Act.put,m1,m2,m3]
 refine ZdR (hSS) _ rfl (by rfl) 44 _ rfl b2 (o2+k5*18) (Ft.cells x2) rfl (fun w hS=>HXC2.out w hS) _ underlying44 rfl (by kernel_rfl) ?_
 intro v6 hv6
 subst hv6
 try simp only[Act.put,m1,m2,m3]
 refine ZbA _ rfl (by rfl) (fun K hK=>?_)
 go_wp2_with (go_at_call 185;refine(Zb2 _ _ _ x2 w0 _ (by omega) _ (HST.out.kept (ZD (ZR _))).ok.d HX2.out).mono ?_;rintro e w12 ⟨a12,n12,c12,rfl,h5,hb⟩;have H12:=hid h5;have HS7:Hid (Below w8.heap.size w8 w12):=ZT (ZD (ZR _)) hb;clear h5 hb)
 refine hK.out _ _ (fun _=>HS7.out) ?_
 clear hK K
 try simp only[Act.put,m1,m2,m3]
 refine ZaD (HS7.out) _ (.pointer (some ⟨w.heap.size,2,none⟩)) rfl (by rfl) (by intro wq hSw;have KQ:=(HST.out.kept hSw).q;obtain⟨q0,q1,q2,q3⟩:=KQ;go_simp) ?_
 try simp only[Act.put,m1,m2,m3]
 refine ZbA _ rfl (by rfl) (fun K hK=>?_)
 refine Zfl 116 (by kernel_rfl) _ _ rfl rfl (HST.out.kept HS7.out) 2 (by decide) (.slice a12 n12 c12) rfl rfl rfl rfl ⟨ta,tn,tc,some ⟨b2,o2,none⟩,fn,fc,a12,n12,c12,some ⟨b1,o1,none⟩,qn,qc⟩ rfl ⟨((HST.out.kept HS7.out).ok.mono (Nat.le_succ _)).t,((HST.out.kept HS7.out).ok.mono (Nat.le_succ _)).f,H12.out,((HST.out.kept HS7.out).ok.mono (Nat.le_succ _)).q⟩ ?_
 intro w6 hst hot
 have HST:=hid hst
 have HFB:=hid ((HFB.out.kept HS7.out).aside hot (by omega))
 refine hK.out _ _ (fun e=>absurd rfl e) ?_
 clear hK K hst hot
 have qq:=HST.out.q
 obtain⟨q0,q1,q2,q3⟩:=qq
 try simp only[Act.put,m1,m2,m3]
 refine ZdS ?_
 go_upto_region 9 with fail
 refine Zbk (S:=fun w'=>Below w6.heap.size w6 w') 7 (.free 0 (.free 1 (.free 2 (.free 4 (.one 3 (.one 5 (.free 6 (.one 7 .done)))))))) (by kernel_rfl) (by kernel_rfl) (fun _ _ _ _ _ h=>h) (by kernel_rfl) (by kernel_rfl) (ZD (ZR _)) (fun hSS=>?_)
 refine ZaD (hSS) _ (.pointer (some ⟨w.heap.size,1,none⟩)) rfl (by rfl) (by intro wq hSw;have KQ:=(HST.out.kept hSw).q;obtain⟨q0,q1,q2,q3⟩:=KQ;go_simp) ?_
 try simp only[Act.put,m1,m2,m3]
 refine ZaD (hSS) _ (.slice (some ⟨b2,o2,none⟩) fn fc) rfl (by rfl) (by intro wq hSw;have KQ:=(HST.out.kept hSw).q;obtain⟨q0,q1,q2,q3⟩:=KQ;go_simp) ?_
 try simp only[Act.put,m1,m2,m3]
 refine ZaD (hSS) _ (.int .i64 k5) rfl (by rfl) (by intro wq hSw;have KQ:=(HST.out.kept hSw).q;obtain⟨q0,q1,q2,q3⟩:=KQ;go_simp) ?_
 try simp only[Act.put,m1,m2,m3]
 refine ZdR (hSS) _ rfl (by rfl) 44 _ rfl g7 0 (Ft.cells x1) rfl (fun w hS j v hj=>by rw[Nat.zero_add];exact(HFB.out.kept hS).cell j v (by rw[List.getElem?_toArray];exact hj)) _ underlying44 rfl (by kernel_rfl) ?_
 intro v4 hv4
 subst hv4
 try simp only[Act.put,m1,m2,m3]
 refine ZbA _ rfl (by rfl) (fun K hK=>?_)
 go_wp2_with (go_at_call 186;refine(Zb8 _ _ _ k5 hk5 w0 _ (by omega) _ (HST.out.kept (ZD (ZR _))).ok.f).mono ?_;rintro e w9 ⟨a9,n9,c9,rfl,h5,hb⟩;have H9:=hid h5;have HS3:Hid (Below w6.heap.size w6 w9):=ZT (ZD (ZR _)) hb;clear h5 hb)
 refine hK.out _ _ (fun _=>HS3.out) ?_
 clear hK K
 try simp only[Act.put,m1,m2,m3]
 refine ZbA _ rfl (by rfl) (fun K hK=>?_)
 go_wp2_with (go_at_call 185;refine(Zb2 _ _ _ x1 w0 _ (by omega) _ H9.out HX1.out).mono ?_;rintro e w10 ⟨a10,n10,c10,rfl,h5,hb⟩;have H10:=hid h5;have HS5:Hid (Below w6.heap.size w6 w10):=ZT HS3.out hb;clear h5 hb)
 refine hK.out _ _ (fun _=>HS5.out) ?_
 clear hK K
 try simp only[Act.put,m1,m2,m3]
 refine ZaD (HS5.out) _ (.pointer (some ⟨w.heap.size,1,none⟩)) rfl (by rfl) (by intro wq hSw;have KQ:=(HST.out.kept hSw).q;obtain⟨q0,q1,q2,q3⟩:=KQ;go_simp) ?_
 try simp only[Act.put,m1,m2,m3]
 refine ZbA _ rfl (by rfl) (fun K hK=>?_)
 refine Zfl 116 (by kernel_rfl) _ _ rfl rfl (HST.out.kept HS5.out) 1 (by decide) (.slice a10 n10 c10) rfl rfl rfl rfl ⟨ta,tn,tc,a10,n10,c10,a12,n12,c12,some ⟨b1,o1,none⟩,qn,qc⟩ rfl ⟨((HST.out.kept HS5.out).ok.mono (Nat.le_succ _)).t,H10.out,((HST.out.kept HS5.out).ok.mono (Nat.le_succ _)).d,((HST.out.kept HS5.out).ok.mono (Nat.le_succ _)).q⟩ ?_
 intro w6 hst hot
 have HST:=hid hst
 have HFB:=hid ((HFB.out.kept HS5.out).aside hot (by omega))
 refine hK.out _ _ (fun e=>absurd rfl e) ?_
 clear hK K hst hot
 have qq:=HST.out.q
 obtain⟨q0,q1,q2,q3⟩:=qq
 try simp only[Act.put,m1,m2,m3]
 refine ZdS ?_
 go_wp2_with (first|(go_at_call 186;refine(Zb8 _ _ _ k6 hk6 w0 _ (by omega) _ HST.out.ok.q).mono ?_;rintro e w5 ⟨a11,n11,c11,rfl,h5,hb⟩;have H11:=hid h5;clear h5;have HST:=hid (HST.out.kept hb);have HFB:=hid (HFB.out.kept hb);clear hb;have qq:=HST.out.q;obtain⟨q0,q1,q2,q3⟩:=qq)|((with_reducible refine Zal 116 ?_);refine Zbz rfl 116 (by kernel_rfl) _ _ rfl rfl HST.out 3 (by decide) (.slice a11 n11 c11) rfl rfl rfl rfl ⟨ta,tn,tc,a10,n10,c10,a12,n12,c12,a11,n11,c11⟩ rfl ⟨HST.out.ok.t,HST.out.ok.f,HST.out.ok.d,H11.out⟩ ?_;intro w6 hst hot;have HST:=hid hst;have HFB:=hid (HFB.out.aside hot (by omega));clear hst hot;have qq:=HST.out.q;obtain⟨q0,q1,q2,q3⟩:=qq)|((with_reducible refine Zaq 118 ?_);refine Zaj rfl 118 _ rfl _ _ 118 rfl HST.out.box _ underlying118 rfl (by kernel_rfl) ?_;intro v hv;obtain rfl:=hv.out)|((with_reducible refine Zal 118 ?_);refine Zav rfl _ _ rfl rfl HST.out _ rfl rfl HST.out.ok ?_;intro w9 hR hotr;have HR:=hid hR;have HOT:=hid hotr;clear hR hotr)|fail)
 (try simp only[Exit.inBlock,Exit.then]);refine bodyPost_ret (Zad rfl rfl HR.out.box underlying118 rfl (by kernel_rfl)) rfl ?_
 exact⟨_,_,rfl,HR.out.ok.mono (by omega),(fun e=>by first|exact⟨rfl,rfl,rfl⟩|cases e|(exfalso;omega)),HR.out.below⟩
end Go.Proofs.YtfnpfkgmacaboaaGreat
