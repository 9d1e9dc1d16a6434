/- Texts joined by a program. -/
import Derived.Test.YtfnpfkgmacaboaaGreatM29
import Derived.Test.YtfnpfkgmacaboaaGreatM30
namespace Go.Proofs.YtfnpfkgmacaboaaGreat
open Go.Proofs.Tryz
open Lib (hid)
open Go.ChangeShapes Go.WideShapes Go.ChangeAt Go.RowKit
set_option linter.unusedVariables false
set_option linter.unusedSimpArgs false
set_option maxRecDepth 100000
set_option maxHeartbeats 4000000
theorem ZbQ (a:Option Addr)(n c:Nat)(f:Ft)(w0:World)(B:Nat)(hB:B<=100000)(w:World)(h:FtsC w0 B w a n c)(hf:f.Ok w0):Calls prog 185 #[.slice a n c,f.val] w (FtsPost w0 (B+1) w):=by
 obtain⟨⟨l,rfl,hl,hok,h1⟩,hlc,hcn⟩:=h
 have H0:=hid h1
 have Ma:=hid hok
 have Fj:=hid hcn
 have Vf:=hid hf
 clear h1 hok hcn hf
 dsimp only[Ft.val]
 go_enter func185,ntmps185
 go_upto_region 1 with(first|(refine ZaO rfl 44 (.tmp 1) rfl f.cells rfl ?_)|fail)
 refine Zan (fun V hV=>?_)
 have B0:Hid (Box V w.heap.size f.cells.toArray 44):=by rw[hV];exact Box.new _ _ _
 have Aa:Hid (Below w.heap.size w V):=by rw[hV];exact Zab _
 clear hV
 have HN:Hid (∀ w',Below V.heap.size V w'->w'.cell? ⟨w.heap.size,0,none⟩=some (.string f.m)):=fun w' h=>(B0.out.kept h).cell 0 _ rfl
 have Tf:Hid (∀ w',Below V.heap.size V w'->∀ j v,f.cells[j]?=some v->w'.cell? ⟨w.heap.size,0+j,none⟩=some v):=fun w' h j v hj=>by rw[Nat.zero_add];exact(B0.out.kept h).cell j v (by rw[List.getElem?_toArray];exact hj)
 have H:Hid (Zac Ft.cells 18 V a l):=H0.out.kept Aa.out
 go_wp2_with fail
 go_loopw [5] (fun v wr=>∃ j:Nat,j<=l.length/\v=.int .i64 j/\Hid (Below V.heap.size V wr)) (fun v _=>l.length - (intOf v).toNat)
 case atStart=>exact⟨0,by omega,rfl,ZR V⟩
 case round =>
  obtain⟨j,hj,rfl,HR⟩:=hrel
  rename World=>wr
  have k0:=HN.out _ HR.out
  by_cases hjl:j<l.length
  · obtain⟨x,hx⟩:∃ x,l[j]?=some x:=⟨l[j],List.getElem?_eq_getElem hjl⟩
    obtain⟨b1,o1,rfl,Da⟩:=(H.out.kept HR.out).some (by omega)
    have d0:=Ft.name Da hx
    clear Da hx
    have hd:decide ((j:Int)<(l.length:Int))=true:=by simpa using hjl
    go_upto_region 2 with fail
    go_quiet (fail)
    go_upto_region 4 with fail
    all_goals first
     |(refine⟨⟨j+1,by omega,by go_num,Zad HR.out _⟩,?_⟩;(simp[intOf];omega))
     |skip
    all_goals
     refine Zan (fun W hW=>?_)
     have Kb:Hid (Below V.heap.size V W):=by rw[hW];repeat(first|exact HR.out|refine Zad ?_ _)
     clear hW
     have hcu:=fun w=>Za4 elFt (some ⟨b1,o1,none⟩) l.length c j (by omega) w
     obtain⟨A,hcf,hA1,hA2⟩:=Za5 elFt (some ⟨b1,o1,none⟩) l.length c j hj
     have Kc:=hid (H.out.take j)
     have Tc:=hid (ZaV H.out hlc hA2)
     have Pd:Hid (j=(l.take j).length):=by show _=_;simp;omega
     have Oe:Hid (l.length - j=(l.drop j).length):=by show _=_;simp
     have Nb:Hid (([]:List Ft).length+(l.take j).length<=1000000000):=by show _<=_;simp;omega
     have Mb:Hid (([]++l.take j).length+[f].length<=1000000000):=by show _<=_;simp;omega
     have Zb:Hid (([]++l.take j++[f]).length+(l.drop j).length<=1000000000):=by show _<=_;simp;omega
     have Vj:Hid (([]++l.take j++[f]++l.drop j).length<=B+1):=by show _<=_;simp;omega
     have Le:Hid (∀ t∈[]++l.take j++[f]++l.drop j,t.Ok w0):=fun t ht=>by
      simp only[List.nil_append,List.mem_append,List.mem_singleton]at ht
      rcases ht with(ht|ht)|ht
      · exact Ma.out t (List.mem_of_mem_take ht)
      · rw[ht];exact Vf.out
      · exact Ma.out t (List.mem_of_mem_drop ht)
     have Vc:Hid (Own Ft.cells 18 44 (W.alloc (.cells #[] 44)) V.heap.size (.slice (some ⟨W.heap.size,0,none⟩) 0 0) []):=Own.lit Kb.out.size
     have Ra:Hid (Below V.heap.size V (W.alloc (.cells #[] 44))):=Kb.out.alloc Kb.out.size _
     clear hA1 hA2
     go_upto_region 5 with(first|(at_builtin;refine Zaw elFt encFt rfl (.tmp 23) (.tmp 26) rfl rfl rfl Vc.out (Kc.out.kept Ra.out) Pd.out Ra.out.size Nb.out ?_;intro v2 w2 ho hb;have Fb:=hid ho;have Ia:Hid (Below V.heap.size V w2):=Ra.out.trans hb;clear ho hb)|fail)
     refine wrt (S:=fun w'=>Below V.heap.size V w') (.free 0 (.free 1 (.free 4 (.free 5 (.free 6 (.one 2 (.one 3 (.one 7 (.free 8 .done))))))))) (ZD Ia.out) ?_
     refine tk0 (v2) ?_
     refine tl w.heap.size 0 f.cells (fun w hS=>Tf.out w hS) ?_
     refine tk0 (.slice (some ⟨b1,o1,none⟩) l.length c) ?_
     refine tk0 (.int .i64 j) ?_
     refine tk0 (.slice A (l.length - j) (c - j)) ?_
     refine t1 fun K hK=>?_
     refine Zef elFt (by decide) _ rfl f.cells rfl rfl ?_
     refine hk hK (ZA (ZD Ia.out) _) ?_
     clear hK K
     refine t1 fun K hK=>?_
     refine ZcV (v:=v2) (l:=[]++l.take j) (m:=[f]) (n:=1) (c:=1) (ao:=some ⟨w2.drew.heap.size,0,none⟩) (B:=V.heap.size) elFt encFt (.tmp 28) (.tmp 30) (by rfl) (by rfl) (by rfl) ((Fb.out.kept (ZD (ZR _))).kept (Zab _)) (Zav f _ encFt) rfl (Nat.le_trans (ZD Ia.out).size (Zab _).size) Mb.out ?_
     intro v3 w3 ho hb
     have Sb:=hid ho
     have Qa:Hid (Below V.heap.size V w3):=(ZA (ZD Ia.out) _).trans hb
     refine hk hK Qa.out ?_
     clear hK K ho hb
     refine t1 fun K hK=>?_
     refine ZcV elFt encFt (.tmp 31) (.tmp 34) rfl rfl rfl Sb.out (Tc.out.kept Qa.out) Oe.out Qa.out.size Zb.out ?_
     intro v4 w4 ho hb
     have Ld:=hid ho
     have Pa:Hid (Below V.heap.size V w4):=Qa.out.trans hb
     refine hk hK Pa.out ?_
     clear hK K ho hb
     refine tk0 (v4) ?_
     refine ZaP ?_
     obtain⟨a5,c5,rfl,h5⟩:=FtsC.own Ld.out Vj.out Le.out
     go_wp2_with fail
     go_ret
     exact⟨_,_,_,rfl,h5,ZT Aa.out Pa.out⟩
  · have hd:decide ((j:Int)<(l.length:Int))=false:=by simpa using hjl
    go_upto_region 2 with fail
    go_quiet (fail)
    go_upto_region 4 with fail
    refine Zan (fun W hW=>?_)
    have Kb:Hid (Below V.heap.size V W):=by rw[hW];repeat(first|exact HR.out|refine Zad ?_ _)
    clear hW
    have hcu:=fun w=>Za4 elFt a l.length c j (by omega) w
    obtain⟨A,hcf,hA1,hA2⟩:=Za5 elFt a l.length c j hj
    have Kc:=hid (H.out.take j)
    have Tc:=hid (ZaV H.out hlc hA2)
    have Pd:Hid (j=(l.take j).length):=by show _=_;simp;omega
    have Oe:Hid (l.length - j=(l.drop j).length):=by show _=_;simp
    have Nb:Hid (([]:List Ft).length+(l.take j).length<=1000000000):=by show _<=_;simp;omega
    have Mb:Hid (([]++l.take j).length+[f].length<=1000000000):=by show _<=_;simp;omega
    have Zb:Hid (([]++l.take j++[f]).length+(l.drop j).length<=1000000000):=by show _<=_;simp;omega
    have Vj:Hid (([]++l.take j++[f]++l.drop j).length<=B+1):=by show _<=_;simp;omega
    have Le:Hid (∀ t∈[]++l.take j++[f]++l.drop j,t.Ok w0):=fun t ht=>by
     simp only[List.nil_append,List.mem_append,List.mem_singleton]at ht
     rcases ht with(ht|ht)|ht
     · exact Ma.out t (List.mem_of_mem_take ht)
     · rw[ht];exact Vf.out
     · exact Ma.out t (List.mem_of_mem_drop ht)
    have Vc:Hid (Own Ft.cells 18 44 (W.alloc (.cells #[] 44)) V.heap.size (.slice (some ⟨W.heap.size,0,none⟩) 0 0) []):=Own.lit Kb.out.size
    have Ra:Hid (Below V.heap.size V (W.alloc (.cells #[] 44))):=Kb.out.alloc Kb.out.size _
    clear hA1 hA2
    go_upto_region 5 with(first|(at_builtin;refine Zaw elFt encFt rfl (.tmp 23) (.tmp 26) rfl rfl rfl Vc.out (Kc.out.kept Ra.out) Pd.out Ra.out.size Nb.out ?_;intro v2 w2 ho hb;have Fb:=hid ho;have Ia:Hid (Below V.heap.size V w2):=Ra.out.trans hb;clear ho hb)|fail)
    refine wrt (S:=fun w'=>Below V.heap.size V w') (.free 0 (.free 1 (.free 4 (.free 5 (.free 6 (.one 2 (.one 3 (.one 7 (.free 8 .done))))))))) (ZD Ia.out) ?_
    refine tk0 (v2) ?_
    refine tl w.heap.size 0 f.cells (fun w hS=>Tf.out w hS) ?_
    refine tk0 (.slice a l.length c) ?_
    refine tk0 (.int .i64 j) ?_
    refine tk0 (.slice A (l.length - j) (c - j)) ?_
    refine t1 fun K hK=>?_
    refine Zef elFt (by decide) _ rfl f.cells rfl rfl ?_
    refine hk hK (ZA (ZD Ia.out) _) ?_
    clear hK K
    refine t1 fun K hK=>?_
    refine ZcV (v:=v2) (l:=[]++l.take j) (m:=[f]) (n:=1) (c:=1) (ao:=some ⟨w2.drew.heap.size,0,none⟩) (B:=V.heap.size) elFt encFt (.tmp 28) (.tmp 30) (by rfl) (by rfl) (by rfl) ((Fb.out.kept (ZD (ZR _))).kept (Zab _)) (Zav f _ encFt) rfl (Nat.le_trans (ZD Ia.out).size (Zab _).size) Mb.out ?_
    intro v3 w3 ho hb
    have Sb:=hid ho
    have Qa:Hid (Below V.heap.size V w3):=(ZA (ZD Ia.out) _).trans hb
    refine hk hK Qa.out ?_
    clear hK K ho hb
    refine t1 fun K hK=>?_
    refine ZcV elFt encFt (.tmp 31) (.tmp 34) rfl rfl rfl Sb.out (Tc.out.kept Qa.out) Oe.out Qa.out.size Zb.out ?_
    intro v4 w4 ho hb
    have Ld:=hid ho
    have Pa:Hid (Below V.heap.size V w4):=Qa.out.trans hb
    refine hk hK Pa.out ?_
    clear hK K ho hb
    refine tk0 (v4) ?_
    refine ZaP ?_
    obtain⟨a5,c5,rfl,h5⟩:=FtsC.own Ld.out Vj.out Le.out
    go_wp2_with fail
    go_ret
    exact⟨_,_,_,rfl,h5,ZT Aa.out Pa.out⟩
theorem newest_any (c_ta:Option Addr)(c_tn:Nat)(c_tc:Nat)(c_fa:Option Addr)(c_fn:Nat)(c_fc:Nat)(c_da:Option Addr)(c_dn:Nat)(c_dc:Nat)(c_qa:Option Addr)(c_qn:Nat)(c_qc:Nat)(nm:ByteArray)(w:World)(w0:World)(B:Nat)(hB:B<=100000)(h:CatW w0 B w c_ta c_tn c_fa c_fn c_da c_dn c_qa c_qn):Calls prog 184 #[.agg #[.slice c_ta c_tn c_tc,.slice c_fa c_fn c_fc,.slice c_da c_dn c_dc,.slice c_qa c_qn c_qc],.string nm] w (GotI w):=by
 obtain⟨lf,rfl,hlf,hokf,hf⟩:=h.f
 obtain⟨ld,rfl,hld,hokd,hd⟩:=h.d
 obtain⟨lq,rfl,hlq,hokq,hq⟩:=h.q
 have Rt:=hid hf
 have Wt:=hid hd
 have An:=hid hq
 clear hf hd hq hokf hokd hokq h
 go_enter func184,ntmps184
 go_upto_region 1 with fail
 refine gen1 (fun V B0 Aa=>?_)
 have HS:=hs1 B0
 simp only[Cl,Nat.reduceAdd]at HS
 have KK:=HS.out V (ZR V)
 have HF:Hid (Zac Ft.cells 18 V c_fa lf):=Rt.out.kept Aa.out
 have HD:Hid (Zac Ft.cells 18 V c_da ld):=Wt.out.kept Aa.out
 have HQ:Hid (Zac Ft.cells 18 V c_qa lq):=An.out.kept Aa.out
 have Nb:Hid (([]:List Ft).length+lf.length<=1000000000):=by show _<=_;simp;omega
 have Mb:Hid (([]++lf).length+ld.length<=1000000000):=by show _<=_;simp;omega
 have Zb:Hid (([]++lf++ld).length+lq.length<=1000000000):=by show _<=_;simp;omega
 have Vj:Hid (([]++lf++ld++lq).length<=1000000000):=by show _<=_;simp;omega
 refine wrt (S:=fun w'=>Below V.heap.size V w') (.free 1 (.free 2 (.free 4 (.free 5 (.free 7 (.free 8 (.one 0 (.one 3 (.one 6 (.one 9 (.free 10 .done))))))))))) (ZD (ZR V)) ?_
 have Ca:=fun wq (hSw:(fun w'=>Below V.heap.size V w') wq)=>HS.out wq hSw
 refine tk Ca (.pointer (some ⟨w.heap.size,1,none⟩)) ?_
 refine tk Ca (.slice c_fa lf.length c_fc) ?_
 refine tk Ca (.pointer (some ⟨w.heap.size,2,none⟩)) ?_
 refine tk Ca (.slice c_da ld.length c_dc) ?_
 refine tk Ca (.pointer (some ⟨w.heap.size,3,none⟩)) ?_
 refine tk Ca (.slice c_qa lq.length c_qc) ?_
 refine t1 fun K hK=>?_
 go_wp2_with fail
 have Ra:Hid (Below V.heap.size V (V.drew.alloc (.cells #[] 44))):=ZA (ZD (ZR V)) _
 have Vc:Hid (Own Ft.cells 18 44 (V.drew.alloc (.cells #[] 44)) V.heap.size (.slice (some ⟨V.drew.heap.size,0,none⟩) 0 0) []):=Own.lit (ZD (ZR V)).size
 refine hk hK Ra.out ?_
 clear hK K
 refine t1 fun K hK=>?_
 refine ZcV elFt encFt (.tmp 8) (.tmp 10) rfl rfl rfl Vc.out (HF.out.kept Ra.out) rfl Ra.out.size Nb.out ?_
 intro v2 w2 ho hb
 have Fb:=hid ho
 have Ia:Hid (Below V.heap.size V w2):=(Ra.out).trans hb
 refine hk hK Ia.out ?_
 clear hK K ho hb
 refine t1 fun K hK=>?_
 refine ZcV elFt encFt (.tmp 11) (.tmp 13) rfl rfl rfl Fb.out (HD.out.kept Ia.out) rfl Ia.out.size Mb.out ?_
 intro v3 w3 ho hb
 have Sb:=hid ho
 have Qa:Hid (Below V.heap.size V w3):=(Ia.out).trans hb
 refine hk hK Qa.out ?_
 clear hK K ho hb
 refine t1 fun K hK=>?_
 refine ZcV elFt encFt (.tmp 14) (.tmp 16) rfl rfl rfl Sb.out (HQ.out.kept Qa.out) rfl Qa.out.size Zb.out ?_
 intro v4 w4 ho hb
 have Ld:=hid ho
 have Pa:Hid (Below V.heap.size V w4):=(Qa.out).trans hb
 refine hk hK Pa.out ?_
 clear hK K ho hb
 refine tk Ca (v4) ?_
 refine ZaP ?_
 obtain⟨a5,c5,rfl,-,-,Qe⟩:=Ld.out.lies encFt
 have H5:=hid Qe
 clear Qe
 generalize []++lf++ld++lq=L at *
 go_wp2_with fail
 go_loop [6,7] (fun u v=>∃ (i:Nat) (k:Int),i<=L.length/\v=.int .i64 i/\u=.int .i64 k) (fun _ v=>L.length - (intOf v).toNat)
 case atStart=>exact⟨0,0,by omega,rfl,rfl⟩
 case round =>
  obtain⟨i,k,hi,rfl,rfl⟩:=hrel
  have hll:=Vj.out
  by_cases hlt:i<L.length
  · obtain⟨x,hx⟩:∃ x,L[i]?=some x:=⟨L[i],List.getElem?_eq_getElem hlt⟩
    obtain⟨b1,o1,rfl,Da⟩:=H5.out.some (by omega)
    have c0:=Ft.name Da hx
    have c17:=Da i x hx 17 _ rfl
    clear Da hx
    go_wp2_with fail
    all_goals(go_round;(case rel=>exact⟨i+1,_,by omega,by go_num,rfl⟩);(case measure=>simp[intOf];omega))
  · go_wp2_with fail
    go_ret
    exact⟨_,rfl,ZT Aa.out Pa.out⟩
open Go.Maps
abbrev SortI (l:List FID):Prop:=l.Pairwise (fun x y=>cmpID x y<0)
theorem ins_id {l:List FID}{id:FID}{j:Nat}(hs:SortI l)(hlo:∀ y∈l.take j,cmpID y id<0)(hhi:∀ y∈l.drop j,cmpID id y<0) :
 SortI (l.take j++[id]++l.drop j)/\(∀ x,x∈l.take j++[id]++l.drop j↔x∈l∨x=id)/\(l.take j++[id]++l.drop j).length<=l.length+1:=by
 have e:=List.take_append_drop j l
 have hs2:=hs
 rw[<-e]at hs2
 obtain⟨h1,h2,h3⟩:=List.pairwise_append.1 hs2
 refine⟨?_,fun x=>?_,by simp;omega⟩
 · unfold SortI
   rw[List.append_assoc,List.pairwise_append]
   refine⟨h1,List.pairwise_cons.2 ⟨hhi,h2⟩,fun a ha b hb=>?_⟩
   rcases List.mem_cons.1 hb with hb|hb
   · rw[hb];exact hlo a ha
   · exact h3 a ha b hb
 · have hx:x∈l↔x∈l.take j∨x∈l.drop j:=by rw[<-List.mem_append,e]
   rw[hx]
   simp only[List.mem_append,List.mem_singleton]
   constructor
   · rintro ((h|h)|h)
     · exact Or.inl (Or.inl h)
     · exact Or.inr h
     · exact Or.inl (Or.inr h)
   · rintro ((h|h)|h)
     · exact Or.inl (Or.inl h)
     · exact Or.inr h
     · exact Or.inl (Or.inr h)
theorem after_id {l:List FID}{id x:FID}{j:Nat}(hs:SortI l)(hx:l[j]?=some x)(h1:¬ cmpID x id<0)(h2:x≠id):∀ y∈l.drop j,cmpID id y<0:=by
 have hlt:cmpID id x<0:=by
  have:=Zb3.turn id x
  have hz:cmpID x id≠0:=fun e=>h2 ((Zb3.zero _ _).1 e)
  omega
 obtain⟨hj,rfl⟩:=List.getElem?_eq_some_iff.1 hx
 intro y hy
 rw[List.drop_eq_getElem_cons hj]at hy
 rcases List.mem_cons.1 hy with rfl|hy
 · exact hlt
 · have e:l.drop j=l[j] :: l.drop (j+1):=List.drop_eq_getElem_cons hj
   have hp:=(hs.sublist (List.drop_sublist j l))
   rw[e]at hp
   exact Zb3.trans _ _ _ hlt ((List.pairwise_cons.1 hp).1 y hy)
def Zdx (l:List FID)(id:FID)(w:World)(e:Ending)(w':World):Prop:=∃ (m:List FID) (a2:Option Addr) (c2:Nat),e=.returned (.slice a2 m.length c2)/\m.length<=c2/\(a2=none->c2=0)/\Zac fidC 2 w' a2 m/\SortI m/\(∀ x,x∈m↔x∈l∨x=id)/\m.length<=l.length+1/\Below w.heap.size w w'
set_option maxHeartbeats 8000000 in
theorem Ze5 (l:List FID)(a:Option Addr)(c:Nat)(id:FID)(hl:l.length<=100000)(hs:SortI l)(w:World)(h:Zac fidC 2 w a l)(hlc:l.length<=c)(hcn:a=none->c=0) :
 Calls prog 71 #[.slice a l.length c,fidV id] w (Zdx l id w):=by
 have H0:=hid h
 have HS:=hid hs
 have Yp:=hid hlc
 have Fj:=hid hcn
 clear h hs hcn
 go_enter func71,ntmps71
 go_upto_region 1 with fail
 refine gen1 (fun V B0 Aa=>?_)
 have H:Hid (Zac fidC 2 V a l):=H0.out.kept Aa.out
 go_wp2_with fail
 go_loopw [5] (fun v wr=>∃ j:Nat,j<=l.length/\v=.int .i64 j/\Hid (∀ y∈l.take j,cmpID y id<0)/\Hid (Below V.heap.size V wr)) (fun v _=>l.length - (intOf v).toNat)
 case atStart=>exact⟨0,by omega,rfl,(fun y hy=>by simp at hy),ZR V⟩
 case round =>
  obtain⟨j,hj,rfl,Ql,HR⟩:=hrel
  rename World=>wr
  by_cases hjl:j<l.length
  · obtain⟨x,hx⟩:∃ x,l[j]?=some x:=⟨l[j],List.getElem?_eq_getElem hjl⟩
    obtain⟨b1,o1,rfl,Da⟩:=Zat (H.out.kept HR.out) hx
    have Od:=hid hx
    have HCE:Hid (∀ w',Below wr.heap.size wr w'->w'.cell? ⟨b1,o1+j*2,none⟩=some (.string x.1)/\w'.cell? ⟨b1,o1+j*2+1,none⟩=some (.int .i64 x.2)/\w'.cell? ⟨w.heap.size,0,none⟩=some (.string id.1)/\w'.cell? ⟨w.heap.size,1,none⟩=some (.int .i64 id.2)):=fun w' hb=>⟨Zaa (Za2 Da hx).1 hb,Zaa (Za2 Da hx).2 hb,(B0.out.kept (ZT HR.out hb)).cell 0 _ rfl,(B0.out.kept (ZT HR.out hb)).cell 1 _ rfl⟩
    clear Da hx
    obtain⟨z,hz⟩:∃ z,cmpID x id=z:=⟨_,rfl⟩
    have HZ:=hid hz
    have Iy:Hid (∀ w',Calls prog 57 #[.agg #[.string x.1,.int .i64 x.2],.agg #[.string id.1,.int .i64 id.2]] w' fun e w2=>e=.returned (.int .i64 z)/\Below w'.heap.size w' w2):=fun w'=>by
     have h:=rid_any x.1 id.1 x.2 id.2 w'
     rw[show orI (cmpS x.1 id.1) (cmpI x.2 id.2)=z from hz]at h
     exact h
    clear hz
    obtain⟨c0,c1,c2,c3⟩:=HCE.out wr (ZR wr)
    have r0:=fun d os=>cell_regrown (w:=wr) c0 d os
    have r1:=fun d os=>cell_regrown (w:=wr) c1 d os
    have r2:=fun d os=>cell_regrown (w:=wr) c2 d os
    have r3:=fun d os=>cell_regrown (w:=wr) c3 d os
    have Yl:=hid (fun d os=>Calls.regrown_of (Iy.out (Go.Sort.grow (redrawn wr d) os)))
    have hd:decide ((j:Int)<(l.length:Int))=true:=by simpa using hjl
    by_cases hzn:z<0
    · have d1:decide (z<0)=true:=decide_eq_true hzn
      have Zw:Hid (∀ y∈l.take (j+1),cmpID y id<0):=fun y hy=>by
       rw[Zar Od.out]at hy
       rcases List.mem_append.1 hy with hy|hy
       · exact Ql.out y hy
       · simp at hy;rw[hy,HZ.out];exact hzn
      go_upto_region 2 with fail
      try simp only[Act.put,m1,m2,m3]
      refine wp_region_quiet_below (by kernel_rfl) (by kernel_rfl) ?_
      repeat(go_big_quiet_step (first|with_reducible exact Yl.out _ _))
      refine wpQuiet_nil ?_
      intro _ hw'
      obtain⟨p9,hw''⟩:=hw'
      subst hw''
      have Ie:=below_regrown wr p9.d p9.os
      clear c0 c1 c2 c3 r0 r1 r2 r3 Yl
      generalize Go.Sort.grow (redrawn wr p9.d) p9.os=V2 at *
      have La:Hid (Below V.heap.size V V2):=ZT HR.out Ie
      have Wc:Hid (Below wr.heap.size wr V2):=Ie
      clear Ie
      go_wp2_with fail
      go_roundw
      case rel=>exact⟨j+1,by omega,by go_num,Zw,La⟩
      case measure=>simp[intOf];omega
    · have d1:decide (z<0)=false:=decide_eq_false hzn
      go_upto_region 2 with fail
      try simp only[Act.put,m1,m2,m3]
      refine wp_region_quiet_below (by kernel_rfl) (by kernel_rfl) ?_
      repeat(go_big_quiet_step (first|with_reducible exact Yl.out _ _))
      refine wpQuiet_nil ?_
      intro _ hw'
      obtain⟨p9,hw''⟩:=hw'
      subst hw''
      have Ie:=below_regrown wr p9.d p9.os
      clear c0 c1 c2 c3 r0 r1 r2 r3 Yl
      generalize Go.Sort.grow (redrawn wr p9.d) p9.os=V2 at *
      have La:Hid (Below V.heap.size V V2):=ZT HR.out Ie
      have Wc:Hid (Below wr.heap.size wr V2):=Ie
      clear Ie
      obtain⟨c0,c1,c2,c3⟩:=HCE.out V2 Wc.out
      have hg:∀ op a b w,(eqGuard op 24 a b (.agg #[.string x.1,.int .i64 x.2]) (.agg #[.string id.1,.int .i64 id.2])).run prog w=.ok () w:=fun op a b w=>Zff op a b x id w
      have he:∀ w,(binOp .eql 24 (.agg #[.string x.1,.int .i64 x.2]) (.agg #[.string id.1,.int .i64 id.2])).run prog w=.ok (.bool (eqF x id)) w:=eql36 x id
      go_upto_region 4 with fail
      cases hq:eqF x id
      · rw[hq]at he
        have Uo:Hid (∀ y∈l.drop j,cmpID id y<0):=after_id HS.out Od.out (by rw[HZ.out];exact hzn) (fun e=>by rw[ZaW.2 e]at hq;cases hq)
        go_quiet (fail)
        go_upto_region 6 with fail
        refine Zan (fun W hW=>?_)
        have Kb:Hid (Below V.heap.size V W):=by rw[hW];repeat(first|exact La.out|exact HR.out|refine Zad ?_ _)
        clear hW
        have hcu:=fun w=>Za4 elF (some ⟨b1,o1,none⟩) l.length c j (by omega) w
        obtain⟨A,hcf,hA1,hA2⟩:=Za5 elF (some ⟨b1,o1,none⟩) l.length c j hj
        have Kc:=hid (H.out.take j)
        have Tc:=hid (ZaV H.out Yp.out hA2)
        have Pd:Hid (j=(l.take j).length):=by show _=_;simp;omega
        have Oe:Hid (l.length - j=(l.drop j).length):=by show _=_;simp
        have Nb:Hid (([]:List FID).length+(l.take j).length<=1000000000):=by show _<=_;simp;omega
        have Mb:Hid (([]++l.take j).length+[id].length<=1000000000):=by show _<=_;simp;omega
        have Zb:Hid (([]++l.take j++[id]).length+(l.drop j).length<=1000000000):=by show _<=_;simp;omega
        have Vc:Hid (Own fidC 2 24 (W.alloc (.cells #[] 24)) V.heap.size (.slice (some ⟨W.heap.size,0,none⟩) 0 0) []):=Own.lit Kb.out.size
        have Ra:Hid (Below V.heap.size V (W.alloc (.cells #[] 24))):=Kb.out.alloc Kb.out.size _
        have j0:=fun w' (h:Below W.heap.size W w')=>(B0.out.kept (ZT Kb.out h)).cell 0 (.string id.1) rfl
        have j1:=fun w' (h:Below W.heap.size W w')=>(B0.out.kept (ZT Kb.out h)).cell 1 (.int .i64 id.2) rfl
        clear hA1 hA2
        go_wp2_with (first
         |(at_builtin;refine Zaw elF Zbi rfl (.tmp 35) (.tmp 38) rfl rfl rfl Vc.out (Kc.out.kept Ra.out) Pd.out Ra.out.size Nb.out ?_;intro v2 w2 ho hb;have Fb:=hid ho;have Ia:Hid (Below V.heap.size V w2):=Ra.out.trans hb;have k0:=(B0.out.kept Ia.out).cell 0 (.string id.1) rfl;have k1:=(B0.out.kept Ia.out).cell 1 (.int .i64 id.2) rfl;clear ho hb)
         |(refine wpList_plain rfl fun K hK=>?_;refine op_litQ elF Zbi (by decide) _ rfl id rfl ?_;intro g4 u4 Gh Hh hg4s hb;have Fe:=hid Gh;have Ac:=hid hb;refine hK _ _ ?_;clear hK K Gh hb)
         |(at_builtin;refine Zai elF Zbi rfl (.tmp 40) (.tmp 42) rfl rfl rfl (Fb.out.kept Ac.out) (Or.inr ⟨g4,0,rfl,Fe.out⟩) rfl (fun e=>by cases e) (ZT Ia.out Ac.out).size Mb.out ?_;intro v3 w3 ho hb;have Sb:=hid ho;have Qa:=hid ((ZT Ia.out Ac.out).trans hb);clear ho hb)
         |(at_builtin;refine Zaw elF Zbi rfl (.tmp 44) (.tmp 47) rfl rfl rfl Sb.out (Tc.out.kept Qa.out) Oe.out Qa.out.size Zb.out ?_;intro v4 w4 ho hb;have Ld:=hid ho;have Pa:Hid (Below V.heap.size V w4):=Qa.out.trans hb;clear ho hb)
         |fail)
        go_ret
        obtain⟨a5,c5,e5,h5a,h5b,h5⟩:=Ld.out.lies Zbi
        have hm:=ins_id HS.out Ql.out Uo.out
        rw[List.nil_append]at e5 h5a h5
        exact⟨_,a5,c5,by rw[e5];rfl,h5a,h5b,h5,hm.1,hm.2.1,hm.2.2,ZT Aa.out Pa.out⟩
      · rw[hq]at he
        have Uw:Hid (id∈l):=by rw[<-ZaW.1 hq];exact List.mem_of_getElem? Od.out
        have HLV:Hid (Zac fidC 2 V2 (some ⟨b1,o1,none⟩) l):=H.out.kept La.out
        go_quiet (fail)
        go_wp2_with fail
        go_ret
        exact⟨l,_,c,rfl,Yp.out,(fun e=>by cases e),by first|exact HLV.out|exact HLV.out.kept (Zad (ZR _) _),HS.out,fun y=>⟨Or.inl,fun h=>h.elim (fun h=>h) (fun e=>e ▸ Uw.out)⟩,by omega,ZT Aa.out (by first|exact La.out|exact Zad La.out _)⟩
  · have hd:decide ((j:Int)<(l.length:Int))=false:=by simpa using hjl
    have Uo:Hid (∀ y∈l.drop j,cmpID id y<0):=fun y hy=>by rw[List.drop_eq_nil_of_le (by omega)]at hy;cases hy
    go_upto_region 2 with fail
    go_quiet (fail)
    go_upto_region 4 with fail
    go_quiet (fail)
    go_upto_region 6 with fail
    refine Zan (fun W hW=>?_)
    have Kb:Hid (Below V.heap.size V W):=by rw[hW];repeat(first|exact HR.out|refine Zad ?_ _)
    clear hW
    have hcu:=fun w=>Za4 elF (a) l.length c j (by omega) w
    obtain⟨A,hcf,hA1,hA2⟩:=Za5 elF (a) l.length c j hj
    have Kc:=hid (H.out.take j)
    have Tc:=hid (ZaV H.out Yp.out hA2)
    have Pd:Hid (j=(l.take j).length):=by show _=_;simp;omega
    have Oe:Hid (l.length - j=(l.drop j).length):=by show _=_;simp
    have Nb:Hid (([]:List FID).length+(l.take j).length<=1000000000):=by show _<=_;simp;omega
    have Mb:Hid (([]++l.take j).length+[id].length<=1000000000):=by show _<=_;simp;omega
    have Zb:Hid (([]++l.take j++[id]).length+(l.drop j).length<=1000000000):=by show _<=_;simp;omega
    have Vc:Hid (Own fidC 2 24 (W.alloc (.cells #[] 24)) V.heap.size (.slice (some ⟨W.heap.size,0,none⟩) 0 0) []):=Own.lit Kb.out.size
    have Ra:Hid (Below V.heap.size V (W.alloc (.cells #[] 24))):=Kb.out.alloc Kb.out.size _
    have j0:=fun w' (h:Below W.heap.size W w')=>(B0.out.kept (ZT Kb.out h)).cell 0 (.string id.1) rfl
    have j1:=fun w' (h:Below W.heap.size W w')=>(B0.out.kept (ZT Kb.out h)).cell 1 (.int .i64 id.2) rfl
    clear hA1 hA2
    go_wp2_with (first
     |(at_builtin;refine Zaw elF Zbi rfl (.tmp 35) (.tmp 38) rfl rfl rfl Vc.out (Kc.out.kept Ra.out) Pd.out Ra.out.size Nb.out ?_;intro v2 w2 ho hb;have Fb:=hid ho;have Ia:Hid (Below V.heap.size V w2):=Ra.out.trans hb;have k0:=(B0.out.kept Ia.out).cell 0 (.string id.1) rfl;have k1:=(B0.out.kept Ia.out).cell 1 (.int .i64 id.2) rfl;clear ho hb)
     |(refine wpList_plain rfl fun K hK=>?_;refine op_litQ elF Zbi (by decide) _ rfl id rfl ?_;intro g4 u4 Gh Hh hg4s hb;have Fe:=hid Gh;have Ac:=hid hb;refine hK _ _ ?_;clear hK K Gh hb)
     |(at_builtin;refine Zai elF Zbi rfl (.tmp 40) (.tmp 42) rfl rfl rfl (Fb.out.kept Ac.out) (Or.inr ⟨g4,0,rfl,Fe.out⟩) rfl (fun e=>by cases e) (ZT Ia.out Ac.out).size Mb.out ?_;intro v3 w3 ho hb;have Sb:=hid ho;have Qa:=hid ((ZT Ia.out Ac.out).trans hb);clear ho hb)
     |(at_builtin;refine Zaw elF Zbi rfl (.tmp 44) (.tmp 47) rfl rfl rfl Sb.out (Tc.out.kept Qa.out) Oe.out Qa.out.size Zb.out ?_;intro v4 w4 ho hb;have Ld:=hid ho;have Pa:Hid (Below V.heap.size V w4):=Qa.out.trans hb;clear ho hb)
     |fail)
    go_ret
    obtain⟨a5,c5,e5,h5a,h5b,h5⟩:=Ld.out.lies Zbi
    have hm:=ins_id HS.out Ql.out Uo.out
    rw[List.nil_append]at e5 h5a h5
    exact⟨_,a5,c5,by rw[e5];rfl,h5a,h5b,h5,hm.1,hm.2.1,hm.2.2,ZT Aa.out Pa.out⟩
end Go.Proofs.YtfnpfkgmacaboaaGreat
