/- Texts joined by a program. -/
import Derived.Laws.MakeOwn
import Derived.Test.YtfnpfkgmacaboaaGreatM34
namespace Go.Proofs.YtfnpfkgmacaboaaGreat
open Go.Proofs.Tryz
open Lib (hid)
open Go.ChangeShapes Go.WideShapes Go.ChangeAt Go.RowKit
set_option linter.unusedVariables false
set_option linter.unusedSimpArgs false
set_option maxRecDepth 100000
set_option maxHeartbeats 4000000
theorem next_any12 (c_ta:Option Addr)(c_tn:Nat)(c_tc:Nat)(c_fa:Option Addr)(c_fn:Nat)(c_fc:Nat)(c_da:Option Addr)(c_dn:Nat)(c_dc:Nat)(c_qa:Option Addr)(c_qn:Nat)(c_qc:Nat)(nm:ByteArray)(w:World)(w0:World)(hw0:Below w0.heap.size w0 w)(B:Nat)(hB:B<=100000)(h:CatW w0 B w c_ta c_tn c_fa c_fn c_da c_dn c_qa c_qn):Calls prog 207 #[.agg #[.slice c_ta c_tn c_tc,.slice c_fa c_fn c_fc,.slice c_da c_dn c_dc,.slice c_qa c_qn c_qc],.string nm] w (ZeZ 80 w):=by
 have HC0:=hid h
 have HW0:=hid hw0
 clear h hw0
 go_enter func207,ntmps207
 go_upto_region 1 with fail
 refine Zam (fun V hV=>?_)
 have B0:Hid (Box V w.heap.size #[.slice c_ta c_tn c_tc,.slice c_fa c_fn c_fc,.slice c_da c_dn c_dc,.slice c_qa c_qn c_qc] 118):=by rw[hV];exact ZaE _ _ _
 have HBV:Hid (Below w.heap.size w V):=by rw[hV];exact(by repeat first|exact ZR _|refine ZA ?_ _)
 clear hV
 have HS:Hid (∀ w',Below V.heap.size V w'->w'.cell? ⟨w.heap.size,0,none⟩=some (.slice c_ta c_tn c_tc)/\w'.cell? ⟨w.heap.size,1,none⟩=some (.slice c_fa c_fn c_fc)/\w'.cell? ⟨w.heap.size,2,none⟩=some (.slice c_da c_dn c_dc)/\w'.cell? ⟨w.heap.size,3,none⟩=some (.slice c_qa c_qn c_qc)):=fun w' h=>⟨(B0.out.kept h).cell 0 _ rfl,(B0.out.kept h).cell 1 _ rfl,(B0.out.kept h).cell 2 _ rfl,(B0.out.kept h).cell 3 _ rfl⟩
 obtain⟨k0_0,k0_1,k0_2,k0_3⟩:=HS.out V (ZR V)
 have HC:Hid (CatW w0 B V c_ta c_tn c_fa c_fn c_da c_dn c_qa c_qn):=HC0.out.kept HBV.out
 go_upto_region 2 with(first|(go_at_call 217;refine(ZcM _ _ _ _ _ _ _ _ _ _ _ _ _ _ w0 B hB (HC.out.kept (by repeat first|exact ZR _|exact ZH (by assumption)|refine ZA ?_ _|refine ZD ?_|refine ZN ?_ _))).mono ?_;rintro e w5 ⟨f5,b5,rfl,hf5,hb⟩;have HF5:=hid hf5;have HW5:Hid (Below V.heap.size V w5):=ZT (by repeat first|exact ZR _|exact ZH (by assumption)|refine ZA ?_ _|refine ZD ?_|refine ZN ?_ _) hb;clear hf5 hb)|((with_reducible refine Zbf 44 ?_);refine Zbl rfl rfl 44 _ _ rfl rfl rfl (Ft.cells f5) rfl rfl (by kernel_rfl) (by rfl) V (by repeat first|exact ZR _|exact ZH (by assumption)|refine ZA ?_ _|refine ZD ?_|refine ZN ?_ _) ?_;intro w8 hbx hbe hbl;have HXB:=hid hbx;have HW8:Hid (Below V.heap.size V w8):=hbe;have HFB:Hid (∀ j v,(Ex.cells f5.b)[j]?=some v->w8.cell? ⟨w5.heap.size,5+j,none⟩=some v):=fun j v hj=>hbx.cell (5+j) v (Za8 (k:=5) (m:=12) hj rfl);clear hbx hbe hbl)|fail)
 obtain⟨hu5,n5,hn5⟩:=HF5.out
 have HN5:=hid hn5
 clear hu5 hn5
 go_upto_region 3 with(first|((with_reducible refine Zaq 42 ?_);refine Zas rfl 42 _ rfl w5.heap.size 5 (Ex.cells f5.b) rfl HFB.out _ underlying42 rfl (by kernel_rfl) ?_;intro v hv;obtain rfl:=hv.out)|(go_at_call 218;refine(direct_any n5 80 f5.b _ ((HN5.out.kept HW0.out).kept (ZT HBV.out HW8.out)) _ _ _ _ _ _ (StrsW.nil _) (StrsW.nil _) (by omega) (by omega)).mono ?_;rintro e w6 ⟨a7,n7,c7,a8,n8,c8,rfl,h7,-,hm7,-,hb⟩;have HA7:=hid h7;have HW6:Hid (Below V.heap.size V w6):=ZT (by repeat first|exact ZR _|exact ZH (by assumption)|refine ZA ?_ _|refine ZD ?_|refine ZN ?_ _) hb;clear h7 hb)|fail)
 obtain⟨l7,rfl,-,-,hl7⟩:=HA7.out
 have HL7:=hid hl7
 clear hl7
 go_wp2_with fail
 go_loopw [9,10] (fun v jj wr=>∃ (i:Nat) (l9:List ByteArray) (v0:Value),v0=v/\i<=l7.length/\jj=.int .i64 i/\Hid (Own (fun s:ByteArray=>[Value.string s]) 1 9 wr w6.heap.size v l9)/\l9.length<=i/\Hid (Below w6.heap.size w6 wr)) (fun _ jj _=>l7.length - (intOf jj).toNat)
 case atStart=>exact⟨0,[],_,rfl,by omega,rfl,Own.nil _ _,by simp,ZR w6⟩
 case round =>
  obtain⟨i,l9,v0,rfl,hi,rfl,HO,hl9,HRQ⟩:=hrel
  have HR:Hid (Below V.heap.size V wr):=ZT HW6.out HRQ.out
  have KK:=HS.out _ HR.out
  obtain⟨k0_0,k0_1,k0_2,k0_3⟩:=KK
  by_cases hlt:i<l7.length
  · obtain⟨s,hs⟩:∃ s,l7[i]?=some s:=⟨l7[i],List.getElem?_eq_getElem hlt⟩
    obtain⟨b7,o7,rfl,hr7⟩:=(HL7.out.kept HRQ.out).some (by omega)
    have d0:=Zbt hr7 hs
    have HSS:Hid (∀ w',Below wr.heap.size wr w'->w'.cell? ⟨b7,o7+i,none⟩=some (.string s)):=fun w' hb=>Zaa d0 hb
    have HL:Hid (l9.length+[s].length<=1000000000):=by show _<=_;simp;omega
    clear hr7 hs
    go_upto_region 7 with fail
    refine ZaI (S:=fun w'=>Below wr.heap.size wr w') (.free 0 (.free 1 (.free 2 (.free 3 (.free 4 (.two 5 (.free 6 (.free 7 (.free 8 (.one 9 (.one 10 (.free 11 .done)))))) 9 (.one 5 (.free 6 (.free 7 (.free 8 (.one 10 (.free 11 .done)))))))))))) (by kernel_rfl) (by kernel_rfl) (fun _ _ _ _ _ h=>h) (by kernel_rfl) (by kernel_rfl) (ZD (ZR wr)) ?_
    refine Zac _ (.agg #[.slice c_ta c_tn c_tc,.slice c_fa c_fn c_fc,.slice c_da c_dn c_dc,.slice c_qa c_qn c_qc]) rfl (by rfl) (by intro wq hSw;have KQ:=HS.out wq (ZT HR.out hSw);obtain⟨k0_0,k0_1,k0_2,k0_3⟩:=KQ;have d0:=HSS.out wq hSw;go_simp) ?_
    try simp only[Act.put,m1,m2,m3]
    refine Zac _ (.slice (some ⟨b7,o7,none⟩) l7.length c7) rfl (by rfl) (by intro wq hSw;have KQ:=HS.out wq (ZT HR.out hSw);obtain⟨k0_0,k0_1,k0_2,k0_3⟩:=KQ;have d0:=HSS.out wq hSw;go_simp) ?_
    try simp only[Act.put,m1,m2,m3]
    refine Zac _ (.int .i64 i) rfl (by rfl) (by intro wq hSw;have KQ:=HS.out wq (ZT HR.out hSw);obtain⟨k0_0,k0_1,k0_2,k0_3⟩:=KQ;have d0:=HSS.out wq hSw;go_simp) ?_
    try simp only[Act.put,m1,m2,m3]
    refine Zac _ (.pointer (some ⟨b7,o7+i,none⟩)) rfl (by rfl) (by intro wq hSw;have KQ:=HS.out wq (ZT HR.out hSw);obtain⟨k0_0,k0_1,k0_2,k0_3⟩:=KQ;have d0:=HSS.out wq hSw;go_simp) ?_
    try simp only[Act.put,m1,m2,m3]
    refine Zac _ (.string s) rfl (by rfl) (by intro wq hSw;have KQ:=HS.out wq (ZT HR.out hSw);obtain⟨k0_0,k0_1,k0_2,k0_3⟩:=KQ;have d0:=HSS.out wq hSw;go_simp) ?_
    try simp only[Act.put,m1,m2,m3]
    refine tr_two ?_ ?_
    · skip
      refine ZaN _ rfl (by rfl) (fun K hK=>?_)
      go_wp2_with (go_at_call 217;refine(ZcM _ _ _ _ _ _ _ _ _ _ _ _ _ _ w0 B hB (HC.out.kept (ZT HR.out (by repeat first|exact ZR _|exact ZH (by assumption)|refine ZA ?_ _|refine ZD ?_|refine ZN ?_ _)))).mono ?_;rintro e w5 ⟨f5,b5,rfl,hf5,hb⟩;have HW5:Hid (Below wr.heap.size wr w5):=ZT (by repeat first|exact ZR _|exact ZH (by assumption)|refine ZA ?_ _|refine ZD ?_|refine ZN ?_ _) hb;clear hf5 hb)
      refine hK.out _ _ HW5.out (fun hHeld=>?_)
      clear hK K
      try simp only[Act.put,m1,m2,m3]
      refine Zac _ (.tuple #[.agg (Ft.cells f5).toArray,.bool b5]) rfl (by rfl) (by intro wq hSw;have KQ:=HS.out wq (ZT HR.out hSw);obtain⟨k0_0,k0_1,k0_2,k0_3⟩:=KQ;have d0:=HSS.out wq hSw;go_simp) ?_
      try simp only[Act.put,m1,m2,m3]
      refine Zac _ (.agg (Ft.cells f5).toArray) rfl (by rfl) (by intro wq hSw;have KQ:=HS.out wq (ZT HR.out hSw);obtain⟨k0_0,k0_1,k0_2,k0_3⟩:=KQ;have d0:=HSS.out wq hSw;go_simp) ?_
      try simp only[Act.put,m1,m2,m3]
      refine Zac _ (.bool b5) rfl (by rfl) (by intro wq hSw;have KQ:=HS.out wq (ZT HR.out hSw);obtain⟨k0_0,k0_1,k0_2,k0_3⟩:=KQ;have d0:=HSS.out wq hSw;go_simp) ?_
      try simp only[Act.put,m1,m2,m3]
      refine ZaN _ rfl (by rfl) (fun K hK=>?_)
      refine op_newV 44 rfl [.string ⟨#[]⟩,.string ⟨#[]⟩,.int .i64 0,.slice none 0 0,.string ⟨#[]⟩,.int .i64 0,.string ⟨#[]⟩,.string ⟨#[]⟩,.string ⟨#[]⟩,.int .i64 0,.int .i64 0,.string ⟨#[]⟩,.slice none 0 0,.int .i64 0,.int .i64 0,.int .i64 0,.slice none 0 0,.int .i64 0] (by kernel_rfl) ?_
      intro w9 hnb hbe
      have HN:=hid hnb
      have HW9:Hid (Below wr.heap.size wr w9):=ZT (by repeat first|exact ZR _|exact ZH (by assumption)|refine ZA ?_ _|refine ZD ?_|refine ZN ?_ _) hbe
      refine hK.out _ _ HW9.out (fun hHeld=>?_)
      clear hK K hnb hbe
      try simp only[Act.put,m1,m2,m3]
      refine ZaN _ rfl (by rfl) (fun K hK=>?_)
      have HN2:=HN
      refine Zd7 44 _ _ rfl rfl _ 44 _ (Ft.cells f5) rfl rfl HN2.out (by kernel_rfl) (by rfl) (by rfl) wr (by repeat first|exact ZR _|exact ZH (by assumption)|refine ZA ?_ _|refine ZD ?_|refine ZN ?_ _) (by first|exact HW5.out.size|exact Nat.le_refl _) ?_
      intro w10 hb10 hbe10 hot
      have HW10:Hid (Below wr.heap.size wr w10):=hbe10
      refine hK.out _ _ HW10.out (fun hHeld=>?_)
      clear hK K hb10 hbe10 hot
      try simp only[Act.put,m1,m2,m3]
      refine Zac _ (.bool b5) rfl (by rfl) (by intro wq hSw;have KQ:=HS.out wq (ZT HR.out hSw);obtain⟨k0_0,k0_1,k0_2,k0_3⟩:=KQ;have d0:=HSS.out wq hSw;go_simp) ?_
      try simp only[Act.put,m1,m2,m3]
      refine Zbb ?_
      have d0:=HSS.out _ HW10.out
      have HR10:Hid (Below V.heap.size V w10):=ZT HR.out HW10.out
      have HQ10:Hid (Below w6.heap.size w6 w10):=ZT HRQ.out HW10.out
      have HOK:=hid (HO.out.kept HW10.out)
      cases b5
      all_goals
       go_wp2_with (first|(at_builtin;refine Zay elS encS rfl (.tmp 41) (.tmp 46) rfl rfl rfl ((HO.out.kept HW10.out).kept (Zab _)) (ZaG _ _ encS) rfl (fun e=>by cases e) (Nat.le_trans HQ10.out.size (Zab _).size) HL.out ?_;intro v3 w3 ho hb;have HO3:=hid ho;have HQ3:Hid (Below w6.heap.size w6 w3):=(HQ10.out.alloc HQ10.out.size _).trans hb;clear ho hb)|fail)
      all_goals
       go_roundw
      all_goals first
       |(case rel=>exact⟨i+1,l9,_,rfl,by omega,by go_num,HOK.out,by omega,HQ10.out⟩)
       |(case rel=>exact⟨i+1,l9++[s],_,rfl,by omega,by go_num,HO3.out,by simp;omega,HQ3.out⟩)
       |(case measure=>simp[intOf];omega)
    · skip
      refine ZaN _ rfl (by rfl) (fun K hK=>?_)
      refine op_newV 44 rfl [.string ⟨#[]⟩,.string ⟨#[]⟩,.int .i64 0,.slice none 0 0,.string ⟨#[]⟩,.int .i64 0,.string ⟨#[]⟩,.string ⟨#[]⟩,.string ⟨#[]⟩,.int .i64 0,.int .i64 0,.string ⟨#[]⟩,.slice none 0 0,.int .i64 0,.int .i64 0,.int .i64 0,.slice none 0 0,.int .i64 0] (by kernel_rfl) ?_
      intro w9 hnb hbe
      have HN:=hid hnb
      have HW9:Hid (Below wr.heap.size wr w9):=ZT (by repeat first|exact ZR _|exact ZH (by assumption)|refine ZA ?_ _|refine ZD ?_|refine ZN ?_ _) hbe
      refine hK.out _ _ HW9.out (fun hHeld=>?_)
      clear hK K hnb hbe
      try simp only[Act.put,m1,m2,m3]
      refine ZaN _ rfl (by rfl) (fun K hK=>?_)
      go_wp2_with (go_at_call 217;refine(ZcM _ _ _ _ _ _ _ _ _ _ _ _ _ _ w0 B hB (HC.out.kept (ZT HR.out (by repeat first|exact ZR _|exact ZH (by assumption)|refine ZA ?_ _|refine ZD ?_|refine ZN ?_ _)))).mono ?_;rintro e w5 ⟨f5,b5,rfl,hf5,hb⟩;have HW5:Hid (Below wr.heap.size wr w5):=ZT (by repeat first|exact ZR _|exact ZH (by assumption)|refine ZA ?_ _|refine ZD ?_|refine ZN ?_ _) hb;have hKB:=hid hb;clear hf5 hb)
      refine hK.out _ _ HW5.out (fun hHeld=>?_)
      clear hK K
      try simp only[Act.put,m1,m2,m3]
      refine Zac _ (.tuple #[.agg (Ft.cells f5).toArray,.bool b5]) rfl (by rfl) (by intro wq hSw;have KQ:=HS.out wq (ZT HR.out hSw);obtain⟨k0_0,k0_1,k0_2,k0_3⟩:=KQ;have d0:=HSS.out wq hSw;go_simp) ?_
      try simp only[Act.put,m1,m2,m3]
      refine Zac _ (.agg (Ft.cells f5).toArray) rfl (by rfl) (by intro wq hSw;have KQ:=HS.out wq (ZT HR.out hSw);obtain⟨k0_0,k0_1,k0_2,k0_3⟩:=KQ;have d0:=HSS.out wq hSw;go_simp) ?_
      try simp only[Act.put,m1,m2,m3]
      refine Zac _ (.bool b5) rfl (by rfl) (by intro wq hSw;have KQ:=HS.out wq (ZT HR.out hSw);obtain⟨k0_0,k0_1,k0_2,k0_3⟩:=KQ;have d0:=HSS.out wq hSw;go_simp) ?_
      try simp only[Act.put,m1,m2,m3]
      refine ZaN _ rfl (by rfl) (fun K hK=>?_)
      have HN2:=hid (HN.out.kept hKB.out)
      refine Zd7 44 _ _ rfl rfl _ 44 _ (Ft.cells f5) rfl rfl HN2.out (by kernel_rfl) (by rfl) (by rfl) wr (by repeat first|exact ZR _|exact ZH (by assumption)|refine ZA ?_ _|refine ZD ?_|refine ZN ?_ _) (by first|exact HW5.out.size|exact Nat.le_refl _) ?_
      intro w10 hb10 hbe10 hot
      have HW10:Hid (Below wr.heap.size wr w10):=hbe10
      refine hK.out _ _ HW10.out (fun hHeld=>?_)
      clear hK K hb10 hbe10 hot
      try simp only[Act.put,m1,m2,m3]
      refine Zac _ (.bool b5) rfl (by rfl) (by intro wq hSw;have KQ:=HS.out wq (ZT HR.out hSw);obtain⟨k0_0,k0_1,k0_2,k0_3⟩:=KQ;have d0:=HSS.out wq hSw;go_simp) ?_
      try simp only[Act.put,m1,m2,m3]
      refine Zbb ?_
      have d0:=HSS.out _ HW10.out
      have HR10:Hid (Below V.heap.size V w10):=ZT HR.out HW10.out
      have HQ10:Hid (Below w6.heap.size w6 w10):=ZT HRQ.out HW10.out
      have HOK:=hid (HO.out.kept HW10.out)
      cases b5
      all_goals
       go_wp2_with (first|(at_builtin;refine Zay elS encS rfl (.tmp 41) (.tmp 46) rfl rfl rfl ((HO.out.kept HW10.out).kept (Zab _)) (ZaG _ _ encS) rfl (fun e=>by cases e) (Nat.le_trans HQ10.out.size (Zab _).size) HL.out ?_;intro v3 w3 ho hb;have HO3:=hid ho;have HQ3:Hid (Below w6.heap.size w6 w3):=(HQ10.out.alloc HQ10.out.size _).trans hb;clear ho hb)|fail)
      all_goals
       go_roundw
      all_goals first
       |(case rel=>exact⟨i+1,l9,_,rfl,by omega,by go_num,HOK.out,by omega,HQ10.out⟩)
       |(case rel=>exact⟨i+1,l9++[s],_,rfl,by omega,by go_num,HO3.out,by simp;omega,HQ3.out⟩)
       |(case measure=>simp[intOf];omega)
  · go_wp2_with fail
    obtain⟨a5,c5,rfl,h5⟩:=StrsW.own HO.out
    go_ret
    exact⟨_,_,_,rfl,h5,by omega,ZT HBV.out HR.out⟩
abbrev Sl:=Option Addr × Nat × Nat
def slC (s:Sl):List Value:=[.slice s.1 s.2.1 s.2.2]
abbrev nC (t:Int):List Value:=[.int .i64 t]
theorem encSl:Enc slC 1:=⟨fun _=>rfl,fun x v hv=>by simp[slC]at hv;subst hv;rfl⟩
theorem elSl:El prog 101 233 1 24:=⟨underlying233,by kernel_rfl,by decide,by decide⟩
theorem encI:Enc nC 1:=⟨fun _=>rfl,fun x v hv=>by simp at hv;subst hv;rfl⟩
theorem elI:El prog 3 101 1 8:=⟨underlying101,by kernel_rfl,by decide,by decide⟩
structure GrR (w:World) (R:List (List Int)) (a:Option Addr):Prop where
 ok:∀ r∈R,r.length<=R.length/\∀ x∈r,0<=x/\x<R.length
 lies:∃ L:List Sl,L.length=R.length/\Zaf slC 1 w a L/\∀ (i:Nat) (s:Sl) (r:List Int),L[i]?=some s->R[i]?=some r->s.2.1=r.length/\Zaf nC 1 w s.1 r
theorem GrR.kept {w w':World}{R:List (List Int)}{a:Option Addr}(h:GrR w R a)(hb:Below w.heap.size w w'):GrR w' R a :=
 ⟨h.ok,let ⟨L,h1,h2,h3⟩:=h.lies;⟨L,h1,h2.kept hb,fun i s r hs hr=>⟨(h3 i s r hs hr).1,(h3 i s r hs hr).2.kept hb⟩⟩⟩
theorem Zcw {α:Type}{enc:α->List Value}{b off:Nat}{w:World}{l:List α}{f:α->Value}(he:∀ x,enc x=[f x])(h:Lies enc 1 w b off l){i:Nat}{x:α}(hx:l[i]?=some x):w.cell? ⟨b,off+i,none⟩=some (f x):=by
 have:=h i x hx 0 (f x) (by rw[he];rfl)
 rwa [Nat.mul_one,Nat.add_zero]at this
theorem GrR.row {w:World}{R:List (List Int)}{a:Option Addr}(h:GrR w R a){i:Nat}{r:List Int}(hr:R[i]?=some r):∃ b o ar cr,a=some ⟨b,o,none⟩/\w.cell? ⟨b,o+i,none⟩=some (.slice ar r.length cr)/\Zaf nC 1 w ar r:=by
 obtain⟨L,h1,h2,h3⟩:=h.lies
 have hi:=(List.getElem?_eq_some_iff.1 hr).1
 have hs:L[i]?=some (L[i]'(by omega)):=List.getElem?_eq_getElem _
 obtain⟨b,o,rfl,hl⟩:=h2.some (by omega)
 obtain⟨h4,h5⟩:=h3 i _ r hs hr
 refine⟨b,o,(L[i]'(by omega)).1,(L[i]'(by omega)).2.2,rfl,?_,h5⟩
 rw[<-h4]
 exact Zcw (f:=fun s:Sl=>.slice s.1 s.2.1 s.2.2) (fun _=>rfl) hl hs
structure StepI (R:List (List Int)) (t:Int) (D:List Int):Prop where
 len:D.length=R.length
 low:∀ (i:Nat) (x:Int),D[i]?=some x->1<=x/\x<=1000
 wit:∀ (i:Nat) (x:Int) (r:List Int),D[i]?=some x->R[i]?=some r->x<1000->∃ y∈r,(y=t/\x=1)∨(y≠t/\∃ z,D[y.toNat]?=some z/\z+1<=x)
def FixAt (t:Int)(D:List Int)(x y:Int):Prop:=(y=t->x<=1)/\(y≠t->∀ z,D[y.toNat]?=some z->x<=z+1)
def ZdK (R:List (List Int))(t:Int)(D:List Int)(n:Nat):Prop:=∀ (i:Nat) (x:Int) (r:List Int),i<n->D[i]?=some x->R[i]?=some r->∀ y∈r,FixAt t D x y
def ZcQ (R:List (List Int))(t:Int)(D:List Int):Prop:=StepI R t D/\ZdK R t D R.length
theorem StepI.start (R:List (List Int))(t:Int):StepI R t (List.replicate R.length 1000):=by
 refine⟨by simp,fun i x hx=>?_,fun i x r hx _ h=>?_⟩ <;>
 · rw[List.getElem?_replicate]at hx
   split at hx
   · injection hx with hx;omega
   · cases hx
theorem StepI.put {R:List (List Int)}{t:Int}{D:List Int}(h:StepI R t D){i:Nat}{x n y:Int}{r:List Int}(hx:D[i]?=some x)(hr:R[i]?=some r)(hy:y∈r)(hn:n<x)
 (hv:(y=t/\n=1)∨(y≠t/\∃ z,D[y.toNat]?=some z/\n=z+1)):StepI R t (D.set i n):=by
 have hi:=(List.getElem?_eq_some_iff.1 hx).1
 have hx2:=h.low i x hx
 have n1:1<=n:=by
  rcases hv with⟨-,e⟩|⟨-,z,hz,e⟩
  · omega
  · have:=h.low _ z hz;omega
 have le:∀ (j:Nat) (z:Int),D[j]?=some z->∃ z',(D.set i n)[j]?=some z'/\z'<=z:=by
  intro j z hz
  by_cases e:i=j
  · subst e
    rw[hx]at hz
    injection hz with hz
    exact⟨n,by simp[hi],by omega⟩
  · exact⟨z,by rw[List.getElem?_set_ne e];exact hz,Int.le_refl _⟩
 refine⟨by rw[List.length_set];exact h.len,fun j z hz=>?_,fun j z s hz hs hlt=>?_⟩
 · by_cases e:i=j
   · subst e
     rw[List.getElem?_set_self hi]at hz
     injection hz with hz
     omega
   · rw[List.getElem?_set_ne e]at hz;exact h.low j z hz
 · by_cases e:i=j
   · subst e
     rw[List.getElem?_set_self hi]at hz
     injection hz with hz
     subst hz
     rw[hr]at hs
     injection hs with hs
     subst hs
     refine⟨y,hy,?_⟩
     rcases hv with⟨e1,e2⟩|⟨e1,z,hz,e2⟩
     · exact Or.inl ⟨e1,e2⟩
     · obtain⟨z',hz',hle⟩:=le _ z hz
       exact Or.inr ⟨e1,z',hz',by omega⟩
   · rw[List.getElem?_set_ne e]at hz
     obtain⟨u,hu,q⟩:=h.wit j z s hz hs hlt
     refine⟨u,hu,?_⟩
     rcases q with q|⟨q1,v,hv1,hv2⟩
     · exact Or.inl q
     · obtain⟨v',hv',hle⟩:=le _ v hv1
       exact Or.inr ⟨q1,v',hv',by omega⟩
theorem steps_le {R:List (List Int)}{t:Int}{D E:List Int}(hR:∀ r∈R,∀ x∈r,0<=x/\x<(R.length:Int))(hD:ZcQ R t D)(hE:ZcQ R t E):∀ (m:Nat) (i:Nat) (x z:Int),x.toNat=m->D[i]?=some x->E[i]?=some z->z<=x:=by
 intro m
 induction m using Nat.strongRecOn with
 |ind m ih =>
  intro i x z hm hx hz
  have hx1:=hD.1.low i x hx
  have hz1:=hE.1.low i z hz
  by_cases hlt:x<1000
  · have hi:=(List.getElem?_eq_some_iff.1 hx).1
    have hr:R[i]?=some (R[i]'(by have:=hD.1.len;omega)):=List.getElem?_eq_getElem _
    obtain⟨y,hy,q⟩:=hD.1.wit i x _ hx hr hlt
    have hf:=hE.2 i z _ (by have:=hD.1.len;omega) hz hr y hy
    rcases q with⟨e1,e2⟩|⟨e1,u,hu,hu2⟩
    · have:=hf.1 e1;omega
    · have hyr:=hR _ (List.mem_of_getElem? hr) y hy
      have hv:E[y.toNat]?=some (E[y.toNat]'(by have:=hE.1.len;omega)):=List.getElem?_eq_getElem _
      have hu3:=hD.1.low _ u hu
      have:=ih u.toNat (by omega) _ u _ rfl hu hv
      have:=hf.2 e1 _ hv
      omega
  · omega
theorem steps_same {R:List (List Int)}{t:Int}{D E:List Int}(hR:∀ r∈R,∀ x∈r,0<=x/\x<(R.length:Int))(hD:ZcQ R t D)(hE:ZcQ R t E):D=E:=by
 refine List.ext_getElem? fun i=>?_
 by_cases hi:i<D.length
 · have h1:D[i]?=some D[i]:=List.getElem?_eq_getElem hi
   have h2:E[i]?=some (E[i]'(by have:=hD.1.len;have:=hE.1.len;omega)):=List.getElem?_eq_getElem _
   have a:=steps_le hR hD hE _ i _ _ rfl h1 h2
   have b:=steps_le hR hE hD _ i _ _ rfl h2 h1
   rw[h1,h2]
   congr 1
   omega
 · rw[List.getElem?_eq_none (by omega),List.getElem?_eq_none (by have:=hD.1.len;have:=hE.1.len;omega)]
theorem steps_next {R:List (List Int)}{t:Int}{D:List Int}(hD:ZcQ R t D){i:Nat}{x:Int}{r:List Int}(hx:D[i]?=some x)(hr:R[i]?=some r)(h1:1<x)(h2:x<1000):∃ y∈r,D[y.toNat]?=some (x - 1):=by
 obtain⟨y,hy,q⟩:=hD.1.wit i x r hx hr h2
 rcases q with⟨-,e⟩|⟨e,z,hz,hle⟩
 · omega
 · have hi:=(List.getElem?_eq_some_iff.1 hr).1
   have:=(hD.2 i x r hi hx hr y hy).2 e z hz
   exact⟨y,hy,by rw[hz];congr 1;omega⟩
def sumD (D:List Int):Nat:=(D.map Int.toNat).sum
theorem sumD_put {D:List Int}{i:Nat}{x n:Int}(hx:D[i]?=some x)(hn:n<x)(h0:0<=n):sumD (D.set i n)<sumD D:=by
 unfold sumD
 induction D generalizing i with
 |nil=>cases hx
 |cons a D ih =>
  cases i with
  |zero =>
   simp at hx
   subst hx
   simp
   omega
  |succ i =>
   have:=ih (i:=i) (by simpa using hx)
   simp only[List.set_cons_succ,List.map_cons,List.sum_cons]
   omega
theorem growR {w:World}{N:Nat}(P:Sl->List Int->Prop):∀ (L:List Sl),(∀ s∈L,∃ r,P s r)->∃ R:List (List Int),R.length=L.length/\∀ (i:Nat) (s:Sl) (r:List Int),L[i]?=some s->R[i]?=some r->P s r
 |[],_=>⟨[],rfl,fun i s r h=>by cases h⟩
 |s :: L,h=>by
  obtain⟨r,hr⟩:=h s (by simp)
  obtain⟨R,h1,h2⟩:=growR (w:=w) (N:=N) P L (fun s hs=>h s (by simp[hs]))
  refine⟨r :: R,by simp[h1],fun i s' r' hs hr'=>?_⟩
  cases i with
  |zero =>
   simp at hs hr'
   rw[<-hs,<-hr']
   exact hr
  |succ i=>exact h2 i s' r' (by simpa using hs) (by simpa using hr')
def RowI (w:World)(N:Nat)(s:Sl):Prop:=∃ r:List Int,s.2.1=r.length/\r.length<=N/\Zaf nC 1 w s.1 r/\∀ x∈r,0<=x/\x<N
def RowO (w:World)(B N:Nat)(s:Sl):Prop:=∃ r:List Int,s.2.1=r.length/\r.length<=N/\Own nC 1 3 w B (.slice s.1 s.2.1 s.2.2) r/\∀ x∈r,0<=x/\x<N
theorem RowO.kept {w w':World}{B N:Nat}{s:Sl}(h:RowO w B N s)(hb:Below w.heap.size w w'):RowO w' B N s:=let ⟨r,h1,h2,h3,h4⟩:=h;⟨r,h1,h2,h3.kept hb,h4⟩
theorem RowO.row {w:World}{B N:Nat}{s:Sl}(h:RowO w B N s):RowI w N s:=by
 obtain⟨r,h1,h2,h3,h4⟩:=h
 obtain⟨a,c,he,-,-,hl⟩:=h3.lies encI
 injection he with e1 e2 e3
 subst e1
 exact⟨r,h1,h2,hl,h4⟩
theorem RowO.grown {w w':World}{B B2 N:Nat}{s:Sl}{v:Value}{L:List Sl}(h:RowO w B N s)(hO:Own slC 1 101 w B2 v L)(hg:w.grownBy w' v.ownBlock):RowO w' B N s:=by
 obtain⟨r,h1,h2,h3,h4⟩:=h
 refine⟨r,h1,h2,h3.same (fun g hk=>?_),h4⟩
 rcases h3.2 with⟨e,-⟩|⟨g2,cap,cur,e,h5,h6,h7⟩
 · rw[e]at hk;cases hk
 · rw[e]at hk
   injection hk with hk
   subst hk
   exact hg.block _ (Array.getElem?_eq_some_iff.1 h6).1 (fun e=>Own.ne_box hO h6 (by decide) e.symm)
theorem GrR.of {w:World}{a:Option Addr}{L:List Sl}(hl:Zaf slC 1 w a L)(h:∀ s∈L,RowI w L.length s):∃ R:List (List Int),R.length=L.length/\GrR w R a:=by
 obtain⟨R,h1,h2⟩:=growR (w:=w) (N:=0) (fun s r=>s.2.1=r.length/\r.length<=L.length/\Zaf nC 1 w s.1 r/\∀ x∈r,0<=x/\x<(L.length:Int)) L h
 refine⟨R,h1,fun r hr=>?_,L,h1.symm,hl,fun i s r hs hr=>⟨(h2 i s r hs hr).1,(h2 i s r hs hr).2.2.1⟩⟩
 obtain⟨i,hi,rfl⟩:=List.mem_iff_getElem.1 hr
 have:=h2 i (L[i]'(by omega)) _ (List.getElem?_eq_getElem _) (List.getElem?_eq_getElem hi)
 rw[h1]
 exact⟨this.2.1,this.2.2.2⟩
def GraphPost (B:Nat)(w:World)(e:Ending)(w':World):Prop:=∃ (a:Option Addr) (n c:Nat) (a2:Option Addr) (c2:Nat) (R:List (List Int)),e=.returned (.tuple #[.slice a n c,.slice a2 R.length c2])/\StrsW w' a n c/\R.length=n/\GrR w' R a2/\n<=B/\Below w.heap.size w w'
theorem graph_any (c_ta:Option Addr)(c_tn:Nat)(c_tc:Nat)(c_fa:Option Addr)(c_fn:Nat)(c_fc:Nat)(c_da:Option Addr)(c_dn:Nat)(c_dc:Nat)(c_qa:Option Addr)(c_qn:Nat)(c_qc:Nat)(w:World)(w0:World)(hw0:Below w0.heap.size w0 w)(B:Nat)(hB1:B<=1000)(h:CatW w0 B w c_ta c_tn c_fa c_fn c_da c_dn c_qa c_qn):Calls prog 193 #[.agg #[.slice c_ta c_tn c_tc,.slice c_fa c_fn c_fc,.slice c_da c_dn c_dc,.slice c_qa c_qn c_qc]] w (GraphPost B w):=by
 have hB:B<=100000:=by omega
 have HC0:=hid h
 have HW0:=hid hw0
 clear h hw0
 go_enter func193,ntmps193
 go_upto_region 1 with fail
 refine Zam (fun V hV=>?_)
 have B0:Hid (Box V w.heap.size #[.slice c_ta c_tn c_tc,.slice c_fa c_fn c_fc,.slice c_da c_dn c_dc,.slice c_qa c_qn c_qc] 118):=by rw[hV];exact ZaE _ _ _
 have HBV:Hid (Below w.heap.size w V):=by rw[hV];exact(by repeat first|exact ZR _|refine ZA ?_ _)
 clear hV
 have HS:Hid (∀ w',Below V.heap.size V w'->w'.cell? ⟨w.heap.size,0,none⟩=some (.slice c_ta c_tn c_tc)/\w'.cell? ⟨w.heap.size,1,none⟩=some (.slice c_fa c_fn c_fc)/\w'.cell? ⟨w.heap.size,2,none⟩=some (.slice c_da c_dn c_dc)/\w'.cell? ⟨w.heap.size,3,none⟩=some (.slice c_qa c_qn c_qc)):=fun w' h=>⟨(B0.out.kept h).cell 0 _ rfl,(B0.out.kept h).cell 1 _ rfl,(B0.out.kept h).cell 2 _ rfl,(B0.out.kept h).cell 3 _ rfl⟩
 obtain⟨k0_0,k0_1,k0_2,k0_3⟩:=HS.out V (ZR V)
 have HC:Hid (CatW w0 B V c_ta c_tn c_fa c_fn c_da c_dn c_qa c_qn):=HC0.out.kept HBV.out
 have HWV:Hid (Below w0.heap.size w0 V):=HW0.out.trans (HBV.out.mono HW0.out.size)
 go_upto_region 2 with(first|(go_at_call 206;refine(names12_any _ _ _ _ _ _ _ _ _ _ _ _ _ B hB (HC.out.f.at HWV.out)).mono ?_;rintro e w4 ⟨a4,n4,c4,rfl,h4,hm4,hb⟩;have HA4:=hid h4;have HW4:Hid (Below V.heap.size V w4):=ZT (by repeat first|exact ZR _|exact ZH (by assumption)|refine ZA ?_ _|refine ZD ?_|refine ZN ?_ _) hb;clear h4 hb)|fail)
 have HA4S:=HA4
 obtain⟨l4,rfl,-,-,hl4⟩:=HA4.out
 have HL4:=hid hl4
 clear hl4
 go_wp2_with fail
 go_loopw [5,6] (fun v jj wr=>∃ (i:Nat) (L5:List Sl) (v0:Value),v0=v/\i<=l4.length/\jj=.int .i64 i/\Hid (Own slC 1 101 wr w4.heap.size v L5)/\L5.length=i/\Hid (∀ s∈L5,RowO wr w4.heap.size l4.length s)/\Hid (Below w4.heap.size w4 wr)) (fun _ jj _=>l4.length - (intOf jj).toNat)
 case atStart=>exact⟨0,[],_,rfl,by omega,rfl,Own.nil _ _,by simp,(fun s hs=>by cases hs),ZR w4⟩
 case round =>
  obtain⟨i,L5,v0,rfl,hi,rfl,HO,hl5,HM,HRQ⟩:=hrel
  have HR:Hid (Below V.heap.size V wr):=ZT HW4.out HRQ.out
  have KK:=HS.out _ HR.out
  obtain⟨k0_0,k0_1,k0_2,k0_3⟩:=KK
  by_cases hlt:i<l4.length
  · obtain⟨s,hs⟩:∃ s,l4[i]?=some s:=⟨l4[i],List.getElem?_eq_getElem hlt⟩
    obtain⟨b7,o7,rfl,hr7⟩:=(HL4.out.kept HRQ.out).some (by omega)
    have HR7:=hid hr7
    have d0:=Zbt hr7 hs
    have HSS:Hid (∀ w',Below wr.heap.size wr w'->w'.cell? ⟨b7,o7+i,none⟩=some (.string s)):=fun w' hb=>Zaa d0 hb
    clear hr7 hs
    go_upto_region 6 with fail
    refine ZaI (S:=fun w'=>Below wr.heap.size wr w') (.free 0 (.free 1 (.free 2 (.free 3 (.free 4 (.one 5 (.free 6 .done))))))) (by kernel_rfl) (by kernel_rfl) (fun _ _ _ _ _ h=>h) (by kernel_rfl) (by kernel_rfl) (ZD (ZR wr)) ?_
    refine Zac _ (.agg #[.slice c_ta c_tn c_tc,.slice c_fa c_fn c_fc,.slice c_da c_dn c_dc,.slice c_qa c_qn c_qc]) rfl (by rfl) (by intro wq hSw;have KQ:=HS.out wq (ZT HR.out hSw);obtain⟨k0_0,k0_1,k0_2,k0_3⟩:=KQ;have d0:=HSS.out wq hSw;go_simp) ?_
    try simp only[Act.put,m1,m2,m3]
    refine Zac _ (.slice (some ⟨b7,o7,none⟩) l4.length c4) rfl (by rfl) (by intro wq hSw;have KQ:=HS.out wq (ZT HR.out hSw);obtain⟨k0_0,k0_1,k0_2,k0_3⟩:=KQ;have d0:=HSS.out wq hSw;go_simp) ?_
    try simp only[Act.put,m1,m2,m3]
    refine Zac _ (.int .i64 i) rfl (by rfl) (by intro wq hSw;have KQ:=HS.out wq (ZT HR.out hSw);obtain⟨k0_0,k0_1,k0_2,k0_3⟩:=KQ;have d0:=HSS.out wq hSw;go_simp) ?_
    try simp only[Act.put,m1,m2,m3]
    refine Zac _ (.pointer (some ⟨b7,o7+i,none⟩)) rfl (by rfl) (by intro wq hSw;have KQ:=HS.out wq (ZT HR.out hSw);obtain⟨k0_0,k0_1,k0_2,k0_3⟩:=KQ;have d0:=HSS.out wq hSw;go_simp) ?_
    try simp only[Act.put,m1,m2,m3]
    refine Zac _ (.string s) rfl (by rfl) (by intro wq hSw;have KQ:=HS.out wq (ZT HR.out hSw);obtain⟨k0_0,k0_1,k0_2,k0_3⟩:=KQ;have d0:=HSS.out wq hSw;go_simp) ?_
    try simp only[Act.put,m1,m2,m3]
    refine ZaN _ rfl (by rfl) (fun K hK=>?_)
    go_wp2_with (go_at_call 207;refine(next_any12 _ _ _ _ _ _ _ _ _ _ _ _ _ _ w0 (HWV.out.trans (Below.mono (ZT HR.out (by repeat first|exact ZR _|exact ZH (by assumption)|refine ZA ?_ _|refine ZD ?_|refine ZN ?_ _)) HWV.out.size)) B hB (HC.out.kept (ZT HR.out (by repeat first|exact ZR _|exact ZH (by assumption)|refine ZA ?_ _|refine ZD ?_|refine ZN ?_ _)))).mono ?_;rintro e w5 ⟨a5,n5,c5,rfl,h5,hm5,hb⟩;have HA5:=hid h5;have HW5:Hid (Below wr.heap.size wr w5):=ZT (by repeat first|exact ZR _|exact ZH (by assumption)|refine ZA ?_ _|refine ZD ?_|refine ZN ?_ _) hb;clear h5 hb)
    refine hK.out _ _ HW5.out (fun hHeld=>?_)
    clear hK K
    try simp only[Act.put,m1,m2,m3]
    refine Zac _ (.slice a5 n5 c5) rfl (by rfl) (by intro wq hSw;have KQ:=HS.out wq (ZT HR.out hSw);obtain⟨k0_0,k0_1,k0_2,k0_3⟩:=KQ;have d0:=HSS.out wq hSw;go_simp) ?_
    try simp only[Act.put,m1,m2,m3]
    refine Zbb ?_
    go_wp2_with fail
    go_loopw [8,9] (fun v jj w2=>∃ (k:Nat) (l8:List Int) (v0:Value),v0=v/\k<=l4.length/\jj=.int .i64 k/\Hid (Own nC 1 3 w2 w5.heap.size v l8)/\l8.length<=k/\Hid (∀ x∈l8,0<=x/\x<l4.length)/\Hid (Below w5.heap.size w5 w2)) (fun _ jj _=>l4.length - (intOf jj).toNat)
    case atStart=>exact⟨0,[],_,rfl,by omega,rfl,Own.nil _ _,by simp,(fun x hx=>by cases hx),ZR w5⟩
    case round =>
     obtain⟨k,l8,v8,rfl,hk,rfl,HO2,hl8,HM8,HR2⟩:=hrel
     rename World=>w2
     by_cases hlk:k<l4.length
     · obtain⟨s2,hs2⟩:∃ s2,l4[k]?=some s2:=⟨l4[k],List.getElem?_eq_getElem hlk⟩
       have d1:w2.cell? ⟨b7,o7+k,none⟩=some (.string s2):=Zaa (Zbt HR7.out hs2) (ZT HW5.out HR2.out)
       have HL2:Hid (l8.length+[(k:Int)].length<=1000000000):=by show _<=_;simp;omega
       clear hs2
       go_wp2_with (first|(go_at_call 208;refine(in12_any _ _ _ _ (by omega) _ (HA5.out.kept HR2.out)).mono ?_;rintro e w8 ⟨b8,rfl,hb⟩;have HW8:Hid (Below w5.heap.size w5 w8):=ZT HR2.out hb;have HO8:=hid (HO2.out.kept hb);clear hb;cases b8)|(at_builtin;refine Zay elI encI rfl (.tmp 36) (.tmp 38) rfl rfl rfl (HO8.out.kept (Zab _)) (ZaG (k:Int) _ encI) rfl (fun e=>by cases e) (Nat.le_trans HW8.out.size (Zab _).size) HL2.out ?_;intro v3 w3 ho hb;have HO3:=hid ho;have HW3:Hid (Below w5.heap.size w5 w3):=(HW8.out.alloc HW8.out.size _).trans hb;clear ho hb)|fail)
       all_goals
        go_roundw
       all_goals first
        |(case rel=>exact⟨k+1,l8,_,rfl,by omega,by go_num,HO8.out,by omega,HM8.out,HW8.out⟩)
        |(case rel=>exact⟨k+1,l8++[(k:Int)],_,rfl,by omega,by go_num,HO3.out,by simp;omega,(fun x hx=>by
         rcases List.mem_append.1 hx with hx|hx
         · exact HM8.out x hx
         · simp at hx;omega),HW3.out⟩)
        |(case measure=>simp[intOf];omega)
     · obtain⟨a8,c8,rfl,-,-,h8⟩:=HO2.out.lies encI
       have HL8:=HO2
       have HOK:=hid (HO.out.kept (ZT HW5.out HR2.out))
       clear h8
       have HQ2:Hid (Below w4.heap.size w4 w2):=ZT HRQ.out (ZT HW5.out HR2.out)
       have HL:Hid (L5.length+[((a8,l8.length,c8):Sl)].length<=1000000000):=by show _<=_;simp;omega
       go_wp2_with (first|(at_builtin;refine Zb7 elSl encSl rfl (.tmp 40) (.tmp 42) rfl rfl rfl (HOK.out.kept (Zab _)) (ZaG (a8,l8.length,c8) _ encSl) rfl (fun e=>by cases e) (Nat.le_trans HQ2.out.size (Zab _).size) HL.out ?_;intro v3 w3 ho hg hv;have HO3:=hid ho;have HB3:=hid hg;have HW3:Hid (Below w4.heap.size w4 w3):=(HQ2.out.alloc HQ2.out.size _).grown hg (Nat.le_trans HQ2.out.size (Zab _).size) (fun k e=>(Own.lt HOK.out k e).1);clear ho hg hv)|fail)
       refine⟨⟨i+1,L5++[(a8,l8.length,c8)],_,rfl,by omega,by go_num,HO3.out,by simp;omega,(fun s hs=>?_),HW3.out⟩,?_⟩
       · rcases List.mem_append.1 hs with hs|hs
         · exact(((HM.out s hs).kept (ZT HW5.out HR2.out)).kept (Zab _)).grown (HOK.out.kept (Zab _)) HB3.out
         · simp at hs
           subst hs
           exact RowO.grown ⟨l8,rfl,by omega,(HL8.out.mono (Nat.le_trans HRQ.out.size HW5.out.size)).kept (Zab _),HM8.out⟩ (HOK.out.kept (Zab _)) HB3.out
       · simp[intOf];omega
  · go_wp2_with fail
    obtain⟨a5,c5,rfl,-,-,h5⟩:=HO.out.lies encSl
    go_ret2
    obtain rfl:i=l4.length:=by omega
    have hM:∀ s∈L5,RowI _ L5.length s:=fun s hs=>by rw[hl5];exact(HM.out s hs).row
    obtain⟨R,hR1,hR2⟩:=GrR.of h5 hM
    rw[<-hR1]
    exact⟨_,_,_,_,_,R,rfl,HA4S.out.kept HRQ.out,by omega,hR2,hm4,ZT HBV.out HR.out⟩
section
variable {ops:Array Oper} {rest:List Oper} {o:Oper} {a:Act} {w:World} {Q:Exit->Act->World->Prop}
theorem wpList_mkI (hgd:o.guard=none)(x y:Operand)(ho:o.op=.makeSlice 101 x y)(n:Nat)(hx:a.eval x=.int .i64 (n:Int))(hy:a.eval y=.int .i64 (n:Int))(hn:n<=100000)
 (h:∀ w1,Own nC 1 3 w1 w.heap.size (.slice (some ⟨w.heap.size,0,none⟩) n n) (List.replicate n 0)->Below w.heap.size w w1->wpList prog ops Q rest (a.put o.dst (.slice (some ⟨w.heap.size,0,none⟩) n n)) w1):wpList prog ops Q (o :: rest) a w:=by
 obtain⟨i,z,hi,hz,hs,hb,-⟩:=elI.parts
 have hz0:z.cells=#[.int .i64 0]:=by
  have:(prog.info? 3).map (fun i=>i.zero.map (fun z=>z.cells))=some (some #[.int .i64 0]):=by kernel_rfl
  rw[hi]at this
  simp[hz]at this
  exact this
 have hr:=run_make (P:=prog) w 101 3 i z underlying101 hi hz .i64 .i64 n n (by omega) (Int.le_refl _) (by rw[hb];omega) (by omega)
 simp only[Int.toNat_natCast]at hr
 refine wpList_plain hgd fun K hK=>?_
 unfold Oper.wp execOp
 simp only[ho,hx,hy]
 rw[Sem.run_bind,hr]
 refine hK _ _ (h _ ?_ (Zab _))
 have:=World.ownsRow_lit (e:=3) (size:=1) w (madeCells z.cells (n*i.size)) n (Nat.le_refl _) (by unfold maxLen;omega) (by rw[size_madeCells,hs])
 have e:(madeCells z.cells (n*i.size)).toList=encs nC (List.replicate n 0):=by
  rw[hz0,hs,Nat.mul_one,toList_madeCells_one]
  unfold encs
  rw[List.flatMap_replicate]
  simp[nC]
 unfold Own
 rw[List.length_replicate,<-e]
 exact this
theorem ZdA {P:Program}(hgd:o.guard=none)(x y:Operand)(ho:o.op=.store 3 x y)(hd:o.dst=none)(hi:(P.info? 3).map (·.size)=some 1)(g i n c B:Nat)(D:List Int)(u v:Int)(hx:a.eval x=.pointer (some ⟨g,i,none⟩))(hy:a.eval y=.int .i64 v)
 (hO:Own nC 1 3 w B (.slice (some ⟨g,0,none⟩) n c) D) (hu:D[i]?=some u) (w0:World) (hB0:Below w0.heap.size w0 w) (hw0:w0.heap.size<=B)
 (h:∀ w',Own nC 1 3 w' B (.slice (some ⟨g,0,none⟩) n c) (D.set i v)->Below w0.heap.size w0 w'->wpList P ops Q rest a w'):wpList P ops Q (o :: rest) a w:=by
 have hlt:=(List.getElem?_eq_some_iff.1 hu).1
 obtain⟨g',he,hg1,hg2,hg3⟩:=hO.setAt encI u v i 0 (.int .i64 v) hu (by decide) rfl
 injection he with he
 injection he with he
 subst he
 rcases hO.2 with⟨-,h0⟩|⟨g2,cap,cur,h1,h2,h3,h4,h5,h6,h7⟩
 · omega
 injection h1 with h1 h1n h1c
 injection h1 with h1
 injection h1 with h1
 subst h1
 refine wpList_plain hgd fun K hK=>Zfj 3 x y ho hd g i 3 cur (.int .i64 v) hx hy rfl rfl h3 hi (by simp at h6;omega) w0 hB0 (by omega) (fun w' hb hbe hot=>hK _ _ (h w' ?_ hbe))
 have e:w'.heap[g]?=(w.setCell ⟨g,i*1+0,none⟩ (.int .i64 v)).heap[g]?:=by
  rw[setCell_eq_setRow w g (i*1+0) cur 3 (0,0) (.int .i64 v) h3,Nat.mul_one,Nat.add_zero]
  exact(show w'.heap[g]?=_ from hb).trans (Box.setRow h3 _).symm
 exact Own.same hg3 (fun k hk=>by injection hk with hk;rw[<-hk];exact e)
end
def StepsPost (R:List (List Int))(t:Int)(w:World)(e:Ending)(w':World):Prop:=∃ (a:Option Addr) (c:Nat) (D:List Int),e=.returned (.slice a R.length c)/\ZcQ R t D/\Zaf nC 1 w' a D/\Below w.heap.size w w'
def memD (w:World)(g n:Nat):Nat:=((List.range n).map (fun i=>match w.cell? ⟨g,i,none⟩with|some (.int _ x)=>x.toNat|_=>0)).sum
theorem memD_own {w:World}{B g n c:Nat}{D:List Int}(h:Own nC 1 3 w B (.slice (some ⟨g,0,none⟩) n c) D):memD w g n=sumD D:=by
 obtain⟨a,c',he,-,-,hl⟩:=h.lies encI
 injection he with e1 e2 e3
 subst e1 e2
 unfold memD sumD
 congr 1
 refine List.ext_getElem (by simp) (fun i h1 h2=>?_)
 have hi:i<D.length:=by simpa using h2
 obtain⟨b,o,he,hr⟩:=hl.some (by omega)
 injection he with he
 injection he with e1 e2
 subst e1 e2
 have:=Zcw (f:=fun x:Int=>.int .i64 x) (fun _=>rfl) hr (List.getElem?_eq_getElem hi)
 simp only[Nat.zero_add]at this
 simp[this]
theorem fill_step {n i:Nat}(hi:i<n):((List.replicate i (1000:Int))++List.replicate (n - i) 0).set i 1000=List.replicate (i+1) 1000++List.replicate (n - (i+1)) 0:=by
 rw[List.set_append_right _ _ (by simp)]
 simp only[List.length_replicate,Nat.sub_self]
 rw[show n - i=(n - (i+1))+1 by omega,List.replicate_succ,List.set_cons_zero,List.replicate_succ']
 simp
theorem own_cell {w:World}{B g n c:Nat}{D:List Int}(h:Own nC 1 3 w B (.slice (some ⟨g,0,none⟩) n c) D){i:Nat}{x:Int}(hx:D[i]?=some x):w.cell? ⟨g,i,none⟩=some (.int .i64 x):=by
 obtain⟨a,c',he,-,-,hl⟩:=h.lies encI
 injection he with e1 e2 e3
 subst e1 e2
 have hi:=(List.getElem?_eq_some_iff.1 hx).1
 obtain⟨b,o,he,hr⟩:=hl.some (by omega)
 injection he with he
 injection he with e1 e2
 subst e1 e2
 have:=Zcw (f:=fun x:Int=>.int .i64 x) (fun _=>rfl) hr hx
 simpa using this
theorem ZdK.next {R:List (List Int)}{t:Int}{D:List Int}{i:Nat}{r:List Int}(h:ZdK R t D i)(hr:R[i]?=some r)(h2:∀ x y j,D[i]?=some x->j<r.length->r[j]?=some y->FixAt t D x y):ZdK R t D (i+1):=by
 intro j x s hj hx hs y hy
 by_cases e:j=i
 · subst e
   rw[hr]at hs
   injection hs with hs
   subst hs
   obtain⟨q,hq,rfl⟩:=List.mem_iff_getElem.1 hy
   exact h2 x _ q hx hq (List.getElem?_eq_getElem hq)
 · exact h j x s (by omega) hx hs y hy
theorem steps_any (R:List (List Int))(a:Option Addr)(c:Nat)(t:Int)(hR:R.length<=1000)(w:World)(h:GrR w R a):Calls prog 194 #[.slice a R.length c,.int .i64 t] w (StepsPost R t w):=by
 have H:=hid h
 clear h
 go_enter func194,ntmps194
 go_upto_region 2 with(first|(refine wpList_mkI rfl _ _ rfl R.length rfl rfl (by omega) ?_;intro w1 ho hb;have HO:=hid ho;have HW:=hid hb;clear ho hb)|fail)
 go_wp2_with fail
 go_loopw [6] (fun v wr=>∃ i:Nat,i<=R.length/\v=.int .i64 i/\Hid (Own nC 1 3 wr w.heap.size (.slice (some ⟨w.heap.size,0,none⟩) R.length R.length) (List.replicate i 1000++List.replicate (R.length - i) 0))/\Hid (Below w.heap.size w wr)) (fun v _=>R.length - (intOf v).toNat)
 case atStart=>exact⟨0,by omega,rfl,by simpa using HO,HW⟩
 case round =>
  clear HO HW
  obtain⟨i,hi,rfl,HO,HW⟩:=hrel
  by_cases hlt:i<R.length
  · have HX:Hid ((List.replicate i (1000:Int)++List.replicate (R.length - i) 0)[i]?=some 0):=by
      show _=_
      rw[List.getElem?_append_right (by simp)]
      simp[List.getElem?_replicate]
      omega
    have hfs:=fill_step hlt
    go_wp2_with (first|(refine ZdA rfl _ _ rfl rfl (by kernel_rfl) w.heap.size i R.length R.length w.heap.size _ 0 1000 rfl rfl HO.out HX.out w HW.out (Nat.le_refl _) ?_;intro w5 ho hb;have HO2:=hid ho;have HW2:=hid hb;clear ho hb)|fail)
    go_roundw
    case rel=>exact⟨i+1,by omega,by go_num,by rw[<-hfs];exact HO2,HW2⟩
    case measure=>simp[intOf];omega
  · obtain rfl:i=R.length:=by omega
    have HI0:Hid (StepI R t (List.replicate R.length 1000++List.replicate (R.length - R.length) 0)):=by
     show StepI _ _ _
     simp only[Nat.sub_self,List.replicate_zero,List.append_nil]
     exact StepI.start R t
    generalize List.replicate R.length (1000:Int)++List.replicate (R.length - R.length) 0=D0 at *
    go_wp2_with fail
    go_loopw [7] (fun v wr=>∃ (b:Bool) (D:List Int),v=.bool b/\Hid (Own nC 1 3 wr w.heap.size (.slice (some ⟨w.heap.size,0,none⟩) R.length R.length) D)/\Hid (StepI R t D)/\Hid (b=false->ZdK R t D R.length)/\Hid (Below w.heap.size w wr)) (fun v wr=>2*memD wr w.heap.size R.length+(match v with|.bool true=>1|_=>0))
    case atStart=>exact⟨true,D0,rfl,HO,HI0,(fun e=>by cases e),HW⟩
    case round =>
     clear HO HW HI0
     obtain⟨b,D,rfl,HO,HI,HF,HW⟩:=hrel
     cases b
     · have HF2:=hid (HF.out rfl)
       clear HF
       go_wp2_with fail
       go_ret
       obtain⟨a',c',he,-,-,hl⟩:=HO.out.lies encI
       injection he with e1 e2 e3
       subst e1
       exact⟨_,_,D,rfl,⟨HI.out,HF2.out⟩,hl,HW.out⟩
     · rename World=>wr
       have HMD:Hid (memD wr w.heap.size R.length=sumD D):=memD_own HO.out
       go_wp2_with fail
       go_loopw [7,8] (fun v jj w2=>∃ (b2:Bool) (D2:List Int) (i:Nat),v=.bool b2/\jj=.int .i64 i/\i<=R.length/\Hid (Own nC 1 3 w2 w.heap.size (.slice (some ⟨w.heap.size,0,none⟩) R.length R.length) D2)/\Hid (StepI R t D2)/\Hid (b2=false->D2=D/\ZdK R t D i)/\Hid (b2=true->sumD D2<sumD D)/\Hid (Below w.heap.size w w2)) (fun _ jj _=>R.length - (intOf jj).toNat)
       case atStart=>exact⟨false,D,0,rfl,rfl,by omega,HO,HI,(fun _=>⟨rfl,fun i x r hi=>by omega⟩),(fun e=>by cases e),HW⟩
       case round =>
        clear HO HW HI HF
        obtain⟨b2,D2,i,rfl,rfl,hi,HO,HI,HF,HS,HW⟩:=hrel
        by_cases hir:i<R.length
        · obtain⟨r,hr⟩:∃ r,R[i]?=some r:=⟨R[i],List.getElem?_eq_getElem hir⟩
          obtain⟨hrl,hrx⟩:=H.out.ok r (List.mem_of_getElem? hr)
          obtain⟨br,orr,ar,cr,rfl,hc,hl⟩:=H.out.row hr
          have HRW:Hid (∀ w',Below w.heap.size w w'->w'.cell? ⟨br,orr+i,none⟩=some (.slice ar r.length cr)/\Zaf nC 1 w' ar r):=fun w' hb=>⟨Zaa hc hb,hl.kept hb⟩
          have HRX:=hid hrx
          have HRR:=hid hr
          clear hc hl hrx hr
          go_wp2_with fail
          go_loopw [7,9] (fun v jj w3=>∃ (b3:Bool) (D3:List Int) (k:Nat),v=.bool b3/\jj=.int .i64 k/\k<=r.length/\Hid (Own nC 1 3 w3 w.heap.size (.slice (some ⟨w.heap.size,0,none⟩) R.length R.length) D3)/\Hid (StepI R t D3)/\Hid (b3=false->D3=D/\ZdK R t D i/\∀ x y j,D[i]?=some x->j<k->r[j]?=some y->FixAt t D x y)/\Hid (b3=true->sumD D3<sumD D)/\Hid (Below w.heap.size w w3)) (fun _ jj _=>r.length - (intOf jj).toNat)
          case atStart=>exact⟨b2,D2,0,rfl,rfl,by omega,HO,HI,(fun e=>⟨(HF.out e).1,(HF.out e).2,fun x y j _ hj=>by omega⟩),HS,HW⟩
          case round =>
           clear HO HW HI HF HS
           obtain⟨b3,D3,k,rfl,rfl,hk,HO,HI,HF,HS,HW⟩:=hrel
           have d0:=(HRW.out _ HW.out).1
           by_cases hkr:k<r.length
           · obtain⟨y,hy⟩:∃ y,r[k]?=some y:=⟨r[k],List.getElem?_eq_getElem hkr⟩
             have hyx:=HRX.out y (List.mem_of_getElem? hy)
             obtain⟨b2',o2',rfl,hr2⟩:=(HRW.out _ HW.out).2.some (by omega)
             have d1:=Zcw (f:=fun x:Int=>.int .i64 x) (fun _=>rfl) hr2 hy
             have hDl:=HI.out.len
             obtain⟨z,hz⟩:∃ z,D3[y.toNat]?=some z:=⟨D3[y.toNat]'(by omega),List.getElem?_eq_getElem _⟩
             obtain⟨x,hx⟩:∃ x,D3[i]?=some x:=⟨D3[i]'(by omega),List.getElem?_eq_getElem _⟩
             have d2:=own_cell HO.out hz
             have d3:=own_cell HO.out hx
             have hz1:=HI.out.low _ z hz
             have hx1:=HI.out.low _ x hx
             have HX:=hid hx
             have HZ:=hid hz
             have HY:=hid hy
             clear hr2 hy hz hx hDl
             have hle:sumD D3<=sumD D:=by
              cases b3
              · rw[(HF.out rfl).1];exact Nat.le_refl _
              · exact Nat.le_of_lt (HS.out rfl)
             obtain⟨hy0,hy1⟩:=hyx
             by_cases hyt0:y=t
             all_goals
              have hyt:=hid hyt0
             · have e1:(y==t)=true:=by simpa using hyt0
               clear hyt0
               by_cases hn:1<x
               · have e2:decide ((1:Int)<x)=true:=by simpa using hn
                 have HP:=hid (HI.out.put HX.out HRR.out (List.mem_of_getElem? HY.out) hn (Or.inl ⟨hyt.out,rfl⟩))
                 have HSD:Hid (sumD (D3.set i (1))<sumD D):=by
                  show _<_
                  have:=sumD_put HX.out hn (by omega)
                  omega
                 go_wp2_with (first|(refine ZdA rfl _ _ rfl rfl (by kernel_rfl) w.heap.size i R.length R.length w.heap.size _ x 1 rfl rfl HO.out HX.out w HW.out (Nat.le_refl _) ?_;intro w5 ho hb;have HO2:=hid ho;have HW2:=hid hb;clear ho hb)|fail)
                 go_roundw
                 case rel=>exact⟨true,_,k+1,rfl,by go_num,by omega,HO2,HP,(fun e=>by cases e),(fun _=>HSD.out),HW2⟩
                 case measure=>simp[intOf];omega
               · have e2:decide ((1:Int)<x)=false:=by simpa using hn
                 go_wp2_with fail
                 go_roundw
                 case rel =>
                  refine⟨b3,D3,k+1,rfl,by go_num,by omega,HO,HI,(fun e=>⟨(HF.out e).1,(HF.out e).2.1,fun x' y' j hx' hj hy'=>?_⟩),HS,HW⟩
                  by_cases ej:j=k
                  · subst ej
                    obtain rfl:y=y':=by have:=HY.out;rw[hy']at this;injection this with this;exact this.symm
                    obtain rfl:x=x':=by have:=HX.out;rw[(HF.out e).1,hx']at this;injection this with this;exact this.symm
                    exact⟨fun _=>by omega,fun q=>absurd hyt.out q⟩
                  · exact(HF.out e).2.2 x' y' j hx' (by omega) hy'
                 case measure=>simp[intOf];omega
             · have e1:(y==t)=false:=by simpa using hyt0
               clear hyt0
               have ws:IntKind.i64.wrap (z+1)=z+1:=IntWalk.i64_in _ (by omega)
               by_cases hn:z+1<x
               · have e2:decide ((z+1:Int)<x)=true:=by simpa using hn
                 have HP:=hid (HI.out.put HX.out HRR.out (List.mem_of_getElem? HY.out) hn (Or.inr ⟨hyt.out,z,HZ.out,rfl⟩))
                 have HSD:Hid (sumD (D3.set i (z+1))<sumD D):=by
                  show _<_
                  have:=sumD_put HX.out hn (by omega)
                  omega
                 go_wp2_with (first|(refine ZdA rfl _ _ rfl rfl (by kernel_rfl) w.heap.size i R.length R.length w.heap.size _ x (z+1) rfl rfl HO.out HX.out w HW.out (Nat.le_refl _) ?_;intro w5 ho hb;have HO2:=hid ho;have HW2:=hid hb;clear ho hb)|fail)
                 go_roundw
                 case rel=>exact⟨true,_,k+1,rfl,by go_num,by omega,HO2,HP,(fun e=>by cases e),(fun _=>HSD.out),HW2⟩
                 case measure=>simp[intOf];omega
               · have e2:decide ((z+1:Int)<x)=false:=by simpa using hn
                 go_wp2_with fail
                 go_roundw
                 case rel =>
                  refine⟨b3,D3,k+1,rfl,by go_num,by omega,HO,HI,(fun e=>⟨(HF.out e).1,(HF.out e).2.1,fun x' y' j hx' hj hy'=>?_⟩),HS,HW⟩
                  by_cases ej:j=k
                  · subst ej
                    obtain rfl:y=y':=by have:=HY.out;rw[hy']at this;injection this with this;exact this.symm
                    obtain rfl:x=x':=by have:=HX.out;rw[(HF.out e).1,hx']at this;injection this with this;exact this.symm
                    exact⟨fun q=>absurd q hyt.out,fun _ u hu=>by have:=HZ.out;rw[(HF.out e).1,hu]at this;injection this with this;omega⟩
                  · exact(HF.out e).2.2 x' y' j hx' (by omega) hy'
                 case measure=>simp[intOf];omega
           · go_wp2_with fail
             go_roundw
             case rel=>exact⟨b3,D3,i+1,rfl,by go_num,by omega,HO,HI,(fun e=>⟨(HF.out e).1,(HF.out e).2.1.next HRR.out (fun x y j hx hj hy=>(HF.out e).2.2 x y j hx (by omega) hy)⟩),HS,HW⟩
             case measure=>simp[intOf];omega
        · obtain rfl:i=R.length:=by omega
          rename World=>w2
          have HMD2:Hid (memD w2 w.heap.size R.length=sumD D2):=memD_own HO.out
          go_wp2_with fail
          go_roundw
          case rel=>exact⟨b2,D2,rfl,HO,HI,(fun e=>by have:=HF.out e;rw[this.1];exact this.2),HW⟩
          case measure =>
           have h1:=HMD.out
           have h2:=HMD2.out
           cases b2
           · have:=(HF.out rfl).1
             subst this
             simp[h1,h2]
           · have:=HS.out rfl
             simp[h1,h2]
             omega
theorem cycle_low {R:List (List Int)}{t:Int}{D:List Int}(h:ZcQ R t D){i:Nat}(hi:i<R.length):∃ x,D[i]?=some x/\1<=x/\x<=1000:=by
 have:=h.1.len
 exact⟨D[i]'(by omega),List.getElem?_eq_getElem _,h.1.low i _ (List.getElem?_eq_getElem _)⟩
def BestIs (R:List (List Int))(best least:Int):Prop:=(best=-1/\least=1000)∨∃ b:Nat,best=b/\b<R.length/\1<=least/\least<1000/\∀ D,ZcQ R best D->D[b]?=some least
theorem BestIs.put {R:List (List Int)}{best least:Int}(h:BestIs R best least)(hR:∀ r∈R,∀ x∈r,0<=x/\x<(R.length:Int)){i:Nat}{x:Int}{D:List Int}(hi:i<R.length)(h1:1<=x)(hx:x<least)(hD:ZcQ R i D)(hd:D[i]?=some x):BestIs R i x:=by
 have:least<=1000:=by rcases h with⟨-,h⟩|⟨b,-,-,-,h,-⟩<;>omega
 exact Or.inr ⟨i,rfl,hi,h1,by omega,fun E hE=>by rw[<-steps_same hR hD hE];exact hd⟩
theorem ZcI {w:World}{a:Option Addr}{D:List Int}(hl:Zaf nC 1 w a D){i:Nat}{x:Int}(hx:D[i]?=some x):∃ b o,a=some ⟨b,o,none⟩/\w.cell? ⟨b,o+i,none⟩=some (.int .i64 x):=by
 have hi:=(List.getElem?_eq_some_iff.1 hx).1
 obtain⟨b,o,rfl,hr⟩:=hl.some (by omega)
 exact⟨b,o,rfl,Zcw (f:=fun x:Int=>.int .i64 x) (fun _=>rfl) hr hx⟩
theorem cycle_any (c_ta:Option Addr)(c_tn:Nat)(c_tc:Nat)(c_fa:Option Addr)(c_fn:Nat)(c_fc:Nat)(c_da:Option Addr)(c_dn:Nat)(c_dc:Nat)(c_qa:Option Addr)(c_qn:Nat)(c_qc:Nat)(w:World)(w0:World)(hw0:Below w0.heap.size w0 w)(B:Nat)(hB:B<=1000)(h:CatW w0 B w c_ta c_tn c_fa c_fn c_da c_dn c_qa c_qn):Calls prog 173 #[.agg #[.slice c_ta c_tn c_tc,.slice c_fa c_fn c_fc,.slice c_da c_dn c_dc,.slice c_qa c_qn c_qc]] w (ZeZ 1000000 w):=by
 have HC0:=hid h
 have HW0:=hid hw0
 clear h hw0
 go_enter func173,ntmps173
 go_upto_region 1 with fail
 refine Zam (fun V hV=>?_)
 have B0:Hid (Box V w.heap.size #[.slice c_ta c_tn c_tc,.slice c_fa c_fn c_fc,.slice c_da c_dn c_dc,.slice c_qa c_qn c_qc] 118):=by rw[hV];exact ZaE _ _ _
 have HBV:Hid (Below w.heap.size w V):=by rw[hV];exact(by repeat first|exact ZR _|refine ZA ?_ _)
 clear hV
 have HS:Hid (∀ w',Below V.heap.size V w'->w'.cell? ⟨w.heap.size,0,none⟩=some (.slice c_ta c_tn c_tc)/\w'.cell? ⟨w.heap.size,1,none⟩=some (.slice c_fa c_fn c_fc)/\w'.cell? ⟨w.heap.size,2,none⟩=some (.slice c_da c_dn c_dc)/\w'.cell? ⟨w.heap.size,3,none⟩=some (.slice c_qa c_qn c_qc)):=fun w' h=>⟨(B0.out.kept h).cell 0 _ rfl,(B0.out.kept h).cell 1 _ rfl,(B0.out.kept h).cell 2 _ rfl,(B0.out.kept h).cell 3 _ rfl⟩
 obtain⟨k0_0,k0_1,k0_2,k0_3⟩:=HS.out V (ZR V)
 have HC:Hid (CatW w0 B V c_ta c_tn c_fa c_fn c_da c_dn c_qa c_qn):=HC0.out.kept HBV.out
 have HWV:Hid (Below w0.heap.size w0 V):=HW0.out.trans (HBV.out.mono HW0.out.size)
 go_upto_region 2 with(first|(go_at_call 193;refine(graph_any _ _ _ _ _ _ _ _ _ _ _ _ _ w0 HWV.out B hB HC.out).mono ?_;rintro e w4 ⟨a3,n3,c3,a4,c4,R,rfl,h3,hn3,h4,hm,hb⟩;have HA3:=hid h3;have HN3:=hid hn3;have HG:=hid h4;have HW4:Hid (Below V.heap.size V w4):=ZT (by repeat first|exact ZR _|exact ZH (by assumption)|refine ZA ?_ _|refine ZD ?_|refine ZN ?_ _) hb;clear h3 hn3 h4 hb)|fail)
 obtain rfl:R.length=n3:=HN3.out
 have hok:=HG.out.ok
 have HOK:Hid (∀ r∈R,∀ x∈r,0<=x/\x<(R.length:Int)):=fun r hr=>(hok r hr).2
 clear hok HN3
 go_wp2_with fail
 go_loopw [5,6,7] (fun u v jj wr=>∃ (i:Nat) (best least:Int),u=.int .i64 best/\v=.int .i64 least/\i<=R.length/\jj=.int .i64 i/\Hid (BestIs R best least)/\Hid (Below w4.heap.size w4 wr)) (fun _ _ jj _=>R.length - (intOf jj).toNat)
 case atStart=>exact⟨0,-1,1000,rfl,rfl,by omega,rfl,Or.inl ⟨rfl,rfl⟩,ZR w4⟩
 case round =>
  obtain⟨i,best,least,rfl,rfl,hi,rfl,HBE,HRQ⟩:=hrel
  by_cases hlt:i<R.length
  · go_wp2_with (first|((go_at_call 194;refine(steps_any R a4 c4 _ (by omega) _ (HG.out.kept HRQ.out)).mono ?_;rintro e w5 ⟨a5,c5,D,rfl,hD,hl5,hb⟩;have HD:=hid hD;have HL5:=hid hl5;have HQ5:Hid (Below w4.heap.size w4 w5):=ZT HRQ.out hb;clear hb hD hl5);obtain⟨x,hx,hx1,hx2⟩:=cycle_low HD.out hlt;obtain⟨b5,o5,rfl,d0⟩:=ZcI HL5.out hx;have HX:=hid hx;clear hx)|fail)
    all_goals
     go_roundw
    all_goals first
     |(case rel=>exact⟨i+1,_,_,rfl,rfl,by omega,by go_num,HBE,HQ5⟩)
     |(case rel=>exact⟨i+1,i,x,rfl,rfl,by omega,by go_num,HBE.out.put HOK.out hlt hx1 (by omega) HD.out HX.out,HQ5⟩)
     |(case measure=>simp[intOf];omega)
  · rcases HBE.out with⟨rfl,rfl⟩|⟨q0,rfl,hq0,hl1,hl2,hDD⟩
    · go_wp2_with fail
      go_ret
      exact⟨_,_,_,rfl,StrsW.nil _,by omega,ZT HBV.out (ZT HW4.out HRQ.out)⟩
    · have HDD:=hid hDD
      clear hDD HBE
      obtain⟨l3,hl3,-,-,h3⟩:=HA3.out
      have H3:=hid h3
      have HL3:=hid hl3
      clear h3 hl3
      go_upto_region 14 with(first|(go_at_call 194;refine(steps_any R a4 c4 _ (by omega) _ (HG.out.kept HRQ.out)).mono ?_;rintro e w5 ⟨a5,c5,D,rfl,hD,hl5,hb⟩;have HD:=hid hD;have HL5:=hid hl5;have HQ5:Hid (Below w4.heap.size w4 w5):=ZT HRQ.out hb;clear hb hD hl5)|fail)
      have HX0:Hid (D[q0]?=some least):=HDD.out D HD.out
      obtain⟨b5,o5,rfl,-⟩:=ZcI HL5.out HX0.out
      obtain⟨s0,hs0⟩:∃ s0,l3[q0]?=some s0:=⟨l3[q0]'(by have:=HL3.out;omega),List.getElem?_eq_getElem _⟩
      obtain⟨b3,o3,rfl,hr3⟩:=H3.out.some (by have:=HL3.out;omega)
      have HR3:=hid hr3
      have d0:w5.cell? ⟨b3,o3+q0,none⟩=some (.string s0):=Zaa (Zbt hr3 hs0) HQ5.out
      clear hr3 hs0
      go_wp2_with fail
      have HO0:Hid (Own (fun s:ByteArray=>[Value.string s]) 1 9 (w5.alloc (.cells #[Value.string s0] 9)) w5.heap.size (.slice (some ⟨w5.heap.size,0,none⟩) 1 1) [s0]):=Own.lit1 encS (Nat.le_refl _) s0
      have HQ6:Hid (Below w4.heap.size w4 (w5.alloc (.cells #[Value.string s0] 9))):=HQ5.out.alloc HQ5.out.size _
      go_loopw [10,11,12] (fun u v jj wr=>∃ (q:Nat) (m:Int) (l:List ByteArray) (v0:Value),v0=u/\v=.int .i64 q/\jj=.int .i64 m/\q<R.length/\0<=m/\m<=998/\(l.length:Int)+m<=2000/\Hid (D[q]?=some (m+1))/\Hid (Own (fun s:ByteArray=>[Value.string s]) 1 9 wr w5.heap.size u l)/\Hid (Below w4.heap.size w4 wr)/\Hid (Below w5.heap.size w5 wr)) (fun _ _ jj _=>(intOf jj).toNat)
      case atStart=>exact⟨q0,least - 1,[s0],_,rfl,rfl,by go_num,hq0,by omega,by omega,by simp;omega,(by rw[show least - 1+1=least by omega];exact HX0),HO0,HQ6,Zab _⟩
      case round =>
       clear HO0 HQ6 HRQ
       obtain⟨q,m,l,v0,rfl,rfl,rfl,hq,hm0,hm1,hlm,HXQ,HO,HRQ,HR5⟩:=hrel
       rename World=>wr
       by_cases hm:0<m
       · obtain⟨r,hr⟩:∃ r,R[q]?=some r:=⟨R[q],List.getElem?_eq_getElem hq⟩
         obtain⟨y,hy,hDy⟩:=steps_next HD.out HXQ.out hr (by omega) (by omega)
         obtain⟨p,hp,hpy⟩:=List.mem_iff_getElem.1 hy
         have HP:Hid (D[(r[p]).toNat]?=some m):=by show _=_;rw[hpy,hDy];congr 1;omega
         obtain⟨br,orr,ar,cr,rfl,hc,hl⟩:=(HG.out.kept HRQ.out).row hr
         obtain⟨b2,o2,rfl,hr2⟩:=hl.some (by omega)
         have HR2:=hid hr2
         have hrl:=(HG.out.ok r (List.mem_of_getElem? hr)).1
         have HRX:Hid (∀ x∈r,0<=x/\x<(R.length:Int)):=HOK.out r (List.mem_of_getElem? hr)
         have HC0:=hid hc
         have HDL:Hid (D.length=R.length):=HD.out.1.len
         have HLD:Hid (Zaf nC 1 wr (some ⟨b5,o5,none⟩) D):=HL5.out.kept HR5.out
         clear hr hy hDy hpy hc hl hr2
         go_wp2_with fail
         go_loop [13] (fun v=>∃ k:Nat,k<=p/\v=.int .i64 k) (fun v=>p - (intOf v).toNat)
         case atStart=>exact⟨0,by omega,rfl⟩
         case round =>
          obtain⟨k,hk,rfl⟩:=hrel
          have hkr:k<r.length:=by omega
          obtain⟨y2,hy2⟩:∃ y2,r[k]?=some y2:=⟨r[k],List.getElem?_eq_getElem hkr⟩
          obtain⟨hy0,hy1⟩:=HRX.out y2 (List.mem_of_getElem? hy2)
          have hdl:=HDL.out
          obtain⟨z,hz⟩:∃ z,D[y2.toNat]?=some z:=⟨D[y2.toNat]'(by omega),List.getElem?_eq_getElem _⟩
          have d1:=HC0.out
          have d2:=Zcw (f:=fun x:Int=>.int .i64 x) (fun _=>rfl) HR2.out hy2
          obtain⟨b5',o5',he,d3⟩:=ZcI HLD.out hz
          injection he with he
          injection he with e1 e2
          subst e1 e2
          obtain⟨s,hs⟩:∃ s,l3[y2.toNat]?=some s:=⟨l3[y2.toNat]'(by have:=HL3.out;omega),List.getElem?_eq_getElem _⟩
          have d4:wr.cell? ⟨b3,o3+y2.toNat,none⟩=some (.string s):=Zaa (Zbt HR3.out hs) HRQ.out
          have HZ:=hid hz
          have HY2:=hid hy2
          have HL:Hid (l.length+[s].length<=1000000000):=by show _<=_;simp;omega
          have hkp:k<p∨z=m:=by
           by_cases e:k<p
           · exact Or.inl e
           · right
             obtain rfl:k=p:=by omega
             have h1:=HP.out
             have h2:=HY2.out
             rw[List.getElem?_eq_getElem hkr]at h2
             injection h2 with h2
             rw[h2,HZ.out]at h1
             injection h1
          clear hz hy2 hs
          by_cases hzm:z=m
          · have e1:(z != m)=false:=by simpa using hzm
            have HZM:Hid (D[y2.toNat]?=some (m - 1+1)):=by show _=_;rw[HZ.out,hzm];congr 1;omega
            clear hzm hkp
            go_wp2_with (first|(at_builtin;refine Zay elS encS rfl (.tmp 74) (.tmp 79) rfl rfl rfl (HO.out.kept (Zab _)) (ZaG _ _ encS) rfl (fun e=>by cases e) (Nat.le_trans HR5.out.size (Zab _).size) HL.out ?_;intro v3 w3 ho hb;have HO3:=hid ho;have HR6:Hid (Below w5.heap.size w5 w3):=(HR5.out.alloc HR5.out.size _).trans hb;clear ho hb)|fail)
            go_roundw
            case rel=>exact⟨y2.toNat,m - 1,l++[s],_,rfl,by rw[Int.toNat_of_nonneg hy0],by go_num,by omega,by omega,by omega,by simp;omega,HZM,HO3,ZT HQ5.out HR6.out,HR6⟩
            case measure=>simp[intOf];omega
          · have e1:(z != m)=true:=by simpa using hzm
            go_wp2_with fail
            go_round
            case rel=>exact⟨k+1,by omega,by go_num⟩
            case measure=>simp[intOf];omega
       · go_wp2_with fail
         obtain⟨a5',c5',rfl,h5⟩:=StrsW.own HO.out
         go_ret
         exact⟨_,_,_,rfl,h5,by omega,ZT HBV.out (ZT HW4.out HRQ.out)⟩
theorem own_ft (x:Ft)(w:World)(h:x.Ok w):Calls prog 171 #[.agg x.cells.toArray] w (GotI w):=by
 obtain⟨h1,n,h2⟩:=h
 refine(own_any _ _ _ _ _ _ _ _ _ _ _ _ _ _ _ _ _ _ _ _ _ _ _ _ w Zen n h1 h2.at).mono ?_
 rintro e w' ⟨r,rfl,-,hb⟩
 exact⟨r,rfl,hb⟩
theorem lies_at_of {w:World}{b o:Nat}{l:List Ft}(h:Zaf Ft.cells 18 w (some ⟨b,o,none⟩) l)(hl:0<l.length):Lies Ft.cells 18 w b o l:=by
 obtain⟨b2,o2,e,h2⟩:=h.some hl
 injection e with e
 injection e with e1 e2
 subst e1 e2
 exact h2
theorem ccheck_any (c:Ct)(w w0:World)(hw0:Below w0.heap.size w0 w)(B:Nat)(hB:B<=1000)(h:c.Ok w0 B w):Calls prog 144 #[c.val] w (GotI w):=by
 obtain⟨ta,tn,tc,fa,fn,fc,da,dn,dc,qa,qn,qc⟩:=c
 have hB2:B<=100000:=by omega
 dsimp only[Ct.val]
 have HOK:=hid h
 have HW0:=hid hw0
 clear h hw0
 go_enter func144,ntmps144
 go_upto_region 1 with fail
 refine Zam (fun V hV=>?_)
 have B0:Hid (Box V w.heap.size #[.slice ta tn tc,.slice fa fn fc,.slice da dn dc,.slice qa qn qc] 118):=by rw[hV];exact ZaE _ _ _
 have HBV:Hid (Below w.heap.size w V):=by rw[hV];exact Zab _
 clear hV
 have HQ:Hid (∀ w',Below V.heap.size V w'->w'.cell? ⟨w.heap.size,0,none⟩=some (.slice ta tn tc)/\w'.cell? ⟨w.heap.size,1,none⟩=some (.slice fa fn fc)/\w'.cell? ⟨w.heap.size,2,none⟩=some (.slice da dn dc)/\w'.cell? ⟨w.heap.size,3,none⟩=some (.slice qa qn qc)):=fun w' h=>⟨(B0.out.kept h).cell 0 _ rfl,(B0.out.kept h).cell 1 _ rfl,(B0.out.kept h).cell 2 _ rfl,(B0.out.kept h).cell 3 _ rfl⟩
 have HWV:Hid (Below w0.heap.size w0 V):=HW0.out.trans (HBV.out.mono HW0.out.size)
 have qq:=HQ.out _ (ZR V)
 obtain⟨q0,q1,q2,q3⟩:=qq
 go_wp2_with (first|(go_at_call 169;refine(tables_any ⟨ta,tn,tc,fa,fn,fc,da,dn,dc,qa,qn,qc⟩ _ w0 HWV.out B hB (HOK.out.kept HBV.out)).mono ?_;rintro e w1 ⟨r,rfl,hb⟩;have HW1:Hid (Below V.heap.size V w1):=hb;clear hb;have qq:=HQ.out _ HW1.out;obtain⟨q0,q1,q2,q3⟩:=qq;rcases Za6 r with rfl|hr0)|(go_at_call 170;refine(versions_any _ _ _ _ _ _ _ _ _ _ _ _ _ w0 B hB2 ((HOK.out.kept HBV.out).kept HW1.out).w).mono ?_;rintro e w2 ⟨a4,n4,c4,rfl,h4,hb⟩;have HA:=hid h4;have HW2:Hid (Below V.heap.size V w2):=ZT HW1.out hb;clear hb h4;have qq:=HQ.out _ HW2.out;obtain⟨q0,q1,q2,q3⟩:=qq)|((with_reducible refine Zaq 118 ?_);refine Zaj rfl 118 _ rfl _ _ 118 rfl (B0.out.kept (by repeat(first|exact ZR _|exact ZH (by assumption)|refine ZA ?_ _|refine ZD ?_|refine ZN ?_ _|refine Zag ?_ _))) _ underlying118 rfl (by kernel_rfl) ?_;intro v hv;obtain rfl:=hv.out)|fail)
 all_goals first
  |(go_ret;exact⟨_,rfl,ZT HBV.out (by repeat(first|exact ZR _|exact ZH (by assumption)|refine ZA ?_ _|refine ZD ?_|refine ZN ?_ _|refine Zag ?_ _))⟩)
  |skip
 obtain⟨⟨l,rfl,hl,hok,h1⟩,-,-⟩:=HA.out
 have H1:=hid h1
 have HLOK:=hid hok
 clear h1 hok
 go_loopw [6] (fun v wr=>∃ i:Nat,i<=l.length/\v=.int .i64 i/\Hid (Below w2.heap.size w2 wr)) (fun v _=>l.length - (intOf v).toNat)
 case atStart=>exact⟨0,by omega,rfl,ZR w2⟩
 case round =>
  obtain⟨i,hi,rfl,HR⟩:=hrel
  rename World=>wr
  have qq:=HQ.out _ (ZT HW2.out HR.out)
  obtain⟨q0,q1,q2,q3⟩:=qq
  by_cases hlt:i<l.length
  · obtain⟨x,hx⟩:∃ x,l[i]?=some x:=⟨l[i],List.getElem?_eq_getElem hlt⟩
    obtain⟨b1,o1,rfl,hr1⟩:=(H1.out.kept HR.out).some (by omega)
    have HC:Hid (∀ j v,(Ft.cells x)[j]?=some v->wr.cell? ⟨b1,o1+i*18+j,none⟩=some v):=fun j v hj=>hr1 i x hx j v hj
    have HR1:=hid hr1
    have HXI:=hid hx
    have HX:Hid (x.Ok w0):=HLOK.out x (List.mem_of_getElem? hx)
    clear hr1 hx
    go_upto_region 14 with(first|((with_reducible refine Zaq 44 ?_);refine Zas rfl 44 _ rfl b1 (o1+i*18) (Ft.cells x) rfl HC.out _ underlying44 rfl (by kernel_rfl) ?_;intro v hv;obtain rfl:=hv.out)|(go_at_call 171;refine(own_ft x _ (HX.out.kept (HWV.out.trans (Below.mono (ZT HW2.out HR.out) HWV.out.size)))).mono ?_;rintro e w3 ⟨r,rfl,hb⟩;have HR3:Hid (Below w2.heap.size w2 w3):=ZT HR.out hb;have hbw:=hid hb;clear hb;have HVR:Hid (Below V.heap.size V w3):=ZT HW2.out HR3.out;have qq:=HQ.out _ HVR.out;obtain⟨q0,q1,q2,q3⟩:=qq;rcases Za6 r with rfl|hr0)|fail)
    all_goals first
     |(go_ret;exact⟨_,rfl,ZT HBV.out (by repeat(first|exact ZR _|exact ZH (by assumption)|refine ZA ?_ _|refine ZD ?_|refine ZN ?_ _|refine Zag ?_ _))⟩)
     |skip
    go_cut [6,7] (fun u v wx=>u=.int .i64 i/\∃ b:Bool,v=.bool b/\(b=false->0<i)/\Hid (Below w2.heap.size w2 wx))
    case first =>
     go_wp2_with fail
     all_goals
      go_meet
      case rel=>exact⟨(by first|rfl|(congr 1;omega)),_,rfl,(by intro e;first|(cases e;done)|(simp at e;omega)),HR3⟩
    case rest =>
     obtain⟨rfl,b7,rfl,hb7,HR4⟩:=hcut
     rename World=>w4
     have qq:=HQ.out _ (ZT HW2.out HR4.out)
     obtain⟨q0,q1,q2,q3⟩:=qq
     go_upto_region 15 with fail
     go_cut [108] (fun v wx=>∃ b:Bool,v=.bool b/\Hid (Below w2.heap.size w2 wx))
     case first =>
      cases b7 with
      |true =>
       go_quiet (fail)
       go_wp2_with fail
       go_meet
       case rel=>exact⟨_,rfl,hid (by repeat(first|exact HR4.out|refine Zag ?_ _))⟩
      |false =>
       obtain⟨k,rfl⟩:∃ k,i=k+1:=⟨i - 1,by have:=hb7 rfl;omega⟩
       obtain⟨y,hy⟩:∃ y,l[k]?=some y:=⟨l[k],List.getElem?_eq_getElem (by omega)⟩
       have HLW:Hid (Lies Ft.cells 18 w4 b1 o1 l):=(lies_at_of (H1.out.kept HR4.out) (by omega))
       have c0:=Ft.name HLW.out HXI.out
       have d0:=Ft.name HLW.out hy
       clear hy
       have hw1:IntKind.i64.wrap (((k+1:Nat):Int) - 1)=(k:Int):=by rw[show(((k+1:Nat):Int) - 1)=(k:Int) by omega];exact IntWalk.i64_in _ (by omega)
       cases hL:Op.bytesLess x.m.toList y.m.toList with
       |true =>
        go_quiet (fail)
        go_wp2_with fail
        go_meet
        case rel=>exact⟨_,rfl,hid (by repeat(first|exact HR4.out|refine Zag ?_ _))⟩
       |false =>
        cases hp:decide (((k+1:Nat):Int)<(fn:Int)+(dn:Int))with
        |true =>
         have hp2:decide ((k:Int)+1<(fn:Int)+(dn:Int))=true:=by simpa using hp
         go_quiet (fail)
         go_wp2_with fail
         go_meet
         case rel=>exact⟨_,rfl,hid (by repeat(first|exact HR4.out|refine Zag ?_ _))⟩
        |false =>
         have hp2:decide ((k:Int)+1<(fn:Int)+(dn:Int))=false:=by simpa using hp
         go_quiet (fail)
         go_wp2_with fail
         go_meet
         case rel=>exact⟨_,rfl,hid (by repeat(first|exact HR4.out|refine Zag ?_ _))⟩
     case rest =>
      obtain⟨b8,rfl,HR5⟩:=hcut
      rename World=>w5
      cases b8 with
      |true =>
       go_wp2_with fail
       go_ret
       exact⟨_,rfl,ZT HBV.out (ZT HW2.out HR5.out)⟩
      |false =>
       go_wp2_with fail
       go_loopw [8] (fun v wx=>∃ k:Nat,k<=i/\v=.int .i64 k/\Hid (Below w2.heap.size w2 wx)) (fun v _=>i - (intOf v).toNat)
       case atStart=>exact⟨0,by omega,rfl,HR5⟩
       case round =>
        obtain⟨k,hk,rfl,HR6⟩:=hrel
        rename World=>w6
        by_cases hki:k<i
        · obtain⟨y,hy⟩:∃ y,l[k]?=some y:=⟨l[k],List.getElem?_eq_getElem (by omega)⟩
          have HLW:Hid (Lies Ft.cells 18 w6 b1 o1 l):=(lies_at_of (H1.out.kept HR6.out) (by omega))
          have c0:=Ft.name HLW.out HXI.out
          have d0:=Ft.name HLW.out hy
          have c17:w6.cell? ⟨b1,o1+i*18+17,none⟩=some (.int .i64 x.r):=HLW.out i x HXI.out 17 _ rfl
          have d17:w6.cell? ⟨b1,o1+k*18+17,none⟩=some (.int .i64 y.r):=HLW.out k y hy 17 _ rfl
          clear hy
          cases he:(y.m.toList==x.m.toList)
          all_goals
           go_wp2_with fail
           go_quiet (fail)
           go_wp2_with fail
           all_goals first
            |(go_ret;exact⟨_,rfl,ZT HBV.out (ZT HW2.out (by repeat(first|exact HR6.out|refine Zag ?_ _)))⟩)
            |(go_roundw;(case rel=>exact⟨k+1,by omega,by go_num,hid (by repeat(first|exact HR6.out|refine Zag ?_ _))⟩);(case measure=>simp[intOf];omega))
        · go_wp2_with fail
          go_roundw
          case rel=>exact⟨i+1,by omega,by go_num,HR6⟩
          case measure=>simp[intOf];omega
  · obtain⟨⟨lf,rfl,hlf,hokf,hlf1⟩,-,-⟩:=HOK.out.f
    have HLF:=hid hlf1
    have HFOK:=hid hokf
    clear hlf1 hokf
    go_wp2_with fail
    go_loopw [9] (fun v wx=>∃ k:Nat,k<=lf.length/\v=.int .i64 k/\Hid (Below w2.heap.size w2 wx)) (fun v _=>lf.length - (intOf v).toNat)
    case atStart=>exact⟨0,by omega,rfl,HR⟩
    case round =>
     obtain⟨i,hi,rfl,HR⟩:=hrel
     rename World=>wr
     have qq:=HQ.out _ (ZT HW2.out HR.out)
     obtain⟨q0,q1,q2,q3⟩:=qq
     have HVR:Hid (Below V.heap.size V wr):=ZT HW2.out HR.out
     by_cases hlt:i<lf.length
     · obtain⟨x,hx⟩:∃ x,lf[i]?=some x:=⟨lf[i],List.getElem?_eq_getElem hlt⟩
       obtain⟨b2,o2,rfl,hr1⟩:=(HLF.out.kept (ZT HBV.out HVR.out)).some (by omega)
       have HC:Hid (∀ w',Below wr.heap.size wr w'->∀ j v,(Ft.cells x)[j]?=some v->w'.cell? ⟨b2,o2+i*18+j,none⟩=some v):=fun w' hb j v hj=>Zaa (hr1 i x hx j v hj) hb
       obtain⟨hxu,n,hxn⟩:=HFOK.out x (List.mem_of_getElem? hx)
       have HFU:=hid hxu
       have HFX:Hid (ExAt n w0 x.b):=hxn.at
       clear hr1 hx hxu hxn
       go_upto_region 25 with fail
       refine ZaI (S:=fun w'=>Below wr.heap.size wr w') (.free 0 (.free 1 (.free 2 (.free 3 (.free 4 (.free 5 (.one 6 (.free 7 .done)))))))) (by kernel_rfl) (by kernel_rfl) (fun _ _ _ _ _ h=>h) (by kernel_rfl) (by kernel_rfl) (ZD (ZR _)) ?_
       refine ZbV _ rfl (by rfl) 118 _ rfl w.heap.size 0 (Ct.cells ⟨ta,tn,tc,some ⟨b2,o2,none⟩,lf.length,fc,da,dn,dc,qa,qn,qc⟩) rfl (fun w hS j v hj=>by rw[Nat.zero_add];exact(B0.out.kept (ZT HVR.out hS)).cell j v (by rw[List.getElem?_toArray];exact hj)) _ underlying118 rfl (by kernel_rfl) ?_
       intro v0 hv0
       subst hv0
       try simp only[Act.put,m1,m2,m3]
       refine Zac _ (.pointer (some ⟨w.heap.size,1,none⟩)) rfl (by rfl) (by intro wq hSw;have KQ:=HQ.out _ (ZT HVR.out hSw);obtain⟨q0,q1,q2,q3⟩:=KQ;go_simp) ?_
       try simp only[Act.put,m1,m2,m3]
       refine Zac _ (.slice (some ⟨b2,o2,none⟩) lf.length fc) rfl (by rfl) (by intro wq hSw;have KQ:=HQ.out _ (ZT HVR.out hSw);obtain⟨q0,q1,q2,q3⟩:=KQ;go_simp) ?_
       try simp only[Act.put,m1,m2,m3]
       refine Zac _ (.int .i64 i) rfl (by rfl) (by intro wq hSw;have KQ:=HQ.out _ (ZT HVR.out hSw);obtain⟨q0,q1,q2,q3⟩:=KQ;go_simp) ?_
       try simp only[Act.put,m1,m2,m3]
       refine Zac _ (.pointer (some ⟨b2,o2+i*18,none⟩)) rfl (by rfl) (by intro wq hSw;have KQ:=HQ.out _ (ZT HVR.out hSw);obtain⟨q0,q1,q2,q3⟩:=KQ;go_simp) ?_
       try simp only[Act.put,m1,m2,m3]
       refine ZbV _ rfl (by rfl) 44 _ rfl b2 (o2+i*18) (Ft.cells x) rfl (fun w hS=>HC.out w hS) _ underlying44 rfl (by kernel_rfl) ?_
       intro v5 hv5
       subst hv5
       try simp only[Act.put,m1,m2,m3]
       refine ZaN _ rfl (by rfl) (fun K hK=>?_)
       go_wp2_with (go_at_call 172;refine(Zeb _ _ _ _ _ _ _ _ _ _ _ _ _ _ _ _ _ _ _ _ _ _ _ _ _ _ _ _ _ _ _ _ _ _ _ _ _ w0 (HWV.out.trans (Below.mono (ZT HVR.out (ZD (ZR _))) HWV.out.size)) B hB2 ((HOK.out.kept (ZT HBV.out (ZT HVR.out (ZD (ZR _))))).w) n HFU.out HFX.out).mono ?_;rintro e w' ⟨r,rfl,hb⟩;have HS6:Hid (Below wr.heap.size wr w'):=ZT (ZD (ZR _)) hb;clear hb)
       refine hK.out _ _ HS6.out (fun hHeld=>?_)
       clear hK K
       try simp only[Act.put,m1,m2,m3]
       refine Zac _ (.int .i64 r) rfl (by rfl) (by intro wq hSw;have KQ:=HQ.out _ (ZT HVR.out hSw);obtain⟨q0,q1,q2,q3⟩:=KQ;go_simp) ?_
       try simp only[Act.put,m1,m2,m3]
       refine Zbb ?_
       rcases Za6 r with rfl|hr0
       all_goals skip
       go_wp2_with fail
       all_goals first
        |(go_ret;exact⟨_,rfl,ZT HBV.out (ZT HVR.out HS6.out)⟩)
        |(go_roundw;(case rel=>exact⟨i+1,by omega,by go_num,hid (ZT HR.out HS6.out)⟩);(case measure=>simp[intOf];omega))
     · go_wp2_with (first|((with_reducible refine Zaq 118 ?_);refine Zaj rfl 118 _ rfl _ _ 118 rfl (B0.out.kept (by repeat(first|exact ZR _|exact ZH (by assumption)|refine ZA ?_ _|refine ZD ?_|refine ZN ?_ _|refine Zag ?_ _))) _ underlying118 rfl (by kernel_rfl) ?_;intro v hv;obtain rfl:=hv.out)|(go_at_call 173;refine(cycle_any _ _ _ _ _ _ _ _ _ _ _ _ _ w0 (HWV.out.trans (Below.mono HVR.out HWV.out.size)) B hB ((HOK.out.kept (ZT HBV.out HVR.out)).w)).mono ?_;rintro e w' ⟨a9,n9,c9,rfl,h9,-,hb⟩;have HS9:Hid (Below wr.heap.size wr w'):=hb;clear hb)|fail)
       all_goals
        go_ret
        exact⟨_,rfl,ZT HBV.out (ZT HVR.out (by repeat(first|exact ZR _|exact ZH (by assumption)|refine ZA ?_ _|refine ZD ?_|refine ZN ?_ _|refine Zag ?_ _)))⟩
structure Cg where
 k:Int
 t:Tb
 f:Ft
 m:ByteArray
def Cg.cells (x:Cg):List Value:=[.int .i64 x.k,.string x.t.m,.string x.t.e,.slice x.t.fa x.t.fn x.t.fc,.int .i64 x.t.p,.string x.f.m,.string x.f.e,.int .i64 x.f.tk,.slice x.f.tua x.f.tun x.f.tuc,.string x.f.tof,.int .i64 x.f.b.k,.string x.f.b.o,.string x.f.b.m,.string x.f.b.t,.int .i64 x.f.b.vk,.int .i64 x.f.b.vn,.string x.f.b.vs,.slice x.f.b.ua x.f.b.un x.f.b.uc,.int .i64 x.f.b.p,.int .i64 x.f.b.wk,.int .i64 x.f.b.wz,.slice x.f.b.xa x.f.b.xn x.f.b.xc,.int .i64 x.f.r,.string x.m]
structure Cg.Ok (w0:World) (x:Cg):Prop where
 t:FdsAt w0 x.t.fa x.t.fn
 f:x.f.Ok w0
def ZfD (l:List Tb)(x:Cg)(l2:List Tb):Prop:=(x.k=1->findT l x.t.m=none/\∃ i,l2=l.take i++[x.t]++l.drop i)/\(x.k≠1->l2=l)
def TabQ (l:List Tb)(x:Cg)(w:World)(c2:Ct)(k:Int):Prop:=k=0->∃ l2,c2.tn=l2.length/\Zaf Tb.cells 4 w c2.ta l2/\ZfD l x l2
theorem TabQ.kept {l:List Tb}{x:Cg}{w w':World}{c2:Ct}{k:Int}(h:TabQ l x w c2 k)(hb:Below w.heap.size w w'):TabQ l x w' c2 k:=fun h0=>let ⟨l2,e1,e2,e3⟩:=h h0;⟨l2,e1,e2.kept hb,e3⟩
def ChgPost (l:List Tb)(x:Cg)(w0:World)(B:Nat)(w:World)(e:Ending)(w':World):Prop:=∃ (c2:Ct) (k:Int),e=.returned (.tuple #[c2.val,.int .i64 k])/\c2.Ok w0 B w'/\TabQ l x w' c2 k/\Below w.heap.size w w'
theorem changed_any (c:Ct)(x:Cg)(w w0:World)(hw0:Below w0.heap.size w0 w)(B:Nat)(hB:B<=1000)(h:c.Ok w0 B w)(l:List Tb)(hn:c.tn=l.length)(hlies:Zaf Tb.cells 4 w c.ta l)(hok:∀ t∈l,FdsAt w0 t.fa t.fn)(hx:x.Ok w0):Calls prog 143 #[c.val,.agg x.cells.toArray] w (ChgPost l x w0 (B+2) w):=by
 obtain⟨ta,tn,tc,fa,fn,fc,da,dn,dc,qa,qn,qc⟩:=c
 have hB2:B<=100000:=by omega
 dsimp only[Ct.val]
 dsimp only at hn hlies
 subst hn
 have HOK:=hid hok
 have HL:=hid hlies
 have HXT:=hid hx.t
 have HXF:=hid hx.f
 clear hok hlies hx
 go_enter func143,ntmps143
 go_upto_region 1 with fail
 refine Zam (fun V hV=>?_)
 have HST:Hid (Cs w0 w B w.heap.size (w.heap.size+1+1) ⟨ta,l.length,tc,fa,fn,fc,da,dn,dc,qa,qn,qc⟩ V):=by
  have hb:Below w.heap.size w V:=by rw[hV];exact(by repeat first|exact ZR _|refine ZA ?_ _)
  exact⟨by rw[hV];exact Zdh _ _ _ _ _ _ _,by rw[hV];exact Zdf _ _ _ _ _ _ _,h.kept hb,hb,hw0,Nat.le_refl _,by omega,by omega⟩
 have HXB:Hid (Box V (w.heap.size+1) x.cells.toArray 46):=by rw[hV];exact Zdg _ _ _ _ _ _ _
 have x0:=HXB.out.cell 0 (.int .i64 x.k) rfl
 have x23:=HXB.out.cell 23 (.string x.m) rfl
 clear hV h
 have qq:=HST.out.q
 obtain⟨q0,q1,q2,q3⟩:=qq
 have hk:x.k=1∨x.k=2∨x.k=3∨x.k=4∨(x.k≠1/\x.k≠2/\x.k≠3/\x.k≠4):=by omega
 have same:∀ {c2:Ct} {k2:Int} {w5 w9:World} {r:Nat},x.k≠1->(k2=0->c2.ta=ta/\c2.tn=l.length/\c2.tc=tc)->Zaf Tb.cells 4 w9 ta l->k2=0->∃ l2,c2.tn=l2.length/\Zaf Tb.cells 4 w9 c2.ta l2/\ZfD l x l2:=by
  intro c2 k2 w5 w9 r hk h1 h2 h0
  obtain⟨e1,e2,-⟩:=h1 h0
  exact⟨l,e2,by rw[e1];exact h2,fun h=>absurd h hk,fun _=>rfl⟩
 rcases hk with hk|hk|hk|hk|⟨hk1,hk2,hk3,hk4⟩
 · have e1:(x.k==1)=true:=by rw[hk];rfl
   go_wp2_with (first|((with_reducible refine Zaq 32 ?_);refine Zas rfl 32 _ rfl (w.heap.size+1) 1 (Tb.cells x.t) rfl (fun j v hj=>HXB.out.cell (1+j) v (Za8 (k:=1) (m:=4) hj rfl)) _ underlying32 rfl (by kernel_rfl) ?_;intro v hv;obtain rfl:=hv.out)|(go_at_call 164;refine(tbl_any ⟨ta,l.length,tc,fa,fn,fc,da,dn,dc,qa,qn,qc⟩ x.t l _ w0 HST.out.wz B hB HST.out.ok rfl (HL.out.kept HST.out.below) HOK.out HXT.out).mono ?_;rintro e w5 ⟨c2,k2,rfl,hc2,hq2,hb⟩;have HC2:=hid hc2;have HQ2:=hid hq2;clear hc2 hq2;have HL5:=hid ((HL.out.kept HST.out.below).kept hb);have HST:=hid (HST.out.kept hb);clear hb;have qq:=HST.out.q;obtain⟨q0,q1,q2,q3⟩:=qq)|((with_reducible refine Zaq 118 ?_);refine Zaj rfl 118 _ rfl _ _ 118 rfl HST.out.box _ underlying118 rfl (by kernel_rfl) ?_;intro v hv;obtain rfl:=hv.out)|((with_reducible refine Zal 118 ?_);refine Zav rfl _ _ rfl rfl HST.out c2 rfl rfl HC2.out ?_;intro w9 hR hotr;have HR:=hid hR;have HOT:=hid hotr;clear hR hotr)|fail)
   (try simp only[Exit.inBlock,Exit.then]);refine bodyPost_ret (Zad rfl rfl HR.out.box underlying118 rfl (by kernel_rfl)) rfl ?_
   refine⟨c2,k2,rfl,HR.out.ok,fun h0=>?_,HR.out.below⟩
   obtain⟨h1,l2,h2,h3,h4⟩:=HQ2.out h0
   exact⟨l2,h2,TbsL.put h3 HST.out.res (ZbS _ _ _ _ _ _ _ _ _ _ _ _) HOT.out,fun _=>⟨h1,h4⟩,fun h=>absurd hk h⟩
 · have e1:(x.k==1)=false:=by rw[hk];rfl
   have e2:(x.k==2)=true:=by rw[hk];rfl
   go_wp2_with (first|((with_reducible refine Zaq 44 ?_);refine Zas rfl 44 _ rfl (w.heap.size+1) 5 (Ft.cells x.f) rfl (fun j v hj=>HXB.out.cell (5+j) v (Za8 (k:=5) (m:=18) hj rfl)) _ underlying44 rfl (by kernel_rfl) ?_;intro v hv;obtain rfl:=hv.out)|(go_at_call 165;refine(publish_any ⟨ta,l.length,tc,fa,fn,fc,da,dn,dc,qa,qn,qc⟩ x.f _ w0 HST.out.wz B hB HST.out.ok HXF.out).mono ?_;rintro e w5 ⟨c2,k2,rfl,hc2,hq2,hb⟩;have HC2:=hid hc2;have HQ2:=hid hq2;clear hc2 hq2;have HL5:=hid ((HL.out.kept HST.out.below).kept hb);have HST:=hid (HST.out.kept hb);clear hb;have qq:=HST.out.q;obtain⟨q0,q1,q2,q3⟩:=qq)|((with_reducible refine Zaq 118 ?_);refine Zaj rfl 118 _ rfl _ _ 118 rfl HST.out.box _ underlying118 rfl (by kernel_rfl) ?_;intro v hv;obtain rfl:=hv.out)|((with_reducible refine Zal 118 ?_);refine Zav rfl _ _ rfl rfl HST.out c2 rfl rfl HC2.out ?_;intro w9 hR hotr;have HR:=hid hR;have HOT:=hid hotr;clear hR hotr)|fail)
   (try simp only[Exit.inBlock,Exit.then]);refine bodyPost_ret (Zad rfl rfl HR.out.box underlying118 rfl (by kernel_rfl)) rfl ?_
   exact⟨c2,k2,rfl,HR.out.ok,same (w5:=w5) (r:=0) (by omega) HQ2.out (TbsL.put HL5.out HST.out.res (ZbS _ _ _ _ _ _ _ _ _ _ _ _) HOT.out),HR.out.below⟩
 · have e1:(x.k==1)=false:=by rw[hk];rfl
   have e2:(x.k==2)=false:=by rw[hk];rfl
   have e3:(x.k==3)=true:=by rw[hk];rfl
   go_wp2_with (first|((with_reducible refine Zaq 44 ?_);refine Zas rfl 44 _ rfl (w.heap.size+1) 5 (Ft.cells x.f) rfl (fun j v hj=>HXB.out.cell (5+j) v (Za8 (k:=5) (m:=18) hj rfl)) _ underlying44 rfl (by kernel_rfl) ?_;intro v hv;obtain rfl:=hv.out)|(go_at_call 166;refine(enforce_any ⟨ta,l.length,tc,fa,fn,fc,da,dn,dc,qa,qn,qc⟩ _ _ w0 HST.out.wz B hB HST.out.ok).mono ?_;rintro e w5 ⟨c2,k2,rfl,hc2,hq2,hb⟩;have HC2:=hid hc2;have HQ2:=hid hq2;clear hc2 hq2;have HL5:=hid ((HL.out.kept HST.out.below).kept hb);have HST:=hid (HST.out.kept hb);clear hb;have qq:=HST.out.q;obtain⟨q0,q1,q2,q3⟩:=qq)|((with_reducible refine Zaq 118 ?_);refine Zaj rfl 118 _ rfl _ _ 118 rfl HST.out.box _ underlying118 rfl (by kernel_rfl) ?_;intro v hv;obtain rfl:=hv.out)|((with_reducible refine Zal 118 ?_);refine Zav rfl _ _ rfl rfl HST.out c2 rfl rfl HC2.out ?_;intro w9 hR hotr;have HR:=hid hR;have HOT:=hid hotr;clear hR hotr)|fail)
   (try simp only[Exit.inBlock,Exit.then]);refine bodyPost_ret (Zad rfl rfl HR.out.box underlying118 rfl (by kernel_rfl)) rfl ?_
   exact⟨c2,k2,rfl,HR.out.ok,same (w5:=w5) (r:=0) (by omega) HQ2.out (TbsL.put HL5.out HST.out.res (ZbS _ _ _ _ _ _ _ _ _ _ _ _) HOT.out),HR.out.below⟩
 · have e1:(x.k==1)=false:=by rw[hk];rfl
   have e2:(x.k==2)=false:=by rw[hk];rfl
   have e3:(x.k==3)=false:=by rw[hk];rfl
   have e4:(x.k==4)=true:=by rw[hk];rfl
   go_wp2_with (first|((with_reducible refine Zaq 44 ?_);refine Zas rfl 44 _ rfl (w.heap.size+1) 5 (Ft.cells x.f) rfl (fun j v hj=>HXB.out.cell (5+j) v (Za8 (k:=5) (m:=18) hj rfl)) _ underlying44 rfl (by kernel_rfl) ?_;intro v hv;obtain rfl:=hv.out)|(go_at_call 167;refine(rollback_any ⟨ta,l.length,tc,fa,fn,fc,da,dn,dc,qa,qn,qc⟩ _ _ w0 HST.out.wz B hB HST.out.ok).mono ?_;rintro e w5 ⟨c2,k2,rfl,hc2,hq2,hb⟩;have HC2:=hid hc2;have HQ2:=hid hq2;clear hc2 hq2;have HL5:=hid ((HL.out.kept HST.out.below).kept hb);have HST:=hid (HST.out.kept hb);clear hb;have qq:=HST.out.q;obtain⟨q0,q1,q2,q3⟩:=qq)|((with_reducible refine Zaq 118 ?_);refine Zaj rfl 118 _ rfl _ _ 118 rfl HST.out.box _ underlying118 rfl (by kernel_rfl) ?_;intro v hv;obtain rfl:=hv.out)|((with_reducible refine Zal 118 ?_);refine Zav rfl _ _ rfl rfl HST.out c2 rfl rfl HC2.out ?_;intro w9 hR hotr;have HR:=hid hR;have HOT:=hid hotr;clear hR hotr)|fail)
   (try simp only[Exit.inBlock,Exit.then]);refine bodyPost_ret (Zad rfl rfl HR.out.box underlying118 rfl (by kernel_rfl)) rfl ?_
   exact⟨c2,k2,rfl,HR.out.ok,same (w5:=w5) (r:=0) (by omega) HQ2.out (TbsL.put HL5.out HST.out.res (ZbS _ _ _ _ _ _ _ _ _ _ _ _) HOT.out),HR.out.below⟩
 · have e1:(x.k==1)=false:=beq_eq_false_iff_ne.2 hk1
   have e2:(x.k==2)=false:=beq_eq_false_iff_ne.2 hk2
   have e3:(x.k==3)=false:=beq_eq_false_iff_ne.2 hk3
   have e4:(x.k==4)=false:=beq_eq_false_iff_ne.2 hk4
   go_wp2_with (first|(go_at_call 168;refine(drop_any ⟨ta,l.length,tc,fa,fn,fc,da,dn,dc,qa,qn,qc⟩ _ _ w0 HST.out.wz B hB HST.out.ok).mono ?_;rintro e w5 ⟨c2,k2,rfl,hc2,hq2,hb⟩;have HC2:=hid hc2;have HQ2:=hid hq2;clear hc2 hq2;have HL5:=hid ((HL.out.kept HST.out.below).kept hb);have HST:=hid (HST.out.kept hb);clear hb;have qq:=HST.out.q;obtain⟨q0,q1,q2,q3⟩:=qq)|((with_reducible refine Zaq 118 ?_);refine Zaj rfl 118 _ rfl _ _ 118 rfl HST.out.box _ underlying118 rfl (by kernel_rfl) ?_;intro v hv;obtain rfl:=hv.out)|((with_reducible refine Zal 118 ?_);refine Zav rfl _ _ rfl rfl HST.out c2 rfl rfl HC2.out ?_;intro w9 hR hotr;have HR:=hid hR;have HOT:=hid hotr;clear hR hotr)|fail)
   (try simp only[Exit.inBlock,Exit.then]);refine bodyPost_ret (Zad rfl rfl HR.out.box underlying118 rfl (by kernel_rfl)) rfl ?_
   exact⟨c2,k2,rfl,HR.out.ok,same (w5:=w5) (r:=0) hk1 HQ2.out (TbsL.put HL5.out HST.out.res (ZbS _ _ _ _ _ _ _ _ _ _ _ _) HOT.out),HR.out.below⟩
theorem apply_any (c:Ct)(x:Cg)(w w0:World)(hw0:Below w0.heap.size w0 w)(B:Nat)(hB:B<=990)(h:c.Ok w0 B w)(l:List Tb)(hn:c.tn=l.length)(hlies:Zaf Tb.cells 4 w c.ta l)(hok:∀ t∈l,FdsAt w0 t.fa t.fn)(hx:x.Ok w0):Calls prog 97 #[c.val,.agg x.cells.toArray] w (ChgPost l x w0 (B+2) w):=by
 obtain⟨ta,tn,tc,fa,fn,fc,da,dn,dc,qa,qn,qc⟩:=c
 have hB2:B<=100000:=by omega
 dsimp only[Ct.val]
 dsimp only at hn hlies
 subst hn
 have HOK:=hid hok
 have HL:=hid hlies
 have HXT:=hid hx.t
 have HXF:=hid hx.f
 clear hok hlies hx
 obtain⟨-,n,hxn⟩:=HXF.out
 have HXN:Hid (ExAt n w0 x.f.b):=hxn.at
 clear hxn
 go_enter func97,ntmps97
 go_upto_region 1 with fail
 refine Zam (fun V hV=>?_)
 have HST:Hid (Cs w0 w B w.heap.size (w.heap.size+1+1) ⟨ta,l.length,tc,fa,fn,fc,da,dn,dc,qa,qn,qc⟩ V):=by
  have hb:Below w.heap.size w V:=by rw[hV];exact(by repeat first|exact ZR _|refine ZA ?_ _)
  exact⟨by rw[hV];exact Zdh _ _ _ _ _ _ _,by rw[hV];exact Zdf _ _ _ _ _ _ _,h.kept hb,hb,hw0,Nat.le_refl _,by omega,by omega⟩
 have HXB:Hid (Box V (w.heap.size+1) x.cells.toArray 46):=by rw[hV];exact Zdg _ _ _ _ _ _ _
 have x0:=HXB.out.cell 0 (.int .i64 x.k) rfl
 clear hV h
 have qq:=HST.out.q
 obtain⟨q0,q1,q2,q3⟩:=qq
 go_wp2_with (first|((with_reducible refine Zaq 46 ?_);refine Zaj rfl 46 _ rfl (w.heap.size+1) (Cg.cells x) 46 rfl HXB.out _ underlying46 rfl (by kernel_rfl) ?_;intro v hv;obtain rfl:=hv.out)|(go_at_call 142;refine(proper_any _ _ _ _ _ _ _ _ _ _ _ _ _ _ _ _ _ _ _ _ _ _ _ _ _ _ _ _ _ _ _ _ _ n (HXT.out.kept HST.out.wz) (HXF.out.1.kept HST.out.wz) (HXN.out.kept HST.out.wz)).mono ?_;rintro e w5 ⟨b5,rfl,hb⟩;have HST:=hid (HST.out.kept hb);have HXB:=hid (HXB.out.kept hb);clear hb;have qq:=HST.out.q;obtain⟨q0,q1,q2,q3⟩:=qq;cases b5)|(go_at_call 143;refine(changed_any ⟨ta,l.length,tc,fa,fn,fc,da,dn,dc,qa,qn,qc⟩ x _ w0 HST.out.wz B (by omega) HST.out.ok l rfl (HL.out.kept HST.out.below) HOK.out ⟨HXT.out,HXF.out⟩).mono ?_;rintro e w5 ⟨c2,k2,rfl,hc2,hq2,hb⟩;have HC2:=hid hc2;have HQ2:=hid hq2;clear hc2 hq2;have HST:=hid (HST.out.kept hb);have HXB:=hid (HXB.out.kept hb);clear hb;have qq:=HST.out.q;obtain⟨q0,q1,q2,q3⟩:=qq;rcases Za6 k2 with rfl|hk0)|((with_reducible refine Zbf 118 ?_);refine Zbm rfl rfl 118 _ _ rfl rfl rfl (Ct.cells c2) rfl rfl (by kernel_rfl) (by rfl) ?_;intro g7 w8 hbx hg7 hb;have HDB:=hid hbx;clear hg7 hbx;have HC2:=hid (HC2.out.kept hb);have HQ2:=hid (HQ2.out.kept hb);have HST:=hid (HST.out.kept hb);have HXB:=hid (HXB.out.kept hb);clear hb;have qq:=HST.out.q;obtain⟨q0,q1,q2,q3⟩:=qq)|(go_at_call 144;refine(ccheck_any c2 _ w0 HST.out.wz (B+2) (by omega) HC2.out).mono ?_;rintro e w5 ⟨r,rfl,hb⟩;have HDB:=hid (HDB.out.kept hb);have HC2:=hid (HC2.out.kept hb);have HQ2:=hid (HQ2.out.kept hb);have HST:=hid (HST.out.kept hb);have HXB:=hid (HXB.out.kept hb);clear hb;have qq:=HST.out.q;obtain⟨q0,q1,q2,q3⟩:=qq;rcases Za6 r with rfl|hr0)|((with_reducible refine Zal 118 ?_);refine Zav rfl _ _ rfl rfl HST.out c2 rfl rfl HC2.out ?_;intro w9 hR hotr;have HR:=hid hR;have HOT:=hid hotr;clear hR hotr)|((with_reducible refine Zaw 118 ?_);refine Zah rfl 118 #[] rfl Ct.zero.cells (fun w=>ZcO w) ?_;intro v hv;obtain rfl:=hv.out)|((with_reducible refine Zal 118 ?_);refine Zav rfl _ _ rfl rfl HST.out Ct.zero rfl rfl (Ct.zero_ok _ B _) ?_;intro w9 hR hotr;have HR:=hid hR;have HOT:=hid hotr;clear hR hotr)|((with_reducible refine Zaq 118 ?_);refine Zaj rfl 118 _ rfl g7 (Ct.cells c2) 118 rfl HDB.out _ underlying118 rfl (by kernel_rfl) ?_;intro v hv;obtain rfl:=hv.out)|((with_reducible refine Zaq 118 ?_);refine Zaj rfl 118 _ rfl _ _ 118 rfl HST.out.box _ underlying118 rfl (by kernel_rfl) ?_;intro v hv;obtain rfl:=hv.out)|fail)
 all_goals
  (try simp only[Exit.inBlock,Exit.then]);refine bodyPost_ret (Zad rfl rfl HR.out.box underlying118 rfl (by kernel_rfl)) rfl ?_
  first
   |exact⟨c2,_,rfl,HR.out.ok,(fun h0=>let ⟨l2,e1,e2,e3⟩:=HQ2.out rfl;⟨l2,e1,TbsL.put e2 HST.out.res (ZbS _ _ _ _ _ _ _ _ _ _ _ _) HOT.out,e3⟩),HR.out.below⟩
   |exact⟨Ct.zero,_,rfl,HR.out.ok.mono (by omega),(fun h0=>absurd h0 (by first|decide|assumption)),HR.out.below⟩
theorem Zft (t_k:Int)(t_ua:Option Addr)(t_un:Nat)(t_uc:Nat)(t_o:ByteArray)(w:World)(h:Zao w t_ua t_un):Calls prog 133 #[.agg #[.int .i64 t_k,.slice t_ua t_un t_uc,.string t_o]] w (GotB w):=by
 have HU:=hid h
 clear h
 go_enter func133,ntmps133
 go_upto_region 1 with fail
 refine Zam (fun V hV=>?_)
 have B0:Hid (Box V w.heap.size #[.int .i64 t_k,.slice t_ua t_un t_uc,.string t_o] 35):=by rw[hV];exact ZaE _ _ _
 have HBV:Hid (Below w.heap.size w V):=by rw[hV];exact(by repeat first|exact ZR _|refine ZA ?_ _)
 clear hV
 have HS:Hid (∀ w',Below V.heap.size V w'->w'.cell? ⟨w.heap.size,0,none⟩=some (.int .i64 t_k)/\w'.cell? ⟨w.heap.size,1,none⟩=some (.slice t_ua t_un t_uc)/\w'.cell? ⟨w.heap.size,2,none⟩=some (.string t_o)):=fun w' h=>⟨(B0.out.kept h).cell 0 _ rfl,(B0.out.kept h).cell 1 _ rfl,(B0.out.kept h).cell 2 _ rfl⟩
 obtain⟨k0_0,k0_1,k0_2⟩:=HS.out V (ZR V)
 go_wp2_with (first|(go_at_call 134;refine(fewx_any 1 ⟨0,⟨#[]⟩,t_o,⟨#[]⟩,0,0,⟨#[]⟩,t_ua,t_un,t_uc,0,0,0,none,0,0⟩ 1 _ _ (ZR _) (by decide) ⟨HU.out.kept HBV.out,(by show(0:Nat)<=140737488355328;decide),[],rfl,by decide,Zaf.nil _ _,fun y hy=>(by cases hy)⟩).mono ?_;rintro e w' ⟨r,rfl,-,hb⟩;have HW:Hid (Below V.heap.size V w'):=hb;clear hb)|fail)
 go_ret
 exact⟨_,rfl,ZT HBV.out HW.out⟩
theorem fewtable_any (t_m:ByteArray)(t_e:ByteArray)(t_fa:Option Addr)(t_fn:Nat)(t_fc:Nat)(t_p:Int)(w:World)(h:FdsAt w t_fa t_fn)(hm:t_m.size<=140737488355328)(he:t_e.size<=140737488355328):Calls prog 91 #[.agg #[.string t_m,.string t_e,.slice t_fa t_fn t_fc,.int .i64 t_p]] w (GotP (fun b=>b=true->t_m.size+t_e.size<=200) w):=by
 obtain⟨fs,rfl,hfl,hfu,hf⟩:=h
 have HFL:=hid hf
 have HFU:=hid hfu
 clear hf hfu
 go_enter func91,ntmps91
 go_upto_region 1 with fail
 refine Zam (fun V hV=>?_)
 have B0:Hid (Box V w.heap.size #[.string t_m,.string t_e,.slice t_fa fs.length t_fc,.int .i64 t_p] 32):=by rw[hV];exact ZaE _ _ _
 have HBV:Hid (Below w.heap.size w V):=by rw[hV];exact(by repeat first|exact ZR _|refine ZA ?_ _)
 clear hV
 have HS:Hid (∀ w',Below V.heap.size V w'->w'.cell? ⟨w.heap.size,0,none⟩=some (.string t_m)/\w'.cell? ⟨w.heap.size,1,none⟩=some (.string t_e)/\w'.cell? ⟨w.heap.size,2,none⟩=some (.slice t_fa fs.length t_fc)/\w'.cell? ⟨w.heap.size,3,none⟩=some (.int .i64 t_p)):=fun w' h=>⟨(B0.out.kept h).cell 0 _ rfl,(B0.out.kept h).cell 1 _ rfl,(B0.out.kept h).cell 2 _ rfl,(B0.out.kept h).cell 3 _ rfl⟩
 obtain⟨k0_0,k0_1,k0_2,k0_3⟩:=HS.out V (ZR V)
 go_wp2_with fail
 go_loopw [3] (fun v wr=>∃ i:Nat,i<=fs.length/\v=.int .i64 i/\Hid (Below V.heap.size V wr)) (fun v _=>fs.length - (intOf v).toNat)
 case atStart=>exact⟨0,by omega,rfl,ZR V⟩
 case round =>
  obtain⟨i,hi,rfl,HB⟩:=hrel
  rename World=>wr
  have KK:=HS.out _ HB.out
  obtain⟨k0_0,k0_1,k0_2,k0_3⟩:=KK
  by_cases hlt:i<fs.length
  · obtain⟨f,hf⟩:∃ f,fs[i]?=some f:=⟨fs[i],List.getElem?_eq_getElem hlt⟩
    obtain⟨b1,o1,rfl,hr1⟩:=(HFL.out.kept (ZT HBV.out HB.out)).some (by omega)
    obtain⟨c0,c1,c2,c3⟩:=Fd.cell hr1 hf
    have HU:=hid ((HFU.out f (List.mem_of_getElem? hf)).kept (ZT HBV.out HB.out))
    clear hr1 hf
    cases hn:decide ((100:Int)<(f.m.size:Int))with
    |true =>
     go_wp2_with fail
     go_ret
     exact⟨_,rfl,fun h=>(by cases h),ZT HBV.out HB.out⟩
    |false =>
     go_wp2_with (first|(go_at_call 133;refine(Zft _ _ _ _ _ _ HU.out).mono ?_;rintro e w' ⟨b,rfl,hb⟩;have HW:Hid (Below V.heap.size V w'):=ZT HB.out hb;clear hb;have KK:=HS.out _ HW.out;obtain⟨k0_0,k0_1,k0_2,k0_3⟩:=KK;cases b)|fail)
     all_goals first
      |(go_ret;exact⟨_,rfl,fun h=>(by cases h),ZT HBV.out HW.out⟩)
      |(go_roundw;(case rel=>exact⟨i+1,by omega,by go_num,HW⟩);(case measure=>simp[intOf];omega))
  · cases h12:decide ((fs.length:Int)<=12)with
    |false =>
     go_wp2_with fail
     go_ret
     exact⟨_,rfl,fun h=>(by cases h),ZT HBV.out HB.out⟩
    |true =>
     go_wp2_with fail
     go_ret
     exact⟨_,rfl,fun h=>by simp at h;omega,ZT HBV.out HB.out⟩
theorem ExNd.mono {w:World}:∀ {n c d:Nat} {x:Ex},ExNd n c w x->c<=d->ExNd n d w x
 |0,_,_,_,h,_=>h.elim
 |n+1,c,d,x,⟨h1,h2,xs,cs,h3,h4,h5,h6,h7,h8⟩,hcd=>⟨h1,h2,xs,cs,h3,h4,h5,h6,by omega,h8⟩
theorem fewfeature_any (f_m:ByteArray)(f_e:ByteArray)(f_tk:Int)(f_tua:Option Addr)(f_tun:Nat)(f_tuc:Nat)(f_to:ByteArray)(f_bk:Int)(f_bo:ByteArray)(f_bm:ByteArray)(f_bt:ByteArray)(f_bvk:Int)(f_bvn:Int)(f_bvs:ByteArray)(f_bua:Option Addr)(f_bun:Nat)(f_buc:Nat)(f_bp:Int)(f_bwk:Int)(f_bwz:Int)(f_bxa:Option Addr)(f_bxn:Nat)(f_bxc:Nat)(f_r:Int)(w:World)(w0:World)(hw0:Below w0.heap.size w0 w)(hu:Zao w0 f_tua f_tun)(n:Nat)(hx:ExAt n w0 ⟨f_bk,f_bo,f_bm,f_bt,f_bvk,f_bvn,f_bvs,f_bua,f_bun,f_buc,f_bp,f_bwk,f_bwz,f_bxa,f_bxn,f_bxc⟩):Calls prog 92 #[.agg #[.string f_m,.string f_e,.int .i64 f_tk,.slice f_tua f_tun f_tuc,.string f_to,.int .i64 f_bk,.string f_bo,.string f_bm,.string f_bt,.int .i64 f_bvk,.int .i64 f_bvn,.string f_bvs,.slice f_bua f_bun f_buc,.int .i64 f_bp,.int .i64 f_bwk,.int .i64 f_bwz,.slice f_bxa f_bxn f_bxc,.int .i64 f_r]] w (GotP (fun b=>b=true->ExNd n 80 w0 ⟨f_bk,f_bo,f_bm,f_bt,f_bvk,f_bvn,f_bvs,f_bua,f_bun,f_buc,f_bp,f_bwk,f_bwz,f_bxa,f_bxn,f_bxc⟩) w):=by
 have HU:=hid hu
 have HX:=hid hx
 have HW0:=hid hw0
 clear hu hx hw0
 go_enter func92,ntmps92
 go_upto_region 1 with fail
 refine Zam (fun V hV=>?_)
 have B0:Hid (Box V w.heap.size #[.string f_m,.string f_e,.int .i64 f_tk,.slice f_tua f_tun f_tuc,.string f_to,.int .i64 f_bk,.string f_bo,.string f_bm,.string f_bt,.int .i64 f_bvk,.int .i64 f_bvn,.string f_bvs,.slice f_bua f_bun f_buc,.int .i64 f_bp,.int .i64 f_bwk,.int .i64 f_bwz,.slice f_bxa f_bxn f_bxc,.int .i64 f_r] 44):=by rw[hV];exact ZaE _ _ _
 have HBV:Hid (Below w.heap.size w V):=by rw[hV];exact(by repeat first|exact ZR _|refine ZA ?_ _)
 clear hV
 have HS:Hid (∀ w',Below V.heap.size V w'->w'.cell? ⟨w.heap.size,0,none⟩=some (.string f_m)/\w'.cell? ⟨w.heap.size,1,none⟩=some (.string f_e)/\w'.cell? ⟨w.heap.size,2,none⟩=some (.int .i64 f_tk)/\w'.cell? ⟨w.heap.size,3,none⟩=some (.slice f_tua f_tun f_tuc)/\w'.cell? ⟨w.heap.size,4,none⟩=some (.string f_to)/\w'.cell? ⟨w.heap.size,5,none⟩=some (.int .i64 f_bk)/\w'.cell? ⟨w.heap.size,6,none⟩=some (.string f_bo)/\w'.cell? ⟨w.heap.size,7,none⟩=some (.string f_bm)/\w'.cell? ⟨w.heap.size,8,none⟩=some (.string f_bt)/\w'.cell? ⟨w.heap.size,9,none⟩=some (.int .i64 f_bvk)/\w'.cell? ⟨w.heap.size,10,none⟩=some (.int .i64 f_bvn)/\w'.cell? ⟨w.heap.size,11,none⟩=some (.string f_bvs)/\w'.cell? ⟨w.heap.size,12,none⟩=some (.slice f_bua f_bun f_buc)/\w'.cell? ⟨w.heap.size,13,none⟩=some (.int .i64 f_bp)/\w'.cell? ⟨w.heap.size,14,none⟩=some (.int .i64 f_bwk)/\w'.cell? ⟨w.heap.size,15,none⟩=some (.int .i64 f_bwz)/\w'.cell? ⟨w.heap.size,16,none⟩=some (.slice f_bxa f_bxn f_bxc)/\w'.cell? ⟨w.heap.size,17,none⟩=some (.int .i64 f_r)):=fun w' h=>⟨(B0.out.kept h).cell 0 _ rfl,(B0.out.kept h).cell 1 _ rfl,(B0.out.kept h).cell 2 _ rfl,(B0.out.kept h).cell 3 _ rfl,(B0.out.kept h).cell 4 _ rfl,(B0.out.kept h).cell 5 _ rfl,(B0.out.kept h).cell 6 _ rfl,(B0.out.kept h).cell 7 _ rfl,(B0.out.kept h).cell 8 _ rfl,(B0.out.kept h).cell 9 _ rfl,(B0.out.kept h).cell 10 _ rfl,(B0.out.kept h).cell 11 _ rfl,(B0.out.kept h).cell 12 _ rfl,(B0.out.kept h).cell 13 _ rfl,(B0.out.kept h).cell 14 _ rfl,(B0.out.kept h).cell 15 _ rfl,(B0.out.kept h).cell 16 _ rfl,(B0.out.kept h).cell 17 _ rfl⟩
 obtain⟨k0_0,k0_1,k0_2,k0_3,k0_4,k0_5,k0_6,k0_7,k0_8,k0_9,k0_10,k0_11,k0_12,k0_13,k0_14,k0_15,k0_16,k0_17⟩:=HS.out V (ZR V)
 have HWV:Hid (Below w0.heap.size w0 V):=HW0.out.trans (HBV.out.mono HW0.out.size)
 cases hs:decide (wrap64 ((f_m.size:Int)+(f_e.size:Int))<=200)with
 |false =>
  go_wp2_with fail
  go_ret
  exact⟨_,rfl,fun h=>(by cases h),ZT HBV.out (ZR _)⟩
 |true =>
  go_wp2_with (first|(go_at_call 133;refine(Zft _ _ _ _ _ _ (HU.out.kept HWV.out)).mono ?_;rintro e w' ⟨b,rfl,hb⟩;have HW:Hid (Below V.heap.size V w'):=hb;clear hb;have KK:=HS.out _ HW.out;obtain⟨k0_0,k0_1,k0_2,k0_3,k0_4,k0_5,k0_6,k0_7,k0_8,k0_9,k0_10,k0_11,k0_12,k0_13,k0_14,k0_15,k0_16,k0_17⟩:=KK;cases b)|(go_at_call 134;refine(fewx_any n ⟨f_bk,f_bo,f_bm,f_bt,f_bvk,f_bvn,f_bvs,f_bua,f_bun,f_buc,f_bp,f_bwk,f_bwz,f_bxa,f_bxn,f_bxc⟩ 80 _ w0 (HWV.out.trans (HW.out.mono HWV.out.size)) (by decide) HX.out).mono ?_;rintro e w6 ⟨r,rfl,hr,hb⟩;have HR:=hid hr;have HW6:Hid (Below V.heap.size V w6):=ZT HW.out hb;clear hb hr)|fail)
  all_goals go_ret
  all_goals first
   |exact⟨_,rfl,fun h=>(by cases h),ZT HBV.out HW.out⟩
   |exact⟨_,rfl,fun h=>(by(have h0:0<=r:=(by simpa using h));(obtain⟨-,h2,c,hc,hnd⟩:=HR.out h0);exact hnd.mono (by omega)),ZT HBV.out HW6.out⟩
theorem few14_any (x:Cg)(w w0:World)(hw0:Below w0.heap.size w0 w)(ht:FdsAt w0 x.t.fa x.t.fn)(hu:Zao w0 x.f.tua x.f.tun)(hx:∃ n,ExAt n w0 x.f.b)(hm:x.t.m.size<=140737488355328)(he:x.t.e.size<=140737488355328) :
 Calls prog 68 #[.agg x.cells.toArray] w (GotP (fun b=>b=true->x.t.m.size+x.t.e.size<=200/\x.f.Ok w0) w):=by
 obtain⟨n,hx⟩:=hx
 have HT:=hid ht
 have HU:=hid hu
 have HX:=hid hx
 have HW0:=hid hw0
 have HM:=hid hm
 have HE:=hid he
 clear ht hu hx hw0 hm he
 go_enter func68,ntmps68
 go_upto_region 1 with(first|(refine Za9 rfl 46 (.tmp 0) rfl x.cells rfl ?_)|fail)
 refine Zam (fun V hV=>?_)
 have HXB:Hid (Box V w.heap.size x.cells.toArray 46):=by rw[hV];exact ZaE _ _ _
 have HBV:Hid (Below w.heap.size w V):=by rw[hV];exact Zab _
 clear hV
 have HWV:Hid (Below w0.heap.size w0 V):=HW0.out.trans (HBV.out.mono HW0.out.size)
 go_wp2_with (first|((with_reducible refine Zaq 32 ?_);refine Zas rfl 32 _ rfl w.heap.size 1 (Tb.cells x.t) rfl (fun j v hj=>HXB.out.cell (1+j) v (Za8 (k:=1) (m:=4) hj rfl)) _ underlying32 rfl (by kernel_rfl) ?_;intro v hv;obtain rfl:=hv.out)|(go_at_call 91;refine(fewtable_any _ _ _ _ _ _ _ (HT.out.kept HWV.out) HM.out HE.out).mono ?_;rintro e w' ⟨b,rfl,hb91,hb⟩;have H91:=hid hb91;have HW:Hid (Below V.heap.size V w'):=hb;have HXB:=hid (HXB.out.kept hb);clear hb hb91;have x23:=HXB.out.cell 23 (.string x.m) rfl;cases b)|((with_reducible refine Zaq 44 ?_);refine ZcW (by rfl) 44 (.tmp 7) rfl w.heap.size 5 (Ft.cells x.f) rfl (fun j v hj=>HXB.out.cell (5+j) v (Za8 (k:=5) (m:=18) hj rfl)) _ underlying44 rfl (by kernel_rfl) ?_)|(go_at_call 92;refine(fewfeature_any _ _ _ _ _ _ _ _ _ _ _ _ _ _ _ _ _ _ _ _ _ _ _ _ _ w0 (HWV.out.trans (HW.out.mono HWV.out.size)) HU.out n HX.out).mono ?_;rintro e w' ⟨b,rfl,hb92,hb⟩;have H92:=hid hb92;have HW:Hid (Below V.heap.size V w'):=ZT HW.out hb;have HXB:=hid (HXB.out.kept hb);clear hb hb92;have x23:=HXB.out.cell 23 (.string x.m) rfl;cases b)|fail)
 all_goals go_ret
 all_goals first
  |exact⟨_,rfl,fun h=>(by cases h),ZT HBV.out HW.out⟩
  |exact⟨_,rfl,fun h=>⟨H91.out (by first|rfl|trivial),HU.out,n,H92.out (by first|rfl|trivial)⟩,ZT HBV.out HW.out⟩
end Go.Proofs.YtfnpfkgmacaboaaGreat
