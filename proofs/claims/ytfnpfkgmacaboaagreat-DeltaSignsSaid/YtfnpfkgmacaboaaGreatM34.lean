/- Texts joined by a program. -/
import Derived.Test.YtfnpfkgmacaboaaGreatM30
import Derived.Test.YtfnpfkgmacaboaaGreatM32
import Derived.Test.YtfnpfkgmacaboaaGreatM33
namespace Go.Proofs.YtfnpfkgmacaboaaGreat
open Go.Proofs.Tryz
open Lib (hid)
open Go.ChangeShapes Go.WideShapes Go.ChangeAt Go.RowKit
set_option linter.unusedVariables false
set_option linter.unusedSimpArgs false
set_option maxRecDepth 100000
set_option maxHeartbeats 4000000
theorem encTy:Enc Ty.cells 3:=⟨fun _=>rfl,fun x v hv=>by
 simp only[Ty.cells,List.mem_cons,List.not_mem_nil,or_false]at hv
 rcases hv with h|h|h<;>subst h<;>rfl⟩
theorem elTy:El prog 35 250 3 48:=⟨underlying250,by kernel_rfl,by decide,by decide⟩
theorem UnW.grown {w0 w w':World}{ua:Option Addr}{un uc B2:Nat}{v:Value}{L:List Ty}(h:UnW w0 w ua un uc)(hO:Own Ty.cells 3 35 w B2 v L)(hg:w.grownBy w' v.ownBlock):UnW w0 w' ua un uc:=by
 rcases h with h|⟨us,h,h2⟩
 · exact Or.inl h
 · refine Or.inr ⟨us,⟨h.1.same (fun g hk=>?_),h.2⟩,h2⟩
   rcases h.1.2 with⟨e,-⟩|⟨g2,cap,cur,e,h5,h6,h7⟩
   · rw[e]at hk;cases hk
   · rw[e]at hk
     injection hk with hk
     subst hk
     exact hg.block _ (Array.getElem?_eq_some_iff.1 h6).1 (fun e=>Own.ne_box hO h6 (by decide) e.symm)
theorem infer_any (w0:World)(B:Nat)(hB:B<=100000)(n:Nat):∀ (s_cta:Option Addr) (s_ctn:Nat) (s_ctc:Nat) (s_cfa:Option Addr) (s_cfn:Nat) (s_cfc:Nat) (s_cda:Option Addr) (s_cdn:Nat) (s_cdc:Nat) (s_cqa:Option Addr) (s_cqn:Nat) (s_cqc:Nat) (s_e:ByteArray) (s_tm:ByteArray) (s_te:ByteArray) (s_tfa:Option Addr) (s_tfn:Nat) (s_tfc:Nat) (s_tp:Int) (x:Ex) (w:World),Below w0.heap.size w0 w->ExAt n w0 x->Shaped n w0 x->TbsW w0 B w s_cta s_ctn->FtsW w0 B w s_cfa s_cfn->FdsAt w0 s_tfa s_tfn->Calls prog 204 #[.agg #[.slice s_cta s_ctn s_ctc,.slice s_cfa s_cfn s_cfc,.slice s_cda s_cdn s_cdc,.slice s_cqa s_cqn s_cqc,.string s_e,.string s_tm,.string s_te,.slice s_tfa s_tfn s_tfc,.int .i64 s_tp],x.val] w (Zaz w0 w):=by
 induction n with
 |zero=>exact fun s_cta s_ctn s_ctc s_cfa s_cfn s_cfc s_cda s_cdn s_cdc s_cqa s_cqn s_cqc s_e s_tm s_te s_tfa s_tfn s_tfc s_tp x w _ h=>h.elim
 |succ n ih0 =>
  have ih:=hid ih0
  clear ih0
  intro s_cta s_ctn s_ctc s_cfa s_cfn s_cfc s_cda s_cdn s_cdc s_cqa s_cqn s_cqc s_e s_tm s_te s_tfa s_tfn s_tfc s_tp x w hw0 h hs htb hft hfd
  obtain⟨x_k,x_o,x_m,x_t,x_vk,x_vn,x_vs,x_ua,x_un,x_uc,x_p,x_wk,x_wz,x_xa,x_xn,x_xc⟩:=x
  obtain⟨hu,-,xs,hxn,hxl,hl,hy⟩:=h
  obtain⟨hk,har,xs',hxn',hl',hy'⟩:=hs
  obtain rfl:xs=xs':=lies_same (by rw[<-hxn,<-hxn']) hl hl'
  dsimp only at hxn hl har hk hu
  subst hxn
  have HL0:=hid hl
  have HYS:=hid hy
  have HZS:=hid hy'
  have HXU:=hid hu
  have HK:=hid hk
  have HW0:=hid hw0
  have HTB0:=hid htb
  have HFT0:=hid hft
  have HFD:=hid hfd
  clear hl hl' hy hy' hu hk hw0 htb hft hfd hxn'
  generalize hn:xs.length=xn at *
  have HN:=hid hn
  have HAR0:=hid har
  have HX3:Hid (xn<=3):=by show _<=_;rw[har];unfold arity;repeat(first|split|omega)
  clear hn har
  dsimp only[Ex.val]
  go_enter func204,ntmps204
  go_upto_region 1 with fail
  refine Zam (fun V hV=>?_)
  have B0:Hid (Box V w.heap.size #[.slice s_cta s_ctn s_ctc,.slice s_cfa s_cfn s_cfc,.slice s_cda s_cdn s_cdc,.slice s_cqa s_cqn s_cqc,.string s_e,.string s_tm,.string s_te,.slice s_tfa s_tfn s_tfc,.int .i64 s_tp] 242):=by rw[hV];exact Zdh _ _ _ _ _ _ _
  have B1:Hid (Box V (w.heap.size+1) #[.int .i64 x_k,.string x_o,.string x_m,.string x_t,.int .i64 x_vk,.int .i64 x_vn,.string x_vs,.slice x_ua x_un x_uc,.int .i64 x_p,.int .i64 x_wk,.int .i64 x_wz,.slice x_xa xn x_xc] 42):=by rw[hV];exact Zdg _ _ _ _ _ _ _
  have B2:Hid (Box V (w.heap.size+1+1) #[.int .i64 0,.slice none 0 0,.string ⟨#[]⟩] 35):=by rw[hV];exact Zdf _ _ _ _ _ _ _
  have HBV:Hid (Below w.heap.size w V):=by rw[hV];exact(by repeat first|exact ZR _|refine ZA ?_ _)
  clear hV
  have HW:Hid (Below V.heap.size V V):=ZR V
  have HS:Hid (∀ w',Below V.heap.size V w'->w'.cell? ⟨w.heap.size,0,none⟩=some (.slice s_cta s_ctn s_ctc)/\w'.cell? ⟨w.heap.size,1,none⟩=some (.slice s_cfa s_cfn s_cfc)/\w'.cell? ⟨w.heap.size,2,none⟩=some (.slice s_cda s_cdn s_cdc)/\w'.cell? ⟨w.heap.size,3,none⟩=some (.slice s_cqa s_cqn s_cqc)/\w'.cell? ⟨w.heap.size,4,none⟩=some (.string s_e)/\w'.cell? ⟨w.heap.size,5,none⟩=some (.string s_tm)/\w'.cell? ⟨w.heap.size,6,none⟩=some (.string s_te)/\w'.cell? ⟨w.heap.size,7,none⟩=some (.slice s_tfa s_tfn s_tfc)/\w'.cell? ⟨w.heap.size,8,none⟩=some (.int .i64 s_tp)/\w'.cell? ⟨w.heap.size+1,0,none⟩=some (.int .i64 x_k)/\w'.cell? ⟨w.heap.size+1,1,none⟩=some (.string x_o)/\w'.cell? ⟨w.heap.size+1,2,none⟩=some (.string x_m)/\w'.cell? ⟨w.heap.size+1,3,none⟩=some (.string x_t)/\w'.cell? ⟨w.heap.size+1,4,none⟩=some (.int .i64 x_vk)/\w'.cell? ⟨w.heap.size+1,5,none⟩=some (.int .i64 x_vn)/\w'.cell? ⟨w.heap.size+1,6,none⟩=some (.string x_vs)/\w'.cell? ⟨w.heap.size+1,7,none⟩=some (.slice x_ua x_un x_uc)/\w'.cell? ⟨w.heap.size+1,8,none⟩=some (.int .i64 x_p)/\w'.cell? ⟨w.heap.size+1,9,none⟩=some (.int .i64 x_wk)/\w'.cell? ⟨w.heap.size+1,10,none⟩=some (.int .i64 x_wz)/\w'.cell? ⟨w.heap.size+1,11,none⟩=some (.slice x_xa xn x_xc)):=fun w' h=>⟨(B0.out.kept h).cell 0 _ rfl,(B0.out.kept h).cell 1 _ rfl,(B0.out.kept h).cell 2 _ rfl,(B0.out.kept h).cell 3 _ rfl,(B0.out.kept h).cell 4 _ rfl,(B0.out.kept h).cell 5 _ rfl,(B0.out.kept h).cell 6 _ rfl,(B0.out.kept h).cell 7 _ rfl,(B0.out.kept h).cell 8 _ rfl,(B1.out.kept h).cell 0 _ rfl,(B1.out.kept h).cell 1 _ rfl,(B1.out.kept h).cell 2 _ rfl,(B1.out.kept h).cell 3 _ rfl,(B1.out.kept h).cell 4 _ rfl,(B1.out.kept h).cell 5 _ rfl,(B1.out.kept h).cell 6 _ rfl,(B1.out.kept h).cell 7 _ rfl,(B1.out.kept h).cell 8 _ rfl,(B1.out.kept h).cell 9 _ rfl,(B1.out.kept h).cell 10 _ rfl,(B1.out.kept h).cell 11 _ rfl⟩
  obtain⟨k0_0,k0_1,k0_2,k0_3,k0_4,k0_5,k0_6,k0_7,k0_8,k1_0,k1_1,k1_2,k1_3,k1_4,k1_5,k1_6,k1_7,k1_8,k1_9,k1_10,k1_11⟩:=HS.out V (ZR V)
  have HWV:Hid (Below w0.heap.size w0 V):=HW0.out.trans (HBV.out.mono HW0.out.size)
  have HTB:Hid (TbsW w0 B V s_cta s_ctn):=HTB0.out.kept HBV.out
  have HFT:Hid (FtsW w0 B V s_cfa s_cfn):=HFT0.out.kept HBV.out
  clear HTB0 HFT0
  go_upto_region 2 with(first|((with_reducible refine Zbf 242 ?_);refine Zbl rfl rfl 242 _ _ rfl rfl rfl _ rfl rfl (by kernel_rfl) (by rfl) V (by repeat first|exact ZR _|exact ZH (by assumption)|refine ZA ?_ _|refine ZD ?_|refine ZN ?_ _) ?_;intro w6 hbx hbe hbl;have HB6:=hid hbx;have HW6:Hid (Below V.heap.size V w6):=hbe;clear hbx hbe hbl;have KK:=HS.out _ HW6.out;obtain⟨k0_0,k0_1,k0_2,k0_3,k0_4,k0_5,k0_6,k0_7,k0_8,k1_0,k1_1,k1_2,k1_3,k1_4,k1_5,k1_6,k1_7,k1_8,k1_9,k1_10,k1_11⟩:=KK)|fail)
  go_upto_if 16 with fail
  go_cut [6] (fun v wx=>v=.pointer (some ⟨V.heap.size,0,none⟩)/\∃ (ie:ByteArray) (it:Tb),Hid (Box wx V.heap.size #[.slice s_cta s_ctn s_ctc,.slice s_cfa s_cfn s_cfc,.slice s_cda s_cdn s_cdc,.slice s_cqa s_cqn s_cqc,.string ie,.string it.m,.string it.e,.slice it.fa it.fn it.fc,.int .i64 it.p] 242)/\Hid (FdsAt w0 it.fa it.fn)/\Hid (Below V.heap.size V wx))
  case first =>
   obtain⟨q5,e5⟩:∃ q,(x_k==5)=q:=⟨_,rfl⟩
   cases q5
   · go_wp2_with fail
     go_meet
     case rel=>exact⟨rfl,s_e,⟨s_tm,s_te,s_tfa,s_tfn,s_tfc,s_tp⟩,HB6,HFD,HW6⟩
   · go_wp2_with (first|(go_at_call 214;refine(within_any _ _ _ _ _ _ _ _ _ _ _ _ _ _ _ _ _ _ _ _ _ w0 (HWV.out.trans (Below.mono (by repeat first|exact ZR _|exact ZH (by assumption)|refine ZA ?_ _|refine ZD ?_|refine ZN ?_ _) HWV.out.size)) B hB (HTB.out.kept (by repeat first|exact ZR _|exact ZH (by assumption)|refine ZA ?_ _|refine ZD ?_|refine ZN ?_ _))).mono ?_;rintro e w7 (⟨k7,hk7,rfl,hb⟩|⟨t7,rfl,hf7,hb⟩)<;>(have HX7:Hid (Below w6.heap.size w6 w7):=hb;have HW7:Hid (Below V.heap.size V w7):=ZT HW6.out hb;clear hb;have KK:=HS.out _ HW7.out;obtain⟨k0_0,k0_1,k0_2,k0_3,k0_4,k0_5,k0_6,k0_7,k0_8,k1_0,k1_1,k1_2,k1_3,k1_4,k1_5,k1_6,k1_7,k1_8,k1_9,k1_10,k1_11⟩:=KK))|((with_reducible refine Zbf 242 ?_);refine Zbl rfl rfl 242 _ _ rfl rfl rfl _ rfl rfl (by kernel_rfl) (by rfl) w6 (by repeat first|exact ZR _|exact ZH (by assumption)|refine ZA ?_ _|refine ZD ?_|refine ZN ?_ _) ?_;intro w8 hbx hbe hbl;have HB7:=hid hbx;have HX8:Hid (Below w6.heap.size w6 w8):=hbe;have HW8:Hid (Below V.heap.size V w8):=ZT HW6.out hbe;clear hbx hbe hbl)|((with_reducible refine Zaq 242 ?_);refine Zaj rfl 242 _ rfl w7.heap.size _ 242 rfl HB7.out _ underlying242 rfl (by kernel_rfl) ?_;intro v hv;obtain rfl:=hv.out)|((with_reducible refine Zal 242 ?_);refine Zai rfl _ _ _ rfl rfl V.heap.size 242 _ _ rfl rfl (HB6.out.kept HX8.out) (by kernel_rfl) (by rfl) (by rfl) V HW8.out (Nat.le_refl _) ?_;intro w9 hby hyb hot;have HB9:=hid hby;have HW9:Hid (Below V.heap.size V w9):=hyb;clear hby hyb hot)|((with_reducible refine Zaw 35 ?_);refine Zah rfl 35 #[] rfl _ (fun w=>ZaV w) ?_;intro v hv)|((with_reducible refine Zal 35 ?_);refine Zai rfl _ _ _ rfl rfl (w.heap.size+1+1) 35 _ _ rfl (by first|exact(by assumption:Hid (_=_)).out|rfl) (B2.out.kept (by repeat first|exact ZR _|exact ZH (by assumption)|refine ZA ?_ _|refine ZD ?_|refine ZN ?_ _)) (by kernel_rfl) (by rfl) (by rfl) w (ZT HBV.out (by repeat first|exact ZR _|exact ZH (by assumption)|refine ZA ?_ _|refine ZD ?_|refine ZN ?_ _)) (by omega) ?_;intro w9 hby hyb hot;have HR:=hid hby;have HRB:=hid hyb;have HOT:=hid hot;clear hby hyb hot)|fail)
     all_goals first
      |((try simp only[Exit.inBlock,Exit.then]);refine bodyPost_ret (Zad rfl rfl HR.out underlying35 rfl (by kernel_rfl)) rfl ?_;exact Zaz.zero _ HRB.out)
      |(go_meet;(case rel=>exact⟨rfl,⟨#[]⟩,t7,HB9,hf7,HW9⟩))
  case rest =>
   clear HB6 HW6
   obtain⟨rfl,ie,it,HB9,HFI,HW9⟩:=hcut
   rename World=>w9
   go_wp2_with fail
   go_loopw [9,10] (fun v jj wr=>∃ (i:Nat) (ts:List Ty) (v0:Value),v0=v/\i<=xn/\jj=.int .i64 i/\Hid (Own Ty.cells 3 35 wr w9.heap.size v ts)/\ts.length=i/\Hid (∀ t∈ts,UnW w0 wr t.ua t.un t.uc)/\Hid (Below w9.heap.size w9 wr)) (fun _ jj _=>xn - (intOf jj).toNat)
   case atStart=>exact⟨0,[],_,rfl,by omega,rfl,Own.nil _ _,rfl,(fun t ht=>by cases ht),ZR w9⟩
   case round =>
    obtain⟨i,ts,v0,rfl,hi,rfl,HO,htl,HU,HRQ⟩:=hrel
    rename World=>wr
    have HR:Hid (Below V.heap.size V wr):=ZT HW9.out HRQ.out
    have KK:=HS.out _ HR.out
    obtain⟨k0_0,k0_1,k0_2,k0_3,k0_4,k0_5,k0_6,k0_7,k0_8,k1_0,k1_1,k1_2,k1_3,k1_4,k1_5,k1_6,k1_7,k1_8,k1_9,k1_10,k1_11⟩:=KK
    by_cases hlt:i<xn
    · obtain⟨y,hy⟩:∃ y,xs[i]?=some y:=⟨xs[i]'(by have:=HN.out;omega),List.getElem?_eq_getElem _⟩
      obtain⟨b1,o1,rfl,hr1⟩:=(HL0.out.kept (HWV.out.trans (Below.mono HR.out HWV.out.size))).some (by have:=HN.out;omega)
      have HXC:Hid (∀ w',Below wr.heap.size wr w'->∀ j v,(Ex.cells y)[j]?=some v->w'.cell? ⟨b1,o1+i*12+j,none⟩=some v):=fun w' hb j v hj=>Zaa (hr1 i y hy j v hj) hb
      have HY1:=hid (HYS.out y (List.mem_of_getElem? hy))
      have HY2:=hid (HZS.out y (List.mem_of_getElem? hy))
      have HBr:=hid (HB9.out.kept HRQ.out)
      have HB6c:Hid (∀ w',Below wr.heap.size wr w'->w'.cell? ⟨V.heap.size,0,none⟩=some (.slice s_cta s_ctn s_ctc)/\w'.cell? ⟨V.heap.size,1,none⟩=some (.slice s_cfa s_cfn s_cfc)/\w'.cell? ⟨V.heap.size,2,none⟩=some (.slice s_cda s_cdn s_cdc)/\w'.cell? ⟨V.heap.size,3,none⟩=some (.slice s_cqa s_cqn s_cqc)/\w'.cell? ⟨V.heap.size,4,none⟩=some (.string ie)/\w'.cell? ⟨V.heap.size,5,none⟩=some (.string it.m)/\w'.cell? ⟨V.heap.size,6,none⟩=some (.string it.e)/\w'.cell? ⟨V.heap.size,7,none⟩=some (.slice it.fa it.fn it.fc)/\w'.cell? ⟨V.heap.size,8,none⟩=some (.int .i64 it.p)):=fun w' h=>⟨(HBr.out.kept h).cell 0 _ rfl,(HBr.out.kept h).cell 1 _ rfl,(HBr.out.kept h).cell 2 _ rfl,(HBr.out.kept h).cell 3 _ rfl,(HBr.out.kept h).cell 4 _ rfl,(HBr.out.kept h).cell 5 _ rfl,(HBr.out.kept h).cell 6 _ rfl,(HBr.out.kept h).cell 7 _ rfl,(HBr.out.kept h).cell 8 _ rfl⟩
      clear hr1 hy
      go_upto_region 11 with fail
      refine ZaI (S:=fun w'=>Below wr.heap.size wr w') (.free 0 (.free 1 (.free 2 (.free 3 (.free 4 (.free 5 (.two 6 (.free 7 (.free 8 (.free 9 (.one 10 (.one 11 (.free 12 .done)))))) 10 (.one 6 (.free 7 (.free 8 (.free 9 (.one 11 (.free 12 .done))))))))))))) (by kernel_rfl) (by kernel_rfl) (fun _ _ _ _ _ h=>h) (by kernel_rfl) (by kernel_rfl) (ZD (ZR wr)) ?_
      refine Zac _ (.agg #[.slice s_cta s_ctn s_ctc,.slice s_cfa s_cfn s_cfc,.slice s_cda s_cdn s_cdc,.slice s_cqa s_cqn s_cqc,.string ie,.string it.m,.string it.e,.slice it.fa it.fn it.fc,.int .i64 it.p]) rfl (by rfl) (by intro wq hSw;have KQ:=HS.out wq (ZT HR.out hSw);obtain⟨k0_0,k0_1,k0_2,k0_3,k0_4,k0_5,k0_6,k0_7,k0_8,k1_0,k1_1,k1_2,k1_3,k1_4,k1_5,k1_6,k1_7,k1_8,k1_9,k1_10,k1_11⟩:=KQ;have LQ:=HB6c.out wq hSw;obtain⟨i0,i1,i2,i3,i4,i5,i6,i7,i8⟩:=LQ;go_simp) ?_
      try simp only[Act.put,m1,m2,m3]
      refine Zac _ (.pointer (some ⟨w.heap.size+1,11,none⟩)) rfl (by rfl) (by intro wq hSw;have KQ:=HS.out wq (ZT HR.out hSw);obtain⟨k0_0,k0_1,k0_2,k0_3,k0_4,k0_5,k0_6,k0_7,k0_8,k1_0,k1_1,k1_2,k1_3,k1_4,k1_5,k1_6,k1_7,k1_8,k1_9,k1_10,k1_11⟩:=KQ;have LQ:=HB6c.out wq hSw;obtain⟨i0,i1,i2,i3,i4,i5,i6,i7,i8⟩:=LQ;go_simp) ?_
      try simp only[Act.put,m1,m2,m3]
      refine Zac _ (.slice (some ⟨b1,o1,none⟩) xn x_xc) rfl (by rfl) (by intro wq hSw;have KQ:=HS.out wq (ZT HR.out hSw);obtain⟨k0_0,k0_1,k0_2,k0_3,k0_4,k0_5,k0_6,k0_7,k0_8,k1_0,k1_1,k1_2,k1_3,k1_4,k1_5,k1_6,k1_7,k1_8,k1_9,k1_10,k1_11⟩:=KQ;have LQ:=HB6c.out wq hSw;obtain⟨i0,i1,i2,i3,i4,i5,i6,i7,i8⟩:=LQ;go_simp) ?_
      try simp only[Act.put,m1,m2,m3]
      refine Zac _ (.int .i64 i) rfl (by rfl) (by intro wq hSw;have KQ:=HS.out wq (ZT HR.out hSw);obtain⟨k0_0,k0_1,k0_2,k0_3,k0_4,k0_5,k0_6,k0_7,k0_8,k1_0,k1_1,k1_2,k1_3,k1_4,k1_5,k1_6,k1_7,k1_8,k1_9,k1_10,k1_11⟩:=KQ;have LQ:=HB6c.out wq hSw;obtain⟨i0,i1,i2,i3,i4,i5,i6,i7,i8⟩:=LQ;go_simp) ?_
      try simp only[Act.put,m1,m2,m3]
      refine Zac _ (.pointer (some ⟨b1,o1+i*12,none⟩)) rfl (by rfl) (by intro wq hSw;have KQ:=HS.out wq (ZT HR.out hSw);obtain⟨k0_0,k0_1,k0_2,k0_3,k0_4,k0_5,k0_6,k0_7,k0_8,k1_0,k1_1,k1_2,k1_3,k1_4,k1_5,k1_6,k1_7,k1_8,k1_9,k1_10,k1_11⟩:=KQ;have LQ:=HB6c.out wq hSw;obtain⟨i0,i1,i2,i3,i4,i5,i6,i7,i8⟩:=LQ;go_simp) ?_
      try simp only[Act.put,m1,m2,m3]
      refine ZbV _ rfl (by rfl) 42 _ rfl b1 (o1+i*12) (Ex.cells y) rfl (fun w hS=>HXC.out w hS) _ underlying42 rfl (by kernel_rfl) ?_
      intro v5 hv5
      subst hv5
      try simp only[Act.put,m1,m2,m3]
      refine tr_two ?_ ?_
      · skip
        refine ZaN _ rfl (by rfl) (fun K hK=>?_)
        go_wp2_with (go_at_call 204;refine(ih.out _ _ _ _ _ _ _ _ _ _ _ _ _ _ _ _ _ _ _ y _ (HWV.out.trans (Below.mono (ZT HR.out (by repeat first|exact ZR _|exact ZH (by assumption)|refine ZA ?_ _|refine ZD ?_|refine ZN ?_ _)) HWV.out.size)) HY1.out HY2.out (HTB.out.kept (ZT HR.out (by repeat first|exact ZR _|exact ZH (by assumption)|refine ZA ?_ _|refine ZD ?_|refine ZN ?_ _))) (HFT.out.kept (ZT HR.out (by repeat first|exact ZR _|exact ZH (by assumption)|refine ZA ?_ _|refine ZD ?_|refine ZN ?_ _))) HFI.out).mono ?_;rintro e w5 ⟨t5,k5,rfl,hv5,hb⟩;have HV5:=hid hv5;have HW5:Hid (Below wr.heap.size wr w5):=ZT (by repeat first|exact ZR _|exact ZH (by assumption)|refine ZA ?_ _|refine ZD ?_|refine ZN ?_ _) hb;clear hv5 hb)
        refine hK.out _ _ HW5.out (fun hHeld=>?_)
        clear hK K
        try simp only[Act.put,m1,m2,m3]
        refine Zac _ (.tuple #[.agg #[.int .i64 t5.k,.slice t5.ua t5.un t5.uc,.string t5.o],.int .i64 k5]) rfl (by rfl) (by intro wq hSw;have KQ:=HS.out wq (ZT HR.out hSw);obtain⟨k0_0,k0_1,k0_2,k0_3,k0_4,k0_5,k0_6,k0_7,k0_8,k1_0,k1_1,k1_2,k1_3,k1_4,k1_5,k1_6,k1_7,k1_8,k1_9,k1_10,k1_11⟩:=KQ;have LQ:=HB6c.out wq hSw;obtain⟨i0,i1,i2,i3,i4,i5,i6,i7,i8⟩:=LQ;go_simp) ?_
        try simp only[Act.put,m1,m2,m3]
        refine Zac _ (.agg #[.int .i64 t5.k,.slice t5.ua t5.un t5.uc,.string t5.o]) rfl (by rfl) (by intro wq hSw;have KQ:=HS.out wq (ZT HR.out hSw);obtain⟨k0_0,k0_1,k0_2,k0_3,k0_4,k0_5,k0_6,k0_7,k0_8,k1_0,k1_1,k1_2,k1_3,k1_4,k1_5,k1_6,k1_7,k1_8,k1_9,k1_10,k1_11⟩:=KQ;have LQ:=HB6c.out wq hSw;obtain⟨i0,i1,i2,i3,i4,i5,i6,i7,i8⟩:=LQ;go_simp) ?_
        try simp only[Act.put,m1,m2,m3]
        refine Zac _ (.int .i64 k5) rfl (by rfl) (by intro wq hSw;have KQ:=HS.out wq (ZT HR.out hSw);obtain⟨k0_0,k0_1,k0_2,k0_3,k0_4,k0_5,k0_6,k0_7,k0_8,k1_0,k1_1,k1_2,k1_3,k1_4,k1_5,k1_6,k1_7,k1_8,k1_9,k1_10,k1_11⟩:=KQ;have LQ:=HB6c.out wq hSw;obtain⟨i0,i1,i2,i3,i4,i5,i6,i7,i8⟩:=LQ;go_simp) ?_
        try simp only[Act.put,m1,m2,m3]
        refine ZaN _ rfl (by rfl) (fun K hK=>?_)
        refine op_newV 35 rfl [.int .i64 0,.slice none 0 0,.string ⟨#[]⟩] (by kernel_rfl) ?_
        intro wA hnb hbe
        have HN:=hid hnb
        have HV6:=hid (HV5.out.kept hbe)
        have HWA:Hid (Below wr.heap.size wr wA):=ZT (by repeat first|exact ZR _|exact ZH (by assumption)|refine ZA ?_ _|refine ZD ?_|refine ZN ?_ _) hbe
        refine hK.out _ _ HWA.out (fun hHeld=>?_)
        clear hK K hnb hbe
        try simp only[Act.put,m1,m2,m3]
        refine ZaN _ rfl (by rfl) (fun K hK=>?_)
        have HN2:=HN
        refine Zd7 35 _ _ rfl rfl _ 35 _ (Ty.cells t5) rfl rfl HN2.out (by kernel_rfl) (by rfl) (by rfl) wr (by repeat first|exact ZR _|exact ZH (by assumption)|refine ZA ?_ _|refine ZD ?_|refine ZN ?_ _) (by first|exact HW5.out.size|exact Nat.le_refl _) ?_
        intro w10 hb10 hbe10 hot
        have HB10:=hid hb10
        have HV10:=hid (UnW.putq (w0:=w0) hot HN2.out (by decide) _ _ _ HV6.out)
        have HW10:Hid (Below wr.heap.size wr w10):=hbe10
        refine hK.out _ _ HW10.out (fun hHeld=>?_)
        clear hK K hb10 hbe10 hot
        try simp only[Act.put,m1,m2,m3]
        refine Zac _ (.int .i64 k5) rfl (by rfl) (by intro wq hSw;have KQ:=HS.out wq (ZT HR.out hSw);obtain⟨k0_0,k0_1,k0_2,k0_3,k0_4,k0_5,k0_6,k0_7,k0_8,k1_0,k1_1,k1_2,k1_3,k1_4,k1_5,k1_6,k1_7,k1_8,k1_9,k1_10,k1_11⟩:=KQ;have LQ:=HB6c.out wq hSw;obtain⟨i0,i1,i2,i3,i4,i5,i6,i7,i8⟩:=LQ;go_simp) ?_
        try simp only[Act.put,m1,m2,m3]
        refine Zbb ?_
        have c0:=HB10.out.cell 0 (.int .i64 t5.k) rfl
        have c1:=HB10.out.cell 1 (.slice t5.ua t5.un t5.uc) rfl
        have c2:=HB10.out.cell 2 (.string t5.o) rfl
        have HR10:Hid (Below V.heap.size V w10):=ZT HR.out HW10.out
        have HQ10:Hid (Below w9.heap.size w9 w10):=ZT HRQ.out HW10.out
        have HOK:=hid (HO.out.kept HW10.out)
        have HL:Hid (ts.length+[t5].length<=1000000000):=by show _<=_;have:=HX3.out;simp;omega
        go_wp2_with (first|(at_builtin;refine Zb7 elTy encTy rfl (.tmp 50) (.tmp 52) rfl rfl rfl (HOK.out.kept (Zab _)) (ZaG t5 _ encTy) rfl (fun e=>by cases e) (Nat.le_trans HQ10.out.size (Zab _).size) HL.out ?_;intro v3 w3 ho hg hv;have HO3:=hid ho;have HG3:=hid hg;have HQ3:Hid (Below w9.heap.size w9 w3):=(HQ10.out.alloc HQ10.out.size _).grown hg (Nat.le_trans HQ10.out.size (Zab _).size) (fun k e=>(Own.lt HOK.out k e).1);clear ho hg hv)|((with_reducible refine Zaw 35 ?_);refine Zah rfl 35 #[] rfl _ (fun w=>ZaV w) ?_;intro v hv)|((with_reducible refine Zal 35 ?_);refine Zai rfl _ _ _ rfl rfl (w.heap.size+1+1) 35 _ _ rfl (by first|exact(by assumption:Hid (_=_)).out|rfl) (B2.out.kept (by repeat first|exact ZR _|exact ZH (by assumption)|refine ZA ?_ _|refine ZD ?_|refine ZN ?_ _)) (by kernel_rfl) (by rfl) (by rfl) w (ZT HBV.out (by repeat first|exact ZR _|exact ZH (by assumption)|refine ZA ?_ _|refine ZD ?_|refine ZN ?_ _)) (by omega) ?_;intro w9 hby hyb hot;have HR:=hid hby;have HRB:=hid hyb;have HOT:=hid hot;clear hby hyb hot;have HUQ:=hid (UnW.putq (w0:=w0) HOT.out (B2.out.kept (by repeat first|exact ZR _|exact ZH (by assumption)|refine ZA ?_ _|refine ZD ?_|refine ZN ?_ _)) (by decide));have HUP:Hid (∀ ua un uc,UnW w0 V ua un uc->UnW w0 w9 ua un uc):=fun _ _ _ hu=>HUQ.out _ _ _ (hu.kept (by repeat first|exact ZR _|exact ZH (by assumption)|refine ZA ?_ _|refine ZD ?_|refine ZN ?_ _)))|fail)
        all_goals first
         |((try simp only[Exit.inBlock,Exit.then]);refine bodyPost_ret (Zad rfl rfl HR.out underlying35 rfl (by kernel_rfl)) rfl ?_;exact Zaz.zero _ HRB.out)
         |skip
        go_roundw
        case rel =>
         refine⟨i+1,ts++[t5],_,rfl,by omega,by go_num,HO3.out,by simp;omega,(fun t ht=>?_),HQ3.out⟩
         rcases List.mem_append.1 ht with ht|ht
         · exact(((HU.out t ht).kept HW10.out).kept (Zab _)).grown (HOK.out.kept (Zab _)) HG3.out
         · simp at ht
           subst ht
           exact(HV10.out.kept (Zab _)).grown (HOK.out.kept (Zab _)) HG3.out
        case measure=>simp[intOf];omega
      · skip
        refine ZaN _ rfl (by rfl) (fun K hK=>?_)
        refine op_newV 35 rfl [.int .i64 0,.slice none 0 0,.string ⟨#[]⟩] (by kernel_rfl) ?_
        intro wA hnb hbe
        have HN:=hid hnb
        have HWA:Hid (Below wr.heap.size wr wA):=ZT (by repeat first|exact ZR _|exact ZH (by assumption)|refine ZA ?_ _|refine ZD ?_|refine ZN ?_ _) hbe
        refine hK.out _ _ HWA.out (fun hHeld=>?_)
        clear hK K hnb hbe
        try simp only[Act.put,m1,m2,m3]
        refine ZaN _ rfl (by rfl) (fun K hK=>?_)
        go_wp2_with (go_at_call 204;refine(ih.out _ _ _ _ _ _ _ _ _ _ _ _ _ _ _ _ _ _ _ y _ (HWV.out.trans (Below.mono (ZT HR.out (by repeat first|exact ZR _|exact ZH (by assumption)|refine ZA ?_ _|refine ZD ?_|refine ZN ?_ _)) HWV.out.size)) HY1.out HY2.out (HTB.out.kept (ZT HR.out (by repeat first|exact ZR _|exact ZH (by assumption)|refine ZA ?_ _|refine ZD ?_|refine ZN ?_ _))) (HFT.out.kept (ZT HR.out (by repeat first|exact ZR _|exact ZH (by assumption)|refine ZA ?_ _|refine ZD ?_|refine ZN ?_ _))) HFI.out).mono ?_;rintro e w5 ⟨t5,k5,rfl,hv5,hb⟩;have HV5:=hid hv5;have HW5:Hid (Below wr.heap.size wr w5):=ZT (by repeat first|exact ZR _|exact ZH (by assumption)|refine ZA ?_ _|refine ZD ?_|refine ZN ?_ _) hb;have hKB:=hid hb;clear hv5 hb)
        refine hK.out _ _ HW5.out (fun hHeld=>?_)
        clear hK K
        try simp only[Act.put,m1,m2,m3]
        refine Zac _ (.tuple #[.agg #[.int .i64 t5.k,.slice t5.ua t5.un t5.uc,.string t5.o],.int .i64 k5]) rfl (by rfl) (by intro wq hSw;have KQ:=HS.out wq (ZT HR.out hSw);obtain⟨k0_0,k0_1,k0_2,k0_3,k0_4,k0_5,k0_6,k0_7,k0_8,k1_0,k1_1,k1_2,k1_3,k1_4,k1_5,k1_6,k1_7,k1_8,k1_9,k1_10,k1_11⟩:=KQ;have LQ:=HB6c.out wq hSw;obtain⟨i0,i1,i2,i3,i4,i5,i6,i7,i8⟩:=LQ;go_simp) ?_
        try simp only[Act.put,m1,m2,m3]
        refine Zac _ (.agg #[.int .i64 t5.k,.slice t5.ua t5.un t5.uc,.string t5.o]) rfl (by rfl) (by intro wq hSw;have KQ:=HS.out wq (ZT HR.out hSw);obtain⟨k0_0,k0_1,k0_2,k0_3,k0_4,k0_5,k0_6,k0_7,k0_8,k1_0,k1_1,k1_2,k1_3,k1_4,k1_5,k1_6,k1_7,k1_8,k1_9,k1_10,k1_11⟩:=KQ;have LQ:=HB6c.out wq hSw;obtain⟨i0,i1,i2,i3,i4,i5,i6,i7,i8⟩:=LQ;go_simp) ?_
        try simp only[Act.put,m1,m2,m3]
        refine Zac _ (.int .i64 k5) rfl (by rfl) (by intro wq hSw;have KQ:=HS.out wq (ZT HR.out hSw);obtain⟨k0_0,k0_1,k0_2,k0_3,k0_4,k0_5,k0_6,k0_7,k0_8,k1_0,k1_1,k1_2,k1_3,k1_4,k1_5,k1_6,k1_7,k1_8,k1_9,k1_10,k1_11⟩:=KQ;have LQ:=HB6c.out wq hSw;obtain⟨i0,i1,i2,i3,i4,i5,i6,i7,i8⟩:=LQ;go_simp) ?_
        try simp only[Act.put,m1,m2,m3]
        refine ZaN _ rfl (by rfl) (fun K hK=>?_)
        have HN2:=hid (HN.out.kept hKB.out)
        have HV6:=HV5
        refine Zd7 35 _ _ rfl rfl _ 35 _ (Ty.cells t5) rfl rfl HN2.out (by kernel_rfl) (by rfl) (by rfl) wr (by repeat first|exact ZR _|exact ZH (by assumption)|refine ZA ?_ _|refine ZD ?_|refine ZN ?_ _) (by first|exact HW5.out.size|exact Nat.le_refl _) ?_
        intro w10 hb10 hbe10 hot
        have HB10:=hid hb10
        have HV10:=hid (UnW.putq (w0:=w0) hot HN2.out (by decide) _ _ _ HV6.out)
        have HW10:Hid (Below wr.heap.size wr w10):=hbe10
        refine hK.out _ _ HW10.out (fun hHeld=>?_)
        clear hK K hb10 hbe10 hot
        try simp only[Act.put,m1,m2,m3]
        refine Zac _ (.int .i64 k5) rfl (by rfl) (by intro wq hSw;have KQ:=HS.out wq (ZT HR.out hSw);obtain⟨k0_0,k0_1,k0_2,k0_3,k0_4,k0_5,k0_6,k0_7,k0_8,k1_0,k1_1,k1_2,k1_3,k1_4,k1_5,k1_6,k1_7,k1_8,k1_9,k1_10,k1_11⟩:=KQ;have LQ:=HB6c.out wq hSw;obtain⟨i0,i1,i2,i3,i4,i5,i6,i7,i8⟩:=LQ;go_simp) ?_
        try simp only[Act.put,m1,m2,m3]
        refine Zbb ?_
        have c0:=HB10.out.cell 0 (.int .i64 t5.k) rfl
        have c1:=HB10.out.cell 1 (.slice t5.ua t5.un t5.uc) rfl
        have c2:=HB10.out.cell 2 (.string t5.o) rfl
        have HR10:Hid (Below V.heap.size V w10):=ZT HR.out HW10.out
        have HQ10:Hid (Below w9.heap.size w9 w10):=ZT HRQ.out HW10.out
        have HOK:=hid (HO.out.kept HW10.out)
        have HL:Hid (ts.length+[t5].length<=1000000000):=by show _<=_;have:=HX3.out;simp;omega
        go_wp2_with (first|(at_builtin;refine Zb7 elTy encTy rfl (.tmp 50) (.tmp 52) rfl rfl rfl (HOK.out.kept (Zab _)) (ZaG t5 _ encTy) rfl (fun e=>by cases e) (Nat.le_trans HQ10.out.size (Zab _).size) HL.out ?_;intro v3 w3 ho hg hv;have HO3:=hid ho;have HG3:=hid hg;have HQ3:Hid (Below w9.heap.size w9 w3):=(HQ10.out.alloc HQ10.out.size _).grown hg (Nat.le_trans HQ10.out.size (Zab _).size) (fun k e=>(Own.lt HOK.out k e).1);clear ho hg hv)|((with_reducible refine Zaw 35 ?_);refine Zah rfl 35 #[] rfl _ (fun w=>ZaV w) ?_;intro v hv)|((with_reducible refine Zal 35 ?_);refine Zai rfl _ _ _ rfl rfl (w.heap.size+1+1) 35 _ _ rfl (by first|exact(by assumption:Hid (_=_)).out|rfl) (B2.out.kept (by repeat first|exact ZR _|exact ZH (by assumption)|refine ZA ?_ _|refine ZD ?_|refine ZN ?_ _)) (by kernel_rfl) (by rfl) (by rfl) w (ZT HBV.out (by repeat first|exact ZR _|exact ZH (by assumption)|refine ZA ?_ _|refine ZD ?_|refine ZN ?_ _)) (by omega) ?_;intro w9 hby hyb hot;have HR:=hid hby;have HRB:=hid hyb;have HOT:=hid hot;clear hby hyb hot;have HUQ:=hid (UnW.putq (w0:=w0) HOT.out (B2.out.kept (by repeat first|exact ZR _|exact ZH (by assumption)|refine ZA ?_ _|refine ZD ?_|refine ZN ?_ _)) (by decide));have HUP:Hid (∀ ua un uc,UnW w0 V ua un uc->UnW w0 w9 ua un uc):=fun _ _ _ hu=>HUQ.out _ _ _ (hu.kept (by repeat first|exact ZR _|exact ZH (by assumption)|refine ZA ?_ _|refine ZD ?_|refine ZN ?_ _)))|fail)
        all_goals first
         |((try simp only[Exit.inBlock,Exit.then]);refine bodyPost_ret (Zad rfl rfl HR.out underlying35 rfl (by kernel_rfl)) rfl ?_;exact Zaz.zero _ HRB.out)
         |skip
        go_roundw
        case rel =>
         refine⟨i+1,ts++[t5],_,rfl,by omega,by go_num,HO3.out,by simp;omega,(fun t ht=>?_),HQ3.out⟩
         rcases List.mem_append.1 ht with ht|ht
         · exact(((HU.out t ht).kept HW10.out).kept (Zab _)).grown (HOK.out.kept (Zab _)) HG3.out
         · simp at ht
           subst ht
           exact(HV10.out.kept (Zab _)).grown (HOK.out.kept (Zab _)) HG3.out
        case measure=>simp[intOf];omega
    · obtain⟨a9,c9,rfl,-,-,hl9⟩:=HO.out.lies encTy
      have HTY:Hid (TysW w0 wr a9 ts.length):=⟨ts,rfl,hl9,HU.out⟩
      have HAR:Hid (ts.length=arity x_k):=by show _=_;have:=HAR0.out;omega
      clear hl9 HO HU HB9 HL0 HYS HZS HTB htl hi
      generalize ts.length=ln at *
      go_wp2_with (first|(go_at_call 215;refine(operation_any _ _ _ _ _ _ _ _ _ _ _ _ _ _ _ _ _ _ _ _ _ _ _ _ _ _ _ _ _ _ _ _ _ _ _ _ _ _ _ w0 (HWV.out.trans (Below.mono (ZT HR.out (by repeat first|exact ZR _|exact ZH (by assumption)|refine ZA ?_ _|refine ZD ?_|refine ZN ?_ _)) HWV.out.size)) B hB (HFT.out.kept (ZT HR.out (by repeat first|exact ZR _|exact ZH (by assumption)|refine ZA ?_ _|refine ZD ?_|refine ZN ?_ _))) HFD.out HXU.out HTY.out HK.out HAR.out).mono ?_;rintro e w5 ⟨t5,k5,rfl,hv5,hb⟩;have HV5:=hid hv5;have HW5:Hid (Below V.heap.size V w5):=ZT HR.out (ZT (ZR _) hb);clear hv5 hb)|((with_reducible refine Zal 35 ?_);refine Zai rfl _ _ _ rfl rfl (w.heap.size+1+1) 35 _ _ rfl (by first|exact(by assumption:Hid (_=_)).out|rfl) (B2.out.kept (by repeat first|exact ZR _|exact ZH (by assumption)|refine ZA ?_ _|refine ZD ?_|refine ZN ?_ _)) (by kernel_rfl) (by rfl) (by rfl) w (ZT HBV.out (by repeat first|exact ZR _|exact ZH (by assumption)|refine ZA ?_ _|refine ZD ?_|refine ZN ?_ _)) (by omega) ?_;intro w9 hby hyb hot;have HR:=hid hby;have HRB:=hid hyb;have HOT:=hid hot;clear hby hyb hot;have HUQ:=hid (UnW.putq (w0:=w0) HOT.out (B2.out.kept (by repeat first|exact ZR _|exact ZH (by assumption)|refine ZA ?_ _|refine ZD ?_|refine ZN ?_ _)) (by decide));have HUP:Hid (∀ ua un uc,UnW w0 V ua un uc->UnW w0 w9 ua un uc):=fun _ _ _ hu=>HUQ.out _ _ _ (hu.kept (by repeat first|exact ZR _|exact ZH (by assumption)|refine ZA ?_ _|refine ZD ?_|refine ZN ?_ _)))|fail)
      (try simp only[Exit.inBlock,Exit.then]);refine bodyPost_ret (Zad rfl rfl HR.out underlying35 rfl (by kernel_rfl)) rfl ?_
      exact⟨t5,k5,rfl,HUQ.out _ _ _ HV5.out,HRB.out⟩
theorem Shaped.back {w w':World}(hb:Below w.heap.size w w'):∀ {n:Nat} {x:Ex},ExAt n w x->Shaped n w' x->Shaped n w x
 |0,_,h,_=>h.elim
 |n+1,x,⟨_,_,xs,h3,_,h5,h6⟩,⟨k1,k2,ys,g3,g5,g6⟩=>by
  obtain rfl:xs=ys:=lies_same (by rw[<-h3,<-g3]) (h5.kept hb) g5
  exact⟨k1,k2,xs,h3,h5,fun y hy=>Shaped.back hb (h6 y hy) (g6 y hy)⟩
theorem infer191_any (c_ta:Option Addr)(c_tn:Nat)(c_tc:Nat)(c_fa:Option Addr)(c_fn:Nat)(c_fc:Nat)(c_da:Option Addr)(c_dn:Nat)(c_dc:Nat)(c_qa:Option Addr)(c_qn:Nat)(c_qc:Nat)(en:ByteArray)(x_k:Int)(x_o:ByteArray)(x_m:ByteArray)(x_t:ByteArray)(x_vk:Int)(x_vn:Int)(x_vs:ByteArray)(x_ua:Option Addr)(x_un:Nat)(x_uc:Nat)(x_p:Int)(x_wk:Int)(x_wz:Int)(x_xa:Option Addr)(x_xn:Nat)(x_xc:Nat)(w:World)(w0:World)(hw0:Below w0.heap.size w0 w)(B:Nat)(hB:B<=100000)(h:CatW w0 B w c_ta c_tn c_fa c_fn c_da c_dn c_qa c_qn)(n:Nat)(hx:ExAt n w0 ⟨x_k,x_o,x_m,x_t,x_vk,x_vn,x_vs,x_ua,x_un,x_uc,x_p,x_wk,x_wz,x_xa,x_xn,x_xc⟩):Calls prog 191 #[.agg #[.slice c_ta c_tn c_tc,.slice c_fa c_fn c_fc,.slice c_da c_dn c_dc,.slice c_qa c_qn c_qc],.string en,.agg #[.int .i64 x_k,.string x_o,.string x_m,.string x_t,.int .i64 x_vk,.int .i64 x_vn,.string x_vs,.slice x_ua x_un x_uc,.int .i64 x_p,.int .i64 x_wk,.int .i64 x_wz,.slice x_xa x_xn x_xc]] w (Zaz w0 w):=by
 have HC0:=hid h
 have HW0:=hid hw0
 have HX:=hid hx
 clear h hw0 hx
 go_enter func191,ntmps191
 go_upto_region 1 with fail
 refine Zam (fun V hV=>?_)
 have B0:Hid (Box V w.heap.size #[.slice c_ta c_tn c_tc,.slice c_fa c_fn c_fc,.slice c_da c_dn c_dc,.slice c_qa c_qn c_qc] 118):=by rw[hV];exact Zdh _ _ _ _ _ _ _
 have B1:Hid (Box V (w.heap.size+1) #[.int .i64 x_k,.string x_o,.string x_m,.string x_t,.int .i64 x_vk,.int .i64 x_vn,.string x_vs,.slice x_ua x_un x_uc,.int .i64 x_p,.int .i64 x_wk,.int .i64 x_wz,.slice x_xa x_xn x_xc] 42):=by rw[hV];exact Zdg _ _ _ _ _ _ _
 have B2:Hid (Box V (w.heap.size+1+1) #[.int .i64 0,.slice none 0 0,.string ⟨#[]⟩] 35):=by rw[hV];exact Zdf _ _ _ _ _ _ _
 have HBV:Hid (Below w.heap.size w V):=by rw[hV];exact(by repeat first|exact ZR _|refine ZA ?_ _)
 clear hV
 have HW:Hid (Below V.heap.size V V):=ZR V
 have HS:Hid (∀ w',Below V.heap.size V w'->w'.cell? ⟨w.heap.size,0,none⟩=some (.slice c_ta c_tn c_tc)/\w'.cell? ⟨w.heap.size,1,none⟩=some (.slice c_fa c_fn c_fc)/\w'.cell? ⟨w.heap.size,2,none⟩=some (.slice c_da c_dn c_dc)/\w'.cell? ⟨w.heap.size,3,none⟩=some (.slice c_qa c_qn c_qc)/\w'.cell? ⟨w.heap.size+1,0,none⟩=some (.int .i64 x_k)/\w'.cell? ⟨w.heap.size+1,1,none⟩=some (.string x_o)/\w'.cell? ⟨w.heap.size+1,2,none⟩=some (.string x_m)/\w'.cell? ⟨w.heap.size+1,3,none⟩=some (.string x_t)/\w'.cell? ⟨w.heap.size+1,4,none⟩=some (.int .i64 x_vk)/\w'.cell? ⟨w.heap.size+1,5,none⟩=some (.int .i64 x_vn)/\w'.cell? ⟨w.heap.size+1,6,none⟩=some (.string x_vs)/\w'.cell? ⟨w.heap.size+1,7,none⟩=some (.slice x_ua x_un x_uc)/\w'.cell? ⟨w.heap.size+1,8,none⟩=some (.int .i64 x_p)/\w'.cell? ⟨w.heap.size+1,9,none⟩=some (.int .i64 x_wk)/\w'.cell? ⟨w.heap.size+1,10,none⟩=some (.int .i64 x_wz)/\w'.cell? ⟨w.heap.size+1,11,none⟩=some (.slice x_xa x_xn x_xc)):=fun w' h=>⟨(B0.out.kept h).cell 0 _ rfl,(B0.out.kept h).cell 1 _ rfl,(B0.out.kept h).cell 2 _ rfl,(B0.out.kept h).cell 3 _ rfl,(B1.out.kept h).cell 0 _ rfl,(B1.out.kept h).cell 1 _ rfl,(B1.out.kept h).cell 2 _ rfl,(B1.out.kept h).cell 3 _ rfl,(B1.out.kept h).cell 4 _ rfl,(B1.out.kept h).cell 5 _ rfl,(B1.out.kept h).cell 6 _ rfl,(B1.out.kept h).cell 7 _ rfl,(B1.out.kept h).cell 8 _ rfl,(B1.out.kept h).cell 9 _ rfl,(B1.out.kept h).cell 10 _ rfl,(B1.out.kept h).cell 11 _ rfl⟩
 obtain⟨k0_0,k0_1,k0_2,k0_3,k1_0,k1_1,k1_2,k1_3,k1_4,k1_5,k1_6,k1_7,k1_8,k1_9,k1_10,k1_11⟩:=HS.out V (ZR V)
 have HC:Hid (CatW w0 B V c_ta c_tn c_fa c_fn c_da c_dn c_qa c_qn):=HC0.out.kept HBV.out
 have HWV:Hid (Below w0.heap.size w0 V):=HW0.out.trans (HBV.out.mono HW0.out.size)
 go_wp2_with (first|(go_at_call 190;refine(shape_any _ _ _ _ _ _ _ _ _ _ _ _ _ _ _ _ _ Zen n (HX.out.kept (HWV.out.trans (Below.mono (by repeat first|exact ZR _|exact ZH (by assumption)|refine ZA ?_ _|refine ZD ?_|refine ZN ?_ _) HWV.out.size)))).mono ?_;rintro e w4 ⟨r4,rfl,hr4,hb⟩;have HSH:=hid hr4;have HW4:Hid (Below V.heap.size V w4):=ZT (by repeat first|exact ZR _|exact ZH (by assumption)|refine ZA ?_ _|refine ZD ?_|refine ZN ?_ _) hb;clear hr4 hb;have KK:=HS.out _ HW4.out;obtain⟨k0_0,k0_1,k0_2,k0_3,k1_0,k1_1,k1_2,k1_3,k1_4,k1_5,k1_6,k1_7,k1_8,k1_9,k1_10,k1_11⟩:=KK;rcases Za6 r4 with rfl|hr0)|((with_reducible refine Zbf 242 ?_);refine Zbl rfl rfl 242 _ _ rfl rfl rfl _ rfl rfl (by kernel_rfl) (by rfl) V (by repeat first|exact ZR _|exact ZH (by assumption)|refine ZA ?_ _|refine ZD ?_|refine ZN ?_ _) ?_;intro w8 hbx hbe hbl;have HXB:=hid hbx;have HW8:Hid (Below V.heap.size V w8):=hbe;clear hbx hbe hbl;have KK:=HS.out _ HW8.out;obtain⟨k0_0,k0_1,k0_2,k0_3,k1_0,k1_1,k1_2,k1_3,k1_4,k1_5,k1_6,k1_7,k1_8,k1_9,k1_10,k1_11⟩:=KK)|((with_reducible refine Zaq 242 ?_);refine Zaj rfl 242 _ rfl w4.heap.size _ 242 rfl HXB.out _ underlying242 rfl (by kernel_rfl) ?_;intro v hv;obtain rfl:=hv.out)|(go_at_call 204;refine(infer_any w0 B hB n _ _ _ _ _ _ _ _ _ _ _ _ _ _ _ _ _ _ _ ⟨x_k,x_o,x_m,x_t,x_vk,x_vn,x_vs,x_ua,x_un,x_uc,x_p,x_wk,x_wz,x_xa,x_xn,x_xc⟩ _ (HWV.out.trans (Below.mono (by repeat first|exact ZR _|exact ZH (by assumption)|refine ZA ?_ _|refine ZD ?_|refine ZN ?_ _) HWV.out.size)) HX.out (Shaped.back (HWV.out.trans (Below.mono HW4.out HWV.out.size)) HX.out (HSH.out (by first|rfl|trivial))) (HC.out.t.kept (by repeat first|exact ZR _|exact ZH (by assumption)|refine ZA ?_ _|refine ZD ?_|refine ZN ?_ _)) (HC.out.f.kept (by repeat first|exact ZR _|exact ZH (by assumption)|refine ZA ?_ _|refine ZD ?_|refine ZN ?_ _)) (FdsAt.nil _ _)).mono ?_;rintro e w5 ⟨t5,k5,rfl,hv5,hb⟩;have HV5:=hid hv5;have HW5:Hid (Below V.heap.size V w5):=ZT (by repeat first|exact ZR _|exact ZH (by assumption)|refine ZA ?_ _|refine ZD ?_|refine ZN ?_ _) hb;clear hv5 hb)|((with_reducible refine Zaw 35 ?_);refine Zah rfl 35 #[] rfl _ (fun w=>ZaV w) ?_;intro v hv)|((with_reducible refine Zal 35 ?_);refine Zai rfl _ _ _ rfl rfl (w.heap.size+1+1) 35 _ _ rfl (by first|exact(by assumption:Hid (_=_)).out|rfl) (B2.out.kept (by repeat first|exact ZR _|exact ZH (by assumption)|refine ZA ?_ _|refine ZD ?_|refine ZN ?_ _)) (by kernel_rfl) (by rfl) (by rfl) w (ZT HBV.out (by repeat first|exact ZR _|exact ZH (by assumption)|refine ZA ?_ _|refine ZD ?_|refine ZN ?_ _)) (by omega) ?_;intro w9 hby hyb hot;have HR:=hid hby;have HRB:=hid hyb;have HOT:=hid hot;clear hby hyb hot;have HUQ:=hid (UnW.putq (w0:=w0) HOT.out (B2.out.kept (by repeat first|exact ZR _|exact ZH (by assumption)|refine ZA ?_ _|refine ZD ?_|refine ZN ?_ _)) (by decide));have HUP:Hid (∀ ua un uc,UnW w0 V ua un uc->UnW w0 w9 ua un uc):=fun _ _ _ hu=>HUQ.out _ _ _ (hu.kept (by repeat first|exact ZR _|exact ZH (by assumption)|refine ZA ?_ _|refine ZD ?_|refine ZN ?_ _)))|fail)
 all_goals
  (try simp only[Exit.inBlock,Exit.then]);refine bodyPost_ret (Zad rfl rfl HR.out underlying35 rfl (by kernel_rfl)) rfl ?_
  first|exact⟨t5,k5,rfl,HUQ.out _ _ _ HV5.out,HRB.out⟩|exact Zaz.zero _ HRB.out
theorem Zeb (c_ta:Option Addr)(c_tn:Nat)(c_tc:Nat)(c_fa:Option Addr)(c_fn:Nat)(c_fc:Nat)(c_da:Option Addr)(c_dn:Nat)(c_dc:Nat)(c_qa:Option Addr)(c_qn:Nat)(c_qc:Nat)(f_m:ByteArray)(f_e:ByteArray)(f_tk:Int)(f_tua:Option Addr)(f_tun:Nat)(f_tuc:Nat)(f_to:ByteArray)(f_bk:Int)(f_bo:ByteArray)(f_bm:ByteArray)(f_bt:ByteArray)(f_bvk:Int)(f_bvn:Int)(f_bvs:ByteArray)(f_bua:Option Addr)(f_bun:Nat)(f_buc:Nat)(f_bp:Int)(f_bwk:Int)(f_bwz:Int)(f_bxa:Option Addr)(f_bxn:Nat)(f_bxc:Nat)(f_r:Int)(w:World)(w0:World)(hw0:Below w0.heap.size w0 w)(B:Nat)(hB:B<=100000)(h:CatW w0 B w c_ta c_tn c_fa c_fn c_da c_dn c_qa c_qn)(n:Nat)(hu:Zao w0 f_tua f_tun)(hx:ExAt n w0 ⟨f_bk,f_bo,f_bm,f_bt,f_bvk,f_bvn,f_bvs,f_bua,f_bun,f_buc,f_bp,f_bwk,f_bwz,f_bxa,f_bxn,f_bxc⟩):Calls prog 172 #[.agg #[.slice c_ta c_tn c_tc,.slice c_fa c_fn c_fc,.slice c_da c_dn c_dc,.slice c_qa c_qn c_qc],.agg #[.string f_m,.string f_e,.int .i64 f_tk,.slice f_tua f_tun f_tuc,.string f_to,.int .i64 f_bk,.string f_bo,.string f_bm,.string f_bt,.int .i64 f_bvk,.int .i64 f_bvn,.string f_bvs,.slice f_bua f_bun f_buc,.int .i64 f_bp,.int .i64 f_bwk,.int .i64 f_bwz,.slice f_bxa f_bxn f_bxc,.int .i64 f_r]] w (GotI w):=by
 have HC0:=hid h
 have HW0:=hid hw0
 have HX:=hid hx
 have HFU:=hid hu
 clear h hw0 hx hu
 go_enter func172,ntmps172
 go_upto_region 1 with fail
 refine Zam (fun V hV=>?_)
 have B0:Hid (Box V w.heap.size #[.slice c_ta c_tn c_tc,.slice c_fa c_fn c_fc,.slice c_da c_dn c_dc,.slice c_qa c_qn c_qc] 118):=by rw[hV];exact Za4 _ _ _ _ _
 have B1:Hid (Box V (w.heap.size+1) #[.string f_m,.string f_e,.int .i64 f_tk,.slice f_tua f_tun f_tuc,.string f_to,.int .i64 f_bk,.string f_bo,.string f_bm,.string f_bt,.int .i64 f_bvk,.int .i64 f_bvn,.string f_bvs,.slice f_bua f_bun f_buc,.int .i64 f_bp,.int .i64 f_bwk,.int .i64 f_bwz,.slice f_bxa f_bxn f_bxc,.int .i64 f_r] 44):=by rw[hV];exact Za3 _ _ _ _ _
 have HBV:Hid (Below w.heap.size w V):=by rw[hV];exact(by repeat first|exact ZR _|refine ZA ?_ _)
 clear hV
 have HS:Hid (∀ w',Below V.heap.size V w'->w'.cell? ⟨w.heap.size,0,none⟩=some (.slice c_ta c_tn c_tc)/\w'.cell? ⟨w.heap.size,1,none⟩=some (.slice c_fa c_fn c_fc)/\w'.cell? ⟨w.heap.size,2,none⟩=some (.slice c_da c_dn c_dc)/\w'.cell? ⟨w.heap.size,3,none⟩=some (.slice c_qa c_qn c_qc)/\w'.cell? ⟨w.heap.size+1,0,none⟩=some (.string f_m)/\w'.cell? ⟨w.heap.size+1,1,none⟩=some (.string f_e)/\w'.cell? ⟨w.heap.size+1,2,none⟩=some (.int .i64 f_tk)/\w'.cell? ⟨w.heap.size+1,3,none⟩=some (.slice f_tua f_tun f_tuc)/\w'.cell? ⟨w.heap.size+1,4,none⟩=some (.string f_to)/\w'.cell? ⟨w.heap.size+1,5,none⟩=some (.int .i64 f_bk)/\w'.cell? ⟨w.heap.size+1,6,none⟩=some (.string f_bo)/\w'.cell? ⟨w.heap.size+1,7,none⟩=some (.string f_bm)/\w'.cell? ⟨w.heap.size+1,8,none⟩=some (.string f_bt)/\w'.cell? ⟨w.heap.size+1,9,none⟩=some (.int .i64 f_bvk)/\w'.cell? ⟨w.heap.size+1,10,none⟩=some (.int .i64 f_bvn)/\w'.cell? ⟨w.heap.size+1,11,none⟩=some (.string f_bvs)/\w'.cell? ⟨w.heap.size+1,12,none⟩=some (.slice f_bua f_bun f_buc)/\w'.cell? ⟨w.heap.size+1,13,none⟩=some (.int .i64 f_bp)/\w'.cell? ⟨w.heap.size+1,14,none⟩=some (.int .i64 f_bwk)/\w'.cell? ⟨w.heap.size+1,15,none⟩=some (.int .i64 f_bwz)/\w'.cell? ⟨w.heap.size+1,16,none⟩=some (.slice f_bxa f_bxn f_bxc)/\w'.cell? ⟨w.heap.size+1,17,none⟩=some (.int .i64 f_r)):=fun w' h=>⟨(B0.out.kept h).cell 0 _ rfl,(B0.out.kept h).cell 1 _ rfl,(B0.out.kept h).cell 2 _ rfl,(B0.out.kept h).cell 3 _ rfl,(B1.out.kept h).cell 0 _ rfl,(B1.out.kept h).cell 1 _ rfl,(B1.out.kept h).cell 2 _ rfl,(B1.out.kept h).cell 3 _ rfl,(B1.out.kept h).cell 4 _ rfl,(B1.out.kept h).cell 5 _ rfl,(B1.out.kept h).cell 6 _ rfl,(B1.out.kept h).cell 7 _ rfl,(B1.out.kept h).cell 8 _ rfl,(B1.out.kept h).cell 9 _ rfl,(B1.out.kept h).cell 10 _ rfl,(B1.out.kept h).cell 11 _ rfl,(B1.out.kept h).cell 12 _ rfl,(B1.out.kept h).cell 13 _ rfl,(B1.out.kept h).cell 14 _ rfl,(B1.out.kept h).cell 15 _ rfl,(B1.out.kept h).cell 16 _ rfl,(B1.out.kept h).cell 17 _ rfl⟩
 obtain⟨k0_0,k0_1,k0_2,k0_3,k1_0,k1_1,k1_2,k1_3,k1_4,k1_5,k1_6,k1_7,k1_8,k1_9,k1_10,k1_11,k1_12,k1_13,k1_14,k1_15,k1_16,k1_17⟩:=HS.out V (ZR V)
 have HC:Hid (CatW w0 B V c_ta c_tn c_fa c_fn c_da c_dn c_qa c_qn):=HC0.out.kept HBV.out
 have HWV:Hid (Below w0.heap.size w0 V):=HW0.out.trans (HBV.out.mono HW0.out.size)
 go_wp2_with (first|(go_at_call 140;refine(ZbF _ _).mono ?_;rintro e w' ⟨b,rfl,hb⟩;have HW:Hid (Below V.heap.size V w'):=ZT (by repeat first|exact ZR _|exact ZH (by assumption)|refine ZA ?_ _|refine ZD ?_|refine ZN ?_ _) hb;clear hb;have KK:=HS.out _ HW.out;obtain⟨k0_0,k0_1,k0_2,k0_3,k1_0,k1_1,k1_2,k1_3,k1_4,k1_5,k1_6,k1_7,k1_8,k1_9,k1_10,k1_11,k1_12,k1_13,k1_14,k1_15,k1_16,k1_17⟩:=KK;cases b)|(go_at_call 189;refine(ZeK _ _ _ _ _ _ (HFU.out.kept (HWV.out.trans (Below.mono (by repeat first|exact ZR _|exact ZH (by assumption)|refine ZA ?_ _|refine ZD ?_|refine ZN ?_ _) HWV.out.size)))).mono ?_;rintro e w' ⟨r,rfl,hb⟩;have HW:Hid (Below V.heap.size V w'):=ZT (by repeat first|exact ZR _|exact ZH (by assumption)|refine ZA ?_ _|refine ZD ?_|refine ZN ?_ _) hb;clear hb;have KK:=HS.out _ HW.out;obtain⟨k0_0,k0_1,k0_2,k0_3,k1_0,k1_1,k1_2,k1_3,k1_4,k1_5,k1_6,k1_7,k1_8,k1_9,k1_10,k1_11,k1_12,k1_13,k1_14,k1_15,k1_16,k1_17⟩:=KK;rcases Za6 r with rfl|hr0)|(go_at_call 191;refine(infer191_any _ _ _ _ _ _ _ _ _ _ _ _ _ _ _ _ _ _ _ _ _ _ _ _ _ _ _ _ _ _ w0 (HWV.out.trans (Below.mono (by repeat first|exact ZR _|exact ZH (by assumption)|refine ZA ?_ _|refine ZD ?_|refine ZN ?_ _) HWV.out.size)) B hB (HC.out.kept (by repeat first|exact ZR _|exact ZH (by assumption)|refine ZA ?_ _|refine ZD ?_|refine ZN ?_ _)) n HX.out).mono ?_;rintro e w5 ⟨t5,k5,rfl,hv5,hb⟩;have HV5:=hid hv5;have HW5:Hid (Below V.heap.size V w5):=ZT (by repeat first|exact ZR _|exact ZH (by assumption)|refine ZA ?_ _|refine ZD ?_|refine ZN ?_ _) hb;clear hv5 hb;have KK:=HS.out _ HW5.out;obtain⟨k0_0,k0_1,k0_2,k0_3,k1_0,k1_1,k1_2,k1_3,k1_4,k1_5,k1_6,k1_7,k1_8,k1_9,k1_10,k1_11,k1_12,k1_13,k1_14,k1_15,k1_16,k1_17⟩:=KK)|((with_reducible refine Zbf 35 ?_);refine Zbl rfl rfl 35 _ _ rfl rfl rfl (Ty.cells t5) rfl rfl (by kernel_rfl) (by rfl) V (by repeat first|exact ZR _|exact ZH (by assumption)|refine ZA ?_ _|refine ZD ?_|refine ZN ?_ _) ?_;intro w8 hbx hbe hbl;have HV8:=hid (HV5.out.kept hbl);have g0:=hbx.cell 0 (.int .i64 t5.k) rfl;have g1:=hbx.cell 1 (.slice t5.ua t5.un t5.uc) rfl;have g2:=hbx.cell 2 (.string t5.o) rfl;have HW8:Hid (Below V.heap.size V w8):=hbe;clear hbx hbe hbl;have KK:=HS.out _ HW8.out;obtain⟨k0_0,k0_1,k0_2,k0_3,k1_0,k1_1,k1_2,k1_3,k1_4,k1_5,k1_6,k1_7,k1_8,k1_9,k1_10,k1_11,k1_12,k1_13,k1_14,k1_15,k1_16,k1_17⟩:=KK;rcases Za6 k5 with rfl|hk0)|(go_at_call 192;refine(both_any _ _ _ _ _ _ _ _ _ _ _ (HV8.out.unit (HWV.out.trans (Below.mono (by repeat first|exact ZR _|exact ZH (by assumption)|refine ZA ?_ _|refine ZD ?_|refine ZN ?_ _) HWV.out.size))) (HFU.out.kept (HWV.out.trans (Below.mono (by repeat first|exact ZR _|exact ZH (by assumption)|refine ZA ?_ _|refine ZD ?_|refine ZN ?_ _) HWV.out.size)))).mono ?_;rintro e w9 ⟨b9,rfl,hb⟩;have HW9:Hid (Below V.heap.size V w9):=ZT (by repeat first|exact ZR _|exact ZH (by assumption)|refine ZA ?_ _|refine ZD ?_|refine ZN ?_ _) hb;clear hb)|fail)
 all_goals
  go_ret
  exact⟨_,rfl,ZT HBV.out (by repeat first|exact ZR _|exact ZH (by assumption)|refine ZA ?_ _|refine ZD ?_|refine ZN ?_ _)⟩
theorem Ft.setr {W:World}{g:Nat}{f:Ft}{v:Int}(h:Box W g (f.cells.toArray.setIfInBounds 17 (.int .i64 v)) 44):∃ f2:Ft,Box W g f2.cells.toArray 44/\f2.r=v/\∀ w0,f.Ok w0->f2.Ok w0 :=
 ⟨⟨f.m,f.e,f.tk,f.tua,f.tun,f.tuc,f.tof,f.b,v⟩,h,rfl,fun w0 h=>h⟩
theorem Cs.other {w0 w W W':World}{B g r:Nat}{c:Ct}(h:Cs w0 w B g r c W)(h0:c.Ok w0 B w)(hbe:Below w.heap.size w W')(hg':W'.heap[g]?=W.heap[g]?)(hr':W'.heap[r]?=W.heap[r]?):Cs w0 w B g r c W':=⟨hg'.trans h.box,hr'.trans h.res,h0.kept hbe,hbe,h.old,h.hg,h.hr,h.ne⟩
theorem publish_any (c:Ct)(f:Ft)(w w0:World)(hw0:Below w0.heap.size w0 w)(B:Nat)(hB:B<=1000)(h:c.Ok w0 B w)(hf:f.Ok w0):Calls prog 165 #[c.val,f.val] w (CatSame c w0 (B+2) w):=by
 obtain⟨ta,tn,tc,fa,fn,fc,da,dn,dc,qa,qn,qc⟩:=c
 have hB2:B<=100000:=by omega
 dsimp only[Ct.val]
 have HOK:=hid h
 have HFO:=hid hf
 obtain⟨hfu,n,hfx⟩:=hf
 have HFU:=hid hfu
 have HFX:Hid (ExAt n w0 f.b):=hfx.at
 clear hfu hfx
 go_enter func165,ntmps165
 go_upto_region 1 with fail
 refine Zam (fun V hV=>?_)
 have HST:Hid (Cs w0 w B w.heap.size (w.heap.size+1+1) ⟨ta,tn,tc,fa,fn,fc,da,dn,dc,qa,qn,qc⟩ V):=by
  have hb:Below w.heap.size w V:=by rw[hV];exact(by repeat first|exact ZR _|refine ZA ?_ _)
  exact⟨by rw[hV];exact Zdh _ _ _ _ _ _ _,by rw[hV];exact Zdf _ _ _ _ _ _ _,h.kept hb,hb,hw0,Nat.le_refl _,by omega,by omega⟩
 have HFB:Hid (Box V (w.heap.size+1) f.cells.toArray 44):=by rw[hV];exact Zdg _ _ _ _ _ _ _
 have f0:=HFB.out.cell 0 (.string f.m) rfl
 have f17:=HFB.out.cell 17 (.int .i64 f.r) rfl
 clear hV h
 have qq:=HST.out.q
 obtain⟨q0,q1,q2,q3⟩:=qq
 go_wp2_with (first|(go_at_call 183;refine(Zcx _ _ _ _ B hB2 _ (HST.out.ok.d.lies.at HST.out.wz)).mono ?_;intro e w5 hp;obtain⟨hp,hb⟩:=hp.two;have HST:=hid (HST.out.kept hb);have HFB:=hid (HFB.out.kept hb);clear hb;have qq:=HST.out.q;obtain⟨q0,q1,q2,q3⟩:=qq;(rcases hp with rfl|⟨k5,hk5,rfl⟩);all_goals(have f0:=HFB.out.cell 0 (.string f.m) rfl;have f17:=HFB.out.cell 17 (.int .i64 f.r) rfl))|(go_at_call 172;refine(Zeb _ _ _ _ _ _ _ _ _ _ _ _ _ _ _ _ _ _ _ _ _ _ _ _ _ _ _ _ _ _ _ _ _ _ _ _ _ w0 HST.out.wz B hB2 HST.out.ok.w n HFU.out HFX.out).mono ?_;rintro e w5 ⟨k5,rfl,hb⟩;have HST:=hid (HST.out.kept hb);have HFB:=hid (HFB.out.kept hb);clear hb;have qq:=HST.out.q;obtain⟨q0,q1,q2,q3⟩:=qq;have f0:=HFB.out.cell 0 (.string f.m) rfl;have f17:=HFB.out.cell 17 (.int .i64 f.r) rfl;rcases Za6 k5 with rfl|hk0)|(go_at_call 184;refine(newest_any _ _ _ _ _ _ _ _ _ _ _ _ _ _ w0 B hB2 HST.out.ok.w).mono ?_;rintro e w5 ⟨k6,rfl,hb⟩;have HST:=hid (HST.out.kept hb);have HFB:=hid (HFB.out.kept hb);clear hb;have qq:=HST.out.q;obtain⟨q0,q1,q2,q3⟩:=qq;have f0:=HFB.out.cell 0 (.string f.m) rfl;have f17:=HFB.out.cell 17 (.int .i64 f.r) rfl)|((with_reducible refine Zaw 118 ?_);refine Zah rfl 118 #[] rfl Ct.zero.cells (fun w=>ZcO w) ?_;intro v hv;obtain rfl:=hv.out)|((with_reducible refine Zal 118 ?_);refine Zav rfl _ _ rfl rfl HST.out Ct.zero rfl rfl (Ct.zero_ok _ B _) ?_;intro w9 hR hotr;have HR:=hid hR;have HOT:=hid hotr;clear hR hotr)|((with_reducible refine Zaq 118 ?_);refine Zaj rfl 118 _ rfl _ _ 118 rfl HST.out.box _ underlying118 rfl (by kernel_rfl) ?_;intro v hv;obtain rfl:=hv.out)|((with_reducible refine Zaq 44 ?_);refine Zaj rfl 44 _ rfl (w.heap.size+1) (Ft.cells f) 44 rfl HFB.out _ underlying44 rfl (by kernel_rfl) ?_;intro v hv;obtain rfl:=hv.out)|((with_reducible refine Zaq 44 ?_);refine Zaj rfl 44 _ rfl (w.heap.size+1) (Ft.cells f2) 44 rfl HFB.out _ underlying44 rfl (by kernel_rfl) ?_;intro v hv;obtain rfl:=hv.out)|((with_reducible refine Zal 3 ?_);refine ZdM rfl 3 _ _ rfl rfl (w.heap.size+1) 17 44 _ _ rfl rfl rfl rfl HFB.out (by kernel_rfl) (by show(17:Nat)<18;decide) w HST.out.below (by omega) ?_;intro w6 hb6 hbe6 hot;obtain⟨f2,hf2,hf3,hf4⟩:=Ft.setr hb6;have HFB:=hid hf2;have HF2:=hid (hf4 w0 HFO.out);have HST:Hid (Cs w0 w B w.heap.size (w.heap.size+1+1) ⟨ta,tn,tc,fa,fn,fc,da,dn,dc,qa,qn,qc⟩ w6):=HST.out.other HOK.out hbe6 (hot _ (by omega)) (hot _ (by omega));clear hb6 hbe6 hot hf2 hf3 hf4;have qq:=HST.out.q;obtain⟨q0,q1,q2,q3⟩:=qq)|(go_at_call 185;refine(Zb2 _ _ _ f2 w0 _ (by omega) _ HST.out.ok.d HF2.out).mono ?_;rintro e w5 ⟨a5,n5,c5,rfl,h5,hb⟩;have H5:=hid h5;clear h5;have HST:=hid (HST.out.kept hb);have HFB:=hid (HFB.out.kept hb);clear hb;have qq:=HST.out.q;obtain⟨q0,q1,q2,q3⟩:=qq)|((with_reducible refine Zal 116 ?_);refine Zbz rfl 116 (by kernel_rfl) _ _ rfl rfl HST.out 2 (by decide) (.slice a5 n5 c5) rfl rfl rfl rfl ⟨ta,tn,tc,fa,fn,fc,a5,n5,c5,qa,qn,qc⟩ rfl ⟨(HST.out.ok.mono (Nat.le_succ _)).t,(HST.out.ok.mono (Nat.le_succ _)).f,H5.out,(HST.out.ok.mono (Nat.le_succ _)).q⟩ ?_;intro w6 hst hot;have HST:=hid hst;have HFB:=hid (HFB.out.aside hot (by omega));clear hst hot;have qq:=HST.out.q;obtain⟨q0,q1,q2,q3⟩:=qq)|((with_reducible refine Zal 118 ?_);refine Zav rfl _ _ rfl rfl HST.out _ rfl rfl HST.out.ok ?_;intro w9 hR hotr;have HR:=hid hR;have HOT:=hid hotr;clear hR hotr)|fail)
 all_goals
  (try simp only[Exit.inBlock,Exit.then]);refine bodyPost_ret (Zad rfl rfl HR.out.box underlying118 rfl (by kernel_rfl)) rfl ?_
  exact⟨_,_,rfl,HR.out.ok.mono (by omega),(fun e=>by first|exact⟨rfl,rfl,rfl⟩|(exfalso;omega)|cases e),HR.out.below⟩
def findT (l:List Tb)(nm:ByteArray):Option Tb:=l.find? (fun t=>decide (t.m=nm))
theorem findT_at {nm:ByteArray}:∀ (l:List Tb) (i:Nat) (x:Tb),l[i]?=some x->(∀ j t,j<i->l[j]?=some t->t.m≠nm)->x.m=nm->findT l nm=some x
 |[],i,x,h,_,_=>by simp at h
 |y :: l,0,x,h,_,hm=>by
  simp at h
  subst h
  simp[findT,hm]
 |y :: l,i+1,x,h,hj,hm=>by
  have h0:=hj 0 y (by omega) rfl
  have:=findT_at l i x (by simpa using h) (fun j t hlt ht=>hj (j+1) t (by omega) (by simpa using ht)) hm
  unfold findT at this ⊢
  rw[List.find?_cons,decide_eq_false h0]
  exact this
theorem findT_none {nm:ByteArray}{l:List Tb}(h:∀ j t,j<l.length->l[j]?=some t->t.m≠nm):findT l nm=none:=by
 unfold findT
 rw[List.find?_eq_none]
 intro t ht
 obtain⟨i,hi,rfl⟩:=List.mem_iff_getElem.1 ht
 simpa using h i _ hi (List.getElem?_eq_getElem hi)
def TabPost (l:List Tb)(nm:ByteArray)(w0 w:World)(e:Ending)(w':World):Prop:=∃ (t:Tb) (b:Bool),e=.returned (.tuple #[.agg t.cells.toArray,.bool b])/\FdsAt w0 t.fa t.fn/\findT l nm=(if b=true then some t else none)/\Below w.heap.size w w'
def zeroT:Tb:=⟨⟨#[]⟩,⟨#[]⟩,none,0,0,0⟩
theorem Ze6 (c:Ct)(nm:ByteArray)(w w0:World)(l:List Tb)(hn:c.tn=l.length)(hl:l.length<=100000)(hok:∀ t∈l,FdsAt w0 t.fa t.fn)(h:Zaf Tb.cells 4 w c.ta l):Calls prog 138 #[c.val,.string nm] w (TabPost l nm w0 w):=by
 obtain⟨ta,tn,tc,fa,fn,fc,da,dn,dc,qa,qn,qc⟩:=c
 dsimp only[Ct.val]at *
 subst hn
 have H1:=hid h
 have HOK:=hid hok
 clear h hok
 go_enter func138,ntmps138
 go_upto_region 1 with fail
 refine Zam (fun V hV=>?_)
 have B0:Hid (Box V w.heap.size #[.slice ta l.length tc,.slice fa fn fc,.slice da dn dc,.slice qa qn qc] 118):=by rw[hV];exact Za4 _ _ _ _ _
 have B1:Hid (Box V (w.heap.size+1) #[.string ⟨#[]⟩,.string ⟨#[]⟩,.slice none 0 0,.int .i64 0] 32):=by rw[hV];exact Za3 _ _ _ _ _
 have HBV:Hid (Below w.heap.size w V):=by rw[hV];exact(by repeat first|exact ZR _|refine ZA ?_ _)
 clear hV
 have q0:=B0.out.cell 0 _ rfl
 go_wp2_with fail
 go_loop [6] (fun v=>∃ i:Nat,i<=l.length/\v=.int .i64 i/\Hid (∀ j t,j<i->l[j]?=some t->t.m≠nm)) (fun v=>l.length - (intOf v).toNat)
 case atStart=>exact⟨0,by omega,rfl,fun j t hj=>absurd hj (by omega)⟩
 case round =>
  obtain⟨i,hi,rfl,HNO⟩:=hrel
  by_cases hlt:i<l.length
  · obtain⟨x,hx⟩:∃ x,l[i]?=some x:=⟨l[i],List.getElem?_eq_getElem hlt⟩
    obtain⟨b1,o1,rfl,hr1⟩:=(H1.out.kept HBV.out).some (by omega)
    have c0:=(Tb.cell hr1 hx).1
    have HC:Hid (∀ j v,(Tb.cells x)[j]?=some v->V.cell? ⟨b1,o1+i*4+j,none⟩=some v):=fun j v hj=>hr1 i x hx j v hj
    have HX:Hid (FdsAt w0 x.fa x.fn):=HOK.out x (List.mem_of_getElem? hx)
    have HXI:=hid hx
    clear hr1 hx
    by_cases he:x.m=nm
    · have he2:(x.m.toList==nm.toList)=true:=by rw[he];simp
      have he3:=hid he
      clear he
      go_wp2_with (first|((with_reducible refine Zaq 32 ?_);refine Zas rfl 32 _ rfl b1 (o1+i*4) (Tb.cells x) rfl HC.out _ underlying32 rfl (by kernel_rfl) ?_;intro v hv;obtain rfl:=hv.out)|((with_reducible refine Zal 32 ?_);refine Zai rfl _ _ _ rfl rfl (w.heap.size+1) 32 _ _ rfl rfl B1.out (by kernel_rfl) (by rfl) (by rfl) w HBV.out (by omega) ?_;intro w9 hby hyb hot;have HR:=hid hby;have HRB:=hid hyb;clear hby hyb hot)|fail)
      (try simp only[Exit.inBlock,Exit.then]);refine bodyPost_ret (Zad rfl rfl HR.out underlying32 rfl (by kernel_rfl)) rfl ?_
      exact⟨x,true,rfl,HX.out,findT_at l i x HXI.out HNO.out he3.out,HRB.out⟩
    · have he2:(x.m.toList==nm.toList)=false:=by simpa using fun e=>he (Zcd e)
      have he3:=hid he
      clear he
      go_wp2_with fail
      go_round
      case rel=>exact⟨i+1,by omega,by go_num,fun j t hj ht=>by
       by_cases e:j=i
       · subst e
         rw[HXI.out]at ht
         injection ht with ht
         subst ht
         exact he3.out
       · exact HNO.out j t (by omega) ht⟩
      case measure=>simp[intOf];omega
  · go_wp2_with (first|((with_reducible refine Zaw 32 ?_);refine Zah rfl 32 #[] rfl zeroT.cells (fun w=>build32 w) ?_;intro v hv;obtain rfl:=hv.out)|((with_reducible refine Zal 32 ?_);refine Zai rfl _ _ _ rfl rfl (w.heap.size+1) 32 _ _ rfl rfl B1.out (by kernel_rfl) (by rfl) (by rfl) w HBV.out (by omega) ?_;intro w9 hby hyb hot;have HR:=hid hby;have HRB:=hid hyb;clear hby hyb hot)|fail)
    (try simp only[Exit.inBlock,Exit.then]);refine bodyPost_ret (Zad rfl rfl HR.out underlying32 rfl (by kernel_rfl)) rfl ?_
    exact⟨zeroT,false,rfl,FdsAt.nil _ _,findT_none (fun j t hj ht=>HNO.out j t (by omega) ht),HRB.out⟩
theorem TbsL.put {W W':World}{a:Option Addr}{l:List Tb}{g:Nat}{cs:Array Value}{t:TypeId}(h:Zaf Tb.cells 4 W a l)(hg:Box W g cs t)(hcs:NoStr cs)(hot:∀ k,k≠g->W'.heap[k]?=W.heap[k]?):Zaf Tb.cells 4 W' a l:=by
 rcases h with h1|⟨b,off,rfl,hr⟩
 · exact Or.inl h1
 · cases l with
   |nil=>exact Or.inl rfl
   |cons x l=>exact Or.inr ⟨b,off,rfl,hr.same (hot b (strs_off hg hcs (s:=x.m) (hr 0 x rfl 0 _ rfl)))⟩
def CatTab (l:List Tb)(t:Tb)(w0:World)(B:Nat)(w:World)(e:Ending)(w':World):Prop:=∃ (c2:Ct) (k:Int),e=.returned (.tuple #[c2.val,.int .i64 k])/\c2.Ok w0 B w'/\(k=0->findT l t.m=none/\∃ l2,c2.tn=l2.length/\Zaf Tb.cells 4 w' c2.ta l2/\∃ i,l2=l.take i++[t]++l.drop i)/\Below w.heap.size w w'
theorem tbl_any (c:Ct)(t:Tb)(l:List Tb)(w w0:World)(hw0:Below w0.heap.size w0 w)(B:Nat)(hB:B<=1000)(h:c.Ok w0 B w)(hn:c.tn=l.length)(hlies:Zaf Tb.cells 4 w c.ta l)(hok:∀ t∈l,FdsAt w0 t.fa t.fn)(ht:FdsAt w0 t.fa t.fn):Calls prog 164 #[c.val,t.val] w (CatTab l t w0 (B+2) w):=by
 obtain⟨ta,tn,tc,fa,fn,fc,da,dn,dc,qa,qn,qc⟩:=c
 have hB2:B<=100000:=by omega
 dsimp only[Ct.val]
 dsimp only at hn hlies
 subst hn
 have hlB:l.length<=B:=by
  obtain⟨⟨l2,e1,e2,-⟩,-,-⟩:=h.t
  dsimp only at e1
  omega
 have HL:=hid hlies
 have HOK:=hid hok
 have HFO:=hid ht
 clear hlies hok ht
 go_enter func164,ntmps164
 go_upto_region 1 with fail
 refine Zam (fun V hV=>?_)
 have HST:Hid (Cs w0 w B w.heap.size (w.heap.size+1+1) ⟨ta,l.length,tc,fa,fn,fc,da,dn,dc,qa,qn,qc⟩ V):=by
  have hb:Below w.heap.size w V:=by rw[hV];exact(by repeat first|exact ZR _|refine ZA ?_ _)
  exact⟨by rw[hV];exact Zdh _ _ _ _ _ _ _,by rw[hV];exact Zdf _ _ _ _ _ _ _,h.kept hb,hb,hw0,Nat.le_refl _,by omega,by omega⟩
 have HTB:Hid (Box V (w.heap.size+1) t.cells.toArray 32):=by rw[hV];exact Zdg _ _ _ _ _ _ _
 have t0:=HTB.out.cell 0 (.string t.m) rfl
 clear hV h
 have qq:=HST.out.q
 obtain⟨q0,q1,q2,q3⟩:=qq
 go_upto_region 4 with(first|(go_at_call 138;refine(Ze6 ⟨ta,l.length,tc,fa,fn,fc,da,dn,dc,qa,qn,qc⟩ _ _ w0 l rfl (by omega) HOK.out (HL.out.kept HST.out.below)).mono ?_;rintro e w5 ⟨x5,b5,rfl,hx5,hf5,hb⟩;have HF5:=hid hf5;clear hf5 hx5;have HST:=hid (HST.out.kept hb);have HTB:=hid (HTB.out.kept hb);clear hb;have qq:=HST.out.q;obtain⟨q0,q1,q2,q3⟩:=qq;have t0:=HTB.out.cell 0 (.string t.m) rfl;cases b5)|((with_reducible refine Zbf 32 ?_);refine Zbm rfl rfl 32 _ _ rfl rfl rfl (Tb.cells x5) rfl rfl (by kernel_rfl) (by rfl) ?_;intro g7 w8 hbx hg7 hb;clear hg7 hbx;have HST:=hid (HST.out.kept hb);have HTB:=hid (HTB.out.kept hb);clear hb;have qq:=HST.out.q;obtain⟨q0,q1,q2,q3⟩:=qq;have t0:=HTB.out.cell 0 (.string t.m) rfl)|((with_reducible refine Zaw 118 ?_);refine Zah rfl 118 #[] rfl Ct.zero.cells (fun w=>ZcO w) ?_;intro v hv;obtain rfl:=hv.out)|((with_reducible refine Zal 118 ?_);refine Zav rfl _ _ rfl rfl HST.out Ct.zero rfl rfl (Ct.zero_ok _ B _) ?_;intro w9 hR hotr;have HR:=hid hR;have HOT:=hid hotr;clear hR hotr)|((with_reducible refine Zaq 118 ?_);refine Zaj rfl 118 _ rfl _ _ 118 rfl HST.out.box _ underlying118 rfl (by kernel_rfl) ?_;intro v hv;obtain rfl:=hv.out)|fail)
 rotate_left
 · (try simp only[Exit.inBlock,Exit.then]);refine bodyPost_ret (Zad rfl rfl HR.out.box underlying118 rfl (by kernel_rfl)) rfl ?_
   exact⟨_,_,rfl,HR.out.ok.mono (by omega),(fun e=>by cases e),HR.out.below⟩
 · rw[if_neg (by decide)]at HF5
   refine Zam (fun V1 hV1=>?_)
   subst hV1
   go_wp2_with fail
   go_loopw [8] (fun v wr=>∃ j:Nat,j<=l.length/\v=.int .i64 j/\Hid (Below V1.heap.size V1 wr)) (fun v _=>l.length - (intOf v).toNat)
   case atStart=>exact⟨0,by omega,rfl,ZR V1⟩
   case round =>
    obtain⟨j,hj,rfl,HR⟩:=hrel
    rename World=>wr
    have qq:=(HST.out.kept HR.out).q
    obtain⟨q0,q1,q2,q3⟩:=qq
    have t0:=(HTB.out.kept HR.out).cell 0 (.string t.m) rfl
    by_cases hjl:j<l.length
    · obtain⟨x,hx⟩:∃ x,l[j]?=some x:=⟨l[j],List.getElem?_eq_getElem hjl⟩
      obtain⟨b1,o1,rfl,hr1⟩:=(HL.out.kept (HST.out.kept HR.out).below).some (by omega)
      have d0:=(Tb.cell hr1 hx).1
      clear hr1 hx
      have hd:decide ((j:Int)<(l.length:Int))=true:=by simpa using hjl
      go_upto_region 5 with fail
      go_quiet (fail)
      go_upto_region 7 with fail
      all_goals first
       |(refine⟨⟨j+1,by omega,by go_num,Zag HR.out _⟩,?_⟩;(simp[intOf];omega))
       |skip
      refine Zam (fun W hW=>?_)
      have HRW:Hid (Below V1.heap.size V1 W):=by rw[hW];repeat(first|exact HR.out|refine Zag ?_ _)
      clear hW
      have HST:=hid (HST.out.kept HRW.out)
      have HTB:=hid (HTB.out.kept HRW.out)
      have qq:=HST.out.q
      obtain⟨q0,q1,q2,q3⟩:=qq
      have hlc:=HST.out.ok.t.cap
      dsimp only at hlc
      have hcu:=fun w=>ZbY elTb (some ⟨b1,o1,none⟩) l.length tc j (by omega) w
      obtain⟨A,hcf,hA1,hA2⟩:=ZbZ elTb (some ⟨b1,o1,none⟩) l.length tc j hj
      have HLW:=hid (HL.out.kept HST.out.below)
      have HLT:=hid (HLW.out.take j)
      have HLD:=hid (ZbH HLW.out hlc hA2)
      have HTL:Hid (j=(l.take j).length):=by show _=_;simp;omega
      have HDL:Hid (l.length - j=(l.drop j).length):=by show _=_;simp
      have HL1:Hid (([]:List Tb).length+(l.take j).length<=1000000000):=by show _<=_;simp;omega
      have HL2:Hid (([]++l.take j).length+[t].length<=1000000000):=by show _<=_;simp;omega
      have HL3:Hid (([]++l.take j++[t]).length+(l.drop j).length<=1000000000):=by show _<=_;simp;omega
      have HL4:Hid (([]++l.take j++[t]++l.drop j).length<=B+2):=by show _<=_;simp;omega
      have HOK2:Hid (∀ t2∈[]++l.take j++[t]++l.drop j,FdsAt w0 t2.fa t2.fn):=fun t2 ht=>by
       simp only[List.nil_append,List.mem_append,List.mem_singleton]at ht
       rcases ht with(ht|ht)|ht
       · exact HOK.out t2 (List.mem_of_mem_take ht)
       · rw[ht];exact HFO.out
       · exact HOK.out t2 (List.mem_of_mem_drop ht)
      have HO1:Hid (Own Tb.cells 4 32 (W.alloc (.cells #[] 32)) W.heap.size (.slice (some ⟨W.heap.size,0,none⟩) 0 0) []):=Own.lit (Nat.le_refl _)
      have HX1:Hid (Below W.heap.size W (W.alloc (.cells #[] 32))):=Zab _
      have qq:=(HST.out.kept HX1.out).q
      obtain⟨q0,q1,q2,q3⟩:=qq
      clear hA1 hA2 hlc
      go_upto_region 8 with(first|(at_builtin;refine Za2 elTb encT rfl (.tmp 37) (.tmp 41) rfl rfl rfl HO1.out (HLT.out.kept HX1.out) HTL.out HX1.out.size HL1.out ?_;intro v2 w2 ho hb;have HO2:=hid ho;have HX2:Hid (Below W.heap.size W w2):=HX1.out.trans hb;clear ho hb)|fail)
      refine Zbk (S:=fun w'=>Below W.heap.size W w') 10 (.free 0 (.free 1 (.free 4 (.free 5 (.free 6 (.free 7 (.one 2 (.one 3 (.one 8 (.free 9 (.one 10 .done))))))))))) (by kernel_rfl) (by kernel_rfl) (fun _ _ _ _ _ h=>h) (by kernel_rfl) (by kernel_rfl) (ZD HX2.out) (fun hSS=>?_)
      refine ZaD (hSS) _ (v2) rfl (by rfl) (by intro wq hSw;have KQ:=(HST.out.kept hSw).q;obtain⟨q0,q1,q2,q3⟩:=KQ;go_simp) ?_
      try simp only[Act.put,m1,m2,m3]
      refine ZdR (hSS) _ rfl (by rfl) 32 _ rfl (w.heap.size+1) 0 t.cells rfl (fun w hS j v hj=>by rw[Nat.zero_add];exact(HTB.out.kept hS).cell j v (by rw[List.getElem?_toArray];exact hj)) _ underlying32 rfl (by kernel_rfl) ?_
      intro v1 hv1
      subst hv1
      try simp only[Act.put,m1,m2,m3]
      refine ZaD (hSS) _ (.pointer (some ⟨w.heap.size,0,none⟩)) rfl (by rfl) (by intro wq hSw;have KQ:=(HST.out.kept hSw).q;obtain⟨q0,q1,q2,q3⟩:=KQ;go_simp) ?_
      try simp only[Act.put,m1,m2,m3]
      refine ZaD (hSS) _ (.slice (some ⟨b1,o1,none⟩) l.length tc) rfl (by rfl) (by intro wq hSw;have KQ:=(HST.out.kept hSw).q;obtain⟨q0,q1,q2,q3⟩:=KQ;go_simp) ?_
      try simp only[Act.put,m1,m2,m3]
      refine ZaD (hSS) _ (.int .i64 j) rfl (by rfl) (by intro wq hSw;have KQ:=(HST.out.kept hSw).q;obtain⟨q0,q1,q2,q3⟩:=KQ;go_simp) ?_
      try simp only[Act.put,m1,m2,m3]
      refine ZaD (hSS) _ (.slice A (l.length - j) (tc - j)) rfl (by rfl) (by intro wq hSw;have KQ:=(HST.out.kept hSw).q;obtain⟨q0,q1,q2,q3⟩:=KQ;go_simp) ?_
      try simp only[Act.put,m1,m2,m3]
      refine ZbA _ rfl (by rfl) (fun K hK=>?_)
      refine Zfm elTb (by decide) _ rfl t.cells rfl rfl ?_
      refine hK.out _ _ (fun _=>ZA (ZD HX2.out) _) ?_
      clear hK K
      try simp only[Act.put,m1,m2,m3]
      refine ZbA _ rfl (by rfl) (fun K hK=>?_)
      refine Zc6 (v:=v2) (l:=[]++l.take j) (m:=[t]) (n:=1) (c:=1) (ao:=some ⟨w2.drew.heap.size,0,none⟩) (B:=W.heap.size) elTb encT (.tmp 43) (.tmp 45) (by rfl) (by rfl) (by rfl) ((HO2.out.kept (ZD (ZR _))).kept (Zab _)) (ZaG t _ encT) rfl (Nat.le_trans (ZD HX2.out).size (Zab _).size) HL2.out ?_
      intro v3 w3 ho hb
      have HO3:=hid ho
      have HX3:Hid (Below W.heap.size W w3):=(ZA (ZD HX2.out) _).trans hb
      refine hK.out _ _ (fun _=>HX3.out) ?_
      clear hK K ho hb
      try simp only[Act.put,m1,m2,m3]
      refine ZbA _ rfl (by rfl) (fun K hK=>?_)
      refine Zc6 elTb encT (.tmp 46) (.tmp 50) rfl rfl rfl HO3.out (HLD.out.kept HX3.out) HDL.out HX3.out.size HL3.out ?_
      intro v4 w4 ho hb
      have HX4:Hid (Below W.heap.size W w4):=HX3.out.trans hb
      obtain⟨a5,c5,rfl,hcap,hnil,hl5⟩:=ho.lies encT
      generalize hn5:([]++l.take j++[t]++l.drop j).length=n5
      have H5:Hid (TbsC w0 (B+2) w4 a5 n5 c5):=⟨⟨_,hn5.symm,HL4.out,HOK2.out,hl5⟩,hn5 ▸ hcap,hnil⟩
      have HN5:=hid hn5
      have HL5:=hid hl5
      refine hK.out _ _ (fun _=>HX4.out) ?_
      clear hK K ho hb hcap hnil hl5 hn5
      try simp only[Act.put,m1,m2,m3]
      refine ZaD (HX4.out) _ (.pointer (some ⟨w.heap.size,0,none⟩)) rfl (by rfl) (by intro wq hSw;have KQ:=(HST.out.kept hSw).q;obtain⟨q0,q1,q2,q3⟩:=KQ;go_simp) ?_
      try simp only[Act.put,m1,m2,m3]
      refine ZbA _ rfl (by rfl) (fun K hK=>?_)
      refine Zfl 115 (by kernel_rfl) _ _ rfl rfl (HST.out.kept HX4.out) 0 (by decide) (.slice a5 n5 c5) rfl rfl rfl rfl ⟨a5,n5,c5,fa,fn,fc,da,dn,dc,qa,qn,qc⟩ rfl ⟨H5.out,((HST.out.kept HX4.out).ok.mono (by omega)).f,((HST.out.kept HX4.out).ok.mono (by omega)).d,((HST.out.kept HX4.out).ok.mono (by omega)).q⟩ ?_
      intro w6 hst hot
      have HST2:=hid hst
      have HL6:=hid (TbsL.put HL5.out (HST.out.kept HX4.out).box (ZbS _ _ _ _ _ _ _ _ _ _ _ _) hot)
      refine hK.out _ _ (fun e=>absurd rfl e) ?_
      clear hK K hst hot
      try simp only[Act.put,m1,m2,m3]
      refine ZdS ?_
      have HST:=HST2
      go_wp2_with (first|((with_reducible refine Zaq 118 ?_);refine Zaj rfl 118 _ rfl _ _ 118 rfl HST.out.box _ underlying118 rfl (by kernel_rfl) ?_;intro v hv;obtain rfl:=hv.out)|((with_reducible refine Zal 118 ?_);refine Zav rfl _ _ rfl rfl HST.out _ rfl rfl HST.out.ok ?_;intro w9 hR hotr;have HR:=hid hR;have HOT:=hid hotr;clear hR hotr)|fail)
      (try simp only[Exit.inBlock,Exit.then]);refine bodyPost_ret (Zad rfl rfl HR.out.box underlying118 rfl (by kernel_rfl)) rfl ?_
      exact⟨_,_,rfl,HR.out.ok.mono (by omega),(fun _=>⟨HF5.out,_,HN5.out.symm,TbsL.put HL6.out HST.out.res (ZbS _ _ _ _ _ _ _ _ _ _ _ _) HOT.out,j,by simp⟩),HR.out.below⟩
    · have hd:decide ((j:Int)<(l.length:Int))=false:=by simpa using hjl
      go_upto_region 5 with fail
      go_quiet (fail)
      go_upto_region 7 with fail
      refine Zam (fun W hW=>?_)
      have HRW:Hid (Below V1.heap.size V1 W):=by rw[hW];repeat(first|exact HR.out|refine Zag ?_ _)
      clear hW
      have HST:=hid (HST.out.kept HRW.out)
      have HTB:=hid (HTB.out.kept HRW.out)
      have qq:=HST.out.q
      obtain⟨q0,q1,q2,q3⟩:=qq
      have hlc:=HST.out.ok.t.cap
      dsimp only at hlc
      have hcu:=fun w=>ZbY elTb ta l.length tc j (by omega) w
      obtain⟨A,hcf,hA1,hA2⟩:=ZbZ elTb ta l.length tc j hj
      have HLW:=hid (HL.out.kept HST.out.below)
      have HLT:=hid (HLW.out.take j)
      have HLD:=hid (ZbH HLW.out hlc hA2)
      have HTL:Hid (j=(l.take j).length):=by show _=_;simp;omega
      have HDL:Hid (l.length - j=(l.drop j).length):=by show _=_;simp
      have HL1:Hid (([]:List Tb).length+(l.take j).length<=1000000000):=by show _<=_;simp;omega
      have HL2:Hid (([]++l.take j).length+[t].length<=1000000000):=by show _<=_;simp;omega
      have HL3:Hid (([]++l.take j++[t]).length+(l.drop j).length<=1000000000):=by show _<=_;simp;omega
      have HL4:Hid (([]++l.take j++[t]++l.drop j).length<=B+2):=by show _<=_;simp;omega
      have HOK2:Hid (∀ t2∈[]++l.take j++[t]++l.drop j,FdsAt w0 t2.fa t2.fn):=fun t2 ht=>by
       simp only[List.nil_append,List.mem_append,List.mem_singleton]at ht
       rcases ht with(ht|ht)|ht
       · exact HOK.out t2 (List.mem_of_mem_take ht)
       · rw[ht];exact HFO.out
       · exact HOK.out t2 (List.mem_of_mem_drop ht)
      have HO1:Hid (Own Tb.cells 4 32 (W.alloc (.cells #[] 32)) W.heap.size (.slice (some ⟨W.heap.size,0,none⟩) 0 0) []):=Own.lit (Nat.le_refl _)
      have HX1:Hid (Below W.heap.size W (W.alloc (.cells #[] 32))):=Zab _
      have qq:=(HST.out.kept HX1.out).q
      obtain⟨q0,q1,q2,q3⟩:=qq
      clear hA1 hA2 hlc
      go_upto_region 8 with(first|(at_builtin;refine Za2 elTb encT rfl (.tmp 37) (.tmp 41) rfl rfl rfl HO1.out (HLT.out.kept HX1.out) HTL.out HX1.out.size HL1.out ?_;intro v2 w2 ho hb;have HO2:=hid ho;have HX2:Hid (Below W.heap.size W w2):=HX1.out.trans hb;clear ho hb)|fail)
      refine Zbk (S:=fun w'=>Below W.heap.size W w') 10 (.free 0 (.free 1 (.free 4 (.free 5 (.free 6 (.free 7 (.one 2 (.one 3 (.one 8 (.free 9 (.one 10 .done))))))))))) (by kernel_rfl) (by kernel_rfl) (fun _ _ _ _ _ h=>h) (by kernel_rfl) (by kernel_rfl) (ZD HX2.out) (fun hSS=>?_)
      refine ZaD (hSS) _ (v2) rfl (by rfl) (by intro wq hSw;have KQ:=(HST.out.kept hSw).q;obtain⟨q0,q1,q2,q3⟩:=KQ;go_simp) ?_
      try simp only[Act.put,m1,m2,m3]
      refine ZdR (hSS) _ rfl (by rfl) 32 _ rfl (w.heap.size+1) 0 t.cells rfl (fun w hS j v hj=>by rw[Nat.zero_add];exact(HTB.out.kept hS).cell j v (by rw[List.getElem?_toArray];exact hj)) _ underlying32 rfl (by kernel_rfl) ?_
      intro v1 hv1
      subst hv1
      try simp only[Act.put,m1,m2,m3]
      refine ZaD (hSS) _ (.pointer (some ⟨w.heap.size,0,none⟩)) rfl (by rfl) (by intro wq hSw;have KQ:=(HST.out.kept hSw).q;obtain⟨q0,q1,q2,q3⟩:=KQ;go_simp) ?_
      try simp only[Act.put,m1,m2,m3]
      refine ZaD (hSS) _ (.slice ta l.length tc) rfl (by rfl) (by intro wq hSw;have KQ:=(HST.out.kept hSw).q;obtain⟨q0,q1,q2,q3⟩:=KQ;go_simp) ?_
      try simp only[Act.put,m1,m2,m3]
      refine ZaD (hSS) _ (.int .i64 j) rfl (by rfl) (by intro wq hSw;have KQ:=(HST.out.kept hSw).q;obtain⟨q0,q1,q2,q3⟩:=KQ;go_simp) ?_
      try simp only[Act.put,m1,m2,m3]
      refine ZaD (hSS) _ (.slice A (l.length - j) (tc - j)) rfl (by rfl) (by intro wq hSw;have KQ:=(HST.out.kept hSw).q;obtain⟨q0,q1,q2,q3⟩:=KQ;go_simp) ?_
      try simp only[Act.put,m1,m2,m3]
      refine ZbA _ rfl (by rfl) (fun K hK=>?_)
      refine Zfm elTb (by decide) _ rfl t.cells rfl rfl ?_
      refine hK.out _ _ (fun _=>ZA (ZD HX2.out) _) ?_
      clear hK K
      try simp only[Act.put,m1,m2,m3]
      refine ZbA _ rfl (by rfl) (fun K hK=>?_)
      refine Zc6 (v:=v2) (l:=[]++l.take j) (m:=[t]) (n:=1) (c:=1) (ao:=some ⟨w2.drew.heap.size,0,none⟩) (B:=W.heap.size) elTb encT (.tmp 43) (.tmp 45) (by rfl) (by rfl) (by rfl) ((HO2.out.kept (ZD (ZR _))).kept (Zab _)) (ZaG t _ encT) rfl (Nat.le_trans (ZD HX2.out).size (Zab _).size) HL2.out ?_
      intro v3 w3 ho hb
      have HO3:=hid ho
      have HX3:Hid (Below W.heap.size W w3):=(ZA (ZD HX2.out) _).trans hb
      refine hK.out _ _ (fun _=>HX3.out) ?_
      clear hK K ho hb
      try simp only[Act.put,m1,m2,m3]
      refine ZbA _ rfl (by rfl) (fun K hK=>?_)
      refine Zc6 elTb encT (.tmp 46) (.tmp 50) rfl rfl rfl HO3.out (HLD.out.kept HX3.out) HDL.out HX3.out.size HL3.out ?_
      intro v4 w4 ho hb
      have HX4:Hid (Below W.heap.size W w4):=HX3.out.trans hb
      obtain⟨a5,c5,rfl,hcap,hnil,hl5⟩:=ho.lies encT
      generalize hn5:([]++l.take j++[t]++l.drop j).length=n5
      have H5:Hid (TbsC w0 (B+2) w4 a5 n5 c5):=⟨⟨_,hn5.symm,HL4.out,HOK2.out,hl5⟩,hn5 ▸ hcap,hnil⟩
      have HN5:=hid hn5
      have HL5:=hid hl5
      refine hK.out _ _ (fun _=>HX4.out) ?_
      clear hK K ho hb hcap hnil hl5 hn5
      try simp only[Act.put,m1,m2,m3]
      refine ZaD (HX4.out) _ (.pointer (some ⟨w.heap.size,0,none⟩)) rfl (by rfl) (by intro wq hSw;have KQ:=(HST.out.kept hSw).q;obtain⟨q0,q1,q2,q3⟩:=KQ;go_simp) ?_
      try simp only[Act.put,m1,m2,m3]
      refine ZbA _ rfl (by rfl) (fun K hK=>?_)
      refine Zfl 115 (by kernel_rfl) _ _ rfl rfl (HST.out.kept HX4.out) 0 (by decide) (.slice a5 n5 c5) rfl rfl rfl rfl ⟨a5,n5,c5,fa,fn,fc,da,dn,dc,qa,qn,qc⟩ rfl ⟨H5.out,((HST.out.kept HX4.out).ok.mono (by omega)).f,((HST.out.kept HX4.out).ok.mono (by omega)).d,((HST.out.kept HX4.out).ok.mono (by omega)).q⟩ ?_
      intro w6 hst hot
      have HST2:=hid hst
      have HL6:=hid (TbsL.put HL5.out (HST.out.kept HX4.out).box (ZbS _ _ _ _ _ _ _ _ _ _ _ _) hot)
      refine hK.out _ _ (fun e=>absurd rfl e) ?_
      clear hK K hst hot
      try simp only[Act.put,m1,m2,m3]
      refine ZdS ?_
      have HST:=HST2
      go_wp2_with (first|((with_reducible refine Zaq 118 ?_);refine Zaj rfl 118 _ rfl _ _ 118 rfl HST.out.box _ underlying118 rfl (by kernel_rfl) ?_;intro v hv;obtain rfl:=hv.out)|((with_reducible refine Zal 118 ?_);refine Zav rfl _ _ rfl rfl HST.out _ rfl rfl HST.out.ok ?_;intro w9 hR hotr;have HR:=hid hR;have HOT:=hid hotr;clear hR hotr)|fail)
      (try simp only[Exit.inBlock,Exit.then]);refine bodyPost_ret (Zad rfl rfl HR.out.box underlying118 rfl (by kernel_rfl)) rfl ?_
      exact⟨_,_,rfl,HR.out.ok.mono (by omega),(fun _=>⟨HF5.out,_,HN5.out.symm,TbsL.put HL6.out HST.out.res (ZbS _ _ _ _ _ _ _ _ _ _ _ _) HOT.out,j,by simp⟩),HR.out.below⟩
theorem tables_any (c:Ct)(w w0:World)(hw0:Below w0.heap.size w0 w)(B:Nat)(hB:B<=1000)(h:c.Ok w0 B w):Calls prog 169 #[c.val] w (GotI w):=by
 obtain⟨ta,tn,tc,fa,fn,fc,da,dn,dc,qa,qn,qc⟩:=c
 have hB2:B<=100000:=by omega
 dsimp only[Ct.val]
 have HOK:=hid h
 have HW0:=hid hw0
 obtain⟨⟨l,rfl,hl,hok,h1⟩,hcap,-⟩:=h.t
 have H1:=hid h1
 have HTOK:=hid hok
 clear h1 hok h hw0
 dsimp only at H1 hcap
 go_enter func169,ntmps169
 go_upto_region 1 with fail
 refine Zam (fun V hV=>?_)
 have B0:Hid (Box V w.heap.size #[.slice ta l.length tc,.slice fa fn fc,.slice da dn dc,.slice qa qn qc] 118):=by rw[hV];exact ZaE _ _ _
 have HBV:Hid (Below w.heap.size w V):=by rw[hV];exact Zab _
 clear hV
 have HQ:Hid (∀ w',Below V.heap.size V w'->w'.cell? ⟨w.heap.size,0,none⟩=some (.slice ta l.length tc)/\w'.cell? ⟨w.heap.size,1,none⟩=some (.slice fa fn fc)/\w'.cell? ⟨w.heap.size,2,none⟩=some (.slice da dn dc)/\w'.cell? ⟨w.heap.size,3,none⟩=some (.slice qa qn qc)):=fun w' h=>⟨(B0.out.kept h).cell 0 _ rfl,(B0.out.kept h).cell 1 _ rfl,(B0.out.kept h).cell 2 _ rfl,(B0.out.kept h).cell 3 _ rfl⟩
 have HWV:Hid (Below w0.heap.size w0 V):=HW0.out.trans (HBV.out.mono HW0.out.size)
 have qq:=HQ.out _ (ZR V)
 obtain⟨q0,q1,q2,q3⟩:=qq
 go_wp2_with fail
 go_loopw [3] (fun v wr=>∃ i:Nat,i<=l.length/\v=.int .i64 i/\Hid (Below V.heap.size V wr)) (fun v _=>l.length - (intOf v).toNat)
 case atStart=>exact⟨0,by omega,rfl,ZR V⟩
 case round =>
  obtain⟨i,hi,rfl,HR⟩:=hrel
  rename World=>wr
  have qq:=HQ.out _ HR.out
  obtain⟨q0,q1,q2,q3⟩:=qq
  by_cases hlt:i<l.length
  · obtain⟨x,hx⟩:∃ x,l[i]?=some x:=⟨l[i],List.getElem?_eq_getElem hlt⟩
    obtain⟨b1,o1,rfl,hr1⟩:=(H1.out.kept (ZT HBV.out HR.out)).some (by omega)
    have HC:Hid (∀ j v,(Tb.cells x)[j]?=some v->wr.cell? ⟨b1,o1+i*4+j,none⟩=some v):=fun j v hj=>hr1 i x hx j v hj
    have HR1:=hid hr1
    have HXI:=hid hx
    have HX:Hid (FdsAt w0 x.fa x.fn):=HTOK.out x (List.mem_of_getElem? hx)
    clear hr1 hx
    go_upto_region 7 with(first|((with_reducible refine Zaq 32 ?_);refine Zas rfl 32 _ rfl b1 (o1+i*4) (Tb.cells x) rfl HC.out _ underlying32 rfl (by kernel_rfl) ?_;intro v hv;obtain rfl:=hv.out)|(go_at_call 188;refine(table_any _ _ _ _ _ _ _ (HX.out.kept (HWV.out.trans (Below.mono HR.out HWV.out.size)))).mono ?_;rintro e w' ⟨r,rfl,hb⟩;have HR2:Hid (Below V.heap.size V w'):=ZT HR.out hb;have hbw:=hid hb;clear hb;have qq:=HQ.out _ HR2.out;obtain⟨q0,q1,q2,q3⟩:=qq;rcases Za6 r with rfl|hr0)|fail)
    all_goals first
     |(go_ret;exact⟨_,rfl,ZT HBV.out (by repeat(first|exact ZR _|exact ZH (by assumption)|refine ZA ?_ _|refine ZD ?_|refine ZN ?_ _|refine Zag ?_ _))⟩)
     |skip
    all_goals
     cases i with
     |zero =>
      go_quiet (fail)
      go_wp2_with fail
      all_goals(go_roundw;(case rel=>exact⟨1,by omega,by go_num,hid (by repeat(first|exact ZR _|exact ZH (by assumption)|refine ZA ?_ _|refine ZD ?_|refine ZN ?_ _|refine Zag ?_ _))⟩);(case measure=>simp[intOf];omega))
     |succ k =>
      obtain⟨y,hy⟩:∃ y,l[k]?=some y:=⟨l[k],List.getElem?_eq_getElem (by omega)⟩
      have c0:=Zaa (Tb.cell HR1.out HXI.out).1 (ZT (ZR _) hbw.out)
      have d0:=Zaa (Tb.cell HR1.out hy).1 hbw.out
      clear hy
      have hw1:IntKind.i64.wrap (((k+1:Nat):Int) - 1)=(k:Int):=by rw[show(((k+1:Nat):Int) - 1)=(k:Int) by omega];exact IntWalk.i64_in _ (by omega)
      have hd1:decide ((0:Int)<((k+1:Nat):Int))=true:=by simp
      go_quiet (fail)
      go_wp2_with fail
      all_goals first
       |(go_ret;exact⟨_,rfl,ZT HBV.out (by repeat(first|exact ZR _|exact ZH (by assumption)|refine ZA ?_ _|refine ZD ?_|refine ZN ?_ _|refine Zag ?_ _))⟩)
       |(go_roundw;(case rel=>exact⟨k+1+1,by omega,by go_num,hid (by repeat(first|exact ZR _|exact ZH (by assumption)|refine ZA ?_ _|refine ZD ?_|refine ZN ?_ _|refine Zag ?_ _))⟩);(case measure=>simp[intOf];omega))
  · go_wp2_with fail
    go_ret
    exact⟨_,rfl,ZT HBV.out HR.out⟩
def StrsW (w:World)(a:Option Addr)(n c:Nat):Prop:=∃ l:List ByteArray,n=l.length/\l.length<=c/\(a=none->c=0)/\Zaf (fun s:ByteArray=>[Value.string s]) 1 w a l
theorem StrsW.kept {w w':World}{a:Option Addr}{n c:Nat}(h:StrsW w a n c)(hb:Below w.heap.size w w'):StrsW w' a n c:=let ⟨l,h1,h2,h3,h4⟩:=h;⟨l,h1,h2,h3,h4.kept hb⟩
theorem StrsW.nil (w:World):StrsW w none 0 0:=⟨[],rfl,Nat.le_refl _,fun _=>rfl,Zaf.nil _ _⟩
theorem StrsW.own {w:World}{B:Nat}{v:Value}{l:List ByteArray}(h:Own (fun s:ByteArray=>[Value.string s]) 1 9 w B v l):∃ a c,v=.slice a l.length c/\StrsW w a l.length c :=
 let ⟨a,c,h1,h2,h3,h4⟩:=h.lies encS;⟨a,c,h1,l,rfl,h2,h3,h4⟩
def ZeZ (m:Nat)(w:World)(e:Ending)(w':World):Prop:=∃ a n c,e=.returned (.slice a n c)/\StrsW w' a n c/\n<=m/\Below w.heap.size w w'
theorem in12_any (a:Option Addr)(n c:Nat)(s:ByteArray)(hn:n<=100000000)(w:World)(h:StrsW w a n c):Calls prog 208 #[.slice a n c,.string s] w (GotB w):=by
 obtain⟨l,rfl,hlc,hcn,h1⟩:=h
 have H:=hid h1
 clear h1 hcn
 go_enter func208,ntmps208
 go_wp2_with fail
 go_loop [5] (fun v=>∃ j:Nat,j<=l.length/\v=.int .i64 j) (fun v=>l.length - (intOf v).toNat)
 case atStart=>exact⟨0,by omega,rfl⟩
 case round =>
  obtain⟨j,hj,rfl⟩:=hrel
  by_cases hjl:j<l.length
  · obtain⟨t,ht⟩:∃ t,l[j]?=some t:=⟨l[j],List.getElem?_eq_getElem hjl⟩
    obtain⟨b2,o2,rfl,hr2⟩:=H.out.some (by omega)
    have d0:=Zbt hr2 ht
    clear hr2 ht
    go_wp2_with fail
    all_goals first
     |(go_round;(case rel=>exact⟨j+1,by omega,by go_num⟩);(case measure=>simp[intOf];omega))
     |(go_ret;exact⟨_,rfl,ZR _⟩)
  · go_wp2_with fail
    go_ret
    exact⟨_,rfl,ZR _⟩
theorem Zfh (a:Option Addr)(n c:Nat)(s:ByteArray)(hn:n<=100000000)(w:World)(h:StrsW w a n c):Calls prog 216 #[.slice a n c,.string s] w (ZeZ (n+1) w):=by
 have HLW:=hid h
 obtain⟨l,rfl,hlc,hcn,h1⟩:=h
 have H:=hid h1
 have HCN:=hid hcn
 clear h1 hcn
 go_enter func216,ntmps216
 go_wp2_with fail
 go_loop [5] (fun v=>∃ j:Nat,j<=l.length/\v=.int .i64 j) (fun v=>l.length - (intOf v).toNat)
 case atStart=>exact⟨0,by omega,rfl⟩
 case round =>
  obtain⟨j,hj,rfl⟩:=hrel
  by_cases hjl:j<l.length
  · obtain⟨t,ht⟩:∃ t,l[j]?=some t:=⟨l[j],List.getElem?_eq_getElem hjl⟩
    obtain⟨b2,o2,rfl,hr2⟩:=H.out.some (by omega)
    have d0:=Zbt hr2 ht
    clear hr2 ht
    have hcu:=fun w=>ZbY elS (some ⟨b2,o2,none⟩) l.length c j (by omega) w
    obtain⟨A,hcf,hA1,hA2⟩:=ZbZ elS (some ⟨b2,o2,none⟩) l.length c j hj
    have HLT:=hid (H.out.take j)
    have HLD:=hid (ZbH H.out hlc hA2)
    have HTL:Hid (j=(l.take j).length):=by show _=_;simp;omega
    have HDL:Hid (l.length - j=(l.drop j).length):=by show _=_;simp
    have HL1:Hid (([]:List ByteArray).length+(l.take j).length<=1000000000):=by show _<=_;simp;omega
    have HL2:Hid (([]++l.take j).length+[s].length<=1000000000):=by show _<=_;simp;omega
    have HL3:Hid (([]++l.take j++[s]).length+(l.drop j).length<=1000000000):=by show _<=_;simp;omega
    have HL4:Hid (([]++l.take j++[s]++l.drop j).length<=l.length+1):=by show _<=_;simp;omega
    have HCD:Hid (A=none->c - j=0):=fun e=>by have:=HCN.out (hA1 e);omega
    have HO1:Hid (Own (fun s:ByteArray=>[Value.string s]) 1 9 (w.alloc (.cells #[] 9)) w.heap.size (.slice (some ⟨w.heap.size,0,none⟩) 0 0) []):=Own.lit (Nat.le_refl _)
    have HX1:Hid (Below w.heap.size w (w.alloc (.cells #[] 9))):=Zab _
    clear hA1 hA2
    go_wp2_with (first|(at_builtin;first|(refine Zay elS encS rfl (.tmp 34) (.tmp 37) rfl rfl rfl HO1.out (HLT.out.kept HX1.out) HTL.out HCN.out HX1.out.size HL1.out ?_;intro v1 w1 ho hb;have HO2:=hid ho;have HX2:=hid (HX1.out.trans hb);clear ho hb)|(refine Zay elS encS rfl (.tmp 39) (.tmp 41) rfl rfl rfl (HO2.out.kept (Zab _)) (ZaG _ _ encS) rfl (fun e=>by cases e) (Nat.le_trans HX2.out.size (Zab _).size) HL2.out ?_;intro v2 w2 ho hb;have HO3:=hid ho;have HX3:Hid (Below w.heap.size w w2):=hid ((HX2.out.alloc HX2.out.size _).trans hb);clear ho hb)|(refine Zay elS encS rfl (.tmp 43) (.tmp 46) rfl rfl rfl HO3.out (HLD.out.kept HX3.out) HDL.out HCD.out HX3.out.size HL3.out ?_;intro v3 w3 ho hb;have HO4:=hid ho;have HX4:=hid (HX3.out.trans hb);clear ho hb)|fail)|fail)
    all_goals first
     |(go_round;(case rel=>exact⟨j+1,by omega,by go_num⟩);(case measure=>simp[intOf];omega))
     |(go_ret;exact⟨_,_,_,rfl,HLW.out,by omega,ZR _⟩)
     |(obtain⟨a5,c5,rfl,h5⟩:=StrsW.own HO4.out;go_ret;exact⟨_,_,_,rfl,h5,HL4.out,HX4.out⟩)
  · skip
    have hcu:=fun w=>ZbY elS a l.length c j (by omega) w
    obtain⟨A,hcf,hA1,hA2⟩:=ZbZ elS a l.length c j hj
    have HLT:=hid (H.out.take j)
    have HLD:=hid (ZbH H.out hlc hA2)
    have HTL:Hid (j=(l.take j).length):=by show _=_;simp;omega
    have HDL:Hid (l.length - j=(l.drop j).length):=by show _=_;simp
    have HL1:Hid (([]:List ByteArray).length+(l.take j).length<=1000000000):=by show _<=_;simp;omega
    have HL2:Hid (([]++l.take j).length+[s].length<=1000000000):=by show _<=_;simp;omega
    have HL3:Hid (([]++l.take j++[s]).length+(l.drop j).length<=1000000000):=by show _<=_;simp;omega
    have HL4:Hid (([]++l.take j++[s]++l.drop j).length<=l.length+1):=by show _<=_;simp;omega
    have HCD:Hid (A=none->c - j=0):=fun e=>by have:=HCN.out (hA1 e);omega
    have HO1:Hid (Own (fun s:ByteArray=>[Value.string s]) 1 9 (w.alloc (.cells #[] 9)) w.heap.size (.slice (some ⟨w.heap.size,0,none⟩) 0 0) []):=Own.lit (Nat.le_refl _)
    have HX1:Hid (Below w.heap.size w (w.alloc (.cells #[] 9))):=Zab _
    clear hA1 hA2
    go_wp2_with (first|(at_builtin;first|(refine Zay elS encS rfl (.tmp 34) (.tmp 37) rfl rfl rfl HO1.out (HLT.out.kept HX1.out) HTL.out HCN.out HX1.out.size HL1.out ?_;intro v1 w1 ho hb;have HO2:=hid ho;have HX2:=hid (HX1.out.trans hb);clear ho hb)|(refine Zay elS encS rfl (.tmp 39) (.tmp 41) rfl rfl rfl (HO2.out.kept (Zab _)) (ZaG _ _ encS) rfl (fun e=>by cases e) (Nat.le_trans HX2.out.size (Zab _).size) HL2.out ?_;intro v2 w2 ho hb;have HO3:=hid ho;have HX3:Hid (Below w.heap.size w w2):=hid ((HX2.out.alloc HX2.out.size _).trans hb);clear ho hb)|(refine Zay elS encS rfl (.tmp 43) (.tmp 46) rfl rfl rfl HO3.out (HLD.out.kept HX3.out) HDL.out HCD.out HX3.out.size HL3.out ?_;intro v3 w3 ho hb;have HO4:=hid ho;have HX4:=hid (HX3.out.trans hb);clear ho hb)|fail)|fail)
    all_goals first
     |(go_ret;exact⟨_,_,_,rfl,HLW.out,by omega,ZR _⟩)
     |(obtain⟨a5,c5,rfl,h5⟩:=StrsW.own HO4.out;go_ret;exact⟨_,_,_,rfl,h5,HL4.out,HX4.out⟩)
def DirPost (m k:Nat)(w:World)(e:Ending)(w':World):Prop:=∃ a n c a2 n2 c2,e=.returned (.tuple #[.slice a n c,.slice a2 n2 c2])/\StrsW w' a n c/\StrsW w' a2 n2 c2/\n<=m/\n2<=k/\Below w.heap.size w w'
theorem sum_take_step {cs:List Nat}{i d:Nat}(h:cs[i]?=some d):(cs.take (i+1)).sum=(cs.take i).sum+d:=by
 rw[List.take_add_one,h];simp
theorem Ze7 (cs:List Nat)(i:Nat):(cs.take i).sum<=cs.sum:=by
 conv=>rhs;rw[<-List.take_append_drop i cs]
 rw[List.sum_append];omega
theorem direct_any:∀ (n d:Nat) (x:Ex) (w:World),ExNd n d w x->∀ (fa:Option Addr) (fn fc:Nat) (ta:Option Addr) (tn tc:Nat),StrsW w fa fn fc->StrsW w ta tn tc->fn+d<=1000000->tn+d<=1000000->Calls prog 218 #[x.val,.slice fa fn fc,.slice ta tn tc] w (DirPost (fn+d) (tn+d) w)
 |0,_,_,_,h=>h.elim
 |n+1,d,⟨x_k,x_o,x_m,x_t,x_vk,x_vn,x_vs,x_ua,x_un,x_uc,x_p,x_wk,x_wz,x_xa,x_xn,x_xc⟩,w,h=>by
  intro fa fn fc ta tn tc hf ht hfn htn
  have ih:=hid (direct_any n)
  obtain⟨-,-,xs,cs,hxn,hxl,hl,hcl,hcs,hy⟩:=h
  dsimp only at hxn hl
  subst hxn
  have HL:=hid hl
  have HYS:=hid hy
  have HCL:=hid hcl
  have HF0:=hid hf
  have HT0:=hid ht
  clear hl hy hf ht hcl
  dsimp only[Ex.val]
  go_enter func218,ntmps218
  go_upto_region 1 with fail
  refine Zam (fun V hV=>?_)
  have B0:Hid (Box V w.heap.size #[.int .i64 x_k,.string x_o,.string x_m,.string x_t,.int .i64 x_vk,.int .i64 x_vn,.string x_vs,.slice x_ua x_un x_uc,.int .i64 x_p,.int .i64 x_wk,.int .i64 x_wz,.slice x_xa xs.length x_xc] 42):=by rw[hV];exact ZaE _ _ _
  have HBV:Hid (Below w.heap.size w V):=by rw[hV];exact(by repeat first|exact ZR _|refine ZA ?_ _)
  clear hV
  have HS:Hid (∀ w',Below V.heap.size V w'->w'.cell? ⟨w.heap.size,0,none⟩=some (.int .i64 x_k)/\w'.cell? ⟨w.heap.size,1,none⟩=some (.string x_o)/\w'.cell? ⟨w.heap.size,2,none⟩=some (.string x_m)/\w'.cell? ⟨w.heap.size,3,none⟩=some (.string x_t)/\w'.cell? ⟨w.heap.size,4,none⟩=some (.int .i64 x_vk)/\w'.cell? ⟨w.heap.size,5,none⟩=some (.int .i64 x_vn)/\w'.cell? ⟨w.heap.size,6,none⟩=some (.string x_vs)/\w'.cell? ⟨w.heap.size,7,none⟩=some (.slice x_ua x_un x_uc)/\w'.cell? ⟨w.heap.size,8,none⟩=some (.int .i64 x_p)/\w'.cell? ⟨w.heap.size,9,none⟩=some (.int .i64 x_wk)/\w'.cell? ⟨w.heap.size,10,none⟩=some (.int .i64 x_wz)/\w'.cell? ⟨w.heap.size,11,none⟩=some (.slice x_xa xs.length x_xc)):=fun w' h=>⟨(B0.out.kept h).cell 0 _ rfl,(B0.out.kept h).cell 1 _ rfl,(B0.out.kept h).cell 2 _ rfl,(B0.out.kept h).cell 3 _ rfl,(B0.out.kept h).cell 4 _ rfl,(B0.out.kept h).cell 5 _ rfl,(B0.out.kept h).cell 6 _ rfl,(B0.out.kept h).cell 7 _ rfl,(B0.out.kept h).cell 8 _ rfl,(B0.out.kept h).cell 9 _ rfl,(B0.out.kept h).cell 10 _ rfl,(B0.out.kept h).cell 11 _ rfl⟩
  obtain⟨k0_0,k0_1,k0_2,k0_3,k0_4,k0_5,k0_6,k0_7,k0_8,k0_9,k0_10,k0_11⟩:=HS.out V (ZR V)
  generalize hn:xs.length=xn at *
  have HN:=hid hn
  clear hn
  have HF1:Hid (StrsW V fa fn fc):=HF0.out.kept HBV.out
  have HT1:Hid (StrsW V ta tn tc):=HT0.out.kept HBV.out
  go_cut [16] (fun v wx=>∃ q:Bool,v=.bool q/\Hid (Below V.heap.size V wx))
  case first =>
   obtain⟨q3,e3⟩:∃ q,(x_k==3)=q:=⟨_,rfl⟩
   obtain⟨q4,e4⟩:∃ q,(x_k==4)=q:=⟨_,rfl⟩
   cases q3<;>cases q4
   all_goals
    go_wp2_with fail
    go_meet
    case rel=>exact⟨_,rfl,ZR V⟩
  case rest =>
   obtain⟨q34,rfl,HW⟩:=hcut
   rename World=>w3
   have KK:=HS.out _ HW.out
   obtain⟨k0_0,k0_1,k0_2,k0_3,k0_4,k0_5,k0_6,k0_7,k0_8,k0_9,k0_10,k0_11⟩:=KK
   go_upto_if 16 with fail
   go_cut [1] (fun v wx=>∃ a q c,v=.slice a q c/\q<=fn+1/\Hid (StrsW wx a q c)/\Hid (Below V.heap.size V wx))
   case first =>
    cases q34
    all_goals
     go_wp2_with (first|(go_at_call 216;refine(Zfh _ _ _ _ (by omega) _ (HF1.out.kept HW.out)).mono ?_;rintro e w' ⟨a5,n5,c5,rfl,hs,hm,hb⟩;have HP:=hid hs;have HW2:Hid (Below V.heap.size V w'):=ZT HW.out hb;clear hs hb)|fail)
     go_meet
     case rel=>first|exact⟨_,_,_,rfl,hm,HP.out,HW2.out⟩|exact⟨_,_,_,rfl,by omega,HF1.out.kept HW.out,HW.out⟩
   case rest =>
    clear HW
    obtain⟨a1,q1,c1,rfl,hq1,HA1,HW⟩:=hcut
    rename World=>w4
    have KK:=HS.out _ HW.out
    obtain⟨k0_0,k0_1,k0_2,k0_3,k0_4,k0_5,k0_6,k0_7,k0_8,k0_9,k0_10,k0_11⟩:=KK
    go_upto_if 23 with fail
    go_cut [2] (fun v wx=>∃ a q c,v=.slice a q c/\q<=tn+1/\Hid (StrsW wx a q c)/\Hid (StrsW wx a1 q1 c1)/\Hid (Below V.heap.size V wx))
    case first =>
     obtain⟨q5,e5⟩:∃ q,(x_k==5)=q:=⟨_,rfl⟩
     cases q5
     all_goals
      go_wp2_with (first|(go_at_call 216;refine(Zfh _ _ _ _ (by omega) _ (HT1.out.kept (by repeat first|exact ZR _|exact ZH (by assumption)|refine ZA ?_ _|refine ZD ?_|refine ZN ?_ _))).mono ?_;rintro e w' ⟨a5,n5,c5,rfl,hs,hm,hb⟩;have HP:=hid hs;have HA2:=hid (HA1.out.kept hb);have HW2:Hid (Below V.heap.size V w'):=ZT (by repeat first|exact ZR _|exact ZH (by assumption)|refine ZA ?_ _|refine ZD ?_|refine ZN ?_ _) hb;clear hs hb)|fail)
     all_goals
      go_meet
      case rel=>first|exact⟨_,_,_,rfl,hm,HP.out,HA2.out,HW2.out⟩|exact⟨_,_,_,rfl,by omega,HT1.out.kept HW.out,HA1.out,HW.out⟩
    case rest =>
     clear HA1 HW HF1 HT1
     obtain⟨a2,q2,c2,rfl,hq2,HA2,HA1,HW⟩:=hcut
     rename World=>w5
     go_wp2_with fail
     go_loopw [1,2,8] (fun u v jj wr=>∃ (i:Nat) (a:Option Addr) (q c:Nat) (a2:Option Addr) (q2 c2:Nat),u=.slice a q c/\v=.slice a2 q2 c2/\i<=xn/\jj=.int .i64 i/\q<=fn+1+(cs.take i).sum/\q2<=tn+1+(cs.take i).sum/\Hid (StrsW wr a q c)/\Hid (StrsW wr a2 q2 c2)/\Hid (Below V.heap.size V wr)) (fun _ _ jj _=>xn - (intOf jj).toNat)
     case atStart=>exact⟨0,_,_,_,_,_,_,rfl,rfl,by omega,rfl,by simpa using hq1,by simpa using hq2,HA1,HA2,HW⟩
     case round =>
      clear HA1 HA2 HW hq1 hq2
      obtain⟨i,a1,q1,c1,a2,q2,c2,rfl,rfl,hi,rfl,hq1,hq2,HA1,HA2,HW⟩:=hrel
      have KK:=HS.out _ HW.out
      obtain⟨k0_0,k0_1,k0_2,k0_3,k0_4,k0_5,k0_6,k0_7,k0_8,k0_9,k0_10,k0_11⟩:=KK
      by_cases hlt:i<xn
      · obtain⟨y,hy⟩:∃ y,xs[i]?=some y:=⟨xs[i]'(by have:=HN.out;omega),List.getElem?_eq_getElem _⟩
        obtain⟨dd,hd⟩:∃ dd,cs[i]?=some dd:=⟨cs[i]'(by have:=HN.out;have:=HCL.out;omega),List.getElem?_eq_getElem _⟩
        obtain⟨b1,o1,rfl,hr1⟩:=((HL.out.kept HBV.out).kept HW.out).some (by have:=HN.out;omega)
        obtain⟨e0,e1,e2,e3,e4,e5,e6,e7,e8,e9,e10,e11⟩:=Ex.cell hr1 hy
        have HY:=hid (HYS.out i y dd hy hd)
        have hs1:=sum_take_step hd
        have hs2:=Ze7 cs (i+1)
        clear hr1 hy hd
        go_wp2_with (first|(go_at_call 218;refine(ih.out dd y _ ((HY.out.kept HBV.out).kept (by repeat first|exact ZR _|exact ZH (by assumption)|refine ZA ?_ _|refine ZD ?_|refine ZN ?_ _)) _ _ _ _ _ _ (HA1.out.kept (by repeat first|exact ZR _|exact ZH (by assumption)|refine ZA ?_ _|refine ZD ?_|refine ZN ?_ _)) (HA2.out.kept (by repeat first|exact ZR _|exact ZH (by assumption)|refine ZA ?_ _|refine ZD ?_|refine ZN ?_ _)) (by omega) (by omega)).mono ?_;rintro e w' ⟨a5,n5,c5,a6,n6,c6,rfl,h5,h6,hm5,hm6,hb⟩;have HP5:=hid h5;have HP6:=hid h6;have HW6:Hid (Below V.heap.size V w'):=ZT (by repeat first|exact ZR _|exact ZH (by assumption)|refine ZA ?_ _|refine ZD ?_|refine ZN ?_ _) hb;clear h5 h6 hb)|fail)
        go_roundw
        case rel=>exact⟨i+1,_,_,_,_,_,_,rfl,rfl,by omega,by go_num,by omega,by omega,HP5.out,HP6.out,HW6.out⟩
        case measure=>simp[intOf];omega
      · have hs2:=Ze7 cs i
        go_wp2_with fail
        go_ret2
        exact⟨_,_,_,_,_,_,rfl,HA1.out,HA2.out,by omega,by omega,ZT HBV.out HW.out⟩
theorem names12_any (c_ta:Option Addr)(c_tn:Nat)(c_tc:Nat)(c_fa:Option Addr)(c_fn:Nat)(c_fc:Nat)(c_da:Option Addr)(c_dn:Nat)(c_dc:Nat)(c_qa:Option Addr)(c_qn:Nat)(c_qc:Nat)(w:World)(B:Nat)(hB:B<=100000)(h:FtsAt B w c_fa c_fn):Calls prog 206 #[.agg #[.slice c_ta c_tn c_tc,.slice c_fa c_fn c_fc,.slice c_da c_dn c_dc,.slice c_qa c_qn c_qc]] w (ZeZ B w):=by
 obtain⟨l,rfl,hl,-,h1⟩:=h
 have H1:=hid h1
 clear h1
 go_enter func206,ntmps206
 go_upto_region 1 with fail
 refine Zam (fun V hV=>?_)
 have B0:Hid (Box V w.heap.size #[.slice c_ta c_tn c_tc,.slice c_fa l.length c_fc,.slice c_da c_dn c_dc,.slice c_qa c_qn c_qc] 118):=by rw[hV];exact ZaE _ _ _
 have HBV:Hid (Below w.heap.size w V):=by rw[hV];exact(by repeat first|exact ZR _|refine ZA ?_ _)
 clear hV
 have HS:Hid (∀ w',Below V.heap.size V w'->w'.cell? ⟨w.heap.size,0,none⟩=some (.slice c_ta c_tn c_tc)/\w'.cell? ⟨w.heap.size,1,none⟩=some (.slice c_fa l.length c_fc)/\w'.cell? ⟨w.heap.size,2,none⟩=some (.slice c_da c_dn c_dc)/\w'.cell? ⟨w.heap.size,3,none⟩=some (.slice c_qa c_qn c_qc)):=fun w' h=>⟨(B0.out.kept h).cell 0 _ rfl,(B0.out.kept h).cell 1 _ rfl,(B0.out.kept h).cell 2 _ rfl,(B0.out.kept h).cell 3 _ rfl⟩
 obtain⟨k0_0,k0_1,k0_2,k0_3⟩:=HS.out V (ZR V)
 go_wp2_with fail
 go_loopw [3,4] (fun v jj wr=>∃ (i:Nat) (a:Option Addr) (n c:Nat),v=.slice a n c/\i<=l.length/\jj=.int .i64 i/\n<=i/\Hid (StrsW wr a n c)/\Hid (Below V.heap.size V wr)) (fun _ jj _=>l.length - (intOf jj).toNat)
 case atStart=>exact⟨0,_,_,_,rfl,by omega,rfl,Nat.le_refl _,StrsW.nil _,ZR V⟩
 case round =>
  obtain⟨i,a,n,c,rfl,hi,rfl,hn,HA,HW⟩:=hrel
  have KK:=HS.out _ HW.out
  obtain⟨k0_0,k0_1,k0_2,k0_3⟩:=KK
  by_cases hlt:i<l.length
  · obtain⟨x,hx⟩:∃ x,l[i]?=some x:=⟨l[i],List.getElem?_eq_getElem hlt⟩
    obtain⟨b1,o1,rfl,hr1⟩:=(H1.out.kept (ZT HBV.out HW.out)).some (by omega)
    have c0:=Ft.name hr1 hx
    clear hr1 hx
    go_wp2_with (first|(go_at_call 216;refine(Zfh _ _ _ _ (by omega) _ (HA.out.kept (by repeat first|exact ZR _|exact ZH (by assumption)|refine ZA ?_ _|refine ZD ?_|refine ZN ?_ _))).mono ?_;rintro e w' ⟨a5,n5,c5,rfl,hs,hm,hb⟩;have HP:=hid hs;have HW2:Hid (Below V.heap.size V w'):=ZT (by repeat first|exact ZR _|exact ZH (by assumption)|refine ZA ?_ _|refine ZD ?_|refine ZN ?_ _) hb;clear hs hb)|fail)
    go_roundw
    case rel=>exact⟨i+1,_,_,_,rfl,by omega,by go_num,by omega,HP.out,HW2.out⟩
    case measure=>simp[intOf];omega
  · go_wp2_with fail
    go_ret
    exact⟨_,_,_,rfl,HA.out,by omega,ZT HBV.out HW.out⟩
end Go.Proofs.YtfnpfkgmacaboaaGreat
