/- Texts joined by a program. -/
import Derived.Test.YtfnpfkgmacaboaaGreatM31
namespace Go.Proofs.YtfnpfkgmacaboaaGreat
open Go.Proofs.Tryz
open Lib (hid)
open Go.ChangeShapes Go.WideShapes Go.ChangeAt Go.RowKit
set_option linter.unusedVariables false
set_option linter.unusedSimpArgs false
set_option maxRecDepth 100000
set_option maxHeartbeats 4000000
theorem operation_any (s_cta:Option Addr)(s_ctn:Nat)(s_ctc:Nat)(s_cfa:Option Addr)(s_cfn:Nat)(s_cfc:Nat)(s_cda:Option Addr)(s_cdn:Nat)(s_cdc:Nat)(s_cqa:Option Addr)(s_cqn:Nat)(s_cqc:Nat)(s_e:ByteArray)(s_tm:ByteArray)(s_te:ByteArray)(s_tfa:Option Addr)(s_tfn:Nat)(s_tfc:Nat)(s_tp:Int)(x_k:Int)(x_o:ByteArray)(x_m:ByteArray)(x_t:ByteArray)(x_vk:Int)(x_vn:Int)(x_vs:ByteArray)(x_ua:Option Addr)(x_un:Nat)(x_uc:Nat)(x_p:Int)(x_wk:Int)(x_wz:Int)(x_xa:Option Addr)(x_xn:Nat)(x_xc:Nat)(la:Option Addr)(ln:Nat)(lc:Nat)(w:World)(w0:World)(hw0:Below w0.heap.size w0 w)(B:Nat)(hB:B<=100000)(hft:FtsW w0 B w s_cfa s_cfn)(hfd:FdsAt w0 s_tfa s_tfn)(hxu:Zao w0 x_ua x_un)(ht:TysW w0 w la ln)(hk:1<=x_k/\x_k<=9)(hn:ln=arity x_k):Calls prog 215 #[.agg #[.slice s_cta s_ctn s_ctc,.slice s_cfa s_cfn s_cfc,.slice s_cda s_cdn s_cdc,.slice s_cqa s_cqn s_cqc,.string s_e,.string s_tm,.string s_te,.slice s_tfa s_tfn s_tfc,.int .i64 s_tp],.agg #[.int .i64 x_k,.string x_o,.string x_m,.string x_t,.int .i64 x_vk,.int .i64 x_vn,.string x_vs,.slice x_ua x_un x_uc,.int .i64 x_p,.int .i64 x_wk,.int .i64 x_wz,.slice x_xa x_xn x_xc],.slice la ln lc] w (Zaz w0 w):=by
 have HT:=hid ht
 have HFT0:=hid hft
 have HFD:=hid hfd
 have HXU:=hid hxu
 have HW0:=hid hw0
 clear ht hft hfd hxu hw0
 go_enter func215,ntmps215
 go_upto_region 1 with fail
 refine Zam (fun V hV=>?_)
 have B0:Hid (Box V w.heap.size #[.slice s_cta s_ctn s_ctc,.slice s_cfa s_cfn s_cfc,.slice s_cda s_cdn s_cdc,.slice s_cqa s_cqn s_cqc,.string s_e,.string s_tm,.string s_te,.slice s_tfa s_tfn s_tfc,.int .i64 s_tp] 242):=by rw[hV];exact Zdh _ _ _ _ _ _ _
 have B1:Hid (Box V (w.heap.size+1) #[.int .i64 x_k,.string x_o,.string x_m,.string x_t,.int .i64 x_vk,.int .i64 x_vn,.string x_vs,.slice x_ua x_un x_uc,.int .i64 x_p,.int .i64 x_wk,.int .i64 x_wz,.slice x_xa x_xn x_xc] 42):=by rw[hV];exact Zdg _ _ _ _ _ _ _
 have B2:Hid (Box V (w.heap.size+1+1) #[.int .i64 0,.slice none 0 0,.string ⟨#[]⟩] 35):=by rw[hV];exact Zdf _ _ _ _ _ _ _
 have HBV:Hid (Below w.heap.size w V):=by rw[hV];exact(by repeat first|exact ZR _|refine ZA ?_ _)
 clear hV
 have HW:Hid (Below V.heap.size V V):=ZR V
 have HS:Hid (∀ w',Below V.heap.size V w'->w'.cell? ⟨w.heap.size,0,none⟩=some (.slice s_cta s_ctn s_ctc)/\w'.cell? ⟨w.heap.size,1,none⟩=some (.slice s_cfa s_cfn s_cfc)/\w'.cell? ⟨w.heap.size,2,none⟩=some (.slice s_cda s_cdn s_cdc)/\w'.cell? ⟨w.heap.size,3,none⟩=some (.slice s_cqa s_cqn s_cqc)/\w'.cell? ⟨w.heap.size,4,none⟩=some (.string s_e)/\w'.cell? ⟨w.heap.size,5,none⟩=some (.string s_tm)/\w'.cell? ⟨w.heap.size,6,none⟩=some (.string s_te)/\w'.cell? ⟨w.heap.size,7,none⟩=some (.slice s_tfa s_tfn s_tfc)/\w'.cell? ⟨w.heap.size,8,none⟩=some (.int .i64 s_tp)/\w'.cell? ⟨w.heap.size+1,0,none⟩=some (.int .i64 x_k)/\w'.cell? ⟨w.heap.size+1,1,none⟩=some (.string x_o)/\w'.cell? ⟨w.heap.size+1,2,none⟩=some (.string x_m)/\w'.cell? ⟨w.heap.size+1,3,none⟩=some (.string x_t)/\w'.cell? ⟨w.heap.size+1,4,none⟩=some (.int .i64 x_vk)/\w'.cell? ⟨w.heap.size+1,5,none⟩=some (.int .i64 x_vn)/\w'.cell? ⟨w.heap.size+1,6,none⟩=some (.string x_vs)/\w'.cell? ⟨w.heap.size+1,7,none⟩=some (.slice x_ua x_un x_uc)/\w'.cell? ⟨w.heap.size+1,8,none⟩=some (.int .i64 x_p)/\w'.cell? ⟨w.heap.size+1,9,none⟩=some (.int .i64 x_wk)/\w'.cell? ⟨w.heap.size+1,10,none⟩=some (.int .i64 x_wz)/\w'.cell? ⟨w.heap.size+1,11,none⟩=some (.slice x_xa x_xn x_xc)):=fun w' h=>⟨(B0.out.kept h).cell 0 _ rfl,(B0.out.kept h).cell 1 _ rfl,(B0.out.kept h).cell 2 _ rfl,(B0.out.kept h).cell 3 _ rfl,(B0.out.kept h).cell 4 _ rfl,(B0.out.kept h).cell 5 _ rfl,(B0.out.kept h).cell 6 _ rfl,(B0.out.kept h).cell 7 _ rfl,(B0.out.kept h).cell 8 _ rfl,(B1.out.kept h).cell 0 _ rfl,(B1.out.kept h).cell 1 _ rfl,(B1.out.kept h).cell 2 _ rfl,(B1.out.kept h).cell 3 _ rfl,(B1.out.kept h).cell 4 _ rfl,(B1.out.kept h).cell 5 _ rfl,(B1.out.kept h).cell 6 _ rfl,(B1.out.kept h).cell 7 _ rfl,(B1.out.kept h).cell 8 _ rfl,(B1.out.kept h).cell 9 _ rfl,(B1.out.kept h).cell 10 _ rfl,(B1.out.kept h).cell 11 _ rfl⟩
 obtain⟨k0_0,k0_1,k0_2,k0_3,k0_4,k0_5,k0_6,k0_7,k0_8,k1_0,k1_1,k1_2,k1_3,k1_4,k1_5,k1_6,k1_7,k1_8,k1_9,k1_10,k1_11⟩:=HS.out V (ZR V)
 have HSX:Hid (∀ w',Bx w V (w.heap.size+1+1) w'->w'.cell? ⟨w.heap.size,0,none⟩=some (.slice s_cta s_ctn s_ctc)/\w'.cell? ⟨w.heap.size,1,none⟩=some (.slice s_cfa s_cfn s_cfc)/\w'.cell? ⟨w.heap.size,2,none⟩=some (.slice s_cda s_cdn s_cdc)/\w'.cell? ⟨w.heap.size,3,none⟩=some (.slice s_cqa s_cqn s_cqc)/\w'.cell? ⟨w.heap.size,4,none⟩=some (.string s_e)/\w'.cell? ⟨w.heap.size,5,none⟩=some (.string s_tm)/\w'.cell? ⟨w.heap.size,6,none⟩=some (.string s_te)/\w'.cell? ⟨w.heap.size,7,none⟩=some (.slice s_tfa s_tfn s_tfc)/\w'.cell? ⟨w.heap.size,8,none⟩=some (.int .i64 s_tp)/\w'.cell? ⟨w.heap.size+1,0,none⟩=some (.int .i64 x_k)/\w'.cell? ⟨w.heap.size+1,1,none⟩=some (.string x_o)/\w'.cell? ⟨w.heap.size+1,2,none⟩=some (.string x_m)/\w'.cell? ⟨w.heap.size+1,3,none⟩=some (.string x_t)/\w'.cell? ⟨w.heap.size+1,4,none⟩=some (.int .i64 x_vk)/\w'.cell? ⟨w.heap.size+1,5,none⟩=some (.int .i64 x_vn)/\w'.cell? ⟨w.heap.size+1,6,none⟩=some (.string x_vs)/\w'.cell? ⟨w.heap.size+1,7,none⟩=some (.slice x_ua x_un x_uc)/\w'.cell? ⟨w.heap.size+1,8,none⟩=some (.int .i64 x_p)/\w'.cell? ⟨w.heap.size+1,9,none⟩=some (.int .i64 x_wk)/\w'.cell? ⟨w.heap.size+1,10,none⟩=some (.int .i64 x_wz)/\w'.cell? ⟨w.heap.size+1,11,none⟩=some (.slice x_xa x_xn x_xc)):=fun w' h=>⟨(h.box B0.out (by omega)).cell 0 _ rfl,(h.box B0.out (by omega)).cell 1 _ rfl,(h.box B0.out (by omega)).cell 2 _ rfl,(h.box B0.out (by omega)).cell 3 _ rfl,(h.box B0.out (by omega)).cell 4 _ rfl,(h.box B0.out (by omega)).cell 5 _ rfl,(h.box B0.out (by omega)).cell 6 _ rfl,(h.box B0.out (by omega)).cell 7 _ rfl,(h.box B0.out (by omega)).cell 8 _ rfl,(h.box B1.out (by omega)).cell 0 _ rfl,(h.box B1.out (by omega)).cell 1 _ rfl,(h.box B1.out (by omega)).cell 2 _ rfl,(h.box B1.out (by omega)).cell 3 _ rfl,(h.box B1.out (by omega)).cell 4 _ rfl,(h.box B1.out (by omega)).cell 5 _ rfl,(h.box B1.out (by omega)).cell 6 _ rfl,(h.box B1.out (by omega)).cell 7 _ rfl,(h.box B1.out (by omega)).cell 8 _ rfl,(h.box B1.out (by omega)).cell 9 _ rfl,(h.box B1.out (by omega)).cell 10 _ rfl,(h.box B1.out (by omega)).cell 11 _ rfl⟩
 have HWV:Hid (Below w0.heap.size w0 V):=HW0.out.trans (HBV.out.mono HW0.out.size)
 have HFT:Hid (FtsW w0 B V s_cfa s_cfn):=HFT0.out.kept HBV.out
 have hkk:x_k=1∨x_k=2∨x_k=3∨x_k=4∨x_k=5∨x_k=6∨x_k=7∨x_k=8∨x_k=9:=by omega
 rcases hkk with hq|hq|hq|hq|hq|hq|hq|hq|hq
 · skip
   have e1:(x_k==1)=true:=beq_iff_eq.2 (by omega)
   have e2:(x_k==2)=false:=beq_eq_false_iff_ne.2 (by omega)
   have e3:(x_k==3)=false:=beq_eq_false_iff_ne.2 (by omega)
   have e4:(x_k==4)=false:=beq_eq_false_iff_ne.2 (by omega)
   have e5:(x_k==5)=false:=beq_eq_false_iff_ne.2 (by omega)
   have e6:(x_k==6)=false:=beq_eq_false_iff_ne.2 (by omega)
   have e7:(x_k==7)=false:=beq_eq_false_iff_ne.2 (by omega)
   have e8:(x_k==8)=false:=beq_eq_false_iff_ne.2 (by omega)
   have hn0:ln=0:=by rw[hn,hq];rfl
   clear hq hn hk
   go_wp2_with (first|((with_reducible refine Zaw 35 ?_);refine Zah rfl 35 #[] rfl _ (fun w=>ZaV w) ?_;intro v hv)|((with_reducible refine Zal 35 ?_);refine Zai rfl _ _ _ rfl rfl (w.heap.size+1+1) 35 _ _ rfl (by first|exact(by assumption:Hid (_=_)).out|rfl) (B2.out.kept (by repeat first|exact ZR _|exact ZH (by assumption)|refine ZA ?_ _|refine ZD ?_|refine ZN ?_ _)) (by kernel_rfl) (by rfl) (by rfl) w (ZT HBV.out (by repeat first|exact ZR _|exact ZH (by assumption)|refine ZA ?_ _|refine ZD ?_|refine ZN ?_ _)) (by omega) ?_;intro w9 hby hyb hot;have HR:=hid hby;have HRB:=hid hyb;have HOT:=hid hot;clear hby hyb hot;have HUQ:=hid (UnW.putq (w0:=w0) HOT.out (B2.out.kept (by repeat first|exact ZR _|exact ZH (by assumption)|refine ZA ?_ _|refine ZD ?_|refine ZN ?_ _)) (by decide));have HUP:Hid (∀ ua un uc,UnW w0 V ua un uc->UnW w0 w9 ua un uc):=fun _ _ _ hu=>HUQ.out _ _ _ (hu.kept (by repeat first|exact ZR _|exact ZH (by assumption)|refine ZA ?_ _|refine ZD ?_|refine ZN ?_ _)))|fail)
   all_goals
    ((try simp only[Exit.inBlock,Exit.then]);refine bodyPost_ret (Zad rfl rfl HR.out underlying35 rfl (by kernel_rfl)) rfl ?_;first|exact Zaz.zero _ HRB.out|exact Zaz.kind _ _ HRB.out|exact⟨t5,k5,rfl,HUQ.out _ _ _ HV5.out,HRB.out⟩|exact⟨t1,_,rfl,HUP.out _ _ _ HU1.out,HRB.out⟩|exact⟨t2,_,rfl,HUP.out _ _ _ HU2.out,HRB.out⟩|exact⟨t3,_,rfl,HUP.out _ _ _ HU3.out,HRB.out⟩|exact⟨⟨_,x_ua,x_un,x_uc,_⟩,_,rfl,HUP.out _ _ _ (Or.inl HXU.out),HRB.out⟩)
 · skip
   have e1:(x_k==1)=false:=beq_eq_false_iff_ne.2 (by omega)
   have e2:(x_k==2)=true:=beq_iff_eq.2 (by omega)
   have e3:(x_k==3)=false:=beq_eq_false_iff_ne.2 (by omega)
   have e4:(x_k==4)=false:=beq_eq_false_iff_ne.2 (by omega)
   have e5:(x_k==5)=false:=beq_eq_false_iff_ne.2 (by omega)
   have e6:(x_k==6)=false:=beq_eq_false_iff_ne.2 (by omega)
   have e7:(x_k==7)=false:=beq_eq_false_iff_ne.2 (by omega)
   have e8:(x_k==8)=false:=beq_eq_false_iff_ne.2 (by omega)
   have hn0:ln=0:=by rw[hn,hq];rfl
   clear hq hn hk
   go_wp2_with (first|(go_at_call 224;refine(sfield_any _ _ _ _ _ _ _ _ _ _ _ _ _ _ _ _ _ _ _ _ _ w0 (HWV.out.trans (Below.mono (by repeat first|exact ZR _|exact ZH (by assumption)|refine ZA ?_ _|refine ZD ?_|refine ZN ?_ _) HWV.out.size)) HFD.out).mono ?_;rintro e w5 ⟨t5,k5,rfl,hv5,hb⟩;have HV5:=hid hv5;have HW5:Hid (Below V.heap.size V w5):=ZT (by repeat first|exact ZR _|exact ZH (by assumption)|refine ZA ?_ _|refine ZD ?_|refine ZN ?_ _) hb;clear hb hv5)|((with_reducible refine Zaw 35 ?_);refine Zah rfl 35 #[] rfl _ (fun w=>ZaV w) ?_;intro v hv)|((with_reducible refine Zal 35 ?_);refine Zai rfl _ _ _ rfl rfl (w.heap.size+1+1) 35 _ _ rfl (by first|exact(by assumption:Hid (_=_)).out|rfl) (B2.out.kept (by repeat first|exact ZR _|exact ZH (by assumption)|refine ZA ?_ _|refine ZD ?_|refine ZN ?_ _)) (by kernel_rfl) (by rfl) (by rfl) w (ZT HBV.out (by repeat first|exact ZR _|exact ZH (by assumption)|refine ZA ?_ _|refine ZD ?_|refine ZN ?_ _)) (by omega) ?_;intro w9 hby hyb hot;have HR:=hid hby;have HRB:=hid hyb;have HOT:=hid hot;clear hby hyb hot;have HUQ:=hid (UnW.putq (w0:=w0) HOT.out (B2.out.kept (by repeat first|exact ZR _|exact ZH (by assumption)|refine ZA ?_ _|refine ZD ?_|refine ZN ?_ _)) (by decide));have HUP:Hid (∀ ua un uc,UnW w0 V ua un uc->UnW w0 w9 ua un uc):=fun _ _ _ hu=>HUQ.out _ _ _ (hu.kept (by repeat first|exact ZR _|exact ZH (by assumption)|refine ZA ?_ _|refine ZD ?_|refine ZN ?_ _)))|fail)
   all_goals
    ((try simp only[Exit.inBlock,Exit.then]);refine bodyPost_ret (Zad rfl rfl HR.out underlying35 rfl (by kernel_rfl)) rfl ?_;first|exact Zaz.zero _ HRB.out|exact Zaz.kind _ _ HRB.out|exact⟨t5,k5,rfl,HUQ.out _ _ _ HV5.out,HRB.out⟩|exact⟨t1,_,rfl,HUP.out _ _ _ HU1.out,HRB.out⟩|exact⟨t2,_,rfl,HUP.out _ _ _ HU2.out,HRB.out⟩|exact⟨t3,_,rfl,HUP.out _ _ _ HU3.out,HRB.out⟩|exact⟨⟨_,x_ua,x_un,x_uc,_⟩,_,rfl,HUP.out _ _ _ (Or.inl HXU.out),HRB.out⟩)
 · skip
   have e1:(x_k==1)=false:=beq_eq_false_iff_ne.2 (by omega)
   have e2:(x_k==2)=false:=beq_eq_false_iff_ne.2 (by omega)
   have e3:(x_k==3)=true:=beq_iff_eq.2 (by omega)
   have e4:(x_k==4)=false:=beq_eq_false_iff_ne.2 (by omega)
   have e5:(x_k==5)=false:=beq_eq_false_iff_ne.2 (by omega)
   have e6:(x_k==6)=false:=beq_eq_false_iff_ne.2 (by omega)
   have e7:(x_k==7)=false:=beq_eq_false_iff_ne.2 (by omega)
   have e8:(x_k==8)=false:=beq_eq_false_iff_ne.2 (by omega)
   have hn0:ln=0:=by rw[hn,hq];rfl
   clear hq hn hk
   go_wp2_with (first|(go_at_call 225;refine(ZeB _ _ _ _ _ _ _ _ _ _ _ _ _ _ _ _ _ _ _ _ _ _ w0 (HWV.out.trans (Below.mono (by repeat first|exact ZR _|exact ZH (by assumption)|refine ZA ?_ _|refine ZD ?_|refine ZN ?_ _) HWV.out.size)) B hB (HFT.out.kept (by repeat first|exact ZR _|exact ZH (by assumption)|refine ZA ?_ _|refine ZD ?_|refine ZN ?_ _))).mono ?_;rintro e w5 ⟨t5,k5,rfl,hv5,hb⟩;have HV5:=hid hv5;have HW5:Hid (Below V.heap.size V w5):=ZT (by repeat first|exact ZR _|exact ZH (by assumption)|refine ZA ?_ _|refine ZD ?_|refine ZN ?_ _) hb;clear hb hv5)|((with_reducible refine Zaw 35 ?_);refine Zah rfl 35 #[] rfl _ (fun w=>ZaV w) ?_;intro v hv)|((with_reducible refine Zal 35 ?_);refine Zai rfl _ _ _ rfl rfl (w.heap.size+1+1) 35 _ _ rfl (by first|exact(by assumption:Hid (_=_)).out|rfl) (B2.out.kept (by repeat first|exact ZR _|exact ZH (by assumption)|refine ZA ?_ _|refine ZD ?_|refine ZN ?_ _)) (by kernel_rfl) (by rfl) (by rfl) w (ZT HBV.out (by repeat first|exact ZR _|exact ZH (by assumption)|refine ZA ?_ _|refine ZD ?_|refine ZN ?_ _)) (by omega) ?_;intro w9 hby hyb hot;have HR:=hid hby;have HRB:=hid hyb;have HOT:=hid hot;clear hby hyb hot;have HUQ:=hid (UnW.putq (w0:=w0) HOT.out (B2.out.kept (by repeat first|exact ZR _|exact ZH (by assumption)|refine ZA ?_ _|refine ZD ?_|refine ZN ?_ _)) (by decide));have HUP:Hid (∀ ua un uc,UnW w0 V ua un uc->UnW w0 w9 ua un uc):=fun _ _ _ hu=>HUQ.out _ _ _ (hu.kept (by repeat first|exact ZR _|exact ZH (by assumption)|refine ZA ?_ _|refine ZD ?_|refine ZN ?_ _)))|fail)
   all_goals
    ((try simp only[Exit.inBlock,Exit.then]);refine bodyPost_ret (Zad rfl rfl HR.out underlying35 rfl (by kernel_rfl)) rfl ?_;first|exact Zaz.zero _ HRB.out|exact Zaz.kind _ _ HRB.out|exact⟨t5,k5,rfl,HUQ.out _ _ _ HV5.out,HRB.out⟩|exact⟨t1,_,rfl,HUP.out _ _ _ HU1.out,HRB.out⟩|exact⟨t2,_,rfl,HUP.out _ _ _ HU2.out,HRB.out⟩|exact⟨t3,_,rfl,HUP.out _ _ _ HU3.out,HRB.out⟩|exact⟨⟨_,x_ua,x_un,x_uc,_⟩,_,rfl,HUP.out _ _ _ (Or.inl HXU.out),HRB.out⟩)
 · skip
   have e1:(x_k==1)=false:=beq_eq_false_iff_ne.2 (by omega)
   have e2:(x_k==2)=false:=beq_eq_false_iff_ne.2 (by omega)
   have e3:(x_k==3)=false:=beq_eq_false_iff_ne.2 (by omega)
   have e4:(x_k==4)=true:=beq_iff_eq.2 (by omega)
   have e5:(x_k==5)=false:=beq_eq_false_iff_ne.2 (by omega)
   have e6:(x_k==6)=false:=beq_eq_false_iff_ne.2 (by omega)
   have e7:(x_k==7)=false:=beq_eq_false_iff_ne.2 (by omega)
   have e8:(x_k==8)=false:=beq_eq_false_iff_ne.2 (by omega)
   have hn1:ln=1:=by rw[hn,hq];rfl
   obtain⟨ts,hnn,hts,hun⟩:=HT.out
   have hl1:ts.length=1:=by omega
   obtain⟨t1,rfl⟩:∃ t1,ts=[t1]:=by
    match ts,hl1 with
    |[y0],_=>exact⟨y0,rfl⟩
   obtain rfl:ln=1:=hn1
   obtain⟨b1,o1,rfl,hr⟩:=hts.some (by simp)
   have HU1:Hid (UnW w0 V t1.ua t1.un t1.uc):=(hun t1 (by simp)).kept HBV.out
   have HC:Hid (∀ w',Below V.heap.size V w'->w'.cell? ⟨b1,o1,none⟩=some (.int .i64 t1.k)/\w'.cell? ⟨b1,o1+1,none⟩=some (.slice t1.ua t1.un t1.uc)/\w'.cell? ⟨b1,o1+2,none⟩=some (.string t1.o)):=fun w' h=>⟨Zaa (Zaa (by simpa using hr 0 _ rfl 0 _ rfl) HBV.out) h,Zaa (Zaa (by simpa using hr 0 _ rfl 1 _ rfl) HBV.out) h,Zaa (Zaa (by simpa using hr 0 _ rfl 2 _ rfl) HBV.out) h⟩
   have HCX:Hid (∀ w',Bx w V (w.heap.size+1+1) w'->w'.cell? ⟨b1,o1,none⟩=some (.int .i64 t1.k)/\w'.cell? ⟨b1,o1+1,none⟩=some (.slice t1.ua t1.un t1.uc)/\w'.cell? ⟨b1,o1+2,none⟩=some (.string t1.o)):=fun w' h=>⟨Zaa (by simpa using hr 0 _ rfl 0 _ rfl) h.old,Zaa (by simpa using hr 0 _ rfl 1 _ rfl) h.old,Zaa (by simpa using hr 0 _ rfl 2 _ rfl) h.old⟩
   clear hr hts hun hnn hl1
   obtain⟨c0,c1,c2⟩:=HC.out V (ZR V)
   clear hq hn hk
   go_upto_region 11 with(first|((with_reducible refine Zaw 35 ?_);refine Zah rfl 35 #[] rfl _ (fun w=>ZaV w) ?_;intro v hv)|((with_reducible refine Zal 35 ?_);refine Zai rfl _ _ _ rfl rfl (w.heap.size+1+1) 35 _ _ rfl (by first|exact(by assumption:Hid (_=_)).out|rfl) (B2.out.kept (by repeat first|exact ZR _|exact ZH (by assumption)|refine ZA ?_ _|refine ZD ?_|refine ZN ?_ _)) (by kernel_rfl) (by rfl) (by rfl) w (ZT HBV.out (by repeat first|exact ZR _|exact ZH (by assumption)|refine ZA ?_ _|refine ZD ?_|refine ZN ?_ _)) (by omega) ?_;intro w9 hby hyb hot;have HR:=hid hby;have HRB:=hid hyb;have HOT:=hid hot;clear hby hyb hot;have HUQ:=hid (UnW.putq (w0:=w0) HOT.out (B2.out.kept (by repeat first|exact ZR _|exact ZH (by assumption)|refine ZA ?_ _|refine ZD ?_|refine ZN ?_ _)) (by decide));have HUP:Hid (∀ ua un uc,UnW w0 V ua un uc->UnW w0 w9 ua un uc):=fun _ _ _ hu=>HUQ.out _ _ _ (hu.kept (by repeat first|exact ZR _|exact ZH (by assumption)|refine ZA ?_ _|refine ZD ?_|refine ZN ?_ _)))|fail)
   all_goals first
    |((try simp only[Exit.inBlock,Exit.then]);refine bodyPost_ret (Zad rfl rfl HR.out underlying35 rfl (by kernel_rfl)) rfl ?_;first|exact Zaz.zero _ HRB.out|exact Zaz.kind _ _ HRB.out|exact⟨t5,k5,rfl,HUQ.out _ _ _ HV5.out,HRB.out⟩|exact⟨t1,_,rfl,HUP.out _ _ _ HU1.out,HRB.out⟩|exact⟨t2,_,rfl,HUP.out _ _ _ HU2.out,HRB.out⟩|exact⟨t3,_,rfl,HUP.out _ _ _ HU3.out,HRB.out⟩|exact⟨⟨_,x_ua,x_un,x_uc,_⟩,_,rfl,HUP.out _ _ _ (Or.inl HXU.out),HRB.out⟩)
    |skip
   refine Zbp (S:=fun w'=>Bx w V (w.heap.size+1+1) w') [true,true,true,true,true,true,true,false,true,true,false,true] (by kernel_rfl) (by kernel_rfl) (fun _ _ _ _ _ h=>h) (by kernel_rfl) rfl (Bx.of HBV.out (ZD (ZR V))) ?_
   refine Zae (.agg #[.slice s_cta s_ctn s_ctc,.slice s_cfa s_cfn s_cfc,.slice s_cda s_cdn s_cdc,.slice s_cqa s_cqn s_cqc,.string s_e,.string s_tm,.string s_te,.slice s_tfa s_tfn s_tfc,.int .i64 s_tp]) (by rfl) (by intro wq hSw;have KQ:=HSX.out wq hSw;obtain⟨k0_0,k0_1,k0_2,k0_3,k0_4,k0_5,k0_6,k0_7,k0_8,k1_0,k1_1,k1_2,k1_3,k1_4,k1_5,k1_6,k1_7,k1_8,k1_9,k1_10,k1_11⟩:=KQ;have TQ:=HCX.out wq hSw;obtain⟨c0,c1,c2⟩:=TQ;go_simp<;>rfl) ?_
   try simp only[Act.put,m1,m2,m3]
   refine Zae (.pointer (some ⟨w.heap.size+1,2,none⟩)) (by rfl) (by intro wq hSw;have KQ:=HSX.out wq hSw;obtain⟨k0_0,k0_1,k0_2,k0_3,k0_4,k0_5,k0_6,k0_7,k0_8,k1_0,k1_1,k1_2,k1_3,k1_4,k1_5,k1_6,k1_7,k1_8,k1_9,k1_10,k1_11⟩:=KQ;have TQ:=HCX.out wq hSw;obtain⟨c0,c1,c2⟩:=TQ;go_simp<;>rfl) ?_
   try simp only[Act.put,m1,m2,m3]
   refine Zae (.string x_m) (by rfl) (by intro wq hSw;have KQ:=HSX.out wq hSw;obtain⟨k0_0,k0_1,k0_2,k0_3,k0_4,k0_5,k0_6,k0_7,k0_8,k1_0,k1_1,k1_2,k1_3,k1_4,k1_5,k1_6,k1_7,k1_8,k1_9,k1_10,k1_11⟩:=KQ;have TQ:=HCX.out wq hSw;obtain⟨c0,c1,c2⟩:=TQ;go_simp<;>rfl) ?_
   try simp only[Act.put,m1,m2,m3]
   refine Zae (.slice (some ⟨b1,o1,none⟩) 1 lc) (by rfl) (by intro wq hSw;have KQ:=HSX.out wq hSw;obtain⟨k0_0,k0_1,k0_2,k0_3,k0_4,k0_5,k0_6,k0_7,k0_8,k1_0,k1_1,k1_2,k1_3,k1_4,k1_5,k1_6,k1_7,k1_8,k1_9,k1_10,k1_11⟩:=KQ;have TQ:=HCX.out wq hSw;obtain⟨c0,c1,c2⟩:=TQ;go_simp<;>rfl) ?_
   try simp only[Act.put,m1,m2,m3]
   refine Zae (.pointer (some ⟨b1,o1,none⟩)) (by rfl) (by intro wq hSw;have KQ:=HSX.out wq hSw;obtain⟨k0_0,k0_1,k0_2,k0_3,k0_4,k0_5,k0_6,k0_7,k0_8,k1_0,k1_1,k1_2,k1_3,k1_4,k1_5,k1_6,k1_7,k1_8,k1_9,k1_10,k1_11⟩:=KQ;have TQ:=HCX.out wq hSw;obtain⟨c0,c1,c2⟩:=TQ;go_simp<;>rfl) ?_
   try simp only[Act.put,m1,m2,m3]
   refine Zae (.pointer (some ⟨b1,o1+2,none⟩)) (by rfl) (by intro wq hSw;have KQ:=HSX.out wq hSw;obtain⟨k0_0,k0_1,k0_2,k0_3,k0_4,k0_5,k0_6,k0_7,k0_8,k1_0,k1_1,k1_2,k1_3,k1_4,k1_5,k1_6,k1_7,k1_8,k1_9,k1_10,k1_11⟩:=KQ;have TQ:=HCX.out wq hSw;obtain⟨c0,c1,c2⟩:=TQ;go_simp<;>rfl) ?_
   try simp only[Act.put,m1,m2,m3]
   refine Zae (.string t1.o) (by rfl) (by intro wq hSw;have KQ:=HSX.out wq hSw;obtain⟨k0_0,k0_1,k0_2,k0_3,k0_4,k0_5,k0_6,k0_7,k0_8,k1_0,k1_1,k1_2,k1_3,k1_4,k1_5,k1_6,k1_7,k1_8,k1_9,k1_10,k1_11⟩:=KQ;have TQ:=HCX.out wq hSw;obtain⟨c0,c1,c2⟩:=TQ;go_simp<;>rfl) ?_
   try simp only[Act.put,m1,m2,m3]
   refine Zbx (by rfl) (fun K hK=>?_)
   go_wp2_with (go_at_call 225;refine(ZeB _ _ _ _ _ _ _ _ _ _ _ _ _ _ _ _ _ _ _ _ _ _ w0 (HWV.out.trans (Below.mono (by repeat first|exact ZR _|exact ZH (by assumption)|refine ZA ?_ _|refine ZD ?_|refine ZN ?_ _) HWV.out.size)) B hB (HFT.out.kept (by repeat first|exact ZR _|exact ZH (by assumption)|refine ZA ?_ _|refine ZD ?_|refine ZN ?_ _))).mono ?_;rintro e w5 ⟨t5,k5,rfl,hv5,hb⟩;have HV5:=hid hv5;have HW5:Hid (Below V.heap.size V w5):=ZT (by repeat first|exact ZR _|exact ZH (by assumption)|refine ZA ?_ _|refine ZD ?_|refine ZN ?_ _) hb;clear hb hv5)
   refine hK.out _ _ (Bx.of HBV.out HW5.out) (fun hHeld=>?_)
   clear hK K
   try simp only[Act.put,m1,m2,m3]
   refine Zae (.agg #[.int .i64 t5.k,.slice t5.ua t5.un t5.uc,.string t5.o]) (by rfl) (by intro wq hSw;have KQ:=HSX.out wq hSw;obtain⟨k0_0,k0_1,k0_2,k0_3,k0_4,k0_5,k0_6,k0_7,k0_8,k1_0,k1_1,k1_2,k1_3,k1_4,k1_5,k1_6,k1_7,k1_8,k1_9,k1_10,k1_11⟩:=KQ;have TQ:=HCX.out wq hSw;obtain⟨c0,c1,c2⟩:=TQ;go_simp<;>rfl) ?_
   try simp only[Act.put,m1,m2,m3]
   refine Zae (.int .i64 k5) (by rfl) (by intro wq hSw;have KQ:=HSX.out wq hSw;obtain⟨k0_0,k0_1,k0_2,k0_3,k0_4,k0_5,k0_6,k0_7,k0_8,k1_0,k1_1,k1_2,k1_3,k1_4,k1_5,k1_6,k1_7,k1_8,k1_9,k1_10,k1_11⟩:=KQ;have TQ:=HCX.out wq hSw;obtain⟨c0,c1,c2⟩:=TQ;go_simp<;>rfl) ?_
   try simp only[Act.put,m1,m2,m3]
   refine Zbx (by rfl) (fun K hK=>?_)
   refine Zfk 35 _ _ rfl rfl (w.heap.size+1+1) 35 _ _ rfl rfl (B2.out.kept HW5.out) (by kernel_rfl) (by rfl) (by rfl) (Bx.of HBV.out HW5.out) (by omega) ?_
   intro w9 hby hbx hot
   have HR:=hid hby
   have HRB:Hid (Below w.heap.size w w9):=hbx.old
   have HUQ:=hid (UnW.putq (w0:=w0) hot (B2.out.kept HW5.out) (by decide))
   refine hK.out _ _ hbx (fun hHeld=>?_)
   clear hK K hby hbx hot
   try simp only[Act.put,m1,m2,m3]
   refine Zae (.int .i64 k5) (by rfl) (by intro wq hSw;have KQ:=HSX.out wq hSw;obtain⟨k0_0,k0_1,k0_2,k0_3,k0_4,k0_5,k0_6,k0_7,k0_8,k1_0,k1_1,k1_2,k1_3,k1_4,k1_5,k1_6,k1_7,k1_8,k1_9,k1_10,k1_11⟩:=KQ;have TQ:=HCX.out wq hSw;obtain⟨c0,c1,c2⟩:=TQ;go_simp<;>rfl) ?_
   try simp only[Act.put,m1,m2,m3]
   refine ZbG ?_
   go_wp2_with fail
   ((try simp only[Exit.inBlock,Exit.then]);refine bodyPost_ret (Zad rfl rfl HR.out underlying35 rfl (by kernel_rfl)) rfl ?_;first|exact Zaz.zero _ HRB.out|exact Zaz.kind _ _ HRB.out|exact⟨t5,k5,rfl,HUQ.out _ _ _ HV5.out,HRB.out⟩|exact⟨t1,_,rfl,HUP.out _ _ _ HU1.out,HRB.out⟩|exact⟨t2,_,rfl,HUP.out _ _ _ HU2.out,HRB.out⟩|exact⟨t3,_,rfl,HUP.out _ _ _ HU3.out,HRB.out⟩|exact⟨⟨_,x_ua,x_un,x_uc,_⟩,_,rfl,HUP.out _ _ _ (Or.inl HXU.out),HRB.out⟩)
 · skip
   have e1:(x_k==1)=false:=beq_eq_false_iff_ne.2 (by omega)
   have e2:(x_k==2)=false:=beq_eq_false_iff_ne.2 (by omega)
   have e3:(x_k==3)=false:=beq_eq_false_iff_ne.2 (by omega)
   have e4:(x_k==4)=false:=beq_eq_false_iff_ne.2 (by omega)
   have e5:(x_k==5)=true:=beq_iff_eq.2 (by omega)
   have e6:(x_k==6)=false:=beq_eq_false_iff_ne.2 (by omega)
   have e7:(x_k==7)=false:=beq_eq_false_iff_ne.2 (by omega)
   have e8:(x_k==8)=false:=beq_eq_false_iff_ne.2 (by omega)
   have hn2:ln=2:=by rw[hn,hq];rfl
   obtain⟨ts,hnn,hts,hun⟩:=HT.out
   have hl2:ts.length=2:=by omega
   obtain⟨t1,t2,rfl⟩:∃ t1 t2,ts=[t1,t2]:=by
    match ts,hl2 with
    |[y0,y1],_=>exact⟨y0,y1,rfl⟩
   obtain rfl:ln=2:=hn2
   obtain⟨b1,o1,rfl,hr⟩:=hts.some (by simp)
   have HU1:Hid (UnW w0 V t1.ua t1.un t1.uc):=(hun t1 (by simp)).kept HBV.out
   have HU2:Hid (UnW w0 V t2.ua t2.un t2.uc):=(hun t2 (by simp)).kept HBV.out
   have HC:Hid (∀ w',Below V.heap.size V w'->w'.cell? ⟨b1,o1,none⟩=some (.int .i64 t1.k)/\w'.cell? ⟨b1,o1+1,none⟩=some (.slice t1.ua t1.un t1.uc)/\w'.cell? ⟨b1,o1+2,none⟩=some (.string t1.o)/\w'.cell? ⟨b1,o1+3,none⟩=some (.int .i64 t2.k)/\w'.cell? ⟨b1,o1+4,none⟩=some (.slice t2.ua t2.un t2.uc)/\w'.cell? ⟨b1,o1+5,none⟩=some (.string t2.o)):=fun w' h=>⟨Zaa (Zaa (by simpa using hr 0 _ rfl 0 _ rfl) HBV.out) h,Zaa (Zaa (by simpa using hr 0 _ rfl 1 _ rfl) HBV.out) h,Zaa (Zaa (by simpa using hr 0 _ rfl 2 _ rfl) HBV.out) h,Zaa (Zaa (by simpa using hr 1 _ rfl 0 _ rfl) HBV.out) h,Zaa (Zaa (by simpa using hr 1 _ rfl 1 _ rfl) HBV.out) h,Zaa (Zaa (by simpa using hr 1 _ rfl 2 _ rfl) HBV.out) h⟩
   have HCX:Hid (∀ w',Bx w V (w.heap.size+1+1) w'->w'.cell? ⟨b1,o1,none⟩=some (.int .i64 t1.k)/\w'.cell? ⟨b1,o1+1,none⟩=some (.slice t1.ua t1.un t1.uc)/\w'.cell? ⟨b1,o1+2,none⟩=some (.string t1.o)/\w'.cell? ⟨b1,o1+3,none⟩=some (.int .i64 t2.k)/\w'.cell? ⟨b1,o1+4,none⟩=some (.slice t2.ua t2.un t2.uc)/\w'.cell? ⟨b1,o1+5,none⟩=some (.string t2.o)):=fun w' h=>⟨Zaa (by simpa using hr 0 _ rfl 0 _ rfl) h.old,Zaa (by simpa using hr 0 _ rfl 1 _ rfl) h.old,Zaa (by simpa using hr 0 _ rfl 2 _ rfl) h.old,Zaa (by simpa using hr 1 _ rfl 0 _ rfl) h.old,Zaa (by simpa using hr 1 _ rfl 1 _ rfl) h.old,Zaa (by simpa using hr 1 _ rfl 2 _ rfl) h.old⟩
   clear hr hts hun hnn hl2
   obtain⟨c0,c1,c2,c3,c4,c5⟩:=HC.out V (ZR V)
   clear hq hn hk
   go_upto_region 13 with fail
   refine Zbp (S:=fun w'=>Bx w V (w.heap.size+1+1) w') [true,true,true,true,true,true,true,false,true,true,false,true] (by kernel_rfl) (by kernel_rfl) (fun _ _ _ _ _ h=>h) (by kernel_rfl) rfl (Bx.of HBV.out (ZD (ZR V))) ?_
   refine Zae (.agg #[.int .i64 x_k,.string x_o,.string x_m,.string x_t,.int .i64 x_vk,.int .i64 x_vn,.string x_vs,.slice x_ua x_un x_uc,.int .i64 x_p,.int .i64 x_wk,.int .i64 x_wz,.slice x_xa x_xn x_xc]) (by rfl) (by intro wq hSw;have KQ:=HSX.out wq hSw;obtain⟨k0_0,k0_1,k0_2,k0_3,k0_4,k0_5,k0_6,k0_7,k0_8,k1_0,k1_1,k1_2,k1_3,k1_4,k1_5,k1_6,k1_7,k1_8,k1_9,k1_10,k1_11⟩:=KQ;have TQ:=HCX.out wq hSw;obtain⟨c0,c1,c2,c3,c4,c5⟩:=TQ;go_simp<;>rfl) ?_
   try simp only[Act.put,m1,m2,m3]
   refine Zae (.slice (some ⟨b1,o1,none⟩) 2 lc) (by rfl) (by intro wq hSw;have KQ:=HSX.out wq hSw;obtain⟨k0_0,k0_1,k0_2,k0_3,k0_4,k0_5,k0_6,k0_7,k0_8,k1_0,k1_1,k1_2,k1_3,k1_4,k1_5,k1_6,k1_7,k1_8,k1_9,k1_10,k1_11⟩:=KQ;have TQ:=HCX.out wq hSw;obtain⟨c0,c1,c2,c3,c4,c5⟩:=TQ;go_simp<;>rfl) ?_
   try simp only[Act.put,m1,m2,m3]
   refine Zae (.pointer (some ⟨b1,o1,none⟩)) (by rfl) (by intro wq hSw;have KQ:=HSX.out wq hSw;obtain⟨k0_0,k0_1,k0_2,k0_3,k0_4,k0_5,k0_6,k0_7,k0_8,k1_0,k1_1,k1_2,k1_3,k1_4,k1_5,k1_6,k1_7,k1_8,k1_9,k1_10,k1_11⟩:=KQ;have TQ:=HCX.out wq hSw;obtain⟨c0,c1,c2,c3,c4,c5⟩:=TQ;go_simp<;>rfl) ?_
   try simp only[Act.put,m1,m2,m3]
   refine Zae (.agg #[.int .i64 t1.k,.slice t1.ua t1.un t1.uc,.string t1.o]) (by rfl) (by intro wq hSw;have KQ:=HSX.out wq hSw;obtain⟨k0_0,k0_1,k0_2,k0_3,k0_4,k0_5,k0_6,k0_7,k0_8,k1_0,k1_1,k1_2,k1_3,k1_4,k1_5,k1_6,k1_7,k1_8,k1_9,k1_10,k1_11⟩:=KQ;have TQ:=HCX.out wq hSw;obtain⟨c0,c1,c2,c3,c4,c5⟩:=TQ;go_simp<;>rfl) ?_
   try simp only[Act.put,m1,m2,m3]
   refine Zae (.slice (some ⟨b1,o1,none⟩) 2 lc) (by rfl) (by intro wq hSw;have KQ:=HSX.out wq hSw;obtain⟨k0_0,k0_1,k0_2,k0_3,k0_4,k0_5,k0_6,k0_7,k0_8,k1_0,k1_1,k1_2,k1_3,k1_4,k1_5,k1_6,k1_7,k1_8,k1_9,k1_10,k1_11⟩:=KQ;have TQ:=HCX.out wq hSw;obtain⟨c0,c1,c2,c3,c4,c5⟩:=TQ;go_simp<;>rfl) ?_
   try simp only[Act.put,m1,m2,m3]
   refine Zae (.pointer (some ⟨b1,o1+3,none⟩)) (by rfl) (by intro wq hSw;have KQ:=HSX.out wq hSw;obtain⟨k0_0,k0_1,k0_2,k0_3,k0_4,k0_5,k0_6,k0_7,k0_8,k1_0,k1_1,k1_2,k1_3,k1_4,k1_5,k1_6,k1_7,k1_8,k1_9,k1_10,k1_11⟩:=KQ;have TQ:=HCX.out wq hSw;obtain⟨c0,c1,c2,c3,c4,c5⟩:=TQ;go_simp<;>rfl) ?_
   try simp only[Act.put,m1,m2,m3]
   refine Zae (.agg #[.int .i64 t2.k,.slice t2.ua t2.un t2.uc,.string t2.o]) (by rfl) (by intro wq hSw;have KQ:=HSX.out wq hSw;obtain⟨k0_0,k0_1,k0_2,k0_3,k0_4,k0_5,k0_6,k0_7,k0_8,k1_0,k1_1,k1_2,k1_3,k1_4,k1_5,k1_6,k1_7,k1_8,k1_9,k1_10,k1_11⟩:=KQ;have TQ:=HCX.out wq hSw;obtain⟨c0,c1,c2,c3,c4,c5⟩:=TQ;go_simp<;>rfl) ?_
   try simp only[Act.put,m1,m2,m3]
   refine Zbx (by rfl) (fun K hK=>?_)
   go_wp2_with (go_at_call 226;refine(overAll_any _ _ _ _ _ _ _ _ _ _ _ _ _ _ _ _ _ _ _ _ _ _ _ _ _ _ _ w0 (HWV.out.trans (Below.mono (by repeat first|exact ZR _|exact ZH (by assumption)|refine ZA ?_ _|refine ZD ?_|refine ZN ?_ _) HWV.out.size)) (HU1.out.kept (by repeat first|exact ZR _|exact ZH (by assumption)|refine ZA ?_ _|refine ZD ?_|refine ZN ?_ _))).mono ?_;rintro e w5 ⟨t5,k5,rfl,hv5,hb⟩;have HV5:=hid hv5;have HW5:Hid (Below V.heap.size V w5):=ZT (by repeat first|exact ZR _|exact ZH (by assumption)|refine ZA ?_ _|refine ZD ?_|refine ZN ?_ _) hb;clear hb hv5)
   refine hK.out _ _ (Bx.of HBV.out HW5.out) (fun hHeld=>?_)
   clear hK K
   try simp only[Act.put,m1,m2,m3]
   refine Zae (.agg #[.int .i64 t5.k,.slice t5.ua t5.un t5.uc,.string t5.o]) (by rfl) (by intro wq hSw;have KQ:=HSX.out wq hSw;obtain⟨k0_0,k0_1,k0_2,k0_3,k0_4,k0_5,k0_6,k0_7,k0_8,k1_0,k1_1,k1_2,k1_3,k1_4,k1_5,k1_6,k1_7,k1_8,k1_9,k1_10,k1_11⟩:=KQ;have TQ:=HCX.out wq hSw;obtain⟨c0,c1,c2,c3,c4,c5⟩:=TQ;go_simp<;>rfl) ?_
   try simp only[Act.put,m1,m2,m3]
   refine Zae (.int .i64 k5) (by rfl) (by intro wq hSw;have KQ:=HSX.out wq hSw;obtain⟨k0_0,k0_1,k0_2,k0_3,k0_4,k0_5,k0_6,k0_7,k0_8,k1_0,k1_1,k1_2,k1_3,k1_4,k1_5,k1_6,k1_7,k1_8,k1_9,k1_10,k1_11⟩:=KQ;have TQ:=HCX.out wq hSw;obtain⟨c0,c1,c2,c3,c4,c5⟩:=TQ;go_simp<;>rfl) ?_
   try simp only[Act.put,m1,m2,m3]
   refine Zbx (by rfl) (fun K hK=>?_)
   refine Zfk 35 _ _ rfl rfl (w.heap.size+1+1) 35 _ _ rfl rfl (B2.out.kept HW5.out) (by kernel_rfl) (by rfl) (by rfl) (Bx.of HBV.out HW5.out) (by omega) ?_
   intro w9 hby hbx hot
   have HR:=hid hby
   have HRB:Hid (Below w.heap.size w w9):=hbx.old
   have HUQ:=hid (UnW.putq (w0:=w0) hot (B2.out.kept HW5.out) (by decide))
   refine hK.out _ _ hbx (fun hHeld=>?_)
   clear hK K hby hbx hot
   try simp only[Act.put,m1,m2,m3]
   refine Zae (.int .i64 k5) (by rfl) (by intro wq hSw;have KQ:=HSX.out wq hSw;obtain⟨k0_0,k0_1,k0_2,k0_3,k0_4,k0_5,k0_6,k0_7,k0_8,k1_0,k1_1,k1_2,k1_3,k1_4,k1_5,k1_6,k1_7,k1_8,k1_9,k1_10,k1_11⟩:=KQ;have TQ:=HCX.out wq hSw;obtain⟨c0,c1,c2,c3,c4,c5⟩:=TQ;go_simp<;>rfl) ?_
   try simp only[Act.put,m1,m2,m3]
   refine ZbG ?_
   go_wp2_with fail
   ((try simp only[Exit.inBlock,Exit.then]);refine bodyPost_ret (Zad rfl rfl HR.out underlying35 rfl (by kernel_rfl)) rfl ?_;first|exact Zaz.zero _ HRB.out|exact Zaz.kind _ _ HRB.out|exact⟨t5,k5,rfl,HUQ.out _ _ _ HV5.out,HRB.out⟩|exact⟨t1,_,rfl,HUP.out _ _ _ HU1.out,HRB.out⟩|exact⟨t2,_,rfl,HUP.out _ _ _ HU2.out,HRB.out⟩|exact⟨t3,_,rfl,HUP.out _ _ _ HU3.out,HRB.out⟩|exact⟨⟨_,x_ua,x_un,x_uc,_⟩,_,rfl,HUP.out _ _ _ (Or.inl HXU.out),HRB.out⟩)
 · skip
   have e1:(x_k==1)=false:=beq_eq_false_iff_ne.2 (by omega)
   have e2:(x_k==2)=false:=beq_eq_false_iff_ne.2 (by omega)
   have e3:(x_k==3)=false:=beq_eq_false_iff_ne.2 (by omega)
   have e4:(x_k==4)=false:=beq_eq_false_iff_ne.2 (by omega)
   have e5:(x_k==5)=false:=beq_eq_false_iff_ne.2 (by omega)
   have e6:(x_k==6)=true:=beq_iff_eq.2 (by omega)
   have e7:(x_k==7)=false:=beq_eq_false_iff_ne.2 (by omega)
   have e8:(x_k==8)=false:=beq_eq_false_iff_ne.2 (by omega)
   have hn1:ln=1:=by rw[hn,hq];rfl
   obtain⟨ts,hnn,hts,hun⟩:=HT.out
   have hl1:ts.length=1:=by omega
   obtain⟨t1,rfl⟩:∃ t1,ts=[t1]:=by
    match ts,hl1 with
    |[y0],_=>exact⟨y0,rfl⟩
   obtain rfl:ln=1:=hn1
   obtain⟨b1,o1,rfl,hr⟩:=hts.some (by simp)
   have HU1:Hid (UnW w0 V t1.ua t1.un t1.uc):=(hun t1 (by simp)).kept HBV.out
   have HC:Hid (∀ w',Below V.heap.size V w'->w'.cell? ⟨b1,o1,none⟩=some (.int .i64 t1.k)/\w'.cell? ⟨b1,o1+1,none⟩=some (.slice t1.ua t1.un t1.uc)/\w'.cell? ⟨b1,o1+2,none⟩=some (.string t1.o)):=fun w' h=>⟨Zaa (Zaa (by simpa using hr 0 _ rfl 0 _ rfl) HBV.out) h,Zaa (Zaa (by simpa using hr 0 _ rfl 1 _ rfl) HBV.out) h,Zaa (Zaa (by simpa using hr 0 _ rfl 2 _ rfl) HBV.out) h⟩
   have HCX:Hid (∀ w',Bx w V (w.heap.size+1+1) w'->w'.cell? ⟨b1,o1,none⟩=some (.int .i64 t1.k)/\w'.cell? ⟨b1,o1+1,none⟩=some (.slice t1.ua t1.un t1.uc)/\w'.cell? ⟨b1,o1+2,none⟩=some (.string t1.o)):=fun w' h=>⟨Zaa (by simpa using hr 0 _ rfl 0 _ rfl) h.old,Zaa (by simpa using hr 0 _ rfl 1 _ rfl) h.old,Zaa (by simpa using hr 0 _ rfl 2 _ rfl) h.old⟩
   clear hr hts hun hnn hl1
   obtain⟨c0,c1,c2⟩:=HC.out V (ZR V)
   clear hq hn hk
   go_upto_if 93 with(first|(go_at_call 199;refine(Zdo _ _ _ _ _ _).mono ?_;rintro e w' ⟨b,rfl,hb⟩;have HW:Hid (Below V.heap.size V w'):=ZT (by repeat first|exact ZR _|exact ZH (by assumption)|refine ZA ?_ _|refine ZD ?_|refine ZN ?_ _) hb;clear hb;have KK:=HS.out _ HW.out;obtain⟨k0_0,k0_1,k0_2,k0_3,k0_4,k0_5,k0_6,k0_7,k0_8,k1_0,k1_1,k1_2,k1_3,k1_4,k1_5,k1_6,k1_7,k1_8,k1_9,k1_10,k1_11⟩:=KK;have TQ:=HC.out _ HW.out;obtain⟨c0,c1,c2⟩:=TQ;cases b)|fail)
   all_goals
    go_wp2_with (first|((with_reducible refine Zaw 35 ?_);refine Zah rfl 35 #[] rfl _ (fun w=>ZaV w) ?_;intro v hv)|((with_reducible refine Zal 35 ?_);refine Zai rfl _ _ _ rfl rfl (w.heap.size+1+1) 35 _ _ rfl (by first|exact(by assumption:Hid (_=_)).out|rfl) (B2.out.kept (by repeat first|exact ZR _|exact ZH (by assumption)|refine ZA ?_ _|refine ZD ?_|refine ZN ?_ _)) (by kernel_rfl) (by rfl) (by rfl) w (ZT HBV.out (by repeat first|exact ZR _|exact ZH (by assumption)|refine ZA ?_ _|refine ZD ?_|refine ZN ?_ _)) (by omega) ?_;intro w9 hby hyb hot;have HR:=hid hby;have HRB:=hid hyb;have HOT:=hid hot;clear hby hyb hot;have HUQ:=hid (UnW.putq (w0:=w0) HOT.out (B2.out.kept (by repeat first|exact ZR _|exact ZH (by assumption)|refine ZA ?_ _|refine ZD ?_|refine ZN ?_ _)) (by decide));have HUP:Hid (∀ ua un uc,UnW w0 V ua un uc->UnW w0 w9 ua un uc):=fun _ _ _ hu=>HUQ.out _ _ _ (hu.kept (by repeat first|exact ZR _|exact ZH (by assumption)|refine ZA ?_ _|refine ZD ?_|refine ZN ?_ _)))|fail)
   all_goals
    ((try simp only[Exit.inBlock,Exit.then]);refine bodyPost_ret (Zad rfl rfl HR.out underlying35 rfl (by kernel_rfl)) rfl ?_;first|exact Zaz.zero _ HRB.out|exact Zaz.kind _ _ HRB.out|exact⟨t5,k5,rfl,HUQ.out _ _ _ HV5.out,HRB.out⟩|exact⟨t1,_,rfl,HUP.out _ _ _ HU1.out,HRB.out⟩|exact⟨t2,_,rfl,HUP.out _ _ _ HU2.out,HRB.out⟩|exact⟨t3,_,rfl,HUP.out _ _ _ HU3.out,HRB.out⟩|exact⟨⟨_,x_ua,x_un,x_uc,_⟩,_,rfl,HUP.out _ _ _ (Or.inl HXU.out),HRB.out⟩)
 · skip
   have e1:(x_k==1)=false:=beq_eq_false_iff_ne.2 (by omega)
   have e2:(x_k==2)=false:=beq_eq_false_iff_ne.2 (by omega)
   have e3:(x_k==3)=false:=beq_eq_false_iff_ne.2 (by omega)
   have e4:(x_k==4)=false:=beq_eq_false_iff_ne.2 (by omega)
   have e5:(x_k==5)=false:=beq_eq_false_iff_ne.2 (by omega)
   have e6:(x_k==6)=false:=beq_eq_false_iff_ne.2 (by omega)
   have e7:(x_k==7)=true:=beq_iff_eq.2 (by omega)
   have e8:(x_k==8)=false:=beq_eq_false_iff_ne.2 (by omega)
   have hn2:ln=2:=by rw[hn,hq];rfl
   obtain⟨ts,hnn,hts,hun⟩:=HT.out
   have hl2:ts.length=2:=by omega
   obtain⟨t1,t2,rfl⟩:∃ t1 t2,ts=[t1,t2]:=by
    match ts,hl2 with
    |[y0,y1],_=>exact⟨y0,y1,rfl⟩
   obtain rfl:ln=2:=hn2
   obtain⟨b1,o1,rfl,hr⟩:=hts.some (by simp)
   have HU1:Hid (UnW w0 V t1.ua t1.un t1.uc):=(hun t1 (by simp)).kept HBV.out
   have HU2:Hid (UnW w0 V t2.ua t2.un t2.uc):=(hun t2 (by simp)).kept HBV.out
   have HC:Hid (∀ w',Below V.heap.size V w'->w'.cell? ⟨b1,o1,none⟩=some (.int .i64 t1.k)/\w'.cell? ⟨b1,o1+1,none⟩=some (.slice t1.ua t1.un t1.uc)/\w'.cell? ⟨b1,o1+2,none⟩=some (.string t1.o)/\w'.cell? ⟨b1,o1+3,none⟩=some (.int .i64 t2.k)/\w'.cell? ⟨b1,o1+4,none⟩=some (.slice t2.ua t2.un t2.uc)/\w'.cell? ⟨b1,o1+5,none⟩=some (.string t2.o)):=fun w' h=>⟨Zaa (Zaa (by simpa using hr 0 _ rfl 0 _ rfl) HBV.out) h,Zaa (Zaa (by simpa using hr 0 _ rfl 1 _ rfl) HBV.out) h,Zaa (Zaa (by simpa using hr 0 _ rfl 2 _ rfl) HBV.out) h,Zaa (Zaa (by simpa using hr 1 _ rfl 0 _ rfl) HBV.out) h,Zaa (Zaa (by simpa using hr 1 _ rfl 1 _ rfl) HBV.out) h,Zaa (Zaa (by simpa using hr 1 _ rfl 2 _ rfl) HBV.out) h⟩
   have HCX:Hid (∀ w',Bx w V (w.heap.size+1+1) w'->w'.cell? ⟨b1,o1,none⟩=some (.int .i64 t1.k)/\w'.cell? ⟨b1,o1+1,none⟩=some (.slice t1.ua t1.un t1.uc)/\w'.cell? ⟨b1,o1+2,none⟩=some (.string t1.o)/\w'.cell? ⟨b1,o1+3,none⟩=some (.int .i64 t2.k)/\w'.cell? ⟨b1,o1+4,none⟩=some (.slice t2.ua t2.un t2.uc)/\w'.cell? ⟨b1,o1+5,none⟩=some (.string t2.o)):=fun w' h=>⟨Zaa (by simpa using hr 0 _ rfl 0 _ rfl) h.old,Zaa (by simpa using hr 0 _ rfl 1 _ rfl) h.old,Zaa (by simpa using hr 0 _ rfl 2 _ rfl) h.old,Zaa (by simpa using hr 1 _ rfl 0 _ rfl) h.old,Zaa (by simpa using hr 1 _ rfl 1 _ rfl) h.old,Zaa (by simpa using hr 1 _ rfl 2 _ rfl) h.old⟩
   clear hr hts hun hnn hl2
   obtain⟨c0,c1,c2,c3,c4,c5⟩:=HC.out V (ZR V)
   clear hq hn hk
   go_upto_region 21 with fail
   refine Zbp (S:=fun w'=>Bx w V (w.heap.size+1+1) w') [true,true,true,true,true,true,true,true,false,true,true,false,true] (by kernel_rfl) (by kernel_rfl) (fun _ _ _ _ _ h=>h) (by kernel_rfl) rfl (Bx.of HBV.out (ZD (ZR V))) ?_
   refine Zae (.pointer (some ⟨w.heap.size+1,1,none⟩)) (by rfl) (by intro wq hSw;have KQ:=HSX.out wq hSw;obtain⟨k0_0,k0_1,k0_2,k0_3,k0_4,k0_5,k0_6,k0_7,k0_8,k1_0,k1_1,k1_2,k1_3,k1_4,k1_5,k1_6,k1_7,k1_8,k1_9,k1_10,k1_11⟩:=KQ;have TQ:=HCX.out wq hSw;obtain⟨c0,c1,c2,c3,c4,c5⟩:=TQ;go_simp<;>rfl) ?_
   try simp only[Act.put,m1,m2,m3]
   refine Zae (.string x_o) (by rfl) (by intro wq hSw;have KQ:=HSX.out wq hSw;obtain⟨k0_0,k0_1,k0_2,k0_3,k0_4,k0_5,k0_6,k0_7,k0_8,k1_0,k1_1,k1_2,k1_3,k1_4,k1_5,k1_6,k1_7,k1_8,k1_9,k1_10,k1_11⟩:=KQ;have TQ:=HCX.out wq hSw;obtain⟨c0,c1,c2,c3,c4,c5⟩:=TQ;go_simp<;>rfl) ?_
   try simp only[Act.put,m1,m2,m3]
   refine Zae (.slice (some ⟨b1,o1,none⟩) 2 lc) (by rfl) (by intro wq hSw;have KQ:=HSX.out wq hSw;obtain⟨k0_0,k0_1,k0_2,k0_3,k0_4,k0_5,k0_6,k0_7,k0_8,k1_0,k1_1,k1_2,k1_3,k1_4,k1_5,k1_6,k1_7,k1_8,k1_9,k1_10,k1_11⟩:=KQ;have TQ:=HCX.out wq hSw;obtain⟨c0,c1,c2,c3,c4,c5⟩:=TQ;go_simp<;>rfl) ?_
   try simp only[Act.put,m1,m2,m3]
   refine Zae (.pointer (some ⟨b1,o1,none⟩)) (by rfl) (by intro wq hSw;have KQ:=HSX.out wq hSw;obtain⟨k0_0,k0_1,k0_2,k0_3,k0_4,k0_5,k0_6,k0_7,k0_8,k1_0,k1_1,k1_2,k1_3,k1_4,k1_5,k1_6,k1_7,k1_8,k1_9,k1_10,k1_11⟩:=KQ;have TQ:=HCX.out wq hSw;obtain⟨c0,c1,c2,c3,c4,c5⟩:=TQ;go_simp<;>rfl) ?_
   try simp only[Act.put,m1,m2,m3]
   refine Zae (.agg #[.int .i64 t1.k,.slice t1.ua t1.un t1.uc,.string t1.o]) (by rfl) (by intro wq hSw;have KQ:=HSX.out wq hSw;obtain⟨k0_0,k0_1,k0_2,k0_3,k0_4,k0_5,k0_6,k0_7,k0_8,k1_0,k1_1,k1_2,k1_3,k1_4,k1_5,k1_6,k1_7,k1_8,k1_9,k1_10,k1_11⟩:=KQ;have TQ:=HCX.out wq hSw;obtain⟨c0,c1,c2,c3,c4,c5⟩:=TQ;go_simp<;>rfl) ?_
   try simp only[Act.put,m1,m2,m3]
   refine Zae (.slice (some ⟨b1,o1,none⟩) 2 lc) (by rfl) (by intro wq hSw;have KQ:=HSX.out wq hSw;obtain⟨k0_0,k0_1,k0_2,k0_3,k0_4,k0_5,k0_6,k0_7,k0_8,k1_0,k1_1,k1_2,k1_3,k1_4,k1_5,k1_6,k1_7,k1_8,k1_9,k1_10,k1_11⟩:=KQ;have TQ:=HCX.out wq hSw;obtain⟨c0,c1,c2,c3,c4,c5⟩:=TQ;go_simp<;>rfl) ?_
   try simp only[Act.put,m1,m2,m3]
   refine Zae (.pointer (some ⟨b1,o1+3,none⟩)) (by rfl) (by intro wq hSw;have KQ:=HSX.out wq hSw;obtain⟨k0_0,k0_1,k0_2,k0_3,k0_4,k0_5,k0_6,k0_7,k0_8,k1_0,k1_1,k1_2,k1_3,k1_4,k1_5,k1_6,k1_7,k1_8,k1_9,k1_10,k1_11⟩:=KQ;have TQ:=HCX.out wq hSw;obtain⟨c0,c1,c2,c3,c4,c5⟩:=TQ;go_simp<;>rfl) ?_
   try simp only[Act.put,m1,m2,m3]
   refine Zae (.agg #[.int .i64 t2.k,.slice t2.ua t2.un t2.uc,.string t2.o]) (by rfl) (by intro wq hSw;have KQ:=HSX.out wq hSw;obtain⟨k0_0,k0_1,k0_2,k0_3,k0_4,k0_5,k0_6,k0_7,k0_8,k1_0,k1_1,k1_2,k1_3,k1_4,k1_5,k1_6,k1_7,k1_8,k1_9,k1_10,k1_11⟩:=KQ;have TQ:=HCX.out wq hSw;obtain⟨c0,c1,c2,c3,c4,c5⟩:=TQ;go_simp<;>rfl) ?_
   try simp only[Act.put,m1,m2,m3]
   refine Zbx (by rfl) (fun K hK=>?_)
   go_wp2_with (go_at_call 227;refine(binary_any _ _ _ _ _ _ _ _ _ _ _ _ w0 (HWV.out.trans (Below.mono (by repeat first|exact ZR _|exact ZH (by assumption)|refine ZA ?_ _|refine ZD ?_|refine ZN ?_ _) HWV.out.size)) (HU1.out.kept (by repeat first|exact ZR _|exact ZH (by assumption)|refine ZA ?_ _|refine ZD ?_|refine ZN ?_ _)) (HU2.out.kept (by repeat first|exact ZR _|exact ZH (by assumption)|refine ZA ?_ _|refine ZD ?_|refine ZN ?_ _))).mono ?_;rintro e w5 ⟨t5,k5,rfl,hv5,hb⟩;have HV5:=hid hv5;have HW5:Hid (Below V.heap.size V w5):=ZT (by repeat first|exact ZR _|exact ZH (by assumption)|refine ZA ?_ _|refine ZD ?_|refine ZN ?_ _) hb;clear hb hv5)
   refine hK.out _ _ (Bx.of HBV.out HW5.out) (fun hHeld=>?_)
   clear hK K
   try simp only[Act.put,m1,m2,m3]
   refine Zae (.agg #[.int .i64 t5.k,.slice t5.ua t5.un t5.uc,.string t5.o]) (by rfl) (by intro wq hSw;have KQ:=HSX.out wq hSw;obtain⟨k0_0,k0_1,k0_2,k0_3,k0_4,k0_5,k0_6,k0_7,k0_8,k1_0,k1_1,k1_2,k1_3,k1_4,k1_5,k1_6,k1_7,k1_8,k1_9,k1_10,k1_11⟩:=KQ;have TQ:=HCX.out wq hSw;obtain⟨c0,c1,c2,c3,c4,c5⟩:=TQ;go_simp<;>rfl) ?_
   try simp only[Act.put,m1,m2,m3]
   refine Zae (.int .i64 k5) (by rfl) (by intro wq hSw;have KQ:=HSX.out wq hSw;obtain⟨k0_0,k0_1,k0_2,k0_3,k0_4,k0_5,k0_6,k0_7,k0_8,k1_0,k1_1,k1_2,k1_3,k1_4,k1_5,k1_6,k1_7,k1_8,k1_9,k1_10,k1_11⟩:=KQ;have TQ:=HCX.out wq hSw;obtain⟨c0,c1,c2,c3,c4,c5⟩:=TQ;go_simp<;>rfl) ?_
   try simp only[Act.put,m1,m2,m3]
   refine Zbx (by rfl) (fun K hK=>?_)
   refine Zfk 35 _ _ rfl rfl (w.heap.size+1+1) 35 _ _ rfl rfl (B2.out.kept HW5.out) (by kernel_rfl) (by rfl) (by rfl) (Bx.of HBV.out HW5.out) (by omega) ?_
   intro w9 hby hbx hot
   have HR:=hid hby
   have HRB:Hid (Below w.heap.size w w9):=hbx.old
   have HUQ:=hid (UnW.putq (w0:=w0) hot (B2.out.kept HW5.out) (by decide))
   refine hK.out _ _ hbx (fun hHeld=>?_)
   clear hK K hby hbx hot
   try simp only[Act.put,m1,m2,m3]
   refine Zae (.int .i64 k5) (by rfl) (by intro wq hSw;have KQ:=HSX.out wq hSw;obtain⟨k0_0,k0_1,k0_2,k0_3,k0_4,k0_5,k0_6,k0_7,k0_8,k1_0,k1_1,k1_2,k1_3,k1_4,k1_5,k1_6,k1_7,k1_8,k1_9,k1_10,k1_11⟩:=KQ;have TQ:=HCX.out wq hSw;obtain⟨c0,c1,c2,c3,c4,c5⟩:=TQ;go_simp<;>rfl) ?_
   try simp only[Act.put,m1,m2,m3]
   refine ZbG ?_
   go_wp2_with fail
   ((try simp only[Exit.inBlock,Exit.then]);refine bodyPost_ret (Zad rfl rfl HR.out underlying35 rfl (by kernel_rfl)) rfl ?_;first|exact Zaz.zero _ HRB.out|exact Zaz.kind _ _ HRB.out|exact⟨t5,k5,rfl,HUQ.out _ _ _ HV5.out,HRB.out⟩|exact⟨t1,_,rfl,HUP.out _ _ _ HU1.out,HRB.out⟩|exact⟨t2,_,rfl,HUP.out _ _ _ HU2.out,HRB.out⟩|exact⟨t3,_,rfl,HUP.out _ _ _ HU3.out,HRB.out⟩|exact⟨⟨_,x_ua,x_un,x_uc,_⟩,_,rfl,HUP.out _ _ _ (Or.inl HXU.out),HRB.out⟩)
 · skip
   have e1:(x_k==1)=false:=beq_eq_false_iff_ne.2 (by omega)
   have e2:(x_k==2)=false:=beq_eq_false_iff_ne.2 (by omega)
   have e3:(x_k==3)=false:=beq_eq_false_iff_ne.2 (by omega)
   have e4:(x_k==4)=false:=beq_eq_false_iff_ne.2 (by omega)
   have e5:(x_k==5)=false:=beq_eq_false_iff_ne.2 (by omega)
   have e6:(x_k==6)=false:=beq_eq_false_iff_ne.2 (by omega)
   have e7:(x_k==7)=false:=beq_eq_false_iff_ne.2 (by omega)
   have e8:(x_k==8)=true:=beq_iff_eq.2 (by omega)
   have hn3:ln=3:=by rw[hn,hq];rfl
   obtain⟨ts,hnn,hts,hun⟩:=HT.out
   have hl3:ts.length=3:=by omega
   obtain⟨t1,t2,t3,rfl⟩:∃ t1 t2 t3,ts=[t1,t2,t3]:=by
    match ts,hl3 with
    |[y0,y1,y2],_=>exact⟨y0,y1,y2,rfl⟩
   obtain rfl:ln=3:=hn3
   obtain⟨b1,o1,rfl,hr⟩:=hts.some (by simp)
   have HU1:Hid (UnW w0 V t1.ua t1.un t1.uc):=(hun t1 (by simp)).kept HBV.out
   have HU2:Hid (UnW w0 V t2.ua t2.un t2.uc):=(hun t2 (by simp)).kept HBV.out
   have HU3:Hid (UnW w0 V t3.ua t3.un t3.uc):=(hun t3 (by simp)).kept HBV.out
   have HC:Hid (∀ w',Below V.heap.size V w'->w'.cell? ⟨b1,o1,none⟩=some (.int .i64 t1.k)/\w'.cell? ⟨b1,o1+1,none⟩=some (.slice t1.ua t1.un t1.uc)/\w'.cell? ⟨b1,o1+2,none⟩=some (.string t1.o)/\w'.cell? ⟨b1,o1+3,none⟩=some (.int .i64 t2.k)/\w'.cell? ⟨b1,o1+4,none⟩=some (.slice t2.ua t2.un t2.uc)/\w'.cell? ⟨b1,o1+5,none⟩=some (.string t2.o)/\w'.cell? ⟨b1,o1+6,none⟩=some (.int .i64 t3.k)/\w'.cell? ⟨b1,o1+7,none⟩=some (.slice t3.ua t3.un t3.uc)/\w'.cell? ⟨b1,o1+8,none⟩=some (.string t3.o)):=fun w' h=>⟨Zaa (Zaa (by simpa using hr 0 _ rfl 0 _ rfl) HBV.out) h,Zaa (Zaa (by simpa using hr 0 _ rfl 1 _ rfl) HBV.out) h,Zaa (Zaa (by simpa using hr 0 _ rfl 2 _ rfl) HBV.out) h,Zaa (Zaa (by simpa using hr 1 _ rfl 0 _ rfl) HBV.out) h,Zaa (Zaa (by simpa using hr 1 _ rfl 1 _ rfl) HBV.out) h,Zaa (Zaa (by simpa using hr 1 _ rfl 2 _ rfl) HBV.out) h,Zaa (Zaa (by simpa using hr 2 _ rfl 0 _ rfl) HBV.out) h,Zaa (Zaa (by simpa using hr 2 _ rfl 1 _ rfl) HBV.out) h,Zaa (Zaa (by simpa using hr 2 _ rfl 2 _ rfl) HBV.out) h⟩
   have HCX:Hid (∀ w',Bx w V (w.heap.size+1+1) w'->w'.cell? ⟨b1,o1,none⟩=some (.int .i64 t1.k)/\w'.cell? ⟨b1,o1+1,none⟩=some (.slice t1.ua t1.un t1.uc)/\w'.cell? ⟨b1,o1+2,none⟩=some (.string t1.o)/\w'.cell? ⟨b1,o1+3,none⟩=some (.int .i64 t2.k)/\w'.cell? ⟨b1,o1+4,none⟩=some (.slice t2.ua t2.un t2.uc)/\w'.cell? ⟨b1,o1+5,none⟩=some (.string t2.o)/\w'.cell? ⟨b1,o1+6,none⟩=some (.int .i64 t3.k)/\w'.cell? ⟨b1,o1+7,none⟩=some (.slice t3.ua t3.un t3.uc)/\w'.cell? ⟨b1,o1+8,none⟩=some (.string t3.o)):=fun w' h=>⟨Zaa (by simpa using hr 0 _ rfl 0 _ rfl) h.old,Zaa (by simpa using hr 0 _ rfl 1 _ rfl) h.old,Zaa (by simpa using hr 0 _ rfl 2 _ rfl) h.old,Zaa (by simpa using hr 1 _ rfl 0 _ rfl) h.old,Zaa (by simpa using hr 1 _ rfl 1 _ rfl) h.old,Zaa (by simpa using hr 1 _ rfl 2 _ rfl) h.old,Zaa (by simpa using hr 2 _ rfl 0 _ rfl) h.old,Zaa (by simpa using hr 2 _ rfl 1 _ rfl) h.old,Zaa (by simpa using hr 2 _ rfl 2 _ rfl) h.old⟩
   clear hr hts hun hnn hl3
   obtain⟨c0,c1,c2,c3,c4,c5,c6,c7,c8⟩:=HC.out V (ZR V)
   clear hq hn hk
   go_upto_region 26 with(first|((with_reducible refine Zaw 35 ?_);refine Zah rfl 35 #[] rfl _ (fun w=>ZaV w) ?_;intro v hv)|((with_reducible refine Zal 35 ?_);refine Zai rfl _ _ _ rfl rfl (w.heap.size+1+1) 35 _ _ rfl (by first|exact(by assumption:Hid (_=_)).out|rfl) (B2.out.kept (by repeat first|exact ZR _|exact ZH (by assumption)|refine ZA ?_ _|refine ZD ?_|refine ZN ?_ _)) (by kernel_rfl) (by rfl) (by rfl) w (ZT HBV.out (by repeat first|exact ZR _|exact ZH (by assumption)|refine ZA ?_ _|refine ZD ?_|refine ZN ?_ _)) (by omega) ?_;intro w9 hby hyb hot;have HR:=hid hby;have HRB:=hid hyb;have HOT:=hid hot;clear hby hyb hot;have HUQ:=hid (UnW.putq (w0:=w0) HOT.out (B2.out.kept (by repeat first|exact ZR _|exact ZH (by assumption)|refine ZA ?_ _|refine ZD ?_|refine ZN ?_ _)) (by decide));have HUP:Hid (∀ ua un uc,UnW w0 V ua un uc->UnW w0 w9 ua un uc):=fun _ _ _ hu=>HUQ.out _ _ _ (hu.kept (by repeat first|exact ZR _|exact ZH (by assumption)|refine ZA ?_ _|refine ZD ?_|refine ZN ?_ _)))|fail)
   all_goals first
    |((try simp only[Exit.inBlock,Exit.then]);refine bodyPost_ret (Zad rfl rfl HR.out underlying35 rfl (by kernel_rfl)) rfl ?_;first|exact Zaz.zero _ HRB.out|exact Zaz.kind _ _ HRB.out|exact⟨t5,k5,rfl,HUQ.out _ _ _ HV5.out,HRB.out⟩|exact⟨t1,_,rfl,HUP.out _ _ _ HU1.out,HRB.out⟩|exact⟨t2,_,rfl,HUP.out _ _ _ HU2.out,HRB.out⟩|exact⟨t3,_,rfl,HUP.out _ _ _ HU3.out,HRB.out⟩|exact⟨⟨_,x_ua,x_un,x_uc,_⟩,_,rfl,HUP.out _ _ _ (Or.inl HXU.out),HRB.out⟩)
    |skip
   refine Zbp (S:=fun w'=>Bx w V (w.heap.size+1+1) w') [true,true,true,true,true,true,true,true,true,false,true] (by kernel_rfl) (by kernel_rfl) (fun _ _ _ _ _ h=>h) (by kernel_rfl) rfl (Bx.of HBV.out (ZD (ZR V))) ?_
   refine Zae (.slice (some ⟨b1,o1,none⟩) 3 lc) (by rfl) (by intro wq hSw;have KQ:=HSX.out wq hSw;obtain⟨k0_0,k0_1,k0_2,k0_3,k0_4,k0_5,k0_6,k0_7,k0_8,k1_0,k1_1,k1_2,k1_3,k1_4,k1_5,k1_6,k1_7,k1_8,k1_9,k1_10,k1_11⟩:=KQ;have TQ:=HCX.out wq hSw;obtain⟨c0,c1,c2,c3,c4,c5,c6,c7,c8⟩:=TQ;go_simp<;>rfl) ?_
   try simp only[Act.put,m1,m2,m3]
   refine Zae (.int .i64 2) (by rfl) (by intro wq hSw;have KQ:=HSX.out wq hSw;obtain⟨k0_0,k0_1,k0_2,k0_3,k0_4,k0_5,k0_6,k0_7,k0_8,k1_0,k1_1,k1_2,k1_3,k1_4,k1_5,k1_6,k1_7,k1_8,k1_9,k1_10,k1_11⟩:=KQ;have TQ:=HCX.out wq hSw;obtain⟨c0,c1,c2,c3,c4,c5,c6,c7,c8⟩:=TQ;go_simp<;>rfl) ?_
   try simp only[Act.put,m1,m2,m3]
   refine Zae (.int .i64 1) (by rfl) (by intro wq hSw;have KQ:=HSX.out wq hSw;obtain⟨k0_0,k0_1,k0_2,k0_3,k0_4,k0_5,k0_6,k0_7,k0_8,k1_0,k1_1,k1_2,k1_3,k1_4,k1_5,k1_6,k1_7,k1_8,k1_9,k1_10,k1_11⟩:=KQ;have TQ:=HCX.out wq hSw;obtain⟨c0,c1,c2,c3,c4,c5,c6,c7,c8⟩:=TQ;go_simp<;>rfl) ?_
   try simp only[Act.put,m1,m2,m3]
   refine Zae (.pointer (some ⟨b1,o1+3,none⟩)) (by rfl) (by intro wq hSw;have KQ:=HSX.out wq hSw;obtain⟨k0_0,k0_1,k0_2,k0_3,k0_4,k0_5,k0_6,k0_7,k0_8,k1_0,k1_1,k1_2,k1_3,k1_4,k1_5,k1_6,k1_7,k1_8,k1_9,k1_10,k1_11⟩:=KQ;have TQ:=HCX.out wq hSw;obtain⟨c0,c1,c2,c3,c4,c5,c6,c7,c8⟩:=TQ;go_simp<;>rfl) ?_
   try simp only[Act.put,m1,m2,m3]
   refine Zae (.agg #[.int .i64 t2.k,.slice t2.ua t2.un t2.uc,.string t2.o]) (by rfl) (by intro wq hSw;have KQ:=HSX.out wq hSw;obtain⟨k0_0,k0_1,k0_2,k0_3,k0_4,k0_5,k0_6,k0_7,k0_8,k1_0,k1_1,k1_2,k1_3,k1_4,k1_5,k1_6,k1_7,k1_8,k1_9,k1_10,k1_11⟩:=KQ;have TQ:=HCX.out wq hSw;obtain⟨c0,c1,c2,c3,c4,c5,c6,c7,c8⟩:=TQ;go_simp<;>rfl) ?_
   try simp only[Act.put,m1,m2,m3]
   refine Zae (.slice (some ⟨b1,o1,none⟩) 3 lc) (by rfl) (by intro wq hSw;have KQ:=HSX.out wq hSw;obtain⟨k0_0,k0_1,k0_2,k0_3,k0_4,k0_5,k0_6,k0_7,k0_8,k1_0,k1_1,k1_2,k1_3,k1_4,k1_5,k1_6,k1_7,k1_8,k1_9,k1_10,k1_11⟩:=KQ;have TQ:=HCX.out wq hSw;obtain⟨c0,c1,c2,c3,c4,c5,c6,c7,c8⟩:=TQ;go_simp<;>rfl) ?_
   try simp only[Act.put,m1,m2,m3]
   refine Zae (.int .i64 2) (by rfl) (by intro wq hSw;have KQ:=HSX.out wq hSw;obtain⟨k0_0,k0_1,k0_2,k0_3,k0_4,k0_5,k0_6,k0_7,k0_8,k1_0,k1_1,k1_2,k1_3,k1_4,k1_5,k1_6,k1_7,k1_8,k1_9,k1_10,k1_11⟩:=KQ;have TQ:=HCX.out wq hSw;obtain⟨c0,c1,c2,c3,c4,c5,c6,c7,c8⟩:=TQ;go_simp<;>rfl) ?_
   try simp only[Act.put,m1,m2,m3]
   refine Zae (.pointer (some ⟨b1,o1+6,none⟩)) (by rfl) (by intro wq hSw;have KQ:=HSX.out wq hSw;obtain⟨k0_0,k0_1,k0_2,k0_3,k0_4,k0_5,k0_6,k0_7,k0_8,k1_0,k1_1,k1_2,k1_3,k1_4,k1_5,k1_6,k1_7,k1_8,k1_9,k1_10,k1_11⟩:=KQ;have TQ:=HCX.out wq hSw;obtain⟨c0,c1,c2,c3,c4,c5,c6,c7,c8⟩:=TQ;go_simp<;>rfl) ?_
   try simp only[Act.put,m1,m2,m3]
   refine Zae (.agg #[.int .i64 t3.k,.slice t3.ua t3.un t3.uc,.string t3.o]) (by rfl) (by intro wq hSw;have KQ:=HSX.out wq hSw;obtain⟨k0_0,k0_1,k0_2,k0_3,k0_4,k0_5,k0_6,k0_7,k0_8,k1_0,k1_1,k1_2,k1_3,k1_4,k1_5,k1_6,k1_7,k1_8,k1_9,k1_10,k1_11⟩:=KQ;have TQ:=HCX.out wq hSw;obtain⟨c0,c1,c2,c3,c4,c5,c6,c7,c8⟩:=TQ;go_simp<;>rfl) ?_
   try simp only[Act.put,m1,m2,m3]
   refine Zbx (by rfl) (fun K hK=>?_)
   go_wp2_with (go_at_call 192;refine(both_any _ _ _ _ _ _ _ _ _ _ _ ((HU2.out.kept (by repeat first|exact ZR _|exact ZH (by assumption)|refine ZA ?_ _|refine ZD ?_|refine ZN ?_ _)).unit (HWV.out.trans (Below.mono (by repeat first|exact ZR _|exact ZH (by assumption)|refine ZA ?_ _|refine ZD ?_|refine ZN ?_ _) HWV.out.size))) ((HU3.out.kept (by repeat first|exact ZR _|exact ZH (by assumption)|refine ZA ?_ _|refine ZD ?_|refine ZN ?_ _)).unit (HWV.out.trans (Below.mono (by repeat first|exact ZR _|exact ZH (by assumption)|refine ZA ?_ _|refine ZD ?_|refine ZN ?_ _) HWV.out.size)))).mono ?_;rintro e w5 ⟨k5,rfl,hb⟩;have HW5:Hid (Below V.heap.size V w5):=ZT (by repeat first|exact ZR _|exact ZH (by assumption)|refine ZA ?_ _|refine ZD ?_|refine ZN ?_ _) hb;clear hb)
   refine hK.out _ _ (Bx.of HBV.out HW5.out) (fun hHeld=>?_)
   clear hK K
   try simp only[Act.put,m1,m2,m3]
   refine Zae (.int .i64 k5) (by rfl) (by intro wq hSw;have KQ:=HSX.out wq hSw;obtain⟨k0_0,k0_1,k0_2,k0_3,k0_4,k0_5,k0_6,k0_7,k0_8,k1_0,k1_1,k1_2,k1_3,k1_4,k1_5,k1_6,k1_7,k1_8,k1_9,k1_10,k1_11⟩:=KQ;have TQ:=HCX.out wq hSw;obtain⟨c0,c1,c2,c3,c4,c5,c6,c7,c8⟩:=TQ;go_simp<;>rfl) ?_
   try simp only[Act.put,m1,m2,m3]
   refine ZbG ?_
   have KK:=HS.out _ HW5.out
   obtain⟨k0_0,k0_1,k0_2,k0_3,k0_4,k0_5,k0_6,k0_7,k0_8,k1_0,k1_1,k1_2,k1_3,k1_4,k1_5,k1_6,k1_7,k1_8,k1_9,k1_10,k1_11⟩:=KK
   have TQ:=HC.out _ HW5.out
   obtain⟨c0,c1,c2,c3,c4,c5,c6,c7,c8⟩:=TQ
   go_wp2_with (first|((with_reducible refine Zaw 35 ?_);refine Zah rfl 35 #[] rfl _ (fun w=>ZaV w) ?_;intro v hv)|((with_reducible refine Zal 35 ?_);refine Zai rfl _ _ _ rfl rfl (w.heap.size+1+1) 35 _ _ rfl (by first|exact(by assumption:Hid (_=_)).out|rfl) (B2.out.kept (by repeat first|exact ZR _|exact ZH (by assumption)|refine ZA ?_ _|refine ZD ?_|refine ZN ?_ _)) (by kernel_rfl) (by rfl) (by rfl) w (ZT HBV.out (by repeat first|exact ZR _|exact ZH (by assumption)|refine ZA ?_ _|refine ZD ?_|refine ZN ?_ _)) (by omega) ?_;intro w9 hby hyb hot;have HR:=hid hby;have HRB:=hid hyb;have HOT:=hid hot;clear hby hyb hot;have HUQ:=hid (UnW.putq (w0:=w0) HOT.out (B2.out.kept (by repeat first|exact ZR _|exact ZH (by assumption)|refine ZA ?_ _|refine ZD ?_|refine ZN ?_ _)) (by decide));have HUP:Hid (∀ ua un uc,UnW w0 V ua un uc->UnW w0 w9 ua un uc):=fun _ _ _ hu=>HUQ.out _ _ _ (hu.kept (by repeat first|exact ZR _|exact ZH (by assumption)|refine ZA ?_ _|refine ZD ?_|refine ZN ?_ _)))|fail)
   all_goals
    ((try simp only[Exit.inBlock,Exit.then]);refine bodyPost_ret (Zad rfl rfl HR.out underlying35 rfl (by kernel_rfl)) rfl ?_;first|exact Zaz.zero _ HRB.out|exact Zaz.kind _ _ HRB.out|exact⟨t5,k5,rfl,HUQ.out _ _ _ HV5.out,HRB.out⟩|exact⟨t1,_,rfl,HUP.out _ _ _ HU1.out,HRB.out⟩|exact⟨t2,_,rfl,HUP.out _ _ _ HU2.out,HRB.out⟩|exact⟨t3,_,rfl,HUP.out _ _ _ HU3.out,HRB.out⟩|exact⟨⟨_,x_ua,x_un,x_uc,_⟩,_,rfl,HUP.out _ _ _ (Or.inl HXU.out),HRB.out⟩)
 · skip
   have e1:(x_k==1)=false:=beq_eq_false_iff_ne.2 (by omega)
   have e2:(x_k==2)=false:=beq_eq_false_iff_ne.2 (by omega)
   have e3:(x_k==3)=false:=beq_eq_false_iff_ne.2 (by omega)
   have e4:(x_k==4)=false:=beq_eq_false_iff_ne.2 (by omega)
   have e5:(x_k==5)=false:=beq_eq_false_iff_ne.2 (by omega)
   have e6:(x_k==6)=false:=beq_eq_false_iff_ne.2 (by omega)
   have e7:(x_k==7)=false:=beq_eq_false_iff_ne.2 (by omega)
   have e8:(x_k==8)=false:=beq_eq_false_iff_ne.2 (by omega)
   have hn2:ln=2:=by rw[hn,hq];rfl
   obtain⟨ts,hnn,hts,hun⟩:=HT.out
   have hl2:ts.length=2:=by omega
   obtain⟨t1,t2,rfl⟩:∃ t1 t2,ts=[t1,t2]:=by
    match ts,hl2 with
    |[y0,y1],_=>exact⟨y0,y1,rfl⟩
   obtain rfl:ln=2:=hn2
   obtain⟨b1,o1,rfl,hr⟩:=hts.some (by simp)
   have HU1:Hid (UnW w0 V t1.ua t1.un t1.uc):=(hun t1 (by simp)).kept HBV.out
   have HU2:Hid (UnW w0 V t2.ua t2.un t2.uc):=(hun t2 (by simp)).kept HBV.out
   have HC:Hid (∀ w',Below V.heap.size V w'->w'.cell? ⟨b1,o1,none⟩=some (.int .i64 t1.k)/\w'.cell? ⟨b1,o1+1,none⟩=some (.slice t1.ua t1.un t1.uc)/\w'.cell? ⟨b1,o1+2,none⟩=some (.string t1.o)/\w'.cell? ⟨b1,o1+3,none⟩=some (.int .i64 t2.k)/\w'.cell? ⟨b1,o1+4,none⟩=some (.slice t2.ua t2.un t2.uc)/\w'.cell? ⟨b1,o1+5,none⟩=some (.string t2.o)):=fun w' h=>⟨Zaa (Zaa (by simpa using hr 0 _ rfl 0 _ rfl) HBV.out) h,Zaa (Zaa (by simpa using hr 0 _ rfl 1 _ rfl) HBV.out) h,Zaa (Zaa (by simpa using hr 0 _ rfl 2 _ rfl) HBV.out) h,Zaa (Zaa (by simpa using hr 1 _ rfl 0 _ rfl) HBV.out) h,Zaa (Zaa (by simpa using hr 1 _ rfl 1 _ rfl) HBV.out) h,Zaa (Zaa (by simpa using hr 1 _ rfl 2 _ rfl) HBV.out) h⟩
   have HCX:Hid (∀ w',Bx w V (w.heap.size+1+1) w'->w'.cell? ⟨b1,o1,none⟩=some (.int .i64 t1.k)/\w'.cell? ⟨b1,o1+1,none⟩=some (.slice t1.ua t1.un t1.uc)/\w'.cell? ⟨b1,o1+2,none⟩=some (.string t1.o)/\w'.cell? ⟨b1,o1+3,none⟩=some (.int .i64 t2.k)/\w'.cell? ⟨b1,o1+4,none⟩=some (.slice t2.ua t2.un t2.uc)/\w'.cell? ⟨b1,o1+5,none⟩=some (.string t2.o)):=fun w' h=>⟨Zaa (by simpa using hr 0 _ rfl 0 _ rfl) h.old,Zaa (by simpa using hr 0 _ rfl 1 _ rfl) h.old,Zaa (by simpa using hr 0 _ rfl 2 _ rfl) h.old,Zaa (by simpa using hr 1 _ rfl 0 _ rfl) h.old,Zaa (by simpa using hr 1 _ rfl 1 _ rfl) h.old,Zaa (by simpa using hr 1 _ rfl 2 _ rfl) h.old⟩
   clear hr hts hun hnn hl2
   obtain⟨c0,c1,c2,c3,c4,c5⟩:=HC.out V (ZR V)
   clear hq hn hk
   go_upto_region 26 with(first|((with_reducible refine Zaw 35 ?_);refine Zah rfl 35 #[] rfl _ (fun w=>ZaV w) ?_;intro v hv)|((with_reducible refine Zal 35 ?_);refine Zai rfl _ _ _ rfl rfl (w.heap.size+1+1) 35 _ _ rfl (by first|exact(by assumption:Hid (_=_)).out|rfl) (B2.out.kept (by repeat first|exact ZR _|exact ZH (by assumption)|refine ZA ?_ _|refine ZD ?_|refine ZN ?_ _)) (by kernel_rfl) (by rfl) (by rfl) w (ZT HBV.out (by repeat first|exact ZR _|exact ZH (by assumption)|refine ZA ?_ _|refine ZD ?_|refine ZN ?_ _)) (by omega) ?_;intro w9 hby hyb hot;have HR:=hid hby;have HRB:=hid hyb;have HOT:=hid hot;clear hby hyb hot;have HUQ:=hid (UnW.putq (w0:=w0) HOT.out (B2.out.kept (by repeat first|exact ZR _|exact ZH (by assumption)|refine ZA ?_ _|refine ZD ?_|refine ZN ?_ _)) (by decide));have HUP:Hid (∀ ua un uc,UnW w0 V ua un uc->UnW w0 w9 ua un uc):=fun _ _ _ hu=>HUQ.out _ _ _ (hu.kept (by repeat first|exact ZR _|exact ZH (by assumption)|refine ZA ?_ _|refine ZD ?_|refine ZN ?_ _)))|fail)
   all_goals first
    |((try simp only[Exit.inBlock,Exit.then]);refine bodyPost_ret (Zad rfl rfl HR.out underlying35 rfl (by kernel_rfl)) rfl ?_;first|exact Zaz.zero _ HRB.out|exact Zaz.kind _ _ HRB.out|exact⟨t5,k5,rfl,HUQ.out _ _ _ HV5.out,HRB.out⟩|exact⟨t1,_,rfl,HUP.out _ _ _ HU1.out,HRB.out⟩|exact⟨t2,_,rfl,HUP.out _ _ _ HU2.out,HRB.out⟩|exact⟨t3,_,rfl,HUP.out _ _ _ HU3.out,HRB.out⟩|exact⟨⟨_,x_ua,x_un,x_uc,_⟩,_,rfl,HUP.out _ _ _ (Or.inl HXU.out),HRB.out⟩)
    |skip
   refine Zbp (S:=fun w'=>Bx w V (w.heap.size+1+1) w') [true,true,true,true,true,true,true,true,true,false,true] (by kernel_rfl) (by kernel_rfl) (fun _ _ _ _ _ h=>h) (by kernel_rfl) rfl (Bx.of HBV.out (ZD (ZR V))) ?_
   refine Zae (.slice (some ⟨b1,o1,none⟩) 2 lc) (by rfl) (by intro wq hSw;have KQ:=HSX.out wq hSw;obtain⟨k0_0,k0_1,k0_2,k0_3,k0_4,k0_5,k0_6,k0_7,k0_8,k1_0,k1_1,k1_2,k1_3,k1_4,k1_5,k1_6,k1_7,k1_8,k1_9,k1_10,k1_11⟩:=KQ;have TQ:=HCX.out wq hSw;obtain⟨c0,c1,c2,c3,c4,c5⟩:=TQ;go_simp<;>rfl) ?_
   try simp only[Act.put,m1,m2,m3]
   refine Zae (.int .i64 1) (by rfl) (by intro wq hSw;have KQ:=HSX.out wq hSw;obtain⟨k0_0,k0_1,k0_2,k0_3,k0_4,k0_5,k0_6,k0_7,k0_8,k1_0,k1_1,k1_2,k1_3,k1_4,k1_5,k1_6,k1_7,k1_8,k1_9,k1_10,k1_11⟩:=KQ;have TQ:=HCX.out wq hSw;obtain⟨c0,c1,c2,c3,c4,c5⟩:=TQ;go_simp<;>rfl) ?_
   try simp only[Act.put,m1,m2,m3]
   refine Zae (.int .i64 0) (by rfl) (by intro wq hSw;have KQ:=HSX.out wq hSw;obtain⟨k0_0,k0_1,k0_2,k0_3,k0_4,k0_5,k0_6,k0_7,k0_8,k1_0,k1_1,k1_2,k1_3,k1_4,k1_5,k1_6,k1_7,k1_8,k1_9,k1_10,k1_11⟩:=KQ;have TQ:=HCX.out wq hSw;obtain⟨c0,c1,c2,c3,c4,c5⟩:=TQ;go_simp<;>rfl) ?_
   try simp only[Act.put,m1,m2,m3]
   refine Zae (.pointer (some ⟨b1,o1,none⟩)) (by rfl) (by intro wq hSw;have KQ:=HSX.out wq hSw;obtain⟨k0_0,k0_1,k0_2,k0_3,k0_4,k0_5,k0_6,k0_7,k0_8,k1_0,k1_1,k1_2,k1_3,k1_4,k1_5,k1_6,k1_7,k1_8,k1_9,k1_10,k1_11⟩:=KQ;have TQ:=HCX.out wq hSw;obtain⟨c0,c1,c2,c3,c4,c5⟩:=TQ;go_simp<;>rfl) ?_
   try simp only[Act.put,m1,m2,m3]
   refine Zae (.agg #[.int .i64 t1.k,.slice t1.ua t1.un t1.uc,.string t1.o]) (by rfl) (by intro wq hSw;have KQ:=HSX.out wq hSw;obtain⟨k0_0,k0_1,k0_2,k0_3,k0_4,k0_5,k0_6,k0_7,k0_8,k1_0,k1_1,k1_2,k1_3,k1_4,k1_5,k1_6,k1_7,k1_8,k1_9,k1_10,k1_11⟩:=KQ;have TQ:=HCX.out wq hSw;obtain⟨c0,c1,c2,c3,c4,c5⟩:=TQ;go_simp<;>rfl) ?_
   try simp only[Act.put,m1,m2,m3]
   refine Zae (.slice (some ⟨b1,o1,none⟩) 2 lc) (by rfl) (by intro wq hSw;have KQ:=HSX.out wq hSw;obtain⟨k0_0,k0_1,k0_2,k0_3,k0_4,k0_5,k0_6,k0_7,k0_8,k1_0,k1_1,k1_2,k1_3,k1_4,k1_5,k1_6,k1_7,k1_8,k1_9,k1_10,k1_11⟩:=KQ;have TQ:=HCX.out wq hSw;obtain⟨c0,c1,c2,c3,c4,c5⟩:=TQ;go_simp<;>rfl) ?_
   try simp only[Act.put,m1,m2,m3]
   refine Zae (.int .i64 1) (by rfl) (by intro wq hSw;have KQ:=HSX.out wq hSw;obtain⟨k0_0,k0_1,k0_2,k0_3,k0_4,k0_5,k0_6,k0_7,k0_8,k1_0,k1_1,k1_2,k1_3,k1_4,k1_5,k1_6,k1_7,k1_8,k1_9,k1_10,k1_11⟩:=KQ;have TQ:=HCX.out wq hSw;obtain⟨c0,c1,c2,c3,c4,c5⟩:=TQ;go_simp<;>rfl) ?_
   try simp only[Act.put,m1,m2,m3]
   refine Zae (.pointer (some ⟨b1,o1+3,none⟩)) (by rfl) (by intro wq hSw;have KQ:=HSX.out wq hSw;obtain⟨k0_0,k0_1,k0_2,k0_3,k0_4,k0_5,k0_6,k0_7,k0_8,k1_0,k1_1,k1_2,k1_3,k1_4,k1_5,k1_6,k1_7,k1_8,k1_9,k1_10,k1_11⟩:=KQ;have TQ:=HCX.out wq hSw;obtain⟨c0,c1,c2,c3,c4,c5⟩:=TQ;go_simp<;>rfl) ?_
   try simp only[Act.put,m1,m2,m3]
   refine Zae (.agg #[.int .i64 t2.k,.slice t2.ua t2.un t2.uc,.string t2.o]) (by rfl) (by intro wq hSw;have KQ:=HSX.out wq hSw;obtain⟨k0_0,k0_1,k0_2,k0_3,k0_4,k0_5,k0_6,k0_7,k0_8,k1_0,k1_1,k1_2,k1_3,k1_4,k1_5,k1_6,k1_7,k1_8,k1_9,k1_10,k1_11⟩:=KQ;have TQ:=HCX.out wq hSw;obtain⟨c0,c1,c2,c3,c4,c5⟩:=TQ;go_simp<;>rfl) ?_
   try simp only[Act.put,m1,m2,m3]
   refine Zbx (by rfl) (fun K hK=>?_)
   go_wp2_with (go_at_call 192;refine(both_any _ _ _ _ _ _ _ _ _ _ _ ((HU1.out.kept (by repeat first|exact ZR _|exact ZH (by assumption)|refine ZA ?_ _|refine ZD ?_|refine ZN ?_ _)).unit (HWV.out.trans (Below.mono (by repeat first|exact ZR _|exact ZH (by assumption)|refine ZA ?_ _|refine ZD ?_|refine ZN ?_ _) HWV.out.size))) ((HU2.out.kept (by repeat first|exact ZR _|exact ZH (by assumption)|refine ZA ?_ _|refine ZD ?_|refine ZN ?_ _)).unit (HWV.out.trans (Below.mono (by repeat first|exact ZR _|exact ZH (by assumption)|refine ZA ?_ _|refine ZD ?_|refine ZN ?_ _) HWV.out.size)))).mono ?_;rintro e w5 ⟨k5,rfl,hb⟩;have HW5:Hid (Below V.heap.size V w5):=ZT (by repeat first|exact ZR _|exact ZH (by assumption)|refine ZA ?_ _|refine ZD ?_|refine ZN ?_ _) hb;clear hb)
   refine hK.out _ _ (Bx.of HBV.out HW5.out) (fun hHeld=>?_)
   clear hK K
   try simp only[Act.put,m1,m2,m3]
   refine Zae (.int .i64 k5) (by rfl) (by intro wq hSw;have KQ:=HSX.out wq hSw;obtain⟨k0_0,k0_1,k0_2,k0_3,k0_4,k0_5,k0_6,k0_7,k0_8,k1_0,k1_1,k1_2,k1_3,k1_4,k1_5,k1_6,k1_7,k1_8,k1_9,k1_10,k1_11⟩:=KQ;have TQ:=HCX.out wq hSw;obtain⟨c0,c1,c2,c3,c4,c5⟩:=TQ;go_simp<;>rfl) ?_
   try simp only[Act.put,m1,m2,m3]
   refine ZbG ?_
   have KK:=HS.out _ HW5.out
   obtain⟨k0_0,k0_1,k0_2,k0_3,k0_4,k0_5,k0_6,k0_7,k0_8,k1_0,k1_1,k1_2,k1_3,k1_4,k1_5,k1_6,k1_7,k1_8,k1_9,k1_10,k1_11⟩:=KK
   have TQ:=HC.out _ HW5.out
   obtain⟨c0,c1,c2,c3,c4,c5⟩:=TQ
   go_wp2_with (first|((with_reducible refine Zaw 35 ?_);refine Zah rfl 35 #[] rfl _ (fun w=>ZaV w) ?_;intro v hv)|((with_reducible refine Zal 35 ?_);refine Zai rfl _ _ _ rfl rfl (w.heap.size+1+1) 35 _ _ rfl (by first|exact(by assumption:Hid (_=_)).out|rfl) (B2.out.kept (by repeat first|exact ZR _|exact ZH (by assumption)|refine ZA ?_ _|refine ZD ?_|refine ZN ?_ _)) (by kernel_rfl) (by rfl) (by rfl) w (ZT HBV.out (by repeat first|exact ZR _|exact ZH (by assumption)|refine ZA ?_ _|refine ZD ?_|refine ZN ?_ _)) (by omega) ?_;intro w9 hby hyb hot;have HR:=hid hby;have HRB:=hid hyb;have HOT:=hid hot;clear hby hyb hot;have HUQ:=hid (UnW.putq (w0:=w0) HOT.out (B2.out.kept (by repeat first|exact ZR _|exact ZH (by assumption)|refine ZA ?_ _|refine ZD ?_|refine ZN ?_ _)) (by decide));have HUP:Hid (∀ ua un uc,UnW w0 V ua un uc->UnW w0 w9 ua un uc):=fun _ _ _ hu=>HUQ.out _ _ _ (hu.kept (by repeat first|exact ZR _|exact ZH (by assumption)|refine ZA ?_ _|refine ZD ?_|refine ZN ?_ _)))|fail)
   all_goals
    ((try simp only[Exit.inBlock,Exit.then]);refine bodyPost_ret (Zad rfl rfl HR.out underlying35 rfl (by kernel_rfl)) rfl ?_;first|exact Zaz.zero _ HRB.out|exact Zaz.kind _ _ HRB.out|exact⟨t5,k5,rfl,HUQ.out _ _ _ HV5.out,HRB.out⟩|exact⟨t1,_,rfl,HUP.out _ _ _ HU1.out,HRB.out⟩|exact⟨t2,_,rfl,HUP.out _ _ _ HU2.out,HRB.out⟩|exact⟨t3,_,rfl,HUP.out _ _ _ HU3.out,HRB.out⟩|exact⟨⟨_,x_ua,x_un,x_uc,_⟩,_,rfl,HUP.out _ _ _ (Or.inl HXU.out),HRB.out⟩)
end Go.Proofs.YtfnpfkgmacaboaaGreat
