/- Texts joined by a program. -/
import Derived.Deep.RegionHeld3
import Derived.Deep.Cut
import Derived.StillTailTactics
import Derived.Test.YtfnpfkgmacaboaaGreatM04
namespace Go.Proofs.YtfnpfkgmacaboaaGreat
open Go.Proofs.Tryz
open Lib (hid)
open Go.ChangeShapes Go.WideShapes Go.ChangeAt Go.RowKit
set_option linter.unusedVariables false
set_option linter.unusedSimpArgs false
set_option maxRecDepth 100000
set_option maxHeartbeats 4000000
def AggOk:Prop:=∀ (x_k:Int) (x_o:ByteArray) (x_m:ByteArray) (x_t:ByteArray) (x_vk:Int) (x_vn:Int) (x_vs:ByteArray) (x_ua:Option Addr) (x_un:Nat) (x_uc:Nat) (x_p:Int) (x_wk:Int) (x_wz:Int) (x_xa:Option Addr) (x_xn:Nat) (x_xc:Nat) (w:World) (h:Zao w x_ua x_un),Calls prog 221 #[.agg #[.int .i64 x_k,.string x_o,.string x_m,.string x_t,.int .i64 x_vk,.int .i64 x_vn,.string x_vs,.slice x_ua x_un x_uc,.int .i64 x_p,.int .i64 x_wk,.int .i64 x_wz,.slice x_xa x_xn x_xc]] w (GotB w)
def NodePost (k:Int)(w:World)(e:Ending)(w':World):Prop:=∃ (m:Int) (b:Bool),e=.returned (.tuple #[.int .i64 m,.bool b])/\m=(arity k:Nat)/\(b=true->1<=k/\k<=9)/\Below w.heap.size w w'
theorem node_any (x_k:Int)(x_o:ByteArray)(x_m:ByteArray)(x_t:ByteArray)(x_vk:Int)(x_vn:Int)(x_vs:ByteArray)(x_ua:Option Addr)(x_un:Nat)(x_uc:Nat)(x_p:Int)(x_wk:Int)(x_wz:Int)(x_xa:Option Addr)(x_xn:Nat)(x_xc:Nat)(ins:Bool)(w:World)(hagg:AggOk)(hs:x_vs.size<=140737488355328)(h:Zao w x_ua x_un):Calls prog 211 #[.agg #[.int .i64 x_k,.string x_o,.string x_m,.string x_t,.int .i64 x_vk,.int .i64 x_vn,.string x_vs,.slice x_ua x_un x_uc,.int .i64 x_p,.int .i64 x_wk,.int .i64 x_wz,.slice x_xa x_xn x_xc],.bool ins] w (NodePost x_k w):=by
 have H:=hid h
 clear h
 go_enter func211,ntmps211
 go_upto_region 1 with fail
 refine Zam (fun V hV=>?_)
 have B0:Hid (Box V w.heap.size #[.int .i64 x_k,.string x_o,.string x_m,.string x_t,.int .i64 x_vk,.int .i64 x_vn,.string x_vs,.slice x_ua x_un x_uc,.int .i64 x_p,.int .i64 x_wk,.int .i64 x_wz,.slice x_xa x_xn x_xc] 42):=by rw[hV];exact ZaE _ _ _
 have HBV:Hid (Below w.heap.size w V):=by rw[hV];exact(by repeat first|exact ZR _|refine ZA ?_ _)
 clear hV
 have HS:Hid (∀ w',Below V.heap.size V w'->w'.cell? ⟨w.heap.size,0,none⟩=some (.int .i64 x_k)/\w'.cell? ⟨w.heap.size,1,none⟩=some (.string x_o)/\w'.cell? ⟨w.heap.size,2,none⟩=some (.string x_m)/\w'.cell? ⟨w.heap.size,3,none⟩=some (.string x_t)/\w'.cell? ⟨w.heap.size,4,none⟩=some (.int .i64 x_vk)/\w'.cell? ⟨w.heap.size,5,none⟩=some (.int .i64 x_vn)/\w'.cell? ⟨w.heap.size,6,none⟩=some (.string x_vs)/\w'.cell? ⟨w.heap.size,7,none⟩=some (.slice x_ua x_un x_uc)/\w'.cell? ⟨w.heap.size,8,none⟩=some (.int .i64 x_p)/\w'.cell? ⟨w.heap.size,9,none⟩=some (.int .i64 x_wk)/\w'.cell? ⟨w.heap.size,10,none⟩=some (.int .i64 x_wz)/\w'.cell? ⟨w.heap.size,11,none⟩=some (.slice x_xa x_xn x_xc)):=fun w' h=>⟨(B0.out.kept h).cell 0 _ rfl,(B0.out.kept h).cell 1 _ rfl,(B0.out.kept h).cell 2 _ rfl,(B0.out.kept h).cell 3 _ rfl,(B0.out.kept h).cell 4 _ rfl,(B0.out.kept h).cell 5 _ rfl,(B0.out.kept h).cell 6 _ rfl,(B0.out.kept h).cell 7 _ rfl,(B0.out.kept h).cell 8 _ rfl,(B0.out.kept h).cell 9 _ rfl,(B0.out.kept h).cell 10 _ rfl,(B0.out.kept h).cell 11 _ rfl⟩
 obtain⟨k0_0,k0_1,k0_2,k0_3,k0_4,k0_5,k0_6,k0_7,k0_8,k0_9,k0_10,k0_11⟩:=HS.out V (ZR V)
 have HU:Hid (∀ w',Below V.heap.size V w'->Zao w' x_ua x_un):=fun w' h=>(H.out.kept HBV.out).kept h
 go_cut [6] (fun v wx=>∃ b:Bool,v=.bool b/\Hid (Below V.heap.size V wx))
 case first =>
  go_wp2_with (first|(go_at_call 140;refine(ZbF _ _).mono ?_;rintro e w' ⟨b,rfl,hb⟩;have HW:Hid (Below V.heap.size V w'):=ZT (by repeat first|exact ZR _|exact ZH (by assumption)|refine ZA ?_ _|refine ZD ?_|refine ZN ?_ _) hb;clear hb;have KK:=HS.out _ HW.out;obtain⟨k0_0,k0_1,k0_2,k0_3,k0_4,k0_5,k0_6,k0_7,k0_8,k0_9,k0_10,k0_11⟩:=KK;cases b)|(go_at_call 220;refine(ZdE _ _ _ _ _ _ _ _ _ _ _ _ _ _ _ _ _ hs (HU.out _ (by repeat first|exact ZR _|exact ZH (by assumption)|refine ZA ?_ _|refine ZD ?_|refine ZN ?_ _))).mono ?_;rintro e w' ⟨b,rfl,hb⟩;have HW:Hid (Below V.heap.size V w'):=ZT (by repeat first|exact ZR _|exact ZH (by assumption)|refine ZA ?_ _|refine ZD ?_|refine ZN ?_ _) hb;clear hb;have KK:=HS.out _ HW.out;obtain⟨k0_0,k0_1,k0_2,k0_3,k0_4,k0_5,k0_6,k0_7,k0_8,k0_9,k0_10,k0_11⟩:=KK;cases b)|(go_at_call 221;refine(hagg _ _ _ _ _ _ _ _ _ _ _ _ _ _ _ _ _ (HU.out _ (by repeat first|exact ZR _|exact ZH (by assumption)|refine ZA ?_ _|refine ZD ?_|refine ZN ?_ _))).mono ?_;rintro e w' ⟨b,rfl,hb⟩;have HW:Hid (Below V.heap.size V w'):=ZT (by repeat first|exact ZR _|exact ZH (by assumption)|refine ZA ?_ _|refine ZD ?_|refine ZN ?_ _) hb;clear hb;have KK:=HS.out _ HW.out;obtain⟨k0_0,k0_1,k0_2,k0_3,k0_4,k0_5,k0_6,k0_7,k0_8,k0_9,k0_10,k0_11⟩:=KK;cases b)|(go_at_call 219;refine(ZcL _ _ _ _ _ _ _ _ _ _ _ _ _ _ _ _ _ _ _ _ _ _ _ _ _ _ _ _ _ _ _ _ _ (HU.out _ (by repeat first|exact ZR _|exact ZH (by assumption)|refine ZA ?_ _|refine ZD ?_|refine ZN ?_ _)) (by first|exact Zao.nil _ _|exact HU.out _ (by repeat first|exact ZR _|exact ZH (by assumption)|refine ZA ?_ _|refine ZD ?_|refine ZN ?_ _))).mono ?_;rintro e w' ⟨b,rfl,hb⟩;have HW:Hid (Below V.heap.size V w'):=ZT (by repeat first|exact ZR _|exact ZH (by assumption)|refine ZA ?_ _|refine ZD ?_|refine ZN ?_ _) hb;clear hb;have KK:=HS.out _ HW.out;obtain⟨k0_0,k0_1,k0_2,k0_3,k0_4,k0_5,k0_6,k0_7,k0_8,k0_9,k0_10,k0_11⟩:=KK;cases b)|(go_at_call 222;refine(Zfo _ _ _ _ _ (ZdZ [⟨#[45]⟩,⟨#[110,111,116]⟩,⟨#[110,117,108,108]⟩] _ (by decide))).mono ?_;rintro e w' ⟨b,rfl,hb⟩;have HW:Hid (Below V.heap.size V w'):=ZT (by repeat first|exact ZR _|exact ZH (by assumption)|refine ZA ?_ _|refine ZD ?_|refine ZN ?_ _) hb;clear hb;have KK:=HS.out _ HW.out;obtain⟨k0_0,k0_1,k0_2,k0_3,k0_4,k0_5,k0_6,k0_7,k0_8,k0_9,k0_10,k0_11⟩:=KK;cases b)|fail)
  all_goals
   go_meet
   case rel=>exact⟨_,rfl,(by repeat first|exact ZR _|exact ZH (by assumption)|refine ZA ?_ _|refine ZD ?_|refine ZN ?_ _)⟩
 case rest =>
  obtain⟨b6,rfl,HB6⟩:=hcut
  rename World=>w6
  have KK:=HS.out _ HB6.out
  obtain⟨k0_0,k0_1,k0_2,k0_3,k0_4,k0_5,k0_6,k0_7,k0_8,k0_9,k0_10,k0_11⟩:=KK
  go_upto_region 2 with fail
  go_cut [7] (fun v wx=>∃ b:Bool,v=.bool b/\Hid (Below V.heap.size V wx))
  case first =>
   go_wp2_with (first|(go_at_call 140;refine(ZbF _ _).mono ?_;rintro e w' ⟨b,rfl,hb⟩;have HW:Hid (Below V.heap.size V w'):=ZT (by repeat first|exact ZR _|exact ZH (by assumption)|refine ZA ?_ _|refine ZD ?_|refine ZN ?_ _) hb;clear hb;have KK:=HS.out _ HW.out;obtain⟨k0_0,k0_1,k0_2,k0_3,k0_4,k0_5,k0_6,k0_7,k0_8,k0_9,k0_10,k0_11⟩:=KK;cases b)|(go_at_call 220;refine(ZdE _ _ _ _ _ _ _ _ _ _ _ _ _ _ _ _ _ hs (HU.out _ (by repeat first|exact ZR _|exact ZH (by assumption)|refine ZA ?_ _|refine ZD ?_|refine ZN ?_ _))).mono ?_;rintro e w' ⟨b,rfl,hb⟩;have HW:Hid (Below V.heap.size V w'):=ZT (by repeat first|exact ZR _|exact ZH (by assumption)|refine ZA ?_ _|refine ZD ?_|refine ZN ?_ _) hb;clear hb;have KK:=HS.out _ HW.out;obtain⟨k0_0,k0_1,k0_2,k0_3,k0_4,k0_5,k0_6,k0_7,k0_8,k0_9,k0_10,k0_11⟩:=KK;cases b)|(go_at_call 221;refine(hagg _ _ _ _ _ _ _ _ _ _ _ _ _ _ _ _ _ (HU.out _ (by repeat first|exact ZR _|exact ZH (by assumption)|refine ZA ?_ _|refine ZD ?_|refine ZN ?_ _))).mono ?_;rintro e w' ⟨b,rfl,hb⟩;have HW:Hid (Below V.heap.size V w'):=ZT (by repeat first|exact ZR _|exact ZH (by assumption)|refine ZA ?_ _|refine ZD ?_|refine ZN ?_ _) hb;clear hb;have KK:=HS.out _ HW.out;obtain⟨k0_0,k0_1,k0_2,k0_3,k0_4,k0_5,k0_6,k0_7,k0_8,k0_9,k0_10,k0_11⟩:=KK;cases b)|(go_at_call 219;refine(ZcL _ _ _ _ _ _ _ _ _ _ _ _ _ _ _ _ _ _ _ _ _ _ _ _ _ _ _ _ _ _ _ _ _ (HU.out _ (by repeat first|exact ZR _|exact ZH (by assumption)|refine ZA ?_ _|refine ZD ?_|refine ZN ?_ _)) (by first|exact Zao.nil _ _|exact HU.out _ (by repeat first|exact ZR _|exact ZH (by assumption)|refine ZA ?_ _|refine ZD ?_|refine ZN ?_ _))).mono ?_;rintro e w' ⟨b,rfl,hb⟩;have HW:Hid (Below V.heap.size V w'):=ZT (by repeat first|exact ZR _|exact ZH (by assumption)|refine ZA ?_ _|refine ZD ?_|refine ZN ?_ _) hb;clear hb;have KK:=HS.out _ HW.out;obtain⟨k0_0,k0_1,k0_2,k0_3,k0_4,k0_5,k0_6,k0_7,k0_8,k0_9,k0_10,k0_11⟩:=KK;cases b)|(go_at_call 222;refine(Zfo _ _ _ _ _ (ZdZ [⟨#[45]⟩,⟨#[110,111,116]⟩,⟨#[110,117,108,108]⟩] _ (by decide))).mono ?_;rintro e w' ⟨b,rfl,hb⟩;have HW:Hid (Below V.heap.size V w'):=ZT (by repeat first|exact ZR _|exact ZH (by assumption)|refine ZA ?_ _|refine ZD ?_|refine ZN ?_ _) hb;clear hb;have KK:=HS.out _ HW.out;obtain⟨k0_0,k0_1,k0_2,k0_3,k0_4,k0_5,k0_6,k0_7,k0_8,k0_9,k0_10,k0_11⟩:=KK;cases b)|fail)
   all_goals
    go_meet
    case rel=>exact⟨_,rfl,(by repeat first|exact ZR _|exact ZH (by assumption)|refine ZA ?_ _|refine ZD ?_|refine ZN ?_ _)⟩
  case rest =>
   obtain⟨b7,rfl,HB7⟩:=hcut
   rename World=>w7
   have KK:=HS.out _ HB7.out
   obtain⟨k0_0,k0_1,k0_2,k0_3,k0_4,k0_5,k0_6,k0_7,k0_8,k0_9,k0_10,k0_11⟩:=KK
   have hkk:x_k=1∨x_k=2∨x_k=3∨x_k=4∨x_k=5∨x_k=6∨x_k=7∨x_k=8∨x_k=9∨(x_k<1∨9<x_k):=by omega
   rcases hkk with hk|hk|hk|hk|hk|hk|hk|hk|hk|hk
   all_goals
    cases b7<;>cases b6
   all_goals
    first|have e1:(x_k==1)=true:=beq_iff_eq.2 (by omega)|have e1:(x_k==1)=false:=beq_eq_false_iff_ne.2 (by omega)
    first|have e2:(x_k==2)=true:=beq_iff_eq.2 (by omega)|have e2:(x_k==2)=false:=beq_eq_false_iff_ne.2 (by omega)
    first|have e3:(x_k==3)=true:=beq_iff_eq.2 (by omega)|have e3:(x_k==3)=false:=beq_eq_false_iff_ne.2 (by omega)
    first|have e4:(x_k==4)=true:=beq_iff_eq.2 (by omega)|have e4:(x_k==4)=false:=beq_eq_false_iff_ne.2 (by omega)
    first|have e5:(x_k==5)=true:=beq_iff_eq.2 (by omega)|have e5:(x_k==5)=false:=beq_eq_false_iff_ne.2 (by omega)
    first|have e6:(x_k==6)=true:=beq_iff_eq.2 (by omega)|have e6:(x_k==6)=false:=beq_eq_false_iff_ne.2 (by omega)
    first|have e7:(x_k==7)=true:=beq_iff_eq.2 (by omega)|have e7:(x_k==7)=false:=beq_eq_false_iff_ne.2 (by omega)
    first|have e8:(x_k==8)=true:=beq_iff_eq.2 (by omega)|have e8:(x_k==8)=false:=beq_eq_false_iff_ne.2 (by omega)
    first|have e9:(x_k==9)=true:=beq_iff_eq.2 (by omega)|have e9:(x_k==9)=false:=beq_eq_false_iff_ne.2 (by omega)
   all_goals
    go_wp2_with (first|(go_at_call 140;refine(ZbF _ _).mono ?_;rintro e w' ⟨b,rfl,hb⟩;have HW:Hid (Below V.heap.size V w'):=ZT (by repeat first|exact ZR _|exact ZH (by assumption)|refine ZA ?_ _|refine ZD ?_|refine ZN ?_ _) hb;clear hb;have KK:=HS.out _ HW.out;obtain⟨k0_0,k0_1,k0_2,k0_3,k0_4,k0_5,k0_6,k0_7,k0_8,k0_9,k0_10,k0_11⟩:=KK;cases b)|(go_at_call 220;refine(ZdE _ _ _ _ _ _ _ _ _ _ _ _ _ _ _ _ _ hs (HU.out _ (by repeat first|exact ZR _|exact ZH (by assumption)|refine ZA ?_ _|refine ZD ?_|refine ZN ?_ _))).mono ?_;rintro e w' ⟨b,rfl,hb⟩;have HW:Hid (Below V.heap.size V w'):=ZT (by repeat first|exact ZR _|exact ZH (by assumption)|refine ZA ?_ _|refine ZD ?_|refine ZN ?_ _) hb;clear hb;have KK:=HS.out _ HW.out;obtain⟨k0_0,k0_1,k0_2,k0_3,k0_4,k0_5,k0_6,k0_7,k0_8,k0_9,k0_10,k0_11⟩:=KK;cases b)|(go_at_call 221;refine(hagg _ _ _ _ _ _ _ _ _ _ _ _ _ _ _ _ _ (HU.out _ (by repeat first|exact ZR _|exact ZH (by assumption)|refine ZA ?_ _|refine ZD ?_|refine ZN ?_ _))).mono ?_;rintro e w' ⟨b,rfl,hb⟩;have HW:Hid (Below V.heap.size V w'):=ZT (by repeat first|exact ZR _|exact ZH (by assumption)|refine ZA ?_ _|refine ZD ?_|refine ZN ?_ _) hb;clear hb;have KK:=HS.out _ HW.out;obtain⟨k0_0,k0_1,k0_2,k0_3,k0_4,k0_5,k0_6,k0_7,k0_8,k0_9,k0_10,k0_11⟩:=KK;cases b)|(go_at_call 219;refine(ZcL _ _ _ _ _ _ _ _ _ _ _ _ _ _ _ _ _ _ _ _ _ _ _ _ _ _ _ _ _ _ _ _ _ (HU.out _ (by repeat first|exact ZR _|exact ZH (by assumption)|refine ZA ?_ _|refine ZD ?_|refine ZN ?_ _)) (by first|exact Zao.nil _ _|exact HU.out _ (by repeat first|exact ZR _|exact ZH (by assumption)|refine ZA ?_ _|refine ZD ?_|refine ZN ?_ _))).mono ?_;rintro e w' ⟨b,rfl,hb⟩;have HW:Hid (Below V.heap.size V w'):=ZT (by repeat first|exact ZR _|exact ZH (by assumption)|refine ZA ?_ _|refine ZD ?_|refine ZN ?_ _) hb;clear hb;have KK:=HS.out _ HW.out;obtain⟨k0_0,k0_1,k0_2,k0_3,k0_4,k0_5,k0_6,k0_7,k0_8,k0_9,k0_10,k0_11⟩:=KK;cases b)|(go_at_call 222;refine(Zfo _ _ _ _ _ (ZdZ [⟨#[45]⟩,⟨#[110,111,116]⟩,⟨#[110,117,108,108]⟩] _ (by decide))).mono ?_;rintro e w' ⟨b,rfl,hb⟩;have HW:Hid (Below V.heap.size V w'):=ZT (by repeat first|exact ZR _|exact ZH (by assumption)|refine ZA ?_ _|refine ZD ?_|refine ZN ?_ _) hb;clear hb;have KK:=HS.out _ HW.out;obtain⟨k0_0,k0_1,k0_2,k0_3,k0_4,k0_5,k0_6,k0_7,k0_8,k0_9,k0_10,k0_11⟩:=KK;cases b)|fail)
   all_goals first
    |(go_ret2;exact⟨_,_,rfl,by(unfold arity;split<;>(try split)<;>(try split)<;>omega),(fun e=>by first|omega|cases e),ZT HBV.out (by repeat first|exact ZR _|exact ZH (by assumption)|refine ZA ?_ _|refine ZD ?_|refine ZN ?_ _)⟩)
    |(go_quiet (fail);go_wp2_with fail;(go_ret2;exact⟨_,_,rfl,by(unfold arity;split<;>(try split)<;>(try split)<;>omega),(fun e=>by first|omega|cases e),ZT HBV.out (by repeat first|exact ZR _|exact ZH (by assumption)|refine ZA ?_ _|refine ZD ?_|refine ZN ?_ _)⟩))
    |skip
   all_goals
    have HS3:Hid (∀ w',Below V.heap.size V w'->Below V.heap.size V w'/\w'.cell? ⟨w.heap.size,1,none⟩=some (.string x_o)):=fun w' h=>⟨h,(HS.out w' h).2.1⟩
    go_region_held3 (fun w'=>Below V.heap.size V w'/\w'.cell? ⟨w.heap.size,1,none⟩=some (.string x_o))
     (first|exact HS3.out _ (HB7.out.drew)|exact HS3.out _ (ZT (And.left (by assumption)) hb)|exact HS3.out _ (ZT HB7.out hb)|exact HS3.out _ HB7.out)
     (first
      |(go_at_call 223;refine(opers_any _).mono ?_;rintro e w' ⟨a5,c5,rfl,hL,hb⟩)
      |(go_at_call 222;refine(one_is _ opsL _ _ _ (by decide) hL).mono ?_;rintro e w' ⟨rfl,hb⟩))
    have HW9:Hid (Below V.heap.size V w'):=And.left (by assumption)
    go_wp2_with fail
    go_ret2
    exact⟨_,_,rfl,by(unfold arity;split<;>(try split)<;>(try split)<;>omega),(fun e=>by first|omega|cases e),ZT HBV.out (ZH HW9)⟩
theorem size_any:∀ (n:Nat) (x:Ex) (w:World),ExAt n w x->Calls prog 201 #[x.val] w (GotI w)
 |0,_,_,h=>h.elim
 |n+1,⟨x_k,x_o,x_m,x_t,x_vk,x_vn,x_vs,x_ua,x_un,x_uc,x_p,x_wk,x_wz,x_xa,x_xn,x_xc⟩,w,h=>by
  have ih:=hid (size_any n)
  obtain⟨-,-,xs,hxn,hxl,hl,hy⟩:=h
  dsimp only at hxn hl
  subst hxn
  have HL:=hid hl
  have HYS:=hid hy
  clear hl hy
  dsimp only[Ex.val]
  go_enter func201,ntmps201
  go_upto_region 1 with fail
  refine Zam (fun V hV=>?_)
  have B0:Hid (Box V w.heap.size #[.int .i64 x_k,.string x_o,.string x_m,.string x_t,.int .i64 x_vk,.int .i64 x_vn,.string x_vs,.slice x_ua x_un x_uc,.int .i64 x_p,.int .i64 x_wk,.int .i64 x_wz,.slice x_xa xs.length x_xc] 42):=by rw[hV];exact ZaE _ _ _
  have HBV:Hid (Below w.heap.size w V):=by rw[hV];exact(by repeat first|exact ZR _|refine ZA ?_ _)
  clear hV
  have HS:Hid (∀ w',Below V.heap.size V w'->w'.cell? ⟨w.heap.size,0,none⟩=some (.int .i64 x_k)/\w'.cell? ⟨w.heap.size,1,none⟩=some (.string x_o)/\w'.cell? ⟨w.heap.size,2,none⟩=some (.string x_m)/\w'.cell? ⟨w.heap.size,3,none⟩=some (.string x_t)/\w'.cell? ⟨w.heap.size,4,none⟩=some (.int .i64 x_vk)/\w'.cell? ⟨w.heap.size,5,none⟩=some (.int .i64 x_vn)/\w'.cell? ⟨w.heap.size,6,none⟩=some (.string x_vs)/\w'.cell? ⟨w.heap.size,7,none⟩=some (.slice x_ua x_un x_uc)/\w'.cell? ⟨w.heap.size,8,none⟩=some (.int .i64 x_p)/\w'.cell? ⟨w.heap.size,9,none⟩=some (.int .i64 x_wk)/\w'.cell? ⟨w.heap.size,10,none⟩=some (.int .i64 x_wz)/\w'.cell? ⟨w.heap.size,11,none⟩=some (.slice x_xa xs.length x_xc)):=fun w' h=>⟨(B0.out.kept h).cell 0 _ rfl,(B0.out.kept h).cell 1 _ rfl,(B0.out.kept h).cell 2 _ rfl,(B0.out.kept h).cell 3 _ rfl,(B0.out.kept h).cell 4 _ rfl,(B0.out.kept h).cell 5 _ rfl,(B0.out.kept h).cell 6 _ rfl,(B0.out.kept h).cell 7 _ rfl,(B0.out.kept h).cell 8 _ rfl,(B0.out.kept h).cell 9 _ rfl,(B0.out.kept h).cell 10 _ rfl,(B0.out.kept h).cell 11 _ rfl⟩
  obtain⟨k0_0,k0_1,k0_2,k0_3,k0_4,k0_5,k0_6,k0_7,k0_8,k0_9,k0_10,k0_11⟩:=HS.out V (ZR V)
  generalize hn:xs.length=xn at *
  have HN:=hid hn
  clear hn
  go_wp2_with fail
  go_loopw [3,4] (fun u v wr=>∃ (i:Nat) (s:Int),u=.int .i64 s/\i<=xn/\v=.int .i64 i/\Hid (Below V.heap.size V wr)) (fun _ v _=>xn - (intOf v).toNat)
  case atStart=>exact⟨0,_,rfl,by omega,rfl,ZR V⟩
  case round =>
   obtain⟨i,s,rfl,hi,rfl,hB⟩:=hrel
   have KK:=HS.out _ hB.out
   obtain⟨k0_0,k0_1,k0_2,k0_3,k0_4,k0_5,k0_6,k0_7,k0_8,k0_9,k0_10,k0_11⟩:=KK
   by_cases hlt:i<xn
   · obtain⟨y,hy⟩:∃ y,xs[i]?=some y:=⟨xs[i]'(by have:=HN.out;omega),List.getElem?_eq_getElem _⟩
     obtain⟨b1,o1,rfl,hr1⟩:=((HL.out.kept HBV.out).kept hB.out).some (by have:=HN.out;omega)
     obtain⟨c0,c1,c2,c3,c4,c5,c6,c7,c8,c9,c10,c11⟩:=Ex.cell hr1 hy
     have HY:=hid (HYS.out y (List.mem_of_getElem? hy))
     clear hr1 hy
     go_wp2_with (first|(go_at_call 201;refine(ih.out y _ (HY.out.kept (ZT HBV.out hB.out))).mono ?_;rintro e w' ⟨m,rfl,hb⟩;have HW:Hid (Below V.heap.size V w'):=ZT (by repeat first|exact ZR _|exact ZH (by assumption)|refine ZA ?_ _|refine ZD ?_|refine ZN ?_ _) hb;clear hb;have KK:=HS.out _ HW.out;obtain⟨k0_0,k0_1,k0_2,k0_3,k0_4,k0_5,k0_6,k0_7,k0_8,k0_9,k0_10,k0_11⟩:=KK)|fail)
     go_roundw
     case rel=>exact⟨i+1,_,rfl,by omega,by go_num,(by repeat first|exact ZR _|exact ZH (by assumption)|refine ZA ?_ _|refine ZD ?_|refine ZN ?_ _)⟩
     case measure=>simp[intOf];omega
   · go_wp2_with fail
     go_ret
     exact⟨_,rfl,ZT HBV.out hB.out⟩
theorem depth_any:∀ (n:Nat) (x:Ex) (w:World),ExAt n w x->Calls prog 202 #[x.val] w (GotI w)
 |0,_,_,h=>h.elim
 |n+1,⟨x_k,x_o,x_m,x_t,x_vk,x_vn,x_vs,x_ua,x_un,x_uc,x_p,x_wk,x_wz,x_xa,x_xn,x_xc⟩,w,h=>by
  have ih:=hid (depth_any n)
  obtain⟨-,-,xs,hxn,hxl,hl,hy⟩:=h
  dsimp only at hxn hl
  subst hxn
  have HL:=hid hl
  have HYS:=hid hy
  clear hl hy
  dsimp only[Ex.val]
  go_enter func202,ntmps202
  go_upto_region 1 with fail
  refine Zam (fun V hV=>?_)
  have B0:Hid (Box V w.heap.size #[.int .i64 x_k,.string x_o,.string x_m,.string x_t,.int .i64 x_vk,.int .i64 x_vn,.string x_vs,.slice x_ua x_un x_uc,.int .i64 x_p,.int .i64 x_wk,.int .i64 x_wz,.slice x_xa xs.length x_xc] 42):=by rw[hV];exact ZaE _ _ _
  have HBV:Hid (Below w.heap.size w V):=by rw[hV];exact(by repeat first|exact ZR _|refine ZA ?_ _)
  clear hV
  have HS:Hid (∀ w',Below V.heap.size V w'->w'.cell? ⟨w.heap.size,0,none⟩=some (.int .i64 x_k)/\w'.cell? ⟨w.heap.size,1,none⟩=some (.string x_o)/\w'.cell? ⟨w.heap.size,2,none⟩=some (.string x_m)/\w'.cell? ⟨w.heap.size,3,none⟩=some (.string x_t)/\w'.cell? ⟨w.heap.size,4,none⟩=some (.int .i64 x_vk)/\w'.cell? ⟨w.heap.size,5,none⟩=some (.int .i64 x_vn)/\w'.cell? ⟨w.heap.size,6,none⟩=some (.string x_vs)/\w'.cell? ⟨w.heap.size,7,none⟩=some (.slice x_ua x_un x_uc)/\w'.cell? ⟨w.heap.size,8,none⟩=some (.int .i64 x_p)/\w'.cell? ⟨w.heap.size,9,none⟩=some (.int .i64 x_wk)/\w'.cell? ⟨w.heap.size,10,none⟩=some (.int .i64 x_wz)/\w'.cell? ⟨w.heap.size,11,none⟩=some (.slice x_xa xs.length x_xc)):=fun w' h=>⟨(B0.out.kept h).cell 0 _ rfl,(B0.out.kept h).cell 1 _ rfl,(B0.out.kept h).cell 2 _ rfl,(B0.out.kept h).cell 3 _ rfl,(B0.out.kept h).cell 4 _ rfl,(B0.out.kept h).cell 5 _ rfl,(B0.out.kept h).cell 6 _ rfl,(B0.out.kept h).cell 7 _ rfl,(B0.out.kept h).cell 8 _ rfl,(B0.out.kept h).cell 9 _ rfl,(B0.out.kept h).cell 10 _ rfl,(B0.out.kept h).cell 11 _ rfl⟩
  obtain⟨k0_0,k0_1,k0_2,k0_3,k0_4,k0_5,k0_6,k0_7,k0_8,k0_9,k0_10,k0_11⟩:=HS.out V (ZR V)
  generalize hn:xs.length=xn at *
  have HN:=hid hn
  clear hn
  go_wp2_with fail
  go_loopw [3,4] (fun u v wr=>∃ (i:Nat) (s:Int),u=.int .i64 s/\i<=xn/\v=.int .i64 i/\Hid (Below V.heap.size V wr)) (fun _ v _=>xn - (intOf v).toNat)
  case atStart=>exact⟨0,_,rfl,by omega,rfl,ZR V⟩
  case round =>
   obtain⟨i,s,rfl,hi,rfl,hB⟩:=hrel
   have KK:=HS.out _ hB.out
   obtain⟨k0_0,k0_1,k0_2,k0_3,k0_4,k0_5,k0_6,k0_7,k0_8,k0_9,k0_10,k0_11⟩:=KK
   by_cases hlt:i<xn
   · obtain⟨y,hy⟩:∃ y,xs[i]?=some y:=⟨xs[i]'(by have:=HN.out;omega),List.getElem?_eq_getElem _⟩
     obtain⟨b1,o1,rfl,hr1⟩:=((HL.out.kept HBV.out).kept hB.out).some (by have:=HN.out;omega)
     obtain⟨c0,c1,c2,c3,c4,c5,c6,c7,c8,c9,c10,c11⟩:=Ex.cell hr1 hy
     have HY:=hid (HYS.out y (List.mem_of_getElem? hy))
     clear hr1 hy
     go_wp2_with (first|(go_at_call 202;refine(ih.out y _ (HY.out.kept (ZT HBV.out hB.out))).mono ?_;rintro e w' ⟨m,rfl,hb⟩;have HW:Hid (Below V.heap.size V w'):=ZT (by repeat first|exact ZR _|exact ZH (by assumption)|refine ZA ?_ _|refine ZD ?_|refine ZN ?_ _) hb;clear hb;have KK:=HS.out _ HW.out;obtain⟨k0_0,k0_1,k0_2,k0_3,k0_4,k0_5,k0_6,k0_7,k0_8,k0_9,k0_10,k0_11⟩:=KK)|fail)
     go_roundw
     case rel=>exact⟨i+1,_,rfl,by omega,by go_num,(by repeat first|exact ZR _|exact ZH (by assumption)|refine ZA ?_ _|refine ZD ?_|refine ZN ?_ _)⟩
     case measure=>simp[intOf];omega
   · go_wp2_with fail
     go_ret
     exact⟨_,rfl,ZT HBV.out hB.out⟩
theorem same10_any:∀ (n:Nat) (x z:Ex) (w:World),ExAt n w x->ExAt n w z->Calls prog 212 #[x.val,z.val] w (GotB w)
 |0,_,_,_,h,_=>h.elim
 |n+1,⟨x_k,x_o,x_m,x_t,x_vk,x_vn,x_vs,x_ua,x_un,x_uc,x_p,x_wk,x_wz,x_xa,x_xn,x_xc⟩,⟨z_k,z_o,z_m,z_t,z_vk,z_vn,z_vs,z_ua,z_un,z_uc,z_p,z_wk,z_wz,z_xa,z_xn,z_xc⟩,w,h,g=>by
  have ih:=hid (same10_any n)
  obtain⟨ux,-,xs,hxn,hxl,hl,hy⟩:=h
  obtain⟨uz,-,zs,hzn,hzl,gl,gy⟩:=g
  dsimp only at hxn hl hzn gl ux uz
  subst hxn hzn
  have HL:=hid hl
  have GL:=hid gl
  have HYS:=hid hy
  have GYS:=hid gy
  have HA:=hid ux
  have HB:=hid uz
  clear hl hy gl gy ux uz
  dsimp only[Ex.val]
  go_enter func212,ntmps212
  go_upto_region 1 with fail
  refine Zam (fun V hV=>?_)
  have B0:Hid (Box V w.heap.size #[.int .i64 x_k,.string x_o,.string x_m,.string x_t,.int .i64 x_vk,.int .i64 x_vn,.string x_vs,.slice x_ua x_un x_uc,.int .i64 x_p,.int .i64 x_wk,.int .i64 x_wz,.slice x_xa xs.length x_xc] 42):=by rw[hV];exact Za4 _ _ _ _ _
  have B1:Hid (Box V (w.heap.size+1) #[.int .i64 z_k,.string z_o,.string z_m,.string z_t,.int .i64 z_vk,.int .i64 z_vn,.string z_vs,.slice z_ua z_un z_uc,.int .i64 z_p,.int .i64 z_wk,.int .i64 z_wz,.slice z_xa zs.length z_xc] 42):=by rw[hV];exact Za3 _ _ _ _ _
  have HBV:Hid (Below w.heap.size w V):=by rw[hV];exact(by repeat first|exact ZR _|refine ZA ?_ _)
  clear hV
  have HS:Hid (∀ w',Below V.heap.size V w'->w'.cell? ⟨w.heap.size,0,none⟩=some (.int .i64 x_k)/\w'.cell? ⟨w.heap.size,1,none⟩=some (.string x_o)/\w'.cell? ⟨w.heap.size,2,none⟩=some (.string x_m)/\w'.cell? ⟨w.heap.size,3,none⟩=some (.string x_t)/\w'.cell? ⟨w.heap.size,4,none⟩=some (.int .i64 x_vk)/\w'.cell? ⟨w.heap.size,5,none⟩=some (.int .i64 x_vn)/\w'.cell? ⟨w.heap.size,6,none⟩=some (.string x_vs)/\w'.cell? ⟨w.heap.size,7,none⟩=some (.slice x_ua x_un x_uc)/\w'.cell? ⟨w.heap.size,8,none⟩=some (.int .i64 x_p)/\w'.cell? ⟨w.heap.size,9,none⟩=some (.int .i64 x_wk)/\w'.cell? ⟨w.heap.size,10,none⟩=some (.int .i64 x_wz)/\w'.cell? ⟨w.heap.size,11,none⟩=some (.slice x_xa xs.length x_xc)/\w'.cell? ⟨w.heap.size+1,0,none⟩=some (.int .i64 z_k)/\w'.cell? ⟨w.heap.size+1,1,none⟩=some (.string z_o)/\w'.cell? ⟨w.heap.size+1,2,none⟩=some (.string z_m)/\w'.cell? ⟨w.heap.size+1,3,none⟩=some (.string z_t)/\w'.cell? ⟨w.heap.size+1,4,none⟩=some (.int .i64 z_vk)/\w'.cell? ⟨w.heap.size+1,5,none⟩=some (.int .i64 z_vn)/\w'.cell? ⟨w.heap.size+1,6,none⟩=some (.string z_vs)/\w'.cell? ⟨w.heap.size+1,7,none⟩=some (.slice z_ua z_un z_uc)/\w'.cell? ⟨w.heap.size+1,8,none⟩=some (.int .i64 z_p)/\w'.cell? ⟨w.heap.size+1,9,none⟩=some (.int .i64 z_wk)/\w'.cell? ⟨w.heap.size+1,10,none⟩=some (.int .i64 z_wz)/\w'.cell? ⟨w.heap.size+1,11,none⟩=some (.slice z_xa zs.length z_xc)):=fun w' h=>⟨(B0.out.kept h).cell 0 _ rfl,(B0.out.kept h).cell 1 _ rfl,(B0.out.kept h).cell 2 _ rfl,(B0.out.kept h).cell 3 _ rfl,(B0.out.kept h).cell 4 _ rfl,(B0.out.kept h).cell 5 _ rfl,(B0.out.kept h).cell 6 _ rfl,(B0.out.kept h).cell 7 _ rfl,(B0.out.kept h).cell 8 _ rfl,(B0.out.kept h).cell 9 _ rfl,(B0.out.kept h).cell 10 _ rfl,(B0.out.kept h).cell 11 _ rfl,(B1.out.kept h).cell 0 _ rfl,(B1.out.kept h).cell 1 _ rfl,(B1.out.kept h).cell 2 _ rfl,(B1.out.kept h).cell 3 _ rfl,(B1.out.kept h).cell 4 _ rfl,(B1.out.kept h).cell 5 _ rfl,(B1.out.kept h).cell 6 _ rfl,(B1.out.kept h).cell 7 _ rfl,(B1.out.kept h).cell 8 _ rfl,(B1.out.kept h).cell 9 _ rfl,(B1.out.kept h).cell 10 _ rfl,(B1.out.kept h).cell 11 _ rfl⟩
  obtain⟨k0_0,k0_1,k0_2,k0_3,k0_4,k0_5,k0_6,k0_7,k0_8,k0_9,k0_10,k0_11,k1_0,k1_1,k1_2,k1_3,k1_4,k1_5,k1_6,k1_7,k1_8,k1_9,k1_10,k1_11⟩:=HS.out V (ZR V)
  have HUA:Hid (∀ w',Below V.heap.size V w'->Zao w' x_ua x_un):=fun w' h=>(HA.out.kept HBV.out).kept h
  have HUB:Hid (∀ w',Below V.heap.size V w'->Zao w' z_ua z_un):=fun w' h=>(HB.out.kept HBV.out).kept h
  generalize hn:xs.length=xn at *
  generalize hm:zs.length=zn at *
  have HN:=hid hn
  have HM:=hid hm
  clear hn hm
  by_cases hlen:xn=zn
  · subst hlen
    go_wp2_with (first|(go_at_call 219;refine(ZcL _ _ _ _ _ _ _ _ _ _ _ _ _ _ _ _ _ _ _ _ _ _ _ _ _ _ _ _ _ _ _ _ _ (HUA.out _ (by repeat first|exact ZR _|exact ZH (by assumption)|refine ZA ?_ _|refine ZD ?_|refine ZN ?_ _)) (HUB.out _ (by repeat first|exact ZR _|exact ZH (by assumption)|refine ZA ?_ _|refine ZD ?_|refine ZN ?_ _))).mono ?_;rintro e w' ⟨b,rfl,hb⟩;have HW:Hid (Below V.heap.size V w'):=ZT (by repeat first|exact ZR _|exact ZH (by assumption)|refine ZA ?_ _|refine ZD ?_|refine ZN ?_ _) hb;clear hb;have KK:=HS.out _ HW.out;obtain⟨k0_0,k0_1,k0_2,k0_3,k0_4,k0_5,k0_6,k0_7,k0_8,k0_9,k0_10,k0_11,k1_0,k1_1,k1_2,k1_3,k1_4,k1_5,k1_6,k1_7,k1_8,k1_9,k1_10,k1_11⟩:=KK;cases b)|fail)
    all_goals first
     |(go_ret;exact⟨_,rfl,ZT HBV.out (by repeat first|exact ZR _|exact ZH (by assumption)|refine ZA ?_ _|refine ZD ?_|refine ZN ?_ _)⟩)
     |skip
    all_goals
     have HB0:Hid (Below V.heap.size V w'):=HW
     go_loopw [5] (fun v wr=>∃ i:Nat,i<=xn/\v=.int .i64 i/\Hid (Below V.heap.size V wr)) (fun v _=>xn - (intOf v).toNat)
     case atStart=>exact⟨0,by omega,rfl,HB0⟩
     case round =>
      obtain⟨i,hi,rfl,hB⟩:=hrel
      have KK:=HS.out _ hB.out
      obtain⟨k0_0,k0_1,k0_2,k0_3,k0_4,k0_5,k0_6,k0_7,k0_8,k0_9,k0_10,k0_11,k1_0,k1_1,k1_2,k1_3,k1_4,k1_5,k1_6,k1_7,k1_8,k1_9,k1_10,k1_11⟩:=KK
      by_cases hlt:i<xn
      · obtain⟨y,hy⟩:∃ y,xs[i]?=some y:=⟨xs[i]'(by have:=HN.out;omega),List.getElem?_eq_getElem _⟩
        obtain⟨v,hv⟩:∃ v,zs[i]?=some v:=⟨zs[i]'(by have:=HM.out;omega),List.getElem?_eq_getElem _⟩
        obtain⟨b1,o1,rfl,hr1⟩:=(HL.out.kept HBV.out).some (by have:=HN.out;omega)
        obtain⟨b2,o2,rfl,hr2⟩:=(GL.out.kept HBV.out).some (by have:=HM.out;omega)
        obtain⟨c0,c1,c2,c3,c4,c5,c6,c7,c8,c9,c10,c11⟩:=Ex.cell hr1 hy
        obtain⟨d0,d1,d2,d3,d4,d5,d6,d7,d8,d9,d10,d11⟩:=Ex.cell hr2 hv
        have HY:Hid (ExAt n V y):=(HYS.out y (List.mem_of_getElem? hy)).kept HBV.out
        have HV:Hid (ExAt n V v):=(GYS.out v (List.mem_of_getElem? hv)).kept HBV.out
        have HS3:Hid (∀ w',Below V.heap.size V w'->Below V.heap.size V w'/\w'.cell? ⟨w.heap.size,11,none⟩=some (.slice (some ⟨b1,o1,none⟩) xn x_xc)/\w'.cell? ⟨w.heap.size+1,11,none⟩=some (.slice (some ⟨b2,o2,none⟩) xn z_xc)/\w'.cell? ⟨b1,o1+i*12,none⟩=some (.int .i64 y.k)/\w'.cell? ⟨b1,o1+i*12+1,none⟩=some (.string y.o)/\w'.cell? ⟨b1,o1+i*12+2,none⟩=some (.string y.m)/\w'.cell? ⟨b1,o1+i*12+3,none⟩=some (.string y.t)/\w'.cell? ⟨b1,o1+i*12+4,none⟩=some (.int .i64 y.vk)/\w'.cell? ⟨b1,o1+i*12+5,none⟩=some (.int .i64 y.vn)/\w'.cell? ⟨b1,o1+i*12+6,none⟩=some (.string y.vs)/\w'.cell? ⟨b1,o1+i*12+7,none⟩=some (.slice y.ua y.un y.uc)/\w'.cell? ⟨b1,o1+i*12+8,none⟩=some (.int .i64 y.p)/\w'.cell? ⟨b1,o1+i*12+9,none⟩=some (.int .i64 y.wk)/\w'.cell? ⟨b1,o1+i*12+10,none⟩=some (.int .i64 y.wz)/\w'.cell? ⟨b1,o1+i*12+11,none⟩=some (.slice y.xa y.xn y.xc)/\w'.cell? ⟨b2,o2+i*12,none⟩=some (.int .i64 v.k)/\w'.cell? ⟨b2,o2+i*12+1,none⟩=some (.string v.o)/\w'.cell? ⟨b2,o2+i*12+2,none⟩=some (.string v.m)/\w'.cell? ⟨b2,o2+i*12+3,none⟩=some (.string v.t)/\w'.cell? ⟨b2,o2+i*12+4,none⟩=some (.int .i64 v.vk)/\w'.cell? ⟨b2,o2+i*12+5,none⟩=some (.int .i64 v.vn)/\w'.cell? ⟨b2,o2+i*12+6,none⟩=some (.string v.vs)/\w'.cell? ⟨b2,o2+i*12+7,none⟩=some (.slice v.ua v.un v.uc)/\w'.cell? ⟨b2,o2+i*12+8,none⟩=some (.int .i64 v.p)/\w'.cell? ⟨b2,o2+i*12+9,none⟩=some (.int .i64 v.wk)/\w'.cell? ⟨b2,o2+i*12+10,none⟩=some (.int .i64 v.wz)/\w'.cell? ⟨b2,o2+i*12+11,none⟩=some (.slice v.xa v.xn v.xc)):=fun w' h=>⟨h,(HS.out w' h).2.2.2.2.2.2.2.2.2.2.2.1,(HS.out w' h).2.2.2.2.2.2.2.2.2.2.2.2.2.2.2.2.2.2.2.2.2.2.2,Zaa c0 h,Zaa c1 h,Zaa c2 h,Zaa c3 h,Zaa c4 h,Zaa c5 h,Zaa c6 h,Zaa c7 h,Zaa c8 h,Zaa c9 h,Zaa c10 h,Zaa c11 h,Zaa d0 h,Zaa d1 h,Zaa d2 h,Zaa d3 h,Zaa d4 h,Zaa d5 h,Zaa d6 h,Zaa d7 h,Zaa d8 h,Zaa d9 h,Zaa d10 h,Zaa d11 h⟩
        have HVV:Hid (Below V.heap.size V wr):=hB
        clear hr1 hr2 hy hv c0 c1 c2 c3 c4 c5 c6 c7 c8 c9 c10 c11 d0 d1 d2 d3 d4 d5 d6 d7 d8 d9 d10 d11
        go_wp2_with fail
        go_region_held3 (fun w'=>Below V.heap.size V w'/\w'.cell? ⟨w.heap.size,11,none⟩=some (.slice (some ⟨b1,o1,none⟩) xn x_xc)/\w'.cell? ⟨w.heap.size+1,11,none⟩=some (.slice (some ⟨b2,o2,none⟩) xn z_xc)/\w'.cell? ⟨b1,o1+i*12,none⟩=some (.int .i64 y.k)/\w'.cell? ⟨b1,o1+i*12+1,none⟩=some (.string y.o)/\w'.cell? ⟨b1,o1+i*12+2,none⟩=some (.string y.m)/\w'.cell? ⟨b1,o1+i*12+3,none⟩=some (.string y.t)/\w'.cell? ⟨b1,o1+i*12+4,none⟩=some (.int .i64 y.vk)/\w'.cell? ⟨b1,o1+i*12+5,none⟩=some (.int .i64 y.vn)/\w'.cell? ⟨b1,o1+i*12+6,none⟩=some (.string y.vs)/\w'.cell? ⟨b1,o1+i*12+7,none⟩=some (.slice y.ua y.un y.uc)/\w'.cell? ⟨b1,o1+i*12+8,none⟩=some (.int .i64 y.p)/\w'.cell? ⟨b1,o1+i*12+9,none⟩=some (.int .i64 y.wk)/\w'.cell? ⟨b1,o1+i*12+10,none⟩=some (.int .i64 y.wz)/\w'.cell? ⟨b1,o1+i*12+11,none⟩=some (.slice y.xa y.xn y.xc)/\w'.cell? ⟨b2,o2+i*12,none⟩=some (.int .i64 v.k)/\w'.cell? ⟨b2,o2+i*12+1,none⟩=some (.string v.o)/\w'.cell? ⟨b2,o2+i*12+2,none⟩=some (.string v.m)/\w'.cell? ⟨b2,o2+i*12+3,none⟩=some (.string v.t)/\w'.cell? ⟨b2,o2+i*12+4,none⟩=some (.int .i64 v.vk)/\w'.cell? ⟨b2,o2+i*12+5,none⟩=some (.int .i64 v.vn)/\w'.cell? ⟨b2,o2+i*12+6,none⟩=some (.string v.vs)/\w'.cell? ⟨b2,o2+i*12+7,none⟩=some (.slice v.ua v.un v.uc)/\w'.cell? ⟨b2,o2+i*12+8,none⟩=some (.int .i64 v.p)/\w'.cell? ⟨b2,o2+i*12+9,none⟩=some (.int .i64 v.wk)/\w'.cell? ⟨b2,o2+i*12+10,none⟩=some (.int .i64 v.wz)/\w'.cell? ⟨b2,o2+i*12+11,none⟩=some (.slice v.xa v.xn v.xc))
         (first|assumption|exact HS3.out _ (ZT (And.left (by assumption)) hb)|exact HS3.out _ (ZD HVV.out)|exact HS3.out _ (ZD (And.left (by assumption)))|exact HS3.out _ (ZT HVV.out hb)|exact HS3.out _ HVV.out)
         (first|(go_at_call 212;refine(ih.out y v _ (HY.out.kept (And.left (by assumption))) (HV.out.kept (And.left (by assumption)))).mono ?_;rintro e w' ⟨b,rfl,hb⟩))
        have HW2:Hid (Below V.heap.size V w'):=And.left (by assumption)
        cases b
        all_goals
         go_wp2_with fail
         first
          |(go_ret;exact⟨_,rfl,ZT HBV.out (by repeat first|exact ZR _|exact ZH (by assumption)|refine ZA ?_ _|refine ZD ?_|refine ZN ?_ _)⟩)
          |(go_roundw;(case rel=>exact⟨i+1,by omega,by go_num,HW2⟩);(case measure=>simp[intOf];omega))
      · go_wp2_with fail
        go_ret
        exact⟨_,rfl,ZT HBV.out hB.out⟩
  · go_wp2_with (first|(go_at_call 219;refine(ZcL _ _ _ _ _ _ _ _ _ _ _ _ _ _ _ _ _ _ _ _ _ _ _ _ _ _ _ _ _ _ _ _ _ (HUA.out _ (by repeat first|exact ZR _|exact ZH (by assumption)|refine ZA ?_ _|refine ZD ?_|refine ZN ?_ _)) (HUB.out _ (by repeat first|exact ZR _|exact ZH (by assumption)|refine ZA ?_ _|refine ZD ?_|refine ZN ?_ _))).mono ?_;rintro e w' ⟨b,rfl,hb⟩;have HW:Hid (Below V.heap.size V w'):=ZT (by repeat first|exact ZR _|exact ZH (by assumption)|refine ZA ?_ _|refine ZD ?_|refine ZN ?_ _) hb;clear hb;have KK:=HS.out _ HW.out;obtain⟨k0_0,k0_1,k0_2,k0_3,k0_4,k0_5,k0_6,k0_7,k0_8,k0_9,k0_10,k0_11,k1_0,k1_1,k1_2,k1_3,k1_4,k1_5,k1_6,k1_7,k1_8,k1_9,k1_10,k1_11⟩:=KK;cases b)|fail)
    all_goals
     go_ret
     exact⟨_,rfl,ZT HBV.out (by repeat first|exact ZR _|exact ZH (by assumption)|refine ZA ?_ _|refine ZD ?_|refine ZN ?_ _)⟩
theorem Zer (a b:Option Addr)(n m c d:Nat)(w:World)(ha:Zao w a n)(hb:Zao w b m):Calls prog 195 #[.slice a n c,.slice b m d] w (GotB w):=by
 obtain⟨us,rfl,hu,-,h1⟩:=ha
 obtain⟨vs,rfl,hv,-,h2⟩:=hb
 have H1:=hid h1
 have H2:=hid h2
 clear h1 h2
 go_enter func195,ntmps195
 by_cases hlen:us.length=vs.length
 · go_wp2_with fail
   go_loopw [5] (fun v wr=>∃ i:Nat,i<=us.length/\v=.int .i64 i/\Below w.heap.size w wr) (fun v _=>us.length - (intOf v).toNat)
   case atStart=>exact⟨0,by omega,rfl,Below.refl _ _⟩
   case round =>
    obtain⟨i,hi,rfl,hB⟩:=hrel
    by_cases hlt:i<us.length
    · obtain⟨x,hx⟩:∃ x,us[i]?=some x:=⟨us[i],List.getElem?_eq_getElem hlt⟩
      obtain⟨y,hy⟩:∃ y,vs[i]?=some y:=⟨vs[i]'(by omega),List.getElem?_eq_getElem (by omega)⟩
      obtain⟨b1,o1,rfl,hr1⟩:=(H1.out.kept hB).some (by omega)
      obtain⟨b2,o2,rfl,hr2⟩:=(H2.out.kept hB).some (by omega)
      obtain⟨c0,c1⟩:=Zbj hr1 hx
      obtain⟨d0,d1⟩:=Zbj hr2 hy
      obtain⟨e,he1,he2⟩:=eqFac x y
      have hg:=fun op a b w=>ZcS 198 (by kernel_rfl) op a b #[.string x.1,.int .i64 x.2] #[.string y.1,.int .i64 y.2] w
      have HB:=hid hB
      clear hr1 hr2 hx hy hB
      cases e
      all_goals
       go_wp2_with fail
       go_quiet (fail)
       go_wp2_with fail
       first
        |(go_ret;exact⟨_,rfl,Zag HB.out _⟩)
        |(go_roundw;(case rel=>exact⟨i+1,by omega,by go_num,Zag HB.out _⟩);(case measure=>simp[intOf];omega))
    · go_wp2_with fail
      go_ret
      exact⟨_,rfl,hB⟩
 · go_wp2_with fail
   go_ret
   exact⟨_,rfl,Below.refl _ _⟩
theorem same12_any:∀ (n:Nat) (x z:Ex) (w:World),ExAt n w x->ExAt n w z->Calls prog 178 #[x.val,z.val] w (GotB w)
 |0,_,_,_,h,_=>h.elim
 |n+1,⟨x_k,x_o,x_m,x_t,x_vk,x_vn,x_vs,x_ua,x_un,x_uc,x_p,x_wk,x_wz,x_xa,x_xn,x_xc⟩,⟨z_k,z_o,z_m,z_t,z_vk,z_vn,z_vs,z_ua,z_un,z_uc,z_p,z_wk,z_wz,z_xa,z_xn,z_xc⟩,w,h,g=>by
  have ih:=hid (same12_any n)
  obtain⟨ux,-,xs,hxn,hxl,hl,hy⟩:=h
  obtain⟨uz,-,zs,hzn,hzl,gl,gy⟩:=g
  dsimp only at hxn hl hzn gl ux uz
  subst hxn hzn
  have HL:=hid hl
  have GL:=hid gl
  have HYS:=hid hy
  have GYS:=hid gy
  have HA:=hid ux
  have HB:=hid uz
  clear hl hy gl gy ux uz
  dsimp only[Ex.val]
  obtain⟨ev,hv1,hv2⟩:=eqVal (x_vk,x_vn,x_vs) (z_vk,z_vn,z_vs)
  obtain⟨ew,hw1,hw2⟩:=eqWin (x_wk,x_wz) (z_wk,z_wz)
  have hg1:=fun op a b w=>ZcS 37 (by kernel_rfl) op a b #[.int .i64 x_vk,.int .i64 x_vn,.string x_vs] #[.int .i64 z_vk,.int .i64 z_vn,.string z_vs] w
  have hg2:=fun op a b w=>ZcS 39 (by kernel_rfl) op a b #[.int .i64 x_wk,.int .i64 x_wz] #[.int .i64 z_wk,.int .i64 z_wz] w
  go_enter func178,ntmps178
  go_upto_region 1 with fail
  refine Zam (fun V hV=>?_)
  have B0:Hid (Box V w.heap.size #[.int .i64 x_k,.string x_o,.string x_m,.string x_t,.int .i64 x_vk,.int .i64 x_vn,.string x_vs,.slice x_ua x_un x_uc,.int .i64 x_p,.int .i64 x_wk,.int .i64 x_wz,.slice x_xa xs.length x_xc] 42):=by rw[hV];exact Za4 _ _ _ _ _
  have B1:Hid (Box V (w.heap.size+1) #[.int .i64 z_k,.string z_o,.string z_m,.string z_t,.int .i64 z_vk,.int .i64 z_vn,.string z_vs,.slice z_ua z_un z_uc,.int .i64 z_p,.int .i64 z_wk,.int .i64 z_wz,.slice z_xa zs.length z_xc] 42):=by rw[hV];exact Za3 _ _ _ _ _
  have HBV:Hid (Below w.heap.size w V):=by rw[hV];exact(by repeat first|exact ZR _|refine ZA ?_ _)
  clear hV
  have HS:Hid (∀ w',Below V.heap.size V w'->w'.cell? ⟨w.heap.size,0,none⟩=some (.int .i64 x_k)/\w'.cell? ⟨w.heap.size,1,none⟩=some (.string x_o)/\w'.cell? ⟨w.heap.size,2,none⟩=some (.string x_m)/\w'.cell? ⟨w.heap.size,3,none⟩=some (.string x_t)/\w'.cell? ⟨w.heap.size,4,none⟩=some (.int .i64 x_vk)/\w'.cell? ⟨w.heap.size,5,none⟩=some (.int .i64 x_vn)/\w'.cell? ⟨w.heap.size,6,none⟩=some (.string x_vs)/\w'.cell? ⟨w.heap.size,7,none⟩=some (.slice x_ua x_un x_uc)/\w'.cell? ⟨w.heap.size,8,none⟩=some (.int .i64 x_p)/\w'.cell? ⟨w.heap.size,9,none⟩=some (.int .i64 x_wk)/\w'.cell? ⟨w.heap.size,10,none⟩=some (.int .i64 x_wz)/\w'.cell? ⟨w.heap.size,11,none⟩=some (.slice x_xa xs.length x_xc)/\w'.cell? ⟨w.heap.size+1,0,none⟩=some (.int .i64 z_k)/\w'.cell? ⟨w.heap.size+1,1,none⟩=some (.string z_o)/\w'.cell? ⟨w.heap.size+1,2,none⟩=some (.string z_m)/\w'.cell? ⟨w.heap.size+1,3,none⟩=some (.string z_t)/\w'.cell? ⟨w.heap.size+1,4,none⟩=some (.int .i64 z_vk)/\w'.cell? ⟨w.heap.size+1,5,none⟩=some (.int .i64 z_vn)/\w'.cell? ⟨w.heap.size+1,6,none⟩=some (.string z_vs)/\w'.cell? ⟨w.heap.size+1,7,none⟩=some (.slice z_ua z_un z_uc)/\w'.cell? ⟨w.heap.size+1,8,none⟩=some (.int .i64 z_p)/\w'.cell? ⟨w.heap.size+1,9,none⟩=some (.int .i64 z_wk)/\w'.cell? ⟨w.heap.size+1,10,none⟩=some (.int .i64 z_wz)/\w'.cell? ⟨w.heap.size+1,11,none⟩=some (.slice z_xa zs.length z_xc)):=fun w' h=>⟨(B0.out.kept h).cell 0 _ rfl,(B0.out.kept h).cell 1 _ rfl,(B0.out.kept h).cell 2 _ rfl,(B0.out.kept h).cell 3 _ rfl,(B0.out.kept h).cell 4 _ rfl,(B0.out.kept h).cell 5 _ rfl,(B0.out.kept h).cell 6 _ rfl,(B0.out.kept h).cell 7 _ rfl,(B0.out.kept h).cell 8 _ rfl,(B0.out.kept h).cell 9 _ rfl,(B0.out.kept h).cell 10 _ rfl,(B0.out.kept h).cell 11 _ rfl,(B1.out.kept h).cell 0 _ rfl,(B1.out.kept h).cell 1 _ rfl,(B1.out.kept h).cell 2 _ rfl,(B1.out.kept h).cell 3 _ rfl,(B1.out.kept h).cell 4 _ rfl,(B1.out.kept h).cell 5 _ rfl,(B1.out.kept h).cell 6 _ rfl,(B1.out.kept h).cell 7 _ rfl,(B1.out.kept h).cell 8 _ rfl,(B1.out.kept h).cell 9 _ rfl,(B1.out.kept h).cell 10 _ rfl,(B1.out.kept h).cell 11 _ rfl⟩
  obtain⟨k0_0,k0_1,k0_2,k0_3,k0_4,k0_5,k0_6,k0_7,k0_8,k0_9,k0_10,k0_11,k1_0,k1_1,k1_2,k1_3,k1_4,k1_5,k1_6,k1_7,k1_8,k1_9,k1_10,k1_11⟩:=HS.out V (ZR V)
  have HUA:Hid (∀ w',Below V.heap.size V w'->Zao w' x_ua x_un):=fun w' h=>(HA.out.kept HBV.out).kept h
  have HUB:Hid (∀ w',Below V.heap.size V w'->Zao w' z_ua z_un):=fun w' h=>(HB.out.kept HBV.out).kept h
  generalize hn:xs.length=xn at *
  generalize hm:zs.length=zn at *
  have HN:=hid hn
  have HM:=hid hm
  clear hn hm
  by_cases hlen:xn=zn
  · subst hlen
    go_wp2_with (first|(go_at_call 195;refine(Zer _ _ _ _ _ _ _ (HUA.out _ (by repeat first|exact ZR _|exact ZH (by assumption)|refine ZA ?_ _|refine ZD ?_|refine ZN ?_ _)) (HUB.out _ (by repeat first|exact ZR _|exact ZH (by assumption)|refine ZA ?_ _|refine ZD ?_|refine ZN ?_ _))).mono ?_;rintro e w' ⟨b,rfl,hb⟩;have HW:Hid (Below V.heap.size V w'):=ZT (by repeat first|exact ZR _|exact ZH (by assumption)|refine ZA ?_ _|refine ZD ?_|refine ZN ?_ _) hb;clear hb;have KK:=HS.out _ HW.out;obtain⟨k0_0,k0_1,k0_2,k0_3,k0_4,k0_5,k0_6,k0_7,k0_8,k0_9,k0_10,k0_11,k1_0,k1_1,k1_2,k1_3,k1_4,k1_5,k1_6,k1_7,k1_8,k1_9,k1_10,k1_11⟩:=KK;cases b)|fail)
    all_goals first
     |(go_ret;exact⟨_,rfl,ZT HBV.out (by repeat first|exact ZR _|exact ZH (by assumption)|refine ZA ?_ _|refine ZD ?_|refine ZN ?_ _)⟩)
     |skip
    all_goals
     have HB0:Hid (Below V.heap.size V w'):=HW
     go_loopw [5] (fun v wr=>∃ i:Nat,i<=xn/\v=.int .i64 i/\Hid (Below V.heap.size V wr)) (fun v _=>xn - (intOf v).toNat)
     case atStart=>exact⟨0,by omega,rfl,HB0⟩
     case round =>
      obtain⟨i,hi,rfl,hB⟩:=hrel
      have KK:=HS.out _ hB.out
      obtain⟨k0_0,k0_1,k0_2,k0_3,k0_4,k0_5,k0_6,k0_7,k0_8,k0_9,k0_10,k0_11,k1_0,k1_1,k1_2,k1_3,k1_4,k1_5,k1_6,k1_7,k1_8,k1_9,k1_10,k1_11⟩:=KK
      by_cases hlt:i<xn
      · obtain⟨y,hy⟩:∃ y,xs[i]?=some y:=⟨xs[i]'(by have:=HN.out;omega),List.getElem?_eq_getElem _⟩
        obtain⟨v,hv⟩:∃ v,zs[i]?=some v:=⟨zs[i]'(by have:=HM.out;omega),List.getElem?_eq_getElem _⟩
        obtain⟨b1,o1,rfl,hr1⟩:=(HL.out.kept HBV.out).some (by have:=HN.out;omega)
        obtain⟨b2,o2,rfl,hr2⟩:=(GL.out.kept HBV.out).some (by have:=HM.out;omega)
        obtain⟨c0,c1,c2,c3,c4,c5,c6,c7,c8,c9,c10,c11⟩:=Ex.cell hr1 hy
        obtain⟨d0,d1,d2,d3,d4,d5,d6,d7,d8,d9,d10,d11⟩:=Ex.cell hr2 hv
        have HY:Hid (ExAt n V y):=(HYS.out y (List.mem_of_getElem? hy)).kept HBV.out
        have HV:Hid (ExAt n V v):=(GYS.out v (List.mem_of_getElem? hv)).kept HBV.out
        have HS3:Hid (∀ w',Below V.heap.size V w'->Below V.heap.size V w'/\w'.cell? ⟨w.heap.size,11,none⟩=some (.slice (some ⟨b1,o1,none⟩) xn x_xc)/\w'.cell? ⟨w.heap.size+1,11,none⟩=some (.slice (some ⟨b2,o2,none⟩) xn z_xc)/\w'.cell? ⟨b1,o1+i*12,none⟩=some (.int .i64 y.k)/\w'.cell? ⟨b1,o1+i*12+1,none⟩=some (.string y.o)/\w'.cell? ⟨b1,o1+i*12+2,none⟩=some (.string y.m)/\w'.cell? ⟨b1,o1+i*12+3,none⟩=some (.string y.t)/\w'.cell? ⟨b1,o1+i*12+4,none⟩=some (.int .i64 y.vk)/\w'.cell? ⟨b1,o1+i*12+5,none⟩=some (.int .i64 y.vn)/\w'.cell? ⟨b1,o1+i*12+6,none⟩=some (.string y.vs)/\w'.cell? ⟨b1,o1+i*12+7,none⟩=some (.slice y.ua y.un y.uc)/\w'.cell? ⟨b1,o1+i*12+8,none⟩=some (.int .i64 y.p)/\w'.cell? ⟨b1,o1+i*12+9,none⟩=some (.int .i64 y.wk)/\w'.cell? ⟨b1,o1+i*12+10,none⟩=some (.int .i64 y.wz)/\w'.cell? ⟨b1,o1+i*12+11,none⟩=some (.slice y.xa y.xn y.xc)/\w'.cell? ⟨b2,o2+i*12,none⟩=some (.int .i64 v.k)/\w'.cell? ⟨b2,o2+i*12+1,none⟩=some (.string v.o)/\w'.cell? ⟨b2,o2+i*12+2,none⟩=some (.string v.m)/\w'.cell? ⟨b2,o2+i*12+3,none⟩=some (.string v.t)/\w'.cell? ⟨b2,o2+i*12+4,none⟩=some (.int .i64 v.vk)/\w'.cell? ⟨b2,o2+i*12+5,none⟩=some (.int .i64 v.vn)/\w'.cell? ⟨b2,o2+i*12+6,none⟩=some (.string v.vs)/\w'.cell? ⟨b2,o2+i*12+7,none⟩=some (.slice v.ua v.un v.uc)/\w'.cell? ⟨b2,o2+i*12+8,none⟩=some (.int .i64 v.p)/\w'.cell? ⟨b2,o2+i*12+9,none⟩=some (.int .i64 v.wk)/\w'.cell? ⟨b2,o2+i*12+10,none⟩=some (.int .i64 v.wz)/\w'.cell? ⟨b2,o2+i*12+11,none⟩=some (.slice v.xa v.xn v.xc)):=fun w' h=>⟨h,(HS.out w' h).2.2.2.2.2.2.2.2.2.2.2.1,(HS.out w' h).2.2.2.2.2.2.2.2.2.2.2.2.2.2.2.2.2.2.2.2.2.2.2,Zaa c0 h,Zaa c1 h,Zaa c2 h,Zaa c3 h,Zaa c4 h,Zaa c5 h,Zaa c6 h,Zaa c7 h,Zaa c8 h,Zaa c9 h,Zaa c10 h,Zaa c11 h,Zaa d0 h,Zaa d1 h,Zaa d2 h,Zaa d3 h,Zaa d4 h,Zaa d5 h,Zaa d6 h,Zaa d7 h,Zaa d8 h,Zaa d9 h,Zaa d10 h,Zaa d11 h⟩
        have HVV:Hid (Below V.heap.size V wr):=hB
        clear hr1 hr2 hy hv c0 c1 c2 c3 c4 c5 c6 c7 c8 c9 c10 c11 d0 d1 d2 d3 d4 d5 d6 d7 d8 d9 d10 d11
        go_wp2_with fail
        go_region_held3 (fun w'=>Below V.heap.size V w'/\w'.cell? ⟨w.heap.size,11,none⟩=some (.slice (some ⟨b1,o1,none⟩) xn x_xc)/\w'.cell? ⟨w.heap.size+1,11,none⟩=some (.slice (some ⟨b2,o2,none⟩) xn z_xc)/\w'.cell? ⟨b1,o1+i*12,none⟩=some (.int .i64 y.k)/\w'.cell? ⟨b1,o1+i*12+1,none⟩=some (.string y.o)/\w'.cell? ⟨b1,o1+i*12+2,none⟩=some (.string y.m)/\w'.cell? ⟨b1,o1+i*12+3,none⟩=some (.string y.t)/\w'.cell? ⟨b1,o1+i*12+4,none⟩=some (.int .i64 y.vk)/\w'.cell? ⟨b1,o1+i*12+5,none⟩=some (.int .i64 y.vn)/\w'.cell? ⟨b1,o1+i*12+6,none⟩=some (.string y.vs)/\w'.cell? ⟨b1,o1+i*12+7,none⟩=some (.slice y.ua y.un y.uc)/\w'.cell? ⟨b1,o1+i*12+8,none⟩=some (.int .i64 y.p)/\w'.cell? ⟨b1,o1+i*12+9,none⟩=some (.int .i64 y.wk)/\w'.cell? ⟨b1,o1+i*12+10,none⟩=some (.int .i64 y.wz)/\w'.cell? ⟨b1,o1+i*12+11,none⟩=some (.slice y.xa y.xn y.xc)/\w'.cell? ⟨b2,o2+i*12,none⟩=some (.int .i64 v.k)/\w'.cell? ⟨b2,o2+i*12+1,none⟩=some (.string v.o)/\w'.cell? ⟨b2,o2+i*12+2,none⟩=some (.string v.m)/\w'.cell? ⟨b2,o2+i*12+3,none⟩=some (.string v.t)/\w'.cell? ⟨b2,o2+i*12+4,none⟩=some (.int .i64 v.vk)/\w'.cell? ⟨b2,o2+i*12+5,none⟩=some (.int .i64 v.vn)/\w'.cell? ⟨b2,o2+i*12+6,none⟩=some (.string v.vs)/\w'.cell? ⟨b2,o2+i*12+7,none⟩=some (.slice v.ua v.un v.uc)/\w'.cell? ⟨b2,o2+i*12+8,none⟩=some (.int .i64 v.p)/\w'.cell? ⟨b2,o2+i*12+9,none⟩=some (.int .i64 v.wk)/\w'.cell? ⟨b2,o2+i*12+10,none⟩=some (.int .i64 v.wz)/\w'.cell? ⟨b2,o2+i*12+11,none⟩=some (.slice v.xa v.xn v.xc))
         (first|assumption|exact HS3.out _ (ZT (And.left (by assumption)) hb)|exact HS3.out _ (ZD HVV.out)|exact HS3.out _ (ZD (And.left (by assumption)))|exact HS3.out _ (ZT HVV.out hb)|exact HS3.out _ HVV.out)
         (first|(go_at_call 178;refine(ih.out y v _ (HY.out.kept (And.left (by assumption))) (HV.out.kept (And.left (by assumption)))).mono ?_;rintro e w' ⟨b,rfl,hb⟩))
        have HW2:Hid (Below V.heap.size V w'):=And.left (by assumption)
        cases b
        all_goals
         go_wp2_with fail
         first
          |(go_ret;exact⟨_,rfl,ZT HBV.out (by repeat first|exact ZR _|exact ZH (by assumption)|refine ZA ?_ _|refine ZD ?_|refine ZN ?_ _)⟩)
          |(go_roundw;(case rel=>exact⟨i+1,by omega,by go_num,HW2⟩);(case measure=>simp[intOf];omega))
      · go_wp2_with fail
        go_ret
        exact⟨_,rfl,ZT HBV.out hB.out⟩
  · go_wp2_with (first|(go_at_call 195;refine(Zer _ _ _ _ _ _ _ (HUA.out _ (by repeat first|exact ZR _|exact ZH (by assumption)|refine ZA ?_ _|refine ZD ?_|refine ZN ?_ _)) (HUB.out _ (by repeat first|exact ZR _|exact ZH (by assumption)|refine ZA ?_ _|refine ZD ?_|refine ZN ?_ _))).mono ?_;rintro e w' ⟨b,rfl,hb⟩;have HW:Hid (Below V.heap.size V w'):=ZT (by repeat first|exact ZR _|exact ZH (by assumption)|refine ZA ?_ _|refine ZD ?_|refine ZN ?_ _) hb;clear hb;have KK:=HS.out _ HW.out;obtain⟨k0_0,k0_1,k0_2,k0_3,k0_4,k0_5,k0_6,k0_7,k0_8,k0_9,k0_10,k0_11,k1_0,k1_1,k1_2,k1_3,k1_4,k1_5,k1_6,k1_7,k1_8,k1_9,k1_10,k1_11⟩:=KK;cases b)|fail)
    all_goals
     go_ret
     exact⟨_,rfl,ZT HBV.out (by repeat first|exact ZR _|exact ZH (by assumption)|refine ZA ?_ _|refine ZD ?_|refine ZN ?_ _)⟩
theorem trueX_at (n:Nat)(w:World):ExAt (n+1) w trueX:=⟨Zao.nil _ _,by decide,[],rfl,by decide,Zaf.nil _ _,fun y hy=>(by cases hy)⟩
def FormPost (n:Nat)(x:Ex)(w:World)(e:Ending)(w':World):Prop:=∃ b:Bool,e=.returned (.bool b)/\(b=true->Shaped n w' x)/\Below w.heap.size w w'
theorem trueX_of {n:Nat}{w w':World}{y:Ex}(h:ExAt n w y):ExAt n w' trueX:=by
 cases n with
 |zero=>exact h.elim
 |succ n=>exact trueX_at n w'
theorem form_any (hagg:AggOk):∀ (n:Nat) (x:Ex) (ins:Bool) (w:World),ExAt n w x->Calls prog 203 #[x.val,.bool ins] w (FormPost n x w)
 |0,_,_,_,h=>h.elim
 |n+1,⟨x_k,x_o,x_m,x_t,x_vk,x_vn,x_vs,x_ua,x_un,x_uc,x_p,x_wk,x_wz,x_xa,x_xn,x_xc⟩,ins,w,h=>by
  have ih:=hid (form_any hagg n)
  obtain⟨ux,hvs,xs,hxn,hxl,hl,hy⟩:=h
  dsimp only at hxn hl ux hvs
  subst hxn
  have HL:=hid hl
  have HYS:=hid hy
  have HA:=hid ux
  obtain⟨ar,har⟩:∃ ar,arity x_k=ar:=⟨_,rfl⟩
  have HAR:=hid har
  have HPOST:Hid ((1<=x_k/\x_k<=9)->xs.length=ar->∀ w',Below w.heap.size w w'->(∀ y∈xs,Shaped n w' y)->Shaped (n+1) w' ⟨x_k,x_o,x_m,x_t,x_vk,x_vn,x_vs,x_ua,x_un,x_uc,x_p,x_wk,x_wz,x_xa,xs.length,x_xc⟩):=fun h1 h2 w' hb h3=>⟨h1,by rw[har];exact h2,xs,rfl,HL.out.kept hb,h3⟩
  clear hl hy ux har
  dsimp only[Ex.val]
  go_enter func203,ntmps203
  go_upto_region 1 with fail
  refine Zam (fun V hV=>?_)
  have B0:Hid (Box V w.heap.size #[.int .i64 x_k,.string x_o,.string x_m,.string x_t,.int .i64 x_vk,.int .i64 x_vn,.string x_vs,.slice x_ua x_un x_uc,.int .i64 x_p,.int .i64 x_wk,.int .i64 x_wz,.slice x_xa xs.length x_xc] 42):=by rw[hV];exact ZaE _ _ _
  have HBV:Hid (Below w.heap.size w V):=by rw[hV];exact(by repeat first|exact ZR _|refine ZA ?_ _)
  clear hV
  have HS:Hid (∀ w',Below V.heap.size V w'->w'.cell? ⟨w.heap.size,0,none⟩=some (.int .i64 x_k)/\w'.cell? ⟨w.heap.size,1,none⟩=some (.string x_o)/\w'.cell? ⟨w.heap.size,2,none⟩=some (.string x_m)/\w'.cell? ⟨w.heap.size,3,none⟩=some (.string x_t)/\w'.cell? ⟨w.heap.size,4,none⟩=some (.int .i64 x_vk)/\w'.cell? ⟨w.heap.size,5,none⟩=some (.int .i64 x_vn)/\w'.cell? ⟨w.heap.size,6,none⟩=some (.string x_vs)/\w'.cell? ⟨w.heap.size,7,none⟩=some (.slice x_ua x_un x_uc)/\w'.cell? ⟨w.heap.size,8,none⟩=some (.int .i64 x_p)/\w'.cell? ⟨w.heap.size,9,none⟩=some (.int .i64 x_wk)/\w'.cell? ⟨w.heap.size,10,none⟩=some (.int .i64 x_wz)/\w'.cell? ⟨w.heap.size,11,none⟩=some (.slice x_xa xs.length x_xc)):=fun w' h=>⟨(B0.out.kept h).cell 0 _ rfl,(B0.out.kept h).cell 1 _ rfl,(B0.out.kept h).cell 2 _ rfl,(B0.out.kept h).cell 3 _ rfl,(B0.out.kept h).cell 4 _ rfl,(B0.out.kept h).cell 5 _ rfl,(B0.out.kept h).cell 6 _ rfl,(B0.out.kept h).cell 7 _ rfl,(B0.out.kept h).cell 8 _ rfl,(B0.out.kept h).cell 9 _ rfl,(B0.out.kept h).cell 10 _ rfl,(B0.out.kept h).cell 11 _ rfl⟩
  obtain⟨k0_0,k0_1,k0_2,k0_3,k0_4,k0_5,k0_6,k0_7,k0_8,k0_9,k0_10,k0_11⟩:=HS.out V (ZR V)
  have HUA:Hid (∀ w',Below V.heap.size V w'->Zao w' x_ua x_un):=fun w' h=>(HA.out.kept HBV.out).kept h
  generalize hn:xs.length=xn at *
  have HN:=hid hn
  clear hn
  by_cases hlen:xn=ar
  · subst hlen
    go_wp2_with (first|(go_at_call 211;refine(node_any _ _ _ _ _ _ _ _ _ _ _ _ _ _ _ _ _ _ hagg hvs (HUA.out _ (by repeat first|exact ZR _|exact ZH (by assumption)|refine ZA ?_ _|refine ZD ?_|refine ZN ?_ _))).mono ?_;rintro e w' ⟨m,bo,rfl,hm,hk,hb⟩;have HW:Hid (Below V.heap.size V w'):=ZT (by repeat first|exact ZR _|exact ZH (by assumption)|refine ZA ?_ _|refine ZD ?_|refine ZN ?_ _) hb;have HK:=hid hk;rw[HAR.out]at hm;subst hm;clear hb hk;have KK:=HS.out _ HW.out;obtain⟨k0_0,k0_1,k0_2,k0_3,k0_4,k0_5,k0_6,k0_7,k0_8,k0_9,k0_10,k0_11⟩:=KK;cases bo)|fail)
    all_goals first
     |(go_ret;exact⟨_,rfl,(fun e=>by cases e),ZT HBV.out (by repeat first|exact ZR _|exact ZH (by assumption)|refine ZA ?_ _|refine ZD ?_|refine ZN ?_ _)⟩)
     |skip
    all_goals
     have HB0:Hid (Below V.heap.size V w'):=HW
     go_loopw [7] (fun v wr=>∃ i:Nat,i<=xn/\v=.int .i64 i/\Hid (∀ q y,q<i->xs[q]?=some y->Shaped n wr y)/\Hid (Below V.heap.size V wr)) (fun v _=>xn - (intOf v).toNat)
     case atStart=>exact⟨0,by omega,rfl,hid (fun q y hq=>by omega),HB0⟩
     case round =>
      obtain⟨i,hi,rfl,HSH,hB⟩:=hrel
      have KK:=HS.out _ hB.out
      obtain⟨k0_0,k0_1,k0_2,k0_3,k0_4,k0_5,k0_6,k0_7,k0_8,k0_9,k0_10,k0_11⟩:=KK
      by_cases hlt:i<xn
      · obtain⟨y,hy⟩:∃ y,xs[i]?=some y:=⟨xs[i]'(by have:=HN.out;omega),List.getElem?_eq_getElem _⟩
        have HYM:=hid hy
        obtain⟨b1,o1,rfl,hr1⟩:=(HL.out.kept HBV.out).some (by have:=HN.out;omega)
        obtain⟨c0,c1,c2,c3,c4,c5,c6,c7,c8,c9,c10,c11⟩:=Ex.cell hr1 hy
        have HY:Hid (ExAt n V y):=(HYS.out y (List.mem_of_getElem? hy)).kept HBV.out
        have HYW:Hid (ExAt n w y):=HYS.out y (List.mem_of_getElem? hy)
        have HS3:Hid (∀ w',Below V.heap.size V w'->Below V.heap.size V w'/\w'.cell? ⟨w.heap.size,0,none⟩=some (.int .i64 x_k)/\w'.cell? ⟨w.heap.size,11,none⟩=some (.slice (some ⟨b1,o1,none⟩) xn x_xc)/\w'.cell? ⟨b1,o1+i*12,none⟩=some (.int .i64 y.k)/\w'.cell? ⟨b1,o1+i*12+1,none⟩=some (.string y.o)/\w'.cell? ⟨b1,o1+i*12+2,none⟩=some (.string y.m)/\w'.cell? ⟨b1,o1+i*12+3,none⟩=some (.string y.t)/\w'.cell? ⟨b1,o1+i*12+4,none⟩=some (.int .i64 y.vk)/\w'.cell? ⟨b1,o1+i*12+5,none⟩=some (.int .i64 y.vn)/\w'.cell? ⟨b1,o1+i*12+6,none⟩=some (.string y.vs)/\w'.cell? ⟨b1,o1+i*12+7,none⟩=some (.slice y.ua y.un y.uc)/\w'.cell? ⟨b1,o1+i*12+8,none⟩=some (.int .i64 y.p)/\w'.cell? ⟨b1,o1+i*12+9,none⟩=some (.int .i64 y.wk)/\w'.cell? ⟨b1,o1+i*12+10,none⟩=some (.int .i64 y.wz)/\w'.cell? ⟨b1,o1+i*12+11,none⟩=some (.slice y.xa y.xn y.xc)):=fun w' h=>⟨h,(HS.out w' h).1,(HS.out w' h).2.2.2.2.2.2.2.2.2.2.2,Zaa c0 h,Zaa c1 h,Zaa c2 h,Zaa c3 h,Zaa c4 h,Zaa c5 h,Zaa c6 h,Zaa c7 h,Zaa c8 h,Zaa c9 h,Zaa c10 h,Zaa c11 h⟩
        have HVV:Hid (Below V.heap.size V wr):=hB
        clear hr1 hy c0 c1 c2 c3 c4 c5 c6 c7 c8 c9 c10 c11
        have KK:=HS3.out _ hB.out
        obtain⟨-,-,-,c0,c1,c2,c3,c4,c5,c6,c7,c8,c9,c10,c11⟩:=KK
        cases ins
        all_goals
         go_wp2_with fail
         go_still_tail 11,(by kernel_rfl)
         change wpList _ _ _ _ _ wr.drew
         go_wp2_with (first|(go_at_call 203;refine(ih.out y _ _ (HY.out.kept (ZD hB.out))).mono ?_;rintro e w' ⟨b,rfl,hsh,hb⟩;have HW2:Hid (Below V.heap.size V w'):=ZT (ZD hB.out) hb;have HW3:Hid (Below wr.heap.size wr w'):=ZT (ZD (ZR wr)) hb;have HSY:=hid hsh;clear hb hsh;cases b)|fail)
         all_goals first
          |(go_ret;exact⟨_,rfl,(fun e=>by cases e),ZT HBV.out HW2.out⟩)
          |skip
         all_goals
          have HSH2:Hid (∀ q y,q<i+1->xs[q]?=some y->Shaped n w' y):=by
           intro q u hq hu
           by_cases e:q=i
           · subst e;rw[HYM.out]at hu;injection hu with hu;subst hu;exact HSY.out (by first|rfl|trivial)
           · exact(HSH.out q u (by omega) hu).kept HW3.out
          go_roundw
          case rel=>exact⟨i+1,by omega,by go_num,HSH2,HW2⟩
          case measure=>simp[intOf];omega
      · obtain rfl:i=xn:=by omega
        have HFIN:Hid (∀ w',Below wr.heap.size wr w'->Shaped (n+1) w' ⟨x_k,x_o,x_m,x_t,x_vk,x_vn,x_vs,x_ua,x_un,x_uc,x_p,x_wk,x_wz,x_xa,i,x_xc⟩):=fun w' hw =>
         HPOST.out (HK.out (by first|rfl|trivial)) (by first|exact HN.out|trivial) w' (ZT HBV.out (ZT hB.out hw)) (fun y hy=>by
          obtain⟨q,hq,rfl⟩:=List.mem_iff_getElem.1 hy
          exact(HSH.out q _ (by have:=HN.out;omega) (List.getElem?_eq_getElem hq)).kept hw)
        have HWR:Hid (Below wr.heap.size wr wr):=ZR wr
        by_cases hk5:x_k=5
        · have e5:(x_k != 5)=false:=by simp[hk5]
          by_cases hc:(x_o.toList==[99,111,117,110,116])=true
          · have e6:(x_o.toList != [99,111,117,110,116])=false:=by simpa using hc
            have hi0:0<i:=by have:=HAR.out;rw[hk5]at this;simp[arity]at this;omega
            obtain⟨y,hy⟩:∃ y,xs[0]?=some y:=⟨xs[0]'(by have:=HN.out;omega),List.getElem?_eq_getElem _⟩
            obtain⟨b1,o1,rfl,hr1⟩:=(HL.out.kept HBV.out).some (by have:=HN.out;omega)
            have hcc:=Ex.cell hr1 hy
            simp only[Nat.zero_mul,Nat.add_zero]at hcc
            obtain⟨c0,c1,c2,c3,c4,c5,c6,c7,c8,c9,c10,c11⟩:=hcc
            have HY:Hid (ExAt n wr y):=((HYS.out y (List.mem_of_getElem? hy)).kept HBV.out).kept hB.out
            have HS3:Hid (∀ w',Below wr.heap.size wr w'->Below wr.heap.size wr w'/\w'.cell? ⟨w.heap.size,0,none⟩=some (.int .i64 x_k)/\w'.cell? ⟨w.heap.size,1,none⟩=some (.string x_o)/\w'.cell? ⟨w.heap.size,11,none⟩=some (.slice (some ⟨b1,o1,none⟩) i x_xc)/\w'.cell? ⟨b1,o1,none⟩=some (.int .i64 y.k)/\w'.cell? ⟨b1,o1+1,none⟩=some (.string y.o)/\w'.cell? ⟨b1,o1+2,none⟩=some (.string y.m)/\w'.cell? ⟨b1,o1+3,none⟩=some (.string y.t)/\w'.cell? ⟨b1,o1+4,none⟩=some (.int .i64 y.vk)/\w'.cell? ⟨b1,o1+5,none⟩=some (.int .i64 y.vn)/\w'.cell? ⟨b1,o1+6,none⟩=some (.string y.vs)/\w'.cell? ⟨b1,o1+7,none⟩=some (.slice y.ua y.un y.uc)/\w'.cell? ⟨b1,o1+8,none⟩=some (.int .i64 y.p)/\w'.cell? ⟨b1,o1+9,none⟩=some (.int .i64 y.wk)/\w'.cell? ⟨b1,o1+10,none⟩=some (.int .i64 y.wz)/\w'.cell? ⟨b1,o1+11,none⟩=some (.slice y.xa y.xn y.xc)):=fun w' h=>⟨h,(HS.out w' (ZT hB.out h)).1,(HS.out w' (ZT hB.out h)).2.1,(HS.out w' (ZT hB.out h)).2.2.2.2.2.2.2.2.2.2.2,Zaa c0 (ZT hB.out h),Zaa c1 (ZT hB.out h),Zaa c2 (ZT hB.out h),Zaa c3 (ZT hB.out h),Zaa c4 (ZT hB.out h),Zaa c5 (ZT hB.out h),Zaa c6 (ZT hB.out h),Zaa c7 (ZT hB.out h),Zaa c8 (ZT hB.out h),Zaa c9 (ZT hB.out h),Zaa c10 (ZT hB.out h),Zaa c11 (ZT hB.out h)⟩
            have HVV:Hid (Below wr.heap.size wr wr):=ZR wr
            have HWI:Hid (i<=140737488355328):=by show _<=_;omega
            have e8:(x_o.toList==[99,111,117,110,116])=true:=hc
            clear hr1 hy c0 c1 c2 c3 c4 c5 c6 c7 c8 c9 c10 c11 hc hk5
            go_wp2_with fail
            go_region_held3 (fun w'=>Below wr.heap.size wr w'/\w'.cell? ⟨w.heap.size,0,none⟩=some (.int .i64 x_k)/\w'.cell? ⟨w.heap.size,1,none⟩=some (.string x_o)/\w'.cell? ⟨w.heap.size,11,none⟩=some (.slice (some ⟨b1,o1,none⟩) i x_xc)/\w'.cell? ⟨b1,o1,none⟩=some (.int .i64 y.k)/\w'.cell? ⟨b1,o1+1,none⟩=some (.string y.o)/\w'.cell? ⟨b1,o1+2,none⟩=some (.string y.m)/\w'.cell? ⟨b1,o1+3,none⟩=some (.string y.t)/\w'.cell? ⟨b1,o1+4,none⟩=some (.int .i64 y.vk)/\w'.cell? ⟨b1,o1+5,none⟩=some (.int .i64 y.vn)/\w'.cell? ⟨b1,o1+6,none⟩=some (.string y.vs)/\w'.cell? ⟨b1,o1+7,none⟩=some (.slice y.ua y.un y.uc)/\w'.cell? ⟨b1,o1+8,none⟩=some (.int .i64 y.p)/\w'.cell? ⟨b1,o1+9,none⟩=some (.int .i64 y.wk)/\w'.cell? ⟨b1,o1+10,none⟩=some (.int .i64 y.wz)/\w'.cell? ⟨b1,o1+11,none⟩=some (.slice y.xa y.xn y.xc))
             (first|assumption|exact HS3.out _ (ZT (And.left (by assumption)) hb)|exact HS3.out _ (ZD HVV.out)|exact HS3.out _ (ZD (And.left (by assumption)))|exact HS3.out _ (ZT HVV.out hb)|exact HS3.out _ HVV.out)
             (first|(go_at_call 213;refine(true_any _).mono ?_;rintro e w' ⟨rfl,hb⟩)|(go_at_call 212;refine(same10_any _ y trueX _ (HY.out.kept (And.left (by assumption))) (trueX_of HY.out)).mono ?_;rintro e w' ⟨b,rfl,hb⟩))
            have HW2:Hid (Below wr.heap.size wr w'):=And.left (by assumption)
            go_wp2_with fail
            go_ret
            exact⟨_,rfl,(fun _=>HFIN.out _ HW2.out),ZT HBV.out (ZT hB.out HW2.out)⟩
          · have e6:(x_o.toList != [99,111,117,110,116])=true:=by simpa using hc
            have e7:(x_o.toList==[99,111,117,110,116])=false:=by simpa using hc
            clear hc hk5
            go_wp2_with fail
            go_quiet (fail)
            go_wp2_with fail
            go_ret
            exact⟨_,rfl,(fun _=>HFIN.out _ (by repeat first|exact ZR _|refine ZN ?_ _|refine ZD ?_)),ZT HBV.out (ZT hB.out (by repeat first|exact ZR _|refine ZN ?_ _|refine ZD ?_))⟩
        · have e5:(x_k != 5)=true:=by simpa using hk5
          clear hk5
          go_wp2_with fail
          go_quiet (fail)
          go_wp2_with fail
          go_ret
          exact⟨_,rfl,(fun _=>HFIN.out _ (by repeat first|exact ZR _|refine ZN ?_ _|refine ZD ?_)),ZT HBV.out (ZT hB.out (by repeat first|exact ZR _|refine ZN ?_ _|refine ZD ?_))⟩
  · have hne:((xn:Int) != (ar:Int))=true:=by simp only[bne_iff_ne,ne_eq];omega
    go_wp2_with (first|(go_at_call 211;refine(node_any _ _ _ _ _ _ _ _ _ _ _ _ _ _ _ _ _ _ hagg hvs (HUA.out _ (by repeat first|exact ZR _|exact ZH (by assumption)|refine ZA ?_ _|refine ZD ?_|refine ZN ?_ _))).mono ?_;rintro e w' ⟨m,bo,rfl,hm,hk,hb⟩;have HW:Hid (Below V.heap.size V w'):=ZT (by repeat first|exact ZR _|exact ZH (by assumption)|refine ZA ?_ _|refine ZD ?_|refine ZN ?_ _) hb;have HK:=hid hk;rw[HAR.out]at hm;subst hm;clear hb hk;have KK:=HS.out _ HW.out;obtain⟨k0_0,k0_1,k0_2,k0_3,k0_4,k0_5,k0_6,k0_7,k0_8,k0_9,k0_10,k0_11⟩:=KK;cases bo)|fail)
    all_goals
     go_ret
     exact⟨_,rfl,(fun e=>by cases e),ZT HBV.out (by repeat first|exact ZR _|exact ZH (by assumption)|refine ZA ?_ _|refine ZD ?_|refine ZN ?_ _)⟩
theorem Zdw (a_k:Int)(a_ua:Option Addr)(a_un:Nat)(a_uc:Nat)(a_o:ByteArray)(b_k:Int)(b_ua:Option Addr)(b_un:Nat)(b_uc:Nat)(b_o:ByteArray)(w:World)(ha:Zao w a_ua a_un)(hb:Zao w b_ua b_un):Calls prog 177 #[.agg #[.int .i64 a_k,.slice a_ua a_un a_uc,.string a_o],.agg #[.int .i64 b_k,.slice b_ua b_un b_uc,.string b_o]] w (GotB w):=by
 have HA:=hid ha
 have HB:=hid hb
 clear ha hb
 go_enter func177,ntmps177
 go_upto_region 1 with fail
 refine Zam (fun V hV=>?_)
 have B0:Hid (Box V w.heap.size #[.int .i64 a_k,.slice a_ua a_un a_uc,.string a_o] 35):=by rw[hV];exact Za4 _ _ _ _ _
 have B1:Hid (Box V (w.heap.size+1) #[.int .i64 b_k,.slice b_ua b_un b_uc,.string b_o] 35):=by rw[hV];exact Za3 _ _ _ _ _
 have HBV:Hid (Below w.heap.size w V):=by rw[hV];exact(by repeat first|exact ZR _|refine ZA ?_ _)
 clear hV
 have HS:Hid (∀ w',Below V.heap.size V w'->w'.cell? ⟨w.heap.size,0,none⟩=some (.int .i64 a_k)/\w'.cell? ⟨w.heap.size,1,none⟩=some (.slice a_ua a_un a_uc)/\w'.cell? ⟨w.heap.size,2,none⟩=some (.string a_o)/\w'.cell? ⟨w.heap.size+1,0,none⟩=some (.int .i64 b_k)/\w'.cell? ⟨w.heap.size+1,1,none⟩=some (.slice b_ua b_un b_uc)/\w'.cell? ⟨w.heap.size+1,2,none⟩=some (.string b_o)):=fun w' h=>⟨(B0.out.kept h).cell 0 _ rfl,(B0.out.kept h).cell 1 _ rfl,(B0.out.kept h).cell 2 _ rfl,(B1.out.kept h).cell 0 _ rfl,(B1.out.kept h).cell 1 _ rfl,(B1.out.kept h).cell 2 _ rfl⟩
 obtain⟨k0_0,k0_1,k0_2,k1_0,k1_1,k1_2⟩:=HS.out V (ZR V)
 have HUA:Hid (∀ w',Below V.heap.size V w'->Zao w' a_ua a_un):=fun w' h=>(HA.out.kept HBV.out).kept h
 have HUB:Hid (∀ w',Below V.heap.size V w'->Zao w' b_ua b_un):=fun w' h=>(HB.out.kept HBV.out).kept h
 go_wp2_with (first|(go_at_call 195;refine(Zer _ _ _ _ _ _ _ (HUA.out _ (by repeat first|exact ZR _|exact ZH (by assumption)|refine ZA ?_ _|refine ZD ?_|refine ZN ?_ _)) (HUB.out _ (by repeat first|exact ZR _|exact ZH (by assumption)|refine ZA ?_ _|refine ZD ?_|refine ZN ?_ _))).mono ?_;rintro e w' ⟨b,rfl,hb⟩;have HW:Hid (Below V.heap.size V w'):=ZT (by repeat first|exact ZR _|exact ZH (by assumption)|refine ZA ?_ _|refine ZD ?_|refine ZN ?_ _) hb;clear hb;have KK:=HS.out _ HW.out;obtain⟨k0_0,k0_1,k0_2,k1_0,k1_1,k1_2⟩:=KK;cases b)|fail)
 all_goals
  go_ret
  exact⟨_,rfl,ZT HBV.out (by repeat first|exact ZR _|exact ZH (by assumption)|refine ZA ?_ _|refine ZD ?_|refine ZN ?_ _)⟩
def ShapePost (n:Nat)(x:Ex)(w:World)(e:Ending)(w':World):Prop:=∃ r:Int,e=.returned (.int .i64 r)/\(r=0->Shaped n w' x)/\Below w.heap.size w w'
theorem shape_any (x_k:Int)(x_o:ByteArray)(x_m:ByteArray)(x_t:ByteArray)(x_vk:Int)(x_vn:Int)(x_vs:ByteArray)(x_ua:Option Addr)(x_un:Nat)(x_uc:Nat)(x_p:Int)(x_wk:Int)(x_wz:Int)(x_xa:Option Addr)(x_xn:Nat)(x_xc:Nat)(w:World)(hagg:AggOk)(n:Nat)(h:ExAt n w ⟨x_k,x_o,x_m,x_t,x_vk,x_vn,x_vs,x_ua,x_un,x_uc,x_p,x_wk,x_wz,x_xa,x_xn,x_xc⟩):Calls prog 190 #[.agg #[.int .i64 x_k,.string x_o,.string x_m,.string x_t,.int .i64 x_vk,.int .i64 x_vn,.string x_vs,.slice x_ua x_un x_uc,.int .i64 x_p,.int .i64 x_wk,.int .i64 x_wz,.slice x_xa x_xn x_xc]] w (ShapePost n ⟨x_k,x_o,x_m,x_t,x_vk,x_vn,x_vs,x_ua,x_un,x_uc,x_p,x_wk,x_wz,x_xa,x_xn,x_xc⟩ w):=by
 have H:=hid h
 clear h
 go_enter func190,ntmps190
 go_upto_region 1 with fail
 refine Zam (fun V hV=>?_)
 have B0:Hid (Box V w.heap.size #[.int .i64 x_k,.string x_o,.string x_m,.string x_t,.int .i64 x_vk,.int .i64 x_vn,.string x_vs,.slice x_ua x_un x_uc,.int .i64 x_p,.int .i64 x_wk,.int .i64 x_wz,.slice x_xa x_xn x_xc] 42):=by rw[hV];exact ZaE _ _ _
 have HBV:Hid (Below w.heap.size w V):=by rw[hV];exact(by repeat first|exact ZR _|refine ZA ?_ _)
 clear hV
 have HS:Hid (∀ w',Below V.heap.size V w'->w'.cell? ⟨w.heap.size,0,none⟩=some (.int .i64 x_k)/\w'.cell? ⟨w.heap.size,1,none⟩=some (.string x_o)/\w'.cell? ⟨w.heap.size,2,none⟩=some (.string x_m)/\w'.cell? ⟨w.heap.size,3,none⟩=some (.string x_t)/\w'.cell? ⟨w.heap.size,4,none⟩=some (.int .i64 x_vk)/\w'.cell? ⟨w.heap.size,5,none⟩=some (.int .i64 x_vn)/\w'.cell? ⟨w.heap.size,6,none⟩=some (.string x_vs)/\w'.cell? ⟨w.heap.size,7,none⟩=some (.slice x_ua x_un x_uc)/\w'.cell? ⟨w.heap.size,8,none⟩=some (.int .i64 x_p)/\w'.cell? ⟨w.heap.size,9,none⟩=some (.int .i64 x_wk)/\w'.cell? ⟨w.heap.size,10,none⟩=some (.int .i64 x_wz)/\w'.cell? ⟨w.heap.size,11,none⟩=some (.slice x_xa x_xn x_xc)):=fun w' h=>⟨(B0.out.kept h).cell 0 _ rfl,(B0.out.kept h).cell 1 _ rfl,(B0.out.kept h).cell 2 _ rfl,(B0.out.kept h).cell 3 _ rfl,(B0.out.kept h).cell 4 _ rfl,(B0.out.kept h).cell 5 _ rfl,(B0.out.kept h).cell 6 _ rfl,(B0.out.kept h).cell 7 _ rfl,(B0.out.kept h).cell 8 _ rfl,(B0.out.kept h).cell 9 _ rfl,(B0.out.kept h).cell 10 _ rfl,(B0.out.kept h).cell 11 _ rfl⟩
 obtain⟨k0_0,k0_1,k0_2,k0_3,k0_4,k0_5,k0_6,k0_7,k0_8,k0_9,k0_10,k0_11⟩:=HS.out V (ZR V)
 have HX:Hid (∀ w',Below V.heap.size V w'->ExAt n w' ⟨x_k,x_o,x_m,x_t,x_vk,x_vn,x_vs,x_ua,x_un,x_uc,x_p,x_wk,x_wz,x_xa,x_xn,x_xc⟩):=fun w' h=>(H.out.kept HBV.out).kept h
 go_wp2_with (first|(go_at_call 201;refine(size_any n ⟨x_k,x_o,x_m,x_t,x_vk,x_vn,x_vs,x_ua,x_un,x_uc,x_p,x_wk,x_wz,x_xa,x_xn,x_xc⟩ _ (HX.out _ (by repeat first|exact ZR _|exact ZH (by assumption)|refine ZA ?_ _|refine ZD ?_|refine ZN ?_ _))).mono ?_;rintro e w' ⟨r,rfl,hb⟩;have HW:Hid (Below V.heap.size V w'):=ZT (by repeat first|exact ZR _|exact ZH (by assumption)|refine ZA ?_ _|refine ZD ?_|refine ZN ?_ _) hb;clear hb;have KK:=HS.out _ HW.out;obtain⟨k0_0,k0_1,k0_2,k0_3,k0_4,k0_5,k0_6,k0_7,k0_8,k0_9,k0_10,k0_11⟩:=KK)|(go_at_call 202;refine(depth_any n ⟨x_k,x_o,x_m,x_t,x_vk,x_vn,x_vs,x_ua,x_un,x_uc,x_p,x_wk,x_wz,x_xa,x_xn,x_xc⟩ _ (HX.out _ (by repeat first|exact ZR _|exact ZH (by assumption)|refine ZA ?_ _|refine ZD ?_|refine ZN ?_ _))).mono ?_;rintro e w' ⟨r,rfl,hb⟩;have HW:Hid (Below V.heap.size V w'):=ZT (by repeat first|exact ZR _|exact ZH (by assumption)|refine ZA ?_ _|refine ZD ?_|refine ZN ?_ _) hb;clear hb;have KK:=HS.out _ HW.out;obtain⟨k0_0,k0_1,k0_2,k0_3,k0_4,k0_5,k0_6,k0_7,k0_8,k0_9,k0_10,k0_11⟩:=KK)|(go_at_call 203;refine(form_any hagg n ⟨x_k,x_o,x_m,x_t,x_vk,x_vn,x_vs,x_ua,x_un,x_uc,x_p,x_wk,x_wz,x_xa,x_xn,x_xc⟩ _ _ (HX.out _ (by repeat first|exact ZR _|exact ZH (by assumption)|refine ZA ?_ _|refine ZD ?_|refine ZN ?_ _))).mono ?_;rintro e w' ⟨b,rfl,hsh,hb⟩;have HW:Hid (Below V.heap.size V w'):=ZT (by repeat first|exact ZR _|exact ZH (by assumption)|refine ZA ?_ _|refine ZD ?_|refine ZN ?_ _) hb;clear hb;have KK:=HS.out _ HW.out;obtain⟨k0_0,k0_1,k0_2,k0_3,k0_4,k0_5,k0_6,k0_7,k0_8,k0_9,k0_10,k0_11⟩:=KK;have HSH:=hid hsh;clear hsh;cases b)|fail)
 all_goals
  go_ret
  first
   |exact⟨_,rfl,(fun _=>HSH.out (by first|rfl|trivial)),ZT HBV.out (by repeat first|exact ZR _|exact ZH (by assumption)|refine ZA ?_ _|refine ZD ?_|refine ZN ?_ _)⟩
   |exact⟨_,rfl,(fun e=>absurd e (by decide)),ZT HBV.out (by repeat first|exact ZR _|exact ZH (by assumption)|refine ZA ?_ _|refine ZD ?_|refine ZN ?_ _)⟩
theorem Zc4 (a_m:ByteArray)(a_e:ByteArray)(a_tk:Int)(a_tua:Option Addr)(a_tun:Nat)(a_tuc:Nat)(a_to:ByteArray)(a_bk:Int)(a_bo:ByteArray)(a_bm:ByteArray)(a_bt:ByteArray)(a_bvk:Int)(a_bvn:Int)(a_bvs:ByteArray)(a_bua:Option Addr)(a_bun:Nat)(a_buc:Nat)(a_bp:Int)(a_bwk:Int)(a_bwz:Int)(a_bxa:Option Addr)(a_bxn:Nat)(a_bxc:Nat)(a_r:Int)(b_m:ByteArray)(b_e:ByteArray)(b_tk:Int)(b_tua:Option Addr)(b_tun:Nat)(b_tuc:Nat)(b_to:ByteArray)(b_bk:Int)(b_bo:ByteArray)(b_bm:ByteArray)(b_bt:ByteArray)(b_bvk:Int)(b_bvn:Int)(b_bvs:ByteArray)(b_bua:Option Addr)(b_bun:Nat)(b_buc:Nat)(b_bp:Int)(b_bwk:Int)(b_bwz:Int)(b_bxa:Option Addr)(b_bxn:Nat)(b_bxc:Nat)(b_r:Int)(w:World)(n:Nat)(ha:Zao w a_tua a_tun)(hb:Zao w b_tua b_tun)(hx:ExAt n w ⟨a_bk,a_bo,a_bm,a_bt,a_bvk,a_bvn,a_bvs,a_bua,a_bun,a_buc,a_bp,a_bwk,a_bwz,a_bxa,a_bxn,a_bxc⟩)(hz:ExAt n w ⟨b_bk,b_bo,b_bm,b_bt,b_bvk,b_bvn,b_bvs,b_bua,b_bun,b_buc,b_bp,b_bwk,b_bwz,b_bxa,b_bxn,b_bxc⟩):Calls prog 158 #[.agg #[.string a_m,.string a_e,.int .i64 a_tk,.slice a_tua a_tun a_tuc,.string a_to,.int .i64 a_bk,.string a_bo,.string a_bm,.string a_bt,.int .i64 a_bvk,.int .i64 a_bvn,.string a_bvs,.slice a_bua a_bun a_buc,.int .i64 a_bp,.int .i64 a_bwk,.int .i64 a_bwz,.slice a_bxa a_bxn a_bxc,.int .i64 a_r],.agg #[.string b_m,.string b_e,.int .i64 b_tk,.slice b_tua b_tun b_tuc,.string b_to,.int .i64 b_bk,.string b_bo,.string b_bm,.string b_bt,.int .i64 b_bvk,.int .i64 b_bvn,.string b_bvs,.slice b_bua b_bun b_buc,.int .i64 b_bp,.int .i64 b_bwk,.int .i64 b_bwz,.slice b_bxa b_bxn b_bxc,.int .i64 b_r]] w (GotB w):=by
 have HA:=hid ha
 have HB:=hid hb
 have HX0:=hid hx
 have HZ0:=hid hz
 clear ha hb hx hz
 go_enter func158,ntmps158
 go_upto_region 1 with fail
 refine Zam (fun V hV=>?_)
 have B0:Hid (Box V w.heap.size #[.string a_m,.string a_e,.int .i64 a_tk,.slice a_tua a_tun a_tuc,.string a_to,.int .i64 a_bk,.string a_bo,.string a_bm,.string a_bt,.int .i64 a_bvk,.int .i64 a_bvn,.string a_bvs,.slice a_bua a_bun a_buc,.int .i64 a_bp,.int .i64 a_bwk,.int .i64 a_bwz,.slice a_bxa a_bxn a_bxc,.int .i64 a_r] 44):=by rw[hV];exact Za4 _ _ _ _ _
 have B1:Hid (Box V (w.heap.size+1) #[.string b_m,.string b_e,.int .i64 b_tk,.slice b_tua b_tun b_tuc,.string b_to,.int .i64 b_bk,.string b_bo,.string b_bm,.string b_bt,.int .i64 b_bvk,.int .i64 b_bvn,.string b_bvs,.slice b_bua b_bun b_buc,.int .i64 b_bp,.int .i64 b_bwk,.int .i64 b_bwz,.slice b_bxa b_bxn b_bxc,.int .i64 b_r] 44):=by rw[hV];exact Za3 _ _ _ _ _
 have HBV:Hid (Below w.heap.size w V):=by rw[hV];exact(by repeat first|exact ZR _|refine ZA ?_ _)
 clear hV
 have HS:Hid (∀ w',Below V.heap.size V w'->w'.cell? ⟨w.heap.size,0,none⟩=some (.string a_m)/\w'.cell? ⟨w.heap.size,1,none⟩=some (.string a_e)/\w'.cell? ⟨w.heap.size,2,none⟩=some (.int .i64 a_tk)/\w'.cell? ⟨w.heap.size,3,none⟩=some (.slice a_tua a_tun a_tuc)/\w'.cell? ⟨w.heap.size,4,none⟩=some (.string a_to)/\w'.cell? ⟨w.heap.size,5,none⟩=some (.int .i64 a_bk)/\w'.cell? ⟨w.heap.size,6,none⟩=some (.string a_bo)/\w'.cell? ⟨w.heap.size,7,none⟩=some (.string a_bm)/\w'.cell? ⟨w.heap.size,8,none⟩=some (.string a_bt)/\w'.cell? ⟨w.heap.size,9,none⟩=some (.int .i64 a_bvk)/\w'.cell? ⟨w.heap.size,10,none⟩=some (.int .i64 a_bvn)/\w'.cell? ⟨w.heap.size,11,none⟩=some (.string a_bvs)/\w'.cell? ⟨w.heap.size,12,none⟩=some (.slice a_bua a_bun a_buc)/\w'.cell? ⟨w.heap.size,13,none⟩=some (.int .i64 a_bp)/\w'.cell? ⟨w.heap.size,14,none⟩=some (.int .i64 a_bwk)/\w'.cell? ⟨w.heap.size,15,none⟩=some (.int .i64 a_bwz)/\w'.cell? ⟨w.heap.size,16,none⟩=some (.slice a_bxa a_bxn a_bxc)/\w'.cell? ⟨w.heap.size,17,none⟩=some (.int .i64 a_r)/\w'.cell? ⟨w.heap.size+1,0,none⟩=some (.string b_m)/\w'.cell? ⟨w.heap.size+1,1,none⟩=some (.string b_e)/\w'.cell? ⟨w.heap.size+1,2,none⟩=some (.int .i64 b_tk)/\w'.cell? ⟨w.heap.size+1,3,none⟩=some (.slice b_tua b_tun b_tuc)/\w'.cell? ⟨w.heap.size+1,4,none⟩=some (.string b_to)/\w'.cell? ⟨w.heap.size+1,5,none⟩=some (.int .i64 b_bk)/\w'.cell? ⟨w.heap.size+1,6,none⟩=some (.string b_bo)/\w'.cell? ⟨w.heap.size+1,7,none⟩=some (.string b_bm)/\w'.cell? ⟨w.heap.size+1,8,none⟩=some (.string b_bt)/\w'.cell? ⟨w.heap.size+1,9,none⟩=some (.int .i64 b_bvk)/\w'.cell? ⟨w.heap.size+1,10,none⟩=some (.int .i64 b_bvn)/\w'.cell? ⟨w.heap.size+1,11,none⟩=some (.string b_bvs)/\w'.cell? ⟨w.heap.size+1,12,none⟩=some (.slice b_bua b_bun b_buc)/\w'.cell? ⟨w.heap.size+1,13,none⟩=some (.int .i64 b_bp)/\w'.cell? ⟨w.heap.size+1,14,none⟩=some (.int .i64 b_bwk)/\w'.cell? ⟨w.heap.size+1,15,none⟩=some (.int .i64 b_bwz)/\w'.cell? ⟨w.heap.size+1,16,none⟩=some (.slice b_bxa b_bxn b_bxc)/\w'.cell? ⟨w.heap.size+1,17,none⟩=some (.int .i64 b_r)):=fun w' h=>⟨(B0.out.kept h).cell 0 _ rfl,(B0.out.kept h).cell 1 _ rfl,(B0.out.kept h).cell 2 _ rfl,(B0.out.kept h).cell 3 _ rfl,(B0.out.kept h).cell 4 _ rfl,(B0.out.kept h).cell 5 _ rfl,(B0.out.kept h).cell 6 _ rfl,(B0.out.kept h).cell 7 _ rfl,(B0.out.kept h).cell 8 _ rfl,(B0.out.kept h).cell 9 _ rfl,(B0.out.kept h).cell 10 _ rfl,(B0.out.kept h).cell 11 _ rfl,(B0.out.kept h).cell 12 _ rfl,(B0.out.kept h).cell 13 _ rfl,(B0.out.kept h).cell 14 _ rfl,(B0.out.kept h).cell 15 _ rfl,(B0.out.kept h).cell 16 _ rfl,(B0.out.kept h).cell 17 _ rfl,(B1.out.kept h).cell 0 _ rfl,(B1.out.kept h).cell 1 _ rfl,(B1.out.kept h).cell 2 _ rfl,(B1.out.kept h).cell 3 _ rfl,(B1.out.kept h).cell 4 _ rfl,(B1.out.kept h).cell 5 _ rfl,(B1.out.kept h).cell 6 _ rfl,(B1.out.kept h).cell 7 _ rfl,(B1.out.kept h).cell 8 _ rfl,(B1.out.kept h).cell 9 _ rfl,(B1.out.kept h).cell 10 _ rfl,(B1.out.kept h).cell 11 _ rfl,(B1.out.kept h).cell 12 _ rfl,(B1.out.kept h).cell 13 _ rfl,(B1.out.kept h).cell 14 _ rfl,(B1.out.kept h).cell 15 _ rfl,(B1.out.kept h).cell 16 _ rfl,(B1.out.kept h).cell 17 _ rfl⟩
 obtain⟨k0_0,k0_1,k0_2,k0_3,k0_4,k0_5,k0_6,k0_7,k0_8,k0_9,k0_10,k0_11,k0_12,k0_13,k0_14,k0_15,k0_16,k0_17,k1_0,k1_1,k1_2,k1_3,k1_4,k1_5,k1_6,k1_7,k1_8,k1_9,k1_10,k1_11,k1_12,k1_13,k1_14,k1_15,k1_16,k1_17⟩:=HS.out V (ZR V)
 have HUA:Hid (∀ w',Below V.heap.size V w'->Zao w' a_tua a_tun):=fun w' h=>(HA.out.kept HBV.out).kept h
 have HUB:Hid (∀ w',Below V.heap.size V w'->Zao w' b_tua b_tun):=fun w' h=>(HB.out.kept HBV.out).kept h
 have HX:Hid (∀ w',Below V.heap.size V w'->ExAt n w' ⟨a_bk,a_bo,a_bm,a_bt,a_bvk,a_bvn,a_bvs,a_bua,a_bun,a_buc,a_bp,a_bwk,a_bwz,a_bxa,a_bxn,a_bxc⟩):=fun w' h=>(HX0.out.kept HBV.out).kept h
 have HZ:Hid (∀ w',Below V.heap.size V w'->ExAt n w' ⟨b_bk,b_bo,b_bm,b_bt,b_bvk,b_bvn,b_bvs,b_bua,b_bun,b_buc,b_bp,b_bwk,b_bwz,b_bxa,b_bxn,b_bxc⟩):=fun w' h=>(HZ0.out.kept HBV.out).kept h
 go_wp2_with (first|(go_at_call 177;refine(Zdw _ _ _ _ _ _ _ _ _ _ _ (HUA.out _ (by repeat first|exact ZR _|exact ZH (by assumption)|refine ZA ?_ _|refine ZD ?_|refine ZN ?_ _)) (HUB.out _ (by repeat first|exact ZR _|exact ZH (by assumption)|refine ZA ?_ _|refine ZD ?_|refine ZN ?_ _))).mono ?_;rintro e w' ⟨b,rfl,hb⟩;have HW:Hid (Below V.heap.size V w'):=ZT (by repeat first|exact ZR _|exact ZH (by assumption)|refine ZA ?_ _|refine ZD ?_|refine ZN ?_ _) hb;clear hb;have KK:=HS.out _ HW.out;obtain⟨k0_0,k0_1,k0_2,k0_3,k0_4,k0_5,k0_6,k0_7,k0_8,k0_9,k0_10,k0_11,k0_12,k0_13,k0_14,k0_15,k0_16,k0_17,k1_0,k1_1,k1_2,k1_3,k1_4,k1_5,k1_6,k1_7,k1_8,k1_9,k1_10,k1_11,k1_12,k1_13,k1_14,k1_15,k1_16,k1_17⟩:=KK;cases b)|(go_at_call 178;refine(same12_any n ⟨a_bk,a_bo,a_bm,a_bt,a_bvk,a_bvn,a_bvs,a_bua,a_bun,a_buc,a_bp,a_bwk,a_bwz,a_bxa,a_bxn,a_bxc⟩ ⟨b_bk,b_bo,b_bm,b_bt,b_bvk,b_bvn,b_bvs,b_bua,b_bun,b_buc,b_bp,b_bwk,b_bwz,b_bxa,b_bxn,b_bxc⟩ _ (HX.out _ (by repeat first|exact ZR _|exact ZH (by assumption)|refine ZA ?_ _|refine ZD ?_|refine ZN ?_ _)) (HZ.out _ (by repeat first|exact ZR _|exact ZH (by assumption)|refine ZA ?_ _|refine ZD ?_|refine ZN ?_ _))).mono ?_;rintro e w' ⟨b,rfl,hb⟩;have HW:Hid (Below V.heap.size V w'):=ZT (by repeat first|exact ZR _|exact ZH (by assumption)|refine ZA ?_ _|refine ZD ?_|refine ZN ?_ _) hb;clear hb;have KK:=HS.out _ HW.out;obtain⟨k0_0,k0_1,k0_2,k0_3,k0_4,k0_5,k0_6,k0_7,k0_8,k0_9,k0_10,k0_11,k0_12,k0_13,k0_14,k0_15,k0_16,k0_17,k1_0,k1_1,k1_2,k1_3,k1_4,k1_5,k1_6,k1_7,k1_8,k1_9,k1_10,k1_11,k1_12,k1_13,k1_14,k1_15,k1_16,k1_17⟩:=KK;cases b)|fail)
 all_goals
  go_ret
  exact⟨_,rfl,ZT HBV.out (by repeat first|exact ZR _|exact ZH (by assumption)|refine ZA ?_ _|refine ZD ?_|refine ZN ?_ _)⟩
theorem own_any (a_m:ByteArray)(a_e:ByteArray)(a_tk:Int)(a_tua:Option Addr)(a_tun:Nat)(a_tuc:Nat)(a_to:ByteArray)(a_bk:Int)(a_bo:ByteArray)(a_bm:ByteArray)(a_bt:ByteArray)(a_bvk:Int)(a_bvn:Int)(a_bvs:ByteArray)(a_bua:Option Addr)(a_bun:Nat)(a_buc:Nat)(a_bp:Int)(a_bwk:Int)(a_bwz:Int)(a_bxa:Option Addr)(a_bxn:Nat)(a_bxc:Nat)(a_r:Int)(w:World)(hagg:AggOk)(n:Nat)(ha:Zao w a_tua a_tun)(hx:ExAt n w ⟨a_bk,a_bo,a_bm,a_bt,a_bvk,a_bvn,a_bvs,a_bua,a_bun,a_buc,a_bp,a_bwk,a_bwz,a_bxa,a_bxn,a_bxc⟩):Calls prog 171 #[.agg #[.string a_m,.string a_e,.int .i64 a_tk,.slice a_tua a_tun a_tuc,.string a_to,.int .i64 a_bk,.string a_bo,.string a_bm,.string a_bt,.int .i64 a_bvk,.int .i64 a_bvn,.string a_bvs,.slice a_bua a_bun a_buc,.int .i64 a_bp,.int .i64 a_bwk,.int .i64 a_bwz,.slice a_bxa a_bxn a_bxc,.int .i64 a_r]] w (ShapePost n ⟨a_bk,a_bo,a_bm,a_bt,a_bvk,a_bvn,a_bvs,a_bua,a_bun,a_buc,a_bp,a_bwk,a_bwz,a_bxa,a_bxn,a_bxc⟩ w):=by
 have HA:=hid ha
 have HX0:=hid hx
 clear ha hx
 go_enter func171,ntmps171
 go_upto_region 1 with fail
 refine Zam (fun V hV=>?_)
 have B0:Hid (Box V w.heap.size #[.string a_m,.string a_e,.int .i64 a_tk,.slice a_tua a_tun a_tuc,.string a_to,.int .i64 a_bk,.string a_bo,.string a_bm,.string a_bt,.int .i64 a_bvk,.int .i64 a_bvn,.string a_bvs,.slice a_bua a_bun a_buc,.int .i64 a_bp,.int .i64 a_bwk,.int .i64 a_bwz,.slice a_bxa a_bxn a_bxc,.int .i64 a_r] 44):=by rw[hV];exact ZaE _ _ _
 have HBV:Hid (Below w.heap.size w V):=by rw[hV];exact(by repeat first|exact ZR _|refine ZA ?_ _)
 clear hV
 have HS:Hid (∀ w',Below V.heap.size V w'->w'.cell? ⟨w.heap.size,0,none⟩=some (.string a_m)/\w'.cell? ⟨w.heap.size,1,none⟩=some (.string a_e)/\w'.cell? ⟨w.heap.size,2,none⟩=some (.int .i64 a_tk)/\w'.cell? ⟨w.heap.size,3,none⟩=some (.slice a_tua a_tun a_tuc)/\w'.cell? ⟨w.heap.size,4,none⟩=some (.string a_to)/\w'.cell? ⟨w.heap.size,5,none⟩=some (.int .i64 a_bk)/\w'.cell? ⟨w.heap.size,6,none⟩=some (.string a_bo)/\w'.cell? ⟨w.heap.size,7,none⟩=some (.string a_bm)/\w'.cell? ⟨w.heap.size,8,none⟩=some (.string a_bt)/\w'.cell? ⟨w.heap.size,9,none⟩=some (.int .i64 a_bvk)/\w'.cell? ⟨w.heap.size,10,none⟩=some (.int .i64 a_bvn)/\w'.cell? ⟨w.heap.size,11,none⟩=some (.string a_bvs)/\w'.cell? ⟨w.heap.size,12,none⟩=some (.slice a_bua a_bun a_buc)/\w'.cell? ⟨w.heap.size,13,none⟩=some (.int .i64 a_bp)/\w'.cell? ⟨w.heap.size,14,none⟩=some (.int .i64 a_bwk)/\w'.cell? ⟨w.heap.size,15,none⟩=some (.int .i64 a_bwz)/\w'.cell? ⟨w.heap.size,16,none⟩=some (.slice a_bxa a_bxn a_bxc)/\w'.cell? ⟨w.heap.size,17,none⟩=some (.int .i64 a_r)):=fun w' h=>⟨(B0.out.kept h).cell 0 _ rfl,(B0.out.kept h).cell 1 _ rfl,(B0.out.kept h).cell 2 _ rfl,(B0.out.kept h).cell 3 _ rfl,(B0.out.kept h).cell 4 _ rfl,(B0.out.kept h).cell 5 _ rfl,(B0.out.kept h).cell 6 _ rfl,(B0.out.kept h).cell 7 _ rfl,(B0.out.kept h).cell 8 _ rfl,(B0.out.kept h).cell 9 _ rfl,(B0.out.kept h).cell 10 _ rfl,(B0.out.kept h).cell 11 _ rfl,(B0.out.kept h).cell 12 _ rfl,(B0.out.kept h).cell 13 _ rfl,(B0.out.kept h).cell 14 _ rfl,(B0.out.kept h).cell 15 _ rfl,(B0.out.kept h).cell 16 _ rfl,(B0.out.kept h).cell 17 _ rfl⟩
 obtain⟨k0_0,k0_1,k0_2,k0_3,k0_4,k0_5,k0_6,k0_7,k0_8,k0_9,k0_10,k0_11,k0_12,k0_13,k0_14,k0_15,k0_16,k0_17⟩:=HS.out V (ZR V)
 have HUA:Hid (∀ w',Below V.heap.size V w'->Zao w' a_tua a_tun):=fun w' h=>(HA.out.kept HBV.out).kept h
 have HX:Hid (∀ w',Below V.heap.size V w'->ExAt n w' ⟨a_bk,a_bo,a_bm,a_bt,a_bvk,a_bvn,a_bvs,a_bua,a_bun,a_buc,a_bp,a_bwk,a_bwz,a_bxa,a_bxn,a_bxc⟩):=fun w' h=>(HX0.out.kept HBV.out).kept h
 go_wp2_with (first|(go_at_call 140;refine(ZbF _ _).mono ?_;rintro e w' ⟨b,rfl,hb⟩;have HW:Hid (Below V.heap.size V w'):=ZT (by repeat first|exact ZR _|exact ZH (by assumption)|refine ZA ?_ _|refine ZD ?_|refine ZN ?_ _) hb;clear hb;have KK:=HS.out _ HW.out;obtain⟨k0_0,k0_1,k0_2,k0_3,k0_4,k0_5,k0_6,k0_7,k0_8,k0_9,k0_10,k0_11,k0_12,k0_13,k0_14,k0_15,k0_16,k0_17⟩:=KK;cases b)|(go_at_call 189;refine(ZeK _ _ _ _ _ _ (HUA.out _ (by repeat first|exact ZR _|exact ZH (by assumption)|refine ZA ?_ _|refine ZD ?_|refine ZN ?_ _))).mono ?_;rintro e w' ⟨r,rfl,hb⟩;have HW:Hid (Below V.heap.size V w'):=ZT (by repeat first|exact ZR _|exact ZH (by assumption)|refine ZA ?_ _|refine ZD ?_|refine ZN ?_ _) hb;clear hb;have KK:=HS.out _ HW.out;obtain⟨k0_0,k0_1,k0_2,k0_3,k0_4,k0_5,k0_6,k0_7,k0_8,k0_9,k0_10,k0_11,k0_12,k0_13,k0_14,k0_15,k0_16,k0_17⟩:=KK;rcases Za6 r with rfl|hr0)|(go_at_call 190;refine(shape_any _ _ _ _ _ _ _ _ _ _ _ _ _ _ _ _ _ hagg n (HX.out _ (by repeat first|exact ZR _|exact ZH (by assumption)|refine ZA ?_ _|refine ZD ?_|refine ZN ?_ _))).mono ?_;rintro e w' ⟨r,rfl,hsh,hb⟩;have HW:Hid (Below V.heap.size V w'):=ZT (by repeat first|exact ZR _|exact ZH (by assumption)|refine ZA ?_ _|refine ZD ?_|refine ZN ?_ _) hb;clear hb;have KK:=HS.out _ HW.out;obtain⟨k0_0,k0_1,k0_2,k0_3,k0_4,k0_5,k0_6,k0_7,k0_8,k0_9,k0_10,k0_11,k0_12,k0_13,k0_14,k0_15,k0_16,k0_17⟩:=KK;have HSH:=hid hsh;clear hsh)|fail)
 all_goals
  go_ret
  first
   |exact⟨_,rfl,HSH.out,ZT HBV.out (by repeat first|exact ZR _|exact ZH (by assumption)|refine ZA ?_ _|refine ZD ?_|refine ZN ?_ _)⟩
   |exact⟨_,rfl,(fun e=>absurd e (by first|decide|assumption)),ZT HBV.out (by repeat first|exact ZR _|exact ZH (by assumption)|refine ZA ?_ _|refine ZD ?_|refine ZN ?_ _)⟩
theorem Zd2 (a_m:ByteArray)(a_e:ByteArray)(a_fa:Option Addr)(a_fn:Nat)(a_fc:Nat)(a_p:Int)(b_m:ByteArray)(b_e:ByteArray)(b_fa:Option Addr)(b_fn:Nat)(b_fc:Nat)(b_p:Int)(w:World)(ha:FdsAt w a_fa a_fn)(hb:FdsAt w b_fa b_fn):Calls prog 157 #[.agg #[.string a_m,.string a_e,.slice a_fa a_fn a_fc,.int .i64 a_p],.agg #[.string b_m,.string b_e,.slice b_fa b_fn b_fc,.int .i64 b_p]] w (GotB w):=by
 obtain⟨fs,rfl,hfl,hfu,hf⟩:=ha
 obtain⟨gs,rfl,hgl,hgu,hg⟩:=hb
 have HFL:=hid hf
 have HGL:=hid hg
 have HFU:=hid hfu
 have HGU:=hid hgu
 clear hf hg hfu hgu
 go_enter func157,ntmps157
 go_upto_region 1 with fail
 refine Zam (fun V hV=>?_)
 have B0:Hid (Box V w.heap.size #[.string a_m,.string a_e,.slice a_fa fs.length a_fc,.int .i64 a_p] 32):=by rw[hV];exact Za4 _ _ _ _ _
 have B1:Hid (Box V (w.heap.size+1) #[.string b_m,.string b_e,.slice b_fa gs.length b_fc,.int .i64 b_p] 32):=by rw[hV];exact Za3 _ _ _ _ _
 have HBV:Hid (Below w.heap.size w V):=by rw[hV];exact(by repeat first|exact ZR _|refine ZA ?_ _)
 clear hV
 have HS:Hid (∀ w',Below V.heap.size V w'->w'.cell? ⟨w.heap.size,0,none⟩=some (.string a_m)/\w'.cell? ⟨w.heap.size,1,none⟩=some (.string a_e)/\w'.cell? ⟨w.heap.size,2,none⟩=some (.slice a_fa fs.length a_fc)/\w'.cell? ⟨w.heap.size,3,none⟩=some (.int .i64 a_p)/\w'.cell? ⟨w.heap.size+1,0,none⟩=some (.string b_m)/\w'.cell? ⟨w.heap.size+1,1,none⟩=some (.string b_e)/\w'.cell? ⟨w.heap.size+1,2,none⟩=some (.slice b_fa gs.length b_fc)/\w'.cell? ⟨w.heap.size+1,3,none⟩=some (.int .i64 b_p)):=fun w' h=>⟨(B0.out.kept h).cell 0 _ rfl,(B0.out.kept h).cell 1 _ rfl,(B0.out.kept h).cell 2 _ rfl,(B0.out.kept h).cell 3 _ rfl,(B1.out.kept h).cell 0 _ rfl,(B1.out.kept h).cell 1 _ rfl,(B1.out.kept h).cell 2 _ rfl,(B1.out.kept h).cell 3 _ rfl⟩
 obtain⟨k0_0,k0_1,k0_2,k0_3,k1_0,k1_1,k1_2,k1_3⟩:=HS.out V (ZR V)
 generalize hn:fs.length=fn at *
 generalize hm:gs.length=gn at *
 have HN:=hid hn
 have HM:=hid hm
 clear hn hm
 by_cases hlen:fn=gn
 · subst hlen
   go_wp2_with fail
   all_goals first
    |(go_ret;exact⟨_,rfl,ZT HBV.out (by repeat first|exact ZR _|exact ZH (by assumption)|refine ZA ?_ _|refine ZD ?_|refine ZN ?_ _)⟩)
    |skip
   all_goals
    go_loopw [5] (fun v wr=>∃ i:Nat,i<=fn/\v=.int .i64 i/\Hid (Below V.heap.size V wr)) (fun v _=>fn - (intOf v).toNat)
    case atStart=>exact⟨0,by omega,rfl,ZR V⟩
    case round =>
     obtain⟨i,hi,rfl,hB⟩:=hrel
     have KK:=HS.out _ hB.out
     obtain⟨k0_0,k0_1,k0_2,k0_3,k1_0,k1_1,k1_2,k1_3⟩:=KK
     by_cases hlt:i<fn
     · try(exfalso;omega)
       all_goals
        obtain⟨f,hf⟩:∃ f,fs[i]?=some f:=⟨fs[i]'(by have:=HN.out;omega),List.getElem?_eq_getElem _⟩
        obtain⟨g,hg⟩:∃ g,gs[i]?=some g:=⟨gs[i]'(by have:=HM.out;omega),List.getElem?_eq_getElem _⟩
        obtain⟨b1,o1,rfl,hr1⟩:=(HFL.out.kept HBV.out).some (by have:=HN.out;omega)
        obtain⟨b2,o2,rfl,hr2⟩:=(HGL.out.kept HBV.out).some (by have:=HM.out;omega)
        obtain⟨c0,c1,c2,c3⟩:=Fd.cell hr1 hf
        obtain⟨d0,d1,d2,d3⟩:=Fd.cell hr2 hg
        have HF:Hid (∀ w',Below V.heap.size V w'->Zao w' f.ua f.un):=fun w' h=>((HFU.out f (List.mem_of_getElem? hf)).kept HBV.out).kept h
        have HG:Hid (∀ w',Below V.heap.size V w'->Zao w' g.ua g.un):=fun w' h=>((HGU.out g (List.mem_of_getElem? hg)).kept HBV.out).kept h
        have HE:Hid (∀ w',Below V.heap.size V w'->w'.cell? ⟨b1,o1+i*4,none⟩=some (.string f.m)/\w'.cell? ⟨b1,o1+i*4+1,none⟩=some (.int .i64 f.k)/\w'.cell? ⟨b1,o1+i*4+2,none⟩=some (.slice f.ua f.un f.uc)/\w'.cell? ⟨b1,o1+i*4+3,none⟩=some (.string f.o)/\w'.cell? ⟨b2,o2+i*4,none⟩=some (.string g.m)/\w'.cell? ⟨b2,o2+i*4+1,none⟩=some (.int .i64 g.k)/\w'.cell? ⟨b2,o2+i*4+2,none⟩=some (.slice g.ua g.un g.uc)/\w'.cell? ⟨b2,o2+i*4+3,none⟩=some (.string g.o)):=fun w' h=>⟨Zaa c0 h,Zaa c1 h,Zaa c2 h,Zaa c3 h,Zaa d0 h,Zaa d1 h,Zaa d2 h,Zaa d3 h⟩
        clear hr1 hr2 hf hg c0 c1 c2 c3 d0 d1 d2 d3
        have EE:=HE.out _ hB.out
        obtain⟨c0,c1,c2,c3,d0,d1,d2,d3⟩:=EE
        go_wp2_with fail
        go_still_tail 12,(by kernel_rfl)
        change wpList _ _ _ _ _ wr.drew
        go_wp2_with (first|(go_at_call 177;refine(Zdw _ _ _ _ _ _ _ _ _ _ _ (HF.out _ (by repeat first|exact ZR _|exact ZH (by assumption)|refine ZA ?_ _|refine ZD ?_|refine ZN ?_ _)) (HG.out _ (by repeat first|exact ZR _|exact ZH (by assumption)|refine ZA ?_ _|refine ZD ?_|refine ZN ?_ _))).mono ?_;rintro e w' ⟨b,rfl,hb⟩;have HW:Hid (Below V.heap.size V w'):=ZT (by repeat first|exact ZR _|exact ZH (by assumption)|refine ZA ?_ _|refine ZD ?_|refine ZN ?_ _) hb;clear hb;have KK:=HS.out _ HW.out;obtain⟨k0_0,k0_1,k0_2,k0_3,k1_0,k1_1,k1_2,k1_3⟩:=KK;have EE:=HE.out _ HW.out;obtain⟨c0,c1,c2,c3,d0,d1,d2,d3⟩:=EE;cases b)|fail)
        all_goals
         go_quiet (fail)
         go_wp2_with fail
        all_goals first
         |(go_ret;exact⟨_,rfl,ZT HBV.out (by repeat first|exact ZR _|exact ZH (by assumption)|refine ZA ?_ _|refine ZD ?_|refine ZN ?_ _)⟩)
         |(go_roundw;(case rel=>exact⟨i+1,by omega,by go_num,(by repeat first|exact ZR _|exact ZH (by assumption)|refine ZA ?_ _|refine ZD ?_|refine ZN ?_ _)⟩);(case measure=>simp[intOf];omega))
     · go_wp2_with fail
       go_ret
       exact⟨_,rfl,ZT HBV.out hB.out⟩
 · go_wp2_with fail
   all_goals
    go_ret
    exact⟨_,rfl,ZT HBV.out (by repeat first|exact ZR _|exact ZH (by assumption)|refine ZA ?_ _|refine ZD ?_|refine ZN ?_ _)⟩
theorem table_any (a_m:ByteArray)(a_e:ByteArray)(a_fa:Option Addr)(a_fn:Nat)(a_fc:Nat)(a_p:Int)(w:World)(ha:FdsAt w a_fa a_fn):Calls prog 188 #[.agg #[.string a_m,.string a_e,.slice a_fa a_fn a_fc,.int .i64 a_p]] w (GotI w):=by
 obtain⟨fs,rfl,hfl,hfu,hf⟩:=ha
 have HFL:=hid hf
 have HFU:=hid hfu
 clear hf hfu
 go_enter func188,ntmps188
 go_upto_region 1 with fail
 refine Zam (fun V hV=>?_)
 have B0:Hid (Box V w.heap.size #[.string a_m,.string a_e,.slice a_fa fs.length a_fc,.int .i64 a_p] 32):=by rw[hV];exact ZaE _ _ _
 have HBV:Hid (Below w.heap.size w V):=by rw[hV];exact(by repeat first|exact ZR _|refine ZA ?_ _)
 clear hV
 have HS:Hid (∀ w',Below V.heap.size V w'->w'.cell? ⟨w.heap.size,0,none⟩=some (.string a_m)/\w'.cell? ⟨w.heap.size,1,none⟩=some (.string a_e)/\w'.cell? ⟨w.heap.size,2,none⟩=some (.slice a_fa fs.length a_fc)/\w'.cell? ⟨w.heap.size,3,none⟩=some (.int .i64 a_p)):=fun w' h=>⟨(B0.out.kept h).cell 0 _ rfl,(B0.out.kept h).cell 1 _ rfl,(B0.out.kept h).cell 2 _ rfl,(B0.out.kept h).cell 3 _ rfl⟩
 obtain⟨k0_0,k0_1,k0_2,k0_3⟩:=HS.out V (ZR V)
 generalize hn:fs.length=fn at *
 have HN:=hid hn
 clear hn
 go_wp2_with (first|(go_at_call 140;refine(ZbF _ _).mono ?_;rintro e w' ⟨b,rfl,hb⟩;have HW:Hid (Below V.heap.size V w'):=ZT (by repeat first|exact ZR _|exact ZH (by assumption)|refine ZA ?_ _|refine ZD ?_|refine ZN ?_ _) hb;clear hb;have KK:=HS.out _ HW.out;obtain⟨k0_0,k0_1,k0_2,k0_3⟩:=KK;skip;cases b)|fail)
 all_goals first
  |(go_ret;exact⟨_,rfl,ZT HBV.out (by repeat first|exact ZR _|exact ZH (by assumption)|refine ZA ?_ _|refine ZD ?_|refine ZN ?_ _)⟩)
  |skip
 all_goals
  have HB0:Hid (Below V.heap.size V w'):=HW
  go_loopw [3] (fun v wr=>∃ i:Nat,i<=fn/\v=.int .i64 i/\Hid (Below V.heap.size V wr)) (fun v _=>fn - (intOf v).toNat)
  case atStart=>exact⟨0,by omega,rfl,HB0⟩
  case round =>
   rename World=>wo
   obtain⟨i,hi,rfl,hB⟩:=hrel
   have KK:=HS.out _ hB.out
   obtain⟨k0_0,k0_1,k0_2,k0_3⟩:=KK
   by_cases hlt:i<fn
   · try(exfalso;omega)
     all_goals
      obtain⟨f,hf⟩:∃ f,fs[i]?=some f:=⟨fs[i]'(by have:=HN.out;omega),List.getElem?_eq_getElem _⟩
      obtain⟨b1,o1,rfl,hr1⟩:=(HFL.out.kept HBV.out).some (by have:=HN.out;omega)
      have HLI:=hid hr1
      obtain⟨c0,c1,c2,c3⟩:=Fd.cell hr1 hf
      have HF:Hid (∀ w',Below V.heap.size V w'->Zao w' f.ua f.un):=fun w' h=>((HFU.out f (List.mem_of_getElem? hf)).kept HBV.out).kept h
      have HE:Hid (∀ w',Below V.heap.size V w'->w'.cell? ⟨b1,o1+i*4,none⟩=some (.string f.m)/\w'.cell? ⟨b1,o1+i*4+1,none⟩=some (.int .i64 f.k)/\w'.cell? ⟨b1,o1+i*4+2,none⟩=some (.slice f.ua f.un f.uc)/\w'.cell? ⟨b1,o1+i*4+3,none⟩=some (.string f.o)):=fun w' h=>⟨Zaa c0 h,Zaa c1 h,Zaa c2 h,Zaa c3 h⟩
      clear hr1 hf c0 c1 c2 c3
      have EE:=HE.out _ hB.out
      obtain⟨c0,c1,c2,c3⟩:=EE
      go_wp2_with (first|(go_at_call 140;refine(ZbF _ _).mono ?_;rintro e w' ⟨b,rfl,hb⟩;have HW:Hid (Below V.heap.size V w'):=ZT (by repeat first|exact ZR _|exact ZH (by assumption)|refine ZA ?_ _|refine ZD ?_|refine ZN ?_ _) hb;clear hb;have KK:=HS.out _ HW.out;obtain⟨k0_0,k0_1,k0_2,k0_3⟩:=KK;(have EE:=HE.out _ HW.out;obtain⟨c0,c1,c2,c3⟩:=EE);cases b)|fail)
      all_goals first
       |(go_ret;exact⟨_,rfl,ZT HBV.out (by repeat first|exact ZR _|exact ZH (by assumption)|refine ZA ?_ _|refine ZD ?_|refine ZN ?_ _)⟩)
       |skip
      all_goals
       have HB1:Hid (Below V.heap.size V w'):=HW
       go_loopw [4] (fun v wr=>∃ k:Nat,k<=i/\v=.int .i64 k/\Hid (Below V.heap.size V wr)) (fun v _=>i - (intOf v).toNat)
       case atStart=>exact⟨0,by omega,rfl,HB1⟩
       case round =>
        obtain⟨k,hk,rfl,hB⟩:=hrel
        have KK:=HS.out _ hB.out
        obtain⟨k0_0,k0_1,k0_2,k0_3⟩:=KK
        have EE:=HE.out _ hB.out
        obtain⟨c0,c1,c2,c3⟩:=EE
        by_cases hkl:k<i
        · obtain⟨g,hg⟩:∃ g,fs[k]?=some g:=⟨fs[k]'(by have:=HN.out;omega),List.getElem?_eq_getElem _⟩
          obtain⟨d0,d1,d2,d3⟩:=Fd.cell (HLI.out.kept hB.out) hg
          clear hg
          go_wp2_with fail
          go_quiet (fail)
          go_wp2_with fail
          all_goals first
           |(go_ret;exact⟨_,rfl,ZT HBV.out (by repeat first|exact ZR _|exact ZH (by assumption)|refine ZA ?_ _|refine ZD ?_|refine ZN ?_ _)⟩)
           |(go_roundw;(case rel=>exact⟨k+1,by omega,by go_num,hid (ZN hB.out _)⟩);(case measure=>simp[intOf];omega))
        · go_wp2_with (first|(go_at_call 189;refine(ZeK _ _ _ _ _ _ (HF.out _ (by repeat first|exact ZR _|exact ZH (by assumption)|refine ZA ?_ _|refine ZD ?_|refine ZN ?_ _))).mono ?_;rintro e w' ⟨r,rfl,hb⟩;have HW:Hid (Below V.heap.size V w'):=ZT (by repeat first|exact ZR _|exact ZH (by assumption)|refine ZA ?_ _|refine ZD ?_|refine ZN ?_ _) hb;clear hb;have KK:=HS.out _ HW.out;obtain⟨k0_0,k0_1,k0_2,k0_3⟩:=KK;rcases Za6 r with rfl|hr0)|fail)
          all_goals first
           |(go_ret;exact⟨_,rfl,ZT HBV.out (by repeat first|exact ZR _|exact ZH (by assumption)|refine ZA ?_ _|refine ZD ?_|refine ZN ?_ _)⟩)
           |(go_roundw;(case rel=>exact⟨i+1,by omega,by go_num,(by repeat first|exact ZR _|exact ZH (by assumption)|refine ZA ?_ _|refine ZD ?_|refine ZN ?_ _)⟩);(case measure=>simp[intOf];omega))
   · go_wp2_with fail
     go_ret
     exact⟨_,rfl,ZT HBV.out hB.out⟩
end Go.Proofs.YtfnpfkgmacaboaaGreat
