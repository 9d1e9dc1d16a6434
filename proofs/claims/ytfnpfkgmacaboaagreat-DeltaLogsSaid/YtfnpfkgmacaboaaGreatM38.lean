/- Texts joined by a program. -/
import Derived.Test.YtfnpfkgmacaboaaGreatM05
import Derived.Test.YtfnpfkgmacaboaaGreatM13
namespace Go.Proofs.YtfnpfkgmacaboaaGreat
open Lib (hid)
open Go.ChangeShapes Go.WideShapes Go.ChangeAt Go.RowKit
set_option linter.unusedVariables false
set_option linter.unusedSimpArgs false
set_option maxRecDepth 100000
set_option maxHeartbeats 4000000
theorem aggregate_det (x_k:Int)(x_o:ByteArray)(x_m:ByteArray)(x_t:ByteArray)(x_vk:Int)(x_vn:Int)(x_vs:ByteArray)(x_ua:Option Addr)(x_uc:Nat)(x_p:Int)(x_wk:Int)(x_wz:Int)(x_xa:Option Addr)(x_xn:Nat)(x_xc:Nat)(us:List FID):∃ r:Bool,∀ (w:World),UnIs w x_ua us->Calls Tryz.prog 221 #[.agg #[.int .i64 x_k,.string x_o,.string x_m,.string x_t,.int .i64 x_vk,.int .i64 x_vn,.string x_vs,.slice x_ua us.length x_uc,.int .i64 x_p,.int .i64 x_wk,.int .i64 x_wz,.slice x_xa x_xn x_xc]] w (RetB r w):=by
 obtain⟨rf,h1⟩:=ZdW x_k x_o x_m x_t x_vk x_vn x_vs x_ua x_uc x_p x_wk x_wz x_xa x_xn x_xc 5 x_o ⟨#[]⟩ x_t 0 0 ⟨#[]⟩ none 0 x_p x_wk x_wz none 0 0 us []
 have Hrf:=hid h1
 obtain⟨qa,hqa⟩:∃ q,isOne x_o aggL=q:=⟨_,rfl⟩
 obtain⟨qt,hqt⟩:∃ q,nameB x_t=q:=⟨_,rfl⟩
 obtain⟨qw,hqw⟩:∃ q,winB x_wk x_wz=q:=⟨_,rfl⟩
 have HOA:Hid (∀ a c w,Zfo w a aggL->Calls Tryz.prog 222 #[.string x_o,.slice a 10 c] w (RetB qa w)):=by rw[<-hqa];exact fun a c w h=>one_is _ aggL a c w (by decide) h
 have HNT:Hid (∀ w,Calls Tryz.prog 140 #[.string x_t] w (RetB qt w)):=by rw[<-hqt];exact fun w=>ZbJ _ w
 have HWI:Hid (∀ w,Calls Tryz.prog 230 #[.agg #[.int .i64 x_wk,.int .i64 x_wz]] w (RetB qw w)):=by rw[<-hqw];exact fun w=>window_is _ _ w
 clear h1 hqa hqt hqw
 obtain⟨mm1,Sq⟩:∃ m:Int,m=(if (x_o.toList==([113,117,97,110,116,105,108,101]:List UInt8))=true then 1000 else 0):=⟨_,rfl⟩
 obtain⟨m,hm⟩:∃ m:Int,m=(if (x_o.toList==([100,101,99,97,121]:List UInt8))=true then 1073741824 else mm1):=⟨_,rfl⟩
 obtain⟨B,hB0⟩:∃ B,B=(!qa||(!qt||(!qw||(decide (m<x_p)||decide (x_p<min m 1))))):=⟨_,rfl⟩
 obtain⟨R,hR⟩:∃ R,R=(!B&&rf):=⟨_,rfl⟩
 have Uj:=hid Sq
 have HM:=hid hm
 have Lc:=hid hB0
 have HR:=hid hR
 clear Sq hm hB0 hR
 refine⟨R,fun w h=>?_⟩
 have H:=hid h
 clear h
 go_enter Tryz.func221,Tryz.ntmps221
 go_upto_region 1 with fail
 refine gen1 (fun V B0 Aa=>?_)
 have HS:Hid (∀ w',Below V.heap.size V w'->w'.cell? ⟨w.heap.size,0,none⟩=some (.int .i64 x_k)/\w'.cell? ⟨w.heap.size,1,none⟩=some (.string x_o)/\w'.cell? ⟨w.heap.size,2,none⟩=some (.string x_m)/\w'.cell? ⟨w.heap.size,3,none⟩=some (.string x_t)/\w'.cell? ⟨w.heap.size,4,none⟩=some (.int .i64 x_vk)/\w'.cell? ⟨w.heap.size,5,none⟩=some (.int .i64 x_vn)/\w'.cell? ⟨w.heap.size,6,none⟩=some (.string x_vs)/\w'.cell? ⟨w.heap.size,7,none⟩=some (.slice x_ua us.length x_uc)/\w'.cell? ⟨w.heap.size,8,none⟩=some (.int .i64 x_p)/\w'.cell? ⟨w.heap.size,9,none⟩=some (.int .i64 x_wk)/\w'.cell? ⟨w.heap.size,10,none⟩=some (.int .i64 x_wz)/\w'.cell? ⟨w.heap.size,11,none⟩=some (.slice x_xa x_xn x_xc)):=fun w' h=>⟨(B0.out.kept h).cell 0 _ rfl,(B0.out.kept h).cell 1 _ rfl,(B0.out.kept h).cell 2 _ rfl,(B0.out.kept h).cell 3 _ rfl,(B0.out.kept h).cell 4 _ rfl,(B0.out.kept h).cell 5 _ rfl,(B0.out.kept h).cell 6 _ rfl,(B0.out.kept h).cell 7 _ rfl,(B0.out.kept h).cell 8 _ rfl,(B0.out.kept h).cell 9 _ rfl,(B0.out.kept h).cell 10 _ rfl,(B0.out.kept h).cell 11 _ rfl⟩
 obtain⟨Xa,Va,Ua,Rb,Vb,Dd,Cd,Bd,Ad,Te,Rc,Qc⟩:=HS.out V (ZR V)
 have HU:Hid (∀ w',Below V.heap.size V w'->UnIs w' x_ua us):=fun w' h=>(H.out.kept Aa.out).kept h
 have Je:Hid (Below V.heap.size V V):=ZR V
 have Eb:Hid (∀ w',Below V.heap.size V w'->Below V.heap.size V w'/\w'.cell? ⟨w.heap.size,1,none⟩=some (.string x_o)/\w'.cell? ⟨w.heap.size,3,none⟩=some (.string x_t)/\w'.cell? ⟨w.heap.size,8,none⟩=some (.int .i64 x_p)/\w'.cell? ⟨w.heap.size,9,none⟩=some (.int .i64 x_wk)/\w'.cell? ⟨w.heap.size,10,none⟩=some (.int .i64 x_wz)):=fun w' h=>⟨h,(HS.out w' h).2.1,(HS.out w' h).2.2.2.1,(HS.out w' h).2.2.2.2.2.2.2.2.1,(HS.out w' h).2.2.2.2.2.2.2.2.2.1,(HS.out w' h).2.2.2.2.2.2.2.2.2.2.1⟩
 go_upto_if 6 with fail
 go_cut [3] (fun v wx=>v=.int .i64 mm1/\Hid (Below V.heap.size V wx))
 case first =>
  go_wp2_with fail
  all_goals
   go_meet
   case rel=>exact⟨by rw[Uj.out];simp_all,Je⟩
 case rest =>
  obtain⟨rfl,HB⟩:=hcut
  rename World=>w5
  obtain⟨Xa,Va,Ua,Rb,Vb,Dd,Cd,Bd,Ad,Te,Rc,Qc⟩:=HS.out _ HB.out
  go_upto_if 9 with fail
  go_cut [3] (fun v wx=>v=.int .i64 m/\Hid (Below V.heap.size V wx))
  case first =>
   go_wp2_with fail
   all_goals
    go_meet
    case rel=>exact⟨by rw[HM.out];simp_all,HB⟩
  case rest =>
   obtain⟨rfl,HB⟩:=hcut
   rename World=>w6
   obtain⟨Xa,Va,Ua,Rb,Vb,Dd,Cd,Bd,Ad,Te,Rc,Qc⟩:=HS.out _ HB.out
   go_upto_region 6 with fail
   go_cut [39] (fun v wx=>v=.bool B/\Hid (Below V.heap.size V wx))
   case first =>
    clear HU Xa Va Ua Rb Vb Dd Cd Bd Ad Te Rc Qc H Aa B0 Je HS Uj HM HR Hrf
    refine Zbg (S:=fun w'=>Below V.heap.size V w'/\w'.cell? ⟨w.heap.size,1,none⟩=some (.string x_o)/\w'.cell? ⟨w.heap.size,3,none⟩=some (.string x_t)/\w'.cell? ⟨w.heap.size,8,none⟩=some (.int .i64 x_p)/\w'.cell? ⟨w.heap.size,9,none⟩=some (.int .i64 x_wk)/\w'.cell? ⟨w.heap.size,10,none⟩=some (.int .i64 x_wz)) [true,true,false,false,true,true,true,true,false,true,true,true,true,true,false,true,true,true,true,true,true,true,true,true,true,true,true,true,true,true] (by kernel_rfl) (by kernel_rfl) (fun _ _ _ _ _ h=>h) (by kernel_rfl) rfl (Eb.out _ (ZD HB.out)) ?_
    refine mk0 (.pointer (some ⟨w.heap.size,1,none⟩)) ?_
    refine mk0 (.string x_o) ?_
    refine Zbm (by rfl) (fun K hK=>?_)
    go_wp2_with ((go_at_call 229;refine(aggs_any _).mono ?_;rintro e w' ⟨a5,c5,rfl,hL,hb⟩))
    refine hK.out _ _ (Eb.out _ (ZT (by first|exact And.left (by assumption)|exact ZD HB.out) hb)) (fun hHeld=>?_)
    clear hK K
    try simp only[Act.put,m1,m2,m3]
    refine Zbm (by rfl) (fun K hK=>?_)
    go_wp2_with ((go_at_call 222;refine(HOA.out _ _ _ hL).mono ?_;rintro e w' ⟨rfl,hb⟩))
    refine hK.out _ _ (Eb.out _ (ZT (by first|exact And.left (by assumption)|exact ZD HB.out) hb)) (fun hHeld=>?_)
    clear hK K
    try simp only[Act.put,m1,m2,m3]
    cases qa
    · refine Zcd (.bool true) (by rfl) (by intro wq hSw;(try dsimp only at hSw);obtain⟨hS0,hS1,hS2,hS3,hS4,hS5⟩:=hSw;go_simp) ?_
      try simp only[Act.put,m1,m2,m3]
      refine mk0 (.bool true) ?_
      refine mo ?_
      refine mo ?_
      refine mix_offC (by rfl) ?_
      try simp only[Act.put,m1,m2,m3]
      refine mo ?_
      refine mk0 (.bool true) ?_
      refine mk0 (.bool true) ?_
      refine mo ?_
      refine mo ?_
      refine mix_offC (by rfl) ?_
      try simp only[Act.put,m1,m2,m3]
      refine mo ?_
      refine mk0 (.bool true) ?_
      refine mk0 (.bool true) ?_
      refine mo ?_
      refine mo ?_
      refine mo ?_
      refine mo ?_
      refine mk0 (.bool true) ?_
      refine mk0 (.bool true) ?_
      refine mo ?_
      refine mo ?_
      refine mo ?_
      refine mo ?_
      refine mo ?_
      refine mk0 (.bool true) ?_
      refine Zbv ?_
      go_wp2_with fail
      go_meet
      case rel=>exact⟨by rw[Lc.out];rfl,hid (And.left (by assumption))⟩
    · refine Zcd (.bool false) (by rfl) (by intro wq hSw;(try dsimp only at hSw);obtain⟨hS0,hS1,hS2,hS3,hS4,hS5⟩:=hSw;go_simp) ?_
      try simp only[Act.put,m1,m2,m3]
      refine mk0 (.bool false) ?_
      refine mk0 (.pointer (some ⟨w.heap.size,3,none⟩)) ?_
      refine mk0 (.string x_t) ?_
      refine Zbm (by rfl) (fun K hK=>?_)
      go_wp2_with ((go_at_call 140;refine(HNT.out _).mono ?_;rintro e w' ⟨rfl,hb⟩))
      refine hK.out _ _ (Eb.out _ (ZT (by first|exact And.left (by assumption)|exact ZD HB.out) hb)) (fun hHeld=>?_)
      clear hK K
      try simp only[Act.put,m1,m2,m3]
      cases qt
      · refine Zcd (.bool true) (by rfl) (by intro wq hSw;(try dsimp only at hSw);obtain⟨hS0,hS1,hS2,hS3,hS4,hS5⟩:=hSw;go_simp) ?_
        try simp only[Act.put,m1,m2,m3]
        refine mk0 (.bool true) ?_
        refine mk0 (.bool true) ?_
        refine mo ?_
        refine mo ?_
        refine mix_offC (by rfl) ?_
        try simp only[Act.put,m1,m2,m3]
        refine mo ?_
        refine mk0 (.bool true) ?_
        refine mk0 (.bool true) ?_
        refine mo ?_
        refine mo ?_
        refine mo ?_
        refine mo ?_
        refine mk0 (.bool true) ?_
        refine mk0 (.bool true) ?_
        refine mo ?_
        refine mo ?_
        refine mo ?_
        refine mo ?_
        refine mo ?_
        refine mk0 (.bool true) ?_
        refine Zbv ?_
        go_wp2_with fail
        go_meet
        case rel=>exact⟨by rw[Lc.out];rfl,hid (And.left (by assumption))⟩
      · refine Zcd (.bool false) (by rfl) (by intro wq hSw;(try dsimp only at hSw);obtain⟨hS0,hS1,hS2,hS3,hS4,hS5⟩:=hSw;go_simp) ?_
        try simp only[Act.put,m1,m2,m3]
        refine mk0 (.bool false) ?_
        refine mk0 (.bool false) ?_
        refine mk0 (.pointer (some ⟨w.heap.size,9,none⟩)) ?_
        refine mk0 (.agg #[.int .i64 x_wk,.int .i64 x_wz]) ?_
        refine Zbm (by rfl) (fun K hK=>?_)
        go_wp2_with ((go_at_call 230;refine(HWI.out _).mono ?_;rintro e w' ⟨rfl,hb⟩))
        refine hK.out _ _ (Eb.out _ (ZT (by first|exact And.left (by assumption)|exact ZD HB.out) hb)) (fun hHeld=>?_)
        clear hK K
        try simp only[Act.put,m1,m2,m3]
        cases qw
        · refine Zcd (.bool true) (by rfl) (by intro wq hSw;(try dsimp only at hSw);obtain⟨hS0,hS1,hS2,hS3,hS4,hS5⟩:=hSw;go_simp) ?_
          try simp only[Act.put,m1,m2,m3]
          refine mk0 (.bool true) ?_
          refine mk0 (.bool true) ?_
          refine mo ?_
          refine mo ?_
          refine mo ?_
          refine mo ?_
          refine mk0 (.bool true) ?_
          refine mk0 (.bool true) ?_
          refine mo ?_
          refine mo ?_
          refine mo ?_
          refine mo ?_
          refine mo ?_
          refine mk0 (.bool true) ?_
          refine Zbv ?_
          go_wp2_with fail
          go_meet
          case rel=>exact⟨by rw[Lc.out];rfl,hid (And.left (by assumption))⟩
        · refine Zcd (.bool false) (by rfl) (by intro wq hSw;(try dsimp only at hSw);obtain⟨hS0,hS1,hS2,hS3,hS4,hS5⟩:=hSw;go_simp) ?_
          try simp only[Act.put,m1,m2,m3]
          refine mk0 (.bool false) ?_
          refine mk0 (.bool false) ?_
          refine mk0 (.pointer (some ⟨w.heap.size,8,none⟩)) ?_
          refine mk0 (.int .i64 x_p) ?_
          refine mk0 (.int .i64 m) ?_
          rcases Classical.em ((m:Int)<x_p)with hd|hd
          · have Mi:decide ((m:Int)<x_p)=true:=by simpa using hd
            have HDg:=hid Mi
            refine mk0 (.bool true) ?_
            refine mk0 (.bool true) ?_
            refine mk0 (.bool true) ?_
            refine mo ?_
            refine mo ?_
            refine mo ?_
            refine mo ?_
            refine mo ?_
            refine mk0 (.bool true) ?_
            refine Zbv ?_
            go_wp2_with fail
            go_meet
            case rel=>exact⟨by rw[Lc.out,HDg.out];rfl,hid (And.left (by assumption))⟩
          · have Mi:decide ((m:Int)<x_p)=false:=by simpa using hd
            have HDg:=hid Mi
            refine mk0 (.bool false) ?_
            refine mk0 (.bool false) ?_
            refine mk0 (.bool false) ?_
            refine mk0 (.pointer (some ⟨w.heap.size,8,none⟩)) ?_
            refine mk0 (.int .i64 x_p) ?_
            refine mk0 (.int .i64 m) ?_
            refine mk0 (.int .i64 (min m 1)) ?_
            rcases Classical.em (x_p<((min m 1):Int))with hd|hd
            · have Mi:decide (x_p<((min m 1):Int))=true:=by simpa using hd
              have HDs:=hid Mi
              refine mk0 (.bool true) ?_
              refine mk0 (.bool true) ?_
              refine Zbv ?_
              go_wp2_with fail
              go_meet
              case rel=>exact⟨by rw[Lc.out,HDg.out,HDs.out];rfl,hid (And.left (by assumption))⟩
            · have Mi:decide (x_p<((min m 1):Int))=false:=by simpa using hd
              have HDs:=hid Mi
              refine mk0 (.bool false) ?_
              refine mk0 (.bool false) ?_
              refine Zbv ?_
              go_wp2_with fail
              go_meet
              case rel=>exact⟨by rw[Lc.out,HDg.out,HDs.out];rfl,hid (And.left (by assumption))⟩
   case rest =>
    obtain⟨rfl,HW⟩:=hcut
    obtain⟨Xa,Va,Ua,Rb,Vb,Dd,Cd,Bd,Ad,Te,Rc,Qc⟩:=HS.out _ HW.out
    clear Lc
    cases B
    all_goals
     go_wp2_with (first|(go_at_call 219;refine(Hrf.out _ (HU.out _ bt) (UnIs.nil _ _)).mono ?_;rintro e w' ⟨rfl,hb⟩;have HW:Hid (Below V.heap.size V w'):=ZT bt hb;clear hb;have KK:=HS.out _ HW.out;obtain⟨Xa,Va,Ua,Rb,Vb,Dd,Cd,Bd,Ad,Te,Rc,Qc⟩:=KK;cases rf)|fail)
    all_goals
     go_ret
     exact RetB.of (by have hR:=HR.out;simp_all) (ZT Aa.out bt)
theorem agg_ok:AggOk:=aggregate_det
end Go.Proofs.YtfnpfkgmacaboaaGreat
