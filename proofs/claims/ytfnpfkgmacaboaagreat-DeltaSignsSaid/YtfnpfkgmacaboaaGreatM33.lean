/- Texts joined by a program. -/
import Derived.Deep.RegionHeld3
import Derived.Test.YtfnpfkgmacaboaaGreatM12
namespace Go.Proofs.YtfnpfkgmacaboaaGreat
open Go.ChangeShapes Go.WideShapes Go.ChangeAt Go.RowKit
set_option linter.unusedVariables false
set_option linter.unusedSimpArgs false
set_option maxRecDepth 100000
set_option maxHeartbeats 4000000
theorem Zen (x_k:Int)(x_o:ByteArray)(x_m:ByteArray)(x_t:ByteArray)(x_vk:Int)(x_vn:Int)(x_vs:ByteArray)(x_ua:Option Addr)(x_un:Nat)(x_uc:Nat)(x_p:Int)(x_wk:Int)(x_wz:Int)(x_xa:Option Addr)(x_xn:Nat)(x_xc:Nat)(w:World)(h:Zao w x_ua x_un):Calls Tryz.prog 221 #[.agg #[.int .i64 x_k,.string x_o,.string x_m,.string x_t,.int .i64 x_vk,.int .i64 x_vn,.string x_vs,.slice x_ua x_un x_uc,.int .i64 x_p,.int .i64 x_wk,.int .i64 x_wz,.slice x_xa x_xn x_xc]] w (GotB w):=by
 have H:=Lib.hid h
 clear h
 go_enter Tryz.func221,Tryz.ntmps221
 go_upto_region 1 with fail
 refine Zam (fun V hV=>?_)
 have B0:Hid (Box V w.heap.size #[.int .i64 x_k,.string x_o,.string x_m,.string x_t,.int .i64 x_vk,.int .i64 x_vn,.string x_vs,.slice x_ua x_un x_uc,.int .i64 x_p,.int .i64 x_wk,.int .i64 x_wz,.slice x_xa x_xn x_xc] 42):=by rw[hV];exact ZaE _ _ _
 have HBV:Hid (Below w.heap.size w V):=by rw[hV];exact(by repeat first|exact ZR _|refine ZA ?_ _)
 clear hV
 have HS:Hid (∀ w',Below V.heap.size V w'->w'.cell? ⟨w.heap.size,0,none⟩=some (.int .i64 x_k)/\w'.cell? ⟨w.heap.size,1,none⟩=some (.string x_o)/\w'.cell? ⟨w.heap.size,2,none⟩=some (.string x_m)/\w'.cell? ⟨w.heap.size,3,none⟩=some (.string x_t)/\w'.cell? ⟨w.heap.size,4,none⟩=some (.int .i64 x_vk)/\w'.cell? ⟨w.heap.size,5,none⟩=some (.int .i64 x_vn)/\w'.cell? ⟨w.heap.size,6,none⟩=some (.string x_vs)/\w'.cell? ⟨w.heap.size,7,none⟩=some (.slice x_ua x_un x_uc)/\w'.cell? ⟨w.heap.size,8,none⟩=some (.int .i64 x_p)/\w'.cell? ⟨w.heap.size,9,none⟩=some (.int .i64 x_wk)/\w'.cell? ⟨w.heap.size,10,none⟩=some (.int .i64 x_wz)/\w'.cell? ⟨w.heap.size,11,none⟩=some (.slice x_xa x_xn x_xc)):=fun w' h=>⟨(B0.out.kept h).cell 0 _ rfl,(B0.out.kept h).cell 1 _ rfl,(B0.out.kept h).cell 2 _ rfl,(B0.out.kept h).cell 3 _ rfl,(B0.out.kept h).cell 4 _ rfl,(B0.out.kept h).cell 5 _ rfl,(B0.out.kept h).cell 6 _ rfl,(B0.out.kept h).cell 7 _ rfl,(B0.out.kept h).cell 8 _ rfl,(B0.out.kept h).cell 9 _ rfl,(B0.out.kept h).cell 10 _ rfl,(B0.out.kept h).cell 11 _ rfl⟩
 obtain⟨k0_0,k0_1,k0_2,k0_3,k0_4,k0_5,k0_6,k0_7,k0_8,k0_9,k0_10,k0_11⟩:=HS.out V (ZR V)
 have HU:Hid (∀ w',Below V.heap.size V w'->Zao w' x_ua x_un):=fun w' h=>(H.out.kept HBV.out).kept h
 have HVV:Hid (Below V.heap.size V V):=ZR V
 have HS3:Hid (∀ w',Below V.heap.size V w'->Below V.heap.size V w'/\w'.cell? ⟨w.heap.size,1,none⟩=some (.string x_o)/\w'.cell? ⟨w.heap.size,3,none⟩=some (.string x_t)/\w'.cell? ⟨w.heap.size,8,none⟩=some (.int .i64 x_p)/\w'.cell? ⟨w.heap.size,9,none⟩=some (.int .i64 x_wk)/\w'.cell? ⟨w.heap.size,10,none⟩=some (.int .i64 x_wz)):=fun w' h=>⟨h,(HS.out w' h).2.1,(HS.out w' h).2.2.2.1,(HS.out w' h).2.2.2.2.2.2.2.2.1,(HS.out w' h).2.2.2.2.2.2.2.2.2.1,(HS.out w' h).2.2.2.2.2.2.2.2.2.2.1⟩
 go_upto_if 6 with fail
 go_cut [3] (fun v wx=>(∃ m:Int,v=.int .i64 m/\0<=m/\m<=1073741824)/\Hid (Below V.heap.size V wx))
 case first =>
  go_wp2_with fail
  all_goals
   go_meet
   case rel=>exact⟨⟨_,rfl,by omega,by omega⟩,HVV⟩
 case rest =>
  obtain⟨⟨m,rfl,hm0,hm1⟩,HB⟩:=hcut
  rename World=>w5
  obtain⟨k0_0,k0_1,k0_2,k0_3,k0_4,k0_5,k0_6,k0_7,k0_8,k0_9,k0_10,k0_11⟩:=HS.out _ HB.out
  go_upto_if 9 with fail
  go_cut [3] (fun v wx=>(∃ m:Int,v=.int .i64 m/\0<=m/\m<=1073741824)/\Hid (Below V.heap.size V wx))
  case first =>
   go_wp2_with fail
   all_goals
    go_meet
    case rel=>exact⟨⟨_,rfl,by omega,by omega⟩,HB⟩
  case rest =>
   obtain⟨⟨m,rfl,hm0,hm1⟩,HB⟩:=hcut
   rename World=>w6
   obtain⟨k0_0,k0_1,k0_2,k0_3,k0_4,k0_5,k0_6,k0_7,k0_8,k0_9,k0_10,k0_11⟩:=HS.out _ HB.out
   go_upto_region 6 with fail
   go_cut [39] (fun v wx=>∃ b:Bool,v=.bool b/\Hid (Below V.heap.size V wx))
   case first =>
    have HBB:=HB
    clear HU k0_0 k0_1 k0_2 k0_3 k0_4 k0_5 k0_6 k0_7 k0_8 k0_9 k0_10 k0_11 H HBV B0 hm0 hm1 HVV HS
    refine Zbp (S:=fun w'=>Below V.heap.size V w'/\w'.cell? ⟨w.heap.size,1,none⟩=some (.string x_o)/\w'.cell? ⟨w.heap.size,3,none⟩=some (.string x_t)/\w'.cell? ⟨w.heap.size,8,none⟩=some (.int .i64 x_p)/\w'.cell? ⟨w.heap.size,9,none⟩=some (.int .i64 x_wk)/\w'.cell? ⟨w.heap.size,10,none⟩=some (.int .i64 x_wz)) [true,true,false,false,true,true,true,true,false,true,true,true,true,true,false,true,true,true,true,true,true,true,true,true,true,true,true,true,true,true] (by kernel_rfl) (by kernel_rfl) (fun _ _ _ _ _ h=>h) (by kernel_rfl) rfl (HS3.out _ (ZD HB.out)) ?_
    refine Zae (.pointer (some ⟨w.heap.size,1,none⟩)) (by rfl) (by intro wq hSw;(try dsimp only at hSw);obtain⟨hS0,hS1,hS2,hS3,hS4,hS5⟩:=hSw;go_simp) ?_
    try simp only[Act.put,m1,m2,m3]
    refine Zae (.string x_o) (by rfl) (by intro wq hSw;(try dsimp only at hSw);obtain⟨hS0,hS1,hS2,hS3,hS4,hS5⟩:=hSw;go_simp) ?_
    try simp only[Act.put,m1,m2,m3]
    refine Zbx (by rfl) (fun K hK=>?_)
    go_wp2_with ((go_at_call 229;refine(aggs_any _).mono ?_;rintro e w' ⟨a5,c5,rfl,hL,hb⟩))
    refine hK.out _ _ (HS3.out _ (ZT (by first|exact And.left (by assumption)|exact ZD HB.out) hb)) (fun hHeld=>?_)
    clear hK K
    try simp only[Act.put,m1,m2,m3]
    refine Zbx (by rfl) (fun K hK=>?_)
    go_wp2_with ((go_at_call 222;refine(one_is _ aggL _ _ _ (by decide) hL).mono ?_;rintro e w' ⟨rfl,hb⟩))
    generalize isOne x_o aggL=qb
    refine hK.out _ _ (HS3.out _ (ZT (by first|exact And.left (by assumption)|exact ZD HB.out) hb)) (fun hHeld=>?_)
    clear hK K
    try simp only[Act.put,m1,m2,m3]
    cases qb
    · refine Zae (.bool true) (by rfl) (by intro wq hSw;(try dsimp only at hSw);obtain⟨hS0,hS1,hS2,hS3,hS4,hS5⟩:=hSw;go_simp) ?_
      try simp only[Act.put,m1,m2,m3]
      refine Zae (.bool true) (by rfl) (by intro wq hSw;(try dsimp only at hSw);obtain⟨hS0,hS1,hS2,hS3,hS4,hS5⟩:=hSw;go_simp) ?_
      try simp only[Act.put,m1,m2,m3]
      refine ZaC (by rfl) ?_
      try simp only[Act.put,m1,m2,m3]
      refine ZaC (by rfl) ?_
      try simp only[Act.put,m1,m2,m3]
      refine mix_offC (by rfl) ?_
      try simp only[Act.put,m1,m2,m3]
      refine ZaC (by rfl) ?_
      try simp only[Act.put,m1,m2,m3]
      refine Zae (.bool true) (by rfl) (by intro wq hSw;(try dsimp only at hSw);obtain⟨hS0,hS1,hS2,hS3,hS4,hS5⟩:=hSw;go_simp) ?_
      try simp only[Act.put,m1,m2,m3]
      refine Zae (.bool true) (by rfl) (by intro wq hSw;(try dsimp only at hSw);obtain⟨hS0,hS1,hS2,hS3,hS4,hS5⟩:=hSw;go_simp) ?_
      try simp only[Act.put,m1,m2,m3]
      refine ZaC (by rfl) ?_
      try simp only[Act.put,m1,m2,m3]
      refine ZaC (by rfl) ?_
      try simp only[Act.put,m1,m2,m3]
      refine mix_offC (by rfl) ?_
      try simp only[Act.put,m1,m2,m3]
      refine ZaC (by rfl) ?_
      try simp only[Act.put,m1,m2,m3]
      refine Zae (.bool true) (by rfl) (by intro wq hSw;(try dsimp only at hSw);obtain⟨hS0,hS1,hS2,hS3,hS4,hS5⟩:=hSw;go_simp) ?_
      try simp only[Act.put,m1,m2,m3]
      refine Zae (.bool true) (by rfl) (by intro wq hSw;(try dsimp only at hSw);obtain⟨hS0,hS1,hS2,hS3,hS4,hS5⟩:=hSw;go_simp) ?_
      try simp only[Act.put,m1,m2,m3]
      refine ZaC (by rfl) ?_
      try simp only[Act.put,m1,m2,m3]
      refine ZaC (by rfl) ?_
      try simp only[Act.put,m1,m2,m3]
      refine ZaC (by rfl) ?_
      try simp only[Act.put,m1,m2,m3]
      refine ZaC (by rfl) ?_
      try simp only[Act.put,m1,m2,m3]
      refine Zae (.bool true) (by rfl) (by intro wq hSw;(try dsimp only at hSw);obtain⟨hS0,hS1,hS2,hS3,hS4,hS5⟩:=hSw;go_simp) ?_
      try simp only[Act.put,m1,m2,m3]
      refine Zae (.bool true) (by rfl) (by intro wq hSw;(try dsimp only at hSw);obtain⟨hS0,hS1,hS2,hS3,hS4,hS5⟩:=hSw;go_simp) ?_
      try simp only[Act.put,m1,m2,m3]
      refine ZaC (by rfl) ?_
      try simp only[Act.put,m1,m2,m3]
      refine ZaC (by rfl) ?_
      try simp only[Act.put,m1,m2,m3]
      refine ZaC (by rfl) ?_
      try simp only[Act.put,m1,m2,m3]
      refine ZaC (by rfl) ?_
      try simp only[Act.put,m1,m2,m3]
      refine ZaC (by rfl) ?_
      try simp only[Act.put,m1,m2,m3]
      refine Zae (.bool true) (by rfl) (by intro wq hSw;(try dsimp only at hSw);obtain⟨hS0,hS1,hS2,hS3,hS4,hS5⟩:=hSw;go_simp) ?_
      try simp only[Act.put,m1,m2,m3]
      refine ZbG ?_
      go_wp2_with fail
      go_meet
      case rel=>exact⟨_,rfl,Lib.hid (And.left (by assumption))⟩
    · refine Zae (.bool false) (by rfl) (by intro wq hSw;(try dsimp only at hSw);obtain⟨hS0,hS1,hS2,hS3,hS4,hS5⟩:=hSw;go_simp) ?_
      try simp only[Act.put,m1,m2,m3]
      refine Zae (.bool false) (by rfl) (by intro wq hSw;(try dsimp only at hSw);obtain⟨hS0,hS1,hS2,hS3,hS4,hS5⟩:=hSw;go_simp) ?_
      try simp only[Act.put,m1,m2,m3]
      refine Zae (.pointer (some ⟨w.heap.size,3,none⟩)) (by rfl) (by intro wq hSw;(try dsimp only at hSw);obtain⟨hS0,hS1,hS2,hS3,hS4,hS5⟩:=hSw;go_simp) ?_
      try simp only[Act.put,m1,m2,m3]
      refine Zae (.string x_t) (by rfl) (by intro wq hSw;(try dsimp only at hSw);obtain⟨hS0,hS1,hS2,hS3,hS4,hS5⟩:=hSw;go_simp) ?_
      try simp only[Act.put,m1,m2,m3]
      refine Zbx (by rfl) (fun K hK=>?_)
      go_wp2_with ((go_at_call 140;refine(name_is _ _).mono ?_;rintro e w' ⟨rfl,hb⟩))
      generalize nameB x_t=qb
      refine hK.out _ _ (HS3.out _ (ZT (by first|exact And.left (by assumption)|exact ZD HB.out) hb)) (fun hHeld=>?_)
      clear hK K
      try simp only[Act.put,m1,m2,m3]
      cases qb
      · refine Zae (.bool true) (by rfl) (by intro wq hSw;(try dsimp only at hSw);obtain⟨hS0,hS1,hS2,hS3,hS4,hS5⟩:=hSw;go_simp) ?_
        try simp only[Act.put,m1,m2,m3]
        refine Zae (.bool true) (by rfl) (by intro wq hSw;(try dsimp only at hSw);obtain⟨hS0,hS1,hS2,hS3,hS4,hS5⟩:=hSw;go_simp) ?_
        try simp only[Act.put,m1,m2,m3]
        refine Zae (.bool true) (by rfl) (by intro wq hSw;(try dsimp only at hSw);obtain⟨hS0,hS1,hS2,hS3,hS4,hS5⟩:=hSw;go_simp) ?_
        try simp only[Act.put,m1,m2,m3]
        refine ZaC (by rfl) ?_
        try simp only[Act.put,m1,m2,m3]
        refine ZaC (by rfl) ?_
        try simp only[Act.put,m1,m2,m3]
        refine mix_offC (by rfl) ?_
        try simp only[Act.put,m1,m2,m3]
        refine ZaC (by rfl) ?_
        try simp only[Act.put,m1,m2,m3]
        refine Zae (.bool true) (by rfl) (by intro wq hSw;(try dsimp only at hSw);obtain⟨hS0,hS1,hS2,hS3,hS4,hS5⟩:=hSw;go_simp) ?_
        try simp only[Act.put,m1,m2,m3]
        refine Zae (.bool true) (by rfl) (by intro wq hSw;(try dsimp only at hSw);obtain⟨hS0,hS1,hS2,hS3,hS4,hS5⟩:=hSw;go_simp) ?_
        try simp only[Act.put,m1,m2,m3]
        refine ZaC (by rfl) ?_
        try simp only[Act.put,m1,m2,m3]
        refine ZaC (by rfl) ?_
        try simp only[Act.put,m1,m2,m3]
        refine ZaC (by rfl) ?_
        try simp only[Act.put,m1,m2,m3]
        refine ZaC (by rfl) ?_
        try simp only[Act.put,m1,m2,m3]
        refine Zae (.bool true) (by rfl) (by intro wq hSw;(try dsimp only at hSw);obtain⟨hS0,hS1,hS2,hS3,hS4,hS5⟩:=hSw;go_simp) ?_
        try simp only[Act.put,m1,m2,m3]
        refine Zae (.bool true) (by rfl) (by intro wq hSw;(try dsimp only at hSw);obtain⟨hS0,hS1,hS2,hS3,hS4,hS5⟩:=hSw;go_simp) ?_
        try simp only[Act.put,m1,m2,m3]
        refine ZaC (by rfl) ?_
        try simp only[Act.put,m1,m2,m3]
        refine ZaC (by rfl) ?_
        try simp only[Act.put,m1,m2,m3]
        refine ZaC (by rfl) ?_
        try simp only[Act.put,m1,m2,m3]
        refine ZaC (by rfl) ?_
        try simp only[Act.put,m1,m2,m3]
        refine ZaC (by rfl) ?_
        try simp only[Act.put,m1,m2,m3]
        refine Zae (.bool true) (by rfl) (by intro wq hSw;(try dsimp only at hSw);obtain⟨hS0,hS1,hS2,hS3,hS4,hS5⟩:=hSw;go_simp) ?_
        try simp only[Act.put,m1,m2,m3]
        refine ZbG ?_
        go_wp2_with fail
        go_meet
        case rel=>exact⟨_,rfl,Lib.hid (And.left (by assumption))⟩
      · refine Zae (.bool false) (by rfl) (by intro wq hSw;(try dsimp only at hSw);obtain⟨hS0,hS1,hS2,hS3,hS4,hS5⟩:=hSw;go_simp) ?_
        try simp only[Act.put,m1,m2,m3]
        refine Zae (.bool false) (by rfl) (by intro wq hSw;(try dsimp only at hSw);obtain⟨hS0,hS1,hS2,hS3,hS4,hS5⟩:=hSw;go_simp) ?_
        try simp only[Act.put,m1,m2,m3]
        refine Zae (.bool false) (by rfl) (by intro wq hSw;(try dsimp only at hSw);obtain⟨hS0,hS1,hS2,hS3,hS4,hS5⟩:=hSw;go_simp) ?_
        try simp only[Act.put,m1,m2,m3]
        refine Zae (.pointer (some ⟨w.heap.size,9,none⟩)) (by rfl) (by intro wq hSw;(try dsimp only at hSw);obtain⟨hS0,hS1,hS2,hS3,hS4,hS5⟩:=hSw;go_simp) ?_
        try simp only[Act.put,m1,m2,m3]
        refine Zae (.agg #[.int .i64 x_wk,.int .i64 x_wz]) (by rfl) (by intro wq hSw;(try dsimp only at hSw);obtain⟨hS0,hS1,hS2,hS3,hS4,hS5⟩:=hSw;go_simp) ?_
        try simp only[Act.put,m1,m2,m3]
        refine Zbx (by rfl) (fun K hK=>?_)
        go_wp2_with ((go_at_call 230;refine(window_is _ _ _).mono ?_;rintro e w' ⟨rfl,hb⟩))
        generalize winB x_wk x_wz=qb
        refine hK.out _ _ (HS3.out _ (ZT (by first|exact And.left (by assumption)|exact ZD HB.out) hb)) (fun hHeld=>?_)
        clear hK K
        try simp only[Act.put,m1,m2,m3]
        cases qb
        · refine Zae (.bool true) (by rfl) (by intro wq hSw;(try dsimp only at hSw);obtain⟨hS0,hS1,hS2,hS3,hS4,hS5⟩:=hSw;go_simp) ?_
          try simp only[Act.put,m1,m2,m3]
          refine Zae (.bool true) (by rfl) (by intro wq hSw;(try dsimp only at hSw);obtain⟨hS0,hS1,hS2,hS3,hS4,hS5⟩:=hSw;go_simp) ?_
          try simp only[Act.put,m1,m2,m3]
          refine Zae (.bool true) (by rfl) (by intro wq hSw;(try dsimp only at hSw);obtain⟨hS0,hS1,hS2,hS3,hS4,hS5⟩:=hSw;go_simp) ?_
          try simp only[Act.put,m1,m2,m3]
          refine ZaC (by rfl) ?_
          try simp only[Act.put,m1,m2,m3]
          refine ZaC (by rfl) ?_
          try simp only[Act.put,m1,m2,m3]
          refine ZaC (by rfl) ?_
          try simp only[Act.put,m1,m2,m3]
          refine ZaC (by rfl) ?_
          try simp only[Act.put,m1,m2,m3]
          refine Zae (.bool true) (by rfl) (by intro wq hSw;(try dsimp only at hSw);obtain⟨hS0,hS1,hS2,hS3,hS4,hS5⟩:=hSw;go_simp) ?_
          try simp only[Act.put,m1,m2,m3]
          refine Zae (.bool true) (by rfl) (by intro wq hSw;(try dsimp only at hSw);obtain⟨hS0,hS1,hS2,hS3,hS4,hS5⟩:=hSw;go_simp) ?_
          try simp only[Act.put,m1,m2,m3]
          refine ZaC (by rfl) ?_
          try simp only[Act.put,m1,m2,m3]
          refine ZaC (by rfl) ?_
          try simp only[Act.put,m1,m2,m3]
          refine ZaC (by rfl) ?_
          try simp only[Act.put,m1,m2,m3]
          refine ZaC (by rfl) ?_
          try simp only[Act.put,m1,m2,m3]
          refine ZaC (by rfl) ?_
          try simp only[Act.put,m1,m2,m3]
          refine Zae (.bool true) (by rfl) (by intro wq hSw;(try dsimp only at hSw);obtain⟨hS0,hS1,hS2,hS3,hS4,hS5⟩:=hSw;go_simp) ?_
          try simp only[Act.put,m1,m2,m3]
          refine ZbG ?_
          go_wp2_with fail
          go_meet
          case rel=>exact⟨_,rfl,Lib.hid (And.left (by assumption))⟩
        · refine Zae (.bool false) (by rfl) (by intro wq hSw;(try dsimp only at hSw);obtain⟨hS0,hS1,hS2,hS3,hS4,hS5⟩:=hSw;go_simp) ?_
          try simp only[Act.put,m1,m2,m3]
          refine Zae (.bool false) (by rfl) (by intro wq hSw;(try dsimp only at hSw);obtain⟨hS0,hS1,hS2,hS3,hS4,hS5⟩:=hSw;go_simp) ?_
          try simp only[Act.put,m1,m2,m3]
          refine Zae (.bool false) (by rfl) (by intro wq hSw;(try dsimp only at hSw);obtain⟨hS0,hS1,hS2,hS3,hS4,hS5⟩:=hSw;go_simp) ?_
          try simp only[Act.put,m1,m2,m3]
          refine Zae (.pointer (some ⟨w.heap.size,8,none⟩)) (by rfl) (by intro wq hSw;(try dsimp only at hSw);obtain⟨hS0,hS1,hS2,hS3,hS4,hS5⟩:=hSw;go_simp) ?_
          try simp only[Act.put,m1,m2,m3]
          refine Zae (.int .i64 x_p) (by rfl) (by intro wq hSw;(try dsimp only at hSw);obtain⟨hS0,hS1,hS2,hS3,hS4,hS5⟩:=hSw;go_simp) ?_
          try simp only[Act.put,m1,m2,m3]
          refine Zae (.int .i64 m) (by rfl) (by intro wq hSw;(try dsimp only at hSw);obtain⟨hS0,hS1,hS2,hS3,hS4,hS5⟩:=hSw;go_simp) ?_
          try simp only[Act.put,m1,m2,m3]
          rcases Classical.em ((m:Int)<x_p)with hd|hd
          · have hd2:decide ((m:Int)<x_p)=true:=by simpa using hd
            refine Zae (.bool true) (by rfl) (by intro wq hSw;(try dsimp only at hSw);obtain⟨hS0,hS1,hS2,hS3,hS4,hS5⟩:=hSw;go_simp) ?_
            try simp only[Act.put,m1,m2,m3]
            refine Zae (.bool true) (by rfl) (by intro wq hSw;(try dsimp only at hSw);obtain⟨hS0,hS1,hS2,hS3,hS4,hS5⟩:=hSw;go_simp) ?_
            try simp only[Act.put,m1,m2,m3]
            refine Zae (.bool true) (by rfl) (by intro wq hSw;(try dsimp only at hSw);obtain⟨hS0,hS1,hS2,hS3,hS4,hS5⟩:=hSw;go_simp) ?_
            try simp only[Act.put,m1,m2,m3]
            refine ZaC (by rfl) ?_
            try simp only[Act.put,m1,m2,m3]
            refine ZaC (by rfl) ?_
            try simp only[Act.put,m1,m2,m3]
            refine ZaC (by rfl) ?_
            try simp only[Act.put,m1,m2,m3]
            refine ZaC (by rfl) ?_
            try simp only[Act.put,m1,m2,m3]
            refine ZaC (by rfl) ?_
            try simp only[Act.put,m1,m2,m3]
            refine Zae (.bool true) (by rfl) (by intro wq hSw;(try dsimp only at hSw);obtain⟨hS0,hS1,hS2,hS3,hS4,hS5⟩:=hSw;go_simp) ?_
            try simp only[Act.put,m1,m2,m3]
            refine ZbG ?_
            go_wp2_with fail
            go_meet
            case rel=>exact⟨_,rfl,Lib.hid (And.left (by assumption))⟩
          · have hd2:decide ((m:Int)<x_p)=false:=by simpa using hd
            refine Zae (.bool false) (by rfl) (by intro wq hSw;(try dsimp only at hSw);obtain⟨hS0,hS1,hS2,hS3,hS4,hS5⟩:=hSw;go_simp) ?_
            try simp only[Act.put,m1,m2,m3]
            refine Zae (.bool false) (by rfl) (by intro wq hSw;(try dsimp only at hSw);obtain⟨hS0,hS1,hS2,hS3,hS4,hS5⟩:=hSw;go_simp) ?_
            try simp only[Act.put,m1,m2,m3]
            refine Zae (.bool false) (by rfl) (by intro wq hSw;(try dsimp only at hSw);obtain⟨hS0,hS1,hS2,hS3,hS4,hS5⟩:=hSw;go_simp) ?_
            try simp only[Act.put,m1,m2,m3]
            refine Zae (.pointer (some ⟨w.heap.size,8,none⟩)) (by rfl) (by intro wq hSw;(try dsimp only at hSw);obtain⟨hS0,hS1,hS2,hS3,hS4,hS5⟩:=hSw;go_simp) ?_
            try simp only[Act.put,m1,m2,m3]
            refine Zae (.int .i64 x_p) (by rfl) (by intro wq hSw;(try dsimp only at hSw);obtain⟨hS0,hS1,hS2,hS3,hS4,hS5⟩:=hSw;go_simp) ?_
            try simp only[Act.put,m1,m2,m3]
            refine Zae (.int .i64 m) (by rfl) (by intro wq hSw;(try dsimp only at hSw);obtain⟨hS0,hS1,hS2,hS3,hS4,hS5⟩:=hSw;go_simp) ?_
            try simp only[Act.put,m1,m2,m3]
            refine Zae (.int .i64 (min m 1)) (by rfl) (by intro wq hSw;(try dsimp only at hSw);obtain⟨hS0,hS1,hS2,hS3,hS4,hS5⟩:=hSw;go_simp) ?_
            try simp only[Act.put,m1,m2,m3]
            rcases Classical.em (x_p<((min m 1):Int))with hd|hd
            · have hd2:decide (x_p<((min m 1):Int))=true:=by simpa using hd
              refine Zae (.bool true) (by rfl) (by intro wq hSw;(try dsimp only at hSw);obtain⟨hS0,hS1,hS2,hS3,hS4,hS5⟩:=hSw;go_simp) ?_
              try simp only[Act.put,m1,m2,m3]
              refine Zae (.bool true) (by rfl) (by intro wq hSw;(try dsimp only at hSw);obtain⟨hS0,hS1,hS2,hS3,hS4,hS5⟩:=hSw;go_simp) ?_
              try simp only[Act.put,m1,m2,m3]
              refine ZbG ?_
              go_wp2_with fail
              go_meet
              case rel=>exact⟨_,rfl,Lib.hid (And.left (by assumption))⟩
            · have hd2:decide (x_p<((min m 1):Int))=false:=by simpa using hd
              refine Zae (.bool false) (by rfl) (by intro wq hSw;(try dsimp only at hSw);obtain⟨hS0,hS1,hS2,hS3,hS4,hS5⟩:=hSw;go_simp) ?_
              try simp only[Act.put,m1,m2,m3]
              refine Zae (.bool false) (by rfl) (by intro wq hSw;(try dsimp only at hSw);obtain⟨hS0,hS1,hS2,hS3,hS4,hS5⟩:=hSw;go_simp) ?_
              try simp only[Act.put,m1,m2,m3]
              refine ZbG ?_
              go_wp2_with fail
              go_meet
              case rel=>exact⟨_,rfl,Lib.hid (And.left (by assumption))⟩
   case rest =>
    obtain⟨b,rfl,HW⟩:=hcut
    obtain⟨k0_0,k0_1,k0_2,k0_3,k0_4,k0_5,k0_6,k0_7,k0_8,k0_9,k0_10,k0_11⟩:=HS.out _ HW.out
    cases b
    all_goals
     go_wp2_with (first|(go_at_call 219;refine(ZcL _ _ _ _ _ _ _ _ _ _ _ _ _ _ _ _ _ _ _ _ _ _ _ _ _ _ _ _ _ _ _ _ _ (HU.out _ (by repeat first|exact ZR _|exact ZH (by assumption)|refine ZA ?_ _|refine ZD ?_|refine ZN ?_ _)) (by first|exact Zao.nil _ _|exact HU.out _ (by repeat first|exact ZR _|exact ZH (by assumption)|refine ZA ?_ _|refine ZD ?_|refine ZN ?_ _))).mono ?_;rintro e w' ⟨b,rfl,hb⟩;have HW:Hid (Below V.heap.size V w'):=ZT (by repeat first|exact ZR _|exact ZH (by assumption)|refine ZA ?_ _|refine ZD ?_|refine ZN ?_ _) hb;clear hb;have KK:=HS.out _ HW.out;obtain⟨k0_0,k0_1,k0_2,k0_3,k0_4,k0_5,k0_6,k0_7,k0_8,k0_9,k0_10,k0_11⟩:=KK;cases b)|fail)
    all_goals
     go_ret
     exact⟨_,rfl,ZT HBV.out (by repeat first|exact ZR _|exact ZH (by assumption)|refine ZA ?_ _|refine ZD ?_|refine ZN ?_ _)⟩
end Go.Proofs.YtfnpfkgmacaboaaGreat
