import Derived.Test.YtiahadohgfahcaaDoorA
import Derived.Test.YtiahadohgfahcaaDoorShelf
import Derived.Test.YtiahadohgfahcaaDoorKnuth
import Derived.Lib.BitFns
import Derived.Lib.ItoaNum
import Derived.Lib.Small
import Derived.Lib.Walk
import Derived.Deep.DeepCutAuto
import Derived.Deep.CutBlock
namespace Go.Proofs.YtiahadohgfahcaaDoor
open Go.ChangeShapes Go.WideShapes Go.ChangeAt Go.RowKit
set_option linter.unusedVariables false

/-- LeadingZeros64 of a positive number: how far it can be moved up. -/
theorem lz64_any (y : Int) (w : World) (h0 : 1 ≤ y) (h1 : y ≤ 18446744073709551615) (n : Nat) (hn : n = 64 - Lib.bitLen y.toNat) :
    Calls Tryd.prog 34 #[.int .u64 y] w fun e w' => e = .returned (.int .i64 n) ∧ w = w' := by
  have b := Lib.bitLen_le y.toNat 64 (by omega) (by omega)
  refine (Tryd.bits_LeadingZeros64 y w (by omega) h1).mono ?_
  rintro e w' ⟨rfl, rfl⟩
  refine ⟨?_, rfl⟩
  rw [show (64 - (Lib.bitLen y.toNat : Int)) = n by omega]

/-- The two bounds of the number moved up. -/
theorem lz_bounds (y : Int) (h0 : 1 ≤ y) (h1 : y ≤ 18446744073709551615) : ∃ n : Nat, n = 64 - Lib.bitLen y.toNat ∧ n ≤ 63 ∧ 9223372036854775808 ≤ y * 2 ^ n ∧ y * 2 ^ n < 18446744073709551616 := by
  obtain ⟨k, hk⟩ := Int.eq_ofNat_of_zero_le (show 0 ≤ y by omega)
  subst hk
  rw [Int.toNat_natCast]
  obtain ⟨b1, b2, b3⟩ := Lib.bitLenAux_bounds 64 k (by omega) (by omega)
  have b4 := Lib.bitLen_le k 64 (by omega) (by omega)
  have e : Lib.bitLenAux 64 k = Lib.bitLen k := rfl
  rw [e] at b1 b2 b3
  generalize Lib.bitLen k = m at *
  refine ⟨64 - m, rfl, by omega, ?_, ?_⟩
  · have h : 2 ^ (m - 1) * 2 ^ (64 - m) ≤ k * 2 ^ (64 - m) := Nat.mul_le_mul_right _ b2
    rw [← Nat.pow_add, show m - 1 + (64 - m) = 63 by omega] at h
    have : ((k * 2 ^ (64 - m) : Nat) : Int) = (k : Int) * 2 ^ (64 - m) := by simp
    omega
  · have h : k * 2 ^ (64 - m) < 2 ^ m * 2 ^ (64 - m) := Nat.mul_lt_mul_of_pos_right b3 (Nat.two_pow_pos _)
    rw [← Nat.pow_add, show m + (64 - m) = 64 by omega] at h
    have : ((k * 2 ^ (64 - m) : Nat) : Int) = (k : Int) * 2 ^ (64 - m) := by simp
    omega

theorem kwrap (u v q Y r : Int) (h : u * 4294967296 + v - q * Y = r) (r0 : 0 ≤ r) (r1 : r < 18446744073709551616) :
    IntKind.u64.wrap (IntKind.u64.wrap (IntKind.u64.wrap (u * 4294967296) + v) - IntKind.u64.wrap (q * Y)) = r := by
  simp only [u64w]; exact kwrap0 u v q Y r h r0 r1
set_option maxHeartbeats 4000000 in
set_option maxRecDepth 100000 in
/-- What the walk's own terms come to: names for the numbers of the long division. -/
theorem div64_great (hi lo y : Int) (n : Nat) (Y H u32 u10 u1 u0 yn1 yn0 : Int) (hn : n ≤ 63) (a1 : 1 ≤ hi) (a2 : hi < y) (a3 : y ≤ 18446744073709551615) (l1 : 0 ≤ lo) (l2 : lo ≤ 18446744073709551615)
   (lz : ∀ w, Calls Tryd.prog 34 #[.int .u64 y] w fun e w' => e = .returned (.int .i64 n) ∧ w = w')
   (hY : y * 2 ^ n = Y) (hY1 : 9223372036854775808 ≤ Y) (hY2 : Y ≤ 18446744073709551615)
   (hH : hi * 2 ^ n = H) (hH1 : 0 ≤ H) (hH2 : H < Y)
   (hu : bits .or .u64 H (lo / 2 ^ (64 - n)) = u32) (hu1 : 0 ≤ u32) (hu2 : u32 < Y)
   (hx : IntKind.u64.wrap (lo * 2 ^ n) = u10) (hx1 : 0 ≤ u10) (hx2 : u10 ≤ 18446744073709551615)
   (g1 : u10 / 4294967296 = u1) (g1a : 0 ≤ u1) (g1b : u1 ≤ 4294967295)
   (g0 : bits .and .u64 u10 4294967295 = u0) (g0a : 0 ≤ u0) (g0b : u0 ≤ 4294967295)
   (y1 : Y / 4294967296 = yn1) (y1a : 2147483648 ≤ yn1) (y1b : yn1 ≤ 4294967295)
   (y0 : bits .and .u64 Y 4294967295 = yn0) (y0a : 0 ≤ yn0) (y0b : yn0 ≤ 4294967295) (yy : Hid (Y = yn1 * 4294967296 + yn0))
   (A B : Int) (hres0 : A = ((u32 * 4294967296 + u1) / Y) * 4294967296 + ((u32 * 4294967296 + u1) % Y * 4294967296 + u0) / Y ∧ B = ((u32 * 4294967296 + u1) % Y * 4294967296 + u0) % Y / 2 ^ n)
   (w : World) :
    Calls Tryd.prog 32 #[.int .u64 hi, .int .u64 lo, .int .u64 y] w fun e w' => e = .returned (.tuple #[.int .u64 A, .int .u64 B]) ∧ w = w' := by
  have HR := Lib.hid hres0
  clear hres0
  have e1 : (y == 0) = false := by simp; omega
  have e2 : ¬ y ≤ hi := by omega
  have e3 : (hi == 0) = false := by simp; omega
  have e4 : (yn1 == 0) = false := by simp; omega
  have e5 : ¬ yn1 = 0 := by omega
  have hp : 0 < Y := by omega
  have lz' := Lib.hid lz
  clear lz
  have k0 := kstart u32 u1 Y yn1 yn0 yy.out y1a y1b y0a y0b hu1 hu2 g1a g1b
  have V1 := klimit u32 u1 Y hu2 hp g1b
  have V0 : 0 ≤ (u32 * 4294967296 + u1) / Y := Int.ediv_nonneg (by omega) (by omega)
  have q0 : 0 ≤ u32 / yn1 := k0.qp
  have qm : 0 ≤ u32 / yn1 * yn1 := Int.mul_nonneg k0.qp (by omega)
  have qn : u32 / yn1 * yn1 ≤ u32 := by have := k0.e; have := k0.r0; omega
  go_enter Tryd.func32, Tryd.ntmps32
  go_upto_block 0 with (go_at_call 34; refine (lz'.out _).mono ?_; rintro e w' ⟨rfl, rfl⟩)
  clear hY hH hu hx g1 g0 y1 y0
  go_cut [15, 16] (fun q _ wx => q = .int .u64 ((u32 * 4294967296 + u1) / Y) ∧ wx = w)
  case first =>
    go_wp2_with fail
    go_loop [15, 16] (fun q r => ∃ Q R : Int, q = .int .u64 Q ∧ r = .int .u64 R ∧ KInv u32 u1 Y yn1 Q R) (fun q _ => (intOf q).toNat)
    case atStart => exact ⟨_, _, rfl, rfl, k0⟩
    case round =>
      obtain ⟨Q, R, rfl, rfl, k⟩ := hrel
      have kb := kbounds yn0 k y0a y0b
      obtain ⟨kb1, kb2⟩ := kb
      have kr0 := k.r0; have kr1 := k.r1; have kq0 := k.q0; have kq1 := k.q1; have kqp := k.qp
      have kt := Lib.hid (ktest yn0 k yy.out hp)
      have K := Lib.hid k
      clear k k0
      by_cases hT : (u32 * 4294967296 + u1) / Y < Q
      · have hT2 : 4294967296 * R + u1 < Q * yn0 := kt.out.2 hT
        by_cases hbig : 4294967296 ≤ Q
        · by_cases hR : 4294967296 ≤ R + yn1
          · have he := Lib.hid (kexit yn0 K.out yy.out hp hT hR g1a y0a y0b)
            go_wp2_with fail
            go_meet
            exact ⟨by rw [he.out], rfl⟩
          · have ks := Lib.hid (kstep K.out hT V0 (by omega) (by omega))
            go_wp2_with fail
            go_round
            case rel => exact ⟨_, _, rfl, rfl, ks.out⟩
            case measure => simp [intOf]; omega
        · by_cases hR : 4294967296 ≤ R + yn1
          · have he := Lib.hid (kexit yn0 K.out yy.out hp hT hR g1a y0a y0b)
            go_wp2_with fail
            go_meet
            exact ⟨by rw [he.out], rfl⟩
          · have ks := Lib.hid (kstep K.out hT V0 (by omega) (by omega))
            go_wp2_with fail
            go_round
            case rel => exact ⟨_, _, rfl, rfl, ks.out⟩
            case measure => simp [intOf]; omega
      · have hT2 : ¬ 4294967296 * R + u1 < Q * yn0 := fun h => hT (kt.out.1 h)
        have hbig : ¬ 4294967296 ≤ Q := by omega
        have he := Lib.hid (kend K.out hT)
        clear hT
        go_wp2_with fail
        go_meet
        exact ⟨by rw [← he.out], rfl⟩
  case rest =>
    obtain ⟨rfl, rfl⟩ := hcut
    clear k0 q0 qm qn
    obtain ⟨v, hv⟩ : ∃ v, v = u32 * 4294967296 + u1 := ⟨_, rfl⟩
    have r0 := Int.emod_nonneg v (show Y ≠ 0 by omega)
    have r1 := Int.emod_lt_of_pos v hp
    have e21 := kwrap u32 u1 (v / Y) Y (v % Y) (by rw [← hv]; exact krest v Y) r0 (by omega)
    have HV := Lib.hid hv
    rw [← hv] at V0 V1 ⊢
    clear hv
    obtain ⟨d1, hd1⟩ : ∃ d1, d1 = v / Y := ⟨_, rfl⟩
    obtain ⟨u21, hu21⟩ : ∃ u21, u21 = v % Y := ⟨_, rfl⟩
    rw [← hd1] at e21 V0 V1 ⊢
    rw [← hu21] at e21 r0 r1
    have HD := Lib.hid hd1
    have HU := Lib.hid hu21
    clear hd1 hu21
    have k0 := kstart u21 u0 Y yn1 yn0 yy.out y1a y1b y0a y0b r0 r1 g0a g0b
    have W1 := klimit u21 u0 Y r1 hp g0b
    have W0 : 0 ≤ (u21 * 4294967296 + u0) / Y := Int.ediv_nonneg (by omega) (by omega)
    have q0 : 0 ≤ u21 / yn1 := k0.qp
    have qm : 0 ≤ u21 / yn1 * yn1 := Int.mul_nonneg k0.qp (by omega)
    have qn : u21 / yn1 * yn1 ≤ u21 := by have := k0.e; have := k0.r0; omega
    go_upto_block 2 with (fail)
    go_cut [16, 18] (fun _ q wx => q = .int .u64 ((u21 * 4294967296 + u0) / Y) ∧ wx = wc)
    case first =>
      go_wp2_with fail
      go_loop [16, 18] (fun r q => ∃ Q R : Int, q = .int .u64 Q ∧ r = .int .u64 R ∧ KInv u21 u0 Y yn1 Q R) (fun _ q => (intOf q).toNat)
      case atStart => exact ⟨_, _, rfl, rfl, k0⟩
      case round =>
        obtain ⟨Q, R, rfl, rfl, k⟩ := hrel
        have kb := kbounds yn0 k y0a y0b
        obtain ⟨kb1, kb2⟩ := kb
        have kr0 := k.r0; have kr1 := k.r1; have kq0 := k.q0; have kq1 := k.q1; have kqp := k.qp
        have kt := Lib.hid (ktest yn0 k yy.out hp)
        have K := Lib.hid k
        clear k k0 e21
        by_cases hT : (u21 * 4294967296 + u0) / Y < Q
        · have hT2 : 4294967296 * R + u0 < Q * yn0 := kt.out.2 hT
          by_cases hbig : 4294967296 ≤ Q
          · by_cases hR : 4294967296 ≤ R + yn1
            · have he := Lib.hid (kexit yn0 K.out yy.out hp hT hR g0a y0a y0b)
              go_wp2_with fail
              go_meet
              exact ⟨by rw [he.out], rfl⟩
            · have ks := Lib.hid (kstep K.out hT W0 (by omega) (by omega))
              go_wp2_with fail
              go_round
              case rel => exact ⟨_, _, rfl, rfl, ks.out⟩
              case measure => simp [intOf]; omega
          · by_cases hR : 4294967296 ≤ R + yn1
            · have he := Lib.hid (kexit yn0 K.out yy.out hp hT hR g0a y0a y0b)
              go_wp2_with fail
              go_meet
              exact ⟨by rw [he.out], rfl⟩
            · have ks := Lib.hid (kstep K.out hT W0 (by omega) (by omega))
              go_wp2_with fail
              go_round
              case rel => exact ⟨_, _, rfl, rfl, ks.out⟩
              case measure => simp [intOf]; omega
        · have hT2 : ¬ 4294967296 * R + u0 < Q * yn0 := fun h => hT (kt.out.1 h)
          have hbig : ¬ 4294967296 ≤ Q := by omega
          have he := Lib.hid (kend K.out hT)
          clear hT
          go_wp2_with fail
          go_meet
          exact ⟨by rw [← he.out], rfl⟩
    case rest =>
      obtain ⟨rfl, rfl⟩ := hcut
      clear k0 q0 qm qn e21
      obtain ⟨v2, hv2⟩ : ∃ v2, v2 = u21 * 4294967296 + u0 := ⟨_, rfl⟩
      have s0 := Int.emod_nonneg v2 (show Y ≠ 0 by omega)
      have s1 := Int.emod_lt_of_pos v2 hp
      have e22 := kwrap u21 u0 (v2 / Y) Y (v2 % Y) (by rw [← hv2]; exact krest v2 Y) s0 (by omega)
      have hfin : d1 * 4294967296 + v2 / Y = A ∧ v2 % Y / 2 ^ n = B := by rw [hv2, HU.out, HD.out, HV.out]; exact ⟨HR.out.1.symm, HR.out.2.symm⟩
      rw [← hv2] at W0 W1 ⊢
      have HF := Lib.hid hfin
      clear hv2 hfin HV HD HU
      generalize v2 / Y = d0 at *
      generalize v2 % Y = r3 at *
      go_wp2_with fail
      rw [HF.out.1, HF.out.2]
      go_ret2
      exact ⟨rfl, rfl⟩

theorem maskI (x : Int) (h0 : 0 ≤ x) (h1 : x ≤ 18446744073709551615) : bits .and .u64 x 4294967295 = x % 4294967296 := by
  obtain ⟨k, rfl⟩ := Int.eq_ofNat_of_zero_le h0
  rw [Mul64.maskN k (by omega)]
  omega
/-- The or of a number moved up and of the bits that come in from below is their sum. -/
theorem orI (h l : Int) (n : Nat) (hn : n ≤ 63) (h0 : 0 ≤ h) (h1 : h * 2 ^ n ≤ 18446744073709551615) (l0 : 0 ≤ l) (l1 : l < 2 ^ n) : bits .or .u64 (h * 2 ^ n) l = h * 2 ^ n + l := by
  obtain ⟨a, rfl⟩ := Int.eq_ofNat_of_zero_le h0
  obtain ⟨b, rfl⟩ := Int.eq_ofNat_of_zero_le l0
  have hb : b < 2 ^ n := by
    have : ((2 ^ n : Nat) : Int) = (2 : Int) ^ n := by simp
    omega
  have hp : 2 ^ n ≤ 2 ^ 63 := Nat.pow_le_pow_right (by decide) hn
  have e : ((a * 2 ^ n : Nat) : Int) = (a : Int) * 2 ^ n := by simp
  rw [← e] at h1 ⊢
  have hor : a * 2 ^ n ||| b = a * 2 ^ n + b := by rw [Nat.mul_comm, ← Nat.two_pow_add_eq_or_of_lt hb]
  rw [bits_or_u64_nat _ _ (by omega) (by omega), hor]
  omega

/-- Div64 divides numbers of 128 bits. -/
theorem div64_any (hi lo y : Int) (h0 : 0 ≤ hi) (hy : hi < y) (hy2 : y ≤ 18446744073709551615) (l1 : 0 ≤ lo) (l2 : lo ≤ 18446744073709551615) (w : World) :
    Calls Tryd.prog 32 #[.int .u64 hi, .int .u64 lo, .int .u64 y] w fun e w' => e = .returned (.tuple #[.int .u64 ((hi * 18446744073709551616 + lo) / y), .int .u64 ((hi * 18446744073709551616 + lo) % y)]) ∧ Below w.heap.size w w' := by
  by_cases hz : hi = 0
  · subst hz
    have := div64_small lo y l1 l2 (by omega) hy2 w
    rw [Int.zero_mul, Int.zero_add]
    exact this
  · obtain ⟨n, hn, hn2, b1, b2⟩ := lz_bounds y (by omega) hy2
    have lz := fun w => lz64_any y w (by omega) hy2 n hn
    have P0 : (0 : Int) < 2 ^ n := Int.pow_pos (by decide)
    have Q0 : (0 : Int) < 2 ^ (64 - n) := Int.pow_pos (by decide)
    have PQ : (2 : Int) ^ (64 - n) * 2 ^ n = 18446744073709551616 := by rw [← Int.pow_add, show 64 - n + n = 64 by omega]; decide
    have lq : lo * 2 ^ n / 18446744073709551616 = lo / 2 ^ (64 - n) := by rw [← PQ]; exact Int.mul_ediv_mul_of_pos_left _ _ P0
    have l0' : 0 ≤ lo / 2 ^ (64 - n) := Int.ediv_nonneg l1 (by omega)
    have l1' : lo / 2 ^ (64 - n) < 2 ^ n := by
      rw [Int.ediv_lt_iff_lt_mul Q0, Int.mul_comm, PQ]; omega
    have hh : (hi + 1) * 2 ^ n ≤ y * 2 ^ n := Int.mul_le_mul_of_nonneg_right (by omega) (by omega)
    rw [Int.add_mul, Int.one_mul] at hh
    have hp0 : 0 ≤ hi * 2 ^ n := Int.mul_nonneg h0 (by omega)
    have hor := orI hi (lo / 2 ^ (64 - n)) n hn2 h0 (by omega) l0' l1'
    have hm := Int.mul_ediv_add_emod (lo * 2 ^ n) 18446744073709551616
    rw [lq] at hm
    have hN : (hi * 18446744073709551616 + lo) * 2 ^ n = (hi * 2 ^ n + lo / 2 ^ (64 - n)) * 18446744073709551616 + (lo * 2 ^ n) % 18446744073709551616 := by
      rw [Int.add_mul, Int.mul_right_comm]; omega
    have hx : IntKind.u64.wrap (lo * 2 ^ n) = (lo * 2 ^ n) % 18446744073709551616 := u64w _
    generalize hX : (lo * 2 ^ n) % 18446744073709551616 = X at *
    have x0 : 0 ≤ X := by omega
    have x1 : X ≤ 18446744073709551615 := by omega
    generalize hL : lo / 2 ^ (64 - n) = L at *
    have hsh := kshift (hi * 18446744073709551616 + lo) y (2 ^ n) P0
    have htw := ktwo (hi * 2 ^ n + L) (X / 4294967296) (X % 4294967296) (y * 2 ^ n) (by omega)
    have eX : (hi * 2 ^ n + L) * 18446744073709551616 + X / 4294967296 * 4294967296 + X % 4294967296 = (hi * 18446744073709551616 + lo) * 2 ^ n := by rw [hN]; omega
    rw [eX] at htw
    refine (div64_great hi lo y n (y * 2 ^ n) (hi * 2 ^ n) (hi * 2 ^ n + L) X (X / 4294967296) (X % 4294967296) (y * 2 ^ n / 4294967296) (y * 2 ^ n % 4294967296) hn2 (by omega) hy hy2 l1 l2 lz rfl (by omega) (by omega) rfl hp0 (by omega)
      (by rw [hL]; exact hor) (by omega) (by omega) hx x0 x1 rfl (by omega) (by omega) (maskI X x0 x1) (by omega) (by omega) rfl (by omega) (by omega) (maskI _ (by omega) (by omega)) (by omega) (by omega) (by unfold Hid; omega)
      ((hi * 18446744073709551616 + lo) / y) ((hi * 18446744073709551616 + lo) % y) ⟨by rw [← hsh.1, htw.1], by rw [← hsh.2, htw.2]⟩ w).mono ?_
    rintro e w' ⟨rfl, rfl⟩
    exact ⟨rfl, Below.refl _ _⟩
end Go.Proofs.YtiahadohgfahcaaDoor
