/-
  slices.Concat at two lists of differences; delta.Add.
-/
import Derived.Test.YtfnpfkgmacaboaaPH
import Derived.Test.YtfnpfkgmacaboaaShelf2
namespace Go.Proofs.Ytfnpfkgmacaboaa
open Go.ChangeShapes Go.WideShapes Go.ChangeAt Go.RowKit
set_option linter.unusedVariables false
set_option linter.unusedSimpArgs false

set_option maxRecDepth 100000 in
theorem grow_any (n : Nat) (hn : n ≤ 1000000000) (w : World) : Calls Try.prog 45 #[.slice none 0 0, .int .i64 n] w fun e w' => ∃ v, e = .returned v ∧ Own Dl.cells 10 41 w' w.heap.size v [] ∧ Below w.heap.size w w' := by
  by_cases h0 : n = 0
  · subst h0
    refine (Go.Proofs.Any8.slices_Grow_room Try.growD none 0 0 0 w (by omega) (by omega) (by omega) (by omega)).mono ?_
    rintro e w' ⟨rfl, rfl⟩
    exact ⟨_, rfl, Own.nil _ _, Below.refl _ _⟩
  · obtain ⟨i, z, hi, hz0, hz1, hz2, hz3⟩ := elD.parts
    refine (Go.Proofs.Any8.slices_Grow_grow Try.growD i z hi hz0 (by rw [hz1]; decide) none 0 0 n [] w (by omega) (by omega) (by rw [hz2]; omega) (by omega) (by simp) (fun _ => rfl) (fun a ha => by cases ha)).mono ?_
    rintro e w' ⟨rfl, rfl⟩
    have hge := grownCap_ge w (0 + n) 0 41
    have hle := grownCap_le_maxLen w (0 + n) 0 41 (by unfold maxLen; omega)
    refine ⟨_, rfl, ⟨by simp [encs], Or.inr ⟨w.heap.size, _, _, rfl, Nat.le_refl _, heap_alloc_new w.drew _, Nat.zero_le _, hle, ?_, by simp [encs]⟩⟩, (Below.refl _ w).drew.alloc (Nat.le_refl _) _⟩
    obtain ⟨G, hG⟩ : ∃ G, G = grownCap w (0 + n) 0 (Try.growD_ren.t 25) := ⟨_, rfl⟩
    have hge' : 0 + n ≤ G := by rw [hG]; exact hge
    rw [← hG]
    simp only [Array.size_append, size_zeroCells, hz3]
    have e1 : (0 + n - 0) * 10 + (G - (0 + n)) * 10 = G * 10 := by rw [← Nat.add_mul]; congr 1; omega
    simpa using e1
set_option maxHeartbeats 4000000 in
set_option maxRecDepth 100000 in
theorem concat_any (l k : List Dl) (a1 a2 : Option Addr) (c1 c2 g : Nat) (hl : l.length ≤ 10000000) (hk : k.length ≤ 10000000) (h1c : a1 = none → c1 = 0) (h2c : a2 = none → c2 = 0) (w : World)
    (hc0 : w.cell? ⟨g, 0, none⟩ = some (.slice a1 l.length c1)) (hc1 : w.cell? ⟨g, 1, none⟩ = some (.slice a2 k.length c2)) (h1 : DlsAt w a1 l) (h2 : DlsAt w a2 k) :
    Calls Try.prog 25 #[.slice (some ⟨g, 0, none⟩) 2 2] w fun e w' => ∃ v, e = .returned v ∧ OwnD w' w.heap.size v (l ++ k) ∧ Below w.heap.size w w' := by
  have H1 := Lib.hid h1
  have H2 := Lib.hid h2
  have HC1 := Lib.hid h1c
  have HC2 := Lib.hid h2c
  have HK0 := Lib.hid hc0
  have HK1 := Lib.hid hc1
  clear h1 h2 h1c h2c
  generalize hll : l.length = ll at *
  generalize hkk : k.length = kk at *
  have HLL : Hid (ll = l.length) := hll.symm
  have HKK : Hid (kk = k.length) := hkk.symm
  clear hll hkk
  have hg := grow_any (ll + kk) (by omega) w
  rw [Int.natCast_add] at hg
  have HG := Lib.hid hg
  clear hg
  go_enter Try.func25, Try.ntmps25
  go_wp2_with fail
  go_loop [3, 11] (fun s v => (v = .int .i64 0 ∧ s = .int .i64 0) ∨ (v = .int .i64 1 ∧ s = .int .i64 ll) ∨ (v = .int .i64 2 ∧ s = .int .i64 ((ll : Int) + (kk : Int)))) (fun _ v => 2 - (intOf v).toNat)
  case atStart => exact Or.inl ⟨rfl, rfl⟩
  case round =>
    rcases hrel with ⟨rfl, rfl⟩ | ⟨rfl, rfl⟩ | ⟨rfl, rfl⟩
    · go_wp2_with fail
      go_round
      case rel => exact Or.inr (Or.inl ⟨rfl, by simp⟩)
      case measure => simp [intOf]
    · go_wp2_with fail
      go_round
      case rel => exact Or.inr (Or.inr ⟨rfl, by simp⟩)
      case measure => simp [intOf]
    · clear hc0 hc1
      go_wp2_with (go_at_call 45; (with_reducible refine HG.out.mono ?_); rintro e w1 ⟨v1, rfl, ho, hb⟩; have HO := Lib.hid ho; have HB1 := Lib.hid hb; clear ho hb)
      have HW1 : Hid (w.heap.size ≤ w1.heap.size) := HB1.out.size
      go_loopw [6, 27] (fun v j wr => ∃ v0, v0 = v ∧ Hid (Below w.heap.size w wr) ∧ ((j = .int .i64 0 ∧ Hid (Own Dl.cells 10 41 wr w.heap.size v [])) ∨ (j = .int .i64 1 ∧ Hid (Own Dl.cells 10 41 wr w.heap.size v l)) ∨ (j = .int .i64 2 ∧ Hid (Own Dl.cells 10 41 wr w.heap.size v (l ++ k))))) (fun _ j _ => 2 - (intOf j).toNat)
      case atStart => exact ⟨_, rfl, HB1, Or.inl ⟨rfl, HO⟩⟩
      case round =>
        obtain ⟨v0, rfl, HB, hcase⟩ := hrel
        have e0 := cell_kept HK0.out HB.out
        have e1 := cell_kept HK1.out HB.out
        have HBs : Hid (w.heap.size ≤ wr.heap.size) := HB.out.size
        rcases hcase with ⟨rfl, HO2⟩ | ⟨rfl, HO2⟩ | ⟨rfl, HO2⟩
        · have HLm : Hid (([] : List Dl).length + l.length ≤ 1000000000) := by show _ ≤ _; rw [← HLL.out]; simp; omega
          go_wp2_with (at_builtin; refine wpList_app elD encD rfl (.tmp 31) (.tmp 32) rfl rfl rfl HO2.out (H1.out.1.kept HB.out) HLL.out HC1.out HBs.out HLm.out ?_; intro v5 w5 ho hb; have HO5 := Lib.hid ho; have HB5 := Lib.hid (HB.out.trans hb); clear ho hb)
          go_roundw
          case rel => exact ⟨_, rfl, HB5, Or.inr (Or.inl ⟨rfl, by simpa using HO5⟩)⟩
          case measure => simp [intOf]
        · have HLm : Hid (l.length + k.length ≤ 1000000000) := by show _ ≤ _; rw [← HLL.out, ← HKK.out]; omega
          go_wp2_with (at_builtin; refine wpList_app elD encD rfl (.tmp 31) (.tmp 32) rfl rfl rfl HO2.out (H2.out.1.kept HB.out) HKK.out HC2.out HBs.out HLm.out ?_; intro v5 w5 ho hb; have HO5 := Lib.hid ho; have HB5 := Lib.hid (HB.out.trans hb); clear ho hb)
          go_roundw
          case rel => exact ⟨_, rfl, HB5, Or.inr (Or.inr ⟨rfl, HO5⟩)⟩
          case measure => simp [intOf]
        · go_wp2_with fail
          go_ret
          refine ⟨_, rfl, ⟨HO2.out, fun d hd => ?_⟩, HB.out⟩
          simp only [List.mem_append] at hd
          exact hd.elim (fun h => (H1.out.2 d h).kept HB.out) (fun h => (H2.out.2 d h).kept HB.out)
set_option maxHeartbeats 4000000 in
set_option maxRecDepth 100000 in
theorem fadd_any (l k : List Dl) (a1 a2 : Option Addr) (c1 c2 : Nat) (hl : l.length ≤ 5000000) (hk : k.length ≤ 5000000) (h1c : a1 = none → c1 = 0) (h2c : a2 = none → c2 = 0) (w : World) (h1 : DlsAt w a1 l) (h2 : DlsAt w a2 k) :
    Calls Try.prog 8 #[.slice a1 l.length c1, .slice a2 k.length c2] w fun e w' => ∃ v l', e = .returned v ∧ SlD w' v l' ∧ l'.length ≤ l.length + k.length ∧ l'.map Dl.kn = consK (l.map Dl.kn ++ k.map Dl.kn) ∧ Below w.heap.size w w' := by
  have HB0 : Hid (Below w.heap.size w (w.alloc (.cells #[.slice a1 l.length c1, .slice a2 k.length c2] 22))) := below_here _
  have HC := Lib.hid (concat_any l k a1 a2 c1 c2 w.heap.size (by omega) (by omega) h1c h2c (w.alloc (.cells #[.slice a1 l.length c1, .slice a2 k.length c2] 22)) ((Box.new w _ _).cell 0 _ rfl) ((Box.new w _ _).cell 1 _ rfl) (h1.kept (below_here _)) (h2.kept (below_here _)))
  obtain ⟨m, hm⟩ : ∃ m, m = l ++ k := ⟨_, rfl⟩
  have HM : Hid (m.length = l.length + k.length ∧ m.map Dl.kn = l.map Dl.kn ++ k.map Dl.kn) := by rw [hm]; exact ⟨by simp, by simp⟩
  rw [← hm] at HC
  have HF := Lib.hid (fun a c w' h => fcons_any m a c (by have := HM.out.1; omega) w' h)
  clear h1 h2 hm h1c h2c
  have HLen : Hid (l.length ≤ 5000000 ∧ k.length ≤ 5000000) := ⟨hl, hk⟩
  clear hl hk
  generalize l.length = ll at *
  generalize k.length = kk at *
  generalize hml : m.length = ml at *
  have HML := Lib.hid hml
  clear hml
  go_enter Try.func8, Try.ntmps8
  go_wp2_with (first
    | (go_at_call 25; (with_reducible refine HC.out.mono ?_); rintro e w2 ⟨v2, rfl, ho, hb⟩; obtain ⟨a3, c3, rfl, hr1, hr2, hr3⟩ := ho.lies; rw [HML.out]; have HP := Lib.hid (HF.out a3 c3 w2 hr3); have HB2 := Lib.hid (keepB (Nat.le_refl _) HB0.out hb); clear ho hb hr1 hr2 hr3)
    | (go_at_call 12; (with_reducible refine HP.out.mono ?_); rintro e w3 ⟨v3, l3, rfl, hs, hl3, hm3, hb⟩; have HS3 := Lib.hid hs; have HL3 := Lib.hid hl3; have HM3 := Lib.hid hm3; have HB3 := Lib.hid hb; clear hs hl3 hm3 hb))
  go_ret
  exact ⟨_, l3, rfl, HS3.out, by have h1 := HL3.out; have h2 := HM.out.1; omega, by rw [HM3.out, HM.out.2], keepB (Nat.le_refl _) HB2.out HB3.out⟩
end Go.Proofs.Ytfnpfkgmacaboaa
