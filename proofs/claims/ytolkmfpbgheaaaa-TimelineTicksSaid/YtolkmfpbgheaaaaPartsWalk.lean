/-
  asoflaw06.TimelineParts returns true.
-/
import Derived.Test.YtolkmfpbgheaaaaX
import Derived.Deep.RegionHeld3
namespace Go.Proofs.Ytolkmfpbgheaaaa
open Go.ChangeShapes Go.WideShapes Go.ChangeAt Go.RowKit
set_option linter.unusedVariables false
set_option linter.unusedSimpArgs false

theorem bkt_length (f t s : Int) : (bkt f t s).length ≤ 4096 := by
  unfold bkt
  by_cases h : bktOk f t s = true
  · rw [if_pos h, partsN_length]
    have := of_decide_eq_true h
    unfold partsC; omega
  · rw [if_neg h]; simp
/-- Same, of two lists in a later world. -/
theorem same_later (l : List Iv) (hl : l.length ≤ 4611686018427387904) (a1 a2 : Option Addr) (c1 c2 : Nat) (w' : World) (h1 : ∃ w9, SlotsAt w9 a1 l ∧ Below w9.heap.size w9 w') (h2 : ∃ w9, SlotsAt w9 a2 l ∧ Below w9.heap.size w9 w') :
    Calls Try.prog 16 #[.slice a1 l.length c1, .slice a2 l.length c2] w' fun e w2 => e = .returned (.bool true) ∧ Below w'.heap.size w' w2 := by
  obtain ⟨w9, h1, b1⟩ := h1
  obtain ⟨w8, h2, b2⟩ := h2
  have := same_any l l a1 a2 c1 c2 hl w' (h1.kept b1) (h2.kept b2)
  rwa [decide_eq_true rfl] at this

set_option maxHeartbeats 4000000 in
set_option maxRecDepth 100000 in
theorem parts_any (f t s : Int) (w : World) : Calls Try.prog 5 #[iv f t, .int .i64 s] w fun e w' => e = .returned (.bool true) ∧ Below w.heap.size w w' := by
  have HL := Lib.hid (bkt_length f t s)
  have B1 := Lib.hid (fun w => buckets_any f t s w)
  have B2 := Lib.hid (fun w => rbuckets_any f t s w)
  have HE := Lib.hid (fun w => example_any w)
  have HSM : Hid (∀ a1 a2 c1 c2 w', (∃ w9, SlotsAt w9 a1 (bkt f t s) ∧ Below w9.heap.size w9 w') → (∃ w9, SlotsAt w9 a2 (bkt f t s) ∧ Below w9.heap.size w9 w') → Calls Try.prog 16 #[.slice a1 (bkt f t s).length c1, .slice a2 (bkt f t s).length c2] w' fun e w2 => e = .returned (.bool true) ∧ Below w'.heap.size w' w2) :=
    fun a1 a2 c1 c2 w' h1 h2 => same_later (bkt f t s) (by have := HL.out; omega) a1 a2 c1 c2 w' h1 h2
  generalize bkt f t s = l at *
  go_enter Try.func5, Try.ntmps5
  go_upto_region 1 with fail
  refine wp_gen (fun V hV => ?_)
  have HBV : Hid (Below w.heap.size w V) := by rw [hV]; exact below_here _
  have HT : Hid (Two V w.heap.size (.int .i64 f) (.int .i64 t)) := by rw [hV]; exact Two.new _ _ _
  obtain ⟨t0, t1, -, -⟩ := HT.out.all
  have HS3 : Hid (∀ w', Below V.heap.size V w' → Below V.heap.size V w' ∧ w'.cell? ⟨w.heap.size, 0, none⟩ = some (.int .i64 f) ∧ w'.cell? ⟨w.heap.size, 1, none⟩ = some (.int .i64 t)) :=
    fun w' h => ⟨h, (h.cell (cells_lt t0)).trans t0, (h.cell (cells_lt t1)).trans t1⟩
  clear hV
  go_region_held3 (fun w' => Below V.heap.size V w' ∧ w'.cell? ⟨w.heap.size, 0, none⟩ = some (.int .i64 f) ∧ w'.cell? ⟨w.heap.size, 1, none⟩ = some (.int .i64 t))
    (first | exact HS3.out _ ((Below.refl _ _).drew) | exact HS3.out _ (keepB (Nat.le_refl _) (And.left (by assumption)) hb))
    (first
      | (go_at_call 13; refine (HE.out _).mono ?_; rintro e w' ⟨rfl, hb⟩)
      | (go_at_call 21; refine (B1.out _).mono ?_; rintro e w' ⟨a1, c1, rfl, hs1, -, hb⟩; have HS1 := Lib.hid hs1; clear hs1)
      | (go_at_call 22; refine (B2.out _).mono ?_; rintro e w' ⟨a2, c2, rfl, hs2, -, hb⟩; have HS2 := Lib.hid hs2; clear hs2; have HS1' := Lib.hid (HS1.out.kept hb))
      | (go_at_call 16; refine (HSM.out _ _ _ _ _ ⟨_, HS1'.out, Below.refl _ _⟩ ⟨_, HS2.out, Below.refl _ _⟩).mono ?_; rintro e w' ⟨rfl, hb⟩))
  have HZ : Below V.heap.size V w' := And.left (by assumption)
  go_wp2_with fail
  go_ret
  exact ⟨rfl, HBV.out.trans (HZ.mono HBV.out.size)⟩
end Go.Proofs.Ytolkmfpbgheaaaa
