/-
  asoflaw06.TimelineIntervals returns true.
-/
import Derived.Test.YtolkmfpbgheaaaaFew
namespace Go.Proofs.Ytolkmfpbgheaaaa
open Go.ChangeShapes Go.WideShapes Go.ChangeAt Go.RowKit
set_option linter.unusedVariables false
set_option linter.unusedSimpArgs false

set_option maxHeartbeats 4000000 in
set_option maxRecDepth 100000 in
theorem intervals_any (a1 a2 b1 b2 : Int) (l : List Iv) (ao : Option Addr) (cap : Nat) (hlc : l.length ≤ cap) (w : World) (h : SlotsAt w ao l) :
    Calls Try.prog 3 #[iv a1 a2, iv b1 b2, .slice ao l.length cap] w fun e w' => e = .returned (.bool true) ∧ Below w.heap.size w w' := by
  obtain ⟨⟨⟨m1, m2⟩, mb⟩, hr⟩ : ∃ r, meetF (a1, a2) (b1, b2) = r := ⟨_, rfl⟩
  have M1 := fun w => meet_any (a1, a2) (b1, b2) w
  have M2 := fun w => rmeet_any (a1, a2) (b1, b2) w
  rw [hr] at M1 M2
  have HM1 : Hid (∀ w, Calls Try.prog 10 #[iv a1 a2, iv b1 b2] w fun e w' => e = .returned (.tuple #[iv m1 m2, .bool mb]) ∧ Below w.heap.size w w') := M1
  have HM2 : Hid (∀ w, Calls Try.prog 11 #[iv a1 a2, iv b1 b2] w fun e w' => e = .returned (.tuple #[iv m1 m2, .bool mb]) ∧ Below w.heap.size w w') := M2
  have HF := Lib.hid (fun w => few_ivs ao l.length cap hlc w)
  have HT60 : Hid (min 60 l.length = (l.take 60).length ∧ (l.take 60).length ≤ 60) := by show _ ∧ _; simp; omega
  have H := Lib.hid (h.take 60)
  have HE := Lib.hid (fun w => example_any w)
  obtain ⟨ca, hca⟩ : ∃ ca : Int, (if okI a1 a2 then (Value.int .i64 0) else .int .i64 1) = .int .i64 ca := by split <;> exact ⟨_, rfl⟩
  obtain ⟨cb, hcb⟩ : ∃ cb : Int, (if okI b1 b2 then (Value.int .i64 0) else .int .i64 1) = .int .i64 cb := by split <;> exact ⟨_, rfl⟩
  have C1 : Hid (∀ w, Calls Try.prog 14 #[iv a1 a2] w fun e w' => e = .returned (.int .i64 ca) ∧ Below w.heap.size w w') := fun w => by rw [← hca]; exact check_any a1 a2 w
  have C2 : Hid (∀ w, Calls Try.prog 15 #[iv a1 a2] w fun e w' => e = .returned (.int .i64 ca) ∧ Below w.heap.size w w') := fun w => by rw [← hca]; exact rcheck_any a1 a2 w
  have C3 : Hid (∀ w, Calls Try.prog 14 #[iv b1 b2] w fun e w' => e = .returned (.int .i64 cb) ∧ Below w.heap.size w w') := fun w => by rw [← hcb]; exact check_any b1 b2 w
  have C4 : Hid (∀ w, Calls Try.prog 15 #[iv b1 b2] w fun e w' => e = .returned (.int .i64 cb) ∧ Below w.heap.size w w') := fun w => by rw [← hcb]; exact rcheck_any b1 b2 w
  clear M1 M2 hr h hca hcb
  rw [HT60.out.1] at HF
  have HU1 : Hid (∀ w', (∃ w9, SlotsAt w9 ao (l.take 60) ∧ Below w9.heap.size w9 w') → Calls Try.prog 17 #[.slice ao (l.take 60).length cap] w' (IvsAre w' (uni (l.take 60)))) := fun w' ⟨w9, h9, b9⟩ => union_any _ ao cap (by have := HT60.out.2; omega) w' (h9.kept b9)
  have HU2 : Hid (∀ w', (∃ w9, SlotsAt w9 ao (l.take 60) ∧ Below w9.heap.size w9 w') → Calls Try.prog 18 #[.slice ao (l.take 60).length cap] w' (IvsAre w' (uni (l.take 60)))) := fun w' ⟨w9, h9, b9⟩ => runion_any _ ao cap (by have := HT60.out.2; omega) w' (h9.kept b9)
  have HUL : Hid ((uni (l.take 60)).length ≤ 4611686018427387904) := by show _ ≤ _; have := uni_length (l.take 60); have := HT60.out.2; omega
  have HSM : Hid (∀ a1 a2 c1 c2 w', (∃ w9, SlotsAt w9 a1 (uni (l.take 60)) ∧ Below w9.heap.size w9 w') → (∃ w9, SlotsAt w9 a2 (uni (l.take 60)) ∧ Below w9.heap.size w9 w') → Calls Try.prog 16 #[.slice a1 (uni (l.take 60)).length c1, .slice a2 (uni (l.take 60)).length c2] w' fun e w2 => e = .returned (.bool true) ∧ Below w'.heap.size w' w2) :=
    fun a1 a2 c1 c2 w' h1 h2 => same_later _ HUL.out a1 a2 c1 c2 w' h1 h2
  generalize uni (l.take 60) = u at *
  generalize l.take 60 = k at *
  go_enter Try.func3, Try.ntmps3
  go_wp2_with fail
  refine (HM1.out _).mono ?_
  rintro e w1 ⟨rfl, hb⟩
  have BB : Hid (Below w.heap.size w w1) := ((below_here _).alloc (by simp) _).trans (hb.mono (by simp; omega))
  have HA : Hid (Two w1 w.heap.size (.int .i64 a1) (.int .i64 a2)) := ((Two.new w _ _).alloc _).kept hb
  have HBv : Hid (Two w1 (w.heap.size + 1) (.int .i64 b1) (.int .i64 b2)) := by show Two _ _ _ _; have := (Two.new (w.alloc (.cells #[.int .i64 a1, .int .i64 a2] 23)) (.int .i64 b1) (.int .i64 b2)).kept hb; simpa using this
  obtain ⟨k0, k1, -, -⟩ := HA.out.all
  obtain ⟨k2, k3, -, -⟩ := HBv.out.all
  have L0 : w.heap.size < w1.heap.size := HA.out.lt
  have L0' : w.heap.size + 1 < w1.heap.size := HBv.out.lt
  clear hb
  go_wp2_with fail
  refine (HM2.out _).mono ?_
  rintro e w2 ⟨rfl, hb⟩
  have B2 : Hid (Below w.heap.size w w2) := (BB.out.alloc BB.out.size _).trans (hb.mono (by have := BB.out.size; simp; omega))
  have HA2 := Lib.hid ((HA.out.alloc (.cells #[.int .i64 m1, .int .i64 m2] 23)).kept hb)
  have HB2 := Lib.hid ((HBv.out.alloc (.cells #[.int .i64 m1, .int .i64 m2] 23)).kept hb)
  have HI : Hid (Two w2 w1.heap.size (.int .i64 m1) (.int .i64 m2)) := (Two.new _ _ _).kept hb
  have hsz2 : w1.heap.size < w2.heap.size := HI.out.lt
  clear hb BB k0 k1 k2 k3 HA HBv
  go_wp2_with fail
  refine (HF.out _).mono ?_
  rintro e w3 ⟨rfl, rfl⟩
  go_upto_region 4 with fail
  refine wp_gen (fun V hV => ?_)
  have HBV : Hid (Below w.heap.size w V) := by rw [hV]; exact B2.out.alloc B2.out.size _
  have HVA : Hid (Two V w.heap.size (.int .i64 a1) (.int .i64 a2)) := by rw [hV]; exact HA2.out.alloc _
  have HVB : Hid (Two V (w.heap.size + 1) (.int .i64 b1) (.int .i64 b2)) := by rw [hV]; exact HB2.out.alloc _
  have HVI : Hid (Two V w1.heap.size (.int .i64 m1) (.int .i64 m2)) := by rw [hV]; exact HI.out.alloc _
  have HVJ : Hid (Two V w2.heap.size (.int .i64 m1) (.int .i64 m2)) := by rw [hV]; exact Two.new _ _ _
  have HSV : Hid (SlotsAt V ao k) := H.out.kept HBV.out
  have HSW : Hid (∀ w', Below V.heap.size V w' → ∃ w9, SlotsAt w9 ao k ∧ Below w9.heap.size w9 w') := fun w' hb => ⟨V, HSV.out, hb⟩
  obtain ⟨x0, x1, -, -⟩ := HVA.out.all
  obtain ⟨x2, x3, -, -⟩ := HVB.out.all
  obtain ⟨x4, x5, -, -⟩ := HVI.out.all
  obtain ⟨x6, x7, -, -⟩ := HVJ.out.all
  have HS3 : Hid (∀ w', Below V.heap.size V w' → Below V.heap.size V w' ∧ w'.cell? ⟨w.heap.size, 0, none⟩ = some (.int .i64 a1) ∧ w'.cell? ⟨w.heap.size, 1, none⟩ = some (.int .i64 a2) ∧ w'.cell? ⟨w.heap.size + 1, 0, none⟩ = some (.int .i64 b1) ∧ w'.cell? ⟨w.heap.size + 1, 1, none⟩ = some (.int .i64 b2) ∧ w'.cell? ⟨w1.heap.size, 0, none⟩ = some (.int .i64 m1) ∧ w'.cell? ⟨w1.heap.size, 1, none⟩ = some (.int .i64 m2) ∧ w'.cell? ⟨w2.heap.size, 0, none⟩ = some (.int .i64 m1) ∧ w'.cell? ⟨w2.heap.size, 1, none⟩ = some (.int .i64 m2)) :=
    fun w' h => ⟨h, (h.cell (cells_lt x0)).trans x0, (h.cell (cells_lt x1)).trans x1, (h.cell (cells_lt x2)).trans x2, (h.cell (cells_lt x3)).trans x3, (h.cell (cells_lt x4)).trans x4, (h.cell (cells_lt x5)).trans x5, (h.cell (cells_lt x6)).trans x6, (h.cell (cells_lt x7)).trans x7⟩
  clear hV HVA HVB HVI HVJ HA2 HB2 HI B2 L0 L0' hsz2
  generalize w1.heap.size = g1 at *
  generalize w2.heap.size = g2 at *
  go_region_held3 (fun w' => Below V.heap.size V w' ∧ w'.cell? ⟨w.heap.size, 0, none⟩ = some (.int .i64 a1) ∧ w'.cell? ⟨w.heap.size, 1, none⟩ = some (.int .i64 a2) ∧ w'.cell? ⟨w.heap.size + 1, 0, none⟩ = some (.int .i64 b1) ∧ w'.cell? ⟨w.heap.size + 1, 1, none⟩ = some (.int .i64 b2) ∧ w'.cell? ⟨g1, 0, none⟩ = some (.int .i64 m1) ∧ w'.cell? ⟨g1, 1, none⟩ = some (.int .i64 m2) ∧ w'.cell? ⟨g2, 0, none⟩ = some (.int .i64 m1) ∧ w'.cell? ⟨g2, 1, none⟩ = some (.int .i64 m2))
    (first | exact HS3.out _ ((Below.refl _ _).drew) | exact HS3.out _ (keepB (Nat.le_refl _) (And.left (by assumption)) hb))
    (first
      | (go_at_call 13; refine (HE.out _).mono ?_; rintro e w' ⟨rfl, hb⟩)
      | (go_at_call 14; (with_reducible refine (C1.out _).mono ?_); rintro e w' ⟨rfl, hb⟩)
      | (go_at_call 14; (with_reducible refine (C3.out _).mono ?_); rintro e w' ⟨rfl, hb⟩)
      | (go_at_call 15; (with_reducible refine (C2.out _).mono ?_); rintro e w' ⟨rfl, hb⟩)
      | (go_at_call 15; (with_reducible refine (C4.out _).mono ?_); rintro e w' ⟨rfl, hb⟩)
      | (go_at_call 17; refine (HU1.out _ (HSW.out _ (And.left (by assumption)))).mono ?_; rintro e w' ⟨a1, c1, rfl, hs1, -, hb⟩; have HS1 := Lib.hid hs1; clear hs1)
      | (go_at_call 18; refine (HU2.out _ (HSW.out _ (And.left (by assumption)))).mono ?_; rintro e w' ⟨a2, c2, rfl, hs2, -, hb⟩; have HS2 := Lib.hid hs2; clear hs2; have HS1' := Lib.hid (HS1.out.kept hb))
      | (go_at_call 16; refine (HSM.out _ _ _ _ _ ⟨_, HS1'.out, Below.refl _ _⟩ ⟨_, HS2.out, Below.refl _ _⟩).mono ?_; rintro e w' ⟨rfl, hb⟩))
  all_goals
    have HZ : Below V.heap.size V w' := And.left (by assumption)
    go_wp2_with fail
    go_ret
    exact ⟨rfl, HBV.out.trans (HZ.mono HBV.out.size)⟩
end Go.Proofs.Ytolkmfpbgheaaaa
