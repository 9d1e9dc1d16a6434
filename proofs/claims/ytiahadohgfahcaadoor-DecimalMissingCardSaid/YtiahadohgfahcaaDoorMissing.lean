/-
  Proves that asoflaw02.DecimalMissing returns true for every input and leaves its arguments as they were: where Mul or Div has no result, the exact quotient is beyond MaxNumber. Condition: the four tables that the row lists read as the program's text lays them, and the card ties them to that text.
-/
import Derived.Test.YtiahadohgfahcaaDoorMissWalk
import Derived.Test.YtiahadohgfahcaaDoorFrame
import Derived.Test.YtiahadohgfahcaaDoorCards
namespace Go.Proofs.YtiahadohgfahcaaDoor
open Go.ChangeShapes Go.WideShapes Go.ChangeAt Go.RowKit
set_option maxRecDepth 100000 in
theorem decimalMissing_lifted (os : Os) (started : os.Started) (H : Type) (enc : TypeId × Value → H) :
    ReturnsInHanded {} Tryd.checked os 6 .any (fun w args => (Rows.decimalMissingSpec.pre enc Tryd.prog Tryd.f6 Rows.decimalMissingRow.domain false w args ∧ laidMetH Tryd.prog Rows.decimalMissingRow.laid w) ∧ sizedMet enc Tryd.prog Tryd.f6 (OpenSpec.ofChange Rows.decimalMissingSpec) false w args)
      (Rows.decimalMissingSpec.post enc Tryd.prog Tryd.f6 false true false false) := by
  refine returnsInHanded_of_change_and (C := Tryd.checked) (X := fun w _ => laidMetH Tryd.prog Rows.decimalMissingRow.laid w) (fun _ _ _ hh h => h.of_heap hh) own started (by kernel_rfl) Tryd.func6
    (ChangeSpec.witness_shaped (enc := enc) (C := Tryd.checked) (os := os) (X := fun w _ => laidMetH Tryd.prog Rows.decimalMissingRow.laid w) false (World.laidAll Tryd.prog os Rows.decimalMissingRow.laid) #[.int .i64 0, .int .i64 0] 8 (World.laidAll_os _ _ _)
      (World.shaped_of_ZipB (by kernel_rfl) (by kernel_rfl)) (by kernel_rfl) (by kernel_rfl) (by kernel_rfl)
      (by rw [MakeChecks.laidMetH_plain _ _ _ (by kernel_rfl)]; exact laidMet_laidAll _ (by kernel_rfl) (by kernel_rfl))) ?_
  intro W base args ds gs before hval0 hW _ _ hL _
  have hval : ∀ (j : Nat) t v, Tryd.f6.params[j]? = some t → args[j]? = some v → Value.okWide Tryd.prog W .any base t v := hval0
  have hW' := hW
  obtain ⟨p, q, hA0, hV, rfl, _, _⟩ := hW
  have hA : DataW.TrodAll enc Tryd.prog W 0 (fun _ => true) true Tryd.f6.params.toList args.toList ds p := hA0
  rw [Tryd.params6] at hA hval
  obtain ⟨v0, vs0, d0, ds0, p0, q0, hargs, rfl, rfl, h0, r0⟩ := trodAll_cons hA
  obtain ⟨v1, vs1, d1, ds1, p1, q1, rfl, rfl, rfl, h1, r1⟩ := trodAll_cons r0
  obtain ⟨rfl, rfl, rfl⟩ := trodAll_nil r1
  obtain rfl : args = #[v0, v1] := by cases args; simp_all
  obtain ⟨rfl, rfl⟩ := trodVars_none hV
  obtain ⟨a0, rfl, rfl, rfl, w0⟩ := open_int Tryd.underlying3 (hval 0 3 v0 rfl rfl) h0
  obtain ⟨a1, rfl, rfl, rfl, w1⟩ := open_int Tryd.underlying3 (hval 1 3 v1 rfl rfl) h1
  have hT : Tabs W := tabs_of_laid hL
  clear hA0 hval0
  simp only [List.append_nil] at hW'
  refine (miss_walk a0 a1 (int_lo w0) (int_hi w0) (int_lo w1) (int_hi w1) W hT).mono fun e W' ⟨he, hg⟩ => ?_
  subst he
  exact ⟨_, rfl, post_of_below (pa := []) (pv := []) hW' (fun _ _ _ => (trodAll_cons_mk (shut_bool Tryd.underlying4 _) trodAll_mk0)) (fun sp _ => (trodAll_cons_mk (shut_int Tryd.underlying3 w0) (trodAll_cons_mk (shut_int Tryd.underlying3 w1) trodAll_mk0))) (fun _ _ => rfl) rfl hg (ok_one (by kernel_rfl) rfl (okWide_bool_mk Tryd.underlying4 _))⟩
theorem decimalMissing_over : Rows.decimalMissingRow.holds Tryd.pinned (OpenSpec.ofChange Rows.decimalMissingSpec) :=
  OpenClaim.holds_of_wide 6 Tryd.f6 rfl rfl rfl rfl rfl rfl rfl ⟨rfl, rfl, rfl, rfl, rfl⟩ rfl rfl rfl rfl rfl (by kernel_rfl) Tryd.func6 (by kernel_rfl)
    (of_decide_eq_true (by kernel_rfl)) (by unfold Func.isWrapper; first | (rw [if_pos (by decide +kernel)]; kernel_rfl) | (rw [if_neg (by decide +kernel)]; exact ⟨rfl, rfl⟩))
    (fun os started H enc _ => decimalMissing_lifted os started H enc)
theorem noStandIn6 : ∀ (j : Nat) t, Tryd.f6.params[j]? = some t → Tryd.prog.wantsStandIn t = false := fun j t ht => by
  rw [Tryd.params6] at ht
  have h3 : t = 3 := by
    rcases j with _ | _ | j
    · simpa using ht.symm
    · simpa using ht.symm
    · simp at ht
  subst h3
  exact (show Tryd.prog.wantsStandIn 3 = false by kernel_rfl)
/-- THE STATEMENT. -/
theorem decimalMissing_holds : Rows.DecimalMissingCardSaid :=
  Claim7.holds_tied_plain_at .later [] [.data, .data, .data, .data] true (true, "225924d43a96e330b398fcdd318131b3d33ff26b8fc93871d5bfd4809763ff0c") false
    decimalMissing_over (fun _ h => by cases h) (by kernel_rfl) (fun _ h => by cases h) decimalMissing_row_tie rfl ⟨rfl, rfl⟩ (by kernel_rfl) rfl
    (fun f fn hf hfn => by
      obtain rfl : f = 6 := Option.some.inj ((show Tryd.prog.funcNamed "asof/asoflaw02.DecimalMissing" = some 6 by kernel_rfl).symm.trans hf) |>.symm
      obtain rfl : fn = Tryd.f6 := (Option.some.inj (Tryd.func6.symm.trans hfn)).symm
      exact ⟨by kernel_rfl, noStandIn6⟩)
    (by kernel_rfl)
#print axioms decimalMissing_holds

end Go.Proofs.YtiahadohgfahcaaDoor
