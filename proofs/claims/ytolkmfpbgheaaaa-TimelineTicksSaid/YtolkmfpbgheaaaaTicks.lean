/-
  Proves that asoflaw06.TimelineTicks returns true for every input and leaves its arguments as they were: Meet holds the ticks that both intervals hold, Union the ticks of the valid ones; its intervals are apart, and Union of them is the same. No condition.
-/
import Derived.Test.YtolkmfpbgheaaaaTicksWalk
import Derived.Test.YtolkmfpbgheaaaaFrame
namespace Go.Proofs.Ytolkmfpbgheaaaa
open Go.ChangeShapes Go.WideShapes Go.ChangeAt Go.RowKit Go.Joins Go.Deep
open Go.ChangeMaps (open_string)
set_option maxRecDepth 100000 in
theorem timelineTicks_lifted (os : Os) (started : os.Started) (H : Type) (enc : TypeId × Value → H) :
    ReturnsInHanded {} Try.checked os 6 .any (Rows.timelineTicksSpec.pre6 enc Try.prog Try.f6 Rows.timelineTicksRow.domain false) (Rows.timelineTicksSpec.post enc Try.prog Try.f6 false true false false) := by
  refine returnsInHanded_of_change_sized (C := Try.checked) own started (by kernel_rfl) Try.func6
    (ChangeSpec.witness6 (enc := enc) (C := Try.checked) false ⟨#[], #[.slice none 0 0, .agg #[.int .i64 0, .int .i64 0], .int .i64 0], []⟩ 8 (by kernel_rfl) (by kernel_rfl) (by kernel_rfl) (by kernel_rfl)) ?_
  intro W base args ds gs before hval0 hW hcnd hsz0 _
  have hval : ∀ (j : Nat) t v, Try.f6.params[j]? = some t → args[j]? = some v → Value.okWide Try.prog W .any base t v := hval0
  have hsz : (DataW.weightsEach Try.prog (Try.f6.params.toList ++ Rows.timelineTicksSpec.plain.varTypes Try.prog) (ds ++ gs)).all (· ≤ reachBytes) = true := hsz0
  have hW' := hW
  obtain ⟨p, q, hA0, hV, rfl, hfz, hnd⟩ := hW
  have hA : DataW.TrodAll enc Try.prog W 0 (fun _ => true) true Try.f6.params.toList args.toList ds p := hA0
  have hA1 := hA
  rw [Try.params6] at hA hval hsz
  obtain ⟨v0, vs0, d0, ds0, p0, q0, hargs, rfl, rfl, h0, r0⟩ := trodAll_cons hA
  obtain ⟨v1, vs1, d1, ds1, p1, q1, rfl, rfl, rfl, h1, r1⟩ := trodAll_cons r0
  obtain ⟨v2, vs2, d2, ds2, p2, q2, rfl, rfl, rfl, h2, r2⟩ := trodAll_cons r1
  obtain ⟨rfl, rfl, rfl⟩ := trodAll_nil r2
  obtain rfl : args = #[v0, v1, v2] := by cases args; simp_all
  obtain ⟨rfl, rfl⟩ := trodVars_none hV
  have hmem := fun (j : Nat) (t : TypeId) (d : DataW H) (h1 : _) (h2 : _) (m : Nat) (hm : m ∈ d.weights Try.prog t) => of_decide_eq_true (List.all_eq_true.1 hsz m (DataW.weights_mem_each (j := j) (t := t) (d := d) h1 h2 m hm))
  obtain ⟨ao0, cap0, l0, rfl, hc0, hl0, hs0, hn0⟩ := open_ivs (hval 0 24 v0 rfl rfl) h0 (hmem 0 24 d0 rfl rfl)
  obtain ⟨f1, t1, rfl⟩ := open_iv (hval 1 23 v1 rfl rfl) h1
  obtain ⟨a2, rfl, rfl, rfl, w2⟩ := open_int Try.underlying3 (hval 2 3 v2 rfl rfl) h2
  clear hA0 hval0 hmem
  simp only [List.append_nil] at hW'
  refine (ticks_any l0 ao0 cap0 hc0 hn0 f1 t1 a2 W hs0).mono fun e W' ⟨he, hg⟩ => ?_
  subst he
  refine ⟨_, rfl, post_kept (pa := (p0 ++ (p1 ++ (([] : List MemPlace) ++ ([] : List MemPlace))))) (pv := []) hW' (fun _ _ _ => (trodAll_cons_mk (shut_bool Try.underlying4 _) trodAll_mk0)) ?_ rfl (by simp) hg⟩
  exact trodAll_kept laidOut hg (by kernel_rfl) hA1 (fun x hx => hW'.lt x (by simpa using hx))
theorem timelineTicks_over : Rows.timelineTicksRow.holds Try.pinned (OpenSpec.ofChange Rows.timelineTicksSpec) :=
  OpenClaim.holds_of_wide 6 Try.f6 rfl rfl rfl rfl rfl rfl rfl ⟨rfl, rfl, rfl, rfl, rfl⟩ rfl rfl rfl rfl rfl (by kernel_rfl) Try.func6 (by kernel_rfl)
    (of_decide_eq_true (by kernel_rfl)) (by unfold Func.isWrapper; first | (rw [if_pos (by decide +kernel)]; kernel_rfl) | (rw [if_neg (by decide +kernel)]; exact ⟨rfl, rfl⟩))
    (fun os started H enc _ => timelineTicks_lifted os started H enc)
/-- THE STATEMENT. -/
theorem timelineTicks_holds : Rows.TimelineTicksSaid := timelineTicks_over
#print axioms timelineTicks_holds

end Go.Proofs.Ytolkmfpbgheaaaa
