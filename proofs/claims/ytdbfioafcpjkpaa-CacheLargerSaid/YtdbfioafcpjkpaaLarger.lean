/-
  Proves that asoflaw34.CacheLarger returns true for every input and leaves its arguments as they were: if all weights are equal, a cache with a greater limit contains every key that one with a smaller limit contains. No condition.
-/
import Derived.Test.YtdbfioafcpjkpaaLargerWalk
import Derived.Test.YtdbfioafcpjkpaaFrame
namespace Go.Proofs.Ytdbfioafcpjkpaa
open Go.ChangeShapes Go.WideShapes Go.ChangeAt Go.RowKit Go.Joins Go.Deep
open Go.ChangeMaps (open_string)
set_option maxRecDepth 100000 in
theorem cacheLarger_lifted (os : Os) (started : os.Started) (H : Type) (enc : TypeId × Value → H) :
    ReturnsInHanded {} Try.checked os 5 .any (Rows.cacheLargerSpec.pre6 enc Try.prog Try.f5 Rows.cacheLargerRow.domain false) (Rows.cacheLargerSpec.post enc Try.prog Try.f5 false true false false) := by
  refine returnsInHanded_of_change_sized (C := Try.checked) own started (by kernel_rfl) Try.func5
    (ChangeSpec.witness6 (enc := enc) (C := Try.checked) false ⟨#[], #[.int .i64 0, .int .i64 0, .slice none 0 0, .int .i64 0], []⟩ 8 (by kernel_rfl) (by kernel_rfl) (by kernel_rfl) (by kernel_rfl)) ?_
  intro W base args ds gs before hval0 hW hcnd hsz0 _
  have hval : ∀ (j : Nat) t v, Try.f5.params[j]? = some t → args[j]? = some v → Value.okWide Try.prog W .any base t v := hval0
  have hsz : (DataW.weightsEach Try.prog (Try.f5.params.toList ++ Rows.cacheLargerSpec.plain.varTypes Try.prog) (ds ++ gs)).all (· ≤ reachBytes) = true := hsz0
  have hW' := hW
  obtain ⟨p, q, hA0, hV, rfl, hfz, hnd⟩ := hW
  have hA : DataW.TrodAll enc Try.prog W 0 (fun _ => true) true Try.f5.params.toList args.toList ds p := hA0
  have hA1 := hA
  rw [Try.params5] at hA hval hsz
  obtain ⟨v0, vs0, d0, ds0, p0, q0, hargs, rfl, rfl, h0, r0⟩ := trodAll_cons hA
  obtain ⟨v1, vs1, d1, ds1, p1, q1, rfl, rfl, rfl, h1, r1⟩ := trodAll_cons r0
  obtain ⟨v2, vs2, d2, ds2, p2, q2, rfl, rfl, rfl, h2, r2⟩ := trodAll_cons r1
  obtain ⟨v3, vs3, d3, ds3, p3, q3, rfl, rfl, rfl, h3, r3⟩ := trodAll_cons r2
  obtain ⟨rfl, rfl, rfl⟩ := trodAll_nil r3
  obtain rfl : args = #[v0, v1, v2, v3] := by cases args; simp_all
  obtain ⟨rfl, rfl⟩ := trodVars_none hV
  have hmem := fun (j : Nat) (t : TypeId) (d : DataW H) (h1 : _) (h2 : _) (m : Nat) (hm : m ∈ d.weights Try.prog t) => of_decide_eq_true (List.all_eq_true.1 hsz m (DataW.weights_mem_each (j := j) (t := t) (d := d) h1 h2 m hm))
  obtain ⟨a0, rfl, rfl, rfl, w0⟩ := open_int Try.underlying3 (hval 0 3 v0 rfl rfl) h0
  obtain ⟨a1, rfl, rfl, rfl, w1⟩ := open_int Try.underlying3 (hval 1 3 v1 rfl rfl) h1
  obtain ⟨ao2, cap2, l2, rfl, hc2, hl2, hs2⟩ := open_uses (hval 2 36 v2 rfl rfl) h2 (hmem 2 36 d2 rfl rfl)
  obtain ⟨a3, rfl, rfl, rfl, w3⟩ := open_int Try.underlying3 (hval 3 3 v3 rfl rfl) h3
  clear hA0 hval0 hmem
  simp only [List.append_nil] at hW'
  refine (larger_any a0 a1 l2 a3 ao2 cap2 hl2 W hs2).mono fun e W' ⟨he, hg⟩ => ?_
  subst he
  refine ⟨_, rfl, post_kept (pa := (([] : List MemPlace) ++ (([] : List MemPlace) ++ (p2 ++ (([] : List MemPlace) ++ ([] : List MemPlace)))))) (pv := []) hW' (fun _ _ _ => (trodAll_cons_mk (shut_bool Try.underlying4 _) trodAll_mk0)) ?_ rfl (by simp) hg⟩
  exact trodAll_kept laidOut hg (by kernel_rfl) hA1 (fun x hx => hW'.lt x (by simpa using hx))
theorem cacheLarger_over : Rows.cacheLargerRow.holds Try.pinned (OpenSpec.ofChange Rows.cacheLargerSpec) :=
  OpenClaim.holds_of_wide 5 Try.f5 rfl rfl rfl rfl rfl rfl rfl ⟨rfl, rfl, rfl, rfl, rfl⟩ rfl rfl rfl rfl rfl (by kernel_rfl) Try.func5 (by kernel_rfl)
    (of_decide_eq_true (by kernel_rfl)) (by unfold Func.isWrapper; first | (rw [if_pos (by decide +kernel)]; kernel_rfl) | (rw [if_neg (by decide +kernel)]; exact ⟨rfl, rfl⟩))
    (fun os started H enc _ => cacheLarger_lifted os started H enc)
/-- THE STATEMENT. -/
theorem cacheLarger_holds : Rows.CacheLargerSaid := cacheLarger_over
#print axioms cacheLarger_holds

end Go.Proofs.Ytdbfioafcpjkpaa
