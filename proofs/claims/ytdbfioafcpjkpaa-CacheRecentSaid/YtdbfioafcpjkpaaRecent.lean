/-
  Proves that asoflaw34.CacheRecent returns true for every input and leaves its arguments as they were: after any uses, the slots are in the order of the last uses of their keys, with the weights of those. No condition.
-/
import Derived.Test.YtdbfioafcpjkpaaRecentWalk
import Derived.Test.YtdbfioafcpjkpaaFrame
namespace Go.Proofs.Ytdbfioafcpjkpaa
open Go.ChangeShapes Go.WideShapes Go.ChangeAt Go.RowKit Go.Joins Go.Deep
open Go.ChangeMaps (open_string)
set_option maxRecDepth 100000 in
theorem cacheRecent_lifted (os : Os) (started : os.Started) (H : Type) (enc : TypeId × Value → H) :
    ReturnsInHanded {} Try.checked os 4 .any (Rows.cacheRecentSpec.pre6 enc Try.prog Try.f4 Rows.cacheRecentRow.domain false) (Rows.cacheRecentSpec.post enc Try.prog Try.f4 false true false false) := by
  refine returnsInHanded_of_change_sized (C := Try.checked) own started (by kernel_rfl) Try.func4
    (ChangeSpec.witness6 (enc := enc) (C := Try.checked) false ⟨#[], #[.int .i64 0, .slice none 0 0], []⟩ 8 (by kernel_rfl) (by kernel_rfl) (by kernel_rfl) (by kernel_rfl)) ?_
  intro W base args ds gs before hval0 hW hcnd hsz0 _
  have hval : ∀ (j : Nat) t v, Try.f4.params[j]? = some t → args[j]? = some v → Value.okWide Try.prog W .any base t v := hval0
  have hsz : (DataW.weightsEach Try.prog (Try.f4.params.toList ++ Rows.cacheRecentSpec.plain.varTypes Try.prog) (ds ++ gs)).all (· ≤ reachBytes) = true := hsz0
  have hW' := hW
  obtain ⟨p, q, hA0, hV, rfl, hfz, hnd⟩ := hW
  have hA : DataW.TrodAll enc Try.prog W 0 (fun _ => true) true Try.f4.params.toList args.toList ds p := hA0
  have hA1 := hA
  rw [Try.params4] at hA hval hsz
  obtain ⟨v0, vs0, d0, ds0, p0, q0, hargs, rfl, rfl, h0, r0⟩ := trodAll_cons hA
  obtain ⟨v1, vs1, d1, ds1, p1, q1, rfl, rfl, rfl, h1, r1⟩ := trodAll_cons r0
  obtain ⟨rfl, rfl, rfl⟩ := trodAll_nil r1
  obtain rfl : args = #[v0, v1] := by cases args; simp_all
  obtain ⟨rfl, rfl⟩ := trodVars_none hV
  have hmem := fun (j : Nat) (t : TypeId) (d : DataW H) (h1 : _) (h2 : _) (m : Nat) (hm : m ∈ d.weights Try.prog t) => of_decide_eq_true (List.all_eq_true.1 hsz m (DataW.weights_mem_each (j := j) (t := t) (d := d) h1 h2 m hm))
  obtain ⟨a0, rfl, rfl, rfl, w0⟩ := open_int Try.underlying3 (hval 0 3 v0 rfl rfl) h0
  obtain ⟨ao1, cap1, l1, rfl, hc1, hl1, hs1⟩ := open_uses (hval 1 36 v1 rfl rfl) h1 (hmem 1 36 d1 rfl rfl)
  clear hA0 hval0 hmem
  simp only [List.append_nil] at hW'
  refine (recent_any a0 l1 ao1 cap1 hl1 W hs1).mono fun e W' ⟨he, hg⟩ => ?_
  subst he
  refine ⟨_, rfl, post_kept (pa := (([] : List MemPlace) ++ (p1 ++ ([] : List MemPlace)))) (pv := []) hW' (fun _ _ _ => (trodAll_cons_mk (shut_bool Try.underlying4 _) trodAll_mk0)) ?_ rfl (by simp) hg⟩
  exact trodAll_kept laidOut hg (by kernel_rfl) hA1 (fun x hx => hW'.lt x (by simpa using hx))
theorem cacheRecent_over : Rows.cacheRecentRow.holds Try.pinned (OpenSpec.ofChange Rows.cacheRecentSpec) :=
  OpenClaim.holds_of_wide 4 Try.f4 rfl rfl rfl rfl rfl rfl rfl ⟨rfl, rfl, rfl, rfl, rfl⟩ rfl rfl rfl rfl rfl (by kernel_rfl) Try.func4 (by kernel_rfl)
    (of_decide_eq_true (by kernel_rfl)) (by unfold Func.isWrapper; first | (rw [if_pos (by decide +kernel)]; kernel_rfl) | (rw [if_neg (by decide +kernel)]; exact ⟨rfl, rfl⟩))
    (fun os started H enc _ => cacheRecent_lifted os started H enc)
/-- THE STATEMENT. -/
theorem cacheRecent_holds : Rows.CacheRecentSaid := cacheRecent_over
#print axioms cacheRecent_holds

end Go.Proofs.Ytdbfioafcpjkpaa
