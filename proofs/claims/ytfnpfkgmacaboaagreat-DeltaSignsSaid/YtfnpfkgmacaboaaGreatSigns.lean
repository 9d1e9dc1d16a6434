/-
  Proves that asoflaw20.DeltaSigns returns true for every input and leaves its arguments as they were: each difference of a valid log has the tick of an entry and says what an entry up to this tick says, its count is 1 or -1, and at every tick at most one row of a base is there. No condition.
-/
import Derived.Test.YtfnpfkgmacaboaaGreatLA6
import Derived.Test.YtfnpfkgmacaboaaGreatM45
import Derived.Test.YtfnpfkgmacaboaaGreatM43
namespace Go.Proofs.YtfnpfkgmacaboaaGreat
open Go.ChangeShapes Go.WideShapes Go.ChangeAt Go.RowKit Go.Joins Go.Deep
open Go.ChangeMaps (open_string)
set_option maxRecDepth 100000 in
theorem deltaSigns_lifted (os : Os) (started : os.Started) (H : Type) (enc : TypeId × Value → H) :
    ReturnsInHanded {} Tryz.checked os 6 .any (Rows.deltaSignsSpec.pre6 enc Tryz.prog Tryz.f6 Rows.deltaSignsRow.domain false) (Rows.deltaSignsSpec.post enc Tryz.prog Tryz.f6 false true false false) := by
  refine returnsInHanded_of_change_sized (C := Tryz.checked) own started (by kernel_rfl) Tryz.func6
    (ChangeSpec.witness6 (enc := enc) (C := Tryz.checked) false ⟨#[], #[.slice none 0 0, .int .i64 0], []⟩ 8 (by kernel_rfl) (by kernel_rfl) (by kernel_rfl) (by kernel_rfl)) ?_
  intro W base args ds gs before hval0 hW hcnd hsz0 _
  have hval : ∀ (j : Nat) t v, Tryz.f6.params[j]? = some t → args[j]? = some v → Value.okWide Tryz.prog W .any base t v := hval0
  have hsz : (DataW.weightsEach Tryz.prog (Tryz.f6.params.toList ++ Rows.deltaSignsSpec.plain.varTypes Tryz.prog) (ds ++ gs)).all (· ≤ reachBytes) = true := hsz0
  have hW' := hW
  obtain ⟨p, q, hA0, hV, rfl, hfz, hnd⟩ := hW
  have hA : DataW.TrodAll enc Tryz.prog W 0 (fun _ => true) true Tryz.f6.params.toList args.toList ds p := hA0
  have hA1 := hA
  rw [Tryz.params6] at hA hval hsz
  obtain ⟨v0, vs0, d0, ds0, p0, q0, hargs, rfl, rfl, h0, r0⟩ := trodAll_cons hA
  obtain ⟨v1, vs1, d1, ds1, p1, q1, rfl, rfl, rfl, h1, r1⟩ := trodAll_cons r0
  obtain ⟨rfl, rfl, rfl⟩ := trodAll_nil r1
  obtain rfl : args = #[v0, v1] := by cases args; simp_all
  obtain ⟨rfl, rfl⟩ := trodVars_none hV
  have hmem := fun (j : Nat) (t : TypeId) (d : DataW H) (h1 : _) (h2 : _) (m : Nat) (hm : m ∈ d.weights Tryz.prog t) => of_decide_eq_true (List.all_eq_true.1 hsz m (DataW.weights_mem_each (j := j) (t := t) (d := d) h1 h2 m hm))
  obtain ⟨ao0, cap0, l0, rfl, hb0, hl0, hs0, hn0, hp0⟩ := open_ens (hval 0 22 v0 rfl rfl) h0 (hmem 0 22 d0 rfl rfl)
  obtain ⟨a1, rfl, rfl, rfl, w1⟩ := open_int Tryz.underlying3 (hval 1 3 v1 rfl rfl) h1
  clear hA0 hval0 hmem
  simp only [List.append_nil] at hW'
  refine (lsigns_any l0 ao0 cap0 a1 hb0 W hl0 hs0).mono fun e W' ⟨he, hg⟩ => ?_
  subst he
  refine ⟨_, rfl, post_kept (pa := (p0 ++ (([] : List MemPlace) ++ ([] : List MemPlace)))) (pv := []) hW' (fun _ _ _ => (trodAll_cons_mk (shut_bool Tryz.underlying4 _) trodAll_mk0)) ?_ rfl (by simp) hg⟩
  exact ZcZ laidOut hg (by kernel_rfl) hA1 (fun x hx => hW'.lt x (by simpa using hx))
theorem deltaSigns_over : Rows.deltaSignsRow.holds Tryz.pinned (OpenSpec.ofChange Rows.deltaSignsSpec) :=
  OpenClaim.holds_of_wide 6 Tryz.f6 rfl rfl rfl rfl rfl rfl rfl ⟨rfl, rfl, rfl, rfl, rfl⟩ rfl rfl rfl rfl rfl (by kernel_rfl) Tryz.func6 (by kernel_rfl)
    (of_decide_eq_true (by kernel_rfl)) (by unfold Func.isWrapper; first | (rw [if_pos (by decide +kernel)]; kernel_rfl) | (rw [if_neg (by decide +kernel)]; exact ⟨rfl, rfl⟩))
    (fun os started H enc _ => deltaSigns_lifted os started H enc)
/-- THE STATEMENT. -/
theorem deltaSigns_holds : Rows.DeltaSignsSaid := deltaSigns_over
#print axioms deltaSigns_holds

end Go.Proofs.YtfnpfkgmacaboaaGreat
