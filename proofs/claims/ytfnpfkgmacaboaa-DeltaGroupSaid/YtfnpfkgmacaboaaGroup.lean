/-
  Proves that asoflaw20.DeltaGroup returns true for every input and leaves its arguments as they were: lists of differences form a commutative group. No condition.
-/
import Derived.Test.YtfnpfkgmacaboaaTK
import Derived.Test.YtfnpfkgmacaboaaRC
import Derived.Test.YtfnpfkgmacaboaaOpen
namespace Go.Proofs.Ytfnpfkgmacaboaa
open Go.ChangeShapes Go.WideShapes Go.ChangeAt Go.RowKit Go.Joins Go.Deep
open Go.ChangeMaps (open_string)
set_option maxRecDepth 100000 in
theorem deltaGroup_lifted (os : Os) (started : os.Started) (H : Type) (enc : TypeId × Value → H) :
    ReturnsInHanded {} Try.checked os 4 .any (Rows.deltaGroupSpec.pre6 enc Try.prog Try.f4 Rows.deltaGroupRow.domain false) (Rows.deltaGroupSpec.post enc Try.prog Try.f4 false true false false) := by
  refine returnsInHanded_of_change_sized (C := Try.checked) own started (by kernel_rfl) Try.func4
    (ChangeSpec.witness6 (enc := enc) (C := Try.checked) false ⟨#[], #[.slice none 0 0, .slice none 0 0, .slice none 0 0], []⟩ 8 (by kernel_rfl) (by kernel_rfl) (by kernel_rfl) (by kernel_rfl)) ?_
  intro W base args ds gs before hval0 hW hcnd hsz0 _
  have hval : ∀ (j : Nat) t v, Try.f4.params[j]? = some t → args[j]? = some v → Value.okWide Try.prog W .any base t v := hval0
  have hsz : (DataW.weightsEach Try.prog (Try.f4.params.toList ++ Rows.deltaGroupSpec.plain.varTypes Try.prog) (ds ++ gs)).all (· ≤ reachBytes) = true := hsz0
  have hW' := hW
  obtain ⟨p, q, hA0, hV, rfl, hfz, hnd⟩ := hW
  have hA : DataW.TrodAll enc Try.prog W 0 (fun _ => true) true Try.f4.params.toList args.toList ds p := hA0
  have hA1 := hA
  rw [Try.params4] at hA hval hsz
  obtain ⟨v0, vs0, d0, ds0, p0, q0, hargs, rfl, rfl, h0, r0⟩ := trodAll_cons hA
  obtain ⟨v1, vs1, d1, ds1, p1, q1, rfl, rfl, rfl, h1, r1⟩ := trodAll_cons r0
  obtain ⟨v2, vs2, d2, ds2, p2, q2, rfl, rfl, rfl, h2, r2⟩ := trodAll_cons r1
  obtain ⟨rfl, rfl, rfl⟩ := trodAll_nil r2
  obtain rfl : args = #[v0, v1, v2] := by cases args; simp_all
  obtain ⟨rfl, rfl⟩ := trodVars_none hV
  have hmem := fun (j : Nat) (t : TypeId) (d : DataW H) (h1 : _) (h2 : _) (m : Nat) (hm : m ∈ d.weights Try.prog t) => of_decide_eq_true (List.all_eq_true.1 hsz m (DataW.weights_mem_each (j := j) (t := t) (d := d) h1 h2 m hm))
  obtain ⟨ao0, cap0, l0, rfl, hb0, hl0, hs0, hn0, hp0⟩ := open_dls (hval 0 22 v0 rfl rfl) h0 (hmem 0 22 d0 rfl rfl)
  obtain ⟨ao1, cap1, l1, rfl, hb1, hl1, hs1, hn1, hp1⟩ := open_dls (hval 1 22 v1 rfl rfl) h1 (hmem 1 22 d1 rfl rfl)
  obtain ⟨ao2, cap2, l2, rfl, hb2, hl2, hs2, hn2, hp2⟩ := open_dls (hval 2 22 v2 rfl rfl) h2 (hmem 2 22 d2 rfl rfl)
  clear hA0 hval0 hmem
  simp only [List.append_nil] at hW'
  refine (group_any example_any l0 l1 l2 ao0 ao1 ao2 cap0 cap1 cap2 hb0 hb1 hb2 hn0 hn1 hn2 hp0 hp1 W hl0 hs0 hl1 hs1 hl2 hs2).mono fun e W' ⟨he, hg⟩ => ?_
  subst he
  refine ⟨_, rfl, post_kept (pa := (p0 ++ (p1 ++ (p2 ++ ([] : List MemPlace))))) (pv := []) hW' (fun _ _ _ => (trodAll_cons_mk (shut_bool Try.underlying4 _) trodAll_mk0)) ?_ rfl (by simp) hg⟩
  exact trodAll_kept laidOut hg (by kernel_rfl) hA1 (fun x hx => hW'.lt x (by simpa using hx))
theorem deltaGroup_over : Rows.deltaGroupRow.holds Try.pinned (OpenSpec.ofChange Rows.deltaGroupSpec) :=
  OpenClaim.holds_of_wide 4 Try.f4 rfl rfl rfl rfl rfl rfl rfl ⟨rfl, rfl, rfl, rfl, rfl⟩ rfl rfl rfl rfl rfl (by kernel_rfl) Try.func4 (by kernel_rfl)
    (of_decide_eq_true (by kernel_rfl)) (by unfold Func.isWrapper; first | (rw [if_pos (by decide +kernel)]; kernel_rfl) | (rw [if_neg (by decide +kernel)]; exact ⟨rfl, rfl⟩))
    (fun os started H enc _ => deltaGroup_lifted os started H enc)
/-- THE STATEMENT. -/
theorem deltaGroup_holds : Rows.DeltaGroupSaid := deltaGroup_over
#print axioms deltaGroup_holds

end Go.Proofs.Ytfnpfkgmacaboaa
