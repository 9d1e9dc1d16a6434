/-
  Proves that asoflaw01.ExactSums returns true for every input and leaves its arguments as they were: a sum of products does not depend on the order of its terms, and taking the same products away, in whatever order, leads back to 0. No condition.
-/
import Derived.Test.YtjjibddpgjoeeaaSumsWalk
import Derived.Test.YtjjibddpgjoeeaaFrame
import Derived.Test.YtjjibddpgjoeeaaKept
import Derived.Deep.Slices
import Derived.SizedLaws
namespace Go.Proofs.Ytjjibddpgjoeeaa
open Go.ChangeShapes Go.WideShapes Go.ChangeAt Go.RowKit Go.Joins Go.Deep

theorem cells42 : Try.prog.cellsOf 42 = 2 := by kernel_rfl
theorem cells3 : Try.prog.cellsOf 3 = 1 := by kernel_rfl
theorem bytes42 : Try.prog.bytesOf 42 = 16 := by kernel_rfl

set_option maxRecDepth 100000 in
theorem sums_empty (a : Option Addr) (cap : Nat) (by_ : Int) (w : World) :
    Calls Try.prog 12 #[.slice a 0 cap, .int .i64 by_] w fun e w' => e = .returned (.bool true) ∧ Below w.heap.size w w' := by
  have o0 := Lib.hid (fun w => of_any 0 w (by decide) (by decide))
  go_enter Try.func12, Try.ntmps12
  go_wp2_with fail
  refine (example_any _).mono ?_
  rintro e w1 ⟨rfl, hb1⟩
  go_wp2_with fail
  refine (o0.out _).mono ?_
  rintro e w2 ⟨rfl, hb2⟩
  go_wp2_with fail
  refine (o0.out _).mono ?_
  rintro e w3 ⟨rfl, hb3⟩
  have HB3 := (hb1.trans (hb2.mono hb1.size)).trans (hb3.mono (hb1.trans (hb2.mono hb1.size)).size)
  have hz3 := HB3.size
  clear hb1 hb2 hb3
  go_wp2_with fail
  refine wp_gen (fun W hW => ?_)
  have HW : Below w.heap.size w W := by rw [hW]; exact (HB3.alloc hz3 _).alloc (by simp; omega) _
  have k0 : W.cell? ⟨w3.heap.size, 0, none⟩ = some (.int .i64 (whi 0)) := by rw [hW]; simp [go_sem]
  have k1 : W.cell? ⟨w3.heap.size, 1, none⟩ = some (.int .u64 (wlo 0)) := by rw [hW]; simp [go_sem]
  have k2 : W.cell? ⟨w3.heap.size + 1, 0, none⟩ = some (.int .i64 (whi 0)) := by rw [hW]; simp [go_sem]
  have k3 : W.cell? ⟨w3.heap.size + 1, 1, none⟩ = some (.int .u64 (wlo 0)) := by rw [hW]; simp [go_sem]
  clear hW HB3 hz3
  go_loopw [8] (fun i wr => i = .int .i64 0 ∧ W = wr) (fun _ _ => 0)
  case atStart => exact ⟨rfl, rfl⟩
  case round =>
    obtain ⟨rfl, rfl⟩ := hrel
    go_wp2_with fail
    go_loopw [11] (fun i wr => i = .int .i64 0 ∧ W = wr) (fun _ _ => 0)
    case atStart => exact ⟨rfl, rfl⟩
    case round =>
      obtain ⟨rfl, rfl⟩ := hrel
      have hl := lt_of_cell k0
      have HS : Hid (∀ w', Below W.heap.size W w' → Below W.heap.size W w' ∧ w'.cell? ⟨w3.heap.size, 0, none⟩ = some (.int .i64 (whi 0)) ∧ w'.cell? ⟨w3.heap.size, 1, none⟩ = some (.int .u64 (wlo 0))) :=
        fun w' h => ⟨h, (h.cell hl).trans k0, (h.cell hl).trans k1⟩
      go_wp2_with fail
      go_region_held3 (fun w' => Below W.heap.size W w' ∧ w'.cell? ⟨w3.heap.size, 0, none⟩ = some (.int .i64 (whi 0)) ∧ w'.cell? ⟨w3.heap.size, 1, none⟩ = some (.int .u64 (wlo 0)))
        (first | exact HS.out _ ((Below.refl _ _).drew) | exact HS.out _ (keepB (Nat.le_refl _) (And.left (by assumption)) hb))
        (first
         | (go_at_call 20; refine (o0.out _).mono ?_; rintro e w' ⟨rfl, hb⟩))
      have HL : Below W.heap.size W w' := And.left (by assumption)
      go_wp2_with fail
      go_ret
      exact ⟨rfl, HW.trans (HL.mono HW.size)⟩

theorem add_at (b off n : Nat) : (⟨b, off, none⟩ : Addr).add n = ⟨b, off + n, none⟩ := by simp [Addr.add]
theorem addr_of_cell {w : World} {a : Addr} {v : Value} (h : w.cell? a = some v) : ∃ b off, a = ⟨b, off, none⟩ := by
  obtain ⟨b, off, s⟩ := a
  cases s with
  | none => exact ⟨b, off, rfl⟩
  | some x =>
    simp only [World.cell?] at h
    split at h <;> cases h

set_option maxHeartbeats 1000000 in
set_option maxRecDepth 100000 in
theorem exactSums_lifted (os : Os) (started : os.Started) (H : Type) (enc : TypeId × Value → H) :
    ReturnsInHanded {} Try.checked os 12 .any (Rows.exactSumsSpec.pre6 enc Try.prog Try.f12 Rows.exactSumsRow.domain false) (Rows.exactSumsSpec.post enc Try.prog Try.f12 false true false false) := by
  refine returnsInHanded_of_change_sized (C := Try.checked) own started (by kernel_rfl) Try.func12
    (ChangeSpec.witness6 (enc := enc) (C := Try.checked) false ⟨#[], #[.slice none 0 0, .int .i64 0], []⟩ 8 (by kernel_rfl) (by kernel_rfl) (by kernel_rfl) (by kernel_rfl)) ?_
  intro W base args ds gs before hval0 hW hcnd hsz0 _
  have hval : ∀ (j : Nat) t v, Try.f12.params[j]? = some t → args[j]? = some v → Value.okWide Try.prog W .any base t v := hval0
  have hsz : (DataW.weightsEach Try.prog (Try.f12.params.toList ++ Rows.exactSumsSpec.plain.varTypes Try.prog) (ds ++ gs)).all (· ≤ reachBytes) = true := hsz0
  have hW' := hW
  obtain ⟨p, q, hA0, hV, rfl, hfz, hnd⟩ := hW
  have hA : DataW.TrodAll enc Try.prog W 0 (fun _ => true) true Try.f12.params.toList args.toList ds p := hA0
  have hA1 := hA
  rw [Try.params12] at hA hval hsz
  obtain ⟨v0, vs0, d0, ds0, p0, q0, hargs, rfl, rfl, h0, r0⟩ := trodAll_cons hA
  obtain ⟨v1, vs1, d1, ds1, p1, q1, rfl, rfl, rfl, h1, r1⟩ := trodAll_cons r0
  obtain ⟨rfl, rfl, rfl⟩ := trodAll_nil r1
  obtain rfl : args = #[v0, v1] := by cases args; simp_all
  obtain ⟨rfl, rfl⟩ := trodVars_none hV
  obtain ⟨a1, rfl, rfl, rfl, w1⟩ := open_int Try.underlying3 (hval 1 3 v1 rfl rfl) h1
  have hwalk : Calls Try.prog 12 #[v0, .int .i64 a1] W fun e w' => e = .returned (.bool true) ∧ Below W.heap.size W w' := by
    obtain ⟨x0, len, cap, rfl⟩ := okWide_slice Try.underlying41 (hval 0 41 v0 rfl rfl)
    obtain ⟨fuel, hf⟩ := h0
    rcases open_slice Try.underlying41 hf with ⟨hcs, hx⟩ | ⟨a, len', cap', m, n, D, Pl, hcs, -, hl, hm, hmm, hx, hi⟩
    · simp [Value.cells] at hcs
      obtain ⟨rfl, rfl, rfl⟩ := hcs
      exact sums_empty none 0 a1 W
    · simp [Value.cells] at hcs
      obtain ⟨rfl, rfl, rfl⟩ := hcs
      simp only [if_true] at hmm
      subst hmm
      have hr := sized_slice hsz (j := 0) (t := 41) (e := 42) (elems := (List.range len).map D) (spare := (List.range (m - len)).map fun j => D (len + j)) rfl (by simp only [Prod.mk.injEq] at hx; rw [← hx.1]; rfl) Try.underlying41
      rw [bytes42] at hr
      simp only [List.length_map, List.length_range, reachBytes] at hr
      rcases Nat.eq_zero_or_pos len with hz | hpos
      · subst hz
        exact sums_empty (some a) m a1 W
      · have hcell : ∀ i, i < m → ∃ x y : Int, W.cell? (a.add (i * 2)) = some (.int .i64 x) ∧ W.cell? (a.add (i * 2 + 1)) = some (.int .i64 y) ∧ (-9223372036854775808 ≤ x ∧ x ≤ 9223372036854775807) ∧ (-9223372036854775808 ≤ y ∧ y ≤ 9223372036854775807) := by
          intro i hic
          obtain ⟨cs', hc, ht⟩ := hi i hic
          rw [cells42] at hc
          obtain ⟨_, hcl, hat⟩ := World.cells?_some hc
          match cs', hcl with
          | [c0, c1], _ =>
            obtain ⟨xs, k, -, -, -, hxl, hxi⟩ := DataW.trod_array Try.underlying42 ht
            rw [cells3] at hxi
            have e0 := hxi 0 (by omega)
            have e1 := hxi 1 (by omega)
            match xs, hxl with
            | [z0, z1], _ =>
              obtain ⟨x, f0, -, g0⟩ := DataW.trod_int Try.underlying3 (by simpa using e0)
              obtain ⟨y, f1, -, g1⟩ := DataW.trod_int Try.underlying3 (by simpa using e1)
              simp at f0 f1
              subst f0 f1
              have k0 := hat 0 (by omega)
              have k1 := hat 1 (by omega)
              rw [Go.Deep.add_add] at k0 k1
              exact ⟨x, y, by simpa using k0, by simpa using k1, bounds_i64 g0, bounds_i64 g1⟩
        obtain ⟨x0, y0, hc0, -⟩ := hcell 0 (by omega)
        rw [Nat.zero_mul] at hc0
        obtain ⟨b, off, hab⟩ := addr_of_cell hc0
        have hab' : a = ⟨b, off, none⟩ := by
          obtain ⟨ab, ao, asp⟩ := a
          simp [Addr.add] at hab
          obtain ⟨rfl, rfl, rfl⟩ := hab
          rfl
        subst hab'
        have hcell2 : ∀ i, i < m → ∃ x y : Int, W.cell? ⟨b, off + i * 2, none⟩ = some (.int .i64 x) ∧ W.cell? ⟨b, off + i * 2 + 1, none⟩ = some (.int .i64 y) ∧ (-9223372036854775808 ≤ x ∧ x ≤ 9223372036854775807) ∧ (-9223372036854775808 ≤ y ∧ y ≤ 9223372036854775807) := by
          intro i hic
          obtain ⟨x, y, g0, g1, g2, g3⟩ := hcell i hic
          rw [add_at] at g0 g1
          rw [← Nat.add_assoc] at g1
          exact ⟨x, y, g0, g1, g2, g3⟩
        have hfun : ∃ X Y : Nat → Int, ∀ i, i < m → W.cell? ⟨b, off + i * 2, none⟩ = some (.int .i64 (X i)) ∧ W.cell? ⟨b, off + i * 2 + 1, none⟩ = some (.int .i64 (Y i)) ∧ (-9223372036854775808 ≤ X i ∧ X i ≤ 9223372036854775807) ∧ (-9223372036854775808 ≤ Y i ∧ Y i ≤ 9223372036854775807) := by
          refine ⟨fun i => if h : i < m then Classical.choose (hcell2 i h) else 0, fun i => if h : i < m then Classical.choose (Classical.choose_spec (hcell2 i h)) else 0, ?_⟩
          intro i h
          simp only [dif_pos h]
          exact Classical.choose_spec (Classical.choose_spec (hcell2 i h))
        obtain ⟨X, Y, hXY⟩ := hfun
        exact sums_core b off m len a1 X Y (fun i h => (hXY i (by omega)).2.2.1) (fun i h => (hXY i (by omega)).2.2.2) (by omega) (by omega) W (fun i h => ⟨(hXY i (by omega)).1, (hXY i (by omega)).2.1⟩)
  clear hA0 hval0
  simp only [List.append_nil] at hW'
  refine hwalk.mono fun e W' ⟨he, hg⟩ => ?_
  subst he
  refine ⟨_, rfl, post_kept (pa := p0 ++ ([] ++ [])) (pv := []) hW' (fun _ _ _ => (trodAll_cons_mk (shut_bool Try.underlying4 _) trodAll_mk0)) ?_ rfl (by simp) hg⟩
  exact trodAll_kept laidOut hg (by kernel_rfl) hA1 (fun x hx => hW'.lt x (by simpa using hx))
theorem exactSums_over : Rows.exactSumsRow.holds Try.pinned (OpenSpec.ofChange Rows.exactSumsSpec) :=
  OpenClaim.holds_of_wide 12 Try.f12 rfl rfl rfl rfl rfl rfl rfl ⟨rfl, rfl, rfl, rfl, rfl⟩ rfl rfl rfl rfl rfl (by kernel_rfl) Try.func12 (by kernel_rfl)
    (of_decide_eq_true (by kernel_rfl)) (by unfold Func.isWrapper; first | (rw [if_pos (by decide +kernel)]; kernel_rfl) | (rw [if_neg (by decide +kernel)]; exact ⟨rfl, rfl⟩))
    (fun os started H enc _ => exactSums_lifted os started H enc)
/-- THE STATEMENT. -/
theorem exactSums_holds : Rows.ExactSumsSaid := exactSums_over
#print axioms exactSums_holds
end Go.Proofs.Ytjjibddpgjoeeaa
