/-
  The arguments of the statements opened: an interval, a window, lists of intervals and of ints.
-/
import Derived.Test.YtolkmfpbgheaaaaX
import Derived.Test.YtolkmfpbgheaaaaKept
import Derived.Deep.Slices
import Derived.SizedLaws
import Derived.Lib.SmallJoins
namespace Go.Proofs.Ytolkmfpbgheaaaa
open Go.ChangeShapes Go.WideShapes Go.ChangeAt Go.RowKit Go.Joins Go.Deep

theorem own : ownKnob Try.prog.godebug = none := by kernel_rfl
theorem cells23 : Try.prog.cellsOf 23 = 2 := by kernel_rfl
theorem cells35 : Try.prog.cellsOf 35 = 2 := by kernel_rfl
theorem cells3 : Try.prog.cellsOf 3 = 1 := by kernel_rfl
theorem bytes23 : Try.prog.bytesOf 23 = 16 := by kernel_rfl
theorem bytes3 : Try.prog.bytesOf 3 = 8 := by kernel_rfl
theorem addr_of_cell {w : World} {a : Addr} {v : Value} (h : w.cell? a = some v) : ∃ b off, a = ⟨b, off, none⟩ := by
  obtain ⟨b, off, s⟩ := a
  cases s with
  | none => exact ⟨b, off, rfl⟩
  | some x =>
    simp only [World.cell?] at h
    split at h <;> cases h
section
variable {H : Type} {enc : TypeId × Value → H}
theorem open_slots {W : World} {fuel : Nat} {c : Value} {x : DataW H × List MemPlace} (h : DataW.trod enc Try.prog W 0 (fun _ => true) true fuel 24 [c] = some x)
    (hz : ∀ n ∈ x.1.weights Try.prog 24, n ≤ reachBytes) :
    ∃ (ao : Option Addr) (cap : Nat) (l : List Iv), c = .slice ao l.length cap ∧ l.length ≤ cap ∧ l.length * 16 ≤ 140737488351232 ∧ SlotsAt W ao l ∧ (ao = none → cap = 0) := by
  rcases open_slice Try.underlying24 h with ⟨hcs, hx⟩ | ⟨a, len, cap, m, n, D, Pl, hcs, -, hl, hm, hmm, hx, hi⟩
  · simp at hcs
    exact ⟨none, 0, [], by rw [hcs]; rfl, Nat.le_refl _, by simp, Or.inl rfl, fun _ => rfl⟩
  · simp at hcs
    simp only [if_true] at hmm
    subst hmm
    have hr : m * 16 ≤ 140737488351232 := by
      have := hz ((len + (m - len)) * 16) (by rw [hx]; simp [DataW.weights, Try.underlying24, bytes23])
      simp only [reachBytes] at this
      omega
    have hcell : ∀ i, i < len → ∃ (s y : Int), W.cell? (a.add (i * 2)) = some (.int .i64 s) ∧ W.cell? (a.add (i * 2 + 1)) = some (.int .i64 y) := by
      intro i hil
      obtain ⟨cs', hc, ht⟩ := hi i (by omega)
      rw [cells23] at hc
      obtain ⟨_, hcl, hat⟩ := World.cells?_some hc
      match cs', hcl with
      | [c0, c1], _ =>
        obtain ⟨y0, y1, k, -, -, e0, e1⟩ := trod_struct2 Try.underlying23 ht
        obtain ⟨s, g0, -, -⟩ := DataW.trod_int Try.underlying3 (by simpa [cells3] using e0)
        obtain ⟨y, g1, -, -⟩ := DataW.trod_int Try.underlying3 (by simpa [cells3] using e1)
        simp at g0 g1
        subst g0 g1
        have k0 := hat 0 (by omega)
        have k1 := hat 1 (by omega)
        rw [Go.Deep.add_add] at k0 k1
        exact ⟨s, y, by simpa using k0, by simpa using k1⟩
    rcases Nat.eq_zero_or_pos len with hz0 | hpos
    · subst hz0
      exact ⟨some a, m, [], by rw [hcs]; rfl, by simp, by simp, Or.inl rfl, fun h => (by cases h)⟩
    · obtain ⟨s0, y0, hc0, -⟩ := hcell 0 (by omega)
      rw [Nat.zero_mul] at hc0
      obtain ⟨b, off, hab⟩ := addr_of_cell hc0
      have hab' : a = ⟨b, off, none⟩ := by
        obtain ⟨ab, ao, asp⟩ := a
        simp [Addr.add] at hab
        obtain ⟨rfl, rfl, rfl⟩ := hab
        rfl
      subst hab'
      have hcell2 : ∀ i, i < len → ∃ (s y : Int), W.cell? ⟨b, off + i * 2, none⟩ = some (.int .i64 s) ∧ W.cell? ⟨b, off + i * 2 + 1, none⟩ = some (.int .i64 y) := by
        intro i hil
        obtain ⟨s, y, g0, g1⟩ := hcell i hil
        rw [addr_add] at g0 g1
        rw [← Nat.add_assoc] at g1
        exact ⟨s, y, g0, g1⟩
      have hfun : ∃ f : Nat → Int × Int, ∀ i, i < len → W.cell? ⟨b, off + i * 2, none⟩ = some (.int .i64 (f i).1) ∧ W.cell? ⟨b, off + i * 2 + 1, none⟩ = some (.int .i64 (f i).2) := by
        refine ⟨fun i => if h : i < len then (Classical.choose (hcell2 i h), Classical.choose (Classical.choose_spec (hcell2 i h))) else (0, 0), ?_⟩
        intro i hil
        simp only [dif_pos hil]
        exact Classical.choose_spec (Classical.choose_spec (hcell2 i hil))
      obtain ⟨f, hf⟩ := hfun
      refine ⟨some ⟨b, off, none⟩, m, (List.range len).map f, by rw [hcs]; simp, by simp; exact hl, by simp; omega, Or.inr ⟨b, off, rfl, ?_⟩, fun h => (by cases h)⟩
      intro i x hx
      rw [List.getElem?_map] at hx
      obtain ⟨j, hj, rfl⟩ := Option.map_eq_some_iff.1 hx
      obtain ⟨hjl, hje⟩ := List.getElem?_eq_some_iff.1 hj
      simp at hjl hje
      subst hje
      exact ⟨(hf i hjl).1, (hf i hjl).2⟩
theorem open_islice {W : World} {fuel : Nat} {c : Value} {x : DataW H × List MemPlace} (h : DataW.trod enc Try.prog W 0 (fun _ => true) true fuel 40 [c] = some x)
    (hz : ∀ n ∈ x.1.weights Try.prog 40, n ≤ reachBytes) :
    ∃ (ao : Option Addr) (cap : Nat) (s : List Int), c = .slice ao s.length cap ∧ s.length ≤ cap ∧ s.length * 8 ≤ 140737488351232 ∧ IntsIn W ao s ∧ (ao = none → cap = 0) := by
  rcases open_slice Try.underlying40 h with ⟨hcs, hx⟩ | ⟨a, len, cap, m, n, D, Pl, hcs, -, hl, hm, hmm, hx, hi⟩
  · simp at hcs
    exact ⟨none, 0, [], by rw [hcs]; rfl, Nat.le_refl _, by simp, Or.inl rfl, fun _ => rfl⟩
  · simp at hcs
    simp only [if_true] at hmm
    subst hmm
    have hr : m * 8 ≤ 140737488351232 := by
      have := hz ((len + (m - len)) * 8) (by rw [hx]; simp [DataW.weights, Try.underlying40, bytes3])
      simp only [reachBytes] at this
      omega
    have hcell : ∀ i, i < len → ∃ (s : Int), W.cell? (a.add i) = some (.int .i64 s) := by
      intro i hil
      obtain ⟨cs', hc, ht⟩ := hi i (by omega)
      rw [cells3] at hc
      obtain ⟨_, hcl, hat⟩ := World.cells?_some hc
      match cs', hcl with
      | [c0], _ =>
        obtain ⟨s, g0, -, -⟩ := DataW.trod_int Try.underlying3 ht
        simp at g0
        subst g0
        have k0 := hat 0 (by omega)
        rw [Go.Deep.add_add] at k0
        exact ⟨s, by simpa using k0⟩
    rcases Nat.eq_zero_or_pos len with hz0 | hpos
    · subst hz0
      exact ⟨some a, m, [], by rw [hcs]; rfl, by simp, by simp, Or.inl rfl, fun h => (by cases h)⟩
    · obtain ⟨s0, hc0⟩ := hcell 0 (by omega)
      obtain ⟨b, off, hab⟩ := addr_of_cell hc0
      have hab' : a = ⟨b, off, none⟩ := by
        obtain ⟨ab, ao, asp⟩ := a
        simp [Addr.add] at hab
        obtain ⟨rfl, rfl, rfl⟩ := hab
        rfl
      subst hab'
      have hcell2 : ∀ i, i < len → ∃ (s : Int), W.cell? ⟨b, off + i, none⟩ = some (.int .i64 s) := by
        intro i hil
        obtain ⟨s, g0⟩ := hcell i hil
        rw [addr_add] at g0
        exact ⟨s, g0⟩
      have hfun : ∃ f : Nat → Int, ∀ i, i < len → W.cell? ⟨b, off + i, none⟩ = some (.int .i64 (f i)) := by
        refine ⟨fun i => if h : i < len then Classical.choose (hcell2 i h) else 0, ?_⟩
        intro i hil
        simp only [dif_pos hil]
        exact Classical.choose_spec (hcell2 i hil)
      obtain ⟨f, hf⟩ := hfun
      refine ⟨some ⟨b, off, none⟩, m, (List.range len).map f, by rw [hcs]; simp, by simp; exact hl, by simp; omega, Or.inr ⟨b, off, rfl, ?_⟩, fun h => (by cases h)⟩
      intro i x hx
      rw [List.getElem?_map] at hx
      obtain ⟨j, hj, rfl⟩ := Option.map_eq_some_iff.1 hx
      obtain ⟨hjl, hje⟩ := List.getElem?_eq_some_iff.1 hj
      simp at hjl hje
      subst hje
      exact hf i hjl
theorem open_ivs {W : World} {b0 : Nat} {v : Value} {d : DataW H} {p : List MemPlace} (hv : Value.okWide Try.prog W .any b0 24 v) (h : DataW.Trod enc Try.prog W 0 (fun _ => true) true 24 v d p)
    (hz : ∀ n ∈ d.weights Try.prog 24, n ≤ reachBytes) :
    ∃ (ao : Option Addr) (cap : Nat) (l : List Iv), v = .slice ao l.length cap ∧ l.length ≤ cap ∧ l.length * 16 ≤ 140737488351232 ∧ SlotsAt W ao l ∧ (ao = none → cap = 0) := by
  obtain ⟨x0, len, cap, rfl⟩ := okWide_slice Try.underlying24 hv
  obtain ⟨fuel, hf⟩ := h
  exact open_slots (by simpa [Value.cells] using hf) hz
theorem open_evs {W : World} {b0 : Nat} {v : Value} {d : DataW H} {p : List MemPlace} (hv : Value.okWide Try.prog W .any b0 40 v) (h : DataW.Trod enc Try.prog W 0 (fun _ => true) true 40 v d p)
    (hz : ∀ n ∈ d.weights Try.prog 40, n ≤ reachBytes) :
    ∃ (ao : Option Addr) (cap : Nat) (s : List Int), v = .slice ao s.length cap ∧ s.length ≤ cap ∧ s.length * 8 ≤ 140737488351232 ∧ IntsIn W ao s ∧ (ao = none → cap = 0) := by
  obtain ⟨x0, len, cap, rfl⟩ := okWide_slice Try.underlying40 hv
  obtain ⟨fuel, hf⟩ := h
  exact open_islice (by simpa [Value.cells] using hf) hz
theorem open_iv {W : World} {b0 : Nat} {v : Value} {d : DataW H} {p : List MemPlace} (hv : Value.okWide Try.prog W .any b0 23 v) (h : DataW.Trod enc Try.prog W 0 (fun _ => true) true 23 v d p) : ∃ a b : Int, v = iv a b := by
  obtain ⟨c0, c1, y0, y1, m, rfl, rfl, rfl, hy0, hy1⟩ := open_agg2 Try.underlying23 (by kernel_rfl) cells23 hv h
  obtain ⟨a, e0, -, -⟩ := DataW.trod_int Try.underlying3 hy0
  obtain ⟨b, e1, -, -⟩ := DataW.trod_int Try.underlying3 hy1
  simp at e0 e1
  subst e0 e1
  exact ⟨a, b, rfl⟩
theorem open_win {W : World} {b0 : Nat} {v : Value} {d : DataW H} {p : List MemPlace} (hv : Value.okWide Try.prog W .any b0 35 v) (h : DataW.Trod enc Try.prog W 0 (fun _ => true) true 35 v d p) : ∃ a b : Int, v = iv a b := by
  obtain ⟨c0, c1, y0, y1, m, rfl, rfl, rfl, hy0, hy1⟩ := open_agg2 Try.underlying35 (by kernel_rfl) cells35 hv h
  obtain ⟨a, e0, -, -⟩ := DataW.trod_int Try.underlying3 hy0
  obtain ⟨b, e1, -, -⟩ := DataW.trod_int Try.underlying3 hy1
  simp at e0 e1
  subst e0 e1
  exact ⟨a, b, rfl⟩
end
end Go.Proofs.Ytolkmfpbgheaaaa
