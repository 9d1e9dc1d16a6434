/-
  The arguments of the statements opened: a cache, a list of uses.
-/
import Derived.Test.YtdbfioafcpjkpaaA
import Derived.Test.YtdbfioafcpjkpaaKept
import Derived.Deep.Slices
import Derived.SizedLaws
import Derived.Lib.SmallJoins
namespace Go.Proofs.Ytdbfioafcpjkpaa
open Go.ChangeShapes Go.WideShapes Go.ChangeAt Go.RowKit Go.Joins Go.Deep

theorem own : ownKnob Try.prog.godebug = none := by kernel_rfl
theorem cells24 : Try.prog.cellsOf 24 = 2 := by kernel_rfl
theorem cells34 : Try.prog.cellsOf 34 = 2 := by kernel_rfl
theorem cells39 : Try.prog.cellsOf 39 = 2 := by kernel_rfl
theorem cells9 : Try.prog.cellsOf 9 = 1 := by kernel_rfl
theorem cells3 : Try.prog.cellsOf 3 = 1 := by kernel_rfl
theorem bytes34 : Try.prog.bytesOf 34 = 24 := by kernel_rfl
theorem bytes39 : Try.prog.bytesOf 39 = 24 := by kernel_rfl
theorem int_lo {n : Int} (h : (Lit.int .i64 n).wf = true) : -9223372036854775808 ≤ n := (bounds_i64 h).1
theorem int_hi {n : Int} (h : (Lit.int .i64 n).wf = true) : n ≤ 9223372036854775807 := (bounds_i64 h).2
theorem add_lit (b off n : Nat) : (⟨b, off, none⟩ : Addr).add n = ⟨b, off + n, none⟩ := by simp [Addr.add]
theorem addr_of_cell {w : World} {a : Addr} {v : Value} (h : w.cell? a = some v) : ∃ b off, a = ⟨b, off, none⟩ := by
  obtain ⟨b, off, s⟩ := a
  cases s with
  | none => exact ⟨b, off, rfl⟩
  | some x =>
    simp only [World.cell?] at h
    split at h <;> cases h
section
variable {H : Type} {enc : TypeId × Value → H}
theorem open_slots {T E : TypeId} {f0 f1 : Field} (hT : Try.prog.underlying T = some (.slice E)) (hE : Try.prog.underlying E = some (.struct #[f0, f1])) (t0 : f0.type = 9) (o0 : f0.offset = 0) (t1 : f1.type = 3) (o1 : f1.offset = 1)
    (hC : Try.prog.cellsOf E = 2) (hB : Try.prog.bytesOf E = 24) {W : World} {fuel : Nat} {c : Value} {x : DataW H × List MemPlace} (h : DataW.trod enc Try.prog W 0 (fun _ => true) true fuel T [c] = some x)
    (hz : ∀ n ∈ x.1.weights Try.prog T, n ≤ reachBytes) :
    ∃ (ao : Option Addr) (cap : Nat) (l : List Sl), c = .slice ao l.length cap ∧ l.length ≤ cap ∧ l.length * 24 ≤ 140737488351232 ∧ SlotsAt W ao l := by
  rcases open_slice hT h with ⟨hcs, hx⟩ | ⟨a, len, cap, m, n, D, Pl, hcs, -, hl, hm, hmm, hx, hi⟩
  · simp at hcs
    exact ⟨none, 0, [], by rw [hcs]; rfl, Nat.le_refl _, by simp, Or.inl rfl⟩
  · simp at hcs
    simp only [if_true] at hmm
    subst hmm
    have hr : m * 24 ≤ 140737488351232 := by
      have := hz ((len + (m - len)) * 24) (by rw [hx]; simp [DataW.weights, hT, hB])
      simp only [reachBytes] at this
      omega
    have hcell : ∀ i, i < len → ∃ (s : ByteArray) (y : Int), W.cell? (a.add (i * 2)) = some (.string s) ∧ W.cell? (a.add (i * 2 + 1)) = some (.int .i64 y) := by
      intro i hil
      obtain ⟨cs', hc, ht⟩ := hi i (by omega)
      rw [hC] at hc
      obtain ⟨_, hcl, hat⟩ := World.cells?_some hc
      match cs', hcl with
      | [c0, c1], _ =>
        obtain ⟨y0, y1, k, -, -, e0, e1⟩ := trod_struct2 hE ht
        rw [t0, o0, cells9] at e0
        rw [t1, o1, cells3] at e1
        obtain ⟨s, g0, -, -⟩ := DataW.trod_string Try.underlying9 (by simpa using e0)
        obtain ⟨y, g1, -, -⟩ := DataW.trod_int Try.underlying3 (by simpa using e1)
        simp at g0 g1
        subst g0 g1
        have k0 := hat 0 (by omega)
        have k1 := hat 1 (by omega)
        rw [Go.Deep.add_add] at k0 k1
        exact ⟨s, y, by simpa using k0, by simpa using k1⟩
    rcases Nat.eq_zero_or_pos len with hz0 | hpos
    · subst hz0
      exact ⟨some a, m, [], by rw [hcs]; rfl, by simp, by simp, Or.inl rfl⟩
    · obtain ⟨s0, y0, hc0, -⟩ := hcell 0 (by omega)
      rw [Nat.zero_mul] at hc0
      obtain ⟨b, off, hab⟩ := addr_of_cell hc0
      have hab' : a = ⟨b, off, none⟩ := by
        obtain ⟨ab, ao, asp⟩ := a
        simp [Addr.add] at hab
        obtain ⟨rfl, rfl, rfl⟩ := hab
        rfl
      subst hab'
      have hcell2 : ∀ i, i < len → ∃ (s : ByteArray) (y : Int), W.cell? ⟨b, off + i * 2, none⟩ = some (.string s) ∧ W.cell? ⟨b, off + i * 2 + 1, none⟩ = some (.int .i64 y) := by
        intro i hil
        obtain ⟨s, y, g0, g1⟩ := hcell i hil
        rw [add_lit] at g0 g1
        rw [← Nat.add_assoc] at g1
        exact ⟨s, y, g0, g1⟩
      have hfun : ∃ f : Nat → ByteArray × Int, ∀ i, i < len → W.cell? ⟨b, off + i * 2, none⟩ = some (.string (f i).1) ∧ W.cell? ⟨b, off + i * 2 + 1, none⟩ = some (.int .i64 (f i).2) := by
        refine ⟨fun i => if h : i < len then (Classical.choose (hcell2 i h), Classical.choose (Classical.choose_spec (hcell2 i h))) else (ByteArray.empty, 0), ?_⟩
        intro i hil
        simp only [dif_pos hil]
        exact Classical.choose_spec (Classical.choose_spec (hcell2 i hil))
      obtain ⟨f, hf⟩ := hfun
      refine ⟨some ⟨b, off, none⟩, m, (List.range len).map (fun i => ((f i).1.toList, (f i).2)), by rw [hcs]; simp, by simp; exact hl, by simp; omega, Or.inr ⟨b, off, rfl, ?_⟩⟩
      intro i x hx
      rw [List.getElem?_map] at hx
      obtain ⟨j, hj, rfl⟩ := Option.map_eq_some_iff.1 hx
      obtain ⟨hjl, hje⟩ := List.getElem?_eq_some_iff.1 hj
      simp at hjl hje
      subst hje
      exact ⟨(f i).1, rfl, (hf i hjl).1, (hf i hjl).2⟩
theorem open_cache {W : World} {b0 : Nat} {v : Value} {d : DataW H} {p : List MemPlace} (hv : Value.okWide Try.prog W .any b0 24 v) (h : DataW.Trod enc Try.prog W 0 (fun _ => true) true 24 v d p)
    (hz : ∀ n ∈ d.weights Try.prog 24, n ≤ reachBytes) :
    ∃ (L : Int) (ao : Option Addr) (cap : Nat) (l : List Sl), v = .agg #[.int .i64 L, .slice ao l.length cap] ∧ l.length ≤ cap ∧ l.length * 24 ≤ 140737488351232 ∧ SlotsAt W ao l := by
  obtain ⟨c0, c1, y0, y1, m, rfl, rfl, rfl, hy0, hy1⟩ := open_agg2 Try.underlying24 (by kernel_rfl) cells24 hv h
  obtain ⟨L, e0, -, -⟩ := DataW.trod_int Try.underlying3 hy0
  simp at e0
  subst e0
  obtain ⟨ao, cap, l, rfl, h1, h2, h3⟩ := open_slots Try.underlying22 Try.underlying34 rfl rfl rfl rfl cells34 bytes34 hy1 (fun n hn => hz n (by simp [DataW.weights, Try.underlying24, DataW.weightsEach]; exact Or.inr hn))
  exact ⟨L, ao, cap, l, rfl, h1, h2, h3⟩
theorem open_uses {W : World} {b0 : Nat} {v : Value} {d : DataW H} {p : List MemPlace} (hv : Value.okWide Try.prog W .any b0 36 v) (h : DataW.Trod enc Try.prog W 0 (fun _ => true) true 36 v d p)
    (hz : ∀ n ∈ d.weights Try.prog 36, n ≤ reachBytes) :
    ∃ (ao : Option Addr) (cap : Nat) (l : List Sl), v = .slice ao l.length cap ∧ l.length ≤ cap ∧ l.length * 24 ≤ 140737488351232 ∧ SlotsAt W ao l := by
  obtain ⟨x0, len, cap, rfl⟩ := okWide_slice Try.underlying36 hv
  obtain ⟨fuel, hf⟩ := h
  exact open_slots Try.underlying36 Try.underlying39 rfl rfl rfl rfl cells39 bytes39 (by simpa [Value.cells] using hf) hz
end
end Go.Proofs.Ytdbfioafcpjkpaa
