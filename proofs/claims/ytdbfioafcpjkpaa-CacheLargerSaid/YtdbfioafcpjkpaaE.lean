/-
  Rows of slots as lists of cells, and the builtin copy on them.
-/
import Derived.Test.YtdbfioafcpjkpaaD
import Derived.Laws.CopyRow
import Derived.Laws.CopyOwn
import Derived.Deep.RegionLaw
namespace Go.Proofs.Ytdbfioafcpjkpaa
open Go.ChangeShapes Go.WideShapes Go.ChangeAt Go.RowKit

/-- These cells are these slots. -/
def RepV (vs : List Value) (l : List Sl) : Prop := ∀ i x, l[i]? = some x → ∃ s : ByteArray, s.toList = x.1 ∧ vs[i * 2]? = some (.string s) ∧ vs[i * 2 + 1]? = some (.int .i64 x.2)
theorem RepV.row {w : World} {b off : Nat} {vs : List Value} {l : List Sl} (h : RepV vs l) (hc : ∀ j v, vs[j]? = some v → w.cell? ⟨b, off + j, none⟩ = some v) : RowAt w b off l := by
  intro i x hx
  obtain ⟨s, hs, h1, h2⟩ := h i x hx
  exact ⟨s, hs, hc _ _ h1, by rw [Nat.add_assoc]; exact hc _ _ h2⟩
theorem RowAt.cells {w : World} {b off : Nat} {l : List Sl} (h : RowAt w b off l) : ∃ vs, vs.length = l.length * 2 ∧ (∀ j v, vs[j]? = some v → w.cell? ⟨b, off + j, none⟩ = some v) ∧ (∀ v, v ∈ vs → v.oneCell' = true) ∧ RepV vs l := by
  refine ⟨(List.range (l.length * 2)).map (fun j => (w.cell? ⟨b, off + j, none⟩).getD undef), by simp, ?_, ?_, ?_⟩
  · intro j v hv
    obtain ⟨hj, hv⟩ := List.getElem?_eq_some_iff.1 hv
    simp at hj hv
    have hlt : j / 2 < l.length := by omega
    obtain ⟨s, hs, h1, h2⟩ := h (j / 2) l[j / 2] (List.getElem?_eq_getElem hlt)
    rcases Nat.mod_two_eq_zero_or_one j with e | e
    · rw [show off + j / 2 * 2 = off + j by omega] at h1
      rw [h1] at hv ⊢; simp at hv; rw [hv]
    · rw [show off + j / 2 * 2 + 1 = off + j by omega] at h2
      rw [h2] at hv ⊢; simp at hv; rw [hv]
  · intro v hv
    simp at hv
    obtain ⟨j, hj, rfl⟩ := hv
    have hlt : j / 2 < l.length := by omega
    obtain ⟨s, hs, h1, h2⟩ := h (j / 2) l[j / 2] (List.getElem?_eq_getElem hlt)
    rcases Nat.mod_two_eq_zero_or_one j with e | e
    · rw [show off + j / 2 * 2 = off + j by omega] at h1
      rw [h1]; rfl
    · rw [show off + j / 2 * 2 + 1 = off + j by omega] at h2
      rw [h2]; rfl
  · intro i x hx
    obtain ⟨s, hs, h1, h2⟩ := h i x hx
    have hlt := (List.getElem?_eq_some_iff.1 hx).1
    refine ⟨s, hs, ?_, ?_⟩
    · rw [List.getElem?_map, List.getElem?_range (by omega)]; simp [h1]
    · rw [List.getElem?_map, List.getElem?_range (by omega)]; simp [← Nat.add_assoc, h2]
theorem RepV.append {vs us : List Value} {l k : List Sl} (h : RepV vs l) (hl : vs.length = l.length * 2) (h2 : RepV us k) : RepV (vs ++ us) (l ++ k) := by
  intro i x hx
  by_cases hi : i < l.length
  · rw [List.getElem?_append_left hi] at hx
    obtain ⟨s, hs, e1, e2⟩ := h i x hx
    exact ⟨s, hs, by rw [List.getElem?_append_left (by omega)]; exact e1, by rw [List.getElem?_append_left (by omega)]; exact e2⟩
  · rw [List.getElem?_append_right (by omega)] at hx
    obtain ⟨s, hs, e1, e2⟩ := h2 _ x hx
    exact ⟨s, hs, by rw [List.getElem?_append_right (by omega), ← e1]; congr 1; omega, by rw [List.getElem?_append_right (by omega), ← e2]; congr 1; omega⟩
theorem RepV.take {vs : List Value} {l : List Sl} (h : RepV vs l) (n : Nat) : RepV (vs.take (n * 2)) (l.take n) := by
  intro i x hx
  have hi : i < n := by
    have := (List.getElem?_eq_some_iff.1 hx).1
    simp at this; omega
  rw [List.getElem?_take_of_lt hi] at hx
  obtain ⟨s, hs, e1, e2⟩ := h i x hx
  exact ⟨s, hs, by rw [List.getElem?_take_of_lt (by omega)]; exact e1, by rw [List.getElem?_take_of_lt (by omega)]; exact e2⟩
theorem RepV.drop {vs : List Value} {l : List Sl} (h : RepV vs l) (n : Nat) : RepV (vs.drop (n * 2)) (l.drop n) := by
  intro i x hx
  rw [List.getElem?_drop] at hx
  obtain ⟨s, hs, e1, e2⟩ := h _ x hx
  exact ⟨s, hs, by rw [List.getElem?_drop, ← e1]; congr 1; omega, by rw [List.getElem?_drop, ← e2]; congr 1; omega⟩

theorem info34 : (Try.prog.info? 34).map (·.size) = some 2 := by kernel_rfl
/-- copy into a block of the call's own, of elements of two cells. -/
theorem run_copy2 {P : Program} (w : World) (dT sT ty elem : TypeId) (g o dLen dCap : Nat) (a : Addr) (sLen sCap : Nat) (cur : Array Value) (t : TypeId) (cs : List Value) (n : Nat)
    (hu : P.underlying dT = some (.slice elem)) (hs : (P.info? elem).map (·.size) = some 2)
    (hg : w.heap[g]? = some (.cells cur t (0, 0))) (hn : n = Nat.min sLen dLen) (hcs : cs.length = n * 2)
    (hsrc : ∀ j v, cs[j]? = some v → w.cell? (a.add j) = some v) (hfit : o + cs.length ≤ cur.size) (h1 : ∀ v ∈ cs, v.oneCell' = true) :
    (Builtin.copy_ #[dT, sT] ty #[.slice (some ⟨g, o, none⟩) dLen dCap, .slice (some a) sLen sCap]).run P w =
      .ok (goInt n) (w.setRow g (cur.toList.take o ++ cs ++ cur.toList.drop (o + cs.length)).toArray) := by
  have hl := run_loadCells_list (P := P) w a cs hsrc
  have hst := run_storeCells_at P g o t cs 0 cur w hg (by simpa using hfit) h1
  cases hq : P.info? elem with
  | none => simp [hq] at hs
  | some i =>
    have hi : i.size = 2 := by simpa [hq] using hs
    rw [hcs] at hl
    simp [Builtin.copy_, run_underlying hu, Builtin.lenOf, Builtin.firstCells, sizeOf, typeInfo, hq, hi, ← hn, hl, hst]
end Go.Proofs.Ytdbfioafcpjkpaa
