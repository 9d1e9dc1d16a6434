/-
  slices.SortFunc on a list of valid intervals of the call's own.
-/
import Derived.Test.YtolkmfpbgheaaaaU1
import Derived.Lib.OwnBridge
import Derived.Shelf.SlSortCmp.NoneTotal
namespace Go.Proofs.Ytolkmfpbgheaaaa
open Go.ChangeShapes Go.WideShapes Go.ChangeAt Go.RowKit Go.Shelf Go.Sort
set_option linter.unusedVariables false
set_option linter.unusedSimpArgs false

theorem below_grow {B : Nat} {w X : World} (h : Go.RowKit.Below B w X) (hB : B ≤ X.heap.size) (os : Array Obj) : Go.RowKit.Below B w (grow X os) :=
  ⟨h.os, h.tape, h.output, by have := h.size; simp [grow]; omega, fun k hk => by
    rw [← h.block k hk]
    simp [grow, Array.getElem?_append, show k < X.heap.size by omega]⟩
theorem sort_own (l : List Iv) (hok : AllOk l) (hl : l.length < 4611686018427387904) (B : Nat) (ao : Option Addr) (c : Nat) (w : World) (hB : B ≤ w.heap.size) (h : OwnIv w B (.slice ao l.length c) l) :
    Calls Try.prog 28 #[.slice ao l.length c, .func (.func 29) #[] #[]] w fun e w' => e = .returned (.tuple #[]) ∧ ∃ p, l.Perm p ∧ Sorted1 p ∧ SlotsAt w' ao p ∧ Go.RowKit.Below B w w' := by
  by_cases h0 : l = []
  · subst h0
    refine (Go.Proofs.AnyF.slices_SortFunc_none Try.sortIv ao c (.func (.func 29) #[] #[]) w).mono ?_
    rintro e w' ⟨rfl, rfl⟩
    exact ⟨rfl, [], List.Perm.refl _, List.Pairwise.nil, Or.inl rfl, Go.RowKit.Below.refl _ _⟩
  · rcases h.2 with ⟨h1, h2⟩ | ⟨g, cap, cur, h1, h2, h3, h4, h5, h6, h7⟩
    · exact absurd (List.eq_nil_of_length_eq_zero h2) h0
    · injection h1 with e1 e2 e3
      subst e1 e3
      have hg : g < w.heap.size := (Array.getElem?_eq_some_iff.1 h3).1
      have hc := fun j v hj => RowAt.of_own (w := w) (g := g) (cur := cur) (l := l) h3 (by rw [ivCells_length]; exact h7) j v hj
      have hok' : ∀ x, x ∈ l → okI x.1 x.2 = true := hok
      let d : Array OkIv := (l.attachWith (fun x => okI x.1 x.2 = true) hok').toArray
      have hd : d.size = l.length := by simp [d]
      have hdl : d.toList.map (·.1) = l := by
        apply List.ext_getElem
        · simp [d]
        · intro i h1 h2
          simp [d]
      have hget : ∀ (i : Nat) (hi : i < l.length), (d[i]!).1 = l[i] := by
        intro i hi
        rw [getElem!_pos d i (by omega)]
        simp [d]
      have hH : HoldsK encOk 2 w g 0 d := by
        intro j hj
        rw [size_flatK] at hj
        refine ⟨?_, by simp [World.frozen?, h3]⟩
        rw [get_flatK _ _ _ _ hj, Nat.zero_add]
        have hi : j / 2 < l.length := by omega
        obtain ⟨q1, q2⟩ := ivCells_get l (j / 2) l[j / 2] (List.getElem?_eq_getElem hi)
        rw [show encOk d[j / 2]! = [.int .i64 l[j / 2].1, .int .i64 l[j / 2].2] by unfold encOk; rw [hget _ hi]]
        rcases Nat.mod_two_eq_zero_or_one j with e | e
        · rw [e]; rw [show j / 2 * 2 = j by omega] at q1; exact hc _ _ q1
        · rw [e]; rw [show j / 2 * 2 + 1 = j by omega] at q2; exact hc _ _ q2
      have hs := sort_any g 0 c d w hH hg (by omega)
      rw [hd] at hs
      refine hs.mono ?_
      rintro e w' ⟨rfl, d', n, os, hp, hso, rfl⟩
      obtain ⟨p1, -, p3⟩ := hp
      have e1 : (d'.extract 0 l.length).toList = d'.toList := by rw [← hd, ← p1]; simp
      have e2 : (d.extract 0 l.length).toList = d.toList := by rw [← hd]; simp
      rw [e1, e2] at p3
      have hperm : l.Perm (d'.toList.map (·.1)) := by
        have := (p3.map (·.1)).symm
        rwa [hdl] at this
      have hsz : d'.size = l.length := by omega
      refine ⟨rfl, d'.toList.map (·.1), hperm, ?_, Or.inr ⟨g, 0, rfl, ?_⟩, ?_⟩
      · unfold Sorted1
        rw [List.pairwise_iff_getElem]
        intro i j hi hj hij
        simp at hi hj
        have := hso i j (Nat.zero_le _) hij (by omega)
        rw [cmpOk_lt, getElem!_pos d' j (by omega), getElem!_pos d' i (by omega)] at this
        simp at this
        simpa using this
      · have hH' := Go.Proofs.holdsK_sortWorldK encOk 2 w g 0 n d d' os hg hH p1
        intro i x hx
        obtain ⟨hi, hx⟩ := List.getElem?_eq_some_iff.1 hx
        simp at hi hx
        have c0 := (hH'.cell (i := i) (c := 0) hi (by omega)).1
        have c1 := (hH'.cell (i := i) (c := 1) hi (by omega)).1
        rw [getElem!_pos d' i hi] at c0 c1
        have e : encOk d'[i] = [.int .i64 x.1, .int .i64 x.2] := by unfold encOk; rw [hx]
        rw [e] at c0 c1
        exact ⟨c0, by rw [Nat.add_assoc] at c1 ⊢; exact c1⟩
      · exact below_grow (Go.Lib.below_putRow (Go.RowKit.Below.refl B w) h2) (by simp [size_putRow, Sort.ahead]; omega) os
end Go.Proofs.Ytolkmfpbgheaaaa
