/-
  Lists of ints of the call's own: cloned, sifted, sorted by the library; timeline.sessions.
-/
import Derived.Test.YtolkmfpbgheaaaaS2
import Derived.Test.YtolkmfpbgheaaaaShelf
namespace Go.Proofs.Ytolkmfpbgheaaaa
open Go.ChangeShapes Go.WideShapes Go.ChangeAt Go.RowKit Go.Shelf Go.Lib Go.Sort
set_option linter.unusedVariables false
set_option linter.unusedSimpArgs false

/-- A slice's ints. -/
def IntsIn (w : World) (ao : Option Addr) (s : List Int) : Prop := s = [] ∨ ∃ b o, ao = some ⟨b, o, none⟩ ∧ IntsAt w b o s
theorem IntsAt.kept {w w' : World} {b o : Nat} {s : List Int} (h : IntsAt w b o s) (hb : Go.RowKit.Below w.heap.size w w') : IntsAt w' b o s := fun i x hx => by
  have := h i x hx
  rw [(bsome hb).1 _ (by rw [this]; rfl)]; exact this
theorem IntsIn.kept {w w' : World} {ao : Option Addr} {s : List Int} (h : IntsIn w ao s) (hb : Go.RowKit.Below w.heap.size w w') : IntsIn w' ao s := by
  rcases h with h | ⟨b, o, e, h⟩
  · exact Or.inl h
  · exact Or.inr ⟨b, o, e, h.kept hb⟩
/-- A list of ints of the call's own. -/
def OwnI (w : World) (B : Nat) (v : Value) (s : List Int) : Prop := w.ownsRow B 3 1 v s.length (s.map (Value.int .i64))
theorem OwnI.kept {w w' : World} {B : Nat} {v : Value} {s : List Int} (h : OwnI w B v s) (hb : Go.RowKit.Below w.heap.size w w') : OwnI w' B v s := ownsRow_kept h hb
theorem OwnI.nil (w : World) (B : Nat) : OwnI w B (.slice none 0 0) [] := ⟨rfl, Or.inl ⟨rfl, rfl⟩⟩
/-- Where such a list lies. -/
theorem OwnI.lies {w : World} {B : Nat} {v : Value} {s : List Int} (h : OwnI w B v s) : ∃ A c, v = .slice A s.length c ∧ s.length ≤ c ∧ (A = none → c = 0) ∧ (∀ p, A = some p → ∃ g, p = ⟨g, 0, none⟩ ∧ B ≤ g ∧ g < w.heap.size ∧ IntsAt w g 0 s) := by
  rcases h.2 with ⟨rfl, h2⟩ | ⟨g, cap, cur, rfl, h2, h3, h4, h5, h6, h7⟩
  · exact ⟨none, 0, by rw [h2], by omega, fun _ => rfl, fun p hp => by cases hp⟩
  · refine ⟨_, cap, rfl, h4, fun h => (by cases h), fun p hp => ⟨g, (by injection hp with hp; exact hp.symm), h2, (Array.getElem?_eq_some_iff.1 h3).1, ?_⟩⟩
    intro i x hx
    rw [Nat.zero_add, cell_of_row w g _ cur 3 _ h3]
    have : (s.map (Value.int .i64))[i]? = some (.int .i64 x) := by rw [List.getElem?_map, hx]; rfl
    rw [← h7, List.getElem?_take] at this
    split at this
    · simpa using this
    · cases this
theorem OwnI.slots {w : World} {B : Nat} {v : Value} {s : List Int} (h : OwnI w B v s) : ∃ A c, v = .slice A s.length c ∧ s.length ≤ c ∧ IntsIn w A s := by
  obtain ⟨A, c, hv, hc, hn, hp⟩ := h.lies
  refine ⟨A, c, hv, hc, ?_⟩
  cases A with
  | none => exact Or.inl (List.eq_nil_of_length_eq_zero (by have := hn rfl; omega))
  | some p => obtain ⟨g, rfl, -, -, hi⟩ := hp p rfl; exact Or.inr ⟨g, 0, rfl, hi⟩

theorem clone_own (s : List Int) (ao : Option Addr) (c : Nat) (hl : s.length * 8 ≤ 140737488355328) (w : World) (h : IntsIn w ao s) :
    Calls Try.prog 39 #[.slice ao s.length c] w fun e w' => ∃ v, e = .returned v ∧ OwnI w' w.heap.size v s ∧ Go.RowKit.Below w.heap.size w w' := by
  cases ao with
  | none =>
    obtain rfl : s = [] := by
      rcases h with h | ⟨_, _, h, _⟩
      · exact h
      · cases h
    refine (Try.slices_Clone_int_nil 0 c w).mono ?_
    rintro e w' ⟨rfl, rfl⟩
    exact ⟨_, rfl, OwnI.nil _ _, Go.RowKit.Below.refl _ _⟩
  | some a =>
    rcases h with rfl | ⟨b, o, he, h⟩
    · refine (Try.slices_Clone_int_zero a c w).mono ?_
      rintro e w' ⟨v', rfl, ho, -, hb⟩
      exact ⟨_, rfl, ho, hb⟩
    · injection he with he; subst he
      refine (Try.slices_Clone_int b o s.length c s w (Nat.le_refl _) hl (fun j hj => ?_)).mono ?_
      · have := h j s[j] (List.getElem?_eq_getElem hj)
        rw [this]; simp [hj]
      · rintro e w' ⟨v', rfl, ho, -, hb⟩
        rw [List.take_length] at ho
        exact ⟨_, rfl, ho, hb⟩

theorem below_grow' {B : Nat} {w X : World} (h : Go.RowKit.Below B w X) (hB : B ≤ X.heap.size) (os : Array Obj) : Go.RowKit.Below B w (grow X os) := below_grow h hB os
theorem below_grown_here (X : World) (os : Array Obj) : Go.RowKit.Below X.heap.size X (grow X os) := below_grow (Go.RowKit.Below.refl _ _) (Nat.le_refl _) os

theorem grownBy_sorted (w : World) (enc : Int → Value) (g n : Nat) (d : Array Int) (os : Array Obj) : w.grownBy (grow (putRow enc (Sort.ahead w n) g 0 d) os) (some g) :=
  ⟨rfl, rfl, rfl, by simp [grow, size_putRow, Sort.ahead], fun k hk hne => by
    have hne' : g ≠ k := fun e => hne (by rw [e])
    have hlt : k < (putRow enc (Sort.ahead w n) g 0 d).heap.size := by simpa [size_putRow, Sort.ahead] using hk
    simp only [grow]
    rw [Array.getElem?_append_left hlt]
    simp [putRow, mapBlock, Sort.ahead, Array.getElem?_modify, hne']⟩
theorem sort_ints_own (s : List Int) (hl : s.length < 4611686018427387904) (B : Nat) (v : Value) (w : World) (hB : B ≤ w.heap.size) (h : OwnI w B v s) :
    Calls Try.prog 44 #[v] w fun e w' => e = .returned (.tuple #[]) ∧ OwnI w' B v (s.mergeSort fun x y => decide (x ≤ y)) ∧ w.grownBy w' v.ownBlock := by
  by_cases hv : v = .slice none 0 0
  · subst hv
    obtain rfl : s = [] := by
      obtain ⟨A, c, hv, -⟩ := h.lies
      injection hv with _ e _
      exact List.eq_nil_of_length_eq_zero e.symm
    refine (Try.slices_Sort_int_none none 0 w).mono ?_
    rintro e w' ⟨rfl, rfl⟩
    exact ⟨rfl, by simpa using OwnI.nil _ _, ⟨rfl, rfl, rfl, Nat.le_refl _, fun _ _ _ => rfl⟩⟩
  · obtain ⟨g, cap, rfl, hg, hgw, -, -, -, hH⟩ := holds_of_ownsRow h hv
    refine (Try.slices_Sort_int g 0 cap s w hH hgw hl).mono ?_
    rintro e w' ⟨rfl, n, os, rfl⟩
    have hlm : (s.mergeSort fun x y => decide (x ≤ y)).length = s.length := List.length_mergeSort s
    have ho := ownsRow_putRow (q := n) (ys := s.mergeSort fun x y => decide (x ≤ y)) h hlm (Nat.le_refl _)
    rw [List.take_of_length_le (by omega)] at ho
    refine ⟨rfl, ?_, grownBy_sorted w _ g n _ os⟩
    unfold OwnI
    rw [hlm]
    exact ownsRow_kept ho (below_grown_here _ _)

theorem del_none (f : Value) (w : World) : Calls Try.prog 38 #[.slice none 0 0, f] w fun e w' => e = .returned (.slice none 0 0) ∧ w = w' := by
  have hc := fun w => Go.Proofs.AnyE.slices_IndexFunc_empty (ρ := Try.delFunc_ren) { Try.delFunc with } none 0 f w
  change ∀ w, Calls Try.prog 46 _ _ _ at hc
  have HC := Lib.hid hc
  clear hc
  go_enter Try.func38, Try.ntmps38
  go_wp2_with fail
  refine (HC.out _).mono ?_
  rintro e w' ⟨rfl, hw⟩
  subst hw
  go_wp2_with fail
  go_ret
  exact ⟨rfl, rfl⟩
theorem zero3 : ∀ w, (zeroValue 3).run Try.prog w = .ok (.int .i64 0) w := Try.zeroValue3
theorem del_own (p : Int → Bool) (g : Nat) (lb : Array Value) (eg : ∀ args w, (callFunc g args).run Try.prog w = .ok (.enter g args) w) (s : List Int) (hl : s.length < 4611686018427387904) (B : Nat) (v : Value) (w : World) (hB : B ≤ w.heap.size)
    (hp : Go.Proofs.PredAt Try.prog g lb (Value.int .i64) p w) (hpo : ∀ blk, B ≤ blk → Go.Proofs.PredOver Try.prog g lb (Value.int .i64) p blk 0 s.length w) (h : OwnI w B v s) :
    Calls Try.prog 38 #[v, .func (.func g) #[] lb] w fun e w' => ∃ v', e = .returned v' ∧ OwnI w' B v' (s.filter fun x => !p x) ∧ Go.RowKit.Below B w w' := by
  by_cases hv : v = .slice none 0 0
  · subst hv
    obtain rfl : s = [] := by
      obtain ⟨A, c, hv, -⟩ := h.lies
      injection hv with _ e _
      exact List.eq_nil_of_length_eq_zero e.symm
    refine (del_none _ w).mono ?_
    rintro e w' ⟨rfl, rfl⟩
    exact ⟨_, rfl, OwnI.nil _ _, Go.RowKit.Below.refl _ _⟩
  · obtain ⟨b, cap, rfl, hg, hgw, hcap, -, -, hH⟩ := holds_of_ownsRow h hv
    have hcon := Go.Proofs.AnyE.slices_DeleteFunc Try.delFunc (Value.int .i64) (fun _ => rfl) p g lb eg 0 Try.zeroValue3 b 0 cap s.toArray w hp (by simpa using hpo b hg) hH (by simp; omega) (by simpa using hcap)
    change Calls Try.prog 38 _ _ _ at hcon
    simp only [List.size_toArray, List.toList_toArray] at hcon
    refine hcon.mono ?_
    rintro e w' ⟨rfl, q, rfl⟩
    have hfl := List.length_filter_le (fun x => !p x) s
    have ho := ownsRow_putRow (q := q) (ys := (s.filter fun x => !p x) ++ List.replicate (s.length - (s.filter fun x => !p x).length) 0) h (by simp; omega) hfl
    rw [List.take_left'] at ho
    · exact ⟨_, rfl, ho, below_putRow (Go.RowKit.Below.refl B w) hg⟩
    · rfl
theorem tick_pred (x : Int) (W : World) : Calls Try.prog 43 #[.int .i64 x] W fun e w' => e = .returned (.bool (!okT x)) ∧ ∃ q, w' = W.drewN q := by
  have H := Lib.hid (tick_any x W)
  cases h : okT x
  all_goals
    rw [h] at H
    go_enter Try.func43, Try.ntmps43
    go_wp2_with fail
    refine H.out.mono ?_
    rintro e w' ⟨rfl, rfl⟩
    go_wp2_with fail
    go_ret
    exact ⟨rfl, 0, rfl⟩
end Go.Proofs.Ytolkmfpbgheaaaa
