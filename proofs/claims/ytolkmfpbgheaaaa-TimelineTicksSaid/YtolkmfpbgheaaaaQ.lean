/-
  The union of intervals, in plain words: it is the one list of intervals that are apart and have the same ticks.
-/
import Derived.Test.YtolkmfpbgheaaaaG
namespace Go.Proofs.Ytolkmfpbgheaaaa
set_option linter.unusedVariables false

def inI (x : Iv) (t : Int) : Prop := x.1 ≤ t ∧ t ≤ x.2
def inL (l : List Iv) (t : Int) : Prop := ∃ x, x ∈ l ∧ inI x t
def Apart (l : List Iv) : Prop := l.Pairwise (fun x y => x.2 + 1 < y.1)
def AllOk (l : List Iv) : Prop := ∀ x, x ∈ l → okI x.1 x.2 = true
def Sorted1 (l : List Iv) : Prop := l.Pairwise (fun x y => x.1 ≤ y.1)
/-- One more interval at the end of a union. -/
def unionS (acc : List Iv) (x : Iv) : List Iv :=
  match acc.getLast? with
  | some y => if x.1 ≤ y.2 + 1 then acc.dropLast ++ [(y.1, max y.2 x.2)] else acc ++ [x]
  | none => [x]
def unionF (p : List Iv) : List Iv := p.foldl unionS []
def valids (l : List Iv) : List Iv := l.filter (fun x => okI x.1 x.2)
/-- What a union of intervals is. -/
def IsUnion (l r : List Iv) : Prop := Apart r ∧ AllOk r ∧ ∀ t, inL r t ↔ inL (valids l) t

theorem unionS_nil (x : Iv) : unionS [] x = [x] := rfl
theorem unionS_near (a : List Iv) (y x : Iv) (h : x.1 ≤ y.2 + 1) : unionS (a ++ [y]) x = a ++ [(y.1, max y.2 x.2)] := by
  unfold unionS; simp [h]
theorem unionS_far (a : List Iv) (y x : Iv) (h : ¬ x.1 ≤ y.2 + 1) : unionS (a ++ [y]) x = a ++ [y] ++ [x] := by
  unfold unionS; simp [h]
theorem inL_append (l k : List Iv) (t : Int) : inL (l ++ k) t ↔ inL l t ∨ inL k t := by
  unfold inL; constructor
  · rintro ⟨x, hx, h⟩
    rcases List.mem_append.1 hx with hx | hx
    · exact Or.inl ⟨x, hx, h⟩
    · exact Or.inr ⟨x, hx, h⟩
  · rintro (⟨x, hx, h⟩ | ⟨x, hx, h⟩)
    · exact ⟨x, List.mem_append.2 (Or.inl hx), h⟩
    · exact ⟨x, List.mem_append.2 (Or.inr hx), h⟩
theorem inL_one (x : Iv) (t : Int) : inL [x] t ↔ inI x t := by unfold inL; simp
theorem inL_cons (x : Iv) (l : List Iv) (t : Int) : inL (x :: l) t ↔ inI x t ∨ inL l t := by
  rw [show x :: l = [x] ++ l from rfl, inL_append, inL_one]
theorem last_cases (l : List Iv) : l = [] ∨ ∃ a y, l = a ++ [y] := by
  rcases List.eq_nil_or_concat l with h | ⟨a, y, h⟩
  · exact Or.inl h
  · exact Or.inr ⟨a, y, by simpa using h⟩

/-- What is kept when one more interval comes. -/
def UInv (acc : List Iv) (rest : List Iv) : Prop := Apart acc ∧ AllOk acc ∧ ∀ x, x ∈ acc → ∀ y, y ∈ rest → x.1 ≤ y.1
theorem unionS_step (acc : List Iv) (x : Iv) (rest : List Iv) (h : UInv acc (x :: rest)) (hx : okI x.1 x.2 = true) (hr : ∀ y, y ∈ rest → x.1 ≤ y.1) :
    UInv (unionS acc x) rest ∧ ∀ t, inL (unionS acc x) t ↔ inL acc t ∨ inI x t := by
  obtain ⟨ha, hok, hf⟩ := h
  obtain ⟨x0, x1, x2⟩ := okI_yes hx
  rcases last_cases acc with rfl | ⟨a, y, rfl⟩
  · rw [unionS_nil]
    refine ⟨⟨List.pairwise_singleton _ _, ?_, ?_⟩, ?_⟩
    · intro z hz; simp at hz; subst hz; exact hx
    · intro z hz u hu; simp at hz; subst hz; exact hr u hu
    · intro t; rw [inL_one]; simp [inL]
  · have hyok := okI_yes (hok y (by simp))
    have hyx := hf y (by simp) x (by simp)
    unfold Apart at ha
    rw [List.pairwise_append] at ha
    obtain ⟨ha1, -, ha2⟩ := ha
    by_cases hn : x.1 ≤ y.2 + 1
    · rw [unionS_near _ _ _ hn]
      refine ⟨⟨?_, ?_, ?_⟩, ?_⟩
      · unfold Apart
        rw [List.pairwise_append]
        refine ⟨ha1, List.pairwise_singleton _ _, ?_⟩
        intro z hz u hu
        simp at hu; subst hu
        exact ha2 z hz y (by simp)
      · intro z hz
        rcases List.mem_append.1 hz with hz | hz
        · exact hok z (by simp [hz])
        · simp at hz; subst hz
          exact okI_of ⟨hyok.1, by show y.1 ≤ max y.2 x.2; omega, by show max y.2 x.2 ≤ _; omega⟩
      · intro z hz u hu
        rcases List.mem_append.1 hz with hz | hz
        · exact hf z (by simp [hz]) u (by simp [hu])
        · simp at hz; subst hz
          exact hf y (by simp) u (by simp [hu])
      · intro t
        rw [inL_append, inL_append, inL_one, inL_one]
        unfold inI
        show inL a t ∨ y.1 ≤ t ∧ t ≤ max y.2 x.2 ↔ _
        constructor
        · rintro (h | h)
          · exact Or.inl (Or.inl h)
          · by_cases ht : t ≤ y.2
            · exact Or.inl (Or.inr ⟨h.1, ht⟩)
            · exact Or.inr (by omega)
        · rintro ((h | h) | h)
          · exact Or.inl h
          · exact Or.inr (by omega)
          · exact Or.inr (by omega)
    · rw [unionS_far _ _ _ hn]
      refine ⟨⟨?_, ?_, ?_⟩, ?_⟩
      · unfold Apart
        rw [List.pairwise_append, List.pairwise_append]
        refine ⟨⟨ha1, List.pairwise_singleton _ _, ha2⟩, List.pairwise_singleton _ _, ?_⟩
        intro z hz u hu
        simp at hu; subst hu
        rcases List.mem_append.1 hz with hz | hz
        · have := ha2 z hz y (by simp); omega
        · simp at hz; subst hz; omega
      · intro z hz
        rcases List.mem_append.1 hz with hz | hz
        · exact hok z hz
        · simp at hz; subst hz; exact hx
      · intro z hz u hu
        rcases List.mem_append.1 hz with hz | hz
        · exact hf z hz u (by simp [hu])
        · simp at hz; subst hz; exact hr u hu
      · intro t
        rw [inL_append (a ++ [y]), inL_one]
theorem unionF_go (p : List Iv) : ∀ acc, UInv acc p → AllOk p → Sorted1 p → Apart (p.foldl unionS acc) ∧ AllOk (p.foldl unionS acc) ∧ ∀ t, inL (p.foldl unionS acc) t ↔ inL acc t ∨ inL p t := by
  induction p with
  | nil => intro acc h _ _; exact ⟨h.1, h.2.1, fun t => by simp [inL]⟩
  | cons x p ih =>
    intro acc h hok hs
    unfold Sorted1 at hs
    rw [List.pairwise_cons] at hs
    obtain ⟨h1, h2⟩ := unionS_step acc x p h (hok x (by simp)) hs.1
    obtain ⟨r1, r2, r3⟩ := ih _ h1 (fun z hz => hok z (by simp [hz])) hs.2
    refine ⟨r1, r2, fun t => ?_⟩
    rw [List.foldl_cons, r3, h2, inL_cons, or_assoc]
theorem unionF_spec (p : List Iv) (hok : AllOk p) (hs : Sorted1 p) : Apart (unionF p) ∧ AllOk (unionF p) ∧ ∀ t, inL (unionF p) t ↔ inL p t := by
  obtain ⟨h1, h2, h3⟩ := unionF_go p [] ⟨List.Pairwise.nil, by intro x hx; simp at hx, by intro x hx; simp at hx⟩ hok hs
  exact ⟨h1, h2, fun t => by rw [unionF, h3]; simp [inL]⟩
theorem inL_perm {l k : List Iv} (h : l.Perm k) (t : Int) : inL l t ↔ inL k t := by
  unfold inL
  constructor
  · rintro ⟨x, hx, h1⟩; exact ⟨x, h.mem_iff.1 hx, h1⟩
  · rintro ⟨x, hx, h1⟩; exact ⟨x, h.mem_iff.2 hx, h1⟩
theorem valids_ok (l : List Iv) : AllOk (valids l) := by
  intro x hx
  exact (List.mem_filter.1 hx).2
theorem isUnion_of (l p : List Iv) (hp : (valids l).Perm p) (hs : Sorted1 p) : IsUnion l (unionF p) := by
  have hok : AllOk p := fun x hx => valids_ok l x (hp.mem_iff.2 hx)
  obtain ⟨h1, h2, h3⟩ := unionF_spec p hok hs
  exact ⟨h1, h2, fun t => by rw [h3, ← inL_perm hp]⟩
/-- There is one such list. -/
theorem apart_unique (r : List Iv) : ∀ r', Apart r → AllOk r → Apart r' → AllOk r' → (∀ t, inL r t ↔ inL r' t) → r = r' := by
  induction r with
  | nil =>
    intro r' _ _ _ hok ht
    cases r' with
    | nil => rfl
    | cons y s =>
      have := okI_yes (hok y (by simp))
      have h := (ht y.1).2 ((inL_cons _ _ _).2 (Or.inl ⟨by omega, by omega⟩))
      simp [inL] at h
  | cons x s ih =>
    intro r' ha hok ha' hok' ht
    cases r' with
    | nil =>
      have := okI_yes (hok x (by simp))
      have h := (ht x.1).1 ((inL_cons _ _ _).2 (Or.inl ⟨by omega, by omega⟩))
      simp [inL] at h
    | cons y s' =>
      unfold Apart at ha ha'
      rw [List.pairwise_cons] at ha ha'
      have hx := okI_yes (hok x (by simp))
      have hy := okI_yes (hok' y (by simp))
      have e1 : y.1 ≤ x.1 := by
        have h := (ht x.1).1 ((inL_cons _ _ _).2 (Or.inl ⟨by omega, by omega⟩))
        rcases (inL_cons _ _ _).1 h with h | ⟨z, hz, h⟩
        · exact h.1
        · have := ha'.1 z hz; have := h.1; omega
      have e2 : x.1 ≤ y.1 := by
        have h := (ht y.1).2 ((inL_cons _ _ _).2 (Or.inl ⟨by omega, by omega⟩))
        rcases (inL_cons _ _ _).1 h with h | ⟨z, hz, h⟩
        · exact h.1
        · have := ha.1 z hz; have := h.1; omega
      have e3 : y.2 ≤ x.2 := by
        rcases Int.lt_or_le x.2 y.2 with hlt | hle
        · have h := (ht (x.2 + 1)).2 ((inL_cons _ _ _).2 (Or.inl ⟨by omega, by omega⟩))
          rcases (inL_cons _ _ _).1 h with h | ⟨z, hz, h⟩
          · have := h.2; omega
          · have := ha.1 z hz; have := h.1; omega
        · exact hle
      have e4 : x.2 ≤ y.2 := by
        rcases Int.lt_or_le y.2 x.2 with hlt | hle
        · have h := (ht (y.2 + 1)).1 ((inL_cons _ _ _).2 (Or.inl ⟨by omega, by omega⟩))
          rcases (inL_cons _ _ _).1 h with h | ⟨z, hz, h⟩
          · have := h.2; omega
          · have := ha'.1 z hz; have := h.1; omega
        · exact hle
      have e : x = y := Prod.ext (by omega) (by omega)
      subst e
      rw [ih s' ha.2 (fun z hz => hok z (by simp [hz])) ha'.2 (fun z hz => hok' z (by simp [hz])) ?_]
      intro t
      constructor
      · intro h
        rcases (inL_cons _ _ _).1 ((ht t).1 ((inL_cons _ _ _).2 (Or.inr h))) with k | k
        · obtain ⟨z, hz, h⟩ := h
          have := ha.1 z hz; have := h.1; have := k.2; omega
        · exact k
      · intro h
        rcases (inL_cons _ _ _).1 ((ht t).2 ((inL_cons _ _ _).2 (Or.inr h))) with k | k
        · obtain ⟨z, hz, h⟩ := h
          have := ha'.1 z hz; have := h.1; have := k.2; omega
        · exact k
theorem isUnion_unique {l r r' : List Iv} (h : IsUnion l r) (h' : IsUnion l r') : r = r' :=
  apart_unique r r' h.1 h.2.1 h'.1 h'.2.1 (fun t => by rw [h.2.2, h'.2.2])
theorem valids_allOk {r : List Iv} (h : AllOk r) : valids r = r := List.filter_eq_self.2 (fun x hx => h x hx)
/-- The union of a union is itself. -/
theorem isUnion_self {l r r' : List Iv} (h : IsUnion l r) (h' : IsUnion r r') : r' = r :=
  apart_unique r' r h'.1 h'.2.1 h.1 h.2.1 (fun t => by rw [h'.2.2, valids_allOk h.2.1])
theorem unionF_length (p : List Iv) : (unionF p).length ≤ p.length := by
  unfold unionF
  suffices h : ∀ acc : List Iv, (p.foldl unionS acc).length ≤ acc.length + p.length by simpa using h []
  induction p with
  | nil => intro acc; simp
  | cons x p ih =>
    intro acc
    have h1 := ih (unionS acc x)
    have h2 : (unionS acc x).length ≤ acc.length + 1 := by
      rcases last_cases acc with rfl | ⟨a, y, rfl⟩
      · simp [unionS]
      · by_cases hn : x.1 ≤ y.2 + 1
        · rw [unionS_near _ _ _ hn]; simp
        · rw [unionS_far _ _ _ hn]; simp
    simp only [List.foldl_cons, List.length_cons]
    omega
theorem unionF_succ (p : List Iv) (i : Nat) (x : Iv) (h : p[i]? = some x) : unionF (p.take (i + 1)) = unionS (unionF (p.take i)) x := by
  unfold unionF
  rw [List.take_add_one, h]
  simp
end Go.Proofs.Ytolkmfpbgheaaaa
