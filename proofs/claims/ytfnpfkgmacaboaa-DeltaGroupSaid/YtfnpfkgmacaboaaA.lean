/-
  Orders told by comparisons, and lists of differences in plain words: a consolidated list is the one strictly rising list of the sums that are not zero.
-/
import Derived.WalkKit
namespace Go.Proofs.Ytfnpfkgmacaboaa
set_option linter.unusedVariables false
set_option linter.unusedSectionVars false

/-- A comparison that tells a total order: below zero, zero, above zero. -/
structure Cmp {α : Type} (c : α → α → Int) : Prop where
  zero : ∀ a b, c a b = 0 ↔ a = b
  turn : ∀ a b, c a b < 0 ↔ 0 < c b a
  trans : ∀ a b d, c a b < 0 → c b d < 0 → c a d < 0
/-- The first of two results that is not zero. -/
def orI (x y : Int) : Int := if x = 0 then y else x
theorem orI_zero {x y : Int} : orI x y = 0 ↔ x = 0 ∧ y = 0 := by unfold orI; split <;> simp [*]
theorem orI_neg {x y : Int} : orI x y < 0 ↔ x < 0 ∨ x = 0 ∧ y < 0 := by
  unfold orI
  by_cases h : x = 0
  · rw [if_pos h]; omega
  · rw [if_neg h]; omega
theorem orI_pos {x y : Int} : 0 < orI x y ↔ 0 < x ∨ x = 0 ∧ 0 < y := by
  unfold orI
  by_cases h : x = 0
  · rw [if_pos h]; omega
  · rw [if_neg h]; omega
theorem Cmp.refl {α : Type} {c : α → α → Int} (h : Cmp c) (a : α) : c a a = 0 := (h.zero a a).2 rfl
theorem Cmp.pair {α β : Type} {c : α → α → Int} {d : β → β → Int} (hc : Cmp c) (hd : Cmp d) : Cmp (fun (x y : α × β) => orI (c x.1 y.1) (d x.2 y.2)) where
  zero := fun x y => by
    rw [orI_zero, hc.zero, hd.zero, Prod.ext_iff]
  turn := fun x y => by
    rw [orI_neg, orI_pos, hc.turn, hd.turn, hc.zero, hc.zero]
    constructor
    · rintro (h | ⟨h, k⟩)
      · exact Or.inl h
      · exact Or.inr ⟨h.symm, k⟩
    · rintro (h | ⟨h, k⟩)
      · exact Or.inl h
      · exact Or.inr ⟨h.symm, k⟩
  trans := fun x y z => by
    rw [orI_neg, orI_neg, orI_neg, hc.zero, hc.zero, hc.zero]
    rintro (h | ⟨h, k⟩) (h' | ⟨h', k'⟩)
    · exact Or.inl (hc.trans _ _ _ h h')
    · exact Or.inl (h' ▸ h)
    · exact Or.inl (h ▸ h')
    · exact Or.inr ⟨h.trans h', hd.trans _ _ _ k k'⟩
theorem Cmp.on {α β : Type} {c : β → β → Int} (hc : Cmp c) (f : α → β) (hf : ∀ a b, f a = f b → a = b) : Cmp (fun x y => c (f x) (f y)) where
  zero := fun x y => by rw [hc.zero]; exact ⟨hf x y, fun h => h ▸ rfl⟩
  turn := fun x y => hc.turn _ _
  trans := fun x y z => hc.trans _ _ _
/-- The order of ints. -/
def cmpI (a b : Int) : Int := if a < b then -1 else if b < a then 1 else 0
theorem cmpI_cmp : Cmp cmpI where
  zero := fun a b => by unfold cmpI; split <;> (try split) <;> omega
  turn := fun a b => by unfold cmpI; split <;> (try split) <;> (try split) <;> omega
  trans := fun a b d => by unfold cmpI; split <;> (try split) <;> (try split) <;> (try split) <;> (try split) <;> omega
/-- The order of lists: element by element, a shorter one first. -/
def cmpL {α : Type} (c : α → α → Int) : List α → List α → Int
  | [], [] => 0
  | [], _ :: _ => -1
  | _ :: _, [] => 1
  | x :: r, y :: s => orI (c x y) (cmpL c r s)
theorem cmpL_cmp {α : Type} {c : α → α → Int} (hc : Cmp c) : Cmp (cmpL c) where
  zero := fun a => by
    induction a with
    | nil => intro b; cases b <;> simp [cmpL]
    | cons x r ih => intro b; cases b with
      | nil => simp [cmpL]
      | cons y s => simp only [cmpL]; rw [orI_zero, hc.zero, ih]; simp
  turn := fun a => by
    induction a with
    | nil => intro b; cases b <;> simp [cmpL]
    | cons x r ih => intro b; cases b with
      | nil => simp [cmpL]
      | cons y s =>
        simp only [cmpL]; rw [orI_neg, orI_pos, hc.turn, ih, hc.zero, hc.zero]
        constructor
        · rintro (h | ⟨h, k⟩)
          · exact Or.inl h
          · exact Or.inr ⟨h.symm, k⟩
        · rintro (h | ⟨h, k⟩)
          · exact Or.inl h
          · exact Or.inr ⟨h.symm, k⟩
  trans := fun a => by
    induction a with
    | nil => intro b d; cases b <;> cases d <;> simp [cmpL]
    | cons x r ih => intro b d; cases b with
      | nil => simp [cmpL]
      | cons y s => cases d with
        | nil => simp [cmpL]
        | cons z u =>
          simp only [cmpL]; rw [orI_neg, orI_neg, orI_neg, hc.zero, hc.zero, hc.zero]
          rintro (h | ⟨h, k⟩) (h' | ⟨h', k'⟩)
          · exact Or.inl (hc.trans _ _ _ h h')
          · exact Or.inl (h' ▸ h)
          · exact Or.inl (h ▸ h')
          · exact Or.inr ⟨h.trans h', ih _ _ k k'⟩

/-! ### Consolidated lists -/
section
variable {κ : Type} [DecidableEq κ] {c : κ → κ → Int}
/-- Strictly rising by key. -/
def Rising (c : κ → κ → Int) (r : List (κ × Int)) : Prop := r.Pairwise (fun x y => c x.1 y.1 < 0)
/-- What a list says first of a key; else zero. -/
def look : List (κ × Int) → κ → Int
  | [], _ => 0
  | y :: r, k => if y.1 = k then y.2 else look r k
theorem look_not {k : κ} : ∀ (r : List (κ × Int)), (∀ z, z ∈ r → z.1 ≠ k) → look r k = 0
  | [], _ => rfl
  | y :: r, h => by unfold look; rw [if_neg (h y (by simp))]; exact look_not r (fun z hz => h z (by simp [hz]))
theorem look_mem (hc : Cmp c) {k : κ} {n : Int} : ∀ (r : List (κ × Int)), Rising c r → (k, n) ∈ r → look r k = n
  | y :: r, hr, h => by
    obtain ⟨a1, a2⟩ := List.pairwise_cons.1 hr
    unfold look
    rcases List.mem_cons.1 h with e | h
    · rw [← e]; simp
    · rw [if_neg (fun e => by have := a1 _ h; rw [e, hc.refl] at this; omega)]; exact look_mem hc r a2 h
theorem look_in {k : κ} : ∀ (r : List (κ × Int)), look r k ≠ 0 → (k, look r k) ∈ r
  | [], h => absurd rfl h
  | y :: r, h => by
    unfold look at h ⊢
    split
    · rename_i e; subst e; simp
    · rename_i e; rw [if_neg e] at h; exact List.mem_cons_of_mem _ (look_in r h)
/-- The sum of what a list says of a key, modulo 2^64. -/
def sumK (d : List (κ × Int)) (k : κ) : Int := d.foldl (fun s x => if x.1 = k then IntKind.i64.wrap (x.2 + s) else s) 0
/-- The consolidated list of the sums S. -/
structure IsCons (c : κ → κ → Int) (S : κ → Int) (r : List (κ × Int)) : Prop where
  rising : Rising c r
  some : ∀ x, x ∈ r → x.2 ≠ 0
  look : ∀ k, look r k = S k
theorem rising_unique (hc : Cmp c) : ∀ (r r' : List (κ × Int)), Rising c r → Rising c r' → (∀ x, x ∈ r ↔ x ∈ r') → r = r'
  | [], [], _, _, _ => rfl
  | [], y :: s, _, _, h => by have := (h y).2 (by simp); simp at this
  | x :: r, [], _, _, h => by have := (h x).1 (by simp); simp at this
  | x :: r, y :: s, h1, h2, h => by
    obtain ⟨a1, a2⟩ := List.pairwise_cons.1 h1
    obtain ⟨b1, b2⟩ := List.pairwise_cons.1 h2
    have hxy : x = y := by
      rcases List.mem_cons.1 ((h x).1 (by simp)) with e | hx
      · exact e
      · rcases List.mem_cons.1 ((h y).2 (by simp)) with e | hy
        · exact e.symm
        · have p := b1 x hx
          have q := a1 y hy
          have := hc.trans _ _ _ p q
          rw [hc.refl] at this
          omega
    subst hxy
    congr 1
    refine rising_unique hc r s a2 b2 (fun z => ?_)
    constructor
    · intro hz
      rcases List.mem_cons.1 ((h z).1 (by simp [hz])) with e | hz'
      · subst e; have := a1 _ hz; rw [hc.refl] at this; omega
      · exact hz'
    · intro hz
      rcases List.mem_cons.1 ((h z).2 (by simp [hz])) with e | hz'
      · subst e; have := b1 _ hz; rw [hc.refl] at this; omega
      · exact hz'
theorem IsCons.mem (hc : Cmp c) {S : κ → Int} {r : List (κ × Int)} (h : IsCons c S r) (x : κ × Int) : x ∈ r ↔ x.2 = S x.1 ∧ x.2 ≠ 0 := by
  constructor
  · intro hx
    exact ⟨by rw [← h.look]; exact (look_mem hc r h.rising hx).symm, h.some x hx⟩
  · rintro ⟨e, hne⟩
    rw [e, ← h.look] at hne
    have := look_in r hne
    rw [h.look, ← e] at this
    exact this
theorem IsCons.unique (hc : Cmp c) {S : κ → Int} {r r' : List (κ × Int)} (h : IsCons c S r) (h' : IsCons c S r') : r = r' :=
  rising_unique hc r r' h.rising h'.rising (fun x => by rw [h.mem hc, h'.mem hc])
/-- One more difference in a consolidated list. -/
def putK (c : κ → κ → Int) : List (κ × Int) → κ × Int → List (κ × Int)
  | [], x => if x.2 = 0 then [] else [x]
  | y :: r, x =>
    if c y.1 x.1 < 0 then y :: putK c r x
    else if c x.1 y.1 < 0 then (if x.2 = 0 then y :: r else x :: y :: r)
    else if IntKind.i64.wrap (x.2 + y.2) = 0 then r else (x.1, IntKind.i64.wrap (x.2 + y.2)) :: r
theorem putK_keys {x : κ × Int} : ∀ (l : List (κ × Int)) (z : κ × Int), z ∈ putK c l x → z.1 = x.1 ∨ z ∈ l := by
  intro l
  induction l with
  | nil =>
    intro z h
    unfold putK at h
    split at h
    · simp at h
    · simp at h; exact Or.inl (by rw [h])
  | cons y r ih =>
    intro z h
    unfold putK at h
    split at h
    · rcases List.mem_cons.1 h with e | h
      · exact Or.inr (by simp [e])
      · rcases ih z h with e | e
        · exact Or.inl e
        · exact Or.inr (by simp [e])
    · split at h
      · split at h
        · exact Or.inr h
        · rcases List.mem_cons.1 h with e | h
          · exact Or.inl (by rw [e])
          · exact Or.inr h
      · split at h
        · exact Or.inr (by simp [h])
        · rcases List.mem_cons.1 h with e | h
          · exact Or.inl (by rw [e])
          · exact Or.inr (by simp [h])
theorem putK_rising (hc : Cmp c) {x : κ × Int} : ∀ (l : List (κ × Int)), Rising c l → Rising c (putK c l x) := by
  intro l
  induction l with
  | nil => intro _; unfold putK; split <;> simp [Rising]
  | cons y r ih =>
    intro hr
    obtain ⟨a1, a2⟩ := List.pairwise_cons.1 hr
    unfold putK
    split
    · rename_i h1
      refine List.pairwise_cons.2 ⟨fun z hz => ?_, ih a2⟩
      rcases putK_keys r z hz with e | e
      · rw [e]; exact h1
      · exact a1 z e
    · rename_i h1
      split
      · rename_i h2
        split
        · exact hr
        · refine List.pairwise_cons.2 ⟨fun z hz => ?_, hr⟩
          rcases List.mem_cons.1 hz with e | hz
          · rw [e]; exact h2
          · exact hc.trans _ _ _ h2 (a1 z hz)
      · rename_i h2
        have he : x.1 = y.1 := (hc.zero _ _).1 (by have := hc.turn y.1 x.1; omega)
        split
        · exact a2
        · exact List.pairwise_cons.2 ⟨fun z hz => by show c x.1 z.1 < 0; rw [he]; exact a1 z hz, a2⟩
theorem putK_some {x : κ × Int} : ∀ (l : List (κ × Int)), (∀ z, z ∈ l → z.2 ≠ 0) → ∀ z, z ∈ putK c l x → z.2 ≠ 0 := by
  intro l
  induction l with
  | nil =>
    intro _ z h
    unfold putK at h
    split at h
    · simp at h
    · simp at h; rw [h]; assumption
  | cons y r ih =>
    intro hr z h
    unfold putK at h
    split at h
    · rcases List.mem_cons.1 h with e | h
      · rw [e]; exact hr y (by simp)
      · exact ih (fun z hz => hr z (by simp [hz])) z h
    · split at h
      · split at h
        · exact hr z h
        · rcases List.mem_cons.1 h with e | h
          · rw [e]; assumption
          · exact hr z h
      · split at h
        · exact hr z (by simp [h])
        · rcases List.mem_cons.1 h with e | h
          · rw [e]; assumption
          · exact hr z (by simp [h])
theorem putK_look (hc : Cmp c) {x : κ × Int} (hx : IntKind.i64.wrap x.2 = x.2) (k : κ) : ∀ (l : List (κ × Int)), Rising c l →
    look (putK c l x) k = if x.1 = k then IntKind.i64.wrap (x.2 + look l k) else look l k := by
  intro l
  induction l with
  | nil =>
    intro _
    unfold putK
    by_cases hk : x.1 = k
    · rw [if_pos hk]
      split
      · rename_i h0; show (0 : Int) = IntKind.i64.wrap (x.2 + 0); rw [Int.add_zero, hx, h0]
      · show (if x.1 = k then x.2 else 0) = IntKind.i64.wrap (x.2 + 0); rw [if_pos hk, Int.add_zero, hx]
    · rw [if_neg hk]
      split
      · rfl
      · show (if x.1 = k then x.2 else 0) = 0; rw [if_neg hk]
  | cons y r ih =>
    intro hr
    obtain ⟨a1, a2⟩ := List.pairwise_cons.1 hr
    unfold putK
    split
    · rename_i h1
      have hne : y.1 ≠ x.1 := fun e => by rw [e, hc.refl] at h1; omega
      simp only [look]
      rw [ih a2]
      by_cases hk : x.1 = k
      · rw [if_pos hk, if_pos hk, if_neg (fun e => hne (e.trans hk.symm)), if_neg (fun e => hne (e.trans hk.symm))]
      · rw [if_neg hk, if_neg hk]
    · rename_i h1
      split
      · rename_i h2
        have hnot : look (y :: r) x.1 = 0 := look_not _ (fun z hz e => by
          rcases List.mem_cons.1 hz with e2 | hz
          · rw [← e, e2, hc.refl] at h2; omega
          · have := hc.trans _ _ _ h2 (a1 z hz); rw [e, hc.refl] at this; omega)
        split
        · rename_i h0
          by_cases hk : x.1 = k
          · rw [if_pos hk, ← hk, hnot, h0]; decide
          · rw [if_neg hk]
        · show (if x.1 = k then x.2 else look (y :: r) k) = _
          by_cases hk : x.1 = k
          · rw [if_pos hk, if_pos hk, ← hk, hnot, Int.add_zero, hx]
          · rw [if_neg hk, if_neg hk]
      · rename_i h2
        have he : x.1 = y.1 := (hc.zero _ _).1 (by have := hc.turn y.1 x.1; omega)
        have hnot : look r x.1 = 0 := look_not _ (fun z hz e => by have := a1 z hz; rw [e, he, hc.refl] at this; omega)
        split
        · rename_i h0
          simp only [look]
          by_cases hk : x.1 = k
          · rw [if_pos hk, if_pos (he ▸ hk), h0, ← hk, hnot]
          · rw [if_neg hk, if_neg (fun e => hk (he.trans e))]
        · simp only [look]
          by_cases hk : x.1 = k
          · rw [if_pos hk, if_pos hk, if_pos (he ▸ hk)]
          · rw [if_neg hk, if_neg hk, if_neg (fun e => hk (he.trans e))]
theorem sumK_snoc (d : List (κ × Int)) (x : κ × Int) (k : κ) : sumK (d ++ [x]) k = if x.1 = k then IntKind.i64.wrap (x.2 + sumK d k) else sumK d k := by
  unfold sumK; rw [List.foldl_append]; rfl
theorem IsCons.put (hc : Cmp c) {d l : List (κ × Int)} {x : κ × Int} (h : IsCons c (sumK d) l) (hx : IntKind.i64.wrap x.2 = x.2) : IsCons c (sumK (d ++ [x])) (putK c l x) :=
  ⟨putK_rising hc l h.rising, putK_some l h.some, fun k => by rw [putK_look hc hx k l h.rising, sumK_snoc, h.look]⟩
theorem IsCons.nil : IsCons c (sumK []) ([] : List (κ × Int)) := ⟨List.Pairwise.nil, fun x hx => by simp at hx, fun k => rfl⟩
end
end Go.Proofs.Ytfnpfkgmacaboaa
