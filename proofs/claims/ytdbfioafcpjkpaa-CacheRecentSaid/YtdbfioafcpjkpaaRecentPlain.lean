/-
  Plain law: after any uses the slots are in the order of the last uses of their keys. No program in sight but for the lists.
-/
import Derived.Test.YtdbfioafcpjkpaaU
namespace Go.Proofs.Ytdbfioafcpjkpaa

/-- The slots with the places of their last uses. -/
structure Order (L : Int) (us : List Sl) (j : Nat) (A : List (Nat × Sl)) : Prop where
  slots : A.map Prod.snd = runs L (us.take j)
  mono : A.Pairwise (fun a b => a.1 < b.1)
  each : ∀ a, a ∈ A → a.1 < j ∧ us[a.1]? = some a.2 ∧ 0 ≤ a.2.2 ∧ a.2.2 ≤ L ∧ ∀ (k : Nat) (x : Sl), a.1 < k → k < j → us[k]? = some x → 0 ≤ x.2 → x.2 ≤ L → x.1 ≠ a.2.1
  all : ∀ (k : Nat) (x : Sl), k < j → us[k]? = some x → 0 ≤ x.2 → x.2 ≤ L → (∃ a, a ∈ A ∧ a.2.1 = x.1) ∨ ∀ a, a ∈ A → k < a.1

theorem order_step {L : Int} {us : List Sl} {j : Nat} {A : List (Nat × Sl)} (h : Order L us j A) {x : Sl} (hx : us[j]? = some x) : ∃ A', Order L us (j + 1) A' := by
  by_cases he : 0 ≤ x.2 ∧ x.2 ≤ L
  · obtain ⟨hx0, hxL⟩ := he
    have hF : (A.filter (fun a => !(a.2.1 == x.1))).map Prod.snd = fil x.1 (A.map Prod.snd) := by
      unfold fil; rw [List.filter_map]; rfl
    generalize hFd : A.filter (fun a => !(a.2.1 == x.1)) = F at hF
    have hsub : F.Sublist A := by rw [← hFd]; exact List.filter_sublist
    have hkey : ∀ a, a ∈ F → a.2.1 ≠ x.1 := by
      intro a ha
      rw [← hFd] at ha
      have := (List.mem_filter.1 ha).2
      simpa using this
    have hmem : ∀ a, a ∈ A → a.2.1 ≠ x.1 → a ∈ F := by
      intro a ha hk
      rw [← hFd]
      exact List.mem_filter.2 ⟨ha, by simpa using hk⟩
    have hmF := h.mono.sublist hsub
    generalize hc : cnt (L - x.2) (fil x.1 (A.map Prod.snd)) = c
    refine ⟨F.drop c ++ [(j, x)], ?_, ?_, ?_, ?_⟩
    · rw [runs_take L us j x hx, ← h.slots]
      unfold step used
      rw [if_pos ⟨hx0, hxL⟩, hc, List.map_append, List.map_drop, hF]
      rfl
    · rw [List.pairwise_append]
      refine ⟨hmF.sublist (List.drop_sublist c F), by simp, ?_⟩
      intro a ha b hb
      simp at hb
      subst hb
      exact (h.each a (hsub.subset (List.mem_of_mem_drop ha))).1
    · intro a ha
      rcases List.mem_append.1 ha with ha | ha
      · have haF := List.mem_of_mem_drop ha
        obtain ⟨e1, e2, e3, e4, e5⟩ := h.each a (hsub.subset haF)
        refine ⟨by omega, e2, e3, e4, ?_⟩
        intro k y hk1 hk2 hy hy0 hyL
        by_cases hkj : k = j
        · subst hkj
          rw [hx] at hy
          injection hy with hy
          subst hy
          exact fun e => hkey a haF e.symm
        · exact e5 k y hk1 (by omega) hy hy0 hyL
      · simp at ha
        subst ha
        exact ⟨by simp, hx, hx0, hxL, fun k y hk1 hk2 => by simp at hk1; omega⟩
    · intro k y hk hy hy0 hyL
      by_cases hkj : k = j
      · subst hkj
        rw [hx] at hy
        injection hy with hy
        subst hy
        exact Or.inl ⟨(k, x), by simp, rfl⟩
      · rcases h.all k y (by omega) hy hy0 hyL with ⟨a, ha, hak⟩ | hall
        · by_cases hkx : a.2.1 = x.1
          · exact Or.inl ⟨(j, x), by simp, by rw [← hak, hkx]⟩
          · have haF := hmem a ha hkx
            rw [← List.take_append_drop c F] at haF
            rcases List.mem_append.1 haF with ht | hd
            · right
              have hka : k ≤ a.1 := by
                rcases Nat.lt_or_ge a.1 k with hlt | hge
                · exact absurd hak.symm ((h.each a ha).2.2.2.2 k y hlt (by omega) hy hy0 hyL)
                · exact hge
              intro b hb
              rcases List.mem_append.1 hb with hb | hb
              · have := hmF
                rw [← List.take_append_drop c F, List.pairwise_append] at this
                have := this.2.2 a ht b hb
                omega
              · simp at hb; subst hb; show k < j; omega
            · exact Or.inl ⟨a, List.mem_append.2 (Or.inl hd), hak⟩
        · right
          intro b hb
          rcases List.mem_append.1 hb with hb | hb
          · exact hall b (hsub.subset (List.mem_of_mem_drop hb))
          · simp at hb; subst hb; show k < j; omega
  · refine ⟨A, ?_, h.mono, ?_, ?_⟩
    · rw [runs_take L us j x hx, ← h.slots]
      unfold step; rw [if_neg he]
    · intro a ha
      obtain ⟨e1, e2, e3, e4, e5⟩ := h.each a ha
      refine ⟨by omega, e2, e3, e4, ?_⟩
      intro k y hk1 hk2 hy hy0 hyL
      by_cases hkj : k = j
      · subst hkj
        rw [hx] at hy
        injection hy with hy
        subst hy
        exact absurd ⟨hy0, hyL⟩ he
      · exact e5 k y hk1 (by omega) hy hy0 hyL
    · intro k y hk hy hy0 hyL
      by_cases hkj : k = j
      · subst hkj
        rw [hx] at hy
        injection hy with hy
        subst hy
        exact absurd ⟨hy0, hyL⟩ he
      · exact h.all k y (by omega) hy hy0 hyL
theorem order_all (L : Int) (us : List Sl) : ∀ j, j ≤ us.length → ∃ A, Order L us j A
  | 0, _ => ⟨[], by simp [runs], by simp, by simp, by intro k x hk; omega⟩
  | j + 1, hj => by
    obtain ⟨A, hA⟩ := order_all L us j (by omega)
    exact order_step hA (List.getElem?_eq_getElem (by omega))

/-- The place of the last use of a key among the first k uses, or -1. -/
def lu (key : List UInt8) (L : Int) (us : List Sl) : Nat → Int
  | 0 => -1
  | k + 1 => match us[k]? with
    | some x => if (x.1 == key) = true ∧ 0 ≤ x.2 ∧ x.2 ≤ L then (k : Int) else lu key L us k
    | none => lu key L us k
theorem lu_step {key : List UInt8} {L : Int} {us : List Sl} {k : Nat} {x : Sl} (hx : us[k]? = some x) : lu key L us (k + 1) = if (x.1 == key) = true ∧ 0 ≤ x.2 ∧ x.2 ≤ L then (k : Int) else lu key L us k := by
  simp only [lu, hx]
theorem lu_at {key : List UInt8} {L : Int} {us : List Sl} {p : Nat} {x : Sl} (hx : us[p]? = some x) (hk : x.1 = key) (h0 : 0 ≤ x.2) (hL : x.2 ≤ L) : ∀ j, p < j → j ≤ us.length → (∀ (k : Nat) (y : Sl), p < k → k < j → us[k]? = some y → 0 ≤ y.2 → y.2 ≤ L → y.1 ≠ key) → lu key L us j = (p : Int)
  | 0, h, _, _ => by omega
  | j + 1, h, hj, hn => by
    by_cases e : p = j
    · subst e
      rw [lu_step hx, if_pos ⟨by simp [hk], h0, hL⟩]
    · have hy : us[j]? = some us[j] := List.getElem?_eq_getElem (by omega)
      rw [lu_step hy, if_neg, lu_at hx hk h0 hL j (by omega) (by omega) (fun k y h1 h2 => hn k y h1 (by omega))]
      rintro ⟨h1, h2, h3⟩
      exact hn j _ (by omega) (by omega) hy h2 h3 (eq_of_beq h1)

/-- What the statement asks, place by place. -/
structure Recent (L : Int) (us cs : List Sl) (P : Nat → Nat) : Prop where
  last : ∀ (i : Nat) (x : Sl), cs[i]? = some x → lu x.1 L us us.length = (P i : Int) ∧ P i < us.length ∧ ∃ y : Sl, us[P i]? = some y ∧ y.2 = x.2
  up : ∀ i, i + 1 < cs.length → P i < P (i + 1)
  low : ∀ i, i < cs.length → P 0 ≤ P i
  has : 0 < cs.length → ∀ (k : Nat) (x : Sl), P 0 < k → us[k]? = some x → 0 ≤ x.2 → x.2 ≤ L → 0 ≤ pos x.1 cs 0
theorem recent (L : Int) (us : List Sl) : ∃ P, Recent L us (runs L us) P := by
  obtain ⟨A, hA⟩ := order_all L us us.length (Nat.le_refl _)
  have hs := hA.slots
  rw [List.take_length] at hs
  rw [← hs]
  have hP : ∀ i, i < A.length → ∃ a, A[i]? = some a ∧ a ∈ A := fun i hi => ⟨A[i], List.getElem?_eq_getElem hi, List.getElem_mem hi⟩
  have hm := List.pairwise_iff_getElem.1 hA.mono
  refine ⟨fun i => ((A[i]?).getD (0, ([], 0))).1, ?_, ?_, ?_, ?_⟩
  · intro i x hx
    rw [List.getElem?_map] at hx
    obtain ⟨a, ha, rfl⟩ := Option.map_eq_some_iff.1 hx
    obtain ⟨e1, e2, e3, e4, e5⟩ := hA.each a (List.mem_of_getElem? ha)
    simp only [ha, Option.getD_some]
    exact ⟨lu_at e2 rfl e3 e4 _ e1 (Nat.le_refl _) e5, e1, a.2, e2, rfl⟩
  · intro i hi
    simp at hi
    have := hm i (i + 1) (by omega) hi (by omega)
    simp only [List.getElem?_eq_getElem (show i < A.length by omega), List.getElem?_eq_getElem hi, Option.getD_some]
    exact this
  · intro i hi
    simp at hi
    simp only [List.getElem?_eq_getElem (show 0 < A.length by omega), List.getElem?_eq_getElem hi, Option.getD_some]
    by_cases h0 : i = 0
    · subst h0; exact Nat.le_refl _
    · have := hm 0 i (by omega) hi (by omega)
      omega
  · intro hl k x hk hx h0 hL
    have hl2 : 0 < A.length := by simpa using hl
    simp only [List.getElem?_eq_getElem hl2, Option.getD_some] at hk
    rcases hA.all k x (List.getElem?_eq_some_iff.1 hx).1 hx h0 hL with ⟨a, ha, hak⟩ | hall
    · rcases Int.lt_or_le (pos x.1 (A.map Prod.snd) 0) 0 with h | h
      · have := pos_neg.1 h a.2 (List.mem_map_of_mem ha)
        rw [hak] at this
        simp at this
      · exact h
    · have := hall A[0] (List.getElem_mem hl2)
      omega
end Go.Proofs.Ytdbfioafcpjkpaa
