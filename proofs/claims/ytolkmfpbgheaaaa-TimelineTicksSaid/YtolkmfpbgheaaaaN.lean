/-
  What sessions are, in plain words: they cover the ticks, end at ticks, are apart, and have no great gap inside; there is one such list.
-/
import Derived.Test.YtolkmfpbgheaaaaX
namespace Go.Proofs.Ytolkmfpbgheaaaa
set_option linter.unusedVariables false

structure SesOf (g : Int) (P : Int → Prop) (L : List Iv) : Prop where
  cover : ∀ x, P x → ∃ I, I ∈ L ∧ I.1 ≤ x ∧ x ≤ I.2
  ends : ∀ I, I ∈ L → P I.1 ∧ P I.2 ∧ I.1 ≤ I.2
  apart : L.Pairwise (fun x y => x.2 + g < y.1)
  dense : ∀ I, I ∈ L → ∀ u, P u → I.1 ≤ u → u < I.2 → ∃ v, P v ∧ u < v ∧ v ≤ I.2 ∧ v - u ≤ g
theorem SesOf.congr {g : Int} {P Q : Int → Prop} {L : List Iv} (h : SesOf g P L) (e : ∀ x, P x ↔ Q x) : SesOf g Q L := by
  have : P = Q := funext fun x => propext (e x)
  rw [← this]; exact h
theorem SesOf.cons {g : Int} {P Q : Int → Prop} {c : Iv} {M : List Iv} (h1 : SesOf g P [c]) (h2 : SesOf g Q M) (hpq : ∀ y, Q y → c.2 + g < y) (hg : 0 ≤ g) : SesOf g (fun x => P x ∨ Q x) (c :: M) := by
  have hc := h1.ends c (by simp)
  refine ⟨?_, ?_, ?_, ?_⟩
  · rintro x (hx | hx)
    · obtain ⟨I, hI, h⟩ := h1.cover x hx
      simp at hI; subst hI
      exact ⟨I, by simp, h⟩
    · obtain ⟨I, hI, h⟩ := h2.cover x hx
      exact ⟨I, by simp [hI], h⟩
  · intro I hI
    rcases List.mem_cons.1 hI with rfl | hI
    · exact ⟨Or.inl hc.1, Or.inl hc.2.1, hc.2.2⟩
    · obtain ⟨a, b, d⟩ := h2.ends I hI
      exact ⟨Or.inr a, Or.inr b, d⟩
  · rw [List.pairwise_cons]
    exact ⟨fun I hI => hpq _ (h2.ends I hI).1, h2.apart⟩
  · intro I hI u hu h3 h4
    rcases List.mem_cons.1 hI with rfl | hI'
    · rcases hu with hu | hu
      · obtain ⟨v, a, b⟩ := h1.dense I (by simp) u hu h3 h4
        exact ⟨v, Or.inl a, b⟩
      · have := hpq u hu; omega
    · rcases hu with hu | hu
      · obtain ⟨J, hJ, h5⟩ := h1.cover u hu
        simp at hJ; subst hJ
        have := hpq _ (h2.ends I hI').1
        omega
      · obtain ⟨v, a, b⟩ := h2.dense I hI' u hu h3 h4
        exact ⟨v, Or.inr a, b⟩
theorem SesOf.nil (g : Int) {P : Int → Prop} (h : ∀ x, ¬ P x) : SesOf g P [] := ⟨fun x hx => absurd hx (h x), fun I hI => by simp at hI, List.Pairwise.nil, fun I hI => by simp at hI⟩
theorem sessGo_of (g : Int) (hg : 0 ≤ g) : ∀ (r : List Int) (c : Iv) (P : Int → Prop), SesOf g P [c] → (∀ x, x ∈ r → c.2 ≤ x) → r.Pairwise (· ≤ ·) → SesOf g (fun x => P x ∨ x ∈ r) (sessGo g c r)
  | [], c, P, h, _, _ => h.congr (fun x => by simp)
  | x :: r, c, P, h, hx, hs => by
    rw [List.pairwise_cons] at hs
    have hc := h.ends c (by simp)
    unfold sessGo
    split
    · rename_i hgap
      refine (sessGo_of g hg r (c.1, x) (fun y => P y ∨ y = x) ?_ hs.1 hs.2).congr (fun y => by simp only [List.mem_cons, or_assoc])
      have hcx := hx x (by simp)
      refine ⟨?_, ?_, List.pairwise_singleton _ _, ?_⟩
      · rintro y (hy | rfl)
        · obtain ⟨I, hI, h1⟩ := h.cover y hy
          simp at hI; subst hI
          exact ⟨(I.1, x), by simp, h1.1, by show y ≤ x; omega⟩
        · exact ⟨(c.1, y), by simp, by show c.1 ≤ y; omega, by show y ≤ y; omega⟩
      · intro I hI
        simp at hI; subst hI
        exact ⟨Or.inl hc.1, Or.inr rfl, by show c.1 ≤ x; omega⟩
      · intro I hI u hu h1 h2
        simp at hI; subst hI
        rcases hu with hu | rfl
        · obtain ⟨J, hJ, h3⟩ := h.cover u hu
          simp at hJ; subst hJ
          by_cases hu2 : u < J.2
          · obtain ⟨v, a, b, d, e⟩ := h.dense J (by simp) u hu h3.1 hu2
            exact ⟨v, Or.inl a, b, by show v ≤ x; omega, e⟩
          · exact ⟨x, Or.inr rfl, h2, by show x ≤ x; omega, by omega⟩
        · exact absurd h2 (by show ¬ u < u; omega)
    · rename_i hgap
      have ih := sessGo_of g hg r (x, x) (fun y => y = x) ⟨fun y hy => ⟨(x, x), by simp, by subst hy; exact ⟨Int.le_refl _, Int.le_refl _⟩⟩, fun I hI => by simp at hI; subst hI; exact ⟨rfl, rfl, Int.le_refl _⟩, List.pairwise_singleton _ _, fun I hI u hu h1 h2 => by simp at hI; subst hI; subst hu; exact absurd h2 (by show ¬ u < u; omega)⟩ hs.1 hs.2
      refine (h.cons ih ?_ hg).congr (fun y => by simp only [List.mem_cons])
      rintro y (rfl | hy)
      · omega
      · have := hs.1 y hy; omega
theorem sess_of {g : Int} (hg : 0 ≤ g) {s : List Int} (hs : s.Pairwise (· ≤ ·)) : SesOf g (fun x => x ∈ s) (sess g s) := by
  cases s with
  | nil => exact SesOf.nil g (by simp)
  | cons a r =>
    rw [List.pairwise_cons] at hs
    refine (sessGo_of g hg r (a, a) (fun y => y = a) ⟨fun y hy => ⟨(a, a), by simp, by subst hy; exact ⟨Int.le_refl _, Int.le_refl _⟩⟩, fun I hI => by simp at hI; subst hI; exact ⟨rfl, rfl, Int.le_refl _⟩, List.pairwise_singleton _ _, fun I hI u hu h1 h2 => by simp at hI; subst hI; subst hu; exact absurd h2 (by show ¬ u < u; omega)⟩ hs.1 hs.2).congr (fun y => by simp only [List.mem_cons])
/-- Of what follows the first session. -/
theorem SesOf.tail {g : Int} (hg : 0 ≤ g) {P : Int → Prop} {I : Iv} {L : List Iv} (h : SesOf g P (I :: L)) : SesOf g (fun x => P x ∧ I.2 < x) L := by
  have ha := h.apart
  rw [List.pairwise_cons] at ha
  refine ⟨?_, ?_, ha.2, ?_⟩
  · rintro x ⟨hx, hlt⟩
    obtain ⟨J, hJ, h1⟩ := h.cover x hx
    rcases List.mem_cons.1 hJ with rfl | hJ
    · omega
    · exact ⟨J, hJ, h1⟩
  · intro J hJ
    obtain ⟨a, b, c⟩ := h.ends J (by simp [hJ])
    have := ha.1 J hJ
    exact ⟨⟨a, by omega⟩, ⟨b, by omega⟩, c⟩
  · rintro J hJ u ⟨hu, hlt⟩ h1 h2
    obtain ⟨v, a, b, c⟩ := h.dense J (by simp [hJ]) u hu h1 h2
    exact ⟨v, ⟨a, by omega⟩, b, c⟩
theorem SesOf.first {g : Int} (hg : 0 ≤ g) {P : Int → Prop} {I : Iv} {L : List Iv} (h : SesOf g P (I :: L)) : ∀ x, P x → I.1 ≤ x := by
  intro x hx
  have ha := h.apart
  rw [List.pairwise_cons] at ha
  obtain ⟨J, hJ, h1⟩ := h.cover x hx
  rcases List.mem_cons.1 hJ with rfl | hJ
  · exact h1.1
  · have := ha.1 J hJ; have := (h.ends I (by simp)).2.2; omega
theorem SesOf.reach {g : Int} (hg : 0 ≤ g) {P : Int → Prop} {I : Iv} {L : List Iv} (h : SesOf g P (I :: L)) : ∀ x, P x → I.2 < x → I.2 + g < x := by
  intro x hx hlt
  have ha := h.apart
  rw [List.pairwise_cons] at ha
  obtain ⟨J, hJ, h1⟩ := h.cover x hx
  rcases List.mem_cons.1 hJ with rfl | hJ
  · omega
  · have := ha.1 J hJ; omega
/-- There is one such list. -/
theorem SesOf.unique {g : Int} (hg : 0 ≤ g) : ∀ (L M : List Iv) (P : Int → Prop), SesOf g P L → SesOf g P M → L = M
  | [], [], P, _, _ => rfl
  | [], J :: M, P, h, h' => by
    obtain ⟨I, hI, _⟩ := h.cover _ (h'.ends J (by simp)).1
    simp at hI
  | I :: L, [], P, h, h' => by
    obtain ⟨J, hJ, _⟩ := h'.cover _ (h.ends I (by simp)).1
    simp at hJ
  | I :: L, J :: M, P, h, h' => by
    have e1 := h.ends I (by simp)
    have e2 := h'.ends J (by simp)
    have f1 := h.first hg _ e2.1
    have f2 := h'.first hg _ e1.1
    have g1 : J.2 ≤ I.2 := by
      rcases Int.lt_or_le I.2 J.2 with hlt | hle
      · obtain ⟨v, a, b, c, d⟩ := h'.dense J (by simp) I.2 e1.2.1 (by omega) hlt
        have := h.reach hg v a b; omega
      · exact hle
    have g2 : I.2 ≤ J.2 := by
      rcases Int.lt_or_le J.2 I.2 with hlt | hle
      · obtain ⟨v, a, b, c, d⟩ := h.dense I (by simp) J.2 e2.2.1 (by omega) hlt
        have := h'.reach hg v a b; omega
      · exact hle
    have e : I = J := Prod.ext (by omega) (by omega)
    subst e
    rw [SesOf.unique hg L M _ (h.tail hg) (h'.tail hg)]
/-- The sessions up to the end of one of them. -/
theorem SesOf.take {g : Int} (hg : 0 ≤ g) {P : Int → Prop} {L : List Iv} (h : SesOf g P L) {k : Nat} {I : Iv} (hk : L[k]? = some I) : SesOf g (fun x => P x ∧ x ≤ I.2) (L.take (k + 1)) := by
  have hin : ∀ (j : Nat) (J : Iv), L[j]? = some J → j ≤ k → J.2 ≤ I.2 := by
    intro j J hJ hj
    rcases Nat.lt_or_eq_of_le hj with hlt | rfl
    · have ha := h.apart
      rw [List.pairwise_iff_getElem] at ha
      obtain ⟨h1, e1⟩ := List.getElem?_eq_some_iff.1 hJ
      obtain ⟨h2, e2⟩ := List.getElem?_eq_some_iff.1 hk
      have := ha j k h1 h2 hlt
      rw [e1, e2] at this
      have := (h.ends I (List.mem_of_getElem? hk)).2.2
      omega
    · rw [hk] at hJ; injection hJ with hJ; subst hJ; omega
  refine ⟨?_, ?_, h.apart.sublist (List.take_sublist _ _), ?_⟩
  · rintro x ⟨hx, hle⟩
    obtain ⟨J, hJ, h1⟩ := h.cover x hx
    obtain ⟨j, hj, rfl⟩ := List.mem_iff_getElem.1 hJ
    by_cases hjk : j ≤ k
    · exact ⟨_, List.mem_of_getElem? (i := j) (by rw [List.getElem?_take_of_lt (by omega)]; exact List.getElem?_eq_getElem hj), h1⟩
    · have ha := h.apart
      rw [List.pairwise_iff_getElem] at ha
      obtain ⟨h2, e2⟩ := List.getElem?_eq_some_iff.1 hk
      have := ha k j h2 hj (by omega)
      rw [e2] at this
      omega
  · intro J hJ
    obtain ⟨j, hj, rfl⟩ := List.mem_iff_getElem.1 hJ
    simp at hj
    have hm := hin j _ (List.getElem?_eq_getElem (by omega)) (by omega)
    rw [List.getElem_take]
    obtain ⟨a, b, c⟩ := h.ends L[j] (List.getElem_mem _)
    exact ⟨⟨a, by omega⟩, ⟨b, hm⟩, c⟩
  · rintro J hJ u ⟨hu, hle⟩ h1 h2
    obtain ⟨j, hj, rfl⟩ := List.mem_iff_getElem.1 hJ
    simp at hj
    have hm := hin j _ (List.getElem?_eq_getElem (by omega)) (by omega)
    rw [List.getElem_take] at h1 h2 ⊢
    obtain ⟨v, a, b, c, d⟩ := h.dense L[j] (List.getElem_mem _) u hu h1 h2
    exact ⟨v, ⟨a, by omega⟩, b, c, d⟩
/-- A session lies in one of those with a greater gap. -/
theorem SesOf.within {g m : Int} (hg : 0 ≤ g) (hm : g ≤ m) {P : Int → Prop} {L W : List Iv} (h : SesOf g P L) (h' : SesOf m P W) {I : Iv} (hI : I ∈ L) : ∃ J, J ∈ W ∧ J.1 ≤ I.1 ∧ I.2 ≤ J.2 := by
  obtain ⟨a, b, c⟩ := h.ends I hI
  obtain ⟨J, hJ, h1, h2⟩ := h'.cover _ a
  refine ⟨J, hJ, h1, ?_⟩
  rcases Int.lt_or_le J.2 I.2 with hlt | hle
  · obtain ⟨v, pv, hv1, hv2, hv3⟩ := h.dense I hI J.2 (h'.ends J hJ).2.1 h2 hlt
    obtain ⟨K, hK, k1, k2⟩ := h'.cover v pv
    obtain ⟨i, hi, rfl⟩ := List.mem_iff_getElem.1 hJ
    obtain ⟨j, hj, rfl⟩ := List.mem_iff_getElem.1 hK
    have ha := h'.apart
    rw [List.pairwise_iff_getElem] at ha
    have hJe := (h'.ends _ hJ).2.2
    rcases Nat.lt_trichotomy i j with hij | hij | hij
    · have := ha i j hi hj hij; omega
    · subst hij; omega
    · have := ha j i hj hi hij; omega
  · exact hle
/-- How many of them hold a number. -/
def cntI (L : List Iv) (x : Int) : Nat := (L.filter (fun I => decide (I.1 ≤ x) && decide (x ≤ I.2))).length
theorem cntI_snoc (L : List Iv) (i : Nat) (I : Iv) (x : Int) (h : L[i]? = some I) : cntI (L.take (i + 1)) x = cntI (L.take i) x + if decide (I.1 ≤ x) && decide (x ≤ I.2) then 1 else 0 := by
  unfold cntI
  rw [List.take_add_one, h, List.filter_append, List.length_append]
  cases hb : decide (I.1 ≤ x) && decide (x ≤ I.2) <;> simp [List.filter, hb]
theorem cntI_le (L : List Iv) (x : Int) : cntI L x ≤ L.length := List.length_filter_le _ _
theorem SesOf.count {g : Int} (hg : 0 ≤ g) {x : Int} : ∀ (L : List Iv) {P : Int → Prop}, SesOf g P L → cntI L x ≤ 1 ∧ (cntI L x = 1 ↔ ∃ I, I ∈ L ∧ I.1 ≤ x ∧ x ≤ I.2)
  | [], P, h => by simp [cntI]
  | I :: L, P, h => by
    have ih := SesOf.count (x := x) hg L (h.tail hg)
    have ha := h.apart
    rw [List.pairwise_cons] at ha
    have he := (h.ends I (by simp)).2.2
    by_cases hb : I.1 ≤ x ∧ x ≤ I.2
    · have h0 : cntI L x = 0 := by
        unfold cntI
        rw [List.length_eq_zero_iff, List.filter_eq_nil_iff]
        intro J hJ
        have := ha.1 J hJ
        simp; omega
      have h1 : cntI (I :: L) x = 1 := by
        unfold cntI at h0 ⊢
        rw [List.filter_cons_of_pos (by simp [hb]), List.length_cons, h0]
      exact ⟨by omega, ⟨fun _ => ⟨I, by simp, hb⟩, fun _ => h1⟩⟩
    · have h1 : cntI (I :: L) x = cntI L x := by
        unfold cntI
        rw [List.filter_cons_of_neg (by simp only [Bool.and_eq_true, decide_eq_true_eq]; exact hb)]
      rw [h1]
      refine ⟨ih.1, ih.2.trans ⟨fun ⟨J, hJ, h2⟩ => ⟨J, by simp [hJ], h2⟩, fun ⟨J, hJ, h2⟩ => ?_⟩⟩
      rcases List.mem_cons.1 hJ with rfl | hJ
      · exact absurd h2 hb
      · exact ⟨J, hJ, h2⟩
theorem sessGo_fewer {g m : Int} (hm : g ≤ m) : ∀ (r : List Int) (c c' : Iv), c.2 = c'.2 → (sessGo m c r).length ≤ (sessGo g c' r).length
  | [], c, c', _ => by simp [sessGo]
  | x :: r, c, c', e => by
    unfold sessGo
    by_cases h1 : x - c.2 ≤ m
    · rw [if_pos h1]
      by_cases h2 : x - c'.2 ≤ g
      · rw [if_pos h2]; exact sessGo_fewer hm r _ _ rfl
      · rw [if_neg h2]; exact Nat.le_trans (sessGo_fewer hm r (c.1, x) (x, x) rfl) (by simp)
    · rw [if_neg h1, if_neg (by omega)]
      simp only [List.length_cons]
      have := sessGo_fewer hm r (x, x) (x, x) rfl
      omega
theorem sess_fewer {g m : Int} (hm : g ≤ m) (s : List Int) : (sess m s).length ≤ (sess g s).length := by
  cases s with
  | nil => simp [sess]
  | cons a r => exact sessGo_fewer hm r (a, a) (a, a) rfl

/-! ### The sessions of events -/
theorem mem_sortT (s : List Int) (x : Int) : x ∈ sortT s ↔ x ∈ s ∧ okT x = true := by
  rw [(sortT_perm s).mem_iff, List.mem_filter]
theorem sesL_of {s : List Int} {g : Int} (hg : gapOk g = true) : SesOf g (fun x => x ∈ s ∧ okT x = true) (sesL s g) := by
  have h1 := of_decide_eq_true hg
  unfold sesL
  rw [if_pos hg]
  exact (sess_of (by omega) (sortT_sorted s)).congr (fun x => mem_sortT s x)
theorem past_past (s : List Int) (t : Int) : past (past s t) t = past s t := by
  unfold past; rw [List.filter_filter]; congr 1; funext x; simp
/-- At the last event of a session it is this session. -/
theorem seAt_last {s : List Int} {g : Int} (hg : gapOk g = true) {k : Nat} {I : Iv} (hk : (sesL s g)[k]? = some I) : seAt s g I.2 = some I := by
  have h1 := of_decide_eq_true hg
  have hof := sesL_of (s := s) hg
  have he := hof.ends I (List.mem_of_getElem? hk)
  have htk := hof.take (by omega) hk
  have hp : SesOf g (fun x => (x ∈ s ∧ okT x = true) ∧ x ≤ I.2) (sess g (sortT (past s I.2))) := by
    refine (sess_of (by omega) (sortT_sorted (past s I.2))).congr (fun x => ?_)
    rw [mem_sortT]
    unfold past
    rw [List.mem_filter]
    simp only [Bool.not_eq_true', decide_eq_false_iff_not, Int.not_lt]
    constructor
    · rintro ⟨⟨a, b⟩, c⟩; exact ⟨⟨a, c⟩, b⟩
    · rintro ⟨⟨a, c⟩, b⟩; exact ⟨⟨a, b⟩, c⟩
  have e := SesOf.unique (by omega) _ _ _ hp htk
  unfold seAt
  rw [he.2.1.2, hg, e]
  unfold nowS
  have hlt := (List.getElem?_eq_some_iff.1 hk).1
  have hlast : ((sesL s g).take (k + 1)).getLast? = some I := by
    rw [List.getLast?_eq_getElem?, List.length_take, Nat.min_eq_left (by omega), Nat.add_sub_cancel, List.getElem?_take_of_lt (by omega)]
    exact hk
  rw [hlast]
  simp only [Bool.and_self, if_true]
  rw [if_neg (by omega)]
/-- What is known of the current session. -/
theorem seAt_facts {s : List Int} {g t : Int} {I : Iv} (h : seAt s g t = some I) : I.1 ≤ I.2 ∧ I.2 ≤ t ∧ t - I.2 ≤ g ∧ 0 ≤ I.2 ∧ t ≤ 1099511627776 := by
  unfold seAt at h
  split at h
  · rename_i hb
    rw [Bool.and_eq_true] at hb
    have h1 := of_decide_eq_true hb.2
    have ht := okT_yes hb.1
    unfold nowS at h
    split at h
    · rename_i J hJ
      split at h
      · cases h
      · rename_i hn
        injection h with h; subst h
        have hm := List.mem_of_getLast? hJ
        have he := (sess_of (g := g) (by omega) (sortT_sorted (past s t))).ends J hm
        have hp := (mem_sortT _ _).1 he.2.1
        unfold past at hp
        rw [List.mem_filter] at hp
        have h2 : J.2 ≤ t := by simpa using hp.1.2
        have h3 := okT_yes hp.2
        exact ⟨he.2.2, h2, by omega, h3.1, ht.2⟩
    · cases h
  · cases h
theorem seAt_past (s : List Int) (g t : Int) : seAt (past s t) g t = seAt s g t := by unfold seAt; rw [past_past]
end Go.Proofs.Ytolkmfpbgheaaaa
