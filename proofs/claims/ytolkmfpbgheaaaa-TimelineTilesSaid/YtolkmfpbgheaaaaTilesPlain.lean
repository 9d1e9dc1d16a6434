/-
  The parts of an interval follow one another; the last one is what a tumbling window selects.
-/
import Derived.Test.YtolkmfpbgheaaaaPartsWalk
namespace Go.Proofs.Ytolkmfpbgheaaaa
set_option linter.unusedVariables false

/-- What is said of the parts. -/
structure Tiled (f t s : Int) (l : List Iv) : Prop where
  s1 : 1 ≤ s
  s2 : s ≤ 1099511627776
  first : ∀ x, l[0]? = some x → x.1 = f
  last : ∀ x, l[l.length - 1]? = some x → x.2 = t
  one : ∀ (k : Nat) x, l[k]? = some x → 0 ≤ x.1 ∧ x.1 ≤ x.2 ∧ x.2 ≤ 1099511627776 ∧ x.2 / s = x.1 / s
  next : ∀ (k : Nat) x y, l[k]? = some x → l[k + 1]? = some y → y.1 = x.2 + 1
theorem partsN_tiled {f t s : Int} (h : okI f t = true) (h1 : 1 ≤ s) (h2 : s ≤ 1099511627776) : Tiled f t s (partsN f t s (partsC f t s)) := by
  obtain ⟨hf, hft, ht⟩ := okI_yes h
  have R := fun k hk => atN_round (f := f) (t := t) (s := s) hf hft h1 k hk
  have Z := atN_zero hf hft h1
  have hlen := partsN_length f t s (partsC f t s)
  have G : ∀ (k : Nat) x, (partsN f t s (partsC f t s))[k]? = some x → k < partsC f t s ∧ x = part f t s (f / s + (k : Int)) := by
    intro k x hx
    have hk := (List.getElem?_eq_some_iff.1 hx).1
    rw [hlen] at hk
    rw [partsN_get f t s _ k hk] at hx
    injection hx with hx
    exact ⟨hk, hx.symm⟩
  refine ⟨h1, h2, ?_, ?_, ?_, ?_⟩
  · intro x hx
    obtain ⟨hk, rfl⟩ := G 0 x hx
    obtain ⟨-, -, -, -, -, -, -, -, hp, -⟩ := R 0 hk
    rw [hp]; exact Z.1
  · intro x hx
    obtain ⟨hk, rfl⟩ := G _ x hx
    rw [hlen] at hk
    obtain ⟨-, -, -, -, -, -, -, -, hp, hn, -⟩ := R (partsC f t s - 1) hk
    rw [hlen, hp]
    have e := atN_end (f := f) (t := t) (s := s) (partsC f t s - 1 + 1) (by omega)
    rw [hn] at e
    show min t _ = t
    omega
  · intro k x hx
    obtain ⟨hk, rfl⟩ := G k x hx
    obtain ⟨a0, a1, m0, m1, m2, em, q0, q1, hp, hn, -⟩ := R k hk
    rw [hp]
    show 0 ≤ atN f t s k ∧ atN f t s k ≤ min t _ ∧ min t _ ≤ _ ∧ min t _ / s = atN f t s k / s
    have e1 : atN f t s k / s = f / s + (k : Int) := by rw [Int.ediv_eq_iff_of_pos (by omega)]; refine ⟨by omega, by omega⟩
    have e2 : min t ((f / s + (k : Int)) * s + s - 1) / s = f / s + (k : Int) := by rw [Int.ediv_eq_iff_of_pos (by omega)]; refine ⟨by omega, by omega⟩
    refine ⟨a0, by omega, by omega, by rw [e1, e2]⟩
  · intro k x y hx hy
    obtain ⟨hk, rfl⟩ := G k x hx
    obtain ⟨hk2, rfl⟩ := G (k + 1) y hy
    obtain ⟨-, -, -, -, -, -, -, -, hp, hn, -⟩ := R k hk
    obtain ⟨-, -, -, -, -, -, -, -, hp2, -⟩ := R (k + 1) hk2
    rw [hp2, hp]
    exact hn
theorem bkt_tiled (f t s : Int) : bkt f t s = [] ∨ Tiled f t s (bkt f t s) := by
  unfold bkt
  by_cases h : bktOk f t s = true
  · rw [if_pos h]
    have := of_decide_eq_true h
    exact Or.inr (partsN_tiled this.1 this.2.1 this.2.2.1)
  · rw [if_neg h]; exact Or.inl rfl
/-- The parts of a short interval that begins at a multiple of the size. -/
theorem bkt_last {a t s : Int} (h1 : 1 ≤ s) (h2 : s ≤ 1099511627776) (ht : 0 ≤ t) (ht2 : t ≤ 1099511627776) (ha0 : 0 ≤ a) (ha : a ≤ t / s) (hs : t / s - a < 4096) : ∃ m, bkt (a * s) t s = m ++ [(t - t % s, t)] := by
  have dt := div_facts h1 ht
  have hm := mul_step (show 0 ≤ s by omega) ha
  have h0 : 0 ≤ a * s := Int.mul_nonneg ha0 (by omega)
  have hd : a * s / s = a := Int.mul_ediv_cancel a (by omega)
  have hok : okI (a * s) t = true := okI_of ⟨h0, by omega, ht2⟩
  have hb : bktOk (a * s) t s = true := decide_eq_true ⟨hok, h1, h2, by rw [hd]; exact hs⟩
  have hc : partsC (a * s) t s = (t / s - a).toNat + 1 := by unfold partsC; rw [hd]; omega
  refine ⟨partsN (a * s) t s ((t / s - a).toNat), ?_⟩
  unfold bkt
  rw [if_pos hb, hc, partsN_succ]
  congr 2
  unfold part
  rw [hd, show a + (((t / s - a).toNat : Nat) : Int) = t / s by omega]
  have e := (tum s t h1 ht).2.2.2.2.2.2
  refine Prod.ext ?_ ?_
  · show max (a * s) (t / s * s) = t - t % s
    rw [← e]; omega
  · show min t (t / s * s + s - 1) = t
    omega
end Go.Proofs.Ytolkmfpbgheaaaa
