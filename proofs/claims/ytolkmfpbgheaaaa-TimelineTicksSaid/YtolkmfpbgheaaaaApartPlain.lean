/-
  Sessions of events: the counts, the gaps and the wider sessions that TimelineApart looks at.
-/
import Derived.Test.YtolkmfpbgheaaaaNowWalk
namespace Go.Proofs.Ytolkmfpbgheaaaa
set_option linter.unusedVariables false

theorem gapOk_pos {g : Int} (hg : gapOk g = true) : 1 ≤ g ∧ g ≤ 1099511627776 := of_decide_eq_true hg
theorem sesL_len60 {s : List Int} (hs : s.length ≤ 60) (g : Int) : (sesL s g).length ≤ 60 := by
  unfold sesL
  split
  · have := sess_length g (sortT s); have := sortT_length s; omega
  · simp
theorem sesL_cnt {s : List Int} {g : Int} (hg : gapOk g = true) {x : Int} (hx : x ∈ s) : cntI (sesL s g) x = if okT x then 1 else 0 := by
  have h := sesL_of (s := s) hg
  have hg0 := gapOk_pos hg
  obtain ⟨h1, h2⟩ := SesOf.count (x := x) (by omega) _ h
  cases hk : okT x
  · have : ¬ cntI (sesL s g) x = 1 := by
      rw [h2]
      rintro ⟨I, hI, a, b⟩
      obtain ⟨⟨-, e1⟩, ⟨-, e2⟩, -⟩ := h.ends I hI
      have p1 := of_decide_eq_true e1
      have p2 := of_decide_eq_true e2
      exact absurd hk (by unfold okT; simp; omega)
    simp; omega
  · have : cntI (sesL s g) x = 1 := h2.2 (h.cover x ⟨hx, hk⟩)
    simp [this]
theorem sesL_gap {s : List Int} {g : Int} (hg : gapOk g = true) {k : Nat} {I J : Iv} (h1 : (sesL s g)[k]? = some I) (h2 : (sesL s g)[k + 1]? = some J) :
    I.2 + g < J.1 ∧ 0 ≤ I.2 ∧ J.1 ≤ 1099511627776 := by
  have h := sesL_of (s := s) hg
  have ha := h.apart
  obtain ⟨hk1, e1⟩ := List.getElem?_eq_some_iff.1 h1
  obtain ⟨hk2, e2⟩ := List.getElem?_eq_some_iff.1 h2
  have := List.pairwise_iff_getElem.1 ha k (k + 1) hk1 hk2 (by omega)
  rw [e1, e2] at this
  obtain ⟨-, ⟨-, p⟩, -⟩ := h.ends I (List.mem_of_getElem? h1)
  obtain ⟨⟨-, q⟩, -, -⟩ := h.ends J (List.mem_of_getElem? h2)
  exact ⟨this, (of_decide_eq_true p).1, (of_decide_eq_true q).2⟩
/-- Does one of them hold both numbers? -/
def cov (W : List Iv) (a b : Int) : Bool := W.any (fun J => inB J.1 J.2 a && inB J.1 J.2 b)
theorem cov_nil (a b : Int) : cov [] a b = false := rfl
theorem cov_snoc (W : List Iv) (k : Nat) (J : Iv) (a b : Int) (h : W[k]? = some J) : cov (W.take (k + 1)) a b = (cov (W.take k) a b || (inB J.1 J.2 a && inB J.1 J.2 b)) := by
  unfold cov
  rw [List.take_add_one, h, List.any_append]
  simp
theorem sesL_cov {s : List Int} {g m : Int} (hg : gapOk g = true) (hm : gapOk m = true) (hgm : g ≤ m) {I : Iv} (hI : I ∈ sesL s g) : cov (sesL s m) I.1 I.2 = true := by
  have hg0 := gapOk_pos hg
  have h := sesL_of (s := s) hg
  obtain ⟨J, hJ, a, b⟩ := SesOf.within (by omega) hgm h (sesL_of hm) hI
  have := (h.ends I hI).2.2
  refine List.any_eq_true.2 ⟨J, hJ, ?_⟩
  unfold inB
  simp
  omega
theorem sesL_fewer {s : List Int} {g m : Int} (hg : gapOk g = true) (hm : gapOk m = true) (hgm : g ≤ m) : (sesL s m).length ≤ (sesL s g).length := by
  unfold sesL
  rw [if_pos hg, if_pos hm]
  exact sess_fewer hgm _
end Go.Proofs.Ytolkmfpbgheaaaa
