/-
  asofref20.At.
-/
import Derived.Test.YtfnpfkgmacaboaaLE
import Derived.Deep.RegionLaw
namespace Go.Proofs.Ytfnpfkgmacaboaa
open Go.ChangeShapes Go.WideShapes Go.ChangeAt Go.RowKit
set_option linter.unusedVariables false
set_option linter.unusedSimpArgs false

/-- append, as a step of a region that draws its order. -/
theorem step_app {P : Program} {α : Type} {enc : α → List Value} {k bytes : Nat} {e t : TypeId} {w : World} {B : Nat} {v : Value} {l m : List α} {ops : Array Oper} {o : Oper} {a : Act} {K : Act → World → Prop} {Q : Exit → Act → World → Prop} {ao : Option Addr} {n c : Nat} {R : Prop} (E : El P e t k bytes) (hE : Enc enc k) (hgd : o.guard = none) (s x : Operand)
    (ho : o.op = .call { callee := .builtin .append, args := #[s, x], argTypes := #[t, t] }) (hs : a.eval s = v) (hx : a.eval x = .slice ao n c)
    (hO : Own enc k e w B v l) (hS : LiesAt enc k w ao m) (hn : n = m.length) (hc : ao = none → c = 0) (hB : B ≤ w.heap.size) (hl : l.length + m.length ≤ 1000000000)
    (h : ∀ v' w1, Own enc k e w1 B v' (l ++ m) → Below B w w1 → K (a.put o.dst v') w1) :
    if Region.wanted o (yielded ops a.tmps) = true then Oper.wp P o a w K Q else R := by
  have hw : Region.wanted o (yielded ops a.tmps) = true := by simp [Region.wanted, hgd]
  rw [if_pos hw]
  obtain ⟨i, z, hi, hz0, hz1, hz2, hz3⟩ := E.parts
  have hpos := E.pos
  have hfew := E.few
  subst hn
  cases ao with
  | none =>
    have hk : m = [] := by
      rcases hS with h | ⟨_, _, h, _⟩
      · exact h
      · cases h
    subst hk
    have h0 := hc rfl
    subst h0
    have hrun := run_append_owned_none (P := P) (w := w) B t o.type e i k E.und hi v _ _ hO
    have hx' : a.eval x = .slice none 0 0 := hx
    unfold Oper.wp
    simp [execOp, ho, resolve, invoke, builtin, hs, hx', hrun, Result.andThen]
    exact h v w (by rw [List.append_nil]; exact hO) (Below.refl _ _)
  | some ad =>
    have hcells : ∀ j v, (encs enc m)[j]? = some v → w.cell? (ad.add j) = some v := by
      intro j u hj
      rcases hS with rfl | ⟨b, off, he, hr⟩
      · simp [encs] at hj
      · injection he with he; subst he
        rw [addr_add]; exact hr.cells hE.len hpos j u hj
    have hbytes : (l.length + m.length) * bytes ≤ 140737488355328 := Nat.le_trans (Nat.mul_le_mul hl hfew) (by decide)
    refine wp_append_own _ s x t ho B e i z k bytes E.und hi hz0 hz1 hz2 hz3 hpos v _ _ hs hO ad m.length c (encs enc m) hx (encs_length hE.len m) hcells (encs_cell' hE.one m) (by unfold maxLen; omega) hbytes hB ?_
    intro v' w1 hown hgr _
    refine h v' w1 ?_ ((Below.refl _ _).grown hgr hB (fun g hg => (hO.lt g hg).1))
    unfold Own
    rw [encs_append, List.length_append]; exact hown
/-- A list of rows of the call's own, all in order. -/
def OwnR (w : World) (B : Nat) (v : Value) (l : List Rw) : Prop := Own Rw.cells 8 39 w B v l ∧ ∀ r ∈ l, r.Ok w
theorem OwnR.kept {w w' : World} {B : Nat} {v : Value} {l : List Rw} (h : OwnR w B v l) (hb : Below w.heap.size w w') : OwnR w' B v l := ⟨h.1.kept hb, fun d hd => (h.2 d hd).kept hb⟩
theorem OwnR.mono {w : World} {B B' : Nat} {v : Value} {l : List Rw} (h : OwnR w B v l) (hB : B' ≤ B) : OwnR w B' v l := ⟨h.1.mono hB, h.2⟩
theorem OwnR.nil (w : World) (B : Nat) : OwnR w B (.slice none 0 0) [] := ⟨Own.nil w B, fun d hd => by cases hd⟩
theorem OwnR.lies {w : World} {B : Nat} {v : Value} {l : List Rw} (h : OwnR w B v l) : ∃ ao c, v = .slice ao l.length c ∧ l.length ≤ c ∧ (ao = none → c = 0) ∧ RowsAt w ao l := by
  obtain ⟨ao, c, h1, h2, h3, h4⟩ := h.1.lies encR
  exact ⟨ao, c, h1, h2, h3, h4, h.2⟩
theorem Own.lit1 {α : Type} {enc : α → List Value} {k : Nat} {e : TypeId} {W : World} {B : Nat} (hE : Enc enc k) (hB : B ≤ W.heap.size) (x : α) : Own enc k e (W.alloc (.cells (enc x).toArray e)) B (.slice (some ⟨W.heap.size, 0, none⟩) 1 1) [x] := by
  have := World.ownsRow_lit (e := e) (size := k) W (enc x).toArray 1 hB (by unfold maxLen; omega) (by simp [hE.len])
  unfold Own
  rw [encs_one]
  simpa using this

/-- The rows, in order, that are there at a tick. -/
structure IsAt (L : List (DK × Int)) (t : Int) (d : List (DK × Int)) (ks : List RK) : Prop where
  rising : ks.Pairwise (fun x y => cmpR x y < 0)
  mem : ∀ k, k ∈ ks ↔ (∃ x ∈ d, x.1.2 = k) ∧ 0 < cntK L k t
/-- A row put in its place. -/
def insK (ks : List RK) (k : RK) : List RK := ks.takeWhile (fun x => decide (cmpR x k < 0)) ++ k :: ks.dropWhile (fun x => decide (cmpR x k < 0))
theorem insK_at {ks : List RK} {k : RK} {j : Nat} (hj : j ≤ ks.length) (h1 : ∀ q y, q < j → ks[q]? = some y → cmpR y k < 0) (h2 : ∀ y, ks[j]? = some y → ¬ cmpR y k < 0) : insK ks k = ks.take j ++ k :: ks.drop j := by
  unfold insK
  induction ks generalizing j with
  | nil => simp
  | cons y l ih =>
    cases j with
    | zero =>
      have := h2 y rfl
      simp [List.takeWhile, List.dropWhile, this]
    | succ j =>
      have h0 := h1 0 y (by omega) rfl
      have := ih (j := j) (by simpa using hj) (fun q z hq hz => h1 (q + 1) z (by omega) (by simpa using hz)) (fun z hz => h2 z (by simpa using hz))
      simp only [List.takeWhile, List.dropWhile, h0, decide_true, List.take_succ_cons, List.drop_succ_cons, List.cons_append] at this ⊢
      rw [this]
theorem insK_mem (ks : List RK) (k x : RK) : x ∈ insK ks k ↔ x = k ∨ x ∈ ks := by
  have h : ks.takeWhile (fun x => decide (cmpR x k < 0)) ++ ks.dropWhile (fun x => decide (cmpR x k < 0)) = ks := List.takeWhile_append_dropWhile
  unfold insK
  constructor
  · intro hx
    simp only [List.mem_append, List.mem_cons] at hx
    rcases hx with hx | hx | hx
    · exact Or.inr ((List.takeWhile_prefix _).subset hx)
    · exact Or.inl hx
    · exact Or.inr ((List.dropWhile_suffix _).subset hx)
  · rintro (rfl | hx)
    · simp
    · rw [← h, List.mem_append] at hx
      simp only [List.mem_append, List.mem_cons]
      rcases hx with hx | hx
      · exact Or.inl hx
      · exact Or.inr (Or.inr hx)
theorem insK_rising {ks : List RK} {k : RK} (h : ks.Pairwise (fun x y => cmpR x y < 0)) (hk : k ∉ ks) : (insK ks k).Pairwise (fun x y => cmpR x y < 0) := by
  induction ks with
  | nil => simp [insK]
  | cons y l ih =>
    obtain ⟨a1, a2⟩ := List.pairwise_cons.1 h
    have hi := ih a2 (fun e => hk (by simp [e]))
    by_cases hd : cmpR y k < 0
    · have e : insK (y :: l) k = y :: insK l k := by unfold insK; simp [List.takeWhile, List.dropWhile, hd]
      rw [e, List.pairwise_cons]
      refine ⟨fun z hz => ?_, hi⟩
      rcases (insK_mem l k z).1 hz with rfl | hz
      · exact hd
      · exact a1 z hz
    · have e : insK (y :: l) k = k :: y :: l := by unfold insK; simp [List.takeWhile, List.dropWhile, hd]
      rw [e, List.pairwise_cons]
      have hky : cmpR k y < 0 := by
        have h1 := cmpR_cmp.turn y k
        have h2 : cmpR y k ≠ 0 := fun e => hk (by rw [(cmpR_cmp.zero _ _).1 e]; simp)
        have h3 := cmpR_cmp.turn k y
        omega
      refine ⟨fun z hz => ?_, h⟩
      rcases List.mem_cons.1 hz with rfl | hz
      · exact hky
      · exact cmpR_cmp.trans _ _ _ hky (a1 z hz)
theorem IsAt.nil (L : List (DK × Int)) (t : Int) : IsAt L t [] [] := ⟨List.Pairwise.nil, fun k => by simp⟩
theorem IsAt.skip {L d : List (DK × Int)} {t : Int} {ks : List RK} {x : DK × Int} (h : IsAt L t d ks) (hx : cntK L x.1.2 t ≤ 0 ∨ x.1.2 ∈ ks) : IsAt L t (d ++ [x]) ks := by
  refine ⟨h.rising, fun k => ?_⟩
  rw [h.mem]
  constructor
  · rintro ⟨⟨y, hy, rfl⟩, hc⟩
    exact ⟨⟨y, by simp [hy], rfl⟩, hc⟩
  · rintro ⟨⟨y, hy, rfl⟩, hc⟩
    simp only [List.mem_append, List.mem_singleton] at hy
    rcases hy with hy | rfl
    · exact ⟨⟨y, hy, rfl⟩, hc⟩
    · rcases hx with hx | hx
      · omega
      · exact (h.mem _).1 hx
theorem IsAt.put {L d : List (DK × Int)} {t : Int} {ks : List RK} {x : DK × Int} (h : IsAt L t d ks) (h0 : 0 < cntK L x.1.2 t) (hx : x.1.2 ∉ ks) : IsAt L t (d ++ [x]) (insK ks x.1.2) := by
  refine ⟨insK_rising h.rising hx, fun k => ?_⟩
  rw [insK_mem, h.mem]
  constructor
  · rintro (rfl | ⟨⟨y, hy, rfl⟩, hc⟩)
    · exact ⟨⟨x, by simp, rfl⟩, h0⟩
    · exact ⟨⟨y, by simp [hy], rfl⟩, hc⟩
  · rintro ⟨⟨y, hy, rfl⟩, hc⟩
    simp only [List.mem_append, List.mem_singleton] at hy
    rcases hy with hy | rfl
    · exact Or.inr ⟨⟨y, hy, rfl⟩, hc⟩
    · exact Or.inl rfl
theorem rising_one {c : RK → RK → Int} (hc : Cmp c) : ∀ (r s : List RK), r.Pairwise (fun x y => c x y < 0) → s.Pairwise (fun x y => c x y < 0) → (∀ x, x ∈ r ↔ x ∈ s) → r = s
  | [], [], _, _, _ => rfl
  | [], y :: s, _, _, h => by have := (h y).2 (by simp); simp at this
  | x :: r, [], _, _, h => by have := (h x).1 (by simp); simp at this
  | x :: r, y :: s, h1, h2, h => by
    obtain ⟨a1, a2⟩ := List.pairwise_cons.1 h1
    obtain ⟨b1, b2⟩ := List.pairwise_cons.1 h2
    have hxy : x = y := by
      rcases List.mem_cons.1 ((h x).1 (by simp)) with e | hx
      · exact e
      · rcases List.mem_cons.1 ((h y).2 (by simp)) with e | hy
        · exact e.symm
        · have := hc.trans _ _ _ (b1 x hx) (a1 y hy)
          rw [hc.refl] at this
          omega
    subst hxy
    congr 1
    refine rising_one hc r s a2 b2 (fun z => ?_)
    constructor
    · intro hz
      rcases List.mem_cons.1 ((h z).1 (by simp [hz])) with e | hz'
      · subst e; have := a1 _ hz; rw [hc.refl] at this; omega
      · exact hz'
    · intro hz
      rcases List.mem_cons.1 ((h z).2 (by simp [hz])) with e | hz'
      · subst e; have := b1 _ hz; rw [hc.refl] at this; omega
      · exact hz'
theorem IsAt.unique {L d : List (DK × Int)} {t : Int} {ks ks' : List RK} (h : IsAt L t d ks) (h' : IsAt L t d ks') : ks = ks' :=
  rising_one cmpR_cmp ks ks' h.rising h'.rising (fun k => by rw [h.mem, h'.mem])
end Go.Proofs.Ytfnpfkgmacaboaa
