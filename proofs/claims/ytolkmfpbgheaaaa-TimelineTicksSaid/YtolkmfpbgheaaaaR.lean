/-
  A range over a function whose function keeps a state of its own in a cell that it has captured.
-/
import Derived.Test.YtolkmfpbgheaaaaU5
import Derived.RangeFuncNested
import Derived.RangeFuncBound
import Derived.RangeFuncCalls
import Derived.RangeFuncLeaves
namespace Go.Proofs.Ytolkmfpbgheaaaa
open Go.ChangeShapes Go.WideShapes Go.ChangeAt Go.RowKit
set_option linter.unusedVariables false

/-- The function gives these elements, one after another, to whatever rounds leave its own blocks alone; it turns the block of its state, and lays new ones. -/
def Yields {α : Type} (n : Nat) (P : Program) (gf : Nat) (lb : Array Value) (encs : α → Array Value) (K : Nat → Prop) (bl : Nat) (xs : List α) (w : World) : Prop :=
  ∀ (l : Nat) (J : List α → World → Prop) (W : World), (∀ k, K k → W.heap[k]? = w.heap[k]?) → (∀ pre A B, J pre A → A.grownBy B (some bl) → J pre B) →
    (∀ pre x rest W1, xs = pre ++ x :: rest → J pre W1 → YieldAt Fence.wide (n - 1) P l (encs x) W1 fun e W' => e = .returned (.bool true) ∧ J (pre ++ [x]) W' ∧ ∀ k, K k → W'.heap[k]? = W1.heap[k]?) →
    J [] W → CallsIn Fence.wide n P gf (#[.func (.yield l) #[] #[]] ++ lb) W fun e W' => (∃ v, e = .returned v) ∧ J xs W'
/-- What a round keeps. -/
def RoundKeeps (K : Nat → Prop) (S : Nat) (W W' : World) : Prop := (∀ k, K k → W'.heap[k]? = W.heap[k]?) ∧ ∀ k o, S ≤ k → W.heap[k]? = some o → o.isCells = false → W'.heap[k]? = some o
/-- What does not mind the steps of the loop: the block of the function's state, or a block of the loop's own, is turned. -/
def Minds (bl S : Nat) (I : World → Prop) : Prop := ∀ A B r, I A → A.grownBy B (some r) → (r = bl ∨ (S ≤ r ∧ ∃ o, A.heap[r]? = some o ∧ o.isCells = false)) → I B
theorem Minds.alloc {bl S : Nat} {I : World → Prop} (h : Minds bl S I) (W : World) (o : Obj) (hi : I W) : I (W.alloc o) := h W _ bl hi (World.grownBy_alloc W o _) (Or.inl rfl)
theorem Minds.putObj {bl S : Nat} {I : World → Prop} (h : Minds bl S I) (W : World) (r : Nat) (o o' : Obj) (hi : I W) (hS : S ≤ r) (ho : W.heap[r]? = some o) (hc : o.isCells = false) : I (W.putObj r o') := h W _ r hi (grownBy_putObj' W r o') (Or.inr ⟨hS, o, ho, hc⟩)

theorem wp_range {α : Type} {n : Nat} {P : Program} {g : Operand} {ps : Array Tmp} {assign body : Code} {Q : Exit → Act → World → Prop} {a : Act} {w : World}
    {gf : Nat} {lb : Array Value} (hg : a.eval g = .func (.func gf) #[] lb) (eg : ∀ args w, (callFunc gf args).run P w = .ok (.enter gf args) w)
    {encs : α → Array Value} (hps : ∀ x, (encs x).size = ps.size) {xs : List α} {bl : Nat} (hbl : bl < w.heap.size) {K : Nat → Prop} (hK : ∀ k, K k → k < w.heap.size)
    (hseq : Yields (n - 1) P gf lb encs K bl xs w)
    (I : List α → World → Prop) (hI : ∀ pre, Minds bl w.heap.size (I pre)) (h0 : I [] w) (Ax : α → Act → World → Prop) (hAx : ∀ x a', Minds bl w.heap.size (Ax x a'))
    (hassign : ∀ (l : Nat) (pre : List α) (x : α) (W : World) (C : Act → World → Prop), w.heap.size ≤ W.heap.size → I pre W → (∀ a' W', I pre W' → RoundKeeps K w.heap.size W W' → Ax x a' W' → C a' W') →
      assign.wpIn (Fence.wide.inRound l) (n - 1 - 1) P (Exit.then C (fun _ _ _ => False)) { tmps := (ps.zip (encs x)).foldl (fun t (p, v) => t.setIfInBounds p v) a.tmps, defers := [] } W)
    (hbody : ∀ (l : Nat) (pre : List α) (x : α) (rest : List α) (a' : Act) (W : World), xs = pre ++ x :: rest → w.heap.size ≤ W.heap.size → I pre W → Ax x a' W →
      body.wpIn (Fence.wide.inRound l) (n - 1 - 1) P (fun e _ W' => e = .normal ∧ I (pre ++ [x]) W' ∧ RoundKeeps K w.heap.size W W') a' W)
    (hdone : ∀ (D : Nat) (W : World), w.heap.size ≤ D → I xs W → W.heap[D]? = some (.deferred (some [])) → Q .normal { a with defers := { target := .collected D, args := #[] } :: a.defers } W) :
    (Code.rangeFunc g ps assign body).wpIn Fence.wide n P Q a w := by
  refine wpIn_rangeFunc ?_
  intro fn hfn
  obtain ⟨rec, hrec⟩ : ∃ rec : LoopState → Option Code → Loop, rec = fun st pe => { state := st, pending := pe, fn, tmps := a.tmps, params := ps, assign, body, defers := w.heap.size } := ⟨_, rfl⟩
  obtain ⟨W1, hW1⟩ : ∃ W1, (w.alloc (.deferred (some []))).alloc (.loop (rec .ready none)) = W1 := ⟨_, rfl⟩
  have hL1 : W1.heap[w.heap.size + 1]? = some (.loop (rec .ready none)) := by
    rw [← hW1]; have := World.alloc_heap_new (w.alloc (.deferred (some []))) (.loop (rec .ready none)); rwa [World.size_alloc] at this
  have hK1 : W1.heap[w.heap.size]? = some (.deferred (some [])) := by
    rw [← hW1]; exact (Below.heap_alloc _ _ _ (by simp)).trans (World.alloc_heap_new w _)
  have hI1 : I [] W1 := by rw [← hW1]; exact (hI _).alloc _ _ ((hI _).alloc _ _ h0)
  have hb1 : Below w.heap.size w W1 := by
    rw [← hW1]; exact ((Below.refl _ w).alloc (Nat.le_refl _) _).alloc (by simp) _
  refine ⟨w.heap.size + 1, [{ target := .collected w.heap.size, args := #[] }], W1, { target := .fn (.func gf) lb, args := #[.func (.yield (w.heap.size + 1)) #[] #[]] }, W1, gf,
    #[.func (.yield (w.heap.size + 1)) #[] #[]] ++ lb, W1, ?_, ?_, fun _ _ => trivial, ?_, fun h => ?_, ?_⟩
  · rw [← hW1, hrec]; exact run_enterLoop_outer _ _ _ _ _
  · simp only [resolve, hg]
    simp [go_sem]
  · simp [invoke, go_sem, eg]
  · cases h
  · have far : ∀ {A B : World} {k : Nat} {o : Obj}, A.grownBy B (some bl) → w.heap.size ≤ k → A.heap[k]? = some o → B.heap[k]? = some o := fun hgr hk ho =>
      (hgr.block _ (Array.getElem?_eq_some_iff.1 ho).1 (fun e => by injection e with e; omega)).trans ho
    refine (hseq (w.heap.size + 1)
      (fun pre W => I pre W ∧ W.heap[w.heap.size + 1]? = some (.loop (rec .ready none)) ∧ W.heap[w.heap.size]? = some (.deferred (some [])))
      W1 (fun k hk => hb1.block k (hK k hk))
      (fun pre A B hj hgr => ⟨hI pre A B bl hj.1 hgr (Or.inl rfl), far hgr (by omega) hj.2.1, far hgr (Nat.le_refl _) hj.2.2⟩)
      ?_ ⟨hI1, hL1, hK1⟩).mono ?_
    · rintro pre x rest W hxs ⟨hi, hl, hk⟩
      have hlt : w.heap.size + 1 < W.heap.size := (Array.getElem?_eq_some_iff.1 hl).1
      have hy := run_yield (P := P) (args := encs x) hl (by rw [hrec]; exact hps x)
      rw [hrec] at hy
      refine ⟨fn, _, assign, body, hy, roundIn_of_wpIn hfn (hassign _ pre x W _ (by omega) hi ?_)⟩
      clear hy
      intro a' Wa hia hka hax
      have hla := hka.2 _ _ (by omega) hl rfl
      have hda := hka.2 _ _ (Nat.le_refl _) hk rfl
      have hlta : w.heap.size + 1 < Wa.heap.size := (Array.getElem?_eq_some_iff.1 hla).1
      refine ⟨_, run_beginRound hla (by rw [hrec]), ?_⟩
      have hl2 : (Wa.putObj (w.heap.size + 1) (.loop { rec .ready none with state := .busy })).heap[w.heap.size + 1]? = some (.loop { rec .ready none with state := .busy }) := World.putObj_heap_same hlta
      have hk2 : (Wa.putObj (w.heap.size + 1) (.loop { rec .ready none with state := .busy })).heap[w.heap.size]? = some (.deferred (some [])) := (World.putObj_heap_other (by omega)).trans hda
      refine wpIn_mono (hbody _ pre x rest a' _ hxs (by rw [World.putObj_size]; omega) ((hI pre).putObj _ _ _ _ hia (by omega) hla rfl) ((hAx x a').putObj _ _ _ _ hax (by omega) hla rfl)) ?_
      rintro e a3 W3 ⟨rfl, hi3, hk3⟩
      have hl3 := hk3.2 _ _ (by omega) hl2 rfl
      have hd3 := hk3.2 _ _ (Nat.le_refl _) hk2 rfl
      have hr := run_endRound (P := P) none hl3
      rw [hrec] at hr
      refine ⟨_, _, hr, rfl, ⟨(hI _).putObj _ _ _ _ hi3 (by omega) hl3 rfl, ?_, (World.putObj_heap_other (by omega)).trans hd3⟩, ?_⟩
      · rw [World.putObj_heap_same (Array.getElem?_eq_some_iff.1 hl3).1, hrec]; rfl
      · intro k hkk
        have hne : k ≠ w.heap.size + 1 := by have := hK k hkk; omega
        rw [World.putObj_heap_other hne, hk3.1 k hkk, World.putObj_heap_other hne, hka.1 k hkk]
    · rintro e W2 ⟨⟨v, rfl⟩, hi, hl, hk⟩
      exact ⟨none, _, by have := run_endLoop (P := P) hl (by rw [hrec]; simp); rw [hrec] at this; exact this, hdone _ _ (Nat.le_refl _) ((hI _).putObj _ _ _ _ hi (by omega) hl rfl) ((World.putObj_heap_other (by omega)).trans hk)⟩
end Go.Proofs.Ytolkmfpbgheaaaa
