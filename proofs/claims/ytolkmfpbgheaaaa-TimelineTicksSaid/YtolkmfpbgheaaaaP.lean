/-
  The parts of an interval, in plain words.
-/
import Derived.Test.YtolkmfpbgheaaaaD
import Derived.Laws.OwnMore
import Derived.Lib.QuietBelow
import Derived.BigQuiet
import Derived.Deep.DeepCutAuto
import Derived.Deep.CutBlock
import Derived.Deep.RegionLaw
import Derived.Laws.AppendOwnNone
import Derived.Maps.AppendAt
namespace Go.Proofs.Ytolkmfpbgheaaaa
open Go.ChangeShapes Go.WideShapes Go.ChangeAt Go.RowKit
set_option linter.unusedVariables false

/-- One part: the ticks of an interval between a multiple of the size and the next one. -/
def part (f t s q : Int) : Iv := (max f (q * s), min t (q * s + s - 1))
/-- The first parts. -/
def partsN (f t s : Int) (n : Nat) : List Iv := (List.range n).map (fun k : Nat => part f t s (f / s + (k : Int)))
/-- How many parts there are. -/
def partsC (f t s : Int) : Nat := (t / s - f / s + 1).toNat
/-- Are there parts at all? -/
def bktOk (f t s : Int) : Bool := decide (okI f t = true ∧ 1 ≤ s ∧ s ≤ 1099511627776 ∧ t / s - f / s < 4096)
/-- The parts of an interval. -/
def bkt (f t s : Int) : List Iv := if bktOk f t s then partsN f t s (partsC f t s) else []
/-- Where the loop stands when so many parts are made. -/
def atN (f t s : Int) (k : Nat) : Int := if k < partsC f t s then max f ((f / s + (k : Int)) * s) else t + 1
theorem partsN_length (f t s : Int) (n : Nat) : (partsN f t s n).length = n := by simp [partsN]
theorem partsN_succ (f t s : Int) (n : Nat) : partsN f t s (n + 1) = partsN f t s n ++ [part f t s (f / s + (n : Int))] := by
  simp [partsN, List.range_succ]
theorem partsN_get (f t s : Int) (n k : Nat) (h : k < n) : (partsN f t s n)[k]? = some (part f t s (f / s + (k : Int))) := by
  simp [partsN, h]
theorem div_facts {t s : Int} (hs : 1 ≤ s) (ht : 0 ≤ t) : 0 ≤ t / s ∧ t / s ≤ t ∧ t / s * s ≤ t ∧ t < t / s * s + s := by
  have e := Int.mul_ediv_add_emod t s
  have m0 : 0 ≤ t % s := Int.emod_nonneg _ (by omega)
  have m1 : t % s < s := Int.emod_lt_of_pos _ (by omega)
  have q0 : 0 ≤ t / s := Int.ediv_nonneg ht (by omega)
  have q1 : t / s * 1 ≤ t / s * s := Int.mul_le_mul_of_nonneg_left hs q0
  rw [Int.mul_comm] at e
  refine ⟨q0, ?_, ?_, ?_⟩ <;> omega
theorem mul_step {a b s : Int} (hs : 0 ≤ s) (h : a ≤ b) : a * s ≤ b * s := Int.mul_le_mul_of_nonneg_right h hs
theorem mul_suc (a s : Int) : (a + 1) * s = a * s + s := by rw [Int.add_mul]; omega
/-- The place of a round, its part, and the next place. -/
theorem atN_round {f t s : Int} (hf : 0 ≤ f) (hft : f ≤ t) (hs : 1 ≤ s) (k : Nat) (hk : k < partsC f t s) :
    0 ≤ atN f t s k ∧ atN f t s k ≤ t ∧ 0 ≤ atN f t s k % s ∧ atN f t s k % s ≤ atN f t s k ∧ atN f t s k % s < s ∧ atN f t s k - atN f t s k % s = (f / s + (k : Int)) * s ∧ 0 ≤ (f / s + (k : Int)) * s ∧ (f / s + (k : Int)) * s ≤ t
    ∧ part f t s (f / s + (k : Int)) = (atN f t s k, min t ((f / s + (k : Int)) * s + s - 1)) ∧ atN f t s (k + 1) = min t ((f / s + (k : Int)) * s + s - 1) + 1 ∧ (f / s + (k : Int)) ≤ t := by
  have df := div_facts hs hf
  have dt := div_facts hs (show 0 ≤ t by omega)
  unfold partsC at hk
  have hq : f / s + (k : Int) ≤ t / s := by omega
  have h1 := mul_step (show 0 ≤ s by omega) hq
  have h2 := mul_step (show 0 ≤ s by omega) (show f / s ≤ f / s + (k : Int) by omega)
  have e0 : atN f t s k = max f ((f / s + (k : Int)) * s) := by unfold atN partsC; rw [if_pos hk]
  have ea : 0 ≤ (f / s + (k : Int)) * s := Int.mul_nonneg (by omega) (by omega)
  have hr : (f / s + (k : Int)) * s ≤ atN f t s k ∧ atN f t s k < (f / s + (k : Int)) * s + s := by
    rw [e0]
    rcases Nat.eq_zero_or_pos k with rfl | hk0
    · simp only [Int.natCast_zero, Int.add_zero]; omega
    · have h3 := mul_step (show 0 ≤ s by omega) (show f / s + 1 ≤ f / s + (k : Int) by omega)
      rw [mul_suc] at h3
      omega
  have em : atN f t s k - atN f t s k % s = (f / s + (k : Int)) * s := by
    have hd : atN f t s k / s = f / s + (k : Int) := by
      rw [Int.ediv_eq_iff_of_pos (by omega)]
      refine ⟨by omega, by omega⟩
    have e := Int.mul_ediv_add_emod (atN f t s k) s
    rw [hd, Int.mul_comm] at e
    omega
  have m0 : 0 ≤ atN f t s k % s := Int.emod_nonneg _ (by omega)
  have m1 : atN f t s k % s < s := Int.emod_lt_of_pos _ (by omega)
  refine ⟨by omega, by omega, m0, by omega, m1, em, ea, by omega, by unfold part; rw [← e0], ?_, by omega⟩
  unfold atN partsC
  by_cases hl : k + 1 < (t / s - f / s + 1).toNat
  · rw [if_pos hl]
    have h4 := mul_step (show 0 ≤ s by omega) (show f / s + (k : Int) + 1 ≤ t / s by omega)
    have h5 : (f / s + ((k + 1 : Nat) : Int)) * s = (f / s + (k : Int)) * s + s := by
      rw [← mul_suc]; congr 1; omega
    rw [h5]
    rw [mul_suc] at h4
    have h6 := mul_step (show 0 ≤ s by omega) (show f / s ≤ f / s + (k : Int) by omega)
    omega
  · rw [if_neg hl]
    have h4 : f / s + (k : Int) = t / s := by omega
    rw [h4]
    omega
theorem atN_end {f t s : Int} (k : Nat) (hk : k = partsC f t s) : atN f t s k = t + 1 := by
  unfold atN; rw [if_neg (by omega)]
theorem atN_zero {f t s : Int} (hf : 0 ≤ f) (hft : f ≤ t) (hs : 1 ≤ s) : atN f t s 0 = f ∧ 0 < partsC f t s := by
  have df := div_facts hs hf
  have h1 : f / s ≤ t / s := Int.ediv_le_ediv (by omega) hft
  have hc : 0 < partsC f t s := by unfold partsC; omega
  refine ⟨?_, hc⟩
  unfold atN
  rw [if_pos hc]
  simp only [Int.natCast_zero, Int.add_zero]
  omega

/-- The cells of a list of intervals. -/
def ivCells (l : List Iv) : List Value := l.flatMap (fun x => [.int .i64 x.1, .int .i64 x.2])
theorem ivCells_length (l : List Iv) : (ivCells l).length = l.length * 2 := by
  induction l with
  | nil => rfl
  | cons x l ih => simp [ivCells] at *; omega
theorem ivCells_append (l k : List Iv) : ivCells (l ++ k) = ivCells l ++ ivCells k := by simp [ivCells]
theorem ivCells_one (x : Iv) : ivCells [x] = [.int .i64 x.1, .int .i64 x.2] := rfl
theorem ivCells_get (l : List Iv) (i : Nat) (x : Iv) (h : l[i]? = some x) : (ivCells l)[i * 2]? = some (.int .i64 x.1) ∧ (ivCells l)[i * 2 + 1]? = some (.int .i64 x.2) := by
  induction l generalizing i with
  | nil => simp at h
  | cons y l ih =>
    have e : ivCells (y :: l) = .int .i64 y.1 :: .int .i64 y.2 :: ivCells l := rfl
    rw [e]
    cases i with
    | zero => simp at h; subst h; simp
    | succ i => simp at h; have := ih i h; rw [Nat.succ_mul]; simpa using this
theorem ivCells_one' (l : List Iv) : ∀ v ∈ ivCells l, v.oneCell' = true := by
  intro v hv
  simp [ivCells] at hv
  obtain ⟨a, b, _, h | h⟩ := hv <;> subst h <;> rfl
theorem RowAt.of_cells {w : World} {b off : Nat} {l : List Iv} (hc : ∀ j v, (ivCells l)[j]? = some v → w.cell? ⟨b, off + j, none⟩ = some v) : RowAt w b off l := by
  intro i x hx
  obtain ⟨h1, h2⟩ := ivCells_get l i x hx
  exact ⟨hc _ _ h1, by rw [Nat.add_assoc]; exact hc _ _ h2⟩

/-- A list of intervals in a slice of the call's own. -/
def OwnIv (w : World) (B : Nat) (v : Value) (l : List Iv) : Prop := w.ownsRow B 23 2 v l.length (ivCells l)
theorem own_slice {w : World} {B : Nat} {e : TypeId} {size : Nat} {v : Value} {n : Nat} {xs : List Value} (h : w.ownsRow B e size v n xs) : ∃ a c, v = .slice a n c ∧ n ≤ c := by
  rcases h.2 with ⟨rfl, rfl⟩ | ⟨g, cap, cur, h1, h2, h3, h4, h5, h6, h7⟩
  · exact ⟨none, 0, rfl, Nat.le_refl _⟩
  · exact ⟨_, cap, h1, h4⟩
theorem OwnIv.slots {w : World} {B : Nat} {v : Value} {l : List Iv} (h : OwnIv w B v l) : ∃ ao c, v = .slice ao l.length c ∧ SlotsAt w ao l ∧ l.length ≤ c := by
  rcases h.2 with ⟨rfl, h0⟩ | ⟨g, cap, cur, h1, h2, h3, h4, h5, h6, h7⟩
  · exact ⟨none, 0, by rw [h0], Or.inl (List.eq_nil_of_length_eq_zero h0), by omega⟩
  · refine ⟨_, cap, h1, Or.inr ⟨g, 0, rfl, RowAt.of_cells ?_⟩, h4⟩
    intro j u hj
    rw [Nat.zero_add, cell_of_row w g _ cur 23 _ h3]
    rw [← h7, List.getElem?_take] at hj
    split at hj
    · simpa using hj
    · cases hj
theorem ownsRow_kept {w w' : World} {B : Nat} {e : TypeId} {size : Nat} {v : Value} {n : Nat} {xs : List Value} (h : w.ownsRow B e size v n xs) (hb : Below w.heap.size w w') : w'.ownsRow B e size v n xs := by
  refine ⟨h.1, ?_⟩
  rcases h.2 with h | ⟨g, cap, cur, h1, h2, h3, h4⟩
  · exact Or.inl h
  · exact Or.inr ⟨g, cap, cur, h1, h2, (hb.block g (Array.getElem?_eq_some_iff.1 h3).1).trans h3, h4⟩
theorem OwnIv.kept {w w' : World} {B : Nat} {v : Value} {l : List Iv} (h : OwnIv w B v l) (hb : Below w.heap.size w w') : OwnIv w' B v l := ownsRow_kept h hb
theorem OwnIv.nil (w : World) (B : Nat) : OwnIv w B (.slice none 0 0) [] := ⟨rfl, Or.inl ⟨rfl, rfl⟩⟩

theorem wp_gen {P : Program} {c : Code} {Q : Exit → Act → World → Prop} {a : Act} {w : World} (h : ∀ W, W = w → Code.wp P c Q a W) : Code.wp P c Q a w := h w rfl
theorem keepB {B : Nat} {w0 w w1 : World} (hB : B ≤ w0.heap.size) (h : Below B w0 w) (hb : Below w.heap.size w w1) : Below B w0 w1 := h.trans (hb.mono (Nat.le_trans hB h.size))
theorem cells_lt {w : World} {a : Addr} {v : Value} (h : w.cell? a = some v) : a.block < w.heap.size := World.block_lt_of_cell? _ _ h
theorem below_here {w : World} (o : Obj) : Below w.heap.size w (w.alloc o) := (Below.refl _ _).alloc (Nat.le_refl _) _
theorem addr_add (b o j : Nat) : (⟨b, o, none⟩ : Addr).add j = ⟨b, o + j, none⟩ := by simp [Addr.add]

/-- A list of intervals is handed back. -/
def IvsAre (w : World) (l : List Iv) (e : Ending) (w' : World) : Prop := ∃ ao c, e = .returned (.slice ao l.length c) ∧ SlotsAt w' ao l ∧ l.length ≤ c ∧ Below w.heap.size w w'
theorem ivs_none {w w' : World} (h : Below w.heap.size w w') : IvsAre w [] (.returned (.slice none 0 0)) w' := ⟨none, 0, rfl, Or.inl rfl, Nat.le_refl _, h⟩
theorem info23 : (Try.prog.info? 23).map (fun i => (i.zero, i.size, i.bytes)) = some (some (.agg #[.int .i64 0, .int .i64 0]), 2, 16) := by kernel_rfl
end Go.Proofs.Ytolkmfpbgheaaaa
