/-
  append as a step of a region that draws its order; and the plain law of TimelineTicks.
-/
import Derived.Test.YtolkmfpbgheaaaaApartWalk
import Derived.Deep.RegionLaw
import Derived.Deep.RegionHeld3
namespace Go.Proofs.Ytolkmfpbgheaaaa
open Go.ChangeShapes Go.WideShapes Go.ChangeAt Go.RowKit
set_option linter.unusedVariables false
set_option linter.unusedSimpArgs false

theorem step_appL {w : World} {ops : Array Oper} {o : Oper} {a : Act} {K : Act → World → Prop} {Q : Exit → Act → World → Prop} {E : Prop} {B : Nat} {v : Value} {l k : List Iv} {ao : Option Addr} {n c : Nat} (hgd : o.guard = none) (s x : Operand)
    (ho : o.op = .call { callee := .builtin .append, args := #[s, x], argTypes := #[24, 24] }) (hs : a.eval s = v) (hx : a.eval x = .slice ao n c)
    (hO : OwnIv w B v l) (hS : SlotsAt w ao k) (hn : n = k.length) (hc : ao = none → c = 0) (hB : B ≤ w.heap.size) (hl : l.length + k.length < 4398046511104)
    (h : ∀ v' w1, OwnIv w1 B v' (l ++ k) → Below B w w1 → w.grownBy w1 v.ownBlock → K (a.put o.dst v') w1) :
    if Region.wanted o (yielded ops a.tmps) = true then Oper.wp Try.prog o a w K Q else E := by
  have hw : Region.wanted o (yielded ops a.tmps) = true := by simp [Region.wanted, hgd]
  rw [if_pos hw]
  obtain ⟨i23, hi23, hz0, hz1, hz2⟩ := info_parts info23
  subst hn
  cases ao with
  | none =>
    have hk : k = [] := by
      rcases hS with h | ⟨_, _, h, _⟩
      · exact h
      · cases h
    subst hk
    have h0 := hc rfl
    subst h0
    have hrun := run_append_owned_none (P := Try.prog) (w := w) B 24 o.type 23 i23 2 Try.underlying24 hi23 v _ _ hO
    have hx' : a.eval x = .slice none 0 0 := hx
    unfold Oper.wp
    simp [execOp, ho, resolve, invoke, builtin, hs, hx', hrun, Result.andThen]
    exact h v w (by rw [List.append_nil]; exact hO) (Below.refl _ _) ⟨rfl, rfl, rfl, Nat.le_refl _, fun _ _ _ => rfl⟩
  | some ad =>
    have hcells : ∀ j v, (ivCells k)[j]? = some v → w.cell? (ad.add j) = some v := by
      intro j u hj
      rcases hS with rfl | ⟨b, off, he, hr⟩
      · simp [ivCells] at hj
      · injection he with he; subst he
        rw [addr_add]; exact hr.cells j u hj
    refine wp_append_own _ s x 24 ho B 23 i23 _ 2 16 Try.underlying24 hi23 hz0 hz1 hz2 rfl (by decide) v _ _ hs hO ad k.length c (ivCells k) hx (ivCells_length k) hcells (ivCells_one' k) (by unfold maxLen; omega) (by omega) hB ?_
    intro v' w1 hown hgr _
    refine h v' w1 ?_ ((Below.refl _ _).grown hgr hB (fun g hg => (hO.lt g hg).1)) hgr
    unfold OwnIv
    rw [ivCells_append, List.length_append]; exact hown
/-- One interval out of a box is appended. -/
theorem step_app1 {w : World} {ops : Array Oper} {o : Oper} {a : Act} {K : Act → World → Prop} {Q : Exit → Act → World → Prop} {E : Prop} {B g : Nat} {v : Value} {l : List Iv} {f t : Int} (hgd : o.guard = none) (s x : Operand)
    (ho : o.op = .call { callee := .builtin .append, args := #[s, x], argTypes := #[24, 24] }) (hs : a.eval s = v) (hx : a.eval x = .slice (some ⟨g, 0, none⟩) 1 1)
    (hO : OwnIv w B v l) (hT : Two w g (.int .i64 f) (.int .i64 t)) (hB : B ≤ w.heap.size) (hl : l.length + 1 < 4398046511104)
    (h : ∀ v' w1, OwnIv w1 B v' (l ++ [(f, t)]) → Below B w w1 → K (a.put o.dst v') w1) :
    if Region.wanted o (yielded ops a.tmps) = true then Oper.wp Try.prog o a w K Q else E := by
  refine step_appL hgd s x ho hs hx hO (k := [(f, t)]) (Or.inr ⟨g, 0, rfl, ?_⟩) rfl (fun h => by cases h) hB (by simpa using hl) (fun v' w1 h1 h2 _ => h v' w1 h1 h2)
  intro i y hy
  match i, hy with
  | 0, hy => simp at hy; subst hy; exact ⟨by simpa using hT.all.1, by simpa using hT.all.2.1⟩
/-- Four ints are appended to such a list. -/
theorem step_app4 {w : World} {ops : Array Oper} {o : Oper} {a : Act} {K : Act → World → Prop} {Q : Exit → Act → World → Prop} {E : Prop} {B g : Nat} {v : Value} {l : List Int} {f1 f2 f3 f4 : Int} (hgd : o.guard = none) (s x : Operand)
    (ho : o.op = .call { callee := .builtin .append, args := #[s, x], argTypes := #[40, 40] }) (hs : a.eval s = v) (hx : a.eval x = .slice (some ⟨g, 0, none⟩) 4 4)
    (hO : OwnI w B v l) (hT : w.heap[g]? = some (.cells #[.int .i64 f1, .int .i64 f2, .int .i64 f3, .int .i64 f4] 3 (0, 0))) (hB : B ≤ w.heap.size) (hl : l.length < 4398046511104)
    (h : ∀ v' w1, OwnI w1 B v' (l ++ [f1, f2, f3, f4]) → Below B w w1 → K (a.put o.dst v') w1) :
    if Region.wanted o (yielded ops a.tmps) = true then Oper.wp Try.prog o a w K Q else E := by
  have hw : Region.wanted o (yielded ops a.tmps) = true := by simp [Region.wanted, hgd]
  rw [if_pos hw]
  obtain ⟨i3, hi3, hz0, hz1, hz2⟩ := info_parts info3
  refine wp_append_own _ s x 40 ho B 3 i3 _ 1 8 Try.underlying40 hi3 hz0 hz1 hz2 rfl (by decide) v _ _ hs hO ⟨g, 0, none⟩ 4 4 [.int .i64 f1, .int .i64 f2, .int .i64 f3, .int .i64 f4] hx rfl ?_ (by simp [Value.oneCell']) (by unfold maxLen; omega) (by omega) hB ?_
  · intro j u hj
    rw [addr_add]
    match j, hj with
    | 0, hj => simp at hj; subst hj; simp [World.cell?, hT]
    | 1, hj => simp at hj; subst hj; simp [World.cell?, hT]
    | 2, hj => simp at hj; subst hj; simp [World.cell?, hT]
    | 3, hj => simp at hj; subst hj; simp [World.cell?, hT]
  · intro v' w1 hown hgr _
    refine h v' w1 ?_ ((Below.refl _ _).grown hgr hB (fun g hg => (hO.lt g hg).1))
    unfold OwnI
    rw [List.map_append, List.length_append]; exact hown
theorem OwnI.lit1 {W : World} {B : Nat} (hB : B ≤ W.heap.size) (t : Int) : OwnI (W.alloc (.cells #[.int .i64 t] 3)) B (.slice (some ⟨W.heap.size, 0, none⟩) 1 1) [t] := World.ownsRow_lit W #[.int .i64 t] 1 hB (by unfold maxLen; omega) rfl

/-! ### The plain law -/
def anyB (l : List Iv) (y : Int) : Bool := l.any (fun I => inB I.1 I.2 y)
theorem anyB_snoc (l : List Iv) (i : Nat) (I : Iv) (y : Int) (h : l[i]? = some I) : anyB (l.take (i + 1)) y = (anyB (l.take i) y || inB I.1 I.2 y) := by
  unfold anyB
  rw [List.take_add_one, h, List.any_append]
  simp
def anyV (l : List Iv) (y : Int) : Bool := l.any (fun I => okI I.1 I.2 && inB I.1 I.2 y)
theorem anyV_snoc (l : List Iv) (i : Nat) (I : Iv) (y : Int) (h : l[i]? = some I) : anyV (l.take (i + 1)) y = (anyV (l.take i) y || (okI I.1 I.2 && inB I.1 I.2 y)) := by
  unfold anyV
  rw [List.take_add_one, h, List.any_append]
  simp
theorem inB_iff (x : Iv) (y : Int) : inB x.1 x.2 y = true ↔ inI x y := by unfold inB inI; simp
theorem uni_any (l : List Iv) (y : Int) : anyB (uni l) y = anyV l y := by
  have h := (uni_is l).2.2 y
  rw [Bool.eq_iff_iff]
  unfold anyB anyV
  rw [List.any_eq_true, List.any_eq_true]
  constructor
  · rintro ⟨x, hx, hb⟩
    obtain ⟨z, hz, hi⟩ := h.1 ⟨x, hx, (inB_iff x y).1 hb⟩
    obtain ⟨h1, h2⟩ := List.mem_filter.1 hz
    exact ⟨z, h1, by rw [(inB_iff z y).2 hi]; simpa using h2⟩
  · rintro ⟨x, hx, hb⟩
    rw [Bool.and_eq_true] at hb
    obtain ⟨z, hz, hi⟩ := h.2 ⟨x, List.mem_filter.2 ⟨hx, hb.1⟩, (inB_iff x y).1 hb.2⟩
    exact ⟨z, hz, (inB_iff z y).2 hi⟩
theorem uni_uni (l : List Iv) : uni (uni l) = uni l := isUnion_self (uni_is l) (uni_is (uni l))
theorem uni_gap (l : List Iv) {k : Nat} {I J : Iv} (h1 : (uni l)[k]? = some I) (h2 : (uni l)[k + 1]? = some J) : I.2 + 1 < J.1 ∧ okI I.1 I.2 = true ∧ okI J.1 J.2 = true := by
  have h := uni_is l
  obtain ⟨hk1, e1⟩ := List.getElem?_eq_some_iff.1 h1
  obtain ⟨hk2, e2⟩ := List.getElem?_eq_some_iff.1 h2
  have := List.pairwise_iff_getElem.1 h.1 k (k + 1) hk1 hk2 (by omega)
  rw [e1, e2] at this
  exact ⟨this, h.2.1 _ (List.mem_of_getElem? h1), h.2.1 _ (List.mem_of_getElem? h2)⟩
/-- A number is in what Meet returns exactly if both are valid and it is in both. -/
theorem meet_in (a b : Iv) (y : Int) : ((meetF a b).2 && inB (meetF a b).1.1 (meetF a b).1.2 y) = (okI a.1 a.2 && okI b.1 b.2 && (inB a.1 a.2 y && inB b.1 b.2 y)) := by
  unfold meetF
  by_cases hc : (okI a.1 a.2 && okI b.1 b.2 && !decide (min a.2 b.2 < max a.1 b.1)) = true
  · rw [if_pos hc]
    simp only [Bool.and_eq_true] at hc
    rw [hc.1.1, hc.1.2]
    unfold inB
    rw [Bool.eq_iff_iff]
    simp
    omega
  · rw [if_neg hc]
    cases h1 : okI a.1 a.2 <;> cases h2 : okI b.1 b.2 <;> simp
    simp only [h1, h2, Bool.and_self, Bool.true_and, Bool.not_eq_true', decide_eq_false_iff_not] at hc
    unfold inB
    simp
    intro p1 p2 p3
    omega
theorem meet_ok (a b : Iv) (h : (meetF a b).2 = true) : okI a.1 a.2 = true ∧ okI b.1 b.2 = true := by
  unfold meetF at h
  split at h
  · rename_i hc
    simp only [Bool.and_eq_true] at hc
    exact ⟨hc.1.1, hc.1.2⟩
  · cases h
end Go.Proofs.Ytolkmfpbgheaaaa
