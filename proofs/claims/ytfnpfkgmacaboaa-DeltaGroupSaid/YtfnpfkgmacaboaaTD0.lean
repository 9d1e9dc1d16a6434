/-
  'about[who] = append(about[who], facts.Base(x.Fact))': one statement that draws its order, by an invariant over the operations that have run.
-/
import Derived.Test.YtfnpfkgmacaboaaTA
namespace Go.Proofs.Ytfnpfkgmacaboaa
open Go.ChangeShapes Go.WideShapes Go.ChangeAt Go.RowKit Go.Maps Go.WideElems Go.ChangeMaps
set_option linter.unusedVariables false
set_option linter.unusedSimpArgs false

def tabI (s : Er) : { x : FID // OkF x } → Option Bool := fun k => if s.ids k.1 then some true else none
def tabK (s : Er) : Nm → Option ByteArray := fun k => s.kinds k.1
abbrev Hdr := { x : Who // OkW x } → Option Value
def hdrV (T : Hdr) (k : { x : Who // OkW x }) : Value := (T k).getD (.slice none 0 0)
/-- The rows of the entities: each in a block of its own. -/
structure Abouts (w : World) (B : Nat) (T : Hdr) (about : Who → List FID) : Prop where
  own : ∀ k, Own fidC 2 36 w B (hdrV T k) (about k.1)
  apart : ∀ k k' g, k ≠ k' → (hdrV T k).ownBlock = some g → (hdrV T k').ownBlock ≠ some g
structure ErAt (w0 w : World) (s : Er) (i m : Nat) (T : Hdr) : Prop where
  ids : Tab w keysF w0.heap.size m (tabV (tabI s) Value.bool)
  about : Tab w keysW (w0.heap.size + 1) i T
  kinds : Tab w keysN (w0.heap.size + 2) i (tabV (tabK s) Value.string)
  rows : Abouts w (w0.heap.size + 3) T s.about
  below : Below w0.heap.size w0 w
  size : w0.heap.size + 3 ≤ w.heap.size
theorem Own.same {α : Type} {enc : α → List Value} {k : Nat} {e : TypeId} {w w' : World} {B : Nat} {v : Value} {l : List α} (h : Own enc k e w B v l) (hb : ∀ g, v.ownBlock = some g → w'.heap[g]? = w.heap[g]?) : Own enc k e w' B v l := by
  refine ⟨h.1, ?_⟩
  rcases h.2 with h | ⟨g, cap, cur, h1, h2, h3, h4⟩
  · exact Or.inl h
  · exact Or.inr ⟨g, cap, cur, h1, h2, (hb g (by rw [h1]; rfl)).trans h3, h4⟩
theorem Own.ne_box {α : Type} {enc : α → List Value} {k : Nat} {e t : TypeId} {w : World} {B g : Nat} {cs : Array Value} {v : Value} {l : List α} (h : Own enc k e w B v l) (hb : Box w g cs t) (ht : t ≠ e) : v.ownBlock ≠ some g := by
  intro hg
  rcases h.2 with ⟨rfl, -⟩ | ⟨g', cap, cur, rfl, h2, h3, h4⟩
  · cases hg
  · injection hg with hg
    subst hg
    rw [show w.heap[g']? = _ from hb] at h3
    injection h3 with h3
    injection h3 with h4 h5
    exact ht h5
theorem Tab.is_map {P : Program} {kt : TypeId} {κ : Type} [DecidableEq κ] {Z : Keyz P kt κ} {w : World} {b n : Nat} {T : κ → Option Value} (h : Tab w Z b n T) : ∃ es clock, w.heap[b]? = some (.map es clock) := by
  obtain ⟨D, ⟨es, clock, hb, -⟩, -⟩ := h
  exact ⟨es, clock, hb⟩
theorem Tab.ne_box {P : Program} {kt : TypeId} {κ : Type} [DecidableEq κ] {Z : Keyz P kt κ} {w : World} {b n g : Nat} {T : κ → Option Value} (h : Tab w Z b n T) {cs : Array Value} {t : TypeId} (hb : Box w g cs t) : g ≠ b := by
  rintro rfl
  obtain ⟨es, clock, e⟩ := h.is_map
  rw [show w.heap[g]? = _ from hb] at e
  injection e with e
  cases e
theorem Tab.ne_own {P : Program} {kt : TypeId} {κ α : Type} [DecidableEq κ] {Z : Keyz P kt κ} {w : World} {b n : Nat} {T : κ → Option Value} (h : Tab w Z b n T) {enc : α → List Value} {k : Nat} {e : TypeId} {B : Nat} {v : Value} {l : List α} (ho : Own enc k e w B v l) : v.ownBlock ≠ some b := by
  intro hg
  rcases ho.2 with ⟨rfl, -⟩ | ⟨g', cap, cur, rfl, h2, h3, h4⟩
  · cases hg
  · injection hg with hg
    subst hg
    obtain ⟨es, clock, e⟩ := h.is_map
    rw [h3] at e
    injection e with e
    cases e
def waits (o : Oper) (n : Nat) : Bool := o.after.any fun e => Region.binds .any e && e.on == n
theorem waits_spec {o : Oper} {n : Nat} (h : waits o n = true) {L : Array Bool} (ha : ∀ e ∈ o.after, Region.binds .any e = true → L.getD e.on false = true) : L.getD n false = true := by
  obtain ⟨e, he, hb⟩ := Array.any_eq_true'.1 h
  simp only [Bool.and_eq_true, beq_iff_eq] at hb
  have := ha e he hb.1
  rwa [hb.2] at this
theorem wp_value {P : Program} {o : Oper} {a : Act} {w w' : World} {K : Act → World → Prop} {Q : Exit → Act → World → Prop} {v : Value} (hrun : (execOp a.eval o).run P w = .ok (.value v) w') (h : K (a.put o.dst v) w') : o.wp P a w K Q := by
  unfold Oper.wp; rw [hrun]; exact h
theorem wp_skip {P : Program} {o : Oper} {a : Act} {w w' : World} {K : Act → World → Prop} {Q : Exit → Act → World → Prop} (hrun : (execOp a.eval o).run P w = .ok .skip w') (h : K (a.put o.dst undef) w') : o.wp P a w K Q := by
  unfold Oper.wp; rw [hrun]; exact h
structure AbW (w0 V : World) (i : Nat) (T : Hdr) (k0 : { x : Who // OkW x }) (o1 : Obj) (lst : List FID) (y : FID) (l5 l6 l8 l10 : Bool) (gs : Nat) (v' : Value) (w : World) : Prop where
  below : Below w0.heap.size w0 w
  size : V.heap.size ≤ w.heap.size
  far : ∀ q, q < V.heap.size → q ≠ w0.heap.size + 1 → (hdrV T k0).ownBlock ≠ some q → w.heap[q]? = V.heap[q]?
  map : l10 = false → w.heap[w0.heap.size + 1]? = if l6 = true then some o1 else V.heap[w0.heap.size + 1]?
  old : l8 = false → Own fidC 2 36 w (w0.heap.size + 3) (hdrV T k0) lst
  new : l5 = true → l8 = false → V.heap.size ≤ gs ∧ w.heap[gs]? = some (.cells (fidC y).toArray 36 (0, 0))
  app : l8 = true → Own fidC 2 36 w (w0.heap.size + 3) v' (lst ++ [y]) ∧ (v'.ownBlock = (hdrV T k0).ownBlock ∨ ∃ g, v'.ownBlock = some g ∧ V.heap.size ≤ g)
  tab : l10 = true → Tab w keysW (w0.heap.size + 1) (i + 1) (putT T k0 v')
  c8 : l8 = true → l6 = true
  c10 : l10 = true → l8 = true
section
variable {w0 V w w' : World} {i gs : Nat} {T : Hdr} {k0 : { x : Who // OkW x }} {o1 : Obj} {lst : List FID} {y : FID} {l5 l6 l8 l10 : Bool} {v' : Value}
theorem AbW.kept (h : AbW w0 V i T k0 o1 lst y l5 l6 l8 l10 gs v' w) (hb1 : w0.heap.size + 1 < V.heap.size) (hb : Below w.heap.size w w') : AbW w0 V i T k0 o1 lst y l5 l6 l8 l10 gs v' w' :=
  ⟨h.below.trans (hb.mono h.below.size), Nat.le_trans h.size hb.size, fun q h1 h2 h3 => (hb.block q (Nat.lt_of_lt_of_le h1 h.size)).trans (h.far q h1 h2 h3),
    fun h1 => (hb.block _ (Nat.lt_of_lt_of_le hb1 h.size)).trans (h.map h1), fun h1 => (h.old h1).kept hb,
    fun h1 h2 => ⟨(h.new h1 h2).1, (hb.block gs (Array.getElem?_eq_some_iff.1 (h.new h1 h2).2).1).trans (h.new h1 h2).2⟩, fun h1 => ⟨(h.app h1).1.kept hb, (h.app h1).2⟩, fun h1 => (h.tab h1).kept hb, h.c8, h.c10⟩
theorem AbW.build (h : AbW w0 V i T k0 o1 lst y l5 l6 l8 l10 gs v' w) (hb1 : w0.heap.size + 1 < V.heap.size) : AbW w0 V i T k0 o1 lst y true l6 l8 l10 w.heap.size v' (w.alloc (.cells (fidC y).toArray 36)) := by
  have h1 := h.kept hb1 (below_here (w := w) (.cells (fidC y).toArray 36))
  exact ⟨h1.below, h1.size, h1.far, h1.map, h1.old, fun _ _ => ⟨h.size, heap_alloc_new w _⟩, h1.app, h1.tab, h1.c8, h1.c10⟩
theorem grownBy_setBlock (u : World) (b : Nat) (o : Obj) : u.grownBy (setBlock u b o) (some b) := ⟨rfl, rfl, rfl, by simp [setBlock], fun i _ hi => by
  unfold setBlock
  simp only [Array.getElem?_setIfInBounds]
  rw [if_neg (fun e => hi (by rw [e]))]⟩
theorem AbW.entry (h : AbW w0 V i T k0 o1 lst y l5 false l8 l10 gs v' w) (hb1 : w0.heap.size + 1 < V.heap.size) (hne : (hdrV T k0).ownBlock ≠ some (w0.heap.size + 1)) (hgs : l5 = true → l8 = false → gs ≠ w0.heap.size + 1) : AbW w0 V i T k0 o1 lst y l5 true l8 l10 gs v' (setBlock w (w0.heap.size + 1) o1) := by
  have h8 : l8 = false := by
    cases e : l8 with
    | false => rfl
    | true => have := h.c8 e; cases this
  have hg := grownBy_setBlock w (w0.heap.size + 1) o1
  have hlt : w0.heap.size + 1 < w.heap.size := Nat.lt_of_lt_of_le hb1 h.size
  refine ⟨h.below.grown hg h.below.size (fun k e => by injection e with e; omega), Nat.le_trans h.size hg.size, fun q h1 h2 h3 => (hg.block q (Nat.lt_of_lt_of_le h1 h.size) (fun e => h2 (Option.some.inj e))).trans (h.far q h1 h2 h3), fun _ => ?_,
    fun h1 => (h.old h1).same (fun g hg' => hg.block g ((h.old h1).lt g hg').2 (fun e => hne (by rw [hg', e]))), fun h1 h2 => ⟨(h.new h1 h2).1, (hg.block gs (Array.getElem?_eq_some_iff.1 (h.new h1 h2).2).1 (fun e => hgs h1 h2 (Option.some.inj e))).trans (h.new h1 h2).2⟩,
    fun h1 => (by rw [h8] at h1; cases h1), fun h1 => (by have := h.c10 h1; rw [h8] at this; cases this), fun _ => rfl, h.c10⟩
  rw [if_pos rfl]
  simp [setBlock, hlt]
end
theorem AbW.append {w0 V w : World} {i gs : Nat} {T : Hdr} {k0 : { x : Who // OkW x }} {o1 : Obj} {lst : List FID} {y : FID} {l5 l6 l8 l10 : Bool} {v' : Value} (h : AbW w0 V i T k0 o1 lst y l5 l6 l8 l10 gs v' w) (hb1 : w0.heap.size + 1 < V.heap.size) (hV : w0.heap.size + 3 ≤ V.heap.size) (hlen : lst.length ≤ 1000000)
    (f5 : l5 = true) (f6 : l6 = true) (f8 : l8 = false) (f10 : l10 = false) (hne : (hdrV T k0).ownBlock ≠ some (w0.heap.size + 1)) (ty : TypeId) :
    ∃ v1 w1, (Builtin.append_ #[23, 23] ty #[hdrV T k0, .slice (some ⟨gs, 0, none⟩) 1 1]).run Try.prog w = .ok v1 w1 ∧ AbW w0 V i T k0 o1 lst y l5 l6 true l10 gs v1 w1 := by
  obtain ⟨ii, z, hi, hz, hs, hby, hzs⟩ := elF.parts
  obtain ⟨hn1, hn2⟩ := h.new f5 f8
  have hold := h.old f8
  obtain ⟨v1, w1, hrun, hown, hgr, -, hblk⟩ := run_append_own_at (P := Try.prog) w (w0.heap.size + 3) 23 ty 36 ii z 2 24 Try.underlying23 hi hz hs hby hzs (by decide) (hdrV T k0) lst.length (encs fidC lst) hold ⟨gs, 0, none⟩ 1 1 (fidC y) rfl
    (fun j u hu => by rw [addr_add, Nat.zero_add]; exact Box.cell (cs := (fidC y).toArray) (t := 36) hn2 j u (by simpa using hu)) (fidC_one y) (by unfold maxLen; omega) (by omega) (Nat.le_trans hV h.size)
  have hlt : ∀ q, q < V.heap.size → (hdrV T k0).ownBlock ≠ some q → w1.heap[q]? = w.heap[q]? := fun q h1 h2 => hgr.block q (Nat.lt_of_lt_of_le h1 h.size) (fun e => h2 e.symm)
  refine ⟨v1, w1, hrun, h.below.grown hgr h.below.size (fun k e => by have := (hold.lt k e).1; omega), Nat.le_trans h.size hgr.size, fun q h1 h2 h3 => (hlt q h1 h3).trans (h.far q h1 h2 h3), fun h1 => (hlt _ hb1 hne).trans (h.map h1), fun e => (by cases e), fun _ e => (by cases e), fun _ => ⟨?_, ?_⟩, fun e => (by rw [f10] at e; cases e), fun _ => f6, fun _ => rfl⟩
  · unfold Own
    rw [encs_append, encs_one, List.length_append]
    exact hown
  · rcases hblk with e | e
    · exact Or.inl e
    · exact Or.inr ⟨_, e, h.size⟩
theorem AbW.store {w0 V w w1 : World} {i gs : Nat} {T : Hdr} {k0 : { x : Who // OkW x }} {o1 : Obj} {lst : List FID} {y : FID} {l5 l6 l8 l10 : Bool} {v' : Value} (h : AbW w0 V i T k0 o1 lst y l5 l6 l8 l10 gs v' w) (hb1 : w0.heap.size + 1 < V.heap.size) (f8 : l8 = true)
    (ht : Tab w1 keysW (w0.heap.size + 1) (i + 1) (putT T k0 v')) (hg : w.grownBy w1 (some (w0.heap.size + 1))) (hne : (hdrV T k0).ownBlock ≠ some (w0.heap.size + 1)) : AbW w0 V i T k0 o1 lst y l5 l6 l8 true gs v' w1 := by
  obtain ⟨ho, hb⟩ := h.app f8
  have hv : v'.ownBlock ≠ some (w0.heap.size + 1) := by
    rcases hb with e | ⟨g, e, hg⟩
    · rw [e]; exact hne
    · rw [e]; intro e2; injection e2 with e2; omega
  refine ⟨h.below.grown hg h.below.size (fun k e => by injection e with e; omega), Nat.le_trans h.size hg.size, fun q h1 h2 h3 => (hg.block q (Nat.lt_of_lt_of_le h1 h.size) (fun e => h2 (Option.some.inj e))).trans (h.far q h1 h2 h3), fun e => (by cases e), fun e => (by rw [f8] at e; cases e), fun _ e => (by rw [f8] at e; cases e),
    fun _ => ⟨ho.same (fun g hg' => hg.block g (ho.lt g hg').2 (fun e => hv (by rw [hg', e]))), hb⟩, fun _ => ht, h.c8, fun _ => f8⟩
theorem hdrV_put (T : Hdr) (k0 k : { x : Who // OkW x }) (v : Value) : hdrV (putT T k0 v) k = if k = k0 then v else hdrV T k := by
  unfold hdrV putT
  split <;> rfl
theorem ErAt.put {w0 V w : World} {s : Er} {i m : Nat} {T : Hdr} (hE : ErAt w0 V s i m T) (hb1 : w0.heap.size + 1 < V.heap.size) {who : Who} {hwho : OkW who} {y : FID} {v' : Value} (ho : Own fidC 2 36 w (w0.heap.size + 3) v' (s.about who ++ [y]))
    (hb : v'.ownBlock = (hdrV T ⟨who, hwho⟩).ownBlock ∨ ∃ g, v'.ownBlock = some g ∧ V.heap.size ≤ g) (far : ∀ q, q < V.heap.size → q ≠ w0.heap.size + 1 → (hdrV T ⟨who, hwho⟩).ownBlock ≠ some q → w.heap[q]? = V.heap[q]?)
    (below : Below w0.heap.size w0 w) (size : V.heap.size ≤ w.heap.size) (tab : Tab w keysW (w0.heap.size + 1) (i + 1) (putT T ⟨who, hwho⟩ v')) :
    ErAt w0 w { s with about := fun k => if k = who then s.about k ++ [y] else s.about k } (i + 1) m (putT T ⟨who, hwho⟩ v') := by
  have o0 := hE.rows.own ⟨who, hwho⟩
  refine ⟨hE.ids.blocks (far _ (by omega) (by omega) (hE.ids.ne_own o0)), tab, (hE.kinds.blocks (far _ (by have := hE.size; omega) (by omega) (hE.kinds.ne_own o0))).mono (Nat.le_succ _), ⟨fun k => ?_, fun k k' g hne => ?_⟩, below, Nat.le_trans hE.size size⟩
  · rw [hdrV_put]
    by_cases e : k = ⟨who, hwho⟩
    · subst e
      rw [if_pos rfl]
      show Own fidC 2 36 w _ v' (if who = who then _ else _)
      rw [if_pos rfl]; exact ho
    · rw [if_neg e]
      have e2 : ¬ k.1 = who := fun q => e (Subtype.ext q)
      show Own fidC 2 36 w _ _ (if k.1 = who then _ else _)
      rw [if_neg e2]
      refine (hE.rows.own k).same (fun g hg => far g ((hE.rows.own k).lt g hg).2 (fun q => hE.about.ne_own (hE.rows.own k) (by rw [hg, q])) (fun q => hE.rows.apart k _ g e hg q))
  · rw [hdrV_put, hdrV_put]
    by_cases e : k = ⟨who, hwho⟩
    · rw [if_pos e, if_neg (fun q => hne (by rw [e, q]))]
      intro hg hg'
      rcases hb with q | ⟨g', q, hg2⟩
      · rw [q] at hg; exact hE.rows.apart _ k' g (fun q2 => hne (by rw [e, q2])) hg hg'
      · rw [q] at hg; injection hg with hg; have := ((hE.rows.own k').lt g hg').2; omega
    · rw [if_neg e]
      by_cases e' : k' = ⟨who, hwho⟩
      · rw [if_pos e']
        intro hg hg'
        rcases hb with q | ⟨g', q, hg2⟩
        · rw [q] at hg'; exact hE.rows.apart k _ g e hg hg'
        · rw [q] at hg'; injection hg' with hg'; have := ((hE.rows.own k).lt g hg).2; omega
      · rw [if_neg e']; exact hE.rows.apart k k' g hne
theorem run_load_list {P : Program} {o : Oper} {ρ : Operand → Value} {w : World} (ty : TypeId) (x : Operand) (ho : o.op = .load ty x) (b off : Nat) (L : List Value) (hx : ρ x = .pointer (some ⟨b, off, none⟩)) (hc : ∀ j v, L[j]? = some v → w.cell? ⟨b, off + j, none⟩ = some v)
    (d : TypeDesc) (hu : P.underlying ty = some d) (hd : (match d with | .struct _ | .array _ _ => true | _ => false) = true) (hi : (P.info? ty).map (·.size) = some L.length) : (execOp ρ o).run P w = .ok (.value (.agg L.toArray)) w := by
  unfold execOp
  simp only [ho, hx, Instr.loadAt, Instr.sureAddr, Sem.run_bind, Sem.run_pure, Result.andThen_ok, run_loadVar_list w b off ty L d hc hu hd hi]
theorem build_fid (y : FID) (w : World) : (Instr.buildSlice 23 1 #[(0, fidV y)]).run Try.prog w = .ok (.slice (some ⟨w.heap.size, 0, none⟩) 1 1) (w.alloc (.cells (fidC y).toArray 36)) := by
  obtain ⟨i, z, hi, hz, hs, -, hzs⟩ := elF.parts
  refine run_buildSlice w 23 36 1 _ _ i z Try.underlying23 hi hz (by rw [hs]; decide) (by rw [hs]; decide) ?_
  rw [hs]
  have hr : Array.range (1 * 2) = #[0, 1] := by decide
  rw [hr]
  simp [Instr.fill, fidC, fidV, Value.cells]
theorem fact_cells (x : En) (j : Nat) (v : Value) (h : ([.string x.src, .int .i64 x.seq, .int .i64 x.fk, .int .i64 x.ref, .string x.tb, .string x.ky, .int .i64 x.ev, .slice x.fa x.vs.length x.fc] : List Value)[j]? = some v) : x.cells.toArray[3 + j]? = some v := by
  match j, h with
  | 0, h => exact h
  | 1, h => exact h
  | 2, h => exact h
  | 3, h => exact h
  | 4, h => exact h
  | 5, h => exact h
  | 6, h => exact h
  | 7, h => exact h
theorem getD_down {L : Array Bool} {i : Nat} (h : L.getD i true = false) : L.getD i false = false := getD_both h
theorem getD_up {L : Array Bool} {i : Nat} (hi : i < L.size) (h : L.getD i true = true) : L.getD i false = true := by simp [hi] at h ⊢; exact h
section
variable {Q : Exit → Act → World → Prop} {A : Act} {V w0 : World} {s : Er} {i m : Nat} {T : Hdr} {who : Who} {x : En} {g h : Nat}
set_option maxHeartbeats 4000000 in
set_option maxRecDepth 100000 in
theorem about_region {id : Nat} {o0 o1 o2 o3 o4 o5 o6 o7 o8 o9 o10 : Oper}
    (p0 : o0.op = .move (.tmp 4) ∧ o0.dst = some 58 ∧ o0.guard = none)
    (p1 : o1.op = .load 128 (.tmp 8) ∧ o1.dst = some 59 ∧ o1.guard = none)
    (p2 : o2.op = .fieldAddr 70 (.tmp 7) 3 ∧ o2.dst = some 61 ∧ o2.guard = none)
    (p3 : o3.op = .load 49 (.tmp 61) ∧ o3.dst = some 62 ∧ o3.guard = none)
    (p4 : o4.op = .call { callee := .value (.func 73), args := #[.tmp 62], argTypes := #[49] } ∧ o4.dst = some 63 ∧ o4.guard = none)
    (p5 : o5.op = .buildSlice 23 1 #[(0, .tmp 63)] ∧ o5.dst = some 64 ∧ o5.guard = none)
    (p6 : o6.op = .mapEntry 125 (.tmp 58) (.tmp 59) ∧ o6.dst = some 65 ∧ o6.guard = none)
    (p7 : o7.op = .extract (.tmp 65) 0 ∧ o7.dst = some 60 ∧ o7.guard = none)
    (p8 : o8.op = .call { callee := .builtin .append, args := #[.tmp 60, .tmp 64], argTypes := #[23, 23] } ∧ o8.dst = some 66 ∧ o8.guard = none)
    (p9 : o9.op = .extract (.tmp 65) 1 ∧ o9.dst = some 67 ∧ o9.guard = none)
    (p10 : o10.op = .entryStore 125 (.tmp 58) (.tmp 67) (.tmp 66) ∧ o10.dst = none ∧ o10.guard = none)
    (q3 : waits o3 2 = true) (q4 : waits o4 3 = true) (q5 : waits o5 4 = true) (q6 : waits o6 0 = true ∧ waits o6 1 = true) (q7 : waits o7 6 = true) (q8 : waits o8 5 = true ∧ waits o8 6 = true ∧ waits o8 7 = true) (q9 : waits o9 6 = true)
    (q10 : waits o10 0 = true ∧ waits o10 8 = true ∧ waits o10 9 = true)
    (hs : sortedB .any #[o0, o1, o2, o3, o4, o5, o6, o7, o8, o9, o10] = true)
    (hA4 : A.eval (.tmp 4) = .map (some (w0.heap.size + 1))) (hA7 : A.eval (.tmp 7) = .pointer (some ⟨g, 0, none⟩)) (hA8 : A.eval (.tmp 8) = .pointer (some ⟨h, 0, none⟩)) (hsz : 68 ≤ A.tmps.size)
    (hE : ErAt w0 V s i m T) (hi : i < Go.maxLen) (hlen : (s.about who).length ≤ 1000000) (hg : Box V g x.cells.toArray 70) (hh : Box V h #[.string who.1, .string who.2] 128) (hwho : OkW who)
    (hQ : ∀ st gs v' w', ErAt w0 w' { s with about := fun k => if k = who then s.about k ++ [x.base] else s.about k } (i + 1) m (putT T ⟨who, hwho⟩ v') →
      Q .normal (((((((((((A.put (some 58) (.map (some (w0.heap.size + 1)))).put (some 59) (whoV who)).put (some 61) (.pointer (some ⟨g, 3, none⟩))).put (some 62) (.agg #[.string x.src, .int .i64 x.seq, .int .i64 x.fk, .int .i64 x.ref, .string x.tb, .string x.ky, .int .i64 x.ev, .slice x.fa x.vs.length x.fc])).put (some 63) (fidV x.base)).put (some 64) (.slice (some ⟨gs, 0, none⟩) 1 1)).put (some 65) (.tuple #[hdrV T ⟨who, hwho⟩, goInt st])).put (some 60) (hdrV T ⟨who, hwho⟩)).put (some 66) v').put (some 67) (goInt st))) w') :
    (Code.region id #[o0, o1, o2, o3, o4, o5, o6, o7, o8, o9, o10] true).wp Try.prog Q A V := by
  obtain ⟨st, o1', hEn, hSt⟩ := hE.about.entry (t := 125) (e := 23) Try.underlying125 (z := .slice none 0 0) (fun u => Try.zeroValue23 u) hi (k := ⟨who, hwho⟩) trivial
  have hb1 : w0.heap.size + 1 < V.heap.size := by have := hE.size; omega
  have hne := hE.about.ne_own (hE.rows.own ⟨who, hwho⟩)
  have hgb := hE.about.ne_box hg
  have hhb := hE.about.ne_box hh
  have hgo := (hE.rows.own ⟨who, hwho⟩).ne_box hg (by decide)
  have hho := (hE.rows.own ⟨who, hwho⟩).ne_box hh (by decide)
  have hw : ∀ {o : Oper} {ops : Array Oper} {t : Array Value}, o.guard = none → Region.wanted o (yielded ops t) = true := fun hgd => by simp [Region.wanted, hgd]
  have z58 : 58 < A.tmps.size := by omega
  have z59 : 59 < A.tmps.size := by omega
  have z60 : 60 < A.tmps.size := by omega
  have z61 : 61 < A.tmps.size := by omega
  have z62 : 62 < A.tmps.size := by omega
  have z63 : 63 < A.tmps.size := by omega
  have z64 : 64 < A.tmps.size := by omega
  have z65 : 65 < A.tmps.size := by omega
  have z66 : 66 < A.tmps.size := by omega
  have z67 : 67 < A.tmps.size := by omega
  obtain ⟨F, hF⟩ : ∃ F : Array Bool → Nat → Value → Act, F = fun L gs v' => putIf (L.getD 9 false) 67 (goInt st) (putIf (L.getD 8 false) 66 v' (putIf (L.getD 7 false) 60 (hdrV T ⟨who, hwho⟩) (putIf (L.getD 6 false) 65 (.tuple #[hdrV T ⟨who, hwho⟩, goInt st]) (putIf (L.getD 5 false) 64 (.slice (some ⟨gs, 0, none⟩) 1 1) (putIf (L.getD 4 false) 63 (fidV x.base) (putIf (L.getD 3 false) 62 (.agg #[.string x.src, .int .i64 x.seq, .int .i64 x.fk, .int .i64 x.ref, .string x.tb, .string x.ky, .int .i64 x.ev, .slice x.fa x.vs.length x.fc]) (putIf (L.getD 2 false) 61 (.pointer (some ⟨g, 3, none⟩)) (putIf (L.getD 1 false) 59 (whoV who) (putIf (L.getD 0 false) 58 (.map (some (w0.heap.size + 1))) A))))))))) := ⟨_, rfl⟩
  refine wp_region_steps (l := [o0, o1, o2, o3, o4, o5, o6, o7, o8, o9, o10]) (by kernel_rfl) hs (fun L a w => L.size = 11 ∧ ∃ gs v', a = F L gs v' ∧ AbW w0 V i T ⟨who, hwho⟩ o1' (s.about who) x.base (L.getD 5 false) (L.getD 6 false) (L.getD 8 false) (L.getD 10 false) gs v' w) ?_ ?_ ?_
  · have hz : ∀ k, (Array.replicate 11 false).getD k false = false := fun k => getD_replicate_false 11 k
    refine ⟨by simp, 0, undef, ?_, ?_⟩
    · rw [hF]
      show A = putIf ((Array.replicate 11 false).getD 9 false) _ _ _
      simp only [List.length_cons, List.length_nil, Nat.reduceAdd, Nat.zero_add, hz, putIf_false]
    · show AbW w0 V i T ⟨who, hwho⟩ o1' (s.about who) x.base ((Array.replicate 11 false).getD 5 false) ((Array.replicate 11 false).getD 6 false) ((Array.replicate 11 false).getD 8 false) ((Array.replicate 11 false).getD 10 false) 0 undef V.drew
      simp only [hz]
      exact ⟨hE.below.drew, Nat.le_refl _, fun q _ _ _ => rfl, fun _ => rfl, fun _ => hE.rows.own ⟨who, hwho⟩, fun e => (by cases e), fun e => (by cases e), fun e => (by cases e), fun e => (by cases e), fun e => (by cases e)⟩
  · refine ⟨?_, ?_, ?_, ?_, ?_, ?_, ?_, ?_, ?_, ?_, ?_, trivial⟩
    · rintro L a w hsz ⟨hL, gs, v', rfl, W⟩ hn haf
      rw [if_pos (hw p0.2.2)]
      have hn' := getD_down hn
      refine wp_value (v := .map (some (w0.heap.size + 1))) (w' := w) (by unfold execOp; rw [p0.1, hF]; simp [eval_putIf_ne, hA4]) ⟨by simp [hL], gs, v', ?_, by simpa only [set_ne, ne_eq, Nat.reduceEqDiff, not_false_eq_true] using W⟩
      rw [p0.2.1, hF]
      simp [put_putIf, hn', putIf_false, putIf_true, set_ne, set_same, hL]
    · rintro L a w hsz ⟨hL, gs, v', rfl, W⟩ hn haf
      rw [if_pos (hw p1.2.2)]
      have hn' := getD_down hn
      have hbx : Box w h #[.string who.1, .string who.2] 128 := (W.far h hh.lt hhb hho).trans hh
      refine wp_value (v := whoV who) (w' := w) (run_load_list 128 (.tmp 8) p1.1 h 0 [.string who.1, .string who.2] (by rw [hF]; simp [eval_putIf_ne, hA8]) (fun j v hv => by rw [Nat.zero_add]; exact hbx.cell j v (by simpa using hv)) _ Try.underlying128 rfl (by kernel_rfl)) ⟨by simp [hL], gs, v', ?_, by simpa only [set_ne, ne_eq, Nat.reduceEqDiff, not_false_eq_true] using W⟩
      rw [p1.2.1, hF]
      simp [put_putIf, hn', putIf_false, putIf_true, set_ne, set_same, hL]
    · rintro L a w hsz ⟨hL, gs, v', rfl, W⟩ hn haf
      rw [if_pos (hw p2.2.2)]
      have hn' := getD_down hn
      refine wp_value (v := .pointer (some ⟨g, 3, none⟩)) (w' := w) (by unfold execOp; rw [p2.1, hF]; simp [eval_putIf_ne, hA7]; go_simp) ⟨by simp [hL], gs, v', ?_, by simpa only [set_ne, ne_eq, Nat.reduceEqDiff, not_false_eq_true] using W⟩
      rw [p2.2.1, hF]
      simp [put_putIf, hn', putIf_false, putIf_true, set_ne, set_same, hL]
    · rintro L a w hsz ⟨hL, gs, v', rfl, W⟩ hn haf
      rw [if_pos (hw p3.2.2)]
      have hn' := getD_down hn
      have f2 := waits_spec q3 haf
      have hbx : Box w g x.cells.toArray 70 := (W.far g hg.lt hgb hgo).trans hg
      refine wp_value (v := .agg #[.string x.src, .int .i64 x.seq, .int .i64 x.fk, .int .i64 x.ref, .string x.tb, .string x.ky, .int .i64 x.ev, .slice x.fa x.vs.length x.fc]) (w' := w) (run_load_list 49 (.tmp 61) p3.1 g 3 [.string x.src, .int .i64 x.seq, .int .i64 x.fk, .int .i64 x.ref, .string x.tb, .string x.ky, .int .i64 x.ev, .slice x.fa x.vs.length x.fc] (by rw [hF]; simp [eval_putIf_ne, f2, putIf_true, eval_put_same, size_putIf, z61]) (fun j v hv => hbx.cell (3 + j) v (fact_cells x j v hv)) _ Try.underlying49 rfl (by kernel_rfl)) ⟨by simp [hL], gs, v', ?_, by simpa only [set_ne, ne_eq, Nat.reduceEqDiff, not_false_eq_true] using W⟩
      rw [p3.2.1, hF]
      simp [put_putIf, hn', putIf_false, putIf_true, set_ne, set_same, hL]
    · rintro L a w hsz ⟨hL, gs, v', rfl, W⟩ hn haf
      rw [if_pos (hw p4.2.2)]
      have hn' := getD_down hn
      have f3 := waits_spec q4 haf
      have hcall : (execOp (F L gs v').eval o4).run Try.prog w = .ok (.enter 73 #[.agg #[.string x.src, .int .i64 x.seq, .int .i64 x.fk, .int .i64 x.ref, .string x.tb, .string x.ky, .int .i64 x.ev, .slice x.fa x.vs.length x.fc]]) w := by
        unfold execOp
        have he : (F L gs v').eval (.tmp 62) = .agg #[.string x.src, .int .i64 x.seq, .int .i64 x.fk, .int .i64 x.ref, .string x.tb, .string x.ky, .int .i64 x.ev, .slice x.fa x.vs.length x.fc] := by rw [hF]; simp [eval_putIf_ne, f3, putIf_true, eval_put_same, size_putIf, z62]
        have hfn : (F L gs v').eval (.func 73) = .func (.func 73) #[] #[] := rfl
        have hen := Go.Proofs.enters_of Try.func73 (by kernel_rfl) rfl #[.agg #[.string x.src, .int .i64 x.seq, .int .i64 x.fk, .int .i64 x.ref, .string x.tb, .string x.ky, .int .i64 x.ev, .slice x.fa x.vs.length x.fc]] w
        have he2 : (F L gs v').tmps[62]?.getD undef = .agg #[.string x.src, .int .i64 x.seq, .int .i64 x.fk, .int .i64 x.ref, .string x.tb, .string x.ky, .int .i64 x.ev, .slice x.fa x.vs.length x.fc] := by simpa [Act.eval] using he
        simp [p4.1, resolve, invoke, hfn, he2, go_sem, hen]
      unfold Oper.wp
      rw [hcall]
      refine (base_any x.src x.tb x.ky x.seq x.fk x.ref x.ev x.fa x.vs.length x.fc w).mono ?_
      rintro e w' ⟨rfl, hb⟩
      refine ⟨by simp [hL], gs, v', ?_, by simpa only [set_ne, ne_eq, Nat.reduceEqDiff, not_false_eq_true] using W.kept hb1 hb⟩
      rw [p4.2.1, hF]
      simp [put_putIf, hn', putIf_false, putIf_true, set_ne, set_same, hL]
      rfl
    · rintro L a w hsz ⟨hL, gs, v', rfl, W⟩ hn haf
      rw [if_pos (hw p5.2.2)]
      have hn' := getD_down hn
      have f4 := waits_spec q5 haf
      have he : (F L gs v').eval (.tmp 63) = fidV x.base := by rw [hF]; simp [eval_putIf_ne, f4, putIf_true, eval_put_same, size_putIf, z63]
      have W' := W.build hb1
      refine wp_value (v := .slice (some ⟨w.heap.size, 0, none⟩) 1 1) (w' := w.alloc (.cells (fidC x.base).toArray 36)) (by unfold execOp; simp [p5.1, he, build_fid, Result.andThen]) ⟨by simp [hL], w.heap.size, v', ?_, by simpa [set_ne, set_same, hL] using W'⟩
      rw [p5.2.1, hF]
      simp [put_putIf, hn', putIf_false, putIf_true, set_ne, set_same, hL]
    · rintro L a w hsz ⟨hL, gs, v', rfl, W⟩ hn haf
      rw [if_pos (hw p6.2.2)]
      have hn' := getD_down hn
      have f0 := waits_spec q6.1 haf
      have f1 := waits_spec q6.2 haf
      have he : (F L gs v').eval (.tmp 58) = .map (some (w0.heap.size + 1)) := by rw [hF]; simp [eval_putIf_ne, f0, putIf_true, eval_put_same, size_putIf, z58]
      have he2 : (F L gs v').eval (.tmp 59) = keysW.val ⟨who, hwho⟩ := by rw [hF]; simp [eval_putIf_ne, f1, putIf_true, eval_put_same, size_putIf, z59]; rfl
      have W0 := W
      have e6 : L.getD 6 false = false := hn'
      have h8 : L.getD 8 false = false := by
        cases e : L.getD 8 false with
        | false => rfl
        | true => have := W.c8 e; rw [e6] at this; cases this
      have h10 : L.getD 10 false = false := by
        cases e : L.getD 10 false with
        | false => rfl
        | true => have := W.c10 e; rw [h8] at this; cases this
      rw [e6] at W0
      have hm := W0.map h10
      have W' := W0.entry hb1 hne (fun h1 h2 => by have := (W0.new h1 h2).1; omega)
      have hrun := hEn w (by simpa using hm)
      refine wp_value (v := .tuple #[hdrV T ⟨who, hwho⟩, goInt st]) (w' := setBlock w (w0.heap.size + 1) o1') (by unfold execOp; simp only [p6.1, he, he2]; simp [hrun, Result.andThen]; rfl) ⟨by simp [hL], gs, v', ?_, by simpa [set_ne, set_same, hL] using W'⟩
      rw [p6.2.1, hF]
      simp [put_putIf, hn', putIf_false, putIf_true, set_ne, set_same, hL]
    · rintro L a w hsz ⟨hL, gs, v', rfl, W⟩ hn haf
      rw [if_pos (hw p7.2.2)]
      have hn' := getD_down hn
      have f6 := waits_spec q7 haf
      have he : (F L gs v').eval (.tmp 65) = .tuple #[hdrV T ⟨who, hwho⟩, goInt st] := by rw [hF]; simp [eval_putIf_ne, f6, putIf_true, eval_put_same, size_putIf, z65]
      refine wp_value (v := hdrV T ⟨who, hwho⟩) (w' := w) (by unfold execOp; simp only [p7.1, he]; go_simp) ⟨by simp [hL], gs, v', ?_, by simpa [set_ne] using W⟩
      rw [p7.2.1, hF]
      simp [put_putIf, hn', putIf_false, putIf_true, set_ne, set_same, hL]
    · rintro L a w hsz ⟨hL, gs, v', rfl, W⟩ hn haf
      rw [if_pos (hw p8.2.2)]
      have hn' := getD_down hn
      have f5 := waits_spec q8.1 haf
      have f6 := waits_spec q8.2.1 haf
      have f7 := waits_spec q8.2.2 haf
      have e8 : L.getD 8 false = false := hn'
      have h10 : L.getD 10 false = false := by
        cases e : L.getD 10 false with
        | false => rfl
        | true => have := W.c10 e; rw [e8] at this; cases this
      have he : (F L gs v').eval (.tmp 60) = hdrV T ⟨who, hwho⟩ := by rw [hF]; simp [eval_putIf_ne, f7, putIf_true, eval_put_same, size_putIf, z60]
      have he2 : (F L gs v').eval (.tmp 64) = .slice (some ⟨gs, 0, none⟩) 1 1 := by rw [hF]; simp [eval_putIf_ne, f5, putIf_true, eval_put_same, size_putIf, z64]
      obtain ⟨v1, w1, hrun, W'⟩ := W.append hb1 hE.size hlen f5 f6 e8 h10 hne o8.type
      refine wp_value (v := v1) (w' := w1) (by unfold execOp; simp [p8.1, resolve, invoke, builtin, he, he2, hrun, Result.andThen]) ⟨by simp [hL], gs, v1, ?_, by simpa [set_ne, set_same, hL] using W'⟩
      rw [p8.2.1, hF]
      simp [put_putIf, hn', putIf_false, putIf_true, set_ne, set_same, hL]
    · rintro L a w hsz ⟨hL, gs, v', rfl, W⟩ hn haf
      rw [if_pos (hw p9.2.2)]
      have hn' := getD_down hn
      have f6 := waits_spec q9 haf
      have he : (F L gs v').eval (.tmp 65) = .tuple #[hdrV T ⟨who, hwho⟩, goInt st] := by rw [hF]; simp [eval_putIf_ne, f6, putIf_true, eval_put_same, size_putIf, z65]
      refine wp_value (v := goInt st) (w' := w) (by unfold execOp; simp only [p9.1, he]; go_simp) ⟨by simp [hL], gs, v', ?_, by simpa [set_ne] using W⟩
      rw [p9.2.1, hF]
      simp [put_putIf, hn', putIf_false, putIf_true, set_ne, set_same, hL]
    · rintro L a w hsz ⟨hL, gs, v', rfl, W⟩ hn haf
      rw [if_pos (hw p10.2.2)]
      have hn' := getD_down hn
      have f0 := waits_spec q10.1 haf
      have f8 := waits_spec q10.2.1 haf
      have f9 := waits_spec q10.2.2 haf
      have h10 : L.getD 10 false = false := hn'
      have he : (F L gs v').eval (.tmp 58) = .map (some (w0.heap.size + 1)) := by rw [hF]; simp [eval_putIf_ne, f0, putIf_true, eval_put_same, size_putIf, z58]
      have he2 : (F L gs v').eval (.tmp 67) = goInt st := by rw [hF]; simp [eval_putIf_ne, f9, putIf_true, eval_put_same, size_putIf, z67]
      have he3 : (F L gs v').eval (.tmp 66) = v' := by rw [hF]; simp [eval_putIf_ne, f8, putIf_true, eval_put_same, size_putIf, z66]
      have hm := W.map h10
      rw [if_pos (W.c8 f8)] at hm
      obtain ⟨w1, hrun, htab, hgr⟩ := hSt w v' hm
      refine wp_skip (w' := w1) (by unfold execOp; simp only [p10.1, he, he2, he3]; simp [hrun, Result.andThen]) ⟨by simp [hL], gs, v', ?_, by simpa [set_ne, set_same, hL] using W.store hb1 f8 htab hgr hne⟩
      rw [p10.2.1, hF]
      show putIf _ _ _ _ = putIf _ _ _ _
      simp [put_putIf, hn', putIf_false, putIf_true, set_ne, set_same, hL]
  · rintro L a w ⟨hL, gs, v', rfl, W⟩ hall
    have hall' : ∀ k, k < 11 → L.getD k false = true := fun k hk => getD_up (by omega) (hall k hk)
    have e : F L gs v' = ((((((((((A.put (some 58) (.map (some (w0.heap.size + 1)))).put (some 59) (whoV who)).put (some 61) (.pointer (some ⟨g, 3, none⟩))).put (some 62) (.agg #[.string x.src, .int .i64 x.seq, .int .i64 x.fk, .int .i64 x.ref, .string x.tb, .string x.ky, .int .i64 x.ev, .slice x.fa x.vs.length x.fc])).put (some 63) (fidV x.base)).put (some 64) (.slice (some ⟨gs, 0, none⟩) 1 1)).put (some 65) (.tuple #[hdrV T ⟨who, hwho⟩, goInt st])).put (some 60) (hdrV T ⟨who, hwho⟩)).put (some 66) v').put (some 67) (goInt st)) := by
      rw [hF]
      simp only [hall' 0 (by omega), hall' 1 (by omega), hall' 2 (by omega), hall' 3 (by omega), hall' 4 (by omega), hall' 5 (by omega), hall' 6 (by omega), hall' 7 (by omega), hall' 8 (by omega), hall' 9 (by omega), putIf_true]
    rw [e]
    refine hQ st gs v' w (ErAt.put hE hb1 (W.app (hall' 8 (by omega))).1 (W.app (hall' 8 (by omega))).2 W.far W.below W.size (W.tab (hall' 10 (by omega))))
end
end Go.Proofs.Ytfnpfkgmacaboaa
