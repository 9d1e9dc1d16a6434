/-
  history.Effective in plain words; steps that its walk wants.
-/
import Derived.Test.YtfnpfkgmacaboaaTD
import Derived.Test.YtfnpfkgmacaboaaPH
namespace Go.Proofs.Ytfnpfkgmacaboaa
open Go.ChangeShapes Go.WideShapes Go.ChangeAt Go.RowKit Go.Maps
set_option linter.unusedVariables false
set_option linter.unusedSimpArgs false

theorem basesF_mem (l : List En) : ∀ (k : FID) (b : Bs), basesF l k = some b → b.2 = zeroE ∨ b.2 ∈ l := by
  have key : ∀ (l : List En) (F : FID → Option Bs) (M : List En), (∀ k b, F k = some b → b.2 = zeroE ∨ b.2 ∈ M) → ∀ k b, l.foldl stepB F k = some b → b.2 = zeroE ∨ b.2 ∈ M ++ l := by
    intro l
    induction l with
    | nil => intro F M h k b hb; simpa using h k b hb
    | cons x l ih =>
      intro F M h k b hb
      have := ih (stepB F x) (M ++ [x]) (fun k b hb => ?_) k b hb
      · simpa using this
      · unfold stepB at hb
        split at hb
        · replace hb : (if eqF k x.base = true then some (nextB ((F k).getD zeroB) x) else F k) = some b := hb
          by_cases e : eqF k x.base = true
          · rw [if_pos e] at hb
            injection hb with hb
            rw [← hb]
            unfold nextB
            show (if _ then x else _) = zeroE ∨ (if _ then x else _) ∈ _
            split
            · right; simp
            · cases hF : F k with
              | none => left; rfl
              | some c => rcases h k c hF with q | q
                          · left; exact q
                          · right; simp; left; exact q
          · rw [if_neg e] at hb
            rcases h k b hb with q | q
            · left; exact q
            · right; simp [q]
        · rcases h k b hb with q | q
          · left; exact q
          · right; simp [q]
  intro k b hb
  have := key l (fun _ => none) [] (fun k b h => by cases h) k b hb
  simpa using this
theorem basesF_ok (l : List En) (hl : ∀ x ∈ l, OkF x.base) : ∀ (k : FID) (b : Bs), basesF l k = some b → OkF k := by
  have key : ∀ (l : List En) (F : FID → Option Bs), (∀ x ∈ l, OkF x.base) → (∀ k b, F k = some b → OkF k) → ∀ k b, l.foldl stepB F k = some b → OkF k := by
    intro l
    induction l with
    | nil => intro F _ h k b hb; exact h k b hb
    | cons x l ih =>
      intro F hl h k b hb
      refine ih (stepB F x) (fun y hy => hl y (by simp [hy])) (fun k b hb => ?_) k b hb
      unfold stepB at hb
      split at hb
      · replace hb : (if eqF k x.base = true then some (nextB ((F k).getD zeroB) x) else F k) = some b := hb
        by_cases e : eqF k x.base = true
        · rw [eqF_iff.1 e]; exact hl x (by simp)
        · rw [if_neg e] at hb; exact h k b hb
      · exact h k b hb
  exact key l (fun _ => none) hl (fun k b h => by cases h)
theorem zeroE_ok (w : World) : zeroE.Ok w := by
  constructor <;> first | exact Or.inl rfl | (simp [zeroE]; done) | (simp [zeroE, I64]; done) | exact Nat.zero_le _
theorem untl_mem {l : List En} {t : Int} {x : En} (h : x ∈ untl l t) : x ∈ l ∧ x.tick ≤ t := by
  unfold untl at h
  rw [List.mem_filter] at h
  exact ⟨h.1, by simpa using h.2⟩
/-- The row of a base that is effective at a tick, if there is one. -/
def effF (l : List En) (t : Int) (k : FID) : Option Rw :=
  match basesF (untl l t) k with
  | some b => if b.1 = true ∧ b.2.fk ≠ 3 ∧ erF l k = false then some (b.2.row k) else none
  | none => none
theorem effF_key {l : List En} {t : Int} {k : FID} {r : Rw} (h : effF l t k = some r) : (r.src, r.seq) = k := by
  unfold effF at h
  split at h
  · split at h
    · injection h with h; rw [← h]; rfl
    · cases h
  · cases h
theorem effF_ok {l : List En} {t : Int} {w : World} (hl : ∀ x ∈ l, x.Ok w) {k : FID} {r : Rw} (hk : OkF k) (h : effF l t k = some r) : r.Ok w := by
  unfold effF at h
  split at h
  · rename_i b hb
    split at h
    · injection h with h
      rw [← h]
      rcases basesF_mem _ k b hb with q | q
      · rw [q]; exact (zeroE_ok w).row hk
      · exact (hl _ (untl_mem q).1).row hk
    · cases h
  · cases h
/-- The order in which rows stand. -/
abbrev EK := Int × FID
def Rw.ek (r : Rw) : EK := (r.ev, (r.src, r.seq))
def cmpE : EK → EK → Int := fun x y => orI (cmpI x.1 y.1) (cmpID x.2 y.2)
theorem cmpE_cmp : Cmp cmpE := cmpI_cmp.pair cmpID_cmp
/-- The rows that are effective at a tick, in their order. -/
structure EffIs (l : List En) (t : Int) (rows : List Rw) : Prop where
  rise : rows.Pairwise (fun x y => cmpE x.ek y.ek < 0)
  mem : ∀ r ∈ rows, effF l t (r.src, r.seq) = some r
  all : ∀ k r, effF l t k = some r → r ∈ rows
/-- What has been taken out of the map so far. -/
structure TookE (l : List En) (t : Int) (left : { k : FID // OkF k } → Bool) (xs : List Rw) : Prop where
  mem : ∀ r ∈ xs, effF l t (r.src, r.seq) = some r ∧ ∃ h : OkF (r.src, r.seq), left ⟨_, h⟩ = false
  out : ∀ k : { k : FID // OkF k }, left k = false → ∀ r, effF l t k.1 = some r → r ∈ xs
  nodup : (xs.map (fun r => ((r.src, r.seq) : FID))).Nodup
theorem TookE.start (l : List En) (t : Int) : TookE l t (fun k => (tabV (tabB (untl l t)) bsV k).isSome) [] := by
  refine ⟨fun r h => (by cases h), fun k hl r hr => ?_, List.Pairwise.nil⟩
  have e : basesF (untl l t) k.1 = none := by
    unfold tabV tabB at hl
    cases e : basesF (untl l t) k.1 with
    | none => rfl
    | some b => simp only [e] at hl; cases hl
  unfold effF at hr
  rw [e] at hr
  cases hr
theorem TookE.skip {l : List En} {t : Int} {left : { k : FID // OkF k } → Bool} {xs : List Rw} (h : TookE l t left xs) {k : { k : FID // OkF k }} (hk : effF l t k.1 = none) : TookE l t (fun x => left x && !decide (x = k)) xs := by
  refine ⟨fun r hr => ?_, fun x hl r hr => ?_, h.nodup⟩
  · obtain ⟨h1, h2, h3⟩ := h.mem r hr
    exact ⟨h1, h2, by rw [h3]; rfl⟩
  · by_cases q : x = k
    · subst q; rw [hk] at hr; cases hr
    · exact h.out x (by simpa [q] using hl) r hr
theorem TookE.take {l : List En} {t : Int} {left : { k : FID // OkF k } → Bool} {xs : List Rw} (h : TookE l t left xs) {k : { k : FID // OkF k }} {r : Rw} (hl : left k = true) (hr : effF l t k.1 = some r) : TookE l t (fun x => left x && !decide (x = k)) (xs ++ [r]) := by
  have hk := effF_key hr
  refine ⟨fun u hu => ?_, fun x hx u hu => ?_, ?_⟩
  · rcases List.mem_append.1 hu with hu | hu
    · obtain ⟨h1, h2, h3⟩ := h.mem u hu
      exact ⟨h1, h2, by rw [h3]; rfl⟩
    · simp at hu
      subst hu
      refine ⟨by rw [hk]; exact hr, by rw [hk]; exact k.2, ?_⟩
      have : (⟨(u.src, u.seq), by rw [hk]; exact k.2⟩ : { k : FID // OkF k }) = k := Subtype.ext hk
      rw [this]; simp
  · by_cases q : x = k
    · subst q; rw [hr] at hu; injection hu with hu; simp [hu]
    · exact List.mem_append_left _ (h.out x (by simpa [q] using hx) u hu)
  · rw [List.map_append, List.nodup_append]
    refine ⟨h.nodup, by simp, fun a ha b hb => ?_⟩
    simp at hb
    subst hb
    obtain ⟨u, hu, rfl⟩ := List.mem_map.1 ha
    intro e
    obtain ⟨-, h2, h3⟩ := h.mem u hu
    have : (⟨(u.src, u.seq), h2⟩ : { k : FID // OkF k }) = k := Subtype.ext (e.trans hk)
    rw [this, hl] at h3
    cases h3
theorem TookE.done {l : List En} {t : Int} {left : { k : FID // OkF k } → Bool} {xs p : List Rw} (h : TookE l t left xs) (hd : ∀ k, left k = false) (hl : ∀ x ∈ l, OkF x.base) (hp : xs.Perm p) (hs : p.Pairwise (fun x y => ¬ cmpE y.ek x.ek < 0)) : EffIs l t p := by
  have hnd : (p.map (fun r => ((r.src, r.seq) : FID))).Nodup := (hp.map _).nodup_iff.1 h.nodup
  refine ⟨?_, fun r hr => (h.mem r (hp.mem_iff.2 hr)).1, fun k r hr => hp.mem_iff.1 ?_⟩
  · have h2 : p.Pairwise (fun x y => ((x.src, x.seq) : FID) ≠ (y.src, y.seq)) := by
      have := hnd
      unfold List.Nodup at this
      rwa [List.pairwise_map] at this
    refine (hs.and h2).imp ?_
    rintro x y ⟨a1, a2⟩
    have t1 := cmpE_cmp.turn x.ek y.ek
    have t2 := cmpE_cmp.turn y.ek x.ek
    have t3 : cmpE x.ek y.ek ≠ 0 := fun e => a2 (congrArg Prod.snd ((cmpE_cmp.zero _ _).1 e))
    omega
  · have hok : OkF k := by
      unfold effF at hr
      split at hr
      · rename_i b hb
        exact basesF_ok (untl l t) (fun x hx => hl x (untl_mem hx).1) k b hb
      · cases hr
    exact h.out ⟨k, hok⟩ (hd _) r hr
theorem setRow_alloc2 (w : World) (old new : Array Value) (t : TypeId) (o : Obj) : ((w.alloc (.cells old t)).alloc o).setRow w.heap.size new = (w.alloc (.cells new t)).alloc o := by
  have e : ((w.heap.push (.cells old t)).push o).modify w.heap.size (fun | .cells _ elem frozen => .cells new elem frozen | o => o) = (w.heap.push (.cells new t)).push o := by
    apply Array.ext_getElem?
    intro i
    rw [Array.getElem?_modify, Array.getElem?_push, Array.getElem?_push, Array.getElem?_push, Array.getElem?_push]
    simp only [Array.size_push]
    by_cases h : w.heap.size = i
    · subst h; simp
    · rw [if_neg h]
      by_cases h2 : i = w.heap.size + 1
      · rw [if_pos h2, if_pos h2]
      · rw [if_neg h2, if_neg h2, if_neg (fun e => h e.symm), if_neg (fun e => h e.symm)]
  show ({ (w.alloc (.cells old t)).alloc o with heap := ((w.heap.push (.cells old t)).push o).modify w.heap.size (fun | .cells _ elem frozen => .cells new elem frozen | o => o) } : World) = _
  rw [e]
  rfl
theorem put_none (a : Act) (v : Value) : a.put none v = a := rfl
theorem zero_parts {P : Program} {ty : TypeId} {n : Nat} (hi : (P.info? ty).map (fun i => (i.zero.map (fun z => z.cells.size), i.size)) = some (some n, n)) : ∃ i, P.info? ty = some i ∧ ∃ z, i.zero = some z ∧ i.size = n ∧ z.cells.size = n := by
  cases hq : P.info? ty with
  | none => rw [hq] at hi; simp at hi
  | some i =>
    rw [hq] at hi
    simp at hi
    obtain ⟨⟨z, h3, h4⟩, h5⟩ := hi
    exact ⟨i, rfl, z, h3, h5, h4⟩
section
variable {P : Program} {ops : Array Oper} {rest : List Oper} {o o1 o2 o3 o4 : Oper} {a : Act} {w : World} {Q : Exit → Act → World → Prop}
/-- Two new variables, and what lies in them. -/
theorem wpList_boxes (hg1 : o1.guard = none) (hg2 : o2.guard = none) (hg3 : o3.guard = none) (hg4 : o4.guard = none) (t1 t2 : TypeId) (x1 y1 x2 y2 : Operand) (h1 : o1.op = .alloc t1) (h2 : o2.op = .alloc t2) (h3 : o3.op = .store t1 x1 y1) (h4 : o4.op = .store t2 x2 y2) (hd3 : o3.dst = none) (hd4 : o4.dst = none) (L1 L2 : List Value)
    (hx1 : ((a.put o1.dst (.pointer (some ⟨w.heap.size, 0, none⟩))).put o2.dst (.pointer (some ⟨w.heap.size + 1, 0, none⟩))).eval x1 = .pointer (some ⟨w.heap.size, 0, none⟩)) (hy1 : ((a.put o1.dst (.pointer (some ⟨w.heap.size, 0, none⟩))).put o2.dst (.pointer (some ⟨w.heap.size + 1, 0, none⟩))).eval y1 = .agg L1.toArray)
    (hx2 : ((a.put o1.dst (.pointer (some ⟨w.heap.size, 0, none⟩))).put o2.dst (.pointer (some ⟨w.heap.size + 1, 0, none⟩))).eval x2 = .pointer (some ⟨w.heap.size + 1, 0, none⟩)) (hy2 : ((a.put o1.dst (.pointer (some ⟨w.heap.size, 0, none⟩))).put o2.dst (.pointer (some ⟨w.heap.size + 1, 0, none⟩))).eval y2 = .agg L2.toArray)
    (hi1 : (P.info? t1).map (fun i => (i.zero.map (fun z => z.cells.size), i.size)) = some (some L1.length, L1.length)) (hone1 : ∀ v ∈ L1, v.oneCell' = true)
    (hi2 : (P.info? t2).map (fun i => (i.zero.map (fun z => z.cells.size), i.size)) = some (some L2.length, L2.length)) (hone2 : ∀ v ∈ L2, v.oneCell' = true)
    (h : wpList P ops Q rest ((a.put o1.dst (.pointer (some ⟨w.heap.size, 0, none⟩))).put o2.dst (.pointer (some ⟨w.heap.size + 1, 0, none⟩))) ((w.alloc (.cells L1.toArray t1)).alloc (.cells L2.toArray t2))) : wpList P ops Q (o1 :: o2 :: o3 :: o4 :: rest) a w := by
  obtain ⟨i1, hq1, z1, hz1, hs1, hzs1⟩ := zero_parts hi1
  obtain ⟨i2, hq2, z2, hz2, hs2, hzs2⟩ := zero_parts hi2
  refine wpList_plain hg1 fun K hK => ?_
  unfold Oper.wp
  rw [run_alloc_op t1 h1 _ i1 z1 hq1 hz1]
  refine hK _ _ (wpList_plain hg2 fun K hK => ?_)
  unfold Oper.wp
  rw [run_alloc_op t2 h2 _ i2 z2 hq2 hz2]
  rw [show (w.alloc (.cells z1.cells t1)).heap.size = w.heap.size + 1 by simp]
  refine hK _ _ (wpList_plain hg3 fun K hK => ?_)
  unfold Oper.wp
  rw [run_store_op t1 x1 y1 h3 _ w.heap.size L1.toArray z1.cells t1 hx1 hy1 ((Below.heap_alloc _ _ _ (by simp)).trans (heap_alloc_new w _)) (by simp [hq1, hs1]) (by simpa using hzs1) (by simpa using hone1), setRow_alloc2]
  refine hK _ _ ?_
  rw [hd3, put_none]
  refine wpList_plain hg4 fun K hK => ?_
  unfold Oper.wp
  have e : ((w.alloc (.cells L1.toArray t1)).alloc (.cells z2.cells t2)).setRow (w.heap.size + 1) L2.toArray = (w.alloc (.cells L1.toArray t1)).alloc (.cells L2.toArray t2) := by
    have := setRow_alloc (w.alloc (.cells L1.toArray t1)) z2.cells L2.toArray t2
    rwa [show (w.alloc (.cells L1.toArray t1)).heap.size = w.heap.size + 1 by simp] at this
  have hb : ((w.alloc (.cells L1.toArray t1)).alloc (.cells z2.cells t2)).heap[w.heap.size + 1]? = some (.cells z2.cells t2 (0, 0)) := by
    have := heap_alloc_new (w.alloc (.cells L1.toArray t1)) (.cells z2.cells t2)
    rwa [show (w.alloc (.cells L1.toArray t1)).heap.size = w.heap.size + 1 by simp] at this
  rw [run_store_op t2 x2 y2 h4 _ (w.heap.size + 1) L2.toArray z2.cells t2 hx2 hy2 hb (by simp [hq2, hs2]) (by simpa using hzs2) (by simpa using hone2), e]
  refine hK _ _ ?_
  rw [hd4]
  exact h
variable {kt : TypeId} {κ β : Type} [DecidableEq κ] {Z : Keyz P kt κ} {b n : Nat} {F : κ → Option β} {mkV : β → Value}
/-- 'm[k]' behind a guard that is on. -/
theorem wpList_lookG (hw : Region.wanted o (yielded ops a.tmps) = true) (m x : Operand) (t : TypeId) (hop : o.op = Op.lookup t m x false) (e : TypeId) (ht : P.underlying t = some (.map kt e)) {z : Value} (hz : (zeroValue e).run P w = .ok z w)
    (hm : a.eval m = .map (some b)) (h : Tab w Z b n (tabV F mkV)) (k : κ) (hx : a.eval x = Z.val k) (hk : Z.ok k) (v : Value) (hv : ((F k).map mkV).getD z = v) (hK : wpList P ops Q rest (a.put o.dst v) w) : wpList P ops Q (o :: rest) a w := by
  refine Go.wpList_step fun K' hK' => ?_
  rw [if_pos hw]
  have hrun := h.look ht hz hk
  rw [show ((tabV F mkV) k).getD z = v from hv] at hrun
  unfold Oper.wp
  simp [execOp, hop, hm, hx, hrun, Result.andThen]
  exact hK' _ _ hK
end
end Go.Proofs.Ytfnpfkgmacaboaa
