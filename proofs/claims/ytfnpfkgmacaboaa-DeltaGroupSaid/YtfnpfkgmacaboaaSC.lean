/-
  Whole structs loaded, and laid into new variables, without a look at their cells.
-/
import Derived.Test.YtfnpfkgmacaboaaSA
import Derived.LoopIn
import Derived.Stop.RegionWithIn
import Derived.Sort.QuietIn
import Derived.Laws.Rows
import Derived.OwnWalkIn
import Derived.Great.BuildSlice
namespace Go.Proofs.Ytfnpfkgmacaboaa
open Go.ChangeShapes Go.WideShapes Go.ChangeAt Go.RowKit
set_option linter.unusedVariables false
set_option linter.unusedSimpArgs false

theorem run_loadVar_list {P : Program} (w : World) (b off : Nat) (ty : TypeId) (L : List Value) (d : TypeDesc) (hc : ∀ j v, L[j]? = some v → w.cell? ⟨b, off + j, none⟩ = some v)
    (hu : P.underlying ty = some d) (hd : (match d with | .struct _ | .array _ _ => true | _ => false) = true) (hi : (P.info? ty).map (·.size) = some L.length) :
    (loadVar ty ⟨b, off, none⟩).run P w = .ok (.agg L.toArray) w := by
  have hl : (loadCells ⟨b, off, none⟩ L.length).run P w = .ok L.toArray w :=
    run_loadCells_list (P := P) w ⟨b, off, none⟩ L (fun j v hv => by
      have hadd : (⟨b, off, none⟩ : Addr).add j = ⟨b, off + j, none⟩ := by unfold Addr.add; split <;> simp_all
      rw [hadd]; exact hc j v hv)
  cases hq : P.info? ty with
  | none => simp [hq] at hi
  | some i =>
    have hs : i.size = L.length := by simpa [hq] using hi
    have hagg : (isAgg ty).run P w = .ok true w := by
      unfold isAgg
      rw [Sem.run_bind, run_underlying hu w]
      cases d <;> simp_all
    simp [loadVar, Sem.run_bind, hagg, sizeOf, typeInfo, hq, hs, hl]
section
variable {F : Fence} {n : Nat} {P : Program} {ops : Array Oper} {rest : List Oper} {o o1 o2 : Oper} {a : Act} {w : World} {Q : Exit → Act → World → Prop}
theorem wpList_loadE (hgd : o.guard = none) (ty : TypeId) (x : Operand) (ho : o.op = .load ty x) (b off : Nat) (L : List Value) (hx : a.eval x = .pointer (some ⟨b, off, none⟩)) (hc : ∀ j v, L[j]? = some v → w.cell? ⟨b, off + j, none⟩ = some v)
    (d : TypeDesc) (hu : P.underlying ty = some d) (hd : (match d with | .struct _ | .array _ _ => true | _ => false) = true) (hi : (P.info? ty).map (·.size) = some L.length)
    (h : wpList P ops Q rest (a.put o.dst (.agg L.toArray)) w) : wpList P ops Q (o :: rest) a w := by
  refine wpList_plain hgd fun K hK => ?_
  unfold Oper.wp execOp
  simp only [ho, hx, Instr.loadAt, Instr.sureAddr, Sem.run_bind, Sem.run_pure, Result.andThen_ok, run_loadVar_list w b off ty L d hc hu hd hi]
  exact hK _ _ h
theorem wpListIn_loadE (hgd : o.guard = none) (ty : TypeId) (x : Operand) (ho : o.op = .load ty x) (b off : Nat) (L : List Value) (hx : a.eval x = .pointer (some ⟨b, off, none⟩)) (hc : ∀ j v, L[j]? = some v → w.cell? ⟨b, off + j, none⟩ = some v)
    (d : TypeDesc) (hu : P.underlying ty = some d) (hd : (match d with | .struct _ | .array _ _ => true | _ => false) = true) (hi : (P.info? ty).map (·.size) = some L.length)
    (h : wpListIn F n P ops Q rest (a.put o.dst (.agg L.toArray)) w) : wpListIn F n P ops Q (o :: rest) a w := by
  refine wpListIn_plain hgd fun K hK => ?_
  unfold Oper.wpIn
  refine ⟨by simp [Oper.about, ho], ?_⟩
  rw [Oper.semAt_plain F _ _ (by rw [ho]; intro c hc'; cases hc')]
  unfold execOp
  simp only [ho, hx, Instr.loadAt, Instr.sureAddr, Sem.run_bind, Sem.run_pure, Result.andThen_ok, run_loadVar_list w b off ty L d hc hu hd hi]
  exact hK _ _ h
theorem wpListIn_loadG (hw : Region.wanted o (yielded ops a.tmps) = true) (ty : TypeId) (x : Operand) (ho : o.op = .load ty x) (b off : Nat) (L : List Value) (hx : a.eval x = .pointer (some ⟨b, off, none⟩)) (hc : ∀ j v, L[j]? = some v → w.cell? ⟨b, off + j, none⟩ = some v)
    (d : TypeDesc) (hu : P.underlying ty = some d) (hd : (match d with | .struct _ | .array _ _ => true | _ => false) = true) (hi : (P.info? ty).map (·.size) = some L.length)
    (h : wpListIn F n P ops Q rest (a.put o.dst (.agg L.toArray)) w) : wpListIn F n P ops Q (o :: rest) a w := by
  refine wpListIn_step fun K hK => ?_
  rw [if_pos hw]
  unfold Oper.wpIn
  refine ⟨by simp [Oper.about, ho], ?_⟩
  rw [Oper.semAt_plain F _ _ (by rw [ho]; intro c hc'; cases hc')]
  unfold execOp
  simp only [ho, hx, Instr.loadAt, Instr.sureAddr, Sem.run_bind, Sem.run_pure, Result.andThen_ok, run_loadVar_list w b off ty L d hc hu hd hi]
  exact hK _ _ h
theorem setRow_alloc (w : World) (old new : Array Value) (t : TypeId) : (w.alloc (.cells old t)).setRow w.heap.size new = w.alloc (.cells new t) := by
  have e : (w.heap.push (.cells old t)).modify w.heap.size (fun | .cells _ elem frozen => .cells new elem frozen | o => o) = w.heap.push (.cells new t) := by
    apply Array.ext_getElem?
    intro i
    rw [Array.getElem?_modify, Array.getElem?_push, Array.getElem?_push]
    by_cases h : w.heap.size = i
    · subst h; simp
    · rw [if_neg h, if_neg (fun e => h e.symm), if_neg (fun e => h e.symm)]
  show ({ w.alloc (.cells old t) with heap := (w.heap.push (.cells old t)).modify w.heap.size (fun | .cells _ elem frozen => .cells new elem frozen | o => o) } : World) = _
  rw [e]
  rfl
theorem run_alloc_op (ty : TypeId) (h1 : o1.op = .alloc ty) (ρ : Operand → Value) (i : TypeInfo) (z : Value) (hi : P.info? ty = some i) (hz : i.zero = some z) :
    (execOp ρ o1).run P w = .ok (.value (.pointer (some ⟨w.heap.size, 0, none⟩))) (w.alloc (.cells z.cells ty)) := by
  have hzv : (zeroValue ty).run P w = .ok z w := by simp [zeroValue, typeInfo, Sem.run_bind, hi, hz]
  unfold execOp
  simp [h1, hzv, go_sem]
theorem run_store_op (ty : TypeId) (x y : Operand) (h2 : o2.op = .store ty x y) (ρ : Operand → Value) (g : Nat) (cells old : Array Value) (t : TypeId) (hx : ρ x = .pointer (some ⟨g, 0, none⟩)) (hy : ρ y = .agg cells)
    (hg : w.heap[g]? = some (.cells old t (0, 0))) (hi : (P.info? ty).map (·.size) = some cells.size) (hold : old.size = cells.size) (h1 : cells.all (·.oneCell') = true) :
    (execOp ρ o2).run P w = .ok .skip (w.setRow g cells) := by
  unfold execOp
  simp only [h2, hx, hy, Instr.storeAt, Instr.sureAddr, Sem.run_bind, Sem.run_pure, Result.andThen_ok, run_storeVar_row w g t ty old cells hg hi hold h1]
theorem wpList_box (hg1 : o1.guard = none) (hg2 : o2.guard = none) (ty : TypeId) (x y : Operand) (h1 : o1.op = .alloc ty) (h2 : o2.op = .store ty x y) (hd : o2.dst = none) (L : List Value)
    (hx : (a.put o1.dst (.pointer (some ⟨w.heap.size, 0, none⟩))).eval x = .pointer (some ⟨w.heap.size, 0, none⟩)) (hy : (a.put o1.dst (.pointer (some ⟨w.heap.size, 0, none⟩))).eval y = .agg L.toArray)
    (hi : (P.info? ty).map (fun i => (i.zero.map (fun z => z.cells.size), i.size)) = some (some L.length, L.length)) (hone : ∀ v ∈ L, v.oneCell' = true)
    (h : wpList P ops Q rest (a.put o1.dst (.pointer (some ⟨w.heap.size, 0, none⟩))) (w.alloc (.cells L.toArray ty))) : wpList P ops Q (o1 :: o2 :: rest) a w := by
  obtain ⟨i, hq, z, hz, hs, hzs⟩ : ∃ i, P.info? ty = some i ∧ ∃ z, i.zero = some z ∧ i.size = L.length ∧ z.cells.size = L.length := by
    cases hq : P.info? ty with
    | none => rw [hq] at hi; simp at hi
    | some i =>
      rw [hq] at hi
      simp at hi
      obtain ⟨⟨z, h3, h4⟩, h5⟩ := hi
      exact ⟨i, rfl, z, h3, h5, h4⟩
  refine wpList_plain hg1 fun K hK => ?_
  unfold Oper.wp
  rw [run_alloc_op ty h1 _ i z hq hz]
  refine hK _ _ (wpList_plain hg2 fun K' hK' => ?_)
  unfold Oper.wp
  rw [run_store_op ty x y h2 _ w.heap.size L.toArray z.cells ty hx hy (heap_alloc_new w _) (by simp [hq, hs]) (by simpa using hzs) (by simpa using hone), setRow_alloc]
  refine hK' _ _ ?_
  rw [hd]
  exact h
theorem wpListIn_box (hg1 : o1.guard = none) (hg2 : o2.guard = none) (ty : TypeId) (x y : Operand) (h1 : o1.op = .alloc ty) (h2 : o2.op = .store ty x y) (hd : o2.dst = none) (L : List Value)
    (hx : (a.put o1.dst (.pointer (some ⟨w.heap.size, 0, none⟩))).eval x = .pointer (some ⟨w.heap.size, 0, none⟩)) (hy : (a.put o1.dst (.pointer (some ⟨w.heap.size, 0, none⟩))).eval y = .agg L.toArray)
    (hi : (P.info? ty).map (fun i => (i.zero.map (fun z => z.cells.size), i.size)) = some (some L.length, L.length)) (hone : ∀ v ∈ L, v.oneCell' = true)
    (h : wpListIn F n P ops Q rest (a.put o1.dst (.pointer (some ⟨w.heap.size, 0, none⟩))) (w.alloc (.cells L.toArray ty))) : wpListIn F n P ops Q (o1 :: o2 :: rest) a w := by
  obtain ⟨i, hq, z, hz, hs, hzs⟩ : ∃ i, P.info? ty = some i ∧ ∃ z, i.zero = some z ∧ i.size = L.length ∧ z.cells.size = L.length := by
    cases hq : P.info? ty with
    | none => rw [hq] at hi; simp at hi
    | some i =>
      rw [hq] at hi
      simp at hi
      obtain ⟨⟨z, h3, h4⟩, h5⟩ := hi
      exact ⟨i, rfl, z, h3, h5, h4⟩
  refine wpListIn_plain hg1 fun K hK => ?_
  unfold Oper.wpIn
  refine ⟨by simp [Oper.about, h1], ?_⟩
  rw [Oper.semAt_plain F _ _ (by rw [h1]; intro c hc'; cases hc'), run_alloc_op ty h1 _ i z hq hz]
  refine hK _ _ (wpListIn_plain hg2 fun K' hK' => ?_)
  unfold Oper.wpIn
  refine ⟨by simp [Oper.about, h2], ?_⟩
  rw [Oper.semAt_plain F _ _ (by rw [h2]; intro c hc'; cases hc'), run_store_op ty x y h2 _ w.heap.size L.toArray z.cells ty hx hy (heap_alloc_new w _) (by simp [hq, hs]) (by simpa using hzs) (by simpa using hone), setRow_alloc]
  refine hK' _ _ ?_
  rw [hd]
  exact h
end
end Go.Proofs.Ytfnpfkgmacaboaa

/-
  history.until: the entries up to a tick, one after another.
-/
namespace Go.Proofs.Ytfnpfkgmacaboaa
open Go.ChangeShapes Go.WideShapes Go.ChangeAt Go.RowKit
set_option linter.unusedVariables false
set_option linter.unusedSimpArgs false

abbrev En.val (e : En) : Value := .agg e.cells.toArray
/-- The entries up to a tick. -/
def untl (l : List En) (t : Int) : List En := l.filter (fun e => decide (e.tick ≤ t))
theorem untl_snoc (l : List En) (t : Int) (x : En) : untl (l ++ [x]) t = untl l t ++ (if x.tick ≤ t then [x] else []) := by
  unfold untl
  rw [List.filter_append]
  by_cases h : x.tick ≤ t <;> simp [h]
theorem Lies.same {α : Type} {enc : α → List Value} {k : Nat} {w w' : World} {b off : Nat} {l : List α} (h : Lies enc k w b off l) (hb : w'.heap[b]? = w.heap[b]?) : Lies enc k w' b off l := fun i x hx j v hv => by
  have := h i x hx j v hv
  simp only [World.cell?, hb] at this ⊢
  exact this
theorem heap_lt {w : World} {g : Nat} {o : Obj} (h : w.heap[g]? = some o) : g < w.heap.size := (Array.getElem?_eq_some_iff.1 h).1
theorem cell_in {w : World} {a : Addr} {v : Value} (h : w.cell? a = some v) : a.block < w.heap.size := by
  unfold World.cell? at h
  cases e : w.heap[a.block]? with
  | none => rw [e] at h; cases h
  | some o => exact heap_lt e
/-- Where the closure's two boxes lie. -/
def UntilAt (w0 w : World) (v : Value) (ao : Option Addr) (n c : Nat) (t : Int) : Prop := ∃ bl bt, v = .func (.func 84) #[] #[.pointer (some ⟨bl, 0, none⟩), .pointer (some ⟨bt, 0, none⟩)] ∧ Boxed w bl 45 (.slice ao n c) ∧ Boxed w bt 3 (.int .i64 t) ∧ w0.heap.size ≤ bl ∧ w0.heap.size ≤ bt ∧ Below w0.heap.size w0 w
set_option maxRecDepth 100000 in
theorem until_any (n c : Nat) (ao : Option Addr) (t : Int) (w : World) : Calls Try.prog 74 #[.slice ao n c, .int .i64 t] w fun e w' => ∃ v, e = .returned v ∧ UntilAt w w' v ao n c t := by
  go_enter Try.func74, Try.ntmps74
  go_wp2_with fail
  go_ret
  exact ⟨_, rfl, w.heap.size, w.heap.size + 1, rfl, (Boxed.new w 45 _).alloc _, by have := Boxed.new (w.alloc (.cells #[.slice ao n c] 45)) 3 (.int .i64 t); simpa using this, Nat.le_refl _, by omega, below_two _ _⟩
set_option maxRecDepth 100000 in
set_option maxHeartbeats 8000000 in
theorem until_yields (n : Nat) (hn : 1 ≤ n) (bl bt : Nat) (t : Int) (l : List En) (ao : Option Addr) (c : Nat) (hl : l.length ≤ 1000000000) (w : World) (hbl : Boxed w bl 45 (.slice ao l.length c)) (hbt : Boxed w bt 3 (.int .i64 t)) (h : LiesAt En.cells 40 w ao l)
    (K : Nat → Prop) (hK1 : K bl) (hK2 : K bt) (hK3 : ∀ b off, ao = some ⟨b, off, none⟩ → b < w.heap.size → K b) (hK4 : ∀ k, K k → k < w.heap.size) :
    Yields n Try.prog 84 #[.pointer (some ⟨bl, 0, none⟩), .pointer (some ⟨bt, 0, none⟩)] (fun e : En => #[e.val]) K bl (untl l t) w := by
  intro lp J W hW hJ hY h0
  have H := Lib.hid h
  have HL := Lib.hid hbl
  have HT := Lib.hid hbt
  have HW := Lib.hid hW
  have HJ := Lib.hid hJ
  have HY := Lib.hid hY
  have HK3 := Lib.hid hK3
  have HK4 := Lib.hid hK4
  have HK1 := Lib.hid hK1
  have HK2 := Lib.hid hK2
  clear h hbl hbt hW hJ hY hK3 hK4 hK1 hK2
  have l0 : W.cell? ⟨bl, 0, none⟩ = some (.slice ao l.length c) := Boxed.cell ((HW.out bl HK1.out).trans HL.out)
  refine callsIn_of_wp Try.func84 rfl trivial ?_ rfl
  simp only [Try.ntmps84, List.size_toArray, List.length_cons, List.length_nil, Nat.reduceAdd, Nat.reduceSub, Array.replicate_succ, Array.replicate_zero, List.push_toArray, List.append_toArray, List.nil_append, List.cons_append]
  gi_wp2
  clear l0
  gi_loopw [8] (fun v wr => ∃ i : Nat, i ≤ l.length ∧ v = .int .i64 i ∧ Hid (∀ k, K k → wr.heap[k]? = w.heap[k]?) ∧ Hid (J (untl (l.take i) t) wr)) (fun v _ => l.length - (intOf v).toNat)
  case atStart => exact ⟨0, by omega, rfl, HW, h0⟩
  case round =>
    obtain ⟨i, hi, rfl, HS, HJr⟩ := hrel
    by_cases hlt : i < l.length
    · obtain ⟨x, hx⟩ : ∃ x, l[i]? = some x := ⟨l[i], List.getElem?_eq_getElem hlt⟩
      obtain ⟨b, off, rfl, hrow⟩ := lies_some H.out hx
      have hrow2 := hrow.same (HS.out b (HK3.out b off rfl (cell_in (hrow i x hx 0 _ rfl))))
      have HC : Hid (∀ j v, x.cells[j]? = some v → wr.cell? ⟨b, off + i * 40 + j, none⟩ = some v) := fun j v hv => hrow2 i x hx j v hv
      have t0 : wr.cell? ⟨bt, 0, none⟩ = some (.int .i64 t) := Boxed.cell ((HS.out bt HK2.out).trans HT.out)
      have HX := Lib.hid hx
      have HF : Hid (untl (l.take (i + 1)) t = untl (l.take i) t ++ (if x.tick ≤ t then [x] else [])) := by show _ = _; rw [take_snoc HX.out, untl_snoc]
      have HA : Hid (untl l t = untl (l.take (i + 1)) t ++ untl (l.drop (i + 1)) t) := by show _ = _; unfold untl; rw [← List.filter_append, List.take_append_drop]
      have htl : bt < wr.heap.size := heap_lt ((HS.out bt HK2.out).trans HT.out)
      have HG : Hid (Box (wr.alloc (.cells x.cells.toArray 70)) wr.heap.size x.cells.toArray 70) := Box.new _ _ _
      have k1 := HG.out.cell 1 (.int .i64 x.tick) rfl
      have HC2 : Hid (∀ j v, x.cells[j]? = some v → (wr.alloc (.cells x.cells.toArray 70)).cell? ⟨wr.heap.size, 0 + j, none⟩ = some v) := fun j v hv => by rw [Nat.zero_add]; exact HG.out.cell j v (by simpa using hv)
      have HSX : Hid (∀ k, K k → (wr.alloc (.cells x.cells.toArray 70)).heap[k]? = w.heap[k]?) := fun k hk => (Below.heap_alloc _ _ _ (by have h1 := HS.out k hk; have h2 := HK4.out k hk; rw [Array.getElem?_eq_getElem h2] at h1; exact heap_lt h1)).trans (HS.out k hk)
      have HJX : Hid (J (untl (l.take i) t) (wr.alloc (.cells x.cells.toArray 70))) := HJ.out _ _ _ HJr.out (World.grownBy_alloc wr _ _)
      clear hrow hrow2 hx
      by_cases ht : x.tick ≤ t
      · rw [if_pos ht] at HF
        have hd : decide (x.tick ≤ t) = true := decide_eq_true ht
        obtain ⟨fn, tmps, assign, body, hy, hR⟩ := HY.out (untl (l.take i) t) x (untl (l.drop (i + 1)) t) _ (by rw [HA.out, HF.out]; simp) HJX.out
        dsimp only [En.val] at hy
        gi_wp2_with (first | (refine wpListIn_loadE rfl 70 (.tmp 10) rfl b (off + i * 40) x.cells rfl HC.out _ Try.underlying70 rfl (by kernel_rfl) ?_) | (refine wpListIn_box rfl rfl 70 (.tmp 5) (.tmp 11) rfl rfl rfl x.cells rfl rfl (by kernel_rfl) x.cells_one ?_) | (refine wpListIn_loadG (by rfl) 70 (.tmp 5) rfl wr.heap.size 0 x.cells rfl HC2.out _ Try.underlying70 rfl (by kernel_rfl) ?_) | (refine hR.mono ?_; rintro e W3 ⟨rfl, hJ3, hk3⟩; have J3 := Lib.hid hJ3; have K3 := Lib.hid hk3; clear hJ3 hk3))
        go_roundw
        case rel => exact ⟨i + 1, by omega, by go_num, fun k hk => (K3.out k hk).trans (HSX.out k hk), by rw [HF.out]; exact J3⟩
        case measure => simp [intOf]; omega
      · rw [if_neg ht, List.append_nil] at HF
        have hd : decide (x.tick ≤ t) = false := decide_eq_false ht
        gi_wp2_with (first | (refine wpListIn_loadE rfl 70 (.tmp 10) rfl b (off + i * 40) x.cells rfl HC.out _ Try.underlying70 rfl (by kernel_rfl) ?_) | (refine wpListIn_box rfl rfl 70 (.tmp 5) (.tmp 11) rfl rfl rfl x.cells rfl rfl (by kernel_rfl) x.cells_one ?_))
        refine And.intro (fun f hf => nomatch hf) ?_
        gi_wp2
        go_roundw
        case rel => exact ⟨i + 1, by omega, by go_num, HSX, by rw [HF.out]; exact HJX⟩
        case measure => simp [intOf]; omega
    · obtain rfl : i = l.length := by omega
      gi_wp2
      go_end0
      exact ⟨⟨_, rfl⟩, by have := HJr.out; rwa [List.take_length] at this⟩
end Go.Proofs.Ytfnpfkgmacaboaa
