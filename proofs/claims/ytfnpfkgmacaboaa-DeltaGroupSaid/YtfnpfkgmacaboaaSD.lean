/-
  Maps, and whole structs laid into the tail of a variable, as steps of a walk inside a fence.
-/
import Derived.Test.YtfnpfkgmacaboaaSC
import Derived.Test.YtfnpfkgmacaboaaPG
namespace Go.Proofs.Ytfnpfkgmacaboaa
open Go.ChangeShapes Go.WideShapes Go.ChangeAt Go.RowKit
set_option linter.unusedVariables false
set_option linter.unusedSimpArgs false

theorem storeCells_shift (g off : Nat) : ∀ (L : List Value) (i : Nat), storeCells ⟨g, off, none⟩ L i = storeCells ⟨g, 0, none⟩ L (off + i)
  | [], i => rfl
  | v :: L, i => by
    unfold storeCells
    rw [storeCells_shift g off L (i + 1), addr_add, addr_add, Nat.zero_add, Nat.add_assoc]
theorem run_storeVar_tail {P : Program} (w : World) (g off : Nat) (t ty : TypeId) (cur : Array Value) (L : List Value) (hg : w.heap[g]? = some (.cells cur t (0, 0))) (hi : (P.info? ty).map (·.size) = some L.length)
    (hs : off + L.length = cur.size) (h1 : ∀ v ∈ L, v.oneCell' = true) : (storeVar ty ⟨g, off, none⟩ (.agg L.toArray)).run P w = .ok () (w.setRow g (cur.toList.take off ++ L).toArray) := by
  have := run_storeCells_from (P := P) g t L off cur w hg hs h1
  rw [← Nat.add_zero off, ← storeCells_shift g off L 0, Nat.add_zero] at this
  cases hq : P.info? ty with
  | none => simp [hq] at hi
  | some i =>
    have hs : i.size = L.length := by simp [hq] at hi; omega
    simp [storeVar, sizeOf, typeInfo, hq, Value.cells, hs, this]
section
variable {F : Fence} {n : Nat} {P : Program} {ops : Array Oper} {rest : List Oper} {o : Oper} {a : Act} {w : World} {Q : Exit → Act → World → Prop}
/-- A whole struct is laid into the last cells of a variable. -/
theorem wpListIn_storeTail (hgd : o.guard = none) (ty : TypeId) (x y : Operand) (ho : o.op = .store ty x y) (hd : o.dst = none) (g off : Nat) (t : TypeId) (cur : Array Value) (L : List Value) (hx : a.eval x = .pointer (some ⟨g, off, none⟩)) (hy : a.eval y = .agg L.toArray)
    (hg : w.heap[g]? = some (.cells cur t (0, 0))) (hi : (P.info? ty).map (·.size) = some L.length) (hs : off + L.length = cur.size) (h1 : ∀ v ∈ L, v.oneCell' = true)
    (h : wpListIn F n P ops Q rest a (w.setRow g (cur.toList.take off ++ L).toArray)) : wpListIn F n P ops Q (o :: rest) a w := by
  refine wpListIn_plain hgd fun K hK => ?_
  unfold Oper.wpIn
  refine ⟨by simp [Oper.about, ho], ?_⟩
  rw [Oper.semAt_plain F _ _ (by rw [ho]; intro c hc'; cases hc')]
  unfold execOp
  simp only [ho, hx, hy, Instr.storeAt, Instr.sureAddr, Sem.run_bind, Sem.run_pure, Result.andThen_ok, run_storeVar_tail w g off t ty cur L hg hi hs h1]
  refine hK _ _ ?_
  rw [hd]
  exact h
variable {kt : TypeId} {κ : Type} [DecidableEq κ] {Z : Keyz P kt κ} {b m cnt : Nat} {β : Type} {mkV : β → Value} {T : κ → Option β}
/-- 'm[k]': what lies there, or the zero value. -/
theorem wpListIn_look (hgd : o.guard = none) (mm x : Operand) (t : TypeId) (hop : o.op = Op.lookup t mm x false) (e : TypeId) (ht : P.underlying t = some (.map kt e)) {z : Value} (hz : (zeroValue e).run P w = .ok z w)
    (hm : a.eval mm = .map (some b)) (h : Tab w Z b m (tabV T mkV)) (k : κ) (hx : a.eval x = Z.val k) (hk : Z.ok k) (v : Value) (hv : ((T k).map mkV).getD z = v)
    (hK : wpListIn F n P ops Q rest (a.put o.dst v) w) : wpListIn F n P ops Q (o :: rest) a w := by
  refine wpListIn_plain hgd fun K' hK' => ?_
  have hrun := h.look ht hz hk
  rw [show ((tabV T mkV) k).getD z = v from hv] at hrun
  unfold Oper.wpIn
  refine ⟨by simp [Oper.about, hop], ?_⟩
  rw [Oper.semAt_plain F _ _ (by rw [hop]; intro c hc'; cases hc')]
  simp [execOp, hop, hm, hx, hrun, Result.andThen]
  exact hK' _ _ hK
/-- 'm[k] = v'. -/
theorem wpListIn_keep (hgd : o.guard = none) (mm x v : Operand) (t : TypeId) (hop : o.op = Op.mapUpdate t mm x v) (e : TypeId) (ht : P.underlying t = some (.map kt e))
    (hm : a.eval mm = .map (some b)) (h : Tab w Z b m (tabV T mkV)) (hn : m < maxLen) (k : κ) (hx : a.eval x = Z.val k) (hk : Z.ok k) (d : β) (hv : a.eval v = mkV d)
    (hK : ∀ w', Tab w' Z b (m + 1) (tabV (putF T k d) mkV) → w.grownBy w' (some b) → wpListIn F n P ops Q rest (a.put o.dst undef) w') : wpListIn F n P ops Q (o :: rest) a w := by
  refine wpListIn_plain hgd fun K' hK' => ?_
  obtain ⟨w', hrun, r1, r2⟩ := h.store ht hn hk (mkV d)
  rw [putT_tabV] at r1
  unfold Oper.wpIn
  refine ⟨by simp [Oper.about, hop], ?_⟩
  rw [Oper.semAt_plain F _ _ (by rw [hop]; intro c hc'; cases hc')]
  simp [execOp, hop, hm, hx, hv, hrun, Result.andThen]
  exact hK' _ _ (hK w' r1 r2)
end
theorem Box.setRow {w : World} {g : Nat} {cs : Array Value} {t : TypeId} (h : Box w g cs t) (new : Array Value) : Box (w.setRow g new) g new t := setRow_heap w g cs new t _ h
theorem Tab.setRow {P : Program} {kt : TypeId} {κ : Type} [DecidableEq κ] {Z : Keyz P kt κ} {w : World} {b m : Nat} {T : κ → Option Value} (h : Tab w Z b m T) {g : Nat} (hg : b ≠ g) (new : Array Value) : Tab (w.setRow g new) Z b m T :=
  h.grown (row := some g) ⟨rfl, rfl, rfl, by simp, fun k hk hne => by unfold World.setRow; simp only [Array.getElem?_modify]; rw [if_neg (fun e => hne (by rw [e]))]⟩ (fun e => hg (by injection e))
end Go.Proofs.Ytfnpfkgmacaboaa
