/-
  Maps of the call's own as tables: what lies at which key, whatever the elements are.
-/
import Derived.Maps.OwnSet
import Derived.Maps.RangeWalk
import Derived.WalkKit
import Derived.ProofKit
import Derived.Deep.Draws
namespace Go.Proofs.Ytfnpfkgmacaboaa
open Go.RowKit Go.Maps
set_option linter.unusedVariables false
set_option linter.unusedSectionVars false

/-- An element that reads as itself. -/
def rawR (v : Value) : Option (DataW Value × List MemPlace) := some (.held v, [])
/-- A map's keys in plain words. -/
structure Keyz (P : Program) (kt : TypeId) (κ : Type) where
  val : κ → Value
  ok : κ → Prop
  lit : κ → Lit
  of : ∀ k, ok k → keyOf P kt (val k) = some (lit k)
  inj : ∀ k k', val k = val k' → k = k'
  law : Keyed P kt
section
variable {P : Program} {kt : TypeId} {κ : Type} [DecidableEq κ] {Z : Keyz P kt κ} {w w' : World} {b r n cnt : Nat} {T : κ → Option Value} {left : κ → Bool} {D : DataW Value}
theorem Keyz.lit_inj (Z : Keyz P kt κ) {k k' : κ} (h : Z.ok k) (h' : Z.ok k') (e : Z.lit k = Z.lit k') : k = k' :=
  Z.inj k k' (Z.law.inj (Z.of k h) (e ▸ Z.of k' h'))
/-- A datum says what the table says. -/
structure Says (Z : Keyz P kt κ) (T : κ → Option Value) (D : DataW Value) : Prop where
  ok : ∀ k v, T k = some v → Z.ok k
  at' : ∀ k v, T k = some v → ∀ z, D.atKey (Z.lit k) z = .held v
  no : ∀ k, Z.ok k → T k = none → Maps.has D (Z.lit k) = false
  all : ∀ l, Maps.has D l = true → ∃ k, Z.ok k ∧ Z.lit k = l
/-- Block b is a map that holds this table. -/
def Tab (w : World) (Z : Keyz P kt κ) (b n : Nat) (T : κ → Option Value) : Prop := ∃ D, w.ownsMap P kt rawR b n D ∧ Says Z T D
/-- .. which a range goes through: these are left. -/
def Tabs (w : World) (Z : Keyz P kt κ) (b r n : Nat) (T : κ → Option Value) (left : κ → Bool) (cnt : Nat) : Prop :=
  ∃ D leftL, w.ranges P kt rawR b r n D leftL cnt ∧ Says Z T D ∧ (∀ k, Z.ok k → leftL (Z.lit k) = left k) ∧ ∀ l, leftL l = true → ∃ k, Z.ok k ∧ Z.lit k = l
theorem Says.has (h : Says Z T D) {k : κ} {v : Value} (hv : T k = some v) : Maps.has D (Z.lit k) = true := Maps.has_true_of_atKey (h.at' k v hv)
theorem Says.some (h : Says Z T D) {k : κ} (hk : Z.ok k) (hh : Maps.has D (Z.lit k) = true) : ∃ v, T k = some v := by
  cases e : T k with
  | none => rw [h.no k hk e] at hh; cases hh
  | some v => exact ⟨v, rfl⟩
theorem tab_made (w : World) (Z : Keyz P kt κ) : Tab (w.alloc (.map #[] 0)) Z w.heap.size 0 (fun _ => none) :=
  ⟨_, World.ownsMap_made w P kt rawR, ⟨fun k v h => (by cases h), fun k v h => (by cases h), fun k _ _ => rfl, fun l h => (by cases h)⟩⟩
theorem Tab.mono (h : Tab w Z b n T) {m : Nat} (hm : n ≤ m) : Tab w Z b m T := let ⟨D, h1, h2⟩ := h; ⟨D, h1.mono hm, h2⟩
theorem Tab.lt (h : Tab w Z b n T) : b < w.heap.size := let ⟨D, h1, h2⟩ := h; h1.lt
theorem Tab.grown {row : Option Nat} (h : Tab w Z b n T) (hg : w.grownBy w' row) (hne : some b ≠ row) : Tab w' Z b n T := let ⟨D, h1, h2⟩ := h; ⟨D, h1.kept hg hne, h2⟩
theorem grown_below (hb : Below w.heap.size w w') : w.grownBy w' none := ⟨hb.os, hb.tape, hb.output, hb.size, fun k hk _ => hb.block k hk⟩
theorem Tab.kept (h : Tab w Z b n T) (hb : Below w.heap.size w w') : Tab w' Z b n T := h.grown (grown_below hb) (by simp)
theorem Tab.alloc (h : Tab w Z b n T) (o : Obj) : Tab (w.alloc o) Z b n T := let ⟨D, h1, h2⟩ := h; ⟨D, h1.alloc o, h2⟩
theorem Tab.drew (h : Tab w Z b n T) : Tab w.drew Z b n T := h
theorem Tab.drewN (h : Tab w Z b n T) (k : Nat) : Tab (w.drewN k) Z b n T := h.grown ⟨rfl, rfl, rfl, Nat.le_refl _, fun _ _ _ => rfl⟩ (by simp : some b ≠ none)
theorem Tab.setCell (h : Tab w Z b n T) {a : Addr} (ha : b ≠ a.block) (u : Value) : Tab (w.setCell a u) Z b n T := let ⟨D, h1, h2⟩ := h; ⟨D, h1.setCell ha u, h2⟩
/-- 'v, ok := m[k]' and 'm[k]'. -/
theorem Tab.look_ok {t e : TypeId} (h : Tab w Z b n T) (ht : P.underlying t = some (.map kt e)) {z : Value} (hz : (zeroValue e).run P w = .ok z w) {k : κ} (hk : Z.ok k) :
    (Instr.lookup t (.map (some b)) (Z.val k) true).run P w = .ok (.tuple #[(T k).getD z, .bool (T k).isSome]) w := by
  obtain ⟨D, h1, h2⟩ := h
  obtain ⟨v, ps, hrun, hR⟩ := h1.look_ok Z.law ht hz (zd := .held z) (zp := []) rfl (Z.of k hk)
  rw [hrun]
  simp only [rawR, Option.some.injEq, Prod.mk.injEq] at hR
  cases e : T k with
  | none =>
    have hn := h2.no k hk e
    rw [Maps.atKey_of_not_has hn] at hR
    injection hR.1 with hv
    rw [hn, hv]; rfl
  | some u =>
    rw [h2.at' k u e] at hR
    injection hR.1 with hv
    rw [h2.has e, hv]; rfl
theorem Tab.look {t e : TypeId} (h : Tab w Z b n T) (ht : P.underlying t = some (.map kt e)) {z : Value} (hz : (zeroValue e).run P w = .ok z w) {k : κ} (hk : Z.ok k) :
    (Instr.lookup t (.map (some b)) (Z.val k) false).run P w = .ok ((T k).getD z) w := by
  obtain ⟨D, h1, h2⟩ := h
  obtain ⟨v, ps, hrun, hR⟩ := h1.lookup Z.law ht hz (zd := .held z) (zp := []) rfl (Z.of k hk)
  rw [hrun]
  simp only [rawR, Option.some.injEq, Prod.mk.injEq] at hR
  cases e : T k with
  | none =>
    have hn := h2.no k hk e
    rw [Maps.atKey_of_not_has hn] at hR
    injection hR.1 with hv
    rw [hv]; rfl
  | some u =>
    rw [h2.at' k u e] at hR
    injection hR.1 with hv
    rw [hv]; rfl
/-- The table with one more entry. -/
def putT (T : κ → Option Value) (k : κ) (v : Value) : κ → Option Value := fun x => if x = k then some v else T x
theorem Says.put (h : Says Z T D) (hD : Maps.IsMap D) {k : κ} (hk : Z.ok k) (v : Value) : Says Z (putT T k v) (D.put (Z.lit k) (.held v)) := by
  have hkey := Z.law.key (Z.of k hk)
  refine ⟨fun x u hx => ?_, fun x u hx z => ?_, fun x hx hn => ?_, fun l hl => ?_⟩
  · unfold putT at hx
    split at hx
    · rename_i e; rw [e]; exact hk
    · exact h.ok x u hx
  · unfold putT at hx
    split at hx
    · rename_i e; rw [e, Maps.atKey_put_same hD hkey]; injection hx with hx; rw [hx]
    · rename_i e; rw [Maps.atKey_put_other (fun e2 => e (Z.lit_inj (h.ok x u hx) hk e2))]; exact h.at' x u hx z
  · unfold putT at hn
    split at hn
    · cases hn
    · rename_i e; rw [Maps.has_put_other (fun e2 => e (Z.lit_inj hx hk e2))]; exact h.no x hx hn
  · by_cases e : l = Z.lit k
    · exact ⟨k, hk, e.symm⟩
    · rw [Maps.has_put_other e] at hl; exact h.all l hl
theorem Tab.store {t e : TypeId} (h : Tab w Z b n T) (ht : P.underlying t = some (.map kt e)) (hn : n < maxLen) {k : κ} (hk : Z.ok k) (v : Value) :
    ∃ w', (Instr.mapUpdate t (.map (some b)) (Z.val k) v).run P w = .ok () w' ∧ Tab w' Z b (n + 1) (putT T k v) ∧ w.grownBy w' (some b) := by
  obtain ⟨D, h1, h2⟩ := h
  obtain ⟨w', hrun, h3, h4⟩ := h1.update Z.law ht hn (Z.of k hk) (d := .held v) (ps := []) rfl
  exact ⟨w', hrun, ⟨_, h3, h2.put h1.isMap hk v⟩, h4⟩
theorem Tab.range {t e : TypeId} (h : Tab w Z b n T) (ht : P.underlying t = some (.map kt e)) :
    ∃ w' cnt, (Instr.range t (.map (some b))).run P w = .ok (.pointer (some ⟨w.heap.size, 0, none⟩)) w' ∧ Tabs w' Z b w.heap.size n T (fun k => (T k).isSome) cnt ∧ w.grownBy w' none ∧ w'.heap.size = w.heap.size + 1 := by
  obtain ⟨D, h1, h2⟩ := h
  obtain ⟨w', hrun, h3, h4, h5⟩ := h1.range Z.law ht
  refine ⟨w', _, hrun, ⟨D, _, h3, h2, fun k hk => ?_, h2.all⟩, h4, h5⟩
  cases e : T k with
  | none => simp only [e]; exact h2.no k hk e
  | some v => simp only [e]; exact h2.has e
theorem Tabs.owns (h : Tabs w Z b r n T left cnt) : Tab w Z b n T := let ⟨D, L, h1, h2, _⟩ := h; ⟨D, h1.owns, h2⟩
theorem Tabs.left_eq (h : Tabs w Z b r n T left cnt) : w.rangeLeft b r = cnt := let ⟨D, L, h1, _⟩ := h; h1.left_eq
theorem Tabs.grown {row : Option Nat} (h : Tabs w Z b r n T left cnt) (hg : w.grownBy w' row) (h1 : some b ≠ row) (h2 : some r ≠ row) : Tabs w' Z b r n T left cnt :=
  let ⟨D, L, h3, h4⟩ := h; ⟨D, L, h3.kept hg h1 h2, h4⟩
theorem Tabs.kept (h : Tabs w Z b r n T left cnt) (hb : Below w.heap.size w w') : Tabs w' Z b r n T left cnt := h.grown (grown_below hb) (by simp) (by simp)
theorem Tabs.next (h : Tabs w Z b r n T left cnt) (ty : TypeId) :
    ((∀ k, Z.ok k → left k = false) ∧ (Instr.next (.pointer (some ⟨r, 0, none⟩)) false ty).run P w = .ok (.tuple #[.bool false]) w) ∨
    ∃ k v w' cnt', Z.ok k ∧ left k = true ∧ T k = some v ∧ (Instr.next (.pointer (some ⟨r, 0, none⟩)) false ty).run P w = .ok (.tuple #[.bool true, Z.val k, v]) w' ∧
      Tabs w' Z b r n T (fun x => left x && !decide (x = k)) cnt' ∧ cnt' < cnt ∧ w.grownBy w' (some r) ∧ w'.heap.size = w.heap.size ∧ (Instr.entry (.pointer (some ⟨r, 0, none⟩))).run P w' = .ok (.tuple #[Z.val k, v]) w' := by
  obtain ⟨D, L, h1, h2, h3, h4⟩ := h
  rcases h1.next Z.law ty with ⟨-, hl, hrun⟩ | ⟨key, v, kl, y, w', cnt', hkey, hlk, hv, hat, hrun, hrg, hlt, hgr, hsz, hen⟩
  · exact Or.inl ⟨fun k hk => (h3 k hk).symm.trans (hl _), hrun⟩
  · obtain ⟨k, hk, rfl⟩ := h4 kl hlk
    have hkv := Z.law.inj hkey (Z.of k hk)
    subst hkv
    obtain ⟨u, hu⟩ := h2.some hk (Maps.has_true_of_atKey hat)
    have huv : u = v := by
      have e1 := h2.at' k u hu (.held v)
      rw [hat] at e1
      simp only [rawR, Option.some.injEq] at hv
      rw [← hv] at e1
      injection e1 with e1
      exact e1.symm
    subst huv
    refine Or.inr ⟨k, u, w', cnt', hk, (h3 k hk).symm.trans hlk, hu, hrun, ⟨D, _, hrg, h2, fun x hx => ?_, fun l hl => h4 l (by simp at hl; exact hl.1)⟩, hlt, hgr, hsz, hen⟩
    rw [h3 x hx]
    by_cases e : x = k
    · subst e; rw [WideAt.sameKey_self (Z.law.key (Z.of x hx))]; simp
    · rw [Maps.sameKey_ne (fun e2 => e (Z.lit_inj hx hk e2))]; simp [e]
/-! ### at the operations -/
variable {ops : Array Oper} {rest : List Oper} {o : Oper} {a : Act} {Q : Exit → Act → World → Prop}
theorem wpList_look (hg : o.guard = none) (m x : Operand) (t : TypeId) (hop : o.op = Op.lookup t m x false) (e : TypeId) (ht : P.underlying t = some (.map kt e)) {z : Value} (hz : (zeroValue e).run P w = .ok z w)
    (hm : a.eval m = .map (some b)) (h : Tab w Z b n T) (k : κ) (hx : a.eval x = Z.val k) (hk : Z.ok k) (hK : wpList P ops Q rest (a.put o.dst ((T k).getD z)) w) : wpList P ops Q (o :: rest) a w := by
  refine wpList_plain hg fun K' hK' => ?_
  have hrun := h.look ht hz hk
  unfold Oper.wp
  simp [execOp, hop, hm, hx, hrun, Result.andThen]
  exact hK' _ _ hK
theorem wpList_look_ok (hg : o.guard = none) (m x : Operand) (t : TypeId) (hop : o.op = Op.lookup t m x true) (e : TypeId) (ht : P.underlying t = some (.map kt e)) {z : Value} (hz : (zeroValue e).run P w = .ok z w)
    (hm : a.eval m = .map (some b)) (h : Tab w Z b n T) (k : κ) (hx : a.eval x = Z.val k) (hk : Z.ok k) (hK : wpList P ops Q rest (a.put o.dst (.tuple #[(T k).getD z, .bool (T k).isSome])) w) : wpList P ops Q (o :: rest) a w := by
  refine wpList_plain hg fun K' hK' => ?_
  have hrun := h.look_ok ht hz hk
  unfold Oper.wp
  simp [execOp, hop, hm, hx, hrun, Result.andThen]
  exact hK' _ _ hK
theorem wpList_store (hg : o.guard = none) (m x v : Operand) (t : TypeId) (hop : o.op = Op.mapUpdate t m x v) (e : TypeId) (ht : P.underlying t = some (.map kt e))
    (hm : a.eval m = .map (some b)) (h : Tab w Z b n T) (hn : n < maxLen) (k : κ) (hx : a.eval x = Z.val k) (hk : Z.ok k) (val : Value) (hv : a.eval v = val)
    (hK : ∀ w', Tab w' Z b (n + 1) (putT T k val) → w.grownBy w' (some b) → wpList P ops Q rest (a.put o.dst undef) w') : wpList P ops Q (o :: rest) a w := by
  refine wpList_plain hg fun K' hK' => ?_
  obtain ⟨w', hrun, r1, r2⟩ := h.store ht hn hk val
  unfold Oper.wp
  simp [execOp, hop, hm, hx, hv, hrun, Result.andThen]
  exact hK' _ _ (hK w' r1 r2)
theorem wpList_range (hg : o.guard = none) (m : Operand) (t : TypeId) (hop : o.op = Op.range t m) (e : TypeId) (ht : P.underlying t = some (.map kt e)) (hm : a.eval m = .map (some b)) (h : Tab w Z b n T)
    (hK : ∀ w' cnt, Tabs w' Z b w.heap.size n T (fun k => (T k).isSome) cnt → w.grownBy w' none → w'.heap.size = w.heap.size + 1 → wpList P ops Q rest (a.put o.dst (.pointer (some ⟨w.heap.size, 0, none⟩))) w') :
    wpList P ops Q (o :: rest) a w := by
  refine wpList_plain hg fun K' hK' => ?_
  obtain ⟨w', cnt, hrun, r1, r2, r3⟩ := h.range ht
  unfold Oper.wp
  simp [execOp, hop, hm, hrun, Result.andThen]
  exact hK' _ _ (hK w' cnt r1 r2 r3)
theorem wpList_next {β : Type} (hg : o.guard = none) (it : Operand) (hop : o.op = Op.next it false) (mkK : κ → Value) (eK : ∀ k, Z.val k = mkK k) (mkV : β → Value) (invV : ∀ k v, T k = some v → ∃ c, v = mkV c)
    (hit : a.eval it = .pointer (some ⟨r, 0, none⟩)) (h : Tabs w Z b r n T left cnt)
    (hDone : (∀ k, Z.ok k → left k = false) → wpList P ops Q rest (a.put o.dst (.tuple #[.bool false])) w)
    (hMore : ∀ k c w' cnt', Z.ok k → left k = true → T k = some (mkV c) → Tabs w' Z b r n T (fun x => left x && !decide (x = k)) cnt' → cnt' < cnt → w.grownBy w' (some r) → w'.heap.size = w.heap.size →
      (Instr.entry (.pointer (some ⟨r, 0, none⟩))).run P w' = .ok (.tuple #[mkK k, mkV c]) w' → wpList P ops Q rest (a.put o.dst (.tuple #[.bool true, mkK k, mkV c])) w') :
    wpList P ops Q (o :: rest) a w := by
  refine wpList_plain hg fun K' hK' => ?_
  unfold Oper.wp
  rcases h.next o.type with ⟨hl, hrun⟩ | ⟨k, v, w', cnt', hk, hlk, hv, hrun, hrg, hlt, hgr, hsz, hen⟩
  · simp [execOp, hop, hit, hrun, Result.andThen]
    exact hK' _ _ (hDone hl)
  · obtain ⟨c, rfl⟩ := invV k v hv
    rw [eK] at hrun hen
    simp [execOp, hop, hit, hrun, Result.andThen]
    exact hK' _ _ (hMore k c w' cnt' hk hlk hv hrg hlt hgr hsz hen)
end
end Go.Proofs.Ytfnpfkgmacaboaa
