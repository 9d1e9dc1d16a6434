/-
  Maps of structs: laws at the operations, the elements in plain words; the plain law of the program's Consolidate.
-/
import Derived.Test.YtfnpfkgmacaboaaPC
import Derived.Test.YtfnpfkgmacaboaaPF
namespace Go.Proofs.Ytfnpfkgmacaboaa
open Go.ChangeShapes Go.WideShapes Go.ChangeAt Go.RowKit Go.Maps
set_option linter.unusedVariables false
set_option linter.unusedSimpArgs false
set_option linter.unusedSectionVars false

section
variable {P : Program} {kt : TypeId} {κ β : Type} [DecidableEq κ] {Z : Keyz P kt κ} {w w' : World} {b r n cnt : Nat} {F : κ → Option β} {mkV : β → Value} {left : κ → Bool}
/-- The table of elements that are told in plain words. -/
def tabV (F : κ → Option β) (mkV : β → Value) : κ → Option Value := fun k => (F k).map mkV
def putF (F : κ → Option β) (k : κ) (d : β) : κ → Option β := fun x => if x = k then some d else F x
theorem putT_tabV (k : κ) (d : β) : putT (tabV F mkV) k (mkV d) = tabV (putF F k d) mkV := by
  funext x
  unfold putT tabV putF
  split <;> rfl
theorem Tab.blocks {T : κ → Option Value} (h : Tab w Z b n T) (e : w'.heap[b]? = w.heap[b]?) : Tab w' Z b n T := by
  obtain ⟨D, ⟨es, clock, hb, F, hs, hD⟩, h2⟩ := h
  exact ⟨D, ⟨es, clock, e.trans hb, F, hs, hD⟩, h2⟩
theorem Tabs.blocks {T : κ → Option Value} (h : Tabs w Z b r n T left cnt) (e : w'.heap[b]? = w.heap[b]?) (e2 : w'.heap[r]? = w.heap[r]?) : Tabs w' Z b r n T left cnt := by
  obtain ⟨D, L, ⟨es, clock, since, seen, c0, hb, F, hs, hD, hr, rest⟩, h2⟩ := h
  exact ⟨D, L, ⟨es, clock, since, seen, c0, e.trans hb, F, hs, hD, e2.trans hr, rest⟩, h2⟩
theorem Tabs.below {T : κ → Option Value} {B : Nat} (h : Tabs w Z b r n T left cnt) (hb : Below B w w') (h1 : b < B) (h2 : r < B) : Tabs w' Z b r n T left cnt := h.blocks (hb.block b h1) (hb.block r h2)
theorem Tabs.lt {T : κ → Option Value} (h : Tabs w Z b r n T left cnt) : r < w.heap.size := let ⟨D, L, h1, _⟩ := h; h1.lt
variable {ops : Array Oper} {rest : List Oper} {o : Oper} {a : Act} {Q : Exit → Act → World → Prop}
/-- 'v, ok := m[k]': there is none. -/
theorem wpList_find_none (hg : o.guard = none) (m x : Operand) (t : TypeId) (hop : o.op = Op.lookup t m x true) (e : TypeId) (ht : P.underlying t = some (.map kt e)) {z : Value} (hz : (zeroValue e).run P w = .ok z w)
    (hm : a.eval m = .map (some b)) (h : Tab w Z b n (tabV F mkV)) (k : κ) (hx : a.eval x = Z.val k) (hk : Z.ok k) (hF : F k = none) (hK : wpList P ops Q rest (a.put o.dst (.tuple #[z, .bool false])) w) : wpList P ops Q (o :: rest) a w := by
  refine wpList_look_ok hg m x t hop e ht hz hm h k hx hk ?_
  have : tabV F mkV k = none := by unfold tabV; rw [hF]; rfl
  rw [this]; exact hK
/-- .. there is one. -/
theorem wpList_find_some (hg : o.guard = none) (m x : Operand) (t : TypeId) (hop : o.op = Op.lookup t m x true) (e : TypeId) (ht : P.underlying t = some (.map kt e)) {z : Value} (hz : (zeroValue e).run P w = .ok z w)
    (hm : a.eval m = .map (some b)) (h : Tab w Z b n (tabV F mkV)) (k : κ) (hx : a.eval x = Z.val k) (hk : Z.ok k) (d : β) (hF : F k = some d) (hK : wpList P ops Q rest (a.put o.dst (.tuple #[mkV d, .bool true])) w) : wpList P ops Q (o :: rest) a w := by
  refine wpList_look_ok hg m x t hop e ht hz hm h k hx hk ?_
  have : tabV F mkV k = some (mkV d) := by unfold tabV; rw [hF]; rfl
  rw [this]; exact hK
theorem wpList_keep (hg : o.guard = none) (m x v : Operand) (t : TypeId) (hop : o.op = Op.mapUpdate t m x v) (e : TypeId) (ht : P.underlying t = some (.map kt e))
    (hm : a.eval m = .map (some b)) (h : Tab w Z b n (tabV F mkV)) (hn : n < maxLen) (k : κ) (hx : a.eval x = Z.val k) (hk : Z.ok k) (d : β) (hv : a.eval v = mkV d)
    (hK : ∀ w', Tab w' Z b (n + 1) (tabV (putF F k d) mkV) → w.grownBy w' (some b) → wpList P ops Q rest (a.put o.dst undef) w') : wpList P ops Q (o :: rest) a w :=
  wpList_store hg m x v t hop e ht hm h hn k hx hk (mkV d) hv (fun w' h1 h2 => hK w' (by rw [← putT_tabV]; exact h1) h2)
theorem wpList_step (hg : o.guard = none) (it : Operand) (hop : o.op = Op.next it false) (mkK : κ → Value) (eK : ∀ k, Z.val k = mkK k) (hit : a.eval it = .pointer (some ⟨r, 0, none⟩)) (h : Tabs w Z b r n (tabV F mkV) left cnt)
    (hDone : (∀ k, Z.ok k → left k = false) → wpList P ops Q rest (a.put o.dst (.tuple #[.bool false])) w)
    (hMore : ∀ k d w' cnt', Z.ok k → left k = true → F k = some d → Tabs w' Z b r n (tabV F mkV) (fun x => left x && !decide (x = k)) cnt' → cnt' < cnt → w.grownBy w' (some r) → w'.heap.size = w.heap.size →
      (Instr.entry (.pointer (some ⟨r, 0, none⟩))).run P w' = .ok (.tuple #[mkK k, mkV d]) w' → wpList P ops Q rest (a.put o.dst (.tuple #[.bool true, mkK k, mkV d])) w') :
    wpList P ops Q (o :: rest) a w := by
  refine wpList_plain hg fun K' hK' => ?_
  unfold Oper.wp
  rcases h.next o.type with ⟨hl, hrun⟩ | ⟨k, v, w', cnt', hk, hlk, hv, hrun, hrg, hlt, hgr, hsz, hen⟩
  · simp [execOp, hop, hit, hrun, Result.andThen]
    exact hK' _ _ (hDone hl)
  · obtain ⟨d, hd, rfl⟩ : ∃ d, F k = some d ∧ mkV d = v := by
      unfold tabV at hv
      cases hq : F k with
      | none => rw [hq] at hv; cases hv
      | some d => rw [hq] at hv; injection hv with hv; exact ⟨d, rfl, hv⟩
    rw [eK] at hrun hen
    simp [execOp, hop, hit, hrun, Result.andThen]
    exact hK' _ _ (hMore k d w' cnt' hk hlk hd hrg hlt hgr hsz hen)
/-- Nothing is left: then this. -/
def ThenDone (Z : Keyz P kt κ) (left : κ → Bool) (R : Prop) : Prop := (∀ k, Z.ok k → left k = false) → R
/-- An entry has come: then this. -/
def ThenMore (Z : Keyz P kt κ) (w : World) (b r n : Nat) (F : κ → Option β) (mkV : β → Value) (left : κ → Bool) (cnt : Nat) (mkK : κ → Value) (R : Value → World → Prop) : Prop :=
  ∀ k d w' cnt', Z.ok k → left k = true → F k = some d → Tabs w' Z b r n (tabV F mkV) (fun x => left x && !decide (x = k)) cnt' → cnt' < cnt → w.grownBy w' (some r) → w'.heap.size = w.heap.size →
    (Instr.entry (.pointer (some ⟨r, 0, none⟩))).run P w' = .ok (.tuple #[mkK k, mkV d]) w' → R (.tuple #[.bool true, mkK k, mkV d]) w'
theorem wpList_stepS (hg : o.guard = none) (it : Operand) (hop : o.op = Op.next it false) (mkK : κ → Value) (eK : ∀ k, Z.val k = mkK k) (hit : a.eval it = .pointer (some ⟨r, 0, none⟩)) (h : Tabs w Z b r n (tabV F mkV) left cnt)
    (hDone : ThenDone Z left (wpList P ops Q rest (a.put o.dst (.tuple #[.bool false])) w))
    (hMore : ThenMore Z w b r n F mkV left cnt mkK (fun v w' => wpList P ops Q rest (a.put o.dst v) w')) :
    wpList P ops Q (o :: rest) a w := wpList_step hg it hop mkK eK hit h hDone hMore
end

/-! ### Consolidating by a map -/
/-- What the map says of the differences so far. -/
structure Sums (w0 : World) (L : List Dl) (F : { k : DK // OkM k } → Option Dl) : Prop where
  says : ∀ k d, F k = some d → d.Ok w0 ∧ d.key = k.1 ∧ d.n = sumK (L.map Dl.kn) k.1
  all : ∀ d ∈ L, ∀ h : OkM d.key, ∃ e, F ⟨d.key, h⟩ = some e
theorem sumK_none {L : List (DK × Int)} {k : DK} (h : ∀ x ∈ L, x.1 ≠ k) : sumK L k = 0 := by
  have : ∀ (L : List (DK × Int)) (s : Int), (∀ x ∈ L, x.1 ≠ k) → L.foldl (fun s x => if x.1 = k then IntKind.i64.wrap (x.2 + s) else s) s = s := by
    intro L
    induction L with
    | nil => intro s _; rfl
    | cons x L ih => intro s h; simp only [List.foldl_cons]; rw [if_neg (h x (by simp))]; exact ih s (fun y hy => h y (by simp [hy]))
  exact this L 0 h
theorem I64.wrapped {n : Int} (h : I64 n) : IntKind.i64.wrap n = n := IntWalk.i64_in _ (by unfold I64 at h; omega)
theorem Sums.nil (w0 : World) : Sums w0 [] (fun _ => none) := ⟨fun k d h => (by cases h), fun d h => (by cases h)⟩
theorem Sums.fresh {w0 : World} {L : List Dl} {F : { k : DK // OkM k } → Option Dl} (h : Sums w0 L F) {x : Dl} (hx : x.Ok w0) (hF : F ⟨x.key, hx.mark⟩ = none) : Sums w0 (L ++ [x]) (putF F ⟨x.key, hx.mark⟩ x) := by
  have hno : ∀ y ∈ L.map Dl.kn, y.1 ≠ x.key := by
    intro y hy e
    obtain ⟨d, hd, rfl⟩ := List.mem_map.1 hy
    have e' : d.key = x.key := e
    obtain ⟨q, hq⟩ := h.all d hd (e' ▸ hx.mark)
    rw [show (⟨d.key, e' ▸ hx.mark⟩ : { k : DK // OkM k }) = ⟨x.key, hx.mark⟩ from Subtype.ext e', hF] at hq
    cases hq
  refine ⟨fun k d hd => ?_, fun d hd hm => ?_⟩
  · unfold putF at hd
    split at hd
    · rename_i e
      injection hd with hd
      subst hd e
      refine ⟨hx, rfl, ?_⟩
      rw [List.map_append, List.map_singleton, sumK_snoc, sumK_none hno]
      show x.n = if x.key = x.key then _ else _
      rw [if_pos rfl, Int.add_zero]
      exact hx.n.wrapped.symm
    · rename_i e
      obtain ⟨h1, h2, h3⟩ := h.says k d hd
      refine ⟨h1, h2, ?_⟩
      rw [List.map_append, List.map_singleton, sumK_snoc, h3]
      have hne : x.kn.1 ≠ k.1 := fun q => e (Subtype.ext q.symm)
      rw [if_neg hne]
  · by_cases e : d.key = x.key
    · exact ⟨x, by unfold putF; rw [if_pos (Subtype.ext e)]⟩
    · simp only [List.mem_append, List.mem_singleton] at hd
      rcases hd with hd | rfl
      · obtain ⟨q, hq⟩ := h.all d hd hm
        exact ⟨q, by unfold putF; rw [if_neg (fun u => e (congrArg Subtype.val u))]; exact hq⟩
      · exact absurd rfl e
theorem Sums.again {w0 : World} {L : List Dl} {F : { k : DK // OkM k } → Option Dl} (h : Sums w0 L F) {x d : Dl} (hx : x.Ok w0) (hF : F ⟨x.key, hx.mark⟩ = some d) : Sums w0 (L ++ [x]) (putF F ⟨x.key, hx.mark⟩ (x.withN (IntKind.i64.wrap (x.n + d.n)))) := by
  obtain ⟨-, -, hd3⟩ := h.says _ _ hF
  refine ⟨fun k e he => ?_, fun e he hm => ?_⟩
  · unfold putF at he
    split at he
    · rename_i q
      injection he with he
      subst he q
      refine ⟨{ hx with n := I64.wrap _ }, rfl, ?_⟩
      rw [List.map_append, List.map_singleton, sumK_snoc, ← hd3]
      show IntKind.i64.wrap (x.n + d.n) = if x.key = x.key then IntKind.i64.wrap (x.n + d.n) else _
      rw [if_pos rfl]
    · rename_i q
      obtain ⟨h1, h2, h3⟩ := h.says k e he
      refine ⟨h1, h2, ?_⟩
      rw [List.map_append, List.map_singleton, sumK_snoc, h3]
      have hne : x.kn.1 ≠ k.1 := fun u => q (Subtype.ext u.symm)
      rw [if_neg hne]
  · by_cases q : e.key = x.key
    · exact ⟨_, by unfold putF; rw [if_pos (Subtype.ext q)]⟩
    · simp only [List.mem_append, List.mem_singleton] at he
      rcases he with he | rfl
      · obtain ⟨u, hu⟩ := h.all e he hm
        exact ⟨u, by unfold putF; rw [if_neg (fun y => q (congrArg Subtype.val y))]; exact hu⟩
      · exact absurd rfl q
/-- What has been taken out of the map so far. -/
structure Took (w0 : World) (S : DK → Int) (F : { k : DK // OkM k } → Option Dl) (left : { k : DK // OkM k } → Bool) (xs : List Dl) : Prop where
  mem : ∀ d ∈ xs, d.Ok w0 ∧ d.n = S d.key ∧ d.n ≠ 0 ∧ ∃ h : OkM d.key, left ⟨d.key, h⟩ = false
  out : ∀ k d, F k = some d → left k = false → S k.1 = 0 ∨ ∃ e ∈ xs, e.key = k.1
  nodup : (xs.map Dl.key).Nodup
theorem Took.start (w0 : World) (S : DK → Int) (F : { k : DK // OkM k } → Option Dl) : Took w0 S F (fun k => (tabV F Dl.val k).isSome) [] :=
  ⟨fun d h => (by cases h), fun k d h hl => (by unfold tabV at hl; rw [h] at hl; cases hl), List.Pairwise.nil⟩
theorem Took.skip {w0 : World} {S : DK → Int} {F : { k : DK // OkM k } → Option Dl} {left : { k : DK // OkM k } → Bool} {xs : List Dl} (h : Took w0 S F left xs) {k : { k : DK // OkM k }} {d : Dl} (hd : d.n = S k.1) (h0 : d.n = 0) :
    Took w0 S F (fun x => left x && !decide (x = k)) xs := by
  refine ⟨fun e he => ?_, fun x e hx hl => ?_, h.nodup⟩
  · obtain ⟨h1, h2, h3, h4, h5⟩ := h.mem e he
    exact ⟨h1, h2, h3, h4, by rw [h5]; rfl⟩
  · by_cases q : x = k
    · subst q; exact Or.inl (hd ▸ h0)
    · refine h.out x e hx ?_
      simpa [q] using hl
theorem Took.take {w0 : World} {S : DK → Int} {F : { k : DK // OkM k } → Option Dl} {left : { k : DK // OkM k } → Bool} {xs : List Dl} (h : Took w0 S F left xs) {k : { k : DK // OkM k }} {d : Dl} (hok : d.Ok w0) (hk : d.key = k.1) (hl : left k = true) (hd : d.n = S k.1) (h0 : d.n ≠ 0) :
    Took w0 S F (fun x => left x && !decide (x = k)) (xs ++ [d]) := by
  refine ⟨fun e he => ?_, fun x e hx hl => ?_, ?_⟩
  · simp only [List.mem_append, List.mem_singleton] at he
    rcases he with he | rfl
    · obtain ⟨h1, h2, h3, h4, h5⟩ := h.mem e he
      exact ⟨h1, h2, h3, h4, by rw [h5]; rfl⟩
    · exact ⟨hok, by rw [hk]; exact hd, h0, hk ▸ k.2, by
        have : (⟨e.key, hk ▸ k.2⟩ : { k : DK // OkM k }) = k := Subtype.ext hk
        rw [this]; simp⟩
  · by_cases q : x = k
    · subst q; exact Or.inr ⟨d, by simp, hk⟩
    · rcases h.out x e hx (by simpa [q] using hl) with u | ⟨u, hu, hu2⟩
      · exact Or.inl u
      · exact Or.inr ⟨u, by simp [hu], hu2⟩
  · rw [List.map_append, List.map_singleton, List.nodup_append]
    refine ⟨h.nodup, by simp, ?_⟩
    intro x hx y hy e
    simp only [List.mem_singleton] at hy
    subst hy
    obtain ⟨u, hu, rfl⟩ := List.mem_map.1 hx
    obtain ⟨-, -, -, h4, h5⟩ := h.mem u hu
    have e2 : (⟨u.key, h4⟩ : { k : DK // OkM k }) = k := Subtype.ext (e.trans hk)
    rw [e2, hl] at h5
    cases h5
theorem consK_is (L : List (DK × Int)) (hL : ∀ x ∈ L, I64 x.2) : IsCons cmpD (sumK L) (consK L) := by
  have : ∀ (M : List (DK × Int)) (N : List (DK × Int)) (r : List (DK × Int)), (∀ x ∈ M, I64 x.2) → IsCons cmpD (sumK N) r → IsCons cmpD (sumK (N ++ M)) (M.foldl (putK cmpD) r) := by
    intro M
    induction M with
    | nil => intro N r _ h; rw [List.append_nil]; exact h
    | cons x M ih =>
      intro N r hM h
      have := ih (N ++ [x]) (putK cmpD r x) (fun y hy => hM y (by simp [hy])) (h.put cmpD_cmp ((hM x (by simp)).wrapped))
      rw [List.append_assoc] at this
      exact this
  have := this L [] [] hL IsCons.nil
  unfold consK
  simpa using this
theorem Took.done {w0 : World} {L : List Dl} {F : { k : DK // OkM k } → Option Dl} {left : { k : DK // OkM k } → Bool} {xs p : List Dl} (hs : Sums w0 L F) (hok : ∀ d ∈ L, d.Ok w0) (h : Took w0 (sumK (L.map Dl.kn)) F left xs) (hl : ∀ k, left k = false)
    (hp : xs.Perm p) (hr : p.Pairwise (fun x y => ¬ cmpD y.key x.key < 0)) : p.map Dl.kn = consK (L.map Dl.kn) ∧ ∀ d ∈ p, d.Ok w0 := by
  have hm : ∀ d ∈ p, d ∈ xs := fun d hd => hp.mem_iff.2 hd
  refine ⟨?_, fun d hd => (h.mem d (hm d hd)).1⟩
  have hnd : (p.map Dl.key).Nodup := (hp.map Dl.key).nodup_iff.1 h.nodup
  have hris : Rising cmpD (p.map Dl.kn) := by
    unfold Rising
    rw [List.pairwise_map]
    have h2 : p.Pairwise (fun x y => x.key ≠ y.key) := by
      have := hnd
      unfold List.Nodup at this
      rwa [List.pairwise_map] at this
    refine (hr.and h2).imp ?_
    rintro x y ⟨a1, a2⟩
    show cmpD x.key y.key < 0
    have t1 := cmpD_cmp.turn x.key y.key
    have t2 := cmpD_cmp.turn y.key x.key
    have t3 : cmpD x.key y.key ≠ 0 := fun e => a2 ((cmpD_cmp.zero _ _).1 e)
    omega
  have hL : ∀ x ∈ L.map Dl.kn, I64 x.2 := fun x hx => by obtain ⟨d, hd, rfl⟩ := List.mem_map.1 hx; exact (hok d hd).n
  refine IsCons.unique cmpD_cmp ⟨hris, fun x hx => ?_, fun k => ?_⟩ (consK_is _ hL)
  · obtain ⟨d, hd, rfl⟩ := List.mem_map.1 hx
    exact (h.mem d (hm d hd)).2.2.1
  · by_cases h0 : sumK (L.map Dl.kn) k = 0
    · rw [h0]
      refine look_not _ (fun z hz e => ?_)
      obtain ⟨d, hd, rfl⟩ := List.mem_map.1 hz
      obtain ⟨-, h2, h3, -⟩ := h.mem d (hm d hd)
      have e' : d.key = k := e
      rw [e', h0] at h2
      exact h3 h2
    · have hex : ∃ x ∈ L.map Dl.kn, x.1 = k := by
        cases Classical.em (∃ x ∈ L.map Dl.kn, x.1 = k) with
        | inl q => exact q
        | inr q => exact absurd (sumK_none (fun x hx e => q ⟨x, hx, e⟩)) h0
      obtain ⟨x, hx, rfl⟩ := hex
      obtain ⟨d, hd, rfl⟩ := List.mem_map.1 hx
      obtain ⟨e, he⟩ := hs.all d hd (hok d hd).mark
      rcases h.out _ _ he (hl _) with q | ⟨u, hu, hu2⟩
      · exact absurd q h0
      · have hu2' : u.key = d.key := hu2
        refine look_mem cmpD_cmp _ hris ?_
        have hun := (h.mem u hu).2.1
        rw [hu2'] at hun
        refine List.mem_map.2 ⟨u, hp.mem_iff.1 hu, ?_⟩
        show (u.key, u.n) = _
        rw [hun, hu2']; rfl
end Go.Proofs.Ytfnpfkgmacaboaa
