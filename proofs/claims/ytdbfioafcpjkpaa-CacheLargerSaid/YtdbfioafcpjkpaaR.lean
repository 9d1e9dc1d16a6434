/-
  A slice that lies somewhere in a row of the call's own: cut from a place on, and appended to.
-/
import Derived.Test.YtdbfioafcpjkpaaQ
import Derived.ArgAppend
namespace Go.Proofs.Ytdbfioafcpjkpaa
open Go.ChangeShapes Go.WideShapes Go.ChangeAt Go.RowKit

/-- The slice value v, of n elements, has these cells, in a row of the call's own, with whatever room stands behind them. -/
def OwnPart (w : World) (B : Nat) (e : TypeId) (size : Nat) (v : Value) (n : Nat) (xs : List Value) : Prop :=
  xs.length = n * size ∧ ((∃ A : Option Addr, v = .slice A 0 0 ∧ n = 0 ∧ ∀ b, A = some b → B ≤ b.block) ∨
    ∃ g o cap cur, v = .slice (some ⟨g, o, none⟩) n cap ∧ B ≤ g ∧ w.heap[g]? = some (.cells cur e (0, 0)) ∧ n ≤ cap ∧ cap ≤ maxLen ∧ o + cap * size = cur.size ∧ ∀ j u, xs[j]? = some u → cur[o + j]? = some u)
section
variable {P : Program} {w w' : World} {B : Nat} {e : TypeId} {size : Nat} {v : Value} {n : Nat} {xs : List Value}
theorem OwnPart.of_own (h : w.ownsRow B e size v n xs) : OwnPart w B e size v n xs := by
  refine ⟨h.1, ?_⟩
  rcases h.2 with ⟨rfl, rfl⟩ | ⟨g, cap, cur, h1, h2, h3, h4, h5, h6, h7⟩
  · exact Or.inl ⟨none, rfl, rfl, fun b hb => by cases hb⟩
  · refine Or.inr ⟨g, 0, cap, cur, h1, h2, h3, h4, h5, by omega, ?_⟩
    intro j u hj
    rw [← h7, List.getElem?_take] at hj
    split at hj
    · rw [Nat.zero_add]; simpa using hj
    · cases hj
theorem OwnPart.kept (h : OwnPart w B e size v n xs) (hb : Below w.heap.size w w') : OwnPart w' B e size v n xs := by
  refine ⟨h.1, ?_⟩
  rcases h.2 with h | ⟨g, o, cap, cur, h1, h2, h3, h4⟩
  · exact Or.inl h
  · exact Or.inr ⟨g, o, cap, cur, h1, h2, (hb.block g (Array.getElem?_eq_some_iff.1 h3).1).trans h3, h4⟩
theorem OwnPart.drew (h : OwnPart w B e size v n xs) : OwnPart w.drew B e size v n xs := h
theorem OwnPart.mono {B' : Nat} (h : OwnPart w B e size v n xs) (hb : B' ≤ B) : OwnPart w B' e size v n xs := by
  refine ⟨h.1, ?_⟩
  rcases h.2 with ⟨A, h1, h2, h3⟩ | ⟨g, o, cap, cur, h1, h2, h4⟩
  · exact Or.inl ⟨A, h1, h2, fun b hb' => Nat.le_trans hb (h3 b hb')⟩
  · exact Or.inr ⟨g, o, cap, cur, h1, by omega, h4⟩
theorem OwnPart.block (h : OwnPart w B e size v n xs) : ∀ g, v.ownBlock = some g → B ≤ g := by
  intro g hg
  rcases h.2 with ⟨A, rfl, -, h3⟩ | ⟨g', o, cap, cur, rfl, h2, -⟩
  · cases A with
    | none => cases hg
    | some b => injection hg with hg; subst hg; exact h3 b rfl
  · injection hg with hg; subst hg; exact h2
theorem OwnPart.shape (h : OwnPart w B e size v n xs) : ∃ A c, v = .slice A n c := by
  rcases h.2 with ⟨A, rfl, rfl, -⟩ | ⟨g', o, cap, cur, rfl, -⟩
  · exact ⟨_, _, rfl⟩
  · exact ⟨_, _, rfl⟩
theorem OwnPart.far {p : Addr} {x : Value} (h : OwnPart w B e size v n xs) (hp : p.block < B) : OwnPart (w.setCell p x) B e size v n xs := by
  refine ⟨h.1, ?_⟩
  rcases h.2 with h | ⟨g, o, cap, cur, h1, h2, h3, h4⟩
  · exact Or.inl h
  · exact Or.inr ⟨g, o, cap, cur, h1, h2, (Below.heap_setCell w p x g (by omega)).trans h3, h4⟩
/-- What is read of it. -/
theorem OwnPart.cells (h : OwnPart w B e size v n xs) : ∃ A c, v = .slice A n c ∧ n ≤ c ∧ (0 < n → ∃ g o, A = some ⟨g, o, none⟩ ∧ B ≤ g ∧ ∀ j u, xs[j]? = some u → w.cell? ⟨g, o + j, none⟩ = some u) := by
  rcases h.2 with ⟨A, rfl, rfl, -⟩ | ⟨g, o, cap, cur, rfl, h2, h3, h4, h5, h6, h7⟩
  · exact ⟨A, 0, rfl, Nat.le_refl _, fun h => absurd h (by omega)⟩
  · exact ⟨_, cap, rfl, h4, fun _ => ⟨g, o, rfl, h2, fun j u hj => (cell_of_row w g _ cur e _ h3).trans (h7 j u hj)⟩⟩
theorem OwnPart.cut (t : TypeId) (ht : P.underlying t = some (.slice e)) (hs : (P.info? e).map (·.size) = some size) (h : OwnPart w B e size v n xs) (k : Nat) (K : Int) (hK : K = k) (hk : k ≤ n) :
    ∃ A c, (∀ w, (Instr.slice t v (some (.int .i64 K)) none none).run P w = .ok (.slice A (n - k) c) w) ∧ OwnPart w B e size (.slice A (n - k) c) (n - k) (xs.drop (k * size)) ∧ (Value.slice A (n - k) c).ownBlock = v.ownBlock := by
  have hl : (xs.drop (k * size)).length = (n - k) * size := by rw [List.length_drop, h.1, Nat.sub_mul]
  rcases h.2 with ⟨A, rfl, rfl, h3⟩ | ⟨g, o, cap, cur, rfl, h2, h3, h4, h5, h6, h7⟩
  · obtain rfl : k = 0 := by omega
    obtain ⟨A', hA, -⟩ := run_from (P := P) t e size ht hs A 0 0 0 K hK (Nat.le_refl _)
    have he : P.elem t = e := by simp [Program.elem, ht]
    refine ⟨A, 0, fun w => ?_, ⟨hl, Or.inl ⟨A, rfl, rfl, h3⟩⟩, rfl⟩
    subst hK
    rw [run_slice_l (P := P) w t A 0 0 (by rw [he]; exact ht) .i64 ((0 : Nat) : Int) (by omega) (by omega), he, run_size hs]
    simp [sliced, Result.andThen]
  · by_cases hc : k < cap
    · obtain ⟨A', hA, hA'⟩ := run_from (P := P) t e size ht hs (some ⟨g, o, none⟩) n cap k K hK hk
      have := hA' g o rfl hc
      subst this
      refine ⟨_, _, hA, ⟨hl, Or.inr ⟨g, o + k * size, cap - k, cur, rfl, h2, h3, by omega, by omega, ?_, ?_⟩⟩, rfl⟩
      · have e1 : (cap - k) * size = cap * size - k * size := Nat.sub_mul _ _ _
        have e2 : k * size ≤ cap * size := Nat.mul_le_mul_right _ (by omega)
        omega
      · intro j u hj
        rw [List.getElem?_drop] at hj
        rw [Nat.add_assoc]; exact h7 _ _ hj
    · have he : P.elem t = e := by simp [Program.elem, ht]
      have e2 : n = k := by omega
      refine ⟨some ⟨g, o, none⟩, 0, fun w => ?_, ⟨hl, Or.inl ⟨_, by rw [e2, Nat.sub_self], by omega, fun b hb => by injection hb with hb; subst hb; exact h2⟩⟩, rfl⟩
      subst hK
      rw [run_slice_l (P := P) w t (some ⟨g, o, none⟩) n cap (by rw [he]; exact ht) .i64 (k : Int) (by omega) (by omega), he, run_size hs]
      have e1 : cap = k := by omega
      simp [sliced, Result.andThen, e1, e2]
theorem run_append_at (t ty : TypeId) (i : TypeInfo) (ht : P.underlying t = some (.slice e)) (hi : P.info? e = some i)
    (g o sLen sCap : Nat) (cur : Array Value) (hg : w.heap[g]? = some (.cells cur e (0, 0)))
    (a : Addr) (m c : Nat) (news : List Value) (hl : news.length = m * i.size) (hnews : ∀ j u, news[j]? = some u → w.cell? (a.add j) = some u) (h1 : ∀ u ∈ news, u.oneCell' = true)
    (hroom : sLen + m ≤ sCap) (hfit : o + sLen * i.size + news.length ≤ cur.size) :
    (Builtin.append_ #[t, t] ty #[.slice (some ⟨g, o, none⟩) sLen sCap, .slice (some a) m c]).run P w =
      .ok (.slice (some ⟨g, o, none⟩) (sLen + m) sCap) (w.setRow g (cur.toList.take (o + sLen * i.size) ++ news ++ cur.toList.drop (o + sLen * i.size + news.length)).toArray) := by
  have hf := run_firstCells_some (P := P) w i.size m a m c news hl hnews
  have hst := run_storeCells_at P g (o + sLen * i.size) e news 0 cur w hg (by simpa using hfit) h1
  simp only [Nat.add_zero] at hst
  simp [Builtin.append_, run_underlying ht, sizeOf, typeInfo, hi, Builtin.lenOf, hroom, hf, Addr.add_lit, hst]
theorem grownBy_any {row : Option Nat} (h : w.grownBy w' none) : w.grownBy w' row := ⟨h.os, h.tape, h.output, h.size, fun k hk _ => h.block k hk (by simp)⟩
theorem run_append_part (t ty : TypeId) (i : TypeInfo) (z : Value) (bytes : Nat) (ht : P.underlying t = some (.slice e)) (hi : P.info? e = some i) (hz : i.zero = some z)
    (hsize : i.size = size) (hby : i.bytes = bytes) (hzs : z.cells.size = size) (hsz : 0 < size) (hown : OwnPart w B e size v n xs) (hB : B ≤ w.heap.size)
    (ad : Addr) (m c : Nat) (hm : 0 < m) (news : List Value) (hl : news.length = m * size) (hnews : ∀ j u, news[j]? = some u → w.cell? (ad.add j) = some u) (h1 : ∀ u ∈ news, u.oneCell' = true)
    (h63 : n + m ≤ maxLen) (hbytes : (n + m) * bytes ≤ 140737488355328) :
    ∃ v' w', (Builtin.append_ #[t, t] ty #[v, .slice (some ad) m c]).run P w = .ok v' w' ∧ OwnPart w' B e size v' (n + m) (xs ++ news) ∧ w.grownBy w' v.ownBlock := by
  rcases hown.2 with ⟨A, rfl, rfl, h3⟩ | ⟨g, o, cap, cur, rfl, h2, h3, h4, h5, h6, h7⟩
  · have hxs : xs = [] := List.eq_nil_of_length_eq_zero (by simpa using hown.1)
    subst hxs
    cases A with
    | none =>
      obtain ⟨v', w', r1, r2, r3, -⟩ := run_append_own (P := P) w B t ty e i z size bytes ht hi hz hsize hby hzs hsz (.slice none 0 0) 0 [] (World.ownsRow_nil _ _ _ _) ad m c news hl hnews h1 h63 hbytes hB
      exact ⟨v', w', r1, OwnPart.of_own r2, r3⟩
    | some b =>
      obtain ⟨v', w', r1, r2, r3⟩ := run_append_arg_grows (P := P) w t ty e i z size bytes ht hi hz hsize hby hzs hsz b 0 0 [] (by simp) (by simp) ad m c news hl hnews (by omega) h63 hbytes
      exact ⟨v', w', r1, (OwnPart.of_own r2).mono hB, grownBy_any r3⟩
  · by_cases hr : n + m ≤ cap
    · have hfit : o + n * i.size + news.length ≤ cur.size := by
        rw [hsize, hl, ← h6]
        have := Nat.mul_le_mul_right size hr
        rw [Nat.add_mul] at this
        omega
      have hrun := run_append_at (P := P) t ty i ht hi g o n cap cur h3 ad m c news (by rw [hsize]; exact hl) hnews h1 hr hfit
      rw [hsize] at hrun hfit
      refine ⟨_, _, hrun, ⟨by rw [List.length_append, hown.1, hl, Nat.add_mul], Or.inr ⟨g, o, cap, _, rfl, h2, setRow_heap w g cur _ e _ h3, hr, h5, ?_, ?_⟩⟩, ⟨rfl, rfl, rfl, by simp, fun k _ hk => setRow_other w g k _ (fun e => hk (by simp [Value.ownBlock, e]))⟩⟩
      · simp; omega
      · intro j u hj
        have hlx := hown.1
        by_cases hjn : j < n * size
        · rw [List.getElem?_append_left (by omega)] at hj
          have := h7 j u hj
          have hlt : o + j < cur.size := (Array.getElem?_eq_some_iff.1 this).1
          simp only [List.getElem?_toArray]
          rw [List.getElem?_append_left (by simp; omega), List.getElem?_append_left (by simp; omega), List.getElem?_take_of_lt (by omega)]
          simpa using this
        · rw [List.getElem?_append_right (by omega)] at hj
          simp only [List.getElem?_toArray]
          have hjl := (List.getElem?_eq_some_iff.1 hj).1
          rw [List.getElem?_append_left (by simp; omega), List.getElem?_append_right (by simp; omega), ← hj]
          congr 1
          simp; omega
    · obtain ⟨v', w', r1, r2, r3⟩ := run_append_arg_grows (P := P) w t ty e i z size bytes ht hi hz hsize hby hzs hsz ⟨g, o, none⟩ n cap xs hown.1 (fun j u hj => by rw [addr_add]; exact (cell_of_row w g _ cur e _ h3).trans (h7 j u hj)) ad m c news hl hnews (by omega) h63 hbytes
      exact ⟨v', w', r1, (OwnPart.of_own r2).mono hB, grownBy_any r3⟩
end
theorem wp_append_part {P : Program} {w : World} {o : Oper} {a : Act} {K : Act → World → Prop} {Q : Exit → Act → World → Prop} (s x : Operand) (t : TypeId)
    (ho : o.op = .call { callee := .builtin .append, args := #[s, x], argTypes := #[t, t] })
    (B : Nat) (e : TypeId) (i : TypeInfo) (z : Value) (size bytes : Nat) (ht : P.underlying t = some (.slice e)) (hi : P.info? e = some i) (hz : i.zero = some z)
    (hsize : i.size = size) (hby : i.bytes = bytes) (hzs : z.cells.size = size) (hsz : 0 < size)
    (v : Value) (n : Nat) (xs : List Value) (hs : a.eval s = v) (hown : OwnPart w B e size v n xs)
    (ad : Addr) (m c : Nat) (hm : 0 < m) (news : List Value) (hx : a.eval x = .slice (some ad) m c) (hl : news.length = m * size) (hnews : ∀ j u, news[j]? = some u → w.cell? (ad.add j) = some u) (h1 : ∀ u ∈ news, u.oneCell' = true)
    (h63 : n + m ≤ maxLen) (hbytes : (n + m) * bytes ≤ 140737488355328) (hbase : B ≤ w.heap.size)
    (h : ∀ v' w', OwnPart w' B e size v' (n + m) (xs ++ news) → w.grownBy w' v.ownBlock → K (a.put o.dst v') w') : o.wp P a w K Q := by
  obtain ⟨v', w', hrun, h2, h3⟩ := run_append_part (P := P) t o.type i z bytes ht hi hz hsize hby hzs hsz hown hbase ad m c hm news hl hnews h1 h63 hbytes
  unfold Oper.wp execOp
  simp only [ho, resolve, invoke, builtin, Sem.run_bind, Sem.run_pure, Result.andThen_ok, List.map_toArray, List.map_cons, List.map_nil, hs, hx, hrun]
  exact h v' w' h2 h3
theorem wpList_append_part {P : Program} (w : World) {ops : Array Oper} {rest : List Oper} {o : Oper} {a : Act} {Q : Exit → Act → World → Prop} (hgd : o.guard = none) (s x : Operand) (t : TypeId)
    (ho : o.op = .call { callee := .builtin .append, args := #[s, x], argTypes := #[t, t] })
    (B : Nat) (e : TypeId) (i : TypeInfo) (z : Value) (size bytes : Nat) (ht : P.underlying t = some (.slice e)) (hi : P.info? e = some i) (hz : i.zero = some z)
    (hsize : i.size = size) (hby : i.bytes = bytes) (hzs : z.cells.size = size) (hsz : 0 < size)
    (v : Value) (n : Nat) (xs : List Value) (hs : a.eval s = v) (hown : OwnPart w B e size v n xs)
    (ad : Addr) (m c : Nat) (hm : 0 < m) (news : List Value) (hx : a.eval x = .slice (some ad) m c) (hl : news.length = m * size) (hnews : ∀ j u, news[j]? = some u → w.cell? (ad.add j) = some u) (h1 : ∀ u ∈ news, u.oneCell' = true)
    (h63 : n + m ≤ maxLen) (hbytes : (n + m) * bytes ≤ 140737488355328) (hbase : B ≤ w.heap.size)
    (h : ∀ v' w', OwnPart w' B e size v' (n + m) (xs ++ news) → w.grownBy w' v.ownBlock → wpList P ops Q rest (a.put o.dst v') w') : wpList P ops Q (o :: rest) a w :=
  wpList_plain hgd fun _ hK => wp_append_part s x t ho B e i z size bytes ht hi hz hsize hby hzs hsz v n xs hs hown ad m c hm news hx hl hnews h1 h63 hbytes hbase fun v' w' h2 h3 => hK _ _ (h v' w' h2 h3)
end Go.Proofs.Ytdbfioafcpjkpaa
