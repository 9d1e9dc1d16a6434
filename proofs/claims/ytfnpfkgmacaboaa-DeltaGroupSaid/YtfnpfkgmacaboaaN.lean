/-
  Lists of structs of the call's own: append, cuts.
-/
import Derived.Test.YtfnpfkgmacaboaaI
import Derived.Laws.OwnMore
import Derived.Laws.AppendOwnNone
import Derived.Lib.SliceRun
import Derived.WalkSpells
import Derived.Maps.AppendAt
namespace Go.Proofs.Ytfnpfkgmacaboaa
open Go.ChangeShapes Go.WideShapes Go.ChangeAt Go.RowKit
set_option linter.unusedVariables false
set_option linter.unusedSimpArgs false

section
variable {P : Program} {α : Type} {enc : α → List Value} {k bytes : Nat} {e t : TypeId} {w w' : World} {B : Nat} {v : Value} {l m : List α}
/-- An element type e of k cells, its slices' type t. -/
structure El (P : Program) (e t : TypeId) (k bytes : Nat) : Prop where
  und : P.underlying t = some (.slice e)
  info : (P.info? e).map (fun i => (i.zero.map (fun z => z.cells.size), i.size, i.bytes)) = some (some k, k, bytes)
  pos : 0 < k
  few : bytes ≤ 100000
theorem El.parts (E : El P e t k bytes) : ∃ i z, P.info? e = some i ∧ i.zero = some z ∧ i.size = k ∧ i.bytes = bytes ∧ z.cells.size = k := by
  have h := E.info
  cases hi : P.info? e with
  | none => rw [hi] at h; simp at h
  | some i =>
    rw [hi] at h
    simp at h
    obtain ⟨⟨z, h1, h2⟩, h3, h4⟩ := h
    exact ⟨i, z, rfl, h1, h3, h4, h2⟩
theorem El.size (E : El P e t k bytes) : (P.info? e).map (·.size) = some k := by
  obtain ⟨i, z, h1, -, h3, -⟩ := E.parts
  rw [h1]; simp [h3]
/-- How a list is written down. -/
structure Enc (enc : α → List Value) (k : Nat) : Prop where
  len : ∀ x, (enc x).length = k
  one : ∀ x, ∀ v ∈ enc x, v.oneCell' = true
/-- A list in a slice of the call's own. -/
def Own (enc : α → List Value) (k : Nat) (e : TypeId) (w : World) (B : Nat) (v : Value) (l : List α) : Prop := w.ownsRow B e k v l.length (encs enc l)
theorem ownsRow_kept {size n : Nat} {xs : List Value} (h : w.ownsRow B e size v n xs) (hb : Below w.heap.size w w') : w'.ownsRow B e size v n xs := by
  refine ⟨h.1, ?_⟩
  rcases h.2 with h | ⟨g, cap, cur, h1, h2, h3, h4⟩
  · exact Or.inl h
  · exact Or.inr ⟨g, cap, cur, h1, h2, (hb.block g (Array.getElem?_eq_some_iff.1 h3).1).trans h3, h4⟩
theorem Own.kept (h : Own enc k e w B v l) (hb : Below w.heap.size w w') : Own enc k e w' B v l := ownsRow_kept h hb
theorem Own.mono {B' : Nat} (h : Own enc k e w B v l) (hB : B' ≤ B) : Own enc k e w B' v l := by
  refine ⟨h.1, ?_⟩
  rcases h.2 with h | ⟨g, cap, cur, h1, h2, h3⟩
  · exact Or.inl h
  · exact Or.inr ⟨g, cap, cur, h1, by omega, h3⟩
theorem Own.nil (w : World) (B : Nat) : Own enc k e w B (.slice none 0 0) [] := ⟨by simp [encs], Or.inl ⟨rfl, rfl⟩⟩
theorem Own.lit {W : World} (hB : B ≤ W.heap.size) : Own enc k e (W.alloc (.cells #[] e)) B (.slice (some ⟨W.heap.size, 0, none⟩) 0 0) [] := World.ownsRow_lit W #[] 0 hB (by unfold maxLen; omega) (by simp)
theorem Own.lt (h : Own enc k e w B v l) : ∀ g, v.ownBlock = some g → B ≤ g ∧ g < w.heap.size := by
  intro g hg
  rcases h.2 with ⟨rfl, -⟩ | ⟨g', cap, cur, rfl, h2, h3, -⟩
  · cases hg
  · injection hg with hg; subst hg; exact ⟨h2, (Array.getElem?_eq_some_iff.1 h3).1⟩
/-- What such a slice is to a reader. -/
theorem Own.lies (hE : Enc enc k) (h : Own enc k e w B v l) : ∃ ao c, v = .slice ao l.length c ∧ l.length ≤ c ∧ (ao = none → c = 0) ∧ LiesAt enc k w ao l := by
  rcases h.2 with ⟨rfl, h0⟩ | ⟨g, cap, cur, h1, h2, h3, h4, h5, h6, h7⟩
  · exact ⟨none, 0, by rw [h0], by omega, fun _ => rfl, Or.inl (List.eq_nil_of_length_eq_zero h0)⟩
  · refine ⟨_, cap, h1, h4, (fun e => by cases e), Or.inr ⟨g, 0, rfl, Lies.of_cells hE.len ?_⟩⟩
    intro j u hj
    rw [Nat.zero_add, cell_of_row w g _ cur e _ h3]
    rw [← h7, List.getElem?_take] at hj
    split at hj
    · simpa using hj
    · cases hj
theorem addr_add (b o j : Nat) : (⟨b, o, none⟩ : Addr).add j = ⟨b, o + j, none⟩ := by simp [Addr.add]
/-- A list is appended to a list of the call's own. -/
theorem wpList_app {ops : Array Oper} {rest : List Oper} {o : Oper} {a : Act} {Q : Exit → Act → World → Prop} {ao : Option Addr} {n c : Nat} (E : El P e t k bytes) (hE : Enc enc k) (hgd : o.guard = none) (s x : Operand)
    (ho : o.op = .call { callee := .builtin .append, args := #[s, x], argTypes := #[t, t] }) (hs : a.eval s = v) (hx : a.eval x = .slice ao n c)
    (hO : Own enc k e w B v l) (hS : LiesAt enc k w ao m) (hn : n = m.length) (hc : ao = none → c = 0) (hB : B ≤ w.heap.size) (hl : l.length + m.length ≤ 1000000000)
    (h : ∀ v' w1, Own enc k e w1 B v' (l ++ m) → Below B w w1 → wpList P ops Q rest (a.put o.dst v') w1) :
    wpList P ops Q (o :: rest) a w := by
  obtain ⟨i, z, hi, hz0, hz1, hz2, hz3⟩ := E.parts
  have hpos := E.pos
  have hfew := E.few
  subst hn
  cases ao with
  | none =>
    have hk : m = [] := by
      rcases hS with h | ⟨_, _, h, _⟩
      · exact h
      · cases h
    subst hk
    have h0 := hc rfl
    subst h0
    refine wpList_append_own_none hgd s x t ho B e i k E.und hi v _ _ hs hO hx ?_
    exact h v w (by rw [List.append_nil]; exact hO) (Below.refl _ _)
  | some ad =>
    have hcells : ∀ j v, (encs enc m)[j]? = some v → w.cell? (ad.add j) = some v := by
      intro j u hj
      rcases hS with rfl | ⟨b, off, he, hr⟩
      · simp [encs] at hj
      · injection he with he; subst he
        rw [addr_add]; exact hr.cells hE.len hpos j u hj
    have hbytes : (l.length + m.length) * bytes ≤ 140737488355328 := Nat.le_trans (Nat.mul_le_mul hl hfew) (by decide)
    refine wpList_append_own _ hgd s x t ho B e i z k bytes E.und hi hz0 hz1 hz2 hz3 hpos v _ _ hs hO ad m.length c (encs enc m) hx (encs_length hE.len m) hcells (encs_cell' hE.one m) (by unfold maxLen; omega) hbytes hB ?_
    intro v' w1 hown hgr _
    refine h v' w1 ?_ ((Below.refl _ _).grown hgr hB (fun g hg => (hO.lt g hg).1))
    unfold Own
    rw [encs_append, List.length_append]; exact hown
/-- One element that has just been laid. -/
theorem lies_one (x : α) (W : World) (hE : Enc enc k) : LiesAt enc k (W.alloc (.cells (enc x).toArray e)) (some ⟨W.heap.size, 0, none⟩) [x] :=
  Or.inr ⟨_, _, rfl, Lies.of_cells hE.len (fun j v hj => by
    rw [encs_one] at hj
    rw [Nat.zero_add]
    exact (Box.new W (enc x).toArray e).cell j v (by simpa using hj))⟩
theorem Lies.take {b off : Nat} (h : Lies enc k w b off l) (n : Nat) : Lies enc k w b off (l.take n) := by
  intro i x hx
  have hi : i < n := by
    have := (List.getElem?_eq_some_iff.1 hx).1
    simp at this; omega
  rw [List.getElem?_take_of_lt hi] at hx
  exact h i x hx
theorem Lies.drop {b off : Nat} (h : Lies enc k w b off l) (n : Nat) : Lies enc k w b (off + n * k) (l.drop n) := by
  intro i x hx j v hv
  rw [List.getElem?_drop] at hx
  have := h _ x hx j v hv
  rwa [show off + n * k + i * k = off + (n + i) * k by rw [Nat.add_mul]; omega]
theorem LiesAt.take {ao : Option Addr} (h : LiesAt enc k w ao l) (i : Nat) : LiesAt enc k w ao (l.take i) := by
  rcases h with rfl | ⟨b, off, rfl, h⟩
  · exact Or.inl (by simp)
  · exact Or.inr ⟨b, off, rfl, h.take i⟩
theorem run_size {size : Nat} (hs : (P.info? e).map (·.size) = some size) (w : World) : (sizeOf e).run P w = .ok size w := by
  cases hq : P.info? e with
  | none => simp [hq] at hs
  | some i => simp [hq] at hs; simp [sizeOf, typeInfo, hq, hs]
/-- A cut from a place on. -/
theorem run_from (E : El P e t k bytes) (A : Option Addr) (n c lo : Nat) (h : lo ≤ n) :
    ∃ A', (∀ w, (Instr.slice t (.slice A n c) (some (.int .i64 (lo : Int))) none none).run P w = .ok (.slice A' (n - lo) (c - lo)) w) ∧ (A' = none → A = none) ∧ ∀ b off, A = some ⟨b, off, none⟩ → lo < c → A' = some ⟨b, off + lo * k, none⟩ := by
  have ht := E.und
  have he : P.elem t = e := by simp [Program.elem, ht]
  refine ⟨if c = lo then A else A.map (·.add (lo * k)), fun w => ?_, ?_, ?_⟩
  · rw [run_slice_l (P := P) w t A n c (by rw [he]; exact ht) .i64 lo (by omega) (by omega), he, run_size E.size]
    simp [sliced, Result.andThen]
  · split <;> simp
  · intro b off ha hc
    rw [if_neg (by omega), ha]
    simp [Addr.add]
/-- A cut up to a place. -/
theorem run_upto (E : El P e t k bytes) (A : Option Addr) (n c hi : Nat) (h : hi ≤ c) (w : World) :
    (Instr.slice t (.slice A n c) none (some (.int .i64 (hi : Int))) none).run P w = .ok (.slice A hi c) w := by
  have ht := E.und
  have he : P.elem t = e := by simp [Program.elem, ht]
  rw [run_slice_h (P := P) w t A n c (by rw [he]; exact ht) .i64 hi (by omega) (by omega), he, run_size E.size]
  cases A with
  | none => simp [sliced, Result.andThen]
  | some a => simp [sliced, Result.andThen, Addr.add]
/-- What lies behind such a cut. -/
theorem lies_from {A A' : Option Addr} {c i : Nat} (h : LiesAt enc k w A l) (hlc : l.length ≤ c) (hA : ∀ b off, A = some ⟨b, off, none⟩ → i < c → A' = some ⟨b, off + i * k, none⟩) : LiesAt enc k w A' (l.drop i) := by
  by_cases hd : i < l.length
  · obtain ⟨b', off', he, hr⟩ := h.some (by omega)
    exact Or.inr ⟨b', off' + i * k, hA b' off' he (by omega), hr.drop i⟩
  · exact Or.inl (List.drop_eq_nil_of_le (by omega))
end
theorem elD : El Try.prog 41 22 10 120 := ⟨Try.underlying22, by kernel_rfl, by decide, by decide⟩
theorem elR : El Try.prog 39 30 8 104 := ⟨Try.underlying30, by kernel_rfl, by decide, by decide⟩
theorem encD : Enc Dl.cells 10 := ⟨fun _ => rfl, Dl.cells_one⟩
theorem encR : Enc Rw.cells 8 := ⟨fun _ => rfl, Rw.cells_one⟩
end Go.Proofs.Ytfnpfkgmacaboaa

/-
  asofref20.less.
-/
namespace Go.Proofs.Ytfnpfkgmacaboaa
open Go.ChangeShapes Go.WideShapes Go.ChangeAt Go.RowKit
set_option linter.unusedVariables false
set_option linter.unusedSimpArgs false

theorem below_box2 {w : World} (c1 c2 : Array Value) (t1 t2 : TypeId) : Below w.heap.size w ((w.alloc (.cells c1 t1)).alloc (.cells c2 t2)) := below_two _ _
set_option maxHeartbeats 1000000 in
theorem rless_any (x y : Dl) (w : World) (hx : x.r.Ok w) (hy : y.r.Ok w) : Calls Try.prog 53 #[x.val, y.val] w fun e w' => e = .returned (.bool (decide (cmpD x.key y.key < 0))) ∧ Below w.heap.size w w' := by
  have HC := Lib.hid (fun w' (hb : Below w.heap.size w w') => rfull_any x.r y.r w' (hx.kept hb) (hy.kept hb))
  have E : Hid (cmpD x.key y.key = orI (cmpI x.tick y.tick) (cmpR x.r.key y.r.key)) := rfl
  generalize cmpR x.r.key y.r.key = c at *
  generalize cmpD x.key y.key = d at *
  clear hx hy
  dsimp only [Dl.val]
  rcases Int.lt_trichotomy x.tick y.tick with h | h | h
  · have F : Hid (decide (d < 0) = true) := decide_eq_true (by rw [E.out, cmpI_lt h, orI_of (by decide)]; decide)
    go_enter Try.func53, Try.ntmps53
    go_wp2_with fail
    go_ret
    exact ⟨by rw [F.out]; rfl, below_two _ _⟩
  · have F : Hid (decide (d < 0) = decide (c < 0)) := by show _ = _; rw [E.out, h, cmpI_eq]; rfl
    have h1 : ¬ x.tick < y.tick := by omega
    have HB2 := Lib.hid (fun c1 c2 t1 t2 => @below_box2 w c1 c2 t1 t2)
    go_enter Try.func53, Try.ntmps53
    go_wp2_with (go_at_call 24; (with_reducible refine (HC.out _ (HB2.out _ _ _ _)).mono ?_); rintro e w1 ⟨rfl, hb⟩; have HB := Lib.hid hb; clear hb)
    go_ret
    exact ⟨by rw [F.out]; rfl, (below_two _ _).trans (HB.out.mono (by simp; omega))⟩
  · have F : Hid (decide (d < 0) = false) := decide_eq_false (by rw [E.out, cmpI_gt h, orI_of (by decide)]; decide)
    have h1 : ¬ x.tick < y.tick := by omega
    have h2 : (x.tick == y.tick) = false := by simp; omega
    go_enter Try.func53, Try.ntmps53
    go_wp2_with fail
    go_ret
    exact ⟨by rw [F.out]; rfl, below_two _ _⟩
end Go.Proofs.Ytfnpfkgmacaboaa
