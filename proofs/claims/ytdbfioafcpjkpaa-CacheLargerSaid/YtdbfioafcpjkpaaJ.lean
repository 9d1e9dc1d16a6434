/-
  Use of the cache.
-/
import Derived.Test.YtdbfioafcpjkpaaI
namespace Go.Proofs.Ytdbfioafcpjkpaa
open Go.ChangeShapes Go.WideShapes Go.ChangeAt Go.RowKit

/-- Keys that lie in memory. -/
def KeyRow (w : World) (b off : Nat) (ks : List (List UInt8)) : Prop := ∀ i k, ks[i]? = some k → ∃ s : ByteArray, s.toList = k ∧ w.cell? ⟨b, off + i, none⟩ = some (.string s)
def KeysAt (w : World) (ao : Option Addr) (ks : List (List UInt8)) : Prop := ks = [] ∨ ∃ b off, ao = some ⟨b, off, none⟩ ∧ KeyRow w b off ks
theorem KeyRow.kept {w w' : World} {b off : Nat} {ks : List (List UInt8)} (h : KeyRow w b off ks) (hb : Below w.heap.size w w') : KeyRow w' b off ks := by
  intro i k hk
  obtain ⟨s, e, h1⟩ := h i k hk
  exact ⟨s, e, by rw [(bsome hb).1 _ (by rw [h1]; rfl), h1]⟩
theorem KeysAt.kept {w w' : World} {ao : Option Addr} {ks : List (List UInt8)} (h : KeysAt w ao ks) (hb : Below w.heap.size w w') : KeysAt w' ao ks := by
  rcases h with h | ⟨b, off, e, h⟩
  · exact Or.inl h
  · exact Or.inr ⟨b, off, e, h.kept hb⟩
theorem KeysAt.some {w : World} {ao : Option Addr} {ks : List (List UInt8)} (h : KeysAt w ao ks) (hl : 0 < ks.length) : ∃ b off, ao = some ⟨b, off, none⟩ ∧ KeyRow w b off ks := by
  rcases h with rfl | h
  · simp at hl
  · exact h
/-- Keys in a slice of the call's own. -/
def OwnKeys (w : World) (B : Nat) (v : Value) (ks : List (List UInt8)) : Prop := ∃ ss : List ByteArray, ss.map (·.toList) = ks ∧ w.ownsRow B 9 1 v ks.length (ss.map .string)
theorem OwnKeys.keys {w : World} {B : Nat} {v : Value} {ks : List (List UInt8)} (h : OwnKeys w B v ks) : ∃ ao cap, v = .slice ao ks.length cap ∧ ks.length ≤ cap ∧ KeysAt w ao ks := by
  obtain ⟨ss, hs, ho⟩ := h
  have hl : ss.length = ks.length := by rw [← hs]; simp
  rcases ho.2 with ⟨rfl, hn⟩ | ⟨g, cap, cur, rfl, hb, hg, hc, _, hss, ht⟩
  · exact ⟨none, 0, by rw [hn], by omega, Or.inl (List.eq_nil_of_length_eq_zero hn)⟩
  · refine ⟨_, cap, rfl, hc, Or.inr ⟨g, 0, rfl, ?_⟩⟩
    intro i k hk
    rw [← hs, List.getElem?_map] at hk
    obtain ⟨s, hs1, hs2⟩ := Option.map_eq_some_iff.1 hk
    have := ho.cells (g := g) rfl i (.string s) (by rw [List.getElem?_map, hs1]; rfl)
    exact ⟨s, hs2, by simpa [addr_add] using this⟩
theorem ownsRow_kept {w w' : World} {B : Nat} {e : TypeId} {size : Nat} {v : Value} {n : Nat} {xs : List Value} (h : w.ownsRow B e size v n xs) (hb : Below w.heap.size w w') : w'.ownsRow B e size v n xs := by
  refine ⟨h.1, ?_⟩
  rcases h.2 with h | ⟨g, cap, cur, h1, h2, h3, h4⟩
  · exact Or.inl h
  · exact Or.inr ⟨g, cap, cur, h1, h2, (hb.block g (Array.getElem?_eq_some_iff.1 h3).1).trans h3, h4⟩
theorem OwnKeys.kept {w w' : World} {B : Nat} {v : Value} {ks : List (List UInt8)} (h : OwnKeys w B v ks) (hb : Below w.heap.size w w') : OwnKeys w' B v ks := by
  obtain ⟨ss, hs, ho⟩ := h
  exact ⟨ss, hs, ownsRow_kept ho hb⟩
theorem OwnKeys.far {w : World} {B g o : Nat} {v x : Value} {ks : List (List UInt8)} (h : OwnKeys w B v ks) (hg : v.ownBlock ≠ some g) : OwnKeys (w.setCell ⟨g, o, none⟩ x) B v ks := by
  obtain ⟨ss, hs, ho⟩ := h
  refine ⟨ss, hs, ho.1, ?_⟩
  rcases ho.2 with h | ⟨g', cap, cur, h1, h2, h3, h4⟩
  · exact Or.inl h
  · refine Or.inr ⟨g', cap, cur, h1, h2, (Below.heap_setCell w _ x g' ?_).trans h3, h4⟩
    intro e
    apply hg
    rw [h1]
    exact congrArg Option.some e
/-- How many slots, from the first on, are evicted so that the others take at most this much. -/
def cnt (m : Int) : List Sl → Nat
  | [] => 0
  | x :: l => if m < wsum (x :: l) then cnt m l + 1 else 0
theorem cnt_le (m : Int) : ∀ l, cnt m l ≤ l.length
  | [] => Nat.le_refl _
  | x :: l => by
    have := cnt_le m l
    unfold cnt; split
    · simp; omega
    · simp
theorem cnt_drop (m : Int) (l : List Sl) (i : Nat) (hm : 0 ≤ m) (h : m < wsum (l.drop i)) : i < l.length ∧ cnt m (l.drop i) = cnt m (l.drop (i + 1)) + 1 := by
  by_cases hi : i < l.length
  · refine ⟨hi, ?_⟩
    have e := List.drop_eq_getElem_cons hi
    rw [e] at h ⊢
    rw [cnt, if_pos h]
  · rw [List.drop_of_length_le (by omega)] at h
    simp [wsum] at h; omega
theorem cnt_stop (m : Int) (l : List Sl) (h : ¬ m < wsum l) : cnt m l = 0 := by
  cases l with
  | nil => rfl
  | cons x l => rw [cnt, if_neg h]
/-- Which caches are valid. -/
def Valid (L : Int) (l : List Sl) : Prop := 0 ≤ L ∧ L ≤ 1152921504606846976 ∧ (∀ x, x ∈ l → 0 ≤ x.2) ∧ wsum l ≤ L ∧ Distinct l
theorem wsum_sub {l k : List Sl} (h : l.Sublist k) (hw : ∀ x, x ∈ k → 0 ≤ x.2) : wsum l ≤ wsum k := by
  induction h with
  | slnil => simp
  | cons a h ih =>
    have := hw a (by simp)
    have := ih (fun x hx => hw x (by simp [hx]))
    simp only [wsum]; omega
  | cons_cons a h ih =>
    have := ih (fun x hx => hw x (by simp [hx]))
    simp only [wsum]; omega
theorem Valid.sub {L : Int} {l k : List Sl} (h : Valid L k) (hs : l.Sublist k) : Valid L l :=
  ⟨h.1, h.2.1, fun x hx => h.2.2.1 x (hs.subset hx), Int.le_trans (wsum_sub hs h.2.2.1) h.2.2.2.1, h.2.2.2.2.sublist (hs.map _)⟩
theorem fil_sub (key : List UInt8) (l : List Sl) : (fil key l).Sublist l := List.filter_sublist
theorem fil_len (key : List UInt8) (l : List Sl) : (fil key l).length ≤ l.length := (fil_sub key l).length_le
/-- The slots behind a use. -/
def used (L : Int) (key : List UInt8) (n : Int) (l : List Sl) : List Sl := (fil key l).drop (cnt (L - n) (fil key l)) ++ [(key, n)]
/-- The keys that a use evicts. -/
def gone (L : Int) (key : List UInt8) (n : Int) (l : List Sl) : List (List UInt8) := ((fil key l).take (cnt (L - n) (fil key l))).map Prod.fst
/-- What Use hands back. -/
def UseIs (w : World) (L : Int) (l : List Sl) (ks : List (List UInt8)) (r : Int) (e : Ending) (w' : World) : Prop :=
  ∃ ao cap ko kc, e = .returned (.tuple #[.agg #[.int .i64 L, .slice ao l.length cap], .slice ko ks.length kc, .int .i64 r]) ∧ l.length ≤ cap ∧ ks.length ≤ kc ∧ SlotsAt w' ao l ∧ KeysAt w' ko ks ∧ Below w.heap.size w w'
theorem info9z : (Try.prog.info? 9).map (fun i => (i.zero, i.size, i.bytes)) = some (some (.string ByteArray.empty), 1, 16) := by kernel_rfl

set_option maxHeartbeats 1000000 in
set_option maxRecDepth 100000 in
theorem use_neg (L n : Int) (hn : n < 0) (key : ByteArray) (v : Value) (w : World) :
    Calls Try.prog 11 #[.agg #[.int .i64 L, v], .string key, .int .i64 n] w (UseIs w 0 [] [] 1) := by
  go_enter Try.func11, Try.ntmps11
  go_wp2_with fail
  refine bodyPost_ret (v := .tuple #[.agg #[.int .i64 0, .slice none 0 0], .slice none 0 0, .int .i64 1]) (by simp [results, Try.results11, go_sem]) rfl ?_
  exact ⟨none, 0, none, 0, rfl, Nat.le_refl _, Nat.le_refl _, Or.inl rfl, Or.inl rfl, (below_here _).alloc (by simp) _⟩
end Go.Proofs.Ytdbfioafcpjkpaa
