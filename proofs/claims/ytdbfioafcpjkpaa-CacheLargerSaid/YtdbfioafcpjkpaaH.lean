/-
  Has, Drop and Clone of the cache; the lists behind them.
-/
import Derived.Test.YtdbfioafcpjkpaaG
import Derived.Deep.RegionHeld3
namespace Go.Proofs.Ytdbfioafcpjkpaa
open Go.ChangeShapes Go.WideShapes Go.ChangeAt Go.RowKit

/-- The slots without those of a key. -/
def fil (key : List UInt8) (l : List Sl) : List Sl := l.filter (fun x => !(x.1 == key))
def Distinct (l : List Sl) : Prop := (l.map Prod.fst).Nodup
theorem pos_shift (key : List UInt8) : ∀ (l : List Sl) (i : Nat), (pos key l i = -1 ∧ ∀ x, x ∈ l → (x.1 == key) = false) ∨ ∃ k x, pos key l i = ((i + k : Nat) : Int) ∧ l[k]? = some x ∧ (x.1 == key) = true ∧ ∀ j y, j < k → l[j]? = some y → (y.1 == key) = false
  | [], _ => Or.inl ⟨rfl, by simp⟩
  | a :: l, i => by
    rcases ha : (a.1 == key) with _ | _
    · rcases pos_shift key l (i + 1) with ⟨h1, h2⟩ | ⟨k, x, h1, h2, h3, h4⟩
      · refine Or.inl ⟨by simp [pos, ha, h1], ?_⟩
        intro x hx
        rcases List.mem_cons.1 hx with rfl | hx
        · exact ha
        · exact h2 x hx
      · refine Or.inr ⟨k + 1, x, by simp [pos, ha, h1]; omega, by simpa using h2, h3, ?_⟩
        intro j y hj hy
        cases j with
        | zero => simp at hy; subst hy; exact ha
        | succ j => exact h4 j y (by omega) (by simpa using hy)
    · exact Or.inr ⟨0, a, by simp [pos, ha], by simp, ha, by intro j y hj; omega⟩
theorem fil_none {key : List UInt8} {l : List Sl} (h : ∀ x, x ∈ l → (x.1 == key) = false) : fil key l = l := by
  unfold fil
  rw [List.filter_eq_self]
  intro x hx
  rw [h x hx]; rfl
theorem fil_one {key : List UInt8} {l : List Sl} (hd : Distinct l) {k : Nat} {x : Sl} (hx : l[k]? = some x) (hk : (x.1 == key) = true) (hb : ∀ j y, j < k → l[j]? = some y → (y.1 == key) = false) :
    l.take k ++ l.drop (k + 1) = fil key l := by
  have e : l = l.take k ++ x :: l.drop (k + 1) := by rw [← drop_at hx, List.take_append_drop]
  have h1 : fil key (l.take k) = l.take k := fil_none (fun y hy => by
    obtain ⟨j, hj, hjy⟩ := List.mem_iff_getElem.1 hy
    simp at hj
    exact hb j y (by omega) (by rw [← hjy]; simp))
  have h2 : fil key (l.drop (k + 1)) = l.drop (k + 1) := fil_none (fun y hy => by
    have hn := hd
    unfold Distinct at hn
    rw [e, List.map_append, List.nodup_append] at hn
    have := (List.nodup_cons.1 (by rw [List.map_cons] at hn; exact hn.2.1)).1
    rcases hq : (y.1 == key) with _ | _
    · rfl
    · exfalso
      apply this
      rw [eq_of_beq hk, ← eq_of_beq hq]
      exact List.mem_map_of_mem hy)
  have h3 : fil key l = fil key (l.take k) ++ fil key (x :: l.drop (k + 1)) := by
    conv => lhs; rw [e]
    unfold fil; rw [List.filter_append]
  have h4 : fil key (x :: l.drop (k + 1)) = fil key (l.drop (k + 1)) := by
    unfold fil; rw [List.filter_cons, hk]; rfl
  rw [h3, h4, h1, h2]
theorem pos_neg {key : List UInt8} {l : List Sl} : pos key l 0 < 0 ↔ ∀ x, x ∈ l → (x.1 == key) = false := by
  rcases pos_shift key l 0 with ⟨h1, h2⟩ | ⟨k, x, h1, h2, h3, h4⟩
  · exact ⟨fun _ => h2, fun _ => by omega⟩
  · refine ⟨fun h => by omega, fun h => ?_⟩
    have := h x (List.mem_of_getElem? h2)
    rw [h3] at this; cases this
theorem cells_lt {w : World} {p : Addr} {v : Value} (h : w.cell? p = some v) : p.block < w.heap.size := by
  rcases Nat.lt_or_ge p.block w.heap.size with hp | hp
  · exact hp
  · have : w.heap[p.block]? = none := Array.getElem?_eq_none hp
    simp [World.cell?, this] at h

theorem wp_gen {P : Program} {c : Code} {Q : Exit → Act → World → Prop} {a : Act} {w : World} (h : ∀ W, W = w → Code.wp P c Q a W) : Code.wp P c Q a w := h w rfl
theorem keepB {B : Nat} {w0 w w1 : World} (hB : B ≤ w0.heap.size) (h : Below B w0 w) (hb : Below w.heap.size w w1) : Below B w0 w1 := h.trans (hb.mono (Nat.le_trans hB h.size))
theorem below_undrew {B : Nat} {w w' : World} (h : Below B w.drew w') : Below B w w' := ⟨h.os, h.tape, h.output, h.size, h.block⟩

set_option maxHeartbeats 1000000 in
set_option maxRecDepth 100000 in
theorem has_any (L : Int) (l : List Sl) (key : ByteArray) (ao : Option Addr) (cap : Nat) (hl : l.length ≤ 4611686018427387904) (w : World) (h : SlotsAt w ao l) :
    Calls Try.prog 15 #[.agg #[.int .i64 L, .slice ao l.length cap], .string key] w fun e w' => e = .returned (.bool (decide (0 ≤ pos key.toList l 0))) ∧ Below w.heap.size w w' := by
  have H := Lib.hid h
  clear h
  go_enter Try.func15, Try.ntmps15
  go_wp2_with fail
  refine wp_gen (fun W hW => ?_)
  have HW : Below w.heap.size w W := by rw [hW]; exact (Below.refl _ _).alloc (Nat.le_refl _) _
  have k1 : W.cell? ⟨w.heap.size, 1, none⟩ = some (.slice ao l.length cap) := by rw [hW]; simp [go_sem]
  have HS : Hid (∀ w', Below W.heap.size W w' → Below W.heap.size W w' ∧ w'.cell? ⟨w.heap.size, 1, none⟩ = some (.slice ao l.length cap)) := fun w' h => ⟨h, (h.cell (cells_lt k1)).trans k1⟩
  have HI : Hid (∀ w' c, Below W.heap.size W w' → w'.cell? ⟨c, 0, none⟩ = some (.string key) → Calls Try.prog 28 #[.slice ao l.length cap, .func (.func 32) #[] #[.pointer (some ⟨c, 0, none⟩)]] w' fun e w2 => e = .returned (.int .i64 (pos key.toList l 0)) ∧ Below w'.heap.size w' w2) :=
    fun w' c hb hc => index_any l key c ao cap hl w' (H.out.kept (HW.trans (hb.mono HW.size))) hc
  clear hW
  go_region_held3 (fun w' => Below W.heap.size W w' ∧ w'.cell? ⟨w.heap.size, 1, none⟩ = some (.slice ao l.length cap))
    (first | exact HS.out _ ((Below.refl _ _).drew) | exact HS.out _ (keepB (Nat.le_refl _) (And.left (by assumption)) hb))
    (first | (go_at_call 29; refine (of_any _ _).mono ?_; rintro e w' ⟨c, rfl, hc, hcell, hb⟩) | (go_at_call 28; refine (HI.out _ _ (And.left (by assumption)) hcell).mono ?_; rintro e w' ⟨rfl, hb⟩))
  all_goals
    have HL : Below W.heap.size W w' := And.left (by assumption)
    go_wp2_with fail
    refine bodyPost_ret (v := .bool (decide (0 ≤ pos key.toList l 0))) (by simp [results, Try.results15, go_sem]) rfl ⟨rfl, HW.trans (HL.mono HW.size)⟩

set_option maxHeartbeats 1000000 in
set_option maxRecDepth 100000 in
theorem refHas_any (L : Int) (l : List Sl) (key : ByteArray) (ao : Option Addr) (cap : Nat) (hl : l.length ≤ 4611686018427387904) (w : World) (h : SlotsAt w ao l) :
    Calls Try.prog 24 #[.agg #[.int .i64 L, .slice ao l.length cap], .string key] w fun e w' => e = .returned (.bool (decide (0 ≤ pos key.toList l 0))) ∧ Below w.heap.size w w' := by
  have HI : Hid (∀ w', Below w.heap.size w w' → Calls Try.prog 26 #[.slice ao l.length cap, .string key] w' fun e w2 => e = .returned (.int .i64 (pos key.toList l 0)) ∧ Below w'.heap.size w' w2) :=
    fun w' hb => find_any l key ao cap hl w' (h.kept hb)
  clear h
  go_enter Try.func24, Try.ntmps24
  go_wp2_with fail
  refine (HI.out _ ((Below.refl _ _).alloc (Nat.le_refl _) _)).mono ?_
  rintro e w1 ⟨rfl, hb⟩
  go_wp2_with fail
  refine bodyPost_ret (v := .bool (decide (0 ≤ pos key.toList l 0))) (by simp [results, Try.results24, go_sem]) rfl ⟨rfl, ((Below.refl _ _).alloc (Nat.le_refl _) _).trans (hb.mono (by simp))⟩

/-- What Drop and its kin hand back: the cache with these slots. -/
def CacheIs (w : World) (L : Int) (l : List Sl) (e : Ending) (w' : World) : Prop :=
  ∃ ao cap, e = .returned (.agg #[.int .i64 L, .slice ao l.length cap]) ∧ l.length ≤ cap ∧ SlotsAt w' ao l ∧ Below w.heap.size w w'

/-- A block of two cells of the call's own. -/
def Two (w : World) (g : Nat) (x y : Value) : Prop := w.heap[g]? = some (.cells #[x, y] 24 (0, 0))
theorem Two.lt {w : World} {g : Nat} {x y : Value} (h : Two w g x y) : g < w.heap.size := (Array.getElem?_eq_some_iff.1 h).1
theorem Two.all {w : World} {g : Nat} {x y : Value} (h : Two w g x y) : w.cell? ⟨g, 0, none⟩ = some x ∧ w.cell? ⟨g, 1, none⟩ = some y ∧ w.frozen? ⟨g, 0, none⟩ = false ∧ w.frozen? ⟨g, 1, none⟩ = false := by
  refine ⟨?_, ?_, ?_, ?_⟩
  · rw [cell_of_row w g 0 _ _ _ h]; rfl
  · rw [cell_of_row w g 1 _ _ _ h]; rfl
  · unfold Two at h; simp [World.frozen?, h]
  · unfold Two at h; simp [World.frozen?, h]
theorem Two.new (w : World) (x y : Value) : Two (w.alloc (.cells #[x, y] 24)) w.heap.size x y := heap_alloc_new w _
theorem Two.kept {w w' : World} {g : Nat} {x y : Value} (h : Two w g x y) (hb : Below w.heap.size w w') : Two w' g x y := (hb.block g h.lt).trans h
theorem Two.put {w : World} {g : Nat} {x y : Value} (h : Two w g x y) (x' y' : Value) : Two ((w.setCell ⟨g, 0, none⟩ x').setCell ⟨g, 1, none⟩ y') g x' y' := by
  unfold Two at h ⊢
  simp [World.setCell, Array.getElem?_modify, h]
theorem Two.put1 {w : World} {g : Nat} {x y : Value} (h : Two w g x y) (y' : Value) : Two (w.setCell ⟨g, 1, none⟩ y') g x y' := by
  unfold Two at h ⊢
  simp [World.setCell, Array.getElem?_modify, h]
theorem Two.far {w : World} {g g' o : Nat} {x y v : Value} (h : Two w g x y) (hne : g ≠ g') : Two (w.setCell ⟨g', o, none⟩ v) g x y := (Below.heap_setCell w _ v g hne).trans h
theorem RowAt.far {w : World} {b off : Nat} {l : List Sl} (h : RowAt w b off l) {p : Addr} (hne : p.block ≠ b) (v : Value) : RowAt (w.setCell p v) b off l := by
  intro i x hx
  obtain ⟨s, e, h1, h2⟩ := h i x hx
  exact ⟨s, e, by rw [World.cell?_setCell_other _ p _ _ (fun q => hne (by rw [q]))]; exact h1, by rw [World.cell?_setCell_other _ p _ _ (fun q => hne (by rw [q]))]; exact h2⟩
theorem below_here {w : World} (o : Obj) : Below w.heap.size w (w.alloc o) := (Below.refl _ _).alloc (Nat.le_refl _) _

set_option maxHeartbeats 1000000 in
set_option maxRecDepth 100000 in
theorem drop_any (L : Int) (l : List Sl) (hd : Distinct l) (key : ByteArray) (ao : Option Addr) (cap : Nat) (hc : l.length ≤ cap) (hl : l.length * 24 ≤ 140737488355328) (w : World) (h : SlotsAt w ao l) :
    Calls Try.prog 13 #[.agg #[.int .i64 L, .slice ao l.length cap], .string key] w (CacheIs w L (fil key.toList l)) := by
  have H := Lib.hid h
  have HC := Lib.hid hc
  have HL := Lib.hid hl
  clear h hc
  have hl2 : l.length ≤ 4611686018427387904 := by omega
  have HP := Lib.hid (pos_shift key.toList l 0)
  have HD := Lib.hid hd
  clear hd hl
  go_enter Try.func13, Try.ntmps13
  go_wp2_with fail
  refine (of_any _ _).mono ?_
  rintro e w1 ⟨c, rfl, hcc, hcell, hb⟩
  have HB1 : Below w.heap.size w w1 := (((Below.refl _ _).alloc (Nat.le_refl _) _).alloc (by simp) _).trans (hb.mono (by simp; omega))
  have T1 : Hid (Two w1 w.heap.size (.int .i64 L) (.slice ao l.length cap)) := ((Two.new w _ _).kept (below_here _)).kept hb
  have r1 : Two w1 (w.heap.size + 1) (.int .i64 0) (.slice none 0 0) := by have := (Two.new (w.alloc (.cells #[.int .i64 L, .slice ao l.length cap] 24)) (.int .i64 0) (.slice none 0 0)).kept hb; simpa using this
  have R1 := Lib.hid r1
  clear r1
  clear hb hcc
  go_wp2_with fail
  refine (index_any l _ _ _ _ hl2 _ (H.out.kept HB1) hcell).mono ?_
  rintro e w2 ⟨rfl, hb⟩
  have HB2 := keepB (Nat.le_refl _) HB1 hb
  have T2 : Hid (Two w2 w.heap.size (.int .i64 L) (.slice ao l.length cap)) := T1.out.kept hb
  have R2 : Hid (Two w2 (w.heap.size + 1) (.int .i64 0) (.slice none 0 0)) := R1.out.kept hb
  clear hb HB1 T1 R1 hcell
  rcases HP.out with ⟨h1, h2⟩ | ⟨k, x, h1, h2, h3, h4⟩
  · rw [h1]
    have HF : Hid (fil key.toList l = l) := fil_none h2
    clear h1 h2
    obtain ⟨t0, t1, -, -⟩ := T2.out.all
    obtain ⟨r0, r1, f0, f1⟩ := R2.out.all
    go_wp2_with fail
    have E := (R2.out.put (.int .i64 L) (.slice ao l.length cap)).all
    refine bodyPost_ret (v := .agg #[.int .i64 L, .slice ao l.length cap]) (by simp [results, Try.results13, go_sem, E.1, E.2.1]) rfl ?_
    unfold CacheIs
    rw [HF.out]
    exact ⟨ao, cap, rfl, HC.out, H.out.kept ((HB2.setCell (by simp) _).setCell (by simp) _), (HB2.setCell (by simp) _).setCell (by simp) _⟩
  · have hk : k < l.length := (List.getElem?_eq_some_iff.1 h2).1
    have HF : Hid (l.take k ++ l.drop (k + 1) = fil key.toList l) := fil_one HD.out h2 h3 h4
    rw [h1, Nat.zero_add]
    clear h1 h2 h3 h4
    go_wp2_with fail
    refine (without_any l k hk ao cap HC.out HL.out w2 (H.out.kept HB2)).mono ?_
    rintro e w3 ⟨g, rfl, hg, hrow, hb⟩
    have HB3 := keepB (Nat.le_refl _) HB2 hb
    have hrow2 := hrow
    rw [HF.out] at hrow2
    have HR := Lib.hid hrow2
    have T3 : Hid (Two w3 w.heap.size (.int .i64 L) (.slice ao l.length cap)) := T2.out.kept hb
    have R3 : Hid (Two w3 (w.heap.size + 1) (.int .i64 0) (.slice none 0 0)) := R2.out.kept hb
    have hlen : l.length - 1 = (fil key.toList l).length := by rw [← HF.out]; simp; omega
    have HLen := Lib.hid hlen
    have hg2 : w.heap.size + 1 < g := Nat.lt_of_lt_of_le R2.out.lt hg
    clear hb hrow hrow2 hlen HB2 T2 R2
    obtain ⟨t0, t1, -, -⟩ := T3.out.all
    obtain ⟨r0, r1, f0, f1⟩ := R3.out.all
    go_wp2_with fail
    have E := (R3.out.put (.int .i64 L) (.slice (some ⟨g, 0, none⟩) (l.length - 1) (l.length - 1))).all
    refine bodyPost_ret (v := .agg #[.int .i64 L, .slice (some ⟨g, 0, none⟩) (l.length - 1) (l.length - 1)]) (by simp [results, Try.results13, go_sem, E.1, E.2.1]) rfl ?_
    unfold CacheIs
    rw [HLen.out]
    exact ⟨_, _, rfl, Nat.le_refl _, Or.inr ⟨g, 0, rfl, (HR.out.far (Nat.ne_of_lt hg2) _).far (Nat.ne_of_lt hg2) _⟩, (HB3.setCell (by simp) _).setCell (by simp) _⟩
end Go.Proofs.Ytdbfioafcpjkpaa
