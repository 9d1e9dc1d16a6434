/-
  The example with which each statement begins.
-/
import Derived.Test.YtolkmfpbgheaaaaS6
import Derived.Test.YtolkmfpbgheaaaaB
namespace Go.Proofs.Ytolkmfpbgheaaaa
open Go.ChangeShapes Go.WideShapes Go.ChangeAt Go.RowKit
set_option linter.unusedVariables false
set_option linter.unusedSimpArgs false

/-- What Meet returns. -/
def meetF (a b : Iv) : Iv × Bool := if okI a.1 a.2 && okI b.1 b.2 && !decide (min a.2 b.2 < max a.1 b.1) then ((max a.1 b.1, min a.2 b.2), true) else ((0, 0), false)
/-- An interval and a bool. -/
def ivbV (r : Iv × Bool) : Value := .tuple #[iv r.1.1 r.1.2, .bool r.2]
def IvbIs (w : World) (r : Iv × Bool) (e : Ending) (w' : World) : Prop := e = .returned (ivbV r) ∧ Below w.heap.size w w'
theorem meet_any (a b : Iv) (w : World) : Calls Try.prog 10 #[iv a.1 a.2, iv b.1 b.2] w (IvbIs w (meetF a b)) := by
  obtain ⟨a1, a2⟩ := a
  obtain ⟨b1, b2⟩ := b
  unfold meetF
  cases h : okI a1 a2
  · exact meet_a a1 a2 b1 b2 h w
  · cases k : okI b1 b2
    · exact meet_b a1 a2 b1 b2 h k w
    · have h' := okI_yes h
      have k' := okI_yes k
      by_cases g : a2 < b1
      · rw [decide_eq_true (by show min a2 b2 < max a1 b1; omega)]; exact meet_c a1 a2 b1 b2 h k g w
      · by_cases g2 : b2 < a1
        · rw [decide_eq_true (by show min a2 b2 < max a1 b1; omega)]; exact meet_d a1 a2 b1 b2 h k g g2 w
        · rw [decide_eq_false (by show ¬ min a2 b2 < max a1 b1; omega)]; exact meet_e a1 a2 b1 b2 h k g g2 w
theorem rmeet_any (a b : Iv) (w : World) : Calls Try.prog 11 #[iv a.1 a.2, iv b.1 b.2] w (IvbIs w (meetF a b)) := by
  obtain ⟨a1, a2⟩ := a
  obtain ⟨b1, b2⟩ := b
  unfold meetF
  cases h : okI a1 a2
  · exact rmeet_a a1 a2 b1 b2 h w
  · cases k : okI b1 b2
    · exact rmeet_b a1 a2 b1 b2 h k w
    · by_cases g : min a2 b2 < max a1 b1
      · rw [decide_eq_true g]; exact rmeet_c a1 a2 b1 b2 h k g w
      · rw [decide_eq_false g]; exact rmeet_e a1 a2 b1 b2 h k g w
/-- What Bounds returns. -/
def boundsF (k s t : Int) : Iv × Bool :=
  if okW k s && okT t then (if k = 1 then ((0, t), true) else if k = 2 then ((max 0 (t - s + 1), t), true) else if k = 3 then ((t - t % s, t), true) else ((0, 0), false)) else ((0, 0), false)
theorem bounds_any (k s t : Int) (w : World) : Calls Try.prog 19 #[iv k s, .int .i64 t] w (IvbIs w (boundsF k s t)) := by
  unfold boundsF
  cases h : okW k s
  · exact bounds_bad k s t h w
  · cases h2 : okT t
    · exact bounds_not k s t h h2 w
    · have h3 := okT_yes h2
      rcases okW_yes h with ⟨rfl, rfl⟩ | ⟨k1, k2, s1, s2⟩
      · exact bounds_all 0 t h h2 w
      · rcases (by omega : k = 2 ∨ k = 3 ∨ k = 4) with rfl | rfl | rfl
        · exact bounds_sli s t h h2 w
        · have := bounds_tum s t h h2 w
          rw [(tum s t s1 h3.1).2.2.2.2.2.2] at this
          exact this
        · exact bounds_ses s t h h2 w
theorem rbounds_any (k s t : Int) (w : World) : Calls Try.prog 20 #[iv k s, .int .i64 t] w (IvbIs w (boundsF k s t)) := by
  unfold boundsF
  cases h : okW k s
  · exact rbounds_bad k s t h w
  · rcases okW_yes h with ⟨rfl, rfl⟩ | ⟨k1, k2, s1, s2⟩
    · cases h2 : okT t
      · exact rbounds_not 1 0 t h h2 (by omega) w
      · exact rbounds_all 0 t h h2 w
    · rcases (by omega : k = 2 ∨ k = 3 ∨ k = 4) with rfl | rfl | rfl
      · cases h2 : okT t
        · exact rbounds_not 2 s t h h2 (by omega) w
        · exact rbounds_sli s t h h2 w
      · cases h2 : okT t
        · exact rbounds_not 3 s t h h2 (by omega) w
        · exact rbounds_tum s t h h2 w
      · have := rbounds_ses s t h w
        cases h2 : okT t <;> exact this

def exL : List Iv := [(5, 7), (1, 2), (8, 9), (3, 1)]
def exU : List Iv := [(1, 2), (5, 9)]
def exE : List Int := [9, 1, 3, 20, 12]
def exS : List Iv := [(1, 3), (9, 12), (20, 20)]
def exB : List Iv := [(7, 9), (10, 19), (20, 21)]
theorem ex_uni : uni exL = exU := by
  refine isUnion_unique (uni_is exL) ⟨?_, ?_, ?_⟩
  · unfold Apart exU; simp
  · intro x hx; simp [exU] at hx; rcases hx with rfl | rfl <;> decide
  · intro t
    have hv : valids exL = [(5, 7), (1, 2), (8, 9)] := by decide
    rw [hv]
    simp [inL, inI, exU]; omega
theorem sorted_eq {l k : List Int} (h : l.Perm k) (hl : l.Pairwise (· ≤ ·)) (hk : k.Pairwise (· ≤ ·)) : l = k := by
  induction l generalizing k with
  | nil => exact h.nil_eq
  | cons a l ih =>
    cases k with
    | nil => have := h.length_eq; simp at this
    | cons b k =>
      rw [List.pairwise_cons] at hl hk
      have e : a = b := by
        have h1 : a ∈ b :: k := h.mem_iff.1 (by simp)
        have h2 : b ∈ a :: l := h.mem_iff.2 (by simp)
        rcases List.mem_cons.1 h1 with e | h1
        · exact e
        · rcases List.mem_cons.1 h2 with e | h2
          · exact e.symm
          · have := hl.1 b h2; have := hk.1 a h1; omega
      subst e
      rw [ih (List.perm_cons a |>.1 h) hl.2 hk.2]
theorem sortT_perm (s : List Int) : (sortT s).Perm (s.filter okT) := List.mergeSort_perm _ _
theorem sortT_sorted (s : List Int) : (sortT s).Pairwise (· ≤ ·) := by
  have := List.pairwise_mergeSort (le := fun x y : Int => decide (x ≤ y)) (fun a b c h1 h2 => by simp at *; omega) (fun a b => by simp; omega) (s.filter okT)
  exact this.imp (fun h => by simpa using h)
theorem sortT_is {s k : List Int} (h : (s.filter okT).Perm k) (hk : k.Pairwise (· ≤ ·)) : sortT s = k := sorted_eq ((sortT_perm s).trans h) (sortT_sorted s) hk
theorem ex_sorted : sortT exE = [1, 3, 9, 12, 20] := sortT_is (by decide) (by simp)
theorem ex_ses : sesL exE 3 = exS := by unfold sesL; rw [ex_sorted]; decide
theorem ex_past15 : sortT (past exE 15) = [1, 3, 9, 12] := sortT_is (by decide) (by simp)
theorem ex_past16 : sortT (past exE 16) = [1, 3, 9, 12] := sortT_is (by decide) (by simp)
theorem ex_at15 : seAt exE 3 15 = some (9, 12) := by unfold seAt; rw [ex_past15]; decide
theorem ex_at16 : seAt exE 3 16 = none := by unfold seAt; rw [ex_past16]; decide
theorem ex_bkt : bkt 7 21 10 = exB := by decide
theorem ex_meet1 (w : World) : Calls Try.prog 10 #[iv 3 9, iv 7 12] w fun e w' => e = .returned (.tuple #[iv 7 9, .bool true]) ∧ Below w.heap.size w w' := by
  have := meet_any (3, 9) (7, 12) w
  rwa [show meetF (3, 9) (7, 12) = ((7, 9), true) by decide] at this
theorem ex_meet2 (w : World) : Calls Try.prog 10 #[iv 3 5, iv 6 8] w fun e w' => e = .returned (.tuple #[iv 0 0, .bool false]) ∧ Below w.heap.size w w' := by
  have := meet_any (3, 5) (6, 8) w
  rwa [show meetF (3, 5) (6, 8) = ((0, 0), false) by decide] at this
theorem ex_bounds1 (w : World) : Calls Try.prog 19 #[iv 2 10, .int .i64 25] w fun e w' => e = .returned (.tuple #[iv 16 25, .bool true]) ∧ Below w.heap.size w w' := by
  have := bounds_any 2 10 25 w
  rwa [show boundsF 2 10 25 = ((16, 25), true) by decide] at this
theorem ex_bounds2 (w : World) : Calls Try.prog 19 #[iv 3 10, .int .i64 25] w fun e w' => e = .returned (.tuple #[iv 20 25, .bool true]) ∧ Below w.heap.size w w' := by
  have := bounds_any 3 10 25 w
  rwa [show boundsF 3 10 25 = ((20, 25), true) by decide] at this
theorem ex_union (a : Option Addr) (w : World) (h : SlotsAt w a exL) : Calls Try.prog 17 #[.slice a 4 4] w (IvsAre w exU) := by
  have := union_any exL a 4 (by decide) w h
  rw [ex_uni] at this
  exact this
theorem ex_sessions (a : Option Addr) (w : World) (h : IntsIn w a exE) : Calls Try.prog 25 #[.slice a 5 5, .int .i64 3] w (IvsAre w exS) := by
  have := sessions_all exE a 5 (by decide) 3 w h
  rw [ex_ses] at this
  exact this
theorem ex_sat15 (a : Option Addr) (w : World) (h : IntsIn w a exE) : Calls Try.prog 26 #[.slice a 5 5, .int .i64 3, .int .i64 15] w fun e w' => e = .returned (.tuple #[iv 9 12, .bool true]) ∧ Below w.heap.size w w' := by
  have := seAt_all exE a 5 (by decide) 3 15 w h
  rw [ex_at15] at this
  exact this
theorem ex_sat16 (a : Option Addr) (w : World) (h : IntsIn w a exE) : Calls Try.prog 26 #[.slice a 5 5, .int .i64 3, .int .i64 16] w fun e w' => e = .returned (.tuple #[iv 0 0, .bool false]) ∧ Below w.heap.size w w' := by
  have := seAt_all exE a 5 (by decide) 3 16 w h
  rw [ex_at16] at this
  exact this
theorem ex_buckets (w : World) : Calls Try.prog 21 #[iv 7 21, .int .i64 10] w (IvsAre w exB) := by
  have := buckets_any 7 21 10 w
  rw [ex_bkt] at this
  exact this
theorem ex_same (l : List Iv) (n : Nat) (hn : l.length = n) (hl : l.length ≤ 10) (a1 a2 : Option Addr) (c : Nat) (w : World) (h : SlotsAt w a1 l) (h2 : SlotsAt w a2 l) :
    Calls Try.prog 16 #[.slice a1 l.length c, .slice a2 n n] w fun e w' => e = .returned (.bool true) ∧ Below w.heap.size w w' := by
  have := same_any l l a1 a2 c n (by omega) w h h2
  rw [decide_eq_true rfl, hn] at this
  rw [hn]
  exact this
theorem new_slots (w : World) (l : List Iv) (cs : Array Value) (h : cs = (ivCells l).toArray) : SlotsAt (w.alloc (.cells cs 23)) (some ⟨w.heap.size, 0, none⟩) l := by
  refine Or.inr ⟨_, 0, rfl, RowAt.of_cells (fun j v hj => ?_)⟩
  rw [Nat.zero_add, cell_of_row _ _ _ _ _ _ (heap_alloc_new w _), h]
  simpa using hj
theorem new_ints (w : World) (s : List Int) (cs : Array Value) (h : cs = (s.map (Value.int .i64)).toArray) : IntsIn (w.alloc (.cells cs 3)) (some ⟨w.heap.size, 0, none⟩) s := by
  refine Or.inr ⟨_, 0, rfl, fun i x hx => ?_⟩
  rw [Nat.zero_add, cell_of_row _ _ _ _ _ _ (heap_alloc_new w _), h]
  simp [hx]

set_option maxHeartbeats 4000000 in
set_option maxRecDepth 100000 in
theorem example_any (w : World) : Calls Try.prog 13 #[] w fun e w' => e = .returned (.bool true) ∧ Below w.heap.size w w' := by
  have BB : Hid (Below w.heap.size w w) := Below.refl _ _
  go_enter Try.func13, Try.ntmps13
  go_wp2_with fail
  refine (ex_meet1 _).mono ?_
  rintro e w1 ⟨rfl, hb⟩
  have hsz := BB.out.size
  have BN := Lib.hid (BB.out.trans (hb.mono (by first | exact hsz | (simp; omega))))
  clear hb hsz BB
  have BB := BN
  clear BN
  go_wp2_with fail
  refine (ex_meet2 _).mono ?_
  rintro e w2 ⟨rfl, hb⟩
  have hsz := BB.out.size
  have BN := Lib.hid ((BB.out.alloc (by first | exact hsz | (simp; omega)) (.cells #[.int .i64 7, .int .i64 9] 23)).trans (hb.mono (by first | exact hsz | (simp; omega))))
  have b11 := Lib.hid ((Two.new w1 (.int .i64 7) (.int .i64 9)).kept hb)
  clear hb hsz BB
  have BB := BN
  clear BN
  go_wp2_with fail
  refine (ex_union (some ⟨w2.heap.size + 1, 0, none⟩) _ (by have := new_slots (w2.alloc (.cells #[.int .i64 0, .int .i64 0] 23)) exL #[.int .i64 5, .int .i64 7, .int .i64 1, .int .i64 2, .int .i64 8, .int .i64 9, .int .i64 3, .int .i64 1] rfl; rw [World.size_alloc] at this; exact this)).mono ?_
  rintro e w3 ⟨au, cu, rfl, hu, -, hb⟩
  have hsz := BB.out.size
  have BN := Lib.hid (((BB.out.alloc (by first | exact hsz | (simp; omega)) (.cells #[.int .i64 0, .int .i64 0] 23)).alloc (by first | exact hsz | (simp; omega)) (.cells #[.int .i64 5, .int .i64 7, .int .i64 1, .int .i64 2, .int .i64 8, .int .i64 9, .int .i64 3, .int .i64 1] 23)).trans (hb.mono (by first | exact hsz | (simp; omega))))
  have b12 := Lib.hid (((b11.out.kept (below_here (w := w2) (.cells #[.int .i64 0, .int .i64 0] 23))).kept (below_here (w := (w2.alloc (.cells #[.int .i64 0, .int .i64 0] 23))) (.cells #[.int .i64 5, .int .i64 7, .int .i64 1, .int .i64 2, .int .i64 8, .int .i64 9, .int .i64 3, .int .i64 1] 23))).kept hb)
  have u3 := Lib.hid (hu)
  clear hb hsz BB b11
  have BB := BN
  clear BN
  clear hu
  go_wp2_with fail
  refine (ex_bounds1 _).mono ?_
  rintro e w4 ⟨rfl, hb⟩
  have hsz := BB.out.size
  have BN := Lib.hid (BB.out.trans (hb.mono (by first | exact hsz | (simp; omega))))
  have b14 := Lib.hid (b12.out.kept hb)
  have u5 := Lib.hid (u3.out.kept hb)
  clear hb hsz BB b12 u3
  have BB := BN
  clear BN
  go_wp2_with fail
  refine (ex_bounds2 _).mono ?_
  rintro e w5 ⟨rfl, hb⟩
  have hsz := BB.out.size
  have BN := Lib.hid ((BB.out.alloc (by first | exact hsz | (simp; omega)) (.cells #[.int .i64 16, .int .i64 25] 23)).trans (hb.mono (by first | exact hsz | (simp; omega))))
  have b16 := Lib.hid ((b14.out.kept (below_here (w := w4) (.cells #[.int .i64 16, .int .i64 25] 23))).kept hb)
  have u7 := Lib.hid ((u5.out.kept (below_here (w := w4) (.cells #[.int .i64 16, .int .i64 25] 23))).kept hb)
  have b68 := Lib.hid ((Two.new w4 (.int .i64 16) (.int .i64 25)).kept hb)
  clear hb hsz BB b14 u5
  have BB := BN
  clear BN
  go_wp2_with fail
  refine (ex_sessions (some ⟨w5.heap.size + 1, 0, none⟩) _ (by have := new_ints (w5.alloc (.cells #[.int .i64 20, .int .i64 25] 23)) exE #[.int .i64 9, .int .i64 1, .int .i64 3, .int .i64 20, .int .i64 12] rfl; rw [World.size_alloc] at this; exact this)).mono ?_
  rintro e w6 ⟨aq, cq, rfl, hs, -, hb⟩
  have hsz := BB.out.size
  have BN := Lib.hid (((BB.out.alloc (by first | exact hsz | (simp; omega)) (.cells #[.int .i64 20, .int .i64 25] 23)).alloc (by first | exact hsz | (simp; omega)) (.cells #[.int .i64 9, .int .i64 1, .int .i64 3, .int .i64 20, .int .i64 12] 3)).trans (hb.mono (by first | exact hsz | (simp; omega))))
  have b19 := Lib.hid (((b16.out.kept (below_here (w := w5) (.cells #[.int .i64 20, .int .i64 25] 23))).kept (below_here (w := (w5.alloc (.cells #[.int .i64 20, .int .i64 25] 23))) (.cells #[.int .i64 9, .int .i64 1, .int .i64 3, .int .i64 20, .int .i64 12] 3))).kept hb)
  have u10 := Lib.hid (((u7.out.kept (below_here (w := w5) (.cells #[.int .i64 20, .int .i64 25] 23))).kept (below_here (w := (w5.alloc (.cells #[.int .i64 20, .int .i64 25] 23))) (.cells #[.int .i64 9, .int .i64 1, .int .i64 3, .int .i64 20, .int .i64 12] 3))).kept hb)
  have b611 := Lib.hid (((b68.out.kept (below_here (w := w5) (.cells #[.int .i64 20, .int .i64 25] 23))).kept (below_here (w := (w5.alloc (.cells #[.int .i64 20, .int .i64 25] 23))) (.cells #[.int .i64 9, .int .i64 1, .int .i64 3, .int .i64 20, .int .i64 12] 3))).kept hb)
  have b812 := Lib.hid (((Two.new w5 (.int .i64 20) (.int .i64 25)).kept (below_here (w := w5.alloc (.cells #[.int .i64 20, .int .i64 25] 23)) (.cells #[.int .i64 9, .int .i64 1, .int .i64 3, .int .i64 20, .int .i64 12] 3))).kept hb)
  have ev13 := Lib.hid (IntsIn.kept (show IntsIn ((w5.alloc (.cells #[.int .i64 20, .int .i64 25] 23)).alloc (.cells #[.int .i64 9, .int .i64 1, .int .i64 3, .int .i64 20, .int .i64 12] 3)) (some ⟨w5.heap.size + 1, 0, none⟩) exE from by have := new_ints (w5.alloc (.cells #[.int .i64 20, .int .i64 25] 23)) exE #[.int .i64 9, .int .i64 1, .int .i64 3, .int .i64 20, .int .i64 12] rfl; rw [World.size_alloc] at this; exact this) hb)
  have s14 := Lib.hid (hs)
  clear hb hsz BB b16 u7 b68
  have BB := BN
  clear BN
  clear hs
  go_wp2_with fail
  refine (ex_sat15 _ _ ev13.out).mono ?_
  rintro e w7 ⟨rfl, hb⟩
  have hsz := BB.out.size
  have BN := Lib.hid (BB.out.trans (hb.mono (by first | exact hsz | (simp; omega))))
  have b115 := Lib.hid (b19.out.kept hb)
  have u16 := Lib.hid (u10.out.kept hb)
  have b617 := Lib.hid (b611.out.kept hb)
  have b818 := Lib.hid (b812.out.kept hb)
  have ev19 := Lib.hid (ev13.out.kept hb)
  have s20 := Lib.hid (s14.out.kept hb)
  clear hb hsz BB b19 u10 b611 b812 ev13 s14
  have BB := BN
  clear BN
  go_wp2_with fail
  refine (ex_sat16 _ _ (ev19.out.kept (below_here _))).mono ?_
  rintro e w8 ⟨rfl, hb⟩
  have hsz := BB.out.size
  have BN := Lib.hid ((BB.out.alloc (by first | exact hsz | (simp; omega)) (.cells #[.int .i64 9, .int .i64 12] 23)).trans (hb.mono (by first | exact hsz | (simp; omega))))
  have b121 := Lib.hid ((b115.out.kept (below_here (w := w7) (.cells #[.int .i64 9, .int .i64 12] 23))).kept hb)
  have u22 := Lib.hid ((u16.out.kept (below_here (w := w7) (.cells #[.int .i64 9, .int .i64 12] 23))).kept hb)
  have b623 := Lib.hid ((b617.out.kept (below_here (w := w7) (.cells #[.int .i64 9, .int .i64 12] 23))).kept hb)
  have b824 := Lib.hid ((b818.out.kept (below_here (w := w7) (.cells #[.int .i64 9, .int .i64 12] 23))).kept hb)
  have ev25 := Lib.hid ((ev19.out.kept (below_here (w := w7) (.cells #[.int .i64 9, .int .i64 12] 23))).kept hb)
  have s26 := Lib.hid ((s20.out.kept (below_here (w := w7) (.cells #[.int .i64 9, .int .i64 12] 23))).kept hb)
  have b1227 := Lib.hid ((Two.new w7 (.int .i64 9) (.int .i64 12)).kept hb)
  clear hb hsz BB b115 u16 b617 b818 ev19 s20
  have BB := BN
  clear BN
  go_wp2_with fail
  refine (ex_buckets _).mono ?_
  rintro e w9 ⟨ap, cp, rfl, hp, -, hb⟩
  have hsz := BB.out.size
  have BN := Lib.hid ((BB.out.alloc (by first | exact hsz | (simp; omega)) (.cells #[.int .i64 0, .int .i64 0] 23)).trans (hb.mono (by first | exact hsz | (simp; omega))))
  have b128 := Lib.hid ((b121.out.kept (below_here (w := w8) (.cells #[.int .i64 0, .int .i64 0] 23))).kept hb)
  have u29 := Lib.hid ((u22.out.kept (below_here (w := w8) (.cells #[.int .i64 0, .int .i64 0] 23))).kept hb)
  have b630 := Lib.hid ((b623.out.kept (below_here (w := w8) (.cells #[.int .i64 0, .int .i64 0] 23))).kept hb)
  have b831 := Lib.hid ((b824.out.kept (below_here (w := w8) (.cells #[.int .i64 0, .int .i64 0] 23))).kept hb)
  have ev32 := Lib.hid ((ev25.out.kept (below_here (w := w8) (.cells #[.int .i64 0, .int .i64 0] 23))).kept hb)
  have s33 := Lib.hid ((s26.out.kept (below_here (w := w8) (.cells #[.int .i64 0, .int .i64 0] 23))).kept hb)
  have b1234 := Lib.hid ((b1227.out.kept (below_here (w := w8) (.cells #[.int .i64 0, .int .i64 0] 23))).kept hb)
  have p35 := Lib.hid (hp)
  clear hb hsz BB b121 u22 b623 b824 ev25 s26 b1227
  have BB := BN
  clear BN
  clear hp
  obtain ⟨xb1, yb1, -, -⟩ := b128.out.all
  go_wp2_with fail
  refine (ex_same exU 2 rfl (by decide) _ _ _ _ (u29.out.kept (below_here _)) (new_slots _ exU _ rfl)).mono ?_
  rintro e w10 ⟨rfl, hb⟩
  have hsz := BB.out.size
  have BN := Lib.hid ((BB.out.alloc (by first | exact hsz | (simp; omega)) (.cells #[.int .i64 1, .int .i64 2, .int .i64 5, .int .i64 9] 23)).trans (hb.mono (by first | exact hsz | (simp; omega))))
  have b136 := Lib.hid ((b128.out.kept (below_here (w := w9) (.cells #[.int .i64 1, .int .i64 2, .int .i64 5, .int .i64 9] 23))).kept hb)
  have u37 := Lib.hid ((u29.out.kept (below_here (w := w9) (.cells #[.int .i64 1, .int .i64 2, .int .i64 5, .int .i64 9] 23))).kept hb)
  have b638 := Lib.hid ((b630.out.kept (below_here (w := w9) (.cells #[.int .i64 1, .int .i64 2, .int .i64 5, .int .i64 9] 23))).kept hb)
  have b839 := Lib.hid ((b831.out.kept (below_here (w := w9) (.cells #[.int .i64 1, .int .i64 2, .int .i64 5, .int .i64 9] 23))).kept hb)
  have ev40 := Lib.hid ((ev32.out.kept (below_here (w := w9) (.cells #[.int .i64 1, .int .i64 2, .int .i64 5, .int .i64 9] 23))).kept hb)
  have s41 := Lib.hid ((s33.out.kept (below_here (w := w9) (.cells #[.int .i64 1, .int .i64 2, .int .i64 5, .int .i64 9] 23))).kept hb)
  have b1242 := Lib.hid ((b1234.out.kept (below_here (w := w9) (.cells #[.int .i64 1, .int .i64 2, .int .i64 5, .int .i64 9] 23))).kept hb)
  have p43 := Lib.hid ((p35.out.kept (below_here (w := w9) (.cells #[.int .i64 1, .int .i64 2, .int .i64 5, .int .i64 9] 23))).kept hb)
  clear hb hsz BB b128 u29 b630 b831 ev32 s33 b1234 p35
  have BB := BN
  clear BN
  obtain ⟨xb6, yb6, -, -⟩ := b638.out.all
  obtain ⟨xb8, yb8, -, -⟩ := b839.out.all
  go_wp2_with fail
  refine (ex_same exS 3 rfl (by decide) _ _ _ _ (s41.out.kept (below_here _)) (new_slots _ exS _ rfl)).mono ?_
  rintro e w11 ⟨rfl, hb⟩
  have hsz := BB.out.size
  have BN := Lib.hid ((BB.out.alloc (by first | exact hsz | (simp; omega)) (.cells #[.int .i64 1, .int .i64 3, .int .i64 9, .int .i64 12, .int .i64 20, .int .i64 20] 23)).trans (hb.mono (by first | exact hsz | (simp; omega))))
  have b144 := Lib.hid ((b136.out.kept (below_here (w := w10) (.cells #[.int .i64 1, .int .i64 3, .int .i64 9, .int .i64 12, .int .i64 20, .int .i64 20] 23))).kept hb)
  have u45 := Lib.hid ((u37.out.kept (below_here (w := w10) (.cells #[.int .i64 1, .int .i64 3, .int .i64 9, .int .i64 12, .int .i64 20, .int .i64 20] 23))).kept hb)
  have b646 := Lib.hid ((b638.out.kept (below_here (w := w10) (.cells #[.int .i64 1, .int .i64 3, .int .i64 9, .int .i64 12, .int .i64 20, .int .i64 20] 23))).kept hb)
  have b847 := Lib.hid ((b839.out.kept (below_here (w := w10) (.cells #[.int .i64 1, .int .i64 3, .int .i64 9, .int .i64 12, .int .i64 20, .int .i64 20] 23))).kept hb)
  have ev48 := Lib.hid ((ev40.out.kept (below_here (w := w10) (.cells #[.int .i64 1, .int .i64 3, .int .i64 9, .int .i64 12, .int .i64 20, .int .i64 20] 23))).kept hb)
  have s49 := Lib.hid ((s41.out.kept (below_here (w := w10) (.cells #[.int .i64 1, .int .i64 3, .int .i64 9, .int .i64 12, .int .i64 20, .int .i64 20] 23))).kept hb)
  have b1250 := Lib.hid ((b1242.out.kept (below_here (w := w10) (.cells #[.int .i64 1, .int .i64 3, .int .i64 9, .int .i64 12, .int .i64 20, .int .i64 20] 23))).kept hb)
  have p51 := Lib.hid ((p43.out.kept (below_here (w := w10) (.cells #[.int .i64 1, .int .i64 3, .int .i64 9, .int .i64 12, .int .i64 20, .int .i64 20] 23))).kept hb)
  clear hb hsz BB b136 u37 b638 b839 ev40 s41 b1242 p43
  have BB := BN
  clear BN
  obtain ⟨xb12, yb12, -, -⟩ := b1250.out.all
  go_wp2_with fail
  refine (ex_same exB 3 rfl (by decide) _ _ _ _ (p51.out.kept (below_here _)) (new_slots _ exB _ rfl)).mono ?_
  rintro e w12 ⟨rfl, hb⟩
  have hsz := BB.out.size
  have BN := Lib.hid ((BB.out.alloc (by first | exact hsz | (simp; omega)) (.cells #[.int .i64 7, .int .i64 9, .int .i64 10, .int .i64 19, .int .i64 20, .int .i64 21] 23)).trans (hb.mono (by first | exact hsz | (simp; omega))))
  have b152 := Lib.hid ((b144.out.kept (below_here (w := w11) (.cells #[.int .i64 7, .int .i64 9, .int .i64 10, .int .i64 19, .int .i64 20, .int .i64 21] 23))).kept hb)
  have u53 := Lib.hid ((u45.out.kept (below_here (w := w11) (.cells #[.int .i64 7, .int .i64 9, .int .i64 10, .int .i64 19, .int .i64 20, .int .i64 21] 23))).kept hb)
  have b654 := Lib.hid ((b646.out.kept (below_here (w := w11) (.cells #[.int .i64 7, .int .i64 9, .int .i64 10, .int .i64 19, .int .i64 20, .int .i64 21] 23))).kept hb)
  have b855 := Lib.hid ((b847.out.kept (below_here (w := w11) (.cells #[.int .i64 7, .int .i64 9, .int .i64 10, .int .i64 19, .int .i64 20, .int .i64 21] 23))).kept hb)
  have ev56 := Lib.hid ((ev48.out.kept (below_here (w := w11) (.cells #[.int .i64 7, .int .i64 9, .int .i64 10, .int .i64 19, .int .i64 20, .int .i64 21] 23))).kept hb)
  have s57 := Lib.hid ((s49.out.kept (below_here (w := w11) (.cells #[.int .i64 7, .int .i64 9, .int .i64 10, .int .i64 19, .int .i64 20, .int .i64 21] 23))).kept hb)
  have b1258 := Lib.hid ((b1250.out.kept (below_here (w := w11) (.cells #[.int .i64 7, .int .i64 9, .int .i64 10, .int .i64 19, .int .i64 20, .int .i64 21] 23))).kept hb)
  have p59 := Lib.hid ((p51.out.kept (below_here (w := w11) (.cells #[.int .i64 7, .int .i64 9, .int .i64 10, .int .i64 19, .int .i64 20, .int .i64 21] 23))).kept hb)
  clear hb hsz BB b144 u45 b646 b847 ev48 s49 b1250 p51
  have BB := BN
  clear BN
  go_wp2_with fail
  go_ret
  exact ⟨rfl, BB.out⟩
end Go.Proofs.Ytolkmfpbgheaaaa
