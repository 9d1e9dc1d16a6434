/-
  cmp.Or; the program's comparisons of identifiers, rows by event, and values.
-/
import Derived.Test.YtfnpfkgmacaboaaLC
import Derived.Test.YtfnpfkgmacaboaaLE
import Derived.Test.YtfnpfkgmacaboaaShelf
import Derived.Shelf.SlSortCmp.QuietGrown
namespace Go.Proofs.Ytfnpfkgmacaboaa
open Go.ChangeShapes Go.WideShapes Go.ChangeAt Go.RowKit
set_option linter.unusedVariables false
set_option linter.unusedSimpArgs false

/-- A world has only grown: blocks behind it, draws. -/
structure Grew (w w' : World) : Prop where
  below : Below w.heap.size w w'
  drawn : w.drawn ≤ w'.drawn
theorem Grew.refl (w : World) : Grew w w := ⟨Below.refl _ _, Nat.le_refl _⟩
theorem Grew.trans {a b c : World} (h : Grew a b) (k : Grew b c) : Grew a c := ⟨keepB (Nat.le_refl _) h.below k.below, Nat.le_trans h.drawn k.drawn⟩
theorem Grew.alloc {a b : World} (h : Grew a b) (o : Obj) : Grew a (b.alloc o) := ⟨h.below.alloc h.below.size o, h.drawn⟩
theorem Grew.two {w : World} (o1 o2 : Obj) : Grew w ((w.alloc o1).alloc o2) := ((Grew.refl w).alloc o1).alloc o2
theorem Grew.ex {w w' : World} (h : Grew w w') : ∃ q os, w' = Go.Sort.grow (w.drewN q) os := by
  obtain ⟨p, hp⟩ := regrown_of_below h.below
  refine ⟨p.d - w.drawn, p.os, ?_⟩
  have hd : w.drawn ≤ p.d := by have := h.drawn; rw [hp] at this; exact this
  rw [hp]
  have : redrawn w p.d = w.drewN (p.d - w.drawn) := by
    unfold redrawn World.drewN
    rw [show w.drawn + (p.d - w.drawn) = p.d by omega]
  rw [this]
theorem Grew.of_ex (w : World) (q : Nat) (os : Array Obj) : Grew w (Go.Sort.grow (w.drewN q) os) := ⟨below_regrown w (w.drawn + q) os, Nat.le_add_right _ _⟩
/-- The class of such worlds, for a region that draws. -/
theorem Calls.grewn {P : Program} {f : FuncId} {args : Array Value} {V : World} {n : Nat} {os : Array Obj} {v : Value} (h : Calls P f args (Go.Sort.grow (V.drewN n) os) fun e w' => e = .returned v ∧ Grew (Go.Sort.grow (V.drewN n) os) w') :
    Calls P f args (Go.Sort.grow (V.drewN n) os) fun e w'' => e = .returned v ∧ ∃ p : GrownBy, w'' = Go.Sort.grow (V.drewN p.n) p.os :=
  Calls.grown_of (h.mono fun e w' ⟨h1, h2⟩ => ⟨h1, h2.ex⟩)
theorem Calls.grewn_same {P : Program} {f : FuncId} {args : Array Value} {V : World} {n : Nat} {os : Array Obj} {v : Value} (h : Calls P f args (Go.Sort.grow (V.drewN n) os) fun e w' => e = .returned v ∧ Go.Sort.grow (V.drewN n) os = w') :
    Calls P f args (Go.Sort.grow (V.drewN n) os) fun e w'' => e = .returned v ∧ ∃ p : GrownBy, w'' = Go.Sort.grow (V.drewN p.n) p.os :=
  h.mono fun e w' ⟨h1, h2⟩ => ⟨h1, ⟨n, os⟩, h2.symm⟩
theorem wp_region_grown_tail {P : Program} {id : Nat} {Q : Exit → Act → World → Prop} {a : Act} {w : World} {l : List Oper} (n : Nat) (hm : P.follows .mixedOrders = true) (hB : Region.lexTailB .any l.toArray n = true)
    (h : wpQuiet P l.toArray (fun w' => ∃ p : GrownBy, w' = Go.Sort.grow (w.drewN p.n) p.os) (fun a' => ∀ w', (∃ p : GrownBy, w' = Go.Sort.grow (w.drewN p.n) p.os) → wpList P l.toArray Q (l.drop n) a' w') (l.take n) a) : (Code.region id l.toArray true).wp P Q a w :=
  wp_region_quiet_tail (C := fun w' => ∃ p : GrownBy, w' = Go.Sort.grow (w.drewN p.n) p.os) n hm hB ⟨⟨1, #[]⟩, by rw [Go.Sort.grow_empty]; rfl⟩ h
theorem Box.grown {V : World} {g : Nat} {cs : Array Value} {t : TypeId} (h : Box V g cs t) (j : Nat) (v : Value) (hv : cs[j]? = some v) (d : Nat) (os : Array Obj) : (Go.Sort.grow (V.drewN d) os).cell? ⟨g, j, none⟩ = some v := cell_grown h.lt (h.cell j v hv) d os
theorem Box.grown2 {V : World} {g : Nat} {t : TypeId} {a0 a1 : Value} (h : Box V g #[a0, a1] t) : (∀ d os, (Go.Sort.grow (V.drewN d) os).cell? ⟨g, 0, none⟩ = some a0) ∧ (∀ d os, (Go.Sort.grow (V.drewN d) os).cell? ⟨g, 1, none⟩ = some a1) :=
  ⟨h.grown 0 _ rfl, h.grown 1 _ rfl⟩
theorem Box.grown3 {V : World} {g : Nat} {t : TypeId} {a0 a1 a2 : Value} (h : Box V g #[a0, a1, a2] t) : (∀ d os, (Go.Sort.grow (V.drewN d) os).cell? ⟨g, 0, none⟩ = some a0) ∧ (∀ d os, (Go.Sort.grow (V.drewN d) os).cell? ⟨g, 1, none⟩ = some a1) ∧ (∀ d os, (Go.Sort.grow (V.drewN d) os).cell? ⟨g, 2, none⟩ = some a2) :=
  ⟨h.grown 0 _ rfl, h.grown 1 _ rfl, h.grown 2 _ rfl⟩
theorem Box.grown8 {V : World} {g : Nat} {t : TypeId} {a0 a1 a2 a3 a4 a5 a6 a7 : Value} (h : Box V g #[a0, a1, a2, a3, a4, a5, a6, a7] t) : (∀ d os, (Go.Sort.grow (V.drewN d) os).cell? ⟨g, 0, none⟩ = some a0) ∧ (∀ d os, (Go.Sort.grow (V.drewN d) os).cell? ⟨g, 1, none⟩ = some a1) ∧ (∀ d os, (Go.Sort.grow (V.drewN d) os).cell? ⟨g, 2, none⟩ = some a2) ∧ (∀ d os, (Go.Sort.grow (V.drewN d) os).cell? ⟨g, 3, none⟩ = some a3) ∧ (∀ d os, (Go.Sort.grow (V.drewN d) os).cell? ⟨g, 4, none⟩ = some a4) ∧ (∀ d os, (Go.Sort.grow (V.drewN d) os).cell? ⟨g, 5, none⟩ = some a5) ∧ (∀ d os, (Go.Sort.grow (V.drewN d) os).cell? ⟨g, 6, none⟩ = some a6) ∧ (∀ d os, (Go.Sort.grow (V.drewN d) os).cell? ⟨g, 7, none⟩ = some a7) :=
  ⟨h.grown 0 _ rfl, h.grown 1 _ rfl, h.grown 2 _ rfl, h.grown 3 _ rfl, h.grown 4 _ rfl, h.grown 5 _ rfl, h.grown 6 _ rfl, h.grown 7 _ rfl⟩
theorem Box.grown10 {V : World} {g : Nat} {t : TypeId} {a0 a1 a2 a3 a4 a5 a6 a7 a8 a9 : Value} (h : Box V g #[a0, a1, a2, a3, a4, a5, a6, a7, a8, a9] t) : (∀ d os, (Go.Sort.grow (V.drewN d) os).cell? ⟨g, 0, none⟩ = some a0) ∧ (∀ d os, (Go.Sort.grow (V.drewN d) os).cell? ⟨g, 1, none⟩ = some a1) ∧ (∀ d os, (Go.Sort.grow (V.drewN d) os).cell? ⟨g, 2, none⟩ = some a2) ∧ (∀ d os, (Go.Sort.grow (V.drewN d) os).cell? ⟨g, 3, none⟩ = some a3) ∧ (∀ d os, (Go.Sort.grow (V.drewN d) os).cell? ⟨g, 4, none⟩ = some a4) ∧ (∀ d os, (Go.Sort.grow (V.drewN d) os).cell? ⟨g, 5, none⟩ = some a5) ∧ (∀ d os, (Go.Sort.grow (V.drewN d) os).cell? ⟨g, 6, none⟩ = some a6) ∧ (∀ d os, (Go.Sort.grow (V.drewN d) os).cell? ⟨g, 7, none⟩ = some a7) ∧ (∀ d os, (Go.Sort.grow (V.drewN d) os).cell? ⟨g, 8, none⟩ = some a8) ∧ (∀ d os, (Go.Sort.grow (V.drewN d) os).cell? ⟨g, 9, none⟩ = some a9) :=
  ⟨h.grown 0 _ rfl, h.grown 1 _ rfl, h.grown 2 _ rfl, h.grown 3 _ rfl, h.grown 4 _ rfl, h.grown 5 _ rfl, h.grown 6 _ rfl, h.grown 7 _ rfl, h.grown 8 _ rfl, h.grown 9 _ rfl⟩
set_option maxHeartbeats 1000000 in
theorem or_any (g n : Nat) (L : List Int) (hn : n = L.length) (hn6 : n ≤ 6) (w : World) (hc : ∀ (i : Nat) (c : Int), L[i]? = some c → w.cell? ⟨g, i, none⟩ = some (.int .i64 c)) :
    Calls Try.prog 30 #[.slice (some ⟨g, 0, none⟩) n n] w fun e w' => e = .returned (.int .i64 (orL L)) ∧ w = w' := by
  have HC := Lib.hid hc
  have HLen : Hid (L.length = n) := hn.symm
  clear hc hn
  go_enter Try.func30, Try.ntmps30
  go_wp2_with fail
  go_loop [8] (fun v => ∃ i : Nat, i ≤ n ∧ v = .int .i64 i ∧ Hid (orL L = orL (L.drop i))) (fun v => n - (intOf v).toNat)
  case atStart => exact ⟨0, by omega, rfl, Lib.hid rfl⟩
  case round =>
    obtain ⟨i, hi, rfl, HI⟩ := hrel
    by_cases hlt : i < n
    · obtain ⟨c, hc⟩ : ∃ c, L[i]? = some c := ⟨L[i]'(by rw [HLen.out]; exact hlt), List.getElem?_eq_getElem _⟩
      have hcell := HC.out i c hc
      have HN := Lib.hid (HI.out.trans (orL_drop L i c hc))
      clear hc HI
      by_cases h0 : c = 0
      · subst h0
        have HN2 : Hid (orL L = orL (L.drop (i + 1))) := HN.out.trans (orI_then _)
        go_wp2_with fail
        go_round
        case rel => exact ⟨i + 1, by omega, by go_num, HN2⟩
        case measure => simp [intOf]; omega
      · have hne : (c != 0) = true := by simpa using h0
        have HN2 : Hid (orL L = c) := HN.out.trans (orI_of h0)
        go_wp2_with fail
        go_ret
        exact ⟨by rw [HN2.out]; rfl, rfl⟩
    · have HN2 : Hid (orL L = 0) := by show _ = _; rw [HI.out, List.drop_of_length_le (by rw [HLen.out]; omega)]; rfl
      clear HI
      obtain rfl : i = n := by omega
      go_wp2_with fail
      go_ret
      exact ⟨by rw [HN2.out]; rfl, rfl⟩
theorem or2_any (V : World) (c0 c1 : Int) : Calls Try.prog 30 #[.slice (some ⟨V.heap.size, 0, none⟩) 2 2] (V.alloc (.cells #[.int .i64 c0, .int .i64 c1] 3)) fun e w' => e = .returned (.int .i64 (orL [c0, c1])) ∧ V.alloc (.cells #[.int .i64 c0, .int .i64 c1] 3) = w' := by
  refine or_any V.heap.size 2 [c0, c1] rfl (by decide) _ (fun i c hc => (Box.new V _ _).cell i _ ?_)
  match i, hc with
  | 0, hc => cases hc; rfl
  | 1, hc => cases hc; rfl
theorem or3_any (V : World) (c0 c1 c2 : Int) : Calls Try.prog 30 #[.slice (some ⟨V.heap.size, 0, none⟩) 3 3] (V.alloc (.cells #[.int .i64 c0, .int .i64 c1, .int .i64 c2] 3)) fun e w' => e = .returned (.int .i64 (orL [c0, c1, c2])) ∧ V.alloc (.cells #[.int .i64 c0, .int .i64 c1, .int .i64 c2] 3) = w' := by
  refine or_any V.heap.size 3 [c0, c1, c2] rfl (by decide) _ (fun i c hc => (Box.new V _ _).cell i _ ?_)
  match i, hc with
  | 0, hc => cases hc; rfl
  | 1, hc => cases hc; rfl
  | 2, hc => cases hc; rfl
theorem or6_any (V : World) (c0 c1 c2 c3 c4 c5 : Int) : Calls Try.prog 30 #[.slice (some ⟨V.heap.size, 0, none⟩) 6 6] (V.alloc (.cells #[.int .i64 c0, .int .i64 c1, .int .i64 c2, .int .i64 c3, .int .i64 c4, .int .i64 c5] 3)) fun e w' => e = .returned (.int .i64 (orL [c0, c1, c2, c3, c4, c5])) ∧ V.alloc (.cells #[.int .i64 c0, .int .i64 c1, .int .i64 c2, .int .i64 c3, .int .i64 c4, .int .i64 c5] 3) = w' := by
  refine or_any V.heap.size 6 [c0, c1, c2, c3, c4, c5] rfl (by decide) _ (fun i c hc => (Box.new V _ _).cell i _ ?_)
  match i, hc with
  | 0, hc => cases hc; rfl
  | 1, hc => cases hc; rfl
  | 2, hc => cases hc; rfl
  | 3, hc => cases hc; rfl
  | 4, hc => cases hc; rfl
  | 5, hc => cases hc; rfl
theorem orL_two (a b : Int) : orL [a, b] = orI a b := by simp only [orL, orI_zero_right]
theorem orL_three (a b c : Int) : orL [a, b, c] = orI a (orI b c) := by simp only [orL, orI_zero_right]
theorem compareBytes_is : ∀ (x y : List UInt8), Lib.compareBytes x y = cmpL cmpB x y
  | [], [] => rfl
  | [], _ :: _ => rfl
  | _ :: _, [] => rfl
  | a :: x, b :: y => by
    have e : cmpL cmpB (a :: x) (b :: y) = orI (cmpB a b) (cmpL cmpB x y) := rfl
    rw [e, Lib.compareBytes, compareBytes_is x y]
    unfold cmpB cmpI orI
    simp only [UInt8.lt_iff_toNat_lt, Int.ofNat_lt]
    split
    · simp
    · split <;> simp
theorem strings_any (a b : ByteArray) (w : World) : Calls Try.prog 50 #[.string a, .string b] w fun e w' => e = .returned (.int .i64 (cmpS a b)) ∧ w = w' := by
  refine (Go.Proofs.Any.strings_Compare Try.lays106 a b w).mono ?_
  rintro e w' ⟨rfl, rfl⟩
  exact ⟨by rw [compareBytes_is]; unfold cmpS; rw [ByteArray.toList_eq, ByteArray.toList_eq], rfl⟩
set_option maxHeartbeats 2000000 in
set_option maxRecDepth 100000 in
theorem fid_any (s t : ByteArray) (m n : Int) (w : World) : Calls Try.prog 71 #[.agg #[.string s, .int .i64 m], .agg #[.string t, .int .i64 n]] w fun e w' => e = .returned (.int .i64 (cmpID (s, m) (t, n))) ∧ Grew w w' := by
  have C0 := Lib.hid (fun w => compareS_any s t w)
  have C1 := Lib.hid (fun w => compare_any m n w)
  have he := fun w => eql36 (s, m) (t, n) w
  have hg := fun w => guard36 .eql (.tmp 5) (.tmp 6) (s, m) (t, n) w
  simp only [fidV] at he hg
  cases hq : eqF (s, m) (t, n)
  · rw [hq] at he
    have HD : Hid (cmpID (s, m) (t, n) = orL [cmpS s t, cmpI m n]) := by show _ = _; rw [orL_two]; rfl
    clear hq
    generalize cmpS s t = c0 at *
    generalize cmpI m n = c1 at *
    have HOr := Lib.hid (fun V => or2_any V c0 c1)
    generalize orL [c0, c1] = r at *
    go_enter Try.func71, Try.ntmps71
    go_upto_region 3 with fail
    refine wp_gen (fun V hV => ?_)
    have HGV : Hid (Grew w V) := by rw [hV]; exact Grew.two _ _
    have B0 : Hid (Box V w.heap.size #[.string s, .int .i64 m] 36) := by rw [hV]; exact (Box.new w _ _).kept (below_here _)
    have B1 : Hid (Box V (w.heap.size + 1) #[.string t, .int .i64 n] 36) := by rw [hV]; show Box _ _ _ _; have := Box.new (w.alloc (.cells #[.string s, .int .i64 m] 36)) #[.string t, .int .i64 n] 36; simpa using this
    obtain ⟨a0, a1⟩ := B0.out.grown2
    obtain ⟨b0, b1⟩ := B1.out.grown2
    clear hV B0 B1 he hg
    refine wp_region_grown_tail 10 (by kernel_rfl) (by kernel_rfl) ?_
    simp only [List.take_succ_cons, List.take_zero, List.drop_succ_cons, List.drop_zero]
    repeat (go_big_quiet_step (first | with_reducible exact Calls.grewn_same (C0.out _) | with_reducible exact Calls.grewn_same (C1.out _)))
    refine wpQuiet_nil ?_
    intro _ hw'
    obtain ⟨p, hw''⟩ := hw'
    subst hw''
    have HZ := Lib.hid (Grew.of_ex V p.n p.os)
    clear a0 a1 b0 b1 C0 C1
    generalize Go.Sort.grow (V.drewN p.n) p.os = V2 at *
    go_wp2_with (go_at_call 30; (with_reducible refine (HOr.out _).mono ?_); rintro e w1 ⟨rfl, rfl⟩)
    go_ret
    exact ⟨by rw [HD.out]; rfl, (HGV.out.trans HZ.out).alloc _⟩
  · rw [hq] at he
    have HD : Hid (cmpID (s, m) (t, n) = 0) := (cmpID_cmp.zero _ _).2 (eqF_iff.1 hq)
    clear hq
    go_enter Try.func71, Try.ntmps71
    go_wp2_with fail
    go_ret
    exact ⟨by rw [HD.out]; rfl, Grew.two _ _⟩
end Go.Proofs.Ytfnpfkgmacaboaa
