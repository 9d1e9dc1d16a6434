/-
  The keys of a cache, joined; the example with which each statement begins.
-/
import Derived.Test.YtdbfioafcpjkpaaT
namespace Go.Proofs.Ytdbfioafcpjkpaa
open Go.ChangeShapes Go.WideShapes Go.ChangeAt Go.RowKit

def joinK (l : List Sl) : List UInt8 := (l.map Prod.fst).flatten
theorem joinK_take (l : List Sl) (i : Nat) (x : Sl) (hx : l[i]? = some x) : joinK (l.take (i + 1)) = joinK (l.take i) ++ x.1 := by
  rw [List.take_add_one, hx]; simp [joinK]
theorem joinK_le (l : List Sl) (i : Nat) : (joinK (l.take i)).length ≤ (joinK l).length := by
  have : joinK l = joinK (l.take i) ++ joinK (l.drop i) := by
    simp only [joinK, ← List.flatten_append, ← List.map_append, List.take_append_drop]
  rw [this]; simp
theorem toList_add (a b : ByteArray) : (a ++ b).toList = a.toList ++ b.toList := by
  rw [ByteArray.toList_eq, ByteArray.toList_eq, ByteArray.toList_eq]; simp
theorem size_toList (a : ByteArray) : a.size = a.toList.length := by
  rw [ByteArray.toList_eq]; simp

set_option maxHeartbeats 1000000 in
set_option maxRecDepth 100000 in
theorem keys_any (L : Int) (l : List Sl) (ao : Option Addr) (cap : Nat) (hl : l.length ≤ 4611686018427387904) (hj : (joinK l).length ≤ 4611686018427387904) (w : World) (h : SlotsAt w ao l) :
    Calls Try.prog 25 #[.agg #[.int .i64 L, .slice ao l.length cap]] w fun e w' => ∃ r : ByteArray, e = .returned (.string r) ∧ r.toList = joinK l ∧ Below w.heap.size w w' := by
  have H := Lib.hid h
  have HJ := Lib.hid hj
  clear h hj
  go_enter Try.func25, Try.ntmps25
  go_wp2_with fail
  refine wp_gen (fun W hW => ?_)
  have HW : Below w.heap.size w W := by rw [hW]; exact below_here _
  have HT : Hid (Two W w.heap.size (.int .i64 L) (.slice ao l.length cap)) := by rw [hW]; exact Two.new w _ _
  clear hW
  go_loop [3, 4] (fun n v => ∃ (i : Nat) (r : ByteArray), i ≤ l.length ∧ v = .int .i64 i ∧ n = .string r ∧ r.toList = joinK (l.take i)) (fun _ v => l.length - (intOf v).toNat)
  case atStart => exact ⟨0, _, by omega, rfl, rfl, by rw [ByteArray.toList_eq]; simp [joinK]⟩
  case round =>
    obtain ⟨i, r, hi, rfl, rfl, hr⟩ := hrel
    have HR := Lib.hid hr
    clear hr
    obtain ⟨t0, t1, -, -⟩ := HT.out.all
    by_cases hlt : i < l.length
    · obtain ⟨x, hx⟩ : ∃ x, l[i]? = some x := ⟨l[i], List.getElem?_eq_getElem hlt⟩
      obtain ⟨b, off, rfl, hrow⟩ := (H.out.kept HW).some (by omega)
      obtain ⟨s, hs, hc, hc2⟩ := hrow i x hx
      have hsum : r.size + s.size ≤ 9223372036854775807 := by
        have e1 := joinK_take l i x hx
        have e2 := joinK_le l (i + 1)
        have e3 := congrArg List.length e1
        rw [size_toList r, size_toList s, HR.out, hs]
        simp at e3
        have := HJ.out
        omega
      have hadd := fun w => run_string_add_sum (P := Try.prog) w r s hsum
      have HN := Lib.hid (joinK_take l i x hx)
      have HS := Lib.hid hs
      clear hrow hs hx hsum
      go_wp2_with fail
      go_round
      case rel => exact ⟨i + 1, _, by omega, by go_num, rfl, by rw [HN.out, toList_add, HR.out, HS.out]⟩
      case measure => simp [intOf]; omega
    · have hi2 : i = l.length := by omega
      subst hi2
      rw [List.take_length] at HR
      go_wp2_with fail
      go_ret
      exact ⟨_, rfl, HR.out, HW⟩

def exU : List Sl := [([97], 4), ([98], 4), ([97], 4)]
def exC : List Sl := [([98], 4), ([97], 4)]
def exD : List Sl := [([97], 4), ([99], 5)]
def exF : List Sl := [([97], 9)]
def exI : List Sl := [([97], 9), ([100], 0)]
def keyB : List (List UInt8) := [[98]]
def keyC : List (List UInt8) := [[99]]
def keyN : List (List UInt8) := []
theorem ex_runs : runs 10 exU = exC := by decide
theorem ex_d : used 10 [99] 5 exC = exD ∧ gone 10 [99] 5 exC = keyB := by decide
theorem ex_f : used 10 [97] 9 exD = exF ∧ gone 10 [97] 9 exD = keyC := by decide
theorem ex_i : used 10 [100] 0 exF = exI ∧ gone 10 [100] 0 exF = keyN := by decide
theorem ex_valid (l : List Sl) (h : l = exC ∨ l = exD ∨ l = exF ∨ l = exI) : Valid 10 l := by
  rcases h with rfl | rfl | rfl | rfl <;> (unfold Valid Distinct; decide)

/-- Three uses in a new block. -/
def useCells : Array Value := #[.string ⟨#[97]⟩, .int .i64 4, .string ⟨#[98]⟩, .int .i64 4, .string ⟨#[97]⟩, .int .i64 4]
theorem bytes_one (x : UInt8) : (⟨#[x]⟩ : ByteArray).toList = [x] := by rw [ByteArray.toList_eq]
theorem bytes_two (x y : UInt8) : (⟨#[x, y]⟩ : ByteArray).toList = [x, y] := by rw [ByteArray.toList_eq]
theorem use_row (w : World) : SlotsAt (w.alloc (.cells useCells 39)) (some ⟨w.heap.size, 0, none⟩) exU := by
  refine Or.inr ⟨_, _, rfl, ?_⟩
  have hg := heap_alloc_new w (.cells useCells 39)
  intro i x hx
  match i, hx with
  | 0, hx => simp [exU] at hx; subst hx; exact ⟨⟨#[97]⟩, bytes_one 97, by rw [cell_of_row _ _ _ _ _ _ hg]; rfl, by rw [cell_of_row _ _ _ _ _ _ hg]; rfl⟩
  | 1, hx => simp [exU] at hx; subst hx; exact ⟨⟨#[98]⟩, bytes_one 98, by rw [cell_of_row _ _ _ _ _ _ hg]; rfl, by rw [cell_of_row _ _ _ _ _ _ hg]; rfl⟩
  | 2, hx => simp [exU] at hx; subst hx; exact ⟨⟨#[97]⟩, bytes_one 97, by rw [cell_of_row _ _ _ _ _ _ hg]; rfl, by rw [cell_of_row _ _ _ _ _ _ hg]; rfl⟩
theorem after_ex (w : World) (ao : Option Addr) (h : SlotsAt w ao exU) : Calls Try.prog 14 #[.int .i64 10, .slice ao 3 3] w (AfterIs w 10 exC) := by
  have := after_good 10 (by decide) (by decide) exU ao 3 (by decide) w h
  rw [ex_runs] at this
  exact this
/-- A block of a cache, and its slots. -/
def Held (w : World) (g : Nat) (L : Int) (a : Option Addr) (c : Nat) (l : List Sl) : Prop := Two w g (.int .i64 L) (.slice a l.length c) ∧ l.length ≤ c ∧ SlotsAt w a l
theorem Held.kept {w w' : World} {g : Nat} {L : Int} {a : Option Addr} {c : Nat} {l : List Sl} (h : Held w g L a c l) (hb : Below w.heap.size w w') : Held w' g L a c l := ⟨h.1.kept hb, h.2.1, h.2.2.kept hb⟩

theorem use_exD (w : World) (a : Option Addr) (c : Nat) (hc : exC.length ≤ c) (h : SlotsAt w a exC) : Calls Try.prog 11 #[.agg #[.int .i64 10, .slice a exC.length c], .string ⟨#[99]⟩, .int .i64 5] w (UseIs w 10 exD keyB 0) := by
  have := use_fits 10 5 exC (ex_valid _ (by simp)) (by decide) (by decide) ⟨#[99]⟩ a c hc (by decide) w h
  rw [bytes_one, ex_d.1, ex_d.2] at this
  exact this
theorem use_exF (w : World) (a : Option Addr) (c : Nat) (hc : exD.length ≤ c) (h : SlotsAt w a exD) : Calls Try.prog 11 #[.agg #[.int .i64 10, .slice a exD.length c], .string ⟨#[97]⟩, .int .i64 9] w (UseIs w 10 exF keyC 0) := by
  have := use_fits 10 9 exD (ex_valid _ (by simp)) (by decide) (by decide) ⟨#[97]⟩ a c hc (by decide) w h
  rw [bytes_one, ex_f.1, ex_f.2] at this
  exact this
theorem use_exI (w : World) (a : Option Addr) (c : Nat) (hc : exF.length ≤ c) (h : SlotsAt w a exF) : Calls Try.prog 11 #[.agg #[.int .i64 10, .slice a exF.length c], .string ⟨#[100]⟩, .int .i64 0] w (UseIs w 10 exI keyN 0) := by
  have := use_fits 10 0 exF (ex_valid _ (by simp)) (by decide) (by decide) ⟨#[100]⟩ a c hc (by decide) w h
  rw [bytes_one, ex_i.1, ex_i.2] at this
  exact this
theorem keys_ex (l : List Sl) (r : List UInt8) (h : joinK l = r) (hl : l.length ≤ 3) (hr : r.length ≤ 3) (L : Int) (w : World) (a : Option Addr) (c : Nat) (hs : SlotsAt w a l) :
    Calls Try.prog 25 #[.agg #[.int .i64 L, .slice a l.length c]] w fun e w' => ∃ s : ByteArray, e = .returned (.string s) ∧ (s.toList == r) = true ∧ Below w.heap.size w w' := by
  refine (keys_any L l a c (by omega) (by rw [h]; omega) w hs).mono ?_
  rintro e w' ⟨s, rfl, h2, hb⟩
  exact ⟨s, rfl, by rw [h2, h]; simp, hb⟩

theorem key_row (w : World) (x : UInt8) : KeysAt (w.alloc (.cells #[.string ⟨#[x]⟩] 9)) (some ⟨w.heap.size, 0, none⟩) [[x]] := by
  refine Or.inr ⟨_, _, rfl, ?_⟩
  have hg := heap_alloc_new w (.cells #[.string ⟨#[x]⟩] 9)
  intro i k hk
  match i, hk with
  | 0, hk => simp at hk; subst hk; exact ⟨⟨#[x]⟩, bytes_one x, by rw [cell_of_row _ _ _ _ _ _ hg]; rfl⟩
theorem same_ex (l : List (List UInt8)) (h1 : l.length = 1) (w : World) (a b : Option Addr) (c : Nat) (h : KeysAt w a l) (h' : KeysAt w b l) :
    Calls Try.prog 21 #[.slice a l.length c, .slice b 1 1] w fun e w' => e = .returned (.bool true) ∧ Below w.heap.size w w' := by
  have := sameKeys_any l a b c 1 (by omega) w h h'
  rw [h1] at this ⊢
  exact this
theorem has_ex (k : UInt8) (b : Bool) (hb : decide (0 ≤ pos [k] exI 0) = b) (w : World) (a : Option Addr) (c : Nat) (h : SlotsAt w a exI) :
    Calls Try.prog 15 #[.agg #[.int .i64 10, .slice a exI.length c], .string ⟨#[k]⟩] w fun e w' => e = .returned (.bool b) ∧ Below w.heap.size w w' := by
  have := has_any 10 exI ⟨#[k]⟩ a c (by decide) w h
  rw [bytes_one, hb] at this
  exact this
theorem used_ex (w : World) (a : Option Addr) (c : Nat) (h : SlotsAt w a exI) :
    Calls Try.prog 12 #[.agg #[.int .i64 10, .slice a exI.length c]] w fun e w' => e = .returned (.int .i64 9) ∧ Below w.heap.size w w' :=
  used_any exI 10 a c (by decide) (by decide) (by decide) w h

set_option maxHeartbeats 4000000 in
set_option maxRecDepth 100000 in
theorem example_any (w : World) : Calls Try.prog 9 #[] w fun e w' => e = .returned (.bool true) ∧ Below w.heap.size w w' := by
  have U0 := Lib.hid (use_row w)
  go_enter Try.func9, Try.ntmps9
  go_wp2_with fail
  refine (after_ex _ _ U0.out).mono ?_
  rintro e w1 ⟨a1, c1, rfl, hc1, hs1, hb1⟩
  have B1 := Lib.hid ((below_here (w := w) (.cells useCells 39)).trans (hb1.mono (by simp)))
  have S1 := Lib.hid hs1
  have C1 := Lib.hid hc1
  clear hb1 hs1 U0 hc1
  go_wp2_with fail
  refine (use_exD _ a1 c1 C1.out (S1.out.kept (below_here _))).mono ?_
  rintro e w2 ⟨a2, c2, k2, d2, rfl, hc2, hd2, hs2, hk2, hb2⟩
  have B2 := Lib.hid ((B1.out.alloc B1.out.size (.cells #[.int .i64 10, .slice a1 exC.length c1] 24)).trans (hb2.mono (by have := B1.out.size; simp; omega)))
  have G2 : Hid (Held w2 w1.heap.size 10 a1 c1 exC) := ⟨(Two.new w1 _ _).kept hb2, C1.out, (S1.out.kept (below_here _)).kept hb2⟩
  have S2 := Lib.hid hs2
  have K2 := Lib.hid hk2
  have C2 := Lib.hid hc2
  have L2 : w1.heap.size < w2.heap.size := G2.out.1.lt
  clear hb2 hs2 hk2 B1 S1 C1 hc2
  go_wp2_with fail
  refine (use_exF _ a2 c2 C2.out (S2.out.kept (below_here _))).mono ?_
  rintro e w3 ⟨a3, c3, k3, d3, rfl, hc3, hd3, hs3, hk3, hb3⟩
  have B3 := Lib.hid ((B2.out.alloc B2.out.size (.cells #[.int .i64 10, .slice a2 exD.length c2] 24)).trans (hb3.mono (by have := B2.out.size; simp; omega)))
  have G3 : Hid (Held w3 w2.heap.size 10 a2 c2 exD) := ⟨(Two.new w2 _ _).kept hb3, C2.out, (S2.out.kept (below_here _)).kept hb3⟩
  have G2' := Lib.hid ((G2.out.kept (below_here _)).kept hb3)
  have K2' := Lib.hid ((K2.out.kept (below_here _)).kept hb3)
  have S3 := Lib.hid hs3
  have K3 := Lib.hid hk3
  have C3 := Lib.hid hc3
  have L3 : w2.heap.size < w3.heap.size := G3.out.1.lt
  clear hb3 hs3 hk3 B2 S2 C2 hc3 G2 K2
  go_wp2_with fail
  refine (use_big 10 11 (by decide) (by decide) _ _ _).mono ?_
  rintro e w4 ⟨a4, c4, k4, d4, rfl, -, -, -, -, hb4⟩
  have B4 := Lib.hid ((B3.out.alloc B3.out.size (.cells #[.int .i64 10, .slice a3 exF.length c3] 24)).trans (hb4.mono (by have := B3.out.size; simp; omega)))
  have G4 : Hid (Held w4 w3.heap.size 10 a3 c3 exF) := ⟨(Two.new w3 _ _).kept hb4, C3.out, (S3.out.kept (below_here _)).kept hb4⟩
  have G2a := Lib.hid ((G2'.out.kept (below_here _)).kept hb4)
  have K2a := Lib.hid ((K2'.out.kept (below_here _)).kept hb4)
  have G3a := Lib.hid ((G3.out.kept (below_here _)).kept hb4)
  have K3a := Lib.hid ((K3.out.kept (below_here _)).kept hb4)
  have L4 : w3.heap.size < w4.heap.size := G4.out.1.lt
  clear hb4 B3 S3 C3 G2' K2' G3 K3
  obtain ⟨f0, f1, -, -⟩ := G4.out.1.all
  go_wp2_with fail
  refine (use_exI _ a3 c3 G4.out.2.1 (G4.out.2.2.kept (below_here _))).mono ?_
  rintro e w5 ⟨a5, c5, k5, d5, rfl, hc5, hd5, hs5, hk5, hb5⟩
  have B5 := Lib.hid ((B4.out.alloc B4.out.size (.cells #[.int .i64 0, .slice a4 0 c4] 24)).trans (hb5.mono (by have := B4.out.size; simp; omega)))
  have G2b := Lib.hid ((G2a.out.kept (below_here (.cells #[.int .i64 0, .slice a4 0 c4] 24))).kept hb5)
  have K2b := Lib.hid ((K2a.out.kept (below_here (.cells #[.int .i64 0, .slice a4 0 c4] 24))).kept hb5)
  have G3b := Lib.hid ((G3a.out.kept (below_here (.cells #[.int .i64 0, .slice a4 0 c4] 24))).kept hb5)
  have K3b := Lib.hid ((K3a.out.kept (below_here (.cells #[.int .i64 0, .slice a4 0 c4] 24))).kept hb5)
  have G4b := Lib.hid ((G4.out.kept (below_here (.cells #[.int .i64 0, .slice a4 0 c4] 24))).kept hb5)
  have S5 := Lib.hid hs5
  have C5 := Lib.hid hc5
  have L5 : w4.heap.size < w5.heap.size := by have := hb5.size; simp at this; omega
  clear hb5 hs5 hk5 B4 G2a K2a G3a K3a G4 f0 f1 hc5
  go_wp2_with fail
  refine (new_bad (-1) (by decide) _).mono ?_
  rintro e w6 ⟨rfl, hb6⟩
  have B6 := Lib.hid ((B5.out.alloc B5.out.size (.cells #[.int .i64 10, .slice a5 exI.length c5] 24)).trans (hb6.mono (by have := B5.out.size; simp; omega)))
  have G2c := Lib.hid ((G2b.out.kept (below_here (.cells #[.int .i64 10, .slice a5 exI.length c5] 24))).kept hb6)
  have K2c := Lib.hid ((K2b.out.kept (below_here (.cells #[.int .i64 10, .slice a5 exI.length c5] 24))).kept hb6)
  have G3c := Lib.hid ((G3b.out.kept (below_here (.cells #[.int .i64 10, .slice a5 exI.length c5] 24))).kept hb6)
  have K3c := Lib.hid ((K3b.out.kept (below_here (.cells #[.int .i64 10, .slice a5 exI.length c5] 24))).kept hb6)
  have G4c := Lib.hid ((G4b.out.kept (below_here (.cells #[.int .i64 10, .slice a5 exI.length c5] 24))).kept hb6)
  have G5 : Hid (Held w6 w5.heap.size 10 a5 c5 exI) := ⟨(Two.new w5 _ _).kept hb6, C5.out, (S5.out.kept (below_here _)).kept hb6⟩
  have L6 : w5.heap.size < w6.heap.size := G5.out.1.lt
  clear hb6 B5 S5 C5 G2b K2b G3b K3b G4b
  have M1 : w1.heap.size < w6.heap.size := by omega
  have M2 : w2.heap.size < w6.heap.size := by omega
  have M3 : w3.heap.size < w6.heap.size := by omega
  obtain ⟨x0, x1, -, -⟩ := G2c.out.1.all
  go_wp2_with fail
  refine (keys_ex exC [98, 97] (by decide) (by decide) (by decide) 10 _ a1 c1 (G2c.out.2.2.kept (below_here _))).mono ?_
  rintro e w7 ⟨r7, rfl, h7, hb7⟩
  have B7 := Lib.hid ((B6.out.alloc B6.out.size (.cells #[.int .i64 0, .slice none 0 0] 24)).trans (hb7.mono (by have := B6.out.size; simp; omega)))
  have K2d := Lib.hid ((K2c.out.kept (below_here (.cells #[.int .i64 0, .slice none 0 0] 24))).kept hb7)
  have G3d := Lib.hid ((G3c.out.kept (below_here (.cells #[.int .i64 0, .slice none 0 0] 24))).kept hb7)
  have K3d := Lib.hid ((K3c.out.kept (below_here (.cells #[.int .i64 0, .slice none 0 0] 24))).kept hb7)
  have G4d := Lib.hid ((G4c.out.kept (below_here (.cells #[.int .i64 0, .slice none 0 0] 24))).kept hb7)
  have G5d := Lib.hid ((G5.out.kept (below_here (.cells #[.int .i64 0, .slice none 0 0] 24))).kept hb7)
  have L7 : w6.heap.size < w7.heap.size := by have := hb7.size; simp at this; omega
  clear hb7 B6 G2c K2c G3c K3c G4c G5 x0 x1
  have N1 : w2.heap.size < w7.heap.size := by omega
  obtain ⟨x0, x1, -, -⟩ := G3d.out.1.all
  go_wp2_with fail
  refine (keys_ex exD [97, 99] (by decide) (by decide) (by decide) 10 _ a2 c2 G3d.out.2.2).mono ?_
  rintro e w8 ⟨r8, rfl, h8, hb8⟩
  have B8 := Lib.hid (B7.out.trans (hb8.mono B7.out.size))
  have K2e := Lib.hid (K2d.out.kept hb8)
  have K3e := Lib.hid (K3d.out.kept hb8)
  have G4e := Lib.hid (G4d.out.kept hb8)
  have G5e := Lib.hid (G5d.out.kept hb8)
  have L8 := hb8.size
  clear hb8 B7 K2d G3d K3d G4d G5d x0 x1
  go_wp2_with fail
  refine (same_ex keyB rfl _ k2 _ d2 (K2e.out.kept (below_here _)) (key_row w8 98)).mono ?_
  rintro e w9 ⟨rfl, hb9⟩
  have B9 := Lib.hid ((B8.out.alloc B8.out.size (.cells #[.string ⟨#[98]⟩] 9)).trans (hb9.mono (by have := B8.out.size; simp; omega)))
  have K3f := Lib.hid ((K3e.out.kept (below_here (.cells #[.string ⟨#[98]⟩] 9))).kept hb9)
  have G4f := Lib.hid ((G4e.out.kept (below_here (.cells #[.string ⟨#[98]⟩] 9))).kept hb9)
  have G5f := Lib.hid ((G5e.out.kept (below_here (.cells #[.string ⟨#[98]⟩] 9))).kept hb9)
  have L9 := hb9.size
  simp at L9
  clear hb9 B8 K2e K3e G4e G5e
  have N2 : w3.heap.size < w9.heap.size := by omega
  obtain ⟨x0, x1, -, -⟩ := G4f.out.1.all
  go_wp2_with fail
  refine (keys_ex exF [97] (by decide) (by decide) (by decide) 10 _ a3 c3 G4f.out.2.2).mono ?_
  rintro e w10 ⟨r10, rfl, h10, hb10⟩
  have B10 := Lib.hid (B9.out.trans (hb10.mono B9.out.size))
  have K3g := Lib.hid (K3f.out.kept hb10)
  have G5g := Lib.hid (G5f.out.kept hb10)
  have L10 := hb10.size
  clear hb10 B9 K3f G4f G5f x0 x1
  go_wp2_with fail
  refine (same_ex keyC rfl _ k3 _ d3 (K3g.out.kept (below_here _)) (key_row w10 99)).mono ?_
  rintro e w11 ⟨rfl, hb11⟩
  have B11 := Lib.hid ((B10.out.alloc B10.out.size (.cells #[.string ⟨#[99]⟩] 9)).trans (hb11.mono (by have := B10.out.size; simp; omega)))
  have G5h := Lib.hid ((G5g.out.kept (below_here (.cells #[.string ⟨#[99]⟩] 9))).kept hb11)
  have L11 := hb11.size
  simp at L11
  clear hb11 B10 K3g G5g
  have N3 : w5.heap.size < w11.heap.size := by omega
  obtain ⟨x0, x1, -, -⟩ := G5h.out.1.all
  have hkn : ((keyN.length : Int) == 0) = true := rfl
  go_wp2_with fail
  refine (keys_ex exI [97, 100] (by decide) (by decide) (by decide) 10 _ a5 c5 G5h.out.2.2).mono ?_
  rintro e w12 ⟨r12, rfl, h12, hb12⟩
  have B12 := Lib.hid (B11.out.trans (hb12.mono B11.out.size))
  have G5i := Lib.hid (G5h.out.kept hb12)
  have L12 := hb12.size
  clear hb12 B11 G5h x0 x1
  obtain ⟨x0, x1, -, -⟩ := G5i.out.1.all
  go_wp2_with fail
  refine (used_ex _ a5 c5 G5i.out.2.2).mono ?_
  rintro e w13 ⟨rfl, hb13⟩
  have B13 := Lib.hid (B12.out.trans (hb13.mono B12.out.size))
  have G5j := Lib.hid (G5i.out.kept hb13)
  clear hb13 B12 G5i x0 x1
  obtain ⟨x0, x1, -, -⟩ := G5j.out.1.all
  go_wp2_with fail
  refine (has_ex 100 true (by decide) _ a5 c5 G5j.out.2.2).mono ?_
  rintro e w14 ⟨rfl, hb14⟩
  have B14 := Lib.hid (B13.out.trans (hb14.mono B13.out.size))
  have G5k := Lib.hid (G5j.out.kept hb14)
  clear hb14 B13 G5j x0 x1
  obtain ⟨x0, x1, -, -⟩ := G5k.out.1.all
  go_wp2_with fail
  refine (has_ex 99 false (by decide) _ a5 c5 G5k.out.2.2).mono ?_
  rintro e w15 ⟨rfl, hb15⟩
  have B15 := Lib.hid (B14.out.trans (hb15.mono B14.out.size))
  clear hb15 B14 G5k x0 x1
  go_wp2_with fail
  go_ret
  exact ⟨rfl, B15.out⟩
end Go.Proofs.Ytdbfioafcpjkpaa
