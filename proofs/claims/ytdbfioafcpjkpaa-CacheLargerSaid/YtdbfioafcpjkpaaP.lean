/-
  Two caches, or two lists of keys, that are the same.
-/
import Derived.Test.YtdbfioafcpjkpaaO
import Derived.Laws.StructEq
namespace Go.Proofs.Ytdbfioafcpjkpaa
open Go.ChangeShapes Go.WideShapes Go.ChangeAt Go.RowKit

theorem slots_neq (s t : ByteArray) (n m : Int) (w : World) : (binOp .neq 34 (.agg #[.string s, .int .i64 n]) (.agg #[.string t, .int .i64 m])).run Try.prog w = .ok (.bool (!(s.toList == t.toList && n == m))) w := by
  by_cases h1 : s.toList = t.toList <;> by_cases h2 : n = m <;> simp [go_sem, h1, h2]

set_option maxHeartbeats 1000000 in
set_option maxRecDepth 100000 in
theorem same_any (L : Int) (l : List Sl) (ao bo : Option Addr) (cap cap' : Nat) (hl : l.length ≤ 4611686018427387904) (w : World) (h : SlotsAt w ao l) (h' : SlotsAt w bo l) :
    Calls Try.prog 18 #[.agg #[.int .i64 L, .slice ao l.length cap], .agg #[.int .i64 L, .slice bo l.length cap']] w fun e w' => e = .returned (.bool true) ∧ Below w.heap.size w w' := by
  have H := Lib.hid h
  have H' := Lib.hid h'
  clear h h'
  go_enter Try.func18, Try.ntmps18
  go_wp2_with fail
  refine wp_gen (fun W hW => ?_)
  have HW : Hid (Below w.heap.size w W ∧ Two W w.heap.size (.int .i64 L) (.slice ao l.length cap) ∧ Two W (w.heap.size + 1) (.int .i64 L) (.slice bo l.length cap')) := by
    rw [hW]
    refine ⟨(below_here _).alloc (by simp) _, (Two.new _ _ _).kept (below_here _), ?_⟩
    have := Two.new (w.alloc (.cells #[.int .i64 L, .slice ao l.length cap] 24)) (.int .i64 L) (.slice bo l.length cap')
    simpa using this
  clear hW
  go_loopw [5] (fun v wr => ∃ i : Nat, v = .int .i64 i ∧ i ≤ l.length ∧ Below W.heap.size W wr) (fun v _ => l.length - (intOf v).toNat)
  case atStart => exact ⟨0, rfl, Nat.zero_le _, Below.refl _ _⟩
  case round =>
    obtain ⟨i, rfl, hi, hB⟩ := hrel
    obtain ⟨b0, b1, -, -⟩ := (HW.out.2.1.kept hB).all
    obtain ⟨c0, c1, -, -⟩ := (HW.out.2.2.kept hB).all
    have HBw := HW.out.1.trans (hB.mono HW.out.1.size)
    by_cases hlt : i < l.length
    · obtain ⟨x, hx⟩ : ∃ x, l[i]? = some x := ⟨l[i], List.getElem?_eq_getElem hlt⟩
      obtain ⟨b, off, rfl, hrow⟩ := (H.out.kept HBw).some (by omega)
      obtain ⟨b', off', rfl, hrow'⟩ := (H'.out.kept HBw).some (by omega)
      obtain ⟨s, hs, hc, hc2⟩ := hrow i x hx
      obtain ⟨s', hs', hc', hc2'⟩ := hrow' i x hx
      have hn := slots_neq s s' x.2 x.2
      have hb : (!(s.toList == s'.toList && x.2 == x.2)) = false := by rw [hs, hs']; simp
      rw [hb] at hn
      have hi0 : (0 : Int) ≤ (i : Int) := by omega
      have hil : (i : Int) < (l.length : Int) := by omega
      clear hs hs' hrow hrow' hx hb
      go_wp2_with fail
      go_quiet (fail)
      go_wp2_with fail
      go_roundw
      case rel => exact ⟨i + 1, by go_num, by omega, below_drewN hB _⟩
      case measure => simp [intOf]; omega
    · have hi2 : i = l.length := by omega
      subst hi2
      go_wp2_with fail
      go_ret
      exact ⟨rfl, HBw⟩
set_option maxHeartbeats 1000000 in
set_option maxRecDepth 100000 in
theorem sameKeys_any (l : List (List UInt8)) (ao bo : Option Addr) (cap cap' : Nat) (hl : l.length ≤ 4611686018427387904) (w : World) (h : KeysAt w ao l) (h' : KeysAt w bo l) :
    Calls Try.prog 21 #[.slice ao l.length cap, .slice bo l.length cap'] w fun e w' => e = .returned (.bool true) ∧ Below w.heap.size w w' := by
  have H := Lib.hid h
  have H' := Lib.hid h'
  clear h h'
  go_enter Try.func21, Try.ntmps21
  go_wp2_with fail
  go_loopw [5] (fun v wr => ∃ i : Nat, v = .int .i64 i ∧ i ≤ l.length ∧ Below w.heap.size w wr) (fun v _ => l.length - (intOf v).toNat)
  case atStart => exact ⟨0, rfl, Nat.zero_le _, Below.refl _ _⟩
  case round =>
    obtain ⟨i, rfl, hi, hB⟩ := hrel
    by_cases hlt : i < l.length
    · obtain ⟨x, hx⟩ : ∃ x, l[i]? = some x := ⟨l[i], List.getElem?_eq_getElem hlt⟩
      obtain ⟨b, off, rfl, hrow⟩ := (H.out.kept hB).some (by omega)
      obtain ⟨b', off', rfl, hrow'⟩ := (H'.out.kept hB).some (by omega)
      obtain ⟨s, hs, hc⟩ := hrow i x hx
      obtain ⟨s', hs', hc'⟩ := hrow' i x hx
      have hb : (s.toList == s'.toList) = true := by rw [hs, hs']; simp
      have hi0 : (0 : Int) ≤ (i : Int) := by omega
      have hil : (i : Int) < (l.length : Int) := by omega
      clear hs hs' hrow hrow' hx
      go_wp2_with fail
      go_quiet (fail)
      go_wp2_with fail
      go_roundw
      case rel => exact ⟨i + 1, by go_num, by omega, below_drewN hB _⟩
      case measure => simp [intOf]; omega
    · have hi2 : i = l.length := by omega
      subst hi2
      go_wp2_with fail
      go_ret
      exact ⟨rfl, hB⟩
end Go.Proofs.Ytdbfioafcpjkpaa
