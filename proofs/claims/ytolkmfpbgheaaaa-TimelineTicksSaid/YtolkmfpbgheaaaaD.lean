/-
  Lists of intervals that lie in memory; asofref06.Same compares two of them.
-/
import Derived.Test.YtolkmfpbgheaaaaC
import Derived.RegionTactic
namespace Go.Proofs.Ytolkmfpbgheaaaa
open Go.ChangeShapes Go.WideShapes Go.ChangeAt Go.RowKit
set_option linter.unusedVariables false

/-- An interval: where it begins and where it ends. -/
abbrev Iv := Int × Int
/-- An element as it lies at an address. -/
def SlotAt (w : World) (b o : Nat) (x : Iv) : Prop := w.cell? ⟨b, o, none⟩ = some (.int .i64 x.1) ∧ w.cell? ⟨b, o + 1, none⟩ = some (.int .i64 x.2)
/-- A row of elements as it lies from a place on. -/
def RowAt (w : World) (b off : Nat) (l : List Iv) : Prop := ∀ i x, l[i]? = some x → SlotAt w b (off + i * 2) x
/-- A slice's elements. -/
def SlotsAt (w : World) (ao : Option Addr) (l : List Iv) : Prop := l = [] ∨ ∃ b off, ao = some ⟨b, off, none⟩ ∧ RowAt w b off l
theorem bsome {X w' : World} (hb : Below X.heap.size X w') : (∀ p, (X.cell? p).isSome = true → w'.cell? p = X.cell? p) ∧ (∀ p, (X.cell? p).isSome = true → w'.frozen? p = X.frozen? p) := by
  have hlt : ∀ p, (X.cell? p).isSome = true → p.block < X.heap.size := by
    intro p h
    rcases Nat.lt_or_ge p.block X.heap.size with hp | hp
    · exact hp
    · have : X.heap[p.block]? = none := Array.getElem?_eq_none hp
      simp [World.cell?, this] at h
  exact ⟨fun p h => hb.cell (hlt p h), fun p h => hb.frozen (hlt p h)⟩
theorem SlotAt.kept {w w' : World} {b o : Nat} {x : Iv} (h : SlotAt w b o x) (hb : Below w.heap.size w w') : SlotAt w' b o x := by
  obtain ⟨h1, h2⟩ := h
  exact ⟨by rw [(bsome hb).1 _ (by rw [h1]; rfl), h1], by rw [(bsome hb).1 _ (by rw [h2]; rfl), h2]⟩
theorem RowAt.kept {w w' : World} {b off : Nat} {l : List Iv} (h : RowAt w b off l) (hb : Below w.heap.size w w') : RowAt w' b off l := fun i x hx => (h i x hx).kept hb
theorem SlotsAt.kept {w w' : World} {ao : Option Addr} {l : List Iv} (h : SlotsAt w ao l) (hb : Below w.heap.size w w') : SlotsAt w' ao l := by
  rcases h with h | ⟨b, off, e, h⟩
  · exact Or.inl h
  · exact Or.inr ⟨b, off, e, h.kept hb⟩

theorem take_step {l k : List Iv} {i : Nat} {x : Iv} (h : l.take i = k.take i) (hx : l[i]? = some x) (hy : k[i]? = some x) : l.take (i + 1) = k.take (i + 1) := by
  rw [List.take_add_one, List.take_add_one, hx, hy, h]

set_option maxHeartbeats 1000000 in
set_option maxRecDepth 100000 in
theorem same_some (l k : List Iv) (b off cap b2 off2 cap2 : Nat) (hl : l.length ≤ 4611686018427387904) (he : k.length = l.length) (w : World) (h : RowAt w b off l) (h2 : RowAt w b2 off2 k) :
    Calls Try.prog 16 #[.slice (some ⟨b, off, none⟩) l.length cap, .slice (some ⟨b2, off2, none⟩) l.length cap2] w fun e w' => e = .returned (.bool (decide (l = k))) ∧ Below w.heap.size w w' := by
  have H := Lib.hid h
  have H2 := Lib.hid h2
  have HE := Lib.hid he
  clear h h2 he
  go_enter Try.func16, Try.ntmps16
  go_wp2_with fail
  go_loopw [5] (fun v wr => ∃ i : Nat, i ≤ l.length ∧ v = .int .i64 i ∧ Hid (l.take i = k.take i) ∧ Below w.heap.size w wr) (fun v _ => l.length - (intOf v).toNat)
  case atStart => exact ⟨0, by omega, rfl, Lib.hid (by simp), Below.refl _ _⟩
  case round =>
    obtain ⟨i, hi, rfl, ht, hB⟩ := hrel
    by_cases hlt : i < l.length
    · obtain ⟨x, hx⟩ : ∃ x, l[i]? = some x := ⟨l[i], List.getElem?_eq_getElem hlt⟩
      obtain ⟨y, hy⟩ : ∃ y, k[i]? = some y := ⟨k[i]'(by rw [HE.out]; exact hlt), List.getElem?_eq_getElem (by rw [HE.out]; exact hlt)⟩
      obtain ⟨c1, c2⟩ := (H.out.kept hB) i x hx
      obtain ⟨d1, d2⟩ := (H2.out.kept hB) i y hy
      by_cases hxy : x = y
      · subst hxy
        have hn := Lib.hid (take_step ht.out hx hy)
        clear hx hy
        go_wp2_with fail
        go_quiet (fail)
        go_wp2_with fail
        go_roundw
        case rel => exact ⟨i + 1, by omega, by go_num, hn, below_drewN hB _⟩
        case measure => simp [intOf]; omega
      · have hne : l ≠ k := by
          intro h
          rw [h, hy] at hx
          exact hxy (Option.some.inj hx).symm
        have HN := Lib.hid (decide_eq_false hne)
        have hab : ¬ (x.1 = y.1 ∧ x.2 = y.2) := fun h => hxy (Prod.ext h.1 h.2)
        clear hne hxy hx hy
        by_cases h1 : x.1 = y.1
        · have e1 : (x.1 == y.1) = true := by simp [h1]
          have e2 : (x.2 == y.2) = false := by simp; exact fun h => hab ⟨h1, h⟩
          clear hab h1
          go_wp2_with fail
          go_quiet (fail)
          go_wp2_with fail
          go_ret
          exact ⟨by rw [HN.out]; rfl, below_drewN hB _⟩
        · have e1 : (x.1 == y.1) = false := by simp [h1]
          clear hab h1
          go_wp2_with fail
          go_quiet (fail)
          go_wp2_with fail
          go_ret
          exact ⟨by rw [HN.out]; rfl, below_drewN hB _⟩
    · have hi2 : i = l.length := by omega
      have hlk : l = k := by
        have := ht.out
        rw [hi2, List.take_length, ← HE.out, List.take_length] at this
        exact this
      have HN := Lib.hid (decide_eq_true hlk)
      subst hi2
      clear hlk
      go_wp2_with fail
      go_ret
      exact ⟨by rw [HN.out]; rfl, hB⟩

theorem same_none (a1 a2 : Option Addr) (cap cap2 : Nat) (w : World) :
    Calls Try.prog 16 #[.slice a1 0 cap, .slice a2 0 cap2] w fun e w' => e = .returned (.bool true) ∧ Below w.heap.size w w' := by
  go_enter Try.func16, Try.ntmps16
  go_wp2_with fail
  go_loopw [5] (fun v wr => v = .int .i64 0 ∧ Below w.heap.size w wr) (fun _ _ => 0)
  case atStart => exact ⟨rfl, Below.refl _ _⟩
  case round =>
    obtain ⟨rfl, hB⟩ := hrel
    go_wp2_with fail
    go_ret
    exact ⟨rfl, hB⟩
theorem same_diff (n m : Nat) (a1 a2 : Option Addr) (cap cap2 : Nat) (h : ¬ n = m) (w : World) :
    Calls Try.prog 16 #[.slice a1 n cap, .slice a2 m cap2] w fun e w' => e = .returned (.bool false) ∧ Below w.heap.size w w' := by
  have e1 : ((n : Int) == (m : Int)) = false := by simp; omega
  go_enter Try.func16, Try.ntmps16
  go_wp2_with fail
  go_ret
  exact ⟨rfl, Below.refl _ _⟩
theorem same_any (l k : List Iv) (a1 a2 : Option Addr) (cap cap2 : Nat) (hl : l.length ≤ 4611686018427387904) (w : World) (h : SlotsAt w a1 l) (h2 : SlotsAt w a2 k) :
    Calls Try.prog 16 #[.slice a1 l.length cap, .slice a2 k.length cap2] w fun e w' => e = .returned (.bool (decide (l = k))) ∧ Below w.heap.size w w' := by
  by_cases he : l.length = k.length
  · rcases h with rfl | ⟨b, off, rfl, h⟩
    · obtain rfl : k = [] := List.eq_nil_of_length_eq_zero he.symm
      refine (same_none a1 a2 cap cap2 w).mono ?_
      rintro e w' ⟨rfl, hb⟩
      exact ⟨by simp, hb⟩
    · rcases h2 with rfl | ⟨b2, off2, rfl, h2⟩
      · obtain rfl : l = [] := List.eq_nil_of_length_eq_zero he
        refine (same_none _ a2 cap cap2 w).mono ?_
        rintro e w' ⟨rfl, hb⟩
        exact ⟨by simp, hb⟩
      · rw [← he]
        exact same_some l k b off cap b2 off2 cap2 hl he.symm w h h2
  · rw [decide_eq_false (fun hh => he (by rw [hh]))]
    exact same_diff _ _ a1 a2 cap cap2 he w
end Go.Proofs.Ytolkmfpbgheaaaa
