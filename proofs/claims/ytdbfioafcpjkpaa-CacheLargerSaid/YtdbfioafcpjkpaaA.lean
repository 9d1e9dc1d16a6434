/-
  Lists of slots that lie in memory, and the functions that look a key up.
-/
import Derived.Test.YtdbfioafcpjkpaaProg
import Derived.WalkKit
import Derived.ProofKit
import Derived.Lib.Hide
import Derived.RegionTactic
namespace Go.Proofs.Ytdbfioafcpjkpaa
open Go.ChangeShapes Go.WideShapes Go.ChangeAt Go.RowKit

/-- A slot: its key's bytes and its weight. -/
abbrev Sl := List UInt8 × Int
/-- An element as it lies at an address. -/
def SlotAt (w : World) (b o : Nat) (x : Sl) : Prop := ∃ s : ByteArray, s.toList = x.1 ∧ w.cell? ⟨b, o, none⟩ = some (.string s) ∧ w.cell? ⟨b, o + 1, none⟩ = some (.int .i64 x.2)
/-- A row of elements as it lies from a place on. -/
def RowAt (w : World) (b off : Nat) (l : List Sl) : Prop := ∀ i x, l[i]? = some x → SlotAt w b (off + i * 2) x
/-- A slice's elements. -/
def SlotsAt (w : World) (ao : Option Addr) (l : List Sl) : Prop := l = [] ∨ ∃ b off, ao = some ⟨b, off, none⟩ ∧ RowAt w b off l
theorem bsome {X w' : World} (hb : Below X.heap.size X w') : (∀ p, (X.cell? p).isSome = true → w'.cell? p = X.cell? p) ∧ (∀ p, (X.cell? p).isSome = true → w'.frozen? p = X.frozen? p) := by
  have hlt : ∀ p, (X.cell? p).isSome = true → p.block < X.heap.size := by
    intro p h
    rcases Nat.lt_or_ge p.block X.heap.size with hp | hp
    · exact hp
    · have : X.heap[p.block]? = none := Array.getElem?_eq_none hp
      simp [World.cell?, this] at h
  exact ⟨fun p h => hb.cell (hlt p h), fun p h => hb.frozen (hlt p h)⟩
theorem SlotAt.kept {w w' : World} {b o : Nat} {x : Sl} (h : SlotAt w b o x) (hb : Below w.heap.size w w') : SlotAt w' b o x := by
  obtain ⟨s, e, h1, h2⟩ := h
  exact ⟨s, e, by rw [(bsome hb).1 _ (by rw [h1]; rfl), h1], by rw [(bsome hb).1 _ (by rw [h2]; rfl), h2]⟩
theorem RowAt.kept {w w' : World} {b off : Nat} {l : List Sl} (h : RowAt w b off l) (hb : Below w.heap.size w w') : RowAt w' b off l := fun i x hx => (h i x hx).kept hb
theorem SlotsAt.kept {w w' : World} {ao : Option Addr} {l : List Sl} (h : SlotsAt w ao l) (hb : Below w.heap.size w w') : SlotsAt w' ao l := by
  rcases h with h | ⟨b, off, e, h⟩
  · exact Or.inl h
  · exact Or.inr ⟨b, off, e, h.kept hb⟩
/-- The place of the first slot of a key, or -1. -/
def pos (key : List UInt8) : List Sl → Nat → Int
  | [], _ => -1
  | x :: l, i => if (x.1 == key) = true then i else pos key l (i + 1)
theorem drop_at {l : List Sl} {i : Nat} {x : Sl} (h : l[i]? = some x) : l.drop i = x :: l.drop (i + 1) := by
  obtain ⟨hlt, hx⟩ := List.getElem?_eq_some_iff.1 h
  rw [List.drop_eq_getElem_cons hlt, hx]

set_option maxHeartbeats 1000000 in
set_option maxRecDepth 100000 in
theorem find_some (l : List Sl) (key : ByteArray) (b off cap : Nat) (hl : l.length ≤ 4611686018427387904) (w : World) (h : RowAt w b off l) :
    Calls Try.prog 26 #[.slice (some ⟨b, off, none⟩) l.length cap, .string key] w fun e w' => e = .returned (.int .i64 (pos key.toList l 0)) ∧ Below w.heap.size w w' := by
  have H := Lib.hid h
  clear h
  go_enter Try.func26, Try.ntmps26
  go_wp2_with fail
  go_loopw [5] (fun v wr => ∃ i : Nat, i ≤ l.length ∧ v = .int .i64 i ∧ Below w.heap.size w wr ∧ pos key.toList l 0 = pos key.toList (l.drop i) i) (fun v _ => l.length - (intOf v).toNat)
  case atStart => exact ⟨0, by omega, rfl, Below.refl _ _, rfl⟩
  case round =>
    obtain ⟨i, hi, rfl, hB, hp⟩ := hrel
    by_cases hlt : i < l.length
    · obtain ⟨x, hx⟩ : ∃ x, l[i]? = some x := ⟨l[i], List.getElem?_eq_getElem hlt⟩
      obtain ⟨s, hs, hc, -⟩ := (H.out.kept hB) i x hx
      rw [drop_at hx] at hp
      simp only [pos] at hp
      rcases hk : (x.1 == key.toList) with _ | _
      · rw [hk, if_neg (by simp)] at hp
        have HP := Lib.hid hp
        clear hp
        go_wp2_with fail
        go_roundw
        case rel => exact ⟨i + 1, by omega, by go_num, hB, HP.out⟩
        case measure => simp [intOf]; omega
      · rw [hk, if_pos rfl] at hp
        have HP := Lib.hid hp
        clear hp
        go_wp2_with fail
        refine bodyPost_ret (v := .int .i64 i) (by simp [results, Try.results26, go_sem]) rfl ⟨by rw [HP.out], hB⟩
    · have hi2 : i = l.length := by omega
      subst hi2
      rw [List.drop_length] at hp
      go_wp2_with fail
      go_ret
      exact ⟨by rw [hp]; rfl, hB⟩
theorem find_none (key : ByteArray) (ao : Option Addr) (cap : Nat) (w : World) :
    Calls Try.prog 26 #[.slice ao 0 cap, .string key] w fun e w' => e = .returned (.int .i64 (-1)) ∧ Below w.heap.size w w' := by
  go_enter Try.func26, Try.ntmps26
  go_wp2_with fail
  go_loopw [5] (fun v wr => v = .int .i64 0 ∧ wr = w) (fun _ _ => 0)
  case atStart => exact ⟨rfl, rfl⟩
  case round =>
    obtain ⟨rfl, rfl⟩ := hrel
    go_wp2_with fail
    go_ret
    exact ⟨rfl, Below.refl _ _⟩
theorem find_any (l : List Sl) (key : ByteArray) (ao : Option Addr) (cap : Nat) (hl : l.length ≤ 4611686018427387904) (w : World) (h : SlotsAt w ao l) :
    Calls Try.prog 26 #[.slice ao l.length cap, .string key] w fun e w' => e = .returned (.int .i64 (pos key.toList l 0)) ∧ Below w.heap.size w w' := by
  rcases h with rfl | ⟨b, off, rfl, h⟩
  · exact find_none key ao cap w
  · exact find_some l key b off cap hl w h
end Go.Proofs.Ytdbfioafcpjkpaa
