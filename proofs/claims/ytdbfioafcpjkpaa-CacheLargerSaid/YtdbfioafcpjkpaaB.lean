/-
  The cache's own search: the function that finds a key's slot, and the library's search with it.
-/
import Derived.Test.YtdbfioafcpjkpaaA
namespace Go.Proofs.Ytdbfioafcpjkpaa
open Go.ChangeShapes Go.WideShapes Go.ChangeAt Go.RowKit

theorem of_any (key : ByteArray) (w : World) : Calls Try.prog 29 #[.string key] w fun e w' => ∃ c, e = .returned (.func (.func 32) #[] #[.pointer (some ⟨c, 0, none⟩)]) ∧ w.heap.size ≤ c ∧ w'.cell? ⟨c, 0, none⟩ = some (.string key) ∧ Below w.heap.size w w' := by
  go_enter Try.func29, Try.ntmps29
  go_wp2_with fail
  go_ret
  exact ⟨_, rfl, Nat.le_refl _, by simp [go_sem], (Below.refl _ _).alloc (Nat.le_refl _) _⟩

theorem like_any (s key : ByteArray) (v : Int) (c : Nat) (w : World) (hc : w.cell? ⟨c, 0, none⟩ = some (.string key)) :
    Calls Try.prog 32 #[.agg #[.string s, .int .i64 v], .pointer (some ⟨c, 0, none⟩)] w fun e w' => e = .returned (.bool (s.toList == key.toList)) ∧ Below w.heap.size w w' := by
  have hlt : c < w.heap.size := by
    rcases Nat.lt_or_ge c w.heap.size with hp | hp
    · exact hp
    · have : w.heap[c]? = none := Array.getElem?_eq_none hp
      simp [World.cell?, this] at hc
  have hc2 : (w.alloc (.cells #[.string s, .int .i64 v] 34)).cell? ⟨c, 0, none⟩ = some (.string key) := by rw [(Below.alloc (Below.refl w.heap.size w) (Nat.le_refl _) _).cell hlt, hc]
  go_enter Try.func32, Try.ntmps32
  go_wp2_with fail
  go_ret
  exact ⟨rfl, (Below.refl _ _).alloc (Nat.le_refl _) _⟩

set_option maxHeartbeats 1000000 in
set_option maxRecDepth 100000 in
theorem search_some (l : List Sl) (key : ByteArray) (c b off cap : Nat) (hl : l.length ≤ 4611686018427387904) (w : World) (h : RowAt w b off l) (hc : w.cell? ⟨c, 0, none⟩ = some (.string key)) :
    Calls Try.prog 31 #[.slice (some ⟨b, off, none⟩) l.length cap, .func (.func 32) #[] #[.pointer (some ⟨c, 0, none⟩)]] w fun e w' => e = .returned (.int .i64 (pos key.toList l 0)) ∧ Below w.heap.size w w' := by
  have H := Lib.hid h
  have HC := Lib.hid hc
  clear h hc
  go_enter Try.func31, Try.ntmps31
  go_wp2_with fail
  go_loopw [8] (fun v wr => ∃ i : Nat, i ≤ l.length ∧ v = .int .i64 i ∧ Below w.heap.size w wr ∧ pos key.toList l 0 = pos key.toList (l.drop i) i) (fun v _ => l.length - (intOf v).toNat)
  case atStart => exact ⟨0, by omega, rfl, Below.refl _ _, rfl⟩
  case round =>
    obtain ⟨i, hi, rfl, hB, hp⟩ := hrel
    by_cases hlt : i < l.length
    · obtain ⟨x, hx⟩ : ∃ x, l[i]? = some x := ⟨l[i], List.getElem?_eq_getElem hlt⟩
      obtain ⟨s, hs, hc, hc2⟩ := (H.out.kept hB) i x hx
      have hkey : wr.cell? ⟨c, 0, none⟩ = some (.string key) := by rw [(bsome hB).1 _ (by rw [HC.out]; rfl), HC.out]
      rw [drop_at hx] at hp
      simp only [pos] at hp
      go_wp2_with fail
      refine (like_any s key x.2 c wr hkey).mono ?_
      rintro e w1 ⟨rfl, hb⟩
      have HB := hB.trans (hb.mono hB.size)
      rw [hs]
      rcases hk : (x.1 == key.toList) with _ | _
      · rw [hk, if_neg (by simp)] at hp
        have HP := Lib.hid hp
        clear hp hb
        go_wp2_with fail
        go_roundw
        case rel => exact ⟨i + 1, by omega, by go_num, HB, HP.out⟩
        case measure => simp [intOf]; omega
      · rw [hk, if_pos rfl] at hp
        have HP := Lib.hid hp
        clear hp hb
        go_wp2_with fail
        refine bodyPost_ret (v := .int .i64 i) (by simp [results, Try.results31, go_sem]) rfl ⟨by rw [HP.out], HB⟩
    · have hi2 : i = l.length := by omega
      subst hi2
      rw [List.drop_length] at hp
      go_wp2_with fail
      go_ret
      exact ⟨by rw [hp]; rfl, hB⟩
end Go.Proofs.Ytdbfioafcpjkpaa
