/-
  A list of slots without one of them.
-/
import Derived.Test.YtdbfioafcpjkpaaF
import Derived.Outline
namespace Go.Proofs.Ytdbfioafcpjkpaa
open Go.ChangeShapes Go.WideShapes Go.ChangeAt Go.RowKit

theorem info34z : (Try.prog.info? 34).map (fun i => (i.zero, i.size, i.bytes)) = some (some (.agg #[.string ByteArray.empty, .int .i64 0]), 2, 24) := by kernel_rfl
theorem addr_add (b off n : Nat) : (⟨b, off, none⟩ : Addr).add n = ⟨b, off + n, none⟩ := by simp [Addr.add]
theorem SlotsAt.some {w : World} {ao : Option Addr} {l : List Sl} (h : SlotsAt w ao l) (hl : 0 < l.length) : ∃ b off, ao = some ⟨b, off, none⟩ ∧ RowAt w b off l := by
  rcases h with rfl | h
  · simp at hl
  · exact h

set_option maxHeartbeats 1000000 in
set_option maxRecDepth 100000 in
theorem without_any (l : List Sl) (i : Nat) (hi : i < l.length) (ao : Option Addr) (cap : Nat) (hc : l.length ≤ cap) (hl : l.length * 24 ≤ 140737488355328) (w : World) (h : SlotsAt w ao l) :
    Calls Try.prog 30 #[.slice ao l.length cap, .int .i64 i] w fun e w' => ∃ g, e = .returned (.slice (some ⟨g, 0, none⟩) (l.length - 1) (l.length - 1)) ∧ w.heap.size ≤ g ∧ RowAt w' g 0 (l.take i ++ l.drop (i + 1)) ∧ Below w.heap.size w w' := by
  obtain ⟨b, off, rfl, hrow⟩ := h.some (by omega)
  obtain ⟨vs, hvl, hvc, hv1, hrep⟩ := hrow.cells
  obtain ⟨n, hn⟩ : ∃ n, l.length = n + 1 := ⟨l.length - 1, by omega⟩
  have hlt : b < w.heap.size := by
    obtain ⟨s, -, hs, -⟩ := hrow 0 l[0] (List.getElem?_eq_getElem (by omega))
    rcases Nat.lt_or_ge b w.heap.size with hp | hp
    · exact hp
    · have : w.heap[b]? = none := Array.getElem?_eq_none hp
      simp [World.cell?, this] at hs
  have hrepA := (hrep.take i).append (by rw [List.length_take, List.length_take, hvl]; omega) (hrep.drop (i + 1))
  have hrowA : ∀ w2 g, (∀ j v, (vs.take (i * 2) ++ vs.drop ((i + 1) * 2))[j]? = some v → w2.cell? ⟨g, 0 + j, none⟩ = some v) → RowAt w2 g 0 (l.take i ++ l.drop (i + 1)) := fun w2 g hc => hrepA.row hc
  obtain ⟨i0, hi0, hz0, hz1, hz2⟩ := info_parts info34z
  obtain ⟨ZS, hZS⟩ : ∃ ZS : List Value, ZS = (madeCells #[.string ByteArray.empty, .int .i64 0] (n * 2)).toList := ⟨_, rfl⟩
  have hmk : ∀ w, (Instr.makeSlice 51 (.int .i64 n) (.int .i64 n)).run Try.prog w = .ok (.slice (some ⟨w.heap.size, 0, none⟩) n n) (w.alloc (.cells ZS.toArray 34)) := by
    intro w
    have := run_make (P := Try.prog) w 51 34 i0 _ Try.underlying51 hi0 hz0 .i64 .i64 n n (by omega) (by omega) (by rw [hz2]; omega) (by omega)
    rw [this, hZS, hz1]; simp [Value.cells]
  have hup := run_upto (P := Try.prog) 51 34 2 Try.underlying51 info34 (some ⟨b, off, none⟩) (n + 1) cap i (by omega)
  obtain ⟨A1, hA1, hA1'⟩ := run_from (P := Try.prog) 51 34 2 Try.underlying51 info34 (some ⟨w.heap.size, 0, none⟩) n n i i rfl (by omega)
  obtain ⟨A2, hA2, hA2'⟩ := run_from (P := Try.prog) 51 34 2 Try.underlying51 info34 (some ⟨b, off, none⟩) (n + 1) cap (i + 1) (i + 1) (by omega) (by omega)
  rw [show n + 1 - (i + 1) = n - i by omega] at hA2
  have hw1 : IntKind.i64.wrap ((i : Int) + 1) = (i : Int) + 1 := IntWalk.i64_in _ (by omega)
  have HA1 := Lib.hid (hA1' _ _ rfl)
  have HA2 := Lib.hid (hA2' _ _ rfl)
  have HR := Lib.hid hrowA
  have HC := Lib.hid hvc
  have H1 := Lib.hid hv1
  have HL := Lib.hid hvl
  have HZ : Hid (ZS.length = n * 2) := by show _ = _; rw [hZS]; simp [size_madeCells]
  clear hrepA hrep hrowA hA1' hA2' hvc hv1 hvl hrow h hZS
  rw [hn]
  have HN := Lib.hid hn
  have hX : Hid (∃ X1 X2, X1 = vs.take (i * 2) ∧ X2 = vs.drop ((i + 1) * 2)) := ⟨_, _, rfl, rfl⟩
  obtain ⟨X1, X2, e1, e2⟩ := hX.out
  have E1 := Lib.hid e1
  have E2 := Lib.hid e2
  clear e1 e2 hX
  have hg : (w.alloc (.cells ZS.toArray 34)).heap[w.heap.size]? = some (.cells ZS.toArray 34 (0, 0)) := heap_alloc_new w _
  have L1 : X1.length = i * 2 := by rw [E1.out, List.length_take, HL.out]; omega
  have L2 : X2.length = (n - i) * 2 := by rw [E2.out, List.length_drop, HL.out, HN.out]; omega
  have HL1 := Lib.hid L1
  have HL2 := Lib.hid L2
  have hcell1 : Hid (∀ j v, X1[j]? = some v → (w.alloc (.cells ZS.toArray 34)).cell? ((⟨b, off, none⟩ : Addr).add j) = some v) := by
    intro j v hj
    rw [addr_add, World.cell?_alloc_lt _ _ _ hlt]
    apply HC.out
    rw [E1.out, List.getElem?_take] at hj
    split at hj
    · exact hj
    · cases hj
  have hG := Lib.hid hg
  have HCAP : Hid (n + 1 ≤ cap) := by show _ ≤ _; omega
  have hnb : n ≤ 5864062014805 := by omega
  have hin : i ≤ n := by omega
  have C1 : Hid (X1.length = Nat.min i n * 2) := by show _ = _; rw [L1]; congr 1; show _ = min _ _; omega
  have C3 : Hid (0 + X1.length ≤ ZS.length) := by show _ ≤ _; rw [L1, HZ.out]; omega
  have C4 : Hid (∀ v ∈ X1, v.oneCell' = true) := fun v hv => H1.out v (by rw [E1.out] at hv; exact List.mem_of_mem_take hv)
  have C6 : Hid (X2.length = Nat.min (n - i) (n - i) * 2) := by show _ = _; rw [L2]; congr 1; show _ = min _ _; omega
  have C7 : Hid (∀ v ∈ X2, v.oneCell' = true) := fun v hv => H1.out v (by rw [E2.out] at hv; exact List.mem_of_mem_drop hv)
  have C8 : Hid (i * 2 + X2.length ≤ (splice ZS 0 X1).length) := by show _ ≤ _; rw [length_splice _ _ _ C3.out, HZ.out, L2]; omega
  have C9 : Hid (splice (splice ZS 0 X1) (i * 2) X2 = X1 ++ X2) := splice2 _ _ _ _ L1 (by rw [HZ.out, L2]; omega)
  have C0 : Hid (Below w.heap.size w (w.alloc (.cells ZS.toArray 34))) := (Below.refl _ _).alloc (Nat.le_refl _) _
  clear hn L1 L2 hg hl hi hc
  go_enter Try.func30, Try.ntmps30
  go_wp2_with ((with_reducible refine wpList_copy_of rfl (.tmp 10) (.tmp 13) 51 51 rfl 34 2 Try.underlying51 info34 (by decide) _ _ _ _ _ _ rfl rfl w.heap.size 0 ZS 34 hG.out X1 C1.out (fun _ => ⟨rfl, _, rfl, hcell1.out⟩) C3.out C4.out w.heap.size w C0.out (Nat.le_refl _) ?_); intro v1 w2 HG2 hB2)
  have hcell2 : Hid (∀ j v, X2[j]? = some v → w2.cell? ((⟨b, off + (i + 1) * 2, none⟩ : Addr).add j) = some v) := by
    intro j v hj
    rw [addr_add, hB2.cell hlt]
    rw [E2.out, List.getElem?_drop] at hj
    rw [Nat.add_assoc]
    exact HC.out _ _ hj
  clear hcell1
  have HG3 : Hid (w2.drew.heap[w.heap.size]? = some (.cells (splice ZS 0 X1).toArray 34 (0, 0))) := HG2.out
  have HP3 : Hid (0 < X2.length → A1 = some ⟨w.heap.size, i * 2, none⟩ ∧ ∃ ad, A2 = some ad ∧ ∀ j v, X2[j]? = some v → w2.drew.cell? (ad.add j) = some v) := by
    intro hp
    have hlt3 : i < n := by
      rw [HL2.out] at hp; omega
    exact ⟨by rw [HA1.out hlt3, Nat.zero_add], _, HA2.out (by have := HCAP.out; omega), hcell2.out⟩
  have HB3 : Hid (Below w.heap.size w w2.drew) := hB2.drew
  clear hcell2
  go_wp2_with fail
  go_region_law ((refine step_copy_of rfl (.tmp 17) (.tmp 21) 51 51 rfl 34 2 Try.underlying51 info34 (by decide) A1 A2 (n - i) (n - i) (n - i) (cap - (i + 1)) (by simp [go_sem]) (by simp [go_sem]) w.heap.size (i * 2) (splice ZS 0 X1) 34 HG3.out X2 C6.out HP3.out C8.out C7.out w.heap.size w HB3.out (Nat.le_refl _) ?_; intro v4 w4 HG4 hB4))
  all_goals
    go_wp2_with fail
    refine bodyPost_ret (v := .slice (some ⟨w.heap.size, 0, none⟩) n n) (by simp [results, Try.results30, go_sem]) rfl ⟨w.heap.size, rfl, Nat.le_refl _, HR.out _ _ ?_, hB4⟩
    intro j v hj
    have := HG4.out
    rw [C9.out] at this
    rw [cell_of_row _ _ _ _ _ _ this, ← hj, E1.out, E2.out]
    simp
end Go.Proofs.Ytdbfioafcpjkpaa
