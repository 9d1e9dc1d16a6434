/-
  delta.between, facts.Base, asoflaw20.at.
-/
import Derived.Test.YtfnpfkgmacaboaaQE
namespace Go.Proofs.Ytfnpfkgmacaboaa
open Go.ChangeShapes Go.WideShapes Go.ChangeAt Go.RowKit
set_option linter.unusedVariables false
set_option linter.unusedSimpArgs false

theorem i64_small (n : Int) (h : n = -1 ∨ n = 1) : I64 n := by rcases h with rfl | rfl <;> unfold I64 <;> omega
/-- The differences between two lists of rows, at a tick. -/
def betD (a b : List Rw) (t : Int) : List Dl := a.map (fun r => ⟨r, t, -1⟩) ++ b.map (fun r => ⟨r, t, 1⟩)
set_option maxHeartbeats 8000000 in
set_option maxRecDepth 100000 in
theorem between_any (l k : List Rw) (a1 a2 : Option Addr) (c1 c2 : Nat) (t : Int) (ht : I64 t) (hl : l.length ≤ 10000000) (hk : k.length ≤ 10000000) (w : World) (h1 : RowsAt w a1 l) (h2 : RowsAt w a2 k) :
    Calls Try.prog 39 #[.slice a1 l.length c1, .slice a2 k.length c2, .int .i64 t] w fun e w' => ∃ v, e = .returned v ∧ OwnD w' w.heap.size v (betD l k t) ∧ Below w.heap.size w w' := by
  have H1 := Lib.hid h1
  have H2 := Lib.hid h2
  have HT := Lib.hid ht
  clear h1 h2 ht
  go_enter Try.func39, Try.ntmps39
  go_wp2_with fail
  go_loopw [6, 13] (fun v jj wr => ∃ (i : Nat) (v0 : Value), v0 = v ∧ i ≤ l.length ∧ jj = .int .i64 i ∧ Hid (Own Dl.cells 10 41 wr w.heap.size v ((l.take i).map (fun r => ⟨r, t, -1⟩))) ∧ Hid (Below w.heap.size w wr)) (fun _ jj _ => l.length - (intOf jj).toNat)
  case atStart => exact ⟨0, _, rfl, by omega, rfl, Own.nil _ _, Below.refl _ _⟩
  case round =>
    obtain ⟨i, v0, rfl, hi, rfl, HR, HB⟩ := hrel
    by_cases hlt : i < l.length
    · obtain ⟨x, hx⟩ : ∃ x, l[i]? = some x := ⟨l[i], List.getElem?_eq_getElem hlt⟩
      obtain ⟨b, off, rfl, hrow⟩ := lies_some (H1.out.1.kept HB.out) hx
      obtain ⟨c0, c1', c2', c3, c4, c5, c6, c7⟩ := Rw.cell hrow hx
      have HX := Lib.hid hx
      have HF : Hid ((l.take (i + 1)).map (fun r => (⟨r, t, -1⟩ : Dl)) = (l.take i).map (fun r => ⟨r, t, -1⟩) ++ [⟨x, t, -1⟩]) := by show _ = _; rw [take_snoc HX.out, List.map_append]; rfl
      have HLn : Hid (((l.take i).map (fun r => (⟨r, t, -1⟩ : Dl))).length ≤ 10000000) := by show _ ≤ _; simp; omega
      generalize (l.take i).map (fun r => (⟨r, t, -1⟩ : Dl)) = r at *
      clear hrow hx
      have HX6 : Hid (Below w.heap.size w ((wr.alloc (.cells (Rw.cells x).toArray 39)).alloc (.cells (Dl.cells ⟨x, t, -1⟩).toArray 41))) := (have hz := HB.out.alloc HB.out.size (.cells (Rw.cells x).toArray 39); hz.alloc hz.size _)
      have HO6 : Hid (Own Dl.cells 10 41 ((wr.alloc (.cells (Rw.cells x).toArray 39)).alloc (.cells (Dl.cells ⟨x, t, -1⟩).toArray 41)) w.heap.size v0 r) := (HR.out.kept (below_here _)).kept (below_here _)
      have HS6 : Hid (LiesAt Dl.cells 10 ((wr.alloc (.cells (Rw.cells x).toArray 39)).alloc (.cells (Dl.cells ⟨x, t, -1⟩).toArray 41)) (some ⟨(wr.alloc (.cells (Rw.cells x).toArray 39)).heap.size, 0, none⟩) [(⟨x, t, -1⟩ : Dl)]) := lies_one _ _ encD
      rw [show (wr.alloc (.cells (Rw.cells x).toArray 39)).heap.size = wr.heap.size + 1 by simp] at HS6
      have HLa : Hid (r.length + [(⟨x, t, -1⟩ : Dl)].length ≤ 1000000000) := by show _ ≤ _; have := HLn.out; simp; omega
      go_wp2_with (at_builtin; refine wpList_app elD encD rfl (.tmp 17) (.tmp 21) rfl rfl rfl HO6.out HS6.out rfl (fun e => by cases e) HX6.out.size HLa.out ?_; intro v5 w5 ho hb; have HO5 := Lib.hid ho; have HX5 := Lib.hid (HX6.out.trans hb); clear ho hb)
      go_roundw
      case rel => exact ⟨i + 1, _, rfl, by omega, by go_num, by rw [HF.out]; exact HO5.out, HX5.out⟩
      case measure => simp [intOf]; omega
    · obtain rfl : i = l.length := by omega
      rw [List.take_length] at HR
      obtain ⟨m, hm⟩ : ∃ m, m = l.map (fun r => (⟨r, t, -1⟩ : Dl)) := ⟨_, rfl⟩
      have HM := Lib.hid hm
      rw [← hm] at HR
      have HMl : Hid (m.length ≤ 10000000) := by show _ ≤ _; rw [hm, List.length_map]; exact hl
      clear hm
      generalize l.length = nl at *
      go_wp2_with fail
      go_loopw [6, 26] (fun v jj wr' => ∃ (i : Nat) (v1 : Value), v1 = v ∧ i ≤ k.length ∧ jj = .int .i64 i ∧ Hid (Own Dl.cells 10 41 wr' w.heap.size v (m ++ (k.take i).map (fun r => ⟨r, t, 1⟩))) ∧ Hid (Below w.heap.size w wr')) (fun _ jj _ => k.length - (intOf jj).toNat)
      case atStart => exact ⟨0, _, rfl, by omega, rfl, by simpa using HR, HB⟩
      case round =>
        obtain ⟨i, v1, rfl, hi, rfl, HR, HB⟩ := hrel
        by_cases hlt : i < k.length
        · obtain ⟨x, hx⟩ : ∃ x, k[i]? = some x := ⟨k[i], List.getElem?_eq_getElem hlt⟩
          obtain ⟨b, off, rfl, hrow⟩ := lies_some (H2.out.1.kept HB.out) hx
          obtain ⟨c0, c1', c2', c3, c4, c5, c6, c7⟩ := Rw.cell hrow hx
          have HX := Lib.hid hx
          have HF : Hid (m ++ (k.take (i + 1)).map (fun r => (⟨r, t, 1⟩ : Dl)) = (m ++ (k.take i).map (fun r => ⟨r, t, 1⟩)) ++ [⟨x, t, 1⟩]) := by show _ = _; rw [take_snoc HX.out, List.map_append, List.append_assoc]; rfl
          have HLn : Hid ((m ++ (k.take i).map (fun r => (⟨r, t, 1⟩ : Dl))).length ≤ 20000000) := by show _ ≤ _; have := HMl.out; simp; omega
          generalize m ++ (k.take i).map (fun r => (⟨r, t, 1⟩ : Dl)) = r at *
          clear hrow hx
          have HX6 : Hid (Below w.heap.size w ((wr.alloc (.cells (Rw.cells x).toArray 39)).alloc (.cells (Dl.cells ⟨x, t, 1⟩).toArray 41))) := (have hz := HB.out.alloc HB.out.size (.cells (Rw.cells x).toArray 39); hz.alloc hz.size _)
          have HO6 : Hid (Own Dl.cells 10 41 ((wr.alloc (.cells (Rw.cells x).toArray 39)).alloc (.cells (Dl.cells ⟨x, t, 1⟩).toArray 41)) w.heap.size v1 r) := (HR.out.kept (below_here _)).kept (below_here _)
          have HS6 : Hid (LiesAt Dl.cells 10 ((wr.alloc (.cells (Rw.cells x).toArray 39)).alloc (.cells (Dl.cells ⟨x, t, 1⟩).toArray 41)) (some ⟨(wr.alloc (.cells (Rw.cells x).toArray 39)).heap.size, 0, none⟩) [(⟨x, t, 1⟩ : Dl)]) := lies_one _ _ encD
          rw [show (wr.alloc (.cells (Rw.cells x).toArray 39)).heap.size = wr.heap.size + 1 by simp] at HS6
          have HLa : Hid (r.length + [(⟨x, t, 1⟩ : Dl)].length ≤ 1000000000) := by show _ ≤ _; have := HLn.out; simp; omega
          go_wp2_with (at_builtin; refine wpList_app elD encD rfl (.tmp 30) (.tmp 34) rfl rfl rfl HO6.out HS6.out rfl (fun e => by cases e) HX6.out.size HLa.out ?_; intro v5 w5 ho hb; have HO5 := Lib.hid ho; have HX5 := Lib.hid (HX6.out.trans hb); clear ho hb)
          go_roundw
          case rel => exact ⟨i + 1, _, rfl, by omega, by go_num, by rw [HF.out]; exact HO5.out, HX5.out⟩
          case measure => simp [intOf]; omega
        · obtain rfl : i = k.length := by omega
          rw [List.take_length] at HR
          go_wp2_with fail
          go_ret
          refine ⟨_, rfl, ⟨by unfold betD; rw [← HM.out]; exact HR.out, fun d hd => ?_⟩, HB.out⟩
          rcases List.mem_append.1 hd with hd | hd <;> obtain ⟨y, hy, rfl⟩ := List.mem_map.1 hd
          · exact ⟨(H1.out.2 y hy).kept HB.out, HT.out, i64_small _ (by simp)⟩
          · exact ⟨(H2.out.2 y hy).kept HB.out, HT.out, i64_small _ (by simp)⟩
/-- A fact's base: its own identifier for an assertion, else its source's with its Ref. -/
def baseF (src : ByteArray) (seq kind ref : Int) : FID := if kind = 1 then (src, seq) else (src, ref)
set_option maxHeartbeats 2000000 in
set_option maxRecDepth 100000 in
theorem base_any (src tb ky : ByteArray) (seq kind ref ev : Int) (fa : Option Addr) (n c : Nat) (w : World) :
    Calls Try.prog 73 #[.agg #[.string src, .int .i64 seq, .int .i64 kind, .int .i64 ref, .string tb, .string ky, .int .i64 ev, .slice fa n c]] w fun e w' => e = .returned (fidV (baseF src seq kind ref)) ∧ Below w.heap.size w w' := by
  by_cases hk : kind = 1
  · subst hk
    go_enter Try.func73, Try.ntmps73
    go_wp2_with fail
    refine bodyPost_ret (v := fidV (src, seq)) (by simp [results, Try.results73, go_sem]) rfl ⟨rfl, ?_⟩
    first | exact below_two _ _ | exact (((below_two _ _).setCell (by simp) _).setCell (by simp) _)
  · have hb : baseF src seq kind ref = (src, ref) := if_neg hk
    rw [hb]
    go_enter Try.func73, Try.ntmps73
    go_wp2_with fail
    refine bodyPost_ret (v := fidV (src, ref)) (by simp [results, Try.results73, go_sem]) rfl ⟨rfl, ?_⟩
    first | exact below_two _ _ | exact (((below_two _ _).setCell (by simp) _).setCell (by simp) _)
end Go.Proofs.Ytfnpfkgmacaboaa
