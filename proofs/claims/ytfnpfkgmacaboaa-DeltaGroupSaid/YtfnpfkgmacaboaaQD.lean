/-
  delta.At, walked.
-/
import Derived.Test.YtfnpfkgmacaboaaQB
import Derived.Test.YtfnpfkgmacaboaaLG
namespace Go.Proofs.Ytfnpfkgmacaboaa
open Go.ChangeShapes Go.WideShapes Go.ChangeAt Go.RowKit
set_option linter.unusedVariables false
set_option linter.unusedSimpArgs false

/-- A difference as of the beginning; those up to a tick, so; the rows there. -/
def Dl.at0 (x : Dl) : Dl := { x with tick := 0 }
theorem Dl.Ok.at0 {w : World} {d : Dl} (h : d.Ok w) : d.at0.Ok w := { h with tick := ⟨by show (-9223372036854775808 : Int) ≤ 0; decide, by show (0 : Int) ≤ 9223372036854775807; decide⟩ }
def atD (l : List Dl) (t : Int) : List Dl := (l.filter (fun d => decide (d.tick ≤ t))).map Dl.at0
theorem atD_snoc (l : List Dl) (t : Int) (x : Dl) : atD (l ++ [x]) t = atD l t ++ (if x.tick ≤ t then [x.at0] else []) := by
  unfold atD
  rw [List.filter_append, List.map_append]
  by_cases h : x.tick ≤ t <;> simp [h]
def rowsD (l : List Dl) : List Rw := (l.filter (fun d => decide (0 < d.n))).map Dl.r
theorem rowsD_snoc (l : List Dl) (x : Dl) : rowsD (l ++ [x]) = rowsD l ++ (if 0 < x.n then [x.r] else []) := by
  unfold rowsD
  rw [List.filter_append, List.map_append]
  by_cases h : 0 < x.n <;> simp [h]
theorem atD_len (l : List Dl) (t : Int) : (atD l t).length ≤ l.length := by unfold atD; rw [List.length_map]; exact List.length_filter_le _ _
theorem rowsD_len (l : List Dl) : (rowsD l).length ≤ l.length := by unfold rowsD; rw [List.length_map]; exact List.length_filter_le _ _
set_option maxHeartbeats 8000000 in
set_option maxRecDepth 100000 in
theorem fat_walk (l : List Dl) (ao : Option Addr) (cap : Nat) (hl : l.length ≤ 10000000) (t : Int) (w : World) (h : DlsAt w ao l) :
    Calls Try.prog 15 #[.slice ao l.length cap, .int .i64 t] w fun e w' => ∃ v l3, e = .returned v ∧ l3.length ≤ l.length ∧ l3.map Dl.kn = consK ((atD l t).map Dl.kn) ∧ OwnR w' w.heap.size v (rowsD l3) ∧ Below w.heap.size w w' := by
  have H := Lib.hid h
  clear h
  go_enter Try.func15, Try.ntmps15
  go_wp2_with fail
  go_loopw [5, 12] (fun v jj wr => ∃ (i : Nat) (v0 : Value), v0 = v ∧ i ≤ l.length ∧ jj = .int .i64 i ∧ Hid (Own Dl.cells 10 41 wr w.heap.size v (atD (l.take i) t)) ∧ Hid (Below w.heap.size w wr)) (fun _ jj _ => l.length - (intOf jj).toNat)
  case atStart => exact ⟨0, _, rfl, by omega, rfl, Own.nil _ _, Below.refl _ _⟩
  case round =>
    obtain ⟨i, v0, rfl, hi, rfl, HR, HB⟩ := hrel
    by_cases hlt : i < l.length
    · obtain ⟨x, hx⟩ : ∃ x, l[i]? = some x := ⟨l[i], List.getElem?_eq_getElem hlt⟩
      obtain ⟨b, off, rfl, hrow⟩ := lies_some (H.out.1.kept HB.out) hx
      obtain ⟨c0, c1, c2, c3, c4, c5, c6, c7, c8, c9⟩ := Dl.cell hrow hx
      have HX := Lib.hid hx
      have HF : Hid (atD (l.take (i + 1)) t = atD (l.take i) t ++ (if x.tick ≤ t then [x.at0] else [])) := by show _ = _; rw [take_snoc HX.out, atD_snoc]
      have HLn : Hid ((atD (l.take i) t).length ≤ 10000000) := by show _ ≤ _; have := atD_len (l.take i) t; simp at this; omega
      generalize atD (l.take i) t = r at *
      clear hrow hx
      by_cases ht : x.tick ≤ t
      · rw [if_pos ht] at HF
        go_upto_region 7 with fail
        refine wp_gen (fun X hX => ?_)
        have HG : Hid (Box X wr.heap.size #[.string x.r.src, .int .i64 x.r.seq, .string x.r.tb, .string x.r.ky, .int .i64 x.r.ev, .slice x.r.fa x.r.vs.length x.r.fc, .int .i64 x.r.no, .int .i64 x.r.tk, .int .i64 0, .int .i64 x.n] 41) := by rw [hX]; exact Box.new wr _ _
        have HWX : Hid (Below w.heap.size w X) := by rw [hX]; exact HB.out.alloc HB.out.size _
        have HOX : Hid (Own Dl.cells 10 41 X w.heap.size v0 r) := by rw [hX]; exact HR.out.kept (below_here _)
        clear hX c0 c1 c2 c3 c4 c5 c6 c7 c8 c9
        obtain ⟨d0, d1, d2, d3, d4, d5, d6, d7, d8, d9⟩ := HG.out.at10
        have HX6 : Hid (Below w.heap.size w (X.alloc (.cells (Dl.cells x.at0).toArray 41))) := HWX.out.alloc HWX.out.size _
        have HO6 : Hid (Own Dl.cells 10 41 (X.alloc (.cells (Dl.cells x.at0).toArray 41)) w.heap.size v0 r) := HOX.out.kept (below_here _)
        have HS6 : Hid (LiesAt Dl.cells 10 (X.alloc (.cells (Dl.cells x.at0).toArray 41)) (some ⟨X.heap.size, 0, none⟩) [x.at0]) := lies_one _ _ encD
        have HLa : Hid (r.length + [x.at0].length ≤ 1000000000) := by show _ ≤ _; have := HLn.out; simp; omega
        go_wp2_with (at_builtin; refine wpList_app elD encD rfl (.tmp 21) (.tmp 23) rfl rfl rfl HO6.out HS6.out rfl (fun e => by cases e) HX6.out.size HLa.out ?_; intro v5 w5 ho hb; have HO5 := Lib.hid ho; have HX5 := Lib.hid (HX6.out.trans hb); clear ho hb)
        go_roundw
        case rel => exact ⟨i + 1, _, rfl, by omega, by go_num, by rw [HF.out]; exact HO5.out, HX5.out⟩
        case measure => simp [intOf]; omega
      · rw [if_neg ht, List.append_nil] at HF
        go_wp2_with fail
        go_roundw
        case rel => exact ⟨i + 1, _, rfl, by omega, by go_num, by rw [HF.out]; exact HR.out.kept (below_here _), HB.out.alloc HB.out.size _⟩
        case measure => simp [intOf]; omega
    · obtain rfl : i = l.length := by omega
      rw [List.take_length] at HR
      have HOd : Hid (OwnD wr w.heap.size v0 (atD l t)) := ⟨HR.out, fun d hd => by
        obtain ⟨y, hy, rfl⟩ := List.mem_map.1 hd
        exact ((H.out.2 y (List.mem_filter.1 hy).1).kept HB.out).at0⟩
      obtain ⟨a2, c2, rfl, hr1, hr2, hr3⟩ := HOd.out.lies
      have HC := Lib.hid (fcons_any (atD l t) a2 c2 (Nat.le_trans (atD_len l t) hl) wr hr3)
      have HLat : Hid ((atD l t).length ≤ l.length) := atD_len l t
      clear hr1 hr2 hr3
      generalize hll : l.length = nl at *
      have HNL := Lib.hid hll
      clear hll
      generalize hml : (atD l t).length = ml at *
      clear hml
      go_wp2_with (go_at_call 12; (with_reducible refine HC.out.mono ?_); rintro e w1 ⟨v1, l3, rfl, hs, hl3, hm3, hb⟩; obtain ⟨a3, c3, rfl, hs1, hs2, hs3⟩ := hs; have HS3 := Lib.hid hs3; have HL3 := Lib.hid hl3; have HM3 := Lib.hid hm3; have HB1 := Lib.hid (keepB (Nat.le_refl _) HB.out hb); clear hs1 hs2 hs3 hl3 hm3 hb)
      have H3l : Hid (l3.length ≤ nl) := Nat.le_trans HL3.out HLat.out
      go_loopw [4, 29] (fun v jj wr => ∃ (i : Nat) (v0 : Value), v0 = v ∧ i ≤ l3.length ∧ jj = .int .i64 i ∧ Hid (Own Rw.cells 8 39 wr w1.heap.size v (rowsD (l3.take i))) ∧ Hid (Below w1.heap.size w1 wr)) (fun _ jj _ => l3.length - (intOf jj).toNat)
      case atStart => exact ⟨0, _, rfl, by omega, rfl, Own.nil _ _, Below.refl _ _⟩
      case round =>
        obtain ⟨i, v0, rfl, hi, rfl, HR, HBB⟩ := hrel
        by_cases hlt : i < l3.length
        · obtain ⟨x, hx⟩ : ∃ x, l3[i]? = some x := ⟨l3[i], List.getElem?_eq_getElem hlt⟩
          obtain ⟨b, off, rfl, hrow⟩ := lies_some (HS3.out.1.kept HBB.out) hx
          obtain ⟨c0, c1, c2, c3, c4, c5, c6, c7, c8, c9⟩ := Dl.cell hrow hx
          have HX := Lib.hid hx
          have HF : Hid (rowsD (l3.take (i + 1)) = rowsD (l3.take i) ++ (if 0 < x.n then [x.r] else [])) := by show _ = _; rw [take_snoc HX.out, rowsD_snoc]
          have h3l := H3l.out
          have HLn : Hid ((rowsD (l3.take i)).length ≤ 10000000) := by show _ ≤ _; have := rowsD_len (l3.take i); simp at this; omega
          generalize rowsD (l3.take i) = r at *
          clear hrow hx
          by_cases ht : 0 < x.n
          · rw [if_pos ht] at HF
            have HX6 : Hid (Below w1.heap.size w1 ((wr.alloc (.cells (Dl.cells x).toArray 41)).alloc (.cells (Rw.cells x.r).toArray 39))) := have hz := HBB.out.alloc HBB.out.size (.cells (Dl.cells x).toArray 41); hz.alloc hz.size _
            have HO6 : Hid (Own Rw.cells 8 39 ((wr.alloc (.cells (Dl.cells x).toArray 41)).alloc (.cells (Rw.cells x.r).toArray 39)) w1.heap.size v0 r) := (HR.out.kept (below_here _)).kept (below_here _)
            have HS6 : Hid (LiesAt Rw.cells 8 ((wr.alloc (.cells (Dl.cells x).toArray 41)).alloc (.cells (Rw.cells x.r).toArray 39)) (some ⟨(wr.alloc (.cells (Dl.cells x).toArray 41)).heap.size, 0, none⟩) [x.r]) := lies_one _ _ encR
            rw [show (wr.alloc (.cells (Dl.cells x).toArray 41)).heap.size = wr.heap.size + 1 by simp] at HS6
            have HLa : Hid (r.length + [x.r].length ≤ 1000000000) := by show _ ≤ _; have := HLn.out; simp; omega
            go_wp2_with (at_builtin; refine wpList_app elR encR rfl (.tmp 36) (.tmp 39) rfl rfl rfl HO6.out HS6.out rfl (fun e => by cases e) HX6.out.size HLa.out ?_; intro v5 w5 ho hb; have HO5 := Lib.hid ho; have HX5 := Lib.hid (HX6.out.trans hb); clear ho hb)
            go_roundw
            case rel => exact ⟨i + 1, _, rfl, by omega, by go_num, by rw [HF.out]; exact HO5.out, HX5.out⟩
            case measure => simp [intOf]; omega
          · rw [if_neg ht, List.append_nil] at HF
            go_wp2_with fail
            go_roundw
            case rel => exact ⟨i + 1, _, rfl, by omega, by go_num, by rw [HF.out]; exact HR.out.kept (below_here _), HBB.out.alloc HBB.out.size _⟩
            case measure => simp [intOf]; omega
        · obtain rfl : i = l3.length := by omega
          rw [List.take_length] at HR
          go_wp2_with fail
          go_ret
          refine ⟨_, l3, rfl, by rw [HNL.out]; exact H3l.out, HM3.out, ⟨HR.out.mono HB1.out.size, fun d hd => ?_⟩, keepB (Nat.le_refl _) HB1.out HBB.out⟩
          obtain ⟨y, hy, rfl⟩ := List.mem_map.1 hd
          exact ((HS3.out.2 y (List.mem_filter.1 hy).1).kept HBB.out).r
end Go.Proofs.Ytfnpfkgmacaboaa
