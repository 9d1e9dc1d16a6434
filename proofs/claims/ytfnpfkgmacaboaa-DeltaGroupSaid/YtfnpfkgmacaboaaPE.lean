/-
  delta.markOf.
-/
import Derived.Test.YtfnpfkgmacaboaaPD
namespace Go.Proofs.Ytfnpfkgmacaboaa
open Go.ChangeShapes Go.WideShapes Go.ChangeAt Go.RowKit
set_option linter.unusedVariables false
set_option linter.unusedSimpArgs false

/-- The mark of a row at a tick. -/
abbrev markV (r : Rw) (t : Int) : Value := .agg #[.string r.src, .int .i64 r.seq, .string r.tb, .string r.ky, .int .i64 r.ev, .int .i64 r.no, .int .i64 r.tk, .int .i64 t, .string (strOf (encF r.vs))]
theorem B8_snoc (n : Int) (i : Nat) (hi : i < 8) : (B8 n).take (i + 1) = (B8 n).take i ++ [byteI n i] := take_snoc (by simp [B8, hi])
set_option maxHeartbeats 8000000 in
set_option maxRecDepth 100000 in
theorem mark_any (r : Rw) (t : Int) (w : World) (hr : r.Ok w) : Calls Try.prog 27 #[r.val, .int .i64 t] w fun e w' => e = .returned (markV r t) ∧ Below w.heap.size w w' := by
  have HR := Lib.hid hr.lies
  have hlen := hr.len
  have HS := Lib.hid hr.str
  clear hr
  dsimp only [Rw.val, markV]
  generalize hvs : r.vs = vs at *
  clear hvs
  go_enter Try.func27, Try.ntmps27
  go_upto_region 2 with fail
  refine wp_gen (fun W hW => ?_)
  have HW : Hid (Below w.heap.size w W) := by rw [hW]; exact below_two _ _
  have HT : Hid (Box W w.heap.size #[.string r.src, .int .i64 r.seq, .string r.tb, .string r.ky, .int .i64 r.ev, .slice r.fa vs.length r.fc, .int .i64 r.no, .int .i64 r.tk] 39) := by rw [hW]; exact (Box.new w _ _).kept (below_here _)
  have HZ : Hid (w.heap.size + 1 < W.heap.size) := by show _ < _; rw [hW]; simp
  have HTr : Hid (Box W (w.heap.size + 1) #[.string ⟨#[]⟩, .int .i64 0, .string ⟨#[]⟩, .string ⟨#[]⟩, .int .i64 0, .int .i64 0, .int .i64 0, .int .i64 0, .string ⟨#[]⟩] 75) := by
    rw [hW]
    show Box _ _ _ _
    have := Box.new (w.alloc (.cells #[.string r.src, .int .i64 r.seq, .string r.tb, .string r.ky, .int .i64 r.ev, .slice r.fa vs.length r.fc, .int .i64 r.no, .int .i64 r.tk] 39)) #[.string ⟨#[]⟩, .int .i64 0, .string ⟨#[]⟩, .string ⟨#[]⟩, .int .i64 0, .int .i64 0, .int .i64 0, .int .i64 0, .string ⟨#[]⟩] 75
    simpa using this
  obtain ⟨t0, t1, t2, t3, t4, t5, t6, t7⟩ := HT.out.at8
  clear hW
  go_wp2_with fail
  clear t0 t1 t2 t3 t4 t5 t6 t7
  go_loopw [5, 14] (fun v j wr => ∃ (i : Nat) (v0 : Value), v0 = v ∧ i ≤ vs.length ∧ j = .int .i64 i ∧ Hid (Own u8I 1 5 wr W.heap.size v (encF (vs.take i))) ∧ Below W.heap.size W wr) (fun _ j _ => vs.length - (intOf j).toNat)
  case atStart => exact ⟨0, _, rfl, by omega, rfl, Own.nil _ _, Below.refl _ _⟩
  case round =>
    obtain ⟨i, v0, rfl, hi, rfl, HO, hB⟩ := hrel
    have HB := Lib.hid hB
    clear hB
    obtain ⟨wo, hwo⟩ : ∃ wo, wo = wr := ⟨_, rfl⟩
    subst hwo
    by_cases hlt : i < vs.length
    · obtain ⟨x, hx⟩ : ∃ x, vs[i]? = some x := ⟨vs[i], List.getElem?_eq_getElem hlt⟩
      obtain ⟨b, off, hfa, hrow⟩ := lies_some ((HR.out.kept HW.out).kept HB.out) hx
      obtain ⟨c0, c1, c2⟩ := val_cell hrow hx
      have HX := Lib.hid hx
      have HXs : Hid (x.2.2.size ≤ 1048576) := HS.out x (List.mem_of_getElem? hx)
      have HEl : Hid ((encF (vs.take i)).length ≤ 1100000000000) := by
        have h1 := encF_length (vs.take i) (fun v hv => HS.out v (List.mem_of_mem_take hv))
        have h2 : (vs.take i).length ≤ 1048576 := by simp; omega
        have h3 := Nat.mul_le_mul_right 1048600 h2
        show _ ≤ _
        omega
      clear hrow hx
      obtain ⟨x0, x1, x2⟩ := x
      simp only at c0 c1 c2
      rw [hfa]
      go_wp2_with fail
      refine wp_gen (fun X hX => ?_)
      have HG1 : Hid (Box X wo.heap.size #[.int .i64 x0, .int .i64 x1, .string x2] 59) := by rw [hX]; exact (Box.new wo _ _).kept (below_here _)
      have HG2 : Hid (Box X (wo.heap.size + 1) #[.int .i64 x0, .int .i64 x1, .int .i64 (x2.size : Int)] 3) := by
        rw [hX]
        show Box _ _ _ _
        have := Box.new (wo.alloc (.cells #[.int .i64 x0, .int .i64 x1, .string x2] 59)) #[.int .i64 x0, .int .i64 x1, .int .i64 (x2.size : Int)] 3
        simpa using this
      have HBX : Hid (Below wo.heap.size wo X) := by rw [hX]; exact below_two _ _
      have HBag : Hid (Bag W X v0 (encF (vs.take i)) wo.heap.size (wo.heap.size + 1)) := by
        refine ⟨HO.out.kept HBX.out, keepB (Nat.le_refl _) HB.out HBX.out, ?_, ?_⟩ <;> (intro e; have := (HO.out.lt _ e).2; omega)
      clear hX c0 c1 c2
      generalize wo.heap.size = g1 at *
      have HEq : Hid (encF (vs.take (i + 1)) = encF (vs.take i) ++ (([x0, x1, (x2.size : Int)].flatMap B8) ++ x2.data.toList.map (fun b => (b.toNat : Int)))) := by
        show _ = _
        rw [encF_snoc HX.out]
        simp [encV]
      generalize encF (vs.take i) = acc at *
      have HLc : Hid (∀ (j : Nat) (c : Int), [x0, x1, (x2.size : Int)][j]? = some c → #[Value.int .i64 x0, .int .i64 x1, .int .i64 (x2.size : Int)][j]? = some (.int .i64 c)) := by
        intro j c hc
        match j, hc with
        | 0, hc => cases hc; rfl
        | 1, hc => cases hc; rfl
        | 2, hc => cases hc; rfl
      have HLl : Hid ([x0, x1, (x2.size : Int)].length = 3) := rfl
      generalize [x0, x1, (x2.size : Int)] = L at *
      generalize hC1 : #[Value.int .i64 x0, .int .i64 x1, .string x2] = C1 at *
      have HC1 := Lib.hid hC1
      clear hC1
      generalize #[Value.int .i64 x0, .int .i64 x1, .int .i64 (x2.size : Int)] = C2 at *
      go_loopw [5, 27] (fun v jj wr => ∃ (j : Nat) (v1 : Value), v1 = v ∧ j ≤ 3 ∧ jj = .int .i64 j ∧ Hid (Bag W wr v (acc ++ (L.take j).flatMap B8) g1 (g1 + 1)) ∧ Hid (Box wr g1 C1 59) ∧ Hid (Box wr (g1 + 1) C2 3)) (fun _ jj _ => 3 - (intOf jj).toNat)
      case atStart => exact ⟨0, _, rfl, by omega, rfl, by show Bag _ _ _ _ _ _; simpa using HBag.out, HG1, HG2⟩
      case round =>
        obtain ⟨j, v1, rfl, hj, rfl, HBag2, HG12, HG22⟩ := hrel
        obtain ⟨w2, hw2⟩ : ∃ w2, w2 = wr := ⟨_, rfl⟩
        subst hw2
        by_cases hjl : j < 3
        · obtain ⟨c, hc⟩ : ∃ c, L[j]? = some c := ⟨L[j]'(by rw [HLl.out]; exact hjl), List.getElem?_eq_getElem _⟩
          have hcell := HG22.out.cell j _ (HLc.out j c hc)
          have HF : Hid (acc ++ (L.take (j + 1)).flatMap B8 = acc ++ (L.take j).flatMap B8 ++ B8 c) := by show _ = _; rw [take_snoc hc]; simp
          have HA2 : Hid ((acc ++ (L.take j).flatMap B8).length ≤ 1200000000000) := by
            show _ ≤ _
            have h1 := HEl.out
            have h2 : ((L.take j).flatMap B8).length ≤ 24 := by
              have : ∀ l : List Int, (l.flatMap B8).length = l.length * 8 := by
                intro l
                induction l with
                | nil => rfl
                | cons a l ih => rw [List.flatMap_cons, List.length_append, ih, B8_length, List.length_cons]; omega
              rw [this]; simp; omega
            rw [List.length_append]; omega
          clear hc
          generalize acc ++ (L.take j).flatMap B8 = acc2 at *
          go_wp2_with fail
          rw [show decide ((j : Int) < 3) = true from decide_eq_true (by omega)]
          go_loopw [5, 31] (fun v jj wr => ∃ (q : Nat) (v2 : Value), v2 = v ∧ q ≤ 8 ∧ jj = .int .i64 q ∧ Hid (Bag W wr v (acc2 ++ (B8 c).take q) g1 (g1 + 1)) ∧ Hid (Box wr g1 C1 59) ∧ Hid (Box wr (g1 + 1) C2 3)) (fun _ jj _ => 8 - (intOf jj).toNat)
          case atStart => exact ⟨0, _, rfl, by omega, rfl, by show Bag _ _ _ _ _ _; simpa using HBag2.out, HG12, HG22⟩
          case round =>
            obtain ⟨q, v2, rfl, hq, rfl, HBag3, HG13, HG23⟩ := hrel
            by_cases hql : q < 8
            · have HF3 : Hid (acc2 ++ (B8 c).take (q + 1) = acc2 ++ (B8 c).take q ++ [byteI c q]) := by show _ = _; rw [B8_snoc c q hql, List.append_assoc]
              have HA3 : Hid ((acc2 ++ (B8 c).take q).length ≤ 2000000000000) := by show _ ≤ _; have := HA2.out; rw [List.length_append]; simp [B8_length]; omega
              generalize acc2 ++ (B8 c).take q = acc3 at *
              go_wp2_with (at_builtin; (refine wpList_byte HBag3.out HG13.out HG23.out rfl (.tmp 34) (.tmp 40) rfl rfl rfl HA3.out ?_); intro v3 w3 hb3 h13 h23; have HB4 := Lib.hid hb3; have HG14 := Lib.hid h13; have HG24 := Lib.hid h23; clear hb3 h13 h23)
              go_roundw
              case rel => exact ⟨q + 1, _, rfl, by omega, by go_num, by rw [HF3.out]; exact HB4.out, HG14, HG24⟩
              case measure => simp [intOf]; omega
            · obtain rfl : q = 8 := by omega
              go_wp2_with fail
              go_roundw
              case rel => exact ⟨j + 1, _, rfl, by omega, by go_num, by have := HBag3.out; rw [List.take_of_length_le (by rw [B8_length]; exact Nat.le_refl 8)] at this; rw [HF.out]; exact this, HG13, HG23⟩
              case measure => simp [intOf]; omega
        · obtain rfl : j = 3 := by omega
          have HFin : Hid (Bag W w2 v1 (acc ++ L.flatMap B8) g1 (g1 + 1)) := by have := HBag2.out; rw [List.take_of_length_le (by rw [HLl.out]; exact Nat.le_refl 3)] at this; exact this
          have HG12b : Hid (Box w2 g1 #[.int .i64 x0, .int .i64 x1, .string x2] 59) := by rw [HC1.out]; exact HG12.out
          obtain ⟨d0, d1, d2⟩ : w2.cell? ⟨g1, 0, none⟩ = some (.int .i64 x0) ∧ w2.cell? ⟨g1, 1, none⟩ = some (.int .i64 x1) ∧ w2.cell? ⟨g1, 2, none⟩ = some (.string x2) := ⟨HG12b.out.cell 0 _ rfl, HG12b.out.cell 1 _ rfl, HG12b.out.cell 2 _ rfl⟩
          have HLn : Hid ((acc ++ L.flatMap B8).length ≤ 2000000000000) := by
            have : ∀ l : List Int, (l.flatMap B8).length = l.length * 8 := by
              intro l
              induction l with
              | nil => rfl
              | cons a l ih => rw [List.flatMap_cons, List.length_append, ih, B8_length, List.length_cons]; omega
            show _ ≤ _
            have h1 := HEl.out
            rw [List.length_append, this, HLl.out]; omega
          have HSz : Hid (x2.size ≤ 2000000000000) := by have := HXs.out; show _ ≤ _; omega
          have HBS := Lib.hid HFin.out.below
          have HWs : Hid (W.heap.size ≤ w2.heap.size) := HFin.out.below.size
          have HEq2 : Hid (encF (vs.take (i + 1)) = acc ++ L.flatMap B8 ++ x2.data.toList.map (fun b => (b.toNat : Int))) := by show _ = _; rw [HEq.out, List.append_assoc]
          generalize acc ++ L.flatMap B8 = acc4 at *
          have HOw := Lib.hid HFin.out.own
          go_wp2_with (at_builtin; refine wpList_text HOw.out HWs.out rfl (.tmp 44) (.tmp 46) rfl rfl x2 rfl HLn.out HSz.out ?_; intro v5 w5 ho hb; have HO5 := Lib.hid ho; have HB5 := Lib.hid hb; clear ho hb)
          go_roundw
          case rel => exact ⟨i + 1, _, rfl, by omega, by go_num, by rw [HEq2.out]; exact HO5.out, HBS.out.trans HB5.out⟩
          case measure => simp [intOf]; omega
    · obtain rfl : i = vs.length := by omega
      have HOf : Hid (Own u8I 1 5 wo W.heap.size v0 (encF vs)) := by have := HO.out; rwa [List.take_length] at this
      have hconv := run_strOf HOf.out
      obtain ⟨t0, t1, t2, t3, t4, t5, t6, t7⟩ := (HT.out.kept HB.out).at8
      have HTf := Lib.hid (HTr.out.kept HB.out)
      have f0 := HTf.out.free 0
      have f1 := HTf.out.free 1
      have f2 := HTf.out.free 2
      have f3 := HTf.out.free 3
      have f4 := HTf.out.free 4
      have f5 := HTf.out.free 5
      have f6 := HTf.out.free 6
      have f7 := HTf.out.free 7
      have f8 := HTf.out.free 8
      have k0 := HTf.out.cell 0 _ rfl
      have k1 := HTf.out.cell 1 _ rfl
      have k2 := HTf.out.cell 2 _ rfl
      have k3 := HTf.out.cell 3 _ rfl
      have k4 := HTf.out.cell 4 _ rfl
      have k5 := HTf.out.cell 5 _ rfl
      have k6 := HTf.out.cell 6 _ rfl
      have k7 := HTf.out.cell 7 _ rfl
      have k8 := HTf.out.cell 8 _ rfl
      go_wp2_with fail
      refine gen_exit (fun V5 h5 => ?_)
      have HB5 : Hid (Below w.heap.size w V5) := by rw [h5]; exact ((((((((((HW.out.trans (HB.out.mono HW.out.size)).setCell (by simp) _).setCell (by simp) _).setCell (by simp) _).setCell (by simp) _).setCell (by simp) _).setCell (by simp) _).setCell (by simp) _).setCell (by simp) _).setCell (by simp) _)
      have HT5 : Hid (Box V5 (w.heap.size + 1) #[.string r.src, .int .i64 r.seq, .string r.tb, .string r.ky, .int .i64 r.ev, .int .i64 r.no, .int .i64 r.tk, .int .i64 t, .string (strOf (encF vs))] 75) := by rw [h5]; exact (((((((((HTf.out.put 0 _).put 1 _).put 2 _).put 3 _).put 4 _).put 5 _).put 6 _).put 7 _).put 8 _)
      clear h5 f0 f1 f2 f3 f4 f5 f6 f7 f8 k0 k1 k2 k3 k4 k5 k6 k7 k8 t0 t1 t2 t3 t4 t5 t6 t7
      have k0 := HT5.out.cell 0 _ rfl
      have k1 := HT5.out.cell 1 _ rfl
      have k2 := HT5.out.cell 2 _ rfl
      have k3 := HT5.out.cell 3 _ rfl
      have k4 := HT5.out.cell 4 _ rfl
      have k5 := HT5.out.cell 5 _ rfl
      have k6 := HT5.out.cell 6 _ rfl
      have k7 := HT5.out.cell 7 _ rfl
      have k8 := HT5.out.cell 8 _ rfl
      refine bodyPost_ret (v := .agg #[.string r.src, .int .i64 r.seq, .string r.tb, .string r.ky, .int .i64 r.ev, .int .i64 r.no, .int .i64 r.tk, .int .i64 t, .string (strOf (encF vs))]) ?_ rfl ⟨rfl, HB5.out⟩
      simp [results, Try.results27, go_sem, k0, k1, k2, k3, k4, k5, k6, k7, k8]
end Go.Proofs.Ytfnpfkgmacaboaa
