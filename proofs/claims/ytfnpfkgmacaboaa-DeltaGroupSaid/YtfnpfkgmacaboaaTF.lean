/-
  history.Effective: the rows that are effective at a tick.
-/
import Derived.Test.YtfnpfkgmacaboaaTE
namespace Go.Proofs.Ytfnpfkgmacaboaa
open Go.ChangeShapes Go.WideShapes Go.ChangeAt Go.RowKit Go.Maps
set_option linter.unusedVariables false
set_option linter.unusedSimpArgs false

/-- A list of rows in a slice, for a reader. -/
def SlR (w : World) (v : Value) (l : List Rw) : Prop := ∃ ao c, v = .slice ao l.length c ∧ l.length ≤ c ∧ (ao = none → c = 0) ∧ RowsAt w ao l
theorem SlR.kept {w w' : World} {v : Value} {l : List Rw} (h : SlR w v l) (hb : Below w.heap.size w w') : SlR w' v l := let ⟨a, c, h1, h2, h3, h4⟩ := h; ⟨a, c, h1, h2, h3, h4.kept hb⟩
/-- slices.SortFunc at rows. -/
theorem sortR_any (w0 : World) (l : List Rw) (w : World) (hB : Go.RowKit.Below w0.heap.size w0 w) (ao : Option Addr) (cap : Nat) (h : Own Rw.cells 8 39 w w0.heap.size (.slice ao l.length cap) l) (hl : l.length < 4611686018427387904) :
    Calls Try.prog 57 #[.slice ao l.length cap, .func (.func 49) #[] #[]] w fun r w' => r = .returned (.tuple #[]) ∧ ∃ p, l.Perm p ∧ p.Pairwise (fun x y => ¬ cmpE y.ek x.ek < 0) ∧ LiesAt Rw.cells 8 w' ao p ∧ Go.RowKit.Below w0.heap.size w0 w' :=
  sort_gen encR cmpE_cmp Rw.ek (fun _ => True) Try.sortR Try.isAgg39 Try.sizeOf39 (by decide) 49 (Go.Proofs.enters_of Try.func49 (by kernel_rfl) rfl) w0
    (fun x y _ _ w' hb => frow_any x y w') l w hB ao cap h (fun _ _ => trivial) hl
set_option maxRecDepth 100000 in
set_option maxHeartbeats 8000000 in
theorem eff_any (l : List En) (ao : Option Addr) (c : Nat) (t : Int) (hl : l.length ≤ 100000) (w : World) (h : EnsAt w ao l) :
    Calls Try.prog 38 #[.slice ao l.length c, .int .i64 t] w fun e w' => ∃ v rows, e = .returned v ∧ SlR w' v rows ∧ EffIs l t rows ∧ rows.length ≤ l.length ∧ (∀ g, v.ownBlock = some g → w.heap.size ≤ g) ∧ Below w.heap.size w w' := by
  have H := Lib.hid h
  clear h
  have HE := Lib.hid (erased_any l ao c hl w H.out)
  have HBs := Lib.hid (fun w' (hb : Below w.heap.size w w') => bases_any l ao c t (by omega) w' (H.out.kept hb))
  go_enter Try.func38, Try.ntmps38
  go_wp2_with (first
    | (go_at_call 55; (with_reducible refine HE.out.mono ?_); rintro e w1 ⟨m, T, rfl, hE⟩; have HER := Lib.hid hE; have HB1 := Lib.hid hE.below; clear hE)
    | (go_at_call 56; (with_reducible refine (HBs.out _ HB1.out).mono ?_); rintro e w2 ⟨b2, m2, rfl, ht, hm2, hb2, hb⟩; have HTB := Lib.hid ht; have HB2 : Hid (Below w.heap.size w w2) := HB1.out.trans (hb.mono HB1.out.size); have HTG : Hid (Tab w2 keysF w.heap.size m (tabV (tabI (erS l)) Value.bool)) := HER.out.ids.kept hb; clear ht hb)
    | (at_range; refine wpList_range rfl (.tmp 13) 107 rfl 110 Try.underlying107 rfl HTB.out ?_; intro w3 cnt0 hrg hgr hsz; have HRg := Lib.hid hrg; have HGr := Lib.hid hgr; have HSz := Lib.hid hsz; clear hrg hgr hsz))
  go_frame
  have HB3 : Hid (Below w.heap.size w w3) := HB2.out.grown HGr.out HB2.out.size (fun j hj => by cases hj)
  have HC0 : Hid (cnt0 ≤ m2) := HRg.out.cnt_le
  have HT3 : Hid (Tab w3 keysF w.heap.size m (tabV (tabI (erS l)) Value.bool)) := HTG.out.grown HGr.out (by simp)
  have Hbr : Hid (b2 < w3.heap.size ∧ w2.heap.size < w3.heap.size) := by have h1 := HSz.out; have h2 := HTB.out.lt; exact ⟨by omega, by omega⟩
  have Hwr : Hid (w.heap.size ≤ w2.heap.size) := HB2.out.size
  have HGL : Hid (w.heap.size < b2 ∧ w.heap.size < w2.heap.size) := by have h1 := HTG.out.lt; have h2 := HER.out.size; exact ⟨by omega, h1⟩
  generalize w2.heap.size = r at *
  clear HE HBs HER HB1 HB2 HTB HTG HGr HSz
  go_loopw [4] (fun v wr => ∃ (xs : List Rw) (left : { k : FID // OkF k } → Bool) (cnt : Nat) (v0 : Value), v0 = v ∧ Hid (Own Rw.cells 8 39 wr w3.heap.size v xs ∧ xs.length + cnt ≤ cnt0) ∧ Hid (Tabs wr keysF b2 r m2 (tabV (tabB (untl l t)) bsV) left cnt) ∧ Hid (TookE l t left xs) ∧ Hid (Tab wr keysF w.heap.size m (tabV (tabI (erS l)) Value.bool)) ∧ Hid (Below w.heap.size w wr) ∧ Hid (w3.heap.size ≤ wr.heap.size)) (fun _ wr => wr.rangeLeft b2 r)
  case atStart => exact ⟨[], _, cnt0, _, rfl, ⟨Own.nil _ _, by simp⟩, HRg, TookE.start l t, HT3, HB3, Nat.le_refl _⟩
  case round =>
    obtain ⟨xs, left, cnt, v0, rfl, HOw, HTs, HTk, HTG, HB, HS⟩ := hrel
    go_wp2_with (at_next; refine wpList_stepS rfl (.tmp 14) rfl (fun k => fidV k.1) (fun k => rfl) rfl HTs.out ?_ ?_)
    · unfold ThenDone
      intro hdone
      have HDone := Lib.hid hdone
      clear hdone
      have HLT := Lib.hid HOw.out.1.lt
      obtain ⟨a2, c2, rfl, hx1, hx2, hx3⟩ := HOw.out.1.lies encR
      have HLx : Hid (xs.length ≤ l.length) := by have h1 := HOw.out.2; have h2 := HC0.out; show _ ≤ _; omega
      have HSort := Lib.hid (sortR_any w xs wr HB.out a2 c2 (HOw.out.1.mono (by have h1 := HGL.out.2; have h2 := Hbr.out.2; omega)) (by have := HLx.out; omega))
      have HX1 := Lib.hid hx1
      have HX2 := Lib.hid hx2
      clear hx1 hx2 hx3
      generalize hxl : xs.length = xl at *
      have HXL := Lib.hid hxl
      clear hxl
      go_wp2_with (go_at_call 57; (with_reducible refine HSort.out.mono ?_); rintro e w5 ⟨rfl, p, hp, hr, hlies, hb⟩; have HP := Lib.hid hp; have HRr := Lib.hid hr; have HLi := Lib.hid hlies; have HB5 := Lib.hid hb; clear hp hr hlies hb)
      go_ret
      have hfin := HTk.out.done (fun k => HDone.out k trivial) (fun x hx => (H.out.2 x hx).base) HP.out (HRr.out.imp (fun {x y} h => by omega))
      have hpl : p.length = xl := by rw [← HP.out.length_eq, HXL.out]
      refine ⟨_, p, rfl, ⟨a2, c2, by rw [hpl]; rfl, by rw [hpl]; exact HX1.out, HX2.out, HLi.out, fun r hr => (effF_ok H.out.2 (HTk.out.mem r (HP.out.mem_iff.2 hr)).2.1 (hfin.mem r hr)).kept HB5.out⟩, hfin, by rw [hpl]; exact HLx.out, fun g hg => by have h1 := (HLT.out g hg).1; have h2 := HGL.out.2; have h3 := Hbr.out.2; omega, HB5.out⟩
    · unfold ThenMore
      intro k d w4 cnt4 _ hlk hFk ht4 hlt4 hg4 hs4 hen
      have HLk := Lib.hid hlk
      have HFk : Hid (basesF (untl l t) k.1 = some d) := hFk
      have HT4 := Lib.hid ht4
      have HLt := Lib.hid hlt4
      have HZ4 := Lib.hid hs4
      have HO4 : Hid (Own Rw.cells 8 39 w4 w3.heap.size v0 xs) := HOw.out.1.grow hg4 Hbr.out.2
      have HB4 : Hid (Below w.heap.size w w4) := HB.out.grown hg4 HB.out.size (fun j hj => by injection hj with hj; subst hj; exact Hwr.out)
      have HTG4 : Hid (Tab w4 keysF w.heap.size m (tabV (tabI (erS l)) Value.bool)) := HTG.out.grown hg4 (fun e => by injection e with e; have := HGL.out.2; omega)
      clear hlk hFk ht4 hlt4 hg4 hs4
      go_upto_region 5 with (first | (refine wpList_boxes rfl rfl rfl rfl 36 110 (.tmp 6) (.tmp 18) (.tmp 7) (.tmp 19) rfl rfl rfl rfl rfl rfl (fidC k.1) (Bs.cells d) rfl rfl rfl rfl (by kernel_rfl) (fidC_one k.1) (by kernel_rfl) (Bs.cells_one d) ?_))
      refine wp_gen (fun X hX => ?_)
      have HBX : Hid (Below w4.heap.size w4 X) := by rw [hX]; exact below_two _ _
      have HK6 : Hid (Box X w4.heap.size (fidC k.1).toArray 36) := by rw [hX]; exact (Box.new w4 _ _).kept (below_here _)
      have HK7 : Hid (Box X (w4.heap.size + 1) (Bs.cells d).toArray 110) := by rw [hX]; show Box _ _ _ _; have := Box.new (w4.alloc (.cells (fidC k.1).toArray 36)) (Bs.cells d).toArray 110; simpa using this
      have HXs : Hid (X.heap.size = w4.heap.size + 2) := by rw [hX]; show _ = _; simp
      have HC8 : Hid (∀ j v, ([.string d.2.src, .int .i64 d.2.seq, .int .i64 d.2.fk, .int .i64 d.2.ref, .string d.2.tb, .string d.2.ky, .int .i64 d.2.ev, .slice d.2.fa d.2.vs.length d.2.fc] : List Value)[j]? = some v → X.cell? ⟨w4.heap.size + 1, 4 + j, none⟩ = some v) := fun j v hv => HK7.out.cell (4 + j) v (by have := fact_cells d.2 j v hv; rw [List.getElem?_toArray] at this ⊢; show (Value.bool d.1 :: d.2.cells)[4 + j]? = some v; rw [show 4 + j = (3 + j) + 1 by omega, List.getElem?_cons_succ]; exact this)
      clear hX hen
      go_upto_region 6 with (first | (refine wpList_loadE rfl 49 (.tmp 21) rfl (w4.heap.size + 1) 4 [.string d.2.src, .int .i64 d.2.seq, .int .i64 d.2.fk, .int .i64 d.2.ref, .string d.2.tb, .string d.2.ky, .int .i64 d.2.ev, .slice d.2.fa d.2.vs.length d.2.fc] rfl HC8.out _ Try.underlying49 rfl (by kernel_rfl) ?_))
      refine wp_gen (fun Y hY => ?_)
      have HYX : Hid (Below X.heap.size X Y) := by rw [hY]; exact below_here _
      have HYs : Hid (Y.heap.size = w4.heap.size + 3) := by rw [hY]; show _ = _; simp; exact HXs.out
      have HK8 : Hid (Box Y (w4.heap.size + 2) #[.string d.2.src, .int .i64 d.2.seq, .int .i64 d.2.fk, .int .i64 d.2.ref, .string d.2.tb, .string d.2.ky, .int .i64 d.2.ev, .slice d.2.fa d.2.vs.length d.2.fc] 49) := by rw [hY, ← HXs.out]; exact Box.new X _ _
      rw [HXs.out]
      have HBY : Hid (Below w4.heap.size w4 Y) := HBX.out.trans (HYX.out.mono (by have := HXs.out; omega))
      have HI := Lib.hid (HK6.out.kept HYX.out)
      have HD := Lib.hid (HK7.out.kept HYX.out)
      clear hY HC8 HK6 HK7 HBX HYX HXs
      have i0 := HI.out.cell 0 (.string k.1.1) rfl
      have i1 := HI.out.cell 1 (.int .i64 k.1.2) rfl
      have g0 := HD.out.cell 0 (.bool d.1) rfl
      have g1 := HD.out.cell 1 (.int .i64 d.2.no) rfl
      have g2 := HD.out.cell 2 (.int .i64 d.2.tick) rfl
      have f2 := HK8.out.cell 2 (.int .i64 d.2.fk) rfl
      have HLK : Hid (((tabI (erS l) k).map Value.bool).getD (.bool false) = .bool (erF l k.1)) := by
        show _ = _
        unfold tabI erF
        cases (erS l).ids k.1 <;> rfl
      have HTY := Lib.hid (HTG4.out.kept HBY.out)
      have HTS := Lib.hid (HT4.out.kept HBY.out)
      have HOY := Lib.hid (HO4.out.kept HBY.out)
      have HWY : Hid (Below w.heap.size w Y) := HB4.out.trans (HBY.out.mono HB4.out.size)
      have HSY : Hid (w3.heap.size ≤ Y.heap.size) := by have h1 := HYs.out; have h2 := HZ4.out; have h3 := HS.out; show _ ≤ _; omega
      have HEF : Hid (effF l t k.1 = if d.1 = true ∧ d.2.fk ≠ 3 ∧ erF l k.1 = false then some (d.2.row k.1) else none) := by show _ = _; unfold effF; rw [HFk.out]
      clear HTG4 HT4 HO4 HB4 HFk
      have had : d.1 = true ∨ d.1 = false := by cases d.1 <;> simp
      rcases had with ha | ha
      · rw [ha] at g0
        by_cases hf : d.2.fk = 3
        · have df : (d.2.fk == 3) = true := by simpa using hf
          have HTk2 := Lib.hid (HTk.out.skip (k := k) (by rw [HEF.out, if_neg (fun q => q.2.1 hf)]))
          go_wp2_with fail
          go_roundw
          case rel => exact ⟨xs, _, cnt4, _, rfl, ⟨HOY.out, by have h1 := HOw.out.2; have h2 := HLt.out; omega⟩, HTS, HTk2, HTY, HWY, HSY⟩
          case measure => rw [HTS.out.left_eq, HTs.out.left_eq]; exact HLt.out
        · have df : (d.2.fk == 3) = false := by simpa using hf
          have her : erF l k.1 = true ∨ erF l k.1 = false := by cases erF l k.1 <;> simp
          rcases her with he | he
          · have HTk2 := Lib.hid (HTk.out.skip (k := k) (by rw [HEF.out, if_neg (fun q => by rw [he] at q; cases q.2.2)]))
            rw [he] at HLK
            go_wp2_with (refine wpList_lookG rfl (.tmp 32) (.tmp 33) 105 rfl 4 Try.underlying105 (Try.zeroValue4 _) rfl HTY.out k rfl trivial _ HLK.out ?_)
            go_roundw
            case rel => exact ⟨xs, _, cnt4, _, rfl, ⟨HOY.out, by have h1 := HOw.out.2; have h2 := HLt.out; omega⟩, HTS, HTk2, HTY, HWY, HSY⟩
            case measure => rw [HTS.out.left_eq, HTs.out.left_eq]; exact HLt.out
          · have HTk2 := Lib.hid (HTk.out.take (k := k) (r := d.2.row k.1) HLk.out (by rw [HEF.out, if_pos ⟨ha, hf, he⟩]))
            rw [he] at HLK
            obtain ⟨x, hx⟩ : ∃ x, x = d.2.row k.1 := ⟨_, rfl⟩
            have HX := Lib.hid hx
            rw [← hx] at HTk2
            have f4 := HK8.out.cell 4 (.string d.2.tb) rfl
            have f5 := HK8.out.cell 5 (.string d.2.ky) rfl
            have f6 := HK8.out.cell 6 (.int .i64 d.2.ev) rfl
            have f7 := HK8.out.cell 7 (.slice d.2.fa d.2.vs.length d.2.fc) rfl
            have HO6 : Hid (Own Rw.cells 8 39 (Y.alloc (.cells #[.string k.1.1, .int .i64 k.1.2, .string d.2.tb, .string d.2.ky, .int .i64 d.2.ev, .slice d.2.fa d.2.vs.length d.2.fc, .int .i64 d.2.no, .int .i64 d.2.tick] 39)) w3.heap.size v0 xs) := HOY.out.kept (below_here _)
            have HS6 : Hid (LiesAt Rw.cells 8 (Y.alloc (.cells #[.string k.1.1, .int .i64 k.1.2, .string d.2.tb, .string d.2.ky, .int .i64 d.2.ev, .slice d.2.fa d.2.vs.length d.2.fc, .int .i64 d.2.no, .int .i64 d.2.tick] 39)) (some ⟨Y.heap.size, 0, none⟩) [x]) := by rw [hx]; exact lies_one (d.2.row k.1) _ encR
            have HT6 := Lib.hid (HTS.out.kept (below_here (w := Y) (.cells #[.string k.1.1, .int .i64 k.1.2, .string d.2.tb, .string d.2.ky, .int .i64 d.2.ev, .slice d.2.fa d.2.vs.length d.2.fc, .int .i64 d.2.no, .int .i64 d.2.tick] 39)))
            have HG6 := Lib.hid (HTY.out.kept (below_here (w := Y) (.cells #[.string k.1.1, .int .i64 k.1.2, .string d.2.tb, .string d.2.ky, .int .i64 d.2.ev, .slice d.2.fa d.2.vs.length d.2.fc, .int .i64 d.2.no, .int .i64 d.2.tick] 39)))
            have HX6 : Hid (w3.heap.size ≤ (Y.alloc (.cells #[.string k.1.1, .int .i64 k.1.2, .string d.2.tb, .string d.2.ky, .int .i64 d.2.ev, .slice d.2.fa d.2.vs.length d.2.fc, .int .i64 d.2.no, .int .i64 d.2.tick] 39)).heap.size) := by have := HSY.out; show _ ≤ _; simp; omega
            have HB6 : Hid (Below w.heap.size w (Y.alloc (.cells #[.string k.1.1, .int .i64 k.1.2, .string d.2.tb, .string d.2.ky, .int .i64 d.2.ev, .slice d.2.fa d.2.vs.length d.2.fc, .int .i64 d.2.no, .int .i64 d.2.tick] 39))) := HWY.out.alloc HWY.out.size _
            have HLa : Hid (xs.length + [x].length ≤ 1000000000) := by show _ ≤ _; have h1 := HOw.out.2; have h2 := HC0.out; simp; omega
            clear hx
            go_wp2_with (first | (refine wpList_lookG rfl (.tmp 32) (.tmp 33) 105 rfl 4 Try.underlying105 (Try.zeroValue4 _) rfl HTY.out k rfl trivial _ HLK.out ?_) | (at_builtin; refine wpList_app elR encR rfl (.tmp 36) (.tmp 53) rfl rfl rfl HO6.out HS6.out rfl (fun e => by cases e) HX6.out HLa.out ?_; intro v5 w5 ho hb; have HO5 := Lib.hid ho; have HX5 := Lib.hid hb; clear ho hb))
            go_roundw
            case rel => exact ⟨xs ++ [x], _, cnt4, _, rfl, ⟨HO5.out, by have h1 := HOw.out.2; have h2 := HLt.out; simp; omega⟩, HT6.out.below HX5.out Hbr.out.1 Hbr.out.2, HTk2, HG6.out.blocks (HX5.out.block _ (by have h1 := HGL.out.2; have h2 := Hbr.out.2; omega)), HB6.out.trans (HX5.out.mono (by have h1 := HGL.out.2; have h2 := Hbr.out.2; omega)), Nat.le_trans HX6.out HX5.out.size⟩
            case measure => rw [(HT6.out.below HX5.out Hbr.out.1 Hbr.out.2).left_eq, HTs.out.left_eq]; exact HLt.out
      · rw [ha] at g0
        have HTk2 := Lib.hid (HTk.out.skip (k := k) (by rw [HEF.out, if_neg (fun q => by rw [ha] at q; cases q.1)]))
        go_wp2_with fail
        go_roundw
        case rel => exact ⟨xs, _, cnt4, _, rfl, ⟨HOY.out, by have h1 := HOw.out.2; have h2 := HLt.out; omega⟩, HTS, HTk2, HTY, HWY, HSY⟩
        case measure => rw [HTS.out.left_eq, HTs.out.left_eq]; exact HLt.out
end Go.Proofs.Ytfnpfkgmacaboaa
