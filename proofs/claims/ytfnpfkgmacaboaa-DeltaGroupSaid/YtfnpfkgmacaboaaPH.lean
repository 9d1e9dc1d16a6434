/-
  delta.Consolidate.
-/
import Derived.Test.YtfnpfkgmacaboaaPG
namespace Go.Proofs.Ytfnpfkgmacaboaa
open Go.ChangeShapes Go.WideShapes Go.ChangeAt Go.RowKit Go.Maps
set_option linter.unusedVariables false
set_option linter.unusedSimpArgs false

/-- A list of differences in a slice, for a reader. -/
def SlD (w : World) (v : Value) (l : List Dl) : Prop := ∃ ao c, v = .slice ao l.length c ∧ l.length ≤ c ∧ (ao = none → c = 0) ∧ DlsAt w ao l
theorem SlD.kept {w w' : World} {v : Value} {l : List Dl} (h : SlD w v l) (hb : Below w.heap.size w w') : SlD w' v l := let ⟨a, c, h1, h2, h3, h4⟩ := h; ⟨a, c, h1, h2, h3, h4.kept hb⟩
theorem OwnD.slD {w : World} {B : Nat} {v : Value} {l : List Dl} (h : OwnD w B v l) : SlD w v l := h.lies
abbrev zeroD : Value := .agg #[.string ⟨#[]⟩, .int .i64 0, .string ⟨#[]⟩, .string ⟨#[]⟩, .int .i64 0, .slice none 0 0, .int .i64 0, .int .i64 0, .int .i64 0, .int .i64 0]
theorem zero41 (w : World) : (zeroValue 41).run Try.prog w = .ok zeroD w := Try.zeroValue41 w
theorem Box.at9 {w : World} {g : Nat} {t : TypeId} {a0 a1 a2 a3 a4 a5 a6 a7 a8 : Value} (h : Box w g #[a0, a1, a2, a3, a4, a5, a6, a7, a8] t) : w.cell? ⟨g, 0, none⟩ = some a0 ∧ w.cell? ⟨g, 1, none⟩ = some a1 ∧ w.cell? ⟨g, 2, none⟩ = some a2 ∧ w.cell? ⟨g, 3, none⟩ = some a3 ∧ w.cell? ⟨g, 4, none⟩ = some a4 ∧ w.cell? ⟨g, 5, none⟩ = some a5 ∧ w.cell? ⟨g, 6, none⟩ = some a6 ∧ w.cell? ⟨g, 7, none⟩ = some a7 ∧ w.cell? ⟨g, 8, none⟩ = some a8 :=
  ⟨h.cell 0 _ rfl, h.cell 1 _ rfl, h.cell 2 _ rfl, h.cell 3 _ rfl, h.cell 4 _ rfl, h.cell 5 _ rfl, h.cell 6 _ rfl, h.cell 7 _ rfl, h.cell 8 _ rfl⟩
theorem Tabs.cnt_le {P : Program} {kt : TypeId} {κ : Type} {Z : Keyz P kt κ} {w : World} {b r n cnt : Nat} {T : κ → Option Value} {left : κ → Bool} (h : Tabs w Z b r n T left cnt) : cnt ≤ n := by
  obtain ⟨D, L, ⟨es, clock, since, seen, c0, hb, F, hs, hD, hr, ho, hc, rest⟩, h2⟩ := h
  rw [← hc]
  refine Nat.le_trans ?_ hs
  unfold leftOf
  exact Array.size_filter_le
theorem Own.grow {α : Type} {enc : α → List Value} {k : Nat} {e : TypeId} {w w' : World} {B : Nat} {v : Value} {l : List α} {r : Nat} (h : Own enc k e w B v l) (hg : w.grownBy w' (some r)) (hr : r < B) : Own enc k e w' B v l := by
  refine ⟨h.1, ?_⟩
  rcases h.2 with h | ⟨g, cap, cur, h1, h2, h3, h4⟩
  · exact Or.inl h
  · exact Or.inr ⟨g, cap, cur, h1, h2, (hg.block g (Array.getElem?_eq_some_iff.1 h3).1 (by simp; omega)).trans h3, h4⟩
set_option maxHeartbeats 8000000 in
set_option maxRecDepth 100000 in
theorem fcons_any (l : List Dl) (ao : Option Addr) (cap : Nat) (hl : l.length ≤ 10000000) (w : World) (h : DlsAt w ao l) :
    Calls Try.prog 12 #[.slice ao l.length cap] w fun e w' => ∃ v l', e = .returned v ∧ SlD w' v l' ∧ l'.length ≤ l.length ∧ l'.map Dl.kn = consK (l.map Dl.kn) ∧ Below w.heap.size w w' := by
  have H := Lib.hid h.1
  have HOK := Lib.hid h.2
  clear h
  have hmm := @run_makeMap Try.prog
  go_enter Try.func12, Try.ntmps12
  go_wp2_with fail
  go_loopw [14] (fun jj wr => ∃ (i : Nat) (F : { k : DK // OkM k } → Option Dl), i ≤ l.length ∧ jj = .int .i64 i ∧ Hid (Tab wr keysM w.heap.size i (tabV F Dl.val)) ∧ Hid (Sums w (l.take i) F) ∧ Below w.heap.size w wr) (fun jj _ => l.length - (intOf jj).toNat)
  case atStart => exact ⟨0, fun _ => none, by omega, rfl, tab_made w keysM, Sums.nil w, below_here _⟩
  case round =>
    obtain ⟨i, F, hi, rfl, HTab, HSum, hB⟩ := hrel
    have HB := Lib.hid hB
    clear hB
    obtain ⟨wo, hwo⟩ : ∃ wo, wo = wr := ⟨_, rfl⟩
    subst hwo
    by_cases hlt : i < l.length
    · obtain ⟨x, hx⟩ : ∃ x, l[i]? = some x := ⟨l[i], List.getElem?_eq_getElem hlt⟩
      obtain ⟨b, off, rfl, hrow⟩ := lies_some (H.out.kept HB.out) hx
      obtain ⟨c0, c1, c2, c3, c4, c5, c6, c7, c8, c9⟩ := Dl.cell hrow hx
      have HX := Lib.hid hx
      have HXO : Hid (x.Ok w) := HOK.out x (List.mem_of_getElem? hx)
      clear hrow hx
      go_upto_region 5 with fail
      refine wp_gen (fun X hX => ?_)
      have HWX : Hid (Below w.heap.size w X) := by rw [hX]; exact HB.out.alloc HB.out.size _
      have HG : Hid (Box X wo.heap.size #[.string x.r.src, .int .i64 x.r.seq, .string x.r.tb, .string x.r.ky, .int .i64 x.r.ev, .slice x.r.fa x.r.vs.length x.r.fc, .int .i64 x.r.no, .int .i64 x.r.tk, .int .i64 x.tick, .int .i64 x.n] 41) := by rw [hX]; exact Box.new _ _ _
      have HTX : Hid (Tab X keysM w.heap.size i (tabV F Dl.val)) := by rw [hX]; exact HTab.out.alloc _
      have HWO : Hid (w.heap.size < wo.heap.size) := HTab.out.lt
      clear hX c0 c1 c2 c3 c4 c5 c6 c7 c8 c9
      obtain ⟨d0, d1, d2, d3, d4, d5, d6, d7, d8, d9⟩ := HG.out.at10
      have HM := Lib.hid (mark_any x.r x.tick X (HXO.out.r.kept HWX.out))
      have HGk : Hid (∀ w', Below X.heap.size X w' → w'.cell? ⟨wo.heap.size, 0, none⟩ = some (.string x.r.src) ∧ w'.cell? ⟨wo.heap.size, 1, none⟩ = some (.int .i64 x.r.seq) ∧ w'.cell? ⟨wo.heap.size, 2, none⟩ = some (.string x.r.tb) ∧ w'.cell? ⟨wo.heap.size, 3, none⟩ = some (.string x.r.ky) ∧ w'.cell? ⟨wo.heap.size, 4, none⟩ = some (.int .i64 x.r.ev) ∧ w'.cell? ⟨wo.heap.size, 5, none⟩ = some (.slice x.r.fa x.r.vs.length x.r.fc) ∧ w'.cell? ⟨wo.heap.size, 6, none⟩ = some (.int .i64 x.r.no) ∧ w'.cell? ⟨wo.heap.size, 7, none⟩ = some (.int .i64 x.r.tk) ∧ w'.cell? ⟨wo.heap.size, 8, none⟩ = some (.int .i64 x.tick) ∧ w'.cell? ⟨wo.heap.size, 9, none⟩ = some (.int .i64 x.n)) := fun w' hb => (HG.out.kept hb).at10
      have HGf : Hid (∀ w', Below X.heap.size X w' → w'.frozen? ⟨wo.heap.size, 9, none⟩ = false) := fun w' hb => (HG.out.kept hb).free 9
      have HSx : Hid (∀ S, S = strOf (encF x.r.vs) → keysM.val ⟨x.key, HXO.out.mark⟩ = .agg #[.string x.r.src, .int .i64 x.r.seq, .string x.r.tb, .string x.r.ky, .int .i64 x.r.ev, .int .i64 x.r.no, .int .i64 x.r.tk, .int .i64 x.tick, .string S]) := fun S hS => by rw [hS]; rfl
      obtain ⟨S, hS⟩ : ∃ S, S = strOf (encF x.r.vs) := ⟨_, rfl⟩
      have HKV := Lib.hid (HSx.out S hS)
      simp only [markV, ← hS] at HM
      have HSS := Lib.hid hS
      clear hS HSx
      obtain ⟨kx, hkx⟩ : ∃ kx : { k : DK // OkM k }, kx = ⟨x.key, HXO.out.mark⟩ := ⟨_, rfl⟩
      have HKX := Lib.hid hkx
      rw [← hkx] at HKV
      clear hkx
      cases hF : F kx with
      | none =>
        have HFr : Hid (Sums w (l.take (i + 1)) (putF F kx x)) := by show Sums _ _ _; rw [take_snoc HX.out, HKX.out]; exact HSum.out.fresh HXO.out (by rw [← HKX.out]; exact hF)
        have HFN := Lib.hid hF
        clear hF
        go_upto_region 9 with (first
          | (go_at_call 27; (with_reducible refine HM.out.mono ?_); rintro e w1 ⟨rfl, hb⟩; have HB1 := Lib.hid hb; obtain ⟨k0, k1, k2, k3, k4, k5, k6, k7, k8, k9⟩ := HGk.out w1 hb; have f9 := HGf.out w1 hb; have HTb : Hid (Tab (w1.alloc (.cells #[.string x.r.src, .int .i64 x.r.seq, .string x.r.tb, .string x.r.ky, .int .i64 x.r.ev, .int .i64 x.r.no, .int .i64 x.r.tk, .int .i64 x.tick, .string S] 75)) keysM w.heap.size i (tabV F Dl.val)) := (HTX.out.kept hb).alloc _; clear hb)
          | (at_lookup; refine wpList_find_none rfl (.tmp 24) (.tmp 25) 73 rfl 41 Try.underlying73 (zero41 _) rfl HTb.out kx HKV.out.symm trivial HFN.out ?_))
        refine wp_gen (fun X2 h2 => ?_)
        have HX12 : Hid (Below w1.heap.size w1 X2) := by rw [h2]; exact below_two _ _
        have HT2 : Hid (Tab X2 keysM w.heap.size i (tabV F Dl.val)) := by rw [h2]; exact HTb.out.alloc _
        have HM2 : Hid (Box X2 w1.heap.size #[.string x.r.src, .int .i64 x.r.seq, .string x.r.tb, .string x.r.ky, .int .i64 x.r.ev, .int .i64 x.r.no, .int .i64 x.r.tk, .int .i64 x.tick, .string S] 75) := by rw [h2]; exact (Box.new w1 _ _).kept (below_here _)
        have HG2 : Hid (Box X2 wo.heap.size #[.string x.r.src, .int .i64 x.r.seq, .string x.r.tb, .string x.r.ky, .int .i64 x.r.ev, .slice x.r.fa x.r.vs.length x.r.fc, .int .i64 x.r.no, .int .i64 x.r.tk, .int .i64 x.tick, .int .i64 x.n] 41) := (HG.out.kept HB1.out).kept HX12.out
        have HBx2 : Hid (Below w.heap.size w X2) := keepB (Nat.le_refl _) (keepB (Nat.le_refl _) HWX.out HB1.out) HX12.out
        clear h2 k0 k1 k2 k3 k4 k5 k6 k7 k8 k9 f9 d0 d1 d2 d3 d4 d5 d6 d7 d8 d9
        obtain ⟨k0, k1, k2, k3, k4, k5, k6, k7, k8, k9⟩ := HG2.out.at10
        obtain ⟨m0, m1, m2, m3, m4, m5, m6, m7, m8⟩ := HM2.out.at9
        have hmx : i < maxLen := by unfold maxLen; omega
        go_wp2_with (at_mapUpdate; refine wpList_keep rfl (.tmp 36) (.tmp 37) (.tmp 38) 73 rfl 41 Try.underlying73 rfl HT2.out hmx kx HKV.out.symm trivial x rfl ?_; intro w5 ht hg; have HT5 := Lib.hid ht; have HB5 : Hid (Below w.heap.size w w5) := HBx2.out.grown hg HBx2.out.size (fun j hj => (by injection hj with hj; omega)); clear ht hg)
        go_roundw
        case rel => exact ⟨i + 1, _, by omega, by go_num, HT5, HFr, HB5.out⟩
        case measure => simp [intOf]; omega
      | some d =>
        have HFr : Hid (Sums w (l.take (i + 1)) (putF F kx (x.withN (IntKind.i64.wrap (x.n + d.n))))) := by show Sums _ _ _; rw [take_snoc HX.out, HKX.out]; exact HSum.out.again HXO.out (by rw [← HKX.out]; exact hF)
        have HFN := Lib.hid hF
        have HSM : Hid (wrap64 (x.n + d.n) = IntKind.i64.wrap (x.n + d.n)) := wrap64_is _
        clear hF
        go_upto_region 9 with (first
          | (go_at_call 27; (with_reducible refine HM.out.mono ?_); rintro e w1 ⟨rfl, hb⟩; have HB1 := Lib.hid hb; obtain ⟨k0, k1, k2, k3, k4, k5, k6, k7, k8, k9⟩ := HGk.out w1 hb; have f9 := HGf.out w1 hb; have HTb : Hid (Tab (w1.alloc (.cells #[.string x.r.src, .int .i64 x.r.seq, .string x.r.tb, .string x.r.ky, .int .i64 x.r.ev, .int .i64 x.r.no, .int .i64 x.r.tk, .int .i64 x.tick, .string S] 75)) keysM w.heap.size i (tabV F Dl.val)) := (HTX.out.kept hb).alloc _; have HTw : Hid (Tab w1 keysM w.heap.size i (tabV F Dl.val)) := HTX.out.kept hb; have HGw : Hid (Box w1 wo.heap.size #[.string x.r.src, .int .i64 x.r.seq, .string x.r.tb, .string x.r.ky, .int .i64 x.r.ev, .slice x.r.fa x.r.vs.length x.r.fc, .int .i64 x.r.no, .int .i64 x.r.tk, .int .i64 x.tick, .int .i64 x.n] 41) := HG.out.kept hb; have HWl : Hid (wo.heap.size < w1.heap.size) := (HG.out.kept hb).lt; have hwl := HWl.out; clear hb)
          | (at_lookup; refine wpList_find_some rfl (.tmp 24) (.tmp 25) 73 rfl 41 Try.underlying73 (zero41 _) rfl HTb.out kx HKV.out.symm trivial d HFN.out ?_))
        refine wp_gen (fun X2 h2 => ?_)
        have HX12 : Hid (Below w.heap.size w X2) := by
          rw [h2]
          have h0 := keepB (Nat.le_refl _) HWX.out HB1.out
          exact ((h0.setCell (by have := HWO.out; show w.heap.size ≤ wo.heap.size; omega) _).alloc (by have := h0.size; simp; omega) _).alloc (by have := h0.size; simp; omega) _
        have HT2 : Hid (Tab X2 keysM w.heap.size i (tabV F Dl.val)) := by
          rw [h2]
          exact ((HTw.out.setCell (a := ⟨wo.heap.size, 9, none⟩) (by have := HWO.out; simp; omega) _).alloc _).alloc _
        have HM2 : Hid (Box X2 w1.heap.size #[.string x.r.src, .int .i64 x.r.seq, .string x.r.tb, .string x.r.ky, .int .i64 x.r.ev, .int .i64 x.r.no, .int .i64 x.r.tk, .int .i64 x.tick, .string S] 75) := by
          rw [h2]
          have := (Box.new (w1.setCell ⟨wo.heap.size, 9, none⟩ (.int .i64 (wrap64 (x.n + d.n)))) #[.string x.r.src, .int .i64 x.r.seq, .string x.r.tb, .string x.r.ky, .int .i64 x.r.ev, .int .i64 x.r.no, .int .i64 x.r.tk, .int .i64 x.tick, .string S] 75).kept (below_here (.cells #[.string d.r.src, .int .i64 d.r.seq, .string d.r.tb, .string d.r.ky, .int .i64 d.r.ev, .slice d.r.fa d.r.vs.length d.r.fc, .int .i64 d.r.no, .int .i64 d.r.tk, .int .i64 d.tick, .int .i64 d.n] 41))
          show Box _ _ _ _
          simpa using this
        have HG2 : Hid (Box X2 wo.heap.size #[.string x.r.src, .int .i64 x.r.seq, .string x.r.tb, .string x.r.ky, .int .i64 x.r.ev, .slice x.r.fa x.r.vs.length x.r.fc, .int .i64 x.r.no, .int .i64 x.r.tk, .int .i64 x.tick, .int .i64 (wrap64 (x.n + d.n))] 41) := by rw [h2]; exact (HGw.out.put 9 _).kept (below_two _ _)
        clear h2 k0 k1 k2 k3 k4 k5 k6 k7 k8 k9 f9 d0 d1 d2 d3 d4 d5 d6 d7 d8 d9
        generalize wrap64 (x.n + d.n) = sm at *
        obtain ⟨k0, k1, k2, k3, k4, k5, k6, k7, k8, k9⟩ := HG2.out.at10
        obtain ⟨m0, m1, m2, m3, m4, m5, m6, m7, m8⟩ := HM2.out.at9
        have hmx : i < maxLen := by unfold maxLen; omega
        go_wp2_with (at_mapUpdate; refine wpList_keep rfl (.tmp 36) (.tmp 37) (.tmp 38) 73 rfl 41 Try.underlying73 rfl HT2.out hmx kx HKV.out.symm trivial (x.withN sm) rfl ?_; intro w5 ht hg; have HT5 := Lib.hid ht; have HB5 : Hid (Below w.heap.size w w5) := HX12.out.grown hg HX12.out.size (fun j hj => (by injection hj with hj; omega)); clear ht hg)
        go_roundw
        case rel => exact ⟨i + 1, _, by omega, by go_num, HT5, by rw [HSM.out]; exact HFr, HB5.out⟩
        case measure => simp [intOf]; omega
    · obtain rfl : i = l.length := by omega
      have HS : Hid (Sums w l F) := by have := HSum.out; rwa [List.take_length] at this
      clear HSum
      generalize hln : l.length = nl at *
      have HLn := Lib.hid hln
      clear hln
      go_wp2_with (at_range; refine wpList_range rfl (.tmp 40) 73 rfl 41 Try.underlying73 rfl HTab.out ?_; intro w2 cnt0 hrg hgr hsz; have HRg := Lib.hid hrg; have HGr := Lib.hid hgr; have HSz := Lib.hid hsz; clear hrg hgr hsz)
      go_frame
      have HB2 : Hid (Below w.heap.size w w2) := HB.out.grown HGr.out HB.out.size (fun j hj => by cases hj)
      have HC0 : Hid (cnt0 ≤ nl) := HRg.out.cnt_le
      have Hbr : Hid (w.heap.size < w2.heap.size ∧ wo.heap.size < w2.heap.size) := by have h1 := HSz.out; have h2 := HTab.out.lt; exact ⟨by omega, by omega⟩
      have Hwr : Hid (w.heap.size ≤ wo.heap.size) := HB.out.size
      generalize wo.heap.size = r at *
      go_loopw [2] (fun v wr => ∃ (xs : List Dl) (left : { k : DK // OkM k } → Bool) (cnt : Nat) (v0 : Value), v0 = v ∧ Hid (Own Dl.cells 10 41 wr w2.heap.size v xs ∧ xs.length + cnt ≤ cnt0) ∧ Hid (Tabs wr keysM w.heap.size r nl (tabV F Dl.val) left cnt) ∧ Hid (Took w (sumK (l.map Dl.kn)) F left xs) ∧ Below w.heap.size w wr ∧ w2.heap.size ≤ wr.heap.size) (fun _ wr => wr.rangeLeft w.heap.size r)
      case atStart => exact ⟨[], _, cnt0, _, rfl, ⟨Own.nil _ _, by simp⟩, HRg, Took.start w _ F, HB2.out, Nat.le_refl _⟩
      case round =>
        obtain ⟨xs, left, cnt, v0, rfl, HOw, HTs, HTk, hB3, hS3⟩ := hrel
        have HB3 := Lib.hid hB3
        have HS3 := Lib.hid hS3
        clear hB3 hS3
        go_wp2_with (at_next; refine wpList_stepS rfl (.tmp 41) rfl (fun k => markK k.1) (fun k => rfl) rfl HTs.out ?_ ?_)
        · unfold ThenDone
          intro hdone
          have HDone := Lib.hid hdone
          clear hdone
          obtain ⟨a2, c2, rfl, hx1, hx2, hx3⟩ := HOw.out.1.lies encD
          have HLx : Hid (xs.length ≤ nl) := by have h1 := HOw.out.2; have h2 := HC0.out; show _ ≤ _; omega
          have HSort := Lib.hid (sortD_any w xs wr HB3.out a2 c2 (HOw.out.1.mono (by have := Hbr.out.1; omega)) (fun d hd => (HTk.out.mem d hd).1) (by have := HLx.out; omega))
          have HX1 := Lib.hid hx1
          have HX2 := Lib.hid hx2
          clear hx1 hx2 hx3
          generalize hxl : xs.length = xl at *
          have HXL := Lib.hid hxl
          clear hxl
          go_wp2_with (go_at_call 28; (with_reducible refine HSort.out.mono ?_); rintro e w5 ⟨rfl, p, hp, hr, hlies, hb⟩; have HP := Lib.hid hp; have HRr := Lib.hid hr; have HLi := Lib.hid hlies; have HB5 := Lib.hid hb; clear hp hr hlies hb)
          go_ret
          have hfin := HTk.out.done HS.out HOK.out (fun k => HDone.out k trivial) HP.out (HRr.out.imp (fun {x y} h => by omega))
          have hpl : p.length = xl := by rw [← HP.out.length_eq, HXL.out]
          exact ⟨_, p, rfl, ⟨a2, c2, by rw [hpl]; rfl, by rw [hpl]; exact HX1.out, HX2.out, HLi.out, fun d hd => (hfin.2 d hd).kept HB5.out⟩, by rw [hpl, HLn.out]; exact HLx.out, hfin.1, HB5.out⟩
        · unfold ThenMore
          intro k d w3 cnt3 _ hlk hFk ht3 hlt3 hg3 hs3 hen
          obtain ⟨q1, q2, q3⟩ := HS.out.says k d hFk
          have HQ : Hid (d.Ok w ∧ d.key = k.1 ∧ d.n = sumK (l.map Dl.kn) k.1) := ⟨q1, q2, q3⟩
          have HLk := Lib.hid hlk
          have HT3 := Lib.hid ht3
          have HLt := Lib.hid hlt3
          have HG3 := Lib.hid hg3
          have HZ3 := Lib.hid hs3
          have HO3 : Hid (Own Dl.cells 10 41 w3 w2.heap.size v0 xs) := HOw.out.1.grow HG3.out Hbr.out.2
          have HB33 : Hid (Below w.heap.size w w3) := HB3.out.grown HG3.out HB3.out.size (fun j hj => by injection hj with hj; subst hj; exact Hwr.out)
          clear q1 q2 q3 hlk ht3 hlt3 hg3 hs3 hFk
          have HXl : Hid (xs.length ≤ nl) := by have h1 := HOw.out.2; have h2 := HC0.out; show _ ≤ _; omega
          by_cases h0 : d.n = 0
          · have hne : (d.n != 0) = false := by simpa using h0
            have HTk2 := Lib.hid (HTk.out.skip (k := k) (d := d) HQ.out.2.2 h0)
            clear h0
            go_wp2_with fail
            go_roundw
            case rel => exact ⟨xs, _, cnt3, _, rfl, ⟨HO3.out.kept (below_here _), by have h1 := HOw.out.2; have h2 := HLt.out; omega⟩, HT3.out.kept (below_here _), HTk2, HB33.out.alloc HB33.out.size _, by have h1 := HZ3.out; have h2 := HS3.out; simp; omega⟩
            case measure => rw [(HT3.out.kept (below_here _)).left_eq, HTs.out.left_eq]; exact HLt.out
          · have hne : (d.n != 0) = true := by simpa using h0
            have HTk2 := Lib.hid (HTk.out.take (k := k) (d := d) HQ.out.1 HQ.out.2.1 HLk.out HQ.out.2.2 h0)
            clear h0
            have HO6 : Hid (Own Dl.cells 10 41 ((w3.alloc (.cells (Dl.cells d).toArray 41)).alloc (.cells (Dl.cells d).toArray 41)) w2.heap.size v0 xs) := (HO3.out.kept (below_here _)).kept (below_here _)
            have HX6 : Hid (w2.heap.size ≤ ((w3.alloc (.cells (Dl.cells d).toArray 41)).alloc (.cells (Dl.cells d).toArray 41)).heap.size) := by have h1 := HZ3.out; have h2 := HS3.out; show _ ≤ _; simp; omega
            have HS6 : Hid (LiesAt Dl.cells 10 ((w3.alloc (.cells (Dl.cells d).toArray 41)).alloc (.cells (Dl.cells d).toArray 41)) (some ⟨(w3.alloc (.cells (Dl.cells d).toArray 41)).heap.size, 0, none⟩) [d]) := lies_one _ _ encD
            rw [show (w3.alloc (.cells (Dl.cells d).toArray 41)).heap.size = w3.heap.size + 1 by simp] at HS6
            have HT6 : Hid (Tabs ((w3.alloc (.cells (Dl.cells d).toArray 41)).alloc (.cells (Dl.cells d).toArray 41)) keysM w.heap.size r nl (tabV F Dl.val) (fun x => left x && !decide (x = k)) cnt3) := (HT3.out.kept (below_here _)).kept (below_here _)
            have HB6 : Hid (Below w.heap.size w ((w3.alloc (.cells (Dl.cells d).toArray 41)).alloc (.cells (Dl.cells d).toArray 41))) := (HB33.out.alloc HB33.out.size _).alloc (by have := HB33.out.size; simp; omega) _
            have HLa : Hid (xs.length + [d].length ≤ 1000000000) := by show _ ≤ _; have := HXl.out; simp; omega
            go_wp2_with (at_builtin; refine wpList_app elD encD rfl (.tmp 49) (.tmp 51) rfl rfl rfl HO6.out HS6.out rfl (fun e => by cases e) HX6.out HLa.out ?_; intro v5 w5 ho hb; have HO5 := Lib.hid ho; have HX5 := Lib.hid hb; clear ho hb)
            go_roundw
            case rel => exact ⟨xs ++ [d], _, cnt3, _, rfl, ⟨HO5.out, by have h1 := HOw.out.2; have h2 := HLt.out; simp; omega⟩, HT6.out.below HX5.out Hbr.out.1 Hbr.out.2, HTk2, HB6.out.trans (HX5.out.mono (Nat.le_of_lt Hbr.out.1)), Nat.le_trans HX6.out HX5.out.size⟩
            case measure => rw [(HT6.out.below HX5.out Hbr.out.1 Hbr.out.2).left_eq, HTs.out.left_eq]; exact HLt.out
end Go.Proofs.Ytfnpfkgmacaboaa
