/-
  asofref06.Union returns the union of a list of intervals.
-/
import Derived.Test.YtolkmfpbgheaaaaU4
import Derived.StillTailTactics
namespace Go.Proofs.Ytolkmfpbgheaaaa
open Go.ChangeShapes Go.WideShapes Go.ChangeAt Go.RowKit
set_option linter.unusedVariables false
set_option linter.unusedSimpArgs false

theorem OwnIv.shape {w : World} {B : Nat} {v : Value} {l : List Iv} (h : OwnIv w B v l) : ∃ ao c, v = .slice ao l.length c ∧ SlotsAt w ao l ∧ l.length ≤ c ∧ (ao = none → c = 0) := by
  obtain ⟨ao, c, hv, hs, hc⟩ := h.slots
  refine ⟨ao, c, hv, hs, hc, ?_⟩
  intro he
  rcases h.2 with ⟨h1, h2⟩ | ⟨g, cap, cur, h1, h2⟩
  · rw [h1] at hv; injection hv with _ _ e; exact e.symm
  · rw [h1, he] at hv; injection hv with e; cases e
theorem heap_setCell_same' (w : World) (g o : Nat) (cur : Array Value) (v : Value) (h : w.heap[g]? = some (.cells cur 23 (0, 0))) : (w.setCell ⟨g, o, none⟩ v).heap[g]? = some (.cells (cur.setIfInBounds o v) 23 (0, 0)) := heap_setCell_same w g o cur v h
theorem OwnIv.setTo {w : World} {B g n cc : Nat} {a : List Iv} {y : Iv} (h : OwnIv w B (.slice (some ⟨g, 0, none⟩) n cc) (a ++ [y])) (z2 : Int) :
    OwnIv (w.setCell ⟨g, a.length * 2 + 1, none⟩ (.int .i64 z2)) B (.slice (some ⟨g, 0, none⟩) n cc) (a ++ [(y.1, z2)]) := by
  have hc := h.last
  obtain ⟨g', he, -, -, -, c0, c1, -, -⟩ := hc
  injection he with he
  injection he with he _ _
  subst he
  have h2 := h.setLast y.1 z2
  have e : w.setCell ⟨g, a.length * 2, none⟩ (.int .i64 y.1) = w := by
    rcases h.2 with ⟨h1, _⟩ | ⟨g', cap, cur, h1, h2, h3, h4, h5, h6, h7⟩
    · cases h1
    · injection h1 with e1 e2 e3
      injection e1 with e1
      injection e1 with e1 _ _
      subst e1
      rw [cell_of_row w g _ cur 23 _ h3] at c0
      have hcur : cur.setIfInBounds (a.length * 2) (.int .i64 y.1) = cur := by
        apply Array.ext_getElem?
        intro j
        rw [Array.getElem?_setIfInBounds]
        split
        · rename_i hj
          subst hj
          split
          · exact c0.symm
          · rw [Array.getElem?_eq_none (by omega)]
        · rfl
      have hh : (w.setCell ⟨g, a.length * 2, none⟩ (.int .i64 y.1)).heap = w.heap := by
        apply Array.ext_getElem?
        intro j
        by_cases hj : j = g
        · subst hj
          rw [heap_setCell_same _ _ _ _ _ h3, hcur, h3]
        · exact Below.heap_setCell w _ _ j (by exact hj)
      show ({ w with heap := (w.setCell ⟨g, a.length * 2, none⟩ (.int .i64 y.1)).heap } : World) = w
      rw [hh]
  rwa [e] at h2

/-- What the first loop has gathered. -/
def Gath (l s : List Iv) (k : Nat) : Prop := (valids (l.take k)).Perm s ∧ Sorted1 s
theorem gath_zero (l : List Iv) : Gath l [] 0 := ⟨by simp [valids], List.Pairwise.nil⟩
theorem gath_no {l s : List Iv} {k : Nat} {x : Iv} (h : Gath l s k) (hx : l[k]? = some x) (ho : okI x.1 x.2 = false) : Gath l s (k + 1) := by
  refine ⟨?_, h.2⟩
  rw [valids_take l k x hx]; simpa [ho] using h.1
theorem gath_yes {l s : List Iv} {k : Nat} {x : Iv} (h : Gath l s k) (hx : l[k]? = some x) (ho : okI x.1 x.2 = true) : Gath l (putI s x) (k + 1) := by
  refine ⟨?_, putI_sorted s x h.2⟩
  rw [valids_take l k x hx]
  simp only [ho, if_true]
  refine List.Perm.trans ?_ (putI_perm s x)
  exact (List.perm_append_comm).trans (List.Perm.cons x h.1)
theorem gath_length {l s : List Iv} {k : Nat} (h : Gath l s k) : s.length ≤ k := by
  rw [← h.1.length_eq]
  exact Nat.le_trans (List.length_filter_le _ _) (by rw [List.length_take]; omega)
theorem gath_end {l s : List Iv} (h : Gath l s l.length) : unionF s = uni l := by
  have := h.1
  rw [List.take_length] at this
  exact isUnion_unique (isUnion_of l s this h.2) (uni_is l)
theorem gath_ok {l s : List Iv} {k : Nat} (h : Gath l s k) : AllOk s := fun z hz => valids_ok _ z (h.1.mem_iff.2 hz)

set_option maxHeartbeats 4000000 in
set_option maxRecDepth 100000 in
theorem runion_any (l : List Iv) (ao : Option Addr) (cap : Nat) (hl : l.length < 1099511627776) (w : World) (h : SlotsAt w ao l) :
    Calls Try.prog 18 #[.slice ao l.length cap] w (IvsAre w (uni l)) := by
  have H := Lib.hid h
  clear h
  go_enter Try.func18, Try.ntmps18
  go_wp2_with fail
  go_loopw [3, 4] (fun v i wr => ∃ (k : Nat) (v0 : Value) (s : List Iv), v0 = v ∧ i = .int .i64 k ∧ k ≤ l.length ∧ Below w.heap.size w wr ∧ OwnIv wr w.heap.size v s ∧ Hid (Gath l s k)) (fun _ i _ => l.length - (intOf i).toNat)
  case atStart => exact ⟨0, _, [], rfl, rfl, Nat.zero_le _, Below.refl _ _, OwnIv.nil _ _, Lib.hid (gath_zero l)⟩
  case round =>
    obtain ⟨k, v, s, rfl, rfl, hk, hB, hO, HG⟩ := hrel
    have HB := Lib.hid hB
    have HO := Lib.hid hO
    have hsz := hB.size
    have hsl := gath_length HG.out
    obtain ⟨a1, cc, rfl, hss, hcc, hnc⟩ := hO.shape
    by_cases hlt : k < l.length
    · obtain ⟨x, hx⟩ : ∃ x, l[k]? = some x := ⟨l[k], List.getElem?_eq_getElem hlt⟩
      obtain ⟨b, off, rfl, hrow⟩ := (H.out.kept hB).some (by omega)
      obtain ⟨c1, c2⟩ := hrow k x hx
      have HX := Lib.hid hx
      obtain ⟨x1, x2⟩ := x
      have HNC := Lib.hid hnc
      have HCC := Lib.hid hcc
      have hi0 : (0 : Int) ≤ (k : Int) := by omega
      have hil : (k : Int) < (l.length : Int) := by omega
      clear hx hrow hB hO hss hnc hcc
      go_wp2_with fail
      refine (rvalid_any x1 x2 _).mono ?_
      rintro e X ⟨rfl, hb⟩
      have HBX : Hid (Below w.heap.size w X) := HB.out.trans (hb.mono hsz)
      have HOX : Hid (OwnIv X w.heap.size (.slice a1 s.length cc) s) := HO.out.kept hb
      have d1 : X.cell? ⟨b, off + k * 2, none⟩ = some (.int .i64 x1) := (hb.cell (cells_lt c1)).trans c1
      have d2 : X.cell? ⟨b, off + k * 2 + 1, none⟩ = some (.int .i64 x2) := (hb.cell (cells_lt c2)).trans c2
      clear hb
      cases hok : okI x1 x2
      · have HG2 := Lib.hid (gath_no HG.out HX.out hok)
        simp only [Bool.false_eq_true, if_false]
        clear hok
        go_wp2_with fail
        go_roundw
        case rel => exact ⟨k + 1, _, s, rfl, by go_num, by omega, HBX.out, HOX.out, HG2⟩
        case measure => simp [intOf]; omega
      · have HG2 := Lib.hid (gath_yes HG.out HX.out hok)
        simp only [if_true]
        clear hok
        have HP := Lib.hid (put_any s a1 cc (by omega) HCC.out HNC.out x1 x2 X (by obtain ⟨ao', c', he, hs', -⟩ := HOX.out.shape; injection he with e1 e2 e3; subst e1; exact hs'))
        go_wp2_with fail
        refine HP.out.mono ?_
        rintro e w2 ⟨v2, rfl, ho2, hb2⟩
        have HO2 : Hid (OwnIv w2 w.heap.size v2 (putI s (x1, x2))) := ho2.mono HBX.out.size
        have HB2 : Hid (Below w.heap.size w w2) := HBX.out.trans (hb2.mono HBX.out.size)
        clear ho2 hb2
        go_wp2_with fail
        go_roundw
        case rel => exact ⟨k + 1, _, _, rfl, by go_num, by omega, HB2.out, HO2.out, HG2⟩
        case measure => simp [intOf]; omega
    · have hk2 : k = l.length := by omega
      subst hk2
      have HE := Lib.hid (gath_end HG.out)
      have HOKS := Lib.hid (gath_ok HG.out)
      have HRO : Hid (∀ k, AllOk (unionF (s.take k))) := fun k => (unionF_spec (s.take k) (fun z hz => HOKS.out z (List.mem_of_mem_take hz)) (HG.out.2.sublist (List.take_sublist _ _))).2.1
      have HS := Lib.hid hss
      clear hO hB hss hnc hcc HG H
      go_wp2_with fail
      obtain ⟨wo, rfl⟩ : ∃ wo : World, wo = wr := ⟨_, rfl⟩
      go_loopw [5, 6] (fun v i wx => ∃ (k : Nat) (v0 : Value), v0 = v ∧ i = .int .i64 k ∧ k ≤ s.length ∧ Below wo.heap.size wo wx ∧ OwnIv wx wo.heap.size v (unionF (s.take k))) (fun _ i _ => s.length - (intOf i).toNat)
      case atStart => exact ⟨0, _, rfl, rfl, Nat.zero_le _, Below.refl _ _, OwnIv.nil _ _⟩
      case round =>
        obtain ⟨k, v, rfl, rfl, hk, hB, hO⟩ := hrel
        have HBx := Lib.hid hB
        have HO := Lib.hid hO
        have hszx := Lib.hid hB.size
        by_cases hlt2 : k < s.length
        · obtain ⟨x, hx⟩ : ∃ x, s[k]? = some x := ⟨s[k], List.getElem?_eq_getElem hlt2⟩
          obtain ⟨b, off, he, hrow⟩ := (HS.out.kept hB).some (by omega)
          subst he
          obtain ⟨c1, c2⟩ := hrow k x hx
          have hn := unionF_succ s k x hx
          have hxo := okI_yes (HOKS.out x (List.mem_of_getElem? hx))
          have hro := HRO.out k
          have hul : (unionF (s.take k)).length ≤ k := Nat.le_trans (unionF_length _) (by rw [List.length_take]; omega)
          generalize unionF (s.take k) = r at *
          obtain ⟨x1, x2⟩ := x
          obtain ⟨x3, x4, x5⟩ := hxo
          have HN := Lib.hid hn
          have hk0 : (0 : Int) ≤ (k : Int) := by omega
          have hks : (k : Int) < (s.length : Int) := by omega
          simp only at x3 x4 x5
          clear hn hx hrow hB
          rcases last_cases r with rfl | ⟨a, y, rfl⟩
          · obtain ⟨a2, c2', rfl, -⟩ := own_slice hO
            have HU : Hid (unionF (s.take (k + 1)) = [] ++ [(x1, x2)]) := HN.out
            have HLN : Hid (([] : List Iv).length < 4398046511104) := by show _ < _; simp
            clear hO hro
            go_wp2_with fail
            go_quiet (fail)
            generalize hX : wr.drewN nq = X
            have HXB : Hid (Below wo.heap.size wo X) := by rw [← hX]; exact below_drewN HBx.out _
            have HXO : Hid (OwnIv X wo.heap.size (.slice a2 0 c2') []) := by rw [← hX]; exact HO.out
            have HXS : Hid (wo.heap.size ≤ X.heap.size) := HXB.out.size
            have e1 : X.cell? ⟨b, off + k * 2, none⟩ = some (.int .i64 x1) := by rw [← hX]; exact c1
            have e2 : X.cell? ⟨b, off + k * 2 + 1, none⟩ = some (.int .i64 x2) := by rw [← hX]; exact c2
            clear hX c1 c2
            go_wp2_with (at_builtin; refine wpList_app rfl (.tmp 67) (.tmp 72) rfl rfl rfl HXO.out HXS.out HLN.out ?_; intro v' w1 ho hb; have HO1 := Lib.hid ho; have HB1 := Lib.hid hb; clear ho hb)
            go_roundw
            case rel => exact ⟨k + 1, _, rfl, by go_num, by omega, HXB.out.trans HB1.out, by rw [HU.out]; exact HO1.out⟩
            case measure => simp [intOf]; omega
          · obtain ⟨y1, y2⟩ := y
            obtain ⟨y3, y4, y5⟩ := okI_yes (hro (y1, y2) (by simp))
            obtain ⟨a2, c2', rfl, -⟩ := own_slice hO
            obtain ⟨g, rfl, hlen, hBg, hlc, o0, o1, of0, of1⟩ := hO.last
            have HO2 := HO.out
            rw [hlen] at HO2 hlc
            have HXO0 := Lib.hid HO2
            have HM : Hid (a.length + 1 ≤ k) := by show _ ≤ _; rw [← hlen]; exact hul
            clear hO hul HO2 HO hro
            rw [hlen]
            generalize hm : a.length = m at *
            have HMM := Lib.hid hm
            clear hm hlen
            have hm0 : (0 : Int) ≤ (m : Int) := by omega
            have hmk : m ≤ 1099511627776 := by have := HM.out; omega
            have hmm : 0 < m + 1 := by omega
            have ws1 : IntKind.i64.wrap ((m : Int) + 1 - 1) = (m : Int) := by rw [show (m : Int) + 1 - 1 = m by omega]; exact IntWalk.i64_in _ (by omega)
            have ws2 : (m : Int) < (m : Int) + 1 := by omega
            have ws3 : IntKind.i64.wrap (m : Int) = (m : Int) := IntWalk.i64_in _ (by omega)
            have ws4 : IntKind.i64.wrap (y2 + 1) = y2 + 1 := IntWalk.i64_in _ (by omega)
            by_cases hc : x1 ≤ y2 + 1
            · have hcd : decide (x1 ≤ y2 + 1) = true := by simpa using hc
              go_wp2_with fail
              go_quiet (fail)
              generalize hX : wr.drewN nq = X
              have HXB : Hid (Below wo.heap.size wo X) := by rw [← hX]; exact below_drewN HBx.out _
              have HXO : Hid (OwnIv X wo.heap.size (.slice (some ⟨g, 0, none⟩) (m + 1) c2') (a ++ [(y1, y2)])) := by rw [← hX]; exact HXO0.out
              have HXS : Hid (wo.heap.size ≤ X.heap.size) := HXB.out.size
              have e1 : X.cell? ⟨b, off + k * 2, none⟩ = some (.int .i64 x1) := by rw [← hX]; exact c1
              have e2 : X.cell? ⟨b, off + k * 2 + 1, none⟩ = some (.int .i64 x2) := by rw [← hX]; exact c2
              have p0 : X.cell? ⟨g, m * 2, none⟩ = some (.int .i64 y1) := by rw [← hX]; exact o0
              have p1 : X.cell? ⟨g, m * 2 + 1, none⟩ = some (.int .i64 y2) := by rw [← hX]; exact o1
              have pf1 : X.frozen? ⟨g, m * 2 + 1, none⟩ = false := by rw [← hX]; exact of1
              clear hX c1 c2 o0 o1 of0 of1
              have HU : Hid (unionF (s.take (k + 1)) = a ++ [(y1, max y2 x2)]) := by show _ = _; rw [HN.out, unionS_near _ _ _ hc]
              go_wp2_with fail
              go_still_tail 17, (by kernel_rfl)
              have FIN : Hid (OwnIv (X.setCell ⟨g, m * 2 + 1, none⟩ (.int .i64 (max y2 x2))).drew wo.heap.size (.slice (some ⟨g, 0, none⟩) (m + 1) c2') (unionF (s.take (k + 1))) ∧ Below wo.heap.size wo (X.setCell ⟨g, m * 2 + 1, none⟩ (.int .i64 (max y2 x2))).drew) := by
                refine ⟨?_, (HXB.out.setCell hBg _).drew⟩
                rw [HU.out]
                have := HXO.out.setTo (max y2 x2)
                rw [HMM.out] at this
                exact this
              go_wp2_with fail
              go_roundw
              case rel => exact ⟨k + 1, _, rfl, by go_num, by omega, FIN.out.2, FIN.out.1⟩
              case measure => simp [intOf]; omega
            · have hcd : decide (x1 ≤ y2 + 1) = false := by simpa using hc
              go_wp2_with fail
              go_quiet (fail)
              generalize hX : wr.drewN nq = X
              have HXB : Hid (Below wo.heap.size wo X) := by rw [← hX]; exact below_drewN HBx.out _
              have HXO : Hid (OwnIv X wo.heap.size (.slice (some ⟨g, 0, none⟩) (m + 1) c2') (a ++ [(y1, y2)])) := by rw [← hX]; exact HXO0.out
              have HXS : Hid (wo.heap.size ≤ X.heap.size) := HXB.out.size
              have e1 : X.cell? ⟨b, off + k * 2, none⟩ = some (.int .i64 x1) := by rw [← hX]; exact c1
              have e2 : X.cell? ⟨b, off + k * 2 + 1, none⟩ = some (.int .i64 x2) := by rw [← hX]; exact c2
              have p0 : X.cell? ⟨g, m * 2, none⟩ = some (.int .i64 y1) := by rw [← hX]; exact o0
              have p1 : X.cell? ⟨g, m * 2 + 1, none⟩ = some (.int .i64 y2) := by rw [← hX]; exact o1
              have pf1 : X.frozen? ⟨g, m * 2 + 1, none⟩ = false := by rw [← hX]; exact of1
              clear hX c1 c2 o0 o1 of0 of1
              have HU : Hid (unionF (s.take (k + 1)) = a ++ [(y1, y2)] ++ [(x1, x2)]) := by show _ = _; rw [HN.out, unionS_far _ _ _ (by show ¬ (x1 ≤ y2 + 1); omega)]
              have HLN : Hid ((a ++ [(y1, y2)]).length < 4398046511104) := by show _ < _; rw [List.length_append, HMM.out]; simp; omega
              clear hc
              go_wp2_with (at_builtin; refine wpList_app rfl (.tmp 67) (.tmp 72) rfl rfl rfl HXO.out HXS.out HLN.out ?_; intro v' w1 ho hb; have HO1 := Lib.hid ho; have HB1 := Lib.hid hb; clear ho hb)
              go_roundw
              case rel => exact ⟨k + 1, _, rfl, by go_num, by omega, HXB.out.trans HB1.out, by rw [HU.out]; exact HO1.out⟩
              case measure => simp [intOf]; omega
        · have hk2 : k = s.length := by omega
          subst hk2
          rw [List.take_length] at *
          rw [HE.out] at hO
          have HS2 := Lib.hid hO.slots
          clear hO hB
          go_wp2_with fail
          go_ret
          obtain ⟨ao', c', rfl, hs, hlc⟩ := HS2.out
          exact ⟨ao', c', rfl, hs, hlc, HB.out.trans (HBx.out.mono HB.out.size)⟩
end Go.Proofs.Ytolkmfpbgheaaaa
