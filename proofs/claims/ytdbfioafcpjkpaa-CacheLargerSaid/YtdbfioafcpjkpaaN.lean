/-
  Which caches are valid, as the cache itself says it.
-/
import Derived.Test.YtdbfioafcpjkpaaM
import Derived.Deep.QuietTactic
import Derived.BigQuiet
import Derived.WalkSmall
import Derived.Deep.DeepCutAuto
import Derived.Deep.CutBlock
namespace Go.Proofs.Ytdbfioafcpjkpaa
open Go.ChangeShapes Go.WideShapes Go.ChangeAt Go.RowKit

/-- A slot that may stand at its place. -/
def OkAt (L : Int) (l : List Sl) (i : Nat) (x : Sl) : Prop := 0 ≤ x.2 ∧ x.2 ≤ L - wsum (l.take i) ∧ pos x.1 (l.take i) 0 < 0
theorem valid_ok {L : Int} {l : List Sl} (h : Valid L l) (i : Nat) (x : Sl) (hx : l[i]? = some x) : OkAt L l i x := by
  have hm := List.mem_of_getElem? hx
  have h2 := h.2.2.1 x hm
  have e := wsum_take l i x hx
  have h3 := wsum_sub (List.take_sublist (i + 1) l) h.2.2.1
  refine ⟨h2, by have := h.2.2.2.1; omega, pos_neg.2 ?_⟩
  intro y hy
  rcases hq : (y.1 == x.1) with _ | _
  · rfl
  · exfalso
    obtain ⟨j, hj, hjy⟩ := List.mem_iff_getElem.1 hy
    have hn := h.2.2.2.2
    unfold Distinct at hn
    obtain ⟨hi, hxi⟩ := List.getElem?_eq_some_iff.1 hx
    simp at hj hjy
    rw [List.nodup_iff_pairwise_ne, List.pairwise_iff_getElem] at hn
    have := hn j i (by simp; omega) (by simp; omega) (by omega)
    simp [hjy, hxi, eq_of_beq hq] at this
theorem valid_of {L : Int} {l : List Sl} (h0 : 0 ≤ L) (h1 : L ≤ 1152921504606846976) (h : ∀ i x, l[i]? = some x → OkAt L l i x) : Valid L l := by
  have hw : ∀ x, x ∈ l → 0 ≤ x.2 := by
    intro x hx
    obtain ⟨i, hi, rfl⟩ := List.mem_iff_getElem.1 hx
    exact (h i _ (List.getElem?_eq_getElem hi)).1
  refine ⟨h0, h1, hw, ?_, ?_⟩
  · rcases Nat.eq_zero_or_pos l.length with hz | hz
    · rw [List.eq_nil_of_length_eq_zero hz]; simpa [wsum] using h0
    · have hx : l[l.length - 1]? = some l[l.length - 1] := List.getElem?_eq_getElem (by omega)
      have h2 := (h _ _ hx).2.1
      have e := wsum_take l _ _ hx
      rw [show l.length - 1 + 1 = l.length by omega, List.take_length] at e
      omega
  · unfold Distinct
    rw [List.nodup_iff_pairwise_ne, List.pairwise_iff_getElem]
    intro i j hi hj hij e
    simp at hi hj e
    have := pos_neg.1 (h j _ (List.getElem?_eq_getElem hj)).2.2 l[i] (List.mem_iff_getElem.2 ⟨i, by simp; omega, by simp⟩)
    rw [e] at this
    simp at this
/-- What Check hands back. -/
def CheckIs (w : World) (L : Int) (l : List Sl) (e : Ending) (w' : World) : Prop :=
  ∃ r : Int, e = .returned (.int .i64 r) ∧ (Valid L l → r = 0) ∧ (¬ Valid L l → r = 1) ∧ Below w.heap.size w w'
theorem check_bad (L : Int) (l : List Sl) (h : L < 0 ∨ 1152921504606846976 < L) : ¬ Valid L l := fun hv => by have := hv.1; have := hv.2.1; omega
set_option maxRecDepth 100000 in
theorem check_out (L : Int) (l : List Sl) (h : L < 0 ∨ 1152921504606846976 < L) (v : Value) (w : World) : Calls Try.prog 19 #[.agg #[.int .i64 L, v]] w (CheckIs w L l) := by
  have HV := Lib.hid (check_bad L l h)
  rcases h with h | h
  · have d1 : decide (L < 0) = true := by simpa using h
    go_enter Try.func19, Try.ntmps19
    go_wp2_with fail
    exact bodyPost_ret (v := .int .i64 1) (by simp [results, Try.results19, go_sem]) rfl ⟨1, rfl, fun h => absurd h HV.out, fun _ => rfl, below_here _⟩
  · have d1 : decide (L < 0) = false := by simp; omega
    have d2 : decide (1152921504606846976 < L) = true := by simpa using h
    go_enter Try.func19, Try.ntmps19
    go_wp2_with fail
    exact bodyPost_ret (v := .int .i64 1) (by simp [results, Try.results19, go_sem]) rfl ⟨1, rfl, fun h => absurd h HV.out, fun _ => rfl, below_here _⟩

set_option maxHeartbeats 1000000 in
set_option maxRecDepth 100000 in
theorem check_in (L : Int) (l : List Sl) (h0 : 0 ≤ L) (h1 : L ≤ 1152921504606846976) (ao : Option Addr) (cap : Nat) (hcap : l.length ≤ cap) (hl : l.length ≤ 4611686018427387904) (w : World) (h : SlotsAt w ao l) :
    Calls Try.prog 19 #[.agg #[.int .i64 L, .slice ao l.length cap]] w (CheckIs w L l) := by
  have H := Lib.hid h
  clear h
  have d1 : decide (L < 0) = false := by simp; omega
  have d2 : decide (1152921504606846976 < L) = false := by simp; omega
  go_enter Try.func19, Try.ntmps19
  go_wp2_with fail
  refine wp_gen (fun W hW => ?_)
  have HW : Hid (Below w.heap.size w W ∧ Two W w.heap.size (.int .i64 L) (.slice ao l.length cap)) := by rw [hW]; exact ⟨below_here _, Two.new _ _ _⟩
  clear hW
  go_loopw [3, 19] (fun u v wr => ∃ i : Nat, v = .int .i64 i ∧ i ≤ l.length ∧ u = .int .i64 (L - wsum (l.take i)) ∧ (∀ j y, j < i → l[j]? = some y → OkAt L l j y) ∧ 0 ≤ wsum (l.take i) ∧ wsum (l.take i) ≤ L ∧ Below W.heap.size W wr) (fun _ v _ => l.length - (intOf v).toNat)
  case atStart => exact ⟨0, rfl, Nat.zero_le _, by simp [wsum], fun j y hj => by omega, by simp [wsum], by simp [wsum]; omega, Below.refl _ _⟩
  case round =>
    obtain ⟨i, rfl, hi, rfl, hok, hs0, hs1, hB⟩ := hrel
    have HOK := Lib.hid hok
    clear hok
    obtain ⟨b0, b1, -, -⟩ := (HW.out.2.kept hB).all
    have HBw := HW.out.1.trans (hB.mono HW.out.1.size)
    by_cases hlt : i < l.length
    · obtain ⟨x, hx⟩ : ∃ x, l[i]? = some x := ⟨l[i], List.getElem?_eq_getElem hlt⟩
      obtain ⟨b, off, rfl, hrow⟩ := (H.out.kept HBw).some (by omega)
      obtain ⟨s, hs, hc, hc2⟩ := hrow i x hx
      have HX := Lib.hid hx
      have HS := Lib.hid hs
      have HBW := Lib.hid HBw
      have HN := Lib.hid (wsum_take l i x hx)
      clear hx hs hrow HBw
      by_cases hneg : x.2 < 0
      · have hd : decide (x.2 < 0) = true := by simpa using hneg
        have HV : Hid (¬ Valid L l) := fun hv => by have := (valid_ok hv i x HX.out).1; omega
        go_wp2_with fail
        go_quiet (fail)
        go_wp2_with fail
        refine bodyPost_ret (v := .int .i64 1) (by simp [results, Try.results19, go_sem]) rfl ⟨1, rfl, fun h => absurd h HV.out, fun _ => rfl, ?_⟩
        have := HBW.out
        exact below_drewN (this.alloc this.size _) _
      · have hd : decide (x.2 < 0) = false := by simpa using hneg
        by_cases hbig : L - wsum (l.take i) < x.2
        · have hd2 : decide (L - wsum (l.take i) < x.2) = true := by simpa using hbig
          have HV : Hid (¬ Valid L l) := fun hv => by have := (valid_ok hv i x HX.out).2.1; omega
          go_wp2_with fail
          go_quiet (fail)
          go_wp2_with fail
          refine bodyPost_ret (v := .int .i64 1) (by simp [results, Try.results19, go_sem]) rfl ⟨1, rfl, fun h => absurd h HV.out, fun _ => rfl, ?_⟩
          have := HBW.out
          exact below_drewN (this.alloc this.size _) _
        · have hd2 : decide (L - wsum (l.take i) < x.2) = false := by simpa using hbig
          have hup := run_upto (P := Try.prog) 22 34 2 Try.underlying22 info34 (some ⟨b, off, none⟩) l.length cap i (by omega)
          have hbsz : w.heap.size < wr.heap.size := cells_lt b0
          obtain ⟨g, hg⟩ : ∃ g, g = wr.heap.size := ⟨_, rfl⟩
          go_upto_region 7 with fail
          rw [← hg]
          refine wp_gen (fun V hV => ?_)
          have k0 : V.cell? ⟨g, 0, none⟩ = some (.string s) := by rw [hV, hg]; simp [go_sem]
          have k1 : V.cell? ⟨g, 1, none⟩ = some (.int .i64 x.2) := by rw [hV, hg]; simp [go_sem]
          have HVB : Below wr.heap.size wr V := by rw [hV]; exact below_here _
          have k2 : V.cell? ⟨w.heap.size, 1, none⟩ = some (.slice (some ⟨b, off, none⟩) l.length cap) := (HVB.cell hbsz).trans b1
          have HS3 : Hid (∀ w', Below V.heap.size V w' → Below V.heap.size V w' ∧ w'.cell? ⟨g, 0, none⟩ = some (.string s) ∧ w'.cell? ⟨g, 1, none⟩ = some (.int .i64 x.2) ∧ w'.cell? ⟨w.heap.size, 1, none⟩ = some (.slice (some ⟨b, off, none⟩) l.length cap)) :=
            fun w' h => ⟨h, (h.cell (cells_lt k0)).trans k0, (h.cell (cells_lt k1)).trans k1, (h.cell (cells_lt k2)).trans k2⟩
          have HWV := HBW.out.trans (HVB.mono HBW.out.size)
          have hti : (l.take i).length = i := by simp; omega
          have HI : Hid (∀ w' c, Below V.heap.size V w' → w'.cell? ⟨c, 0, none⟩ = some (.string s) → Calls Try.prog 28 #[.slice (some ⟨b, off, none⟩) i cap, .func (.func 32) #[] #[.pointer (some ⟨c, 0, none⟩)]] w' fun e w2 => e = .returned (.int .i64 (pos s.toList (l.take i) 0)) ∧ Below w'.heap.size w' w2) := by
            intro w' c hb hc
            have hr : SlotsAt w' (some ⟨b, off, none⟩) (l.take i) := by
              rcases H.out.kept (HWV.trans (hb.mono HWV.size)) with rfl | ⟨b', off', e, h⟩
              · exact Or.inl (by simp)
              · refine Or.inr ⟨b', off', e, fun j y hj => h j y ?_⟩
                rw [List.getElem?_take] at hj
                split at hj
                · exact hj
                · cases hj
            have := index_any (l.take i) s c _ cap (by omega) w' hr hc
            rw [hti] at this
            exact this
          have HPOS : Hid (pos s.toList (l.take i) 0 = pos x.1 (l.take i) 0) := by show _ = _; rw [HS.out]
          have HWV' := Lib.hid HWV
          have HVB' := Lib.hid HVB
          clear hV hg HVB HWV hup hti
          have hup := run_upto (P := Try.prog) 22 34 2 Try.underlying22 info34 (some ⟨b, off, none⟩) l.length cap i (by omega)
          generalize pos s.toList (l.take i) 0 = q at *
          generalize hsum : wsum (l.take i) = sm at *
          have HSM := Lib.hid hsum
          clear hsum
          by_cases hq : 0 ≤ q
          · have hd3 : decide (0 ≤ q) = true := by simpa using hq
            have HV : Hid (¬ Valid L l) := fun hv => by have := (valid_ok hv i x HX.out).2.2; have := HPOS.out; omega
            go_region_held3 (fun w' => Below V.heap.size V w' ∧ w'.cell? ⟨g, 0, none⟩ = some (.string s) ∧ w'.cell? ⟨g, 1, none⟩ = some (.int .i64 x.2) ∧ w'.cell? ⟨w.heap.size, 1, none⟩ = some (.slice (some ⟨b, off, none⟩) l.length cap))
              (first | exact HS3.out _ ((Below.refl _ _).drew) | exact HS3.out _ (keepB (Nat.le_refl _) (And.left (by assumption)) hb))
              (first | (go_at_call 29; refine (of_any _ _).mono ?_; rintro e w' ⟨c, rfl, hcc, hcell, hb⟩) | (go_at_call 28; refine (HI.out _ _ (And.left (by assumption)) hcell).mono ?_; rintro e w' ⟨rfl, hb⟩))
            have HZ : Below V.heap.size V w' := And.left (by assumption)
            go_wp2_with fail
            refine bodyPost_ret (v := .int .i64 1) (by simp [results, Try.results19, go_sem]) rfl ⟨1, rfl, fun h => absurd h HV.out, fun _ => rfl, ?_⟩
            exact HWV'.out.trans (HZ.mono HWV'.out.size)
          · have hd3 : decide (0 ≤ q) = false := by simpa using hq
            have HOK2 : Hid (∀ j y, j < i + 1 → l[j]? = some y → OkAt L l j y) := by
              intro j y hj hy
              by_cases e : j = i
              · subst e
                have e2 := HX.out
                rw [hy] at e2
                injection e2 with e2
                subst e2
                exact ⟨by omega, by rw [HSM.out]; omega, by rw [← HPOS.out]; omega⟩
              · exact HOK.out j y (by omega) hy
            have HVW : Hid (∀ w', Below V.heap.size V w' → Below W.heap.size W w') := fun w' h => (hB.trans (HVB'.out.mono hB.size)).trans (h.mono (by have := hB.size; have := HVB'.out.size; omega))
            clear hB HOK
            go_region_held3 (fun w' => Below V.heap.size V w' ∧ w'.cell? ⟨g, 0, none⟩ = some (.string s) ∧ w'.cell? ⟨g, 1, none⟩ = some (.int .i64 x.2) ∧ w'.cell? ⟨w.heap.size, 1, none⟩ = some (.slice (some ⟨b, off, none⟩) l.length cap))
              (first | exact HS3.out _ ((Below.refl _ _).drew) | exact HS3.out _ (keepB (Nat.le_refl _) (And.left (by assumption)) hb))
              (first | (go_at_call 29; refine (of_any _ _).mono ?_; rintro e w' ⟨c, rfl, hcc, hcell, hb⟩) | (go_at_call 28; refine (HI.out _ _ (And.left (by assumption)) hcell).mono ?_; rintro e w' ⟨rfl, hb⟩))
            have HZ : Below V.heap.size V w' := And.left (by assumption)
            obtain ⟨-, z0, z1, z2⟩ := HS3.out _ HZ
            go_wp2_with fail
            go_roundw
            case rel => exact ⟨i + 1, by go_num, by omega, by rw [HN.out]; go_num, HOK2.out, by rw [HN.out]; omega, by rw [HN.out]; omega, HVW.out _ HZ⟩
            case measure => simp [intOf]; omega
    · have hi2 : i = l.length := by omega
      subst hi2
      have HV : Hid (Valid L l) := valid_of h0 h1 (fun j y hy => HOK.out j y (List.getElem?_eq_some_iff.1 hy).1 hy)
      clear HOK
      go_wp2_with fail
      exact bodyPost_ret (v := .int .i64 0) (by simp [results, Try.results19, go_sem]) rfl ⟨0, rfl, fun _ => rfl, fun h => absurd HV.out h, HBw⟩
theorem check_any (L : Int) (l : List Sl) (ao : Option Addr) (cap : Nat) (hcap : l.length ≤ cap) (hl : l.length ≤ 4611686018427387904) (w : World) (h : SlotsAt w ao l) :
    Calls Try.prog 19 #[.agg #[.int .i64 L, .slice ao l.length cap]] w (CheckIs w L l) := by
  by_cases h0 : L < 0 ∨ 1152921504606846976 < L
  · exact check_out L l h0 _ w
  · exact check_in L l (by omega) (by omega) ao cap hcap hl w h
end Go.Proofs.Ytdbfioafcpjkpaa
