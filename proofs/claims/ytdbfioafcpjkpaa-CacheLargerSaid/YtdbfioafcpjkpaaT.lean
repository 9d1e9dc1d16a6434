/-
  A cache after some uses.
-/
import Derived.Test.YtdbfioafcpjkpaaS
namespace Go.Proofs.Ytdbfioafcpjkpaa
open Go.ChangeShapes Go.WideShapes Go.ChangeAt Go.RowKit

theorem keepA {w0 w : World} (h : Below w0.heap.size w0 w) (o : Obj) : Below w0.heap.size w0 (w.alloc o) := h.alloc h.size o
theorem keepA2 {w0 w : World} (h : Below w0.heap.size w0 w) (o : Obj) (x y : Value) : Below w0.heap.size w0 (((w.alloc o).setCell ⟨w.heap.size, 0, none⟩ x).setCell ⟨w.heap.size, 1, none⟩ y) := ((h.alloc h.size o).setCell h.size x).setCell h.size y
theorem cnt_fits (m : Int) (hm : 0 ≤ m) : ∀ l : List Sl, wsum (l.drop (cnt m l)) ≤ m
  | [] => by simp [cnt, wsum]; exact hm
  | x :: l => by
    by_cases h : m < wsum (x :: l)
    · rw [cnt, if_pos h]; exact cnt_fits m hm l
    · rw [cnt, if_neg h]; simp; omega
theorem fil_key (key : List UInt8) (l : List Sl) : ∀ x, x ∈ fil key l → x.1 ≠ key := by
  intro x hx e
  unfold fil at hx
  have := (List.mem_filter.1 hx).2
  simp [e] at this
theorem valid_used {L n : Int} {l : List Sl} (hv : Valid L l) (hn : 0 ≤ n) (hL : n ≤ L) (key : List UInt8) : Valid L (used L key n l) := by
  have hf := hv.sub (fil_sub key l)
  have hd := hf.sub (List.drop_sublist (cnt (L - n) (fil key l)) (fil key l))
  refine ⟨hv.1, hv.2.1, ?_, ?_, ?_⟩
  · intro x hx
    unfold used at hx
    rcases List.mem_append.1 hx with hx | hx
    · exact hd.2.2.1 x hx
    · simp at hx; subst hx; exact hn
  · unfold used
    rw [wsum_append]
    have := cnt_fits (L - n) (by omega) (fil key l)
    simp [wsum]; omega
  · unfold used Distinct
    rw [List.map_append, List.nodup_append]
    refine ⟨hd.2.2.2.2, by simp, ?_⟩
    intro a ha b hb
    simp at hb
    subst hb
    obtain ⟨x, hx, rfl⟩ := List.mem_map.1 ha
    exact fil_key _ l x (List.mem_of_mem_drop hx)
/-- One use, which has no effect where it is refused. -/
def step (L : Int) (c : List Sl) (u : Sl) : List Sl := if 0 ≤ u.2 ∧ u.2 ≤ L then used L u.1 u.2 c else c
def runs (L : Int) (us : List Sl) : List Sl := us.foldl (step L) []
theorem runs_take (L : Int) (us : List Sl) (i : Nat) (x : Sl) (hx : us[i]? = some x) : runs L (us.take (i + 1)) = step L (runs L (us.take i)) x := by
  rw [List.take_add_one, hx]
  simp [runs, List.foldl_append]
theorem used_len (L n : Int) (key : List UInt8) (l : List Sl) : (used L key n l).length ≤ l.length + 1 := by
  unfold used
  have := fil_len key l
  simp; omega
theorem valid_runs {L : Int} (h0 : 0 ≤ L) (h1 : L ≤ 1152921504606846976) (us : List Sl) : ∀ i, Valid L (runs L (us.take i)) ∧ (runs L (us.take i)).length ≤ i := by
  intro i
  induction i with
  | zero => exact ⟨⟨h0, h1, by simp [runs], by simp [runs, wsum]; omega, by simp [runs, Distinct]⟩, by simp [runs]⟩
  | succ i ih =>
    cases hx : us[i]? with
    | none =>
      have hl := List.getElem?_eq_none_iff.1 hx
      rw [List.take_of_length_le (by omega)]
      rw [List.take_of_length_le (by omega)] at ih
      exact ⟨ih.1, by omega⟩
    | some x =>
      rw [runs_take L us i x hx]
      unfold step
      split
      · rename_i h
        exact ⟨valid_used ih.1 h.1 h.2 _, by have := used_len L x.2 x.1 (runs L (us.take i)); omega⟩
      · exact ⟨ih.1, by omega⟩

set_option maxHeartbeats 1000000 in
set_option maxRecDepth 100000 in
theorem after_bad (L : Int) (h : L < 0 ∨ 1152921504606846976 < L) (v : Value) (w : World) :
    Calls Try.prog 14 #[.int .i64 L, v] w fun e w' => e = .returned (.tuple #[.agg #[.int .i64 0, .slice none 0 0], .bool false]) ∧ Below w.heap.size w w' := by
  have HN := Lib.hid (new_bad L h)
  go_enter Try.func14, Try.ntmps14
  go_wp2_with fail
  refine (HN.out _).mono ?_
  rintro e w1 ⟨rfl, hb⟩
  have HB1 : Below w.heap.size w w1 := (below_here _).trans (hb.mono (by simp))
  have T1 : Hid (Two w1 w.heap.size (.int .i64 0) (.slice none 0 0)) := (Two.new w _ _).kept hb
  have hz : w.heap.size < w1.heap.size := T1.out.lt
  obtain ⟨t0, t1, tf0, tf1⟩ := T1.out.all
  clear hb
  go_wp2_with fail
  have E := (((T1.out.put (.int .i64 0) (.slice none 0 0))).kept (below_here (.cells #[.int .i64 0, .slice none 0 0] 24))).all
  refine bodyPost_ret (v := .tuple #[.agg #[.int .i64 0, .slice none 0 0], .bool false]) (by simp [results, Try.results14, go_sem, E.1, E.2.1]) rfl ⟨rfl, ((HB1.setCell (by simp) _).setCell (by simp) _).alloc (by simp; omega) _⟩

/-- What holds after i uses. -/
structure AftInv (w : World) (g : Nat) (L : Int) (us : List Sl) (i : Nat) (wr : World) : Prop where
  below : Below w.heap.size w wr
  high : w.heap.size < g
  ret : Two wr w.heap.size (.int .i64 0) (.slice none 0 0)
  res : ∃ a c, Two wr g (.int .i64 L) (.slice a (runs L (us.take i)).length c) ∧ (runs L (us.take i)).length ≤ c ∧ SlotsAt wr a (runs L (us.take i))
theorem AftInv.kept {w : World} {g : Nat} {L : Int} {us : List Sl} {i : Nat} {wr w1 : World} (h : AftInv w g L us i wr) (hb : Below wr.heap.size wr w1) : AftInv w g L us i w1 := by
  obtain ⟨a, c, T, hc, hs⟩ := h.res
  exact ⟨h.below.trans (hb.mono h.below.size), h.high, h.ret.kept hb, a, c, T.kept hb, hc, hs.kept hb⟩
/-- What after hands back. -/
def AfterIs (w : World) (L : Int) (l : List Sl) (e : Ending) (w' : World) : Prop :=
  ∃ ao cap, e = .returned (.tuple #[.agg #[.int .i64 L, .slice ao l.length cap], .bool true]) ∧ l.length ≤ cap ∧ SlotsAt w' ao l ∧ Below w.heap.size w w'

set_option maxHeartbeats 1000000 in
set_option maxRecDepth 100000 in
theorem after_good (L : Int) (h0 : 0 ≤ L) (h1 : L ≤ 1152921504606846976) (us : List Sl) (ao : Option Addr) (cap : Nat) (hl : us.length * 24 ≤ 140737488351232) (w : World) (h : SlotsAt w ao us) :
    Calls Try.prog 14 #[.int .i64 L, .slice ao us.length cap] w (AfterIs w L (runs L us)) := by
  have HN := Lib.hid (new_good L h0 h1)
  have H := Lib.hid h
  have HL := Lib.hid hl
  clear h hl
  go_enter Try.func14, Try.ntmps14
  go_wp2_with fail
  refine (HN.out _).mono ?_
  rintro e w1 ⟨rfl, hb⟩
  have HB1 : Below w.heap.size w w1 := (below_here _).trans (hb.mono (by simp))
  have T1 : Hid (Two w1 w.heap.size (.int .i64 0) (.slice none 0 0)) := (Two.new w _ _).kept hb
  have hz : w.heap.size < w1.heap.size := T1.out.lt
  have HI : Hid (AftInv w w1.heap.size L us 0 (w1.alloc (.cells #[.int .i64 L, .slice none 0 0] 24))) :=
    ⟨HB1.alloc HB1.size _, hz, T1.out.kept (below_here _), none, 0, Two.new _ _ _, by simp [runs], Or.inl (by simp [runs])⟩
  clear hb HB1 T1 HN
  go_wp2_with fail
  refine wp_gen (fun W hW => ?_)
  rw [← hW] at HI
  generalize w1.heap.size = g at *
  clear hW
  go_loopw [8] (fun v wr => ∃ i : Nat, v = .int .i64 i ∧ i ≤ us.length ∧ AftInv w g L us i wr) (fun v _ => us.length - (intOf v).toNat)
  case atStart => exact ⟨0, rfl, Nat.zero_le _, HI.out⟩
  case round =>
    clear HI
    obtain ⟨i, rfl, hi, hI⟩ := hrel
    have HK := Lib.hid hI
    have hll := HL.out
    clear hI
    obtain ⟨a2, c2, T, hc2, hs2⟩ := HK.out.res
    have HT := Lib.hid T
    have HS2 := Lib.hid hs2
    clear T hs2
    obtain ⟨q0, q1, qf0, qf1⟩ := HT.out.all
    by_cases hlt : i < us.length
    · obtain ⟨x, hx⟩ : ∃ x, us[i]? = some x := ⟨us[i], List.getElem?_eq_getElem hlt⟩
      obtain ⟨b, off, rfl, hrow⟩ := (H.out.kept HK.out.below).some (by omega)
      obtain ⟨s, hs, k1, k2⟩ := hrow i x hx
      have hi0 : (0 : Int) ≤ (i : Int) := by omega
      have hil : (i : Int) < (us.length : Int) := by omega
      have HR := Lib.hid (runs_take L us i x hx)
      have HV := Lib.hid (valid_runs h0 h1 us i)
      have HSS := Lib.hid hs
      clear hs hx hrow
      have HS3 : Hid (∀ w', Below wr.heap.size wr w' → Below wr.heap.size wr w' ∧ w'.cell? ⟨g, 0, none⟩ = some (.int .i64 L) ∧ w'.cell? ⟨g, 1, none⟩ = some (.slice a2 (runs L (us.take i)).length c2) ∧ w'.cell? ⟨b, off + i * 2, none⟩ = some (.string s) ∧ w'.cell? ⟨b, off + i * 2 + 1, none⟩ = some (.int .i64 x.2)) :=
        fun w' h => ⟨h, (h.cell (cells_lt q0)).trans q0, (h.cell (cells_lt q1)).trans q1, (h.cell (cells_lt k1)).trans k1, (h.cell (cells_lt k2)).trans k2⟩
      by_cases hok : 0 ≤ x.2 ∧ x.2 ≤ L
      · have HST : Hid (step L (runs L (us.take i)) x = used L s.toList x.2 (runs L (us.take i))) := by show _ = _; unfold step; rw [if_pos hok, HSS.out]
        have HUS : Hid (∀ w', Below wr.heap.size wr w' → Calls Try.prog 11 #[.agg #[.int .i64 L, .slice a2 (runs L (us.take i)).length c2], .string s, .int .i64 x.2] w' (UseIs w' L (used L s.toList x.2 (runs L (us.take i))) (gone L s.toList x.2 (runs L (us.take i))) 0)) :=
          fun w' hb => use_fits L x.2 _ HV.out.1 hok.1 hok.2 s a2 c2 hc2 (by have := HV.out.2; omega) w' (HS2.out.kept hb)
        obtain ⟨x1, x2⟩ := hok
        generalize hrr : runs L (us.take i) = rr at *
        have HRR := Lib.hid hrr
        clear hrr
        generalize hm : rr.length = m at *
        have HM := Lib.hid hm
        clear hm
        go_upto_region 7 with fail
        go_cut [9, 10, 11] (fun p _ f wx => ∃ (q : Nat) (a5 : Option Addr) (m5 c5 : Nat), p = .pointer (some ⟨q, 0, none⟩) ∧ f = .int .i64 0 ∧ m5 = (used L s.toList x.2 rr).length ∧ Two wx q (.int .i64 L) (.slice a5 m5 c5) ∧ m5 ≤ c5 ∧ SlotsAt wx a5 (used L s.toList x.2 rr) ∧ q ≠ g ∧ Below wr.heap.size wr wx)
        case first =>
          go_region_held3 (fun w' => Below wr.heap.size wr w' ∧ w'.cell? ⟨g, 0, none⟩ = some (.int .i64 L) ∧ w'.cell? ⟨g, 1, none⟩ = some (.slice a2 m c2) ∧ w'.cell? ⟨b, off + i * 2, none⟩ = some (.string s) ∧ w'.cell? ⟨b, off + i * 2 + 1, none⟩ = some (.int .i64 x.2))
            (first | exact HS3.out _ ((Below.refl _ _).drew) | exact HS3.out _ (keepB (Nat.le_refl _) (And.left (by assumption)) hb) | exact HS3.out _ (keepA hB9 _) | exact HS3.out _ ((keepA (Below.refl _ _) _).drew) | exact HS3.out _ ((hB9.setCell (Nat.le_refl _) _).setCell (Nat.le_refl _) _))
            (first | (go_at_call 11; refine (HUS.out _ (And.left (by assumption))).mono ?_; rintro e w' ⟨a5, c5, ko, kc, rfl, hc5, -, hs5, -, hb⟩; have hB9 := keepB (Nat.le_refl _) (And.left (by assumption : Below wr.heap.size wr _ ∧ _)) hb; obtain ⟨hk9, hf9⟩ := bsome hb))
          · have HZ := hB9
            have hne : w'.heap.size ≠ g := by have := HT.out.lt; have := HZ.size; omega
            go_wp2_with fail
            go_meet
            exact ⟨w'.heap.size, a5, _, c5, rfl, rfl, rfl, Two.new w' _ _, hc5, hs5.kept (below_here _), hne, keepA HZ _⟩
          · have hne : wr.heap.size ≠ g := by have := HT.out.lt; omega
            have T9 : Two w' wr.heap.size (.int .i64 0) (.slice none 0 0) := (show Two (wr.alloc (.cells #[.int .i64 0, .slice none 0 0] 24)).drew wr.heap.size (.int .i64 0) (.slice none 0 0) from Two.new wr _ _).kept hb
            go_wp2_with fail
            go_meet
            exact ⟨wr.heap.size, a5, _, c5, rfl, rfl, rfl, T9.put _ _, hc5, hs5.put T9 _ _, hne, (hB9.setCell (Nat.le_refl _) _).setCell (Nat.le_refl _) _⟩
        case rest =>
          obtain ⟨q, a5, m5, c5, rfl, rfl, hm5, T5, hc5, hs5, hne, hB5⟩ := hcut
          have HK5 := HK.out.kept hB5
          have G5 := HT.out.kept hB5
          obtain ⟨t0, t1, -, -⟩ := T5.all
          obtain ⟨g0, g1, gf0, gf1⟩ := G5.all
          have FIN : Hid (AftInv w g L us (i + 1) ((wc.setCell ⟨g, 0, none⟩ (.int .i64 L)).setCell ⟨g, 1, none⟩ (.slice a5 m5 c5))) := by
            have hh := HK5.high
            refine ⟨(HK5.below.setCell (by show w.heap.size ≤ g; omega) _).setCell (by show w.heap.size ≤ g; omega) _, hh, (HK5.ret.far (by omega)).far (by omega), a5, c5, ?_, ?_, ?_⟩
            · rw [HR.out, HST.out, ← hm5]; exact G5.put _ _
            · rw [HR.out, HST.out, ← hm5]; exact hc5
            · rw [HR.out, HST.out]; exact hs5.put G5 _ _
          clear hm5 hs5 hB5 HK5 HK HT HS2 q0 q1 qf0 qf1 k1 k2 HS3 HUS T5 G5
          go_wp2_with fail
          go_roundw
          case rel => exact ⟨i + 1, by go_num, by omega, FIN.out⟩
          case measure => simp [intOf]; omega
      · have HST : Hid (step L (runs L (us.take i)) x = runs L (us.take i)) := by show _ = _; unfold step; rw [if_neg hok]
        have HUS : Hid (∀ w', Below wr.heap.size wr w' → Calls Try.prog 11 #[.agg #[.int .i64 L, .slice a2 (runs L (us.take i)).length c2], .string s, .int .i64 x.2] w' fun e w2 => ∃ r : Int, (r == 0) = false ∧ UseIs w' 0 [] [] r e w2) := by
          intro w' hb
          by_cases hn : x.2 < 0
          · exact (use_neg L x.2 hn s _ w').mono fun e w2 h => ⟨1, rfl, h⟩
          · exact (use_big L x.2 (by omega) (by omega) s _ w').mono fun e w2 h => ⟨340, rfl, h⟩
        generalize hrr : runs L (us.take i) = rr at *
        have HRR := Lib.hid hrr
        clear hrr
        generalize hm : rr.length = m at *
        have HM := Lib.hid hm
        clear hm hok
        go_upto_region 7 with fail
        go_cut [9, 10, 11] (fun _ _ f wx => ∃ r : Int, f = .int .i64 r ∧ (r == 0) = false ∧ Below wr.heap.size wr wx)
        case first =>
          go_region_held3 (fun w' => Below wr.heap.size wr w' ∧ w'.cell? ⟨g, 0, none⟩ = some (.int .i64 L) ∧ w'.cell? ⟨g, 1, none⟩ = some (.slice a2 m c2) ∧ w'.cell? ⟨b, off + i * 2, none⟩ = some (.string s) ∧ w'.cell? ⟨b, off + i * 2 + 1, none⟩ = some (.int .i64 x.2))
            (first | exact HS3.out _ ((Below.refl _ _).drew) | exact HS3.out _ (keepB (Nat.le_refl _) (And.left (by assumption)) hb) | exact HS3.out _ (keepA hB9 _) | exact HS3.out _ ((keepA (Below.refl _ _) _).drew) | exact HS3.out _ ((hB9.setCell (Nat.le_refl _) _).setCell (Nat.le_refl _) _))
            (first | (go_at_call 11; refine (HUS.out _ (And.left (by assumption))).mono ?_; rintro e w' ⟨r, hr, a5, c5, ko, kc, rfl, -, -, -, -, hb⟩; have hB9 := keepB (Nat.le_refl _) (And.left (by assumption : Below wr.heap.size wr _ ∧ _)) hb; obtain ⟨hk9, hf9⟩ := bsome hb))
          · go_wp2_with fail
            go_meet
            exact ⟨r, rfl, hr, keepA hB9 _⟩
          · go_wp2_with fail
            go_meet
            exact ⟨r, rfl, hr, (hB9.setCell (Nat.le_refl _) _).setCell (Nat.le_refl _) _⟩
        case rest =>
          obtain ⟨r, rfl, hr, hB5⟩ := hcut
          have HK5 := HK.out.kept hB5
          have FIN : Hid (AftInv w g L us (i + 1) wc) := by
            obtain ⟨a5, c5, h1, h2, h3⟩ := HK5.res
            exact ⟨HK5.below, HK5.high, HK5.ret, a5, c5, by rw [HR.out, HST.out]; rw [HRR.out] at h1; exact h1, by rw [HR.out, HST.out]; rw [HRR.out] at h2; exact h2, by rw [HR.out, HST.out]; rw [HRR.out] at h3; exact h3⟩
          clear hB5 HK5 HK HT HS2 q0 q1 qf0 qf1 k1 k2 HS3 HUS
          go_wp2_with fail
          go_roundw
          case rel => exact ⟨i + 1, by go_num, by omega, FIN.out⟩
          case measure => simp [intOf]; omega
    · have hi2 : i = us.length := by omega
      subst hi2
      rw [List.take_length] at *
      have HR := Lib.hid HK.out.ret
      have HBw := Lib.hid HK.out.below
      obtain ⟨r0, r1, rf0, rf1⟩ := HR.out.all
      clear HK
      generalize hrr : runs L us = rr at *
      generalize hm : rr.length = m at *
      have HM := Lib.hid hm
      clear hm
      go_wp2_with fail
      have E := (HR.out.put (.int .i64 L) (.slice a2 m c2)).all
      refine bodyPost_ret (v := .tuple #[.agg #[.int .i64 L, .slice a2 m c2], .bool true]) (by simp [results, Try.results14, go_sem, E.1, E.2.1]) rfl ?_
      unfold AfterIs
      rw [HM.out]
      exact ⟨a2, c2, rfl, hc2, HS2.out.put HR.out _ _, (HBw.out.setCell (by simp) _).setCell (by simp) _⟩
end Go.Proofs.Ytdbfioafcpjkpaa
