/-
  CacheNoMore answers true.
-/
import Derived.Test.YtdbfioafcpjkpaaU
namespace Go.Proofs.Ytdbfioafcpjkpaa
open Go.ChangeShapes Go.WideShapes Go.ChangeAt Go.RowKit

/-- The weight of the last slot with a key, or 0. -/
def lastW (k : List UInt8) (l : List Sl) : Int := l.foldl (fun a x => if (x.1 == k) = true then x.2 else a) 0
theorem lastW_take (k : List UInt8) (l : List Sl) (i : Nat) (x : Sl) (hx : l[i]? = some x) : lastW k (l.take (i + 1)) = if (x.1 == k) = true then x.2 else lastW k (l.take i) := by
  rw [List.take_add_one, hx]
  simp [lastW, List.foldl_append]
theorem lastW_none (k : List UInt8) : ∀ (l : List Sl) (a : Int), (∀ x, x ∈ l → (x.1 == k) = false) → l.foldl (fun a x => if (x.1 == k) = true then x.2 else a) a = a
  | [], _, _ => rfl
  | x :: l, a, h => by
    rw [List.foldl_cons, h x (by simp), if_neg (by simp)]
    exact lastW_none k l a (fun y hy => h y (by simp [hy]))
theorem lastW_mem {l : List Sl} (hd : Distinct l) {x : Sl} (hx : x ∈ l) : lastW x.1 l = x.2 := by
  obtain ⟨i, hi, rfl⟩ := List.mem_iff_getElem.1 hx
  have e : l = l.take i ++ l[i] :: l.drop (i + 1) := by rw [← List.drop_eq_getElem_cons hi, List.take_append_drop]
  have hn := hd
  unfold Distinct at hn
  rw [e, List.map_append, List.nodup_append] at hn
  have h2 := (List.nodup_cons.1 (by rw [List.map_cons] at hn; exact hn.2.1)).1
  generalize hy : l[i] = y at *
  rw [e]
  unfold lastW
  rw [List.foldl_append, List.foldl_cons, if_pos (by simp)]
  apply lastW_none
  intro z hz
  rcases hq : (z.1 == y.1) with _ | _
  · rfl
  · exact absurd (by rw [← eq_of_beq hq]; exact List.mem_map_of_mem hz) h2
/-- With at least one slot evicted: what is left fits, and would not fit with the last of them. -/
theorem more_facts {L n : Int} {l : List Sl} (hL : n ≤ L) (key : List UInt8) (hc : cnt (L - n) (fil key l) ≠ 0) :
    ∃ x, x ∈ l ∧ (fil key l)[cnt (L - n) (fil key l) - 1]? = some x ∧ wsum (used L key n l) ≤ L ∧ L - x.2 < wsum (used L key n l) := by
  generalize hd : fil key l = d at *
  have key2 : ∀ (m : Int) (d : List Sl), cnt m d ≠ 0 → ∃ x, d[cnt m d - 1]? = some x ∧ m - x.2 < wsum (d.drop (cnt m d)) := by
    intro m d
    induction d with
    | nil => intro h; simp [cnt] at h
    | cons y d ih =>
      intro h
      by_cases hm : m < wsum (y :: d)
      · rw [cnt, if_pos hm]
        by_cases h0 : cnt m d = 0
        · refine ⟨y, by simp [h0], ?_⟩
          rw [h0]; simp [wsum] at hm ⊢; omega
        · obtain ⟨x, h1, h2⟩ := ih h0
          refine ⟨x, ?_, by simpa using h2⟩
          rw [show cnt m d + 1 - 1 = (cnt m d - 1) + 1 by omega]
          simpa using h1
      · rw [cnt, if_neg hm] at h; exact absurd rfl h
  obtain ⟨x, h1, h2⟩ := key2 _ _ hc
  refine ⟨x, ?_, h1, ?_, ?_⟩
  · have := List.mem_of_getElem? h1
    rw [← hd] at this
    exact (fil_sub key l).subset this
  · unfold used
    rw [hd, wsum_append]
    have := cnt_fits (L - n) (by omega) d
    simp [wsum]; omega
  · unfold used
    rw [hd, wsum_append]
    simp [wsum]; omega

set_option maxHeartbeats 1000000 in
set_option maxRecDepth 100000 in
theorem noMore_invalid (L : Int) (l : List Sl) (hv : ¬ Valid L l) (key : ByteArray) (n : Int) (ao : Option Addr) (cap : Nat) (hl : l.length ≤ 4611686018427387904) (w : World) (h : SlotsAt w ao l) :
    Calls Try.prog 3 #[.agg #[.int .i64 L, .slice ao l.length cap], .string key, .int .i64 n] w fun e w' => e = .returned (.bool true) ∧ Below w.heap.size w w' := by
  have H := Lib.hid h
  have HV := Lib.hid hv
  clear h hv
  go_enter Try.func3, Try.ntmps3
  go_wp2_with fail
  refine (example_any _).mono ?_
  rintro e w1 ⟨rfl, hb1⟩
  have B1 : Below w.heap.size w w1 := (below_here _).trans (hb1.mono (by simp))
  have T1 : Hid (Two w1 w.heap.size (.int .i64 L) (.slice ao l.length cap)) := (Two.new w _ _).kept hb1
  obtain ⟨t0, t1, -, -⟩ := T1.out.all
  clear hb1
  go_wp2_with fail
  refine (refCheck_any L l ao cap hl w1 (H.out.kept B1)).mono ?_
  rintro e w2 ⟨r, rfl, -, hr, hb2⟩
  obtain rfl : r = 1 := hr HV.out
  have B2 := B1.trans (hb2.mono B1.size)
  clear hb2 hr t0 t1
  go_wp2_with fail
  go_ret
  exact ⟨rfl, B2⟩
set_option maxHeartbeats 1000000 in
set_option maxRecDepth 100000 in
theorem noMore_refused (L : Int) (l : List Sl) (hv : Valid L l) (key : ByteArray) (n : Int) (hn : n < 0 ∨ L < n) (ao : Option Addr) (cap : Nat) (hl : l.length ≤ 4611686018427387904) (w : World) (h : SlotsAt w ao l) :
    Calls Try.prog 3 #[.agg #[.int .i64 L, .slice ao l.length cap], .string key, .int .i64 n] w fun e w' => e = .returned (.bool true) ∧ Below w.heap.size w w' := by
  have H := Lib.hid h
  have HV := Lib.hid hv
  have HUS : Hid (∀ (v : Value) (w : World), Calls Try.prog 11 #[.agg #[.int .i64 L, v], .string key, .int .i64 n] w fun e w2 => ∃ r : Int, (r == 0) = false ∧ UseIs w 0 [] [] r e w2) := by
    intro v w'
    by_cases h0 : n < 0
    · exact (use_neg L n h0 key _ w').mono fun e w2 h => ⟨1, rfl, h⟩
    · exact (use_big L n (by omega) (by omega) key _ w').mono fun e w2 h => ⟨340, rfl, h⟩
  clear h hv hn
  go_enter Try.func3, Try.ntmps3
  go_wp2_with fail
  refine (example_any _).mono ?_
  rintro e w1 ⟨rfl, hb1⟩
  have B1 : Below w.heap.size w w1 := (below_here _).trans (hb1.mono (by simp))
  have T1 : Hid (Two w1 w.heap.size (.int .i64 L) (.slice ao l.length cap)) := (Two.new w _ _).kept hb1
  obtain ⟨t0, t1, -, -⟩ := T1.out.all
  clear hb1
  go_wp2_with fail
  refine (refCheck_any L l ao cap hl w1 (H.out.kept B1)).mono ?_
  rintro e w2 ⟨r, rfl, hr, -, hb2⟩
  obtain rfl : r = 0 := hr HV.out
  have B2 := B1.trans (hb2.mono B1.size)
  have T2 := Lib.hid (T1.out.kept hb2)
  clear hb2 hr t0 t1 T1 B1
  obtain ⟨t0, t1, -, -⟩ := T2.out.all
  go_wp2_with fail
  refine (HUS.out _ _).mono ?_
  rintro e w3 ⟨r, hr, a5, c5, ko, kc, rfl, -, -, -, -, hb3⟩
  have hr2 : (r != 0) = true := by rw [bne, hr]; rfl
  have B3 := B2.trans (hb3.mono B2.size)
  clear hb3 t0 t1 T2 B2
  go_wp2_with fail
  go_quiet (fail)
  go_wp2_with fail
  go_ret
  exact ⟨rfl, below_drewN (B3.alloc B3.size _) _⟩

set_option maxHeartbeats 1000000 in
set_option maxRecDepth 100000 in
theorem noMore_none (L : Int) (l : List Sl) (hv : Valid L l) (key : ByteArray) (n : Int) (hn : 0 ≤ n) (hL : n ≤ L) (h0 : cnt (L - n) (fil key.toList l) = 0) (ao : Option Addr) (cap : Nat) (hc : l.length ≤ cap) (hl : l.length * 24 ≤ 140737488351232) (w : World) (h : SlotsAt w ao l) :
    Calls Try.prog 3 #[.agg #[.int .i64 L, .slice ao l.length cap], .string key, .int .i64 n] w fun e w' => e = .returned (.bool true) ∧ Below w.heap.size w w' := by
  have H := Lib.hid h
  have HV := Lib.hid hv
  have HL := Lib.hid hl
  have HC := Lib.hid hc
  have hg : gone L key.toList n l = [] := by unfold gone; rw [h0]; rfl
  have hsum : wsum (used L key.toList n l) = wsum (fil key.toList l) + n := by unfold used; rw [h0, wsum_append]; simp [wsum]
  have HU := Lib.hid (use_fits L n l hv hn hL key ao cap hc hl)
  rw [hg] at HU
  have HVU := Lib.hid (valid_used hv hn hL key.toList)
  have HVF := Lib.hid (hv.sub (fil_sub key.toList l))
  have hf0 := wsum_nonneg _ (HVF.out.2.2.1)
  have hf1 := HVF.out.2.2.2.1
  have hL1 := hv.2.1
  have HLU : Hid ((used L key.toList n l).length ≤ 4611686018427387904 ∧ (fil key.toList l).length ≤ 4611686018427387904) := by
    have h1 := used_len L n key.toList l
    have h2 := fil_len key.toList l
    exact ⟨by omega, by omega⟩
  have HUd : Hid (∀ (a : Option Addr) (c : Nat) (w' : World), SlotsAt w' a (used L key.toList n l) → Calls Try.prog 12 #[.agg #[.int .i64 L, .slice a (used L key.toList n l).length c]] w' fun e w2 => e = .returned (.int .i64 (wsum (used L key.toList n l))) ∧ Below w'.heap.size w' w2) :=
    fun a c w' hs => used_any _ L a c HLU.out.1 HVU.out.2.2.1 (by have := HVU.out.2.2.2.1; omega) w' hs
  have HUf : Hid (∀ (a : Option Addr) (c : Nat) (w' : World), (∃ w9, SlotsAt w9 a (fil key.toList l) ∧ Below w9.heap.size w9 w') → Calls Try.prog 12 #[.agg #[.int .i64 L, .slice a (fil key.toList l).length c]] w' fun e w2 => e = .returned (.int .i64 (wsum (fil key.toList l))) ∧ Below w'.heap.size w' w2) :=
    fun a c w' ⟨w9, hs, hb⟩ => used_any _ L a c HLU.out.2 HVF.out.2.2.1 (by omega) w' (hs.kept hb)
  have HDr : Hid (∀ w', Below w.heap.size w w' → Calls Try.prog 13 #[.agg #[.int .i64 L, .slice ao l.length cap], .string key] w' (CacheIs w' L (fil key.toList l))) :=
    fun w' hb => drop_any L l HV.out.2.2.2.2 key ao cap HC.out (by have := HL.out; omega) w' (H.out.kept hb)
  clear h hv hl hc hg h0
  generalize hus : used L key.toList n l = us at *
  generalize hfs : fil key.toList l = fs at *
  generalize hu : wsum us = u at *
  generalize hf : wsum fs = f at *
  have hq : (u == f + n) = true := by rw [hsum]; simp
  have hwr : IntKind.i64.wrap (f + n) = f + n := IntWalk.i64_in _ (by omega)
  clear hus hfs hu hf hsum
  go_enter Try.func3, Try.ntmps3
  go_wp2_with fail
  refine (example_any _).mono ?_
  rintro e w1 ⟨rfl, hb1⟩
  have B1 : Below w.heap.size w w1 := (below_here _).trans (hb1.mono (by simp))
  have T1 : Hid (Two w1 w.heap.size (.int .i64 L) (.slice ao l.length cap)) := (Two.new w _ _).kept hb1
  obtain ⟨t0, t1, -, -⟩ := T1.out.all
  clear hb1
  go_wp2_with fail
  refine (refCheck_any L l ao cap (by have := HL.out; omega) w1 (H.out.kept B1)).mono ?_
  rintro e w2 ⟨r, rfl, hr, -, hb2⟩
  obtain rfl : r = 0 := hr HV.out
  have B2 := B1.trans (hb2.mono B1.size)
  have T2 := Lib.hid (T1.out.kept hb2)
  clear hb2 hr t0 t1 T1 B1
  obtain ⟨t0, t1, -, -⟩ := T2.out.all
  go_wp2_with fail
  refine (HU.out w2 (H.out.kept B2)).mono ?_
  rintro e w3 ⟨a5, c5, ko, kc, rfl, hc5, -, hs5, -, hb3⟩
  have B3 := B2.trans (hb3.mono B2.size)
  have T3 := Lib.hid (T2.out.kept hb3)
  have S5 := Lib.hid hs5
  clear hb3 t0 t1 T2 B2 hs5 hc5
  go_upto_region 6 with fail
  refine wp_gen (fun V hV => ?_)
  have BV : Below w.heap.size w V := by rw [hV]; exact B3.alloc B3.size _
  have TV : Two V w.heap.size (.int .i64 L) (.slice ao l.length cap) := by rw [hV]; exact T3.out.kept (below_here _)
  have DV : Two V w3.heap.size (.int .i64 L) (.slice a5 us.length c5) := by rw [hV]; exact Two.new w3 _ _
  have SV : SlotsAt V a5 us := by rw [hV]; exact S5.out.kept (below_here _)
  obtain ⟨p0, p1, -, -⟩ := TV.all
  obtain ⟨q0, q1, -, -⟩ := DV.all
  have HBV := Lib.hid BV
  have HSV := Lib.hid SV
  generalize w3.heap.size = g at *
  clear hV BV TV DV SV B3 T3 S5
  have HS3 : Hid (∀ w', Below V.heap.size V w' → Below V.heap.size V w' ∧ w'.cell? ⟨g, 0, none⟩ = some (.int .i64 L) ∧ w'.cell? ⟨g, 1, none⟩ = some (.slice a5 us.length c5) ∧ w'.cell? ⟨w.heap.size, 0, none⟩ = some (.int .i64 L) ∧ w'.cell? ⟨w.heap.size, 1, none⟩ = some (.slice ao l.length cap)) :=
    fun w' h => ⟨h, (h.cell (cells_lt q0)).trans q0, (h.cell (cells_lt q1)).trans q1, (h.cell (cells_lt p0)).trans p0, (h.cell (cells_lt p1)).trans p1⟩
  have HD1 : Hid (∀ w', Below V.heap.size V w' → Calls Try.prog 12 #[.agg #[.int .i64 L, .slice a5 us.length c5]] w' fun e w2 => e = .returned (.int .i64 u) ∧ Below w'.heap.size w' w2) := fun w' hb => HUd.out a5 c5 w' (HSV.out.kept hb)
  have HD2 : Hid (∀ w', Below V.heap.size V w' → Calls Try.prog 13 #[.agg #[.int .i64 L, .slice ao l.length cap], .string key] w' (CacheIs w' L fs)) := fun w' hb => HDr.out w' (HBV.out.trans (hb.mono HBV.out.size))
  go_region_held3 (fun w' => Below V.heap.size V w' ∧ w'.cell? ⟨g, 0, none⟩ = some (.int .i64 L) ∧ w'.cell? ⟨g, 1, none⟩ = some (.slice a5 us.length c5) ∧ w'.cell? ⟨w.heap.size, 0, none⟩ = some (.int .i64 L) ∧ w'.cell? ⟨w.heap.size, 1, none⟩ = some (.slice ao l.length cap))
    (first | exact HS3.out _ ((Below.refl _ _).drew) | exact HS3.out _ (keepB (Nat.le_refl _) (And.left (by assumption)) hb))
    (first | (go_at_call 12; (with_reducible refine (HD1.out _ (And.left (by assumption))).mono ?_); rintro e w' ⟨rfl, hb⟩) | (go_at_call 13; refine (HD2.out _ (And.left (by assumption))).mono ?_; rintro e w' ⟨a9, c9, rfl, -, hs9, hb⟩) | (go_at_call 12; refine (HUf.out _ _ _ ⟨_, (by assumption : SlotsAt _ _ fs), (by first | exact Below.refl _ _ | assumption)⟩).mono ?_; rintro e w' ⟨rfl, hb⟩))
  all_goals
    have HZ : Below V.heap.size V w' := And.left (by assumption)
    go_wp2_with fail
    go_ret
    exact ⟨rfl, HBV.out.trans (HZ.mono HBV.out.size)⟩

set_option maxHeartbeats 1000000 in
set_option maxRecDepth 100000 in
theorem noMore_some (L : Int) (l : List Sl) (hv : Valid L l) (key : ByteArray) (n : Int) (hn : 0 ≤ n) (hL : n ≤ L) (h0 : cnt (L - n) (fil key.toList l) ≠ 0) (ao : Option Addr) (cap : Nat) (hc : l.length ≤ cap) (hl : l.length * 24 ≤ 140737488351232) (w : World) (h : SlotsAt w ao l) :
    Calls Try.prog 3 #[.agg #[.int .i64 L, .slice ao l.length cap], .string key, .int .i64 n] w fun e w' => e = .returned (.bool true) ∧ Below w.heap.size w w' := by
  have H := Lib.hid h
  have HV := Lib.hid hv
  have HL := Lib.hid hl
  obtain ⟨x, hx, hxc, hu1, hu2⟩ := more_facts hL key.toList h0
  have HU := Lib.hid (use_fits L n l hv hn hL key ao cap hc hl)
  have HVU := Lib.hid (valid_used hv hn hL key.toList)
  have hx0 := hv.2.2.1 x hx
  have hxm : x.2 ≤ 1152921504606846976 := by have := (valid_ok hv _ x (List.mem_iff_getElem?.1 hx).choose_spec).2.1; have := wsum_part l hv.2.2.1 (List.mem_iff_getElem?.1 hx).choose; have := hv.2.1; omega
  have hL1 := hv.2.1
  have hL0 := hv.1
  have hglen : (gone L key.toList n l).length = cnt (L - n) (fil key.toList l) := by
    unfold gone; have := cnt_le (L - n) (fil key.toList l); simp; omega
  have hgx : (gone L key.toList n l)[(gone L key.toList n l).length - 1]? = some x.1 := by
    rw [hglen]; unfold gone
    rw [List.getElem?_map, List.getElem?_take_of_lt (by omega), hxc]; rfl
  have hglb : (gone L key.toList n l).length ≤ l.length := by
    have h1 := cnt_le (L - n) (fil key.toList l); have h2 := fil_len key.toList l; omega
  have hgpos : 0 < (gone L key.toList n l).length := by omega
  have HLAST := Lib.hid (lastW_mem hv.2.2.2.2 hx)
  have HGX := Lib.hid hgx
  have HLU : Hid ((used L key.toList n l).length ≤ 4611686018427387904) := by
    have h1 := used_len L n key.toList l
    show _ ≤ _; omega
  have HUd : Hid (∀ (a : Option Addr) (c : Nat) (w' : World), SlotsAt w' a (used L key.toList n l) → Calls Try.prog 12 #[.agg #[.int .i64 L, .slice a (used L key.toList n l).length c]] w' fun e w2 => e = .returned (.int .i64 (wsum (used L key.toList n l))) ∧ Below w'.heap.size w' w2) :=
    fun a c w' hs => used_any _ L a c HLU.out HVU.out.2.2.1 (by have := HVU.out.2.2.2.1; omega) w' hs
  have hlen : l.length ≤ 5864062014800 := by omega
  clear h hv hl hc h0 hx hxc hglen hgx
  generalize used L key.toList n l = us at *
  generalize gone L key.toList n l = G at *
  generalize hu : wsum us = u at *
  clear hu
  have hg1 : ((G.length : Int) == 0) = false := by simp; intro h; rw [h] at hgpos; simp at hgpos
  have hd1 : decide (u ≤ L) = true := by simpa using hu1
  have hd2 : decide (L - x.2 < u) = true := by simpa using hu2
  have hw1 : IntKind.i64.wrap (L - x.2) = L - x.2 := IntWalk.i64_in _ (by omega)
  have hw2 : IntKind.i64.wrap ((G.length : Int) - 1) = (G.length : Int) - 1 := IntWalk.i64_in _ (by omega)
  go_enter Try.func3, Try.ntmps3
  go_wp2_with fail
  refine (example_any _).mono ?_
  rintro e w1 ⟨rfl, hb1⟩
  have B1 : Below w.heap.size w w1 := (below_here _).trans (hb1.mono (by simp))
  have T1 : Hid (Two w1 w.heap.size (.int .i64 L) (.slice ao l.length cap)) := (Two.new w _ _).kept hb1
  obtain ⟨t0, t1, -, -⟩ := T1.out.all
  clear hb1
  go_wp2_with fail
  refine (refCheck_any L l ao cap (by have := HL.out; omega) w1 (H.out.kept B1)).mono ?_
  rintro e w2 ⟨r, rfl, hr, -, hb2⟩
  obtain rfl : r = 0 := hr HV.out
  have B2 := B1.trans (hb2.mono B1.size)
  have T2 := Lib.hid (T1.out.kept hb2)
  clear hb2 hr t0 t1 T1 B1
  obtain ⟨t0, t1, -, -⟩ := T2.out.all
  go_wp2_with fail
  refine (HU.out w2 (H.out.kept B2)).mono ?_
  rintro e w3 ⟨a5, c5, ko, kc, rfl, hc5, -, hs5, hk5, hb3⟩
  have B3 := B2.trans (hb3.mono B2.size)
  have T3 := Lib.hid (T2.out.kept hb3)
  have S5 := Lib.hid hs5
  have K5 := Lib.hid hk5
  clear hb3 t0 t1 T2 B2 hs5 hc5 hk5
  go_wp2_with fail
  refine wp_gen (fun V hV => ?_)
  have BV : Below w.heap.size w V := by rw [hV]; exact B3.alloc B3.size _
  have TV : Two V w.heap.size (.int .i64 L) (.slice ao l.length cap) := by rw [hV]; exact T3.out.kept (below_here _)
  have DV : Two V w3.heap.size (.int .i64 L) (.slice a5 us.length c5) := by rw [hV]; exact Two.new w3 _ _
  have SV : SlotsAt V a5 us := by rw [hV]; exact S5.out.kept (below_here _)
  have KV : KeysAt V ko G := by rw [hV]; exact K5.out.kept (below_here _)
  have HBV := Lib.hid BV
  have HSV := Lib.hid SV
  have HTV := Lib.hid TV
  have HDV := Lib.hid DV
  generalize w3.heap.size = g at *
  obtain ⟨b', off', rfl, krow⟩ := KV.some hgpos
  obtain ⟨t, ht, tc⟩ := krow _ _ HGX.out
  have HT := Lib.hid ht
  have HTC := Lib.hid tc
  clear hV BV TV DV SV B3 T3 S5 KV K5 krow ht tc
  go_loopw [11, 12] (fun u' v wr => ∃ i : Nat, v = .int .i64 i ∧ i ≤ l.length ∧ u' = .int .i64 (lastW x.1 (l.take i)) ∧ Below V.heap.size V wr) (fun _ v _ => l.length - (intOf v).toNat)
  case atStart => exact ⟨0, rfl, Nat.zero_le _, rfl, Below.refl _ _⟩
  case round =>
    obtain ⟨i, rfl, hi, rfl, hB⟩ := hrel
    obtain ⟨p0, p1, -, -⟩ := (HTV.out.kept hB).all
    by_cases hlt : i < l.length
    · obtain ⟨y, hy⟩ : ∃ y, l[i]? = some y := ⟨l[i], List.getElem?_eq_getElem hlt⟩
      obtain ⟨b, off, rfl, hrow⟩ := (H.out.kept (HBV.out.trans (hB.mono HBV.out.size))).some (by omega)
      obtain ⟨s, hs, k1, k2⟩ := hrow i y hy
      have tc : wr.cell? ⟨b', off' + (G.length - 1), none⟩ = some (.string t) := (hB.cell (cells_lt HTC.out)).trans HTC.out
      have hi0 : (0 : Int) ≤ (i : Int) := by omega
      have hil : (i : Int) < (l.length : Int) := by omega
      have hg0 : (0 : Int) ≤ (G.length : Int) - 1 := by omega
      have hg3 : (G.length : Int) - 1 < (G.length : Int) := by omega
      have hg4 : ((G.length : Int) - 1).toNat = G.length - 1 := by omega
      have hn2 := lastW_take x.1 l i y hy
      rcases hq : (y.1 == x.1) with _ | _
      · rw [hq, if_neg (by simp)] at hn2
        have hq2 : (s.toList == t.toList) = false := by rw [hs, HT.out, hq]
        have HN := Lib.hid hn2
        clear hn2 hq hs hy hrow
        go_wp2_with fail
        go_quiet (fail)
        go_wp2_with fail
        go_roundw
        case rel => exact ⟨i + 1, by go_num, by omega, by rw [HN.out], below_drewN hB _⟩
        case measure => simp [intOf]; omega
      · rw [hq, if_pos rfl] at hn2
        have hq2 : (s.toList == t.toList) = true := by rw [hs, HT.out, hq]
        have HN := Lib.hid hn2
        clear hn2 hq hs hy hrow
        go_wp2_with fail
        go_quiet (fail)
        go_wp2_with fail
        go_roundw
        case rel => exact ⟨i + 1, by go_num, by omega, by rw [HN.out], below_drewN hB _⟩
        case measure => simp [intOf]; omega
    · have hi2 : i = l.length := by omega
      subst hi2
      rw [List.take_length, HLAST.out]
      obtain ⟨q0, q1, -, -⟩ := (HDV.out.kept hB).all
      have HS3 : Hid (∀ w', Below wr.heap.size wr w' → Below wr.heap.size wr w' ∧ w'.cell? ⟨g, 0, none⟩ = some (.int .i64 L) ∧ w'.cell? ⟨g, 1, none⟩ = some (.slice a5 us.length c5) ∧ w'.cell? ⟨w.heap.size, 0, none⟩ = some (.int .i64 L)) :=
        fun w' h => ⟨h, (h.cell (cells_lt q0)).trans q0, (h.cell (cells_lt q1)).trans q1, (h.cell (cells_lt p0)).trans p0⟩
      have HD1 : Hid (∀ w', Below wr.heap.size wr w' → Calls Try.prog 12 #[.agg #[.int .i64 L, .slice a5 us.length c5]] w' fun e w2 => e = .returned (.int .i64 u) ∧ Below w'.heap.size w' w2) := fun w' hb => HUd.out a5 c5 w' ((HSV.out.kept hB).kept hb)
      have HBW := Lib.hid (HBV.out.trans (hB.mono HBV.out.size))
      clear hB
      go_wp2_with fail
      go_region_held3 (fun w' => Below wr.heap.size wr w' ∧ w'.cell? ⟨g, 0, none⟩ = some (.int .i64 L) ∧ w'.cell? ⟨g, 1, none⟩ = some (.slice a5 us.length c5) ∧ w'.cell? ⟨w.heap.size, 0, none⟩ = some (.int .i64 L))
        (first | exact HS3.out _ ((Below.refl _ _).drew) | exact HS3.out _ (keepB (Nat.le_refl _) (And.left (by assumption)) hb))
        (first | (go_at_call 12; (with_reducible refine (HD1.out _ (And.left (by assumption))).mono ?_); rintro e w' ⟨rfl, hb⟩))
      all_goals
        have HZ : Below wr.heap.size wr w' := And.left (by assumption)
        go_wp2_with fail
        go_ret
        exact ⟨rfl, HBW.out.trans (HZ.mono HBW.out.size)⟩
theorem noMore_any (L : Int) (l : List Sl) (key : ByteArray) (n : Int) (ao : Option Addr) (cap : Nat) (hc : l.length ≤ cap) (hl : l.length * 24 ≤ 140737488351232) (w : World) (h : SlotsAt w ao l) :
    Calls Try.prog 3 #[.agg #[.int .i64 L, .slice ao l.length cap], .string key, .int .i64 n] w fun e w' => e = .returned (.bool true) ∧ Below w.heap.size w w' := by
  by_cases hv : Valid L l
  · by_cases hn : n < 0 ∨ L < n
    · exact noMore_refused L l hv key n hn ao cap (by omega) w h
    · by_cases h0 : cnt (L - n) (fil key.toList l) = 0
      · exact noMore_none L l hv key n (by omega) (by omega) h0 ao cap hc hl w h
      · exact noMore_some L l hv key n (by omega) (by omega) h0 ao cap hc hl w h
  · exact noMore_invalid L l hv key n ao cap (by omega) w h
end Go.Proofs.Ytdbfioafcpjkpaa
