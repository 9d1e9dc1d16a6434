/-
  CacheDrops answers true.
-/
import Derived.Test.YtdbfioafcpjkpaaU
namespace Go.Proofs.Ytdbfioafcpjkpaa
open Go.ChangeShapes Go.WideShapes Go.ChangeAt Go.RowKit

theorem fil_has {key : List UInt8} {l : List Sl} (hd : Distinct l) (h : 0 ≤ pos key l 0) : l.length = (fil key l).length + 1 := by
  rcases pos_shift key l 0 with ⟨h1, -⟩ | ⟨k, x, h1, h2, h3, h4⟩
  · omega
  · have hk := (List.getElem?_eq_some_iff.1 h2).1
    rw [← fil_one hd h2 h3 h4]; simp; omega
theorem fil_hasnt {key : List UInt8} {l : List Sl} (h : ¬ 0 ≤ pos key l 0) : fil key l = l := fil_none (pos_neg.1 (by omega))
theorem fil_pos (key : List UInt8) (l : List Sl) : pos key (fil key l) 0 < 0 := by
  rw [pos_neg]
  intro x hx
  have := fil_key key l x hx
  simpa using this
theorem fil_fil (key : List UInt8) (l : List Sl) : fil key (fil key l) = fil key l := fil_none (pos_neg.1 (fil_pos key l))
theorem fil_snoc (key : List UInt8) (l : List Sl) (n : Int) : fil key (fil key l ++ [(key, n)]) = fil key l := by
  have h : fil key (fil key l ++ [(key, n)]) = fil key (fil key l) ++ fil key [(key, n)] := by unfold fil; rw [List.filter_append]
  rw [h, fil_fil]
  simp [fil]
/-- A key that was dropped, and used again at no more than its weight. -/
theorem again {L n : Int} {l : List Sl} (hv : Valid L l) (key : List UInt8) (h2 : n ≤ wsum l - wsum (fil key l)) : used L key n (fil key l) = fil key l ++ [(key, n)] ∧ gone L key n (fil key l) = [] ∧ n ≤ L := by
  have h3 := hv.2.2.2.1
  have h4 := wsum_nonneg _ (hv.sub (fil_sub key l)).2.2.1
  have h0 : cnt (L - n) (fil key l) = 0 := cnt_stop _ _ (by omega)
  refine ⟨?_, ?_, by omega⟩
  · unfold used; rw [fil_fil, h0]; simp
  · unfold gone; rw [fil_fil, h0]; simp

set_option maxHeartbeats 1000000 in
set_option maxRecDepth 100000 in
theorem drops_invalid (L : Int) (l : List Sl) (hv : ¬ Valid L l) (key : ByteArray) (n : Int) (ao : Option Addr) (cap : Nat) (hl : l.length ≤ 4611686018427387904) (w : World) (h : SlotsAt w ao l) :
    Calls Try.prog 8 #[.agg #[.int .i64 L, .slice ao l.length cap], .string key, .int .i64 n] w fun e w' => e = .returned (.bool true) ∧ Below w.heap.size w w' := by
  have H := Lib.hid h
  have HV := Lib.hid hv
  clear h hv
  go_enter Try.func8, Try.ntmps8
  go_wp2_with fail
  refine (example_any _).mono ?_
  rintro e w1 ⟨rfl, hb1⟩
  have B1 : Below w.heap.size w w1 := (below_here _).trans (hb1.mono (by simp))
  have T1 : Hid (Two w1 w.heap.size (.int .i64 L) (.slice ao l.length cap)) := (Two.new w _ _).kept hb1
  obtain ⟨t0, t1, -, -⟩ := T1.out.all
  clear hb1
  go_wp2_with fail
  refine (refCheck_any L l ao cap hl w1 (H.out.kept B1)).mono ?_
  rintro e w2 ⟨r, rfl, -, hr, hb2⟩
  obtain rfl : r = 1 := hr HV.out
  have B2 := B1.trans (hb2.mono B1.size)
  clear hb2 hr t0 t1
  go_wp2_with fail
  go_ret
  exact ⟨rfl, B2⟩

set_option maxHeartbeats 4000000 in
set_option maxRecDepth 100000 in
theorem drops_valid (L : Int) (l : List Sl) (hv : Valid L l) (key : ByteArray) (n : Int) (ao : Option Addr) (cap : Nat) (hc : l.length ≤ cap) (hl : l.length * 24 ≤ 140737488351232) (w : World) (h : SlotsAt w ao l) :
    Calls Try.prog 8 #[.agg #[.int .i64 L, .slice ao l.length cap], .string key, .int .i64 n] w fun e w' => e = .returned (.bool true) ∧ Below w.heap.size w w' := by
  have H := Lib.hid h
  have HV := Lib.hid hv
  have HL := Lib.hid hl
  have HC := Lib.hid hc
  have HVF := Lib.hid (hv.sub (fil_sub key.toList l))
  have hL1 := hv.2.1
  have hL0 := hv.1
  have hs1 := hv.2.2.2.1
  have hs2 := wsum_sub (fil_sub key.toList l) hv.2.2.1
  have hs3 := wsum_nonneg _ HVF.out.2.2.1
  have hlb : l.length ≤ 5864062014800 := by omega
  have hfl := fil_len key.toList l
  have HAG := fun h2 => Lib.hid (again (n := n) hv key.toList h2)
  have HSN := Lib.hid (fil_snoc key.toList l n)
  have HPF := Lib.hid (fil_pos key.toList l)
  obtain ⟨hb, h1, h2, h3⟩ : ∃ hb : Bool, decide (0 ≤ pos key.toList l 0) = hb ∧ (((fil key.toList l).length : Int) == (l.length : Int) - 1) = hb ∧ (hb = false → (((fil key.toList l).length : Int) != (l.length : Int)) = false) := by
    by_cases hp : 0 ≤ pos key.toList l 0
    · refine ⟨true, by simpa using hp, ?_, by simp⟩
      have := fil_has hv.2.2.2.2 hp
      simp; omega
    · refine ⟨false, by simpa using hp, ?_, ?_⟩
      · rw [fil_hasnt hp]; simp; omega
      · rw [fil_hasnt hp]; simp
  have HHas : Hid (∀ w', Below w.heap.size w w' → Calls Try.prog 15 #[.agg #[.int .i64 L, .slice ao l.length cap], .string key] w' fun e w2 => e = .returned (.bool hb) ∧ Below w'.heap.size w' w2) := by
    intro w' hb'
    have := has_any L l key ao cap (by omega) w' (H.out.kept hb')
    rw [h1] at this
    exact this
  have HDrop : Hid (∀ w', Below w.heap.size w w' → Calls Try.prog 13 #[.agg #[.int .i64 L, .slice ao l.length cap], .string key] w' (CacheIs w' L (fil key.toList l))) :=
    fun w' hb => drop_any L l HV.out.2.2.2.2 key ao cap HC.out (by have := HL.out; omega) w' (H.out.kept hb)
  have HUl : Hid (∀ w', Below w.heap.size w w' → Calls Try.prog 12 #[.agg #[.int .i64 L, .slice ao l.length cap]] w' fun e w2 => e = .returned (.int .i64 (wsum l)) ∧ Below w'.heap.size w' w2) :=
    fun w' hb => used_any l L ao cap (by omega) HV.out.2.2.1 (by omega) w' (H.out.kept hb)
  have HUf : Hid (∀ a c w', SlotsAt w' a (fil key.toList l) → Calls Try.prog 12 #[.agg #[.int .i64 L, .slice a (fil key.toList l).length c]] w' fun e w2 => e = .returned (.int .i64 (wsum (fil key.toList l))) ∧ Below w'.heap.size w' w2) :=
    fun a c w' hs => used_any _ L a c (by omega) HVF.out.2.2.1 (by omega) w' hs
  have HCk : Hid (∀ a c w', (fil key.toList l).length ≤ c → SlotsAt w' a (fil key.toList l) → Calls Try.prog 19 #[.agg #[.int .i64 L, .slice a (fil key.toList l).length c]] w' fun e w2 => e = .returned (.int .i64 0) ∧ Below w'.heap.size w' w2) := by
    intro a c w' hcc hs
    refine (check_any L _ a c hcc (by omega) w' hs).mono ?_
    rintro e w2 ⟨r, rfl, hr, -, hb⟩
    exact ⟨by rw [hr HVF.out], hb⟩
  have HHf : Hid (∀ a c w', SlotsAt w' a (fil key.toList l) → Calls Try.prog 15 #[.agg #[.int .i64 L, .slice a (fil key.toList l).length c], .string key] w' fun e w2 => e = .returned (.bool false) ∧ Below w'.heap.size w' w2) := by
    intro a c w' hs
    have := has_any L _ key a c (by omega) w' hs
    rw [show decide (0 ≤ pos key.toList (fil key.toList l) 0) = false by have := HPF.out; simp; omega] at this
    exact this
  clear h hv hl hc h1
  generalize hfs : fil key.toList l = fs at *
  have hfn : fs.length ≤ 5864062014800 := by omega
  cases hb
  all_goals
    first | (replace h3 := h3 rfl) | clear h3
    go_enter Try.func8, Try.ntmps8
    go_wp2_with fail
    refine (example_any _).mono ?_
    rintro e w1 ⟨rfl, hb1⟩
    have B1 : Below w.heap.size w w1 := (below_here _).trans (hb1.mono (by simp))
    have T1 : Hid (Two w1 w.heap.size (.int .i64 L) (.slice ao l.length cap)) := (Two.new w _ _).kept hb1
    obtain ⟨t0, t1, -, -⟩ := T1.out.all
    clear hb1
    go_wp2_with fail
    refine (refCheck_any L l ao cap (by omega) w1 (H.out.kept B1)).mono ?_
    rintro e w2 ⟨r, rfl, hr, -, hb2⟩
    obtain rfl : r = 0 := hr HV.out
    have B2 := B1.trans (hb2.mono B1.size)
    have T2 := Lib.hid (T1.out.kept hb2)
    clear hb2 hr t0 t1 T1 B1
    obtain ⟨t0, t1, -, -⟩ := T2.out.all
    go_wp2_with fail
    refine (HDrop.out _ B2).mono ?_
    rintro e w3 ⟨a3, c3, rfl, hc3, hs3', hb3⟩
    have B3 := B2.trans (hb3.mono B2.size)
    have T3 := Lib.hid (T2.out.kept hb3)
    have S3 := Lib.hid hs3'
    have L3 := T3.out.lt
    clear hb3 t0 t1 T2 B2 hs3'
    obtain ⟨t0, t1, -, -⟩ := T3.out.all
    go_wp2_with fail
    have DW : Two (w3.alloc (.cells #[.int .i64 L, .slice a3 fs.length c3] 24)) w3.heap.size (.int .i64 L) (.slice a3 fs.length c3) := Two.new _ _ _
    have D3 := Lib.hid DW
    clear DW
    refine (HHas.out _ (B3.alloc B3.size _)).mono ?_
    rintro e w4 ⟨rfl, hb4⟩
    have B4 := (B3.alloc B3.size (.cells #[.int .i64 L, .slice a3 fs.length c3] 24)).trans (hb4.mono (by have := B3.size; simp; omega))
    have T4 := Lib.hid ((T3.out.kept (below_here (.cells #[.int .i64 L, .slice a3 fs.length c3] 24))).kept hb4)
    have S4 := Lib.hid ((S3.out.kept (below_here (.cells #[.int .i64 L, .slice a3 fs.length c3] 24))).kept hb4)
    have D4 := Lib.hid (D3.out.kept hb4)
    clear hb4 D3 S3 T3 B3 t0 t1
    generalize w3.heap.size = g at *
    obtain ⟨d0, d1, -, -⟩ := D4.out.all
    go_wp2_with fail
    refine (HCk.out a3 c3 w4 hc3 S4.out).mono ?_
    rintro e w5 ⟨rfl, hb5⟩
    have B5 := B4.trans (hb5.mono B4.size)
    have T5 := Lib.hid (T4.out.kept hb5)
    have S5 := Lib.hid (S4.out.kept hb5)
    have D5 := Lib.hid (D4.out.kept hb5)
    clear hb5 D4 S4 T4 B4 d0 d1
    obtain ⟨d0, d1, -, -⟩ := D5.out.all
    go_wp2_with fail
    refine (HHf.out a3 c3 w5 S5.out).mono ?_
    rintro e w6 ⟨rfl, hb6⟩
    have B6 := B5.trans (hb6.mono B5.size)
    have T6 := Lib.hid (T5.out.kept hb6)
    have S6 := Lib.hid (S5.out.kept hb6)
    have D6 := Lib.hid (D5.out.kept hb6)
    clear hb6 D5 S5 T5 B5 d0 d1
    obtain ⟨d0, d1, -, -⟩ := D6.out.all
    obtain ⟨t0, t1, -, -⟩ := T6.out.all
    go_upto_region 8 with fail
    by_cases hn : n < 0
    · have hd : decide (n < 0) = true := by simpa using hn
      go_quiet (fail)
      go_wp2_with fail
      go_ret
      exact ⟨rfl, below_drewN B6 _⟩
    · have hd : decide (n < 0) = false := by simpa using hn
      have HB6 := Lib.hid B6
      have hwr : IntKind.i64.wrap (wsum l - wsum fs) = wsum l - wsum fs := IntWalk.i64_in _ (by omega)
      have HS3 : Hid (∀ w', Below w6.heap.size w6 w' → Below w6.heap.size w6 w' ∧ w'.cell? ⟨g, 0, none⟩ = some (.int .i64 L) ∧ w'.cell? ⟨g, 1, none⟩ = some (.slice a3 fs.length c3) ∧ w'.cell? ⟨w.heap.size, 0, none⟩ = some (.int .i64 L) ∧ w'.cell? ⟨w.heap.size, 1, none⟩ = some (.slice ao l.length cap)) :=
        fun w' h => ⟨h, (h.cell (cells_lt d0)).trans d0, (h.cell (cells_lt d1)).trans d1, (h.cell (cells_lt t0)).trans t0, (h.cell (cells_lt t1)).trans t1⟩
      have HD1 : Hid (∀ w', Below w6.heap.size w6 w' → Calls Try.prog 12 #[.agg #[.int .i64 L, .slice ao l.length cap]] w' fun e w2 => e = .returned (.int .i64 (wsum l)) ∧ Below w'.heap.size w' w2) := fun w' hb => HUl.out w' (HB6.out.trans (hb.mono HB6.out.size))
      have HD2 : Hid (∀ w', Below w6.heap.size w6 w' → Calls Try.prog 12 #[.agg #[.int .i64 L, .slice a3 fs.length c3]] w' fun e w2 => e = .returned (.int .i64 (wsum fs)) ∧ Below w'.heap.size w' w2) := fun w' hb => HUf.out a3 c3 w' (S6.out.kept hb)
      by_cases hbig : wsum l - wsum fs < n
      · have hd2 : decide (wsum l - wsum fs < n) = true := by simpa using hbig
        go_region_held3 (fun w' => Below w6.heap.size w6 w' ∧ w'.cell? ⟨g, 0, none⟩ = some (.int .i64 L) ∧ w'.cell? ⟨g, 1, none⟩ = some (.slice a3 fs.length c3) ∧ w'.cell? ⟨w.heap.size, 0, none⟩ = some (.int .i64 L) ∧ w'.cell? ⟨w.heap.size, 1, none⟩ = some (.slice ao l.length cap))
          (first | exact HS3.out _ ((Below.refl _ _).drew) | exact HS3.out _ (keepB (Nat.le_refl _) (And.left (by assumption)) hb))
          (first | (go_at_call 12; (with_reducible refine (HD1.out _ (And.left (by assumption))).mono ?_); rintro e w' ⟨rfl, hb⟩) | (go_at_call 12; (with_reducible refine (HD2.out _ (And.left (by assumption))).mono ?_); rintro e w' ⟨rfl, hb⟩))
        all_goals
          have HZ : Below w6.heap.size w6 w' := And.left (by assumption)
          go_wp2_with fail
          go_ret
          exact ⟨rfl, HB6.out.trans (HZ.mono HB6.out.size)⟩
      · have hd2 : decide (wsum l - wsum fs < n) = false := by simpa using hbig
        have hfit := HAG (by omega)
        have HU := Lib.hid (use_fits L n fs HVF.out (by omega) hfit.out.2.2 key a3 c3 hc3 (by have := HL.out; omega))
        rw [hfit.out.1, hfit.out.2.1] at HU
        clear hfit HAG
        obtain ⟨xs, hxs⟩ : ∃ xs, xs = fs ++ [(key.toList, n)] := ⟨_, rfl⟩
        rw [← hxs] at HU HSN
        have hxl : xs.length = fs.length + 1 := by rw [hxs]; simp
        have hx1 : ((xs.length : Int) == (fs.length : Int) + 1) = true := by rw [hxl]; simp
        have hxd : Distinct xs := by
          rw [hxs]
          unfold Distinct
          rw [List.map_append, List.nodup_append]
          refine ⟨HVF.out.2.2.2.2, by simp, ?_⟩
          intro a ha b hb
          simp at hb
          subst hb
          obtain ⟨x, hx, rfl⟩ := List.mem_map.1 ha
          have := pos_neg.1 HPF.out x hx
          simpa using this
        have HXL := Lib.hid hxl
        have HXD := Lib.hid hxd
        have hfw : IntKind.i64.wrap ((fs.length : Int) + 1) = (fs.length : Int) + 1 := IntWalk.i64_in _ (by omega)
        clear hxs hxl hxd
        go_cut [67] (fun t wx => t = .bool false ∧ Below w6.heap.size w6 wx)
        case first =>
          go_region_held3 (fun w' => Below w6.heap.size w6 w' ∧ w'.cell? ⟨g, 0, none⟩ = some (.int .i64 L) ∧ w'.cell? ⟨g, 1, none⟩ = some (.slice a3 fs.length c3) ∧ w'.cell? ⟨w.heap.size, 0, none⟩ = some (.int .i64 L) ∧ w'.cell? ⟨w.heap.size, 1, none⟩ = some (.slice ao l.length cap))
            (first | exact HS3.out _ ((Below.refl _ _).drew) | exact HS3.out _ (keepB (Nat.le_refl _) (And.left (by assumption)) hb))
            (first | (go_at_call 12; (with_reducible refine (HD1.out _ (And.left (by assumption))).mono ?_); rintro e w' ⟨rfl, hb⟩) | (go_at_call 12; (with_reducible refine (HD2.out _ (And.left (by assumption))).mono ?_); rintro e w' ⟨rfl, hb⟩))
          all_goals
            have HZ : Below w6.heap.size w6 w' := And.left (by assumption)
            go_wp2_with fail
            go_meet
            exact ⟨rfl, HZ⟩
        case rest =>
          obtain ⟨rfl, hb7⟩ := hcut
          have B7 := HB6.out.trans (hb7.mono HB6.out.size)
          have S7 := Lib.hid (S6.out.kept hb7)
          have D7 := Lib.hid (D6.out.kept hb7)
          clear hb7 HS3 HD1 HD2 S6 D6 T6 HB6 B6 d0 d1 t0 t1
          obtain ⟨d0, d1, -, -⟩ := D7.out.all
          go_wp2_with fail
          refine (HU.out wc S7.out).mono ?_
          rintro e w8 ⟨a5, c5, ko, kc, rfl, hc5, -, hs5, -, hb8⟩
          have B8 := B7.trans (hb8.mono B7.size)
          have S8 := Lib.hid (S7.out.kept hb8)
          have D8 := Lib.hid (D7.out.kept hb8)
          have X8 := Lib.hid hs5
          have L8 := D8.out.lt
          clear hb8 S7 D7 B7 d0 d1 hs5
          go_upto_region 11 with fail
          refine wp_gen (fun V hV => ?_)
          have BV : Below w.heap.size w V := by rw [hV]; exact B8.alloc B8.size _
          have DV : Two V g (.int .i64 L) (.slice a3 fs.length c3) := by rw [hV]; exact D8.out.kept (below_here _)
          have XV : Two V w8.heap.size (.int .i64 L) (.slice a5 xs.length c5) := by rw [hV]; exact Two.new w8 _ _
          have SV : SlotsAt V a3 fs := by rw [hV]; exact S8.out.kept (below_here _)
          have YV : SlotsAt V a5 xs := by rw [hV]; exact X8.out.kept (below_here _)
          generalize w8.heap.size = q at *
          obtain ⟨p0, p1, -, -⟩ := DV.all
          obtain ⟨q0, q1, -, -⟩ := XV.all
          have HBV := Lib.hid BV
          have HSV := Lib.hid SV
          have HYV := Lib.hid YV
          clear hV BV DV XV SV YV B8 S8 D8 X8
          have HS4 : Hid (∀ w', Below V.heap.size V w' → Below V.heap.size V w' ∧ w'.cell? ⟨g, 0, none⟩ = some (.int .i64 L) ∧ w'.cell? ⟨g, 1, none⟩ = some (.slice a3 fs.length c3) ∧ w'.cell? ⟨q, 0, none⟩ = some (.int .i64 L) ∧ w'.cell? ⟨q, 1, none⟩ = some (.slice a5 xs.length c5)) :=
            fun w' h => ⟨h, (h.cell (cells_lt p0)).trans p0, (h.cell (cells_lt p1)).trans p1, (h.cell (cells_lt q0)).trans q0, (h.cell (cells_lt q1)).trans q1⟩
          have HD3 : Hid (∀ w', Below V.heap.size V w' → Calls Try.prog 13 #[.agg #[.int .i64 L, .slice a5 xs.length c5], .string key] w' (CacheIs w' L fs)) := by
            intro w' hb
            have := drop_any L xs HXD.out key a5 c5 hc5 (by have := HXL.out; omega) w' (HYV.out.kept hb)
            rw [HSN.out] at this
            exact this
          have HD4 : Hid (∀ a c w', Below V.heap.size V w' → (∃ w9, SlotsAt w9 a fs ∧ Below w9.heap.size w9 w') → Calls Try.prog 18 #[.agg #[.int .i64 L, .slice a fs.length c], .agg #[.int .i64 L, .slice a3 fs.length c3]] w' fun e w2 => e = .returned (.bool true) ∧ Below w'.heap.size w' w2) :=
            fun a c w' hb ⟨w9, hs, hb9⟩ => same_any L fs a a3 c c3 (by omega) w' (hs.kept hb9) (HSV.out.kept hb)
          go_region_held3 (fun w' => Below V.heap.size V w' ∧ w'.cell? ⟨g, 0, none⟩ = some (.int .i64 L) ∧ w'.cell? ⟨g, 1, none⟩ = some (.slice a3 fs.length c3) ∧ w'.cell? ⟨q, 0, none⟩ = some (.int .i64 L) ∧ w'.cell? ⟨q, 1, none⟩ = some (.slice a5 xs.length c5))
            (first | exact HS4.out _ ((Below.refl _ _).drew) | exact HS4.out _ (keepB (Nat.le_refl _) (And.left (by assumption)) hb))
            (first | (go_at_call 13; refine (HD3.out _ (And.left (by assumption))).mono ?_; rintro e w' ⟨a9, c9, rfl, -, hs9, hb⟩) | (go_at_call 18; refine (HD4.out _ _ _ (And.left (by assumption)) ⟨_, (by assumption : SlotsAt _ _ fs), (by first | exact Below.refl _ _ | assumption)⟩).mono ?_; rintro e w' ⟨rfl, hb⟩))
          all_goals
            have HZ : Below V.heap.size V w' := And.left (by assumption)
            go_wp2_with fail
            go_ret
            exact ⟨rfl, HBV.out.trans (HZ.mono HBV.out.size)⟩
theorem drops_any (L : Int) (l : List Sl) (key : ByteArray) (n : Int) (ao : Option Addr) (cap : Nat) (hc : l.length ≤ cap) (hl : l.length * 24 ≤ 140737488351232) (w : World) (h : SlotsAt w ao l) :
    Calls Try.prog 8 #[.agg #[.int .i64 L, .slice ao l.length cap], .string key, .int .i64 n] w fun e w' => e = .returned (.bool true) ∧ Below w.heap.size w w' := by
  by_cases hv : Valid L l
  · exact drops_valid L l hv key n ao cap hc hl w h
  · exact drops_invalid L l hv key n ao cap (by omega) w h
end Go.Proofs.Ytdbfioafcpjkpaa
