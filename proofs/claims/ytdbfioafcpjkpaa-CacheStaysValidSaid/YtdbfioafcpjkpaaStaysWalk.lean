/-
  CacheStaysValid answers true.
-/
import Derived.Test.YtdbfioafcpjkpaaU
namespace Go.Proofs.Ytdbfioafcpjkpaa
open Go.ChangeShapes Go.WideShapes Go.ChangeAt Go.RowKit

theorem fs_at {key : List UInt8} {l : List Sl} {i : Nat} {x : Sl} (hx : l[i]? = some x) (hk : (x.1 == key) = false) : (fil key l)[(fil key (l.take i)).length]? = some x := by
  have h1 := fil_take key l i x hx
  rw [hk, if_neg (by simp)] at h1
  have e : fil key l = fil key (l.take (i + 1)) ++ fil key (l.drop (i + 1)) := by
    conv => lhs; rw [← List.take_append_drop (i + 1) l]
    unfold fil; rw [List.filter_append]
  rw [e, h1, List.append_assoc, List.getElem?_append_right (Nat.le_refl _)]
  simp
/-- The use's result, place by place. -/
structure Parts (L n : Int) (key : List UInt8) (l us : List Sl) (G : List (List UInt8)) (c m : Nat) : Prop where
  gl : G.length = c
  ul : us.length = m - c + 1
  cm : c ≤ m
  ml : m ≤ l.length
  last : us[m - c]? = some (key, n)
  valid : Valid L us
  gk : ∀ (i : Nat) (k : List UInt8), G[i]? = some k → pos k us 0 < 0 ∧ (k == key) = false ∧ 0 ≤ pos k l 0
  full : (fil key l).length = m
  out : ∀ (i : Nat) (x : Sl), l[i]? = some x → (x.1 == key) = false → (fil key (l.take i)).length < c → G[(fil key (l.take i)).length]? = some x.1
  rest : ∀ (i : Nat) (x : Sl), l[i]? = some x → (x.1 == key) = false → c ≤ (fil key (l.take i)).length → (fil key (l.take i)).length - c < m - c ∧ us[(fil key (l.take i)).length - c]? = some x
theorem parts {L n : Int} {l : List Sl} (hv : Valid L l) (hn : 0 ≤ n) (hL : n ≤ L) (key : List UInt8) : ∃ c m, Parts L n key l (used L key n l) (gone L key n l) c m := by
  have hle := cnt_le (L - n) (fil key l)
  have hVF := hv.sub (fil_sub key l)
  refine ⟨cnt (L - n) (fil key l), (fil key l).length, ?_⟩
  have hu : used L key n l = (fil key l).drop (cnt (L - n) (fil key l)) ++ [(key, n)] := rfl
  have hg : gone L key n l = ((fil key l).take (cnt (L - n) (fil key l))).map Prod.fst := rfl
  generalize cnt (L - n) (fil key l) = c at *
  have hdl : ((fil key l).drop c).length = (fil key l).length - c := by simp
  refine ⟨by rw [hg]; simp; omega, by rw [hu]; simp, hle, fil_len key l, ?_, valid_used hv hn hL key, ?_, rfl, ?_, ?_⟩
  · rw [hu, List.getElem?_append_right (by omega), hdl]; simp
  · intro i k hk
    rw [hg, List.getElem?_map] at hk
    obtain ⟨x, hx, rfl⟩ := Option.map_eq_some_iff.1 hk
    have hic : i < c := by
      have := (List.getElem?_eq_some_iff.1 hx).1
      simp at this; omega
    rw [List.getElem?_take_of_lt hic] at hx
    have hxm := List.mem_of_getElem? hx
    have hkne := fil_key key l x hxm
    refine ⟨?_, by simpa using hkne, ?_⟩
    · rw [pos_neg]
      intro y hy
      rw [hu] at hy
      rcases List.mem_append.1 hy with hy | hy
      · rcases hq : (y.1 == x.1) with _ | _
        · rfl
        · exfalso
          obtain ⟨j, hj, hjy⟩ := List.mem_iff_getElem.1 hy
          obtain ⟨hi, hxi⟩ := List.getElem?_eq_some_iff.1 hx
          have hnd := hVF.2.2.2.2
          unfold Distinct at hnd
          rw [List.nodup_iff_pairwise_ne, List.pairwise_iff_getElem] at hnd
          simp at hj hjy
          have := hnd i (c + j) (by simp; omega) (by simp; omega) (by omega)
          simp [hjy, hxi, eq_of_beq hq] at this
      · simp at hy; subst hy
        simpa using fun e => hkne e.symm
    · rcases Int.lt_or_le (pos x.1 l 0) 0 with h | h
      · have := pos_neg.1 h x ((fil_sub key l).subset hxm)
        simp at this
      · exact h
  · intro i x hx hk hlt
    rw [hg, List.getElem?_map, List.getElem?_take_of_lt hlt, fs_at hx hk]; rfl
  · intro i x hx hk hge
    have h1 := fs_at hx hk
    have h2 := (List.getElem?_eq_some_iff.1 h1).1
    refine ⟨by omega, ?_⟩
    rw [hu, List.getElem?_append_left (by omega), List.getElem?_drop, ← h1]
    congr 1; omega
set_option maxHeartbeats 1000000 in
set_option maxRecDepth 100000 in
theorem stays_invalid (L : Int) (l : List Sl) (hv : ¬ Valid L l) (key : ByteArray) (n : Int) (ao : Option Addr) (cap : Nat) (hl : l.length ≤ 4611686018427387904) (w : World) (h : SlotsAt w ao l) :
    Calls Try.prog 7 #[.agg #[.int .i64 L, .slice ao l.length cap], .string key, .int .i64 n] w fun e w' => e = .returned (.bool true) ∧ Below w.heap.size w w' := by
  have H := Lib.hid h
  have HV := Lib.hid hv
  clear h hv
  go_enter Try.func7, Try.ntmps7
  go_wp2_with fail
  refine (example_any _).mono ?_
  rintro e w1 ⟨rfl, hb1⟩
  have B1 : Below w.heap.size w w1 := (below_here _).trans (hb1.mono (by simp))
  have T1 : Hid (Two w1 w.heap.size (.int .i64 L) (.slice ao l.length cap)) := (Two.new w _ _).kept hb1
  obtain ⟨t0, t1, -, -⟩ := T1.out.all
  clear hb1
  go_wp2_with fail
  refine (refCheck_any L l ao cap hl w1 (H.out.kept B1)).mono ?_
  rintro e w2 ⟨r, rfl, -, hr, hb2⟩
  obtain rfl : r = 1 := hr HV.out
  have B2 := B1.trans (hb2.mono B1.size)
  clear hb2 hr t0 t1
  go_wp2_with fail
  go_ret
  exact ⟨rfl, B2⟩
set_option maxHeartbeats 1000000 in
set_option maxRecDepth 100000 in
theorem stays_refused (L : Int) (l : List Sl) (hv : Valid L l) (key : ByteArray) (n : Int) (hn : n < 0 ∨ L < n) (ao : Option Addr) (cap : Nat) (hl : l.length ≤ 4611686018427387904) (w : World) (h : SlotsAt w ao l) :
    Calls Try.prog 7 #[.agg #[.int .i64 L, .slice ao l.length cap], .string key, .int .i64 n] w fun e w' => e = .returned (.bool true) ∧ Below w.heap.size w w' := by
  have H := Lib.hid h
  have HV := Lib.hid hv
  have HUS : Hid (∀ (v : Value) (w : World), Calls Try.prog 11 #[.agg #[.int .i64 L, v], .string key, .int .i64 n] w fun e w2 => ∃ r : Int, (r == 0) = false ∧ UseIs w 0 [] [] r e w2) := by
    intro v w'
    by_cases h0 : n < 0
    · exact (use_neg L n h0 key _ w').mono fun e w2 h => ⟨1, rfl, h⟩
    · exact (use_big L n (by omega) (by omega) key _ w').mono fun e w2 h => ⟨340, rfl, h⟩
  have hnn : Hid (n < 0 ∨ (¬ n < 0 ∧ L < n)) := by show _ ∨ _; omega
  clear h hv hn
  go_enter Try.func7, Try.ntmps7
  go_wp2_with fail
  refine (example_any _).mono ?_
  rintro e w1 ⟨rfl, hb1⟩
  have B1 : Below w.heap.size w w1 := (below_here _).trans (hb1.mono (by simp))
  have T1 : Hid (Two w1 w.heap.size (.int .i64 L) (.slice ao l.length cap)) := (Two.new w _ _).kept hb1
  obtain ⟨t0, t1, -, -⟩ := T1.out.all
  clear hb1
  go_wp2_with fail
  refine (refCheck_any L l ao cap hl w1 (H.out.kept B1)).mono ?_
  rintro e w2 ⟨r, rfl, hr, -, hb2⟩
  obtain rfl : r = 0 := hr HV.out
  have B2 := B1.trans (hb2.mono B1.size)
  have T2 := Lib.hid (T1.out.kept hb2)
  clear hb2 hr t0 t1 T1 B1
  obtain ⟨t0, t1, -, -⟩ := T2.out.all
  go_wp2_with fail
  refine (HUS.out _ _).mono ?_
  rintro e w3 ⟨r, hr, a5, c5, ko, kc, rfl, -, -, -, -, hb3⟩
  have hr2 : (r != 0) = true := by rw [bne, hr]; rfl
  have B3 := B2.trans (hb3.mono B2.size)
  have T3 := Lib.hid (T2.out.kept hb3)
  have L3 := T3.out.lt
  clear hb3 t0 t1 T2 B2
  obtain ⟨t0, t1, -, -⟩ := T3.out.all
  rcases hnn.out with h0 | ⟨h0, h0'⟩
  · have hd : decide (n < 0) = true := by simpa using h0
    go_wp2_with fail
    go_ret
    exact ⟨rfl, B3.alloc B3.size _⟩
  · have hd : decide (n < 0) = false := by simpa using h0
    have hd2 : decide (L < n) = true := by simpa using h0'
    go_wp2_with fail
    go_ret
    exact ⟨rfl, B3.alloc B3.size _⟩

set_option maxHeartbeats 4000000 in
set_option maxRecDepth 100000 in
theorem stays_fits (L : Int) (l : List Sl) (hv : Valid L l) (key : ByteArray) (n : Int) (hn : 0 ≤ n) (hL : n ≤ L) (ao : Option Addr) (cap : Nat) (hc : l.length ≤ cap) (hl : l.length * 24 ≤ 140737488351232) (w : World) (h : SlotsAt w ao l) :
    Calls Try.prog 7 #[.agg #[.int .i64 L, .slice ao l.length cap], .string key, .int .i64 n] w fun e w' => e = .returned (.bool true) ∧ Below w.heap.size w w' := by
  have H := Lib.hid h
  have HV := Lib.hid hv
  have hll : l.length ≤ 5864062014800 := by omega
  have HU := Lib.hid (use_fits L n l hv hn hL key ao cap hc hl)
  obtain ⟨c, m, hP⟩ := parts hv hn hL key.toList
  have HP := Lib.hid hP
  have hcm := hP.cm
  have hml := hP.ml
  have HHc : Hid (∀ (k : ByteArray) (w' : World), 0 ≤ pos k.toList l 0 → SlotsAt w' ao l → Calls Try.prog 15 #[.agg #[.int .i64 L, .slice ao l.length cap], .string k] w' fun e w2 => e = .returned (.bool true) ∧ Below w'.heap.size w' w2) := by
    intro k w' hk hs
    have := has_any L l k ao cap (by omega) w' hs
    rw [show decide (0 ≤ pos k.toList l 0) = true by simpa using hk] at this
    exact this
  clear h hv hc hP
  generalize hus : used L key.toList n l = us at *
  generalize gone L key.toList n l = G at *
  have hul : us.length = m - c + 1 := HP.out.ul
  have hgl : G.length = c := HP.out.gl
  have HHd : Hid (∀ (a : Option Addr) (d : Nat) (k : ByteArray) (w' : World), pos k.toList us 0 < 0 → SlotsAt w' a us → Calls Try.prog 15 #[.agg #[.int .i64 L, .slice a us.length d], .string k] w' fun e w2 => e = .returned (.bool false) ∧ Below w'.heap.size w' w2) := by
    intro a d k w' hk hs
    have := has_any L us k a d (by omega) w' hs
    rw [show decide (0 ≤ pos k.toList us 0) = false by simp; omega] at this
    exact this
  have HCk : Hid (∀ (a : Option Addr) (d : Nat) (w' : World), us.length ≤ d → SlotsAt w' a us → Calls Try.prog 19 #[.agg #[.int .i64 L, .slice a us.length d]] w' fun e w2 => e = .returned (.int .i64 0) ∧ Below w'.heap.size w' w2) := by
    intro a d w' hd hs
    refine (check_any L us a d hd (by omega) w' hs).mono ?_
    rintro e w2 ⟨r, rfl, hr, -, hb⟩
    exact ⟨by rw [hr HP.out.valid], hb⟩
  have hu1 : ((us.length : Int) == 0) = false := by simp; intro h; rw [h] at hul; simp at hul
  have HUL := Lib.hid hul
  have HGL := Lib.hid hgl
  have hu2 : (0 : Int) < (us.length : Int) := by omega
  have hu3 : us.length ≤ 5864062014801 := by omega
  have hg3 : G.length ≤ 5864062014801 := by omega
  clear hus hul hgl
  go_enter Try.func7, Try.ntmps7
  go_wp2_with fail
  refine (example_any _).mono ?_
  rintro e w1 ⟨rfl, hb1⟩
  have B1 : Below w.heap.size w w1 := (below_here _).trans (hb1.mono (by simp))
  have T1 : Hid (Two w1 w.heap.size (.int .i64 L) (.slice ao l.length cap)) := (Two.new w _ _).kept hb1
  obtain ⟨t0, t1, -, -⟩ := T1.out.all
  clear hb1
  go_wp2_with fail
  refine (refCheck_any L l ao cap (by omega) w1 (H.out.kept B1)).mono ?_
  rintro e w2 ⟨r, rfl, hr, -, hb2⟩
  obtain rfl : r = 0 := hr HV.out
  have B2 := B1.trans (hb2.mono B1.size)
  have T2 := Lib.hid (T1.out.kept hb2)
  clear hb2 hr t0 t1 T1 B1
  obtain ⟨t0, t1, -, -⟩ := T2.out.all
  go_wp2_with fail
  refine (HU.out w2 (H.out.kept B2)).mono ?_
  rintro e w3 ⟨a5, c5, ko, kc, rfl, hc5, hkc, hs5, hk5, hb3⟩
  have B3 := B2.trans (hb3.mono B2.size)
  have T3 := Lib.hid (T2.out.kept hb3)
  have S5 := Lib.hid hs5
  have K5 := Lib.hid hk5
  have L3 := T3.out.lt
  clear hb3 t0 t1 T2 B2 hs5 hk5
  go_upto_region 7 with fail
  refine wp_gen (fun V hV => ?_)
  have BV : Below w.heap.size w V := by rw [hV]; exact B3.alloc B3.size _
  have TV : Two V w.heap.size (.int .i64 L) (.slice ao l.length cap) := by rw [hV]; exact T3.out.kept (below_here _)
  have DV : Two V w3.heap.size (.int .i64 L) (.slice a5 us.length c5) := by rw [hV]; exact Two.new w3 _ _
  have SV : SlotsAt V a5 us := by rw [hV]; exact S5.out.kept (below_here _)
  have KV : KeysAt V ko G := by rw [hV]; exact K5.out.kept (below_here _)
  generalize w3.heap.size = g at *
  have HTV := Lib.hid TV
  have HDV := Lib.hid DV
  have HSV := Lib.hid SV
  have HKV := Lib.hid KV
  have HBV := Lib.hid BV
  obtain ⟨d0, d1, -, -⟩ := DV.all
  clear hV BV TV DV SV KV B3 T3 S5 K5
  go_wp2_with fail
  refine (HCk.out a5 c5 V hc5 HSV.out).mono ?_
  rintro e w4 ⟨rfl, hb4⟩
  have B4 := HBV.out.trans (hb4.mono HBV.out.size)
  have HT4 := Lib.hid (HTV.out.kept hb4)
  have HD4 := Lib.hid (HDV.out.kept hb4)
  have HS4 := Lib.hid (HSV.out.kept hb4)
  have HK4 := Lib.hid (HKV.out.kept hb4)
  clear hb4 HTV HDV HSV HKV HBV d0 d1
  obtain ⟨d0, d1, -, -⟩ := HD4.out.all
  obtain ⟨t0, t1, -, -⟩ := HT4.out.all
  have hi : us.length - 1 < us.length := by omega
  obtain ⟨b, off, rfl, hrow⟩ := HS4.out.some (by omega)
  obtain ⟨s, hs, k1, k2⟩ := hrow (us.length - 1) (key.toList, n) (by rw [← HP.out.last]; congr 1; have := HUL.out; omega)
  have hneq := slots_neq s key n n
  rw [show (!(s.toList == key.toList && n == n)) = false by rw [hs]; simp] at hneq
  have HB4 := Lib.hid B4
  clear hs hrow B4 hi
  go_wp2_with fail
  clear hneq k1 k2 d0 d1 t0 t1
  go_loopw [12] (fun v wr => ∃ i : Nat, v = .int .i64 i ∧ i ≤ G.length ∧ Below w4.heap.size w4 wr) (fun v _ => G.length - (intOf v).toNat)
  case atStart => exact ⟨0, rfl, Nat.zero_le _, Below.refl _ _⟩
  case round =>
    obtain ⟨i, rfl, hi, hB⟩ := hrel
    by_cases hlt : i < G.length
    · obtain ⟨k, hk⟩ : ∃ k, G[i]? = some k := ⟨G[i], List.getElem?_eq_getElem hlt⟩
      obtain ⟨b', off', rfl, krow⟩ := (HK4.out.kept hB).some (by omega)
      obtain ⟨t, ht, tc⟩ := krow i k hk
      obtain ⟨g1, g2, g3⟩ := HP.out.gk i k hk
      rw [← ht] at g1 g2 g3
      obtain ⟨d0, d1, -, -⟩ := (HD4.out.kept hB).all
      obtain ⟨t0, t1, -, -⟩ := (HT4.out.kept hB).all
      have hi0 : (0 : Int) ≤ (i : Int) := by omega
      have hil : (i : Int) < (G.length : Int) := by omega
      have HD1 : Hid (∀ w', Below wr.heap.size wr w' → Calls Try.prog 15 #[.agg #[.int .i64 L, .slice (some ⟨b, off, none⟩) us.length c5], .string t] w' fun e w2 => e = .returned (.bool false) ∧ Below w'.heap.size w' w2) :=
        fun w' hb => HHd.out _ c5 t w' g1 ((HS4.out.kept hB).kept hb)
      have HBW := Lib.hid (HB4.out.trans (hB.mono HB4.out.size))
      have HD2 : Hid (∀ w', Below wr.heap.size wr w' → Calls Try.prog 15 #[.agg #[.int .i64 L, .slice ao l.length cap], .string t] w' fun e w2 => e = .returned (.bool true) ∧ Below w'.heap.size w' w2) :=
        fun w' hb => HHc.out t w' g3 ((H.out.kept HBW.out).kept hb)
      have HS3 : Hid (∀ w', Below wr.heap.size wr w' → Below wr.heap.size wr w' ∧ w'.cell? ⟨g, 0, none⟩ = some (.int .i64 L) ∧ w'.cell? ⟨g, 1, none⟩ = some (.slice (some ⟨b, off, none⟩) us.length c5) ∧ w'.cell? ⟨w.heap.size, 0, none⟩ = some (.int .i64 L) ∧ w'.cell? ⟨w.heap.size, 1, none⟩ = some (.slice ao l.length cap) ∧ w'.cell? ⟨b', off' + i, none⟩ = some (.string t)) :=
        fun w' h => ⟨h, (h.cell (cells_lt d0)).trans d0, (h.cell (cells_lt d1)).trans d1, (h.cell (cells_lt t0)).trans t0, (h.cell (cells_lt t1)).trans t1, (h.cell (cells_lt tc)).trans tc⟩
      clear ht hk krow g1 g3
      go_upto_region 13 with fail
      go_cut [111] (fun t wx => t = .bool false ∧ Below wr.heap.size wr wx)
      case first =>
        go_region_held3 (fun w' => Below wr.heap.size wr w' ∧ w'.cell? ⟨g, 0, none⟩ = some (.int .i64 L) ∧ w'.cell? ⟨g, 1, none⟩ = some (.slice (some ⟨b, off, none⟩) us.length c5) ∧ w'.cell? ⟨w.heap.size, 0, none⟩ = some (.int .i64 L) ∧ w'.cell? ⟨w.heap.size, 1, none⟩ = some (.slice ao l.length cap) ∧ w'.cell? ⟨b', off' + i, none⟩ = some (.string t))
          (first | exact HS3.out _ ((Below.refl _ _).drew) | exact HS3.out _ (keepB (Nat.le_refl _) (And.left (by assumption)) hb))
          (first | (go_at_call 15; (with_reducible refine (HD1.out _ (And.left (by assumption))).mono ?_); rintro e w' ⟨rfl, hb⟩) | (go_at_call 15; (with_reducible refine (HD2.out _ (And.left (by assumption))).mono ?_); rintro e w' ⟨rfl, hb⟩))
        all_goals
          have HZ : Below wr.heap.size wr w' := And.left (by assumption)
          go_wp2_with fail
          go_meet
          exact ⟨rfl, HZ⟩
      case rest =>
        obtain ⟨rfl, hb9⟩ := hcut
        have HB9 := Lib.hid (hB.trans (hb9.mono hB.size))
        clear hB hb9 HS3 HD1 HD2 HBW d0 d1 t0 t1 tc
        go_wp2_with fail
        go_roundw
        case rel => exact ⟨i + 1, by go_num, by omega, HB9.out⟩
        case measure => simp [intOf]; omega
    · have hi2 : i = G.length := by omega
      subst hi2
      obtain ⟨wo, rfl⟩ : ∃ wo : World, wo = wr := ⟨_, rfl⟩
      have HBo := Lib.hid hB
      clear hB
      go_wp2_with fail
      go_loopw [13, 14] (fun u v wr => ∃ i : Nat, v = .int .i64 i ∧ i ≤ l.length ∧ u = .int .i64 (fil key.toList (l.take i)).length ∧ Below w4.heap.size w4 wr) (fun _ v _ => l.length - (intOf v).toNat)
      case atStart => exact ⟨0, rfl, Nat.zero_le _, by simp [fil], HBo.out⟩
      case round =>
        clear HBo
        obtain ⟨i, rfl, hi, rfl, hB⟩ := hrel
        have HBr := Lib.hid hB
        obtain ⟨d0, d1, -, -⟩ := (HD4.out.kept hB).all
        obtain ⟨t0, t1, -, -⟩ := (HT4.out.kept hB).all
        by_cases hlt : i < l.length
        · obtain ⟨x, hx⟩ : ∃ x, l[i]? = some x := ⟨l[i], List.getElem?_eq_getElem hlt⟩
          obtain ⟨b1, o1, rfl, lrow⟩ := (H.out.kept (HB4.out.trans (hB.mono HB4.out.size))).some (by omega)
          obtain ⟨s, hs, k1, k2⟩ := lrow i x hx
          have hft := fil_take key.toList l i x hx
          have hal : (fil key.toList (l.take i)).length ≤ i := by have := fil_len key.toList (l.take i); simp at this; omega
          rcases hk : (x.1 == key.toList) with _ | _
          · rw [hk, if_neg (by simp)] at hft
            have hlen : (fil key.toList (l.take (i + 1))).length = (fil key.toList (l.take i)).length + 1 := by rw [hft]; simp
            have hk2 : (s.toList == key.toList) = false := by rw [hs, hk]
            by_cases hac : (fil key.toList (l.take i)).length < c
            · have hg := HP.out.out i x hx hk hac
              obtain ⟨b', off', rfl, krow⟩ := (HK4.out.kept hB).some (by have := HGL.out; omega)
              obtain ⟨t, ht, tc⟩ := krow _ x.1 hg
              have hq : (s.toList == t.toList) = true := by rw [hs, ht]; simp
              have hlt2 : (fil key.toList (l.take i)).length < G.length := by have := HGL.out; omega
              have HLN := Lib.hid hlen
              clear hg krow ht hs hx hft hlen lrow hk hac hB
              generalize (fil key.toList (l.take i)).length = a at *
              have ha0 : (0 : Int) ≤ (a : Int) := by omega
              have ha1 : (a : Int) < (G.length : Int) := by omega
              have tc2 : (wr.alloc (.cells #[.string s, .int .i64 x.2] 34)).cell? ⟨b', off' + a, none⟩ = some (.string t) := by rw [World.cell?_alloc_lt _ _ _ (cells_lt tc)]; exact tc
              go_wp2_with fail
              go_quiet (fail)
              go_wp2_with fail
              go_roundw
              case rel => exact ⟨i + 1, by go_num, by omega, by rw [HLN.out]; go_num, below_drewN (HBr.out.alloc HBr.out.size _) _⟩
              case measure => simp [intOf]; omega
            · obtain ⟨hr1, hr2⟩ := HP.out.rest i x hx hk (by omega)
              obtain ⟨b2, o2, he, drow⟩ := (HS4.out.kept hB).some (by have := HUL.out; omega)
              injection he with he
              injection he with e1 e2
              subst e1 e2
              obtain ⟨s2, hs2, m1, m2⟩ := drow _ x hr2
              have hneq := slots_neq s2 s x.2 x.2
              rw [show (!(s2.toList == s.toList && x.2 == x.2)) = false by rw [hs, hs2]; simp] at hneq
              obtain ⟨kk, hkk⟩ : ∃ kk, (fil key.toList (l.take i)).length = G.length + kk := ⟨(fil key.toList (l.take i)).length - G.length, by have := HGL.out; omega⟩
              rw [show (fil key.toList (l.take i)).length - c = kk by have := HGL.out; omega] at hr1 m1 m2
              have hk0 : (0 : Int) ≤ (kk : Int) := by omega
              have hk1 : (kk : Int) < (us.length : Int) := by have := HUL.out; omega
              have hk3 : decide ((us.length : Int) - 1 ≤ (kk : Int)) = false := by have := HUL.out; simp; omega
              have hw1 : IntKind.i64.wrap ((us.length : Int) - 1) = (us.length : Int) - 1 := IntWalk.i64_in _ (by omega)
              have hge : ¬ (fil key.toList (l.take i)).length < G.length := by omega
              have heq : (((fil key.toList (l.take i)).length : Nat) : Int) - (G.length : Int) = (kk : Int) := by omega
              have HLN := Lib.hid hlen
              have HKK := Lib.hid hkk
              have q1 : (wr.alloc (.cells #[.string s, .int .i64 x.2] 34)).cell? ⟨b, off + kk * 2, none⟩ = some (.string s2) := by rw [World.cell?_alloc_lt _ _ _ (cells_lt m1)]; exact m1
              have q2 : (wr.alloc (.cells #[.string s, .int .i64 x.2] 34)).cell? ⟨b, off + kk * 2 + 1, none⟩ = some (.int .i64 x.2) := by rw [World.cell?_alloc_lt _ _ _ (cells_lt m2)]; exact m2
              have q3 : (wr.alloc (.cells #[.string s, .int .i64 x.2] 34)).cell? ⟨g, 1, none⟩ = some (.slice (some ⟨b, off, none⟩) us.length c5) := by rw [World.cell?_alloc_lt _ _ _ (cells_lt d1)]; exact d1
              have hgw : g < wr.heap.size := cells_lt d1
              have hbw : b < wr.heap.size := cells_lt m1
              clear hs hs2 hx hft hlen lrow drow hk hac hB hr2 hr1 hkk
              generalize (fil key.toList (l.take i)).length = a at *
              go_wp2_with fail
              go_quiet (fail)
              go_wp2_with fail
              go_roundw
              case rel => exact ⟨i + 1, by go_num, by omega, by rw [HLN.out]; go_num, below_drewN (HBr.out.alloc HBr.out.size _) _⟩
              case measure => simp [intOf]; omega
          · rw [hk, if_pos rfl, List.append_nil] at hft
            have hk2 : (s.toList == key.toList) = true := by rw [hs, hk]
            have HFT := Lib.hid hft
            clear hft hs hx lrow hk hB
            go_wp2_with fail
            go_roundw
            case rel => exact ⟨i + 1, by go_num, by omega, by rw [HFT.out], HBr.out.alloc HBr.out.size _⟩
            case measure => simp [intOf]; omega
        · have hi2 : i = l.length := by omega
          subst hi2
          rw [List.take_length, HP.out.full]
          have hfin : ((m : Int) == (G.length : Int) + (us.length : Int) - 1) = true := by have := HGL.out; have := HUL.out; simp; omega
          go_wp2_with fail
          go_ret
          exact ⟨by simp, HB4.out.trans (HBr.out.mono HB4.out.size)⟩
theorem stays_any (L : Int) (l : List Sl) (key : ByteArray) (n : Int) (ao : Option Addr) (cap : Nat) (hc : l.length ≤ cap) (hl : l.length * 24 ≤ 140737488351232) (w : World) (h : SlotsAt w ao l) :
    Calls Try.prog 7 #[.agg #[.int .i64 L, .slice ao l.length cap], .string key, .int .i64 n] w fun e w' => e = .returned (.bool true) ∧ Below w.heap.size w w' := by
  by_cases hv : Valid L l
  · by_cases hn : n < 0 ∨ L < n
    · exact stays_refused L l hv key n hn ao cap (by omega) w h
    · exact stays_fits L l hv key n (by omega) (by omega) ao cap hc hl w h
  · exact stays_invalid L l hv key n ao cap (by omega) w h
end Go.Proofs.Ytdbfioafcpjkpaa
