/-
  CacheLarger answers true.
-/
import Derived.Test.YtdbfioafcpjkpaaU
namespace Go.Proofs.Ytdbfioafcpjkpaa
open Go.ChangeShapes Go.WideShapes Go.ChangeAt Go.RowKit

theorem suffix_drop (m : Int) : ∀ (d r : List Sl), r <:+ d → wsum r ≤ m → r <:+ d.drop (cnt m d)
  | [], r, h, _ => by simpa [cnt] using h
  | x :: t, r, h, hw => by
    by_cases hm : m < wsum (x :: t)
    · rw [cnt, if_pos hm]
      rcases List.suffix_cons_iff.1 h with rfl | h
      · omega
      · exact suffix_drop m t r h hw
    · rw [cnt, if_neg hm]; exact h
theorem larger {L1 L2 n : Int} (h0 : 0 ≤ n) (hL0 : 0 ≤ L1) (hL : L1 ≤ L2) (us : List Sl) (hu : ∀ x, x ∈ us → x.2 = n) : ∀ j, runs L1 (us.take j) <:+ runs L2 (us.take j)
  | 0 => by simp [runs]
  | j + 1 => by
    have ih := larger h0 hL0 hL us hu j
    cases hx : us[j]? with
    | none =>
      have hl := List.getElem?_eq_none_iff.1 hx
      rw [List.take_of_length_le (by omega)]
      rw [List.take_of_length_le (by omega)] at ih
      exact ih
    | some x =>
      have hxn := hu x (List.mem_of_getElem? hx)
      rw [runs_take _ us j x hx, runs_take _ us j x hx]
      by_cases hn : n ≤ L1
      · unfold step used
        rw [if_pos (by omega), if_pos (by omega)]
        have hf : fil x.1 (runs L1 (us.take j)) <:+ fil x.1 (runs L2 (us.take j)) := List.IsSuffix.filter _ ih
        generalize fil x.1 (runs L1 (us.take j)) = c at *
        generalize fil x.1 (runs L2 (us.take j)) = d at *
        have hs := suffix_drop (L2 - x.2) d (c.drop (cnt (L1 - x.2) c)) ((List.drop_suffix _ _).trans hf) (by have := cnt_fits (L1 - x.2) (by omega) c; omega)
        obtain ⟨p, hp⟩ := hs
        exact ⟨p, by rw [← hp, List.append_assoc]⟩
      · have hz : ∀ j, runs L1 (us.take j) = [] := by
          intro j
          induction j with
          | zero => simp [runs]
          | succ j ihj =>
            cases hy : us[j]? with
            | none =>
              have hl := List.getElem?_eq_none_iff.1 hy
              rw [List.take_of_length_le (by omega)]
              rw [List.take_of_length_le (by omega)] at ihj
              exact ihj
            | some y =>
              have hyn := hu y (List.mem_of_getElem? hy)
              rw [runs_take _ us j y hy, ihj]
              unfold step
              rw [if_neg (by omega)]
        rw [← runs_take _ us j x hx, hz]
        exact List.nil_suffix
theorem info39z : (Try.prog.info? 39).map (fun i => (i.zero, i.size, i.bytes)) = some (some (.agg #[.string ByteArray.empty, .int .i64 0]), 2, 24) := by kernel_rfl
/-- Uses in a slice of the call's own. -/
def OwnUses (w : World) (B : Nat) (v : Value) (l : List Sl) : Prop := ∃ vs, RepV vs l ∧ (∀ x ∈ vs, x.oneCell' = true) ∧ w.ownsRow B 39 2 v l.length vs
theorem OwnUses.slots {w : World} {B : Nat} {v : Value} {l : List Sl} (h : OwnUses w B v l) : ∃ ao cap, v = .slice ao l.length cap ∧ l.length ≤ cap ∧ SlotsAt w ao l := by
  obtain ⟨vs, hr, h1, ho⟩ := h
  rcases ho.2 with ⟨rfl, hn⟩ | ⟨g, cap, cur, rfl, hb, hg, hc, _, hs, ht⟩
  · have : l = [] := List.eq_nil_of_length_eq_zero hn
    subst this
    exact ⟨none, 0, rfl, Nat.le_refl _, Or.inl rfl⟩
  · refine ⟨_, cap, rfl, hc, Or.inr ⟨g, 0, rfl, hr.row ?_⟩⟩
    intro j v hv
    have := ho.cells (g := g) rfl j v hv
    simpa [addr_add] using this
def same (n : Int) (l : List Sl) : List Sl := l.map (fun x => (x.1, n))
theorem same_take (n : Int) (l : List Sl) (i : Nat) (x : Sl) (hx : l[i]? = some x) : same n (l.take (i + 1)) = same n (l.take i) ++ [(x.1, n)] := by
  rw [List.take_add_one, hx]; simp [same]

set_option maxHeartbeats 1000000 in
set_option maxRecDepth 100000 in
theorem larger_out (L m n : Int) (v : Value) (ho : m < 0 ∨ n < 0 ∨ L < 0 ∨ 1099511627776 < L ∨ 1099511627776 < m) (w : World) :
    Calls Try.prog 5 #[.int .i64 L, .int .i64 m, v, .int .i64 n] w fun e w' => e = .returned (.bool true) ∧ Below w.heap.size w w' := by
  by_cases h1 : m < 0
  · have d1 : decide (m < 0) = true := by simpa using h1
    clear ho
    go_enter Try.func5, Try.ntmps5
    go_wp2_with fail
    refine (example_any _).mono ?_
    rintro e w1 ⟨rfl, hb1⟩
    go_wp2_with fail
    go_ret
    exact ⟨rfl, hb1⟩
  · have d1 : decide (m < 0) = false := by simpa using h1
    by_cases h2 : n < 0
    · have d2 : decide (n < 0) = true := by simpa using h2
      clear ho
      go_enter Try.func5, Try.ntmps5
      go_wp2_with fail
      refine (example_any _).mono ?_
      rintro e w1 ⟨rfl, hb1⟩
      go_wp2_with fail
      go_ret
      exact ⟨rfl, hb1⟩
    · have d2 : decide (n < 0) = false := by simpa using h2
      by_cases h3 : L < 0
      · have d3 : decide (L < 0) = true := by simpa using h3
        clear ho
        go_enter Try.func5, Try.ntmps5
        go_wp2_with fail
        refine (example_any _).mono ?_
        rintro e w1 ⟨rfl, hb1⟩
        go_wp2_with fail
        go_ret
        exact ⟨rfl, hb1⟩
      · have d3 : decide (L < 0) = false := by simpa using h3
        by_cases h4 : 1099511627776 < L
        · have d4 : decide (1099511627776 < L) = true := by simpa using h4
          clear ho
          go_enter Try.func5, Try.ntmps5
          go_wp2_with fail
          refine (example_any _).mono ?_
          rintro e w1 ⟨rfl, hb1⟩
          go_wp2_with fail
          go_ret
          exact ⟨rfl, hb1⟩
        · have d4 : decide (1099511627776 < L) = false := by simpa using h4
          have h5 : 1099511627776 < m := by omega
          have d5 : decide (1099511627776 < m) = true := by simpa using h5
          clear ho
          go_enter Try.func5, Try.ntmps5
          go_wp2_with fail
          refine (example_any _).mono ?_
          rintro e w1 ⟨rfl, hb1⟩
          go_wp2_with fail
          go_ret
          exact ⟨rfl, hb1⟩

set_option maxHeartbeats 4000000 in
set_option maxRecDepth 100000 in
theorem larger_in (L m n : Int) (hm : 0 ≤ m) (hn : 0 ≤ n) (hL : 0 ≤ L) (hL1 : L ≤ 1099511627776) (hm1 : m ≤ 1099511627776) (us : List Sl) (ao : Option Addr) (cap : Nat) (hl : us.length * 24 ≤ 140737488351232) (w : World) (h : SlotsAt w ao us) :
    Calls Try.prog 5 #[.int .i64 L, .int .i64 m, .slice ao us.length cap, .int .i64 n] w fun e w' => e = .returned (.bool true) ∧ Below w.heap.size w w' := by
  have H := Lib.hid h
  have hll : us.length ≤ 5864062014800 := by omega
  have hsl : (same n us).length = us.length := by simp [same]
  have d1 : decide (m < 0) = false := by simp; omega
  have d2 : decide (n < 0) = false := by simp; omega
  have d3 : decide (L < 0) = false := by simp; omega
  have d4 : decide (1099511627776 < L) = false := by simp; omega
  have d5 : decide (1099511627776 < m) = false := by simp; omega
  have HA1 := Lib.hid (fun a c w h => after_good L hL (by omega) (same n us) a c (by omega) w h)
  have HA2 := Lib.hid (fun a c w h => after_good (L + m) (by omega) (by omega) (same n us) a c (by omega) w h)
  have hV1 := valid_runs hL (by omega : L ≤ 1152921504606846976) (same n us) (same n us).length
  have hV2 := valid_runs (by omega : 0 ≤ L + m) (by omega : L + m ≤ 1152921504606846976) (same n us) (same n us).length
  have hsuf := larger hn hL (by omega : L ≤ L + m) (same n us) (fun x hx => by unfold same at hx; obtain ⟨y, -, rfl⟩ := List.mem_map.1 hx; rfl) (same n us).length
  rw [List.take_length] at hV1 hV2 hsuf
  have hV1l := hV1.2
  have hV2l := hV2.2
  have HV1 := Lib.hid hV1.1
  have HV2 := Lib.hid hV2.1
  have hsum := wsum_sub hsuf.sublist hV2.1.2.2.1
  have HSUF := Lib.hid hsuf
  clear hV1 hV2 h hl hsuf
  generalize hc : runs L (same n us) = cs at *
  generalize hd : runs (L + m) (same n us) = ds at *
  have hcl : cs.length ≤ 5864062014800 := by omega
  have hdl : ds.length ≤ 5864062014800 := by omega
  have HU1 : Hid (∀ (a : Option Addr) (c : Nat) (w' : World), SlotsAt w' a cs → Calls Try.prog 12 #[.agg #[.int .i64 L, .slice a cs.length c]] w' fun e w2 => e = .returned (.int .i64 (wsum cs)) ∧ Below w'.heap.size w' w2) :=
    fun a c w' hs => used_any _ L a c (by omega) HV1.out.2.2.1 (by have := HV1.out.2.2.2.1; omega) w' hs
  have HU2 : Hid (∀ (a : Option Addr) (c : Nat) (w' : World), SlotsAt w' a ds → Calls Try.prog 12 #[.agg #[.int .i64 (L + m), .slice a ds.length c]] w' fun e w2 => e = .returned (.int .i64 (wsum ds)) ∧ Below w'.heap.size w' w2) :=
    fun a c w' hs => used_any _ (L + m) a c (by omega) HV2.out.2.2.1 (by have := HV2.out.2.2.2.1; omega) w' hs
  have HH : Hid (∀ (a : Option Addr) (c : Nat) (k : ByteArray) (x : Sl) (w' : World), x ∈ cs → k.toList = x.1 → SlotsAt w' a ds → Calls Try.prog 15 #[.agg #[.int .i64 (L + m), .slice a ds.length c], .string k] w' fun e w2 => e = .returned (.bool true) ∧ Below w'.heap.size w' w2) := by
    intro a c k x w' hx hk hs
    have := has_any (L + m) _ k a c (by omega) w' hs
    rw [show decide (0 ≤ pos k.toList ds 0) = true by
      rcases Int.lt_or_le (pos k.toList ds 0) 0 with h | h
      · have := pos_neg.1 h x (HSUF.out.subset hx)
        rw [hk] at this
        simp at this
      · simpa using h] at this
    exact this
  have hds : decide (wsum cs ≤ wsum ds) = true := by simpa using hsum
  clear hc hd hsum hV1l hV2l hsl
  obtain ⟨i39, hi39, hz0, hz1, hz2⟩ := info_parts info39z
  go_enter Try.func5, Try.ntmps5
  go_wp2_with fail
  refine (example_any _).mono ?_
  rintro e w1 ⟨rfl, hb1⟩
  have B1 := Lib.hid hb1
  clear hb1
  go_wp2_with fail
  go_loopw [10, 11] (fun v i wr => ∃ (k : Nat) (v0 : Value), v0 = v ∧ i = .int .i64 k ∧ k ≤ us.length ∧ Below w.heap.size w wr ∧ OwnUses wr w.heap.size v (same n (us.take k))) (fun _ i _ => us.length - (intOf i).toNat)
  case atStart => exact ⟨0, _, rfl, rfl, Nat.zero_le _, B1.out, [], by intro i x hx; simp [same] at hx, by simp, rfl, Or.inl ⟨rfl, rfl⟩⟩
  case round =>
    obtain ⟨k, v, rfl, rfl, hk, hB, hO⟩ := hrel
    have HB := Lib.hid hB
    have hsz := hB.size
    clear B1
    by_cases hkl : k < us.length
    · obtain ⟨x, hx⟩ : ∃ x, us[k]? = some x := ⟨us[k], List.getElem?_eq_getElem hkl⟩
      obtain ⟨b, off, rfl, hrow⟩ := (H.out.kept hB).some (by omega)
      obtain ⟨s, hs, k1, k2⟩ := hrow k x hx
      obtain ⟨vs, hr, ho1, hown⟩ := hO
      have hlen : (same n (us.take k)).length = k := by simp [same]; omega
      rw [hlen] at hown
      have HT := Lib.hid (same_take n us k x hx)
      have FIN : Hid (∀ v' w1, w1.ownsRow w.heap.size 39 2 v' (k + 1) (vs ++ [.string s, .int .i64 n]) → (wr.alloc (.cells #[.string s, .int .i64 n] 39)).grownBy w1 v.ownBlock → OwnUses w1 w.heap.size v' (same n (us.take (k + 1))) ∧ Below w.heap.size w w1) := by
        intro v' w1 q1 q2
        refine ⟨⟨vs ++ [.string s, .int .i64 n], ?_, ?_, ?_⟩, (HB.out.alloc hsz _).grown q2 (by simp; omega) (fun g hg => (hown.lt g hg).1)⟩
        · rw [HT.out]
          refine hr.append (by rw [hown.1, hlen]) ?_
          intro j y hj
          match j, hj with
          | 0, hj => simp at hj; subst hj; exact ⟨s, hs, rfl, rfl⟩
        · intro u hu
          rcases List.mem_append.1 hu with hu | hu
          · exact ho1 u hu
          · simp at hu; rcases hu with rfl | rfl <;> rfl
        · rw [HT.out, List.length_append, hlen]; exact q1
      have HO : Hid ((wr.alloc (.cells #[.string s, .int .i64 n] 39)).ownsRow w.heap.size 39 2 v k vs) := ownsRow_kept hown (below_here _)
      have H5 : Hid (k + 1 ≤ maxLen) := by show _ ≤ _; unfold maxLen; omega
      have H6 : Hid ((k + 1) * 24 ≤ 140737488355328) := by show _ ≤ _; omega
      have H7 : Hid (w.heap.size ≤ (wr.alloc (.cells #[.string s, .int .i64 n] 39)).heap.size) := by show _ ≤ _; simp; omega
      have HNW : Hid (∀ j u, [Value.string s, .int .i64 n][j]? = some u → (wr.alloc (.cells #[.string s, .int .i64 n] 39)).cell? ((⟨wr.heap.size, 0, none⟩ : Addr).add j) = some u) := by
        intro j u hj
        rw [addr_add]
        match j, hj with
        | 0, hj => simp at hj; subst hj; simp [go_sem]
        | 1, hj => simp at hj; subst hj; simp [go_sem]
      clear hr ho1 hown hlen hs hx hrow hB
      go_wp2_with (at_builtin; refine wpList_append_own _ rfl (.tmp 43) (.tmp 51) 36 rfl w.heap.size 39 i39 _ 2 24 Try.underlying36 hi39 hz0 hz1 hz2 rfl (by decide) v _ _ rfl HO.out ⟨wr.heap.size, 0, none⟩ 1 1 [.string s, .int .i64 n] rfl rfl HNW.out (by simp [Value.oneCell']) H5.out H6.out H7.out ?_; intro v' w1 hown hgr _; have FN := Lib.hid (FIN.out v' w1 hown hgr); clear hown hgr)
      go_roundw
      case rel => exact ⟨k + 1, _, rfl, by go_num, by omega, FN.out.2, FN.out.1⟩
      case measure => simp [intOf]; omega
    · have hk2 : k = us.length := by omega
      subst hk2
      rw [List.take_length] at hO
      obtain ⟨a1, c1, hv, -, hs1⟩ := hO.slots
      subst hv
      have HS := Lib.hid hs1
      clear hO hs1 hB
      go_wp2_with fail
      refine (HA1.out a1 c1 wr HS.out).mono ?_
      rintro e w2 ⟨a2, c2, rfl, hc2, hs2, hb2⟩
      have HB2 := Lib.hid (HB.out.trans (hb2.mono HB.out.size))
      have HS2 := Lib.hid (HS.out.kept hb2)
      have HC := Lib.hid hs2
      clear hb2 hs2 HS HB
      go_wp2_with fail
      refine (HA2.out a1 c1 _ (HS2.out.kept (below_here _))).mono ?_
      rintro e w3 ⟨a3, c3, rfl, hc3, hs3, hb3⟩
      have HB3 := Lib.hid ((HB2.out.alloc HB2.out.size (.cells #[.int .i64 L, .slice a2 cs.length c2] 24)).trans (hb3.mono (by have := HB2.out.size; simp; omega)))
      have HC3 := Lib.hid ((HC.out.kept (below_here (.cells #[.int .i64 L, .slice a2 cs.length c2] 24))).kept hb3)
      have HT3 : Hid (Two w3 w2.heap.size (.int .i64 L) (.slice a2 cs.length c2)) := (Two.new w2 _ _).kept hb3
      have HD3 := Lib.hid hs3
      have hl3 := HT3.out.lt
      clear hb3 hs3 HB2 HS2 HC
      go_wp2_with fail
      refine wp_gen (fun V hV => ?_)
      have HBV : Hid (Below w.heap.size w V) := by rw [hV]; exact HB3.out.alloc HB3.out.size _
      have HTV : Hid (Two V w2.heap.size (.int .i64 L) (.slice a2 cs.length c2)) := by rw [hV]; exact HT3.out.kept (below_here _)
      have HUV : Hid (Two V w3.heap.size (.int .i64 (L + m)) (.slice a3 ds.length c3)) := by rw [hV]; exact Two.new _ _ _
      have HCV : Hid (SlotsAt V a2 cs) := by rw [hV]; exact HC3.out.kept (below_here _)
      have HDV : Hid (SlotsAt V a3 ds) := by rw [hV]; exact HD3.out.kept (below_here _)
      generalize w2.heap.size = g at *
      generalize w3.heap.size = q at *
      clear hV HB3 HC3 HT3 HD3
      go_loopw [16] (fun v wr => ∃ i : Nat, v = .int .i64 i ∧ i ≤ cs.length ∧ Below V.heap.size V wr) (fun v _ => cs.length - (intOf v).toNat)
      case atStart => exact ⟨0, rfl, Nat.zero_le _, Below.refl _ _⟩
      case round =>
        obtain ⟨i, rfl, hi, hB⟩ := hrel
        have HBr := Lib.hid hB
        obtain ⟨t0, t1, -, -⟩ := (HTV.out.kept hB).all
        obtain ⟨u0, u1, -, -⟩ := (HUV.out.kept hB).all
        by_cases hlt : i < cs.length
        · obtain ⟨x, hx⟩ : ∃ x, cs[i]? = some x := ⟨cs[i], List.getElem?_eq_getElem hlt⟩
          obtain ⟨b, off, rfl, hrow⟩ := (HCV.out.kept hB).some (by omega)
          obtain ⟨s, hs, k1, k2⟩ := hrow i x hx
          have hi0 : (0 : Int) ≤ (i : Int) := by omega
          have hil : (i : Int) < (cs.length : Int) := by omega
          have HD1 : Hid (∀ w', Below wr.heap.size wr w' → Calls Try.prog 15 #[.agg #[.int .i64 (L + m), .slice a3 ds.length c3], .string s] w' fun e w2 => e = .returned (.bool true) ∧ Below w'.heap.size w' w2) :=
            fun w' hb => HH.out a3 c3 s x w' (List.mem_of_getElem? hx) hs ((HDV.out.kept HBr.out).kept hb)
          have HS3 : Hid (∀ w', Below wr.heap.size wr w' → Below wr.heap.size wr w' ∧ w'.cell? ⟨q, 0, none⟩ = some (.int .i64 (L + m)) ∧ w'.cell? ⟨q, 1, none⟩ = some (.slice a3 ds.length c3) ∧ w'.cell? ⟨g, 1, none⟩ = some (.slice (some ⟨b, off, none⟩) cs.length c2) ∧ w'.cell? ⟨b, off + i * 2, none⟩ = some (.string s)) :=
            fun w' h => ⟨h, (h.cell (cells_lt u0)).trans u0, (h.cell (cells_lt u1)).trans u1, (h.cell (cells_lt t1)).trans t1, (h.cell (cells_lt k1)).trans k1⟩
          clear hs hx hrow hB
          go_upto_region 16 with fail
          go_region_held3 (fun w' => Below wr.heap.size wr w' ∧ w'.cell? ⟨q, 0, none⟩ = some (.int .i64 (L + m)) ∧ w'.cell? ⟨q, 1, none⟩ = some (.slice a3 ds.length c3) ∧ w'.cell? ⟨g, 1, none⟩ = some (.slice (some ⟨b, off, none⟩) cs.length c2) ∧ w'.cell? ⟨b, off + i * 2, none⟩ = some (.string s))
            (first | exact HS3.out _ ((Below.refl _ _).drew) | exact HS3.out _ (keepB (Nat.le_refl _) (And.left (by assumption)) hb))
            (first | (go_at_call 15; refine (HD1.out _ (And.left (by assumption))).mono ?_; rintro e w' ⟨rfl, hb⟩))
          have HZ : Below wr.heap.size wr w' := And.left (by assumption)
          go_wp2_with fail
          go_roundw
          case rel => exact ⟨i + 1, by go_num, by omega, HBr.out.trans (HZ.mono HBr.out.size)⟩
          case measure => simp [intOf]; omega
        · have HD1 : Hid (∀ w', Below wr.heap.size wr w' → Calls Try.prog 12 #[.agg #[.int .i64 L, .slice a2 cs.length c2]] w' fun e w2 => e = .returned (.int .i64 (wsum cs)) ∧ Below w'.heap.size w' w2) :=
            fun w' hb => HU1.out a2 c2 w' ((HCV.out.kept HBr.out).kept hb)
          have HD2 : Hid (∀ w', Below wr.heap.size wr w' → Calls Try.prog 12 #[.agg #[.int .i64 (L + m), .slice a3 ds.length c3]] w' fun e w2 => e = .returned (.int .i64 (wsum ds)) ∧ Below w'.heap.size w' w2) :=
            fun w' hb => HU2.out a3 c3 w' ((HDV.out.kept HBr.out).kept hb)
          have HS3 : Hid (∀ w', Below wr.heap.size wr w' → Below wr.heap.size wr w' ∧ w'.cell? ⟨q, 0, none⟩ = some (.int .i64 (L + m)) ∧ w'.cell? ⟨q, 1, none⟩ = some (.slice a3 ds.length c3) ∧ w'.cell? ⟨g, 0, none⟩ = some (.int .i64 L) ∧ w'.cell? ⟨g, 1, none⟩ = some (.slice a2 cs.length c2)) :=
            fun w' h => ⟨h, (h.cell (cells_lt u0)).trans u0, (h.cell (cells_lt u1)).trans u1, (h.cell (cells_lt t0)).trans t0, (h.cell (cells_lt t1)).trans t1⟩
          clear hB
          go_wp2_with fail
          go_region_held3 (fun w' => Below wr.heap.size wr w' ∧ w'.cell? ⟨q, 0, none⟩ = some (.int .i64 (L + m)) ∧ w'.cell? ⟨q, 1, none⟩ = some (.slice a3 ds.length c3) ∧ w'.cell? ⟨g, 0, none⟩ = some (.int .i64 L) ∧ w'.cell? ⟨g, 1, none⟩ = some (.slice a2 cs.length c2))
            (first | exact HS3.out _ ((Below.refl _ _).drew) | exact HS3.out _ (keepB (Nat.le_refl _) (And.left (by assumption)) hb))
            (first | (go_at_call 12; (with_reducible refine (HD1.out _ (And.left (by assumption))).mono ?_); rintro e w' ⟨rfl, hb⟩) | (go_at_call 12; (with_reducible refine (HD2.out _ (And.left (by assumption))).mono ?_); rintro e w' ⟨rfl, hb⟩))
          all_goals
            have HZ : Below wr.heap.size wr w' := And.left (by assumption)
            go_wp2_with fail
            go_ret
            exact ⟨rfl, HBV.out.trans ((HBr.out.trans (HZ.mono HBr.out.size)).mono HBV.out.size)⟩
theorem larger_any (L m : Int) (us : List Sl) (n : Int) (ao : Option Addr) (cap : Nat) (hl : us.length * 24 ≤ 140737488351232) (w : World) (h : SlotsAt w ao us) :
    Calls Try.prog 5 #[.int .i64 L, .int .i64 m, .slice ao us.length cap, .int .i64 n] w fun e w' => e = .returned (.bool true) ∧ Below w.heap.size w w' := by
  by_cases ho : m < 0 ∨ n < 0 ∨ L < 0 ∨ 1099511627776 < L ∨ 1099511627776 < m
  · exact larger_out L m n _ ho w
  · exact larger_in L m n (by omega) (by omega) (by omega) (by omega) (by omega) us ao cap hl w h
end Go.Proofs.Ytdbfioafcpjkpaa
