/-
  asofref20.Consolidate, Add.
-/
import Derived.Test.YtfnpfkgmacaboaaK
namespace Go.Proofs.Ytfnpfkgmacaboaa
open Go.ChangeShapes Go.WideShapes Go.ChangeAt Go.RowKit
set_option linter.unusedVariables false
set_option linter.unusedSimpArgs false

instance decRK : DecidableEq RK := fun a b => if h : cmpR a b = 0 then .isTrue ((cmpR_cmp.zero a b).1 h) else .isFalse (fun e => h ((cmpR_cmp.zero a b).2 e))
instance decDK : DecidableEq DK := fun a b => if h : cmpD a b = 0 then .isTrue ((cmpD_cmp.zero a b).1 h) else .isFalse (fun e => h ((cmpD_cmp.zero a b).2 e))
/-- The consolidated list. -/
def consK (d : List (DK × Int)) : List (DK × Int) := d.foldl (putK cmpD) []
theorem consK_snoc (d : List (DK × Int)) (x : DK × Int) : consK (d ++ [x]) = putK cmpD (consK d) x := by unfold consK; rw [List.foldl_append]; rfl
theorem take_snoc {α : Type} {l : List α} {i : Nat} {x : α} (h : l[i]? = some x) : l.take (i + 1) = l.take i ++ [x] := by
  rw [List.take_add_one, h]; rfl
theorem OwnD.kept {w w' : World} {B : Nat} {v : Value} {l : List Dl} (h : OwnD w B v l) (hb : Below w.heap.size w w') : OwnD w' B v l := ⟨h.1.kept hb, fun d hd => (h.2 d hd).kept hb⟩
theorem OwnD.mono {w : World} {B B' : Nat} {v : Value} {l : List Dl} (h : OwnD w B v l) (hB : B' ≤ B) : OwnD w B' v l := ⟨h.1.mono hB, h.2⟩
theorem OwnD.nil (w : World) (B : Nat) : OwnD w B (.slice none 0 0) [] := ⟨Own.nil w B, fun d hd => by cases hd⟩
theorem OwnD.lies {w : World} {B : Nat} {v : Value} {l : List Dl} (h : OwnD w B v l) : ∃ ao c, v = .slice ao l.length c ∧ l.length ≤ c ∧ (ao = none → c = 0) ∧ DlsAt w ao l := by
  obtain ⟨ao, c, h1, h2, h3, h4⟩ := h.1.lies encD
  exact ⟨ao, c, h1, h2, h3, h4, h.2⟩
theorem keepB {B : Nat} {w0 w w1 : World} (hB : B ≤ w0.heap.size) (h : Below B w0 w) (hb : Below w.heap.size w w1) : Below B w0 w1 := h.trans (hb.mono (Nat.le_trans hB h.size))
set_option maxHeartbeats 2000000 in
set_option maxRecDepth 100000 in
theorem rcons_any (l : List Dl) (ao : Option Addr) (cap : Nat) (hl : l.length ≤ 100000000) (w : World) (h : DlsAt w ao l) :
    Calls Try.prog 13 #[.slice ao l.length cap] w fun e w' => ∃ v l', e = .returned v ∧ OwnD w' w.heap.size v l' ∧ l'.length ≤ l.length ∧ l'.map Dl.kn = consK (l.map Dl.kn) ∧ Below w.heap.size w w' := by
  have H := Lib.hid h
  clear h
  go_enter Try.func13, Try.ntmps13
  go_wp2_with fail
  go_loopw [3, 4] (fun v j wr => ∃ (i : Nat) (r : List Dl) (v0 : Value), v0 = v ∧ i ≤ l.length ∧ j = .int .i64 i ∧ Hid (OwnD wr w.heap.size v r ∧ r.length ≤ i ∧ r.map Dl.kn = consK ((l.take i).map Dl.kn)) ∧ Below w.heap.size w wr) (fun _ j _ => l.length - (intOf j).toNat)
  case atStart => exact ⟨0, [], _, rfl, by omega, rfl, ⟨OwnD.nil _ _, Nat.le_refl _, rfl⟩, Below.refl _ _⟩
  case round =>
    obtain ⟨i, r, v0, rfl, hi, rfl, HR, hB⟩ := hrel
    have HB := Lib.hid hB
    clear hB
    by_cases hlt : i < l.length
    · obtain ⟨x, hx⟩ : ∃ x, l[i]? = some x := ⟨l[i], List.getElem?_eq_getElem hlt⟩
      obtain ⟨b, off, rfl, hrow⟩ := (H.out.1.kept HB.out).some (by omega)
      obtain ⟨c0, c1, c2, c3, c4, c5, c6, c7, c8, c9⟩ := Dl.cell hrow hx
      have HX := Lib.hid hx
      have HXO : Hid (x.Ok wr) := (H.out.2 x (List.mem_of_getElem? hx)).kept HB.out
      obtain ⟨a2, c, rfl, hrc, hrn, hrd⟩ := HR.out.1.lies
      have HP := Lib.hid (rput_any r a2 c (by have := HR.out.2.1; omega) hrc hrn x wr hrd HXO.out)
      have HRL : Hid (r.length ≤ i) := HR.out.2.1
      have HRM : Hid (r.map Dl.kn = consK ((l.take i).map Dl.kn)) := HR.out.2.2
      clear hrow hx hrc hrn hrd HR
      generalize hrl : r.length = rl at *
      have HRR := Lib.hid hrl
      clear hrl
      go_wp2_with (go_at_call 33; (with_reducible refine HP.out.mono ?_); rintro e w1 ⟨v', l', rfl, ho, hl', hm, hb⟩; have HO := Lib.hid ho; have HL := Lib.hid hl'; have HM := Lib.hid hm; have HB1 := Lib.hid hb; clear ho hl' hm hb)
      go_roundw
      case rel =>
        refine ⟨i + 1, l', _, rfl, by omega, by go_num, ⟨HO.out.mono HB.out.size, ?_, ?_⟩, keepB (Nat.le_refl _) HB.out HB1.out⟩
        · have h1 := HL.out; have h2 := HRL.out; omega
        · rw [HM.out, HRM.out, take_snoc HX.out, List.map_append, List.map_singleton, consK_snoc]
      case measure => simp [intOf]; omega
    · obtain rfl : i = l.length := by omega
      go_wp2_with fail
      go_ret
      exact ⟨_, r, rfl, HR.out.1, HR.out.2.1, by rw [HR.out.2.2, List.take_length], HB.out⟩
set_option maxHeartbeats 1000000 in
set_option maxRecDepth 100000 in
theorem radd_any (l k : List Dl) (ao a2 : Option Addr) (cap c2 : Nat) (hl : l.length ≤ 10000000) (hk : k.length ≤ 10000000) (hcap : ao = none → cap = 0) (hc2 : a2 = none → c2 = 0) (w : World) (h : DlsAt w ao l) (h2 : DlsAt w a2 k) :
    Calls Try.prog 9 #[.slice ao l.length cap, .slice a2 k.length c2] w fun e w' => ∃ v l', e = .returned v ∧ OwnD w' w.heap.size v l' ∧ l'.length ≤ l.length + k.length ∧ l'.map Dl.kn = consK (l.map Dl.kn ++ k.map Dl.kn) ∧ Below w.heap.size w w' := by
  have H := Lib.hid h
  have H2 := Lib.hid h2
  have HC := Lib.hid hcap
  have HC2 := Lib.hid hc2
  have HLen : Hid (l.length ≤ 10000000 ∧ k.length ≤ 10000000) := ⟨hl, hk⟩
  clear h h2 hcap hc2 hl hk
  have HO1 : Hid (Own Dl.cells 10 41 (w.alloc (.cells #[] 41)) w.heap.size (.slice (some ⟨w.heap.size, 0, none⟩) 0 0) []) := Own.lit (Nat.le_refl _)
  have HX1 : Hid (Below w.heap.size w (w.alloc (.cells #[] 41))) := below_here _
  have HL1 : Hid (([] : List Dl).length + l.length ≤ 1000000000) := by show _ ≤ _; have := HLen.out; simp; omega
  have HL2 : Hid (([] ++ l).length + k.length ≤ 1000000000) := by show _ ≤ _; have := HLen.out; simp; omega
  generalize hll : l.length = ll at *
  generalize hkk : k.length = kk at *
  have HLL : Hid (ll = l.length) := hll.symm
  have HKK : Hid (kk = k.length) := hkk.symm
  clear hll hkk
  have HL1b : Hid (([] : List Dl).length + l.length ≤ 1000000000) := by show _ ≤ _; rw [← HLL.out]; exact HL1.out
  have HL2b : Hid (([] ++ l).length + k.length ≤ 1000000000) := by show _ ≤ _; rw [← HKK.out]; exact HL2.out
  go_enter Try.func9, Try.ntmps9
  have HP0 : Hid (∀ w', Below w.heap.size w w' → ∀ d ∈ [] ++ l ++ k, d.Ok w') := fun w' hb d hd => by
    simp at hd
    exact hd.elim (fun h => (H.out.2 d h).kept hb) (fun h => (H2.out.2 d h).kept hb)
  have HM : Hid (([] ++ l ++ k).length = ll + kk ∧ ([] ++ l ++ k).map Dl.kn = l.map Dl.kn ++ k.map Dl.kn) := by
    refine ⟨?_, by simp⟩
    rw [HLL.out, HKK.out]; simp
  obtain ⟨m, hm⟩ : ∃ m, m = [] ++ l ++ k := ⟨_, rfl⟩
  have HMM := Lib.hid hm
  rw [← hm] at HP0 HM
  clear hm
  have HCons := Lib.hid (fun a c w' h => rcons_any m a c (by have := HLen.out; have := HM.out.1; omega) w' h)
  generalize hml : m.length = ml at *
  have HML := Lib.hid hml
  clear hml
  go_wp2_with (first
    | (at_builtin; first
      | (refine wpList_app elD encD rfl (.tmp 5) (.tmp 6) rfl rfl rfl HO1.out (H.out.1.kept HX1.out) HLL.out HC.out HX1.out.size HL1b.out ?_; intro v2 w2 ho hb; have HO2 := Lib.hid ho; have HX2 := Lib.hid (HX1.out.trans hb); clear ho hb)
      | (refine wpList_app elD encD rfl (.tmp 7) (.tmp 8) rfl rfl rfl HO2.out (H2.out.1.kept HX2.out) HKK.out HC2.out HX2.out.size HL2b.out ?_; intro v3 w3 ho hb; have HX3 := Lib.hid (HX2.out.trans hb); rw [← HMM.out] at ho; obtain ⟨a3, c3, rfl, hr1, hr2, hr3⟩ := ho.lies encD; rw [HML.out]; have HR3 : Hid (DlsAt w3 a3 m) := ⟨hr3, HP0.out w3 HX3.out⟩; clear ho hb hr1 hr2 hr3))
    | (go_at_call 13; (with_reducible refine (HCons.out a3 c3 w3 HR3.out).mono ?_); rintro e w4 ⟨v4, l4, rfl, ho, hl4, hm, hb⟩; have HO4 := Lib.hid ho; have HL4 := Lib.hid hl4; have HM4 := Lib.hid hm; have HB4 := Lib.hid hb; clear ho hl4 hm hb))
  go_ret
  exact ⟨_, l4, rfl, HO4.out.mono HX3.out.size, by have := HL4.out; have := HM.out.1; omega, HM4.out.trans (by rw [HM.out.2]), keepB (Nat.le_refl _) HX3.out HB4.out⟩
end Go.Proofs.Ytfnpfkgmacaboaa

/-
  asofref20.Negate.
-/
namespace Go.Proofs.Ytfnpfkgmacaboaa
open Go.ChangeShapes Go.WideShapes Go.ChangeAt Go.RowKit
set_option linter.unusedVariables false
set_option linter.unusedSimpArgs false

/-- The other way round. -/
def Dl.neg (d : Dl) : Dl := d.withN (IntKind.i64.wrap (-d.n))
theorem Dl.Ok.neg {w : World} {d : Dl} (h : d.Ok w) : d.neg.Ok w := { h with n := I64.wrap _ }
set_option maxHeartbeats 2000000 in
set_option maxRecDepth 100000 in
theorem rneg_any (l : List Dl) (ao : Option Addr) (cap : Nat) (hl : l.length ≤ 100000000) (w : World) (h : DlsAt w ao l) :
    Calls Try.prog 11 #[.slice ao l.length cap] w fun e w' => ∃ v, e = .returned v ∧ OwnD w' w.heap.size v (l.map Dl.neg) ∧ Below w.heap.size w w' := by
  have H := Lib.hid h
  clear h
  go_enter Try.func11, Try.ntmps11
  go_wp2_with fail
  go_loopw [3, 4] (fun v j wr => ∃ (i : Nat) (v0 : Value), v0 = v ∧ i ≤ l.length ∧ j = .int .i64 i ∧ Hid (Own Dl.cells 10 41 wr w.heap.size v ((l.take i).map Dl.neg)) ∧ Below w.heap.size w wr) (fun _ j _ => l.length - (intOf j).toNat)
  case atStart => exact ⟨0, _, rfl, by omega, rfl, Own.nil _ _, Below.refl _ _⟩
  case round =>
    obtain ⟨i, v0, rfl, hi, rfl, HR, hB⟩ := hrel
    have HB := Lib.hid hB
    clear hB
    by_cases hlt : i < l.length
    · obtain ⟨x, hx⟩ : ∃ x, l[i]? = some x := ⟨l[i], List.getElem?_eq_getElem hlt⟩
      obtain ⟨b, off, rfl, hrow⟩ := (H.out.1.kept HB.out).some (by omega)
      obtain ⟨c0, c1, c2, c3, c4, c5, c6, c7, c8, c9⟩ := Dl.cell hrow hx
      have HX := Lib.hid hx
      have HW : Hid (wrap64 (-x.n) = IntKind.i64.wrap (-x.n)) := wrap64_is _
      clear hrow hx
      have HLn : Hid (((l.take i).map Dl.neg).length ≤ 100000000) := by show _ ≤ _; simp; omega
      have HF : Hid ((l.take (i + 1)).map Dl.neg = (l.take i).map Dl.neg ++ [x.neg]) := by show _ = _; rw [take_snoc HX.out, List.map_append]; rfl
      generalize (l.take i).map Dl.neg = r at *
      have HN : Hid (x.neg = x.withN (wrap64 (-x.n))) := by show _ = _; rw [HW.out]; rfl
      clear HW
      obtain ⟨y, hy⟩ : ∃ y, y = x.withN (wrap64 (-x.n)) := ⟨_, rfl⟩
      rw [← hy] at HN
      have HO6 : Hid (Own Dl.cells 10 41 ((wr.alloc (.cells (Dl.cells y).toArray 41)).alloc (.cells (Dl.cells y).toArray 41)) w.heap.size v0 r) := (HR.out.kept (below_here _)).kept (below_here _)
      have HX6 : Hid (Below w.heap.size w ((wr.alloc (.cells (Dl.cells y).toArray 41)).alloc (.cells (Dl.cells y).toArray 41))) := (HB.out.alloc HB.out.size _).alloc (by have := HB.out.size; simp; omega) _
      have HS6 : Hid (LiesAt Dl.cells 10 ((wr.alloc (.cells (Dl.cells y).toArray 41)).alloc (.cells (Dl.cells y).toArray 41)) (some ⟨(wr.alloc (.cells (Dl.cells y).toArray 41)).heap.size, 0, none⟩) [y]) := lies_one _ _ encD
      have HLa : Hid (r.length + [y].length ≤ 1000000000) := by show _ ≤ _; have := HLn.out; simp; omega
      rw [show (wr.alloc (.cells (Dl.cells y).toArray 41)).heap.size = wr.heap.size + 1 by simp] at HS6
      have HRES : Hid ((l.take (i + 1)).map Dl.neg = r ++ [y]) := by show _ = _; rw [HF.out, HN.out]
      clear HF HN HLn
      subst hy
      go_wp2_with (at_builtin; refine wpList_app elD encD rfl (.tmp 20) (.tmp 22) rfl rfl rfl HO6.out HS6.out rfl (fun e => by cases e) HX6.out.size HLa.out ?_; intro v5 w5 ho hb; have HO5 := Lib.hid ho; have HX5 := Lib.hid (HX6.out.trans hb); clear ho hb)
      go_roundw
      case rel => exact ⟨i + 1, _, rfl, by omega, by go_num, by rw [HRES.out]; exact HO5.out, HX5.out⟩
      case measure => simp [intOf]; omega
    · obtain rfl : i = l.length := by omega
      go_wp2_with fail
      go_ret
      exact ⟨_, rfl, ⟨by have := HR.out; rwa [List.take_length] at this, fun d hd => by obtain ⟨y, hy, rfl⟩ := List.mem_map.1 hd; exact ((H.out.2 y hy).kept HB.out).neg⟩, HB.out⟩
end Go.Proofs.Ytfnpfkgmacaboaa
