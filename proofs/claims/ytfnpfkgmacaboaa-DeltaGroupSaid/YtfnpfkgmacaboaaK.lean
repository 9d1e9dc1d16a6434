/-
  asofref20.put in plain words.
-/
import Derived.Test.YtfnpfkgmacaboaaN
import Derived.RegionTactic
import Derived.Deep.QuietTactic
namespace Go.Proofs.Ytfnpfkgmacaboaa
open Go.ChangeShapes Go.WideShapes Go.ChangeAt Go.RowKit
set_option linter.unusedVariables false
set_option linter.unusedSimpArgs false

theorem putK_at {κ : Type} (c : κ → κ → Int) (x : κ × Int) : ∀ (L : List (κ × Int)) (i : Nat), i ≤ L.length → (∀ j y, j < i → L[j]? = some y → c y.1 x.1 < 0) → putK c L x = L.take i ++ putK c (L.drop i) x
  | L, 0, _, _ => by simp
  | [], i + 1, h, _ => by simp at h
  | y :: L, i + 1, h, hl => by
    have h0 := hl 0 y (by omega) rfl
    rw [show putK c (y :: L) x = y :: putK c L x by rw [putK, if_pos h0]]
    rw [putK_at c x L i (by simpa using h) (fun j z hj hz => hl (j + 1) z (by omega) (by simpa using hz))]
    rfl
theorem Box.put {w : World} {g : Nat} {cs : Array Value} {t : TypeId} (h : Box w g cs t) (j : Nat) (v : Value) : Box (w.setCell ⟨g, j, none⟩ v) g (cs.setIfInBounds j v) t := by
  obtain ⟨hlt, hk⟩ := Array.getElem?_eq_some_iff.1 h
  show (w.heap.modify g _)[g]? = _
  rw [Array.getElem?_eq_getElem (by rw [Array.size_modify]; exact hlt), Array.getElem_modify_self, hk]
  simp
theorem below_drewN {B : Nat} {a w : World} (h : Below B a w) (n : Nat) : Below B a (w.drewN n) := ⟨h.os, h.tape, h.output, h.size, h.block⟩
theorem Own.far {α : Type} {enc : α → List Value} {k : Nat} {e : TypeId} {w : World} {B : Nat} {v : Value} {l : List α} {p : Addr} {x : Value} (h : Own enc k e w B v l) (hp : p.block < B) : Own enc k e (w.setCell p x) B v l := by
  refine ⟨h.1, ?_⟩
  rcases h.2 with h | ⟨g, cap, cur, h1, h2, h3, h4⟩
  · exact Or.inl h
  · exact Or.inr ⟨g, cap, cur, h1, h2, (Below.heap_setCell w p x g (by omega)).trans h3, h4⟩
theorem Box.at10 {w : World} {g : Nat} {t : TypeId} {a0 a1 a2 a3 a4 a5 a6 a7 a8 a9 : Value} (h : Box w g #[a0, a1, a2, a3, a4, a5, a6, a7, a8, a9] t) : w.cell? ⟨g, 0, none⟩ = some a0 ∧ w.cell? ⟨g, 1, none⟩ = some a1 ∧ w.cell? ⟨g, 2, none⟩ = some a2 ∧ w.cell? ⟨g, 3, none⟩ = some a3 ∧ w.cell? ⟨g, 4, none⟩ = some a4 ∧ w.cell? ⟨g, 5, none⟩ = some a5 ∧ w.cell? ⟨g, 6, none⟩ = some a6 ∧ w.cell? ⟨g, 7, none⟩ = some a7 ∧ w.cell? ⟨g, 8, none⟩ = some a8 ∧ w.cell? ⟨g, 9, none⟩ = some a9 :=
  ⟨h.cell 0 _ rfl, h.cell 1 _ rfl, h.cell 2 _ rfl, h.cell 3 _ rfl, h.cell 4 _ rfl, h.cell 5 _ rfl, h.cell 6 _ rfl, h.cell 7 _ rfl, h.cell 8 _ rfl, h.cell 9 _ rfl⟩
theorem wrap64_is (n : Int) : wrap64 n = IntKind.i64.wrap n := by
  unfold wrap64 IntKind.wrap
  simp [IntKind.signed, IntKind.bits]
  split <;> omega
theorem gen_exit {R : Exit → Act → World → Prop} {x : Exit} {a : Act} {w : World} (h : ∀ W, W = w → R x a W) : R x a w := h w rfl
def Dl.withN (x : Dl) (n : Int) : Dl := { x with n := n }
/-- A list of differences of the call's own, all in order. -/
def OwnD (w : World) (B : Nat) (v : Value) (l : List Dl) : Prop := Own Dl.cells 10 41 w B v l ∧ ∀ d ∈ l, d.Ok w
theorem I64.wrap (n : Int) : I64 (IntKind.i64.wrap n) := by
  unfold I64 IntKind.wrap
  simp [IntKind.signed, IntKind.bits]
  split <;> omega
theorem putK_gt {κ : Type} {c : κ → κ → Int} {L : List (κ × Int)} {x y : κ × Int} (h1 : ¬ c y.1 x.1 < 0) (h2 : c x.1 y.1 < 0) : putK c (y :: L) x = if x.2 = 0 then y :: L else x :: y :: L := by
  rw [putK, if_neg h1, if_pos h2]
theorem putK_on {κ : Type} {c : κ → κ → Int} {L : List (κ × Int)} {x y : κ × Int} (h1 : ¬ c y.1 x.1 < 0) (h2 : ¬ c x.1 y.1 < 0) : putK c (y :: L) x = if IntKind.i64.wrap (x.2 + y.2) = 0 then L else (x.1, IntKind.i64.wrap (x.2 + y.2)) :: L := by
  rw [putK, if_neg h1, if_neg h2]
theorem put_over {l : List Dl} {x : Dl} {i : Nat} (hi : i ≤ l.length) (h : ∀ j y, j < i → l[j]? = some y → cmpD y.key x.key < 0) : putK cmpD (l.map Dl.kn) x.kn = (l.take i).map Dl.kn ++ putK cmpD ((l.drop i).map Dl.kn) x.kn := by
  rw [putK_at cmpD x.kn (l.map Dl.kn) i (by simpa using hi) ?_, List.map_take, List.map_drop]
  intro j y hj hy
  rw [List.getElem?_map] at hy
  cases hz : l[j]? with
  | none => rw [hz] at hy; cases hy
  | some z => rw [hz] at hy; cases hy; exact h j z hj hz

theorem put_end0 {l : List Dl} {x : Dl} {i : Nat} (hi : i = l.length) (h : ∀ j y, j < i → l[j]? = some y → cmpD y.key x.key < 0) (h0 : x.n = 0) : ([] ++ l.take i ++ l.drop i).map Dl.kn = putK cmpD (l.map Dl.kn) x.kn := by
  rw [put_over (by omega) h, List.drop_of_length_le (by omega)]
  simp [putK, Dl.kn, h0]
theorem put_end1 {l : List Dl} {x : Dl} {i : Nat} (hi : i = l.length) (h : ∀ j y, j < i → l[j]? = some y → cmpD y.key x.key < 0) (h0 : x.n ≠ 0) : ([] ++ l.take i ++ [x] ++ l.drop i).map Dl.kn = putK cmpD (l.map Dl.kn) x.kn := by
  rw [put_over (by omega) h, List.drop_of_length_le (by omega)]
  simp [putK, Dl.kn, h0]
theorem put_in0 {l : List Dl} {x y : Dl} {i : Nat} (hy : l[i]? = some y) (h : ∀ j y, j < i → l[j]? = some y → cmpD y.key x.key < 0) (h1 : ¬ cmpD y.key x.key < 0) (h2 : cmpD x.key y.key < 0) (h0 : x.n = 0) : ([] ++ l.take i ++ l.drop i).map Dl.kn = putK cmpD (l.map Dl.kn) x.kn := by
  obtain ⟨hi, rfl⟩ := List.getElem?_eq_some_iff.1 hy
  rw [put_over (by omega) h, List.drop_eq_getElem_cons hi, List.map_cons, putK_gt h1 h2, if_pos (show x.kn.2 = 0 from h0), List.nil_append, List.map_append, List.map_cons]
theorem put_in1 {l : List Dl} {x y : Dl} {i : Nat} (hy : l[i]? = some y) (h : ∀ j y, j < i → l[j]? = some y → cmpD y.key x.key < 0) (h1 : ¬ cmpD y.key x.key < 0) (h2 : cmpD x.key y.key < 0) (h0 : x.n ≠ 0) : ([] ++ l.take i ++ [x] ++ l.drop i).map Dl.kn = putK cmpD (l.map Dl.kn) x.kn := by
  obtain ⟨hi, rfl⟩ := List.getElem?_eq_some_iff.1 hy
  rw [put_over (by omega) h, List.drop_eq_getElem_cons hi, List.map_cons, putK_gt h1 h2, if_neg (show ¬ x.kn.2 = 0 from h0), List.nil_append, List.append_assoc, List.map_append, List.map_append, List.map_cons]
  rfl
theorem put_on0 {l : List Dl} {x y : Dl} {i : Nat} {sm : Int} (hsm : sm = IntKind.i64.wrap (x.n + y.n)) (hy : l[i]? = some y) (h : ∀ j y, j < i → l[j]? = some y → cmpD y.key x.key < 0) (h1 : ¬ cmpD y.key x.key < 0) (h2 : ¬ cmpD x.key y.key < 0) (h0 : sm = 0) : ([] ++ l.take i ++ l.drop (i + 1)).map Dl.kn = putK cmpD (l.map Dl.kn) x.kn := by
  subst hsm
  obtain ⟨hi, rfl⟩ := List.getElem?_eq_some_iff.1 hy
  rw [put_over (by omega) h, List.drop_eq_getElem_cons hi, List.map_cons, putK_on h1 h2, if_pos (show IntKind.i64.wrap (x.kn.2 + l[i].kn.2) = 0 from h0), List.nil_append, List.map_append]
theorem put_on1 {l : List Dl} {x y : Dl} {i : Nat} {sm : Int} (hsm : sm = IntKind.i64.wrap (x.n + y.n)) (hy : l[i]? = some y) (h : ∀ j y, j < i → l[j]? = some y → cmpD y.key x.key < 0) (h1 : ¬ cmpD y.key x.key < 0) (h2 : ¬ cmpD x.key y.key < 0) (h0 : sm ≠ 0) : ([] ++ l.take i ++ [x.withN sm] ++ l.drop (i + 1)).map Dl.kn = putK cmpD (l.map Dl.kn) x.kn := by
  subst hsm
  obtain ⟨hi, rfl⟩ := List.getElem?_eq_some_iff.1 hy
  rw [put_over (by omega) h, List.drop_eq_getElem_cons hi, List.map_cons, putK_on h1 h2, if_neg (show ¬ IntKind.i64.wrap (x.kn.2 + l[i].kn.2) = 0 from h0), List.nil_append, List.append_assoc, List.map_append, List.map_append]
  rfl
theorem below_box {w : World} (c1 : Array Value) (t1 : TypeId) : Below w.heap.size w (w.alloc (.cells c1 t1)) := below_here _

end Go.Proofs.Ytfnpfkgmacaboaa

/-
  asofref20.put: a consolidated list with one more difference.
-/
namespace Go.Proofs.Ytfnpfkgmacaboaa
open Go.ChangeShapes Go.WideShapes Go.ChangeAt Go.RowKit
set_option linter.unusedVariables false
set_option linter.unusedSimpArgs false

set_option maxHeartbeats 8000000 in
set_option maxRecDepth 100000 in
theorem rput_any (l : List Dl) (ao : Option Addr) (cap : Nat) (hl : l.length ≤ 100000000) (hlc : l.length ≤ cap) (hcap : ao = none → cap = 0) (x : Dl) (w : World) (h : DlsAt w ao l) (hx : x.Ok w) :
    Calls Try.prog 33 #[.slice ao l.length cap, x.val] w fun e w' => ∃ v l', e = .returned v ∧ OwnD w' w.heap.size v l' ∧ l'.length ≤ l.length + 1 ∧ l'.map Dl.kn = putK cmpD (l.map Dl.kn) x.kn ∧ Below w.heap.size w w' := by
  have H := Lib.hid h.1
  have HOK := Lib.hid h.2
  have HXO := Lib.hid hx
  have HC := Lib.hid hcap
  have HLess := Lib.hid (fun a b w' => rless_any a b w')
  clear h hcap hx
  dsimp only [Dl.val]
  go_enter Try.func33, Try.ntmps33
  go_wp2_with fail
  refine wp_gen (fun W hW => ?_)
  have HW : Hid (Below w.heap.size w W) := by rw [hW]; exact below_here _
  have HT : Hid (Box W w.heap.size #[Value.string x.r.src, Value.int .i64 x.r.seq, Value.string x.r.tb, Value.string x.r.ky, Value.int .i64 x.r.ev, Value.slice x.r.fa x.r.vs.length x.r.fc, Value.int .i64 x.r.no, Value.int .i64 x.r.tk, Value.int .i64 x.tick, Value.int .i64 x.n] 41) := by rw [hW]; exact Box.new _ _ _
  clear hW
  go_loopw [5] (fun v wr => ∃ i : Nat, i ≤ l.length ∧ v = .int .i64 i ∧ Hid (∀ j y, j < i → l[j]? = some y → cmpD y.key x.key < 0) ∧ Below W.heap.size W wr) (fun v _ => l.length - (intOf v).toNat)
  case atStart => exact ⟨0, by omega, rfl, Lib.hid (fun j y hj => by omega), Below.refl _ _⟩
  case round =>
    obtain ⟨i, hi, rfl, hlow, hB⟩ := hrel
    have HB := Lib.hid hB
    have HBw := Lib.hid (HW.out.trans (hB.mono HW.out.size))
    clear hB
    by_cases hlt : i < l.length
    · obtain ⟨y, hy⟩ : ∃ y, l[i]? = some y := ⟨l[i], List.getElem?_eq_getElem hlt⟩
      obtain ⟨b, off, rfl, hrow⟩ := (H.out.kept HBw.out).some (by omega)
      obtain ⟨c0, c1, c2, c3, c4, c5, c6, c7, c8, c9⟩ := Dl.cell hrow hy
      have HY := Lib.hid hy
      have HYO : Hid (y.Ok w) := HOK.out y (List.mem_of_getElem? hy)
      clear hrow hy
      have ws1 : IntKind.i64.wrap (i : Int) = (i : Int) := IntWalk.i64_in _ (by omega)
      go_upto_region 2 with fail
      refine wp_gen (fun V hV => ?_)
      have HBV : Hid (Below w.heap.size w V) := by rw [hV]; exact HBw.out
      have HBWV : Hid (Below W.heap.size W V) := by rw [hV]; exact HB.out
      have r0 : ∀ d os, (Go.Sort.grow (redrawn V d) os).cell? ⟨b, off + i * 10, none⟩ = some (Value.string y.r.src) := fun d os => cell_regrown (by rw [hV]; exact c0) d os
      have r1 : ∀ d os, (Go.Sort.grow (redrawn V d) os).cell? ⟨b, off + i * 10 + 1, none⟩ = some (Value.int .i64 y.r.seq) := fun d os => cell_regrown (by rw [hV]; exact c1) d os
      have r2 : ∀ d os, (Go.Sort.grow (redrawn V d) os).cell? ⟨b, off + i * 10 + 2, none⟩ = some (Value.string y.r.tb) := fun d os => cell_regrown (by rw [hV]; exact c2) d os
      have r3 : ∀ d os, (Go.Sort.grow (redrawn V d) os).cell? ⟨b, off + i * 10 + 3, none⟩ = some (Value.string y.r.ky) := fun d os => cell_regrown (by rw [hV]; exact c3) d os
      have r4 : ∀ d os, (Go.Sort.grow (redrawn V d) os).cell? ⟨b, off + i * 10 + 4, none⟩ = some (Value.int .i64 y.r.ev) := fun d os => cell_regrown (by rw [hV]; exact c4) d os
      have r5 : ∀ d os, (Go.Sort.grow (redrawn V d) os).cell? ⟨b, off + i * 10 + 5, none⟩ = some (Value.slice y.r.fa y.r.vs.length y.r.fc) := fun d os => cell_regrown (by rw [hV]; exact c5) d os
      have r6 : ∀ d os, (Go.Sort.grow (redrawn V d) os).cell? ⟨b, off + i * 10 + 6, none⟩ = some (Value.int .i64 y.r.no) := fun d os => cell_regrown (by rw [hV]; exact c6) d os
      have r7 : ∀ d os, (Go.Sort.grow (redrawn V d) os).cell? ⟨b, off + i * 10 + 7, none⟩ = some (Value.int .i64 y.r.tk) := fun d os => cell_regrown (by rw [hV]; exact c7) d os
      have r8 : ∀ d os, (Go.Sort.grow (redrawn V d) os).cell? ⟨b, off + i * 10 + 8, none⟩ = some (Value.int .i64 y.tick) := fun d os => cell_regrown (by rw [hV]; exact c8) d os
      have r9 : ∀ d os, (Go.Sort.grow (redrawn V d) os).cell? ⟨b, off + i * 10 + 9, none⟩ = some (Value.int .i64 y.n) := fun d os => cell_regrown (by rw [hV]; exact c9) d os
      obtain ⟨s0, s1, s2, s3, s4, s5, s6, s7, s8, s9⟩ := (HT.out.kept HBWV.out).all10
      have HC0 := Lib.hid (fun d os => Calls.regrown_of (HLess.out y x (Go.Sort.grow (redrawn V d) os) ((HYO.out.r.kept HBV.out).kept (below_regrown V d os)) ((HXO.out.r.kept HBV.out).kept (below_regrown V d os))))
      generalize hbl : decide (cmpD y.key x.key < 0) = bl at *
      clear hV c0 c1 c2 c3 c4 c5 c6 c7 c8 c9
      refine wp_region_quiet_below (by kernel_rfl) (by kernel_rfl) ?_
      repeat (go_big_quiet_step (first | with_reducible exact HC0.out _ _))
      refine wpQuiet_nil ?_
      intro _ hw'
      obtain ⟨p, hw''⟩ := hw'
      subst hw''
      have HZ := below_regrown V p.d p.os
      generalize Go.Sort.grow (redrawn V p.d) p.os = V2 at *
      have HB2 : Hid (Below W.heap.size W V2) := HBWV.out.trans (HZ.mono HBWV.out.size)
      clear HZ HC0 r0 r1 r2 r3 r4 r5 r6 r7 r8 r9 s0 s1 s2 s3 s4 s5 s6 s7 s8 s9 HBV HBWV
      cases bl
      · have HN1 : Hid (decide (cmpD y.key x.key < 0) = false) := hbl
        clear hbl
        have hcu := fun w => run_upto elD (some ⟨b, off, none⟩) l.length cap i (by omega) w
        have HTL : Hid (i = (l.take i).length) := by show _ = _; simp; omega
        have HO1 : Hid (Own Dl.cells 10 41 (V2.alloc (.cells #[] 41)) W.heap.size (.slice (some ⟨V2.heap.size, 0, none⟩) 0 0) []) := Own.lit HB2.out.size
        have HX1 : Hid (Below W.heap.size W (V2.alloc (.cells #[] 41))) := HB2.out.alloc HB2.out.size _
        have HS1 : Hid (∀ w', Below W.heap.size W w' → LiesAt Dl.cells 10 w' (some ⟨b, off, none⟩) (l.take i)) := fun w' hb => ((H.out.kept HW.out).kept hb).take i
        have HL1 : Hid (([] : List Dl).length + (l.take i).length ≤ 1000000000) := by show _ ≤ _; simp; omega
        obtain ⟨A, hcf, hA1, hA2⟩ := run_from elD (some ⟨b, off, none⟩) l.length cap i hi
        obtain rfl := hA2 b off rfl (by omega)
        clear hA1 hA2
        have HR0 : Hid (∀ w', Below W.heap.size W w' → Lies Dl.cells 10 w' b (off + i * 10) (l.drop i)) := by
          intro w' hb
          obtain ⟨b', off', he, hr⟩ := ((H.out.kept HW.out).kept hb).some (by omega)
          injection he with he; injection he with e1 e2 e3; subst e1 e2; exact hr.drop i
        have HDL0 : Hid (l.length - i = (l.drop i).length) := by show _ = _; simp
        have HDL1 : Hid (l.length - i - 1 = (l.drop (i + 1)).length) := by show _ = _; simp; omega
        have HY0 : Hid ((l.drop i)[0]? = some y) := by show _ = _; rw [List.getElem?_drop]; exact HY.out
        have HDD : Hid ((l.drop i).drop 1 = l.drop (i + 1)) := by show _ = _; rw [List.drop_drop]
        have hq : 0 < l.length - i := by omega
        have hqc : l.length - i ≤ cap - i := by omega
        go_wp2_with (at_builtin; refine wpList_app elD encD rfl (.tmp 22) (.tmp 25) rfl rfl rfl HO1.out (HS1.out _ HX1.out) HTL.out (fun e => by cases e) HX1.out.size HL1.out ?_; intro v1 w1 ho hb; have HO2 := Lib.hid ho; have HX2 := Lib.hid (HX1.out.trans hb); clear ho hb)
        obtain ⟨c0, c1, c2, c3, c4, c5, c6, c7, c8, c9⟩ := Dl.cell (HR0.out _ HX2.out) HY0.out
        simp only [Nat.zero_mul, Nat.add_zero] at c0 c1 c2 c3 c4 c5 c6 c7 c8 c9
        generalize l.length - i = q at *
        generalize cap - i = cq at *
        generalize hof : off + i * 10 = of1 at *
        have hgt : (0 : Int) < (q : Int) := by omega
        have HC0 := Lib.hid (fun d os => Calls.regrown_of (HLess.out x y (Go.Sort.grow (redrawn w1 d) os) ((HXO.out.r.kept (HW.out.trans (HX2.out.mono HW.out.size))).kept (below_regrown w1 d os)) ((HYO.out.r.kept (HW.out.trans (HX2.out.mono HW.out.size))).kept (below_regrown w1 d os))))
        generalize hbl : decide (cmpD x.key y.key < 0) = bl at *
        have r0 : ∀ d os, (Go.Sort.grow (redrawn w1 d) os).cell? ⟨b, of1, none⟩ = some (Value.string y.r.src) := fun d os => cell_regrown c0 d os
        have r1 : ∀ d os, (Go.Sort.grow (redrawn w1 d) os).cell? ⟨b, of1 + 1, none⟩ = some (Value.int .i64 y.r.seq) := fun d os => cell_regrown c1 d os
        have r2 : ∀ d os, (Go.Sort.grow (redrawn w1 d) os).cell? ⟨b, of1 + 2, none⟩ = some (Value.string y.r.tb) := fun d os => cell_regrown c2 d os
        have r3 : ∀ d os, (Go.Sort.grow (redrawn w1 d) os).cell? ⟨b, of1 + 3, none⟩ = some (Value.string y.r.ky) := fun d os => cell_regrown c3 d os
        have r4 : ∀ d os, (Go.Sort.grow (redrawn w1 d) os).cell? ⟨b, of1 + 4, none⟩ = some (Value.int .i64 y.r.ev) := fun d os => cell_regrown c4 d os
        have r5 : ∀ d os, (Go.Sort.grow (redrawn w1 d) os).cell? ⟨b, of1 + 5, none⟩ = some (Value.slice y.r.fa y.r.vs.length y.r.fc) := fun d os => cell_regrown c5 d os
        have r6 : ∀ d os, (Go.Sort.grow (redrawn w1 d) os).cell? ⟨b, of1 + 6, none⟩ = some (Value.int .i64 y.r.no) := fun d os => cell_regrown c6 d os
        have r7 : ∀ d os, (Go.Sort.grow (redrawn w1 d) os).cell? ⟨b, of1 + 7, none⟩ = some (Value.int .i64 y.r.tk) := fun d os => cell_regrown c7 d os
        have r8 : ∀ d os, (Go.Sort.grow (redrawn w1 d) os).cell? ⟨b, of1 + 8, none⟩ = some (Value.int .i64 y.tick) := fun d os => cell_regrown c8 d os
        have r9 : ∀ d os, (Go.Sort.grow (redrawn w1 d) os).cell? ⟨b, of1 + 9, none⟩ = some (Value.int .i64 y.n) := fun d os => cell_regrown c9 d os
        obtain ⟨s0, s1, s2, s3, s4, s5, s6, s7, s8, s9⟩ := (HT.out.kept HX2.out).all10
        clear c0 c1 c2 c3 c4 c5 c6 c7 c8 c9
        refine wp_region_quiet_below (by kernel_rfl) (by kernel_rfl) ?_
        repeat (go_big_quiet_step (first | with_reducible exact HC0.out _ _))
        refine wpQuiet_nil ?_
        intro _ hw'
        obtain ⟨p, hw''⟩ := hw'
        subst hw''
        have HZ := Lib.hid (below_regrown w1 p.d p.os)
        clear HC0 r0 r1 r2 r3 r4 r5 r6 r7 r8 r9 s0 s1 s2 s3 s4 s5 s6 s7 s8 s9
        generalize Go.Sort.grow (redrawn w1 p.d) p.os = V4 at *
        have HX4 : Hid (Below W.heap.size W V4) := HX2.out.trans (HZ.out.mono HX2.out.size)
        have HO4 := Lib.hid (HO2.out.kept HZ.out)
        obtain ⟨c0, c1, c2, c3, c4, c5, c6, c7, c8, c9⟩ := Dl.cell (HR0.out _ HX4.out) HY0.out
        simp only [Nat.zero_mul, Nat.add_zero] at c0 c1 c2 c3 c4 c5 c6 c7 c8 c9
        have HB4 := Lib.hid (HT.out.kept HX4.out)
        have k0 := HB4.out.cell 0 _ rfl
        cases bl
        · have HN2 : Hid (decide (cmpD x.key y.key < 0) = false) := hbl
          have k9 := HB4.out.cell 9 _ rfl
          have f9 := HB4.out.free 9
          have HWlt : Hid (w.heap.size < W.heap.size) := HT.out.lt
          have hR := run_from elD (some ⟨b, of1, none⟩) q cq 1 (by omega)
          obtain ⟨A2, hcf2, hB1, hB2⟩ := hR
          simp only [Int.natCast_one] at hcf2
          have HA2 : Hid (A2 = none → cq - 1 = 0) := fun e => by cases hB1 e
          have HS3 : Hid (∀ w', Below w.heap.size w w' → LiesAt Dl.cells 10 w' A2 (l.drop (i + 1))) := by
            intro w' hb
            obtain ⟨b', off', he, hr⟩ := (H.out.kept hb).some (by omega)
            injection he with he; injection he with e1 e2 e3; subst e1 e2
            have hr2 := hr.drop i
            rw [hof] at hr2
            rw [← HDD.out]
            exact lies_from (Or.inr ⟨_, _, rfl, hr2⟩) (by have := HDL0.out; omega) hB2
          clear hbl hB1 hB2 k0
          go_wp2_with fail
          go_region
          have HSM : Hid (wrap64 (x.n + y.n) = IntKind.i64.wrap (x.n + y.n)) := wrap64_is _
          generalize wrap64 (x.n + y.n) = sm at *
          refine gen_exit (fun V5 h5 => ?_)
          have HXw : Hid (Below w.heap.size w V5) := by rw [h5]; exact (((HW.out.trans (HX4.out.mono HW.out.size)).setCell (Nat.le_refl _) _)).drew
          have HOw : Hid (Own Dl.cells 10 41 V5 w.heap.size v1 ([] ++ l.take i)) := by rw [h5]; exact (HO4.out.far (p := ⟨w.heap.size, 9, none⟩) HWlt.out).mono HW.out.size
          have HB5 : Hid (Box V5 w.heap.size #[Value.string x.r.src, Value.int .i64 x.r.seq, Value.string x.r.tb, Value.string x.r.ky, Value.int .i64 x.r.ev, Value.slice x.r.fa x.r.vs.length x.r.fc, Value.int .i64 x.r.no, Value.int .i64 x.r.tk, Value.int .i64 x.tick, Value.int .i64 sm] 41) := by rw [h5]; exact HB4.out.put 9 (.int .i64 sm)
          clear h5 k9 f9 c0 c1 c2 c3 c4 c5 c6 c7 c8 c9
          obtain ⟨t0, t1, t2, t3, t4, t5, t6, t7, t8, t9⟩ := HB5.out.at10
          have HOx : Hid ((x.withN sm).Ok w) := { HXO.out with n := by show I64 sm; rw [HSM.out]; exact I64.wrap _ }
          have HRm : Hid (∀ d, d ∈ l.drop (i + 1) → d ∈ l) := fun d hd => List.mem_of_mem_drop hd
          have HTm : Hid (∀ d, d ∈ l.take i → d ∈ l) := fun d hd => List.mem_of_mem_take hd
          have HLn : Hid ((l.drop (i + 1)).length ≤ 100000000 ∧ (l.drop (i + 1)).length + (l.take i).length ≤ l.length) := ⟨by have : (l.drop (i + 1)).length ≤ l.length := (by simp); omega, by simp; omega⟩
          by_cases hx0 : sm = 0
          · have hne : (sm != 0) = false := by simpa using hx0
            have HPL : Hid (([] ++ l.take i ++ l.drop (i + 1)).map Dl.kn = putK cmpD (l.map Dl.kn) x.kn) := put_on0 HSM.out HY.out hlow.out (of_decide_eq_false HN1.out) (of_decide_eq_false HN2.out) hx0
            have HLb : Hid (([] ++ l.take i).length + (l.drop (i + 1)).length ≤ 1000000000) := by show _ ≤ _; have := HLn.out; simp at this ⊢ <;> omega
            clear hx0
            go_wp2_with (at_builtin; refine wpList_app elD encD rfl (.tmp 58) (.tmp 59) rfl rfl rfl HOw.out (HS3.out _ HXw.out) HDL1.out HA2.out HXw.out.size HLb.out ?_; intro v5 w5 ho hb; have HO5 := Lib.hid ho; have HX5 := Lib.hid (HXw.out.trans hb); clear ho hb)
            go_ret
            have HBF := HX5.out
            refine ⟨_, _, rfl, ⟨HO5.out, fun d hd => ?_⟩, ?_, HPL.out, HBF⟩
            · simp only [List.nil_append, List.mem_append] at hd
              exact (HOK.out d (hd.elim (HTm.out d) (HRm.out d))).kept HBF
            · have := HLn.out.2; simp at this ⊢ <;> omega
          · have hne : (sm != 0) = true := by simpa using hx0
            have HPL : Hid (([] ++ l.take i ++ [(x.withN sm)] ++ l.drop (i + 1)).map Dl.kn = putK cmpD (l.map Dl.kn) x.kn) := put_on1 HSM.out HY.out hlow.out (of_decide_eq_false HN1.out) (of_decide_eq_false HN2.out) hx0
            have HLa : Hid (([] ++ l.take i).length + [(x.withN sm)].length ≤ 1000000000) := by show _ ≤ _; have := HLn.out; simp at this ⊢ <;> omega
            have HLb : Hid (([] ++ l.take i ++ [(x.withN sm)]).length + (l.drop (i + 1)).length ≤ 1000000000) := by show _ ≤ _; have := HLn.out; simp at this ⊢ <;> omega
            have HO6 : Hid (Own Dl.cells 10 41 (V5.alloc (.cells (Dl.cells (x.withN sm)).toArray 41)) w.heap.size v1 ([] ++ l.take i)) := HOw.out.kept (below_here _)
            have HX6 : Hid (Below w.heap.size w (V5.alloc (.cells (Dl.cells (x.withN sm)).toArray 41))) := HXw.out.alloc HXw.out.size _
            have HS6 : Hid (LiesAt Dl.cells 10 (V5.alloc (.cells (Dl.cells (x.withN sm)).toArray 41)) (some ⟨V5.heap.size, 0, none⟩) [(x.withN sm)]) := lies_one _ _ encD
            clear hx0
            go_wp2_with (at_builtin; first | (refine wpList_app elD encD rfl (.tmp 54) (.tmp 56) rfl rfl rfl HO6.out HS6.out rfl (fun e => by cases e) HX6.out.size HLa.out ?_; intro v5 w5 ho hb; have HO5 := Lib.hid ho; have HX5 := Lib.hid (HX6.out.trans hb); clear ho hb) | (refine wpList_app elD encD rfl (.tmp 58) (.tmp 59) rfl rfl rfl HO5.out (HS3.out _ HX5.out) HDL1.out HA2.out HX5.out.size HLb.out ?_; intro v7 w7 ho hb; have HO7 := Lib.hid ho; have HX7 := Lib.hid (HX5.out.trans hb); clear ho hb))
            go_ret
            have HBF := HX7.out
            refine ⟨_, _, rfl, ⟨HO7.out, fun d hd => ?_⟩, ?_, HPL.out, HBF⟩
            · simp only [List.nil_append, List.mem_append, List.mem_singleton] at hd
              rcases hd with (hd | hd) | hd
              · exact (HOK.out d (HTm.out d hd)).kept HBF
              · subst hd; exact HOx.out.kept HBF
              · exact (HOK.out d (HRm.out d hd)).kept HBF
            · have := HLn.out.2; simp at this ⊢ <;> omega
        · have HN2 : Hid (decide (cmpD x.key y.key < 0) = true) := hbl
          have HA : Hid ((some ⟨b, of1, none⟩ : Option Addr) = none → cq = 0) := fun e => by cases e
          have HS3 : Hid (∀ w', Below w.heap.size w w' → LiesAt Dl.cells 10 w' (some ⟨b, of1, none⟩) (l.drop i)) := by
            intro w' hb
            obtain ⟨b', off', he, hr⟩ := (H.out.kept hb).some (by omega)
            injection he with he; injection he with e1 e2 e3; subst e1 e2
            have hr2 := hr.drop i
            rw [hof] at hr2
            exact Or.inr ⟨_, _, rfl, hr2⟩
          clear hbl k0 c0 c1 c2 c3 c4 c5 c6 c7 c8 c9
          obtain ⟨t0, t1, t2, t3, t4, t5, t6, t7, t8, t9⟩ := HB4.out.at10
          have HXw : Hid (Below w.heap.size w V4) := HW.out.trans (HX4.out.mono HW.out.size)
          have HOw : Hid (Own Dl.cells 10 41 V4 w.heap.size v1 ([] ++ l.take i)) := HO4.out.mono HW.out.size
          have HOx : Hid (x.Ok w) := HXO.out
          have HRm : Hid (∀ d, d ∈ l.drop i → d ∈ l) := fun d hd => List.mem_of_mem_drop hd
          have HTm : Hid (∀ d, d ∈ l.take i → d ∈ l) := fun d hd => List.mem_of_mem_take hd
          have HLn : Hid ((l.drop i).length ≤ 100000000 ∧ (l.drop i).length + (l.take i).length ≤ l.length) := ⟨by have : (l.drop i).length ≤ l.length := (by simp); omega, by simp; omega⟩
          by_cases hx0 : x.n = 0
          · have hne : (x.n != 0) = false := by simpa using hx0
            have HPL : Hid (([] ++ l.take i ++ l.drop i).map Dl.kn = putK cmpD (l.map Dl.kn) x.kn) := put_in0 HY.out hlow.out (of_decide_eq_false HN1.out) (of_decide_eq_true HN2.out) hx0
            have HLb : Hid (([] ++ l.take i).length + (l.drop i).length ≤ 1000000000) := by show _ ≤ _; have := HLn.out; simp at this ⊢ <;> omega
            clear hx0
            go_wp2_with (at_builtin; refine wpList_app elD encD rfl (.tmp 58) (.tmp 59) rfl rfl rfl HOw.out (HS3.out _ HXw.out) HDL0.out HA.out HXw.out.size HLb.out ?_; intro v5 w5 ho hb; have HO5 := Lib.hid ho; have HX5 := Lib.hid (HXw.out.trans hb); clear ho hb)
            go_ret
            have HBF := HX5.out
            refine ⟨_, _, rfl, ⟨HO5.out, fun d hd => ?_⟩, ?_, HPL.out, HBF⟩
            · simp only [List.nil_append, List.mem_append] at hd
              exact (HOK.out d (hd.elim (HTm.out d) (HRm.out d))).kept HBF
            · have := HLn.out.2; simp at this ⊢ <;> omega
          · have hne : (x.n != 0) = true := by simpa using hx0
            have HPL : Hid (([] ++ l.take i ++ [x] ++ l.drop i).map Dl.kn = putK cmpD (l.map Dl.kn) x.kn) := put_in1 HY.out hlow.out (of_decide_eq_false HN1.out) (of_decide_eq_true HN2.out) hx0
            have HLa : Hid (([] ++ l.take i).length + [x].length ≤ 1000000000) := by show _ ≤ _; have := HLn.out; simp at this ⊢ <;> omega
            have HLb : Hid (([] ++ l.take i ++ [x]).length + (l.drop i).length ≤ 1000000000) := by show _ ≤ _; have := HLn.out; simp at this ⊢ <;> omega
            have HO6 : Hid (Own Dl.cells 10 41 (V4.alloc (.cells (Dl.cells x).toArray 41)) w.heap.size v1 ([] ++ l.take i)) := HOw.out.kept (below_here _)
            have HX6 : Hid (Below w.heap.size w (V4.alloc (.cells (Dl.cells x).toArray 41))) := HXw.out.alloc HXw.out.size _
            have HS6 : Hid (LiesAt Dl.cells 10 (V4.alloc (.cells (Dl.cells x).toArray 41)) (some ⟨V4.heap.size, 0, none⟩) [x]) := lies_one _ _ encD
            clear hx0
            go_wp2_with (at_builtin; first | (refine wpList_app elD encD rfl (.tmp 54) (.tmp 56) rfl rfl rfl HO6.out HS6.out rfl (fun e => by cases e) HX6.out.size HLa.out ?_; intro v5 w5 ho hb; have HO5 := Lib.hid ho; have HX5 := Lib.hid (HX6.out.trans hb); clear ho hb) | (refine wpList_app elD encD rfl (.tmp 58) (.tmp 59) rfl rfl rfl HO5.out (HS3.out _ HX5.out) HDL0.out HA.out HX5.out.size HLb.out ?_; intro v7 w7 ho hb; have HO7 := Lib.hid ho; have HX7 := Lib.hid (HX5.out.trans hb); clear ho hb))
            go_ret
            have HBF := HX7.out
            refine ⟨_, _, rfl, ⟨HO7.out, fun d hd => ?_⟩, ?_, HPL.out, HBF⟩
            · simp only [List.nil_append, List.mem_append, List.mem_singleton] at hd
              rcases hd with (hd | hd) | hd
              · exact (HOK.out d (HTm.out d hd)).kept HBF
              · subst hd; exact HOx.out.kept HBF
              · exact (HOK.out d (HRm.out d hd)).kept HBF
            · have := HLn.out.2; simp at this ⊢ <;> omega
      · have HL : Hid (∀ j z, j < i + 1 → l[j]? = some z → cmpD z.key x.key < 0) := by
          intro j z hj hz
          by_cases e : j = i
          · subst e; rw [HY.out] at hz; injection hz with hz; subst hz; exact of_decide_eq_true hbl
          · exact hlow.out j z (by omega) hz
        clear hbl
        go_wp2_with fail
        go_roundw
        case rel => exact ⟨i + 1, by omega, by go_num, HL, HB2.out⟩
        case measure => simp [intOf]; omega
    · have HIE : Hid (i = l.length) := by show _ = _; omega
      go_wp2_with fail
      go_quiet (fail)
      generalize hX : wr.drewN nq = V2
      have HB2 : Hid (Below W.heap.size W V2) := by rw [← hX]; exact below_drewN HB.out _
      clear hX
      have hcu := fun w => run_upto elD ao l.length cap i (by omega) w
      have HTL : Hid (i = (l.take i).length) := by show _ = _; simp; omega
      have HO1 : Hid (Own Dl.cells 10 41 (V2.alloc (.cells #[] 41)) W.heap.size (.slice (some ⟨V2.heap.size, 0, none⟩) 0 0) []) := Own.lit HB2.out.size
      have HX1 : Hid (Below W.heap.size W (V2.alloc (.cells #[] 41))) := HB2.out.alloc HB2.out.size _
      have HS1 : Hid (∀ w', Below W.heap.size W w' → LiesAt Dl.cells 10 w' ao (l.take i)) := fun w' hb => ((H.out.kept HW.out).kept hb).take i
      have HL1 : Hid (([] : List Dl).length + (l.take i).length ≤ 1000000000) := by show _ ≤ _; simp; omega
      obtain ⟨A, hcf, hA1, hA2⟩ := run_from elD ao l.length cap i hi
      have HA : Hid (A = none → cap - i = 0) := fun h => by have := HC.out (hA1 h); omega
      have HDL0 : Hid (l.length - i = (l.drop i).length) := by show _ = _; simp
      have HS3 : Hid (∀ w', Below w.heap.size w w' → LiesAt Dl.cells 10 w' A (l.drop i)) := fun w' hb => lies_from (H.out.kept hb) hlc hA2
      clear hA1 hA2
      have hq : l.length - i = 0 := by omega
      generalize l.length - i = q at *
      subst hq
      generalize cap - i = cq at *
      go_wp2_with (at_builtin; refine wpList_app elD encD rfl (.tmp 22) (.tmp 25) rfl rfl rfl HO1.out (HS1.out _ HX1.out) HTL.out HC.out HX1.out.size HL1.out ?_; intro v1 w1 ho hb; have HO2 := Lib.hid ho; have HX2 := Lib.hid (HX1.out.trans hb); clear ho hb)
      go_quiet (fail)
      generalize hX : w1.drewN nq = V4
      have HX4 : Hid (Below W.heap.size W V4) := by rw [← hX]; exact below_drewN HX2.out _
      have HO4 : Hid (Own Dl.cells 10 41 V4 W.heap.size v1 ([] ++ l.take i)) := by rw [← hX]; exact HO2.out
      clear hX
      obtain ⟨t0, t1, t2, t3, t4, t5, t6, t7, t8, t9⟩ := (HT.out.kept HX4.out).at10
      have HXw : Hid (Below w.heap.size w V4) := HW.out.trans (HX4.out.mono HW.out.size)
      have HOw : Hid (Own Dl.cells 10 41 V4 w.heap.size v1 ([] ++ l.take i)) := HO4.out.mono HW.out.size
      have HOx : Hid (x.Ok w) := HXO.out
      have HRm : Hid (∀ d, d ∈ l.drop i → d ∈ l) := fun d hd => List.mem_of_mem_drop hd
      have HTm : Hid (∀ d, d ∈ l.take i → d ∈ l) := fun d hd => List.mem_of_mem_take hd
      have HLn : Hid ((l.drop i).length ≤ 100000000 ∧ (l.drop i).length + (l.take i).length ≤ l.length) := ⟨by have : (l.drop i).length ≤ l.length := (by simp); omega, by simp; omega⟩
      by_cases hx0 : x.n = 0
      · have hne : (x.n != 0) = false := by simpa using hx0
        have HPL : Hid (([] ++ l.take i ++ l.drop i).map Dl.kn = putK cmpD (l.map Dl.kn) x.kn) := put_end0 HIE.out hlow.out hx0
        have HLb : Hid (([] ++ l.take i).length + (l.drop i).length ≤ 1000000000) := by show _ ≤ _; have := HLn.out; simp at this ⊢ <;> omega
        clear hx0
        go_wp2_with (at_builtin; refine wpList_app elD encD rfl (.tmp 58) (.tmp 59) rfl rfl rfl HOw.out (HS3.out _ HXw.out) HDL0.out HA.out HXw.out.size HLb.out ?_; intro v5 w5 ho hb; have HO5 := Lib.hid ho; have HX5 := Lib.hid (HXw.out.trans hb); clear ho hb)
        go_ret
        have HBF := HX5.out
        refine ⟨_, _, rfl, ⟨HO5.out, fun d hd => ?_⟩, ?_, HPL.out, HBF⟩
        · simp only [List.nil_append, List.mem_append] at hd
          exact (HOK.out d (hd.elim (HTm.out d) (HRm.out d))).kept HBF
        · have := HLn.out.2; simp at this ⊢ <;> omega
      · have hne : (x.n != 0) = true := by simpa using hx0
        have HPL : Hid (([] ++ l.take i ++ [x] ++ l.drop i).map Dl.kn = putK cmpD (l.map Dl.kn) x.kn) := put_end1 HIE.out hlow.out hx0
        have HLa : Hid (([] ++ l.take i).length + [x].length ≤ 1000000000) := by show _ ≤ _; have := HLn.out; simp at this ⊢ <;> omega
        have HLb : Hid (([] ++ l.take i ++ [x]).length + (l.drop i).length ≤ 1000000000) := by show _ ≤ _; have := HLn.out; simp at this ⊢ <;> omega
        have HO6 : Hid (Own Dl.cells 10 41 (V4.alloc (.cells (Dl.cells x).toArray 41)) w.heap.size v1 ([] ++ l.take i)) := HOw.out.kept (below_here _)
        have HX6 : Hid (Below w.heap.size w (V4.alloc (.cells (Dl.cells x).toArray 41))) := HXw.out.alloc HXw.out.size _
        have HS6 : Hid (LiesAt Dl.cells 10 (V4.alloc (.cells (Dl.cells x).toArray 41)) (some ⟨V4.heap.size, 0, none⟩) [x]) := lies_one _ _ encD
        clear hx0
        go_wp2_with (at_builtin; first | (refine wpList_app elD encD rfl (.tmp 54) (.tmp 56) rfl rfl rfl HO6.out HS6.out rfl (fun e => by cases e) HX6.out.size HLa.out ?_; intro v5 w5 ho hb; have HO5 := Lib.hid ho; have HX5 := Lib.hid (HX6.out.trans hb); clear ho hb) | (refine wpList_app elD encD rfl (.tmp 58) (.tmp 59) rfl rfl rfl HO5.out (HS3.out _ HX5.out) HDL0.out HA.out HX5.out.size HLb.out ?_; intro v7 w7 ho hb; have HO7 := Lib.hid ho; have HX7 := Lib.hid (HX5.out.trans hb); clear ho hb))
        go_ret
        have HBF := HX7.out
        refine ⟨_, _, rfl, ⟨HO7.out, fun d hd => ?_⟩, ?_, HPL.out, HBF⟩
        · simp only [List.nil_append, List.mem_append, List.mem_singleton] at hd
          rcases hd with (hd | hd) | hd
          · exact (HOK.out d (HTm.out d hd)).kept HBF
          · subst hd; exact HOx.out.kept HBF
          · exact (HOK.out d (HRm.out d hd)).kept HBF
        · have := HLn.out.2; simp at this ⊢ <;> omega
end Go.Proofs.Ytfnpfkgmacaboaa
