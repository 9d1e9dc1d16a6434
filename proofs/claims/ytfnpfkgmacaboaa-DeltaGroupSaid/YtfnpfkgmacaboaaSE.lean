/-
  history.bases: what is known about all bases at a tick.
-/
import Derived.Test.YtfnpfkgmacaboaaSD
import Derived.Test.YtfnpfkgmacaboaaPF
import Derived.TacticsInMore
import Derived.LoopNIn
import Derived.Sort.CutIn
import Derived.Shelf.Abstract
import Derived.Shelf.RegionOpen
namespace Go.Proofs.Ytfnpfkgmacaboaa
open Go.ChangeShapes Go.WideShapes Go.ChangeAt Go.RowKit
set_option linter.unusedVariables false
set_option linter.unusedSimpArgs false
attribute [local go_sem] Oper.semAt_some

theorem wpIn_gen {F : Fence} {n : Nat} {P : Program} {c : Code} {Q : Exit → Act → World → Prop} {a : Act} {w : World} (h : ∀ V, V = w → c.wpIn F n P Q a V) : c.wpIn F n P Q a w := h w rfl
/-- What is known about a base: was it asserted; the last entry about it. -/
abbrev Bs := Bool × En
def zeroE : En := ⟨0, 0, 0, ⟨#[]⟩, 0, 0, 0, ⟨#[]⟩, ⟨#[]⟩, 0, none, 0, [], 0, ⟨#[]⟩, ⟨#[]⟩, ⟨#[]⟩, 0, 0, ⟨#[]⟩, ⟨#[]⟩, fun _ => 0, fun _ => ⟨#[]⟩, fun _ => (none, 0, 0)⟩
def zeroB : Bs := (false, zeroE)
def Bs.cells (b : Bs) : List Value := .bool b.1 :: b.2.cells
theorem Bs.cells_one (b : Bs) : ∀ v ∈ Bs.cells b, v.oneCell' = true := fun v hv => by
  rcases List.mem_cons.1 hv with rfl | h
  · rfl
  · exact b.2.cells_one v h
abbrev bsV (b : Bs) : Value := .agg (Bs.cells b).toArray
theorem zero110 (w : World) : (zeroValue 110).run Try.prog w = .ok (bsV zeroB) w := Try.zeroValue110 w
def nextB (b : Bs) (x : En) : Bs := (b.1 || x.fk == 1, if b.2.seq < x.seq then x else b.2)
def stepB (F : FID → Option Bs) (x : En) : FID → Option Bs := if x.kind = 1 then fun k => if eqF k x.base then some (nextB ((F k).getD zeroB) x) else F k else F
def basesF (l : List En) : FID → Option Bs := l.foldl stepB (fun _ => none)
theorem basesF_snoc (l : List En) (x : En) : basesF (l ++ [x]) = stepB (basesF l) x := by unfold basesF; rw [List.foldl_append]; rfl
/-- The table of the bases. -/
def tabB (l : List En) : { k : FID // OkF k } → Option Bs := fun k => basesF l k.1
theorem tabB_skip (l : List En) (x : En) (h : x.kind ≠ 1) : tabB (l ++ [x]) = tabB l := by
  funext k; unfold tabB; rw [basesF_snoc, stepB, if_neg h]
theorem tabB_put (l : List En) (x : En) (h : x.kind = 1) (hx : OkF x.base) : tabB (l ++ [x]) = putF (tabB l) ⟨x.base, hx⟩ (nextB ((tabB l ⟨x.base, hx⟩).getD zeroB) x) := by
  funext k
  unfold putF
  show basesF (l ++ [x]) k.1 = _
  rw [basesF_snoc, stepB, if_pos h]
  by_cases e : k = ⟨x.base, hx⟩
  · rw [if_pos e]; subst e
    show (if eqF x.base x.base then _ else _) = _
    rw [if_pos (eqF_iff.2 rfl)]; rfl
  · rw [if_neg e]
    show (if eqF k.1 x.base then _ else _) = _
    rw [if_neg (fun e2 => e (Subtype.ext (eqF_iff.1 e2)))]; rfl
theorem setRow_other (w : World) {g k : Nat} (new : Array Value) (h : k ≠ g) : (w.setRow g new).heap[k]? = w.heap[k]? := by
  unfold World.setRow
  simp only [Array.getElem?_modify]
  rw [if_neg (fun e => h e.symm)]
theorem grownBy_setRow (w : World) (g : Nat) (new : Array Value) : w.grownBy (w.setRow g new) (some g) :=
  ⟨rfl, rfl, rfl, by simp [World.setRow], fun k hk hne => setRow_other w new (fun e => hne (by rw [e]))⟩
theorem cell_lt_of {w : World} {l : List En} {ao : Option Addr} (h : LiesAt En.cells 40 w ao l) {x : En} (hx : x ∈ l) {b off : Nat} (e : ao = some ⟨b, off, none⟩) : b < w.heap.size := by
  obtain ⟨i, hi⟩ := List.getElem?_of_mem hx
  obtain ⟨b', off', rfl, hr⟩ := lies_some h hi
  injection e with e
  injection e with e1
  subst e1
  exact cell_in (hr i x hi 0 _ rfl)
theorem bases_end {w w1 W Y w5 X W2 : World} {pre : List En} {x : En} {id : FID} {nb B : Bs} {bl bt : Nat} {ao : Option Addr} (hk : x.kind = 1) (hid : id = x.base) (hnb : nb = nextB B x) (hxo : OkF x.base) (hok : OkF id) (hB : B = (tabB pre ⟨id, hok⟩).getD zeroB)
    (hbx : Boxed Y (w.heap.size + 1) 107 (.map (some w.heap.size))) (ht : Tab w5 keysF w.heap.size (pre.length + 1) (tabV (putF (tabB pre) ⟨id, hok⟩ nb) bsV)) (hg : Y.grownBy w5 (some w.heap.size)) (hYw : Below w.heap.size w Y)
    (hK : ∀ k, k < W.heap.size → Y.heap[k]? = W.heap[k]?) (hs : Y.heap.size = X.heap.size) (hw : W.heap.size ≤ W2.heap.size ∧ W2.heap.size + 2 ≤ X.heap.size) (hsW : w.heap.size ≤ W.heap.size) (hS : w1.heap.size ≤ W.heap.size)
    (hbl : bl < w1.heap.size) (hbt : bt < w1.heap.size) (hg1 : w.heap.size + 1 + 1 ≤ bl) (hg2 : w.heap.size + 1 + 1 ≤ bt) (hao : ∀ b off, ao = some ⟨b, off, none⟩ → b < w.heap.size) :
    (Boxed w5 (w.heap.size + 1) 107 (.map (some w.heap.size)) ∧ Tab w5 keysF w.heap.size (pre.length + 1) (tabV (tabB (pre ++ [x])) bsV) ∧ Below w.heap.size w w5) ∧
      RoundKeeps (fun k => k = bl ∨ k = bt ∨ (k < w1.heap.size ∧ ∃ off, ao = some ⟨k, off, none⟩)) w1.heap.size W w5 := by
  subst hid
  have hall : ∀ k, k < W.heap.size → k ≠ w.heap.size → w5.heap[k]? = W.heap[k]? := fun k h1 h2 => (hg.block k (by omega) (fun e => h2 (by injection e))).trans (hK k h1)
  refine ⟨⟨hbx.kept hg (fun e => by injection e with e; omega), ?_, hYw.grown hg hYw.size (fun k e => by injection e with e; omega)⟩, fun k hk' => ?_, fun k o h1 h2 h3 => ?_⟩
  · rw [tabB_put pre x hk hok, ← hB, ← hnb]; exact ht
  · rcases hk' with rfl | rfl | ⟨h1, off, h2⟩
    · exact hall _ (by omega) (by omega)
    · exact hall _ (by omega) (by omega)
    · have := hao k off h2
      exact hall _ (by omega) (by omega)
  · exact (hall k (heap_lt h2) (by omega)).trans h2
set_option maxRecDepth 100000 in
set_option maxHeartbeats 8000000 in
theorem bases_any (l : List En) (ao : Option Addr) (c : Nat) (t : Int) (hl : l.length ≤ 1000000000) (w : World) (h : EnsAt w ao l) :
    Calls Try.prog 56 #[.slice ao l.length c, .int .i64 t] w fun e w' => ∃ b m, e = .returned (.map (some b)) ∧ Tab w' keysF b m (tabV (tabB (untl l t)) bsV) ∧ m ≤ l.length ∧ w.heap.size ≤ b ∧ Below w.heap.size w w' := by
  refine (callsIn_wide (n := 3)).1 ?_
  have H := Lib.hid h
  have HM := Lib.hid (fun w' => callsIn_wide (n := 2).2 (until_any l.length c ao t w'))
  clear h
  have hmm := @run_makeMap Try.prog
  refine callsIn_of_wp_marks Try.func56 rfl trivial ?_ rfl
  simp only [Try.ntmps56, List.size_toArray, List.length_cons, List.length_nil, Nat.reduceAdd, Nat.reduceSub, Array.replicate_succ, Array.replicate_zero, List.push_toArray, List.append_toArray, List.nil_append, List.cons_append]
  gi_wp2_with fail
  refine ⟨trivial, (HM.out _).mono ?_⟩
  rintro e w1 ⟨v, rfl, bl, bt, rfl, hbl, hbt, hg1, hg2, hb⟩
  simp only [World.size_alloc] at hg1 hg2
  have hs1 := hb.size
  simp only [World.size_alloc] at hs1
  have hb0 : Boxed ((w.alloc (.map #[] 0)).alloc (.cells #[.map (some w.heap.size)] 107)) (w.heap.size + 1) 107 (.map (some w.heap.size)) := by have := Boxed.new (w.alloc (.map #[] 0)) 107 (.map (some w.heap.size)); simpa using this
  have hbox : Boxed w1 (w.heap.size + 1) 107 (.map (some w.heap.size)) := (hb.block _ (by simp)).trans hb0
  have htab : Tab w1 keysF w.heap.size 0 (tabV (tabB []) bsV) := ((tab_made w keysF).alloc _).kept hb
  have HB1 : Hid (Below w.heap.size w w1) := keepB (Nat.le_refl _) (below_two _ _) hb
  have HBL := Lib.hid hbl.lt
  have HBT := Lib.hid hbt.lt
  have HY := Lib.hid (until_yields 2 (by omega) bl bt t l ao c hl w1 hbl hbt (H.out.1.kept HB1.out) (fun k => k = bl ∨ k = bt ∨ (k < w1.heap.size ∧ ∃ off, ao = some ⟨k, off, none⟩)) (Or.inl rfl) (Or.inr (Or.inl rfl)) ?k3 (fun k hk => by rcases hk with rfl | rfl | ⟨h1, -⟩; exact HBL.out; exact HBT.out; exact h1))
  case k3 => exact fun b off e hlt => Or.inr (Or.inr ⟨hlt, off, e⟩)
  have HLN : Hid (∀ pre x rest, untl l t = pre ++ x :: rest → pre.length < 1000000000 ∧ x ∈ l) := fun pre x rest e => by
    have e1 := congrArg List.length e
    have e2 : (untl l t).length ≤ l.length := List.length_filter_le _ _
    refine ⟨by simp at e1; omega, ?_⟩
    have : x ∈ untl l t := by rw [e]; simp
    exact (List.mem_filter.1 this).1
  clear HM hb
  gi_wp2
  refine wp_range (n := 3) (gf := 84) (lb := #[.pointer (some ⟨bl, 0, none⟩), .pointer (some ⟨bt, 0, none⟩)]) rfl (Go.Proofs.enters_of Try.func84 (by kernel_rfl) rfl) (encs := fun x : En => #[x.val]) (fun _ => rfl) (bl := bl) HBL.out (K := fun k => k = bl ∨ k = bt ∨ (k < w1.heap.size ∧ ∃ off, ao = some ⟨k, off, none⟩))
    (fun k hk => by rcases hk with rfl | rfl | ⟨h1, -⟩; exact HBL.out; exact HBT.out; exact h1) HY.out
    (fun pre W => Boxed W (w.heap.size + 1) 107 (.map (some w.heap.size)) ∧ Tab W keysF w.heap.size pre.length (tabV (tabB pre) bsV) ∧ Below w.heap.size w W) ?minds ⟨hbox, htab, HB1.out⟩
    (fun x a' W => ∃ q, w1.heap.size ≤ q ∧ Box W q x.cells.toArray 70 ∧ a' = { tmps := #[.slice ao l.length c, .int .i64 t, undef, undef, .map none, .pointer (some ⟨w.heap.size + 1, 0, none⟩), .pointer (some ⟨q, 0, none⟩), undef, undef, .map (some w.heap.size), .slice ao l.length c, .int .i64 t, .func (.func 84) #[] #[.pointer (some ⟨bl, 0, none⟩), .pointer (some ⟨bt, 0, none⟩)], x.val, undef, undef, undef, undef, undef, undef, undef, undef, undef, undef, undef, undef, undef, undef, undef, undef, undef, undef, undef, undef, undef, undef, undef, undef, undef, undef, undef, undef, undef, undef, undef, undef, undef, undef], defers := [] }) ?axm ?assign ?body ?done
  case minds =>
    rintro pre A B r ⟨hbx, ht, hbb⟩ hg hr
    have h1 : r ≠ w.heap.size := by rcases hr with rfl | ⟨hr, _⟩ <;> omega
    have h2 : r ≠ w.heap.size + 1 := by rcases hr with rfl | ⟨hr, _⟩ <;> omega
    exact ⟨hbx.kept hg (fun e => h2 (by injection e with e; exact e.symm)), ht.grown hg (fun e => h1 (by injection e with e; exact e.symm)), hbb.grown hg hbb.size (fun k e => by injection e with e; subst e; rcases hr with rfl | ⟨hr, _⟩ <;> omega)⟩
  case axm =>
    rintro x a' A B r ⟨q, hq, h2, rfl⟩ hg hr
    refine ⟨q, hq, (hg.block q (heap_lt h2) (fun e => ?_)).trans h2, rfl⟩
    injection e with e
    subst e
    rcases hr with rfl | ⟨_, o, ho', hc⟩
    · have := HBL.out; omega
    · rw [show A.heap[q]? = _ from h2] at ho'; cases ho'; cases hc
  case assign =>
    rintro lp pre x W C hS ⟨hbx, ht, hbb⟩ hC
    generalize hfr : Array.foldl _ _ _ = fr
    simp at hfr
    subst hfr
    gi_wp2_with (refine wpListIn_box rfl rfl 70 (.tmp 6) (.tmp 13) rfl rfl rfl x.cells rfl rfl (by kernel_rfl) x.cells_one ?_)
    refine hC _ _ ⟨hbx.alloc _, ht.alloc _, hbb.alloc hbb.size _⟩ ⟨fun k hk => Below.heap_alloc _ _ _ ?_, fun k o _ hk _ => (Below.heap_alloc _ _ _ (heap_lt hk)).trans hk⟩ ⟨W.heap.size, hS, Box.new _ _ _, rfl⟩
    have h3 := HBL.out
    have h4 := HBT.out
    rcases hk with rfl | rfl | ⟨h5, -⟩ <;> omega
  case done =>
    rintro D W hD ⟨hbx, ht, hbb⟩ hd
    have hc := hbx.cell
    have HT := Lib.hid ht
    have HBB := Lib.hid hbb
    have HD := Lib.hid hd
    clear ht hbb hd hbx
    gi_wp2
    refine ⟨by simp, .inl ⟨_, _, rfl, run_takeDeferred HD.out, ?_⟩⟩
    refine ⟨_, by simp [results, Try.results56, go_sem], w.heap.size, (untl l t).length, rfl, ?_, List.length_filter_le _ _, Nat.le_refl _, ?_⟩
    · exact HT.out.grown (grownBy_putObj' _ D (.deferred none)) (fun e => by injection e with e; omega)
    · exact HBB.out.grown (grownBy_putObj' _ D (.deferred none)) HBB.out.size (fun k e => by injection e with e; subst e; omega)
  case body =>
    rintro lp pre x rest a' W hxs hS ⟨hbx, ht, hbb⟩ ⟨q, hq, h2, rfl⟩
    have HXL := Lib.hid (HLN.out pre x rest hxs)
    have HXM : Hid (x ∈ l) := (HLN.out pre x rest hxs).2
    have HXO : Hid (x.Ok w) := H.out.2 x (HLN.out pre x rest hxs).2
    have hc := hbx.cell
    have HBX := Lib.hid hbx
    have HT := Lib.hid ht
    have HBB := Lib.hid hbb
    have HQ := Lib.hid h2
    clear hbx ht hbb h2 hxs
    by_cases hk : x.kind = 1
    · have k2 := HQ.out.cell 2 (.int .i64 x.kind) rfl
      have hd : (x.kind != 1) = false := by simpa using hk
      have k3 := HQ.out.cell 3 (.string x.src) rfl
      have k4 := HQ.out.cell 4 (.int .i64 x.seq) rfl
      have k5 := HQ.out.cell 5 (.int .i64 x.fk) rfl
      have k6 := HQ.out.cell 6 (.int .i64 x.ref) rfl
      have k7 := HQ.out.cell 7 (.string x.tb) rfl
      have k8 := HQ.out.cell 8 (.string x.ky) rfl
      have k9 := HQ.out.cell 9 (.int .i64 x.ev) rfl
      have k10 := HQ.out.cell 10 (.slice x.fa x.vs.length x.fc) rfl
      have HC := Lib.hid (CallsIn.inRound lp (callsIn_wide (n := 0).2 (base_any x.src x.tb x.ky x.seq x.fk x.ref x.ev x.fa x.vs.length x.fc W)))
      gi_wp2
      refine ⟨trivial, HC.out.mono ?_⟩
      rintro e W2 ⟨rfl, hb⟩
      have HB2 := Lib.hid hb
      have hc2 : W2.cell? ⟨w.heap.size + 1, 0, none⟩ = some (.map (some w.heap.size)) := cell_kept hc hb
      have HBX2 : Hid (Boxed W2 (w.heap.size + 1) 107 (.map (some w.heap.size))) := HBX.out.kept (grown_below hb) (by simp)
      have HQ2 := Lib.hid (HQ.out.kept hb)
      have hl1 : w.heap.size + 1 < W2.heap.size := HBX2.out.lt
      have hl2 : q < W2.heap.size := HQ2.out.lt
      rw [show baseF x.src x.seq x.fk x.ref = x.base from rfl]
      obtain ⟨id, hid⟩ : ∃ id, id = x.base := ⟨_, rfl⟩
      have HID := Lib.hid hid
      have HOK : Hid (OkF id) := by rw [hid]; exact HXO.out.base
      rw [← hid]
      obtain ⟨B, hB⟩ : ∃ B, B = (tabB pre ⟨id, HOK.out⟩).getD zeroB := ⟨_, rfl⟩
      have HBB' := Lib.hid hB
      have HV : Hid (((tabB pre ⟨id, HOK.out⟩).map bsV).getD (bsV zeroB) = bsV B) := by show _ = _; rw [hB]; cases tabB pre ⟨id, HOK.out⟩ <;> rfl
      have HT3 : Hid (Tab (W2.alloc (.cells #[.string id.1, .int .i64 id.2] 36)) keysF w.heap.size pre.length (tabV (tabB pre) bsV)) := (HT.out.kept hb).alloc _
      clear hid hB hb k2 k3 k4 k5 k6 k7 k8 k9 k10
      have k4 := HQ2.out.cell 4 (.int .i64 x.seq) rfl
      have k5 := HQ2.out.cell 5 (.int .i64 x.fk) rfl
      have HG : Hid (Box ((W2.alloc (.cells #[.string id.1, .int .i64 id.2] 36)).alloc (.cells (Bs.cells B).toArray 110)) (W2.heap.size + 1) (Bs.cells B).toArray 110) := by
        show Box _ _ _ _
        have := Box.new (W2.alloc (.cells #[.string id.1, .int .i64 id.2] 36)) (Bs.cells B).toArray 110; simpa using this
      have g0 := HG.out.cell 0 (.bool B.1) rfl
      have g5 := HG.out.cell 5 (.int .i64 B.2.seq) rfl
      have f0 := HG.out.free 0
      have hB1 : B.1 = true ∨ B.1 = false := by cases B.1 <;> simp
      rcases hB1 with hb1 | hb1
      all_goals
        rw [hb1] at g0
        gi_upto_region 8 with (first | (refine wpListIn_look rfl (.tmp 20) (.tmp 21) 107 rfl 110 Try.underlying107 (zero110 _) rfl HT3.out ⟨id, HOK.out⟩ rfl trivial (bsV B) HV.out ?_) | (refine wpListIn_box rfl rfl 110 (.tmp 8) (.tmp 22) rfl rfl rfl (Bs.cells B) rfl rfl (by kernel_rfl) (Bs.cells_one B) ?_))
        refine wpIn_gen (fun X hX => ?_)
        have HX2 : Hid (Below W2.heap.size W2 X) := by rw [hX]; exact below_two _ _
        have HB1' : Hid (∃ b', Box X (W2.heap.size + 1) (Bs.cells (b', B.2)).toArray 110 ∧ b' = (B.1 || x.fk == 1)) := by
          refine ⟨_, ?_, rfl⟩
          rw [hX]
          have := Box.new (W2.alloc (.cells #[.string id.1, .int .i64 id.2] 36)) (Bs.cells (B.1 || x.fk == 1, B.2)).toArray 110
          rw [hb1] at this ⊢
          simpa [Bs.cells] using this
        obtain ⟨b', hb2, hbe⟩ := HB1'.out
        have HBox := Lib.hid hb2
        have HBE := Lib.hid hbe
        have HIB : Hid (Box X W2.heap.size #[.string id.1, .int .i64 id.2] 36) := by rw [hX]; exact (Box.new W2 _ _).kept (below_here _)
        have HTX : Hid (Tab X keysF w.heap.size pre.length (tabV (tabB pre) bsV)) := by rw [hX]; exact HT3.out.alloc _
        have hcX := cell_kept hc2 HX2.out
        have HQX := Lib.hid (HQ2.out.kept HX2.out)
        have HBXX : Hid (Boxed X (w.heap.size + 1) 107 (.map (some w.heap.size))) := HBX2.out.kept (grown_below HX2.out) (by simp)
        have HWX : Hid (W.heap.size ≤ W2.heap.size ∧ W2.heap.size + 2 ≤ X.heap.size) := ⟨HB2.out.size, by rw [hX]; simp⟩
        have HKX : Hid (∀ k, k < W.heap.size → X.heap[k]? = W.heap[k]?) := fun k hk' => (HX2.out.block k (Nat.lt_of_lt_of_le hk' HWX.out.1)).trans (HB2.out.block k hk')
        have HXw : Hid (Below w.heap.size w X) := (HBB.out.trans (HB2.out.mono HBB.out.size)).trans (HX2.out.mono (Nat.le_trans HBB.out.size HWX.out.1))
        have q4 := HQX.out.cell 4 (.int .i64 x.seq) rfl
        have g5X := HBox.out.cell 5 (.int .i64 B.2.seq) rfl
        clear hX g0 g5 f0 k4 k5 hc2 HB1' HG HT3 hb2 hbe HQ2 HBX2 HC
        by_cases hs : B.2.seq < x.seq
        · have hd2 : decide (B.2.seq < x.seq) = true := decide_eq_true hs
          have HCQ : Hid (∀ j v, x.cells[j]? = some v → X.cell? ⟨q, 0 + j, none⟩ = some v) := fun j v hv => by rw [Nat.zero_add]; exact HQX.out.cell j v (by simpa using hv)
          have HSX : Hid (1 + x.cells.length = (Bs.cells (b', B.2)).toArray.size) := rfl
          gi_upto_region 10 with (first | (refine wpListIn_loadE rfl 70 (.tmp 6) rfl q 0 x.cells rfl HCQ.out _ Try.underlying70 rfl (by kernel_rfl) ?_) | (refine wpListIn_storeTail rfl 70 (.tmp 43) (.tmp 42) rfl rfl (W2.heap.size + 1) 1 110 _ x.cells rfl rfl HBox.out (by kernel_rfl) HSX.out x.cells_one ?_))
          refine wpIn_gen (fun Y hY => ?_)
          obtain ⟨nb, hnb⟩ : ∃ nb : Bs, nb = nextB B x := ⟨_, rfl⟩
          have HNB := Lib.hid hnb
          have HBoxY : Hid (Box Y (W2.heap.size + 1) (Bs.cells nb).toArray 110) := by
            have e : Bs.cells nb = (Bs.cells (b', B.2)).toArray.toList.take 1 ++ x.cells := by rw [HNB.out]; show _ :: (if B.2.seq < x.seq then x else B.2).cells = _; rw [if_pos hs, HBE.out]; rfl
            rw [hY, e]; exact HBox.out.setRow _
          have HIY : Hid (Box Y W2.heap.size #[.string id.1, .int .i64 id.2] 36) := by rw [hY]; exact (setRow_other _ _ (by omega)).trans HIB.out
          have HTY : Hid (Tab Y keysF w.heap.size pre.length (tabV (tabB pre) bsV)) := by rw [hY]; exact HTX.out.setRow (by omega) _
          have HBYY : Hid (Boxed Y (w.heap.size + 1) 107 (.map (some w.heap.size))) := by rw [hY]; exact HBXX.out.kept (grownBy_setRow _ _ _) (fun e => by injection e with e; omega)
          have HYw : Hid (Below w.heap.size w Y) := by rw [hY]; exact HXw.out.grown (grownBy_setRow _ _ _) HXw.out.size (fun k e => by injection e with e; omega)
          have HKY : Hid (∀ k, k < W.heap.size → Y.heap[k]? = W.heap[k]?) := fun k hk' => by rw [hY]; exact (setRow_other _ _ (by have := HWX.out.1; omega)).trans (HKX.out k hk')
          have HYs : Hid (Y.heap.size = X.heap.size) := by show _ = _; rw [hY]; simp [World.setRow]
          have HCY : Hid (∀ j v, (Bs.cells nb)[j]? = some v → Y.cell? ⟨W2.heap.size + 1, 0 + j, none⟩ = some v) := fun j v hv => by rw [Nat.zero_add]; exact HBoxY.out.cell j v (by simpa using hv)
          have hcY := HBYY.out.cell
          have iY0 := HIY.out.cell 0 (.string id.1) rfl
          have iY1 := HIY.out.cell 1 (.int .i64 id.2) rfl
          clear hY hnb hcX q4 g5X
          have hm : pre.length < Go.maxLen := by have := HXL.out.1; unfold maxLen; omega
          gi_wp2_with (first | (refine wpListIn_loadE rfl 110 (.tmp 8) rfl (W2.heap.size + 1) 0 (Bs.cells nb) rfl HCY.out _ Try.underlying110 rfl (by kernel_rfl) ?_) | (refine wpListIn_keep rfl (.tmp 44) (.tmp 45) (.tmp 46) 107 rfl 110 Try.underlying107 rfl HTY.out hm ⟨id, HOK.out⟩ rfl trivial nb rfl ?_; intro w5 ht5 hg5))
          exact bases_end hk HID.out HNB.out HXO.out.base HOK.out HBB'.out HBYY.out ht5 hg5 HYw.out HKY.out HYs.out HWX.out HBB.out.size hS HBL.out HBT.out hg1 hg2 (fun b off e => cell_lt_of H.out.1 HXM.out e)
        · have hd2 : decide (B.2.seq < x.seq) = false := decide_eq_false hs
          gi_upto_region 10 with fail
          refine wpIn_gen (fun Y hY => ?_)
          obtain ⟨nb, hnb⟩ : ∃ nb : Bs, nb = nextB B x := ⟨_, rfl⟩
          have HNB := Lib.hid hnb
          have HBoxY : Hid (Box Y (W2.heap.size + 1) (Bs.cells nb).toArray 110) := by
            have e : nb = (b', B.2) := by rw [HNB.out]; show (_, (if B.2.seq < x.seq then x else B.2)) = _; rw [if_neg hs, HBE.out]
            rw [hY, e]; exact HBox.out
          have HIY : Hid (Box Y W2.heap.size #[.string id.1, .int .i64 id.2] 36) := by rw [hY]; exact HIB.out
          have HTY : Hid (Tab Y keysF w.heap.size pre.length (tabV (tabB pre) bsV)) := by rw [hY]; exact HTX.out
          have HBYY : Hid (Boxed Y (w.heap.size + 1) 107 (.map (some w.heap.size))) := by rw [hY]; exact HBXX.out
          have HYw : Hid (Below w.heap.size w Y) := by rw [hY]; exact HXw.out
          have HKY : Hid (∀ k, k < W.heap.size → Y.heap[k]? = W.heap[k]?) := fun k hk' => by rw [hY]; exact HKX.out k hk'
          have HYs : Hid (Y.heap.size = X.heap.size) := by show _ = _; rw [hY]
          have HCY : Hid (∀ j v, (Bs.cells nb)[j]? = some v → Y.cell? ⟨W2.heap.size + 1, 0 + j, none⟩ = some v) := fun j v hv => by rw [Nat.zero_add]; exact HBoxY.out.cell j v (by simpa using hv)
          have hcY := HBYY.out.cell
          have iY0 := HIY.out.cell 0 (.string id.1) rfl
          have iY1 := HIY.out.cell 1 (.int .i64 id.2) rfl
          clear hY hnb hcX q4 g5X
          have hm : pre.length < Go.maxLen := by have := HXL.out.1; unfold maxLen; omega
          gi_wp2_with (first | (refine wpListIn_loadE rfl 110 (.tmp 8) rfl (W2.heap.size + 1) 0 (Bs.cells nb) rfl HCY.out _ Try.underlying110 rfl (by kernel_rfl) ?_) | (refine wpListIn_keep rfl (.tmp 44) (.tmp 45) (.tmp 46) 107 rfl 110 Try.underlying107 rfl HTY.out hm ⟨id, HOK.out⟩ rfl trivial nb rfl ?_; intro w5 ht5 hg5))
          exact bases_end hk HID.out HNB.out HXO.out.base HOK.out HBB'.out HBYY.out ht5 hg5 HYw.out HKY.out HYs.out HWX.out HBB.out.size hS HBL.out HBT.out hg1 hg2 (fun b off e => cell_lt_of H.out.1 HXM.out e)
    · have k2 := HQ.out.cell 2 (.int .i64 x.kind) rfl
      have hd : (x.kind != 1) = true := by simpa using hk
      gi_wp2
      exact ⟨⟨HBX.out, by rw [tabB_skip pre x hk]; exact HT.out.mono (by simp), HBB.out⟩, fun k _ => rfl, fun k o _ h _ => h⟩
end Go.Proofs.Ytfnpfkgmacaboaa
