/-
  timeline.fold, with the function that timeline.Union hands it, returns the union of intervals that are in order.
-/
import Derived.Test.YtolkmfpbgheaaaaQ
import Derived.Deep.RegionHeld3
import Derived.Laws.OwnMore
import Derived.Deep.DrawnRows
import Derived.Outline
namespace Go.Proofs.Ytolkmfpbgheaaaa
open Go.ChangeShapes Go.WideShapes Go.ChangeAt Go.RowKit
set_option linter.unusedVariables false
set_option linter.unusedSimpArgs false

theorem keepA {w0 w : World} (h : Below w0.heap.size w0 w) (o : Obj) : Below w0.heap.size w0 (w.alloc o) := h.alloc h.size o
theorem SlotsAt.some {w : World} {ao : Option Addr} {l : List Iv} (h : SlotsAt w ao l) (hl : 0 < l.length) : ∃ b off, ao = Option.some ⟨b, off, none⟩ ∧ RowAt w b off l := by
  rcases h with rfl | h
  · simp at hl
  · exact h
theorem RowAt.of_own {w : World} {g : Nat} {cur : Array Value} {l : List Iv} (h3 : w.heap[g]? = Option.some (.cells cur 23 (0, 0))) (h7 : cur.toList.take (ivCells l).length = ivCells l) : ∀ j v, (ivCells l)[j]? = Option.some v → w.cell? ⟨g, j, none⟩ = Option.some v := by
  intro j u hj
  rw [cell_of_row w g _ cur 23 _ h3]
  rw [← h7, List.getElem?_take] at hj
  split at hj
  · simpa using hj
  · cases hj
theorem heap_setCell_same (w : World) (g o : Nat) (cur : Array Value) (v : Value) (h : w.heap[g]? = Option.some (.cells cur 23 (0, 0))) : (w.setCell ⟨g, o, none⟩ v).heap[g]? = Option.some (.cells (cur.setIfInBounds o v) 23 (0, 0)) := by
  obtain ⟨hlt, hk⟩ := Array.getElem?_eq_some_iff.1 h
  show (w.heap.modify g _)[g]? = _
  rw [Array.getElem?_eq_getElem (by rw [Array.size_modify]; exact hlt), Array.getElem_modify_self, hk]
  simp
/-- A block of the call's own that holds an interval. -/
def Two (w : World) (g : Nat) (x y : Value) : Prop := w.heap[g]? = Option.some (.cells #[x, y] 23 (0, 0))
theorem Two.lt {w : World} {g : Nat} {x y : Value} (h : Two w g x y) : g < w.heap.size := (Array.getElem?_eq_some_iff.1 h).1
theorem Two.all {w : World} {g : Nat} {x y : Value} (h : Two w g x y) : w.cell? ⟨g, 0, none⟩ = Option.some x ∧ w.cell? ⟨g, 1, none⟩ = Option.some y ∧ w.frozen? ⟨g, 0, none⟩ = false ∧ w.frozen? ⟨g, 1, none⟩ = false := by
  unfold Two at h
  refine ⟨?_, ?_, ?_, ?_⟩ <;> simp [World.cell?, World.frozen?, h]
theorem Two.new (w : World) (x y : Value) : Two (w.alloc (.cells #[x, y] 23)) w.heap.size x y := heap_alloc_new w _
theorem Two.kept {w w' : World} {g : Nat} {x y : Value} (h : Two w g x y) (hb : Below w.heap.size w w') : Two w' g x y := (hb.block g h.lt).trans h
theorem Two.below {w w' : World} {B g : Nat} {x y : Value} (h : Two w g x y) (hg : g < B) (hb : Below B w w') : Two w' g x y := (hb.block g hg).trans h

/-- The last interval of a list of the call's own. -/
theorem OwnIv.last {w : World} {B : Nat} {a1 : Option Addr} {n cc : Nat} {a : List Iv} {y : Iv} (h : OwnIv w B (.slice a1 n cc) (a ++ [y])) : ∃ g, a1 = Option.some ⟨g, 0, none⟩ ∧ n = a.length + 1 ∧ B ≤ g ∧ n ≤ cc ∧
    w.cell? ⟨g, a.length * 2, none⟩ = Option.some (.int .i64 y.1) ∧ w.cell? ⟨g, a.length * 2 + 1, none⟩ = Option.some (.int .i64 y.2) ∧ w.frozen? ⟨g, a.length * 2, none⟩ = false ∧ w.frozen? ⟨g, a.length * 2 + 1, none⟩ = false := by
  rcases h.2 with ⟨h1, h2⟩ | ⟨g, cap, cur, h1, h2, h3, h4, h5, h6, h7⟩
  · simp at h2
  · injection h1 with e1 e2 e3
    subst e1 e2 e3
    obtain ⟨q1, q2⟩ := ivCells_get (a ++ [y]) a.length y (by simp)
    have hr := fun j v hj => RowAt.of_own (w := w) (g := g) (cur := cur) h3 (by rw [ivCells_length]; exact h7) j v hj
    refine ⟨g, rfl, by simp, h2, h4, ?_, ?_, ?_, ?_⟩
    · exact hr _ _ q1
    · exact hr _ _ q2
    · simp [World.frozen?, h3]
    · simp [World.frozen?, h3]
theorem OwnIv.setLast {w : World} {B g n cc : Nat} {a : List Iv} {y : Iv} (h : OwnIv w B (.slice (Option.some ⟨g, 0, none⟩) n cc) (a ++ [y])) (z1 z2 : Int) :
    OwnIv ((w.setCell ⟨g, a.length * 2, none⟩ (.int .i64 z1)).setCell ⟨g, a.length * 2 + 1, none⟩ (.int .i64 z2)) B (.slice (Option.some ⟨g, 0, none⟩) n cc) (a ++ [(z1, z2)]) := by
  refine ⟨by rw [ivCells_length], ?_⟩
  rcases h.2 with ⟨h1, h2⟩ | ⟨g', cap, cur, h1, h2, h3, h4, h5, h6, h7⟩
  · simp at h2
  · injection h1 with e1 e2 e3
    injection e1 with e1
    injection e1 with e1 _ _
    subst e1 e2 e3
    have hs : a.length * 2 + 2 ≤ cur.size := by simp at h4; omega
    refine Or.inr ⟨g, cc, (cur.setIfInBounds (a.length * 2) (.int .i64 z1)).setIfInBounds (a.length * 2 + 1) (.int .i64 z2), by simp, h2, ?_, by simpa using h4, h5, by simp; omega, ?_⟩
    · rw [heap_setCell_same _ _ _ _ _ (heap_setCell_same _ _ _ _ _ h3)]
    · apply List.ext_getElem?
      intro j
      rw [ivCells_append, List.length_append] at *
      simp only [ivCells_one, List.length_singleton] at *
      have hl := ivCells_length a
      by_cases hj : j < a.length * 2
      · have := congrArg (fun l : List Value => l[j]?) h7
        simp only [List.getElem?_append_left (show j < (ivCells a).length by omega)] at this ⊢
        rw [← this, List.getElem?_take_of_lt (by omega), List.getElem?_take_of_lt (by omega)]
        simp only [Array.getElem?_toList]
        rw [Array.getElem?_setIfInBounds_ne (by omega), Array.getElem?_setIfInBounds_ne (by omega)]
      · rw [List.getElem?_append_right (by omega), hl]
        by_cases e0 : j = a.length * 2
        · subst e0
          rw [List.getElem?_take_of_lt (by omega), Array.getElem?_toList, Array.getElem?_setIfInBounds_ne (by omega), Array.getElem?_setIfInBounds_self_of_lt (by omega)]
          simp
        · by_cases e1 : j = a.length * 2 + 1
          · subst e1
            rw [List.getElem?_take_of_lt (by omega), Array.getElem?_toList, Array.getElem?_setIfInBounds_self_of_lt (by simp; omega)]
            simp
          · rw [List.getElem?_eq_none (by simp; omega), List.getElem?_eq_none (by simp; omega)]

theorem Two.put {w : World} {g : Nat} {x y : Value} (h : Two w g x y) (x' y' : Value) : Two ((w.setCell ⟨g, 0, none⟩ x').setCell ⟨g, 1, none⟩ y') g x' y' := by
  have h1 := heap_setCell_same _ g 0 _ x' h
  have h2 := heap_setCell_same _ g 1 _ y' h1
  unfold Two
  rw [h2]; rfl

/-- One interval is appended to a list of the call's own. -/
theorem wpList_app {X : World} {ops : Array Oper} {rest : List Oper} {o : Oper} {a : Act} {Q : Exit → Act → World → Prop} {B : Nat} {v : Value} {l : List Iv} {f t : Int} (hgd : o.guard = none) (s x : Operand)
    (ho : o.op = .call { callee := .builtin .append, args := #[s, x], argTypes := #[24, 24] }) (hs : a.eval s = v) (hx : a.eval x = .slice (Option.some ⟨X.heap.size, 0, none⟩) 1 1)
    (hO : OwnIv X B v l) (hB : B ≤ X.heap.size) (hl : l.length < 4398046511104)
    (h : ∀ v' w1, OwnIv w1 B v' (l ++ [(f, t)]) → Below B X w1 → wpList Try.prog ops Q rest (a.put o.dst v') w1) :
    wpList Try.prog ops Q (o :: rest) a (X.alloc (.cells #[.int .i64 f, .int .i64 t] 23)) := by
  obtain ⟨i23, hi23, hz0, hz1, hz2⟩ := info_parts info23
  refine wpList_append_own _ hgd s x 24 ho B 23 i23 _ 2 16 Try.underlying24 hi23 hz0 hz1 hz2 rfl (by decide) v _ _ hs (ownsRow_kept hO (below_here _)) ⟨X.heap.size, 0, none⟩ 1 1 [.int .i64 f, .int .i64 t] hx rfl ?_ (by simp [Value.oneCell']) (by unfold maxLen; omega) (by omega) (by simp; omega) ?_
  · intro j u hj
    rw [addr_add]
    match j, hj with
    | 0, hj => simp at hj; subst hj; simp [go_sem]
    | 1, hj => simp at hj; subst hj; simp [go_sem]
  · intro v' w1 hown hgr _
    refine h v' w1 ?_ (((Below.refl _ _).alloc hB _).grown hgr (by simp; omega) (fun g hg => (hO.lt g hg).1))
    unfold OwnIv
    rw [ivCells_append, List.length_append]; exact hown

set_option maxHeartbeats 4000000 in
set_option maxRecDepth 100000 in
theorem fold_any (p : List Iv) (ao : Option Addr) (cap : Nat) (hok : AllOk p) (hs : Sorted1 p) (hl : p.length ≤ 1099511627776) (w : World) (h : SlotsAt w ao p) :
    Calls Try.prog 30 #[.slice ao p.length cap, .func (.func 31) #[] #[]] w fun e w' => ∃ v, e = .returned v ∧ OwnIv w' w.heap.size v (unionF p) ∧ Below w.heap.size w w' := by
  have H := Lib.hid h
  have HOK := Lib.hid hok
  have HRO : Hid (∀ k, AllOk (unionF (p.take k))) := fun k => (unionF_spec (p.take k) (fun z hz => hok z (List.mem_of_mem_take hz)) (hs.sublist (List.take_sublist _ _))).2.1
  clear h hok hs
  go_enter Try.func30, Try.ntmps30
  go_wp2_with fail
  go_loopw [5, 13] (fun v i wr => ∃ (k : Nat) (v0 : Value), v0 = v ∧ i = .int .i64 k ∧ k ≤ p.length ∧ Below w.heap.size w wr ∧ OwnIv wr w.heap.size v (unionF (p.take k))) (fun _ i _ => p.length - (intOf i).toNat)
  case atStart => exact ⟨0, _, rfl, rfl, Nat.zero_le _, Below.refl _ _, OwnIv.nil _ _⟩
  case round =>
    obtain ⟨k, v, rfl, rfl, hk, hB, hO⟩ := hrel
    have HB := Lib.hid hB
    have HO := Lib.hid hO
    have hsz := hB.size
    by_cases hlt : k < p.length
    · obtain ⟨x, hx⟩ : ∃ x, p[k]? = Option.some x := ⟨p[k], List.getElem?_eq_getElem hlt⟩
      obtain ⟨b, off, rfl, hrow⟩ := (H.out.kept hB).some (by omega)
      obtain ⟨c1, c2⟩ := hrow k x hx
      have hn := unionF_succ p k x hx
      have hxo := HOK.out x (List.mem_of_getElem? hx)
      have hro := HRO.out k
      have hul : (unionF (p.take k)).length ≤ k := Nat.le_trans (unionF_length _) (by rw [List.length_take]; omega)
      generalize unionF (p.take k) = r at *
      obtain ⟨x1, x2⟩ := x
      have HN := Lib.hid hn
      have HX := Lib.hid hxo
      clear hn hxo hx hrow hB
      obtain ⟨a1, cc, rfl, hcc⟩ := own_slice hO
      rcases last_cases r with rfl | ⟨a, y, rfl⟩
      · clear hO hro
        go_upto_region 10 with fail
        refine wp_gen (fun X hX => ?_)
        have HT : Hid (Two X wr.heap.size (.int .i64 x1) (.int .i64 x2)) := by rw [hX]; exact Two.new _ _ _
        have HXO : Hid (OwnIv X w.heap.size (.slice a1 0 cc) []) := by rw [hX]; exact HO.out.kept (below_here _)
        have HXB : Hid (Below w.heap.size w X) := by rw [hX]; exact HB.out.trans ((below_here _).mono hsz)
        have HXS : Hid (w.heap.size ≤ X.heap.size) := HXB.out.size
        obtain ⟨t0, t1, -, -⟩ := HT.out.all
        clear hX
        go_wp2_with (at_builtin; refine wpList_app rfl (.tmp 38) (.tmp 40) rfl rfl rfl HXO.out HXS.out (by simp) ?_; intro v' w1 ho hb; have HO1 := Lib.hid ho; have HB1 := Lib.hid hb; clear ho hb)
        go_roundw
        case rel => exact ⟨k + 1, _, rfl, by go_num, by omega, HXB.out.trans HB1.out, by rw [HN.out, unionS_nil]; exact HO1.out⟩
        case measure => simp [intOf]; omega
      · obtain ⟨y1, y2⟩ := y
        have hyo := HO.out
        obtain ⟨g, rfl, hlen, hBg, hlc, o0, o1, of0, of1⟩ := OwnIv.last hO
        rw [hlen] at hyo hlc
        have HXO0 := Lib.hid hyo
        have HM : Hid (a.length + 1 ≤ k) := by show _ ≤ _; rw [← hlen]; exact hul
        have HJ := Lib.hid (fun (h1 : okI y1 y2 = true) w' => join_any y1 y2 x1 x2 h1 HX.out w')
        clear hO hul hyo HO
        rw [hlen]
        have HYO := Lib.hid (hro (y1, y2) (by simp))
        clear hro
        generalize hm : a.length = m at *
        have HMM := Lib.hid hm
        clear hm hlen
        have hm0 : (0 : Int) ≤ (m : Int) := by omega
        have hmk : m ≤ 1099511627776 := by have := HM.out; omega
        go_upto_region 7 with fail
        refine wp_gen (fun X hX => ?_)
        have HT : Hid (Two X wr.heap.size (.int .i64 x1) (.int .i64 x2)) := by rw [hX]; exact Two.new _ _ _
        have HXO : Hid (OwnIv X w.heap.size (.slice (some ⟨g, 0, none⟩) (m + 1) cc) (a ++ [(y1, y2)])) := by rw [hX]; exact HXO0.out.kept (below_here _)
        have HXB : Hid (Below w.heap.size w X) := by rw [hX]; exact HB.out.trans ((below_here _).mono hsz)
        have p0 : X.cell? ⟨g, m * 2, none⟩ = some (.int .i64 y1) := by rw [hX]; rw [(below_here _).cell (cells_lt o0)]; exact o0
        have p1 : X.cell? ⟨g, m * 2 + 1, none⟩ = some (.int .i64 y2) := by rw [hX]; rw [(below_here _).cell (cells_lt o1)]; exact o1
        obtain ⟨t0, t1, -, -⟩ := HT.out.all
        have HS3 : Hid (∀ w', Below X.heap.size X w' → Below X.heap.size X w' ∧ w'.cell? ⟨g, m * 2, none⟩ = some (.int .i64 y1) ∧ w'.cell? ⟨g, m * 2 + 1, none⟩ = some (.int .i64 y2) ∧ w'.cell? ⟨wr.heap.size, 0, none⟩ = some (.int .i64 x1) ∧ w'.cell? ⟨wr.heap.size, 1, none⟩ = some (.int .i64 x2)) :=
          fun w' h => ⟨h, (h.cell (cells_lt p0)).trans p0, (h.cell (cells_lt p1)).trans p1, (h.cell (cells_lt t0)).trans t0, (h.cell (cells_lt t1)).trans t1⟩
        have HBX := HB.out
        generalize wr.heap.size = bx at *
        clear hX o0 o1 of0 of1 HXO0 HBX
        have ws1 : IntKind.i64.wrap ((m : Int) + 1 - 1) = (m : Int) := by rw [show (m : Int) + 1 - 1 = m by omega]; exact IntWalk.i64_in _ (by omega)
        have ws2 : (m : Int) < (m : Int) + 1 := by omega
        have ws3 : IntKind.i64.wrap (m : Int) = (m : Int) := IntWalk.i64_in _ (by omega)
        go_cut [9, 10] (fun q okv wx => ∃ qn : Nat, q = .pointer (some ⟨qn, 0, none⟩) ∧ okv = .bool (decide (x1 ≤ y2 + 1)) ∧ Two wx qn (.int .i64 y1) (.int .i64 (max y2 x2)) ∧ Below X.heap.size X wx)
        case first =>
          go_region_held3 (fun w' => Below X.heap.size X w' ∧ w'.cell? ⟨g, m * 2, none⟩ = some (.int .i64 y1) ∧ w'.cell? ⟨g, m * 2 + 1, none⟩ = some (.int .i64 y2) ∧ w'.cell? ⟨bx, 0, none⟩ = some (.int .i64 x1) ∧ w'.cell? ⟨bx, 1, none⟩ = some (.int .i64 x2))
            (first | exact HS3.out _ ((Below.refl _ _).drew) | exact HS3.out _ (keepB (Nat.le_refl _) (And.left (by assumption)) hb) | exact HS3.out _ (keepA hB9 _) | exact HS3.out _ ((keepA (Below.refl _ _) _).drew) | exact HS3.out _ ((hB9.setCell (Nat.le_refl _) _).setCell (Nat.le_refl _) _))
            (first | (go_at_call 31; refine (HJ.out HYO.out _).mono ?_; rintro e w' ⟨rfl, hb⟩; have hB9 := keepB (Nat.le_refl _) (And.left (by assumption : Below X.heap.size X _ ∧ _)) hb; obtain ⟨hk9, hf9⟩ := bsome hb))
          · go_wp2_with fail
            go_meet
            exact ⟨w'.heap.size, rfl, rfl, Two.new w' _ _, keepA hB9 _⟩
          · have T9 : Two w' X.heap.size (.int .i64 0) (.int .i64 0) := (show Two (X.alloc (.cells #[.int .i64 0, .int .i64 0] 23)).drew X.heap.size (.int .i64 0) (.int .i64 0) from Two.new X _ _).kept hb
            go_wp2_with fail
            go_meet
            exact ⟨X.heap.size, rfl, rfl, T9.put _ _, (hB9.setCell (Nat.le_refl _) _).setCell (Nat.le_refl _) _⟩
        case rest =>
          obtain ⟨qn, rfl, rfl, hq, hBq⟩ := hcut
          have HXO2 := HXO.out.kept hBq
          have HXB2 := HXB.out.trans (hBq.mono HXB.out.size)
          obtain ⟨z0, z1, -, -⟩ := hq.all
          by_cases hc : x1 ≤ y2 + 1
          · rw [decide_eq_true hc]
            obtain ⟨g', he', hlen', hBg', -, o0, o1, of0, of1⟩ := HXO2.last
            injection he' with he'
            injection he' with he' _ _
            subst he'
            rw [HMM.out] at o0 o1 of0 of1
            have FIN : Hid (OwnIv ((wc.setCell ⟨g, m * 2, none⟩ (.int .i64 y1)).setCell ⟨g, m * 2 + 1, none⟩ (.int .i64 (max y2 x2))) w.heap.size (.slice (some ⟨g, 0, none⟩) (m + 1) cc) (unionF (p.take (k + 1))) ∧ Below w.heap.size w ((wc.setCell ⟨g, m * 2, none⟩ (.int .i64 y1)).setCell ⟨g, m * 2 + 1, none⟩ (.int .i64 (max y2 x2)))) := by
              refine ⟨?_, (HXB2.setCell hBg' _).setCell hBg' _⟩
              rw [HN.out, unionS_near _ _ _ hc]
              have := HXO2.setLast y1 (max y2 x2)
              rw [HMM.out] at this
              exact this
            clear hc HXO2 HXB2 hq hBq hBg' hlen'
            go_wp2_with fail
            go_roundw
            case rel => exact ⟨k + 1, _, rfl, by go_num, by omega, FIN.out.2, FIN.out.1⟩
            case measure => simp [intOf]; omega
          · rw [decide_eq_false hc]
            have HXO3 := Lib.hid HXO2
            have HXB3 := Lib.hid HXB2
            have HXS : Hid (w.heap.size ≤ wc.heap.size) := HXB2.size
            obtain ⟨t2, t3, -, -⟩ := (HT.out.kept hBq).all
            have HLN : Hid ((a ++ [(y1, y2)]).length < 4398046511104) := by show _ < _; rw [List.length_append, HMM.out]; simp; omega
            have HU : Hid (unionF (p.take (k + 1)) = a ++ [(y1, y2)] ++ [(x1, x2)]) := by show _ = _; rw [HN.out, unionS_far _ _ _ hc]
            clear hc HXO2 HXB2 hq hBq z0 z1
            go_wp2_with (at_builtin; refine wpList_app rfl (.tmp 38) (.tmp 40) rfl rfl rfl HXO3.out HXS.out HLN.out ?_; intro v' w1 ho hb; have HO1 := Lib.hid ho; have HB1 := Lib.hid hb; clear ho hb)
            go_roundw
            case rel => exact ⟨k + 1, _, rfl, by go_num, by omega, HXB3.out.trans HB1.out, by rw [HU.out]; exact HO1.out⟩
            case measure => simp [intOf]; omega
    · have hk2 : k = p.length := by omega
      subst hk2
      rw [List.take_length] at HO
      go_wp2_with fail
      go_ret
      exact ⟨_, rfl, HO.out, HB.out⟩
end Go.Proofs.Ytolkmfpbgheaaaa
