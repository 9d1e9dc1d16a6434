/-
  history.erased: which bases are erased.
-/
import Derived.Test.YtfnpfkgmacaboaaTD0
namespace Go.Proofs.Ytfnpfkgmacaboaa
open Go.ChangeShapes Go.WideShapes Go.ChangeAt Go.RowKit Go.Maps
set_option linter.unusedVariables false
set_option linter.unusedSimpArgs false

theorem wp_genA {P : Program} {c : Code} {Q : Exit → Act → World → Prop} {a : Act} {w : World} (h : ∀ A V, A = a → V = w → c.wp P Q A V) : c.wp P Q a w := h a w rfl rfl
theorem Abouts.same {w w' : World} {B : Nat} {T : Hdr} {a : Who → List FID} (h : Abouts w B T a) (hb : ∀ g, B ≤ g → g < w.heap.size → w'.heap[g]? = w.heap[g]?) : Abouts w' B T a :=
  ⟨fun k => (h.own k).same (fun g hg => hb g ((h.own k).lt g hg).1 ((h.own k).lt g hg).2), h.apart⟩
theorem ErAt.kept {w0 w w' : World} {s : Er} {i m : Nat} {T : Hdr} (h : ErAt w0 w s i m T) (hb : Below w.heap.size w w') : ErAt w0 w' s i m T :=
  ⟨h.ids.kept hb, h.about.kept hb, h.kinds.kept hb, h.rows.same (fun g _ hg => hb.block g hg), h.below.trans (hb.mono h.below.size), Nat.le_trans h.size hb.size⟩
theorem ErAt.next {w0 w : World} {s : Er} {i m : Nat} {T : Hdr} (h : ErAt w0 w s i m T) {x : En} (e : stepR s x = s) : ErAt w0 w (stepR s x) (i + 1) m T := by
  rw [e]
  exact ⟨h.ids, h.about.mono (Nat.le_succ _), h.kinds.mono (Nat.le_succ _), h.rows, h.below, h.size⟩
theorem ErAt.stepA {w0 w w' : World} {s : Er} {i m : Nat} {T : Hdr} (h : ErAt w0 w s i m T) {x : En} (h3 : x.kind = 3) (hc : x.ck = 1) (hx : x.tn.size ≤ 1048576)
    (ht : Tab w' keysN (w0.heap.size + 2) (i + 1) (tabV (putF (tabK s) ⟨x.tn, hx⟩ x.te) Value.string)) (hg : w.grownBy w' (some (w0.heap.size + 2))) : ErAt w0 w' (stepR s x) (i + 1) m T := by
  have e : stepR s x = { s with kinds := fun k => if k = x.tn then some x.te else s.kinds k } := if_pos ⟨h3, hc⟩
  rw [e]
  refine ⟨h.ids.grown hg (fun e => by injection e with e; omega), (h.about.grown hg (fun e => by injection e with e; omega)).mono (Nat.le_succ _), ?_, h.rows.same (fun g h1 h2 => hg.block g h2 (fun e => by injection e with e; omega)), h.below.grown hg h.below.size (fun k e => by injection e with e; omega), Nat.le_trans h.size hg.size⟩
  have e2 : tabK { s with kinds := fun k => if k = x.tn then some x.te else s.kinds k } = putF (tabK s) ⟨x.tn, hx⟩ x.te := by
    funext k
    unfold tabK putF
    show (if k.1 = x.tn then _ else _) = _
    by_cases q : k.1 = x.tn
    · rw [if_pos q, if_pos (Subtype.ext q)]
    · rw [if_neg q, if_neg (fun e => q (by rw [e]))]
  rw [e2]; exact ht
theorem tabI_put (s : Er) (y : FID) (hy : OkF y) : putF (tabI s) ⟨y, hy⟩ true = tabI { s with ids := fun k => eqF k y || s.ids k } := by
  funext k
  unfold tabI putF
  by_cases q : k.1 = y
  · rw [if_pos (Subtype.ext q)]
    show _ = if (eqF k.1 y || s.ids k.1) = true then _ else _
    rw [if_pos (by rw [eqF_iff.2 q]; rfl)]
  · rw [if_neg (fun e => q (by rw [e]))]
    show _ = if (eqF k.1 y || s.ids k.1) = true then _ else _
    have : eqF k.1 y = false := by cases e : eqF k.1 y with
      | false => rfl
      | true => exact absurd (eqF_iff.1 e) q
    rw [this]; rfl
theorem ErAt.putId {w0 w w' : World} {s : Er} {i m : Nat} {T : Hdr} (h : ErAt w0 w s i m T) {y : FID} (hy : OkF y)
    (ht : Tab w' keysF w0.heap.size (m + 1) (tabV (putF (tabI s) ⟨y, hy⟩ true) Value.bool)) (hg : w.grownBy w' (some w0.heap.size)) : ErAt w0 w' { s with ids := fun k => eqF k y || s.ids k } i (m + 1) T := by
  refine ⟨by rw [← tabI_put s y hy]; exact ht, h.about.grown hg (fun e => by injection e with e; omega), h.kinds.grown hg (fun e => by injection e with e; omega), h.rows.same (fun g h1 h2 => hg.block g h2 (fun e => by injection e with e; omega)), h.below.grown hg h.below.size (fun k e => by injection e with e; omega), Nat.le_trans h.size hg.size⟩
theorem ErAt.stepC {w0 w w' : World} {s : Er} {i m : Nat} {T : Hdr} (h : ErAt w0 w s i m T) {x : En} (h2 : x.kind = 2) (he : x.ek = 2) (hy : OkF (x.esr, x.esq))
    (ht : Tab w' keysF w0.heap.size (m + 1) (tabV (putF (tabI s) ⟨(x.esr, x.esq), hy⟩ true) Value.bool)) (hg : w.grownBy w' (some w0.heap.size)) : ErAt w0 w' (stepR s x) (i + 1) (m + 1) T := by
  have e : stepR s x = { s with ids := fun k => eqF k (x.esr, x.esq) || s.ids k } := by unfold stepR; simp [h2, he]
  rw [e]
  have h1 := h.putId hy ht hg
  exact ⟨h1.ids, h1.about.mono (Nat.le_succ _), h1.kinds.mono (Nat.le_succ _), h1.rows, h1.below, h1.size⟩
section
variable {P : Program} {kt : TypeId} {κ β : Type} [DecidableEq κ] {Z : Keyz P kt κ} {w : World} {b n : Nat} {F : κ → Option β} {mkV : β → Value} {ops : Array Oper} {rest : List Oper} {o : Oper} {a : Act} {Q : Exit → Act → World → Prop}
theorem wpList_lookS {T : κ → Option Value} (hg : o.guard = none) (m x : Operand) (t : TypeId) (hop : o.op = Op.lookup t m x false) (e : TypeId) (ht : P.underlying t = some (.map kt e)) {z : Value} (hz : (zeroValue e).run P w = .ok z w)
    (hm : a.eval m = .map (some b)) (h : Tab w Z b n T) (k : κ) (hx : a.eval x = Z.val k) (hk : Z.ok k) (v : Value) (hv : (T k).getD z = v) (hK : wpList P ops Q rest (a.put o.dst v) w) : wpList P ops Q (o :: rest) a w :=
  wpList_look hg m x t hop e ht hz hm h k hx hk (by rw [hv]; exact hK)
theorem wpList_lookV (hg : o.guard = none) (m x : Operand) (t : TypeId) (hop : o.op = Op.lookup t m x false) (e : TypeId) (ht : P.underlying t = some (.map kt e)) {z : Value} (hz : (zeroValue e).run P w = .ok z w)
    (hm : a.eval m = .map (some b)) (h : Tab w Z b n (tabV F mkV)) (k : κ) (hx : a.eval x = Z.val k) (hk : Z.ok k) (v : Value) (hv : ((F k).map mkV).getD z = v) (hK : wpList P ops Q rest (a.put o.dst v) w) : wpList P ops Q (o :: rest) a w :=
  wpList_look hg m x t hop e ht hz hm h k hx hk (by rw [show (tabV F mkV k).getD z = v from hv]; exact hK)
end
theorem Own.liesAt {α : Type} {enc : α → List Value} {k : Nat} {e : TypeId} {w : World} {B n c : Nat} {a : Option Addr} {l : List α} (hE : Enc enc k) (h : Own enc k e w B (.slice a n c) l) : LiesAt enc k w a l := by
  obtain ⟨a2, c2, hv2, -, -, hlies⟩ := h.lies hE
  injection hv2 with hv2 _ _
  rw [hv2]; exact hlies
theorem memF_snoc (l : List FID) (y k : FID) : memF (l ++ [y]) k = (memF l k || eqF y k) := by unfold memF; simp
theorem ErAt.made (w : World) : ErAt w (((w.alloc (.map #[] 0)).alloc (.map #[] 0)).alloc (.map #[] 0)) Er.none 0 0 (fun _ => none) := by
  have t1 := tab_made w keysF
  have t2 := tab_made (w.alloc (.map #[] 0)) keysW
  have t3 := tab_made ((w.alloc (.map #[] 0)).alloc (.map #[] 0)) keysN
  simp only [World.size_alloc] at t2 t3
  exact ⟨(t1.alloc _).alloc _, t2.alloc _, t3, ⟨fun k => Own.nil _ _, fun k k' g _ e => by cases e⟩, (below_two _ _).alloc (by simp; omega) _, by simp⟩
set_option maxRecDepth 100000 in
set_option maxHeartbeats 8000000 in
theorem erased_any (l : List En) (ao : Option Addr) (c : Nat) (hl : l.length ≤ 100000) (w : World) (h : EnsAt w ao l) :
    Calls Try.prog 55 #[.slice ao l.length c] w fun e w' => ∃ m T, e = .returned (.map (some w.heap.size)) ∧ ErAt w w' (erS l) l.length m T := by
  have H := Lib.hid h
  clear h
  have hmm := @run_makeMap Try.prog
  go_enter Try.func55, Try.ntmps55
  go_wp2_with fail
  have HM := Lib.hid (ErAt.made w)
  obtain ⟨N, hN⟩ : ∃ N, N = 100001 := ⟨_, rfl⟩
  have HN := Lib.hid hN
  have hlN : l.length < N := by omega
  clear hN
  clear hmm
  go_loopw [16] (fun v wr => ∃ (i m : Nat) (T : Hdr), i ≤ l.length ∧ v = .int .i64 i ∧ m ≤ i * N ∧ Hid (ErAt w wr (erS (l.take i)) i m T)) (fun v _ => l.length - (intOf v).toNat)
  case atStart => exact ⟨0, 0, _, by omega, rfl, Nat.zero_le _, HM⟩
  case round =>
    obtain ⟨i, m, T, hi, rfl, hm, HE⟩ := hrel
    by_cases hlt : i < l.length
    · obtain ⟨x, hx⟩ : ∃ x, l[i]? = some x := ⟨l[i], List.getElem?_eq_getElem hlt⟩
      obtain ⟨b, off, rfl, hrow⟩ := lies_some (H.out.1.kept HE.out.below) hx
      have HC : Hid (∀ j v, x.cells[j]? = some v → wr.cell? ⟨b, off + i * 40 + j, none⟩ = some v) := fun j v hv => hrow i x hx j v hv
      have HXO : Hid (x.Ok w) := H.out.2 x (List.mem_of_getElem? hx)
      have HF : Hid (erS (l.take (i + 1)) = stepR (erS (l.take i)) x) := by show _ = _; rw [take_snoc hx, erS_snoc]
      have HG : Hid (Box (wr.alloc (.cells x.cells.toArray 70)) wr.heap.size x.cells.toArray 70) := Box.new _ _ _
      have HEX : Hid (ErAt w (wr.alloc (.cells x.cells.toArray 70)) (erS (l.take i)) i m T) := HE.out.kept (below_here _)
      have HW : Hid (w.heap.size + 3 ≤ wr.heap.size) := HE.out.size
      have k2 := HG.out.cell 2 (.int .i64 x.kind) rfl
      have HAB : Hid (∀ k, ((erS (l.take i)).about k).length ≤ i) := fun k => Nat.le_trans (erS_about _ k) (by simp; omega)
      have HKD : Hid (∀ k v, (erS (l.take i)).kinds k = some v → v.size ≤ 1048576) := erS_kinds _ _ (fun y hy => (H.out.2 y (List.mem_of_mem_take hy)).te)
      have HOK : Hid (∀ k, ∀ y ∈ (erS (l.take i)).about k, OkF y) := erS_ok _ (fun y hy => (H.out.2 y (List.mem_of_mem_take hy)).base)
      generalize erS (l.take i) = s at *
      have him : i < Go.maxLen := by unfold maxLen; omega
      have hmm : m + N < Go.maxLen := by
        have h1 : i * N ≤ 100000 * N := Nat.mul_le_mul_right _ (by omega)
        have h2 := HN.out
        rw [h2] at h1 hm ⊢
        unfold maxLen; omega
      have HM1 : Hid (m ≤ (i + 1) * N) := Nat.le_trans hm (Nat.mul_le_mul_right _ (Nat.le_succ _))
      have HMN : Hid (m + N ≤ (i + 1) * N) := by show _ ≤ _; rw [Nat.add_mul, Nat.one_mul]; exact Nat.add_le_add_right hm _
      clear hm
      clear hrow hx HE
      by_cases h3 : x.kind = 3
      · have d3 : (x.kind == 3) = true := by simpa using h3
        have d1 : (x.kind == 1) = false := by rw [h3]; rfl
        have d2 : (x.kind == 2) = false := by rw [h3]; rfl
        have k16 := HG.out.cell 16 (.int .i64 x.ck) rfl
        by_cases hc : x.ck = 1
        · have dc : (x.ck == 1) = true := by simpa using hc
          have k17 := HG.out.cell 17 (.string x.tn) rfl
          have k18 := HG.out.cell 18 (.string x.te) rfl
          go_wp2_with (first | (refine wpList_loadE rfl 70 (.tmp 18) rfl b (off + i * 40) x.cells rfl HC.out _ Try.underlying70 rfl (by kernel_rfl) ?_) | (refine wpList_box rfl rfl 70 (.tmp 7) (.tmp 19) rfl rfl rfl x.cells rfl rfl (by kernel_rfl) x.cells_one ?_) | (refine wpList_keep rfl (.tmp 30) (.tmp 34) (.tmp 38) 126 rfl 9 Try.underlying126 rfl HEX.out.kinds him ⟨x.tn, HXO.out.tn⟩ rfl trivial x.te rfl ?_; intro w5 ht5 hg5))
          go_roundw
          case rel => exact ⟨i + 1, m, T, by omega, by go_num, HM1.out, by rw [HF.out]; exact HEX.out.stepA h3 hc HXO.out.tn ht5 hg5⟩
          case measure => simp [intOf]; omega
        · have dc : (x.ck == 1) = false := by simpa using hc
          go_wp2_with (first | (refine wpList_loadE rfl 70 (.tmp 18) rfl b (off + i * 40) x.cells rfl HC.out _ Try.underlying70 rfl (by kernel_rfl) ?_) | (refine wpList_box rfl rfl 70 (.tmp 7) (.tmp 19) rfl rfl rfl x.cells rfl rfl (by kernel_rfl) x.cells_one ?_))
          go_roundw
          case rel => exact ⟨i + 1, m, T, by omega, by go_num, HM1.out, by rw [HF.out]; exact HEX.out.next (by unfold stepR; simp [h3, hc])⟩
          case measure => simp [intOf]; omega
      · have d3 : (x.kind == 3) = false := by simpa using h3
        by_cases h1 : x.kind = 1
        · have d1 : (x.kind == 1) = true := by simpa using h1
          have d2 : (x.kind == 2) = false := by rw [h1]; rfl
          have k5 := HG.out.cell 5 (.int .i64 x.fk) rfl
          by_cases hf : x.fk = 3
          · have df : (x.fk != 3) = false := by simpa using hf
            go_wp2_with (first | (refine wpList_loadE rfl 70 (.tmp 18) rfl b (off + i * 40) x.cells rfl HC.out _ Try.underlying70 rfl (by kernel_rfl) ?_) | (refine wpList_box rfl rfl 70 (.tmp 7) (.tmp 19) rfl rfl rfl x.cells rfl rfl (by kernel_rfl) x.cells_one ?_))
            go_roundw
            case rel => exact ⟨i + 1, m, T, by omega, by go_num, HM1.out, by rw [HF.out]; exact HEX.out.next (by unfold stepR; simp [h1, hf])⟩
            case measure => simp [intOf]; omega
          · have df : (x.fk != 3) = true := by simpa using hf
            have k7 := HG.out.cell 7 (.string x.tb) rfl
            have k8 := HG.out.cell 8 (.string x.ky) rfl
            obtain ⟨who, hwho⟩ : ∃ who, who = whoF s x := ⟨_, rfl⟩
            have HWHO := Lib.hid hwho
            have HL : Hid (((tabK s ⟨x.tb, HXO.out.tb⟩).map Value.string).getD (.string ⟨#[]⟩) = .string who.1) := by
              show _ = _; rw [hwho]; unfold whoF tabK; cases s.kinds x.tb <;> rfl
            clear hwho
            go_upto_region 11 with (first | (refine wpList_loadE rfl 70 (.tmp 18) rfl b (off + i * 40) x.cells rfl HC.out _ Try.underlying70 rfl (by kernel_rfl) ?_) | (refine wpList_box rfl rfl 70 (.tmp 7) (.tmp 19) rfl rfl rfl x.cells rfl rfl (by kernel_rfl) x.cells_one ?_) | (refine wpList_lookV rfl (.tmp 49) (.tmp 52) 126 rfl 9 Try.underlying126 (Try.zeroValue9 _) rfl HEX.out.kinds ⟨x.tb, HXO.out.tb⟩ rfl trivial _ HL.out ?_))
            refine wp_genA (fun A V hA hV => ?_)
            have HEV : Hid (ErAt w V s i m T) := by rw [hV]; exact HEX.out.kept (below_here _)
            have HBG : Hid (Box V wr.heap.size x.cells.toArray 70) := by rw [hV]; exact HG.out.kept (below_here _)
            have HBH : Hid (Box V (wr.heap.size + 1) #[.string who.1, .string who.2] 128) := by
              have e : x.ky = who.2 := by rw [HWHO.out]; rfl
              rw [hV, e]; show Box _ _ _ _; have := Box.new (wr.alloc (.cells x.cells.toArray 70)) #[.string who.1, .string who.2] 128; simpa using this
            have HOW : Hid (OkW who) := by
              rw [HWHO.out]
              refine ⟨?_, HXO.out.ky⟩
              show ((s.kinds x.tb).getD ⟨#[]⟩).size ≤ 1048576
              cases e : s.kinds x.tb with
              | none => exact Nat.zero_le _
              | some v => exact HKD.out _ v e
            have hA4 : A.eval (.tmp 4) = .map (some (w.heap.size + 1)) := by rw [hA]; rfl
            have hA7 : A.eval (.tmp 7) = .pointer (some ⟨wr.heap.size, 0, none⟩) := by rw [hA]; rfl
            have hA8 : A.eval (.tmp 8) = .pointer (some ⟨wr.heap.size + 1, 0, none⟩) := by rw [hA]; rfl
            have hAs : 68 ≤ A.tmps.size := by rw [hA]; simp
            refine about_region (by exact ⟨rfl, rfl, rfl⟩) (by exact ⟨rfl, rfl, rfl⟩) (by exact ⟨rfl, rfl, rfl⟩) (by exact ⟨rfl, rfl, rfl⟩) (by exact ⟨rfl, rfl, rfl⟩) (by exact ⟨rfl, rfl, rfl⟩) (by exact ⟨rfl, rfl, rfl⟩) (by exact ⟨rfl, rfl, rfl⟩) (by exact ⟨rfl, rfl, rfl⟩) (by exact ⟨rfl, rfl, rfl⟩) (by exact ⟨rfl, rfl, rfl⟩)
              (by kernel_rfl) (by kernel_rfl) (by kernel_rfl) ⟨by kernel_rfl, by kernel_rfl⟩ (by kernel_rfl) ⟨by kernel_rfl, by kernel_rfl, by kernel_rfl⟩ (by kernel_rfl) ⟨by kernel_rfl, by kernel_rfl, by kernel_rfl⟩ (by kernel_rfl)
              hA4 hA7 hA8 hAs HEV.out him (Nat.le_trans (HAB.out who) (by omega)) HBG.out HBH.out HOW.out ?_
            intro st gs v' w5 he5
            have HE5 := Lib.hid he5
            have HST : Hid (stepR s x = { s with about := fun k => if k = who then s.about k ++ [x.base] else s.about k }) := by
              show _ = _; rw [HWHO.out]; unfold stepR; simp [h1, hf]
            subst hA
            clear he5 hV hA4 hA7 hA8 hAs
            go_wp2_with fail
            go_roundw
            case rel => exact ⟨i + 1, m, _, by omega, by go_num, HM1.out, by rw [HF.out, HST.out]; exact HE5⟩
            case measure => simp [intOf]; omega
        · have d1 : (x.kind == 1) = false := by simpa using h1
          by_cases h2 : x.kind = 2
          · have d2 : (x.kind == 2) = true := by simpa using h2
            have k11 := HG.out.cell 11 (.int .i64 x.ek) rfl
            by_cases he : x.ek = 2
            · have de : (x.ek == 2) = true := by simpa using he
              have k14 := HG.out.cell 14 (.string x.esr) rfl
              have k15 := HG.out.cell 15 (.int .i64 x.esq) rfl
              have hy : OkF (x.esr, x.esq) := ⟨HXO.out.esr, HXO.out.ints.2.2.2.2.2.2.2.2.1⟩
              go_wp2_with (first | (refine wpList_loadE rfl 70 (.tmp 18) rfl b (off + i * 40) x.cells rfl HC.out _ Try.underlying70 rfl (by kernel_rfl) ?_) | (refine wpList_box rfl rfl 70 (.tmp 7) (.tmp 19) rfl rfl rfl x.cells rfl rfl (by kernel_rfl) x.cells_one ?_) | (refine wpList_keep rfl (.tmp 78) (.tmp 81) (.const (.bool true)) 105 rfl 4 Try.underlying105 rfl HEX.out.ids (by omega) ⟨(x.esr, x.esq), hy⟩ rfl trivial true rfl ?_; intro w5 ht5 hg5))
              go_roundw
              case rel => exact ⟨i + 1, m + 1, T, by omega, by go_num, Nat.le_trans (Nat.add_le_add_left (by omega) m) HMN.out, by rw [HF.out]; exact HEX.out.stepC h2 he hy ht5 hg5⟩
              case measure => simp [intOf]; omega
            · have de : (x.ek == 2) = false := by simpa using he
              have k12 := HG.out.cell 12 (.string x.een) rfl
              have k13 := HG.out.cell 13 (.string x.eky) rfl
              have hwo : OkW (x.een, x.eky) := ⟨HXO.out.een, HXO.out.eky⟩
              obtain ⟨lst, hlst⟩ : ∃ lst, lst = s.about (x.een, x.eky) := ⟨_, rfl⟩
              have HLST := Lib.hid hlst
              have HLO : Hid (∀ y ∈ lst, OkF y) := fun y hy => HOK.out _ y (by rw [← hlst]; exact hy)
              have HLL : Hid (lst.length ≤ i) := by rw [hlst]; exact HAB.out _
              have hown : Own fidC 2 36 (wr.alloc (.cells x.cells.toArray 70)) (w.heap.size + 3) (hdrV T ⟨(x.een, x.eky), hwo⟩) lst := by rw [hlst]; exact HEX.out.rows.own ⟨(x.een, x.eky), hwo⟩
              obtain ⟨a1, c1, hv, -, -, -⟩ := hown.lies encFid
              have HV := Lib.hid hv
              have HTV : Hid ((T ⟨(x.een, x.eky), hwo⟩).getD (.slice none 0 0) = .slice a1 lst.length c1) := hv
              obtain ⟨n, hn⟩ : ∃ n, n = lst.length := ⟨_, rfl⟩
              rw [← hn] at HTV HLL HV
              have HNL := Lib.hid hn
              have hni : n ≤ i := HLL.out
              clear hlst hown hv hn
              go_wp2_with (first | (refine wpList_loadE rfl 70 (.tmp 18) rfl b (off + i * 40) x.cells rfl HC.out _ Try.underlying70 rfl (by kernel_rfl) ?_) | (refine wpList_box rfl rfl 70 (.tmp 7) (.tmp 19) rfl rfl rfl x.cells rfl rfl (by kernel_rfl) x.cells_one ?_) | (refine wpList_lookS rfl (.tmp 86) (.tmp 93) 125 rfl 23 Try.underlying125 (Try.zeroValue23 _) rfl HEX.out.about ⟨(x.een, x.eky), hwo⟩ rfl trivial _ HTV.out ?_))
              clear HC HG k2 k11 k12 k13 HAB HKD HOK
              rename World => wo
              go_loopw [96] (fun v wr => ∃ (j m' : Nat), j ≤ n ∧ v = .int .i64 j ∧ m' ≤ m + j ∧ Hid (ErAt w wr { s with ids := fun k => memF (lst.take j) k || s.ids k } i m' T)) (fun v _ => n - (intOf v).toNat)
              case atStart => exact ⟨0, m, by omega, rfl, by omega, HEX⟩
              case round =>
                obtain ⟨j, m', hj, rfl, hm', HEJ⟩ := hrel
                by_cases hjn : j < n
                · obtain ⟨y, hy⟩ : ∃ y, lst[j]? = some y := ⟨lst[j]'(by rw [← HNL.out]; exact hjn), List.getElem?_eq_getElem _⟩
                  have hown : Own fidC 2 36 wr (w.heap.size + 3) (hdrV T ⟨(x.een, x.eky), hwo⟩) lst := by rw [HLST.out]; exact HEJ.out.rows.own ⟨(x.een, x.eky), hwo⟩
                  rw [HV.out] at hown
                  have hlies := Own.liesAt encFid hown
                  obtain ⟨b2, off2, rfl, hrow2⟩ := lies_some hlies hy
                  obtain ⟨y0, y1⟩ := fid_cell hrow2 hy
                  have hyo : OkF y := HLO.out y (List.mem_of_getElem? hy)
                  have HSJ : Hid ({ s with ids := fun k => memF (lst.take (j + 1)) k || s.ids k } = { s with ids := fun k => eqF k y || (memF (lst.take j) k || s.ids k) }) := by
                    show _ = _
                    congr 1
                    funext k
                    rw [take_snoc hy, memF_snoc, Bool.or_comm (memF _ _) (eqF y k), Bool.or_assoc, eqF_comm]
                  have HEA : Hid (ErAt w (wr.alloc (.cells #[.string y.1, .int .i64 y.2] 36)) { s with ids := fun k => memF (lst.take j) k || s.ids k } i m' T) := HEJ.out.kept (below_here _)
                  have hm2 : m' < Go.maxLen := by omega
                  clear hown hlies hrow2 hy
                  go_wp2_with (first | (refine wpList_keep rfl (.tmp 100) (.tmp 101) (.const (.bool true)) 105 rfl 4 Try.underlying105 rfl HEA.out.ids hm2 ⟨y, hyo⟩ rfl trivial true rfl ?_; intro w5 ht5 hg5))
                  go_roundw
                  case rel => exact ⟨j + 1, m' + 1, by omega, by go_num, by omega, by rw [HSJ.out]; exact HEA.out.putId hyo ht5 hg5⟩
                  case measure => simp [intOf]; omega
                · obtain rfl : j = n := by omega
                  have HSX : Hid (ErAt w wr (stepR s x) (i + 1) m' T) := by
                    have e : stepR s x = { s with ids := fun k => memF (lst.take j) k || s.ids k } := by rw [HNL.out, List.take_length, HLST.out]; unfold stepR; simp [h2, he]
                    rw [e]
                    exact ⟨HEJ.out.ids, HEJ.out.about.mono (Nat.le_succ _), HEJ.out.kinds.mono (Nat.le_succ _), HEJ.out.rows, HEJ.out.below, HEJ.out.size⟩
                  have HMJ : Hid (m' ≤ (i + 1) * N) := Nat.le_trans (by omega) HMN.out
                  go_wp2_with fail
                  go_roundw
                  case rel => exact ⟨i + 1, m', T, by omega, by go_num, HMJ.out, by rw [HF.out]; exact HSX⟩
                  case measure => simp [intOf]; omega
          · have d2 : (x.kind == 2) = false := by simpa using h2
            go_wp2_with (first | (refine wpList_loadE rfl 70 (.tmp 18) rfl b (off + i * 40) x.cells rfl HC.out _ Try.underlying70 rfl (by kernel_rfl) ?_) | (refine wpList_box rfl rfl 70 (.tmp 7) (.tmp 19) rfl rfl rfl x.cells rfl rfl (by kernel_rfl) x.cells_one ?_))
            go_roundw
            case rel => exact ⟨i + 1, m, T, by omega, by go_num, HM1.out, by rw [HF.out]; exact HEX.out.next (by unfold stepR; simp [h3, h1, h2])⟩
            case measure => simp [intOf]; omega
    · obtain rfl : i = l.length := by omega
      rw [List.take_length] at HE
      go_wp2_with fail
      go_ret
      exact ⟨m, T, rfl, HE.out⟩
end Go.Proofs.Ytfnpfkgmacaboaa
