/-
  Use, as the specification has it, where the weight fits.
-/
import Derived.Test.YtdbfioafcpjkpaaR
namespace Go.Proofs.Ytdbfioafcpjkpaa
open Go.ChangeShapes Go.WideShapes Go.ChangeAt Go.RowKit

/-- Slots in a row of the call's own, with whatever room behind them. -/
def PartSlots (w : World) (B : Nat) (v : Value) (l : List Sl) : Prop := ∃ vs, RepV vs l ∧ (∀ x ∈ vs, x.oneCell' = true) ∧ OwnPart w B 34 2 v l.length vs
theorem PartSlots.slots {w : World} {B : Nat} {v : Value} {l : List Sl} (h : PartSlots w B v l) : ∃ ao cap, v = .slice ao l.length cap ∧ l.length ≤ cap ∧ SlotsAt w ao l := by
  obtain ⟨vs, hr, h1, ho⟩ := h
  obtain ⟨A, c, rfl, hc, hat⟩ := ho.cells
  refine ⟨A, c, rfl, hc, ?_⟩
  by_cases hl : 0 < l.length
  · obtain ⟨g, o, rfl, -, h2⟩ := hat hl
    exact Or.inr ⟨g, o, rfl, hr.row h2⟩
  · exact Or.inl (List.eq_nil_of_length_eq_zero (by omega))
theorem PartSlots.at_ {w : World} {B : Nat} {ao : Option Addr} {n c : Nat} {l : List Sl} (h : PartSlots w B (.slice ao n c) l) : SlotsAt w ao l := by
  obtain ⟨a, c', e, -, h⟩ := h.slots
  injection e with e1
  subst e1
  exact h
theorem PartSlots.kept {w w' : World} {B : Nat} {v : Value} {l : List Sl} (h : PartSlots w B v l) (hb : Below w.heap.size w w') : PartSlots w' B v l := by
  obtain ⟨vs, hr, h1, ho⟩ := h
  exact ⟨vs, hr, h1, ho.kept hb⟩
theorem OwnPart.below {w w' : World} {B B' : Nat} {e : TypeId} {size : Nat} {v : Value} {n : Nat} {xs : List Value} (h : OwnPart w B e size v n xs) (hb : Below B' w w') (hv : ∀ b, v.ownBlock = some b → b < B') : OwnPart w' B e size v n xs := by
  refine ⟨h.1, ?_⟩
  rcases h.2 with h | ⟨g, o, cap, cur, h1, h2, h3, h4⟩
  · exact Or.inl h
  · exact Or.inr ⟨g, o, cap, cur, h1, h2, (hb.block g (hv g (by rw [h1]; rfl))).trans h3, h4⟩
theorem OwnPart.near {w : World} {B : Nat} {e : TypeId} {size : Nat} {v x : Value} {n : Nat} {xs : List Value} {p : Addr} (h : OwnPart w B e size v n xs) (hv : ∀ b, v.ownBlock = some b → b < p.block) : OwnPart (w.setCell p x) B e size v n xs := by
  refine ⟨h.1, ?_⟩
  rcases h.2 with h | ⟨g, o, cap, cur, h1, h2, h3, h4⟩
  · exact Or.inl h
  · exact Or.inr ⟨g, o, cap, cur, h1, h2, (Below.heap_setCell w p x g (Nat.ne_of_lt (hv g (by rw [h1]; rfl)))).trans h3, h4⟩
/-- What holds at each round of the specification's eviction: i slots are gone. -/
structure RefInv (w : World) (B g : Nat) (L : Int) (xs : Value) (d : List Sl) (i : Nat) (v : Value) (wr : World) : Prop where
  below : Below w.heap.size w wr
  g1 : w.heap.size + 1 < g
  high : g < B
  room : B ≤ wr.heap.size
  box : Two wr w.heap.size (.int .i64 L) xs
  ret : Two wr (w.heap.size + 1) (.int .i64 0) (.slice none 0 0)
  res : ∃ a c, Two wr g (.int .i64 L) (.slice a (d.drop i).length c) ∧ PartSlots wr (w.heap.size + 2) (.slice a (d.drop i).length c) (d.drop i) ∧ ∀ b, (Value.slice a (d.drop i).length c).ownBlock = some b → b < g
  out : OwnKeys wr B v ((d.take i).map Prod.fst)
theorem RefInv.kept {w : World} {B g : Nat} {L : Int} {xs v : Value} {d : List Sl} {i : Nat} {wr w1 : World} (h : RefInv w B g L xs d i v wr) (hb : Below wr.heap.size wr w1) : RefInv w B g L xs d i v w1 := by
  obtain ⟨a, c, T, S, hl⟩ := h.res
  exact ⟨h.below.trans (hb.mono h.below.size), h.g1, h.high, Nat.le_trans h.room hb.size, h.box.kept hb, h.ret.kept hb, ⟨a, c, T.kept hb, S.kept hb, hl⟩, h.out.kept hb⟩
theorem RefInv.grow {w : World} {B g : Nat} {L : Int} {xs v : Value} {d : List Sl} {i : Nat} {wr w1 : World} {o : Obj} (h : RefInv w B g L xs d i v wr) (hg : (wr.alloc o).grownBy w1 v.ownBlock) : Below B wr w1 :=
  ((Below.refl _ _).alloc h.room _).grown hg (by simp; have := h.room; omega) (fun g hg' => h.out.block g hg')
/-- One slot more is gone. -/
theorem RefInv.step {w : World} {B g : Nat} {L : Int} {xs v v' : Value} {d : List Sl} {i : Nat} {wr w1 : World} {x : Sl} {s : ByteArray} {a A : Option Addr} {c cA : Nat} (h : RefInv w B g L xs d i v wr) (hx : d[i]? = some x) (hs : s.toList = x.1)
    (T : Two wr g (.int .i64 L) (.slice a (d.drop i).length c)) (vs : List Value) (hr : RepV vs (d.drop i)) (h1 : ∀ u ∈ vs, u.oneCell' = true)
    (hlow : ∀ b, (Value.slice a (d.drop i).length c).ownBlock = some b → b < g)
    (ss : List ByteArray) (hss : ss.map (·.toList) = (d.take i).map Prod.fst) (hown : w1.ownsRow B 9 1 v' (((d.take i).map Prod.fst).length + 1) (ss.map .string ++ [.string s])) (hg : (wr.alloc (.cells #[.string s] 9)).grownBy w1 v.ownBlock)
    (hA : OwnPart wr (w.heap.size + 2) 34 2 (.slice A ((d.drop i).length - 1) cA) ((d.drop i).length - 1) (vs.drop (1 * 2))) (hA2 : (Value.slice A ((d.drop i).length - 1) cA).ownBlock = (Value.slice a (d.drop i).length c).ownBlock) :
    RefInv w B g L xs d (i + 1) v' (w1.setCell ⟨g, 1, none⟩ (.slice A ((d.drop i).length - 1) cA)) := by
  have hi : i < d.length := (List.getElem?_eq_some_iff.1 hx).1
  have HB : Below B wr w1 := h.grow hg
  have hgB := h.high
  have hg1 := h.g1
  have hb1 : Below w.heap.size w w1 := h.below.trans (HB.mono (by omega))
  have hO : OwnKeys w1 B v' ((d.take (i + 1)).map Prod.fst) := by
    refine ⟨ss ++ [s], ?_, ?_⟩
    · rw [List.take_add_one, hx, List.map_append, List.map_append, hss]; simp [hs]
    · have e : ((d.take (i + 1)).map Prod.fst).length = ((d.take i).map Prod.fst).length + 1 := by simp; omega
      rw [e, List.map_append]
      exact hown
  have hd : (d.drop (i + 1)).length = (d.drop i).length - 1 := by simp; omega
  have hdd : d.drop (i + 1) = (d.drop i).drop 1 := by rw [List.drop_drop]
  refine ⟨hb1.setCell (by show w.heap.size ≤ g; omega) _, h.g1, h.high, ?_, (h.box.below (by omega) HB).far (by omega), (h.ret.below (by omega) HB).far (by omega), ⟨A, cA, ?_, ⟨vs.drop (1 * 2), ?_, ?_, ?_⟩, ?_⟩, hO.far (fun e => by have := hO.block _ e; omega)⟩
  · simp; exact Nat.le_trans h.room HB.size
  · rw [hd]; exact (T.below (by omega) HB).put1 _
  · rw [hdd]; exact hr.drop 1
  · exact fun u hu => h1 u (List.mem_of_mem_drop hu)
  · rw [hd]
    exact (hA.below HB (fun b hb => by rw [hA2] at hb; have := hlow b hb; omega)).near (fun b hb => by rw [hA2] at hb; exact hlow b hb)
  · rw [hd, hA2]; exact hlow

theorem OwnKeys.same {w w' : World} {B : Nat} {v : Value} {ks : List (List UInt8)} (h : OwnKeys w B v ks) (hb : ∀ k, B ≤ k → k < w.heap.size → w'.heap[k]? = w.heap[k]?) : OwnKeys w' B v ks := by
  obtain ⟨ss, hs, ho⟩ := h
  refine ⟨ss, hs, ho.1, ?_⟩
  rcases ho.2 with h | ⟨g, cap, cur, h1, h2, h3, h4⟩
  · exact Or.inl h
  · exact Or.inr ⟨g, cap, cur, h1, h2, (hb g h2 (Array.getElem?_eq_some_iff.1 h3).1).trans h3, h4⟩

set_option maxHeartbeats 1000000 in
set_option maxRecDepth 100000 in
theorem refUse_fits (L n : Int) (l : List Sl) (hv : Valid L l) (hn : 0 ≤ n) (hL : n ≤ L) (key : ByteArray) (ao : Option Addr) (cap : Nat) (hl : l.length * 24 ≤ 140737488351232) (w : World) (h : SlotsAt w ao l) :
    Calls Try.prog 20 #[.agg #[.int .i64 L, .slice ao l.length cap], .string key, .int .i64 n] w (UseIs w L (used L key.toList n l) (gone L key.toList n l) 0) := by
  have H := Lib.hid h
  have HL := Lib.hid hl
  have HV := Lib.hid hv
  have HF := Lib.hid (hv.sub (fil_sub key.toList l))
  have L1 := hv.2.1
  have d1 : decide (n < 0) = false := by simp; omega
  have d2 : decide (L < n) = false := by simp; omega
  clear h hv hl
  go_enter Try.func20, Try.ntmps20
  go_wp2_with fail
  refine (refDrop_own L l key ao cap (by have := HL.out; omega) _ (H.out.kept ((below_here _).alloc (by simp) _))).mono ?_
  rintro e w1 ⟨a1, c1, rfl, hs1, hb⟩
  have HB1 : Below w.heap.size w w1 := ((below_here _).alloc (by simp) _).trans (hb.mono (by simp; omega))
  have T1 : Hid (Two w1 w.heap.size (.int .i64 L) (.slice ao l.length cap)) := ((Two.new w _ _).kept (below_here _)).kept hb
  have r1 : Two w1 (w.heap.size + 1) (.int .i64 0) (.slice none 0 0) := by have := (Two.new (w.alloc (.cells #[.int .i64 L, .slice ao l.length cap] 24)) (.int .i64 0) (.slice none 0 0)).kept hb; simpa using this
  have hlow : ∀ b, (Value.slice a1 (fil key.toList l).length c1).ownBlock = some b → b < w1.heap.size := by
    obtain ⟨vs, -, -, ho⟩ := hs1
    exact fun b hb => (ho.lt b hb).2
  have hps : PartSlots w1 (w.heap.size + 2) (.slice a1 (fil key.toList l).length c1) (fil key.toList l) := by
    obtain ⟨vs, q1, q2, ho⟩ := hs1
    exact ⟨vs, q1, q2, (OwnPart.of_own ho).mono (by simp)⟩
  have hgz : w.heap.size + 1 < w1.heap.size := r1.lt
  have HI : Hid (RefInv w (w1.heap.size + 1) w1.heap.size L (.slice ao l.length cap) (fil key.toList l) 0 (.slice none 0 0) (w1.alloc (.cells #[.int .i64 L, .slice a1 (fil key.toList l).length c1] 24))) :=
    ⟨HB1.alloc HB1.size _, hgz, by omega, by simp, T1.out.kept (below_here _), r1.kept (below_here _), ⟨a1, c1, Two.new _ _ _, hps.kept (below_here _), hlow⟩, [], rfl, rfl, Or.inl ⟨rfl, rfl⟩⟩
  have HU : Hid (cnt (L - n) (fil key.toList l) = 0 + cnt (L - n) ((fil key.toList l).drop 0) ∧ (fil key.toList l).length * 24 ≤ 140737488351232) := ⟨by simp, by have := HL.out; have := fil_len key.toList l; omega⟩
  have HG : Hid (used L key.toList n l = (fil key.toList l).drop (cnt (L - n) (fil key.toList l)) ++ [(key.toList, n)] ∧ gone L key.toList n l = ((fil key.toList l).take (cnt (L - n) (fil key.toList l))).map Prod.fst) := ⟨rfl, rfl⟩
  clear hb HB1 T1 r1 hs1 hlow hps H HL HV
  generalize used L key.toList n l = U at *
  generalize gone L key.toList n l = G at *
  generalize fil key.toList l = d at *
  generalize l.length = ln at *
  go_wp2_with fail
  refine wp_gen (fun W hW => ?_)
  rw [← hW] at HI
  generalize w1.heap.size = g at *
  clear hW
  go_loopw [10] (fun v wr => ∃ (i : Nat) (v0 : Value), v0 = v ∧ i ≤ d.length ∧ RefInv w (g + 1) g L (.slice ao ln cap) d i v wr ∧ cnt (L - n) d = i + cnt (L - n) (d.drop i)) (fun v _ => d.length - slen v)
  case atStart => exact ⟨0, _, rfl, Nat.zero_le _, HI.out, HU.out.1⟩
  case round =>
    clear HI
    obtain ⟨i, v, rfl, hi, hI, hcnt⟩ := hrel
    have HK := Lib.hid hI
    have HN := Lib.hid hcnt
    clear hI hcnt
    have hw0 := wsum_nonneg (d.drop i) (fun x hx => HF.out.2.2.1 x (List.mem_of_mem_drop hx))
    have hw1 := wsum_sub (List.drop_sublist i d) HF.out.2.2.1
    have hw2 := HF.out.2.2.2.1
    obtain ⟨a2, c2, T, hps, hlow⟩ := HK.out.res
    have HT := Lib.hid T
    have HPS := Lib.hid hps
    have HLOW := Lib.hid hlow
    clear T hps hlow
    obtain ⟨q0, q1, -, -⟩ := HT.out.all
    obtain ⟨p0, p1, -, -⟩ := HK.out.box.all
    have hdl : (d.drop i).length ≤ 4611686018427387904 := by have := HU.out.2; simp; omega
    have HUS : Hid (∀ w', Below wr.heap.size wr w' → Calls Try.prog 23 #[.agg #[.int .i64 L, .slice a2 (d.drop i).length c2]] w' fun e w2 => e = .returned (.int .i64 (wsum (d.drop i))) ∧ Below w'.heap.size w' w2) :=
      fun w' hb => refUsed_any (d.drop i) L a2 c2 hdl (fun x hx => HF.out.2.2.1 x (List.mem_of_mem_drop hx)) (by omega) w' (HPS.out.kept hb).at_
    have HS3 : Hid (∀ w', Below wr.heap.size wr w' → Below wr.heap.size wr w' ∧ w'.cell? ⟨g, 0, none⟩ = some (.int .i64 L) ∧ w'.cell? ⟨g, 1, none⟩ = some (.slice a2 (d.drop i).length c2) ∧ w'.cell? ⟨w.heap.size, 0, none⟩ = some (.int .i64 L)) :=
      fun w' h => ⟨h, (h.cell (cells_lt q0)).trans q0, (h.cell (cells_lt q1)).trans q1, (h.cell (cells_lt p0)).trans p0⟩
    have hwrap : IntKind.i64.wrap (L - n) = L - n := IntWalk.i64_in _ (by omega)
    generalize hm : (d.drop i).length = m at *
    have HM := Lib.hid hm
    clear hm
    by_cases hlt : L - n < wsum (d.drop i)
    · obtain ⟨hid, hc1⟩ := cnt_drop (L - n) d i (by omega) hlt
      have HC1 := Lib.hid hc1
      have hlt2 : decide (L - n < wsum (d.drop i)) = true := by simpa using hlt
      have hlen : i ≤ 5864062014800 := by have := HU.out.2; omega
      have hm0 : 0 < m := by have := HM.out; simp at this; omega
      clear hc1
      generalize hD : wsum (d.drop i) = D at *
      have HD := Lib.hid hD
      clear hD
      go_wp2_with fail
      go_region_held3 (fun w' => Below wr.heap.size wr w' ∧ w'.cell? ⟨g, 0, none⟩ = some (.int .i64 L) ∧ w'.cell? ⟨g, 1, none⟩ = some (.slice a2 m c2) ∧ w'.cell? ⟨w.heap.size, 0, none⟩ = some (.int .i64 L))
        (first | exact HS3.out _ ((Below.refl _ _).drew) | exact HS3.out _ (keepB (Nat.le_refl _) (And.left (by assumption)) hb))
        (first | (go_at_call 23; refine (HUS.out _ (And.left (by assumption))).mono ?_; rintro e w' ⟨rfl, hb⟩))
      have HZ : Below wr.heap.size wr w' := And.left (by assumption)
      have HK2 := Lib.hid (HK.out.kept HZ)
      have HT2 := Lib.hid (HT.out.kept HZ)
      have HPS2 := Lib.hid (HPS.out.kept HZ)
      clear HK HT HPS q0 q1 p0 p1 HUS HS3
      have hx : d[i]? = some d[i] := List.getElem?_eq_getElem hid
      obtain ⟨b, off, rfl, hrow⟩ := HPS2.out.at_.some (by rw [HM.out]; exact hm0)
      obtain ⟨s, hs, k1, k2⟩ := hrow 0 d[i] (by rw [List.getElem?_drop]; exact hx)
      rw [Nat.zero_mul, Nat.add_zero] at k1 k2
      obtain ⟨vs, hr, h1, ho⟩ := HPS2.out
      rw [HM.out] at ho
      obtain ⟨A, cA, hA, hA1, hA2⟩ := ho.cut 22 Try.underlying22 info34 1 1 rfl hm0
      obtain ⟨ss, hss, hown⟩ := HK2.out.out
      have STEP : Hid (∀ v' w1, w1.ownsRow (g + 1) 9 1 v' (((d.take i).map Prod.fst).length + 1) (ss.map .string ++ [.string s]) → (w'.alloc (.cells #[.string s] 9)).grownBy w1 v.ownBlock → RefInv w (g + 1) g L (.slice ao ln cap) d (i + 1) v' (w1.setCell ⟨g, 1, none⟩ (.slice A (m - 1) cA)) ∧ w1.cell? ⟨g, 1, none⟩ = some (.slice (some ⟨b, off, none⟩) m c2) ∧ w1.frozen? ⟨g, 1, none⟩ = false) := by
        intro v' w1 q1 q2
        have hgr := HK2.out.grow q2
        have tt := (HT2.out.below (by omega) hgr).all
        have e := HM.out
        subst e
        exact ⟨HK2.out.step hx hs HT2.out vs hr h1 HLOW.out ss hss q1 q2 hA1 hA2, tt.2.1, tt.2.2.2⟩
      have HO : Hid ((w'.alloc (.cells #[.string s] 9)).ownsRow (g + 1) 9 1 v ((d.take i).map Prod.fst).length (ss.map .string)) := ownsRow_kept hown (below_here _)
      have HS1 : Hid (slen v = ((d.take i).map Prod.fst).length) := HK2.out.out.len
      have h5 : ((d.take i).map Prod.fst).length + 1 ≤ maxLen := by unfold maxLen; simp; omega
      have h6 : (((d.take i).map Prod.fst).length + 1) * 16 ≤ 140737488355328 := by simp; omega
      have H5 := Lib.hid h5
      have H6 := Lib.hid h6
      have hroom := HK2.out.room
      have H7 : Hid (g + 1 ≤ (w'.alloc (.cells #[.string s] 9)).heap.size) := by show _ ≤ _; simp; omega
      obtain ⟨q0, q1, qf0, qf1⟩ := HT2.out.all
      obtain ⟨i9, hi9, hz0, hz1, hz2⟩ := info_parts info9z
      clear h5 h6 hown hss hs hx hrow hr h1 ho hA1 hA2 HPS2
      go_wp2_with (at_builtin; refine wpList_append_own _ rfl (.tmp 29) (.tmp 35) 28 rfl (g + 1) 9 i9 _ 1 16 Try.underlying28 hi9 hz0 hz1 hz2 rfl (by decide) v _ _ rfl HO.out ⟨w'.heap.size, 0, none⟩ 1 1 [.string s] rfl rfl (cell_one_new _ _ _) (by simp [Value.oneCell']) H5.out H6.out H7.out ?_; intro v' w1 hown hgr _; obtain ⟨st, g1, g2⟩ := STEP.out v' w1 hown hgr; have ST := Lib.hid st; have HS2 := Lib.hid st.out.len; clear st hown hgr)
      go_roundw
      case rel => exact ⟨i + 1, _, rfl, by omega, ST.out, by have := HN.out; have := HC1.out; omega⟩
      case measure => rw [HS2.out, HS1.out]; simp; omega
    · have hc0 := cnt_stop (L - n) (d.drop i) hlt
      have hci : cnt (L - n) d = i := by rw [HN.out, hc0, Nat.add_zero]
      have HU2 := HG.out
      rw [hci] at HU2
      have HG2 := Lib.hid HU2
      clear HU2 HG hc0 hci HN hw1
      have hlt2 : decide (L - n < wsum (d.drop i)) = false := by simpa using hlt
      have hlen : m * 24 ≤ 140737488351232 := by have := HU.out.2; have := HM.out; simp at this; omega
      generalize hD : wsum (d.drop i) = D at *
      have HD := Lib.hid hD
      clear hD
      go_wp2_with fail
      go_region_held3 (fun w' => Below wr.heap.size wr w' ∧ w'.cell? ⟨g, 0, none⟩ = some (.int .i64 L) ∧ w'.cell? ⟨g, 1, none⟩ = some (.slice a2 m c2) ∧ w'.cell? ⟨w.heap.size, 0, none⟩ = some (.int .i64 L))
        (first | exact HS3.out _ ((Below.refl _ _).drew) | exact HS3.out _ (keepB (Nat.le_refl _) (And.left (by assumption)) hb))
        (first | (go_at_call 23; refine (HUS.out _ (And.left (by assumption))).mono ?_; rintro e w' ⟨rfl, hb⟩))
      have HZ : Below wr.heap.size wr w' := And.left (by assumption)
      have HK2 := Lib.hid (HK.out.kept HZ)
      have HT2 := Lib.hid (HT.out.kept HZ)
      have HPS2 := Lib.hid (HPS.out.kept HZ)
      clear HK HT HPS q0 q1 p0 p1 HUS HS3
      obtain ⟨vs, hr, h1, ho⟩ := HPS2.out
      rw [HM.out] at ho
      have hroom := HK2.out.room
      have hg1 := HK2.out.g1
      have hgz := HT2.out.lt
      have FIN : Hid (∀ v5 w5, OwnPart w5 (w.heap.size + 2) 34 2 v5 (m + 1) (vs ++ [.string key, .int .i64 n]) → (w'.alloc (.cells #[.string key, .int .i64 n] 34)).grownBy w5 (Value.slice a2 m c2).ownBlock →
          Two w5 g (.int .i64 L) (.slice a2 m c2) ∧ Two w5 (w.heap.size + 1) (.int .i64 0) (.slice none 0 0) ∧ Below w.heap.size w w5 ∧ PartSlots w5 (w.heap.size + 2) v5 (d.drop i ++ [(key.toList, n)]) ∧ OwnKeys w5 (g + 1) v ((d.take i).map Prod.fst)) := by
        intro v5 w5 hown hgr
        have hlow := HLOW.out
        have hbl := ho.block
        have hall := below_here (w := w') (.cells #[.string key, .int .i64 n] 34)
        have hsame : ∀ k, k < w'.heap.size → (k < w.heap.size + 2 ∨ g ≤ k) → w5.heap[k]? = w'.heap[k]? := by
          intro k hk hor
          refine (hgr.block k (by simp; omega) (fun e => ?_)).trans (hall.block k hk)
          have h1 := hlow k e.symm
          have h2 := hbl k e.symm
          omega
        refine ⟨(hsame g (by omega) (Or.inr (Nat.le_refl _))).trans HT2.out, (hsame (w.heap.size + 1) (by omega) (Or.inl (by omega))).trans HK2.out.ret, ?_, ⟨vs ++ [.string key, .int .i64 n], hr.append (by rw [ho.1, HM.out]) ?_, ?_, ?_⟩, HK2.out.out.same (fun k h1 h2 => hsame k h2 (Or.inr (by omega)))⟩
        · exact (HK2.out.below.alloc HK2.out.below.size _).grown hgr (by simp; have := HK2.out.below.size; omega) (fun k hk => by have := hbl k hk; omega)
        · intro j x hj
          match j, hj with
          | 0, hj => simp at hj; subst hj; exact ⟨key, rfl, rfl, rfl⟩
        · intro x hx
          rcases List.mem_append.1 hx with hx | hx
          · exact h1 x hx
          · simp at hx; rcases hx with rfl | rfl <;> rfl
        · rw [List.length_append, HM.out]; exact hown
      have HO : Hid (OwnPart (w'.alloc (.cells #[.string key, .int .i64 n] 34)) (w.heap.size + 2) 34 2 (.slice a2 m c2) m vs) := ho.kept (below_here _)
      have h5 : m + 1 ≤ maxLen := by unfold maxLen; omega
      have h6 : (m + 1) * 24 ≤ 140737488355328 := by omega
      have H5 := Lib.hid h5
      have H6 := Lib.hid h6
      have H7 : Hid (w.heap.size + 2 ≤ (w'.alloc (.cells #[.string key, .int .i64 n] 34)).heap.size) := by show _ ≤ _; simp; omega
      have HNW : Hid (∀ j u, [Value.string key, .int .i64 n][j]? = some u → (w'.alloc (.cells #[.string key, .int .i64 n] 34)).cell? ((⟨w'.heap.size, 0, none⟩ : Addr).add j) = some u) := by
        intro j u hj
        rw [addr_add]
        match j, hj with
        | 0, hj => simp at hj; subst hj; simp [go_sem]
        | 1, hj => simp at hj; subst hj; simp [go_sem]
      obtain ⟨i34, hi34, hz0, hz1, hz2⟩ := info_parts info34z
      obtain ⟨q0, q1, qf0, qf1⟩ := HT2.out.all
      clear hr h1 ho h5 h6 HK2 HPS2 HZ HLOW
      go_wp2_with (at_builtin; refine wpList_append_part _ rfl (.tmp 42) (.tmp 46) 22 rfl (w.heap.size + 2) 34 i34 _ 2 24 Try.underlying22 hi34 hz0 hz1 hz2 rfl (by decide) (.slice a2 m c2) _ _ rfl HO.out ⟨w'.heap.size, 0, none⟩ 1 1 (by decide) [.string key, .int .i64 n] rfl rfl HNW.out (by simp [Value.oneCell']) H5.out H6.out H7.out ?_; intro v5 w5 hown hgr; obtain ⟨a5, c5, rfl⟩ := hown.shape; have FN := Lib.hid (FIN.out _ w5 hown hgr); clear hown hgr; obtain ⟨e0, e1, ef0, ef1⟩ := FN.out.1.all; obtain ⟨t0, t1, tf0, tf1⟩ := FN.out.2.1.all)
      obtain ⟨T5, R5, B5, P5, K5⟩ := FN.out
      obtain ⟨a6, c6, hv6, hc6, hs6⟩ := P5.slots
      injection hv6 with e1 e2 e3
      subst e1 e3
      have T6 := (R5.far (g' := g) (o := 1) (v := .slice a5 (m + 1) c5) (by omega))
      have T7 := (T6.put (.int .i64 L) (.slice a5 (m + 1) c5)).all
      have k1 : v.ownBlock ≠ some g := fun e => by have := K5.block _ e; omega
      have k2 : v.ownBlock ≠ some (w.heap.size + 1) := fun e => by have := K5.block _ e; omega
      obtain ⟨ko, kc, hvk, hkc, hks⟩ := (((K5.far (o := 1) (x := .slice a5 (m + 1) c5) k1).far (o := 0) (x := .int .i64 L) k2).far (o := 1) (x := .slice a5 (m + 1) c5) k2).keys
      refine bodyPost_ret (v := .tuple #[.agg #[.int .i64 L, .slice a5 (m + 1) c5], v, .int .i64 0]) (by simp [results, Try.results20, go_sem, T7.1, T7.2.1]) rfl ?_
      unfold UseIs
      rw [HG2.out.1, HG2.out.2]
      refine ⟨a5, c5, ko, kc, ?_, hc6, hkc, (hs6.put1 T5 _).put T6 _ _, hks, ((B5.setCell (by show w.heap.size ≤ g; omega) _).setCell (by simp) _).setCell (by simp) _⟩
      rw [hvk, e2]
end Go.Proofs.Ytdbfioafcpjkpaa
