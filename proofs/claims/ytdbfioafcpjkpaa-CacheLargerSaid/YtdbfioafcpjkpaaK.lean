/-
  Use of the cache, where the weight fits.
-/
import Derived.Test.YtdbfioafcpjkpaaJ
namespace Go.Proofs.Ytdbfioafcpjkpaa
open Go.ChangeShapes Go.WideShapes Go.ChangeAt Go.RowKit

set_option maxHeartbeats 1000000 in
set_option maxRecDepth 100000 in
theorem use_big (L n : Int) (hn : 0 ≤ n) (hL : L < n) (key : ByteArray) (v : Value) (w : World) :
    Calls Try.prog 11 #[.agg #[.int .i64 L, v], .string key, .int .i64 n] w (UseIs w 0 [] [] 340) := by
  go_enter Try.func11, Try.ntmps11
  go_wp2_with fail
  refine bodyPost_ret (v := .tuple #[.agg #[.int .i64 0, .slice none 0 0], .slice none 0 0, .int .i64 340]) (by simp [results, Try.results11, go_sem]) rfl ?_
  exact ⟨none, 0, none, 0, rfl, Nat.le_refl _, Nat.le_refl _, Or.inl rfl, Or.inl rfl, (below_here _).alloc (by simp) _⟩

theorem RowAt.ne_two {w : World} {b off g : Nat} {l : List Sl} {k : IntKind} {z : Int} {A : Option Addr} {n c : Nat} (h : RowAt w b off l) (hl : 0 < l.length) (T : Two w g (.int k z) (.slice A n c)) : g ≠ b := by
  rintro rfl
  obtain ⟨s, -, hs, -⟩ := h 0 l[0] (List.getElem?_eq_getElem hl)
  rw [cell_of_row w g _ _ _ _ T] at hs
  match off, hs with
  | 0, hs => simp at hs
  | 1, hs => simp at hs
  | o + 2, hs => simp at hs
theorem SlotsAt.put {w : World} {ao : Option Addr} {g : Nat} {l : List Sl} {k : IntKind} {z : Int} {A : Option Addr} {n c : Nat} (h : SlotsAt w ao l) (T : Two w g (.int k z) (.slice A n c)) (x y : Value) :
    SlotsAt ((w.setCell ⟨g, 0, none⟩ x).setCell ⟨g, 1, none⟩ y) ao l := by
  by_cases hl : 0 < l.length
  · obtain ⟨b, off, e, h⟩ := h.some hl
    have hne := h.ne_two hl T
    exact Or.inr ⟨b, off, e, (h.far hne _).far hne _⟩
  · exact Or.inl (List.eq_nil_of_length_eq_zero (by omega))
theorem SlotsAt.put1 {w : World} {ao : Option Addr} {g : Nat} {l : List Sl} {k : IntKind} {z : Int} {A : Option Addr} {n c : Nat} (h : SlotsAt w ao l) (T : Two w g (.int k z) (.slice A n c)) (y : Value) :
    SlotsAt (w.setCell ⟨g, 1, none⟩ y) ao l := by
  by_cases hl : 0 < l.length
  · obtain ⟨b, off, e, h⟩ := h.some hl
    exact Or.inr ⟨b, off, e, h.far (h.ne_two hl T) _⟩
  · exact Or.inl (List.eq_nil_of_length_eq_zero (by omega))

theorem Two.below {w w' : World} {B g : Nat} {x y : Value} (h : Two w g x y) (hg : g < B) (hb : Below B w w') : Two w' g x y := (hb.block g hg).trans h
theorem RowAt.below {w w' : World} {B b off : Nat} {l : List Sl} (h : RowAt w b off l) (hg : b < B) (hb : Below B w w') : RowAt w' b off l := by
  intro i x hx
  obtain ⟨s, e, h1, h2⟩ := h i x hx
  exact ⟨s, e, (hb.cell (p := ⟨b, _, none⟩) hg).trans h1, (hb.cell (p := ⟨b, _, none⟩) hg).trans h2⟩
/-- Slots below a block number. -/
def SlotsLow (w : World) (B : Nat) (ao : Option Addr) (l : List Sl) : Prop := l = [] ∨ ∃ b off, ao = some ⟨b, off, none⟩ ∧ b < B ∧ RowAt w b off l
theorem SlotsAt.low {w : World} {ao : Option Addr} {l : List Sl} (h : SlotsAt w ao l) : SlotsLow w w.heap.size ao l := by
  by_cases hl : 0 < l.length
  · obtain ⟨b, off, e, hr⟩ := h.some hl
    obtain ⟨s, -, hs, -⟩ := hr 0 l[0] (List.getElem?_eq_getElem hl)
    exact Or.inr ⟨b, off, e, cells_lt hs, hr⟩
  · exact Or.inl (List.eq_nil_of_length_eq_zero (by omega))
theorem SlotsLow.at_ {w : World} {B : Nat} {ao : Option Addr} {l : List Sl} (h : SlotsLow w B ao l) : SlotsAt w ao l := by
  rcases h with h | ⟨b, off, e, -, h⟩
  · exact Or.inl h
  · exact Or.inr ⟨b, off, e, h⟩
theorem SlotsLow.below {w w' : World} {B : Nat} {ao : Option Addr} {l : List Sl} (h : SlotsLow w B ao l) (hb : Below B w w') : SlotsLow w' B ao l := by
  rcases h with h | ⟨b, off, e, hl, h⟩
  · exact Or.inl h
  · exact Or.inr ⟨b, off, e, hl, h.below hl hb⟩
theorem SlotsLow.put1 {w : World} {B : Nat} {ao : Option Addr} {g : Nat} {l : List Sl} {k : IntKind} {z : Int} {A : Option Addr} {n c : Nat} (h : SlotsLow w B ao l) (T : Two w g (.int k z) (.slice A n c)) (y : Value) :
    SlotsLow (w.setCell ⟨g, 1, none⟩ y) B ao l := by
  by_cases hl : 0 < l.length
  · rcases h with rfl | ⟨b, off, e, hb, h⟩
    · simp at hl
    · exact Or.inr ⟨b, off, e, hb, h.far (h.ne_two hl T) _⟩
  · exact Or.inl (List.eq_nil_of_length_eq_zero (by omega))
/-- The length of a slice. -/
def slen : Value → Nat
  | .slice _ n _ => n
  | _ => 0
theorem OwnKeys.len {w : World} {B : Nat} {v : Value} {ks : List (List UInt8)} (h : OwnKeys w B v ks) : slen v = ks.length := by
  obtain ⟨ao, cap, rfl, -⟩ := h.keys
  rfl
theorem OwnKeys.block {w : World} {B : Nat} {v : Value} {ks : List (List UInt8)} (h : OwnKeys w B v ks) : ∀ g, v.ownBlock = some g → B ≤ g := by
  obtain ⟨ss, -, ho⟩ := h
  exact fun g hg => (ho.lt g hg).1
theorem OwnKeys.alloc {w : World} {B : Nat} {v : Value} {ks : List (List UInt8)} (h : OwnKeys w B v ks) (o : Obj) : OwnKeys (w.alloc o) B v ks := h.kept (below_here o)
theorem own_slice {w : World} {B : Nat} {e : TypeId} {size : Nat} {v : Value} {n : Nat} {xs : List Value} (h : w.ownsRow B e size v n xs) : ∃ a c, v = .slice a n c := by
  rcases h.2 with ⟨rfl, rfl⟩ | ⟨g, cap, cur, rfl, _⟩
  · exact ⟨_, _, rfl⟩
  · exact ⟨_, _, rfl⟩
/-- What holds at each round of the eviction: i slots are gone. -/
structure UseInv (w : World) (B : Nat) (L : Int) (xs : Value) (d : List Sl) (i : Nat) (v : Value) (wr : World) : Prop where
  below : Below w.heap.size w wr
  high : w.heap.size + 1 < B
  room : B ≤ wr.heap.size
  box : Two wr w.heap.size (.int .i64 L) xs
  res : ∃ ao cap, Two wr (w.heap.size + 1) (.int .i64 L) (.slice ao (d.drop i).length cap) ∧ (d.drop i).length ≤ cap ∧ SlotsLow wr B ao (d.drop i)
  out : OwnKeys wr B v ((d.take i).map Prod.fst)
theorem UseInv.grow {w : World} {B : Nat} {L : Int} {xs v : Value} {d : List Sl} {i : Nat} {wr w1 : World} {o : Obj} (h : UseInv w B L xs d i v wr) (hg : (wr.alloc o).grownBy w1 v.ownBlock) : Below B wr w1 :=
  ((Below.refl _ _).alloc h.room _).grown hg (by simp; have := h.room; omega) (fun g hg' => h.out.block g hg')
/-- One slot more is gone. -/
theorem UseInv.step {w : World} {B : Nat} {L : Int} {xs v v' : Value} {d : List Sl} {i : Nat} {wr w1 : World} {x : Sl} {s : ByteArray} {b off cap : Nat} {A : Option Addr} (h : UseInv w B L xs d i v wr) (hx : d[i]? = some x) (hs : s.toList = x.1)
    (T : Two wr (w.heap.size + 1) (.int .i64 L) (.slice (some ⟨b, off, none⟩) (d.drop i).length cap)) (hc : (d.drop i).length ≤ cap) (hlow : b < B) (hrow : RowAt wr b off (d.drop i))
    (ss : List ByteArray) (hss : ss.map (·.toList) = (d.take i).map Prod.fst) (hown : w1.ownsRow B 9 1 v' (((d.take i).map Prod.fst).length + 1) (ss.map .string ++ [.string s])) (hg : (wr.alloc (.cells #[.string s] 9)).grownBy w1 v.ownBlock)
    (hA : ∀ b' off', (some ⟨b, off, none⟩ : Option Addr) = some ⟨b', off', none⟩ → 1 < cap → A = some ⟨b', off' + 1 * 2, none⟩) :
    UseInv w B L xs d (i + 1) v' (w1.setCell ⟨w.heap.size + 1, 1, none⟩ (.slice A ((d.drop i).length - 1) (cap - 1))) := by
  have hi : i < d.length := (List.getElem?_eq_some_iff.1 hx).1
  have HB : Below B wr w1 := h.grow hg
  have T1 := T.below h.high HB
  have X1 := h.box.below (by have := h.high; omega) HB
  have hb1 : Below w.heap.size w w1 := h.below.trans (HB.mono (by have := h.high; omega))
  have hr := hrow.below hlow HB
  have hO : OwnKeys w1 B v' ((d.take (i + 1)).map Prod.fst) := by
    refine ⟨ss ++ [s], ?_, ?_⟩
    · rw [List.take_add_one, hx, List.map_append, List.map_append, hss]; simp [hs]
    · have e : ((d.take (i + 1)).map Prod.fst).length = ((d.take i).map Prod.fst).length + 1 := by simp; omega
      rw [e, List.map_append]
      exact hown
  have hd : (d.drop (i + 1)).length = (d.drop i).length - 1 := by simp; omega
  refine ⟨hb1.setCell (by simp) _, h.high, ?_, X1.far (by omega), ⟨A, cap - 1, ?_, by omega, ?_⟩, hO.far (fun e => by have := hO.block _ e; have := h.high; omega)⟩
  · simp; exact Nat.le_trans h.room HB.size
  · rw [hd]; exact T1.put1 _
  · refine SlotsLow.put1 ?_ T1 _
    by_cases hn : 0 < (d.drop (i + 1)).length
    · refine Or.inr ⟨b, off + 1 * 2, hA _ _ rfl (by omega), hlow, ?_⟩
      intro j y hj
      have := hr (j + 1) y (by rw [List.getElem?_drop] at hj ⊢; rw [← hj]; congr 1; omega)
      rw [show off + 1 * 2 + j * 2 = off + (j + 1) * 2 by omega]
      exact this
    · exact Or.inl (List.eq_nil_of_length_eq_zero (by omega))

set_option maxHeartbeats 1000000 in
set_option maxRecDepth 100000 in
theorem use_fits (L n : Int) (l : List Sl) (hv : Valid L l) (hn : 0 ≤ n) (hL : n ≤ L) (key : ByteArray) (ao : Option Addr) (cap : Nat) (hc : l.length ≤ cap) (hl : l.length * 24 ≤ 140737488351232) (w : World) (h : SlotsAt w ao l) :
    Calls Try.prog 11 #[.agg #[.int .i64 L, .slice ao l.length cap], .string key, .int .i64 n] w (UseIs w L (used L key.toList n l) (gone L key.toList n l) 0) := by
  have H := Lib.hid h
  have HC := Lib.hid hc
  have HL := Lib.hid hl
  have HV := Lib.hid hv
  have HF := Lib.hid (hv.sub (fil_sub key.toList l))
  have L1 := hv.2.1
  have d1 : decide (n < 0) = false := by simp; omega
  have d2 : decide (L < n) = false := by simp; omega
  clear h hc hv hl
  go_enter Try.func11, Try.ntmps11
  go_wp2_with fail
  refine (drop_any L l HV.out.2.2.2.2 key ao cap HC.out (by have := HL.out; omega) _ (H.out.kept ((below_here _).alloc (by simp) _))).mono ?_
  rintro e w1 ⟨a1, c1, rfl, hc1, hs1, hb⟩
  have HB1 : Below w.heap.size w w1 := ((below_here _).alloc (by simp) _).trans (hb.mono (by simp; omega))
  have T1 : Hid (Two w1 w.heap.size (.int .i64 L) (.slice ao l.length cap)) := ((Two.new w _ _).kept (below_here _)).kept hb
  have r1 : Two w1 (w.heap.size + 1) (.int .i64 0) (.slice none 0 0) := by have := (Two.new (w.alloc (.cells #[.int .i64 L, .slice ao l.length cap] 24)) (.int .i64 0) (.slice none 0 0)).kept hb; simpa using this
  have R1 := Lib.hid r1
  have S1 := Lib.hid hs1
  have C1 := Lib.hid hc1
  clear r1 hb hs1 hc1
  obtain ⟨r0, r1, f0, f1⟩ := R1.out.all
  have HB2 := (HB1.setCell (p := ⟨w.heap.size + 1, 0, none⟩) (by simp) (.int .i64 L)).setCell (p := ⟨w.heap.size + 1, 1, none⟩) (by simp) (.slice a1 (fil key.toList l).length c1)
  have T2 := Lib.hid ((T1.out.far (g' := w.heap.size + 1) (o := 0) (v := .int .i64 L) (by omega)).far (g' := w.heap.size + 1) (o := 1) (v := .slice a1 (fil key.toList l).length c1) (by omega))
  have R2 := Lib.hid (R1.out.put (.int .i64 L) (.slice a1 (fil key.toList l).length c1))
  have S2 := Lib.hid (S1.out.put R1.out (.int .i64 L) (.slice a1 (fil key.toList l).length c1))
  have ht : (w1.setCell ⟨w.heap.size + 1, 0, none⟩ (.int .i64 L)).cell? ⟨w.heap.size + 1, 0, none⟩ = some (.int .i64 L) := by
    rw [World.cell?_setCell_same' _ _ _ (by rw [r0]; rfl)]
  clear S1 T1 HB1
  go_wp2_with fail
  clear r0 r1 f0 f1 ht
  generalize ((w1.setCell ⟨w.heap.size + 1, 0, none⟩ (.int .i64 L)).setCell ⟨w.heap.size + 1, 1, none⟩ (.slice a1 (fil key.toList l).length c1)) = w2 at *
  refine (used_any (fil key.toList l) L a1 c1 (by have := HL.out; have := fil_len key.toList l; omega) HF.out.2.2.1 (by have := HF.out.2.2.2.1; omega) w2 S2.out).mono ?_
  rintro e w3 ⟨rfl, hb⟩
  have HI : Hid (UseInv w w3.heap.size L (.slice ao l.length cap) (fil key.toList l) 0 (.slice none 0 0) w3) :=
    ⟨HB2.trans (hb.mono HB2.size), Nat.lt_of_lt_of_le R2.out.lt hb.size, Nat.le_refl _, T2.out.kept hb, ⟨a1, c1, R2.out.kept hb, C1.out, (S2.out.kept hb).low⟩, [], rfl, rfl, Or.inl ⟨rfl, rfl⟩⟩
  have HU : Hid (wsum (fil key.toList l) = wsum ((fil key.toList l).drop 0) ∧ cnt (L - n) (fil key.toList l) = 0 + cnt (L - n) ((fil key.toList l).drop 0) ∧ (fil key.toList l).length * 24 ≤ 140737488351232) := ⟨rfl, by simp, by have := HL.out; have := fil_len key.toList l; omega⟩
  have HG : Hid (used L key.toList n l = (fil key.toList l).drop (cnt (L - n) (fil key.toList l)) ++ [(key.toList, n)] ∧ gone L key.toList n l = ((fil key.toList l).take (cnt (L - n) (fil key.toList l))).map Prod.fst) := ⟨rfl, rfl⟩
  clear hb HB2 T2 R2 S2 C1 R1 H HC HL HV
  generalize used L key.toList n l = U at *
  generalize gone L key.toList n l = G at *
  generalize fil key.toList l = d at *
  generalize l.length = ln at *
  generalize w3.heap.size = B at *
  go_wp2_with fail
  go_loopw [7, 9] (fun v u wr => ∃ (i : Nat) (v0 : Value), v0 = v ∧ i ≤ d.length ∧ u = .int .i64 (wsum (d.drop i)) ∧ UseInv w B L (.slice ao ln cap) d i v wr ∧ cnt (L - n) d = i + cnt (L - n) (d.drop i)) (fun v _ _ => d.length - slen v)
  case atStart => exact ⟨0, _, rfl, Nat.zero_le _, by rw [HU.out.1], HI.out, HU.out.2.1⟩
  case round =>
    clear HI
    obtain ⟨i, v, rfl, hi, rfl, hI, hcnt⟩ := hrel
    have HK := Lib.hid hI
    have HN := Lib.hid hcnt
    clear hI hcnt
    have hw0 := wsum_nonneg (d.drop i) (fun x hx => HF.out.2.2.1 x (List.mem_of_mem_drop hx))
    have hw1 := wsum_sub (List.drop_sublist i d) HF.out.2.2.1
    have hw2 := HF.out.2.2.2.1
    by_cases hlt : L - n < wsum (d.drop i)
    · obtain ⟨hid, hc1⟩ := cnt_drop (L - n) d i (by omega) hlt
      obtain ⟨a2, c2, T, hc2, hs2⟩ := HK.out.res
      have hx : d[i]? = some d[i] := List.getElem?_eq_getElem hid
      obtain ⟨b, off, rfl, hbB, hrow⟩ : ∃ b off, a2 = some ⟨b, off, none⟩ ∧ b < B ∧ RowAt wr b off (d.drop i) := by
        rcases hs2 with h | h
        · have := congrArg List.length h
          simp at this; omega
        · exact h
      obtain ⟨s, hs, k1, k2⟩ := hrow 0 d[i] (by rw [List.getElem?_drop]; exact hx)
      rw [Nat.zero_mul, Nat.add_zero] at k1 k2
      have hn0 : 0 < (d.drop i).length := by simp; omega
      obtain ⟨A, hA, hA'⟩ := run_from (P := Try.prog) 22 34 2 Try.underlying22 info34 (some ⟨b, off, none⟩) (d.drop i).length c2 1 1 rfl hn0
      obtain ⟨ss, hss, hown⟩ := HK.out.out
      have STEP : Hid (∀ v' w1, w1.ownsRow B 9 1 v' (((d.take i).map Prod.fst).length + 1) (ss.map .string ++ [.string s]) → (wr.alloc (.cells #[.string s] 9)).grownBy w1 v.ownBlock → UseInv w B L (.slice ao ln cap) d (i + 1) v' (w1.setCell ⟨w.heap.size + 1, 1, none⟩ (.slice A ((d.drop i).length - 1) (c2 - 1))) ∧ w1.cell? ⟨w.heap.size + 1, 1, none⟩ = some (.slice (some ⟨b, off, none⟩) (d.drop i).length c2) ∧ w1.frozen? ⟨w.heap.size + 1, 1, none⟩ = false ∧ w1.cell? ⟨b, off + 1, none⟩ = some (.int .i64 (d[i]).2)) :=
        fun v' w1 h1 h2 => ⟨HK.out.step hx hs T hc2 hbB hrow ss hss h1 h2 hA', (T.below HK.out.high (HK.out.grow h2)).all.2.1, (T.below HK.out.high (HK.out.grow h2)).all.2.2.2, ((HK.out.grow h2).cell (p := ⟨b, _, none⟩) hbB).trans k2⟩
      have KB := Lib.hid HK.out.box.all
      have KR := Lib.hid T.all
      have HO : Hid ((wr.alloc (.cells #[.string s] 9)).ownsRow B 9 1 v ((d.take i).map Prod.fst).length (ss.map .string)) := ownsRow_kept hown (below_here _)
      have HS1 : Hid (slen v = ((d.take i).map Prod.fst).length) := HK.out.out.len
      have hlen : i ≤ 5864062014800 := by have := HU.out.2.2; omega
      have hroom := HK.out.room
      have hhigh := HK.out.high
      have hsum : wsum (d.drop i) = (d[i]).2 + wsum (d.drop (i + 1)) := by rw [List.drop_eq_getElem_cons hid]; rfl
      have HSUM := Lib.hid hsum
      have hx0 := HF.out.2.2.1 _ (List.getElem_mem hid)
      have hw3 := wsum_nonneg (d.drop (i + 1)) (fun x hx => HF.out.2.2.1 x (List.mem_of_mem_drop hx))
      have h5 : ((d.take i).map Prod.fst).length + 1 ≤ maxLen := by unfold maxLen; simp; omega
      have h6 : (((d.take i).map Prod.fst).length + 1) * 16 ≤ 140737488355328 := by simp; omega
      have H5 := Lib.hid h5
      have H6 := Lib.hid h6
      have H7 : Hid (B ≤ (wr.alloc (.cells #[.string s] 9)).heap.size) := by show _ ≤ _; simp; omega
      have HC1 := Lib.hid hc1
      have hw4 : wsum (d.drop (i + 1)) = wsum (d.drop i) - (d[i]).2 := by omega
      have HW4 := Lib.hid hw4
      have hx1 : wsum (d.drop i) ≤ 1152921504606846976 := by omega
      have hx2 : (d[i]).2 ≤ wsum (d.drop i) := by omega
      obtain ⟨q0, q1, qf0, qf1⟩ := KR.out
      obtain ⟨p0, p1, -, -⟩ := KB.out
      clear hw1 hw4 hc1 h5 h6 hown hss hx hs hrow T hs2 hsum hA' hw3
      obtain ⟨i9, hi9, hz0, hz1, hz2⟩ := info_parts info9z
      generalize (d.drop i).length = m at *
      generalize hD : wsum (d.drop i) = D at *
      generalize hE : wsum (d.drop (i + 1)) = E at *
      have HD := Lib.hid hD; have HE := Lib.hid hE
      clear hD hE
      go_wp2_with (at_builtin; refine wpList_append_own _ rfl (.tmp 29) (.tmp 35) 28 rfl B 9 i9 _ 1 16 Try.underlying28 hi9 hz0 hz1 hz2 rfl (by decide) v _ _ rfl HO.out ⟨wr.heap.size, 0, none⟩ 1 1 [.string s] rfl rfl (cell_one_new _ _ _) (by simp [Value.oneCell']) H5.out H6.out H7.out ?_; intro v' w1 hown hgr _; obtain ⟨st, g1, g2, g3⟩ := STEP.out v' w1 hown hgr; have ST := Lib.hid st; have HS2 := Lib.hid st.out.len; clear st hown hgr)
      go_roundw
      case rel => exact ⟨i + 1, _, rfl, by omega, by rw [HE.out, HW4.out], ST.out, by have := HN.out; have := HC1.out; omega⟩
      case measure => rw [HS2.out, HS1.out]; simp; omega
    · have hc0 := cnt_stop (L - n) (d.drop i) hlt
      have hci : cnt (L - n) d = i := by rw [HN.out, hc0, Nat.add_zero]
      have HU2 := HG.out
      rw [hci] at HU2
      have HG2 := Lib.hid HU2
      clear HU2 HG hc0 hci HN
      obtain ⟨a2, c2, T, hc2, hs2⟩ := HK.out.res
      have KB := Lib.hid HK.out.box.all
      have KR := Lib.hid T.all
      obtain ⟨q0, q1, qf0, qf1⟩ := KR.out
      obtain ⟨p0, p1, -, -⟩ := KB.out
      have TT := Lib.hid T
      have S2 := Lib.hid hs2
      clear T hs2 hw1
      have hlen : (d.drop i).length * 24 ≤ 140737488351232 := by have := HU.out.2.2; simp; omega
      generalize hD : wsum (d.drop i) = D at *
      have HD := Lib.hid hD
      clear hD
      generalize hm : d.drop i = dr at *
      have HM := Lib.hid hm
      clear hm
      have HBw := Lib.hid HK.out.below
      have HOK := Lib.hid HK.out.out
      have hroom := HK.out.room
      have hhigh := HK.out.high
      have TX := Lib.hid HK.out.box
      clear HK HU HD
      go_wp2_with fail
      refine (clone_any dr a2 c2 (by omega) wr S2.out.at_).mono ?_
      rintro e w4 ⟨vc, rfl, hoc, hb⟩
      obtain ⟨vs, hr, h1, ho⟩ := hoc
      have TT4 := TT.out.kept hb
      have OK4 := HOK.out.kept hb
      have FIN : Hid (∀ v5 w5, w5.ownsRow wr.heap.size 34 2 v5 (dr.length + 1) (vs ++ [.string key, .int .i64 n]) → (w4.alloc (.cells #[.string key, .int .i64 n] 34)).grownBy w5 vc.ownBlock →
          Two w5 (w.heap.size + 1) (.int .i64 L) (.slice a2 dr.length c2) ∧ Below w.heap.size w w5 ∧ OwnSlots w5 wr.heap.size v5 (dr ++ [(key.toList, n)]) ∧ OwnKeys w5 B v ((d.take i).map Prod.fst)) := by
        intro v5 w5 hown hgr
        have hsz := hb.size
        have hB5 : Below wr.heap.size w4 w5 := ((Below.refl _ _).alloc hsz _).grown hgr (by simp; omega) (fun g hg => (ho.lt g hg).1)
        have hB : Below wr.heap.size wr w5 := hb.trans hB5
        refine ⟨TT.out.kept hB, HBw.out.trans (hB.mono HBw.out.size), ⟨vs ++ [.string key, .int .i64 n], hr.append ?_ ?_, ?_, ?_⟩, HOK.out.kept hB⟩
        · exact ho.1
        · intro j x hj
          match j, hj with
          | 0, hj => simp at hj; subst hj; exact ⟨key, rfl, rfl, rfl⟩
        · intro x hx
          rcases List.mem_append.1 hx with hx | hx
          · exact h1 x hx
          · simp at hx; rcases hx with rfl | rfl <;> rfl
        · simpa using hown
      have HO : Hid ((w4.alloc (.cells #[.string key, .int .i64 n] 34)).ownsRow wr.heap.size 34 2 vc dr.length vs) := ownsRow_kept ho (below_here _)
      have h5 : dr.length + 1 ≤ maxLen := by unfold maxLen; omega
      have h6 : (dr.length + 1) * 24 ≤ 140737488355328 := by omega
      have H5 := Lib.hid h5
      have H6 := Lib.hid h6
      have H7 : Hid (wr.heap.size ≤ (w4.alloc (.cells #[.string key, .int .i64 n] 34)).heap.size) := by show _ ≤ _; have := hb.size; simp; omega
      have HNW : Hid (∀ j u, [Value.string key, .int .i64 n][j]? = some u → (w4.alloc (.cells #[.string key, .int .i64 n] 34)).cell? ((⟨w4.heap.size, 0, none⟩ : Addr).add j) = some u) := by
        intro j u hj
        rw [addr_add]
        match j, hj with
        | 0, hj => simp at hj; subst hj; simp [go_sem]
        | 1, hj => simp at hj; subst hj; simp [go_sem]
      obtain ⟨i34, hi34, hz0, hz1, hz2⟩ := info_parts info34z
      clear hr h1 ho hb TT4 OK4 h5 h6 TT S2 HOK HBw TX KB KR p0 p1 q0 q1 qf0 qf1
      go_wp2_with (at_builtin; refine wpList_append_own _ rfl (.tmp 50) (.tmp 54) 22 rfl wr.heap.size 34 i34 _ 2 24 Try.underlying22 hi34 hz0 hz1 hz2 rfl (by decide) vc _ _ rfl HO.out ⟨w4.heap.size, 0, none⟩ 1 1 [.string key, .int .i64 n] rfl rfl HNW.out (by simp [Value.oneCell']) H5.out H6.out H7.out ?_; intro v5 w5 hown hgr _; obtain ⟨a5, c5, rfl⟩ := own_slice hown; have FN := Lib.hid (FIN.out _ w5 hown hgr); clear hown hgr; obtain ⟨e0, e1, ef0, ef1⟩ := FN.out.1.all)
      obtain ⟨T5, B5, O5, K5⟩ := FN.out
      have S5 := O5.slots
      obtain ⟨a6, c6, hv6, hc6, hs6, -⟩ := S5
      injection hv6 with e1 e2 e3
      subst e1 e3
      have T6 := (T5.put1 (.slice a5 (dr.length + 1) c5))
      have T7 := (T6.put (.int .i64 L) (.slice a5 (dr.length + 1) c5)).all
      have hne : v.ownBlock ≠ some (w.heap.size + 1) := fun e => by have := K5.block _ e; omega
      obtain ⟨ko, kc, hvk, hkc, hks⟩ := (((K5.far (o := 1) (x := .slice a5 (dr.length + 1) c5) hne).far (o := 0) (x := .int .i64 L) hne).far (o := 1) (x := .slice a5 (dr.length + 1) c5) hne).keys
      refine bodyPost_ret (v := .tuple #[.agg #[.int .i64 L, .slice a5 (dr.length + 1) c5], v, .int .i64 0]) (by simp [results, Try.results11, go_sem, T7.1, T7.2.1]) rfl ?_
      unfold UseIs
      rw [HG2.out.1, HG2.out.2]
      refine ⟨a5, c5, ko, kc, ?_, hc6, hkc, (hs6.put1 T5 _).put T6 _ _, hks, ((B5.setCell (by simp) _).setCell (by simp) _).setCell (by simp) _⟩
      rw [hvk, e2]
end Go.Proofs.Ytdbfioafcpjkpaa
