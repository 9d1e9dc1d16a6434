/-
  The specification's Drop.
-/
import Derived.Test.YtdbfioafcpjkpaaL
namespace Go.Proofs.Ytdbfioafcpjkpaa
open Go.ChangeShapes Go.WideShapes Go.ChangeAt Go.RowKit

theorem fil_take (key : List UInt8) (l : List Sl) (i : Nat) (x : Sl) (hx : l[i]? = some x) : fil key (l.take (i + 1)) = fil key (l.take i) ++ (if (x.1 == key) = true then [] else [x]) := by
  rw [List.take_add_one, hx]
  unfold fil
  rw [List.filter_append]
  rcases h : (x.1 == key) with _ | _ <;> simp [h]
/-- append on a slice of the call's own, as one step of a region that draws. -/
theorem step_append_own {P : Program} {ops : Array Oper} {o : Oper} {a : Act} {w : World} {K : Act → World → Prop} {Q : Exit → Act → World → Prop} {E : Prop}
    (hg : o.guard = none) (s x : Operand) (t : TypeId) (hop : o.op = Op.call { callee := Callee.builtin Builtin.append, args := #[s, x], argTypes := #[t, t] })
    (base : Nat) (e : TypeId) (i : TypeInfo) (z : Value) (size bytes : Nat) (h1 : P.underlying t = some (.slice e)) (h2 : P.info? e = some i) (h3 : i.zero = some z) (h4 : i.size = size) (h5 : i.bytes = bytes) (h6 : z.cells.size = size) (h7 : 0 < size)
    (v : Value) (n : Nat) (xs : List Value) (hs : a.eval s = v) (hown : w.ownsRow base e size v n xs)
    (ad : Addr) (m c : Nat) (news : List Value) (hx : a.eval x = .slice (some ad) m c) (hn : news.length = m * size) (hc : ∀ j u, news[j]? = some u → w.cell? (ad.add j) = some u) (h1c : ∀ u ∈ news, u.oneCell' = true)
    (b1 : n + m ≤ maxLen) (b2 : (n + m) * bytes ≤ 140737488355328) (b4 : base ≤ w.heap.size)
    (hK : ∀ v' w', w'.ownsRow base e size v' (n + m) (xs ++ news) → w.grownBy w' v.ownBlock → K (a.put o.dst v') w') :
    if Region.wanted o (yielded ops a.tmps) = true then Oper.wp P o a w K Q else E := by
  have hw : Region.wanted o (yielded ops a.tmps) = true := by simp [Region.wanted, hg]
  rw [if_pos hw]
  obtain ⟨v', w', hrun, r1, r2, _⟩ := run_append_own (P := P) w base t o.type e i z size bytes h1 h2 h3 h4 h5 h6 h7 v n xs hown ad m c news hn hc h1c b1 b2 b4
  unfold Oper.wp
  simp [execOp, hop, resolve, invoke, builtin, hs, hx, hrun, Result.andThen]
  exact hK v' w' r1 r2

/-- What holds at each round of the specification's Drop. -/
structure DropInv (w : World) (L : Int) (ao : Option Addr) (key : List UInt8) (l : List Sl) (cap i : Nat) (wr : World) : Prop where
  below : Below w.heap.size w wr
  high : w.heap.size + 3 ≤ wr.heap.size
  box : Two wr w.heap.size (.int .i64 L) (.slice ao l.length cap)
  res : Two wr (w.heap.size + 1) (.int .i64 0) (.slice none 0 0)
  out : ∃ a c, Two wr (w.heap.size + 1 + 1) (.int .i64 L) (.slice a (fil key (l.take i)).length c) ∧ OwnSlots wr (w.heap.size + 3) (.slice a (fil key (l.take i)).length c) (fil key (l.take i))
theorem DropInv.grow {w : World} {L : Int} {ao : Option Addr} {key : List UInt8} {l : List Sl} {cap i : Nat} {wr w1 : World} {o : Obj} {v : Value} {xs : List Sl} (h : DropInv w L ao key l cap i wr) (ho : OwnSlots wr (w.heap.size + 3) v xs) (hg : (wr.alloc o).drew.grownBy w1 v.ownBlock) : Below (w.heap.size + 3) wr w1 := by
  obtain ⟨vs, -, -, hown⟩ := ho
  exact (((Below.refl _ _).alloc h.high _).drew).grown hg (by simp; have := h.high; omega) (fun g hg' => (hown.lt g hg').1)
/-- One slot more is kept. -/
theorem DropInv.step {w : World} {L : Int} {ao : Option Addr} {key : List UInt8} {l : List Sl} {cap i : Nat} {wr w1 : World} {x : Sl} {s : ByteArray} {a a' : Option Addr} {c c' : Nat} {vs : List Value} (h : DropInv w L ao key l cap i wr)
    (hf : fil key (l.take (i + 1)) = fil key (l.take i) ++ [x]) (hs : s.toList = x.1) (hr : RepV vs (fil key (l.take i))) (h1 : ∀ u ∈ vs, u.oneCell' = true)
    (hT : Two wr (w.heap.size + 1 + 1) (.int .i64 L) (.slice a (fil key (l.take i)).length c)) (ho : OwnSlots wr (w.heap.size + 3) (.slice a (fil key (l.take i)).length c) (fil key (l.take i)))
    (hl : vs.length = (fil key (l.take i)).length * 2)
    (hown : w1.ownsRow (w.heap.size + 3) 34 2 (.slice a' ((fil key (l.take i)).length + 1) c') ((fil key (l.take i)).length + 1) (vs ++ [.string s, .int .i64 x.2])) (hg : (wr.alloc (.cells #[.string s, .int .i64 x.2] 34)).drew.grownBy w1 (Value.slice a (fil key (l.take i)).length c).ownBlock) :
    DropInv w L ao key l cap (i + 1) (w1.setCell ⟨w.heap.size + 1 + 1, 1, none⟩ (.slice a' ((fil key (l.take i)).length + 1) c')) := by
  have hB := h.grow ho hg
  have hh := h.high
  have hsz := hB.size
  refine ⟨(h.below.trans (hB.mono (by omega))).setCell (by simp; omega) _, by simp; omega, (h.box.below (by omega) hB).far (by omega), (h.res.below (by omega) hB).far (by omega), a', c', ?_, vs ++ [.string s, .int .i64 x.2], ?_, ?_, ?_⟩
  · rw [hf, List.length_append]; exact (hT.below (by omega) hB).put1 _
  · rw [hf]
    refine hr.append hl ?_
    intro j y hj
    match j, hj with
    | 0, hj => simp at hj; subst hj; exact ⟨s, hs, rfl, rfl⟩
  · intro u hu
    rcases List.mem_append.1 hu with hu | hu
    · exact h1 u hu
    · simp at hu; rcases hu with rfl | rfl <;> rfl
  · rw [hf, List.length_append]
    refine ⟨hown.1, ?_⟩
    rcases hown.2 with h' | ⟨g, cap', cur, e1, e2, e3, e4⟩
    · exact Or.inl h'
    · exact Or.inr ⟨g, cap', cur, e1, e2, (Below.heap_setCell _ ⟨w.heap.size + 1 + 1, 1, none⟩ _ g (by simp; omega)).trans e3, e4⟩

theorem OwnSlots.far {w : World} {B g o : Nat} {v x : Value} {l : List Sl} (h : OwnSlots w B v l) (hg : g < B) : OwnSlots (w.setCell ⟨g, o, none⟩ x) B v l := by
  obtain ⟨vs, h1, h2, h3⟩ := h
  refine ⟨vs, h1, h2, h3.1, ?_⟩
  rcases h3.2 with h | ⟨g', cap, cur, e1, e2, e3, e4⟩
  · exact Or.inl h
  · exact Or.inr ⟨g', cap, cur, e1, e2, (Below.heap_setCell w ⟨g, o, none⟩ x g' (by show g' ≠ g; omega)).trans e3, e4⟩
theorem OwnSlots.mono {w : World} {B B' : Nat} {v : Value} {l : List Sl} (h : OwnSlots w B v l) (hB : B' ≤ B) : OwnSlots w B' v l := by
  obtain ⟨vs, h1, h2, h3⟩ := h
  refine ⟨vs, h1, h2, h3.1, ?_⟩
  rcases h3.2 with h | ⟨g', cap, cur, e1, e2, e3, e4⟩
  · exact Or.inl h
  · exact Or.inr ⟨g', cap, cur, e1, by omega, e3, e4⟩
/-- What the specification's Drop hands back: slots of the call's own. -/
def OwnCacheIs (w : World) (L : Int) (l : List Sl) (e : Ending) (w' : World) : Prop :=
  ∃ ao cap, e = .returned (.agg #[.int .i64 L, .slice ao l.length cap]) ∧ OwnSlots w' w.heap.size (.slice ao l.length cap) l ∧ Below w.heap.size w w'

set_option maxHeartbeats 1000000 in
set_option maxRecDepth 100000 in
theorem refDrop_own (L : Int) (l : List Sl) (key : ByteArray) (ao : Option Addr) (cap : Nat) (hl : l.length * 24 ≤ 140737488355328) (w : World) (h : SlotsAt w ao l) :
    Calls Try.prog 22 #[.agg #[.int .i64 L, .slice ao l.length cap], .string key] w (OwnCacheIs w L (fil key.toList l)) := by
  have H := Lib.hid h
  have HL := Lib.hid hl
  clear h hl
  go_enter Try.func22, Try.ntmps22
  go_wp2_with fail
  refine wp_gen (fun W hW => ?_)
  have HI : Hid (DropInv w L ao key.toList l cap 0 W) := by
    rw [hW]
    refine ⟨((below_here _).alloc (by simp) _).alloc (by simp; omega) _, by simp, ?_, ?_, none, 0, ?_, [], ?_⟩
    · have := ((Two.new w (.int .i64 L) (.slice ao l.length cap)).kept (below_here (.cells #[.int .i64 0, .slice none 0 0] 24))).kept (below_here (.cells #[.int .i64 L, .slice none 0 0] 24))
      exact this
    · have := (Two.new (w.alloc (.cells #[.int .i64 L, .slice ao l.length cap] 24)) (.int .i64 0) (.slice none 0 0)).kept (below_here (.cells #[.int .i64 L, .slice none 0 0] 24))
      simpa using this
    · have := Two.new ((w.alloc (.cells #[.int .i64 L, .slice ao l.length cap] 24)).alloc (.cells #[.int .i64 0, .slice none 0 0] 24)) (.int .i64 L) (.slice none 0 0)
      rw [show ((w.alloc (.cells #[.int .i64 L, .slice ao l.length cap] 24)).alloc (.cells #[.int .i64 0, .slice none 0 0] 24)).heap.size = w.heap.size + 1 + 1 by simp] at this
      exact this
    · exact ⟨by intro j x hx; simp [fil] at hx, by simp, rfl, Or.inl ⟨rfl, rfl⟩⟩
  clear hW
  go_loopw [6] (fun v wr => ∃ i : Nat, v = .int .i64 i ∧ i ≤ l.length ∧ DropInv w L ao key.toList l cap i wr) (fun v _ => l.length - (intOf v).toNat)
  case atStart => exact ⟨0, rfl, Nat.zero_le _, HI.out⟩
  case round =>
    clear HI
    obtain ⟨i, rfl, hi, hI⟩ := hrel
    have HK := Lib.hid hI
    clear hI
    have HLL := HL.out
    obtain ⟨a, c, T, O⟩ := HK.out.out
    have HT := Lib.hid T
    have HO := Lib.hid O
    clear T O
    have hh := HK.out.high
    obtain ⟨b0, b1, -, -⟩ := HK.out.box.all
    obtain ⟨o0, o1, fo0, fo1⟩ := HT.out.all
    by_cases hlt : i < l.length
    · obtain ⟨x, hx⟩ : ∃ x, l[i]? = some x := ⟨l[i], List.getElem?_eq_getElem hlt⟩
      obtain ⟨b, off, rfl, hrow⟩ := (H.out.kept HK.out.below).some (by omega)
      obtain ⟨s, hs, hc, hc2⟩ := hrow i x hx
      have hf := fil_take key.toList l i x hx
      rcases hk : (x.1 == key.toList) with _ | _
      · rw [hk, if_neg (by simp)] at hf
        rw [← hs] at hk
        have HS := Lib.hid hs
        have HF := Lib.hid hf
        have O := HO.out
        obtain ⟨vs, hr, h1, ho⟩ := HO.out
        have hfl : (fil key.toList (l.take i)).length ≤ i := by have := fil_len key.toList (l.take i); simp at this; omega
        have STEP : Hid (∀ a' c' w1, w1.ownsRow (w.heap.size + 3) 34 2 (.slice a' ((fil key.toList (l.take i)).length + 1) c') ((fil key.toList (l.take i)).length + 1) (vs ++ [.string s, .int .i64 x.2]) → (wr.alloc (.cells #[.string s, .int .i64 x.2] 34)).drew.grownBy w1 (Value.slice a (fil key.toList (l.take i)).length c).ownBlock →
            DropInv w L (some ⟨b, off, none⟩) key.toList l cap (i + 1) (w1.setCell ⟨w.heap.size + 1 + 1, 1, none⟩ (.slice a' ((fil key.toList (l.take i)).length + 1) c')) ∧ w1.cell? ⟨w.heap.size + 1 + 1, 1, none⟩ = some (.slice a (fil key.toList (l.take i)).length c) ∧ w1.frozen? ⟨w.heap.size + 1 + 1, 1, none⟩ = false) := by
          intro a' c' w1 q1 q2
          have tt := (HT.out.below (by omega) (HK.out.grow O q2)).all
          exact ⟨HK.out.step hf hs hr h1 HT.out O ho.1 q1 q2, tt.2.1, tt.2.2.2⟩
        have HOW : Hid ((wr.alloc (.cells #[.string s, .int .i64 x.2] 34)).drew.ownsRow (w.heap.size + 3) 34 2 (.slice a (fil key.toList (l.take i)).length c) (fil key.toList (l.take i)).length vs) := (ownsRow_kept ho (below_here _)).drew
        have HNW : Hid (∀ j u, [Value.string s, .int .i64 x.2][j]? = some u → (wr.alloc (.cells #[.string s, .int .i64 x.2] 34)).drew.cell? ((⟨wr.heap.size, 0, none⟩ : Addr).add j) = some u) := by
          intro j u hj
          rw [addr_add]
          match j, hj with
          | 0, hj => simp at hj; subst hj; simp [go_sem]
          | 1, hj => simp at hj; subst hj; simp [go_sem]
        have oA : (wr.alloc (.cells #[.string s, .int .i64 x.2] 34)).cell? ⟨w.heap.size + 1 + 1, 1, none⟩ = some (.slice a (fil key.toList (l.take i)).length c) := by rw [World.cell?_alloc_lt _ _ _ (by show w.heap.size + 1 + 1 < _; omega)]; exact o1
        have H5 : Hid ((fil key.toList (l.take i)).length + 1 ≤ maxLen) := by show _ ≤ _; unfold maxLen; omega
        have H6 : Hid (((fil key.toList (l.take i)).length + 1) * 24 ≤ 140737488355328) := by show _ ≤ _; omega
        have H7 : Hid (w.heap.size + 3 ≤ (wr.alloc (.cells #[.string s, .int .i64 x.2] 34)).drew.heap.size) := by show _ ≤ _; simp; omega
        obtain ⟨i34, hi34, hz0, hz1, hz2⟩ := info_parts info34z
        clear hf hx hrow hs O hr h1 ho HK HT HO hfl
        generalize fil key.toList (l.take i) = fl at *
        go_wp2_with fail
        go_region_law ((refine step_append_own rfl (.tmp 26) (.tmp 32) 22 rfl (w.heap.size + 3) 34 i34 _ 2 24 Try.underlying22 hi34 hz0 hz1 hz2 rfl (by decide) (.slice a fl.length c) _ _ (by simp [go_sem]; done) HOW.out ⟨wr.heap.size, 0, none⟩ 1 1 [.string s, .int .i64 x.2] (by simp [go_sem]; done) rfl HNW.out (by simp [Value.oneCell']) H5.out H6.out H7.out ?_; intro v' w1 hown hgr; obtain ⟨a', c', rfl⟩ := own_slice hown; obtain ⟨st, g1, g2⟩ := STEP.out _ _ w1 hown hgr; have ST := Lib.hid st; clear st hown hgr))
        all_goals
          go_wp2_with fail
          go_roundw
          case rel => exact ⟨i + 1, by go_num, by omega, ST.out⟩
          case measure => simp [intOf]; omega
      · rw [hk, if_pos rfl, List.append_nil] at hf
        rw [← hs] at hk
        have HF := Lib.hid hf
        have HS := Lib.hid hs
        clear hf hx hrow hs
        go_wp2_with fail
        go_roundw
        case rel =>
          refine ⟨i + 1, by go_num, by omega, HK.out.below, HK.out.high, HK.out.box, HK.out.res, a, c, ?_⟩
          rw [HF.out]; exact ⟨HT.out, HO.out⟩
        case measure => simp [intOf]; omega
    · have hi2 : i = l.length := by omega
      subst hi2
      have E1 : fil key.toList (l.take l.length) = fil key.toList l := by rw [List.take_length]
      rw [E1] at o1 HT HO
      clear E1
      have R1 := HK.out.res.all
      obtain ⟨r0, r1, fr0, fr1⟩ := R1
      have HR := Lib.hid HK.out.res
      have HB := Lib.hid HK.out.below
      clear HK
      go_wp2_with fail
      have E := (HR.out.put (.int .i64 L) (.slice a (fil key.toList l).length c)).all
      refine bodyPost_ret (v := .agg #[.int .i64 L, .slice a (fil key.toList l).length c]) (by simp [results, Try.results22, go_sem, E.1, E.2.1]) rfl ?_
      exact ⟨a, c, rfl, ((HO.out.far (by omega)).far (by omega)).mono (by omega), (HB.out.setCell (by simp) _).setCell (by simp) _⟩
theorem refDrop_any (L : Int) (l : List Sl) (key : ByteArray) (ao : Option Addr) (cap : Nat) (hl : l.length * 24 ≤ 140737488355328) (w : World) (h : SlotsAt w ao l) :
    Calls Try.prog 22 #[.agg #[.int .i64 L, .slice ao l.length cap], .string key] w (CacheIs w L (fil key.toList l)) := by
  refine (refDrop_own L l key ao cap hl w h).mono ?_
  rintro e w' ⟨a, c, rfl, ho, hb⟩
  obtain ⟨a2, c2, hv, hcl, hsl, -⟩ := ho.slots
  injection hv with e1 e2 e3
  subst e1 e3
  exact ⟨a, c, rfl, hcl, hsl, hb⟩
end Go.Proofs.Ytdbfioafcpjkpaa
