/-
  asoflaw20.at, said: a difference, a row.
-/
import Derived.Test.YtfnpfkgmacaboaaTH
import Derived.Deep.RegionHeld3
namespace Go.Proofs.Ytfnpfkgmacaboaa
open Go.ChangeShapes Go.WideShapes Go.ChangeAt Go.RowKit Go.Maps
set_option linter.unusedVariables false
set_option linter.unusedSimpArgs false

theorem encVal : Enc valC 3 := ⟨fun _ => rfl, fun x v hv => by simp [valC] at hv; rcases hv with h | h | h <;> subst h <;> rfl⟩
set_option maxHeartbeats 2000000 in
set_option maxRecDepth 100000 in
theorem at_any (src tb ky : ByteArray) (seq ev no tk t k : Int) (fa : Option Addr) (n c : Nat) (w : World) :
    Calls Try.prog 19 #[.agg #[.string src, .int .i64 seq, .string tb, .string ky, .int .i64 ev, .slice fa n c, .int .i64 no, .int .i64 tk], .int .i64 t, .int .i64 k] w fun e w' =>
      e = .returned (.agg #[.string src, .int .i64 seq, .string tb, .string ky, .int .i64 ev, .slice fa n c, .int .i64 no, .int .i64 tk, .int .i64 t, .int .i64 k]) ∧ Below w.heap.size w w' := by
  go_enter Try.func19, Try.ntmps19
  go_wp2_with fail
  refine bodyPost_ret (v := .agg #[.string src, .int .i64 seq, .string tb, .string ky, .int .i64 ev, .slice fa n c, .int .i64 no, .int .i64 tk, .int .i64 t, .int .i64 k]) (by simp [results, Try.results19, go_sem]) rfl ⟨rfl, below_two _ _⟩
set_option maxHeartbeats 2000000 in
set_option maxRecDepth 100000 in
theorem said_any (no tick : Int) (hno : -1000 ≤ no ∧ no ≤ 1000) (w : World) :
    Calls Try.prog 20 #[.int .i64 no, .int .i64 tick] w fun e w' => ∃ fa, LiesAt valC 3 w' fa [(2, no - 2, ⟨#[]⟩)] ∧
      e = .returned (.agg #[.string ⟨#[115]⟩, .int .i64 1, .string ⟨#[116]⟩, .string ⟨#[117]⟩, .int .i64 3, .slice fa 1 1, .int .i64 no, .int .i64 tick]) ∧ Below w.heap.size w w' := by
  go_enter Try.func20, Try.ntmps20
  go_wp2_with fail
  refine bodyPost_ret (v := .agg #[.string ⟨#[115]⟩, .int .i64 1, .string ⟨#[116]⟩, .string ⟨#[117]⟩, .int .i64 3, .slice (some ⟨w.heap.size + 1, 0, none⟩) 1 1, .int .i64 no, .int .i64 tick]) (by simp [results, Try.results20, go_sem]) rfl ⟨some ⟨w.heap.size + 1, 0, none⟩, ?_, rfl, below_two _ _⟩
  have := lies_one (enc := valC) (k := 3) (e := 59) ((2, no - 2, ⟨#[]⟩) : Val) (w.alloc (.cells #[.string ⟨#[115]⟩, .int .i64 1, .string ⟨#[116]⟩, .string ⟨#[117]⟩, .int .i64 3, .slice (some ⟨w.heap.size + 1, 0, none⟩) 1 1, .int .i64 no, .int .i64 tick] 39)) encVal
  simp only [World.size_alloc] at this
  exact this
/-! ### script -/
abbrev intC (t : Int) : List Value := [.int .i64 t]
def sc0 (a : Option Addr) : En := { zeroE with no := 1, kind := 3, ck := 1, tn := ⟨#[116]⟩, te := ⟨#[117, 115, 101, 114]⟩, ol := fun i => if i = 0 then (a, 1, 1) else (none, 0, 0) }
def scE (a : Option Addr) (i : Nat) (t : Int) : En :=
  if i = 2 then { zeroE with no := 4, tick := t, kind := 1, src := ⟨#[115]⟩, seq := 3, fk := 3, ref := 1 }
  else { zeroE with no := i + 2, tick := t, kind := 1, src := ⟨#[115]⟩, seq := i + 1, fk := i + 1, ref := if i = 0 then 0 else 1, tb := ⟨#[116]⟩, ky := ⟨#[117]⟩, ev := 3, fa := a, fc := 1, vs := [(2, i, ⟨#[]⟩)] }
def scA (a0 : Option Addr) (ts : List (Int × Option Addr)) : List En := sc0 a0 :: ts.zipIdx.map (fun p => scE p.1.2 p.2 p.1.1)
theorem scA_snoc (a0 : Option Addr) (ts : List (Int × Option Addr)) (t : Int) (a : Option Addr) : scA a0 (ts ++ [(t, a)]) = scA a0 ts ++ [scE a ts.length t] := by
  unfold scA
  rw [List.zipIdx_append, List.map_append]
  simp
/-- append, as a step of a region that draws its order: which block is turned. -/
theorem step_appG {P : Program} {α : Type} {enc : α → List Value} {k bytes : Nat} {e t : TypeId} {w : World} {B : Nat} {v : Value} {l m : List α} {ops : Array Oper} {o : Oper} {a : Act} {K : Act → World → Prop} {Q : Exit → Act → World → Prop} {ad : Addr} {n c : Nat} {R : Prop} (E : El P e t k bytes) (hE : Enc enc k) (hgd : o.guard = none) (s x : Operand)
    (ho : o.op = .call { callee := .builtin .append, args := #[s, x], argTypes := #[t, t] }) (hs : a.eval s = v) (hx : a.eval x = .slice (some ad) n c)
    (hO : Own enc k e w B v l) (hS : LiesAt enc k w (some ad) m) (hm : m ≠ []) (hn : n = m.length) (hB : B ≤ w.heap.size) (hl : l.length + m.length ≤ 1000000000)
    (h : ∀ v' w1, Own enc k e w1 B v' (l ++ m) → w.grownBy w1 v.ownBlock → (v'.ownBlock = v.ownBlock ∨ v'.ownBlock = some w.heap.size) → K (a.put o.dst v') w1) :
    if Region.wanted o (yielded ops a.tmps) = true then Oper.wp P o a w K Q else R := by
  have hw : Region.wanted o (yielded ops a.tmps) = true := by simp [Region.wanted, hgd]
  rw [if_pos hw]
  obtain ⟨i, z, hi, hz0, hz1, hz2, hz3⟩ := E.parts
  have hpos := E.pos
  have hfew := E.few
  subst hn
  have hcells : ∀ j v, (encs enc m)[j]? = some v → w.cell? (ad.add j) = some v := by
    intro j u hj
    rcases hS with h | ⟨b, off, he, hr⟩
    · exact absurd h hm
    · injection he with he; subst he
      rw [addr_add]; exact hr.cells hE.len hpos j u hj
  have hbytes : (l.length + m.length) * bytes ≤ 140737488355328 := Nat.le_trans (Nat.mul_le_mul hl hfew) (by decide)
  obtain ⟨v', w1, hrun, hown, hgr, -, hblk⟩ := run_append_own_at (P := P) w B t o.type e i z k bytes E.und hi hz0 hz1 hz2 hz3 hpos v _ _ hO ad m.length c (encs enc m) (encs_length hE.len m) hcells (encs_cell' hE.one m) (by unfold maxLen; omega) hbytes hB
  unfold Oper.wp
  simp [execOp, ho, resolve, invoke, builtin, hs, hx, hrun, Result.andThen]
  refine h v' w1 ?_ hgr hblk
  unfold Own
  rw [encs_append, List.length_append]; exact hown
/-- The fields of the facts lie in blocks of their own. -/
def Flds (w : World) (ts : List (Int × Option Addr)) : Prop := ∀ (j : Nat) (p : Int × Option Addr), ts[j]? = some p → ∃ g, p.2 = some ⟨g, 0, none⟩ ∧ Box w g #[.int .i64 2, .int .i64 (j : Int), .string ⟨#[]⟩] 59
theorem Flds.kept {w w' : World} {ts : List (Int × Option Addr)} (h : Flds w ts) (hb : Below w.heap.size w w') : Flds w' ts := fun j p hp => let ⟨g, h1, h2⟩ := h j p hp; ⟨g, h1, h2.kept hb⟩
theorem Flds.grown {w w' : World} {ts : List (Int × Option Addr)} (h : Flds w ts) {B : Nat} {v : Value} {l : List En} (ho : Own En.cells 40 70 w B v l) (hg : w.grownBy w' v.ownBlock) : Flds w' ts := fun j p hp => by
  obtain ⟨g, h1, h2⟩ := h j p hp
  exact ⟨g, h1, (hg.block g h2.lt (fun e => ho.ne_box h2 (by decide) e.symm)).trans h2⟩
theorem Flds.snoc {w : World} {ts : List (Int × Option Addr)} (h : Flds w ts) {t : Int} {g : Nat} (hg : Box w g #[.int .i64 2, .int .i64 (ts.length : Int), .string ⟨#[]⟩] 59) : Flds w (ts ++ [(t, some ⟨g, 0, none⟩)]) := by
  intro j p hp
  rcases Nat.lt_trichotomy j ts.length with q | q | q
  · rw [List.getElem?_append_left q] at hp; exact h j p hp
  · subst q
    rw [List.getElem?_append_right (Nat.le_refl _), Nat.sub_self] at hp
    injection hp with hp
    subst hp
    exact ⟨g, rfl, hg⟩
  · rw [List.getElem?_append_right (by omega), List.getElem?_eq_none (by simp; omega)] at hp; cases hp
theorem sz0 : (⟨#[]⟩ : ByteArray).size ≤ 1048576 := by decide
theorem szs : (⟨#[115]⟩ : ByteArray).size ≤ 1048576 := by decide
theorem szt : (⟨#[116]⟩ : ByteArray).size ≤ 1048576 := by decide
theorem szu : (⟨#[117]⟩ : ByteArray).size ≤ 1048576 := by decide
theorem szuser : (⟨#[117, 115, 101, 114]⟩ : ByteArray).size ≤ 1048576 := by decide
theorem sc0_ok (a : Option Addr) (w : World) : (sc0 a).Ok w :=
  ⟨Or.inl rfl, Nat.zero_le _, fun v hv => (by cases hv), fun v hv => (by cases hv), sz0, sz0, sz0, sz0, sz0, sz0, szt, szuser, by unfold I64 sc0 zeroE; simp⟩
theorem scE_ok (a : Option Addr) (i : Nat) (t : Int) (w : World) (hi : i ≤ 1000) (ht : I64 t) (h : LiesAt valC 3 w a [(2, (i : Int), ⟨#[]⟩)]) : (scE a i t).Ok w := by
  unfold scE
  have h64 : I64 ((i : Int) + 2) ∧ I64 ((i : Int) + 1) ∧ I64 (i : Int) := by unfold I64; omega
  have i0 : I64 0 := by unfold I64; omega
  have i1 : I64 1 := by unfold I64; omega
  have i3 : I64 3 := by unfold I64; omega
  split
  · exact ⟨Or.inl rfl, Nat.zero_le _, fun v hv => (by cases hv), fun v hv => (by cases hv), szs, sz0, sz0, sz0, sz0, sz0, sz0, sz0, (by unfold I64; omega : I64 4), ht, i1, i3, i3, i1, i0, i0, i0, i0⟩
  · refine ⟨h, by show 1 ≤ _; omega, fun v hv => ?_, fun v hv => ?_, szs, szt, szu, sz0, sz0, sz0, sz0, sz0, h64.1, ht, i1, h64.2.1, h64.2.1, ?_, i3, i0, i0, i0⟩
    · simp at hv; subst hv; exact sz0
    · simp at hv; subst hv; exact ⟨by unfold I64; omega, h64.2.2⟩
    · show I64 (if i = 0 then 0 else 1)
      split
      · exact i0
      · exact i1
theorem scA_ok {w : World} {a0 : Option Addr} {ts : List (Int × Option Addr)} (h : Flds w ts) (hl : ts.length ≤ 1000) (ht : ∀ t ∈ ts.map Prod.fst, I64 t) : ∀ e ∈ scA a0 ts, e.Ok w := by
  intro e he
  rcases List.mem_cons.1 he with rfl | he
  · exact sc0_ok a0 w
  · obtain ⟨⟨p, j⟩, hp, rfl⟩ := List.mem_map.1 he
    have hj := List.mk_mem_zipIdx_iff_getElem?.1 hp
    obtain ⟨g, h1, h2⟩ := h j p hj
    refine scE_ok _ _ _ w ?_ (ht _ (List.mem_map.2 ⟨p, List.mem_of_getElem? hj, rfl⟩)) ?_
    · have := (List.getElem?_eq_some_iff.1 hj).1; omega
    · rw [h1]
      exact Or.inr ⟨g, 0, rfl, Lies.of_cells encVal.len (fun k v hv => by rw [encs_one] at hv; rw [Nat.zero_add]; exact h2.cell k v (by simpa [valC] using hv))⟩
set_option maxHeartbeats 8000000 in
set_option maxRecDepth 100000 in
theorem script_any (ticks : List Int) (at0 : Option Addr) (c0 : Nat) (hn : ticks.length ≤ 3) (w : World) (h : LiesAt intC 1 w at0 ticks) (hi : ∀ t ∈ ticks, I64 t) :
    Calls Try.prog 22 #[.slice at0 ticks.length c0] w fun e w' => ∃ a c a0 ts, e = .returned (.slice a (scA a0 ts).length c) ∧ ts.map Prod.fst = ticks ∧ EnsAt w' a (scA a0 ts) ∧ (∀ q, a = some q → q.spot = none) ∧ Below w.heap.size w w' := by
  have H := Lib.hid h
  have HI := Lib.hid hi
  have HBL : ∀ b off, at0 = some ⟨b, off, none⟩ → ∀ {i t}, ticks[i]? = some t → b < w.heap.size := fun b off e {i t} hi => by
    obtain ⟨b', off', e', hr⟩ := lies_some h hi
    rw [e] at e'
    injection e' with e'
    injection e' with e1
    rw [e1]
    exact cell_in (hr i t hi 0 _ rfl)
  clear h hi
  go_enter Try.func22, Try.ntmps22
  go_wp2_with fail
  refine wp_gen (fun X0 hX0 => ?_)
  have HO0 : Hid (Own En.cells 40 70 X0 w.heap.size (.slice (some ⟨w.heap.size + 2, 0, none⟩) 1 1) (scA (some ⟨w.heap.size, 0, none⟩) [])) := by
    have hb : w.heap.size ≤ ((w.alloc (.cells #[.string ⟨#[110]⟩, .int .i64 2, .slice none 0 0, .string ⟨#[]⟩] 90)).alloc (.cells #[.string ⟨#[116]⟩, .string ⟨#[117, 115, 101, 114]⟩, .slice (some ⟨w.heap.size, 0, none⟩) 1 1, .int .i64 0] 54)).heap.size := by simp; omega
    have := World.ownsRow_lit (base := w.heap.size) (e := 70) (size := 40) ((w.alloc (.cells #[.string ⟨#[110]⟩, .int .i64 2, .slice none 0 0, .string ⟨#[]⟩] 90)).alloc (.cells #[.string ⟨#[116]⟩, .string ⟨#[117, 115, 101, 114]⟩, .slice (some ⟨w.heap.size, 0, none⟩) 1 1, .int .i64 0] 54)) (encs En.cells (scA (some ⟨w.heap.size, 0, none⟩) [])).toArray 1 hb (by unfold maxLen; omega) rfl
    rw [hX0]
    simp only [World.size_alloc] at this
    exact this
  have HB0 : Hid (Below w.heap.size w X0) := by rw [hX0]; exact (below_two _ _).alloc (by simp; omega) _
  clear hX0
  go_loopw [4, 5] (fun v jj wr => ∃ (i : Nat) (ts : List (Int × Option Addr)) (a0 : Option Addr) (v0 : Value), v0 = v ∧ i ≤ ticks.length ∧ jj = .int .i64 i ∧ ts.map Prod.fst = ticks.take i ∧ Hid (Own En.cells 40 70 wr w.heap.size v (scA a0 ts)) ∧ Hid (Flds wr ts) ∧ Hid (Below w.heap.size w wr)) (fun _ jj _ => ticks.length - (intOf jj).toNat)
  case atStart => exact ⟨0, [], _, _, rfl, by omega, rfl, rfl, HO0, fun j p hp => by simp at hp, HB0⟩
  case round =>
    obtain ⟨i, ts, a0, v0, rfl, hi, rfl, hts, HO, HK, HB⟩ := hrel
    by_cases hlt : i < ticks.length
    · obtain ⟨t, ht⟩ : ∃ t, ticks[i]? = some t := ⟨ticks[i], List.getElem?_eq_getElem hlt⟩
      obtain ⟨b, off, rfl, hrow⟩ := lies_some (H.out.kept HB.out) ht
      have HROW := Lib.hid hrow
      have HBW : Hid (b < w.heap.size) := HBL b off rfl ht
      have HLT : Hid (ts.length = i) := by show _ = _; have := congrArg List.length hts; simp at this; omega
      have HLN : Hid ((scA a0 ts).length + 1 ≤ 1000000000) := by show _ ≤ _; have := HLT.out; simp [scA]; omega
      have hi3 : i = 0 ∨ i = 1 ∨ i = 2 := by omega
      have HT := Lib.hid ht
      clear ht hi hrow
      rcases hi3 with rfl | rfl | rfl
      · go_upto_region 11 with fail
        refine wp_gen (fun X hX => ?_)
        have HBX : Hid (Below wr.heap.size wr X) := by rw [hX]; exact below_two _ _
        have HB3 : Hid (Box X wr.heap.size #[.int .i64 2, .int .i64 0, .string ⟨#[]⟩] 59) := by rw [hX]; exact (Box.new wr _ _).kept (below_here _)
        have HB8 : Hid (Box X (wr.heap.size + 1) #[.string ⟨#[115]⟩, .int .i64 1, .int .i64 1, .int .i64 0, .string ⟨#[116]⟩, .string ⟨#[117]⟩, .int .i64 3, .slice (some ⟨wr.heap.size, 0, none⟩) 1 1] 49) := by rw [hX]; show Box _ _ _ _; have := Box.new (wr.alloc (.cells #[.int .i64 2, .int .i64 0, .string ⟨#[]⟩] 59)) #[.string ⟨#[115]⟩, .int .i64 1, .int .i64 1, .int .i64 0, .string ⟨#[116]⟩, .string ⟨#[117]⟩, .int .i64 3, .slice (some ⟨wr.heap.size, 0, none⟩) 1 1] 49; simpa using this
        have HTC : Hid (X.cell? ⟨b, off, none⟩ = some (.int .i64 t)) := by have := cell_kept (HROW.out 0 t HT.out 0 _ rfl) HBX.out; show _ = _; simpa using this
        clear hX
        have HS : Hid (∀ w', Below X.heap.size X w' → w'.cell? ⟨wr.heap.size + 1, 0, none⟩ = some (.string ⟨#[115]⟩) ∧ w'.cell? ⟨wr.heap.size + 1, 1, none⟩ = some (.int .i64 1) ∧ w'.cell? ⟨wr.heap.size + 1, 2, none⟩ = some (.int .i64 1) ∧ w'.cell? ⟨wr.heap.size + 1, 3, none⟩ = some (.int .i64 0) ∧ w'.cell? ⟨wr.heap.size + 1, 4, none⟩ = some (.string ⟨#[116]⟩) ∧ w'.cell? ⟨wr.heap.size + 1, 5, none⟩ = some (.string ⟨#[117]⟩) ∧ w'.cell? ⟨wr.heap.size + 1, 6, none⟩ = some (.int .i64 3) ∧ w'.cell? ⟨wr.heap.size + 1, 7, none⟩ = some (.slice (some ⟨wr.heap.size, 0, none⟩) 1 1) ∧ w'.cell? ⟨b, off, none⟩ = some (.int .i64 t)) := fun w' hb => ⟨(HB8.out.kept hb).cell 0 _ rfl, (HB8.out.kept hb).cell 1 _ rfl, (HB8.out.kept hb).cell 2 _ rfl, (HB8.out.kept hb).cell 3 _ rfl, (HB8.out.kept hb).cell 4 _ rfl, (HB8.out.kept hb).cell 5 _ rfl, (HB8.out.kept hb).cell 6 _ rfl, (HB8.out.kept hb).cell 7 _ rfl, cell_kept HTC.out hb⟩
        have HOX : Hid (∀ w', Below X.heap.size X w' → Own En.cells 40 70 w' w.heap.size v0 (scA a0 ts)) := fun w' hb => (HO.out.kept HBX.out).kept hb
        have HSL : Hid (LiesAt En.cells 40 (X.drew.alloc (.cells (scE (some ⟨wr.heap.size, 0, none⟩) 0 t).cells.toArray 70)) (some ⟨X.heap.size, 0, none⟩) [scE (some ⟨wr.heap.size, 0, none⟩) 0 t]) := lies_one (scE (some ⟨wr.heap.size, 0, none⟩) 0 t) X.drew encE
        have HXA : Hid (Below X.heap.size X (X.drew.alloc (.cells (scE (some ⟨wr.heap.size, 0, none⟩) 0 t).cells.toArray 70))) := ((Below.refl _ X).drew).alloc (Nat.le_refl _) _
        have HSZ : Hid (w.heap.size ≤ (X.drew.alloc (.cells (scE (some ⟨wr.heap.size, 0, none⟩) 0 t).cells.toArray 70)).heap.size) := Nat.le_trans HB.out.size (Nat.le_trans HBX.out.size HXA.out.size)
        have HS9 : Hid (∀ w', (X.drew.alloc (.cells (scE (some ⟨wr.heap.size, 0, none⟩) 0 t).cells.toArray 70)).grownBy w' v0.ownBlock → w'.cell? ⟨wr.heap.size + 1, 0, none⟩ = some (.string ⟨#[115]⟩) ∧ w'.cell? ⟨wr.heap.size + 1, 1, none⟩ = some (.int .i64 1) ∧ w'.cell? ⟨wr.heap.size + 1, 2, none⟩ = some (.int .i64 1) ∧ w'.cell? ⟨wr.heap.size + 1, 3, none⟩ = some (.int .i64 0) ∧ w'.cell? ⟨wr.heap.size + 1, 4, none⟩ = some (.string ⟨#[116]⟩) ∧ w'.cell? ⟨wr.heap.size + 1, 5, none⟩ = some (.string ⟨#[117]⟩) ∧ w'.cell? ⟨wr.heap.size + 1, 6, none⟩ = some (.int .i64 3) ∧ w'.cell? ⟨wr.heap.size + 1, 7, none⟩ = some (.slice (some ⟨wr.heap.size, 0, none⟩) 1 1) ∧ w'.cell? ⟨b, off, none⟩ = some (.int .i64 t)) := fun w' hg => by
          have hb8 : Box w' (wr.heap.size + 1) #[.string ⟨#[115]⟩, .int .i64 1, .int .i64 1, .int .i64 0, .string ⟨#[116]⟩, .string ⟨#[117]⟩, .int .i64 3, .slice (some ⟨wr.heap.size, 0, none⟩) 1 1] 49 := (hg.block _ (HB8.out.kept HXA.out).lt (fun e => (HOX.out _ HXA.out).ne_box (HB8.out.kept HXA.out) (by decide) e.symm)).trans (HB8.out.kept HXA.out)
          have htc := cell_kept HTC.out HXA.out
          refine ⟨hb8.cell 0 _ rfl, hb8.cell 1 _ rfl, hb8.cell 2 _ rfl, hb8.cell 3 _ rfl, hb8.cell 4 _ rfl, hb8.cell 5 _ rfl, hb8.cell 6 _ rfl, hb8.cell 7 _ rfl, ?_⟩
          have hbw : b < w.heap.size := HBW.out
          have hblk := hg.block b (Nat.lt_of_lt_of_le hbw HSZ.out) (fun e => by have := ((HOX.out _ HXA.out).lt b e.symm).1; omega)
          simp only [World.cell?, hblk] at htc ⊢
          exact htc
        go_region_held3 (fun w' => w'.cell? ⟨wr.heap.size + 1, 0, none⟩ = some (.string ⟨#[115]⟩) ∧ w'.cell? ⟨wr.heap.size + 1, 1, none⟩ = some (.int .i64 1) ∧ w'.cell? ⟨wr.heap.size + 1, 2, none⟩ = some (.int .i64 1) ∧ w'.cell? ⟨wr.heap.size + 1, 3, none⟩ = some (.int .i64 0) ∧ w'.cell? ⟨wr.heap.size + 1, 4, none⟩ = some (.string ⟨#[116]⟩) ∧ w'.cell? ⟨wr.heap.size + 1, 5, none⟩ = some (.string ⟨#[117]⟩) ∧ w'.cell? ⟨wr.heap.size + 1, 6, none⟩ = some (.int .i64 3) ∧ w'.cell? ⟨wr.heap.size + 1, 7, none⟩ = some (.slice (some ⟨wr.heap.size, 0, none⟩) 1 1) ∧ w'.cell? ⟨b, off, none⟩ = some (.int .i64 t))
          (first | exact HS.out _ ((Below.refl _ _).drew) | exact HS.out _ HXA.out | exact HS9.out _ HG9.out)
          (first | (refine step_appG elE encE rfl (.tmp 40) (.tmp 49) rfl rfl rfl (HOX.out _ HXA.out) HSL.out (by simp) rfl HSZ.out HLN.out ?_; intro v9 w9 ho hg hv; have HO9 := Lib.hid ho; have HG9 := Lib.hid hg; clear ho hg hv))
        go_wp2_with fail
        go_roundw
        case rel => exact ⟨1, ts ++ [(t, some ⟨wr.heap.size, 0, none⟩)], a0, _, rfl, by omega, rfl, by rw [List.map_append, hts, take_snoc HT.out]; rfl, by rw [scA_snoc, HLT.out]; exact HO9, Flds.grown (Flds.snoc ((HK.out.kept HBX.out).kept HXA.out) (by rw [HLT.out]; exact HB3.out.kept HXA.out)) (HOX.out _ HXA.out) HG9.out, (HB.out.trans ((HBX.out.trans (HXA.out.mono HBX.out.size)).mono HB.out.size)).grown HG9.out (Nat.le_trans HB.out.size (Nat.le_trans HBX.out.size HXA.out.size)) (fun k e => ((HOX.out _ HXA.out).lt k e).1)⟩
        case measure => simp [intOf]; omega
      · go_upto_region 11 with fail
        refine wp_gen (fun X hX => ?_)
        have HBX : Hid (Below wr.heap.size wr X) := by rw [hX]; exact below_two _ _
        have HB3 : Hid (Box X wr.heap.size #[.int .i64 2, .int .i64 1, .string ⟨#[]⟩] 59) := by rw [hX]; exact (Box.new wr _ _).kept (below_here _)
        have HB8 : Hid (Box X (wr.heap.size + 1) #[.string ⟨#[115]⟩, .int .i64 2, .int .i64 2, .int .i64 1, .string ⟨#[116]⟩, .string ⟨#[117]⟩, .int .i64 3, .slice (some ⟨wr.heap.size, 0, none⟩) 1 1] 49) := by rw [hX]; show Box _ _ _ _; have := Box.new (wr.alloc (.cells #[.int .i64 2, .int .i64 1, .string ⟨#[]⟩] 59)) #[.string ⟨#[115]⟩, .int .i64 2, .int .i64 2, .int .i64 1, .string ⟨#[116]⟩, .string ⟨#[117]⟩, .int .i64 3, .slice (some ⟨wr.heap.size, 0, none⟩) 1 1] 49; simpa using this
        have HTC : Hid (X.cell? ⟨b, off + 1, none⟩ = some (.int .i64 t)) := by have := cell_kept (HROW.out 1 t HT.out 0 _ rfl) HBX.out; show _ = _; simpa using this
        clear hX
        have HS : Hid (∀ w', Below X.heap.size X w' → w'.cell? ⟨wr.heap.size + 1, 0, none⟩ = some (.string ⟨#[115]⟩) ∧ w'.cell? ⟨wr.heap.size + 1, 1, none⟩ = some (.int .i64 2) ∧ w'.cell? ⟨wr.heap.size + 1, 2, none⟩ = some (.int .i64 2) ∧ w'.cell? ⟨wr.heap.size + 1, 3, none⟩ = some (.int .i64 1) ∧ w'.cell? ⟨wr.heap.size + 1, 4, none⟩ = some (.string ⟨#[116]⟩) ∧ w'.cell? ⟨wr.heap.size + 1, 5, none⟩ = some (.string ⟨#[117]⟩) ∧ w'.cell? ⟨wr.heap.size + 1, 6, none⟩ = some (.int .i64 3) ∧ w'.cell? ⟨wr.heap.size + 1, 7, none⟩ = some (.slice (some ⟨wr.heap.size, 0, none⟩) 1 1) ∧ w'.cell? ⟨b, off + 1, none⟩ = some (.int .i64 t)) := fun w' hb => ⟨(HB8.out.kept hb).cell 0 _ rfl, (HB8.out.kept hb).cell 1 _ rfl, (HB8.out.kept hb).cell 2 _ rfl, (HB8.out.kept hb).cell 3 _ rfl, (HB8.out.kept hb).cell 4 _ rfl, (HB8.out.kept hb).cell 5 _ rfl, (HB8.out.kept hb).cell 6 _ rfl, (HB8.out.kept hb).cell 7 _ rfl, cell_kept HTC.out hb⟩
        have HOX : Hid (∀ w', Below X.heap.size X w' → Own En.cells 40 70 w' w.heap.size v0 (scA a0 ts)) := fun w' hb => (HO.out.kept HBX.out).kept hb
        have HSL : Hid (LiesAt En.cells 40 (X.drew.alloc (.cells (scE (some ⟨wr.heap.size, 0, none⟩) 1 t).cells.toArray 70)) (some ⟨X.heap.size, 0, none⟩) [scE (some ⟨wr.heap.size, 0, none⟩) 1 t]) := lies_one (scE (some ⟨wr.heap.size, 0, none⟩) 1 t) X.drew encE
        have HXA : Hid (Below X.heap.size X (X.drew.alloc (.cells (scE (some ⟨wr.heap.size, 0, none⟩) 1 t).cells.toArray 70))) := ((Below.refl _ X).drew).alloc (Nat.le_refl _) _
        have HSZ : Hid (w.heap.size ≤ (X.drew.alloc (.cells (scE (some ⟨wr.heap.size, 0, none⟩) 1 t).cells.toArray 70)).heap.size) := Nat.le_trans HB.out.size (Nat.le_trans HBX.out.size HXA.out.size)
        have HS9 : Hid (∀ w', (X.drew.alloc (.cells (scE (some ⟨wr.heap.size, 0, none⟩) 1 t).cells.toArray 70)).grownBy w' v0.ownBlock → w'.cell? ⟨wr.heap.size + 1, 0, none⟩ = some (.string ⟨#[115]⟩) ∧ w'.cell? ⟨wr.heap.size + 1, 1, none⟩ = some (.int .i64 2) ∧ w'.cell? ⟨wr.heap.size + 1, 2, none⟩ = some (.int .i64 2) ∧ w'.cell? ⟨wr.heap.size + 1, 3, none⟩ = some (.int .i64 1) ∧ w'.cell? ⟨wr.heap.size + 1, 4, none⟩ = some (.string ⟨#[116]⟩) ∧ w'.cell? ⟨wr.heap.size + 1, 5, none⟩ = some (.string ⟨#[117]⟩) ∧ w'.cell? ⟨wr.heap.size + 1, 6, none⟩ = some (.int .i64 3) ∧ w'.cell? ⟨wr.heap.size + 1, 7, none⟩ = some (.slice (some ⟨wr.heap.size, 0, none⟩) 1 1) ∧ w'.cell? ⟨b, off + 1, none⟩ = some (.int .i64 t)) := fun w' hg => by
          have hb8 : Box w' (wr.heap.size + 1) #[.string ⟨#[115]⟩, .int .i64 2, .int .i64 2, .int .i64 1, .string ⟨#[116]⟩, .string ⟨#[117]⟩, .int .i64 3, .slice (some ⟨wr.heap.size, 0, none⟩) 1 1] 49 := (hg.block _ (HB8.out.kept HXA.out).lt (fun e => (HOX.out _ HXA.out).ne_box (HB8.out.kept HXA.out) (by decide) e.symm)).trans (HB8.out.kept HXA.out)
          have htc := cell_kept HTC.out HXA.out
          refine ⟨hb8.cell 0 _ rfl, hb8.cell 1 _ rfl, hb8.cell 2 _ rfl, hb8.cell 3 _ rfl, hb8.cell 4 _ rfl, hb8.cell 5 _ rfl, hb8.cell 6 _ rfl, hb8.cell 7 _ rfl, ?_⟩
          have hbw : b < w.heap.size := HBW.out
          have hblk := hg.block b (Nat.lt_of_lt_of_le hbw HSZ.out) (fun e => by have := ((HOX.out _ HXA.out).lt b e.symm).1; omega)
          simp only [World.cell?, hblk] at htc ⊢
          exact htc
        go_region_held3 (fun w' => w'.cell? ⟨wr.heap.size + 1, 0, none⟩ = some (.string ⟨#[115]⟩) ∧ w'.cell? ⟨wr.heap.size + 1, 1, none⟩ = some (.int .i64 2) ∧ w'.cell? ⟨wr.heap.size + 1, 2, none⟩ = some (.int .i64 2) ∧ w'.cell? ⟨wr.heap.size + 1, 3, none⟩ = some (.int .i64 1) ∧ w'.cell? ⟨wr.heap.size + 1, 4, none⟩ = some (.string ⟨#[116]⟩) ∧ w'.cell? ⟨wr.heap.size + 1, 5, none⟩ = some (.string ⟨#[117]⟩) ∧ w'.cell? ⟨wr.heap.size + 1, 6, none⟩ = some (.int .i64 3) ∧ w'.cell? ⟨wr.heap.size + 1, 7, none⟩ = some (.slice (some ⟨wr.heap.size, 0, none⟩) 1 1) ∧ w'.cell? ⟨b, off + 1, none⟩ = some (.int .i64 t))
          (first | exact HS.out _ ((Below.refl _ _).drew) | exact HS.out _ HXA.out | exact HS9.out _ HG9.out)
          (first | (refine step_appG elE encE rfl (.tmp 40) (.tmp 49) rfl rfl rfl (HOX.out _ HXA.out) HSL.out (by simp) rfl HSZ.out HLN.out ?_; intro v9 w9 ho hg hv; have HO9 := Lib.hid ho; have HG9 := Lib.hid hg; clear ho hg hv))
        go_wp2_with fail
        go_roundw
        case rel => exact ⟨2, ts ++ [(t, some ⟨wr.heap.size, 0, none⟩)], a0, _, rfl, by omega, rfl, by rw [List.map_append, hts, take_snoc HT.out]; rfl, by rw [scA_snoc, HLT.out]; exact HO9, Flds.grown (Flds.snoc ((HK.out.kept HBX.out).kept HXA.out) (by rw [HLT.out]; exact HB3.out.kept HXA.out)) (HOX.out _ HXA.out) HG9.out, (HB.out.trans ((HBX.out.trans (HXA.out.mono HBX.out.size)).mono HB.out.size)).grown HG9.out (Nat.le_trans HB.out.size (Nat.le_trans HBX.out.size HXA.out.size)) (fun k e => ((HOX.out _ HXA.out).lt k e).1)⟩
        case measure => simp [intOf]; omega
      · go_upto_region 11 with fail
        refine wp_gen (fun X hX => ?_)
        have HBX : Hid (Below wr.heap.size wr X) := by rw [hX]; exact below_two _ _
        have HB3 : Hid (Box X wr.heap.size #[.int .i64 2, .int .i64 2, .string ⟨#[]⟩] 59) := by rw [hX]; exact (Box.new wr _ _).kept (below_here _)
        have HB8 : Hid (Box X (wr.heap.size + 1) #[.string ⟨#[115]⟩, .int .i64 3, .int .i64 3, .int .i64 1, .string ⟨#[]⟩, .string ⟨#[]⟩, .int .i64 0, .slice none 0 0] 49) := by rw [hX]; show Box _ _ _ _; have := Box.new (wr.alloc (.cells #[.int .i64 2, .int .i64 2, .string ⟨#[]⟩] 59)) #[.string ⟨#[115]⟩, .int .i64 3, .int .i64 3, .int .i64 1, .string ⟨#[]⟩, .string ⟨#[]⟩, .int .i64 0, .slice none 0 0] 49; simpa using this
        have HTC : Hid (X.cell? ⟨b, off + 2, none⟩ = some (.int .i64 t)) := by have := cell_kept (HROW.out 2 t HT.out 0 _ rfl) HBX.out; show _ = _; simpa using this
        clear hX
        have HS : Hid (∀ w', Below X.heap.size X w' → w'.cell? ⟨wr.heap.size + 1, 0, none⟩ = some (.string ⟨#[115]⟩) ∧ w'.cell? ⟨wr.heap.size + 1, 1, none⟩ = some (.int .i64 3) ∧ w'.cell? ⟨wr.heap.size + 1, 2, none⟩ = some (.int .i64 3) ∧ w'.cell? ⟨wr.heap.size + 1, 3, none⟩ = some (.int .i64 1) ∧ w'.cell? ⟨wr.heap.size + 1, 4, none⟩ = some (.string ⟨#[]⟩) ∧ w'.cell? ⟨wr.heap.size + 1, 5, none⟩ = some (.string ⟨#[]⟩) ∧ w'.cell? ⟨wr.heap.size + 1, 6, none⟩ = some (.int .i64 0) ∧ w'.cell? ⟨wr.heap.size + 1, 7, none⟩ = some (.slice none 0 0) ∧ w'.cell? ⟨b, off + 2, none⟩ = some (.int .i64 t)) := fun w' hb => ⟨(HB8.out.kept hb).cell 0 _ rfl, (HB8.out.kept hb).cell 1 _ rfl, (HB8.out.kept hb).cell 2 _ rfl, (HB8.out.kept hb).cell 3 _ rfl, (HB8.out.kept hb).cell 4 _ rfl, (HB8.out.kept hb).cell 5 _ rfl, (HB8.out.kept hb).cell 6 _ rfl, (HB8.out.kept hb).cell 7 _ rfl, cell_kept HTC.out hb⟩
        have HOX : Hid (∀ w', Below X.heap.size X w' → Own En.cells 40 70 w' w.heap.size v0 (scA a0 ts)) := fun w' hb => (HO.out.kept HBX.out).kept hb
        have HSL : Hid (LiesAt En.cells 40 (X.drew.alloc (.cells (scE (some ⟨wr.heap.size, 0, none⟩) 2 t).cells.toArray 70)) (some ⟨X.heap.size, 0, none⟩) [scE (some ⟨wr.heap.size, 0, none⟩) 2 t]) := lies_one (scE (some ⟨wr.heap.size, 0, none⟩) 2 t) X.drew encE
        have HXA : Hid (Below X.heap.size X (X.drew.alloc (.cells (scE (some ⟨wr.heap.size, 0, none⟩) 2 t).cells.toArray 70))) := ((Below.refl _ X).drew).alloc (Nat.le_refl _) _
        have HSZ : Hid (w.heap.size ≤ (X.drew.alloc (.cells (scE (some ⟨wr.heap.size, 0, none⟩) 2 t).cells.toArray 70)).heap.size) := Nat.le_trans HB.out.size (Nat.le_trans HBX.out.size HXA.out.size)
        have HS9 : Hid (∀ w', (X.drew.alloc (.cells (scE (some ⟨wr.heap.size, 0, none⟩) 2 t).cells.toArray 70)).grownBy w' v0.ownBlock → w'.cell? ⟨wr.heap.size + 1, 0, none⟩ = some (.string ⟨#[115]⟩) ∧ w'.cell? ⟨wr.heap.size + 1, 1, none⟩ = some (.int .i64 3) ∧ w'.cell? ⟨wr.heap.size + 1, 2, none⟩ = some (.int .i64 3) ∧ w'.cell? ⟨wr.heap.size + 1, 3, none⟩ = some (.int .i64 1) ∧ w'.cell? ⟨wr.heap.size + 1, 4, none⟩ = some (.string ⟨#[]⟩) ∧ w'.cell? ⟨wr.heap.size + 1, 5, none⟩ = some (.string ⟨#[]⟩) ∧ w'.cell? ⟨wr.heap.size + 1, 6, none⟩ = some (.int .i64 0) ∧ w'.cell? ⟨wr.heap.size + 1, 7, none⟩ = some (.slice none 0 0) ∧ w'.cell? ⟨b, off + 2, none⟩ = some (.int .i64 t)) := fun w' hg => by
          have hb8 : Box w' (wr.heap.size + 1) #[.string ⟨#[115]⟩, .int .i64 3, .int .i64 3, .int .i64 1, .string ⟨#[]⟩, .string ⟨#[]⟩, .int .i64 0, .slice none 0 0] 49 := (hg.block _ (HB8.out.kept HXA.out).lt (fun e => (HOX.out _ HXA.out).ne_box (HB8.out.kept HXA.out) (by decide) e.symm)).trans (HB8.out.kept HXA.out)
          have htc := cell_kept HTC.out HXA.out
          refine ⟨hb8.cell 0 _ rfl, hb8.cell 1 _ rfl, hb8.cell 2 _ rfl, hb8.cell 3 _ rfl, hb8.cell 4 _ rfl, hb8.cell 5 _ rfl, hb8.cell 6 _ rfl, hb8.cell 7 _ rfl, ?_⟩
          have hbw : b < w.heap.size := HBW.out
          have hblk := hg.block b (Nat.lt_of_lt_of_le hbw HSZ.out) (fun e => by have := ((HOX.out _ HXA.out).lt b e.symm).1; omega)
          simp only [World.cell?, hblk] at htc ⊢
          exact htc
        go_region_held3 (fun w' => w'.cell? ⟨wr.heap.size + 1, 0, none⟩ = some (.string ⟨#[115]⟩) ∧ w'.cell? ⟨wr.heap.size + 1, 1, none⟩ = some (.int .i64 3) ∧ w'.cell? ⟨wr.heap.size + 1, 2, none⟩ = some (.int .i64 3) ∧ w'.cell? ⟨wr.heap.size + 1, 3, none⟩ = some (.int .i64 1) ∧ w'.cell? ⟨wr.heap.size + 1, 4, none⟩ = some (.string ⟨#[]⟩) ∧ w'.cell? ⟨wr.heap.size + 1, 5, none⟩ = some (.string ⟨#[]⟩) ∧ w'.cell? ⟨wr.heap.size + 1, 6, none⟩ = some (.int .i64 0) ∧ w'.cell? ⟨wr.heap.size + 1, 7, none⟩ = some (.slice none 0 0) ∧ w'.cell? ⟨b, off + 2, none⟩ = some (.int .i64 t))
          (first | exact HS.out _ ((Below.refl _ _).drew) | exact HS.out _ HXA.out | exact HS9.out _ HG9.out)
          (first | (refine step_appG elE encE rfl (.tmp 40) (.tmp 49) rfl rfl rfl (HOX.out _ HXA.out) HSL.out (by simp) rfl HSZ.out HLN.out ?_; intro v9 w9 ho hg hv; have HO9 := Lib.hid ho; have HG9 := Lib.hid hg; clear ho hg hv))
        go_wp2_with fail
        go_roundw
        case rel => exact ⟨3, ts ++ [(t, some ⟨wr.heap.size, 0, none⟩)], a0, _, rfl, by omega, rfl, by rw [List.map_append, hts, take_snoc HT.out]; rfl, by rw [scA_snoc, HLT.out]; exact HO9, Flds.grown (Flds.snoc ((HK.out.kept HBX.out).kept HXA.out) (by rw [HLT.out]; exact HB3.out.kept HXA.out)) (HOX.out _ HXA.out) HG9.out, (HB.out.trans ((HBX.out.trans (HXA.out.mono HBX.out.size)).mono HB.out.size)).grown HG9.out (Nat.le_trans HB.out.size (Nat.le_trans HBX.out.size HXA.out.size)) (fun k e => ((HOX.out _ HXA.out).lt k e).1)⟩
        case measure => simp [intOf]; omega
    · obtain rfl : i = ticks.length := by omega
      rw [List.take_length] at hts
      have HLT : Hid (ts.length = ticks.length) := by show _ = _; have := congrArg List.length hts; simpa using this
      have HOK : Hid (∀ e ∈ scA a0 ts, e.Ok wr) := scA_ok HK.out (by have := HLT.out; omega) (by rw [hts]; exact HI.out)
      have HTS := Lib.hid hts
      obtain ⟨a, c, rfl, -, -, hl⟩ := HO.out.lies encE
      have HL := Lib.hid hl
      have HSP : Hid (∀ q, a = some q → q.spot = none) := by
        intro q hq
        rcases hl with h | ⟨b, off, h, -⟩
        · cases h
        · rw [h] at hq; injection hq with hq; rw [← hq]
      clear hl hts
      go_wp2_with fail
      go_ret
      exact ⟨a, c, a0, ts, rfl, HTS.out, ⟨HL.out, HOK.out⟩, HSP.out, HB.out⟩
end Go.Proofs.Ytfnpfkgmacaboaa
