/-
  slices.Clone of entries; delta.From.
-/
import Derived.Test.YtfnpfkgmacaboaaTF
namespace Go.Proofs.Ytfnpfkgmacaboaa
open Go.ChangeShapes Go.WideShapes Go.ChangeAt Go.RowKit Go.Maps
set_option linter.unusedVariables false
set_option linter.unusedSimpArgs false

theorem cloneE_any (l : List En) (ao : Option Addr) (c : Nat) (hl : l.length ≤ 100000000) (hsp : ∀ a, ao = some a → a.spot = none) (w : World) (h : LiesAt En.cells 40 w ao l) :
    Calls Try.prog 40 #[.slice ao l.length c] w fun e w' => ∃ v, e = .returned v ∧ Own En.cells 40 70 w' w.heap.size v l ∧ Below w.heap.size w w' := by
  cases ao with
  | none =>
    have hn : l = [] := by
      rcases h with h | ⟨_, _, h, _⟩
      · exact h
      · cases h
    subst hn
    refine (Go.Proofs.AnyE.slices_Clone_nil Try.cloneE 0 c w).mono ?_
    rintro e w' ⟨rfl, rfl⟩
    exact ⟨_, rfl, Own.nil _ _, Below.refl _ _⟩
  | some a =>
    obtain ⟨i, z, hi, hz0, hz1, hz2, hz3⟩ := elE.parts
    have hcells : ∃ b off, a = ⟨b, off, none⟩ ∧ ∀ j u, (encs En.cells l)[j]? = some u → w.cell? ⟨b, off + j, none⟩ = some u := by
      rcases h with rfl | ⟨b, off, he, hr⟩
      · have := hsp a rfl
        obtain ⟨b, off, sp⟩ := a
        cases this
        exact ⟨b, off, rfl, fun j u hj => by simp [encs] at hj⟩
      · injection he with he
        exact ⟨b, off, he, fun j u hj => hr.cells encE.len (by decide) j u hj⟩
    obtain ⟨b, off, rfl, hc⟩ := hcells
    have hs70 : ∀ w, (sizeOf 70).run Try.prog w = .ok 40 w := fun w => run_size elE.size w
    refine (Go.Proofs.AnyE.slices_Clone Try.cloneE i z 40 528 hi hz0 hz1 hz2 hz3 (by decide) hs70 b off l.length c (encs En.cells l) w (encs_length encE.len l) (by unfold maxLen; omega) (by omega) hc (encs_cell' encE.one l)).mono ?_
    rintro e w' ⟨v, rfl, ho, -, hb⟩
    exact ⟨v, rfl, ho, hb⟩
/-! ### one list of effective rows -/
theorem EffIs.unique {l : List En} {t : Int} {p q : List Rw} (hp : EffIs l t p) (hq : EffIs l t q) : p = q := by
  have nd : ∀ {p : List Rw}, EffIs l t p → p.Nodup := fun h => h.rise.imp (fun {x y} h e => by rw [e, cmpE_cmp.refl] at h; omega)
  refine List.Perm.eq_of_pairwise (le := fun x y => cmpE x.ek y.ek < 0) (fun a b _ _ h1 h2 => ?_) hp.rise hq.rise ((List.perm_ext_iff_of_nodup (nd hp) (nd hq)).2 fun r => ⟨fun h => hq.all _ _ (hp.mem r h), fun h => hp.all _ _ (hq.mem r h)⟩)
  have := cmpE_cmp.trans _ _ _ h1 h2
  rw [cmpE_cmp.refl] at this
  omega
open Classical in
noncomputable def effL (l : List En) (t : Int) : List Rw := if h : ∃ rows, EffIs l t rows then Classical.choose h else []
theorem effL_is {l : List En} {t : Int} {rows : List Rw} (h : EffIs l t rows) : effL l t = rows := by
  have hex : ∃ rows, EffIs l t rows := ⟨rows, h⟩
  unfold effL
  rw [dif_pos hex]
  exact (Classical.choose_spec hex).unique h
theorem effL_any (l : List En) (ao : Option Addr) (c : Nat) (t : Int) (hl : l.length ≤ 100000) (w : World) (h : EnsAt w ao l) :
    Calls Try.prog 38 #[.slice ao l.length c, .int .i64 t] w fun e w' => ∃ v, e = .returned v ∧ SlR w' v (effL l t) ∧ EffIs l t (effL l t) ∧ (effL l t).length ≤ l.length ∧ (∀ g, v.ownBlock = some g → w.heap.size ≤ g) ∧ Below w.heap.size w w' := by
  refine (eff_any l ao c t hl w h).mono ?_
  rintro e w' ⟨v, rows, rfl, h1, h2, h3, h4, h5⟩
  rw [effL_is h2]
  exact ⟨v, rfl, h1, h2, h3, h4, h5⟩
/-! ### From in plain words -/
/-- Does the entry after the i-th one have the same tick? -/
def sameNext (l : List En) (i : Nat) : Bool := match l[i]?, l[i + 1]? with
  | some x, some y => y.tick == x.tick
  | _, _ => false
def tickAt (l : List En) (i : Nat) : Int := match l[i]? with
  | some x => x.tick
  | none => 0
noncomputable def frStep (l : List En) (s : List Dl × List Rw) (i : Nat) : List Dl × List Rw :=
  if sameNext l i = true then s else (s.1 ++ betD s.2 (effL l (tickAt l i)) (tickAt l i), effL l (tickAt l i))
noncomputable def frS (l : List En) (n : Nat) : List Dl × List Rw := (List.range n).foldl (frStep l) ([], [])
noncomputable def fromL (l : List En) : List Dl := (frS l l.length).1
theorem frS_succ (l : List En) (i : Nat) : frS l (i + 1) = frStep l (frS l i) i := by
  unfold frS
  rw [List.range_succ, List.foldl_append]; rfl
section
variable {P : Program} {ops : Array Oper} {rest : List Oper} {o1 o2 o3 : Oper} {a : Act} {w : World} {Q : Exit → Act → World → Prop}
/-- A new variable; another slot is set; what lies in the variable. -/
theorem wpList_boxM (hg1 : o1.guard = none) (hg2 : o2.guard = none) (hg3 : o3.guard = none) (ty : TypeId) (x y z : Operand) (h1 : o1.op = .alloc ty) (h2 : o2.op = .assign z) (h3 : o3.op = .store ty x y) (hd : o3.dst = none) (L : List Value) (u : Value)
    (hz : (a.put o1.dst (.pointer (some ⟨w.heap.size, 0, none⟩))).eval z = u) (hx : ((a.put o1.dst (.pointer (some ⟨w.heap.size, 0, none⟩))).put o2.dst u).eval x = .pointer (some ⟨w.heap.size, 0, none⟩)) (hy : ((a.put o1.dst (.pointer (some ⟨w.heap.size, 0, none⟩))).put o2.dst u).eval y = .agg L.toArray)
    (hi : (P.info? ty).map (fun i => (i.zero.map (fun z => z.cells.size), i.size)) = some (some L.length, L.length)) (hone : ∀ v ∈ L, v.oneCell' = true)
    (h : wpList P ops Q rest ((a.put o1.dst (.pointer (some ⟨w.heap.size, 0, none⟩))).put o2.dst u) (w.alloc (.cells L.toArray ty))) : wpList P ops Q (o1 :: o2 :: o3 :: rest) a w := by
  obtain ⟨i, hq, z0, hz0, hs, hzs⟩ := zero_parts hi
  refine wpList_plain hg1 fun K hK => ?_
  unfold Oper.wp
  rw [run_alloc_op ty h1 _ i z0 hq hz0]
  refine hK _ _ (wpList_plain hg2 fun K hK => ?_)
  have e2 : (execOp (a.put o1.dst (.pointer (some ⟨w.heap.size, 0, none⟩))).eval o2).run P (w.alloc (.cells z0.cells ty)) = .ok (.value u) (w.alloc (.cells z0.cells ty)) := by
    unfold execOp
    simp only [h2, hz]
    rfl
  unfold Oper.wp
  rw [e2]
  refine hK _ _ (wpList_plain hg3 fun K hK => ?_)
  unfold Oper.wp
  rw [run_store_op ty x y h3 _ w.heap.size L.toArray z0.cells ty hx hy (heap_alloc_new w _) (by simp [hq, hs]) (by simpa using hzs) (by simpa using hone), setRow_alloc]
  refine hK _ _ ?_
  rw [hd]
  exact h
end
theorem effL_ok {l : List En} {t : Int} {w : World} (hl : ∀ x ∈ l, x.Ok w) : ∀ r ∈ effL l t, r.Ok w := by
  intro r hr
  unfold effL at hr
  split at hr
  · rename_i h
    have hs := Classical.choose_spec h
    have he := hs.mem r hr
    refine effF_ok hl ?_ he
    unfold effF at he
    split at he
    · rename_i b hb
      exact basesF_ok (untl l t) (fun x hx => (hl x (untl_mem hx).1).base) _ b hb
    · cases he
  · cases hr
theorem frS_ok {l : List En} {w : World} (hl : ∀ x ∈ l, x.Ok w) : ∀ i, i ≤ l.length → (∀ d ∈ (frS l i).1, d.Ok w) ∧ ∀ r ∈ (frS l i).2, r.Ok w := by
  intro i
  induction i with
  | zero => intro _; exact ⟨fun d hd => by simp [frS] at hd, fun r hr => by simp [frS] at hr⟩
  | succ i ih =>
    intro hi
    obtain ⟨h1, h2⟩ := ih (by omega)
    obtain ⟨x, hx⟩ : ∃ x, l[i]? = some x := ⟨l[i], List.getElem?_eq_getElem hi⟩
    have ht : I64 (tickAt l i) := by unfold tickAt; rw [hx]; exact (hl x (List.mem_of_getElem? hx)).ints.2.1
    rw [frS_succ]
    unfold frStep
    split
    · exact ⟨h1, h2⟩
    · refine ⟨fun d hd => ?_, effL_ok hl⟩
      rcases List.mem_append.1 hd with hd | hd
      · exact h1 d hd
      · unfold betD at hd
        rcases List.mem_append.1 hd with hd | hd <;> obtain ⟨y, hy, rfl⟩ := List.mem_map.1 hd
        · exact ⟨h2 y hy, ht, i64_small _ (by simp)⟩
        · exact ⟨effL_ok hl y hy, ht, i64_small _ (by simp)⟩
/-- A list is appended to a list of the call's own: which block is turned. -/
theorem wpList_appG {P : Program} {α : Type} {enc : α → List Value} {k bytes : Nat} {e t : TypeId} {w : World} {B : Nat} {v : Value} {l m : List α} {ops : Array Oper} {rest : List Oper} {o : Oper} {a : Act} {Q : Exit → Act → World → Prop} {ao : Option Addr} {n c : Nat} (E : El P e t k bytes) (hE : Enc enc k) (hgd : o.guard = none) (s x : Operand)
    (ho : o.op = .call { callee := .builtin .append, args := #[s, x], argTypes := #[t, t] }) (hs : a.eval s = v) (hx : a.eval x = .slice ao n c)
    (hO : Own enc k e w B v l) (hS : LiesAt enc k w ao m) (hn : n = m.length) (hc : ao = none → c = 0) (hB : B ≤ w.heap.size) (hl : l.length + m.length ≤ 1000000000)
    (h : ∀ v' w1, Own enc k e w1 B v' (l ++ m) → w.grownBy w1 v.ownBlock → (v'.ownBlock = v.ownBlock ∨ v'.ownBlock = some w.heap.size) → wpList P ops Q rest (a.put o.dst v') w1) :
    wpList P ops Q (o :: rest) a w := by
  obtain ⟨i, z, hi, hz0, hz1, hz2, hz3⟩ := E.parts
  have hpos := E.pos
  have hfew := E.few
  subst hn
  cases ao with
  | none =>
    have hk : m = [] := by
      rcases hS with h | ⟨_, _, h, _⟩
      · exact h
      · cases h
    subst hk
    have h0 := hc rfl
    subst h0
    refine wpList_append_own_none hgd s x t ho B e i k E.und hi v _ _ hs hO hx ?_
    exact h v w (by rw [List.append_nil]; exact hO) ⟨rfl, rfl, rfl, Nat.le_refl _, fun _ _ _ => rfl⟩ (Or.inl rfl)
  | some ad =>
    have hcells : ∀ j v, (encs enc m)[j]? = some v → w.cell? (ad.add j) = some v := by
      intro j u hj
      rcases hS with rfl | ⟨b, off, he, hr⟩
      · simp [encs] at hj
      · injection he with he; subst he
        rw [addr_add]; exact hr.cells hE.len hpos j u hj
    have hbytes : (l.length + m.length) * bytes ≤ 140737488355328 := Nat.le_trans (Nat.mul_le_mul hl hfew) (by decide)
    obtain ⟨v', w1, hrun, hown, hgr, -, hblk⟩ := run_append_own_at (P := P) w B t o.type e i z k bytes E.und hi hz0 hz1 hz2 hz3 hpos v _ _ hO ad m.length c (encs enc m) (encs_length hE.len m) hcells (encs_cell' hE.one m) (by unfold maxLen; omega) hbytes hB
    refine wpList_plain hgd fun K hK => ?_
    unfold Oper.wp
    simp [execOp, ho, resolve, invoke, builtin, hs, hx, hrun, Result.andThen]
    refine hK _ _ (h v' w1 ?_ hgr hblk)
    unfold Own
    rw [encs_append, List.length_append]; exact hown
theorem LiesAt.same {α : Type} {enc : α → List Value} {k : Nat} {w w' : World} {ao : Option Addr} {l : List α} (h : LiesAt enc k w ao l) (hb : ∀ b off, ao = Option.some ⟨b, off, none⟩ → b < w.heap.size → w'.heap[b]? = w.heap[b]?) (hk : ∀ x ∈ l, 0 < (enc x).length) : LiesAt enc k w' ao l := by
  rcases h with h | ⟨b, off, rfl, h⟩
  · exact Or.inl h
  · refine Or.inr ⟨b, off, rfl, ?_⟩
    intro i x hx j v hv
    have hc := h i x hx j v hv
    have := hb b off rfl (cell_in hc)
    simp only [World.cell?, this] at hc ⊢
    exact hc
theorem wpList_genW {P : Program} {ops : Array Oper} {rest : List Oper} {Q : Exit → Act → World → Prop} {a : Act} {w : World} (h : ∀ V, V = w → wpList P ops Q rest a V) : wpList P ops Q rest a w := h w rfl
/-- The rows lie in a slice that is apart from another one. -/
def RowsIn (w : World) (u v : Value) (l : List Rw) : Prop := ∃ a c, u = .slice a l.length c ∧ LiesAt Rw.cells 8 w a l ∧ ∀ g, u.ownBlock = some g → l = [] ∨ v.ownBlock ≠ some g
theorem RowsIn.kept {w w' : World} {u v : Value} {l : List Rw} (h : RowsIn w u v l) (hb : Below w.heap.size w w') : RowsIn w' u v l := by
  obtain ⟨a, c, h1, h2, h3⟩ := h
  exact ⟨a, c, h1, h2.kept hb, h3⟩
theorem betD_len {A i j L : Nat} {p q : List Rw} (h1 : A ≤ i * 2000) (h2 : p.length ≤ L) (h3 : q.length ≤ L) (hl : L ≤ 1000) (hj : j = i + 1) (hi : i < L) (t : Int) : A + (betD p q t).length ≤ j * 2000 ∧ j * 2000 ≤ 1000000000 := by
  unfold betD
  rw [List.length_append, List.length_map, List.length_map]
  omega
theorem rows_apart {V w6 w7 w8 : World} {a2 : Option Addr} {c2 : Nat} {v0 v8 : Value} {l : List Rw} (h : LiesAt Rw.cells 8 w7 a2 l) (hg : w7.grownBy w8 v0.ownBlock) (hv : v8.ownBlock = v0.ownBlock ∨ v8.ownBlock = some w7.heap.size)
    (h6 : ∀ g, (Value.slice a2 l.length c2).ownBlock = some g → V.heap.size ≤ g) {B : Nat} (hlt : ∀ g, v0.ownBlock = some g → B ≤ g ∧ g < V.heap.size) (hs : V.heap.size ≤ w6.heap.size ∧ w6.heap.size ≤ w7.heap.size) : RowsIn w8 (.slice a2 l.length c2) v8 l := by
  have hb : ∀ b off, a2 = some ⟨b, off, none⟩ → V.heap.size ≤ b := fun b off e => h6 b (by rw [e]; rfl)
  refine ⟨a2, c2, rfl, h.same (fun b off e hb' => hg.block b hb' (fun q => ?_)) (fun x _ => by show 0 < 8; omega), fun g hg' => ?_⟩
  · have h1 := hb b off e
    have h2 := (hlt b q.symm).2
    omega
  · rcases h with h | ⟨b, off, rfl, hr⟩
    · exact Or.inl h
    · by_cases hl : l = []
      · exact Or.inl hl
      · right
        have hgb : b = g := by injection hg'
        subst hgb
        have hlt' : b < w7.heap.size := by
          cases l with
          | nil => exact absurd rfl hl
          | cons x l => exact cell_in (hr 0 x rfl 0 _ rfl)
        have h1 := hb b off rfl
        rcases hv with q | q
        · rw [q]; intro e; have := (hlt b e).2; omega
        · rw [q]; intro e; injection e with e; omega
set_option maxRecDepth 100000 in
set_option maxHeartbeats 8000000 in
theorem from_any (l : List En) (ao : Option Addr) (c : Nat) (hl : l.length ≤ 1000) (w : World) (h : EnsAt w ao l) :
    Calls Try.prog 21 #[.slice ao l.length c] w fun e w' => ∃ v ds, e = .returned v ∧ SlD w' v ds ∧ ds.map Dl.kn = consK ((fromL l).map Dl.kn) ∧ Below w.heap.size w w' := by
  have H := Lib.hid h
  clear h
  go_enter Try.func21, Try.ntmps21
  go_wp2_with fail
  go_loopw [2, 3, 9] (fun v u jj wr => ∃ (i : Nat) (v0 u0 : Value), v0 = v ∧ u0 = u ∧ i ≤ l.length ∧ jj = .int .i64 i ∧ Hid (Own Dl.cells 10 41 wr w.heap.size v (frS l i).1 ∧ (frS l i).1.length ≤ i * 2000) ∧ Hid (RowsIn wr u v (frS l i).2 ∧ (frS l i).2.length ≤ l.length) ∧ Hid (Below w.heap.size w wr)) (fun _ _ jj _ => l.length - (intOf jj).toNat)
  case atStart => exact ⟨0, _, _, rfl, rfl, by omega, rfl, ⟨Own.nil _ _, by simp [frS]⟩, ⟨⟨none, 0, rfl, Or.inl (by simp [frS]), fun g e => by cases e⟩, by simp [frS]⟩, Below.refl _ _⟩
  case round =>
    obtain ⟨i, v0, u0, rfl, rfl, hi, rfl, HD, HU, HB⟩ := hrel
    by_cases hlt : i < l.length
    · obtain ⟨x, hx⟩ : ∃ x, l[i]? = some x := ⟨l[i], List.getElem?_eq_getElem hlt⟩
      obtain ⟨b, off, rfl, hrow⟩ := lies_some (H.out.1.kept HB.out) hx
      have HC : Hid (∀ j v, x.cells[j]? = some v → wr.cell? ⟨b, off + i * 40 + j, none⟩ = some v) := fun j v hv => hrow i x hx j v hv
      have HX := Lib.hid hx
      have HXO : Hid (x.Ok w) := H.out.2 x (List.mem_of_getElem? hx)
      have HROW := Lib.hid hrow
      clear hrow hx
      go_upto_region 5 with (first | (refine wpList_loadE rfl 70 (.tmp 12) rfl b (off + i * 40) x.cells rfl HC.out _ Try.underlying70 rfl (by kernel_rfl) ?_) | (refine wpList_boxM rfl rfl rfl 70 (.tmp 5) (.tmp 13) (.tmp 11) rfl rfl rfl rfl x.cells (.int .i64 (i : Int)) rfl rfl rfl (by kernel_rfl) x.cells_one ?_))
      go_frame
      refine wp_gen (fun X hX => ?_)
      have HBX : Hid (Below w.heap.size w X) := by rw [hX]; exact HB.out.alloc HB.out.size _
      have HKX : Hid (Below wr.heap.size wr X) := by rw [hX]; exact below_here _
      have HG : Hid (Box X wr.heap.size x.cells.toArray 70) := by rw [hX]; exact Box.new _ _ _
      have HDX : Hid (Own Dl.cells 10 41 X w.heap.size v0 (frS l i).1) := HD.out.1.kept HKX.out
      have HUX : Hid (RowsIn X u0 v0 (frS l i).2) := HU.out.1.kept HKX.out
      have k1 := HG.out.cell 1 (.int .i64 x.tick) rfl
      have HTK : Hid (tickAt l i = x.tick) := by show _ = _; unfold tickAt; rw [HX.out]
      clear hX
      obtain ⟨j, hj⟩ : ∃ j, j = i + 1 := ⟨_, rfl⟩
      have ws1 : IntKind.i64.wrap ((i : Int) + 1) = (j : Int) := by rw [IntWalk.i64_in _ (by omega)]; omega
      have HJ := Lib.hid hj
      clear hj
      by_cases hn : i + 1 < l.length ∧ sameNext l i = true
      · obtain ⟨hn1, hn2⟩ := hn
        obtain ⟨y, hy⟩ : ∃ y, l[i + 1]? = some y := ⟨l[i + 1], List.getElem?_eq_getElem hn1⟩
        have hyt : y.tick = x.tick := by
          unfold sameNext at hn2
          rw [HX.out, hy] at hn2
          simpa using hn2
        have hjl : j < l.length := by rw [HJ.out]; exact hn1
        have d1 : decide ((j : Int) < l.length) = true := decide_eq_true (by omega)
        have y1 : X.cell? ⟨b, off + j * 40 + 1, none⟩ = some (.int .i64 x.tick) := by rw [← hyt, HJ.out]; exact cell_kept (HROW.out (i + 1) y hy 1 _ rfl) HKX.out
        have HF : Hid (frS l j = frS l i) := by show _ = _; rw [HJ.out, frS_succ]; unfold frStep; rw [if_pos hn2]
        clear hy hyt hn2
        go_quiet (fail)
        generalize hV : X.drewN nq = V
        have HBV : Hid (Below w.heap.size w V) := by rw [← hV]; exact below_drewN HBX.out _
        have HKV : Hid (Below X.heap.size X V) := by rw [← hV]; exact below_drewN (Below.refl _ _) _
        clear hV
        go_wp2_with fail
        go_roundw
        case rel => exact ⟨j, _, _, rfl, rfl, by rw [HJ.out]; omega, rfl, by rw [HF.out]; exact ⟨HDX.out.kept HKV.out, Nat.le_trans HD.out.2 (Nat.mul_le_mul_right _ (by rw [HJ.out]; omega))⟩, by rw [HF.out]; exact ⟨HUX.out.kept HKV.out, HU.out.2⟩, HBV⟩
        case measure => have := HJ.out; simp [intOf]; omega
      · have hns : sameNext l i = false := by
          cases e : sameNext l i with
          | false => rfl
          | true =>
            refine absurd ⟨?_, e⟩ hn
            unfold sameNext at e
            rw [HX.out] at e
            rcases Nat.lt_or_ge (i + 1) l.length with q | q
            · exact q
            · rw [List.getElem?_eq_none q] at e; cases e
        have HF : Hid (frS l j = ((frS l i).1 ++ betD (frS l i).2 (effL l x.tick) x.tick, effL l x.tick)) := by
          show _ = _; rw [HJ.out, frS_succ]; unfold frStep; rw [if_neg (by rw [hns]; decide), HTK.out]
        have HOKS : Hid (∀ r ∈ (frS l i).2, r.Ok w) := (frS_ok H.out.2 i (by omega)).2
        clear hn
        by_cases hn1 : i + 1 < l.length
        · obtain ⟨y, hy⟩ : ∃ y, l[i + 1]? = some y := ⟨l[i + 1], List.getElem?_eq_getElem hn1⟩
          have hyt : (y.tick == x.tick) = false := by
            unfold sameNext at hns
            rw [HX.out, hy] at hns
            exact hns
          have hjl : j < l.length := by rw [HJ.out]; exact hn1
          have d1 : decide ((j : Int) < l.length) = true := decide_eq_true (by omega)
          have y1 : X.cell? ⟨b, off + j * 40 + 1, none⟩ = some (.int .i64 y.tick) := by rw [HJ.out]; exact cell_kept (HROW.out (i + 1) y hy 1 _ rfl) HKX.out
          clear hy hns
          go_quiet (fail)
          generalize hV : X.drewN nq = V
          have HBV : Hid (Below w.heap.size w V) := by rw [← hV]; exact below_drewN HBX.out _
          have HKV : Hid (Below X.heap.size X V) := by rw [← hV]; exact below_drewN (Below.refl _ _) _
          clear hV
          have HDV : Hid (Own Dl.cells 10 41 V w.heap.size v0 (frS l i).1) := HDX.out.kept HKV.out
          obtain ⟨a1, c1, rfl, hu2, hu3⟩ := HUX.out.kept HKV.out
          have HRA : Hid (RowsAt V a1 (frS l i).2) := ⟨hu2, fun r hr => (HOKS.out r hr).kept HBV.out⟩
          have t1 := (HG.out.kept HKV.out).cell 1 (.int .i64 x.tick) rfl
          have HE := Lib.hid (effL_any l (some ⟨b, off, none⟩) c x.tick (by omega) V (H.out.kept HBV.out))
          have HBT := Lib.hid (fun (a2 : Option Addr) (c2 : Nat) (w6 : World) (hb : Below V.heap.size V w6) (h6 : RowsAt w6 a2 (effL l x.tick)) (h7 : (effL l x.tick).length ≤ 10000000) => between_any (frS l i).2 (effL l x.tick) a1 a2 c1 c2 x.tick HXO.out.ints.2.1 (by have := HU.out.2; omega) h7 w6 (HRA.out.kept hb) h6)
          clear hu2 hu3 k1
          go_wp2_with (first
            | (go_at_call 38; (with_reducible refine HE.out.mono ?_); rintro e w6 ⟨v6, rfl, hs6, he6, hl6, hg6, hb6⟩; obtain ⟨a2, c2, rfl, hs61, hs62, hs63⟩ := hs6; have HR6 := Lib.hid hs63; have HL6 := Lib.hid hl6; have HG6 := Lib.hid hg6; have HB6 := Lib.hid hb6; have HT6 := cell_kept t1 hb6; have HBB6 : Hid (Below w.heap.size w w6) := HBV.out.trans (hb6.mono HBV.out.size); have HBET := Lib.hid (HBT.out a2 c2 w6 hb6 hs63 (by omega)); have HD6 := Lib.hid (HDV.out.kept hb6); clear hs61 hs62 hs63 he6 hl6 hg6 hb6)
            | (go_at_call 39; (with_reducible refine HBET.out.mono ?_); rintro e w7 ⟨v7, rfl, ho7, hb7⟩; obtain ⟨a7, c7, rfl, h71, h72, h73⟩ := ho7.lies; have HO7 := Lib.hid h73; have HC7 := Lib.hid h72; have HB7 : Hid (Below w.heap.size w w7) := HBB6.out.trans (hb7.mono HBB6.out.size); have HD7 := Lib.hid (HD6.out.kept hb7); have HR7 : Hid (LiesAt Rw.cells 8 w7 a2 (effL l x.tick)) := HR6.out.1.kept hb7; have HS7 : Hid (V.heap.size ≤ w6.heap.size ∧ w6.heap.size ≤ w7.heap.size) := ⟨HB6.out.size, hb7.size⟩; have HLa : Hid ((frS l i).1.length + (betD (frS l i).2 (effL l x.tick) x.tick).length ≤ j * 2000 ∧ j * 2000 ≤ 1000000000) := betD_len HD.out.2 HU.out.2 HL6.out hl HJ.out hlt x.tick; clear h71 h72 h73 ho7 hb7)
            | (at_builtin; refine wpList_appG elD encD rfl (.tmp 34) (.tmp 39) rfl rfl rfl HD7.out HO7.out.1 rfl HC7.out HB7.out.size (Nat.le_trans HLa.out.1 HLa.out.2) ?_; intro v8 w8 ho hg hv; have HO8 := Lib.hid ho; have HG8 := Lib.hid hg; have HV8 := Lib.hid hv; clear ho hg hv))
          go_roundw
          case rel => exact ⟨j, _, _, rfl, rfl, by rw [HJ.out]; omega, rfl, by rw [HF.out]; exact ⟨HO8.out, by rw [List.length_append]; exact HLa.out.1⟩, by rw [HF.out]; exact ⟨rows_apart HR7.out HG8.out HV8.out HG6.out HDV.out.lt HS7.out, HL6.out⟩, HB7.out.grown HG8.out HB7.out.size (fun k e => (HD7.out.lt k e).1)⟩
          case measure => have := HJ.out; simp [intOf]; omega
        · have d1 : decide (j < l.length) = false := decide_eq_false (by rw [HJ.out]; omega)
          clear hn1
          clear hns
          go_quiet (fail)
          clear d1
          generalize hV : X.drewN nq = V
          have HBV : Hid (Below w.heap.size w V) := by rw [← hV]; exact below_drewN HBX.out _
          have HKV : Hid (Below X.heap.size X V) := by rw [← hV]; exact below_drewN (Below.refl _ _) _
          clear hV
          have HDV : Hid (Own Dl.cells 10 41 V w.heap.size v0 (frS l i).1) := HDX.out.kept HKV.out
          obtain ⟨a1, c1, rfl, hu2, hu3⟩ := HUX.out.kept HKV.out
          have HRA : Hid (RowsAt V a1 (frS l i).2) := ⟨hu2, fun r hr => (HOKS.out r hr).kept HBV.out⟩
          have t1 := (HG.out.kept HKV.out).cell 1 (.int .i64 x.tick) rfl
          have HE := Lib.hid (effL_any l (some ⟨b, off, none⟩) c x.tick (by omega) V (H.out.kept HBV.out))
          have HBT := Lib.hid (fun (a2 : Option Addr) (c2 : Nat) (w6 : World) (hb : Below V.heap.size V w6) (h6 : RowsAt w6 a2 (effL l x.tick)) (h7 : (effL l x.tick).length ≤ 10000000) => between_any (frS l i).2 (effL l x.tick) a1 a2 c1 c2 x.tick HXO.out.ints.2.1 (by have := HU.out.2; omega) h7 w6 (HRA.out.kept hb) h6)
          clear hu2 hu3 k1
          go_wp2_with (first
            | (go_at_call 38; (with_reducible refine HE.out.mono ?_); rintro e w6 ⟨v6, rfl, hs6, he6, hl6, hg6, hb6⟩; obtain ⟨a2, c2, rfl, hs61, hs62, hs63⟩ := hs6; have HR6 := Lib.hid hs63; have HL6 := Lib.hid hl6; have HG6 := Lib.hid hg6; have HB6 := Lib.hid hb6; have HT6 := cell_kept t1 hb6; have HBB6 : Hid (Below w.heap.size w w6) := HBV.out.trans (hb6.mono HBV.out.size); have HBET := Lib.hid (HBT.out a2 c2 w6 hb6 hs63 (by omega)); have HD6 := Lib.hid (HDV.out.kept hb6); clear hs61 hs62 hs63 he6 hl6 hg6 hb6)
            | (go_at_call 39; (with_reducible refine HBET.out.mono ?_); rintro e w7 ⟨v7, rfl, ho7, hb7⟩; obtain ⟨a7, c7, rfl, h71, h72, h73⟩ := ho7.lies; have HO7 := Lib.hid h73; have HC7 := Lib.hid h72; have HB7 : Hid (Below w.heap.size w w7) := HBB6.out.trans (hb7.mono HBB6.out.size); have HD7 := Lib.hid (HD6.out.kept hb7); have HR7 : Hid (LiesAt Rw.cells 8 w7 a2 (effL l x.tick)) := HR6.out.1.kept hb7; have HS7 : Hid (V.heap.size ≤ w6.heap.size ∧ w6.heap.size ≤ w7.heap.size) := ⟨HB6.out.size, hb7.size⟩; have HLa : Hid ((frS l i).1.length + (betD (frS l i).2 (effL l x.tick) x.tick).length ≤ j * 2000 ∧ j * 2000 ≤ 1000000000) := betD_len HD.out.2 HU.out.2 HL6.out hl HJ.out hlt x.tick; clear h71 h72 h73 ho7 hb7)
            | (at_builtin; refine wpList_appG elD encD rfl (.tmp 34) (.tmp 39) rfl rfl rfl HD7.out HO7.out.1 rfl HC7.out HB7.out.size (Nat.le_trans HLa.out.1 HLa.out.2) ?_; intro v8 w8 ho hg hv; have HO8 := Lib.hid ho; have HG8 := Lib.hid hg; have HV8 := Lib.hid hv; clear ho hg hv))
          go_roundw
          case rel => exact ⟨j, _, _, rfl, rfl, by rw [HJ.out]; omega, rfl, by rw [HF.out]; exact ⟨HO8.out, by rw [List.length_append]; exact HLa.out.1⟩, by rw [HF.out]; exact ⟨rows_apart HR7.out HG8.out HV8.out HG6.out HDV.out.lt HS7.out, HL6.out⟩, HB7.out.grown HG8.out HB7.out.size (fun k e => (HD7.out.lt k e).1)⟩
          case measure => have := HJ.out; simp [intOf]; omega
    · obtain rfl : i = l.length := by omega
      have HOD : Hid (OwnD wr w.heap.size v0 (fromL l)) := ⟨HD.out.1, fun d hd => ((frS_ok H.out.2 l.length (Nat.le_refl _)).1 d hd).kept HB.out⟩
      obtain ⟨a2, c2, rfl, hd1, hd2, hd3⟩ := HOD.out.slD
      have HLD : Hid ((fromL l).length ≤ 10000000) := by have := HD.out.2; show (frS l l.length).1.length ≤ _; omega
      have HCO := Lib.hid (fcons_any (fromL l) a2 c2 HLD.out wr hd3)
      clear hd1 hd2 hd3
      generalize hfl : (fromL l).length = fl at *
      clear hfl
      go_wp2_with (go_at_call 12; (with_reducible refine HCO.out.mono ?_); rintro e w5 ⟨v5, ds, rfl, hs5, hl5, hk5, hb5⟩; have HS5 := Lib.hid hs5; have HK5 := Lib.hid hk5; have HB5 := Lib.hid (HB.out.trans (hb5.mono HB.out.size)); clear hs5 hl5 hk5 hb5)
      go_ret
      exact ⟨_, ds, rfl, HS5.out, HK5.out, HB5.out⟩
end Go.Proofs.Ytfnpfkgmacaboaa
