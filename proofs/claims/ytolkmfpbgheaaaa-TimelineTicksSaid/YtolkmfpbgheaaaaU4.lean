/-
  asofref06.put: a list with one more interval, in order.
-/
import Derived.Test.YtolkmfpbgheaaaaU3
import Derived.WalkSpells
import Derived.Lib.SliceRun
namespace Go.Proofs.Ytolkmfpbgheaaaa
open Go.ChangeShapes Go.WideShapes Go.ChangeAt Go.RowKit
set_option linter.unusedVariables false
set_option linter.unusedSimpArgs false

theorem run_size {P : Program} {e : TypeId} {size : Nat} (hs : (P.info? e).map (·.size) = some size) (w : World) : (sizeOf e).run P w = .ok size w := by
  cases hq : P.info? e with
  | none => simp [hq] at hs
  | some i => simp [hq] at hs; simp [sizeOf, typeInfo, hq, hs]
/-- A cut from a place on. -/
theorem run_from {P : Program} (t e : TypeId) (size : Nat) (ht : P.underlying t = some (.slice e)) (hs : (P.info? e).map (·.size) = some size) (A : Option Addr) (n c lo : Nat) (h : lo ≤ n) :
    ∃ A', (∀ w, (Instr.slice t (.slice A n c) (some (.int .i64 (lo : Int))) none none).run P w = .ok (.slice A' (n - lo) (c - lo)) w) ∧ (A' = none → A = none) ∧ ∀ b off, A = some ⟨b, off, none⟩ → lo < c → A' = some ⟨b, off + lo * size, none⟩ := by
  have he : P.elem t = e := by simp [Program.elem, ht]
  refine ⟨if c = lo then A else A.map (·.add (lo * size)), fun w => ?_, ?_, ?_⟩
  · rw [run_slice_l (P := P) w t A n c (by rw [he]; exact ht) .i64 lo (by omega) (by omega), he, run_size hs]
    simp [sliced, Result.andThen]
  · split <;> simp
  · intro b off ha hc
    rw [if_neg (by omega), ha]
    simp [Addr.add]
/-- A cut up to a place. -/
theorem run_upto {P : Program} (t e : TypeId) (size : Nat) (ht : P.underlying t = some (.slice e)) (hs : (P.info? e).map (·.size) = some size) (A : Option Addr) (n c hi : Nat) (h : hi ≤ c) (w : World) :
    (Instr.slice t (.slice A n c) none (some (.int .i64 (hi : Int))) none).run P w = .ok (.slice A hi c) w := by
  have he : P.elem t = e := by simp [Program.elem, ht]
  rw [run_slice_h (P := P) w t A n c (by rw [he]; exact ht) .i64 hi (by omega) (by omega), he, run_size hs]
  cases A with
  | none => simp [sliced, Result.andThen]
  | some a => simp [sliced, Result.andThen, Addr.add]
theorem size23 : (Try.prog.info? 23).map (·.size) = some 2 := by kernel_rfl

theorem RowAt.take {w : World} {b off : Nat} {l : List Iv} (h : RowAt w b off l) (n : Nat) : RowAt w b off (l.take n) := by
  intro i x hx
  have hi : i < n := by
    have := (List.getElem?_eq_some_iff.1 hx).1
    simp at this; omega
  rw [List.getElem?_take_of_lt hi] at hx
  exact h i x hx
theorem RowAt.drop {w : World} {b off : Nat} {l : List Iv} (h : RowAt w b off l) (n : Nat) : RowAt w b (off + n * 2) (l.drop n) := by
  intro i x hx
  rw [List.getElem?_drop] at hx
  have := h _ x hx
  rwa [show off + n * 2 + i * 2 = off + (n + i) * 2 by omega]
theorem RowAt.cells {w : World} {b off : Nat} {l : List Iv} (h : RowAt w b off l) : ∀ j v, (ivCells l)[j]? = some v → w.cell? ⟨b, off + j, none⟩ = some v := by
  intro j v hj
  have hl := (List.getElem?_eq_some_iff.1 hj).1
  rw [ivCells_length] at hl
  obtain ⟨q1, q2⟩ := ivCells_get l (j / 2) l[j / 2] (List.getElem?_eq_getElem (by omega))
  obtain ⟨c1, c2⟩ := h (j / 2) l[j / 2] (List.getElem?_eq_getElem (by omega))
  rcases Nat.mod_two_eq_zero_or_one j with e | e
  · rw [show j / 2 * 2 = j by omega] at q1 c1
    rw [q1] at hj; injection hj with hj; rw [← hj]; exact c1
  · rw [show j / 2 * 2 + 1 = j by omega] at q2
    rw [show off + j / 2 * 2 + 1 = off + j by omega] at c2
    rw [q2] at hj; injection hj with hj; rw [← hj]; exact c2
theorem OwnIv.mono {w : World} {B B' : Nat} {v : Value} {l : List Iv} (h : OwnIv w B v l) (hB : B' ≤ B) : OwnIv w B' v l := by
  refine ⟨h.1, ?_⟩
  rcases h.2 with h | ⟨g, cap, cur, h1, h2, h3⟩
  · exact Or.inl h
  · exact Or.inr ⟨g, cap, cur, h1, by omega, h3⟩
/-- A list of intervals is appended to a list of the call's own. -/
theorem wpList_appL {w : World} {ops : Array Oper} {rest : List Oper} {o : Oper} {a : Act} {Q : Exit → Act → World → Prop} {B : Nat} {v : Value} {l k : List Iv} {ao : Option Addr} {n c : Nat} (hgd : o.guard = none) (s x : Operand)
    (ho : o.op = .call { callee := .builtin .append, args := #[s, x], argTypes := #[24, 24] }) (hs : a.eval s = v) (hx : a.eval x = .slice ao n c)
    (hO : OwnIv w B v l) (hS : SlotsAt w ao k) (hn : n = k.length) (hc : ao = none → c = 0) (hB : B ≤ w.heap.size) (hl : l.length + k.length < 4398046511104)
    (h : ∀ v' w1, OwnIv w1 B v' (l ++ k) → Below B w w1 → wpList Try.prog ops Q rest (a.put o.dst v') w1) :
    wpList Try.prog ops Q (o :: rest) a w := by
  obtain ⟨i23, hi23, hz0, hz1, hz2⟩ := info_parts info23
  subst hn
  cases ao with
  | none =>
    have hk : k = [] := by
      rcases hS with h | ⟨_, _, h, _⟩
      · exact h
      · cases h
    subst hk
    have h0 := hc rfl
    subst h0
    refine wpList_append_own_none hgd s x 24 ho B 23 i23 2 Try.underlying24 hi23 v _ _ hs hO hx ?_
    exact h v w (by rw [List.append_nil]; exact hO) (Below.refl _ _)
  | some ad =>
    have hcells : ∀ j v, (ivCells k)[j]? = some v → w.cell? (ad.add j) = some v := by
      intro j u hj
      rcases hS with rfl | ⟨b, off, he, hr⟩
      · simp [ivCells] at hj
      · injection he with he; subst he
        rw [addr_add]; exact hr.cells j u hj
    refine wpList_append_own _ hgd s x 24 ho B 23 i23 _ 2 16 Try.underlying24 hi23 hz0 hz1 hz2 rfl (by decide) v _ _ hs hO ad k.length c (ivCells k) hx (ivCells_length k) hcells (ivCells_one' k) (by unfold maxLen; omega) (by omega) hB ?_
    intro v' w1 hown hgr _
    refine h v' w1 ?_ ((Below.refl _ _).grown hgr hB (fun g hg => (hO.lt g hg).1))
    unfold OwnIv
    rw [ivCells_append, List.length_append]; exact hown
theorem OwnIv.lit {W : World} {B : Nat} (hB : B ≤ W.heap.size) : OwnIv (W.alloc (.cells #[] 23)) B (.slice (some ⟨W.heap.size, 0, none⟩) 0 0) [] := World.ownsRow_lit W #[] 0 hB (by unfold maxLen; omega) rfl
/-- Where a slice of intervals lies, when it is cut. -/
theorem SlotsAt.take {w : World} {ao : Option Addr} {l : List Iv} (h : SlotsAt w ao l) (i : Nat) : SlotsAt w ao (l.take i) := by
  rcases h with rfl | ⟨b, off, rfl, h⟩
  · exact Or.inl (by simp)
  · exact Or.inr ⟨b, off, rfl, h.take i⟩

/-- One more interval, behind those that begin no later. -/
def putI (l : List Iv) (x : Iv) : List Iv := l.takeWhile (fun y => decide (y.1 ≤ x.1)) ++ x :: l.dropWhile (fun y => decide (y.1 ≤ x.1))
theorem putI_at {l : List Iv} {x : Iv} {i : Nat} (hi : i ≤ l.length) (h1 : ∀ j y, j < i → l[j]? = some y → y.1 ≤ x.1) (h2 : ∀ y, l[i]? = some y → x.1 < y.1) : putI l x = l.take i ++ [x] ++ l.drop i := by
  unfold putI
  induction l generalizing i with
  | nil => simp
  | cons y l ih =>
    cases i with
    | zero =>
      have := h2 y rfl
      have hd : decide (y.1 ≤ x.1) = false := by simp; omega
      simp [List.takeWhile, List.dropWhile, hd]
    | succ i =>
      have := h1 0 y (by omega) rfl
      have hd : decide (y.1 ≤ x.1) = true := by simpa using this
      have := ih (i := i) (by simpa using hi) (fun j z hj hz => h1 (j + 1) z (by omega) (by simpa using hz)) (fun z hz => h2 z (by simpa using hz))
      simp only [List.takeWhile, List.dropWhile, hd, List.take_succ_cons, List.drop_succ_cons, List.cons_append] at this ⊢
      rw [this]
theorem putI_perm (l : List Iv) (x : Iv) : (x :: l).Perm (putI l x) := by
  unfold putI
  have := (List.perm_middle (a := x) (l₁ := l.takeWhile (fun y => decide (y.1 ≤ x.1))) (l₂ := l.dropWhile (fun y => decide (y.1 ≤ x.1)))).symm
  rwa [List.takeWhile_append_dropWhile] at this
theorem putI_sorted (l : List Iv) (x : Iv) (h : Sorted1 l) : Sorted1 (putI l x) := by
  unfold Sorted1 at *
  induction l with
  | nil => simp [putI]
  | cons y l ih =>
    rw [List.pairwise_cons] at h
    have hi := ih h.2
    unfold putI at hi ⊢
    by_cases hd : y.1 ≤ x.1
    · have hd' : decide (y.1 ≤ x.1) = true := by simpa using hd
      simp only [List.takeWhile, List.dropWhile, hd', List.cons_append]
      rw [List.pairwise_cons]
      refine ⟨?_, hi⟩
      intro z hz
      have := (putI_perm l x).mem_iff.2 hz
      simp at this
      rcases this with rfl | this
      · exact hd
      · exact h.1 z this
    · have hd' : decide (y.1 ≤ x.1) = false := by simpa using hd
      simp only [List.takeWhile, List.dropWhile, hd', List.nil_append]
      rw [List.pairwise_cons, List.pairwise_cons]
      refine ⟨?_, h⟩
      intro z hz
      simp at hz
      rcases hz with rfl | hz
      · omega
      · have := h.1 z hz; omega
theorem putI_length (l : List Iv) (x : Iv) : (putI l x).length = l.length + 1 := by
  have := (putI_perm l x).length_eq
  simpa using this.symm

set_option maxHeartbeats 4000000 in
set_option maxRecDepth 100000 in
theorem put_any (l : List Iv) (ao : Option Addr) (cap : Nat) (hl : l.length < 1099511627776) (hlc : l.length ≤ cap) (hcap : ao = none → cap = 0) (x1 x2 : Int) (w : World) (h : SlotsAt w ao l) :
    Calls Try.prog 32 #[.slice ao l.length cap, iv x1 x2] w fun e w' => ∃ v, e = .returned v ∧ OwnIv w' w.heap.size v (putI l (x1, x2)) ∧ Below w.heap.size w w' := by
  have H := Lib.hid h
  have HC := Lib.hid hcap
  clear h hcap
  go_enter Try.func32, Try.ntmps32
  go_wp2_with fail
  refine wp_gen (fun W hW => ?_)
  have HW : Hid (Below w.heap.size w W) := by rw [hW]; exact below_here _
  have HT : Hid (Two W w.heap.size (.int .i64 x1) (.int .i64 x2)) := by rw [hW]; exact Two.new _ _ _
  clear hW
  go_loopw [5] (fun v wr => ∃ i : Nat, i ≤ l.length ∧ v = .int .i64 i ∧ Hid (∀ j y, j < i → l[j]? = some y → y.1 ≤ x1) ∧ Below W.heap.size W wr) (fun v _ => l.length - (intOf v).toNat)
  case atStart => exact ⟨0, by omega, rfl, Lib.hid (fun j y hj => by omega), Below.refl _ _⟩
  case round =>
    obtain ⟨i, hi, rfl, hlow, hB⟩ := hrel
    have HB := Lib.hid hB
    have HBw := Lib.hid (HW.out.trans (hB.mono HW.out.size))
    obtain ⟨t0, t1, -, -⟩ := (HT.out.kept hB).all
    by_cases hlt : i < l.length
    · obtain ⟨y, hy⟩ : ∃ y, l[i]? = some y := ⟨l[i], List.getElem?_eq_getElem hlt⟩
      obtain ⟨b, off, rfl, hrow⟩ := (H.out.kept HBw.out).some (by omega)
      obtain ⟨c1, c2⟩ := hrow i y hy
      have hi0 : (0 : Int) ≤ (i : Int) := by omega
      have hil : (i : Int) < (l.length : Int) := by omega
      have HY := Lib.hid hy
      obtain ⟨y1, y2⟩ := y
      clear hrow hy hB
      by_cases hc : y1 ≤ x1
      · have HL : Hid (∀ j y, j < i + 1 → l[j]? = some y → y.1 ≤ x1) := by
          intro j z hj hz
          by_cases e : j = i
          · subst e; rw [HY.out] at hz; injection hz with hz; subst hz; exact hc
          · exact hlow.out j z (by omega) hz
        have hcd : decide (y1 ≤ x1) = true := by simpa using hc
        go_wp2_with fail
        go_quiet (fail)
        go_wp2_with fail
        go_roundw
        case rel => exact ⟨i + 1, by omega, by go_num, HL, below_drewN HB.out _⟩
        case measure => simp [intOf]; omega
      · have hcd : decide (y1 ≤ x1) = false := by simpa using hc
        have hhi : ∀ y, l[i]? = some y → x1 < y.1 := by intro z hz; rw [HY.out] at hz; injection hz with hz; subst hz; show x1 < y1; omega
        clear hc
        have HPI : Hid (putI l (x1, x2) = l.take i ++ [(x1, x2)] ++ l.drop i) := putI_at hi hlow.out hhi
        have hcu := fun w => run_upto (P := Try.prog) 24 23 2 Try.underlying24 size23 (some ⟨b, off, none⟩) l.length cap i (by omega) w
        obtain ⟨A, hcf, hA1, hA2⟩ := run_from (P := Try.prog) 24 23 2 Try.underlying24 size23 (some ⟨b, off, none⟩) l.length cap i hi
        have HS3 : Hid (∀ w', Below W.heap.size W w' → SlotsAt w' A (l.drop i)) := by
          intro w' hb
          by_cases hd : i < l.length
          · obtain ⟨b', off', he, hr⟩ := ((H.out.kept HW.out).kept hb).some (by omega)
            exact Or.inr ⟨b', off' + i * 2, hA2 b' off' he (by omega), hr.drop i⟩
          · exact Or.inl (List.drop_eq_nil_of_le (by omega))
        have HS1 : Hid (∀ w', Below W.heap.size W w' → SlotsAt w' (some ⟨b, off, none⟩) (l.take i)) := fun w' hb => ((H.out.kept HW.out).kept hb).take i
        have HA : Hid (A = none → cap - i = 0) := fun h => by have := HC.out (hA1 h); omega
        have HTL : Hid (i = (l.take i).length) := by show _ = _; simp; omega
        have HDL : Hid (l.length - i = (l.drop i).length) := by show _ = _; simp
        have HT0 : Hid (∀ w', Below W.heap.size W w' → w'.cell? ⟨w.heap.size, 0, none⟩ = some (.int .i64 x1) ∧ w'.cell? ⟨w.heap.size, 1, none⟩ = some (.int .i64 x2)) := fun w' hb => ⟨(HT.out.kept hb).all.1, (HT.out.kept hb).all.2.1⟩
        clear hA1 hA2 hlow
        go_wp2_with fail
        go_quiet (fail)
        generalize hX : wr.drewN nq = X
        have HX : Hid (Below W.heap.size W X) := by rw [← hX]; exact below_drewN HB.out _
        have HO1 : Hid (OwnIv (X.alloc (.cells #[] 23)) W.heap.size (.slice (some ⟨X.heap.size, 0, none⟩) 0 0) []) := OwnIv.lit HX.out.size
        have HX1 : Hid (Below W.heap.size W (X.alloc (.cells #[] 23))) := HX.out.alloc HX.out.size _
        have HL1 : Hid (([] : List Iv).length + (l.take i).length < 4398046511104) := by show _ < _; simp; omega
        clear hX t0 t1
        go_wp2_with (at_builtin; (first | (refine wpList_appL rfl (.tmp 23) (.tmp 26) rfl rfl rfl HO1.out (HS1.out _ HX1.out) HTL.out HC.out HX1.out.size HL1.out ?_; intro v1 w1 ho hb; have HO2 := Lib.hid ho; have HX2 := Lib.hid (HX1.out.trans hb); obtain ⟨tb0, tb1⟩ := HT0.out _ HX2.out; have HL2 : Hid (([] ++ l.take i).length < 4398046511104) := (show _ < _ by simp; omega); have HZ2 : Hid (W.heap.size ≤ w1.heap.size) := HX2.out.size; clear ho hb) | (refine wpList_app rfl (.tmp 28) (.tmp 30) rfl rfl rfl HO2.out HZ2.out HL2.out ?_; intro v2 w2 ho hb; have HO3 := Lib.hid ho; have HX3 := Lib.hid (HX2.out.trans hb); have HL3 : Hid (([] ++ l.take i ++ [(x1, x2)]).length + (l.drop i).length < 4398046511104) := (show _ < _ by simp; omega); clear ho hb) | (refine wpList_appL rfl (.tmp 32) (.tmp 35) rfl rfl rfl HO3.out (HS3.out _ HX3.out) HDL.out HA.out HX3.out.size HL3.out ?_; intro v3 w3 ho hb; have HO4 := Lib.hid ho; have HX4 := Lib.hid (HX3.out.trans hb); clear ho hb)))
        go_ret
        exact ⟨_, rfl, by rw [HPI.out]; exact HO4.out.mono HW.out.size, HW.out.trans (HX4.out.mono HW.out.size)⟩
    · have hhi : ∀ y, l[i]? = some y → x1 < y.1 := by intro z hz; have := (List.getElem?_eq_some_iff.1 hz).1; omega
      have hcd : decide (i < l.length) = false := by simpa using hlt
      have HPI : Hid (putI l (x1, x2) = l.take i ++ [(x1, x2)] ++ l.drop i) := putI_at hi hlow.out hhi
      have hcu := fun w => run_upto (P := Try.prog) 24 23 2 Try.underlying24 size23 ao l.length cap i (by omega) w
      obtain ⟨A, hcf, hA1, hA2⟩ := run_from (P := Try.prog) 24 23 2 Try.underlying24 size23 ao l.length cap i hi
      have HS3 : Hid (∀ w', Below W.heap.size W w' → SlotsAt w' A (l.drop i)) := by
        intro w' hb
        by_cases hd : i < l.length
        · obtain ⟨b', off', he, hr⟩ := ((H.out.kept HW.out).kept hb).some (by omega)
          exact Or.inr ⟨b', off' + i * 2, hA2 b' off' he (by omega), hr.drop i⟩
        · exact Or.inl (List.drop_eq_nil_of_le (by omega))
      have HS1 : Hid (∀ w', Below W.heap.size W w' → SlotsAt w' ao (l.take i)) := fun w' hb => ((H.out.kept HW.out).kept hb).take i
      have HA : Hid (A = none → cap - i = 0) := fun h => by have := HC.out (hA1 h); omega
      have HTL : Hid (i = (l.take i).length) := by show _ = _; simp; omega
      have HDL : Hid (l.length - i = (l.drop i).length) := by show _ = _; simp
      have HT0 : Hid (∀ w', Below W.heap.size W w' → w'.cell? ⟨w.heap.size, 0, none⟩ = some (.int .i64 x1) ∧ w'.cell? ⟨w.heap.size, 1, none⟩ = some (.int .i64 x2)) := fun w' hb => ⟨(HT.out.kept hb).all.1, (HT.out.kept hb).all.2.1⟩
      clear hA1 hA2 hlow
      go_wp2_with fail
      go_quiet (fail)
      generalize hX : wr.drewN nq = X
      have HX : Hid (Below W.heap.size W X) := by rw [← hX]; exact below_drewN HB.out _
      have HO1 : Hid (OwnIv (X.alloc (.cells #[] 23)) W.heap.size (.slice (some ⟨X.heap.size, 0, none⟩) 0 0) []) := OwnIv.lit HX.out.size
      have HX1 : Hid (Below W.heap.size W (X.alloc (.cells #[] 23))) := HX.out.alloc HX.out.size _
      have HL1 : Hid (([] : List Iv).length + (l.take i).length < 4398046511104) := by show _ < _; simp; omega
      clear hX t0 t1
      go_wp2_with (at_builtin; (first | (refine wpList_appL rfl (.tmp 23) (.tmp 26) rfl rfl rfl HO1.out (HS1.out _ HX1.out) HTL.out HC.out HX1.out.size HL1.out ?_; intro v1 w1 ho hb; have HO2 := Lib.hid ho; have HX2 := Lib.hid (HX1.out.trans hb); obtain ⟨tb0, tb1⟩ := HT0.out _ HX2.out; have HL2 : Hid (([] ++ l.take i).length < 4398046511104) := (show _ < _ by simp; omega); have HZ2 : Hid (W.heap.size ≤ w1.heap.size) := HX2.out.size; clear ho hb) | (refine wpList_app rfl (.tmp 28) (.tmp 30) rfl rfl rfl HO2.out HZ2.out HL2.out ?_; intro v2 w2 ho hb; have HO3 := Lib.hid ho; have HX3 := Lib.hid (HX2.out.trans hb); have HL3 : Hid (([] ++ l.take i ++ [(x1, x2)]).length + (l.drop i).length < 4398046511104) := (show _ < _ by simp; omega); clear ho hb) | (refine wpList_appL rfl (.tmp 32) (.tmp 35) rfl rfl rfl HO3.out (HS3.out _ HX3.out) HDL.out HA.out HX3.out.size HL3.out ?_; intro v3 w3 ho hb; have HO4 := Lib.hid ho; have HX4 := Lib.hid (HX3.out.trans hb); clear ho hb)))
      go_ret
      exact ⟨_, rfl, by rw [HPI.out]; exact HO4.out.mono HW.out.size, HW.out.trans (HX4.out.mono HW.out.size)⟩
end Go.Proofs.Ytolkmfpbgheaaaa
