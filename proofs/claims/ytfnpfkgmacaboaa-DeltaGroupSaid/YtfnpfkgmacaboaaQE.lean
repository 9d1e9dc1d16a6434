/-
  delta.At answers as the reference's At: the plain law, the contract.
-/
import Derived.Test.YtfnpfkgmacaboaaQD
import Derived.Test.YtfnpfkgmacaboaaQB
import Derived.Test.YtfnpfkgmacaboaaLC
namespace Go.Proofs.Ytfnpfkgmacaboaa
open Go.ChangeShapes Go.WideShapes Go.ChangeAt Go.RowKit
set_option linter.unusedVariables false
set_option linter.unusedSimpArgs false

theorem sumK_at0 (t : Int) (k : RK) : ∀ (l : List Dl) (a : Int), (((atD l t).map Dl.kn).foldl (fun s x => if x.1 = ((0, k) : DK) then IntKind.i64.wrap (x.2 + s) else s) a) = ((l.map Dl.kn).foldl (fun s x => if x.1.1 ≤ t ∧ x.1.2 = k then IntKind.i64.wrap (s + x.2) else s) a)
  | [], a => rfl
  | x :: l, a => by
    by_cases h : x.tick ≤ t
    · have e : atD (x :: l) t = x.at0 :: atD l t := by simp [atD, h]
      rw [e, List.map_cons, List.foldl_cons, List.map_cons, List.foldl_cons, sumK_at0 t k l]
      congr 1
      show (if ((0, x.r.key) : DK) = (0, k) then IntKind.i64.wrap (x.n + a) else a) = if x.tick ≤ t ∧ x.r.key = k then IntKind.i64.wrap (a + x.n) else a
      rw [Int.add_comm]
      simp [h]
    · have e : atD (x :: l) t = atD l t := by simp [atD, h]
      rw [e, List.map_cons, List.foldl_cons, sumK_at0 t k l]
      congr 1
      show a = if x.tick ≤ t ∧ x.r.key = k then IntKind.i64.wrap (a + x.n) else a
      rw [if_neg (fun e => h e.1)]
theorem sumK_at (l : List Dl) (t : Int) (k : RK) : sumK ((atD l t).map Dl.kn) ((0, k) : DK) = cntK (l.map Dl.kn) k t := sumK_at0 t k l 0
theorem sumK_not {κ : Type} [DecidableEq κ] (k : κ) : ∀ (d : List (κ × Int)), (∀ x ∈ d, x.1 ≠ k) → sumK d k = 0 := by
  intro d
  unfold sumK
  generalize (0 : Int) = a
  induction d generalizing a with
  | nil => intro _; rfl
  | cons x d ih =>
    intro h
    rw [List.foldl_cons, if_neg (h x (by simp))]
    exact ih a (fun y hy => h y (by simp [hy]))
theorem cntK_not (k : RK) (t : Int) : ∀ (L : List (DK × Int)), (∀ x ∈ L, x.1.2 ≠ k) → cntK L k t = 0 := by
  intro L
  unfold cntK
  generalize (0 : Int) = a
  induction L generalizing a with
  | nil => intro _; rfl
  | cons x L ih =>
    intro h
    rw [List.foldl_cons, if_neg (fun e => h x (by simp) e.2)]
    exact ih a (fun y hy => h y (by simp [hy]))
theorem rowsD_keys (l : List Dl) : (rowsD l).map Rw.key = ((l.map Dl.kn).filter (fun x => decide (0 < x.2))).map (fun x => x.1.2) := by
  induction l with
  | nil => rfl
  | cons x l ih =>
    by_cases h : 0 < x.n
    · have e1 : rowsD (x :: l) = x.r :: rowsD l := by simp [rowsD, h]
      have e2 : decide (0 < (Dl.kn x).2) = true := decide_eq_true h
      rw [e1, List.map_cons, List.map_cons, List.filter_cons, if_pos e2, List.map_cons, ih]
      rfl
    · have e1 : rowsD (x :: l) = rowsD l := by simp [rowsD, h]
      have e2 : ¬ decide (0 < (Dl.kn x).2) = true := fun e => h (of_decide_eq_true e)
      rw [e1, List.map_cons, List.filter_cons, if_neg e2, ih]
theorem cmpD_zero (a b : RK) : cmpD (0, a) (0, b) = cmpR a b := by
  unfold cmpD
  rw [show cmpI (0 : Int) 0 = 0 from rfl]
  simp [orI]
theorem isAt_of (l l3 : List Dl) (t : Int) (hl : ∀ d ∈ l, I64 d.n) (h : l3.map Dl.kn = consK ((atD l t).map Dl.kn)) : IsAt (l.map Dl.kn) t (l.map Dl.kn) ((rowsD l3).map Rw.key) := by
  have hM : ∀ x ∈ (atD l t).map Dl.kn, I64 x.2 := by
    intro x hx
    obtain ⟨d, hd, rfl⟩ := List.mem_map.1 hx
    obtain ⟨y, hy, rfl⟩ := List.mem_map.1 hd
    exact hl y (List.mem_filter.1 hy).1
  have hC := consK_is _ hM
  have h0 : ∀ x ∈ (atD l t).map Dl.kn, x.1.1 = 0 := by
    intro x hx
    obtain ⟨d, hd, rfl⟩ := List.mem_map.1 hx
    obtain ⟨y, hy, rfl⟩ := List.mem_map.1 hd
    rfl
  have hz : ∀ x ∈ consK ((atD l t).map Dl.kn), x.1.1 = 0 := by
    intro x hx
    by_cases e : x.1.1 = 0
    · exact e
    · have := (hC.mem cmpD_cmp x).1 hx
      rw [sumK_not x.1 _ (fun y hy e2 => e (by rw [← e2]; exact h0 y hy))] at this
      exact absurd this.1 this.2
  rw [rowsD_keys, h]
  constructor
  · rw [List.pairwise_map]
    refine List.Pairwise.imp_of_mem ?_ (hC.rising.filter _)
    intro x y hx hy hxy
    have hx0 := hz x (List.mem_filter.1 hx).1
    have hy0 := hz y (List.mem_filter.1 hy).1
    obtain ⟨⟨x1, x2⟩, x3⟩ := x
    obtain ⟨⟨y1, y2⟩, y3⟩ := y
    simp only at hx0 hy0
    subst hx0 hy0
    rw [← cmpD_zero]
    exact hxy
  · intro k
    constructor
    · intro hk
      obtain ⟨x, hx, rfl⟩ := List.mem_map.1 hk
      obtain ⟨hx1, hx2⟩ := List.mem_filter.1 hx
      have hx3 := (hC.mem cmpD_cmp x).1 hx1
      have hx0 := hz x hx1
      obtain ⟨⟨x1, x2⟩, x3⟩ := x
      simp only at hx0 hx3 hx2 ⊢
      subst hx0
      rw [sumK_at] at hx3
      have hp : 0 < cntK (l.map Dl.kn) x2 t := by have := of_decide_eq_true hx2; omega
      refine ⟨?_, hp⟩
      by_cases e : ∃ x ∈ l.map Dl.kn, x.1.2 = x2
      · exact e
      · rw [cntK_not x2 t _ (fun y hy e2 => e ⟨y, hy, e2⟩)] at hp
        omega
    · rintro ⟨_, hp⟩
      refine List.mem_map.2 ⟨((0, k), cntK (l.map Dl.kn) k t), List.mem_filter.2 ⟨(hC.mem cmpD_cmp _).2 ⟨(sumK_at l t k).symm, by show cntK (l.map Dl.kn) k t ≠ 0; omega⟩, by simpa using hp⟩, rfl⟩
theorem fat_any (l : List Dl) (ao : Option Addr) (cap : Nat) (hl : l.length ≤ 10000000) (t : Int) (w : World) (h : DlsAt w ao l) :
    Calls Try.prog 15 #[.slice ao l.length cap, .int .i64 t] w fun e w' => ∃ v rows, e = .returned v ∧ OwnR w' w.heap.size v rows ∧ rows.length ≤ l.length ∧ IsAt (l.map Dl.kn) t (l.map Dl.kn) (rows.map Rw.key) ∧ Below w.heap.size w w' := by
  refine (fat_walk l ao cap hl t w h).mono ?_
  rintro e w' ⟨v, l3, rfl, h1, h2, h3, h4⟩
  exact ⟨v, rowsD l3, rfl, h3, Nat.le_trans (rowsD_len l3) h1, isAt_of l l3 t (fun d hd => (h.2 d hd).n) h2, h4⟩
end Go.Proofs.Ytfnpfkgmacaboaa

/-
  slices.Contains of identifiers; delta.Purge.
-/
namespace Go.Proofs.Ytfnpfkgmacaboaa
open Go.ChangeShapes Go.WideShapes Go.ChangeAt Go.RowKit
set_option linter.unusedVariables false
set_option linter.unusedSimpArgs false

theorem eqF_comm (x y : FID) : eqF x y = eqF y x := by
  rw [Bool.eq_iff_iff, eqF_iff, eqF_iff]; exact ⟨fun h => h.symm, fun h => h.symm⟩
set_option maxHeartbeats 2000000 in
set_option maxRecDepth 100000 in
theorem idx_nil (ao : Option Addr) (c : Nat) (x : FID) (w : World) :
    Calls Try.prog 54 #[.slice ao 0 c, fidV x] w fun e w' => e = .returned (.int .i64 (-1)) ∧ Below w.heap.size w w' := by
  go_enter Try.func54, Try.ntmps54
  go_wp2_with fail
  go_loopw [8] (fun v wr => v = .int .i64 0 ∧ Below w.heap.size w wr) (fun v _ => (0 : Nat))
  case atStart => exact ⟨rfl, below_here _⟩
  case round =>
    obtain ⟨rfl, hB⟩ := hrel
    go_wp2_with fail
    go_ret
    exact ⟨rfl, hB⟩
set_option maxHeartbeats 2000000 in
set_option maxRecDepth 100000 in
theorem cont_nil (ao : Option Addr) (c : Nat) (x : FID) (w : World) :
    Calls Try.prog 36 #[.slice ao 0 c, fidV x] w fun e w' => e = .returned (.bool false) ∧ Below w.heap.size w w' := by
  have HI := Lib.hid (idx_nil ao c x (w.alloc (.cells #[.string x.1, .int .i64 x.2] 36)))
  go_enter Try.func36, Try.ntmps36
  go_wp2_with (go_at_call 54; (with_reducible refine HI.out.mono ?_); rintro e w1 ⟨rfl, hb⟩; have HB := Lib.hid hb; clear hb)
  go_ret
  exact ⟨rfl, keepB (Nat.le_refl _) (below_here _) HB.out⟩
theorem cont_any (l : List FID) (ao : Option Addr) (cap : Nat) (hl : l.length ≤ 4611686018427387904) (x : FID) (w : World) (h : LiesAt fidC 2 w ao l) :
    Calls Try.prog 36 #[.slice ao l.length cap, fidV x] w fun e w' => e = .returned (.bool (memF l x)) ∧ Below w.heap.size w w' := by
  rcases h with rfl | ⟨b, off, rfl, hr⟩
  · exact cont_nil ao cap x w
  · refine (Go.Proofs.AnyQ.slices_Contains (α := FID) Try.contF 2 Try.isAgg36 Try.sizeOf36 fidC (fun _ => rfl) eqF ⟨fun x y w => eql36 x y w, fun op a b x y w => guard36 op a b x y w⟩ b off l.length cap l x w (Nat.le_refl _) (by omega) ?_).mono ?_
    · intro j hj i v hv
      exact hr j l[j]! (by rw [getElem!_pos l j hj]; exact List.getElem?_eq_getElem hj) i v hv
    · rintro e w' ⟨rfl, hb⟩
      refine ⟨?_, hb⟩
      rw [List.take_length]
      unfold memF
      congr 3
      funext y
      exact eqF_comm _ _
set_option maxHeartbeats 2000000 in
set_option maxRecDepth 100000 in
theorem fpurge_any (l : List Dl) (ao : Option Addr) (cap : Nat) (hl : l.length ≤ 100000000) (ids : List FID) (a2 : Option Addr) (c2 : Nat) (hids : ids.length ≤ 4611686018427387904) (w : World) (h : DlsAt w ao l) (h2 : LiesAt fidC 2 w a2 ids) :
    Calls Try.prog 17 #[.slice ao l.length cap, .slice a2 ids.length c2] w fun e w' => ∃ v, e = .returned v ∧ OwnD w' w.heap.size v (purgeD l ids) ∧ Below w.heap.size w w' := by
  have H := Lib.hid h
  have HI := Lib.hid (fun x w' (hb : Below w.heap.size w w') => cont_any ids a2 c2 hids x w' (h2.kept hb))
  clear h h2
  generalize ids.length = nids at *
  clear hids
  go_enter Try.func17, Try.ntmps17
  go_wp2_with fail
  go_loopw [4, 9] (fun v j wr => ∃ (i : Nat) (v0 : Value), v0 = v ∧ i ≤ l.length ∧ j = .int .i64 i ∧ Hid (Own Dl.cells 10 41 wr w.heap.size v (purgeD (l.take i) ids) ∧ (purgeD (l.take i) ids).length ≤ i) ∧ Below w.heap.size w wr) (fun _ j _ => l.length - (intOf j).toNat)
  case atStart => exact ⟨0, _, rfl, by omega, rfl, ⟨Own.nil _ _, Nat.le_refl _⟩, Below.refl _ _⟩
  case round =>
    obtain ⟨i, v0, rfl, hi, rfl, HR, hB⟩ := hrel
    have HB := Lib.hid hB
    clear hB
    by_cases hlt : i < l.length
    · obtain ⟨x, hx⟩ : ∃ x, l[i]? = some x := ⟨l[i], List.getElem?_eq_getElem hlt⟩
      obtain ⟨b, off, rfl, hrow⟩ := (H.out.1.kept HB.out).some (by omega)
      obtain ⟨c0, c1, c2', c3, c4, c5, c6, c7, c8, c9⟩ := Dl.cell hrow hx
      have HX := Lib.hid hx
      have HF : Hid (purgeD (l.take (i + 1)) ids = purgeD (l.take i) ids ++ (if memF ids (x.r.src, x.r.seq) then [] else [x])) := by show _ = _; rw [take_snoc HX.out, purgeD_snoc]
      have HO : Hid (Own Dl.cells 10 41 wr w.heap.size v0 (purgeD (l.take i) ids)) := HR.out.1
      have HLn : Hid ((purgeD (l.take i) ids).length ≤ i) := HR.out.2
      clear hrow hx HR
      generalize purgeD (l.take i) ids = r at *
      go_upto_region 4 with fail
      refine wp_gen (fun X hX => ?_)
      have HG : Hid (Box X wr.heap.size #[.string x.r.src, .int .i64 x.r.seq, .string x.r.tb, .string x.r.ky, .int .i64 x.r.ev, .slice x.r.fa x.r.vs.length x.r.fc, .int .i64 x.r.no, .int .i64 x.r.tk, .int .i64 x.tick, .int .i64 x.n] 41) := by rw [hX]; exact Box.new wr _ _
      have HWX : Hid (Below w.heap.size w X) := by rw [hX]; exact HB.out.alloc HB.out.size _
      have HOX : Hid (Own Dl.cells 10 41 X w.heap.size v0 r) := by rw [hX]; exact HO.out.kept (below_here _)
      have HC := Lib.hid (HI.out (x.r.src, x.r.seq) X HWX.out)
      clear hX c0 c1 c2' c3 c4 c5 c6 c7 c8 c9 HO HB
      obtain ⟨e0, e1, e2, e3, e4, e5, e6, e7, e8, e9⟩ := HG.out.at10
      cases hm : memF ids (x.r.src, x.r.seq)
      · rw [hm] at HF HC
        go_wp2_with (first
          | (go_at_call 36; (with_reducible refine HC.out.mono ?_); rintro e w1 ⟨rfl, hb⟩; have HB1 := Lib.hid hb; obtain ⟨d0, d1, d2, d3, d4, d5, d6, d7, d8, d9⟩ := (HG.out.kept hb).at10; have HX6 : Hid (Below w.heap.size w (w1.alloc (.cells (Dl.cells x).toArray 41))) := (have hz := keepB (Nat.le_refl _) HWX.out hb; hz.alloc hz.size _); have HO6 : Hid (Own Dl.cells 10 41 (w1.alloc (.cells (Dl.cells x).toArray 41)) w.heap.size v0 r) := (HOX.out.kept hb).kept (below_here _); have HS6 : Hid (LiesAt Dl.cells 10 (w1.alloc (.cells (Dl.cells x).toArray 41)) (some ⟨w1.heap.size, 0, none⟩) [x]) := lies_one _ _ encD; have HLa : Hid (r.length + [x].length ≤ 1000000000) := (by show _ ≤ _; have := HLn.out; simp; omega); clear hb)
          | (at_builtin; refine wpList_app elD encD rfl (.tmp 19) (.tmp 21) rfl rfl rfl HO6.out HS6.out rfl (fun e => by cases e) HX6.out.size HLa.out ?_; intro v5 w5 ho hb; have HO5 := Lib.hid ho; have HX5 := Lib.hid (HX6.out.trans hb); clear ho hb))
        go_roundw
        case rel => exact ⟨i + 1, _, rfl, by omega, by go_num, by rw [HF.out]; exact ⟨HO5.out, by have := HLn.out; simp; omega⟩, HX5.out⟩
        case measure => simp [intOf]; omega
      · rw [hm] at HF HC
        go_wp2_with (go_at_call 36; (with_reducible refine HC.out.mono ?_); rintro e w1 ⟨rfl, hb⟩; have HB1 := Lib.hid hb; clear hb)
        go_roundw
        case rel => exact ⟨i + 1, _, rfl, by omega, by go_num, by rw [HF.out]; exact ⟨by simpa using HOX.out.kept HB1.out, by have := HLn.out; simp; omega⟩, keepB (Nat.le_refl _) HWX.out HB1.out⟩
        case measure => simp [intOf]; omega
    · obtain rfl : i = l.length := by omega
      go_wp2_with fail
      go_ret
      exact ⟨_, rfl, ⟨by have := HR.out.1; rwa [List.take_length] at this, fun d hd => (H.out.2 d (List.mem_filter.1 hd).1).kept HB.out⟩, HB.out⟩
end Go.Proofs.Ytfnpfkgmacaboaa
