/-
  Consolidated lists are a group: plain laws.
-/
import Derived.Test.YtfnpfkgmacaboaaRA
namespace Go.Proofs.Ytfnpfkgmacaboaa
set_option linter.unusedVariables false
set_option linter.unusedSimpArgs false
set_option linter.unusedSectionVars false

theorem wrap_mod (n : Int) : (IntKind.i64.wrap n - n) % 18446744073709551616 = 0 := by
  unfold IntKind.wrap
  simp [IntKind.signed, IntKind.bits]
  split <;> omega
theorem same_mod {a b : Int} (ha : I64 a) (hb : I64 b) (h : (a - b) % 18446744073709551616 = 0) : a = b := by
  unfold I64 at ha hb; omega
section
variable {κ : Type} [DecidableEq κ]
/-- The sum of what a list says of a key. -/
def sumT : List (κ × Int) → κ → Int
  | [], _ => 0
  | x :: d, k => (if x.1 = k then x.2 else 0) + sumT d k
theorem sumT_append (k : κ) : ∀ (l m : List (κ × Int)), sumT (l ++ m) k = sumT l k + sumT m k
  | [], m => by simp [sumT]
  | x :: l, m => by
    show (if x.1 = k then x.2 else 0) + sumT (l ++ m) k = ((if x.1 = k then x.2 else 0) + sumT l k) + sumT m k
    rw [sumT_append k l m]; omega
theorem sumK_foldl (k : κ) : ∀ (d : List (κ × Int)) (s : Int), I64 s → (d.foldl (fun s x => if x.1 = k then IntKind.i64.wrap (x.2 + s) else s) s - (s + sumT d k)) % 18446744073709551616 = 0 ∧ I64 (d.foldl (fun s x => if x.1 = k then IntKind.i64.wrap (x.2 + s) else s) s)
  | [], s, h => ⟨by simp [sumT], h⟩
  | x :: d, s, h => by
    rw [List.foldl_cons]
    by_cases e : x.1 = k
    · rw [if_pos e]
      obtain ⟨h1, h2⟩ := sumK_foldl k d (IntKind.i64.wrap (x.2 + s)) (I64.wrap _)
      refine ⟨?_, h2⟩
      have := wrap_mod (x.2 + s)
      rw [show sumT (x :: d) k = x.2 + sumT d k by rw [sumT, if_pos e]]
      omega
    · rw [if_neg e]
      obtain ⟨h1, h2⟩ := sumK_foldl k d s h
      refine ⟨?_, h2⟩
      rw [show sumT (x :: d) k = sumT d k by rw [sumT, if_neg e, Int.zero_add]]
      exact h1
theorem sumK_mod (d : List (κ × Int)) (k : κ) : (sumK d k - sumT d k) % 18446744073709551616 = 0 := by
  have := (sumK_foldl k d 0 (by unfold I64; omega)).1
  rw [Int.zero_add] at this
  exact this
theorem sumK_i64 (d : List (κ × Int)) (k : κ) : I64 (sumK d k) := (sumK_foldl k d 0 (by unfold I64; omega)).2
theorem sumK_of_mod {d e : List (κ × Int)} {k : κ} (h : (sumT d k - sumT e k) % 18446744073709551616 = 0) : sumK d k = sumK e k := by
  have h1 := sumK_mod d k
  have h2 := sumK_mod e k
  exact same_mod (sumK_i64 d k) (sumK_i64 e k) (by omega)
theorem sumT_look {c : κ → κ → Int} (hc : Cmp c) (k : κ) : ∀ (r : List (κ × Int)), Rising c r → sumT r k = look r k
  | [], _ => rfl
  | y :: r, hr => by
    obtain ⟨a1, a2⟩ := List.pairwise_cons.1 hr
    unfold sumT look
    rw [sumT_look hc k r a2]
    by_cases e : y.1 = k
    · rw [if_pos e, if_pos e, look_not r (fun z hz e2 => by have := a1 z hz; rw [e, e2, hc.refl] at this; omega)]
      omega
    · rw [if_neg e, if_neg e]; omega
end
/-- The numbers of a list are ints. -/
def Ints (L : List (DK × Int)) : Prop := ∀ x ∈ L, I64 x.2
theorem Ints.append {L M : List (DK × Int)} (h : Ints L) (k : Ints M) : Ints (L ++ M) := fun x hx => (List.mem_append.1 hx).elim (h x) (k x)
theorem Ints.cons {L : List (DK × Int)} (h : Ints L) : Ints (consK L) := fun x hx => by
  rw [((consK_is L h).mem cmpD_cmp x).1 hx |>.1]
  exact sumK_i64 _ _
theorem Ints.nil : Ints [] := fun x hx => by cases hx
theorem consK_ext {L M : List (DK × Int)} (hL : Ints L) (hM : Ints M) (h : ∀ k, (sumT L k - sumT M k) % 18446744073709551616 = 0) : consK L = consK M := by
  refine IsCons.unique cmpD_cmp (consK_is L hL) ?_
  have := consK_is M hM
  exact ⟨this.rising, this.some, fun k => by rw [this.look, sumK_of_mod (h k)]⟩
theorem sumT_cons {L : List (DK × Int)} (hL : Ints L) (k : DK) : (sumT (consK L) k - sumT L k) % 18446744073709551616 = 0 := by
  have h := consK_is L hL
  rw [sumT_look cmpD_cmp k _ h.rising, h.look]
  exact sumK_mod L k
theorem consK_comm {A B : List (DK × Int)} (hA : Ints A) (hB : Ints B) : consK (A ++ B) = consK (B ++ A) :=
  consK_ext (hA.append hB) (hB.append hA) fun k => by rw [sumT_append, sumT_append]; omega
theorem consK_assoc {A B C : List (DK × Int)} (hA : Ints A) (hB : Ints B) (hC : Ints C) : consK (consK (A ++ B) ++ C) = consK (A ++ consK (B ++ C)) :=
  consK_ext ((hA.append hB).cons.append hC) (hA.append (hB.append hC).cons) fun k => by
    have h1 := sumT_cons (hA.append hB) k
    have h2 := sumT_cons (hB.append hC) k
    rw [sumT_append] at h1 h2 ⊢
    rw [sumT_append]
    omega
theorem consK_twice {A : List (DK × Int)} (hA : Ints A) : consK (consK A) = consK A := consK_ext hA.cons hA (sumT_cons hA)
theorem consK_zero {A : List (DK × Int)} (hA : Ints A) : consK (consK A ++ []) = consK A := by rw [List.append_nil]; exact consK_twice hA
/-- The other way round. -/
def negL (L : List (DK × Int)) : List (DK × Int) := L.map (fun x => (x.1, IntKind.i64.wrap (-x.2)))
theorem negL_ints (L : List (DK × Int)) : Ints (negL L) := fun x hx => by
  obtain ⟨y, hy, rfl⟩ := List.mem_map.1 hx
  exact I64.wrap _
theorem sumT_neg (k : DK) : ∀ (L : List (DK × Int)), (sumT (negL L) k + sumT L k) % 18446744073709551616 = 0
  | [] => by simp [negL, sumT]
  | x :: L => by
    have ih := sumT_neg k L
    have h := wrap_mod (-x.2)
    show (sumT ((x.1, IntKind.i64.wrap (-x.2)) :: negL L) k + sumT (x :: L) k) % _ = 0
    unfold sumT
    by_cases e : x.1 = k
    · simp only [if_pos e]; omega
    · simp only [if_neg e]; omega
theorem consK_back {A : List (DK × Int)} (hA : Ints A) : consK (A ++ negL A) = [] := by
  rw [consK_ext (hA.append (negL_ints A)) Ints.nil (fun k => by
    have := sumT_neg k A
    rw [sumT_append]
    show (sumT A k + sumT (negL A) k - 0) % _ = 0
    omega)]
  rfl
theorem consK_leads {A B : List (DK × Int)} (hA : Ints A) (hB : Ints B) : consK (consK (A ++ B) ++ negL B) = consK A :=
  consK_ext ((hA.append hB).cons.append (negL_ints B)) hA fun k => by
    have h1 := sumT_cons (hA.append hB) k
    have h2 := sumT_neg k B
    rw [sumT_append] at h1 ⊢
    omega
theorem neg_kn (l : List Dl) : (l.map Dl.neg).map Dl.kn = negL (l.map Dl.kn) := by
  unfold negL
  rw [List.map_map, List.map_map]
  rfl
end Go.Proofs.Ytfnpfkgmacaboaa

/-
  asoflaw20.DeltaGroup, walked, given what its example answers.
-/
namespace Go.Proofs.Ytfnpfkgmacaboaa
open Go.ChangeShapes Go.WideShapes Go.ChangeAt Go.RowKit
set_option linter.unusedVariables false
set_option linter.unusedSimpArgs false

theorem addC (l k : List Dl) (a1 a2 : Option Addr) (c1 c2 : Nat) (hl : l.length ≤ 1000000) (hk : k.length ≤ 1000000) (h1c : a1 = none → c1 = 0) (h2c : a2 = none → c2 = 0) (w : World) (h1 : DlsAt w a1 l) (h2 : DlsAt w a2 k) :
    Calls Try.prog 8 #[.slice a1 l.length c1, .slice a2 k.length c2] w fun e w' => ∃ a c l', e = .returned (.slice a l'.length c) ∧ (a = none → c = 0) ∧ DlsAt w' a l' ∧ l'.length ≤ l.length + k.length ∧ l'.map Dl.kn = consK (l.map Dl.kn ++ k.map Dl.kn) ∧ Below w.heap.size w w' := by
  refine (fadd_any l k a1 a2 c1 c2 (by omega) (by omega) h1c h2c w h1 h2).mono ?_
  rintro e w2 ⟨v, l', rfl, ⟨a, c, rfl, -, hn, hd⟩, h1, h2, h3⟩
  exact ⟨a, c, l', rfl, hn, hd, h1, h2, h3⟩
theorem consC (l : List Dl) (a1 : Option Addr) (c1 : Nat) (hl : l.length ≤ 1000000) (w : World) (h1 : DlsAt w a1 l) :
    Calls Try.prog 12 #[.slice a1 l.length c1] w fun e w' => ∃ a c l', e = .returned (.slice a l'.length c) ∧ (a = none → c = 0) ∧ DlsAt w' a l' ∧ l'.length ≤ l.length ∧ l'.map Dl.kn = consK (l.map Dl.kn) ∧ Below w.heap.size w w' := by
  refine (fcons_any l a1 c1 (by omega) w h1).mono ?_
  rintro e w2 ⟨v, l', rfl, ⟨a, c, rfl, -, hn, hd⟩, h1, h2, h3⟩
  exact ⟨a, c, l', rfl, hn, hd, h1, h2, h3⟩
theorem negC (l : List Dl) (a1 : Option Addr) (c1 : Nat) (hl : l.length ≤ 1000000) (hsp : ∀ a, a1 = some a → a.spot = none) (w : World) (h1 : DlsAt w a1 l) :
    Calls Try.prog 10 #[.slice a1 l.length c1] w fun e w' => ∃ a c l', e = .returned (.slice a l'.length c) ∧ (a = none → c = 0) ∧ DlsAt w' a l' ∧ l'.length ≤ l.length ∧ l'.map Dl.kn = negL (l.map Dl.kn) ∧ Below w.heap.size w w' := by
  refine (fneg_any l a1 c1 (by omega) hsp w h1).mono ?_
  rintro e w2 ⟨v, rfl, hd, h3⟩
  obtain ⟨a, c, rfl, -, hn, hd⟩ := hd.lies
  exact ⟨a, c, l.map Dl.neg, rfl, hn, hd, by rw [List.length_map]; exact Nat.le_refl _, neg_kn l, h3⟩
theorem DlsAt.ints {w : World} {a : Option Addr} {l : List Dl} (h : DlsAt w a l) : Ints (l.map Dl.kn) := fun x hx => by
  obtain ⟨d, hd, rfl⟩ := List.mem_map.1 hx
  exact (h.2 d hd).n
set_option maxHeartbeats 16000000 in
set_option maxRecDepth 100000 in
theorem group_any (hex : ExampleYes) (la lb lc : List Dl) (aa ab ac : Option Addr) (ca cb cc : Nat) (hla : la.length ≤ 140737488355328) (hlb : lb.length ≤ 140737488355328) (hlc : lc.length ≤ 140737488355328)
    (hca : aa = none → ca = 0) (hcb : ab = none → cb = 0) (hcc : ac = none → cc = 0) (hsa : ∀ a, aa = some a → a.spot = none) (hsb : ∀ a, ab = some a → a.spot = none) (w : World)
    (h1 : LiesAt Dl.cells 10 w aa la) (s1 : ∀ d ∈ la, d.Seen w) (h2 : LiesAt Dl.cells 10 w ab lb) (s2 : ∀ d ∈ lb, d.Seen w) (h3 : LiesAt Dl.cells 10 w ac lc) (s3 : ∀ d ∈ lc, d.Seen w) :
    Calls Try.prog 4 #[.slice aa la.length ca, .slice ab lb.length cb, .slice ac lc.length cc] w fun e w' => e = .returned (.bool true) ∧ Below w.heap.size w w' := by
  have HX := Lib.hid hex
  have H1 := Lib.hid h1
  have H2 := Lib.hid h2
  have H3 := Lib.hid h3
  have S1 := Lib.hid s1
  have S2 := Lib.hid s2
  have S3 := Lib.hid s3
  have SPa := Lib.hid hsa
  have SPb := Lib.hid hsb
  have Na := Lib.hid hca
  have Nb := Lib.hid hcb
  have Nc := Lib.hid hcc
  have HL1 := Lib.hid hla
  have HL2 := Lib.hid hlb
  have HL3 := Lib.hid hlc
  clear hex h1 h2 h3 s1 s2 s3 hsa hsb hca hcb hcc hla hlb hlc
  go_enter Try.func4, Try.ntmps4
  go_wp2_with fail
  refine (HX.out _).mono ?_
  rintro e w1 ⟨rfl, hb⟩
  have B1 : Hid (Below w.heap.size w w1) := hb
  clear hb
  go_wp2_with fail
  refine (few_any la aa ca HL1.out w1 (H1.out.kept B1.out) (fun d hd => (S1.out d hd).kept B1.out)).mono ?_
  rintro e w2 ⟨b, rfl, hs, hb⟩
  have B2 : Hid (Below w.heap.size w w2) := keepB (Nat.le_refl _) B1.out hb
  have F1 := Lib.hid hs
  clear hb hs B1
  cases b
  · go_wp2_with fail
    go_ret
    exact ⟨rfl, B2.out⟩
  go_wp2_with fail
  refine (few_any lb ab cb HL2.out w2 (H2.out.kept B2.out) (fun d hd => (S2.out d hd).kept B2.out)).mono ?_
  rintro e w3 ⟨b, rfl, hs, hb⟩
  have B3 : Hid (Below w.heap.size w w3) := keepB (Nat.le_refl _) B2.out hb
  have F2 := Lib.hid hs
  clear hb hs B2
  cases b
  · go_wp2_with fail
    go_ret
    exact ⟨rfl, B3.out⟩
  go_wp2_with fail
  refine (few_any lc ac cc HL3.out w3 (H3.out.kept B3.out) (fun d hd => (S3.out d hd).kept B3.out)).mono ?_
  rintro e w4 ⟨b, rfl, hs, hb⟩
  have B4 : Hid (Below w.heap.size w w4) := keepB (Nat.le_refl _) B3.out hb
  have F3 := Lib.hid hs
  clear hb hs B3
  cases b
  · go_wp2_with fail
    go_ret
    exact ⟨rfl, B4.out⟩
  have Ta : Hid (la.length ≤ 60) := (F1.out (by first | rfl | trivial)).1
  have Da : Hid (DlsAt w4 aa la) := ⟨H1.out.kept B4.out, fun d hd => ((S1.out d hd).kept B4.out).ok ((F1.out (by first | rfl | trivial)).2 d hd)⟩
  have Ia : Hid (Ints (la.map Dl.kn)) := Da.out.ints
  have Tb : Hid (lb.length ≤ 60) := (F2.out (by first | rfl | trivial)).1
  have Db : Hid (DlsAt w4 ab lb) := ⟨H2.out.kept B4.out, fun d hd => ((S2.out d hd).kept B4.out).ok ((F2.out (by first | rfl | trivial)).2 d hd)⟩
  have Ib : Hid (Ints (lb.map Dl.kn)) := Db.out.ints
  have Tc : Hid (lc.length ≤ 60) := (F3.out (by first | rfl | trivial)).1
  have Dc : Hid (DlsAt w4 ac lc) := ⟨H3.out.kept B4.out, fun d hd => ((S3.out d hd).kept B4.out).ok ((F3.out (by first | rfl | trivial)).2 d hd)⟩
  have Ic : Hid (Ints (lc.map Dl.kn)) := Dc.out.ints
  have W4 : Hid (Below w4.heap.size w4 w4) := Below.refl _ _
  clear HX H1 H2 H3 S1 S2 S3 HL1 HL2 HL3 F1 F2 F3
  go_wp2_with fail
  refine (consC la aa ca (by have := Ta.out; omega) w4 Da.out).mono ?_
  rintro e w5 ⟨ax, cx, lx, rfl, hn, hd, hl, hm, hb⟩
  have Da := Lib.hid (Da.out.kept hb)
  have Db := Lib.hid (Db.out.kept hb)
  have Dc := Lib.hid (Dc.out.kept hb)
  have Dx := Lib.hid hd
  have Nx := Lib.hid hn
  have Mx := Lib.hid hm
  have Tx : Hid (lx.length ≤ 60) := by show _ ≤ _; have := Ta.out; omega
  have W5 : Hid (Below w4.heap.size w4 w5) := keepB (Nat.le_refl _) W4.out hb
  clear hb hn hd hl hm
  go_wp2_with fail
  refine (addC la lb aa ab ca cb (by have := Ta.out; omega) (by have := Tb.out; omega) Na.out Nb.out w5 Da.out Db.out).mono ?_
  rintro e w6 ⟨ap, cp, lp, rfl, hn, hd, hl, hm, hb⟩
  have Da := Lib.hid (Da.out.kept hb)
  have Db := Lib.hid (Db.out.kept hb)
  have Dc := Lib.hid (Dc.out.kept hb)
  have Dx := Lib.hid (Dx.out.kept hb)
  have Dp := Lib.hid hd
  have Np := Lib.hid hn
  have Mp := Lib.hid hm
  have Tp : Hid (lp.length ≤ 120) := by show _ ≤ _; have := Ta.out; have := Tb.out; omega
  have W6 : Hid (Below w4.heap.size w4 w6) := keepB (Nat.le_refl _) W5.out hb
  clear hb hn hd hl hm
  go_wp2_with fail
  refine (addC lb la ab aa cb ca (by have := Tb.out; omega) (by have := Ta.out; omega) Nb.out Na.out w6 Db.out Da.out).mono ?_
  rintro e w7 ⟨aq, cq, lq, rfl, hn, hd, hl, hm, hb⟩
  have Da := Lib.hid (Da.out.kept hb)
  have Db := Lib.hid (Db.out.kept hb)
  have Dc := Lib.hid (Dc.out.kept hb)
  have Dx := Lib.hid (Dx.out.kept hb)
  have Dp := Lib.hid (Dp.out.kept hb)
  have Dq := Lib.hid hd
  have Nq := Lib.hid hn
  have Mq := Lib.hid hm
  have Tq : Hid (lq.length ≤ 120) := by show _ ≤ _; have := Tb.out; have := Ta.out; omega
  have W7 : Hid (Below w4.heap.size w4 w7) := keepB (Nat.le_refl _) W6.out hb
  clear hb hn hd hl hm
  go_wp2_with fail
  refine (same_true lp lq ap aq cp cq (by have := Tp.out; omega) w7 Dp.out Dq.out (by rw [Mp.out, Mq.out]; exact consK_comm Ia.out Ib.out)).mono ?_
  rintro e w8 ⟨rfl, hb⟩
  have Da := Lib.hid (Da.out.kept hb)
  have Db := Lib.hid (Db.out.kept hb)
  have Dc := Lib.hid (Dc.out.kept hb)
  have Dx := Lib.hid (Dx.out.kept hb)
  have Dp := Lib.hid (Dp.out.kept hb)
  have Dq := Lib.hid (Dq.out.kept hb)
  have W8 : Hid (Below w4.heap.size w4 w8) := keepB (Nat.le_refl _) W7.out hb
  clear hb
  clear Dp Np Mp Tp Dq Nq Mq Tq
  go_wp2_with fail
  refine (addC la lb aa ab ca cb (by have := Ta.out; omega) (by have := Tb.out; omega) Na.out Nb.out w8 Da.out Db.out).mono ?_
  rintro e w9 ⟨ap2, cp2, lp2, rfl, hn, hd, hl, hm, hb⟩
  have Da := Lib.hid (Da.out.kept hb)
  have Db := Lib.hid (Db.out.kept hb)
  have Dc := Lib.hid (Dc.out.kept hb)
  have Dx := Lib.hid (Dx.out.kept hb)
  have Dp2 := Lib.hid hd
  have Np2 := Lib.hid hn
  have Mp2 := Lib.hid hm
  have Tp2 : Hid (lp2.length ≤ 120) := by show _ ≤ _; have := Ta.out; have := Tb.out; omega
  have W9 : Hid (Below w4.heap.size w4 w9) := keepB (Nat.le_refl _) W8.out hb
  clear hb hn hd hl hm
  go_wp2_with fail
  refine (addC lp2 lc ap2 ac cp2 cc (by have := Tp2.out; omega) (by have := Tc.out; omega) Np2.out Nc.out w9 Dp2.out Dc.out).mono ?_
  rintro e w10 ⟨aq2, cq2, lq2, rfl, hn, hd, hl, hm, hb⟩
  have Da := Lib.hid (Da.out.kept hb)
  have Db := Lib.hid (Db.out.kept hb)
  have Dc := Lib.hid (Dc.out.kept hb)
  have Dx := Lib.hid (Dx.out.kept hb)
  have Dp2 := Lib.hid (Dp2.out.kept hb)
  have Dq2 := Lib.hid hd
  have Nq2 := Lib.hid hn
  have Mq2 := Lib.hid hm
  have Tq2 : Hid (lq2.length ≤ 180) := by show _ ≤ _; have := Tp2.out; have := Tc.out; omega
  have W10 : Hid (Below w4.heap.size w4 w10) := keepB (Nat.le_refl _) W9.out hb
  clear hb hn hd hl hm
  go_wp2_with fail
  refine (addC lb lc ab ac cb cc (by have := Tb.out; omega) (by have := Tc.out; omega) Nb.out Nc.out w10 Db.out Dc.out).mono ?_
  rintro e w11 ⟨ar2, cr2, lr2, rfl, hn, hd, hl, hm, hb⟩
  have Da := Lib.hid (Da.out.kept hb)
  have Db := Lib.hid (Db.out.kept hb)
  have Dc := Lib.hid (Dc.out.kept hb)
  have Dx := Lib.hid (Dx.out.kept hb)
  have Dp2 := Lib.hid (Dp2.out.kept hb)
  have Dq2 := Lib.hid (Dq2.out.kept hb)
  have Dr2 := Lib.hid hd
  have Nr2 := Lib.hid hn
  have Mr2 := Lib.hid hm
  have Tr2 : Hid (lr2.length ≤ 120) := by show _ ≤ _; have := Tb.out; have := Tc.out; omega
  have W11 : Hid (Below w4.heap.size w4 w11) := keepB (Nat.le_refl _) W10.out hb
  clear hb hn hd hl hm
  go_wp2_with fail
  refine (addC la lr2 aa ar2 ca cr2 (by have := Ta.out; omega) (by have := Tr2.out; omega) Na.out Nr2.out w11 Da.out Dr2.out).mono ?_
  rintro e w12 ⟨as2, cs2, ls2, rfl, hn, hd, hl, hm, hb⟩
  have Da := Lib.hid (Da.out.kept hb)
  have Db := Lib.hid (Db.out.kept hb)
  have Dc := Lib.hid (Dc.out.kept hb)
  have Dx := Lib.hid (Dx.out.kept hb)
  have Dp2 := Lib.hid (Dp2.out.kept hb)
  have Dq2 := Lib.hid (Dq2.out.kept hb)
  have Dr2 := Lib.hid (Dr2.out.kept hb)
  have Ds2 := Lib.hid hd
  have Ns2 := Lib.hid hn
  have Ms2 := Lib.hid hm
  have Ts2 : Hid (ls2.length ≤ 180) := by show _ ≤ _; have := Ta.out; have := Tr2.out; omega
  have W12 : Hid (Below w4.heap.size w4 w12) := keepB (Nat.le_refl _) W11.out hb
  clear hb hn hd hl hm
  go_wp2_with fail
  refine (same_true lq2 ls2 aq2 as2 cq2 cs2 (by have := Tq2.out; omega) w12 Dq2.out Ds2.out (by rw [Mq2.out, Mp2.out, Ms2.out, Mr2.out]; exact consK_assoc Ia.out Ib.out Ic.out)).mono ?_
  rintro e w13 ⟨rfl, hb⟩
  have Da := Lib.hid (Da.out.kept hb)
  have Db := Lib.hid (Db.out.kept hb)
  have Dc := Lib.hid (Dc.out.kept hb)
  have Dx := Lib.hid (Dx.out.kept hb)
  have Dp2 := Lib.hid (Dp2.out.kept hb)
  have Dq2 := Lib.hid (Dq2.out.kept hb)
  have Dr2 := Lib.hid (Dr2.out.kept hb)
  have Ds2 := Lib.hid (Ds2.out.kept hb)
  have W13 : Hid (Below w4.heap.size w4 w13) := keepB (Nat.le_refl _) W12.out hb
  clear hb
  clear Dq2 Nq2 Mq2 Tq2 Ds2 Ns2 Ms2 Ts2 Dr2 Nr2 Mr2 Tr2 Dp2 Np2 Mp2 Tp2
  go_wp2_with fail
  refine (consC lx ax cx (by have := Tx.out; omega) w13 Dx.out).mono ?_
  rintro e w14 ⟨ay, cy, ly, rfl, hn, hd, hl, hm, hb⟩
  have Da := Lib.hid (Da.out.kept hb)
  have Db := Lib.hid (Db.out.kept hb)
  have Dc := Lib.hid (Dc.out.kept hb)
  have Dx := Lib.hid (Dx.out.kept hb)
  have Dy := Lib.hid hd
  have Ny := Lib.hid hn
  have My := Lib.hid hm
  have Ty : Hid (ly.length ≤ 60) := by show _ ≤ _; have := Tx.out; omega
  have W14 : Hid (Below w4.heap.size w4 w14) := keepB (Nat.le_refl _) W13.out hb
  clear hb hn hd hl hm
  go_wp2_with fail
  refine (same_true ly lx ay ax cy cx (by have := Ty.out; omega) w14 Dy.out Dx.out (by rw [My.out, Mx.out]; exact consK_twice Ia.out)).mono ?_
  rintro e w15 ⟨rfl, hb⟩
  have Da := Lib.hid (Da.out.kept hb)
  have Db := Lib.hid (Db.out.kept hb)
  have Dc := Lib.hid (Dc.out.kept hb)
  have Dx := Lib.hid (Dx.out.kept hb)
  have Dy := Lib.hid (Dy.out.kept hb)
  have W15 : Hid (Below w4.heap.size w4 w15) := keepB (Nat.le_refl _) W14.out hb
  clear hb
  clear Dy Ny My Ty
  go_wp2_with fail
  refine (addC lx [] ax none cx 0 (by have := Tx.out; omega) (by simp) Nx.out (fun _ => rfl) w15 Dx.out ⟨LiesAt.nil _ _, fun d hd => by cases hd⟩).mono ?_
  rintro e w16 ⟨az, cz, lz, rfl, hn, hd, hl, hm, hb⟩
  have Da := Lib.hid (Da.out.kept hb)
  have Db := Lib.hid (Db.out.kept hb)
  have Dc := Lib.hid (Dc.out.kept hb)
  have Dx := Lib.hid (Dx.out.kept hb)
  have Dz := Lib.hid hd
  have Nz := Lib.hid hn
  have Mz := Lib.hid hm
  have Tz : Hid (lz.length ≤ 60) := by show _ ≤ _; have := Tx.out; simp at hl; omega
  have W16 : Hid (Below w4.heap.size w4 w16) := keepB (Nat.le_refl _) W15.out hb
  clear hb hn hd hl hm
  go_wp2_with fail
  refine (same_true lz lx az ax cz cx (by have := Tz.out; omega) w16 Dz.out Dx.out (by rw [Mz.out, Mx.out]; exact consK_zero Ia.out)).mono ?_
  rintro e w17 ⟨rfl, hb⟩
  have Da := Lib.hid (Da.out.kept hb)
  have Db := Lib.hid (Db.out.kept hb)
  have Dc := Lib.hid (Dc.out.kept hb)
  have Dx := Lib.hid (Dx.out.kept hb)
  have Dz := Lib.hid (Dz.out.kept hb)
  have W17 : Hid (Below w4.heap.size w4 w17) := keepB (Nat.le_refl _) W16.out hb
  clear hb
  clear Dz Nz Mz Tz
  go_wp2_with fail
  refine (negC la aa ca (by have := Ta.out; omega) SPa.out w17 Da.out).mono ?_
  rintro e w18 ⟨an, cn, ln, rfl, hn, hd, hl, hm, hb⟩
  have Da := Lib.hid (Da.out.kept hb)
  have Db := Lib.hid (Db.out.kept hb)
  have Dc := Lib.hid (Dc.out.kept hb)
  have Dx := Lib.hid (Dx.out.kept hb)
  have Dn := Lib.hid hd
  have Nn := Lib.hid hn
  have Mn := Lib.hid hm
  have Tn : Hid (ln.length ≤ 60) := by show _ ≤ _; have := Ta.out; omega
  have W18 : Hid (Below w4.heap.size w4 w18) := keepB (Nat.le_refl _) W17.out hb
  clear hb hn hd hl hm
  go_wp2_with fail
  refine (addC la ln aa an ca cn (by have := Ta.out; omega) (by have := Tn.out; omega) Na.out Nn.out w18 Da.out Dn.out).mono ?_
  rintro e w19 ⟨ao, co, lo, rfl, hn, hd, hl, hm, hb⟩
  have Da := Lib.hid (Da.out.kept hb)
  have Db := Lib.hid (Db.out.kept hb)
  have Dc := Lib.hid (Dc.out.kept hb)
  have Dx := Lib.hid (Dx.out.kept hb)
  have Dn := Lib.hid (Dn.out.kept hb)
  have Do := Lib.hid hd
  have No := Lib.hid hn
  have Mo := Lib.hid hm
  have To : Hid (lo.length ≤ 120) := by show _ ≤ _; have := Ta.out; have := Tn.out; omega
  have W19 : Hid (Below w4.heap.size w4 w19) := keepB (Nat.le_refl _) W18.out hb
  clear hb hn hd hl hm
  obtain rfl : lo = [] := by
    have h := Mo.out
    rw [Mn.out, consK_back Ia.out] at h
    exact List.map_eq_nil_iff.1 h
  clear Do No Mo To Dn Nn Mn Tn
  go_wp2_with fail
  refine (addC la lb aa ab ca cb (by have := Ta.out; omega) (by have := Tb.out; omega) Na.out Nb.out w19 Da.out Db.out).mono ?_
  rintro e w20 ⟨ap3, cp3, lp3, rfl, hn, hd, hl, hm, hb⟩
  have Da := Lib.hid (Da.out.kept hb)
  have Db := Lib.hid (Db.out.kept hb)
  have Dc := Lib.hid (Dc.out.kept hb)
  have Dx := Lib.hid (Dx.out.kept hb)
  have Dp3 := Lib.hid hd
  have Np3 := Lib.hid hn
  have Mp3 := Lib.hid hm
  have Tp3 : Hid (lp3.length ≤ 120) := by show _ ≤ _; have := Ta.out; have := Tb.out; omega
  have W20 : Hid (Below w4.heap.size w4 w20) := keepB (Nat.le_refl _) W19.out hb
  clear hb hn hd hl hm
  go_wp2_with fail
  refine (negC lb ab cb (by have := Tb.out; omega) SPb.out w20 Db.out).mono ?_
  rintro e w21 ⟨an3, cn3, ln3, rfl, hn, hd, hl, hm, hb⟩
  have Da := Lib.hid (Da.out.kept hb)
  have Db := Lib.hid (Db.out.kept hb)
  have Dc := Lib.hid (Dc.out.kept hb)
  have Dx := Lib.hid (Dx.out.kept hb)
  have Dp3 := Lib.hid (Dp3.out.kept hb)
  have Dn3 := Lib.hid hd
  have Nn3 := Lib.hid hn
  have Mn3 := Lib.hid hm
  have Tn3 : Hid (ln3.length ≤ 60) := by show _ ≤ _; have := Tb.out; omega
  have W21 : Hid (Below w4.heap.size w4 w21) := keepB (Nat.le_refl _) W20.out hb
  clear hb hn hd hl hm
  go_wp2_with fail
  refine (addC lp3 ln3 ap3 an3 cp3 cn3 (by have := Tp3.out; omega) (by have := Tn3.out; omega) Np3.out Nn3.out w21 Dp3.out Dn3.out).mono ?_
  rintro e w22 ⟨as3, cs3, ls3, rfl, hn, hd, hl, hm, hb⟩
  have Da := Lib.hid (Da.out.kept hb)
  have Db := Lib.hid (Db.out.kept hb)
  have Dc := Lib.hid (Dc.out.kept hb)
  have Dx := Lib.hid (Dx.out.kept hb)
  have Dp3 := Lib.hid (Dp3.out.kept hb)
  have Dn3 := Lib.hid (Dn3.out.kept hb)
  have Ds3 := Lib.hid hd
  have Ns3 := Lib.hid hn
  have Ms3 := Lib.hid hm
  have Ts3 : Hid (ls3.length ≤ 180) := by show _ ≤ _; have := Tp3.out; have := Tn3.out; omega
  have W22 : Hid (Below w4.heap.size w4 w22) := keepB (Nat.le_refl _) W21.out hb
  clear hb hn hd hl hm
  go_wp2_with fail
  refine (same_true ls3 lx as3 ax cs3 cx (by have := Ts3.out; omega) w22 Ds3.out Dx.out (by rw [Ms3.out, Mp3.out, Mn3.out, Mx.out]; exact consK_leads Ia.out Ib.out)).mono ?_
  rintro e w23 ⟨rfl, hb⟩
  have Da := Lib.hid (Da.out.kept hb)
  have Db := Lib.hid (Db.out.kept hb)
  have Dc := Lib.hid (Dc.out.kept hb)
  have Dx := Lib.hid (Dx.out.kept hb)
  have Dp3 := Lib.hid (Dp3.out.kept hb)
  have Dn3 := Lib.hid (Dn3.out.kept hb)
  have Ds3 := Lib.hid (Ds3.out.kept hb)
  have W23 : Hid (Below w4.heap.size w4 w23) := keepB (Nat.le_refl _) W22.out hb
  clear hb
  go_wp2_with fail
  go_ret
  exact ⟨rfl, keepB (Nat.le_refl _) B4.out W23.out⟩
end Go.Proofs.Ytfnpfkgmacaboaa
