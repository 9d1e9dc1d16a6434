/-
  asoflaw06.TimelineNow returns true.
-/
import Derived.Test.YtolkmfpbgheaaaaN
import Derived.Test.YtolkmfpbgheaaaaFew
namespace Go.Proofs.Ytolkmfpbgheaaaa
open Go.ChangeShapes Go.WideShapes Go.ChangeAt Go.RowKit
set_option linter.unusedVariables false
set_option linter.unusedSimpArgs false

/-- Is a number in an interval? -/
def inB (a b x : Int) : Bool := decide (a ≤ x) && decide (x ≤ b)
theorem inside_any (a b x : Int) (w : World) : Calls Try.prog 23 #[iv a b, .int .i64 x] w fun e w' => e = .returned (.bool (inB a b x)) ∧ Below w.heap.size w w' := by
  unfold inB
  by_cases h1 : a ≤ x
  · by_cases h2 : x ≤ b
    · rw [decide_eq_true h1, decide_eq_true h2]
      go_enter Try.func23, Try.ntmps23
      go_wp2_with fail
      go_ret
      exact ⟨rfl, below_here _⟩
    · rw [decide_eq_true h1, decide_eq_false h2]
      go_enter Try.func23, Try.ntmps23
      go_wp2_with fail
      go_ret
      exact ⟨rfl, below_here _⟩
  · rw [decide_eq_false h1]
    go_enter Try.func23, Try.ntmps23
    go_wp2_with fail
    go_ret
    exact ⟨rfl, below_here _⟩
theorem info3 : (Try.prog.info? 3).map (fun i => (i.zero, i.size, i.bytes)) = some (some (.int .i64 0), 1, 8) := by kernel_rfl
theorem new_cell (w : World) (x : Value) : ((w.alloc (.cells #[x] 3)).cell? ((⟨w.heap.size, 0, none⟩ : Addr).add 0)) = some x := by rw [addr_add]; simp [go_sem]
/-- One int is appended to a list of the call's own. -/
theorem wpList_appI {X : World} {ops : Array Oper} {rest : List Oper} {o : Oper} {a : Act} {Q : Exit → Act → World → Prop} {B : Nat} {v : Value} {l : List Int} {f : Int} (hgd : o.guard = none) (s x : Operand)
    (ho : o.op = .call { callee := .builtin .append, args := #[s, x], argTypes := #[40, 40] }) (hs : a.eval s = v) (hx : a.eval x = .slice (some ⟨X.heap.size, 0, none⟩) 1 1)
    (hO : OwnI X B v l) (hB : B ≤ X.heap.size) (hl : l.length < 4398046511104)
    (h : ∀ v' w1, OwnI w1 B v' (l ++ [f]) → Below B X w1 → wpList Try.prog ops Q rest (a.put o.dst v') w1) :
    wpList Try.prog ops Q (o :: rest) a (X.alloc (.cells #[.int .i64 f] 3)) := by
  obtain ⟨i3, hi3, hz0, hz1, hz2⟩ := info_parts info3
  refine wpList_append_own _ hgd s x 40 ho B 3 i3 _ 1 8 Try.underlying40 hi3 hz0 hz1 hz2 rfl (by decide) v _ _ hs (ownsRow_kept hO (below_here _)) ⟨X.heap.size, 0, none⟩ 1 1 [.int .i64 f] hx rfl ?_ (by simp [Value.oneCell']) (by unfold maxLen; omega) (by omega) (by simp; omega) ?_
  · intro j u hj
    match j, hj with
    | 0, hj => simp at hj; subst hj; exact new_cell X _
  · intro v' w1 hown hgr _
    refine h v' w1 ?_ (((Below.refl _ _).alloc hB _).grown hgr (by simp; omega) (fun g hg => (hO.lt g hg).1))
    unfold OwnI
    rw [List.map_append, List.length_append]; exact hown
theorem past_take (s : List Int) (t : Int) (k : Nat) (x : Int) (h : s[k]? = some x) : past (s.take (k + 1)) t = past (s.take k) t ++ (if decide (x ≤ t) then [x] else []) := by
  unfold past
  rw [List.take_add_one, h, List.filter_append]
  by_cases hx : x ≤ t
  · simp [List.filter, hx, show ¬ t < x by omega]
  · simp [List.filter, hx, show t < x by omega]
theorem IntsIn.some {w : World} {ao : Option Addr} {s : List Int} (h : IntsIn w ao s) (hl : 0 < s.length) : ∃ b o, ao = Option.some ⟨b, o, none⟩ ∧ IntsAt w b o s := by
  rcases h with rfl | h
  · simp at hl
  · exact h
theorem IntsIn.take {w : World} {ao : Option Addr} {s : List Int} (h : IntsIn w ao s) (n : Nat) : IntsIn w ao (s.take n) := by
  rcases h with rfl | ⟨b, o, rfl, h⟩
  · exact Or.inl (by simp)
  · refine Or.inr ⟨b, o, rfl, fun i x hx => ?_⟩
    have hi : i < n := by
      have := (List.getElem?_eq_some_iff.1 hx).1
      simp at this; omega
    rw [List.getElem?_take_of_lt hi] at hx
    exact h i x hx

set_option maxHeartbeats 4000000 in
set_option maxRecDepth 100000 in
theorem now_any (s0 : List Int) (ao : Option Addr) (cap : Nat) (hlc : s0.length ≤ cap) (g t : Int) (w : World) (h : IntsIn w ao s0) :
    Calls Try.prog 8 #[.slice ao s0.length cap, .int .i64 g, .int .i64 t] w fun e w' => e = .returned (.bool true) ∧ Below w.heap.size w w' := by
  have HF := Lib.hid (fun w => few_ints ao s0.length cap hlc w)
  have HT60 : Hid (min 60 s0.length = (s0.take 60).length ∧ (s0.take 60).length ≤ 60) := by show _ ∧ _; simp; omega
  have H := Lib.hid (h.take 60)
  have HE := Lib.hid (fun w => example_any w)
  rw [HT60.out.1] at HF
  clear h
  generalize s0.take 60 = s at *
  have hs60 := HT60.out.2
  have HA := Lib.hid (fun w' hw => seAt_all s ao cap (by omega) g t w' hw)
  have HP : Hid (∀ A c w', IntsIn w' A (past s t) → Calls Try.prog 26 #[.slice A (past s t).length c, .int .i64 g, .int .i64 t] w' (SeIs w' (seAt s g t))) := fun A c w' hw => by
    have hpl : (past s t).length ≤ s.length := List.length_filter_le _ _
    have := seAt_all (past s t) A c (by omega) g t w' hw
    rwa [seAt_past] at this
  have HS := Lib.hid (fun w' hw => sessions_all s ao cap (by omega) g w' hw)
  have HK : Hid (∀ (k : Nat) I w', (sesL s g)[k]? = some I → IntsIn w' ao s → Calls Try.prog 26 #[.slice ao s.length cap, .int .i64 g, .int .i64 I.2] w' fun e w2 => e = .returned (.tuple #[iv I.1 I.2, .bool true]) ∧ Below w'.heap.size w' w2) := fun k I w' hk hw => by
    have hg : gapOk g = true := by
      cases hg : gapOk g
      · unfold sesL at hk; rw [hg] at hk; simp at hk
      · rfl
    have := seAt_all s ao cap (by omega) g I.2 w' hw
    rw [seAt_last hg hk] at this
    exact this
  have HLL : Hid ((sesL s g).length ≤ 60) := by
    show _ ≤ _
    unfold sesL
    split
    · have := sess_length g (sortT s); have := sortT_length s; omega
    · simp
  have HFA : Hid (∀ I, seAt s g t = some I → I.1 ≤ I.2 ∧ I.2 ≤ t ∧ t - I.2 ≤ g ∧ 0 ≤ I.2 ∧ t ≤ 1099511627776) := fun I hI => seAt_facts hI
  generalize hr : seAt s g t = r at *
  generalize sesL s g = L at *
  have HPL : Hid (∀ k, (past (s.take k) t).length < 4398046511104) := fun k => by have := List.length_filter_le (fun x => !decide (t < x)) (s.take k); rw [List.length_take] at this; unfold past; omega
  clear hr
  go_enter Try.func8, Try.ntmps8
  go_wp2_with fail
  refine (HF.out _).mono ?_
  rintro e w0 ⟨rfl, rfl⟩
  go_wp2_with fail
  go_loopw [8, 9] (fun v i wr => ∃ (k : Nat) (v0 : Value), v0 = v ∧ i = .int .i64 k ∧ k ≤ s.length ∧ Hid (Below w.heap.size w wr) ∧ Hid (OwnI wr w.heap.size v (past (s.take k) t))) (fun _ i _ => s.length - (intOf i).toNat)
  case atStart => exact ⟨0, _, rfl, rfl, Nat.zero_le _, Lib.hid (Below.refl _ _), Lib.hid (OwnI.nil _ _)⟩
  case round =>
    obtain ⟨k, v, rfl, rfl, hk, HB, HO⟩ := hrel
    by_cases hlt : k < s.length
    · obtain ⟨x, hx⟩ : ∃ x, s[k]? = some x := ⟨s[k], List.getElem?_eq_getElem hlt⟩
      obtain ⟨b, o, rfl, hi⟩ := (H.out.kept HB.out).some (by omega)
      have c0 := hi k x hx
      have HN := Lib.hid (past_take s t k x hx)
      have HLK := Lib.hid (HPL.out k)
      have HBS : Hid (w.heap.size ≤ wr.heap.size) := HB.out.size
      generalize past (s.take k) t = p at *
      clear hi hx
      by_cases hxt : x ≤ t
      · have hd : decide (x ≤ t) = true := by simpa using hxt
        have HN2 : Hid (past (s.take (k + 1)) t = p ++ [x]) := by show _ = _; rw [HN.out, hd]; rfl
        clear hxt
        go_wp2_with (at_builtin; refine wpList_appI rfl (.tmp 32) (.tmp 37) rfl rfl rfl HO.out HBS.out HLK.out ?_; intro v' w1 ho hb; have HO1 := Lib.hid ho; have HB1 := Lib.hid hb; clear ho hb)
        go_roundw
        case rel => exact ⟨k + 1, _, rfl, by go_num, by omega, Lib.hid (HB.out.trans HB1.out), by rw [HN2.out]; exact HO1⟩
        case measure => simp [intOf]; omega
      · have hd : decide (x ≤ t) = false := by simpa using hxt
        have HN2 : Hid (past (s.take (k + 1)) t = p) := by show _ = _; rw [HN.out, hd]; simp
        clear hxt
        go_wp2_with fail
        go_roundw
        case rel => exact ⟨k + 1, _, rfl, by go_num, by omega, HB, by rw [HN2.out]; exact HO⟩
        case measure => simp [intOf]; omega
    · obtain rfl : k = s.length := by omega
      rw [List.take_length] at HO
      obtain ⟨A, c, rfl, -, hin⟩ := HO.out.slots
      have HI := Lib.hid hin
      clear hin HO
      obtain ⟨wo, rfl⟩ : ∃ wo : World, wo = wr := ⟨_, rfl⟩
      go_wp2_with fail
      refine (HA.out _ (H.out.kept HB.out)).mono ?_
      rintro e w1 ⟨rfl, hb⟩
      have B1 := Lib.hid (HB.out.trans (hb.mono HB.out.size))
      have HI1 := Lib.hid (HI.out.kept hb)
      clear hb HB HI
      cases r with
      | none =>
        unfold SeIs seOut at HP
        unfold seOut
        have HT1 := Lib.hid (Two.new w1 (.int .i64 0) (.int .i64 0))
        have B2 : Hid (Below w.heap.size w (w1.alloc (.cells #[.int .i64 0, .int .i64 0] 23))) := B1.out.alloc B1.out.size _
        have HI2 := Lib.hid (HI1.out.kept (below_here (w := w1) (.cells #[.int .i64 0, .int .i64 0] 23)))
        go_wp2_with fail
        refine (HP.out _ _ _ HI2.out).mono ?_
        rintro e w2 ⟨rfl, hb⟩
        have HT2 := Lib.hid (HT1.out.kept hb)
        have HB2 : Hid (Below w.heap.size w w2) := B2.out.trans (hb.mono B2.out.size)
        clear hb HT1 B2 HI2
        have HT3 := Lib.hid (Two.new w2 (.int .i64 0) (.int .i64 0))
        have HT4 := Lib.hid (HT2.out.kept (below_here (w := w2) (.cells #[.int .i64 0, .int .i64 0] 23)))
        have BX : Hid (Below w.heap.size w (w2.alloc (.cells #[.int .i64 0, .int .i64 0] 23))) := HB2.out.alloc HB2.out.size _
        obtain ⟨y0, y1, y2, -⟩ := HT3.out.all
        obtain ⟨z0, z1, z2, -⟩ := HT4.out.all
        generalize hX : w2.alloc (.cells #[.int .i64 0, .int .i64 0] 23) = X at *
        subst hX
        go_wp2_with fail
        refine (HS.out _ (H.out.kept BX.out)).mono ?_
        rintro e w3 ⟨ao3, c3, rfl, hs3, hc3, hb3⟩
        have B3 : Hid (Below w.heap.size w w3) := BX.out.trans (hb3.mono BX.out.size)
        have HS3 := Lib.hid hs3
        have HLL2 := HLL.out
        clear hs3 hc3 hb3
        go_wp2_with fail
        go_loopw [15] (fun v wr => ∃ k : Nat, v = .int .i64 k ∧ k ≤ L.length ∧ Hid (Below w3.heap.size w3 wr)) (fun v _ => L.length - (intOf v).toNat)
        case atStart => exact ⟨0, rfl, Nat.zero_le _, Below.refl _ _⟩
        case round =>
          obtain ⟨k, rfl, hk, HB4⟩ := hrel
          have B4 : Hid (Below w.heap.size w wr) := B3.out.trans (HB4.out.mono B3.out.size)
          by_cases hlt : k < L.length
          · obtain ⟨⟨I1, I2⟩, hx⟩ : ∃ x, L[k]? = some x := ⟨L[k], List.getElem?_eq_getElem hlt⟩
            obtain ⟨b, o, rfl, hrow⟩ := HS3.out.some (by omega)
            obtain ⟨c0, c1⟩ := (hrow.kept HB4.out) k _ hx
            have HKK := Lib.hid (fun w' hw => HK.out k (I1, I2) w' hx hw)
            have HRK := Lib.hid hrow
            have HXK := Lib.hid hx
            clear hrow hx
            simp only at HKK c0 c1
            go_wp2_with fail
            refine (HKK.out _ (H.out.kept B4.out)).mono ?_
            rintro e w5 ⟨rfl, hb5⟩
            have B5 : Hid (Below w3.heap.size w3 w5) := HB4.out.trans (hb5.mono HB4.out.size)
            have HT5 := Lib.hid (Two.new w5 (.int .i64 I1) (.int .i64 I2))
            have B6 : Hid (Below w3.heap.size w3 (w5.alloc (.cells #[.int .i64 I1, .int .i64 I2] 23))) := B5.out.alloc B5.out.size _
            obtain ⟨d0, d1⟩ := (HRK.out.kept B6.out) k _ HXK.out
            obtain ⟨y0, y1, -, -⟩ := HT5.out.all
            simp only at d0 d1
            clear c0 c1 hb5
            go_wp2_with fail
            go_quiet (fail)
            go_wp2_with fail
            go_roundw
            case rel => exact ⟨k + 1, by go_num, by omega, below_drewN B6.out _⟩
            case measure => simp [intOf]; omega
          · obtain rfl : k = L.length := by omega
            go_wp2_with fail
            refine (HE.out _).mono ?_
            rintro e w4 ⟨rfl, hb⟩
            have B5 := Lib.hid (B4.out.trans (hb.mono B4.out.size))
            go_wp2_with fail
            go_ret
            exact ⟨rfl, B5.out⟩
      | some I =>
        obtain ⟨q1, q2⟩ := I
        unfold SeIs seOut at HP
        unfold seOut
        obtain ⟨hf1, hf2, hf3, hf4, hf5⟩ := HFA.out _ rfl
        simp only at hf1 hf2 hf3 hf4 hf5 HP
        have HT1 := Lib.hid (Two.new w1 (.int .i64 q1) (.int .i64 q2))
        have B2 : Hid (Below w.heap.size w (w1.alloc (.cells #[.int .i64 q1, .int .i64 q2] 23))) := B1.out.alloc B1.out.size _
        have HI2 := Lib.hid (HI1.out.kept (below_here (w := w1) (.cells #[.int .i64 q1, .int .i64 q2] 23)))
        go_wp2_with fail
        refine (HP.out _ _ _ HI2.out).mono ?_
        rintro e w2 ⟨rfl, hb⟩
        have HT2 := Lib.hid (HT1.out.kept hb)
        have HB2 : Hid (Below w.heap.size w w2) := B2.out.trans (hb.mono B2.out.size)
        clear hb HT1 B2 HI2
        have HT3 := Lib.hid (Two.new w2 (.int .i64 q1) (.int .i64 q2))
        have HT4 := Lib.hid (HT2.out.kept (below_here (w := w2) (.cells #[.int .i64 q1, .int .i64 q2] 23)))
        have BX : Hid (Below w.heap.size w (w2.alloc (.cells #[.int .i64 q1, .int .i64 q2] 23))) := HB2.out.alloc HB2.out.size _
        obtain ⟨y0, y1, y2, -⟩ := HT3.out.all
        obtain ⟨z0, z1, z2, -⟩ := HT4.out.all
        generalize hX : w2.alloc (.cells #[.int .i64 q1, .int .i64 q2] 23) = X at *
        have v1 : IntKind.i64.wrap (t - q2) = t - q2 := IntWalk.i64_in _ (by omega)
        have v2 : inB q1 q2 q2 = true := by unfold inB; rw [decide_eq_true hf1, decide_eq_true (Int.le_refl _)]; rfl
        have HIN := Lib.hid (fun w => inside_any q1 q2 q2 w)
        rw [v2] at HIN
        have v3 : ¬ t < q2 := by omega
        have v4 : ¬ g < t - q2 := by omega
        subst hX
        go_wp2_with fail
        refine (HIN.out _).mono ?_
        rintro e w9 ⟨rfl, hb9⟩
        have HT6 := Lib.hid (HT4.out.kept hb9)
        have B9 := Lib.hid (BX.out.trans (hb9.mono BX.out.size))
        obtain ⟨x0, x1, x2, -⟩ := HT6.out.all
        clear BX
        have BX := B9
        clear B9 hb9 z0 z1 z2 y0 y1 y2 HIN
        go_wp2_with fail
        refine (HS.out _ (H.out.kept BX.out)).mono ?_
        rintro e w3 ⟨ao3, c3, rfl, hs3, hc3, hb3⟩
        have B3 : Hid (Below w.heap.size w w3) := BX.out.trans (hb3.mono BX.out.size)
        have HS3 := Lib.hid hs3
        have HLL2 := HLL.out
        clear hs3 hc3 hb3
        go_wp2_with fail
        go_loopw [15] (fun v wr => ∃ k : Nat, v = .int .i64 k ∧ k ≤ L.length ∧ Hid (Below w3.heap.size w3 wr)) (fun v _ => L.length - (intOf v).toNat)
        case atStart => exact ⟨0, rfl, Nat.zero_le _, Below.refl _ _⟩
        case round =>
          obtain ⟨k, rfl, hk, HB4⟩ := hrel
          have B4 : Hid (Below w.heap.size w wr) := B3.out.trans (HB4.out.mono B3.out.size)
          by_cases hlt : k < L.length
          · obtain ⟨⟨I1, I2⟩, hx⟩ : ∃ x, L[k]? = some x := ⟨L[k], List.getElem?_eq_getElem hlt⟩
            obtain ⟨b, o, rfl, hrow⟩ := HS3.out.some (by omega)
            obtain ⟨c0, c1⟩ := (hrow.kept HB4.out) k _ hx
            have HKK := Lib.hid (fun w' hw => HK.out k (I1, I2) w' hx hw)
            have HRK := Lib.hid hrow
            have HXK := Lib.hid hx
            clear hrow hx
            simp only at HKK c0 c1
            go_wp2_with fail
            refine (HKK.out _ (H.out.kept B4.out)).mono ?_
            rintro e w5 ⟨rfl, hb5⟩
            have B5 : Hid (Below w3.heap.size w3 w5) := HB4.out.trans (hb5.mono HB4.out.size)
            have HT5 := Lib.hid (Two.new w5 (.int .i64 I1) (.int .i64 I2))
            have B6 : Hid (Below w3.heap.size w3 (w5.alloc (.cells #[.int .i64 I1, .int .i64 I2] 23))) := B5.out.alloc B5.out.size _
            obtain ⟨d0, d1⟩ := (HRK.out.kept B6.out) k _ HXK.out
            obtain ⟨y0, y1, -, -⟩ := HT5.out.all
            simp only at d0 d1
            clear c0 c1 hb5
            go_wp2_with fail
            go_quiet (fail)
            go_wp2_with fail
            go_roundw
            case rel => exact ⟨k + 1, by go_num, by omega, below_drewN B6.out _⟩
            case measure => simp [intOf]; omega
          · obtain rfl : k = L.length := by omega
            go_wp2_with fail
            refine (HE.out _).mono ?_
            rintro e w4 ⟨rfl, hb⟩
            have B5 := Lib.hid (B4.out.trans (hb.mono B4.out.size))
            go_wp2_with fail
            go_ret
            exact ⟨rfl, B5.out⟩
end Go.Proofs.Ytolkmfpbgheaaaa
