import Derived.Test.YtjjibddpgjoeeaaRefE
import Derived.Test.YtjjibddpgjoeeaaLong
import Derived.Deep.RegionLaw
namespace Go.Proofs.Ytjjibddpgjoeeaa
open Go.ChangeShapes Go.WideShapes Go.ChangeAt Go.RowKit

set_option maxHeartbeats 1000000 in
set_option maxRecDepth 100000 in
theorem below_any (g cap g' cap' : Nat) (f f' : Nat → Int) (hf : Digs f) (hf' : Digs f') (w : World) (c1 : CellsAt w g f) (c2 : CellsAt w g' f') :
    Calls Try.prog 39 #[.slice (some ⟨g, 0, none⟩) 8 cap, .slice (some ⟨g', 0, none⟩) 8 cap'] w fun e w' => e = .returned (.bool (decide (val8 f < val8 f'))) ∧ Below w.heap.size w w' := by
  have C1 := Lib.hid c1; have C2 := Lib.hid c2
  have F1 := Lib.hid hf; have F2 := Lib.hid hf'
  clear c1 c2 hf hf'
  go_enter Try.func39, Try.ntmps39
  go_wp2_with fail
  go_loopw [5] (fun v wr => ∃ k : Nat, k ≤ 8 ∧ v = .int .i64 (7 - (k : Int)) ∧ Below w.heap.size w wr ∧ ∀ j : Nat, 7 - (k : Int) < j → j < 8 → f j = f' j) (fun v _ => (intOf v + 1).toNat)
  case atStart => exact ⟨0, by omega, rfl, Below.refl _ _, fun j h1 h2 => by omega⟩
  case round =>
    obtain ⟨k, hk, rfl, hB, he⟩ := hrel
    have HE := Lib.hid he
    clear he
    by_cases hlt : k < 8
    · have d1 := C1.out.kept hB (7 - k) (by omega)
      have d2 := C2.out.kept hB (7 - k) (by omega)
      by_cases hne : f (7 - k) = f' (7 - k)
      · have hE : Hid (∀ j : Nat, 7 - ((k + 1 : Nat) : Int) < j → j < 8 → f j = f' j) := fun j h1 h2 => by
          by_cases e : j = 7 - k
          · subst e; exact hne
          · exact HE.out j (by omega) h2
        rw [hne] at d1
        generalize f' (7 - k) = p at *
        clear hne
        go_wp2_with fail
        go_region
        all_goals
          go_wp2_with fail
          go_roundw
          case rel => exact ⟨k + 1, by omega, by go_num, hB.drew, hE.out⟩
          case measure => simp [intOf]; omega
      · have hfin : decide (f (7 - k) < f' (7 - k)) = decide (val8 f < val8 f') := decide_eq_decide.2 (val8_lt F1.out F2.out (7 - k) (by omega) (fun j h1 h2 => HE.out j (by omega) h2) hne)
        have hb : (f (7 - k) == f' (7 - k)) = false := by simpa using hne
        have HF := Lib.hid hfin
        clear hfin
        generalize f' (7 - k) = p at *
        generalize f (7 - k) = q at *
        go_wp2_with fail
        go_region
        all_goals
          go_wp2_with fail
          go_region
          all_goals
            go_wp2_with fail
            refine bodyPost_ret (v := .bool (decide (q < p))) (by simp [results, Try.results39, go_sem]) rfl ⟨by rw [HF.out], hB.drew.drew⟩
    · have hk8 : k = 8 := by omega
      subst hk8
      have hs : Hid (decide (val8 f < val8 f') = false) := by
        have : val8 f = val8 f' := val8_same (fun j hj => HE.out j (by omega) hj)
        show _ = _
        rw [this]; simp
      go_wp2_with fail
      refine bodyPost_ret (v := .bool false) (by simp [results, Try.results39, go_sem]) rfl ⟨by rw [hs.out], hB⟩

/-- append on a slice of the call's own, as one step of a region that draws. -/
theorem step_append_own {P : Program} {ops : Array Oper} {o : Oper} {a : Act} {w : World} {K : Act → World → Prop} {Q : Exit → Act → World → Prop} {E : Prop}
    (hg : o.guard = none) (s x : Operand) (t : TypeId) (hop : o.op = Op.call { callee := Callee.builtin Builtin.append, args := #[s, x], argTypes := #[t, t] })
    (base : Nat) (e : TypeId) (i : TypeInfo) (z : Value) (size bytes : Nat) (h1 : P.underlying t = some (.slice e)) (h2 : P.info? e = some i) (h3 : i.zero = some z) (h4 : i.size = size) (h5 : i.bytes = bytes) (h6 : z.cells.size = size) (h7 : 0 < size)
    (v : Value) (n : Nat) (xs : List Value) (hs : a.eval s = v) (hown : w.ownsRow base e size v n xs)
    (ad : Addr) (m c : Nat) (news : List Value) (hx : a.eval x = .slice (some ad) m c) (hn : news.length = m * size) (hc : ∀ j u, news[j]? = some u → w.cell? (ad.add j) = some u) (h1c : ∀ u ∈ news, u.oneCell' = true)
    (b1 : n + m ≤ maxLen) (b2 : (n + m) * bytes ≤ 140737488355328) (b4 : base ≤ w.heap.size)
    (hK : ∀ v' w', w'.ownsRow base e size v' (n + m) (xs ++ news) → w.grownBy w' v.ownBlock → K (a.put o.dst v') w') :
    if Region.wanted o (yielded ops a.tmps) = true then Oper.wp P o a w K Q else E := by
  have hw : Region.wanted o (yielded ops a.tmps) = true := by simp [Region.wanted, hg]
  rw [if_pos hw]
  obtain ⟨v', w', hrun, r1, r2, _⟩ := run_append_own (P := P) w base t o.type e i z size bytes h1 h2 h3 h4 h5 h6 h7 v n xs hown ad m c news hn hc h1c b1 b2 b4
  unfold Oper.wp
  simp [execOp, hop, resolve, invoke, builtin, hs, hx, hrun, Result.andThen]
  exact hK v' w' r1 r2

set_option maxHeartbeats 2000000 in
set_option maxRecDepth 100000 in
theorem minus_any (g cap g' cap' : Nat) (f f' : Nat → Int) (hf : Digs f) (hf' : Digs f') (w : World) (c1 : CellsAt w g f) (c2 : CellsAt w g' f') :
    Calls Try.prog 40 #[.slice (some ⟨g, 0, none⟩) 8 cap, .slice (some ⟨g', 0, none⟩) 8 cap'] w (RowOut w (car (fun i => f i - f' i))) := by
  obtain ⟨i0, hi, hz0, hz1, hz2⟩ := info_parts info3
  have C1 := Lib.hid c1; have C2 := Lib.hid c2
  have F1 := Lib.hid hf; have F2 := Lib.hid hf'
  clear c1 c2 hf hf'
  go_enter Try.func40, Try.ntmps40
  go_wp2_with fail
  go_loopw [5, 6] (fun v i wr => ∃ k : Nat, k ≤ 8 ∧ i = .int .i64 k ∧ wr.ownsRow w.heap.size 3 1 v k (row (fun i => f i - f' i) k) ∧ Below w.heap.size w wr) (fun _ i _ => 8 - (intOf i).toNat)
  case atStart => exact ⟨0, by omega, rfl, own_none _ _, Below.refl _ _⟩
  case round =>
    obtain ⟨k, hk, rfl, hown, hB⟩ := hrel
    have hBz := hB.size
    by_cases hlt : k < 8
    · have d1 := C1.out.kept hB k hlt
      have d2 := C2.out.kept hB k hlt
      have b1 := F1.out k hlt
      have b2 := F2.out k hlt
      have hr : Hid ((fun i => f i - f' i) k = f k - f' k) := rfl
      obtain ⟨p0, p1⟩ := b1
      obtain ⟨q0, q1⟩ := b2
      generalize hp : f k = p at *
      generalize hq : f' k = q at *
      clear hp hq
      go_wp2_with fail
      have hwr : IntKind.i64.wrap (p - q) = p - q := by simp [IntKind.wrap, IntKind.bits, IntKind.signed]; omega
      go_region_law (refine step_append_own rfl (.tmp 11) (.tmp 21) 46 rfl w.heap.size 3 i0 (.int .i64 0) 1 8 Try.underlying46 hi hz0 hz1 hz2 rfl (by decide) _ k _ (by simp [Act.eval]; done) (hown.alloc _).drew ⟨wr.heap.size, 0, none⟩ 1 1 [.int .i64 (p - q)] (by simp [Act.eval]; done) rfl (new_cell _ _ _) (one_ok _) (by unfold maxLen; omega) (by omega) (by simp; omega) ?_; intro v' w1 hown1 hgrow1)
      all_goals
        have hb1 : Below w.heap.size w w1 := (hB.drew.alloc hBz _).grown hgrow1 (by simp; omega) (own_block hown)
        have hown2 : w1.ownsRow w.heap.size 3 1 v' (k + 1) (row (fun i => f i - f' i) (k + 1)) := by rw [row_succ, hr.out]; exact hown1
        clear hown1 hgrow1 hown hB hBz d1 d2
        go_wp2_with fail
        go_roundw
        case rel => exact ⟨k + 1, by omega, by go_num, hown2, hb1⟩
        case measure => simp [intOf]; omega
    · have hk8 : k = 8 := by omega
      subst hk8
      obtain ⟨X, capX, rfl, hX, hcX, hXl, cX, fX⟩ := own_open hown
      have cr := Lib.hid (carry_any X capX (fun i => f i - f' i) (fun i hi => by have := F1.out i hi; have := F2.out i hi; omega) wr cX)
      clear hown cX fX
      go_wp2_with fail
      refine cr.out.mono ?_
      rintro e w2 ⟨z, rfl, hz, hb⟩
      go_wp2_with fail
      go_ret
      exact ⟨_, rfl, ⟨hz.1, by rcases hz.2 with h | ⟨g0, c0, u0, e0, hb0, rest⟩; exact Or.inl h; exact Or.inr ⟨g0, c0, u0, e0, by omega, rest⟩⟩, hB.trans (hb.mono hBz)⟩
end Go.Proofs.Ytjjibddpgjoeeaa
