/-
  timeline.Sessions returns the sessions of events.
-/
import Derived.Test.YtolkmfpbgheaaaaS4
import Derived.Outline
namespace Go.Proofs.Ytolkmfpbgheaaaa
open Go.ChangeShapes Go.WideShapes Go.ChangeAt Go.RowKit
set_option linter.unusedVariables false
set_option linter.unusedSimpArgs false

attribute [local go_sem] Oper.semAt_some

/-- Is a gap in range? -/
def gapOk (g : Int) : Bool := decide (1 ≤ g ∧ g ≤ 1099511627776)
/-- The sessions of events. -/
def sesL (s : List Int) (g : Int) : List Iv := if gapOk g then sess g (sortT s) else []
theorem ownsRow_grown {w w' : World} {B : Nat} {e : TypeId} {size : Nat} {v : Value} {n : Nat} {xs : List Value} {r : Nat} (h : w.ownsRow B e size v n xs) (hg : w.grownBy w' (some r)) (hr : v.ownBlock ≠ some r) : w'.ownsRow B e size v n xs := by
  refine ⟨h.1, ?_⟩
  rcases h.2 with h | ⟨g, cap, cur, h1, h2, h3, h4⟩
  · exact Or.inl h
  · exact Or.inr ⟨g, cap, cur, h1, h2, (hg.block g (Array.getElem?_eq_some_iff.1 h3).1 (fun e => hr (by rw [h1]; exact e))).trans h3, h4⟩

theorem sessGo_length (g : Int) : ∀ (r : List Int) (c : Iv), (sessGo g c r).length ≤ r.length + 1
  | [], c => by simp [sessGo]
  | x :: r, c => by
    unfold sessGo
    split
    · have := sessGo_length g r (c.1, x); simp; omega
    · have := sessGo_length g r (x, x); simp; omega
theorem sess_length (g : Int) (s : List Int) : (sess g s).length ≤ s.length := by
  cases s with
  | nil => simp [sess]
  | cons a r => have := sessGo_length g r (a, a); simpa [sess] using this
/-- One interval is appended to a list of the call's own, in a round. -/
theorem wpListIn_app {F : Fence} {n : Nat} {X : World} {ops : Array Oper} {rest : List Oper} {o : Oper} {a : Act} {Q : Exit → Act → World → Prop} {B : Nat} {v : Value} {l : List Iv} {f t : Int} (hgd : o.guard = none) (s x : Operand)
    (ho : o.op = .call { callee := .builtin .append, args := #[s, x], argTypes := #[24, 24] }) (hs : a.eval s = v) (hx : a.eval x = .slice (some ⟨X.heap.size, 0, none⟩) 1 1)
    (hO : OwnIv X B v l) (hB : B ≤ X.heap.size) (hl : l.length < 4398046511104)
    (h : ∀ A c w1, OwnIv w1 B (.slice A (l ++ [(f, t)]).length c) (l ++ [(f, t)]) → Below B X w1 → KeepsOthers X w1 → wpListIn F n Try.prog ops Q rest (a.put o.dst (.slice A (l ++ [(f, t)]).length c)) w1) :
    wpListIn F n Try.prog ops Q (o :: rest) a (X.alloc (.cells #[.int .i64 f, .int .i64 t] 23)) := by
  obtain ⟨i23, hi23, hz0, hz1, hz2⟩ := info_parts info23
  refine wpListIn_append_own _ hgd s x 24 ho B 23 i23 _ 2 16 Try.underlying24 hi23 hz0 hz1 hz2 rfl (by decide) v _ _ hs (ownsRow_kept hO (below_here _)) ⟨X.heap.size, 0, none⟩ 1 1 [.int .i64 f, .int .i64 t] hx rfl ?_ (by simp [Value.oneCell']) (by unfold maxLen; omega) (by omega) (by simp; omega) ?_
  · intro j u hj
    rw [addr_add]
    match j, hj with
    | 0, hj => simp at hj; subst hj; simp [go_sem]
    | 1, hj => simp at hj; subst hj; simp [go_sem]
  · intro v' w1 hown hgr _
    have ho1 : OwnIv w1 B v' (l ++ [(f, t)]) := by unfold OwnIv; rw [ivCells_append, List.length_append]; exact hown
    obtain ⟨A, c, rfl, -⟩ := own_slice ho1
    refine h A c w1 ho1 (((Below.refl _ _).alloc hB _).grown hgr (by simp; omega) (fun g hg => (hO.lt g hg).1)) ((KeepsOthers.alloc X _).trans (KeepsOthers.of_grownBy hgr fun j o ej hj => ?_))
    have hO' : OwnIv (X.alloc (.cells #[.int .i64 f, .int .i64 t] 23)) B v l := hO.kept (below_here _)
    rcases hO'.2 with ⟨rfl, _⟩ | ⟨g, cap, cur, rfl, _, hgb, _⟩
    · simp [Value.ownBlock] at ej
    · obtain rfl : g = j := by simpa [Value.ownBlock] using ej
      rw [hgb] at hj; cases hj; rfl
theorem heap_drewN (w : World) (n : Nat) : (w.drewN n).heap = w.heap := rfl

set_option maxRecDepth 100000 in
set_option maxHeartbeats 4000000 in
theorem sessions_out (g : Int) (ao : Option Addr) (m c : Nat) (hg : gapOk g = false) (w : World) :
    Calls Try.prog 25 #[.slice ao m c, .int .i64 g] w (IvsAre w []) := by
  refine (callsIn_wide (n := 3)).1 ?_
  have hg' := of_decide_eq_false hg
  refine callsIn_of_wp_marks Try.func25 rfl trivial ?_ rfl
  simp only [Try.ntmps25, List.size_toArray, List.length_cons, List.length_nil, Nat.reduceAdd, Nat.reduceSub, Array.replicate_succ, Array.replicate_zero, List.push_toArray, List.append_toArray, List.nil_append, List.cons_append]
  by_cases h1 : g < 1
  · have d1 : decide (g < 1) = true := by simpa using h1
    gi_wp2
    exact ⟨_, by simp [results, Try.results25, go_sem], ivs_none ((below_here _))⟩
  · have d1 : decide (g < 1) = false := by simpa using h1
    have d2 : decide (1099511627776 < g) = true := by simp; omega
    gi_wp2
    exact ⟨_, by simp [results, Try.results25, go_sem], ivs_none ((below_here _))⟩

set_option maxRecDepth 100000 in
set_option maxHeartbeats 4000000 in
theorem sessions_in (s : List Int) (ao : Option Addr) (c : Nat) (hl : s.length ≤ 1099511627776) (g : Int) (hg : gapOk g = true) (w : World) (h : IntsIn w ao s) :
    Calls Try.prog 25 #[.slice ao s.length c, .int .i64 g] w (IvsAre w (sess g (sortT s))) := by
  refine (callsIn_wide (n := 3)).1 ?_
  obtain ⟨g1, g2⟩ := of_decide_eq_true hg
  have HM := Lib.hid (fun w' hw => callsIn_wide (n := 2).2 (sessions_any s ao c hl g w' hw))
  refine callsIn_of_wp_marks Try.func25 rfl trivial ?_ rfl
  simp only [Try.ntmps25, List.size_toArray, List.length_cons, List.length_nil, Nat.reduceAdd, Nat.reduceSub, Array.replicate_succ, Array.replicate_zero, List.push_toArray, List.append_toArray, List.nil_append, List.cons_append]
  have d1 : decide (g < 1) = false := by simp; omega
  have d2 : decide (1099511627776 < g) = false := by simp; omega
  gi_wp2_with fail
  refine ⟨trivial, (HM.out _ (h.kept (below_here _))).mono ?_⟩
  rintro e w1 ⟨bl, bg, b, rfl, hst, hn1, hn2, ⟨hl1, hl2, hl3⟩, ⟨hu1, hu2, hu3⟩, hb⟩
  simp only [World.size_alloc] at hl1 hl2 hl3
  have hs1 := hb.size
  simp only [World.size_alloc] at hs1
  have hbox : Boxed w1 w.heap.size 24 (.slice none 0 0) := (hb.block _ (by simp)).trans (Boxed.new w 24 _)
  have HB1 : Hid (Below w.heap.size w w1) := (below_here _).trans (hb.mono (by simp))
  have HY := Lib.hid (ses_yields 2 (by omega) g g1 g2 bl bg b hn1 hn2 (sortT s) (sortT_tick s) (by have := sortT_length s; omega) w1 hst)
  have HLN : Hid (∀ pre x rest, sess g (sortT s) = pre ++ x :: rest → pre.length < 4398046511104) := fun pre x rest e => by
    have e1 := congrArg List.length e
    have e2 := sess_length g (sortT s)
    have e3 := sortT_length s
    simp at e1; omega
  clear hst h HM hb
  gi_wp2
  refine wp_range (n := 3) (gf := 45) (lb := #[.pointer (some ⟨bl, 0, none⟩), .pointer (some ⟨bg, 0, none⟩)]) rfl (Go.Proofs.enters_of Try.func45 (by kernel_rfl) rfl) (encs := fun x : Iv => #[iv x.1 x.2]) (fun _ => rfl) (bl := bl) hu1 (K := fun k => k = bl ∨ k = bg ∨ k = b)
    (fun k hk => by rcases hk with rfl | rfl | rfl <;> assumption) HY.out
    (fun pre W => ∃ v, Boxed W w.heap.size 24 v ∧ OwnIv W w1.heap.size v pre ∧ Below w.heap.size w W) ?minds ⟨_, hbox, OwnIv.nil _ _, HB1.out⟩
    (fun x a' W => ∃ q, w1.heap.size ≤ q ∧ Two W q (.int .i64 x.1) (.int .i64 x.2) ∧ a' = { tmps := #[.slice ao s.length c, .int .i64 g, undef, undef, .pointer (some ⟨w.heap.size, 0, none⟩), .pointer (some ⟨q, 0, none⟩), .int .i64 g, .bool false, .bool false, .int .i64 g, .bool false, .bool false, .slice ao s.length c, .int .i64 g, .func (.func 45) #[] #[.pointer (some ⟨bl, 0, none⟩), .pointer (some ⟨bg, 0, none⟩)], iv x.1 x.2, undef, undef, undef, undef, undef], defers := [] }) ?axm ?assign ?body ?done
  case minds =>
    rintro pre A B r ⟨v, hbx, ho, hbb⟩ hg hr
    have hne : r ≠ w.heap.size := by rcases hr with rfl | ⟨hr, _⟩ <;> omega
    refine ⟨v, hbx.kept hg (fun e => hne (by injection e with e; exact e.symm)), ownsRow_grown ho hg ?_, hbb.grown hg hbb.size (fun k e => by injection e with e; subst e; rcases hr with rfl | ⟨hr, _⟩ <;> omega)⟩
    rcases ho.2 with ⟨rfl, _⟩ | ⟨gg, cap, cur, rfl, hgb, hgc, _⟩
    · simp [Value.ownBlock]
    · intro e
      obtain rfl : gg = r := by simpa [Value.ownBlock] using e
      rcases hr with rfl | ⟨_, o, ho', hc⟩
      · omega
      · rw [hgc] at ho'; cases ho'; cases hc
  case axm =>
    rintro x a' A B r ⟨q, hq, h2, rfl⟩ hg hr
    refine ⟨q, hq, (hg.block q h2.lt (fun e => ?_)).trans h2, rfl⟩
    injection e with e
    subst e
    rcases hr with rfl | ⟨_, o, ho', hc⟩
    · omega
    · rw [show A.heap[q]? = _ from h2] at ho'; cases ho'; cases hc
  case assign =>
    rintro l pre x W C hS ⟨v, hbx, ho, hbb⟩ hC
    gi_wp2
    refine hC _ _ ⟨v, hbx.alloc _, ho.kept (below_here _), hbb.alloc hbb.size _⟩ ⟨fun k hk => Below.heap_alloc _ _ _ ?_, fun k o _ hk _ => (Below.heap_alloc _ _ _ (Array.getElem?_eq_some_iff.1 hk).1).trans hk⟩ ⟨W.heap.size, hS, Two.new _ _ _, rfl⟩
    rcases hk with rfl | rfl | rfl <;> omega
  case body =>
    rintro l pre x rest a' W hxs hS ⟨v, hbx, ho, hbb⟩ ⟨q, hq, h2, rfl⟩
    obtain ⟨x1, x2⟩ := x
    obtain ⟨t0, t1, -, -⟩ := h2.all
    have hc4 := hbx.cell
    have HO := Lib.hid ho
    have HBX := Lib.hid hbx
    have HBB := Lib.hid hbb
    have HLP := Lib.hid (HLN.out pre (x1, x2) rest hxs)
    obtain ⟨A0, c0, rfl, -⟩ := own_slice ho
    clear ho hbx hbb hxs h2
    gi_wp2_with (gi_at_builtin; refine wpListIn_app rfl (.tmp 16) (.tmp 18) rfl rfl rfl HO.out hS HLP.out ?_; intro A' c' w2 ho2 hb2 hk2; have HBX2 : Boxed w2 w.heap.size 24 (.slice A0 pre.length c0) := (hb2.block _ (by omega)).trans HBX.out; have hc5 := HBX2.cell; have hf5 := HBX2.frozen; have HO2 := Lib.hid ho2; have HB2 := Lib.hid hb2; have HK2 := Lib.hid hk2; have HBX3 := Lib.hid HBX2; clear ho2 hb2 hk2 HBX2)
    have hln : (pre ++ [(x1, x2)]).length = pre.length + 1 := by simp
    have ho2 := HO2.out
    rw [hln] at ho2
    have hb2 := HB2.out
    have hk2 := HK2.out
    have hsz2 := hb2.size
    refine ⟨⟨_, HBX3.out.set _, ownsRow_grown ho2 (grownBy_setCell' _ _ _) (fun e => by have := (ho2.lt _ e).1; omega), (HBB.out.trans (hb2.mono (by omega))).setCell (Nat.le_refl _) _⟩, ?_, ?_⟩
    · intro k hk
      have hk' : k < w1.heap.size ∧ k ≠ w.heap.size := by rcases hk with rfl | rfl | rfl <;> omega
      exact (Below.heap_setCell _ _ _ k hk'.2).trans (hb2.block k hk'.1)
    · intro k o hk ho hc
      exact (Below.heap_setCell _ _ _ k (by show k ≠ w.heap.size; omega)).trans (hk2.same k o ho hc)
  case done =>
    rintro D W hD ⟨v, hbx, ho, hbb⟩ hK
    obtain ⟨A0, c0, rfl, hs0, hc0⟩ := ho.slots
    have hc4 := hbx.cell
    have hf4 := hbx.frozen
    have HS0 := Lib.hid hs0
    have HO := Lib.hid ho
    have HBX := Lib.hid hbx
    have HBB := Lib.hid hbb
    have HKK := Lib.hid hK
    have HC0 := Lib.hid hc0
    clear hs0 ho hbx hbb hK hc0
    gi_wp2
    have hD' : (W.setCell ⟨w.heap.size, 0, none⟩ (.slice A0 (sess g (sortT s)).length c0)).heap[D]? = some (.deferred (some [])) := (Below.heap_setCell _ _ _ D (by show D ≠ w.heap.size; omega)).trans HKK.out
    refine ⟨by simp, .inl ⟨_, _, rfl, run_takeDeferred hD', ?_⟩⟩
    have hB3 := (HBX.out.set (.slice A0 (sess g (sortT s)).length c0)).kept (grownBy_putObj' _ D (.deferred none)) (fun e => by injection e with e; omega)
    have hS3 : SlotsAt ((W.setCell ⟨w.heap.size, 0, none⟩ (.slice A0 (sess g (sortT s)).length c0)).putObj D (.deferred none)) A0 (sess g (sortT s)) := by
      have h1 : OwnIv _ w1.heap.size _ (sess g (sortT s)) := ownsRow_putObj (ownsRow_grown HO.out (grownBy_setCell' W w.heap.size (.slice A0 (sess g (sortT s)).length c0)) (fun e => by have := (HO.out.lt _ e).1; omega)) (.deferred none) hD' rfl
      obtain ⟨A, c', he, hs, -⟩ := h1.slots
      injection he with e1 _ _
      rw [← e1] at hs; exact hs
    refine ⟨_, by simp [results, Try.results25, go_sem, hB3.cell], ⟨A0, c0, rfl, hS3, HC0.out, ?_⟩⟩
    exact (HBB.out.setCell (Nat.le_refl _) _).grown (grownBy_putObj' _ D _) (by have := HBB.out.size; simp [World.setCell]; omega) (fun k e => by injection e with e; omega)
theorem sessions_all (s : List Int) (ao : Option Addr) (c : Nat) (hl : s.length ≤ 1099511627776) (g : Int) (w : World) (h : IntsIn w ao s) :
    Calls Try.prog 25 #[.slice ao s.length c, .int .i64 g] w (IvsAre w (sesL s g)) := by
  unfold sesL
  cases hg : gapOk g
  · exact sessions_out g ao _ c hg w
  · exact sessions_in s ao c hl g hg w h
end Go.Proofs.Ytolkmfpbgheaaaa
