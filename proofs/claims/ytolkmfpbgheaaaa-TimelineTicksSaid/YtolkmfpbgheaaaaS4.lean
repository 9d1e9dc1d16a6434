/-
  timeline.sessions: the function that it hands back, and its state.
-/
import Derived.Test.YtolkmfpbgheaaaaS3
namespace Go.Proofs.Ytolkmfpbgheaaaa
open Go.ChangeShapes Go.WideShapes Go.ChangeAt Go.RowKit
set_option linter.unusedVariables false
set_option linter.unusedSimpArgs false

/-- The ticks of a list, in order. -/
def sortT (s : List Int) : List Int := (s.filter okT).mergeSort fun x y => decide (x ≤ y)
theorem sortT_tick (s : List Int) : AllTick (sortT s) := by
  intro x hx
  have := (List.mergeSort_perm (s.filter okT) (fun x y => decide (x ≤ y))).mem_iff.1 hx
  exact okT_yes (List.mem_filter.1 this).2
theorem sortT_length (s : List Int) : (sortT s).length ≤ s.length := by
  unfold sortT; rw [List.length_mergeSort]; exact List.length_filter_le _ _

set_option maxHeartbeats 1000000 in
theorem sessions_any (s : List Int) (ao : Option Addr) (c : Nat) (hl : s.length ≤ 1099511627776) (g : Int) (w : World) (h : IntsIn w ao s) :
    Calls Try.prog 37 #[.slice ao s.length c, .int .i64 g] w fun e w' => ∃ bl bg b : Nat, e = .returned (.func (.func 45) #[] #[.pointer (some ⟨bl, 0, none⟩), .pointer (some ⟨bg, 0, none⟩)]) ∧
      SesSt g bl bg b w' (sortT s) ∧ bl ≠ bg ∧ bl ≠ b ∧ (w.heap.size ≤ bl ∧ w.heap.size ≤ bg ∧ w.heap.size ≤ b) ∧ (bl < w'.heap.size ∧ bg < w'.heap.size ∧ b < w'.heap.size) ∧ Below w.heap.size w w' := by
  have H1 := Lib.hid (clone_own s ao c (by omega) (w.alloc (.cells #[.int .i64 g] 3)) (h.kept (below_here _)))
  have eg : Hid (∀ args w, (callFunc 43 args).run Try.prog w = .ok (.enter 43 args) w) := Go.Proofs.enters_of Try.func43 (by kernel_rfl) rfl
  clear h
  go_enter Try.func37, Try.ntmps37
  go_wp2_with fail
  refine H1.out.mono ?_
  rintro e w1 ⟨v, rfl, ho, hb⟩
  have HB1 : Hid (Below w.heap.size w w1) := (below_here _).trans (hb.mono (by simp))
  have hG1 : Boxed w1 w.heap.size 3 (.int .i64 g) := (hb.block _ (by simp)).trans (Boxed.new w 3 _)
  have HS1 : Hid (w.heap.size + 1 ≤ w1.heap.size) := by show _ ≤ _; have := hb.size; simpa using this
  have ho' : OwnI w1 (w.heap.size + 1) v s := by simpa using ho
  have HD := Lib.hid (del_own (fun x => !okT x) 43 #[] eg.out s (by omega) (w.heap.size + 1) v w1 HS1.out (fun W x _ => tick_pred x W) (fun _ _ _ _ _ x _ => tick_pred x _) ho')
  have HG1 := Lib.hid hG1
  clear ho hb ho' hG1 H1 eg
  go_wp2_with fail
  refine HD.out.mono ?_
  rintro e w2 ⟨v2, rfl, ho2, hb2⟩
  have HB2 : Hid (Below w.heap.size w w2) := HB1.out.trans (hb2.mono (by omega))
  have HG2 : Hid (Boxed w2 w.heap.size 3 (.int .i64 g)) := (hb2.block _ (by omega)).trans HG1.out
  have HS2 : Hid (w.heap.size + 1 ≤ w2.heap.size) := by show _ ≤ _; have := hb2.size; have := HS1.out; omega
  have ho2' : OwnI w2 (w.heap.size + 1) v2 (s.filter okT) := by simpa using ho2
  obtain ⟨A, cc, rfl, hcc, hn, hp⟩ := ho2'.lies
  have HCC := Lib.hid hcc
  have HN := Lib.hid hn
  have HP := Lib.hid hp
  have HL : Hid ((s.filter okT).length ≤ s.length) := List.length_filter_le _ _
  have HSO := Lib.hid (sort_ints_own (s.filter okT) (by have := HL.out; omega) (w.heap.size + 1) _ (w2.alloc (.cells #[.slice A (s.filter okT).length cc] 40)) (by have := HS2.out; simp; omega) (ho2'.kept (below_here _)))
  have hnew := Lib.hid (Boxed.new w2 40 (.slice A (s.filter okT).length cc))
  clear ho2 hb2 ho2' hcc hn hp HD HB1 HG1 HS1
  go_wp2_with fail
  refine HSO.out.mono ?_
  rintro e w3 ⟨rfl, ho3, hg3⟩
  have hfar : some w2.heap.size ≠ (Value.slice A (s.filter okT).length cc).ownBlock := by
    cases A with
    | none => simp [Value.ownBlock]
    | some p => obtain ⟨q, rfl, _, hq, _⟩ := HP.out p rfl; simp [Value.ownBlock]; omega
  have hfar2 : some w.heap.size ≠ (Value.slice A (s.filter okT).length cc).ownBlock := by
    cases A with
    | none => simp [Value.ownBlock]
    | some p => obtain ⟨q, rfl, hq, _⟩ := HP.out p rfl; simp [Value.ownBlock]; omega
  have HBX := Lib.hid (hnew.out.kept hg3 hfar)
  have HGX := Lib.hid ((HG2.out.alloc _).kept hg3 hfar2)
  have HB3 : Hid (Below w.heap.size w w3) := (HB2.out.alloc HB2.out.size _).grown hg3 (by have := HS2.out; simp; omega) (fun k hk => by
    cases A with
    | none => simp [Value.ownBlock] at hk
    | some p => obtain ⟨q, rfl, hq, _⟩ := HP.out p rfl; simp [Value.ownBlock] at hk; omega)
  have HS3 : Hid (w2.heap.size < w3.heap.size) := HBX.out.lt
  have HO3 := Lib.hid ho3
  clear ho3 hg3 hfar hfar2 hnew HSO
  go_wp2_with fail
  go_ret
  obtain ⟨A', c', he, hc', -, hp'⟩ := HO3.out.lies
  injection he with e1 e2 e3
  have hs2 := HS2.out
  have hs3 := HS3.out
  have hlen : (sortT s).length = (s.filter okT).length := by unfold sortT; rw [List.length_mergeSort]
  cases A with
  | none =>
    have h0 : (s.filter okT).length = 0 := by have := HN.out rfl; have := HCC.out; omega
    refine ⟨w2.heap.size, w.heap.size, w.heap.size, rfl, ⟨⟨none, cc, by rw [hlen]; exact HBX.out, by rw [hlen]; exact HCC.out, fun hl => by omega⟩, HGX.out⟩, by omega, by omega, ⟨by omega, Nat.le_refl _, Nat.le_refl _⟩, ⟨by omega, by omega, by omega⟩, HB3.out⟩
  | some p =>
    obtain ⟨q, rfl, hq1, hq2, -⟩ := HP.out p rfl
    obtain ⟨q', hqq, -, hq3, hi⟩ := hp' _ e1.symm
    injection hqq with hqq _ _
    subst hqq
    exact ⟨w2.heap.size, w.heap.size, q, rfl, ⟨⟨_, cc, by rw [hlen]; exact HBX.out, by rw [hlen]; exact HCC.out, fun _ => ⟨0, rfl, hi⟩⟩, HGX.out⟩, by omega, by omega, ⟨by omega, Nat.le_refl _, by omega⟩, ⟨by omega, by omega, by omega⟩, HB3.out⟩
end Go.Proofs.Ytolkmfpbgheaaaa
