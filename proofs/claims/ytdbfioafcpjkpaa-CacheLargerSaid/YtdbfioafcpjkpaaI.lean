/-
  Clone, and appends to slots of the call's own.
-/
import Derived.Test.YtdbfioafcpjkpaaH
import Derived.Laws.OwnMore
import Derived.Laws.AppendOwnNone
import Derived.WalkSpells
import Derived.Lib.SliceRun
namespace Go.Proofs.Ytdbfioafcpjkpaa
open Go.ChangeShapes Go.WideShapes Go.ChangeAt Go.RowKit

/-- A slice of slots of the call's own (none of what was there before). -/
def OwnSlots (w : World) (B : Nat) (v : Value) (l : List Sl) : Prop := ∃ vs, RepV vs l ∧ (∀ x ∈ vs, x.oneCell' = true) ∧ w.ownsRow B 34 2 v l.length vs
theorem OwnSlots.slots {w : World} {B : Nat} {v : Value} {l : List Sl} (h : OwnSlots w B v l) : ∃ ao cap, v = .slice ao l.length cap ∧ l.length ≤ cap ∧ SlotsAt w ao l ∧ (0 < l.length → ∃ g, ao = some ⟨g, 0, none⟩ ∧ B ≤ g) := by
  obtain ⟨vs, hr, h1, ho⟩ := h
  rcases ho.2 with ⟨rfl, hn⟩ | ⟨g, cap, cur, rfl, hb, hg, hc, _, hs, ht⟩
  · have : l = [] := List.eq_nil_of_length_eq_zero hn
    subst this
    exact ⟨none, 0, rfl, Nat.le_refl _, Or.inl rfl, by intro h; simp at h⟩
  · refine ⟨_, cap, rfl, hc, Or.inr ⟨g, 0, rfl, hr.row ?_⟩, fun _ => ⟨g, rfl, hb⟩⟩
    intro j v hv
    have := ho.cells (g := g) rfl j v hv
    simpa [addr_add] using this
set_option maxHeartbeats 1000000 in
set_option maxRecDepth 100000 in
theorem clone_any (l : List Sl) (ao : Option Addr) (cap : Nat) (hl : l.length * 24 ≤ 140737488355328) (w : World) (h : SlotsAt w ao l) :
    Calls Try.prog 27 #[.slice ao l.length cap] w fun e w' => ∃ v, e = .returned v ∧ OwnSlots w' w.heap.size v l ∧ Below w.heap.size w w' := by
  obtain ⟨i0, hi0, hz0, hz1, hz2⟩ := info_parts info34z
  cases ao with
  | none =>
    have hl0 : l = [] := by
      rcases h with h | ⟨_, _, h, _⟩
      · exact h
      · cases h
    subst hl0
    clear h
    have hn : ∀ w n c, (binOp .eql 22 (.slice none n c) (.slice none 0 0)).run Try.prog w = .ok (.bool true) w := fun w n c => Lib.run_eql_slice_nil w 22 34 none n c 0 0 Try.underlying22
    go_enter Try.func27, Try.ntmps27
    go_wp2_with fail
    go_ret
    exact ⟨_, rfl, ⟨[], by intro i x hx; simp at hx, by simp, rfl, Or.inl ⟨rfl, rfl⟩⟩, Below.refl _ _⟩
  | some a =>
    have hn : ∀ w n c, (binOp .eql 22 (.slice (some a) n c) (.slice none 0 0)).run Try.prog w = .ok (.bool false) w := fun w n c => Lib.run_eql_slice_nil w 22 34 (some a) n c 0 0 Try.underlying22
    have hv : ∃ vs : List Value, vs.length = l.length * 2 ∧ (∀ j v, vs[j]? = some v → w.cell? (a.add j) = some v) ∧ (∀ v, v ∈ vs → v.oneCell' = true) ∧ RepV vs l := by
      rcases h with rfl | ⟨b, off, he, h⟩
      · exact ⟨[], rfl, by intro j v hj; simp at hj, by simp, by intro i x hx; simp at hx⟩
      · injection he with he
        subst he
        obtain ⟨vs, h1, h2, h3, h4⟩ := h.cells
        exact ⟨vs, h1, by intro j v hj; rw [addr_add]; exact h2 j v hj, h3, h4⟩
    obtain ⟨vs, h1, h2, h3, h4⟩ := hv
    have H1 : Hid (vs.length = l.length * 2) := h1
    have H2 : Hid (∀ j v, vs[j]? = some v → (w.alloc (.cells #[] 34)).cell? (a.add j) = some v) := fun j v hj => by
      have := h2 j v hj
      rw [World.cell?_alloc_lt _ _ _ (cells_lt this)]; exact this
    have H3 := Lib.hid h3
    have H4 := Lib.hid h4
    have H5 : Hid (0 + l.length ≤ maxLen) := by show _ ≤ _; unfold maxLen; omega
    have H6 : Hid ((0 + l.length) * 24 ≤ 140737488355328) := by show _ ≤ _; omega
    have HO : Hid ((w.alloc (.cells #[] 34)).ownsRow w.heap.size 34 2 (.slice (some ⟨w.heap.size, 0, none⟩) 0 0) 0 []) := World.ownsRow_lit w #[] 0 (Nat.le_refl _) (by unfold maxLen; omega) rfl
    have H7 : Hid (w.heap.size ≤ (w.alloc (.cells #[] 34)).heap.size) := by show _ ≤ _; simp
    clear h h1 h2 h3 h4 hl
    go_enter Try.func27, Try.ntmps27
    go_wp2_with (at_builtin; refine wpList_append_own _ rfl (.tmp 5) (.tmp 6) 22 rfl w.heap.size 34 i0 _ 2 24 Try.underlying22 hi0 hz0 hz1 hz2 rfl (by decide) _ _ _ rfl HO.out a l.length cap vs rfl H1.out H2.out H3.out H5.out H6.out H7.out ?_; intro v' w1 hown hgr _; have HGR := Lib.hid hgr; have HOWN := Lib.hid hown; clear hgr hown)
    have HB := (below_here (w := w) (.cells #[] 34)).grown HGR.out H7.out (fun g hg => by injection hg with hg; exact Nat.le_of_eq hg)
    have HO2 : Hid (OwnSlots w1 w.heap.size v' l) := ⟨vs, H4.out, H3.out, by simpa using HOWN.out⟩
    clear HOWN HGR HO
    go_wp2_with fail
    go_ret
    exact ⟨_, rfl, HO2.out, HB⟩
end Go.Proofs.Ytdbfioafcpjkpaa
