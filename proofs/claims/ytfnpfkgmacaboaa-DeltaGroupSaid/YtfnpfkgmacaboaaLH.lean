/-
  asofref20.Few: what its yes says.
-/
import Derived.Test.YtfnpfkgmacaboaaLE
namespace Go.Proofs.Ytfnpfkgmacaboaa
open Go.ChangeShapes Go.WideShapes Go.ChangeAt Go.RowKit
set_option linter.unusedVariables false
set_option linter.unusedSimpArgs false

/-- A row as it comes in: nothing of it is greater than memory. -/
structure Rw.Seen (w : World) (r : Rw) : Prop where
  lies : LiesAt valC 3 w r.fa r.vs
  len : r.vs.length ≤ 140737488355328
  str : ∀ v ∈ r.vs, v.2.2.size ≤ 140737488355328
  val : ∀ v ∈ r.vs, I64 v.1 ∧ I64 v.2.1
  src : r.src.size ≤ 140737488355328
  tb : r.tb.size ≤ 140737488355328
  ky : r.ky.size ≤ 140737488355328
  ints : I64 r.seq ∧ I64 r.ev ∧ I64 r.no ∧ I64 r.tk
structure Dl.Seen (w : World) (d : Dl) : Prop where
  r : d.r.Seen w
  tick : I64 d.tick
  n : I64 d.n
/-- Is a row short? -/
def Rw.Short (r : Rw) : Prop := r.vs.length ≤ 12 ∧ r.src.size ≤ 300 ∧ r.tb.size ≤ 300 ∧ r.ky.size ≤ 300 ∧ ∀ v ∈ r.vs, v.2.2.size ≤ 200
theorem Rw.Seen.ok {w : World} {r : Rw} (h : r.Seen w) (hs : r.Short) : r.Ok w :=
  ⟨h.lies, by have := hs.1; omega, fun v hv => by have := hs.2.2.2.2 v hv; omega, h.val, by have := hs.2.1; omega, by have := hs.2.2.1; omega, by have := hs.2.2.2.1; omega, h.ints⟩
theorem Dl.Seen.ok {w : World} {d : Dl} (h : d.Seen w) (hs : d.r.Short) : d.Ok w := ⟨h.r.ok hs, h.tick, h.n⟩
/-- What is answered. -/
def FewPost (l : List Dl) (w : World) (e : Ending) (w' : World) : Prop := ∃ b, e = .returned (.bool b) ∧ (b = true → l.length ≤ 60 ∧ ∀ d ∈ l, d.r.Short) ∧ Below w.heap.size w w'
set_option maxHeartbeats 4000000 in
set_option maxRecDepth 100000 in
theorem few_any (l : List Dl) (ao : Option Addr) (cap : Nat) (hl : l.length ≤ 140737488355328) (w : World) (h : LiesAt Dl.cells 10 w ao l) (hS : ∀ d ∈ l, d.Seen w) :
    Calls Try.prog 6 #[.slice ao l.length cap] w (FewPost l w) := by
  have H := Lib.hid h
  have HS := Lib.hid hS
  clear h hS
  go_enter Try.func6, Try.ntmps6
  go_wp2_with fail
  go_loopw [3] (fun v wr => ∃ i : Nat, i ≤ l.length ∧ v = .int .i64 i ∧ Hid (∀ q d, q < i → l[q]? = some d → d.r.Short) ∧ Below w.heap.size w wr) (fun v _ => l.length - (intOf v).toNat)
  case atStart => exact ⟨0, by omega, rfl, Lib.hid (fun q d hq => by omega), Below.refl _ _⟩
  case round =>
    obtain ⟨i, hi, rfl, HN, hB⟩ := hrel
    have HB := Lib.hid hB
    clear hB
    obtain ⟨wo, hwo⟩ : ∃ wo, wo = wr := ⟨_, rfl⟩
    subst hwo
    by_cases hlt : i < l.length
    · by_cases h61 : i < 61
      · obtain ⟨x, hx⟩ : ∃ x, l[i]? = some x := ⟨l[i], List.getElem?_eq_getElem hlt⟩
        obtain ⟨b, off, rfl, hrow⟩ := lies_some (H.out.kept HB.out) hx
        obtain ⟨c0, c1, c2, c3, c4, c5, c6, c7, c8, c9⟩ := Dl.cell hrow hx
        have HX := Lib.hid hx
        have HXS := Lib.hid (HS.out x (List.mem_of_getElem? hx))
        have b1 := HXS.out.r.len
        have b2 := HXS.out.r.src
        have b3 := HXS.out.r.tb
        have b4 := HXS.out.r.ky
        clear hrow hx
        by_cases hv : (12 : Int) < (x.r.vs.length : Int)
        · go_wp2_with fail
          go_ret
          exact ⟨false, rfl, (fun e => by cases e), HB.out.alloc HB.out.size _⟩
        · by_cases hs : (300 : Int) < (x.r.src.size : Int) + (x.r.tb.size : Int) + (x.r.ky.size : Int)
          · go_wp2_with fail
            go_ret
            exact ⟨false, rfl, (fun e => by cases e), HB.out.alloc HB.out.size _⟩
          · have HSh : Hid (x.r.vs.length ≤ 12 ∧ x.r.src.size ≤ 300 ∧ x.r.tb.size ≤ 300 ∧ x.r.ky.size ≤ 300) := by refine ⟨?_, ?_, ?_, ?_⟩ <;> omega
            go_wp2_with fail
            refine wp_gen (fun X hX => ?_)
            have HBX : Hid (Below w.heap.size w X) := by rw [hX]; exact HB.out.alloc HB.out.size _
            have HTX : Hid (Box X wo.heap.size #[.string x.r.src, .int .i64 x.r.seq, .string x.r.tb, .string x.r.ky, .int .i64 x.r.ev, .slice x.r.fa x.r.vs.length x.r.fc, .int .i64 x.r.no, .int .i64 x.r.tk] 39) := by rw [hX]; exact Box.new _ _ _
            clear hX c0 c1 c2 c3 c4 c5 c6 c7 c8 c9
            have k4 := HTX.out.cell 5 _ rfl
            generalize hvs : x.r.vs = vs at *
            have HL : Hid (LiesAt valC 3 X x.r.fa vs) := by rw [← hvs]; exact HXS.out.r.lies.kept HBX.out
            have HSt : Hid (∀ v ∈ vs, v.2.2.size ≤ 140737488355328) := by rw [← hvs]; exact HXS.out.r.str
            have HVS := Lib.hid hvs
            clear hvs
            go_loop [5] (fun v => ∃ j : Nat, j ≤ vs.length ∧ v = .int .i64 j ∧ Hid (∀ q v, q < j → vs[q]? = some v → v.2.2.size ≤ 200)) (fun v => vs.length - (intOf v).toNat)
            case atStart => exact ⟨0, by omega, rfl, Lib.hid (fun q d hq => by omega)⟩
            case round =>
              obtain ⟨j, hj, rfl, HJ⟩ := hrel
              by_cases hjl : j < vs.length
              · obtain ⟨v, hv⟩ : ∃ v, vs[j]? = some v := ⟨vs[j], List.getElem?_eq_getElem hjl⟩
                obtain ⟨b5, off5, hfa, hrow5⟩ := lies_some HL.out hv
                obtain ⟨d0, d1, d2⟩ := val_cell hrow5 hv
                have hsz := HSt.out v (List.mem_of_getElem? hv)
                have HV := Lib.hid hv
                clear hv hrow5
                rw [hfa] at k4
                by_cases h200 : (200 : Int) < (v.2.2.size : Int)
                · go_wp2_with fail
                  go_ret
                  exact ⟨false, rfl, (fun e => by cases e), HBX.out⟩
                · have HJ2 : Hid (∀ q u, q < j + 1 → vs[q]? = some u → u.2.2.size ≤ 200) := by
                    intro q u hq hu
                    by_cases e : q = j
                    · subst e; rw [HV.out] at hu; injection hu with hu; subst hu; omega
                    · exact HJ.out q u (by omega) hu
                  go_wp2_with fail
                  go_round
                  case rel => exact ⟨j + 1, by omega, by go_num, HJ2⟩
                  case measure => simp [intOf]; omega
              · obtain rfl : j = vs.length := by omega
                have HALL : Hid (∀ q d, q < i + 1 → l[q]? = some d → d.r.Short) := by
                  intro q d hq hd
                  by_cases e : q = i
                  · subst e; rw [HX.out] at hd; injection hd with hd; subst hd
                    have h1 := HSh.out
                    refine ⟨by rw [HVS.out]; exact h1.1, h1.2.1, h1.2.2.1, h1.2.2.2, fun v hv => ?_⟩
                    rw [HVS.out] at hv
                    obtain ⟨q, hq, rfl⟩ := List.getElem_of_mem hv
                    exact HJ.out q _ hq (List.getElem?_eq_getElem hq)
                  · exact HN.out q d (by omega) hd
                go_wp2_with fail
                go_roundw
                case rel => exact ⟨i + 1, by omega, by go_num, HALL, HBX.out⟩
                case measure => simp [intOf]; omega
      · have h60 : ¬ (l.length : Int) ≤ 60 := by omega
        go_wp2_with fail
        go_ret
        exact ⟨_, rfl, (fun e => by simp at e <;> omega), HB.out⟩
    · obtain rfl : i = l.length := by omega
      go_wp2_with fail
      go_ret
      refine ⟨_, rfl, (fun e => ⟨by simp at e; omega, fun d hd => ?_⟩), HB.out⟩
      obtain ⟨q, hq, rfl⟩ := List.getElem_of_mem hd
      exact HN.out q _ hq (List.getElem?_eq_getElem hq)
end Go.Proofs.Ytfnpfkgmacaboaa
