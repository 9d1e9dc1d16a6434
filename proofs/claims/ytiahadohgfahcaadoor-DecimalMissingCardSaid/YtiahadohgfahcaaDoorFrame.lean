/-
  Small laws for the frames of the statements' proofs: an integer's bounds, the laid tables' cells, and the step from 'nothing that was there has turned' to what a row says of memory.
-/
import Derived.Test.YtiahadohgfahcaaDoorG
import Derived.Test.YtiahadohgfahcaaDoorTie
import Derived.ProofKit
import Derived.OpenShut
import Derived.LaidMore
import Derived.Lay
import Derived.LaidSub
import Derived.SevenTiedAt
import Derived.Lib.LaidTab
import Derived.MakeChecks
namespace Go.Proofs.YtiahadohgfahcaaDoor
open Go.ChangeShapes Go.WideShapes Go.ChangeAt Go.RowKit

theorem own : ownKnob Tryd.prog.godebug = none := by kernel_rfl
theorem int_lo {n : Int} (h : (Lit.int .i64 n).wf = true) : -9223372036854775808 ≤ n := (bounds_i64 h).1
theorem int_hi {n : Int} (h : (Lit.int .i64 n).wf = true) : n ≤ 9223372036854775807 := (bounds_i64 h).2

/-- The tables, off what the row lays. -/
theorem tabs_of_laid {W : World} (h : laidMetH Tryd.prog Rows.decimalSumsRow.laid W) : Tabs W := by
  rw [MakeChecks.laidMetH_plain _ _ _ (by kernel_rfl)] at h
  have h1 : laidMet Tryd.prog [("internal/strconv.uint64pow10", Lib.tabData .u64 Lib.pow10Tab)] W := by
    have := h.filter (fun x => x.1 == "internal/strconv.uint64pow10")
    rw [show (Rows.decimalSumsRow.laid.filter fun x => x.1 == "internal/strconv.uint64pow10") = [("internal/strconv.uint64pow10", Lib.tabData .u64 Lib.pow10Tab)] from by kernel_rfl] at this
    exact this
  have h2 : laidMet Tryd.prog [("asof/decimal.tens", Lib.tabData .i64 [1, 10, 100, 1000, 10000, 100000, 1000000])] W := by
    have := h.filter (fun x => x.1 == "asof/decimal.tens")
    rw [show (Rows.decimalSumsRow.laid.filter fun x => x.1 == "asof/decimal.tens") = [("asof/decimal.tens", Lib.tabData .i64 [1, 10, 100, 1000, 10000, 100000, 1000000])] from by kernel_rfl] at this
    exact this
  have t1 : Lib.TabIs Tryd.prog W "internal/strconv.uint64pow10" .u64 Lib.pow10Tab := Lib.tabIs_of_head (g := 3) (t := 59) (e := 30) (n := 20) (by kernel_rfl) (by kernel_rfl) (by kernel_rfl) (by kernel_rfl) (by kernel_rfl) (by kernel_rfl) h1
  have t2 : Lib.TabIs Tryd.prog W "asof/decimal.tens" .i64 [1, 10, 100, 1000, 10000, 100000, 1000000] := Lib.tabIs_of_head (g := 0) (t := 48) (e := 3) (n := 7) (by kernel_rfl) (by kernel_rfl) (by kernel_rfl) (by kernel_rfl) (by kernel_rfl) (by kernel_rfl) h2
  have hg : Tryd.prog.globalNamed "asof/decimal.tens" = some 0 := by kernel_rfl
  exact ⟨t1, t2.cell hg 0 (by decide), t2.cell hg 1 (by decide), t2.cell hg 2 (by decide), t2.cell hg 3 (by decide), t2.cell hg 4 (by decide), t2.cell hg 5 (by decide), t2.cell hg 6 (by decide)⟩

section
variable {H : Type} {enc : TypeId × Value → H}
variable {P : Program}
theorem post_of_below {f : Func} {s : ChangeSpec} {apart fresh handsOn again : Bool} {W W' : World} {args : Array Value} {v : Value} {ds gs : List (DataW H)} {before pa pv : List MemPlace}
    (hW : DataW.Whole enc P f.params.toList s.vars apart W args.toList ds gs before)
    (hres : ∀ (b : Nat) (sp : Nat → Bool) (hd : Bool), DataW.TrodAll enc P W' b sp hd f.resultTypes.toList (v.resultList f.resultTypes.size) (s.fn H (ds ++ gs)).results [])
    (hargs : ∀ sp : Nat → Bool, (∀ p ∈ before, sp p.block = true) → DataW.TrodAll enc P W' 0 sp true f.params.toList args.toList (s.fn H (ds ++ gs)).args pa)
    (hvars : ∀ sp : Nat → Bool, (∀ p ∈ before, sp p.block = true) → DataW.TrodVars enc P W' sp s.vars (s.fn H (ds ++ gs)).vars pv)
    (hps : before = pa ++ pv) (hb : Below W.heap.size W W')
    (hok : ∀ (j : Nat) (t : TypeId) (r : Value), f.resultTypes[j]? = some t → (v.resultList f.resultTypes.size)[j]? = some r → Value.okWide P W' .any 0 t r) :
    s.post enc P f apart fresh handsOn again W args v W' := by
  have hlt : ∀ p ∈ before, p.block < W.heap.size := fun p hp => hW.lt p hp
  have hold : ∀ p ∈ before, (fun b => decide (b < W.heap.size)) p.block = true := fun p hp => by simpa using hlt p hp
  refine ⟨ds, gs, before, [], pa, pv, hW, hres _ _ _, hargs _ hold, hvars _ hold, World.keptBut_mono (fun p hp => ⟨hp, ?_⟩) (hb.frame (· ∈ before)), fun _ => ?_⟩
  · rw [hps, List.mem_append] at hp
    exact Or.inr hp
  · obtain ⟨_, _, _, _, _, hz, hn⟩ := hW
    refine ⟨hok, _, _, ([] ++ pa) ++ pv, ⟨[] ++ pa, pv, trodAll_append (hargs _ (fun _ _ => rfl)) (hres _ _ _), hvars _ (fun _ _ => rfl), rfl, ?_, ?_⟩, ?_⟩
    · intro b off hp
      have hin : MemPlace.cell b off ∈ before := by rw [hps]; simpa using hp
      rw [hb.frozen (hlt _ hin)]
      exact hz b off hin
    · intro ha
      have := hn ha
      rw [hps] at this
      simpa using this
    · intro p hp _
      rw [hps]
      simpa using hp
end
end Go.Proofs.YtiahadohgfahcaaDoor

