/-
  Small laws for the frames of the statements' proofs: an integer's bounds, a number of two halves opened and shut, and the step from 'nothing that was there has turned' to what a row says of memory.
-/
import Derived.Test.YtjjibddpgjoeeaaPlain
import Derived.Test.YtjjibddpgjoeeaaRows
import Derived.WalkKit
import Derived.ProofKit
import Derived.OpenShut
import Derived.Lib.SmallJoins
namespace Go.Proofs.Ytjjibddpgjoeeaa
open Go.ChangeShapes Go.WideShapes Go.ChangeAt Go.RowKit Go.Joins

theorem own : ownKnob Try.prog.godebug = none := by kernel_rfl
theorem cells24 : Try.prog.cellsOf 24 = 2 := by kernel_rfl
theorem int_lo {n : Int} (h : (Lit.int .i64 n).wf = true) : -9223372036854775808 ≤ n := (bounds_i64 h).1
theorem int_hi {n : Int} (h : (Lit.int .i64 n).wf = true) : n ≤ 9223372036854775807 := (bounds_i64 h).2

section
variable {H : Type} {enc : TypeId × Value → H}
theorem open_wide {r : Reach} {b0 : Nat} {v : Value} {d : DataW H} {p : List MemPlace} {w : World} {base : Nat} {spare : Nat → Bool} {held : Bool} (hv : Value.okWide Try.prog w r b0 24 v) (h : DataW.Trod enc Try.prog w base spare held 24 v d p) :
    ∃ n : Int, v = .agg #[.int .i64 (whi n), .int .u64 (wlo n)] ∧ d = .agg [.lit (.int .i64 (whi n)), .lit (.int .u64 (wlo n))] ∧ p = [] ∧
      ∀ {w' : World} {base' : Nat} {spare' : Nat → Bool} {held' : Bool}, DataW.Trod enc Try.prog w' base' spare' held' 24 (.agg #[.int .i64 (whi n), .int .u64 (wlo n)]) (.agg [.lit (.int .i64 (whi n)), .lit (.int .u64 (wlo n))]) [] := by
  obtain ⟨c0, c1, y0, y1, m, rfl, rfl, rfl, hy0, hy1⟩ := open_agg2 Try.underlying24 (by kernel_rfl) cells24 hv h
  obtain ⟨a, e0, rfl, wa⟩ := DataW.trod_int Try.underlying3 hy0
  obtain ⟨b, e1, rfl, wb⟩ := DataW.trod_int Try.underlying22 hy1
  simp at e0 e1
  subst e0 e1
  have ba := bounds_i64 wa
  have bb := bounds_u64 wb
  obtain ⟨g1, g2⟩ := halves_of a b ba.1 ba.2 bb.1 bb.2
  refine ⟨a * 18446744073709551616 + b, by rw [g1, g2], by rw [g1, g2], rfl, ?_⟩
  intro w' base' spare' held'
  rw [g1, g2]
  exact shut_agg2 (y0 := (.lit (.int .i64 a), [])) (y1 := (.lit (.int .u64 b), [])) Try.underlying24 (by kernel_rfl) cells24 ⟨1, by simp [DataW.trod, Try.underlying3, wa]⟩ ⟨1, by simp [DataW.trod, Try.underlying22, wb]⟩

variable {P : Program}
theorem post_of_below {f : Func} {s : ChangeSpec} {apart fresh handsOn again : Bool} {W W' : World} {args : Array Value} {v : Value} {ds gs : List (DataW H)} {before pa pv : List MemPlace}
    (hW : DataW.Whole enc P f.params.toList s.vars apart W args.toList ds gs before)
    (hres : ∀ (b : Nat) (sp : Nat → Bool) (hd : Bool), DataW.TrodAll enc P W' b sp hd f.resultTypes.toList (v.resultList f.resultTypes.size) (s.fn H (ds ++ gs)).results [])
    (hargs : ∀ sp : Nat → Bool, (∀ p ∈ before, sp p.block = true) → DataW.TrodAll enc P W' 0 sp true f.params.toList args.toList (s.fn H (ds ++ gs)).args pa)
    (hvars : ∀ sp : Nat → Bool, (∀ p ∈ before, sp p.block = true) → DataW.TrodVars enc P W' sp s.vars (s.fn H (ds ++ gs)).vars pv)
    (hps : before = pa ++ pv) (hb : Below W.heap.size W W')
    (hok : ∀ (j : Nat) (t : TypeId) (r : Value), f.resultTypes[j]? = some t → (v.resultList f.resultTypes.size)[j]? = some r → Value.okWide P W' .any 0 t r) :
    s.post enc P f apart fresh handsOn again W args v W' := by
  have hlt : ∀ p ∈ before, p.block < W.heap.size := fun p hp => hW.lt p hp
  have hold : ∀ p ∈ before, (fun b => decide (b < W.heap.size)) p.block = true := fun p hp => by simpa using hlt p hp
  refine ⟨ds, gs, before, [], pa, pv, hW, hres _ _ _, hargs _ hold, hvars _ hold, World.keptBut_mono (fun p hp => ⟨hp, ?_⟩) (hb.frame (· ∈ before)), fun _ => ?_⟩
  · rw [hps, List.mem_append] at hp
    exact Or.inr hp
  · obtain ⟨_, _, _, _, _, hz, hn⟩ := hW
    refine ⟨hok, _, _, ([] ++ pa) ++ pv, ⟨[] ++ pa, pv, trodAll_append (hargs _ (fun _ _ => rfl)) (hres _ _ _), hvars _ (fun _ _ => rfl), rfl, ?_, ?_⟩, ?_⟩
    · intro b off hp
      have hin : MemPlace.cell b off ∈ before := by rw [hps]; simpa using hp
      rw [hb.frozen (hlt _ hin)]
      exact hz b off hin
    · intro ha
      have := hn ha
      rw [hps] at this
      simpa using this
    · intro p hp _
      rw [hps]
      simpa using hp
end
end Go.Proofs.Ytjjibddpgjoeeaa
