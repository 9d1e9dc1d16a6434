/-
  slices.SortFunc on a list of structs of the call's own, whatever the elements; at differences.
-/
import Derived.Test.YtfnpfkgmacaboaaPB
import Derived.Lib.OwnBridge
import Derived.Shelf.SlSortCmp.NoneTotal
namespace Go.Proofs.Ytfnpfkgmacaboaa
open Go.ChangeShapes Go.WideShapes Go.ChangeAt Go.RowKit Go.Shelf Go.Sort
set_option linter.unusedVariables false
set_option linter.unusedSimpArgs false

theorem below_grow {B : Nat} {w X : World} (h : Go.RowKit.Below B w X) (hB : B ≤ X.heap.size) (os : Array Obj) : Go.RowKit.Below B w (grow X os) :=
  ⟨h.os, h.tape, h.output, by have := h.size; simp [grow]; omega, fun k hk => by
    rw [← h.block k hk]
    simp [grow, Array.getElem?_append, show k < X.heap.size by omega]⟩
theorem ltOf_iff {α : Type} {cf : α → α → Int} {x y : α} : ltOf cf x y = decide (cf x y < 0) := rfl
theorem cmp_swo {α κ : Type} {c : κ → κ → Int} (hc : Cmp c) (f : α → κ) : SWO (ltOf (fun x y : α => c (f x) (f y))) where
  irrefl := fun x => by rw [ltOf_iff, hc.refl]; rfl
  trans := fun x y z h1 h2 => by
    rw [ltOf_iff, decide_eq_true_eq] at *
    exact hc.trans _ _ _ h1 h2
  ntrans := fun x y z h1 h2 => by
    rw [ltOf_iff, decide_eq_false_iff_not] at *
    intro h3
    by_cases e1 : c (f x) (f y) = 0
    · rw [(hc.zero _ _).1 e1] at h3; exact h2 h3
    · have p1 : c (f y) (f x) < 0 := (hc.turn _ _).2 (by omega)
      exact h2 (hc.trans _ _ _ p1 h3)
set_option maxRecDepth 100000 in
theorem sort_gen {α κ : Type} {enc : α → List Value} {k : Nat} {e : TypeId} (hE : Enc enc k) {c : κ → κ → Int} (hc : Cmp c) (f : α → κ) (ok : α → Prop) {ρ : Ren} (L : Go.Proofs.SlLaysF0.n6 Try.prog ρ)
    (aE : ∀ w, (isAgg (ρ.t 24)).run Try.prog w = .ok true w) (zE : ∀ w, (Go.sizeOf (ρ.t 24)).run Try.prog w = .ok k w) (hk0 : 0 < k) (g : Nat) (eg : ∀ args w, (callFunc g args).run Try.prog w = .ok (.enter g args) w)
    (w0 : World) (hcmp : ∀ x y, ok x → ok y → ∀ w', Go.RowKit.Below w0.heap.size w0 w' → Calls Try.prog g #[.agg (enc x).toArray, .agg (enc y).toArray] w' fun r w'' => r = .returned (.int .i64 (c (f x) (f y))) ∧ Grew w' w'')
    (l : List α) (w : World) (hB : Go.RowKit.Below w0.heap.size w0 w) (ao : Option Addr) (cap : Nat) (h : Own enc k e w w0.heap.size (.slice ao l.length cap) l) (hok : ∀ x ∈ l, ok x) (hl : l.length < 4611686018427387904) :
    Calls Try.prog (ρ.f 6) #[.slice ao l.length cap, .func (.func g) #[] #[]] w fun r w' => r = .returned (.tuple #[]) ∧ ∃ p, l.Perm p ∧ p.Pairwise (fun x y => ¬ c (f y) (f x) < 0) ∧ LiesAt enc k w' ao p ∧ Go.RowKit.Below w0.heap.size w0 w' := by
  by_cases h0 : l = []
  · subst h0
    refine (Go.Proofs.AnyF.slices_SortFunc_none L ao cap (.func (.func g) #[] #[]) w).mono ?_
    rintro r w' ⟨rfl, rfl⟩
    exact ⟨rfl, [], List.Perm.refl _, List.Pairwise.nil, Or.inl rfl, hB⟩
  · rcases h.2 with ⟨h1, h2⟩ | ⟨b, cap', cur, h1, h2, h3, h4, h5, h6, h7⟩
    · exact absurd (List.eq_nil_of_length_eq_zero h2) h0
    · injection h1 with e1 e2 e3
      subst e1 e3
      have hg : b < w.heap.size := (Array.getElem?_eq_some_iff.1 h3).1
      obtain ⟨_, c', hv, -, -, hrow⟩ := h.lies hE
      injection hv with hv1 hv2 hv3
      subst hv1 hv3
      obtain ⟨b', off', he, hr⟩ := hrow.some (by cases l with | nil => exact absurd rfl h0 | cons _ _ => simp)
      injection he with he
      injection he with he1 he2 _
      subst he1 he2
      haveI : Inhabited {x : α // ok x} := ⟨by
        cases l with
        | nil => exact absurd rfl h0
        | cons x l => exact ⟨x, hok x (by simp)⟩⟩
      let d : Array {x : α // ok x} := (l.attachWith ok hok).toArray
      have hd : d.size = l.length := by simp [d]
      have hdl : d.toList.map (·.1) = l := by
        apply List.ext_getElem
        · simp [d]
        · intro i h1 h2
          simp [d]
      have hget : ∀ (i : Nat) (hi : i < l.length), (d[i]!).1 = l[i] := by
        intro i hi
        rw [getElem!_pos d i (by omega)]
        simp [d]
      have hH : HoldsK (fun x : {x : α // ok x} => enc x.1) k w b 0 d := by
        intro j hj
        have hsz : (flatK (fun x : {x : α // ok x} => enc x.1) k d).size = d.size * k := size_flatK _ _ _
        have hjl : j / k < l.length := by
          rw [hsz, hd] at hj
          exact Nat.div_lt_of_lt_mul (by rw [Nat.mul_comm]; exact hj)
        refine ⟨?_, by simp [World.frozen?, h3]⟩
        rw [get_flatK _ _ _ _ (by rw [← hsz]; exact hj), Nat.zero_add]
        rw [hget _ hjl]
        have hm : j % k < k := Nat.mod_lt _ hk0
        have hx : (enc l[j / k])[j % k]? = some ((enc l[j / k])[j % k]'(by rw [hE.len]; exact hm)) := List.getElem?_eq_getElem _
        have := hr (j / k) _ (List.getElem?_eq_getElem hjl) (j % k) _ hx
        rw [Nat.zero_add, show j / k * k + j % k = j by rw [Nat.mul_comm]; exact Nat.div_add_mod j k] at this
        rw [this, getElem!_pos _ _ (by rw [hE.len]; exact hm)]; rfl
      have hbw : ∀ m dk os, Go.RowKit.Below w0.heap.size w0 (Go.Proofs.sortWorldK (fun x : {x : α // ok x} => enc x.1) k w b 0 m dk os) := fun m dk os =>
        below_grow (Go.Lib.below_putRow hB h2) (by have := hB.size; simp [size_putRow, Sort.ahead]; omega) os
      have hlays : Go.Proofs.CmpLays Try.prog g #[] (fun x : {x : α // ok x} => enc x.1) k (fun x y => c (f x.1) (f y.1)) b 0 d.size w := fun m os dk hs x y => by
        refine (hcmp x.1 y.1 x.2 y.2 _ (hbw m dk os)).mono ?_
        rintro r w'' ⟨h1, h2⟩
        exact ⟨h1, h2.ex⟩
      have hs := Go.Proofs.AnyQ.slices_SortFunc L k aE zE (fun x : {x : α // ok x} => enc x.1) (fun x => hE.len x.1) (fun x => hE.one x.1) (fun x y => c (f x.1) (f y.1)) (cmp_swo hc (fun x : {x : α // ok x} => f x.1)) g #[] b 0 cap d w eg hlays hH hg (by omega)
      rw [hd] at hs
      refine hs.mono ?_
      rintro r w' ⟨rfl, d', n, os, hp, hso, rfl⟩
      obtain ⟨p1, -, p3⟩ := hp
      have e1 : (d'.extract 0 l.length).toList = d'.toList := by rw [← hd, ← p1]; simp
      have e2 : (d.extract 0 l.length).toList = d.toList := by rw [← hd]; simp
      rw [e1, e2] at p3
      have hperm : l.Perm (d'.toList.map (·.1)) := by
        have := (p3.map (·.1)).symm
        rwa [hdl] at this
      have hsz : d'.size = l.length := by omega
      refine ⟨rfl, d'.toList.map (·.1), hperm, ?_, Or.inr ⟨b, 0, rfl, ?_⟩, hbw n d' os⟩
      · rw [List.pairwise_iff_getElem]
        intro i j hi hj hij
        simp at hi hj
        have := hso i j (Nat.zero_le _) hij (by omega)
        rw [ltOf_iff, getElem!_pos d' j (by omega), getElem!_pos d' i (by omega), decide_eq_false_iff_not] at this
        simpa using this
      · have hH' := Go.Proofs.holdsK_sortWorldK (fun x : {x : α // ok x} => enc x.1) k w b 0 n d d' os hg hH p1
        intro i x hx j v hv
        obtain ⟨hi, hx⟩ := List.getElem?_eq_some_iff.1 hx
        simp at hi hx
        have hj : j < k := by rw [← hE.len x]; exact (List.getElem?_eq_some_iff.1 hv).1
        have c0 := (hH'.cell (i := i) (c := j) hi hj).1
        rw [getElem!_pos d' i hi, hx] at c0
        rw [List.getElem!_eq_getElem?_getD, hv] at c0
        exact c0
/-- .. at differences. -/
theorem sortD_any (w0 : World) (l : List Dl) (w : World) (hB : Go.RowKit.Below w0.heap.size w0 w) (ao : Option Addr) (cap : Nat) (h : Own Dl.cells 10 41 w w0.heap.size (.slice ao l.length cap) l) (hok : ∀ x ∈ l, x.Ok w0) (hl : l.length < 4611686018427387904) :
    Calls Try.prog 28 #[.slice ao l.length cap, .func (.func 29) #[] #[]] w fun r w' => r = .returned (.tuple #[]) ∧ ∃ p, l.Perm p ∧ p.Pairwise (fun x y => ¬ cmpD y.key x.key < 0) ∧ LiesAt Dl.cells 10 w' ao p ∧ Go.RowKit.Below w0.heap.size w0 w' :=
  sort_gen encD cmpD_cmp Dl.key (fun x => x.Ok w0) Try.sortD Try.isAgg41 Try.sizeOf41 (by decide) 29 (Go.Proofs.enters_of Try.func29 (by kernel_rfl) rfl) w0
    (fun x y hx hy w' hb => fdelta_any x y w' (hx.kept hb).r (hy.kept hb).r) l w hB ao cap h hok hl
end Go.Proofs.Ytfnpfkgmacaboaa
