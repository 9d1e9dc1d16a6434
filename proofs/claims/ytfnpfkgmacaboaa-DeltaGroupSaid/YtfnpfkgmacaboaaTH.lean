/-
  delta.Next: an entry behind a log, in a region that draws its order; the walk.
-/
import Derived.Test.YtfnpfkgmacaboaaTG
import Derived.Great.FillDense
namespace Go.Proofs.Ytfnpfkgmacaboaa
open Go.ChangeShapes Go.WideShapes Go.ChangeAt Go.RowKit Go.Maps
set_option linter.unusedVariables false
set_option linter.unusedSimpArgs false

/-- A slice literal of one struct. -/
theorem build_one {P : Program} {e t : TypeId} {k bytes : Nat} (E : El P e t k bytes) (hk : k ≤ 1000) (L : List Value) (hL : L.length = k) (w : World) :
    (Instr.buildSlice t 1 #[(0, .agg L.toArray)]).run P w = .ok (.slice (some ⟨w.heap.size, 0, none⟩) 1 1) (w.alloc (.cells L.toArray e)) := by
  obtain ⟨i, z, hi, hz, hs, -, hzs⟩ := E.parts
  have hpos := E.pos
  refine run_buildSlice w t e 1 _ _ i z E.und hi hz (by rw [hs]; omega) (by rw [hs]; omega) ?_
  rw [hs]
  have := Great.fill_whole hpos [Value.agg L.toArray] ((Array.range (1 * k)).map (z.cells[· % z.cells.size]!)) (fun v hv => by simp at hv; subst hv; simp [Value.cells, hL]) (by simp)
  simpa [Value.cells] using this
section
variable {P : Program} {ops : Array Oper} {rest : List Oper} {o : Oper} {a : Act} {w : World} {Q : Exit → Act → World → Prop}
/-- A parameter's own variable. -/
theorem wpList_param (hg : o.guard = none) (ty : TypeId) (x : Operand) (ho : o.op = .box ty x) (L : List Value) (hx : a.eval x = .agg L.toArray)
    (h : wpList P ops Q rest (a.put o.dst (.pointer (some ⟨w.heap.size, 0, none⟩))) (w.alloc (.cells L.toArray ty))) : wpList P ops Q (o :: rest) a w := by
  refine wpList_plain hg fun K hK => ?_
  have e : (execOp a.eval o).run P w = .ok (.value (.pointer (some ⟨w.heap.size, 0, none⟩))) (w.alloc (.cells L.toArray ty)) := by
    unfold execOp
    simp only [ho]
    rw [hx]
    simp [Instr.box, newVar, newRow, Value.cells, go_sem]
  unfold Oper.wp
  rw [e]
  exact hK _ _ h
end
/-- The world of the statement 'after := history.Effective(append(slices.Clone(l), x), api.MaxTick)'. -/
structure NxW (V : World) (l : List En) (x : En) (l1 l3 l4 l5 : Bool) (v10 : Value) (gs : Nat) (v13 v14 : Value) (w : World) : Prop where
  below : Below V.heap.size V w
  old : l1 = true → l4 = false → Own En.cells 40 70 w V.heap.size v10 l
  new : l3 = true → l4 = false → V.heap.size ≤ gs ∧ Box w gs x.cells.toArray 70
  app : l4 = true → ∃ a c, v13 = .slice a (l.length + 1) c ∧ EnsAt w a (l ++ [x])
  eff : l5 = true → SlR w v14 (effL (l ++ [x]) 1099511627776) ∧ (effL (l ++ [x]) 1099511627776).length ≤ l.length + 1
  c5 : l5 = true → l4 = true
section
variable {V w w' : World} {l : List En} {x : En} {l1 l3 l4 l5 : Bool} {v10 v13 v14 : Value} {gs : Nat}
theorem NxW.kept (h : NxW V l x l1 l3 l4 l5 v10 gs v13 v14 w) (hb : Below w.heap.size w w') : NxW V l x l1 l3 l4 l5 v10 gs v13 v14 w' :=
  ⟨h.below.trans (hb.mono h.below.size), fun h1 h2 => (h.old h1 h2).kept hb, fun h1 h2 => ⟨(h.new h1 h2).1, (h.new h1 h2).2.kept hb⟩, fun h1 => let ⟨a, c, h2, h3⟩ := h.app h1; ⟨a, c, h2, h3.kept hb⟩, fun h1 => ⟨(h.eff h1).1.kept hb, (h.eff h1).2⟩, h.c5⟩
end
section
variable {Q : Exit → Act → World → Prop} {A : Act} {V : World} {l : List En} {x : En} {g : Nat} {ao : Option Addr} {c : Nat}
set_option maxHeartbeats 4000000 in
set_option maxRecDepth 100000 in
theorem next_region {id : Nat} {o0 o1 o2 o3 o4 o5 o6 : Oper}
    (p0 : o0.op = .move (.tmp 0) ∧ o0.dst = some 9 ∧ o0.guard = none)
    (p1 : o1.op = .call { callee := .value (.func 40), args := #[.tmp 9], argTypes := #[45] } ∧ o1.dst = some 10 ∧ o1.guard = none)
    (p2 : o2.op = .load 70 (.tmp 3) ∧ o2.dst = some 11 ∧ o2.guard = none)
    (p3 : o3.op = .buildSlice 45 1 #[(0, .tmp 11)] ∧ o3.dst = some 12 ∧ o3.guard = none)
    (p4 : o4.op = .call { callee := .builtin .append, args := #[.tmp 10, .tmp 12], argTypes := #[45, 45] } ∧ o4.dst = some 13 ∧ o4.guard = none)
    (p5 : o5.op = .call { callee := .value (.func 38), args := #[.tmp 13, .const (.int .i64 1099511627776)], argTypes := #[45, 3] } ∧ o5.dst = some 14 ∧ o5.guard = none)
    (p6 : o6.op = .assign (.tmp 14) ∧ o6.dst = some 6 ∧ o6.guard = none)
    (q1 : waits o1 0 = true) (q3 : waits o3 2 = true) (q4 : waits o4 1 = true ∧ waits o4 3 = true) (q5 : waits o5 4 = true) (q6 : waits o6 5 = true)
    (hs : sortedB .any #[o0, o1, o2, o3, o4, o5, o6] = true)
    (hA0 : A.eval (.tmp 0) = .slice ao l.length c) (hA3 : A.eval (.tmp 3) = .pointer (some ⟨g, 0, none⟩)) (hsz : 15 ≤ A.tmps.size)
    (hl : l.length ≤ 1000) (hsp : ∀ a, ao = some a → a.spot = none) (hE : EnsAt V ao l) (hg : Box V g x.cells.toArray 70) (hx : x.Ok V)
    (hQ : ∀ v10 gs v13 v14 w', SlR w' v14 (effL (l ++ [x]) 1099511627776) → (effL (l ++ [x]) 1099511627776).length ≤ l.length + 1 → Below V.heap.size V w' →
      Q .normal (((((((A.put (some 9) (.slice ao l.length c)).put (some 10) v10).put (some 11) x.val).put (some 12) (.slice (some ⟨gs, 0, none⟩) 1 1)).put (some 13) v13).put (some 14) v14).put (some 6) v14) w') :
    (Code.region id #[o0, o1, o2, o3, o4, o5, o6] true).wp Try.prog Q A V := by
  have hw : ∀ {o : Oper} {ops : Array Oper} {t : Array Value}, o.guard = none → Region.wanted o (yielded ops t) = true := fun hgd => by simp [Region.wanted, hgd]
  have z9 : 9 < A.tmps.size := by omega
  have z10 : 10 < A.tmps.size := by omega
  have z11 : 11 < A.tmps.size := by omega
  have z12 : 12 < A.tmps.size := by omega
  have z13 : 13 < A.tmps.size := by omega
  have z14 : 14 < A.tmps.size := by omega
  obtain ⟨F, hF⟩ : ∃ F : Array Bool → Value → Nat → Value → Value → Act, F = fun L v10 gs v13 v14 => putIf (L.getD 6 false) 6 v14 (putIf (L.getD 5 false) 14 v14 (putIf (L.getD 4 false) 13 v13 (putIf (L.getD 3 false) 12 (.slice (some ⟨gs, 0, none⟩) 1 1) (putIf (L.getD 2 false) 11 x.val (putIf (L.getD 1 false) 10 v10 (putIf (L.getD 0 false) 9 (.slice ao l.length c) A)))))) := ⟨_, rfl⟩
  refine wp_region_steps (l := [o0, o1, o2, o3, o4, o5, o6]) (by kernel_rfl) hs (fun L a w => L.size = 7 ∧ (L.getD 6 false = true → L.getD 5 false = true) ∧ ∃ v10 gs v13 v14, a = F L v10 gs v13 v14 ∧ NxW V l x (L.getD 1 false) (L.getD 3 false) (L.getD 4 false) (L.getD 5 false) v10 gs v13 v14 w) ?_ ?_ ?_
  · have hz : ∀ k, (Array.replicate 7 false).getD k false = false := fun k => getD_replicate_false 7 k
    refine ⟨by simp, (fun e => by rw [show (Array.replicate [o0, o1, o2, o3, o4, o5, o6].length false) = Array.replicate 7 false from rfl, hz] at e; cases e), undef, 0, undef, undef, ?_, ?_⟩
    · rw [hF]
      show A = putIf ((Array.replicate 7 false).getD 6 false) _ _ _
      simp only [List.length_cons, List.length_nil, Nat.reduceAdd, Nat.zero_add, hz, putIf_false]
    · show NxW V l x ((Array.replicate 7 false).getD 1 false) ((Array.replicate 7 false).getD 3 false) ((Array.replicate 7 false).getD 4 false) ((Array.replicate 7 false).getD 5 false) undef 0 undef undef V.drew
      simp only [hz]
      exact ⟨(Below.refl _ V).drew, fun e => (by cases e), fun e => (by cases e), fun e => (by cases e), fun e => (by cases e), fun e => (by cases e)⟩
  · refine ⟨?_, ?_, ?_, ?_, ?_, ?_, ?_, trivial⟩
    · rintro L a w hsz' ⟨hL, h65, v10, gs, v13, v14, rfl, W⟩ hn haf
      rw [if_pos (hw p0.2.2)]
      have hn' := getD_down hn
      refine wp_value (v := .slice ao l.length c) (w' := w) (by unfold execOp; rw [p0.1, hF]; simp [eval_putIf_ne, hA0]) ⟨by simp [hL], (by simpa [set_ne] using h65), v10, gs, v13, v14, ?_, by simpa [set_ne] using W⟩
      rw [p0.2.1, hF]
      simp [put_putIf, hn', putIf_false, putIf_true, set_ne, set_same, hL]
    · rintro L a w hsz' ⟨hL, h65, v10, gs, v13, v14, rfl, W⟩ hn haf
      rw [if_pos (hw p1.2.2)]
      have hn' := getD_down hn
      have f0 := waits_spec q1 haf
      have he : (F L v10 gs v13 v14).eval (.tmp 9) = .slice ao l.length c := by rw [hF]; simp [eval_putIf_ne, f0, putIf_true, eval_put_same, size_putIf, z9]
      have hcall : (execOp (F L v10 gs v13 v14).eval o1).run Try.prog w = .ok (.enter 40 #[.slice ao l.length c]) w := by
        unfold execOp
        have hfn : (F L v10 gs v13 v14).eval (.func 40) = .func (.func 40) #[] #[] := rfl
        have hen := Go.Proofs.enters_of Try.func40 (by kernel_rfl) rfl #[.slice ao l.length c] w
        have he2 : (F L v10 gs v13 v14).tmps[9]?.getD undef = .slice ao l.length c := by simpa [Act.eval] using he
        simp [p1.1, resolve, invoke, hfn, he2, go_sem, hen]
      unfold Oper.wp
      rw [hcall]
      refine (cloneE_any l ao c (by omega) hsp w (hE.1.kept (W.below))).mono ?_
      rintro e w' ⟨u, rfl, ho, hb⟩
      have W' := W.kept hb
      refine ⟨by simp [hL], (by simpa [set_ne] using h65), u, gs, v13, v14, ?_, ?_⟩
      · rw [p1.2.1, hF]
        simp [put_putIf, hn', putIf_false, putIf_true, set_ne, set_same, hL]
      · refine ⟨W'.below, fun _ h2 => ho.mono W.below.size, ?_, ?_, ?_, ?_⟩
        · simpa [set_ne] using W'.new
        · simpa [set_ne] using W'.app
        · simpa [set_ne] using W'.eff
        · simpa [set_ne] using W'.c5
    · rintro L a w hsz' ⟨hL, h65, v10, gs, v13, v14, rfl, W⟩ hn haf
      rw [if_pos (hw p2.2.2)]
      have hn' := getD_down hn
      have hbx : Box w g x.cells.toArray 70 := hg.kept W.below
      refine wp_value (v := x.val) (w' := w) (run_load_list 70 (.tmp 3) p2.1 g 0 x.cells (by rw [hF]; simp [eval_putIf_ne, hA3]) (fun j v hv => by rw [Nat.zero_add]; exact hbx.cell j v (by simpa using hv)) _ Try.underlying70 rfl (by kernel_rfl)) ⟨by simp [hL], (by simpa [set_ne] using h65), v10, gs, v13, v14, ?_, by simpa [set_ne] using W⟩
      rw [p2.2.1, hF]
      simp [put_putIf, hn', putIf_false, putIf_true, set_ne, set_same, hL]
    · rintro L a w hsz' ⟨hL, h65, v10, gs, v13, v14, rfl, W⟩ hn haf
      rw [if_pos (hw p3.2.2)]
      have hn' := getD_down hn
      have f2 := waits_spec q3 haf
      have he : (F L v10 gs v13 v14).eval (.tmp 11) = .agg x.cells.toArray := by rw [hF]; simp [eval_putIf_ne, f2, putIf_true, eval_put_same, size_putIf, z11]
      have hbo := build_one elE (by decide) x.cells rfl w
      have W' := W.kept (below_here (w := w) (.cells x.cells.toArray 70))
      refine wp_value (v := .slice (some ⟨w.heap.size, 0, none⟩) 1 1) (w' := w.alloc (.cells x.cells.toArray 70)) (by unfold execOp; simp [p3.1, he, hbo, Result.andThen]) ⟨by simp [hL], (by simpa [set_ne] using h65), v10, w.heap.size, v13, v14, ?_, ?_⟩
      · rw [p3.2.1, hF]
        simp [put_putIf, hn', putIf_false, putIf_true, set_ne, set_same, hL]
      · refine ⟨W'.below, ?_, fun _ _ => ⟨W.below.size, Box.new _ _ _⟩, ?_, ?_, ?_⟩
        · simpa [set_ne] using W'.old
        · simpa [set_ne] using W'.app
        · simpa [set_ne] using W'.eff
        · simpa [set_ne] using W'.c5
    · rintro L a w hsz' ⟨hL, h65, v10, gs, v13, v14, rfl, W⟩ hn haf
      rw [if_pos (hw p4.2.2)]
      have hn' := getD_down hn
      have f1 := waits_spec q4.1 haf
      have f3 := waits_spec q4.2 haf
      have e4 : L.getD 4 false = false := hn'
      have he : (F L v10 gs v13 v14).eval (.tmp 10) = v10 := by rw [hF]; simp [eval_putIf_ne, f1, putIf_true, eval_put_same, size_putIf, z10]
      have he2 : (F L v10 gs v13 v14).eval (.tmp 12) = .slice (some ⟨gs, 0, none⟩) 1 1 := by rw [hF]; simp [eval_putIf_ne, f3, putIf_true, eval_put_same, size_putIf, z12]
      obtain ⟨ii, z, hi, hz, hs', hby, hzs⟩ := elE.parts
      have hold := W.old f1 e4
      obtain ⟨hn1, hn2⟩ := W.new f3 e4
      obtain ⟨v1, w1, hrun, hown, hgr, -, hblk⟩ := run_append_own_at (P := Try.prog) w V.heap.size 45 o4.type 70 ii z 40 528 Try.underlying45 hi hz hs' hby hzs (by decide) v10 l.length (encs En.cells l) hold ⟨gs, 0, none⟩ 1 1 x.cells rfl
        (fun j u hu => by rw [addr_add, Nat.zero_add]; exact hn2.cell j u (by simpa using hu)) x.cells_one (by unfold maxLen; omega) (by omega) W.below.size
      have hb1 : Below V.heap.size V w1 := W.below.grown hgr W.below.size (fun k e => (hold.lt k e).1)
      have ho1 : Own En.cells 40 70 w1 V.heap.size v1 (l ++ [x]) := by
        unfold Own
        rw [encs_append, encs_one, List.length_append]
        exact hown
      obtain ⟨a1, c1, hv1, -, -, hlies⟩ := ho1.lies encE
      refine wp_value (v := v1) (w' := w1) (by unfold execOp; simp [p4.1, resolve, invoke, builtin, he, he2, hrun, Result.andThen]) ⟨by simp [hL], (by simpa [set_ne] using h65), v10, gs, v1, v14, ?_, ?_⟩
      · rw [p4.2.1, hF]
        simp [put_putIf, hn', putIf_false, putIf_true, set_ne, set_same, hL]
      · have h5 : L.getD 5 false = false := by
          cases e : L.getD 5 false with
          | false => rfl
          | true => have := W.c5 e; rw [e4] at this; cases this
        refine ⟨hb1, fun _ e => ?_, fun _ e => ?_, fun _ => ⟨a1, c1, by rw [hv1, List.length_append]; rfl, hlies, fun y hy => ?_⟩, fun e => ?_, fun _ => by simp [set_same, hL]⟩
        · simp [set_same, hL] at e
        · simp [set_same, hL] at e
        · rcases List.mem_append.1 hy with hy | hy
          · exact (hE.2 y hy).kept hb1
          · simp at hy; rw [hy]; exact hx.kept hb1
        · rw [set_ne (by decide), h5] at e; cases e
    · rintro L a w hsz' ⟨hL, h65, v10, gs, v13, v14, rfl, W⟩ hn haf
      rw [if_pos (hw p5.2.2)]
      have hn' := getD_down hn
      have f4 := waits_spec q5 haf
      have h6 : L.getD 6 false = false := by
        cases e : L.getD 6 false with
        | false => rfl
        | true => have := h65 e; rw [hn'] at this; cases this
      obtain ⟨a3, c3, rfl, hE3⟩ := W.app f4
      have he : (F L v10 gs (.slice a3 (l.length + 1) c3) v14).eval (.tmp 13) = .slice a3 (l.length + 1) c3 := by rw [hF]; simp [eval_putIf_ne, f4, putIf_true, eval_put_same, size_putIf, z13]
      have hcall : (execOp (F L v10 gs (.slice a3 (l.length + 1) c3) v14).eval o5).run Try.prog w = .ok (.enter 38 #[.slice a3 (l.length + 1) c3, .int .i64 1099511627776]) w := by
        unfold execOp
        have hfn : (F L v10 gs (.slice a3 (l.length + 1) c3) v14).eval (.func 38) = .func (.func 38) #[] #[] := rfl
        have hen := Go.Proofs.enters_of Try.func38 (by kernel_rfl) rfl #[.slice a3 (l.length + 1) c3, .int .i64 1099511627776] w
        have he2 : (F L v10 gs (.slice a3 (l.length + 1) c3) v14).tmps[13]?.getD undef = .slice a3 (l.length + 1) c3 := by simpa [Act.eval] using he
        simp [p5.1, resolve, invoke, hfn, he2, go_sem, hen]
      unfold Oper.wp
      rw [hcall]
      have hcl := effL_any (l ++ [x]) a3 c3 1099511627776 (by simp; omega) w hE3
      rw [List.length_append] at hcl
      refine hcl.mono ?_
      rintro e w' ⟨u, rfl, h1, -, h2, -, hb⟩
      have W' := W.kept hb
      refine ⟨by simp [hL], (fun _ => by rw [set_same (by omega)]), v10, gs, .slice a3 (l.length + 1) c3, u, ?_, ?_⟩
      · rw [p5.2.1, hF]
        simp only [set_ne (n := 5) (m := 6) (by decide), h6, putIf_false]
        simp [put_putIf, hn', putIf_false, putIf_true, set_ne, set_same, hL]
      · refine ⟨W'.below, ?_, ?_, ?_, fun _ => ⟨h1, by simpa using h2⟩, fun _ => by simpa [set_ne] using f4⟩
        · simpa [set_ne] using W'.old
        · simpa [set_ne] using W'.new
        · simpa [set_ne] using W'.app
    · rintro L a w hsz' ⟨hL, h65, v10, gs, v13, v14, rfl, W⟩ hn haf
      rw [if_pos (hw p6.2.2)]
      have hn' := getD_down hn
      have f5 := waits_spec q6 haf
      have he : (F L v10 gs v13 v14).eval (.tmp 14) = v14 := by rw [hF]; simp [eval_putIf_ne, f5, putIf_true, eval_put_same, size_putIf, z14]
      refine wp_value (v := v14) (w' := w) (by unfold execOp; simp only [p6.1, he]; rfl) ⟨by simp [hL], (fun _ => by rw [set_ne (by decide)]; exact f5), v10, gs, v13, v14, ?_, by simpa [set_ne] using W⟩
      rw [p6.2.1, hF]
      simp [put_putIf, hn', putIf_false, putIf_true, set_ne, set_same, hL]
  · rintro L a w ⟨hL, h65, v10, gs, v13, v14, rfl, W⟩ hall
    have hall' : ∀ k, k < 7 → L.getD k false = true := fun k hk => getD_up (by omega) (hall k hk)
    have e : F L v10 gs v13 v14 = (((((((A.put (some 9) (.slice ao l.length c)).put (some 10) v10).put (some 11) x.val).put (some 12) (.slice (some ⟨gs, 0, none⟩) 1 1)).put (some 13) v13).put (some 14) v14).put (some 6) v14) := by
      rw [hF]
      simp only [hall' 0 (by omega), hall' 1 (by omega), hall' 2 (by omega), hall' 3 (by omega), hall' 4 (by omega), hall' 5 (by omega), hall' 6 (by omega), putIf_true]
    rw [e]
    exact hQ v10 gs v13 v14 w (W.eff (hall' 5 (by omega))).1 (W.eff (hall' 5 (by omega))).2 W.below
end
noncomputable def nextL (l : List En) (x : En) : List Dl := betD (effL l 1099511627776) (effL (l ++ [x]) 1099511627776) x.tick
set_option maxHeartbeats 4000000 in
set_option maxRecDepth 100000 in
theorem next_any (l : List En) (ao : Option Addr) (c : Nat) (x : En) (hl : l.length ≤ 1000) (hsp : ∀ a, ao = some a → a.spot = none) (w : World) (hE : EnsAt w ao l) (hx : x.Ok w) :
    Calls Try.prog 23 #[.slice ao l.length c, x.val] w fun e w' => ∃ v ds, e = .returned v ∧ SlD w' v ds ∧ ds.map Dl.kn = consK ((nextL l x).map Dl.kn) ∧ Below w.heap.size w w' := by
  have H := Lib.hid hE
  have HX := Lib.hid hx
  have HSP := Lib.hid hsp
  clear hE hx hsp
  have H0 := Lib.hid (effL_any l ao c 1099511627776 (by omega) (w.alloc (.cells x.cells.toArray 70)) (H.out.kept (below_here _)))
  go_enter Try.func23, Try.ntmps23
  go_upto_region 2 with (first
    | (refine wpList_param rfl 70 (.tmp 1) rfl x.cells rfl ?_)
    | (go_at_call 38; (with_reducible refine H0.out.mono ?_); rintro e w1 ⟨v1, rfl, hs1, -, hl1, -, hb1⟩; obtain ⟨a1, c1, rfl, -, -, hr1⟩ := hs1; have HR1 := Lib.hid hr1; have HL1 := Lib.hid hl1; have HB1 := Lib.hid hb1; clear hr1 hl1 hb1))
  have HBw : Hid (Below w.heap.size w w1) := ((Below.refl _ w).alloc (Nat.le_refl _) _).trans (HB1.out.mono (by simp))
  have HG : Hid (Box w1 w.heap.size x.cells.toArray 70) := (Box.new w _ _).kept HB1.out
  refine wp_genA (fun A V hA hV => ?_)
  subst hV
  have hA0 : A.eval (.tmp 0) = .slice ao l.length c := by rw [hA]; rfl
  have hA3 : A.eval (.tmp 3) = .pointer (some ⟨w.heap.size, 0, none⟩) := by rw [hA]; rfl
  have hAs : 15 ≤ A.tmps.size := by rw [hA]; simp
  refine next_region (by exact ⟨rfl, rfl, rfl⟩) (by exact ⟨rfl, rfl, rfl⟩) (by exact ⟨rfl, rfl, rfl⟩) (by exact ⟨rfl, rfl, rfl⟩) (by exact ⟨rfl, rfl, rfl⟩) (by exact ⟨rfl, rfl, rfl⟩) (by exact ⟨rfl, rfl, rfl⟩)
    (by kernel_rfl) (by kernel_rfl) ⟨by kernel_rfl, by kernel_rfl⟩ (by kernel_rfl) (by kernel_rfl) (by kernel_rfl)
    hA0 hA3 hAs hl HSP.out (H.out.kept HBw.out) HG.out (HX.out.kept HBw.out) ?_
  intro v10 gs v13 v14 w2 hs2 hl2 hb2
  obtain ⟨a2, c2, rfl, -, -, hr2⟩ := hs2
  have HR2 := Lib.hid hr2
  have HL2 := Lib.hid hl2
  have HB2 := Lib.hid hb2
  have k1 := (HG.out.kept HB2.out).cell 1 (.int .i64 x.tick) rfl
  have HLL : Hid ((effL l 1099511627776).length ≤ 1000 ∧ (effL (l ++ [x]) 1099511627776).length ≤ 1001) := ⟨Nat.le_trans HL1.out hl, Nat.le_trans HL2.out (by omega)⟩
  have HBT := Lib.hid (between_any (effL l 1099511627776) (effL (l ++ [x]) 1099511627776) a1 a2 c1 c2 x.tick HX.out.ints.2.1 (by have := HLL.out.1; omega) (by have := HLL.out.2; omega) w2 (HR1.out.kept HB2.out) HR2.out)
  have HLD : Hid ((nextL l x).length ≤ 10000000) := by
    unfold nextL betD
    show _ ≤ _
    rw [List.length_append, List.length_map, List.length_map]
    have := HLL.out
    omega
  subst hA
  clear hr2 hl2 hb2 hA0 hA3 hAs hl
  generalize (effL l 1099511627776).length = n1 at *
  generalize (effL (l ++ [x]) 1099511627776).length = n2 at *
  go_wp2_with (first
    | (go_at_call 39; (with_reducible refine HBT.out.mono ?_); rintro e w3 ⟨v3, rfl, ho3, hb3⟩; replace ho3 : OwnD w3 w2.heap.size v3 (nextL l x) := ho3; obtain ⟨a3, c3, rfl, -, -, hd3⟩ := ho3.lies; have HD3 := Lib.hid hd3; have HB3 := Lib.hid hb3; have HCO := Lib.hid (fcons_any (nextL l x) a3 c3 HLD.out w3 hd3); clear ho3 hb3 hd3)
    | (go_at_call 12; (with_reducible refine HCO.out.mono ?_); rintro e w5 ⟨v5, ds, rfl, hs5, -, hk5, hb5⟩; have HS5 := Lib.hid hs5; have HK5 := Lib.hid hk5; have HB5 := Lib.hid hb5; clear hs5 hk5 hb5))
  go_ret
  exact ⟨_, ds, rfl, HS5.out, HK5.out, ((HBw.out.trans (HB2.out.mono HBw.out.size)).trans (HB3.out.mono (Nat.le_trans HBw.out.size HB2.out.size))).trans (HB5.out.mono (Nat.le_trans (Nat.le_trans HBw.out.size HB2.out.size) HB3.out.size))⟩
end Go.Proofs.Ytfnpfkgmacaboaa
