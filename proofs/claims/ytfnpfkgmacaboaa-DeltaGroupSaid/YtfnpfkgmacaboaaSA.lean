/-
  Entries of a log in memory.
-/
import Derived.Test.YtfnpfkgmacaboaaQG
import Derived.RangeFuncNested
import Derived.RangeFuncBound
import Derived.RangeFuncCalls
import Derived.RangeFuncLeaves
namespace Go.Proofs.Ytfnpfkgmacaboaa
open Go.ChangeShapes Go.WideShapes Go.ChangeAt Go.RowKit
set_option linter.unusedVariables false
set_option linter.unusedSimpArgs false

/-- An entry as it stands in a program's hands: what the history reads of it, and its other cells. -/
structure En where
  no : Int
  tick : Int
  kind : Int
  src : ByteArray
  seq : Int
  fk : Int
  ref : Int
  tb : ByteArray
  ky : ByteArray
  ev : Int
  fa : Option Addr
  fc : Nat
  vs : List Val
  ek : Int
  een : ByteArray
  eky : ByteArray
  esr : ByteArray
  esq : Int
  ck : Int
  tn : ByteArray
  te : ByteArray
  oi : Fin 9 → Int
  os : Fin 8 → ByteArray
  ol : Fin 4 → Option Addr × Nat × Nat
def En.cells (e : En) : List Value := [.int .i64 e.no, .int .i64 e.tick, .int .i64 e.kind, .string e.src, .int .i64 e.seq, .int .i64 e.fk, .int .i64 e.ref, .string e.tb, .string e.ky, .int .i64 e.ev, .slice e.fa e.vs.length e.fc, .int .i64 e.ek, .string e.een, .string e.eky, .string e.esr, .int .i64 e.esq, .int .i64 e.ck, .string e.tn, .string e.te, .slice (e.ol 0).1 (e.ol 0).2.1 (e.ol 0).2.2, .int .i64 (e.oi 0), .string (e.os 0), .string (e.os 1), .int .i64 (e.oi 1), .slice (e.ol 1).1 (e.ol 1).2.1 (e.ol 1).2.2, .string (e.os 2), .int .i64 (e.oi 2), .string (e.os 3), .string (e.os 4), .string (e.os 5), .int .i64 (e.oi 3), .int .i64 (e.oi 4), .string (e.os 6), .slice (e.ol 2).1 (e.ol 2).2.1 (e.ol 2).2.2, .int .i64 (e.oi 5), .int .i64 (e.oi 6), .int .i64 (e.oi 7), .slice (e.ol 3).1 (e.ol 3).2.1 (e.ol 3).2.2, .int .i64 (e.oi 8), .string (e.os 7)]
/-- The row that the entry's fact says of its base. -/
def En.base (e : En) : FID := baseF e.src e.seq e.fk e.ref
def En.row (e : En) (id : FID) : Rw := ⟨id.1, id.2, e.tb, e.ky, e.ev, e.fa, e.fc, e.no, e.tick, e.vs⟩
structure En.Ok (w : World) (e : En) : Prop where
  lies : LiesAt valC 3 w e.fa e.vs
  len : e.vs.length ≤ 1048576
  str : ∀ v ∈ e.vs, v.2.2.size ≤ 1048576
  val : ∀ v ∈ e.vs, I64 v.1 ∧ I64 v.2.1
  src : e.src.size ≤ 1048576
  tb : e.tb.size ≤ 1048576
  ky : e.ky.size ≤ 1048576
  een : e.een.size ≤ 1048576
  eky : e.eky.size ≤ 1048576
  esr : e.esr.size ≤ 1048576
  tn : e.tn.size ≤ 1048576
  te : e.te.size ≤ 1048576
  ints : I64 e.no ∧ I64 e.tick ∧ I64 e.kind ∧ I64 e.seq ∧ I64 e.fk ∧ I64 e.ref ∧ I64 e.ev ∧ I64 e.ek ∧ I64 e.esq ∧ I64 e.ck
theorem En.Ok.kept {w w' : World} {e : En} (h : e.Ok w) (hb : Below w.heap.size w w') : e.Ok w' := { h with lies := h.lies.kept hb }
theorem En.Ok.base {w : World} {e : En} (h : e.Ok w) : OkF e.base := by
  obtain ⟨-, -, -, h4, -, h6, -⟩ := h.ints
  unfold En.base baseF
  split
  · exact ⟨h.src, h4⟩
  · exact ⟨h.src, h6⟩
theorem En.Ok.row {w : World} {e : En} (h : e.Ok w) {id : FID} (hid : OkF id) : (e.row id).Ok w := by
  obtain ⟨h1, h2, -, -, -, -, h7, -⟩ := h.ints
  exact ⟨h.lies, h.len, h.str, h.val, hid.src, h.tb, h.ky, hid.seq, h7, h1, h2⟩
theorem En.cells_one (e : En) : ∀ v ∈ e.cells, v.oneCell' = true := by
  intro v hv
  simp only [En.cells, List.mem_cons, List.not_mem_nil, or_false] at hv
  rcases hv with h | h | h | h | h | h | h | h | h | h | h | h | h | h | h | h | h | h | h | h | h | h | h | h | h | h | h | h | h | h | h | h | h | h | h | h | h | h | h | h <;> subst h <;> rfl
theorem elE : El Try.prog 70 45 40 528 := ⟨Try.underlying45, by kernel_rfl, by decide, by decide⟩
theorem encE : Enc En.cells 40 := ⟨fun _ => rfl, En.cells_one⟩
theorem En.cell {w : World} {b off : Nat} {l : List En} (h : Lies En.cells 40 w b off l) {i : Nat} {e : En} (he : l[i]? = some e) :
    w.cell? ⟨b, off + i * 40, none⟩ = some (.int .i64 e.no) ∧ w.cell? ⟨b, off + i * 40 + 1, none⟩ = some (.int .i64 e.tick) ∧ w.cell? ⟨b, off + i * 40 + 2, none⟩ = some (.int .i64 e.kind) ∧ w.cell? ⟨b, off + i * 40 + 3, none⟩ = some (.string e.src) ∧ w.cell? ⟨b, off + i * 40 + 4, none⟩ = some (.int .i64 e.seq) ∧ w.cell? ⟨b, off + i * 40 + 5, none⟩ = some (.int .i64 e.fk) ∧ w.cell? ⟨b, off + i * 40 + 6, none⟩ = some (.int .i64 e.ref) ∧ w.cell? ⟨b, off + i * 40 + 7, none⟩ = some (.string e.tb) ∧ w.cell? ⟨b, off + i * 40 + 8, none⟩ = some (.string e.ky) ∧ w.cell? ⟨b, off + i * 40 + 9, none⟩ = some (.int .i64 e.ev) ∧ w.cell? ⟨b, off + i * 40 + 10, none⟩ = some (.slice e.fa e.vs.length e.fc) ∧ w.cell? ⟨b, off + i * 40 + 11, none⟩ = some (.int .i64 e.ek) ∧ w.cell? ⟨b, off + i * 40 + 12, none⟩ = some (.string e.een) ∧ w.cell? ⟨b, off + i * 40 + 13, none⟩ = some (.string e.eky) ∧ w.cell? ⟨b, off + i * 40 + 14, none⟩ = some (.string e.esr) ∧ w.cell? ⟨b, off + i * 40 + 15, none⟩ = some (.int .i64 e.esq) ∧ w.cell? ⟨b, off + i * 40 + 16, none⟩ = some (.int .i64 e.ck) ∧ w.cell? ⟨b, off + i * 40 + 17, none⟩ = some (.string e.tn) ∧ w.cell? ⟨b, off + i * 40 + 18, none⟩ = some (.string e.te) ∧ w.cell? ⟨b, off + i * 40 + 19, none⟩ = some (.slice (e.ol 0).1 (e.ol 0).2.1 (e.ol 0).2.2) ∧ w.cell? ⟨b, off + i * 40 + 20, none⟩ = some (.int .i64 (e.oi 0)) ∧ w.cell? ⟨b, off + i * 40 + 21, none⟩ = some (.string (e.os 0)) ∧ w.cell? ⟨b, off + i * 40 + 22, none⟩ = some (.string (e.os 1)) ∧ w.cell? ⟨b, off + i * 40 + 23, none⟩ = some (.int .i64 (e.oi 1)) ∧ w.cell? ⟨b, off + i * 40 + 24, none⟩ = some (.slice (e.ol 1).1 (e.ol 1).2.1 (e.ol 1).2.2) ∧ w.cell? ⟨b, off + i * 40 + 25, none⟩ = some (.string (e.os 2)) ∧ w.cell? ⟨b, off + i * 40 + 26, none⟩ = some (.int .i64 (e.oi 2)) ∧ w.cell? ⟨b, off + i * 40 + 27, none⟩ = some (.string (e.os 3)) ∧ w.cell? ⟨b, off + i * 40 + 28, none⟩ = some (.string (e.os 4)) ∧ w.cell? ⟨b, off + i * 40 + 29, none⟩ = some (.string (e.os 5)) ∧ w.cell? ⟨b, off + i * 40 + 30, none⟩ = some (.int .i64 (e.oi 3)) ∧ w.cell? ⟨b, off + i * 40 + 31, none⟩ = some (.int .i64 (e.oi 4)) ∧ w.cell? ⟨b, off + i * 40 + 32, none⟩ = some (.string (e.os 6)) ∧ w.cell? ⟨b, off + i * 40 + 33, none⟩ = some (.slice (e.ol 2).1 (e.ol 2).2.1 (e.ol 2).2.2) ∧ w.cell? ⟨b, off + i * 40 + 34, none⟩ = some (.int .i64 (e.oi 5)) ∧ w.cell? ⟨b, off + i * 40 + 35, none⟩ = some (.int .i64 (e.oi 6)) ∧ w.cell? ⟨b, off + i * 40 + 36, none⟩ = some (.int .i64 (e.oi 7)) ∧ w.cell? ⟨b, off + i * 40 + 37, none⟩ = some (.slice (e.ol 3).1 (e.ol 3).2.1 (e.ol 3).2.2) ∧ w.cell? ⟨b, off + i * 40 + 38, none⟩ = some (.int .i64 (e.oi 8)) ∧ w.cell? ⟨b, off + i * 40 + 39, none⟩ = some (.string (e.os 7)) :=
  ⟨h i e he 0 _ rfl, h i e he 1 _ rfl, h i e he 2 _ rfl, h i e he 3 _ rfl, h i e he 4 _ rfl, h i e he 5 _ rfl, h i e he 6 _ rfl, h i e he 7 _ rfl, h i e he 8 _ rfl, h i e he 9 _ rfl, h i e he 10 _ rfl, h i e he 11 _ rfl, h i e he 12 _ rfl, h i e he 13 _ rfl, h i e he 14 _ rfl, h i e he 15 _ rfl, h i e he 16 _ rfl, h i e he 17 _ rfl, h i e he 18 _ rfl, h i e he 19 _ rfl, h i e he 20 _ rfl, h i e he 21 _ rfl, h i e he 22 _ rfl, h i e he 23 _ rfl, h i e he 24 _ rfl, h i e he 25 _ rfl, h i e he 26 _ rfl, h i e he 27 _ rfl, h i e he 28 _ rfl, h i e he 29 _ rfl, h i e he 30 _ rfl, h i e he 31 _ rfl, h i e he 32 _ rfl, h i e he 33 _ rfl, h i e he 34 _ rfl, h i e he 35 _ rfl, h i e he 36 _ rfl, h i e he 37 _ rfl, h i e he 38 _ rfl, h i e he 39 _ rfl⟩
/-- A block that holds an entry. -/
theorem Box.entry {w : World} {g : Nat} {e : En} {t : TypeId} (h : Box w g e.cells.toArray t) :
    w.cell? ⟨g, 0, none⟩ = some (.int .i64 e.no) ∧ w.cell? ⟨g, 1, none⟩ = some (.int .i64 e.tick) ∧ w.cell? ⟨g, 2, none⟩ = some (.int .i64 e.kind) ∧ w.cell? ⟨g, 3, none⟩ = some (.string e.src) ∧ w.cell? ⟨g, 4, none⟩ = some (.int .i64 e.seq) ∧ w.cell? ⟨g, 5, none⟩ = some (.int .i64 e.fk) ∧ w.cell? ⟨g, 6, none⟩ = some (.int .i64 e.ref) ∧ w.cell? ⟨g, 7, none⟩ = some (.string e.tb) ∧ w.cell? ⟨g, 8, none⟩ = some (.string e.ky) ∧ w.cell? ⟨g, 9, none⟩ = some (.int .i64 e.ev) ∧ w.cell? ⟨g, 10, none⟩ = some (.slice e.fa e.vs.length e.fc) ∧ w.cell? ⟨g, 11, none⟩ = some (.int .i64 e.ek) ∧ w.cell? ⟨g, 12, none⟩ = some (.string e.een) ∧ w.cell? ⟨g, 13, none⟩ = some (.string e.eky) ∧ w.cell? ⟨g, 14, none⟩ = some (.string e.esr) ∧ w.cell? ⟨g, 15, none⟩ = some (.int .i64 e.esq) ∧ w.cell? ⟨g, 16, none⟩ = some (.int .i64 e.ck) ∧ w.cell? ⟨g, 17, none⟩ = some (.string e.tn) ∧ w.cell? ⟨g, 18, none⟩ = some (.string e.te) ∧ w.cell? ⟨g, 19, none⟩ = some (.slice (e.ol 0).1 (e.ol 0).2.1 (e.ol 0).2.2) ∧ w.cell? ⟨g, 20, none⟩ = some (.int .i64 (e.oi 0)) ∧ w.cell? ⟨g, 21, none⟩ = some (.string (e.os 0)) ∧ w.cell? ⟨g, 22, none⟩ = some (.string (e.os 1)) ∧ w.cell? ⟨g, 23, none⟩ = some (.int .i64 (e.oi 1)) ∧ w.cell? ⟨g, 24, none⟩ = some (.slice (e.ol 1).1 (e.ol 1).2.1 (e.ol 1).2.2) ∧ w.cell? ⟨g, 25, none⟩ = some (.string (e.os 2)) ∧ w.cell? ⟨g, 26, none⟩ = some (.int .i64 (e.oi 2)) ∧ w.cell? ⟨g, 27, none⟩ = some (.string (e.os 3)) ∧ w.cell? ⟨g, 28, none⟩ = some (.string (e.os 4)) ∧ w.cell? ⟨g, 29, none⟩ = some (.string (e.os 5)) ∧ w.cell? ⟨g, 30, none⟩ = some (.int .i64 (e.oi 3)) ∧ w.cell? ⟨g, 31, none⟩ = some (.int .i64 (e.oi 4)) ∧ w.cell? ⟨g, 32, none⟩ = some (.string (e.os 6)) ∧ w.cell? ⟨g, 33, none⟩ = some (.slice (e.ol 2).1 (e.ol 2).2.1 (e.ol 2).2.2) ∧ w.cell? ⟨g, 34, none⟩ = some (.int .i64 (e.oi 5)) ∧ w.cell? ⟨g, 35, none⟩ = some (.int .i64 (e.oi 6)) ∧ w.cell? ⟨g, 36, none⟩ = some (.int .i64 (e.oi 7)) ∧ w.cell? ⟨g, 37, none⟩ = some (.slice (e.ol 3).1 (e.ol 3).2.1 (e.ol 3).2.2) ∧ w.cell? ⟨g, 38, none⟩ = some (.int .i64 (e.oi 8)) ∧ w.cell? ⟨g, 39, none⟩ = some (.string (e.os 7)) :=
  ⟨h.cell 0 _ rfl, h.cell 1 _ rfl, h.cell 2 _ rfl, h.cell 3 _ rfl, h.cell 4 _ rfl, h.cell 5 _ rfl, h.cell 6 _ rfl, h.cell 7 _ rfl, h.cell 8 _ rfl, h.cell 9 _ rfl, h.cell 10 _ rfl, h.cell 11 _ rfl, h.cell 12 _ rfl, h.cell 13 _ rfl, h.cell 14 _ rfl, h.cell 15 _ rfl, h.cell 16 _ rfl, h.cell 17 _ rfl, h.cell 18 _ rfl, h.cell 19 _ rfl, h.cell 20 _ rfl, h.cell 21 _ rfl, h.cell 22 _ rfl, h.cell 23 _ rfl, h.cell 24 _ rfl, h.cell 25 _ rfl, h.cell 26 _ rfl, h.cell 27 _ rfl, h.cell 28 _ rfl, h.cell 29 _ rfl, h.cell 30 _ rfl, h.cell 31 _ rfl, h.cell 32 _ rfl, h.cell 33 _ rfl, h.cell 34 _ rfl, h.cell 35 _ rfl, h.cell 36 _ rfl, h.cell 37 _ rfl, h.cell 38 _ rfl, h.cell 39 _ rfl⟩
def EnsAt (w : World) (ao : Option Addr) (l : List En) : Prop := LiesAt En.cells 40 w ao l ∧ ∀ e ∈ l, e.Ok w
theorem EnsAt.kept {w w' : World} {ao : Option Addr} {l : List En} (h : EnsAt w ao l) (hb : Below w.heap.size w w') : EnsAt w' ao l := ⟨h.1.kept hb, fun r hr => (h.2 r hr).kept hb⟩
end Go.Proofs.Ytfnpfkgmacaboaa

/-
  A range over a function whose function keeps a state of its own in a cell that it has captured.
-/
namespace Go.Proofs.Ytfnpfkgmacaboaa
open Go.ChangeShapes Go.WideShapes Go.ChangeAt Go.RowKit
set_option linter.unusedVariables false

/-- The function gives these elements, one after another, to whatever rounds leave its own blocks alone; it turns the block of its state, and lays new ones. -/
def Yields {α : Type} (n : Nat) (P : Program) (gf : Nat) (lb : Array Value) (encs : α → Array Value) (K : Nat → Prop) (bl : Nat) (xs : List α) (w : World) : Prop :=
  ∀ (l : Nat) (J : List α → World → Prop) (W : World), (∀ k, K k → W.heap[k]? = w.heap[k]?) → (∀ pre A B, J pre A → A.grownBy B (some bl) → J pre B) →
    (∀ pre x rest W1, xs = pre ++ x :: rest → J pre W1 → YieldAt Fence.wide (n - 1) P l (encs x) W1 fun e W' => e = .returned (.bool true) ∧ J (pre ++ [x]) W' ∧ ∀ k, K k → W'.heap[k]? = W1.heap[k]?) →
    J [] W → CallsIn Fence.wide n P gf (#[.func (.yield l) #[] #[]] ++ lb) W fun e W' => (∃ v, e = .returned v) ∧ J xs W'
/-- What a round keeps. -/
def RoundKeeps (K : Nat → Prop) (S : Nat) (W W' : World) : Prop := (∀ k, K k → W'.heap[k]? = W.heap[k]?) ∧ ∀ k o, S ≤ k → W.heap[k]? = some o → o.isCells = false → W'.heap[k]? = some o
/-- What does not mind the steps of the loop: the block of the function's state, or a block of the loop's own, is turned. -/
def Minds (bl S : Nat) (I : World → Prop) : Prop := ∀ A B r, I A → A.grownBy B (some r) → (r = bl ∨ (S ≤ r ∧ ∃ o, A.heap[r]? = some o ∧ o.isCells = false)) → I B
theorem Minds.alloc {bl S : Nat} {I : World → Prop} (h : Minds bl S I) (W : World) (o : Obj) (hi : I W) : I (W.alloc o) := h W _ bl hi (World.grownBy_alloc W o _) (Or.inl rfl)
theorem Minds.putObj {bl S : Nat} {I : World → Prop} (h : Minds bl S I) (W : World) (r : Nat) (o o' : Obj) (hi : I W) (hS : S ≤ r) (ho : W.heap[r]? = some o) (hc : o.isCells = false) : I (W.putObj r o') := h W _ r hi (grownBy_putObj' W r o') (Or.inr ⟨hS, o, ho, hc⟩)

theorem wp_range {α : Type} {n : Nat} {P : Program} {g : Operand} {ps : Array Tmp} {assign body : Code} {Q : Exit → Act → World → Prop} {a : Act} {w : World}
    {gf : Nat} {lb : Array Value} (hg : a.eval g = .func (.func gf) #[] lb) (eg : ∀ args w, (callFunc gf args).run P w = .ok (.enter gf args) w)
    {encs : α → Array Value} (hps : ∀ x, (encs x).size = ps.size) {xs : List α} {bl : Nat} (hbl : bl < w.heap.size) {K : Nat → Prop} (hK : ∀ k, K k → k < w.heap.size)
    (hseq : Yields (n - 1) P gf lb encs K bl xs w)
    (I : List α → World → Prop) (hI : ∀ pre, Minds bl w.heap.size (I pre)) (h0 : I [] w) (Ax : α → Act → World → Prop) (hAx : ∀ x a', Minds bl w.heap.size (Ax x a'))
    (hassign : ∀ (l : Nat) (pre : List α) (x : α) (W : World) (C : Act → World → Prop), w.heap.size ≤ W.heap.size → I pre W → (∀ a' W', I pre W' → RoundKeeps K w.heap.size W W' → Ax x a' W' → C a' W') →
      assign.wpIn (Fence.wide.inRound l) (n - 1 - 1) P (Exit.then C (fun _ _ _ => False)) { tmps := (ps.zip (encs x)).foldl (fun t (p, v) => t.setIfInBounds p v) a.tmps, defers := [] } W)
    (hbody : ∀ (l : Nat) (pre : List α) (x : α) (rest : List α) (a' : Act) (W : World), xs = pre ++ x :: rest → w.heap.size ≤ W.heap.size → I pre W → Ax x a' W →
      body.wpIn (Fence.wide.inRound l) (n - 1 - 1) P (fun e _ W' => e = .normal ∧ I (pre ++ [x]) W' ∧ RoundKeeps K w.heap.size W W') a' W)
    (hdone : ∀ (D : Nat) (W : World), w.heap.size ≤ D → I xs W → W.heap[D]? = some (.deferred (some [])) → Q .normal { a with defers := { target := .collected D, args := #[] } :: a.defers } W) :
    (Code.rangeFunc g ps assign body).wpIn Fence.wide n P Q a w := by
  refine wpIn_rangeFunc ?_
  intro fn hfn
  obtain ⟨rec, hrec⟩ : ∃ rec : LoopState → Option Code → Loop, rec = fun st pe => { state := st, pending := pe, fn, tmps := a.tmps, params := ps, assign, body, defers := w.heap.size } := ⟨_, rfl⟩
  obtain ⟨W1, hW1⟩ : ∃ W1, (w.alloc (.deferred (some []))).alloc (.loop (rec .ready none)) = W1 := ⟨_, rfl⟩
  have hL1 : W1.heap[w.heap.size + 1]? = some (.loop (rec .ready none)) := by
    rw [← hW1]; have := World.alloc_heap_new (w.alloc (.deferred (some []))) (.loop (rec .ready none)); rwa [World.size_alloc] at this
  have hK1 : W1.heap[w.heap.size]? = some (.deferred (some [])) := by
    rw [← hW1]; exact (Below.heap_alloc _ _ _ (by simp)).trans (World.alloc_heap_new w _)
  have hI1 : I [] W1 := by rw [← hW1]; exact (hI _).alloc _ _ ((hI _).alloc _ _ h0)
  have hb1 : Below w.heap.size w W1 := by
    rw [← hW1]; exact ((Below.refl _ w).alloc (Nat.le_refl _) _).alloc (by simp) _
  refine ⟨w.heap.size + 1, [{ target := .collected w.heap.size, args := #[] }], W1, { target := .fn (.func gf) lb, args := #[.func (.yield (w.heap.size + 1)) #[] #[]] }, W1, gf,
    #[.func (.yield (w.heap.size + 1)) #[] #[]] ++ lb, W1, ?_, ?_, fun _ _ => trivial, ?_, fun h => ?_, ?_⟩
  · rw [← hW1, hrec]; exact run_enterLoop_outer _ _ _ _ _
  · simp only [resolve, hg]
    simp [go_sem]
  · simp [invoke, go_sem, eg]
  · cases h
  · have far : ∀ {A B : World} {k : Nat} {o : Obj}, A.grownBy B (some bl) → w.heap.size ≤ k → A.heap[k]? = some o → B.heap[k]? = some o := fun hgr hk ho =>
      (hgr.block _ (Array.getElem?_eq_some_iff.1 ho).1 (fun e => by injection e with e; omega)).trans ho
    refine (hseq (w.heap.size + 1)
      (fun pre W => I pre W ∧ W.heap[w.heap.size + 1]? = some (.loop (rec .ready none)) ∧ W.heap[w.heap.size]? = some (.deferred (some [])))
      W1 (fun k hk => hb1.block k (hK k hk))
      (fun pre A B hj hgr => ⟨hI pre A B bl hj.1 hgr (Or.inl rfl), far hgr (by omega) hj.2.1, far hgr (Nat.le_refl _) hj.2.2⟩)
      ?_ ⟨hI1, hL1, hK1⟩).mono ?_
    · rintro pre x rest W hxs ⟨hi, hl, hk⟩
      have hlt : w.heap.size + 1 < W.heap.size := (Array.getElem?_eq_some_iff.1 hl).1
      have hy := run_yield (P := P) (args := encs x) hl (by rw [hrec]; exact hps x)
      rw [hrec] at hy
      refine ⟨fn, _, assign, body, hy, roundIn_of_wpIn hfn (hassign _ pre x W _ (by omega) hi ?_)⟩
      clear hy
      intro a' Wa hia hka hax
      have hla := hka.2 _ _ (by omega) hl rfl
      have hda := hka.2 _ _ (Nat.le_refl _) hk rfl
      have hlta : w.heap.size + 1 < Wa.heap.size := (Array.getElem?_eq_some_iff.1 hla).1
      refine ⟨_, run_beginRound hla (by rw [hrec]), ?_⟩
      have hl2 : (Wa.putObj (w.heap.size + 1) (.loop { rec .ready none with state := .busy })).heap[w.heap.size + 1]? = some (.loop { rec .ready none with state := .busy }) := World.putObj_heap_same hlta
      have hk2 : (Wa.putObj (w.heap.size + 1) (.loop { rec .ready none with state := .busy })).heap[w.heap.size]? = some (.deferred (some [])) := (World.putObj_heap_other (by omega)).trans hda
      refine wpIn_mono (hbody _ pre x rest a' _ hxs (by rw [World.putObj_size]; omega) ((hI pre).putObj _ _ _ _ hia (by omega) hla rfl) ((hAx x a').putObj _ _ _ _ hax (by omega) hla rfl)) ?_
      rintro e a3 W3 ⟨rfl, hi3, hk3⟩
      have hl3 := hk3.2 _ _ (by omega) hl2 rfl
      have hd3 := hk3.2 _ _ (Nat.le_refl _) hk2 rfl
      have hr := run_endRound (P := P) none hl3
      rw [hrec] at hr
      refine ⟨_, _, hr, rfl, ⟨(hI _).putObj _ _ _ _ hi3 (by omega) hl3 rfl, ?_, (World.putObj_heap_other (by omega)).trans hd3⟩, ?_⟩
      · rw [World.putObj_heap_same (Array.getElem?_eq_some_iff.1 hl3).1, hrec]; rfl
      · intro k hkk
        have hne : k ≠ w.heap.size + 1 := by have := hK k hkk; omega
        rw [World.putObj_heap_other hne, hk3.1 k hkk, World.putObj_heap_other hne, hka.1 k hkk]
    · rintro e W2 ⟨⟨v, rfl⟩, hi, hl, hk⟩
      exact ⟨none, _, by have := run_endLoop (P := P) hl (by rw [hrec]; simp); rw [hrec] at this; exact this, hdone _ _ (Nat.le_refl _) ((hI _).putObj _ _ _ _ hi (by omega) hl rfl) ((World.putObj_heap_other (by omega)).trans hk)⟩
end Go.Proofs.Ytfnpfkgmacaboaa
