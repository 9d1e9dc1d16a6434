/-
  Rows and differences in plain words: their orders, and lists of them as they lie in memory.
-/
import Derived.Test.YtfnpfkgmacaboaaB
import Derived.Test.YtfnpfkgmacaboaaM
namespace Go.Proofs.Ytfnpfkgmacaboaa
open Go.ChangeShapes Go.WideShapes Go.ChangeAt Go.RowKit
set_option linter.unusedVariables false
set_option linter.unusedSimpArgs false

theorem bytes_inj {a b : ByteArray} (h : a.toList = b.toList) : a = b := by
  rw [ByteArray.toList_eq, ByteArray.toList_eq] at h
  cases a; cases b
  simp at h
  rw [h]
theorem cmpS_cmp : Cmp cmpS := (cmpL_cmp cmpB_cmp).on ByteArray.toList (fun a b h => bytes_inj h)

/-- A value: kind, number, text. -/
abbrev Val := Int × Int × ByteArray
def cmpV : Val → Val → Int := fun x y => orI (cmpI x.1 y.1) (orI (cmpI x.2.1 y.2.1) (cmpS x.2.2 y.2.2))
theorem cmpV_cmp : Cmp cmpV := cmpI_cmp.pair (cmpI_cmp.pair cmpS_cmp)
def valC (v : Val) : List Value := [.int .i64 v.1, .int .i64 v.2.1, .string v.2.2]
/-- What a row is: event, identifier, number, tick, table, key, fields: in the order by which rows are compared. -/
abbrev RK := Int × (ByteArray × Int) × Int × Int × ByteArray × ByteArray × List Val
def cmpID : ByteArray × Int → ByteArray × Int → Int := fun x y => orI (cmpS x.1 y.1) (cmpI x.2 y.2)
theorem cmpID_cmp : Cmp cmpID := cmpS_cmp.pair cmpI_cmp
def cmpR : RK → RK → Int := fun x y => orI (cmpI x.1 y.1) (orI (cmpID x.2.1 y.2.1) (orI (cmpI x.2.2.1 y.2.2.1) (orI (cmpI x.2.2.2.1 y.2.2.2.1) (orI (cmpS x.2.2.2.2.1 y.2.2.2.2.1) (orI (cmpS x.2.2.2.2.2.1 y.2.2.2.2.2.1) (cmpL cmpV x.2.2.2.2.2.2 y.2.2.2.2.2.2))))))
theorem cmpR_cmp : Cmp cmpR := cmpI_cmp.pair (cmpID_cmp.pair (cmpI_cmp.pair (cmpI_cmp.pair (cmpS_cmp.pair (cmpS_cmp.pair (cmpL_cmp cmpV_cmp))))))
/-- A difference without its count: tick and row. -/
abbrev DK := Int × RK
def cmpD : DK → DK → Int := fun x y => orI (cmpI x.1 y.1) (cmpR x.2 y.2)
theorem cmpD_cmp : Cmp cmpD := cmpI_cmp.pair cmpR_cmp
theorem orI_assoc (x y z : Int) : orI (orI x y) z = orI x (orI y z) := by
  unfold orI; by_cases h : x = 0
  · rw [if_pos h, if_pos h]
  · rw [if_neg h, if_neg h, if_neg h]
theorem orI_zero_right (x : Int) : orI x 0 = x := by unfold orI; split <;> simp [*]
/-- The first of a list that is not zero. -/
def orL : List Int → Int
  | [] => 0
  | x :: r => orI x (orL r)

/-! ### lists of elements in memory -/
section
variable {α : Type} {enc : α → List Value} {k : Nat} {w w' : World}
/-- The elements of a list lie from a place on. -/
def Lies (enc : α → List Value) (k : Nat) (w : World) (b off : Nat) (l : List α) : Prop := ∀ i x, l[i]? = some x → ∀ j v, (enc x)[j]? = some v → w.cell? ⟨b, off + i * k + j, none⟩ = some v
/-- .. of a slice. -/
def LiesAt (enc : α → List Value) (k : Nat) (w : World) (ao : Option Addr) (l : List α) : Prop := l = [] ∨ ∃ b off, ao = some ⟨b, off, none⟩ ∧ Lies enc k w b off l
theorem bsome {X w' : World} (hb : Below X.heap.size X w') : (∀ p, (X.cell? p).isSome = true → w'.cell? p = X.cell? p) ∧ (∀ p, (X.cell? p).isSome = true → w'.frozen? p = X.frozen? p) := by
  have hlt : ∀ p, (X.cell? p).isSome = true → p.block < X.heap.size := by
    intro p h
    rcases Nat.lt_or_ge p.block X.heap.size with hp | hp
    · exact hp
    · have : X.heap[p.block]? = none := Array.getElem?_eq_none hp
      simp [World.cell?, this] at h
  exact ⟨fun p h => hb.cell (hlt p h), fun p h => hb.frozen (hlt p h)⟩
theorem cell_kept {p : Addr} {v : Value} (h : w.cell? p = some v) (hb : Below w.heap.size w w') : w'.cell? p = some v := by
  rw [(bsome hb).1 p (by rw [h]; rfl), h]
theorem Lies.kept {b off : Nat} {l : List α} (h : Lies enc k w b off l) (hb : Below w.heap.size w w') : Lies enc k w' b off l := fun i x hx j v hv => cell_kept (h i x hx j v hv) hb
theorem LiesAt.kept {ao : Option Addr} {l : List α} (h : LiesAt enc k w ao l) (hb : Below w.heap.size w w') : LiesAt enc k w' ao l := by
  rcases h with h | ⟨b, off, e, h⟩
  · exact Or.inl h
  · exact Or.inr ⟨b, off, e, h.kept hb⟩
theorem LiesAt.nil (w : World) (ao : Option Addr) : LiesAt enc k w ao [] := Or.inl rfl
/-- All cells of a list. -/
def encs (enc : α → List Value) (l : List α) : List Value := l.flatMap enc
theorem encs_length (hk : ∀ x, (enc x).length = k) (l : List α) : (encs enc l).length = l.length * k := by
  induction l with
  | nil => simp [encs]
  | cons x l ih => simp only [encs, List.flatMap_cons, List.length_append, hk, List.length_cons, Nat.succ_mul] at *; omega
theorem encs_append (l m : List α) : encs enc (l ++ m) = encs enc l ++ encs enc m := by simp [encs]
theorem encs_one (x : α) : encs enc [x] = enc x := by simp [encs]
theorem encs_get (hk : ∀ x, (enc x).length = k) (l : List α) (i j : Nat) (x : α) (v : Value) (h : l[i]? = some x) (hv : (enc x)[j]? = some v) : (encs enc l)[i * k + j]? = some v := by
  have hj : j < k := by rw [← hk x]; exact (List.getElem?_eq_some_iff.1 hv).1
  induction l generalizing i with
  | nil => simp at h
  | cons y l ih =>
    have e : encs enc (y :: l) = enc y ++ encs enc l := by simp [encs]
    rw [e]
    cases i with
    | zero => simp at h; subst h; rw [Nat.zero_mul, Nat.zero_add, List.getElem?_append_left (by rw [hk]; exact hj)]; exact hv
    | succ i =>
      simp at h
      rw [List.getElem?_append_right (by rw [hk, Nat.succ_mul]; omega), hk, show (i + 1) * k + j - k = i * k + j by rw [Nat.succ_mul]; omega]
      exact ih i h
theorem encs_cell' (h1 : ∀ x, ∀ v ∈ enc x, v.oneCell' = true) (l : List α) : ∀ v ∈ encs enc l, v.oneCell' = true := by
  intro v hv
  simp only [encs, List.mem_flatMap] at hv
  obtain ⟨x, _, h⟩ := hv
  exact h1 x v h
theorem Lies.of_cells (hk : ∀ x, (enc x).length = k) {b off : Nat} {l : List α} (hc : ∀ j v, (encs enc l)[j]? = some v → w.cell? ⟨b, off + j, none⟩ = some v) : Lies enc k w b off l :=
  fun i x hx j v hv => by rw [Nat.add_assoc]; exact hc _ _ (encs_get hk l i j x v hx hv)
theorem encs_inv (hk : ∀ x, (enc x).length = k) (hk0 : 0 < k) (l : List α) (j : Nat) (v : Value) (h : (encs enc l)[j]? = some v) : ∃ x, l[j / k]? = some x ∧ (enc x)[j % k]? = some v := by
  have hj := (List.getElem?_eq_some_iff.1 h).1
  rw [encs_length hk] at hj
  have hi : j / k < l.length := Nat.div_lt_of_lt_mul (by rw [Nat.mul_comm]; exact hj)
  have hm : j % k < k := Nat.mod_lt _ hk0
  refine ⟨l[j / k], List.getElem?_eq_getElem hi, ?_⟩
  have hx : (enc l[j / k])[j % k]? = some ((enc l[j / k])[j % k]'(by rw [hk]; exact hm)) := List.getElem?_eq_getElem _
  have := encs_get hk l (j / k) (j % k) l[j / k] _ (List.getElem?_eq_getElem hi) hx
  rw [show j / k * k + j % k = j by rw [Nat.mul_comm]; exact Nat.div_add_mod j k, h] at this
  rw [hx, this]
theorem Lies.cells (hk : ∀ x, (enc x).length = k) (hk0 : 0 < k) {b off : Nat} {l : List α} (h : Lies enc k w b off l) (j : Nat) (v : Value) (hv : (encs enc l)[j]? = some v) : w.cell? ⟨b, off + j, none⟩ = some v := by
  obtain ⟨x, h1, h2⟩ := encs_inv hk hk0 l j v hv
  have := h _ _ h1 _ _ h2
  rwa [Nat.add_assoc, show j / k * k + j % k = j by rw [Nat.mul_comm]; exact Nat.div_add_mod j k] at this
end

/-- A row as it stands in a program's hands: the header of its fields' slice, and what lies there. -/
structure Rw where
  src : ByteArray
  seq : Int
  tb : ByteArray
  ky : ByteArray
  ev : Int
  fa : Option Addr
  fc : Nat
  no : Int
  tk : Int
  vs : List Val
def Rw.cells (r : Rw) : List Value := [.string r.src, .int .i64 r.seq, .string r.tb, .string r.ky, .int .i64 r.ev, .slice r.fa r.vs.length r.fc, .int .i64 r.no, .int .i64 r.tk]
/-- An int. -/
def I64 (n : Int) : Prop := -9223372036854775808 ≤ n ∧ n < 9223372036854775808
/-- Its fields lie where its header points; nothing of it is great. -/
structure Rw.Ok (w : World) (r : Rw) : Prop where
  lies : LiesAt valC 3 w r.fa r.vs
  len : r.vs.length ≤ 1048576
  str : ∀ v ∈ r.vs, v.2.2.size ≤ 1048576
  val : ∀ v ∈ r.vs, I64 v.1 ∧ I64 v.2.1
  src : r.src.size ≤ 1048576
  tb : r.tb.size ≤ 1048576
  ky : r.ky.size ≤ 1048576
  ints : I64 r.seq ∧ I64 r.ev ∧ I64 r.no ∧ I64 r.tk
def Rw.key (r : Rw) : RK := (r.ev, (r.src, r.seq), r.no, r.tk, r.tb, r.ky, r.vs)
theorem Rw.Ok.kept {w w' : World} {r : Rw} (h : r.Ok w) (hb : Below w.heap.size w w') : r.Ok w' := { h with lies := h.lies.kept hb }
/-- A difference. -/
structure Dl where
  r : Rw
  tick : Int
  n : Int
def Dl.cells (d : Dl) : List Value := d.r.cells ++ [.int .i64 d.tick, .int .i64 d.n]
structure Dl.Ok (w : World) (d : Dl) : Prop where
  r : d.r.Ok w
  tick : I64 d.tick
  n : I64 d.n
theorem Dl.Ok.kept {w w' : World} {d : Dl} (h : d.Ok w) (hb : Below w.heap.size w w') : d.Ok w' := { h with r := h.r.kept hb }
def Dl.key (d : Dl) : DK := (d.tick, d.r.key)
def Dl.kn (d : Dl) : DK × Int := (d.key, d.n)
theorem Rw.cells_length (r : Rw) : r.cells.length = 8 := rfl
theorem Dl.cells_length (d : Dl) : d.cells.length = 10 := rfl
theorem valC_length (v : Val) : (valC v).length = 3 := rfl
theorem Rw.cells_one (r : Rw) : ∀ v ∈ r.cells, v.oneCell' = true := by
  intro v hv
  simp [Rw.cells] at hv
  rcases hv with h | h | h | h | h | h | h | h <;> subst h <;> rfl
theorem Dl.cells_one (d : Dl) : ∀ v ∈ d.cells, v.oneCell' = true := by
  intro v hv
  simp only [Dl.cells, List.mem_append] at hv
  rcases hv with h | h
  · exact d.r.cells_one v h
  · simp at h; rcases h with h | h <;> subst h <;> rfl
abbrev Rw.val (r : Rw) : Value := .agg #[.string r.src, .int .i64 r.seq, .string r.tb, .string r.ky, .int .i64 r.ev, .slice r.fa r.vs.length r.fc, .int .i64 r.no, .int .i64 r.tk]
abbrev Dl.val (d : Dl) : Value := .agg #[.string d.r.src, .int .i64 d.r.seq, .string d.r.tb, .string d.r.ky, .int .i64 d.r.ev, .slice d.r.fa d.r.vs.length d.r.fc, .int .i64 d.r.no, .int .i64 d.r.tk, .int .i64 d.tick, .int .i64 d.n]
/-- A list of rows, of differences: in memory, their fields too. -/
def RowsAt (w : World) (ao : Option Addr) (l : List Rw) : Prop := LiesAt Rw.cells 8 w ao l ∧ ∀ r ∈ l, r.Ok w
def DlsAt (w : World) (ao : Option Addr) (l : List Dl) : Prop := LiesAt Dl.cells 10 w ao l ∧ ∀ d ∈ l, d.Ok w
theorem RowsAt.kept {w w' : World} {ao : Option Addr} {l : List Rw} (h : RowsAt w ao l) (hb : Below w.heap.size w w') : RowsAt w' ao l := ⟨h.1.kept hb, fun r hr => (h.2 r hr).kept hb⟩
theorem DlsAt.kept {w w' : World} {ao : Option Addr} {l : List Dl} (h : DlsAt w ao l) (hb : Below w.heap.size w w') : DlsAt w' ao l := ⟨h.1.kept hb, fun r hr => (h.2 r hr).kept hb⟩
theorem Rw.cell {w : World} {b off : Nat} {l : List Rw} (h : Lies Rw.cells 8 w b off l) {i : Nat} {r : Rw} (hr : l[i]? = some r) :
    w.cell? ⟨b, off + i * 8, none⟩ = some (.string r.src) ∧ w.cell? ⟨b, off + i * 8 + 1, none⟩ = some (.int .i64 r.seq) ∧ w.cell? ⟨b, off + i * 8 + 2, none⟩ = some (.string r.tb) ∧ w.cell? ⟨b, off + i * 8 + 3, none⟩ = some (.string r.ky) ∧
    w.cell? ⟨b, off + i * 8 + 4, none⟩ = some (.int .i64 r.ev) ∧ w.cell? ⟨b, off + i * 8 + 5, none⟩ = some (.slice r.fa r.vs.length r.fc) ∧ w.cell? ⟨b, off + i * 8 + 6, none⟩ = some (.int .i64 r.no) ∧ w.cell? ⟨b, off + i * 8 + 7, none⟩ = some (.int .i64 r.tk) :=
  ⟨h i r hr 0 _ rfl, h i r hr 1 _ rfl, h i r hr 2 _ rfl, h i r hr 3 _ rfl, h i r hr 4 _ rfl, h i r hr 5 _ rfl, h i r hr 6 _ rfl, h i r hr 7 _ rfl⟩
theorem Dl.cell {w : World} {b off : Nat} {l : List Dl} (h : Lies Dl.cells 10 w b off l) {i : Nat} {d : Dl} (hr : l[i]? = some d) :
    w.cell? ⟨b, off + i * 10, none⟩ = some (.string d.r.src) ∧ w.cell? ⟨b, off + i * 10 + 1, none⟩ = some (.int .i64 d.r.seq) ∧ w.cell? ⟨b, off + i * 10 + 2, none⟩ = some (.string d.r.tb) ∧ w.cell? ⟨b, off + i * 10 + 3, none⟩ = some (.string d.r.ky) ∧
    w.cell? ⟨b, off + i * 10 + 4, none⟩ = some (.int .i64 d.r.ev) ∧ w.cell? ⟨b, off + i * 10 + 5, none⟩ = some (.slice d.r.fa d.r.vs.length d.r.fc) ∧ w.cell? ⟨b, off + i * 10 + 6, none⟩ = some (.int .i64 d.r.no) ∧ w.cell? ⟨b, off + i * 10 + 7, none⟩ = some (.int .i64 d.r.tk) ∧
    w.cell? ⟨b, off + i * 10 + 8, none⟩ = some (.int .i64 d.tick) ∧ w.cell? ⟨b, off + i * 10 + 9, none⟩ = some (.int .i64 d.n) :=
  ⟨h i d hr 0 _ rfl, h i d hr 1 _ rfl, h i d hr 2 _ rfl, h i d hr 3 _ rfl, h i d hr 4 _ rfl, h i d hr 5 _ rfl, h i d hr 6 _ rfl, h i d hr 7 _ rfl, h i d hr 8 _ rfl, h i d hr 9 _ rfl⟩
theorem val_cell {w : World} {b off : Nat} {l : List Val} (h : Lies valC 3 w b off l) {i : Nat} {v : Val} (hv : l[i]? = some v) :
    w.cell? ⟨b, off + i * 3, none⟩ = some (.int .i64 v.1) ∧ w.cell? ⟨b, off + i * 3 + 1, none⟩ = some (.int .i64 v.2.1) ∧ w.cell? ⟨b, off + i * 3 + 2, none⟩ = some (.string v.2.2) :=
  ⟨h i v hv 0 _ rfl, h i v hv 1 _ rfl, h i v hv 2 _ rfl⟩
end Go.Proofs.Ytfnpfkgmacaboaa
