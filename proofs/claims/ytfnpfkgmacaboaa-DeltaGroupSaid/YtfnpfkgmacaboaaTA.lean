/-
  A region that draws its order, by an invariant over the set of the operations that have run.
-/
import Derived.StillTail
import Derived.Deep.Quiet
import Derived.Test.YtfnpfkgmacaboaaPF
import Derived.Test.YtfnpfkgmacaboaaPG
import Derived.WideKeyEntry
import Derived.StringKeys
import Derived.Test.YtfnpfkgmacaboaaSE
namespace Go.Proofs.Ytfnpfkgmacaboaa
open Go
set_option linter.unusedVariables false
section
variable {P : Program} {ops : Array Oper} {md : Region.Mode} {Q : Exit → Act → World → Prop}

/-- Every operation waits for earlier ones alone. -/
def sortedB (md : Region.Mode) (ops : Array Oper) : Bool :=
  (List.range ops.size).all fun i => match ops[i]? with
    | some o => o.after.all fun e => !Region.binds md e || decide (e.on < i)
    | none => true
theorem sortedB_spec (h : sortedB md ops = true) {i : Nat} {o : Oper} (ho : ops[i]? = some o) {e : Edge} (he : e ∈ o.after) (hb : Region.binds md e = true) : e.on < i := by
  unfold sortedB at h
  have h1 := List.all_eq_true.1 h i (by simpa using (Array.getElem?_eq_some_iff.1 ho).1)
  rw [ho] at h1
  have h2 := Array.all_eq_true'.1 h1 e he
  simpa [hb] using h2
/-- How many have not run. -/
def left (listed : Array Bool) : Nat := (listed.toList.filter (fun b => !b)).length
theorem left_set (listed : Array Bool) (i : Nat) (h : listed.getD i true = false) : left (listed.setIfInBounds i true) + 1 = left listed := by
  have hi : i < listed.size := by
    rcases Nat.lt_or_ge i listed.size with h' | h'
    · exact h'
    · simp [Array.getElem?_eq_none h'] at h
  have hb : listed.toList[i]? = some false := by simpa [hi] using h
  unfold left
  rw [Array.toList_setIfInBounds]
  generalize listed.toList = l at hb
  clear hi h
  induction l generalizing i with
  | nil => simp at hb
  | cons x l ih =>
    cases i with
    | zero => injection hb with hb; subst hb; simp
    | succ i =>
      have := ih i (by simpa using hb)
      rw [List.set_cons_succ, List.filter_cons, List.filter_cons]
      split <;> (try simp only [List.length_cons]) <;> omega
theorem left_none (listed : Array Bool) (h : left listed = 0) (i : Nat) (hi : i < listed.size) : listed.getD i true = true := by
  cases hb : listed.getD i true with
  | true => rfl
  | false => have := left_set listed i hb; omega
theorem ready_none (hs : sortedB md ops = true) {listed : Array Bool} (hsz : listed.size = ops.size) (h : Region.ready md ops listed = []) : ∀ i, i < ops.size → listed.getD i true = true := by
  intro i
  induction i using Nat.strongRecOn with
  | _ i ih =>
    intro hi
    cases hb : listed.getD i true with
    | true => rfl
    | false =>
      have : i ∈ Region.ready md ops listed := by
        refine mem_ready.2 ⟨hb, ops[i], Array.getElem?_eq_getElem hi, fun e he hbd => ?_⟩
        have hlt := sortedB_spec hs (Array.getElem?_eq_getElem hi) he hbd
        have := ih e.on hlt (by omega)
        have hin : e.on < listed.size := by omega
        simp [hin] at this ⊢
        exact this
      rw [h] at this
      cases this
theorem wpAny_inv (hs : sortedB md ops = true) (Inv : Array Bool → Act → World → Prop)
    (hstep : ∀ listed a w i, listed.size = ops.size → Inv listed a w → i ∈ Region.ready md ops listed → wpOp P ops Q i (Inv (listed.setIfInBounds i true)) a w)
    (hend : ∀ listed a w, Inv listed a w → (∀ i, i < ops.size → listed.getD i true = true) → Q .normal a w) :
    ∀ (fuel : Nat) (listed : Array Bool) (a : Act) (w : World), listed.size = ops.size → left listed ≤ fuel → Inv listed a w → wpAny P md ops Q fuel listed a w := by
  intro fuel
  induction fuel with
  | zero =>
    intro listed a w hsz hl h
    have hall := fun i (hi : i < ops.size) => left_none listed (by omega) i (by omega)
    refine ⟨?_, hend listed a w h hall⟩
    cases hr : Region.ready md ops listed with
    | nil => rfl
    | cons i l =>
      have h1 : i ∈ Region.ready md ops listed := by rw [hr]; simp
      obtain ⟨h2, o, ho, -⟩ := mem_ready.1 h1
      rw [hall i (Array.getElem?_eq_some_iff.1 ho).1] at h2
      cases h2
  | succ fuel ih =>
    intro listed a w hsz hl h
    refine ⟨fun hr => hend listed a w h (ready_none hs hsz hr), fun i hi => ?_⟩
    refine wpOp_mono (fun a' w' h' => ih _ a' w' (by simpa using hsz) ?_ h') (hstep listed a w i hsz h hi)
    have := left_set listed i (mem_ready.1 hi).1
    omega
theorem wp_region_inv {id : Nat} {a : Act} {w : World} (hm : P.follows .mixedOrders = true) (hs : sortedB .any ops = true) (Inv : Array Bool → Act → World → Prop)
    (h0 : Inv (Array.replicate ops.size false) a w.drew)
    (hstep : ∀ listed a w i, listed.size = ops.size → Inv listed a w → i ∈ Region.ready .any ops listed → wpOp P ops Q i (Inv (listed.setIfInBounds i true)) a w)
    (hend : ∀ listed a w, Inv listed a w → (∀ i, i < ops.size → listed.getD i true = true) → Q .normal a w) : (Code.region id ops true).wp P Q a w := by
  refine wp_region_any hm (wpAny_inv hs Inv hstep hend _ _ _ _ (by simp) ?_ h0)
  unfold left
  simp
end
end Go.Proofs.Ytfnpfkgmacaboaa

/-
  Maps whose elements are appended to: an entry is taken, and its element stored; the keys of the program's maps by entity and by name.
-/
namespace Go.Proofs.Ytfnpfkgmacaboaa
open Go.ChangeShapes Go.WideShapes Go.ChangeAt Go.RowKit Go.Maps Go.WideElems Go.MapKept Go.ChangeMaps
set_option linter.unusedVariables false
set_option linter.unusedSimpArgs false
set_option linter.unusedSectionVars false

section
variable {P : Program} {kt t e : TypeId} {κ : Type} [DecidableEq κ] {Z : Keyz P kt κ} {w V : World} {b n : Nat} {T : κ → Option Value}
/-- An entry is taken, in whatever world has the map as it was; its element is stored, in whatever world has the map as it then is. -/
theorem Tab.entry (h : Tab V Z b n T) (ht : P.underlying t = some (.map kt e)) {z : Value} (hz : ∀ u : World, (zeroValue e).run P u = .ok z u) (hn : n < maxLen) {k : κ} (hk : Z.ok k) :
    ∃ (st : Nat) (o1 : Obj), (∀ w, w.heap[b]? = V.heap[b]? → (Instr.mapEntry t (.map (some b)) (Z.val k)).run P w = .ok (.tuple #[(T k).getD z, goInt st]) (setBlock w b o1)) ∧
      ∀ (w2 : World) (val : Value), w2.heap[b]? = some o1 → ∃ w3, (Instr.entryStore t (.map (some b)) (goInt st) val).run P w2 = .ok () w3 ∧ Tab w3 Z b (n + 1) (putT T k val) ∧ w2.grownBy w3 (some b) := by
  have H := h
  obtain ⟨D, ⟨es, clock, hb, F, hs, hD⟩, h2⟩ := h
  have hkey := Z.of k hk
  have K := Z.law
  have hkeys : ∀ e ∈ es.toList, ∃ l, keyOf P kt e.key = some l := F.keys
  obtain ⟨s1, s2, s3⟩ := F.stamped
  have hlook := H.look (w := V) ht (hz V) hk
  have hblk : ∀ (u : World) (es' : Array MapEntry) (clock' : Nat), (u.heap[b]?).isSome = true → (setBlock u b (.map es' clock')).heap[b]? = some (.map es' clock') := by
    intro u es' clock' hu
    have hlt : b < u.heap.size := by
      rcases Nat.lt_or_ge b u.heap.size with q | q
      · exact q
      · rw [Array.getElem?_eq_none q] at hu; cases hu
    simp [setBlock, hlt]
  have hgr : ∀ (u : World) (o : Obj), u.grownBy (setBlock u b o) (some b) := fun u o => ⟨rfl, rfl, rfl, by simp [setBlock], fun i _ hi => by
    unfold setBlock
    simp only [Array.getElem?_setIfInBounds]
    rw [if_neg (fun e => hi (by rw [e]))]⟩
  -- the map after the store, as the plain store leaves it
  have hfin : ∀ (val : Value) (es' : Array MapEntry) (clock' : Nat), (Instr.mapUpdate t (.map (some b)) (Z.val k) val).run P V = .ok () (setBlock V b (.map es' clock')) → ∀ w2 : World, (w2.heap[b]?).isSome = true → Tab (setBlock w2 b (.map es' clock')) Z b (n + 1) (putT T k val) := by
    intro val es' clock' hrun w2 hw2
    obtain ⟨w', hrun', h3, -⟩ := H.store ht hn hk val
    rw [hrun] at hrun'
    injection hrun' with _ hw
    subst hw
    exact h3.blocks ((hblk w2 es' clock' hw2).trans (hblk V es' clock' (by rw [hb]; rfl)).symm)
  rcases K.find V hkey es.toList hkeys with ⟨h1, h0⟩ | ⟨j, e0, h1, hj0, he0⟩
  · have hv : (T k).getD z = z := by
      have : (Instr.lookup t (.map (some b)) (Z.val k) false).run P V = .ok z V := by
        simp [Instr.lookup, run_underlying ht, MapKept.run_getObj_map hb, K.check V _ hkey, h1, hz V, Result.andThen]
      rw [this] at hlook
      injection hlook with hlook _
      exact hlook.symm
    rw [hv]
    refine ⟨clock, .map (es.push ⟨Z.val k, z, clock⟩) (clock + 1), fun w hw => ?_, fun w2 val hw2 => ⟨setBlock w2 b (.map (es.push ⟨Z.val k, val, clock⟩) (clock + 1)), ?_, ?_, hgr _ _⟩⟩
    · have hbw : w.heap[b]? = some (.map es clock) := hw.trans hb
      have h1w : (Instr.findKey kt (Z.val k) es.toList).run P w = .ok none w := by
        rcases K.find w hkey es.toList hkeys with ⟨q, -⟩ | ⟨j, e0, q, hj, he⟩
        · exact q
        · exact absurd he (h0 e0 (List.mem_of_getElem? hj))
      simp [Instr.mapEntry, run_underlying ht, MapKept.run_getObj_map hbw, K.check w false hkey, h1w, hz w, MapKept.run_setObj_map _ hbw, Result.andThen, setBlock]
    · have hidx : (es.push ⟨Z.val k, z, clock⟩).findIdx? (fun e => ((e.born : Nat) : Int) == ((clock : Nat) : Int)) = some es.size := by
        rw [findIdx_arr]
        have := findIdx_born (l := (es.push ⟨Z.val k, z, clock⟩).toList) (j := es.size) (e0 := ⟨Z.val k, z, clock⟩) (by
          simp only [Array.toList_push, List.map_append, List.map_cons, List.map_nil]
          refine List.nodup_append.2 ⟨s2, by simp, fun a ha c hc e1 => ?_⟩
          simp only [List.mem_singleton] at hc
          obtain ⟨x, hx, rfl⟩ := List.mem_map.1 ha
          have := s1 x hx
          omega) (by simp)
        exact this
      have hmod : (es.push ⟨Z.val k, z, clock⟩).modify es.size (fun e => { e with val := val }) = es.push ⟨Z.val k, val, clock⟩ := by
        apply Array.ext'
        rw [Array.toList_modify, Array.toList_push, Array.toList_push, ← Array.length_toList, modify_last]
      simp [Instr.entryStore, MapKept.run_getObj_map hw2, asInt, asIntOf, goInt, hidx, hmod, MapKept.run_setObj_map _ hw2, Result.andThen, setBlock]
    · refine hfin val _ _ ?_ w2 (by rw [hw2]; rfl)
      simp [Instr.mapUpdate, run_underlying ht, MapKept.run_getObj_map hb, K.check V false hkey, h1, MapKept.run_setObj_map _ hb, Result.andThen, setBlock]
  · have hj : es[j]? = some e0 := by simpa using hj0
    have hv : (T k).getD z = e0.val := by
      have : (Instr.lookup t (.map (some b)) (Z.val k) false).run P V = .ok e0.val V := by
        simp [Instr.lookup, run_underlying ht, MapKept.run_getObj_map hb, K.check V _ hkey, h1, Result.andThen]
      rw [this] at hlook
      injection hlook with hlook _
      exact hlook.symm
    rw [hv]
    have hsame : es.modify j (fun e => { e with key := Z.val k }) = es := by
      apply Array.ext'
      rw [Array.toList_modify, modify_eq_set _ _ _ _ hj0]
      have : ({ e0 with key := Z.val k } : MapEntry) = e0 := by rw [← he0]
      rw [this]
      exact set_self _ _ _ hj0
    refine ⟨e0.born, .map es clock, fun w hw => ?_, fun w2 val hw2 => ⟨setBlock w2 b (.map (es.modify j fun e' => { e' with key := Z.val k, val := val }) clock), ?_, ?_, hgr _ _⟩⟩
    · have hbw : w.heap[b]? = some (.map es clock) := hw.trans hb
      have h1w : (Instr.findKey kt (Z.val k) es.toList).run P w = .ok (some (j, e0.val)) w := by
        rcases K.find w hkey es.toList hkeys with ⟨q, h0⟩ | ⟨j', e', q, hj', he'⟩
        · exact absurd he0 (h0 e0 (List.mem_of_getElem? hj0))
        · have : j' = j := by
            have hlj : j < (es.toList.map (·.key)).length := by simpa using (List.getElem?_eq_some_iff.1 hj0).1
            refine ((List.getElem?_inj (l := es.toList.map MapEntry.key) hlj s3).1 ?_).symm
            rw [List.getElem?_map, List.getElem?_map, hj0, hj']
            simp [he0, he']
          subst this
          rw [hj0] at hj'
          cases hj'
          exact q
      simp [Instr.mapEntry, run_underlying ht, MapKept.run_getObj_map hbw, K.check w false hkey, h1w, hj, he0, K.stays w hkey, hsame, MapKept.run_setObj_map _ hbw, Result.andThen, setBlock]
    · have hidx : es.findIdx? (fun e => ((e.born : Nat) : Int) == ((e0.born : Nat) : Int)) = some j := by
        rw [findIdx_arr]
        exact findIdx_born s2 hj0
      have hmod : es.modify j (fun e => { e with val := val }) = es.modify j (fun e' => { e' with key := Z.val k, val := val }) := by
        apply Array.ext'
        rw [Array.toList_modify, Array.toList_modify, modify_eq_set _ _ _ _ hj0, modify_eq_set _ _ _ _ hj0, ← he0]
      simp [Instr.entryStore, MapKept.run_getObj_map hw2, asInt, asIntOf, goInt, hidx, hmod, MapKept.run_setObj_map _ hw2, Result.andThen, setBlock]
    · refine hfin val _ _ ?_ w2 (by rw [hw2]; rfl)
      simp [Instr.mapUpdate, run_underlying ht, MapKept.run_getObj_map hb, K.check V false hkey, h1, hj, he0, K.stays V hkey, MapKept.run_setObj_map _ hb, Result.andThen, setBlock]
end
theorem wide128 : (match Try.prog.underlying 128 with | some (.array _ _) | some (.struct _) => true | _ => false) = true := by kernel_rfl
theorem row128 : (128 : TypeId) < Try.prog.types.size := of_decide_eq_true (by kernel_rfl)
theorem at128 : Try.prog.keyTypeAt 2 128 = true := by kernel_rfl
set_option maxRecDepth 100000 in
theorem law128 : Keyed Try.prog 128 := Keyed.of_law (deep_law_laid Try.laidOut (m := 2) (by omega) row128 at128 wide128)
theorem cells128 : Try.prog.cellsOf 128 = 2 := by kernel_rfl
theorem keyLit_who (d : Nat) (x : ByteArray × ByteArray) (h : x.1.size ≤ maxLen) (h2 : x.2.size ≤ maxLen) : Try.prog.keyLits (d + 2) 128 [.string x.1, .string x.2] = some [.string x.1.data.toList, .string x.2.data.toList] := by
  simp [Program.keyLits, Try.underlying128, Try.underlying9, cells128, cells9, h, h2]
theorem key128 (x : ByteArray × ByteArray) (h : x.1.size ≤ maxLen) (h2 : x.2.size ≤ maxLen) : keyOf Try.prog 128 (.agg #[.string x.1, .string x.2]) = some (.string (keyBytes [.string x.1.data.toList, .string x.2.data.toList])) := by
  have hk : Try.prog.keyType 128 = true := by kernel_rfl
  have hl := keyLit_who 170 x h h2
  unfold keyOf
  rw [Try.underlying128, depthT]
  simp [hk, Value.formed, Try.underlying128, cells128, Value.cells, hl]
/-- Who: an entity's kind and its key. -/
abbrev Who := ByteArray × ByteArray
structure OkW (x : Who) : Prop where
  kind : x.1.size ≤ 1048576
  key : x.2.size ≤ 1048576
theorem small_max {s : ByteArray} (h : s.size ≤ 1048576) : s.size ≤ maxLen := Nat.le_trans h (by unfold maxLen; omega)
abbrev whoV (x : Who) : Value := .agg #[.string x.1, .string x.2]
def keysW : Keyz Try.prog 128 { x : Who // OkW x } where
  val := fun x => whoV x.1
  ok := fun _ => True
  lit := fun x => .string (keyBytes [.string x.1.1.data.toList, .string x.1.2.data.toList])
  of := fun x _ => key128 x.1 (small_max x.2.kind) (small_max x.2.key)
  inj := fun x y h => by
    simp only [whoV, Value.agg.injEq, Array.mk.injEq, List.cons.injEq, Value.string.injEq, and_true, true_and] at h
    exact Subtype.ext (Prod.ext h.1 h.2)
  law := law128
abbrev Nm := { s : ByteArray // s.size ≤ 1048576 }
theorem key9 (s : ByteArray) (h : s.size ≤ maxLen) : keyOf Try.prog 9 (.string s) = some (.string s.data.toList) := by
  simp [keyOf, mapKey, Try.underlying9, h]
theorem law9 : Keyed Try.prog 9 := Keyed.of_law (Go.WideMaps.string_law Try.underlying9)
def keysN : Keyz Try.prog 9 Nm where
  val := fun x => .string x.1
  ok := fun _ => True
  lit := fun x => .string x.1.data.toList
  of := fun x _ => key9 x.1 (small_max x.2)
  inj := fun x y h => by injection h with h; exact Subtype.ext h
  law := law9
end Go.Proofs.Ytfnpfkgmacaboaa

/-
  history.erased in plain words; the steps of a region by invariant, one operation at a time.
-/
namespace Go.Proofs.Ytfnpfkgmacaboaa
open Go.ChangeShapes Go.WideShapes Go.ChangeAt Go.RowKit Go.Maps
set_option linter.unusedVariables false
set_option linter.unusedSimpArgs false

/-- A slot that is set if an operation has run. -/
def putIf (b : Bool) (t : Tmp) (v : Value) (a : Act) : Act := if b then a.put (some t) v else a
theorem putIf_false (t : Tmp) (v : Value) (a : Act) : putIf false t v a = a := rfl
theorem putIf_true (t : Tmp) (v : Value) (a : Act) : putIf true t v a = a.put (some t) v := rfl
theorem eval_put_ne {s t : Tmp} (v : Value) (a : Act) (h : s ≠ t) : (a.put (some t) v).eval (.tmp s) = a.eval (.tmp s) := Act.eval_put (fun d hd e => by injection hd with hd; injection e with e; exact h (by rw [e, hd]))
theorem eval_putIf_ne {b : Bool} {s t : Tmp} (v : Value) (a : Act) (h : s ≠ t) : (putIf b t v a).eval (.tmp s) = a.eval (.tmp s) := by
  cases b
  · rfl
  · exact eval_put_ne v a h
theorem size_put (t : Tmp) (v : Value) (a : Act) : (a.put (some t) v).tmps.size = a.tmps.size := by simp [Act.put]
theorem size_putIf (b : Bool) (t : Tmp) (v : Value) (a : Act) : (putIf b t v a).tmps.size = a.tmps.size := by
  cases b
  · rfl
  · exact size_put t v a
theorem eval_put_same {t : Tmp} (v : Value) (a : Act) (h : t < a.tmps.size) : (a.put (some t) v).eval (.tmp t) = v := by simp [Act.put, Act.eval, h]
theorem put_putIf {b : Bool} {s t : Tmp} (v u : Value) (a : Act) (h : s ≠ t) : (putIf b t v a).put (some s) u = putIf b t v (a.put (some s) u) := by
  cases b
  · rfl
  · simp only [putIf_true, Act.put]
    rw [Array.setIfInBounds_comm _ _ (fun e => h e.symm)]

section
variable {P : Program} {Q : Exit → Act → World → Prop}
/-- The steps of the operations from the n-th on. -/
def StepsFrom (P : Program) (ops : Array Oper) (Q : Exit → Act → World → Prop) (Inv : Array Bool → Act → World → Prop) : Nat → List Oper → Prop
  | _, [] => True
  | n, o :: r => (∀ listed a w, listed.size = ops.size → Inv listed a w → listed.getD n true = false → (∀ e ∈ o.after, Region.binds .any e = true → listed.getD e.on false = true) →
      if Region.wanted o (yielded ops a.tmps) = true then o.wp P a w (Inv (listed.setIfInBounds n true)) Q else Inv (listed.setIfInBounds n true) (a.put o.dst undef) w) ∧ StepsFrom P ops Q Inv (n + 1) r
theorem StepsFrom.get {ops : Array Oper} {Inv : Array Bool → Act → World → Prop} : ∀ (l : List Oper) (n : Nat), StepsFrom P ops Q Inv n l → ∀ i o, l[i]? = some o → ∀ listed a w, listed.size = ops.size → Inv listed a w → listed.getD (n + i) true = false →
    (∀ e ∈ o.after, Region.binds .any e = true → listed.getD e.on false = true) →
    if Region.wanted o (yielded ops a.tmps) = true then o.wp P a w (Inv (listed.setIfInBounds (n + i) true)) Q else Inv (listed.setIfInBounds (n + i) true) (a.put o.dst undef) w
  | [], _, _, i, o, h => by simp at h
  | x :: l, n, h, 0, o, ho => by
    injection ho with ho
    subst ho
    exact h.1
  | x :: l, n, h, i + 1, o, ho => by
    have := StepsFrom.get l (n + 1) h.2 i o (by simpa using ho)
    rwa [show n + 1 + i = n + (i + 1) by omega] at this
theorem wp_region_steps {id : Nat} {l : List Oper} {a : Act} {w : World} (hm : P.follows .mixedOrders = true) (hs : sortedB .any l.toArray = true) (Inv : Array Bool → Act → World → Prop)
    (h0 : Inv (Array.replicate l.length false) a w.drew) (hstep : StepsFrom P l.toArray Q Inv 0 l)
    (hend : ∀ listed a w, Inv listed a w → (∀ i, i < l.length → listed.getD i true = true) → Q .normal a w) : (Code.region id l.toArray true).wp P Q a w := by
  refine wp_region_inv hm hs Inv h0 (fun listed a w i hsz hI hi => ?_) hend
  obtain ⟨h1, o, ho, h2⟩ := mem_ready.1 hi
  have := StepsFrom.get l 0 hstep i o (by simpa using ho) listed a w hsz hI (by rw [Nat.zero_add]; exact h1) h2
  rw [Nat.zero_add] at this
  unfold wpOp
  simp only [ho]
  split
  · rename_i hw
    rw [if_pos hw] at this
    exact Or.inl this
  · rename_i hw
    rw [if_neg hw] at this
    exact this
end
theorem set_same {listed : Array Bool} {n : Nat} {d : Bool} (h : n < listed.size) : (listed.setIfInBounds n true).getD n d = true := by simp [h]
theorem set_ne {listed : Array Bool} {n m : Nat} {d : Bool} (h : n ≠ m) : (listed.setIfInBounds n true).getD m d = listed.getD m d := getD_set_ne d h

/-! ### plain words -/
theorem fidC_one (x : FID) : ∀ v ∈ fidC x, v.oneCell' = true := by
  intro v hv
  simp [fidC] at hv
  rcases hv with h | h <;> subst h <;> rfl
theorem elF : El Try.prog 36 23 2 24 := ⟨Try.underlying23, by kernel_rfl, by decide, by decide⟩
theorem encFid : Enc fidC 2 := ⟨fun _ => rfl, fidC_one⟩
/-- What is known of erasures while a log is read: the erased bases, the bases of each entity, the entity kinds of the tables. -/
structure Er where
  ids : FID → Bool
  about : Who → List FID
  kinds : ByteArray → Option ByteArray
def Er.none : Er := ⟨fun _ => false, fun _ => [], fun _ => Option.none⟩
def whoF (s : Er) (x : En) : Who := ((s.kinds x.tb).getD ⟨#[]⟩, x.ky)
def stepR (s : Er) (x : En) : Er :=
  if x.kind = 3 ∧ x.ck = 1 then { s with kinds := fun k => if k = x.tn then some x.te else s.kinds k }
  else if x.kind = 1 ∧ x.fk ≠ 3 then { s with about := fun k => if k = whoF s x then s.about k ++ [x.base] else s.about k }
  else if x.kind = 2 ∧ x.ek = 2 then { s with ids := fun k => eqF k (x.esr, x.esq) || s.ids k }
  else if x.kind = 2 then { s with ids := fun k => memF (s.about (x.een, x.eky)) k || s.ids k }
  else s
def erS (l : List En) : Er := l.foldl stepR Er.none
theorem erS_snoc (l : List En) (x : En) : erS (l ++ [x]) = stepR (erS l) x := by unfold erS; rw [List.foldl_append]; rfl
/-- Is a base erased in a log? -/
def erF (l : List En) (x : FID) : Bool := (erS l).ids x
theorem stepR_about (s : Er) (x : En) (k : Who) : ((stepR s x).about k).length ≤ (s.about k).length + 1 := by
  unfold stepR
  split
  · exact Nat.le_succ _
  · split
    · show (if k = whoF s x then s.about k ++ [x.base] else s.about k).length ≤ _
      split <;> simp
    · split
      · exact Nat.le_succ _
      · split <;> exact Nat.le_succ _
theorem foldR_about (l : List En) : ∀ (s : Er) (k : Who), ((l.foldl stepR s).about k).length ≤ (s.about k).length + l.length := by
  induction l with
  | nil => intro s k; simp
  | cons x l ih =>
    intro s k
    have h1 := ih (stepR s x) k
    have h2 := stepR_about s x k
    simp only [List.foldl_cons, List.length_cons]
    omega
theorem erS_about (l : List En) (k : Who) : ((erS l).about k).length ≤ l.length := by
  have := foldR_about l Er.none k
  simpa [erS, Er.none] using this
/-- What lies in the entity kinds is a string of the log's. -/
theorem foldR_kinds (l : List En) (M : Nat) (h : ∀ x ∈ l, x.te.size ≤ M) : ∀ (s : Er), (∀ k v, s.kinds k = some v → v.size ≤ M) → ∀ k v, (l.foldl stepR s).kinds k = some v → v.size ≤ M := by
  induction l with
  | nil => intro s hs; exact hs
  | cons x l ih =>
    intro s hs
    refine ih (fun y hy => h y (by simp [hy])) (stepR s x) (fun k v hv => ?_)
    unfold stepR at hv
    split at hv
    · have hv' : (if k = x.tn then some x.te else s.kinds k) = some v := hv
      split at hv'
      · injection hv' with hv'; rw [← hv']; exact h x (by simp)
      · exact hs k v hv'
    · split at hv
      · exact hs k v hv
      · split at hv
        · exact hs k v hv
        · split at hv <;> exact hs k v hv
theorem erS_kinds (l : List En) (M : Nat) (h : ∀ x ∈ l, x.te.size ≤ M) (k v : ByteArray) (hv : (erS l).kinds k = some v) : v.size ≤ M :=
  foldR_kinds l M h Er.none (fun k v e => by cases e) k v hv
/-- The bases of an entity are identifiers. -/
theorem foldR_ok (l : List En) (h : ∀ x ∈ l, OkF x.base) : ∀ (s : Er), (∀ k, ∀ y ∈ s.about k, OkF y) → ∀ k, ∀ y ∈ (l.foldl stepR s).about k, OkF y := by
  induction l with
  | nil => intro s hs; exact hs
  | cons x l ih =>
    intro s hs
    refine ih (fun y hy => h y (by simp [hy])) (stepR s x) (fun k y hy => ?_)
    unfold stepR at hy
    split at hy
    · exact hs k y hy
    · split at hy
      · have hy' : y ∈ (if k = whoF s x then s.about k ++ [x.base] else s.about k) := hy
        split at hy'
        · rcases List.mem_append.1 hy' with h1 | h1
          · exact hs k y h1
          · simp at h1; rw [h1]; exact h x (by simp)
        · exact hs k y hy'
      · split at hy
        · exact hs k y hy
        · split at hy <;> exact hs k y hy
theorem erS_ok (l : List En) (h : ∀ x ∈ l, OkF x.base) (k : Who) : ∀ y ∈ (erS l).about k, OkF y := foldR_ok l h Er.none (fun k y e => by cases e) k
end Go.Proofs.Ytfnpfkgmacaboaa
