/-
  The keys of the program's maps in plain words: marks, identifiers.
-/
import Derived.Test.YtfnpfkgmacaboaaPE
import Derived.Test.YtfnpfkgmacaboaaLC
import Derived.DeepKeys5
namespace Go.Proofs.Ytfnpfkgmacaboaa
open Go.ChangeShapes Go.WideShapes Go.ChangeAt Go.RowKit Go.Maps
set_option linter.unusedVariables false
set_option linter.unusedSimpArgs false

theorem Try.laidOut : laidOutB Try.prog = true := by kernel_rfl
theorem wide75 : (match Try.prog.underlying 75 with | some (.array _ _) | some (.struct _) => true | _ => false) = true := by kernel_rfl
theorem wide36 : (match Try.prog.underlying 36 with | some (.array _ _) | some (.struct _) => true | _ => false) = true := by kernel_rfl
theorem row75 : (75 : TypeId) < Try.prog.types.size := of_decide_eq_true (by kernel_rfl)
theorem row36 : (36 : TypeId) < Try.prog.types.size := of_decide_eq_true (by kernel_rfl)
theorem at75 : Try.prog.keyTypeAt 3 75 = true := by kernel_rfl
theorem at36 : Try.prog.keyTypeAt 2 36 = true := by kernel_rfl
set_option maxRecDepth 100000 in
theorem law75 : Keyed Try.prog 75 := Keyed.of_law (deep_law_laid Try.laidOut (m := 3) (by omega) row75 at75 wide75)
set_option maxRecDepth 100000 in
theorem law36 : Keyed Try.prog 36 := Keyed.of_law (deep_law_laid Try.laidOut (m := 2) (by omega) row36 at36 wide36)
theorem depthT : Try.prog.types.size + 1 = 168 + 4 := by kernel_rfl
theorem cells75 : Try.prog.cellsOf 75 = 9 := by kernel_rfl
theorem cells36 : Try.prog.cellsOf 36 = 2 := by kernel_rfl
theorem cells9 : Try.prog.cellsOf 9 = 1 := by kernel_rfl
theorem cells3 : Try.prog.cellsOf 3 = 1 := by kernel_rfl
theorem keyLit_str (d : Nat) (s : ByteArray) (h : s.size ≤ maxLen) : Try.prog.keyLits (d + 1) 9 [.string s] = some [.string s.data.toList] := by
  simp [Program.keyLits, Try.underlying9, h]
theorem keyLit_int (d : Nat) (n : Int) (h : I64 n) : Try.prog.keyLits (d + 1) 3 [.int .i64 n] = some [.int .i64 n] := by
  have hw : (Lit.int .i64 n).wf = true := WalkArith.wf_i64 (by unfold I64 at h; omega)
  simp [Program.keyLits, Try.underlying3, hw]
theorem keyLit_fid (d : Nat) (x : FID) (h : x.1.size ≤ maxLen) (h2 : I64 x.2) : Try.prog.keyLits (d + 2) 36 [.string x.1, .int .i64 x.2] = some [.string x.1.data.toList, .int .i64 x.2] := by
  have hw : (Lit.int .i64 x.2).wf = true := WalkArith.wf_i64 (by unfold I64 at h2; omega)
  simp [Program.keyLits, Try.underlying36, Try.underlying9, Try.underlying3, cells36, cells9, cells3, h, hw]
theorem key36 (x : FID) (h : x.1.size ≤ maxLen) (h2 : I64 x.2) : keyOf Try.prog 36 (fidV x) = some (.string (keyBytes [.string x.1.data.toList, .int .i64 x.2])) := by
  have hk : Try.prog.keyType 36 = true := by kernel_rfl
  have hl := keyLit_fid 170 x h h2
  unfold keyOf
  rw [Try.underlying36, depthT]
  simp [hk, Value.formed, Try.underlying36, cells36, Value.cells, hl]
/-- The keys of a map by identifier. -/
structure OkF (x : FID) : Prop where
  src : x.1.size ≤ 1048576
  seq : I64 x.2
theorem OkF.max {x : FID} (h : OkF x) : x.1.size ≤ maxLen := Nat.le_trans h.src (by unfold maxLen; omega)
def keysF : Keyz Try.prog 36 { x : FID // OkF x } where
  val := fun x => fidV x.1
  ok := fun _ => True
  lit := fun x => .string (keyBytes [.string x.1.1.data.toList, .int .i64 x.1.2])
  of := fun x _ => key36 x.1 x.2.max x.2.seq
  inj := fun x y h => by
    simp only [fidV, Value.agg.injEq, Array.mk.injEq, List.cons.injEq, Value.string.injEq, Value.int.injEq, and_true, true_and] at h
    exact Subtype.ext (Prod.ext h.1 h.2)
  law := law36
/-- A mark in plain words. -/
abbrev markK (k : DK) : Value := .agg #[.string k.2.2.1.1, .int .i64 k.2.2.1.2, .string k.2.2.2.2.2.1, .string k.2.2.2.2.2.2.1, .int .i64 k.2.1, .int .i64 k.2.2.2.1, .int .i64 k.2.2.2.2.1, .int .i64 k.1, .string (strOf (encF k.2.2.2.2.2.2.2))]
structure OkM (k : DK) : Prop where
  tick : I64 k.1
  ev : I64 k.2.1
  src : k.2.2.1.1.size ≤ 1048576
  seq : I64 k.2.2.1.2
  no : I64 k.2.2.2.1
  tk : I64 k.2.2.2.2.1
  tb : k.2.2.2.2.2.1.size ≤ 1048576
  ky : k.2.2.2.2.2.2.1.size ≤ 1048576
  len : k.2.2.2.2.2.2.2.length ≤ 1048576
  vals : ∀ v ∈ k.2.2.2.2.2.2.2, I64 v.1 ∧ I64 v.2.1 ∧ v.2.2.size ≤ 1048576
theorem strOf_fold (ns : List Int) (r : ByteArray) : (ns.foldl (fun r n => r.push (UInt8.ofNat n.toNat)) r).data.toList = r.data.toList ++ ns.map (fun n => UInt8.ofNat n.toNat) := by
  induction ns generalizing r with
  | nil => simp
  | cons n ns ih => simp only [List.foldl_cons, List.map_cons]; rw [ih]; simp [ByteArray.push]
theorem strOf_list (ns : List Int) : (strOf ns).data.toList = ns.map (fun n => UInt8.ofNat n.toNat) := by
  unfold strOf; rw [strOf_fold]; rfl
theorem strOf_size (ns : List Int) : (strOf ns).size = ns.length := by
  have : (strOf ns).data.toList.length = ns.length := by rw [strOf_list]; simp
  exact this
theorem encF_byte : ∀ (vs : List Val), ∀ n ∈ encF vs, 0 ≤ n ∧ n < 256 := by
  intro vs n hn
  simp only [encF, List.mem_flatMap, encV, List.mem_append, List.mem_map] at hn
  have hb : ∀ m, n ∈ B8 m → 0 ≤ n ∧ n < 256 := by
    intro m hm
    simp only [B8, List.mem_map] at hm
    obtain ⟨i, _, rfl⟩ := hm
    exact ⟨Int.emod_nonneg _ (by decide), Int.emod_lt_of_pos _ (by decide)⟩
  obtain ⟨v, _, ((h | h) | h) | ⟨b, _, rfl⟩⟩ := hn
  · exact hb _ h
  · exact hb _ h
  · exact hb _ h
  · have := b.toNat_lt; omega
theorem strOf_inj {ns ms : List Int} (h1 : ∀ n ∈ ns, 0 ≤ n ∧ n < 256) (h2 : ∀ n ∈ ms, 0 ≤ n ∧ n < 256) (h : strOf ns = strOf ms) : ns = ms := by
  have e := congrArg (fun s : ByteArray => (s.data.toList.map (fun b => (b.toNat : Int)))) h
  simp only [strOf_list, List.map_map] at e
  have key : ∀ l : List Int, (∀ n ∈ l, 0 ≤ n ∧ n < 256) → l.map ((fun b : UInt8 => (b.toNat : Int)) ∘ fun n : Int => UInt8.ofNat n.toNat) = l := by
    intro l hl
    conv => rhs; rw [← List.map_id l]
    refine List.map_congr_left (fun n hn => ?_)
    have := hl n hn
    simp [UInt8.toNat_ofNat']
    omega
  rw [key ns h1, key ms h2] at e
  exact e
theorem OkM.fields {k : DK} (h : OkM k) : (strOf (encF k.2.2.2.2.2.2.2)).size ≤ maxLen := by
  rw [strOf_size]
  have h1 := encF_length _ (fun v hv => (h.vals v hv).2.2)
  have h2 := Nat.mul_le_mul_right 1048600 h.len
  unfold maxLen
  omega
theorem markK_inj {k k' : DK} (h : OkM k) (h' : OkM k') (e : markK k = markK k') : k = k' := by
  obtain ⟨a, b, ⟨c, d⟩, e1, f, g, i, j⟩ := k
  obtain ⟨a', b', ⟨c', d'⟩, e1', f', g', i', j'⟩ := k'
  simp only [markK, Value.agg.injEq, Array.mk.injEq, List.cons.injEq, Value.string.injEq, Value.int.injEq, and_true, true_and] at e
  obtain ⟨p1, p2, p3, p4, p5, p6, p7, p8, p9⟩ := e
  have q := encF_inj _ _ h.vals h'.vals (strOf_inj (encF_byte _) (encF_byte _) p9)
  simp only at q
  subst p1 p2 p3 p4 p5 p6 p7 p8 q
  rfl
set_option maxHeartbeats 2000000 in
set_option maxRecDepth 100000 in
theorem lits75 (a c d i : ByteArray) (b e f g h : Int) (ha : a.size ≤ maxLen) (hc : c.size ≤ maxLen) (hd : d.size ≤ maxLen) (hi : i.size ≤ maxLen) (hb : I64 b) (he : I64 e) (hf : I64 f) (hg : I64 g) (hh : I64 h) :
    Try.prog.keyLits 172 75 [.string a, .int .i64 b, .string c, .string d, .int .i64 e, .int .i64 f, .int .i64 g, .int .i64 h, .string i]
      = some [.string a.data.toList, .int .i64 b, .string c.data.toList, .string d.data.toList, .int .i64 e, .int .i64 f, .int .i64 g, .int .i64 h, .string i.data.toList] := by
  have e36 : Try.prog.keyLits 171 36 [.string a, .int .i64 b] = some [.string a.data.toList, .int .i64 b] := keyLit_fid 169 (a, b) ha hb
  have e9 : ∀ s : ByteArray, s.size ≤ maxLen → Try.prog.keyLits 171 9 [.string s] = some [.string s.data.toList] := fun s hs => keyLit_str 170 s hs
  have e3 : ∀ n : Int, I64 n → Try.prog.keyLits 171 3 [.int .i64 n] = some [.int .i64 n] := fun n hn => keyLit_int 170 n hn
  have c9 := e9 c hc
  have d9 := e9 d hd
  have i9 := e9 i hi
  have e3' := e3 e he
  have f3 := e3 f hf
  have g3 := e3 g hg
  have h3 := e3 h hh
  clear e9 e3
  unfold Program.keyLits
  simp only [Try.underlying75, cells75, cells36, cells9, cells3]
  simp
  simp only [cells36, cells9, cells3, List.take_succ_cons, List.take_zero, e36, c9, d9, i9, e3', f3, g3, h3, Option.bind_some, Function.comp]
  rfl
set_option maxHeartbeats 2000000 in
set_option maxRecDepth 100000 in
theorem key75v (a c d i : ByteArray) (b e f g h : Int) (ha : a.size ≤ maxLen) (hc : c.size ≤ maxLen) (hd : d.size ≤ maxLen) (hi : i.size ≤ maxLen) (hb : I64 b) (he : I64 e) (hf : I64 f) (hg : I64 g) (hh : I64 h) :
    keyOf Try.prog 75 (.agg #[.string a, .int .i64 b, .string c, .string d, .int .i64 e, .int .i64 f, .int .i64 g, .int .i64 h, .string i]) = some (.string (keyBytes [.string a.data.toList, .int .i64 b, .string c.data.toList, .string d.data.toList, .int .i64 e, .int .i64 f, .int .i64 g, .int .i64 h, .string i.data.toList])) := by
  have hk : Try.prog.keyType 75 = true := by kernel_rfl
  have hl := lits75 a c d i b e f g h ha hc hd hi hb he hf hg hh
  unfold keyOf
  rw [Try.underlying75, depthT]
  simp [hk, Value.formed, Try.underlying75, cells75, Value.cells, hl]
theorem key75 (k : DK) (h : OkM k) : keyOf Try.prog 75 (markK k) = some (.string (keyBytes [.string k.2.2.1.1.data.toList, .int .i64 k.2.2.1.2, .string k.2.2.2.2.2.1.data.toList, .string k.2.2.2.2.2.2.1.data.toList, .int .i64 k.2.1, .int .i64 k.2.2.2.1, .int .i64 k.2.2.2.2.1, .int .i64 k.1, .string (strOf (encF k.2.2.2.2.2.2.2)).data.toList])) := by
  have hm : ∀ s : ByteArray, s.size ≤ 1048576 → s.size ≤ maxLen := fun s hs => Nat.le_trans hs (by unfold maxLen; omega)
  exact key75v _ _ _ _ _ _ _ _ _ (hm _ h.src) (hm _ h.tb) (hm _ h.ky) h.fields h.seq h.ev h.no h.tk h.tick
def keysM : Keyz Try.prog 75 { k : DK // OkM k } where
  val := fun k => markK k.1
  ok := fun _ => True
  lit := fun k => .string (keyBytes [.string k.1.2.2.1.1.data.toList, .int .i64 k.1.2.2.1.2, .string k.1.2.2.2.2.2.1.data.toList, .string k.1.2.2.2.2.2.2.1.data.toList, .int .i64 k.1.2.1, .int .i64 k.1.2.2.2.1, .int .i64 k.1.2.2.2.2.1, .int .i64 k.1.1, .string (strOf (encF k.1.2.2.2.2.2.2.2)).data.toList])
  of := fun k _ => key75 k.1 k.2
  inj := fun x y h => Subtype.ext (markK_inj x.2 y.2 h)
  law := law75
theorem Dl.Ok.mark {w : World} {d : Dl} (h : d.Ok w) : OkM d.key :=
  ⟨h.tick, h.r.ints.2.1, h.r.src, h.r.ints.1, h.r.ints.2.2.1, h.r.ints.2.2.2, h.r.tb, h.r.ky, h.r.len, fun v hv => ⟨(h.r.val v hv).1, (h.r.val v hv).2, h.r.str v hv⟩⟩
end Go.Proofs.Ytfnpfkgmacaboaa
