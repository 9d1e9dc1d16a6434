/-
  Bytes of the call's own beside two other blocks of its own; the encoding of fields in plain words.
-/
import Derived.Test.YtfnpfkgmacaboaaLF
import Derived.Lib.AppendStr
import Derived.Laws.BytesString
namespace Go.Proofs.Ytfnpfkgmacaboaa
open Go.ChangeShapes Go.WideShapes Go.ChangeAt Go.RowKit
set_option linter.unusedVariables false
set_option linter.unusedSimpArgs false

def u8I (n : Int) : List Value := [.int .u8 n]
theorem encU : Enc u8I 1 := ⟨fun _ => rfl, fun x v hv => by simp [u8I] at hv; subst hv; rfl⟩
theorem elU : El Try.prog 5 96 1 1 := ⟨Try.underlying96, by kernel_rfl, by decide, by decide⟩
theorem encs_u8 (l : List Int) : encs u8I l = l.map (Value.int .u8) := by
  induction l with
  | nil => rfl
  | cons x l ih => simp only [encs, List.flatMap_cons, List.map_cons] at *; rw [ih]; rfl
/-- Bytes of the call's own, which lie in neither of two other blocks. -/
structure Bag (W wr : World) (v : Value) (ns : List Int) (g1 g2 : Nat) : Prop where
  own : Own u8I 1 5 wr W.heap.size v ns
  below : Below W.heap.size W wr
  far1 : v.ownBlock ≠ some g1
  far2 : v.ownBlock ≠ some g2
theorem Box.grow {w w' : World} {g : Nat} {cs : Array Value} {t : TypeId} {row : Option Nat} (h : Box w g cs t) (hg : w.grownBy w' row) (hne : row ≠ some g) : Box w' g cs t := (hg.block g h.lt (fun e => hne e.symm)).trans h
theorem wpList_byte {W wr : World} {v : Value} {ns : List Int} {g1 g2 : Nat} {c1 c2 : Array Value} {t1 t2 : TypeId} {x : Int} {ops : Array Oper} {rest : List Oper} {o : Oper} {a : Act} {Q : Exit → Act → World → Prop}
    (hb : Bag W wr v ns g1 g2) (h1 : Box wr g1 c1 t1) (h2 : Box wr g2 c2 t2) (hgd : o.guard = none) (s y : Operand)
    (ho : o.op = .call { callee := .builtin .append, args := #[s, y], argTypes := #[96, 96] }) (hs : a.eval s = v) (hx : a.eval y = .slice (some ⟨wr.heap.size, 0, none⟩) 1 1) (hl : ns.length ≤ 2000000000000)
    (h : ∀ v' w1, Bag W w1 v' (ns ++ [x]) g1 g2 → Box w1 g1 c1 t1 → Box w1 g2 c2 t2 → wpList Try.prog ops Q rest (a.put o.dst v') w1) :
    wpList Try.prog ops Q (o :: rest) a (wr.alloc (.cells #[.int .u8 x] 5)) := by
  obtain ⟨i, z, hi, hz0, hz1, hz2, hz3⟩ := elU.parts
  have hB := hb.below.size
  have hown := hb.own.kept (below_here (w := wr) (.cells #[.int .u8 x] 5))
  refine wpList_append_own_at (w := wr.alloc (.cells #[.int .u8 x] 5)) hgd s y 96 ho W.heap.size 5 i z 1 1 elU.und hi hz0 hz1 hz2 hz3 (by decide) v _ _ hs hown ⟨wr.heap.size, 0, none⟩ 1 1 [.int .u8 x] hx rfl (cell_one_new _ _ _) (by simp [Value.oneCell']) (by unfold maxLen; omega) (by omega) (by simp; omega) ?_
  intro v' w1 hO hgr _ hloc
  have hk1 := h1.lt
  have hk2 := h2.lt
  refine h v' w1 ⟨?_, ?_, ?_, ?_⟩ ((h1.kept (below_here _)).grow hgr hb.far1) ((h2.kept (below_here _)).grow hgr hb.far2)
  · unfold Own
    rw [encs_append, List.length_append]; exact hO
  · exact (hb.below.alloc hB _).grown hgr (by simp; omega) (fun g hg => (hb.own.lt g hg).1)
  · rcases hloc with e | e
    · rw [e]; exact hb.far1
    · rw [e]; simp; omega
  · rcases hloc with e | e
    · rw [e]; exact hb.far2
    · rw [e]; simp; omega
/-- A string's bytes are appended. -/
theorem wpList_text {B : Nat} {w : World} {v : Value} {ns : List Int} {ops : Array Oper} {rest : List Oper} {o : Oper} {a : Act} {Q : Exit → Act → World → Prop}
    (hO : Own u8I 1 5 w B v ns) (hB : B ≤ w.heap.size) (hgd : o.guard = none) (s y : Operand)
    (ho : o.op = .call { callee := .builtin .append, args := #[s, y], argTypes := #[96, 9] }) (hs : a.eval s = v) (S : ByteArray) (hx : a.eval y = .string S) (hl : ns.length ≤ 2000000000000) (hS : S.size ≤ 2000000000000)
    (h : ∀ v' w1, Own u8I 1 5 w1 B v' (ns ++ S.data.toList.map (fun b => (b.toNat : Int))) → Below B w w1 → wpList Try.prog ops Q rest (a.put o.dst v') w1) :
    wpList Try.prog ops Q (o :: rest) a w := by
  have hi : ∃ i, Try.prog.info? 5 = some i ∧ i.zero = some (.int .u8 0) ∧ i.size = 1 ∧ i.bytes = 1 := by
    have e : (Try.prog.info? 5).map (fun i => (i.zero, i.size, i.bytes)) = some (some (.int .u8 0), 1, 1) := by kernel_rfl
    cases hq : Try.prog.info? 5 with
    | none => rw [hq] at e; cases e
    | some i =>
      rw [hq] at e
      simp only [Option.map_some, Option.some.injEq, Prod.mk.injEq] at e
      exact ⟨i, rfl, e.1, e.2.1, e.2.2⟩
  obtain ⟨i, hi, hz, h1, h2⟩ := hi
  refine Lib.wpList_append_own_string (w := w) hgd s y 96 9 ho B 5 i Try.underlying96 Try.underlying9 hi hz h1 h2 v _ _ hs hO S hx (by unfold maxLen; omega) (by omega) hB ?_
  intro v' w1 hO2 hgr _
  refine h v' w1 ?_ ((Below.refl _ _).grown hgr hB (fun g hg => (hO.lt g hg).1))
  unfold Own
  rw [encs_append, List.length_append, List.length_map, encs_u8 (S.data.toList.map _), List.map_map]
  exact hO2
/-- string(b). -/
def strOf (ns : List Int) : ByteArray := ns.foldl (fun r n => r.push (UInt8.ofNat n.toNat)) ByteArray.empty
theorem run_strOf {w : World} {B : Nat} {v : Value} {ns : List Int} (h : Own u8I 1 5 w B v ns) : (convert 96 9 v).run Try.prog w = .ok (.string (strOf ns)) w := by
  obtain ⟨ao, c, rfl, h1, h2, h3⟩ := h.lies encU
  rw [run_convert_bytes_string w 96 9 5 ao _ c Try.underlying96 Try.underlying5 Try.underlying9]
  cases ao with
  | none =>
    have hn : ns = [] := by
      rcases h3 with h | ⟨_, _, h, _⟩
      · exact h
      · cases h
    subst hn
    rfl
  | some a =>
    refine run_bytesToString w a _ c ns ?_
    rcases h3 with rfl | ⟨b, off, he, hr⟩
    · exact run_loadCells_list (P := Try.prog) w a [] (by simp)
    · injection he with he
      subst he
      have := run_loadCells_list (P := Try.prog) w ⟨b, off, none⟩ (ns.map (Value.int .u8)) (fun j u hj => by rw [addr_add]; exact hr.cells encU.len (by decide) j u (by rw [encs_u8]; exact hj))
      simpa using this

/-! ### The encoding -/
/-- A byte of an int. -/
def byteI (n : Int) (i : Nat) : Int := n / 2 ^ (8 * i) % 256
def B8 (n : Int) : List Int := (List.range 8).map (byteI n)
def encV (v : Val) : List Int := B8 v.1 ++ B8 v.2.1 ++ B8 (v.2.2.size : Int) ++ v.2.2.data.toList.map (fun b => (b.toNat : Int))
def encF (vs : List Val) : List Int := vs.flatMap encV
theorem B8_length (n : Int) : (B8 n).length = 8 := by simp [B8]
theorem encV_length (v : Val) : (encV v).length = 24 + v.2.2.size := by simp [encV, B8_length]; omega
theorem encF_snoc {vs : List Val} {i : Nat} {v : Val} (h : vs[i]? = some v) : encF (vs.take (i + 1)) = encF (vs.take i) ++ encV v := by
  rw [take_snoc h]; simp [encF]
theorem encF_length : ∀ (vs : List Val), (∀ v ∈ vs, v.2.2.size ≤ 1048576) → (encF vs).length ≤ vs.length * 1048600
  | [], _ => by simp [encF]
  | v :: vs, h => by
    have e : encF (v :: vs) = encV v ++ encF vs := by simp [encF]
    have h1 := h v (by simp)
    have h2 := encF_length vs (fun u hu => h u (by simp [hu]))
    rw [e, List.length_append, encV_length, List.length_cons, Nat.succ_mul]
    omega
theorem B8_inj {m n : Int} (hm : I64 m) (hn : I64 n) (h : B8 m = B8 n) : m = n := by
  have hb : ∀ i, i < 8 → byteI m i = byteI n i := fun i hi => by
    have := congrArg (fun l : List Int => l[i]?) h
    simpa [B8, hi] using this
  have h0 := hb 0 (by omega); have h1 := hb 1 (by omega); have h2 := hb 2 (by omega); have h3 := hb 3 (by omega)
  have h4 := hb 4 (by omega); have h5 := hb 5 (by omega); have h6 := hb 6 (by omega); have h7 := hb 7 (by omega)
  unfold byteI at *
  obtain ⟨a1, a2⟩ := hm
  obtain ⟨b1, b2⟩ := hn
  simp only [show (2 : Int) ^ (8 * 0) = 1 from rfl, show (2 : Int) ^ (8 * 1) = 256 from rfl, show (2 : Int) ^ (8 * 2) = 65536 from rfl, show (2 : Int) ^ (8 * 3) = 16777216 from rfl, show (2 : Int) ^ (8 * 4) = 4294967296 from rfl, show (2 : Int) ^ (8 * 5) = 1099511627776 from rfl, show (2 : Int) ^ (8 * 6) = 281474976710656 from rfl, show (2 : Int) ^ (8 * 7) = 72057594037927936 from rfl] at *
  clear h hb
  omega
theorem encF_inj : ∀ (vs us : List Val), (∀ v ∈ vs, I64 v.1 ∧ I64 v.2.1 ∧ v.2.2.size ≤ 1048576) → (∀ v ∈ us, I64 v.1 ∧ I64 v.2.1 ∧ v.2.2.size ≤ 1048576) → encF vs = encF us → vs = us
  | [], [], _, _, _ => rfl
  | [], u :: us, _, _, h => by
    have := congrArg List.length h
    simp [encF, encV_length] at this
    omega
  | v :: vs, [], _, _, h => by
    have := congrArg List.length h
    simp [encF, encV_length] at this
  | v :: vs, u :: us, h1, h2, h => by
    obtain ⟨p1, p2, p3⟩ := h1 v (by simp)
    obtain ⟨q1, q2, q3⟩ := h2 u (by simp)
    have e1 : encF (v :: vs) = B8 v.1 ++ (B8 v.2.1 ++ (B8 (v.2.2.size : Int) ++ (v.2.2.data.toList.map (fun b => (b.toNat : Int)) ++ encF vs))) := by simp [encF, encV]
    have e2 : encF (u :: us) = B8 u.1 ++ (B8 u.2.1 ++ (B8 (u.2.2.size : Int) ++ (u.2.2.data.toList.map (fun b => (b.toNat : Int)) ++ encF us))) := by simp [encF, encV]
    rw [e1, e2] at h
    obtain ⟨k1, h⟩ := List.append_inj h (by rw [B8_length, B8_length])
    obtain ⟨k2, h⟩ := List.append_inj h (by rw [B8_length, B8_length])
    obtain ⟨k3, h⟩ := List.append_inj h (by rw [B8_length, B8_length])
    have c1 := B8_inj p1 q1 k1
    have c2 := B8_inj p2 q2 k2
    have c3 := B8_inj (m := v.2.2.size) (n := u.2.2.size) ⟨by omega, by omega⟩ ⟨by omega, by omega⟩ k3
    obtain ⟨k4, h⟩ := List.append_inj h (by simp; exact_mod_cast c3)
    have c4 : v.2.2 = u.2.2 := by
      have : v.2.2.data.toList = u.2.2.data.toList := by
        exact (List.map_inj_right (f := fun b : UInt8 => (b.toNat : Int)) (fun a b hab => UInt8.toNat_inj.1 (by exact_mod_cast hab))).1 k4
      exact bytes_inj (by rw [ByteArray.toList_eq, ByteArray.toList_eq]; exact this)
    have := encF_inj vs us (fun x hx => h1 x (by simp [hx])) (fun x hx => h2 x (by simp [hx])) h
    rw [this, show v = u from Prod.ext c1 (Prod.ext c2 c4)]
end Go.Proofs.Ytfnpfkgmacaboaa
