/-
  asofref15.InIDs, asofref20.Purge.
-/
import Derived.Test.YtfnpfkgmacaboaaLA
import Derived.Laws.StructEq
import Derived.Shelf.SlicesE.Kit
namespace Go.Proofs.Ytfnpfkgmacaboaa
open Go.ChangeShapes Go.WideShapes Go.ChangeAt Go.RowKit
set_option linter.unusedVariables false
set_option linter.unusedSimpArgs false

/-- An identifier. -/
abbrev FID := ByteArray × Int
def fidC (x : FID) : List Value := [.string x.1, .int .i64 x.2]
abbrev fidV (x : FID) : Value := .agg #[.string x.1, .int .i64 x.2]
theorem fid_cell {w : World} {b off : Nat} {l : List FID} (h : Lies fidC 2 w b off l) {i : Nat} {v : FID} (hv : l[i]? = some v) :
    w.cell? ⟨b, off + i * 2, none⟩ = some (.string v.1) ∧ w.cell? ⟨b, off + i * 2 + 1, none⟩ = some (.int .i64 v.2) := ⟨h i v hv 0 _ rfl, h i v hv 1 _ rfl⟩
theorem guard36 (op : BinOp) (a b : Operand) (x y : FID) (w : World) : (eqGuard op 36 a b (fidV x) (fidV y)).run Try.prog w = .ok () w := run_eqGuard_agg w op 36 a b _ _ (by kernel_rfl)
/-- Are identifiers equal? -/
def eqF (x y : FID) : Bool := x.1.toList == y.1.toList && x.2 == y.2
theorem eqF_iff {x y : FID} : eqF x y = true ↔ x = y := by
  unfold eqF
  rw [Bool.and_eq_true, beq_iff_eq, beq_iff_eq, Prod.ext_iff]
  exact ⟨fun h => ⟨bytes_inj h.1, h.2⟩, fun h => ⟨by rw [h.1], h.2⟩⟩
theorem eql36 (x y : FID) (w : World) : (binOp .eql 36 (fidV x) (fidV y)).run Try.prog w = .ok (.bool (eqF x y)) w := by
  have u3 := Try.underlying3
  have u9 := Try.underlying9
  have a3 := Try.isAgg3
  have z3 := Try.sizeOf3
  have a9 := Try.isAgg9
  have z9 := Try.sizeOf9
  have hS : Try.prog.underlying 36 = some (.struct (Try.prog.fieldsOf 36)) := by kernel_rfl
  have hp : Try.prog.stoodInHeld 36 = false := by kernel_rfl
  rw [run_eql_struct, show (10000 : Nat) = 9999 + 1 from rfl, run_equalIn_agg w 9999 36 _ _ hS hp]
  simp only [Program.fieldsOf, Try.underlying36]
  go_simp
  unfold eqF
  by_cases h1 : x.1.toList = y.1.toList <;> by_cases h2 : x.2 = y.2 <;> simp [h1, h2]
/-- Is an identifier an element of a list? -/
def memF (l : List FID) (x : FID) : Bool := l.any (fun y => eqF y x)
theorem memF_iff {l : List FID} {x : FID} : memF l x = true ↔ x ∈ l := by
  unfold memF
  rw [List.any_eq_true]
  exact ⟨fun ⟨y, h1, h2⟩ => eqF_iff.1 h2 ▸ h1, fun h => ⟨x, h, eqF_iff.2 rfl⟩⟩
set_option maxHeartbeats 2000000 in
set_option maxRecDepth 100000 in
theorem inids_any (l : List FID) (ao : Option Addr) (cap : Nat) (hl : l.length ≤ 4611686018427387904) (x : FID) (w : World) (h : LiesAt fidC 2 w ao l) :
    Calls Try.prog 37 #[.slice ao l.length cap, fidV x] w fun e w' => e = .returned (.bool (memF l x)) ∧ Below w.heap.size w w' := by
  have H := Lib.hid h
  clear h
  go_enter Try.func37, Try.ntmps37
  go_wp2_with fail
  refine wp_gen (fun W hW => ?_)
  have HW : Hid (Below w.heap.size w W) := by rw [hW]; exact below_here _
  have HT : Hid (Box W w.heap.size #[.string x.1, .int .i64 x.2] 36) := by rw [hW]; exact Box.new _ _ _
  clear hW
  go_loopw [5] (fun v wr => ∃ i : Nat, i ≤ l.length ∧ v = .int .i64 i ∧ Hid (memF (l.take i) x = false) ∧ Below W.heap.size W wr) (fun v _ => l.length - (intOf v).toNat)
  case atStart => exact ⟨0, by omega, rfl, Lib.hid rfl, Below.refl _ _⟩
  case round =>
    obtain ⟨i, hi, rfl, HN, hB⟩ := hrel
    have HB := Lib.hid hB
    clear hB
    by_cases hlt : i < l.length
    · obtain ⟨y, hy⟩ : ∃ y, l[i]? = some y := ⟨l[i], List.getElem?_eq_getElem hlt⟩
      obtain ⟨b, off, rfl, hrow⟩ := ((H.out.kept HW.out).kept HB.out).some (by omega)
      obtain ⟨c0, c1⟩ := fid_cell hrow hy
      have t0 := (HT.out.kept HB.out).cell 0 _ rfl
      have t1 := (HT.out.kept HB.out).cell 1 _ rfl
      have HY := Lib.hid hy
      clear hrow hy
      have ws1 : IntKind.i64.wrap (i : Int) = (i : Int) := IntWalk.i64_in _ (by omega)
      have hg := fun w => guard36 .eql (.tmp 15) (.tmp 16) y x w
      have he := fun w => eql36 y x w
      cases hyx : eqF y x
      · rw [hyx] at he
        have HR : Hid (memF (l.take (i + 1)) x = false) := by show _ = _; rw [take_snoc HY.out]; unfold memF; rw [List.any_append]; have := HN.out; unfold memF at this; rw [this]; simp [hyx]
        clear hyx
        go_wp2_with fail
        go_quiet (fail)
        go_wp2_with fail
        go_roundw
        case rel => exact ⟨i + 1, by omega, by go_num, HR, below_drewN HB.out _⟩
        case measure => simp [intOf]; omega
      · rw [hyx] at he
        have HR : Hid (memF l x = true) := memF_iff.2 (eqF_iff.1 hyx ▸ List.mem_of_getElem? HY.out)
        clear hyx
        go_wp2_with fail
        go_quiet (fail)
        go_wp2_with fail
        go_ret
        exact ⟨by rw [HR.out]; rfl, HW.out.trans (below_drewN (HB.out.mono HW.out.size) _)⟩
    · obtain rfl : i = l.length := by omega
      have HR : Hid (memF l x = false) := by have := HN.out; rwa [List.take_length] at this
      go_wp2_with fail
      go_ret
      exact ⟨by rw [HR.out]; rfl, HW.out.trans (HB.out.mono HW.out.size)⟩
/-- The differences whose rows' bases are not in a list. -/
def purgeD (l : List Dl) (ids : List FID) : List Dl := l.filter (fun d => !memF ids (d.r.src, d.r.seq))
theorem purgeD_snoc (l : List Dl) (ids : List FID) (x : Dl) : purgeD (l ++ [x]) ids = purgeD l ids ++ (if memF ids (x.r.src, x.r.seq) then [] else [x]) := by
  unfold purgeD
  rw [List.filter_append]
  cases h : memF ids (x.r.src, x.r.seq) <;> simp [h]
set_option maxHeartbeats 2000000 in
set_option maxRecDepth 100000 in
theorem rpurge_any (l : List Dl) (ao : Option Addr) (cap : Nat) (hl : l.length ≤ 100000000) (ids : List FID) (a2 : Option Addr) (c2 : Nat) (hids : ids.length ≤ 4611686018427387904) (w : World) (h : DlsAt w ao l) (h2 : LiesAt fidC 2 w a2 ids) :
    Calls Try.prog 18 #[.slice ao l.length cap, .slice a2 ids.length c2] w fun e w' => ∃ v, e = .returned v ∧ OwnD w' w.heap.size v (purgeD l ids) ∧ Below w.heap.size w w' := by
  have H := Lib.hid h
  have H2 := Lib.hid h2
  have HI := Lib.hid (fun x w' (hb : Below w.heap.size w w') => inids_any ids a2 c2 hids x w' (h2.kept hb))
  clear h h2
  generalize ids.length = nids at *
  clear hids
  go_enter Try.func18, Try.ntmps18
  go_wp2_with fail
  go_loopw [5, 6] (fun v j wr => ∃ (i : Nat) (v0 : Value), v0 = v ∧ i ≤ l.length ∧ j = .int .i64 i ∧ Hid (Own Dl.cells 10 41 wr w.heap.size v (purgeD (l.take i) ids) ∧ (purgeD (l.take i) ids).length ≤ i) ∧ Below w.heap.size w wr) (fun _ j _ => l.length - (intOf j).toNat)
  case atStart => exact ⟨0, _, rfl, by omega, rfl, ⟨Own.nil _ _, Nat.le_refl _⟩, Below.refl _ _⟩
  case round =>
    obtain ⟨i, v0, rfl, hi, rfl, HR, hB⟩ := hrel
    have HB := Lib.hid hB
    clear hB
    by_cases hlt : i < l.length
    · obtain ⟨x, hx⟩ : ∃ x, l[i]? = some x := ⟨l[i], List.getElem?_eq_getElem hlt⟩
      obtain ⟨b, off, rfl, hrow⟩ := (H.out.1.kept HB.out).some (by omega)
      obtain ⟨c0, c1, c2', c3, c4, c5, c6, c7, c8, c9⟩ := Dl.cell hrow hx
      have HX := Lib.hid hx
      have HF : Hid (purgeD (l.take (i + 1)) ids = purgeD (l.take i) ids ++ (if memF ids (x.r.src, x.r.seq) then [] else [x])) := by show _ = _; rw [take_snoc HX.out, purgeD_snoc]
      have HO : Hid (Own Dl.cells 10 41 wr w.heap.size v0 (purgeD (l.take i) ids)) := HR.out.1
      have HLn : Hid ((purgeD (l.take i) ids).length ≤ i) := HR.out.2
      have HC := Lib.hid (HI.out (x.r.src, x.r.seq) wr HB.out)
      clear hrow hx HR
      generalize purgeD (l.take i) ids = r at *
      have HRow : Hid (∀ w', Below wr.heap.size wr w' → w'.cell? ⟨b, off + i * 10, none⟩ = some (.string x.r.src) ∧ w'.cell? ⟨b, off + i * 10 + 1, none⟩ = some (.int .i64 x.r.seq) ∧ w'.cell? ⟨b, off + i * 10 + 2, none⟩ = some (.string x.r.tb) ∧ w'.cell? ⟨b, off + i * 10 + 3, none⟩ = some (.string x.r.ky) ∧
          w'.cell? ⟨b, off + i * 10 + 4, none⟩ = some (.int .i64 x.r.ev) ∧ w'.cell? ⟨b, off + i * 10 + 5, none⟩ = some (.slice x.r.fa x.r.vs.length x.r.fc) ∧ w'.cell? ⟨b, off + i * 10 + 6, none⟩ = some (.int .i64 x.r.no) ∧ w'.cell? ⟨b, off + i * 10 + 7, none⟩ = some (.int .i64 x.r.tk) ∧
          w'.cell? ⟨b, off + i * 10 + 8, none⟩ = some (.int .i64 x.tick) ∧ w'.cell? ⟨b, off + i * 10 + 9, none⟩ = some (.int .i64 x.n)) :=
        fun w' hb => ⟨cell_kept c0 hb, cell_kept c1 hb, cell_kept c2' hb, cell_kept c3 hb, cell_kept c4 hb, cell_kept c5 hb, cell_kept c6 hb, cell_kept c7 hb, cell_kept c8 hb, cell_kept c9 hb⟩
      clear c2' c3 c4 c5 c6 c7 c8 c9
      cases hm : memF ids (x.r.src, x.r.seq)
      · rw [hm] at HF HC
        go_wp2_with (first
          | (go_at_call 37; (with_reducible refine HC.out.mono ?_); rintro e w1 ⟨rfl, hb⟩; have HB1 := Lib.hid hb; obtain ⟨d0, d1, d2, d3, d4, d5, d6, d7, d8, d9⟩ := HRow.out w1 hb; have HX6 : Hid (Below w.heap.size w (w1.alloc (.cells (Dl.cells x).toArray 41))) := (have hz := keepB (Nat.le_refl _) HB.out hb; hz.alloc hz.size _); have HO6 : Hid (Own Dl.cells 10 41 (w1.alloc (.cells (Dl.cells x).toArray 41)) w.heap.size v0 r) := (HO.out.kept hb).kept (below_here _); have HS6 : Hid (LiesAt Dl.cells 10 (w1.alloc (.cells (Dl.cells x).toArray 41)) (some ⟨w1.heap.size, 0, none⟩) [x]) := lies_one _ _ encD; have HLa : Hid (r.length + [x].length ≤ 1000000000) := (by show _ ≤ _; have := HLn.out; simp; omega); clear hb)
          | (at_builtin; refine wpList_app elD encD rfl (.tmp 22) (.tmp 27) rfl rfl rfl HO6.out HS6.out rfl (fun e => by cases e) HX6.out.size HLa.out ?_; intro v5 w5 ho hb; have HO5 := Lib.hid ho; have HX5 := Lib.hid (HX6.out.trans hb); clear ho hb))
        go_roundw
        case rel => exact ⟨i + 1, _, rfl, by omega, by go_num, by rw [HF.out]; exact ⟨HO5.out, by have := HLn.out; simp; omega⟩, HX5.out⟩
        case measure => simp [intOf]; omega
      · rw [hm] at HF HC
        go_wp2_with (go_at_call 37; (with_reducible refine HC.out.mono ?_); rintro e w1 ⟨rfl, hb⟩; have HB1 := Lib.hid hb; clear hb)
        go_roundw
        case rel => exact ⟨i + 1, _, rfl, by omega, by go_num, by rw [HF.out]; exact ⟨by simpa using HO.out.kept HB1.out, by have := HLn.out; simp; omega⟩, keepB (Nat.le_refl _) HB.out HB1.out⟩
        case measure => simp [intOf]; omega
    · obtain rfl : i = l.length := by omega
      go_wp2_with fail
      go_ret
      exact ⟨_, rfl, ⟨by have := HR.out.1; rwa [List.take_length] at this, fun d hd => (H.out.2 d (List.mem_filter.1 hd).1).kept HB.out⟩, HB.out⟩
end Go.Proofs.Ytfnpfkgmacaboaa
