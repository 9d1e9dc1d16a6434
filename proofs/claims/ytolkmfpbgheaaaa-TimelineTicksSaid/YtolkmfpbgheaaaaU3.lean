/-
  timeline.Union returns the union of a list of intervals.
-/
import Derived.Test.YtolkmfpbgheaaaaU2
namespace Go.Proofs.Ytolkmfpbgheaaaa
open Go.ChangeShapes Go.WideShapes Go.ChangeAt Go.RowKit
set_option linter.unusedVariables false
set_option linter.unusedSimpArgs false

/-- The union of a list. -/
def uni (l : List Iv) : List Iv := unionF ((valids l).mergeSort (fun x y => decide (x.1 ≤ y.1)))
theorem uni_is (l : List Iv) : IsUnion l (uni l) := by
  refine isUnion_of l _ (List.mergeSort_perm _ _).symm ?_
  have := List.pairwise_mergeSort (le := fun x y : Iv => decide (x.1 ≤ y.1)) (fun a b c h1 h2 => by simp at *; omega) (fun a b => by simp; omega) (valids l)
  exact this.imp (fun h => by simpa using h)
theorem uni_length (l : List Iv) : (uni l).length ≤ l.length := by
  refine Nat.le_trans (unionF_length _) ?_
  rw [List.length_mergeSort]
  exact List.length_filter_le _ _
theorem valids_take (l : List Iv) (k : Nat) (x : Iv) (h : l[k]? = some x) : valids (l.take (k + 1)) = valids (l.take k) ++ (if okI x.1 x.2 then [x] else []) := by
  unfold valids
  rw [List.take_add_one, h, List.filter_append]
  cases hx : okI x.1 x.2 <;> simp [List.filter, hx]

set_option maxHeartbeats 4000000 in
set_option maxRecDepth 100000 in
theorem union_any (l : List Iv) (ao : Option Addr) (cap : Nat) (hl : l.length ≤ 1099511627776) (w : World) (h : SlotsAt w ao l) :
    Calls Try.prog 17 #[.slice ao l.length cap] w (IvsAre w (uni l)) := by
  have H := Lib.hid h
  have hl2 : ∀ k, (valids (l.take k)).length ≤ k := fun k => Nat.le_trans (List.length_filter_le _ _) (by rw [List.length_take]; omega)
  have HL2 := Lib.hid hl2
  clear h hl2
  go_enter Try.func17, Try.ntmps17
  go_wp2_with fail
  go_loopw [3, 8] (fun v i wr => ∃ (k : Nat) (v0 : Value), v0 = v ∧ i = .int .i64 k ∧ k ≤ l.length ∧ Below w.heap.size w wr ∧ OwnIv wr w.heap.size v (valids (l.take k))) (fun _ i _ => l.length - (intOf i).toNat)
  case atStart => exact ⟨0, _, rfl, rfl, Nat.zero_le _, Below.refl _ _, OwnIv.nil _ _⟩
  case round =>
    obtain ⟨k, v, rfl, rfl, hk, hB, hO⟩ := hrel
    have HB := Lib.hid hB
    have HO := Lib.hid hO
    have hsz := hB.size
    by_cases hlt : k < l.length
    · obtain ⟨x, hx⟩ : ∃ x, l[k]? = some x := ⟨l[k], List.getElem?_eq_getElem hlt⟩
      obtain ⟨b, off, rfl, hrow⟩ := (H.out.kept hB).some (by omega)
      obtain ⟨c1, c2⟩ := hrow k x hx
      have HN := Lib.hid (valids_take l k x hx)
      have HK2 : Hid ((valids (l.take k)).length < 4398046511104) := by show _ < _; have := HL2.out k; omega
      obtain ⟨x1, x2⟩ := x
      generalize valids (l.take k) = r at *
      clear hx hrow hB hO
      go_wp2_with fail
      refine (check_any x1 x2 _).mono ?_
      rintro e X ⟨rfl, hb⟩
      have HT : Hid (Two X wr.heap.size (.int .i64 x1) (.int .i64 x2)) := (Two.new _ _ _).kept hb
      have HBX : Hid (Below w.heap.size w X) := HB.out.trans (((below_here _).trans (hb.mono (by simp))).mono hsz)
      have HOX : Hid (OwnIv X w.heap.size v r) := (HO.out.kept (below_here _)).kept hb
      have HXS : Hid (w.heap.size ≤ X.heap.size) := HBX.out.size
      obtain ⟨t0, t1, -, -⟩ := HT.out.all
      clear hb
      generalize wr.heap.size = bx at *
      cases hok : okI x1 x2
      · have HN2 : Hid (valids (l.take (k + 1)) = r) := by show _ = _; rw [HN.out]; simp [hok]
        clear hok
        simp only [Bool.false_eq_true, if_false]
        go_wp2_with fail
        go_roundw
        case rel => exact ⟨k + 1, _, rfl, by go_num, by omega, HBX.out, by rw [HN2.out]; exact HOX.out⟩
        case measure => simp [intOf]; omega
      · have HN2 : Hid (valids (l.take (k + 1)) = r ++ [(x1, x2)]) := by show _ = _; rw [HN.out]; simp [hok]
        clear hok
        simp only [if_true]
        go_wp2_with (at_builtin; refine wpList_app rfl (.tmp 15) (.tmp 17) rfl rfl rfl HOX.out HXS.out HK2.out ?_; intro v' w1 ho hb; have HO1 := Lib.hid ho; have HB1 := Lib.hid hb; clear ho hb)
        go_roundw
        case rel => exact ⟨k + 1, _, rfl, by go_num, by omega, HBX.out.trans HB1.out, by rw [HN2.out]; exact HO1.out⟩
        case measure => simp [intOf]; omega
    · have hk2 : k = l.length := by omega
      subst hk2
      rw [List.take_length] at *
      have hvl := HL2.out l.length
      rw [List.take_length] at hvl
      obtain ⟨a1, cc, rfl, hcc⟩ := own_slice hO
      have HS := Lib.hid (sort_own (valids l) (valids_ok l) (by omega) w.heap.size a1 cc wr hsz hO)
      generalize hr : valids l = r at *
      have HR := Lib.hid hr
      have HRL := Lib.hid hvl
      clear hr hO hB hvl HO
      go_wp2_with fail
      refine HS.out.mono ?_
      rintro e w1 ⟨rfl, p, hp, hsp, hs1, hb1⟩
      have hpl := hp.length_eq
      have hokp : AllOk p := fun z hz => valids_ok l z (by rw [HR.out]; exact hp.mem_iff.2 hz)
      have HF := Lib.hid (fold_any p a1 cc hokp hsp (by have := HRL.out; omega) w1 hs1)
      have HB1 := Lib.hid (HB.out.trans hb1)
      have HU : Hid (unionF p = uni l) := isUnion_unique (isUnion_of l p (by rw [HR.out]; exact hp) hsp) (uni_is l)
      rw [hpl]
      clear hp hsp hs1 hb1 hpl hokp HR
      go_wp2_with fail
      refine HF.out.mono ?_
      rintro e w2 ⟨v, rfl, ho, hb⟩
      have HB2 := Lib.hid (HB1.out.trans (hb.mono HB1.out.size))
      rw [HU.out] at ho
      have HS2 := Lib.hid ho.slots
      clear ho hb
      go_wp2_with fail
      go_ret
      obtain ⟨ao', c', rfl, hs, hlc⟩ := HS2.out
      exact ⟨ao', c', rfl, hs, hlc, HB2.out⟩
end Go.Proofs.Ytolkmfpbgheaaaa
