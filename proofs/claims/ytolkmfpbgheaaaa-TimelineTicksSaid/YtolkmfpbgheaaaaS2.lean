/-
  The function that timeline.sessions hands back gives the sessions, one after another.
-/
import Derived.Test.YtolkmfpbgheaaaaS1
import Derived.Shelf.Abstract
import Derived.Shelf.RegionOpen
import Derived.OwnWalkIn
import Derived.TacticsInMore
import Derived.LoopNIn
import Derived.LoopIn
import Derived.Sort.QuietIn
import Derived.Sort.CutIn
import Derived.Stop.RegionWithIn
namespace Go.Proofs.Ytolkmfpbgheaaaa
open Go.ChangeShapes Go.WideShapes Go.ChangeAt Go.RowKit
set_option linter.unusedVariables false
set_option linter.unusedSimpArgs false

attribute [local go_sem] Oper.semAt_some

/-- Ints as they lie from a place on. -/
def IntsAt (w : World) (b o : Nat) (s : List Int) : Prop := ∀ i x, s[i]? = some x → w.cell? ⟨b, o + i, none⟩ = some (.int .i64 x)
theorem IntsAt.same {w w' : World} {b o : Nat} {s : List Int} (h : IntsAt w b o s) (hb : w'.heap[b]? = w.heap[b]?) : IntsAt w' b o s := fun i x hx => by
  rw [World.cell?_of_block (w := w) (w' := w') (a := ⟨b, o + i, none⟩) hb]; exact h i x hx
theorem IntsAt.drop {w : World} {b o : Nat} {s : List Int} (h : IntsAt w b o s) (n : Nat) : IntsAt w b (o + n) (s.drop n) := fun i x hx => by
  rw [List.getElem?_drop] at hx
  have := h _ x hx
  rwa [show o + n + i = o + (n + i) by omega]
theorem size3 : (Try.prog.info? 3).map (·.size) = some 1 := by kernel_rfl
def AllTick (s : List Int) : Prop := ∀ x, x ∈ s → 0 ≤ x ∧ x ≤ 1099511627776
/-- How many ticks are left. -/
def leftAt (bl : Nat) (w : World) : Nat := match w.cell? ⟨bl, 0, none⟩ with
  | some (.slice _ n _) => n
  | _ => 0
theorem leftAt_eq {bl : Nat} {w : World} {A : Option Addr} {n c : Nat} (h : w.cell? ⟨bl, 0, none⟩ = some (.slice A n c)) : leftAt bl w = n := by unfold leftAt; rw [h]
/-- The state of the function: its two captured cells, and what is left of the list. -/
structure SesSt (g : Int) (bl bg b : Nat) (w : World) (rest : List Int) : Prop where
  st : ∃ A c, Boxed w bl 40 (.slice A rest.length c) ∧ rest.length ≤ c ∧ (0 < rest.length → ∃ o, A = some ⟨b, o, none⟩ ∧ IntsAt w b o rest)
  gap : Boxed w bg 3 (.int .i64 g)
theorem SesSt.same {g : Int} {bl bg b : Nat} {w w' : World} {rest : List Int} (h : SesSt g bl bg b w rest) (hK : ∀ k, (k = bl ∨ k = bg ∨ k = b) → w'.heap[k]? = w.heap[k]?) : SesSt g bl bg b w' rest := by
  obtain ⟨⟨A, c, h1, h2, h3⟩, h4⟩ := h
  refine ⟨⟨A, c, (hK bl (Or.inl rfl)).trans h1, h2, fun hl => ?_⟩, (hK bg (Or.inr (Or.inl rfl))).trans h4⟩
  obtain ⟨o, e, hi⟩ := h3 hl
  exact ⟨o, e, hi.same (hK b (Or.inr (Or.inr rfl)))⟩
theorem grownBy_drewN (w : World) (n : Nat) (r : Option Nat) : w.grownBy (w.drewN n) r := ⟨rfl, rfl, rfl, Nat.le_refl _, fun _ _ _ => rfl⟩

set_option maxRecDepth 100000 in
set_option maxHeartbeats 4000000 in
theorem ses_yields (n : Nat) (hn : 1 ≤ n) (g : Int) (hg0 : 1 ≤ g) (hg1 : g ≤ 1099511627776) (bl bg b : Nat) (hne1 : bl ≠ bg) (hne2 : bl ≠ b) (s : List Int) (hs : AllTick s) (hlen : s.length ≤ 1099511627776) (w : World) (hst : SesSt g bl bg b w s) :
    Yields n Try.prog 45 #[.pointer (some ⟨bl, 0, none⟩), .pointer (some ⟨bg, 0, none⟩)] (fun x : Iv => #[iv x.1 x.2]) (fun k => k = bl ∨ k = bg ∨ k = b) bl (sess g s) w := by
  intro l J W hW hJ hY h0
  have HST := Lib.hid (hst.same hW)
  have HS := Lib.hid hs
  have HJ := Lib.hid hJ
  have HY := Lib.hid hY
  clear hst hs hW hJ hY
  refine callsIn_of_wp Try.func45 rfl trivial ?_ rfl
  simp only [Try.ntmps45, List.size_toArray, List.length_cons, List.length_nil, Nat.reduceAdd, Nat.reduceSub, Array.replicate_succ, Array.replicate_zero, List.push_toArray, List.append_toArray, List.nil_append, List.cons_append]
  gi_wp2
  gi_loopw [4] (fun _ wr => ∃ (pre : List Iv) (rest : List Int), Hid (sess g s = pre ++ sess g rest) ∧ Hid (SesSt g bl bg b wr rest) ∧ Hid (AllTick rest) ∧ rest.length ≤ 1099511627776 ∧ Hid (J pre wr)) (fun _ wr => leftAt bl wr)
  case atStart => exact ⟨[], s, Lib.hid rfl, HST, HS, hlen, Lib.hid h0⟩
  case round =>
    obtain ⟨pre, rest, HP, HT, HA, hrl, HJr⟩ := hrel
    obtain ⟨A, c, hbx, hcc, hadr⟩ := HT.out.st
    have hgx := HT.out.gap
    have HBX := Lib.hid hbx
    have HGX := Lib.hid hgx
    have c0 := hbx.cell
    have g0 := hgx.cell
    have HADR := Lib.hid hadr
    have HCC := Lib.hid hcc
    clear hbx hgx hadr hcc
    by_cases hl0 : rest.length = 0
    · obtain rfl : rest = [] := List.eq_nil_of_length_eq_zero hl0
      gi_wp2
      go_end0
      exact ⟨⟨_, rfl⟩, by have := HJr.out; rw [HP.out]; simpa [sess] using this⟩
    · obtain ⟨o, rfl, hi⟩ := HADR.out (by omega)
      have HI := Lib.hid hi
      obtain ⟨a, ha⟩ : ∃ a, rest[0]? = some a := ⟨rest[0]'(by omega), List.getElem?_eq_getElem (by omega)⟩
      have HA0 := Lib.hid ha
      have hpos : 0 < rest.length := by omega
      clear hi hl0 ha
      gi_wp2
      obtain ⟨wo, rfl⟩ : ∃ wo : World, wo = wr := ⟨_, rfl⟩
      gi_loopw [4] (fun v wr => ∃ (m q : Nat), v = .int .i64 ((m : Int) + 1) ∧ m + 1 ≤ rest.length ∧ Hid (Chain g rest (m + 1)) ∧ wr = wo.drewN q) (fun v _ => rest.length - (intOf v).toNat)
      case atStart => exact ⟨0, 0, by simp, by omega, Lib.hid (chain_one g rest), rfl⟩
      case round =>
        obtain ⟨m, q, rfl, hm, HC, rfl⟩ := hrel
        obtain ⟨z, hz⟩ : ∃ z, rest[m]? = some z := ⟨rest[m]'(by omega), List.getElem?_eq_getElem (by omega)⟩
        have cz := HI.out m z hz
        have hzt := HA.out z (List.mem_of_getElem? hz)
        have HZ := Lib.hid hz
        have hm0 : (0 : Int) ≤ (m : Int) := by omega
        have hml : (m : Int) < (rest.length : Int) := by omega
        have ws1 : IntKind.i64.wrap ((m : Int) + 1 - 1) = (m : Int) := by rw [show (m : Int) + 1 - 1 = m by omega]; exact IntWalk.i64_in _ (by omega)
        have ws3 : IntKind.i64.wrap (m : Int) = (m : Int) := IntWalk.i64_in _ (by omega)
        clear hz
        by_cases hlt : m + 1 < rest.length
        · obtain ⟨x, hx⟩ : ∃ x, rest[m + 1]? = some x := ⟨rest[m + 1], List.getElem?_eq_getElem hlt⟩
          have cx := HI.out (m + 1) x hx
          have hxt := HA.out x (List.mem_of_getElem? hx)
          have HX1 := Lib.hid hx
          have ws2 : IntKind.i64.wrap (x - z) = x - z := IntWalk.i64_in _ (by omega)
          have hg1' : (0 : Int) ≤ (m : Int) + 1 := by omega
          have hg2' : (m : Int) + 1 < (rest.length : Int) := by omega
          have hdl : decide ((m : Int) + 1 < (rest.length : Int)) = true := by simpa using hg2'
          clear hx
          by_cases hd : x - z ≤ g
          · have hdd : decide (x - z ≤ g) = true := by simpa using hd
            have HC2 := Lib.hid (chain_succ HC.out HX1.out HZ.out hd)
            gi_wp2
            gi_quiet (fail)
            gi_wp2
            go_roundw
            case rel => exact ⟨m + 1, q + nq, by go_num, by omega, HC2, rfl⟩
            case measure => simp [intOf]; omega
          · have hdd : decide (x - z ≤ g) = false := by simpa using hd
            have hex : ∀ x y, rest[m + 1]? = some x → rest[m]? = some y → g < x - y := by intro u v hu hv; rw [HX1.out] at hu; rw [HZ.out] at hv; injection hu with hu; injection hv with hv; subst hu hv; omega
            have HSE : Hid (sess g rest = (a, z) :: sess g (rest.drop (m + 1))) := sess_at g rest m a z HA0.out HC.out hex HZ.out
            gi_wp2
            gi_quiet (fail)
            generalize hX : (wo.drewN q).drewN nq = X
            have HXG : Hid (wo.grownBy X (some bl)) := by rw [← hX]; exact (grownBy_drewN wo q _).trans (grownBy_drewN _ nq _)
            have hXh : ∀ k, (k = bl ∨ k = bg ∨ k = b) → X.heap[k]? = wo.heap[k]? := by intro k _; rw [← hX]; rfl
            have HTX := Lib.hid (HT.out.same hXh)
            have e0 : X.cell? ⟨bl, 0, none⟩ = some (.slice (some ⟨b, o, none⟩) rest.length c) := by rw [← hX]; exact c0
            have e1 : X.cell? ⟨b, o, none⟩ = some (.int .i64 a) := by rw [← hX]; exact HI.out 0 a HA0.out
            have e2 : X.cell? ⟨b, o + m, none⟩ = some (.int .i64 z) := by rw [← hX]; exact cz
            have HXJ : Hid (J pre X.drew) := HJ.out pre wo _ HJr.out (HXG.out.trans (grownBy_drewN X 1 _))
            have HXB : Hid (∀ k, (k = bl ∨ k = bg ∨ k = b) → X.drew.heap[k]? = wo.heap[k]?) := hXh
            clear hX hXh
            obtain ⟨fn, tmps, assign, body, hy, hR⟩ := HY.out pre (a, z) (sess g (rest.drop (m + 1))) X.drew (by rw [HP.out, HSE.out]) HXJ.out
            dsimp only at hy
            gi_wp2
            obtain ⟨A2, hcf0, -, hA2⟩ := run_from (P := Try.prog) 40 3 1 Try.underlying40 size3 (some ⟨b, o, none⟩) rest.length c (m + 1) hm
            have hcf : ∀ w, (Instr.slice 40 (.slice (some ⟨b, o, none⟩) rest.length c) (some (.int .i64 ((m : Int) + 1))) none none).run Try.prog w = .ok (.slice A2 (rest.length - (m + 1)) (c - (m + 1))) w := hcf0
            have FIN : Hid (∀ W3, J (pre ++ [(a, z)]) W3 → (∀ k, (k = bl ∨ k = bg ∨ k = b) → W3.heap[k]? = X.drew.heap[k]?) → W3.cell? ⟨bl, 0, none⟩ = some (.slice (some ⟨b, o, none⟩) rest.length c) ∧ W3.frozen? ⟨bl, 0, none⟩ = false ∧ J (pre ++ [(a, z)]) (W3.setCell ⟨bl, 0, none⟩ (.slice A2 (rest.length - (m + 1)) (c - (m + 1)))) ∧ SesSt g bl bg b (W3.setCell ⟨bl, 0, none⟩ (.slice A2 (rest.length - (m + 1)) (c - (m + 1)))) (rest.drop (m + 1))) := by
              intro W3 hJ3 hk3
              have hkk : ∀ k, (k = bl ∨ k = bg ∨ k = b) → W3.heap[k]? = wo.heap[k]? := fun k hk => (hk3 k hk).trans (HXB.out k hk)
              have hb3 : Boxed W3 bl 40 (.slice (some ⟨b, o, none⟩) rest.length c) := (hkk bl (Or.inl rfl)).trans HBX.out
              have hg3 : Boxed W3 bg 3 (.int .i64 g) := (hkk bg (Or.inr (Or.inl rfl))).trans HGX.out
              refine ⟨hb3.cell, hb3.frozen, HJ.out _ _ _ hJ3 (grownBy_setCell' _ _ _), ⟨⟨A2, c - (m + 1), ?_, ?_, ?_⟩, hg3.kept (grownBy_setCell' _ _ _) (fun e => by injection e with e; exact hne1 e.symm)⟩⟩
              · rw [List.length_drop]; exact hb3.set _
              · rw [List.length_drop]; have := HCC.out; omega
              · intro hl
                rw [List.length_drop] at hl
                refine ⟨o + (m + 1) * 1, hA2 b o rfl (by have := HCC.out; omega), ?_⟩
                rw [Nat.mul_one]
                exact (((show IntsAt wo b o rest from HI.out).same (hkk b (Or.inr (Or.inr rfl)))).drop (m + 1)).same (Below.heap_setCell _ _ _ b (fun e => hne2 e.symm))
            have FAC : Hid (AllTick (rest.drop (m + 1)) ∧ (rest.drop (m + 1)).length ≤ 1099511627776 ∧ sess g s = (pre ++ [(a, z)]) ++ sess g (rest.drop (m + 1)) ∧ leftAt bl wo = rest.length) := ⟨fun x hx => HA.out x (List.mem_of_mem_drop hx), by rw [List.length_drop]; omega, by rw [HP.out, HSE.out]; simp, leftAt_eq c0⟩
            clear hcf0 hA2 hex
            gi_region_with ((refine hR.mono ?_; rintro e W3 ⟨rfl, hJ3, hk3⟩; obtain ⟨c3, f3, j3, st3⟩ := FIN.out W3 hJ3 hk3; have J3 := Lib.hid j3; have ST3 := Lib.hid st3; clear hJ3 hk3 j3 st3))
            all_goals
              gi_wp2
              go_roundw
              case rel => exact ⟨pre ++ [(a, z)], rest.drop (m + 1), Lib.hid FAC.out.2.2.1, ST3, Lib.hid FAC.out.1, FAC.out.2.1, J3⟩
              case measure => obtain ⟨⟨A9, c9, h9, -⟩, -⟩ := ST3.out; rw [leftAt_eq h9.cell, FAC.out.2.2.2, List.length_drop]; omega
        · have hdl : decide ((m : Int) + 1 < (rest.length : Int)) = false := by simp; omega
          have hex : ∀ x y, rest[m + 1]? = some x → rest[m]? = some y → g < x - y := by intro u v hu hv; have := (List.getElem?_eq_some_iff.1 hu).1; omega
          have HSE : Hid (sess g rest = (a, z) :: sess g (rest.drop (m + 1))) := sess_at g rest m a z HA0.out HC.out hex HZ.out
          gi_wp2
          gi_quiet (fail)
          generalize hX : (wo.drewN q).drewN nq = X
          have HXG : Hid (wo.grownBy X (some bl)) := by rw [← hX]; exact (grownBy_drewN wo q _).trans (grownBy_drewN _ nq _)
          have hXh : ∀ k, (k = bl ∨ k = bg ∨ k = b) → X.heap[k]? = wo.heap[k]? := by intro k _; rw [← hX]; rfl
          have HTX := Lib.hid (HT.out.same hXh)
          have e0 : X.cell? ⟨bl, 0, none⟩ = some (.slice (some ⟨b, o, none⟩) rest.length c) := by rw [← hX]; exact c0
          have e1 : X.cell? ⟨b, o, none⟩ = some (.int .i64 a) := by rw [← hX]; exact HI.out 0 a HA0.out
          have e2 : X.cell? ⟨b, o + m, none⟩ = some (.int .i64 z) := by rw [← hX]; exact cz
          have HXJ : Hid (J pre X.drew) := HJ.out pre wo _ HJr.out (HXG.out.trans (grownBy_drewN X 1 _))
          have HXB : Hid (∀ k, (k = bl ∨ k = bg ∨ k = b) → X.drew.heap[k]? = wo.heap[k]?) := hXh
          clear hX hXh
          obtain ⟨fn, tmps, assign, body, hy, hR⟩ := HY.out pre (a, z) (sess g (rest.drop (m + 1))) X.drew (by rw [HP.out, HSE.out]) HXJ.out
          dsimp only at hy
          gi_wp2
          obtain ⟨A2, hcf0, -, hA2⟩ := run_from (P := Try.prog) 40 3 1 Try.underlying40 size3 (some ⟨b, o, none⟩) rest.length c (m + 1) hm
          have hcf : ∀ w, (Instr.slice 40 (.slice (some ⟨b, o, none⟩) rest.length c) (some (.int .i64 ((m : Int) + 1))) none none).run Try.prog w = .ok (.slice A2 (rest.length - (m + 1)) (c - (m + 1))) w := hcf0
          have FIN : Hid (∀ W3, J (pre ++ [(a, z)]) W3 → (∀ k, (k = bl ∨ k = bg ∨ k = b) → W3.heap[k]? = X.drew.heap[k]?) → W3.cell? ⟨bl, 0, none⟩ = some (.slice (some ⟨b, o, none⟩) rest.length c) ∧ W3.frozen? ⟨bl, 0, none⟩ = false ∧ J (pre ++ [(a, z)]) (W3.setCell ⟨bl, 0, none⟩ (.slice A2 (rest.length - (m + 1)) (c - (m + 1)))) ∧ SesSt g bl bg b (W3.setCell ⟨bl, 0, none⟩ (.slice A2 (rest.length - (m + 1)) (c - (m + 1)))) (rest.drop (m + 1))) := by
            intro W3 hJ3 hk3
            have hkk : ∀ k, (k = bl ∨ k = bg ∨ k = b) → W3.heap[k]? = wo.heap[k]? := fun k hk => (hk3 k hk).trans (HXB.out k hk)
            have hb3 : Boxed W3 bl 40 (.slice (some ⟨b, o, none⟩) rest.length c) := (hkk bl (Or.inl rfl)).trans HBX.out
            have hg3 : Boxed W3 bg 3 (.int .i64 g) := (hkk bg (Or.inr (Or.inl rfl))).trans HGX.out
            refine ⟨hb3.cell, hb3.frozen, HJ.out _ _ _ hJ3 (grownBy_setCell' _ _ _), ⟨⟨A2, c - (m + 1), ?_, ?_, ?_⟩, hg3.kept (grownBy_setCell' _ _ _) (fun e => by injection e with e; exact hne1 e.symm)⟩⟩
            · rw [List.length_drop]; exact hb3.set _
            · rw [List.length_drop]; have := HCC.out; omega
            · intro hl
              rw [List.length_drop] at hl
              refine ⟨o + (m + 1) * 1, hA2 b o rfl (by have := HCC.out; omega), ?_⟩
              rw [Nat.mul_one]
              exact (((show IntsAt wo b o rest from HI.out).same (hkk b (Or.inr (Or.inr rfl)))).drop (m + 1)).same (Below.heap_setCell _ _ _ b (fun e => hne2 e.symm))
          have FAC : Hid (AllTick (rest.drop (m + 1)) ∧ (rest.drop (m + 1)).length ≤ 1099511627776 ∧ sess g s = (pre ++ [(a, z)]) ++ sess g (rest.drop (m + 1)) ∧ leftAt bl wo = rest.length) := ⟨fun x hx => HA.out x (List.mem_of_mem_drop hx), by rw [List.length_drop]; omega, by rw [HP.out, HSE.out]; simp, leftAt_eq c0⟩
          clear hcf0 hA2 hex
          gi_region_with ((refine hR.mono ?_; rintro e W3 ⟨rfl, hJ3, hk3⟩; obtain ⟨c3, f3, j3, st3⟩ := FIN.out W3 hJ3 hk3; have J3 := Lib.hid j3; have ST3 := Lib.hid st3; clear hJ3 hk3 j3 st3))
          all_goals
            gi_wp2
            go_roundw
            case rel => exact ⟨pre ++ [(a, z)], rest.drop (m + 1), Lib.hid FAC.out.2.2.1, ST3, Lib.hid FAC.out.1, FAC.out.2.1, J3⟩
            case measure => obtain ⟨⟨A9, c9, h9, -⟩, -⟩ := ST3.out; rw [leftAt_eq h9.cell, FAC.out.2.2.2, List.length_drop]; omega
end Go.Proofs.Ytolkmfpbgheaaaa
