import Derived.Test.YtiahadohgfahcaaDoorG
import Derived.Test.YtiahadohgfahcaaDoorD
namespace Go.Proofs.YtiahadohgfahcaaDoor
open Go.ChangeShapes Go.WideShapes Go.ChangeAt Go.RowKit Go.Sort
set_option linter.unusedVariables false

set_option maxHeartbeats 4000000 in
theorem texts_any (w : World) (h : Tabs w) : Calls Tryd.prog 21 #[] w fun e w' => e = .returned (.bool true) ∧ Below w.heap.size w w' := by
  have hT := h.2
  have P1 := Lib.hid (parse_1 w hT)
  have P2 := Lib.hid (parse_2 w hT)
  have P3 := Lib.hid (parse_3 w hT)
  have P4 := Lib.hid (parse_4 w hT)
  have P5 := Lib.hid (parse_5 w hT)
  have HF := Lib.hid (format_neg w h.1)
  clear hT h
  go_enter Tryd.func21, Tryd.ntmps21
  go_wp2_with fail
  refine P1.out.mono ?_
  rintro e w1 ⟨rfl, rfl⟩
  go_wp2_with fail
  refine P2.out.mono ?_
  rintro e w1 ⟨rfl, rfl⟩
  go_wp2_with fail
  refine P3.out.mono ?_
  rintro e w1 ⟨rfl, rfl⟩
  go_wp2_with fail
  refine P4.out.mono ?_
  rintro e w1 ⟨rfl, rfl⟩
  go_wp2_with fail
  refine P5.out.mono ?_
  rintro e w1 ⟨rfl, rfl⟩
  go_wp2_with fail
  refine HF.out.mono ?_
  rintro e w1 ⟨rfl, hb1⟩
  go_wp2_with fail
  refine (format_7 _).mono ?_
  rintro e w2 ⟨rfl, hb2⟩
  go_wp2_with fail
  refine (format_0 _).mono ?_
  rintro e w3 ⟨rfl, hb3⟩
  go_wp2_with fail
  go_ret
  have z1 := hb1.size; have z2 := hb2.size
  exact ⟨rfl, (hb1.trans (hb2.mono z1)).trans (hb3.mono (by omega))⟩
end Go.Proofs.YtiahadohgfahcaaDoor
