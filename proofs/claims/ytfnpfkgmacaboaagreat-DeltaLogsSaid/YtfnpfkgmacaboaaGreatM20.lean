/- Texts joined by a program. -/
import Derived.Deep.OwnRows
import Derived.Test.YtfnpfkgmacaboaaGreatM18
import Derived.Test.YtfnpfkgmacaboaaGreatM19
namespace Go.Proofs.YtfnpfkgmacaboaaGreatEx
open Go.ChangeShapes Go.WideShapes Go.ChangeAt Go.RowKit
def zeros:Obj:=.cells #[.int .i64 0,.int .i64 0,.int .i64 0,.int .i64 0,.int .i64 0,.int .i64 0,.int .i64 0,.int .i64 0] 3
theorem made8:madeCells #[Value.int .i64 0] 8=#[.int .i64 0,.int .i64 0,.int .i64 0,.int .i64 0,.int .i64 0,.int .i64 0,.int .i64 0,.int .i64 0]:=by kernel_rfl
theorem make8 (w:World):(Instr.makeSlice 101 (.int .i64 8) (.int .i64 8)).run Tryz.prog w=.ok (.slice (some ⟨w.heap.size,0,none⟩) 8 8) (w.alloc zeros):=by
 have h:=run_make_row' (P:=Tryz.prog) 101 3 (.int .i64 0) 8 Tryz.underlying101 info3 rfl .i64 .i64 8 (by decide) (by decide) w
 rw[made8]at h
 exact h
theorem zeros_cells (w:World):ZaZ (w.alloc zeros) w.heap.size (fun _=>0):=by
 intro i hi
 match i,hi with
 |0,_=>simp[zeros,go_sem]
 |1,_=>simp[zeros,go_sem]
 |2,_=>simp[zeros,go_sem]
 |3,_=>simp[zeros,go_sem]
 |4,_=>simp[zeros,go_sem]
 |5,_=>simp[zeros,go_sem]
 |6,_=>simp[zeros,go_sem]
 |7,_=>simp[zeros,go_sem]
end Go.Proofs.YtfnpfkgmacaboaaGreatEx
