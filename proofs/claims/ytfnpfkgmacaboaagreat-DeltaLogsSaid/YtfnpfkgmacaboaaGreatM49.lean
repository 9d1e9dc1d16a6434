/- Texts joined by a program. -/
import Derived.Test.YtfnpfkgmacaboaaGreatM11
import Derived.Test.YtfnpfkgmacaboaaGreatM48
namespace Go.Proofs.YtfnpfkgmacaboaaGreat
open Go.ChangeShapes Go.WideShapes Go.ChangeAt Go.RowKit
set_option linter.unusedVariables false
set_option linter.unusedSimpArgs false
theorem Dl.Seen.kept {w w':World}{d:Dl}(h:d.Seen w)(hb:Below w.heap.size w w'):d.Seen w':={ h with r:={ h.r with lies:=h.r.lies.kept hb } }
def ExampleYes:Prop:=∀ w,Calls Tryz.prog 9 #[] w fun e w'=>e=.returned (.bool true)/\Below w.heap.size w w'
end Go.Proofs.YtfnpfkgmacaboaaGreat
