/- Texts joined by a program. -/
import Derived.Test.YtfnpfkgmacaboaaGreatM05
namespace Go.Proofs.YtfnpfkgmacaboaaGreat
open Go.ChangeShapes Go.WideShapes Go.ChangeAt Go.RowKit
set_option linter.unusedVariables false
set_option linter.unusedSimpArgs false
structure Rw.Seen (w:World) (r:Rw):Prop where
 lies:Zac valC 3 w r.fa r.vs
 len:r.vs.length<=140737488355328
 str:∀ v∈r.vs,v.2.2.size<=140737488355328
 val:∀ v∈r.vs,I64 v.1/\I64 v.2.1
 src:r.src.size<=140737488355328
 tb:r.tb.size<=140737488355328
 ky:r.ky.size<=140737488355328
 ints:I64 r.seq/\I64 r.ev/\I64 r.no/\I64 r.tk
structure Dl.Seen (w:World) (d:Dl):Prop where
 r:d.r.Seen w
 tick:I64 d.tick
 n:I64 d.n
def Rw.Short (r:Rw):Prop:=r.vs.length<=12/\r.src.size<=300/\r.tb.size<=300/\r.ky.size<=300/\∀ v∈r.vs,v.2.2.size<=200
theorem Rw.Seen.ok {w:World}{r:Rw}(h:r.Seen w)(hs:r.Short):r.Ok w :=
 ⟨h.lies,by have:=hs.1;omega,fun v hv=>by have:=hs.2.2.2.2 v hv;omega,h.val,by have:=hs.2.1;omega,by have:=hs.2.2.1;omega,by have:=hs.2.2.2.1;omega,h.ints⟩
theorem Dl.Seen.ok {w:World}{d:Dl}(h:d.Seen w)(hs:d.r.Short):d.Ok w:=⟨h.r.ok hs,h.tick,h.n⟩
end Go.Proofs.YtfnpfkgmacaboaaGreat
