/- Texts joined by a program. -/
import Derived.Test.YtfnpfkgmacaboaaGreatM45
namespace Go.Proofs.YtfnpfkgmacaboaaGreat
open Go.ChangeShapes Go.WideShapes Go.ChangeAt Go.RowKit
set_option linter.unusedVariables false
set_option linter.unusedSimpArgs false
set_option maxRecDepth 100000
set_option maxHeartbeats 4000000
section
variable {H:Type} {enc:TypeId × Value->H}
theorem open_ensB {W:World}{b0:Nat}{v:Value}{d:DataW H}{p:List MemPlace}(hv:Value.okWide Tryz.prog W .any b0 22 v)(h:DataW.Trod enc Tryz.prog W 0 (fun _=>true) true 22 v d p)
 (hz:∀ n∈d.weights Tryz.prog 22,n<=reachBytes) :
 ∃ (ao:Option Addr) (cap:Nat) (l:List En),v=.slice ao l.length cap/\l.length*528<=140737488351232/\Zaf En.cells 40 W ao l/\(∀ d∈l,d.Seen W)/\(ao=none->cap=0)/\∀ a,ao=some a->a.spot=none:=by
 obtain⟨h1,h2⟩:=read_arg Tryz.underlying22 hv h hz
 obtain⟨ao,cap,l,e,-,hb,hl,hQ,hn⟩:=Zcv (Q:=fun d:En=>d.Seen W) Tryz.underlying22 cells_en bytes_en (by decide) (fun _=>rfl) read_en h1
 injection e with e
 subst e
 exact⟨ao,cap,l,rfl,hb,hl,hQ,hn,fun a ha=>h2 a _ _ (by rw[ha])⟩
theorem open_enV {W:World}{b0:Nat}{v:Value}{d:DataW H}{p:List MemPlace}(hv:Value.okWide Tryz.prog W .any b0 48 v)(h:DataW.Trod enc Tryz.prog W 0 (fun _=>true) true 48 v d p)
 (hz:∀ n∈d.weights Tryz.prog 48,n<=reachBytes):∃ e:En,v=.agg e.cells.toArray/\e.Seen W:=by
 obtain⟨e,he,hs⟩:=open_en hv h hz
 refine⟨e,?_,hs⟩
 have hlen:v.cells.size=40:=by rw[<-Array.length_toList,he];rfl
 cases v
 case agg cs =>
  have he':cs.toList=e.cells:=he
  rw[<-he']
 all_goals exact absurd (show 1=40 from hlen) (by decide)
end
end Go.Proofs.YtfnpfkgmacaboaaGreat
