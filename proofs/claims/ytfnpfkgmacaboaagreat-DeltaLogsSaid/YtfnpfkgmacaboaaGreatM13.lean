/- Texts joined by a program. -/
import Derived.OrdersHeld
import Derived.Deep.RegionHeld
import Derived.Test.YtfnpfkgmacaboaaGreatM04
namespace Go.Proofs.YtfnpfkgmacaboaaGreat
open Go
set_option linter.unusedVariables false
theorem hk {S:World->Prop}{T K:Act->World->Prop}{a a':Act}{w:World}(hK:Shut (∀ a w,S w->(S w->T a w)->K a w))(hS:S w)(h:T a' w)(e:a=a':=by(try simp only[Act.put,m1,m2,m3]);rfl):K a w:=hK.out _ _ hS (fun _=>e ▸ h)
section
variable {P:Program} {ops:Array Oper} {Q:Exit->Act->World->Prop} {md:Region.Mode} {S:World->Prop}
def mixB (md:Region.Mode)(ops:Array Oper):List Bool->Nat->Array Bool->Bool
 |[],_,listed=>(Region.ready md ops listed).isEmpty
 |p :: ps,k,listed=>(Region.ready md ops listed).contains k&&(if p then Region.free md ops listed k else decide (Region.ready md ops listed=[k]))&&mixB md ops ps (k+1) (listed.setIfInBounds k true)
def wpMix (P:Program)(ops:Array Oper)(Q:Exit->Act->World->Prop)(S:World->Prop):List Bool->List Oper->Act->World->Prop
 |_,[],a,w=>Q .normal a w
 |[],_ :: _,_,_=>False
 |true :: ps,o :: l,a,w=>∃ v,YieldsIf P ops S o v a/\wpMix P ops Q S ps l (a.put o.dst v) w
 |false :: ps,o :: l,a,w=>if Region.wanted o (yielded ops a.tmps)=true then o.wp P a w (fun a' w'=>S w'/\wpMix P ops Q S ps l a' w') Q else wpMix P ops Q S ps l (a.put o.dst undef) w
theorem mix_held (hsel:Region.noSelect ops=true)(hQ:∀ c a (d:Tmp) v w,Q (.panic c) (a.put (some d) v) w->Q (.panic c) a w) :
 ∀ (ps:List Bool) (l:List Oper) (k:Nat) (listed:Array Bool) (a:Act) (w:World),ps.length=l.length->(∀ j o,l[j]?=some o->ops[k+j]?=some o)->mixB md ops ps k listed=true->S w ->
  wpMix P ops Q S ps l a w->wpAnyH P md ops Q S l.length listed a w
 |[],[],k,listed,a,w,_,_,hB,_,h=>wpAnyH_done (by simpa [mixB]using hB) h _
 |p :: ps,[],_,_,_,_,hl,_,_,_,_=>by cases hl
 |[],_ :: _,_,_,_,_,hl,_,_,_,_=>by cases hl
 |true :: ps,o :: l,k,listed,a,w,hl,ho,hB,hS,h=>by
  simp only[mixB,Bool.and_eq_true,if_true]at hB
  obtain⟨v,hy,h⟩:=h
  have h0:ops[k]?=some o:=by simpa using ho 0 o rfl
  exact wpAnyH_take h0 hsel hB.1.2 hB.1.1 (fun c a w=>by cases hd:o.dst with|none=>exact fun h=>h|some d=>exact hQ c a d v w) hy hS (mix_held hsel hQ ps l (k+1) _ _ _ (by simpa using hl) (fun j x hj=>by have:=ho (j+1) x (by simpa using hj);rwa [show k+(j+1)=k+1+j by omega]at this) hB.2 hS h)
 |false :: ps,o :: l,k,listed,a,w,hl,ho,hB,hS,h=>by
  simp only[mixB,Bool.and_eq_true,Bool.false_eq_true,if_false,decide_eq_true_eq]at hB
  have h0:ops[k]?=some o:=by simpa using ho 0 o rfl
  have ih:=fun(a:Act) (w:World) (hS:S w) (h:wpMix P ops Q S ps l a w)=>mix_held hsel hQ ps l (k+1) (listed.setIfInBounds k true) a w (by simpa using hl) (fun j x hj=>by have:=ho (j+1) x (by simpa using hj);rwa [show k+(j+1)=k+1+j by omega]at this) hB.2 hS h
  refine wpAnyH_all hB.1.2 (by simp) (fun i hi=>?_)
  obtain rfl:i=k:=by simpa using hi
  unfold wpOp
  simp only[h0]
  unfold wpMix at h
  split
  · rename_i hw
    rw[if_pos hw]at h
    exact Or.inl (Oper.wp_mono (fun a' w' h'=>⟨h'.1,ih a' w' h'.1 h'.2⟩) h)
  · rename_i hw
    rw[if_neg hw]at h
    exact⟨hS,ih _ _ hS h⟩
theorem Zbg {id:Nat}{l:List Oper}{a:Act}{w:World}(ps:List Bool)(hm:P.follows .mixedOrders=true)(hsel:Region.noSelect l.toArray=true)(hQ:∀ c a (d:Tmp) v w,Q (.panic c) (a.put (some d) v) w->Q (.panic c) a w)
 (hB:mixB .any l.toArray ps 0 (Array.replicate l.length false)=true) (hl:ps.length=l.length) (hS:S w.drew) (h:wpMix P l.toArray Q S ps l a w.drew):(Code.region id l.toArray true).wp P Q a w :=
 wp_region_held hm (mix_held hsel hQ ps l 0 _ a _ hl (fun j o hj=>by simpa using hj) hB hS h)
section
variable {o:Oper} {ps:List Bool} {l:List Oper} {a:Act} {w:World}
theorem Zcd (v:Value)(hw:Region.wanted o (yielded ops a.tmps)=true)(hv:∀ w,S w->(execOp a.eval o).run P w=.ok (.value v) w)(h:wpMix P ops Q S ps l (a.put o.dst v) w):wpMix P ops Q S (true :: ps) (o :: l) a w:=⟨v,Or.inl ⟨hw,hv⟩,h⟩
theorem mix_off (hw:Region.wanted o (yielded ops a.tmps)=false)(h:wpMix P ops Q S ps l (a.put o.dst undef) w):wpMix P ops Q S (true :: ps) (o :: l) a w:=⟨undef,Or.inr ⟨hw,rfl⟩,h⟩
theorem mix_offC (hw:Region.wanted o (yielded ops a.tmps)=false)(h:wpMix P ops Q S ps l (a.put o.dst undef) w):wpMix P ops Q S (false :: ps) (o :: l) a w:=by
 unfold wpMix
 rw[if_neg (by rw[hw];simp)]
 exact h
theorem mk {F:World->Prop}(HQ:∀ w,S w->F w)(v:Value){a':Act}(h:wpMix P ops Q S ps l a' w)(hw:Region.wanted o (yielded ops a.tmps)=true:=by rfl)(hv:∀ w,S w->F w->(execOp a.eval o).run P w=.ok (.value v) w:=by intro wq hSw KQ;(try simp only[Cl,Nat.reduceAdd]at KQ);go_simp<;>rfl)
 (e:a.put o.dst v=a':=by simp only[Act.put,m1,m2,m3];rfl):wpMix P ops Q S (true :: ps) (o :: l) a w:=Zcd v hw (fun w h1=>hv w h1 (HQ w h1)) (e ▸ h)
theorem mk0 (v:Value){a':Act}(h:wpMix P ops Q S ps l a' w)(hw:Region.wanted o (yielded ops a.tmps)=true:=by rfl)(hv:∀ w,S w->(execOp a.eval o).run P w=.ok (.value v) w:=by intro wq hSw;(try dsimp only at hSw);go_simp<;>rfl)
 (e:a.put o.dst v=a':=by simp only[Act.put,m1,m2,m3];rfl):wpMix P ops Q S (true :: ps) (o :: l) a w:=Zcd v hw hv (e ▸ h)
theorem mo {a':Act}(h:wpMix P ops Q S ps l a' w)(hw:Region.wanted o (yielded ops a.tmps)=false:=by rfl)(e:a.put o.dst undef=a':=by simp only[Act.put,m1,m2,m3];rfl):wpMix P ops Q S (true :: ps) (o :: l) a w:=mix_off hw (e ▸ h)
theorem Zbm (hw:Region.wanted o (yielded ops a.tmps)=true)(h:∀ K':Act->World->Prop,Shut (∀ a w,S w->(S w->wpMix P ops Q S ps l a w)->K' a w)->Oper.wp P o a w K' Q):wpMix P ops Q S (false :: ps) (o :: l) a w:=by
 unfold wpMix
 rw[if_pos hw]
 exact h _ (fun a w hS h=>⟨hS,h hS⟩)
theorem Zbv (h:Q .normal a w):wpMix P ops Q S [] [] a w:=h
end
end
end Go.Proofs.YtfnpfkgmacaboaaGreat
