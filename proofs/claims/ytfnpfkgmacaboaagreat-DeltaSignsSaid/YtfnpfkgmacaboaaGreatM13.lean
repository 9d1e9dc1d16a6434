/- Texts joined by a program. -/
import Derived.Test.YtfnpfkgmacaboaaGreatM11
import Derived.Test.YtfnpfkgmacaboaaGreatM12
namespace Go.Proofs.YtfnpfkgmacaboaaGreat
open Go
set_option linter.unusedVariables false
inductive Tr where
 |done:Tr
 |free (k:Nat) (t:Tr):Tr
 |one (k:Nat) (t:Tr):Tr
 |two (k:Nat) (t:Tr) (j:Nat) (u:Tr):Tr
def Tr.height:Tr->Nat
 |.done=>0
 |.free _ t=>t.height+1
 |.one _ t=>t.height+1
 |.two _ t _ u=>max t.height u.height+1
section
variable {P:Program} {ops:Array Oper} {Q:Exit->Act->World->Prop} {md:Region.Mode} {S:World->Prop}
def trB (md:Region.Mode)(ops:Array Oper):Tr->Array Bool->Bool
 |.done,listed=>(Region.ready md ops listed).isEmpty
 |.free k t,listed=>(Region.ready md ops listed).contains k&&Region.free md ops listed k&&trB md ops t (listed.setIfInBounds k true)
 |.one k t,listed=>decide (Region.ready md ops listed=[k])&&trB md ops t (listed.setIfInBounds k true)
 |.two k t j u,listed=>decide (Region.ready md ops listed=[k,j])&&trB md ops t (listed.setIfInBounds k true)&&trB md ops u (listed.setIfInBounds j true)
def stepT (P:Program)(ops:Array Oper)(Q:Exit->Act->World->Prop)(S:World->Prop)(k:Nat)(K:Act->World->Prop)(a:Act)(w:World):Prop :=
 ∃ o,ops[k]?=some o/\if Region.wanted o (yielded ops a.tmps)=true then o.wp P a w (fun a' w'=>S w'/\K a' w') Q else K (a.put o.dst undef) w
def trW (P:Program)(ops:Array Oper)(Q:Exit->Act->World->Prop)(S:World->Prop):Tr->Act->World->Prop
 |.done,a,w=>Q .normal a w
 |.free k t,a,w=>∃ o v,ops[k]?=some o/\YieldsIf P ops S o v a/\trW P ops Q S t (a.put o.dst v) w
 |.one k t,a,w=>stepT P ops Q S k (trW P ops Q S t) a w
 |.two k t j u,a,w=>stepT P ops Q S k (trW P ops Q S t) a w/\stepT P ops Q S j (trW P ops Q S u) a w
theorem stepT_op {k:Nat}{K:Act->World->Prop}{a:Act}{w:World}{n:Nat}{listed:Array Bool}(hS:S w)(ih:∀ a w,S w->K a w->wpAnyH P md ops Q S n (listed.setIfInBounds k true) a w)
 (h:stepT P ops Q S k K a w):wpOp P ops Q k (fun a' w'=>S w'/\wpAnyH P md ops Q S n (listed.setIfInBounds k true) a' w') a w:=by
 obtain⟨o,h0,h⟩:=h
 unfold wpOp
 simp only[h0]
 split
 · rename_i hw
   rw[if_pos hw]at h
   exact Or.inl (Oper.wp_mono (fun a' w' h'=>⟨h'.1,ih a' w' h'.1 h'.2⟩) h)
 · rename_i hw
   rw[if_neg hw]at h
   exact⟨hS,ih _ _ hS h⟩
theorem Ze5 (hsel:Region.noSelect ops=true)(hQ:∀ c a (d:Tmp) v w,Q (.panic c) (a.put (some d) v) w->Q (.panic c) a w) :
 ∀ (t:Tr) (n:Nat) (listed:Array Bool) (a:Act) (w:World),t.height<=n->trB md ops t listed=true->S w->trW P ops Q S t a w->wpAnyH P md ops Q S n listed a w
 |.done,n,listed,a,w,_,hB,_,h=>wpAnyH_done (by simpa [trB]using hB) h n
 |.free k t,0,_,_,_,hn,_,_,_=>by simp[Tr.height]at hn
 |.free k t,n+1,listed,a,w,hn,hB,hS,h=>by
  simp only[trB,Bool.and_eq_true]at hB
  obtain⟨o,v,h0,hy,h⟩:=h
  exact wpAnyH_take h0 hsel hB.1.2 hB.1.1 (fun c a w=>by cases hd:o.dst with|none=>exact fun h=>h|some d=>exact hQ c a d v w) hy hS (Ze5 hsel hQ t n _ _ _ (by simp[Tr.height]at hn;exact hn) hB.2 hS h)
 |.one k t,0,_,_,_,hn,_,_,_=>by simp[Tr.height]at hn
 |.one k t,n+1,listed,a,w,hn,hB,hS,h=>by
  simp only[trB,Bool.and_eq_true,decide_eq_true_eq]at hB
  refine wpAnyH_all hB.1 (by simp) (fun i hi=>?_)
  obtain rfl:i=k:=by simpa using hi
  exact stepT_op hS (fun a w hS h=>Ze5 hsel hQ t n _ a w (by simp[Tr.height]at hn;exact hn) hB.2 hS h) h
 |.two k t j u,0,_,_,_,hn,_,_,_=>by simp[Tr.height]at hn
 |.two k t j u,n+1,listed,a,w,hn,hB,hS,h=>by
  simp only[trB,Bool.and_eq_true,decide_eq_true_eq]at hB
  simp only[Tr.height]at hn
  refine wpAnyH_all hB.1.1 (by simp) (fun i hi=>?_)
  rcases List.mem_cons.1 hi with rfl|hi
  · exact stepT_op hS (fun a w hS h=>Ze5 hsel hQ t n _ a w (by omega) hB.1.2 hS h) h.1
  · obtain rfl:i=j:=by simpa using hi
    exact stepT_op hS (fun a w hS h=>Ze5 hsel hQ u n _ a w (by omega) hB.2 hS h) h.2
theorem ZaI {id:Nat}{ops:Array Oper}{a:Act}{w:World}(t:Tr)(hm:P.follows .mixedOrders=true)(hsel:Region.noSelect ops=true)(hQ:∀ c a (d:Tmp) v w,Q (.panic c) (a.put (some d) v) w->Q (.panic c) a w)
 (hB:trB .any ops t (Array.replicate ops.size false)=true) (hn:(decide (t.height<=ops.size))=true) (hS:S w.drew) (h:trW P ops Q S t a w.drew):(Code.region id ops true).wp P Q a w :=
 wp_region_held hm (Ze5 hsel hQ t _ _ a _ (by simpa using hn) hB hS h)
section
variable {o:Oper} {k j:Nat} {t u:Tr} {a:Act} {w:World}
theorem operAt {ops:Array Oper}{k:Nat}{o:Oper}(h:ops.toList[k]?=some o):ops[k]?=some o:=by rw[<-Array.getElem?_toList];exact h
theorem Zac (o:Oper)(v:Value)(ho:ops.toList[k]?=some o)(hw:Region.wanted o (yielded ops a.tmps)=true)(hv:∀ w,S w->(execOp a.eval o).run P w=.ok (.value v) w)(h:trW P ops Q S t (a.put o.dst v) w):trW P ops Q S (.free k t) a w:=⟨o,v,operAt ho,Or.inl ⟨hw,hv⟩,h⟩
theorem Zan (o:Oper)(ho:ops.toList[k]?=some o)(hw:Region.wanted o (yielded ops a.tmps)=false)(h:trW P ops Q S t (a.put o.dst undef) w):trW P ops Q S (.free k t) a w:=⟨o,undef,operAt ho,Or.inr ⟨hw,rfl⟩,h⟩
theorem stepT_call (o:Oper){K:Act->World->Prop}(ho:ops.toList[k]?=some o)(hw:Region.wanted o (yielded ops a.tmps)=true)(h:∀ K':Act->World->Prop,Shut (∀ a w,S w->(S w->K a w)->K' a w)->Oper.wp P o a w K' Q):stepT P ops Q S k K a w:=by
 refine⟨o,operAt ho,?_⟩
 rw[if_pos hw]
 exact h _ (fun a w hS h=>⟨hS,h hS⟩)
theorem ZaN (o:Oper)(ho:ops.toList[k]?=some o)(hw:Region.wanted o (yielded ops a.tmps)=true)(h:∀ K':Act->World->Prop,Shut (∀ a w,S w->(S w->trW P ops Q S t a w)->K' a w)->Oper.wp P o a w K' Q):trW P ops Q S (.one k t) a w:=stepT_call o ho hw h
theorem tr_oneOff (o:Oper)(ho:ops.toList[k]?=some o)(hw:Region.wanted o (yielded ops a.tmps)=false)(h:trW P ops Q S t (a.put o.dst undef) w):trW P ops Q S (.one k t) a w:=by
 refine⟨o,operAt ho,?_⟩
 rw[if_neg (by rw[hw];simp)]
 exact h
theorem tr_two (h1:trW P ops Q S (.one k t) a w)(h2:trW P ops Q S (.one j u) a w):trW P ops Q S (.two k t j u) a w:=⟨h1,h2⟩
theorem Zbb (h:Q .normal a w):trW P ops Q S .done a w:=h
theorem ZbV (o:Oper)(ho:ops.toList[k]?=some o)(hw:Region.wanted o (yielded ops a.tmps)=true)(ty:TypeId)(x:Operand)(hop:o.op=.load ty x)(b off:Nat)(L:List Value)(hx:a.eval x=.pointer (some ⟨b,off,none⟩))(hc:∀ w,S w->∀ j v,L[j]?=some v->w.cell? ⟨b,off+j,none⟩=some v)
 (d:TypeDesc) (hu:P.underlying ty=some d) (hd:(match d with|.struct _|.array _ _=>true|_=>false)=true) (hi:(P.info? ty).map (·.size)=some L.length)
 (h:∀ v,v=.agg L.toArray->trW P ops Q S t (a.put o.dst v) w):trW P ops Q S (.free k t) a w:=by
 refine Zac o (.agg L.toArray) ho hw (fun w hS=>?_) (h _ rfl)
 unfold execOp
 simp only[hop,hx,Instr.loadAt,Instr.sureAddr,Sem.run_bind,Sem.run_pure,Result.andThen_ok,ZaM w b off ty L d (hc w hS) hu hd hi]
end
end
open Go.ChangeShapes Go.WideShapes Go.ChangeAt Go.RowKit
set_option linter.unusedSimpArgs false
set_option maxRecDepth 100000
section
variable {P:Program} {o:Oper} {a:Act} {w:World} {K:Act->World->Prop} {Q:Exit->Act->World->Prop}
theorem op_newV (ty:TypeId)(ho:o.op=.alloc ty)(L:List Value)(hz:(P.info? ty).map (fun i=>i.zero.map (fun z=>z.cells))=some (some L.toArray))
 (h:∀ w',Box w' w.heap.size L.toArray ty->Below w.heap.size w w'->K (a.put o.dst (.pointer (some ⟨w.heap.size,0,none⟩))) w'):o.wp P a w K Q:=by
 obtain⟨i,hq,z,hzi,hzs⟩:∃ i,P.info? ty=some i/\∃ z,i.zero=some z/\z.cells=L.toArray:=by
  cases hq:P.info? ty with
  |none=>rw[hq]at hz;simp at hz
  |some i =>
   rw[hq]at hz
   simp at hz
   obtain⟨z,h3,h4⟩:=hz
   exact⟨i,rfl,z,h3,h4⟩
 unfold Oper.wp
 rw[Zbn ty ho _ i z hq hzi,hzs]
 exact h _ (Box.new _ _ _) (Zab _)
theorem Zd7 (ty:TypeId)(x y:Operand)(ho:o.op=.store ty x y)(hd:o.dst=none)(g:Nat)(t:TypeId)(cur:Array Value)(L:List Value)
 (hx:a.eval x=.pointer (some ⟨g,0,none⟩)) (hy:a.eval y=.agg L.toArray) (hg:Box w g cur t) (hi:(P.info? ty).map (·.size)=some L.length) (hs:L.length=cur.size) (h1:(L.all (·.oneCell'))=true) (w0:World) (hB:Below w0.heap.size w0 w) (hBg:w0.heap.size<=g)
 (h:∀ w',Box w' g L.toArray t->Below w0.heap.size w0 w'->(∀ k,k≠g->w'.heap[k]?=w.heap[k]?)->K a w'):o.wp P a w K Q:=by
 unfold Oper.wp execOp
 simp only[ho,hx,hy,Instr.storeAt,Instr.sureAddr,Sem.run_bind,Sem.run_pure,Result.andThen_ok,Zbw w g 0 t ty cur L hg hi (by omega) (List.all_eq_true.1 h1)]
 show K (a.put o.dst undef) _
 rw[hd,putC_all cur L hs]
 have hot:∀ k,k≠g->(w.setRow g L.toArray).heap[k]?=w.heap[k]?:=fun k hk=>by first|exact setRow_other _ _ _ _ hk|exact setRow_other _ _ hk
 exact h _ (Box.setRow hg _) (ZbT hB hBg _) hot
theorem ZeG (w:World)(g off:Nat)(t ty:TypeId)(cur:Array Value)(v:Value)(hg:w.heap[g]?=some (.cells cur t (0,0)))(hi:(P.info? ty).map (·.size)=some 1)
 (hs:off<cur.size) (h1:v.oneCell'=true) (hc:v.cells=#[v]):(storeVar ty ⟨g,off,none⟩ v).run P w=.ok () (w.setRow g (cur.setIfInBounds off v)):=by
 have:=ZbD (P:=P) g t [v] off cur w hg (by simp;omega) (fun x hx=>by simp at hx;rw[hx];exact h1)
 rw[<-Nat.add_zero off,<-Zbu g off [v] 0,Nat.add_zero]at this
 cases hq:P.info? ty with
 |none=>simp[hq]at hi
 |some i =>
  have hs:i.size=1:=by simp[hq]at hi;omega
  simp[storeVar,sizeOf,typeInfo,hq,hc,hs,this,putC]
theorem Zfj (ty:TypeId)(x y:Operand)(ho:o.op=.store ty x y)(hd:o.dst=none)(g off:Nat)(t:TypeId)(cur:Array Value)(v:Value)
 (hx:a.eval x=.pointer (some ⟨g,off,none⟩)) (hy:a.eval y=v) (hc:v.cells=#[v]) (h1:v.oneCell'=true) (hg:Box w g cur t) (hi:(P.info? ty).map (·.size)=some 1) (hs:off<cur.size) (w0:World) (hB:Below w0.heap.size w0 w) (hBg:w0.heap.size<=g)
 (h:∀ w',Box w' g (cur.setIfInBounds off v) t->Below w0.heap.size w0 w'->(∀ k,k≠g->w'.heap[k]?=w.heap[k]?)->K a w'):o.wp P a w K Q:=by
 unfold Oper.wp execOp
 simp only[ho,hx,hy,Instr.storeAt,Instr.sureAddr,Sem.run_bind,Sem.run_pure,Result.andThen_ok,ZeG w g off t ty cur v hg hi hs h1 hc]
 show K (a.put o.dst undef) _
 rw[hd]
 have hot:∀ k,k≠g->(w.setRow g (cur.setIfInBounds off v)).heap[k]?=w.heap[k]?:=fun k hk=>by first|exact setRow_other _ _ _ _ hk|exact setRow_other _ _ hk
 exact h _ (Box.setRow hg _) (ZbT hB hBg _) hot
end
section
variable {P:Program} {ops:Array Oper} {rest:List Oper} {o:Oper} {a:Act} {w:World} {Q:Exit->Act->World->Prop}
theorem ZdM (hgd:o.guard=none)(ty:TypeId)(x y:Operand)(ho:o.op=.store ty x y)(hd:o.dst=none)(g off:Nat)(t:TypeId)(cur:Array Value)(v:Value)
 (hx:a.eval x=.pointer (some ⟨g,off,none⟩)) (hy:a.eval y=v) (hc:v.cells=#[v]) (h1:v.oneCell'=true) (hg:Box w g cur t) (hi:(P.info? ty).map (·.size)=some 1) (hs:off<cur.size) (w0:World) (hB:Below w0.heap.size w0 w) (hBg:w0.heap.size<=g)
 (h:∀ w',Box w' g (cur.setIfInBounds off v) t->Below w0.heap.size w0 w'->(∀ k,k≠g->w'.heap[k]?=w.heap[k]?)->wpList P ops Q rest a w'):wpList P ops Q (o :: rest) a w :=
 wpList_plain hgd fun K hK=>Zfj ty x y ho hd g off t cur v hx hy hc h1 hg hi hs w0 hB hBg (fun w' hb hbe hot=>hK _ _ (h w' hb hbe hot))
end
end Go.Proofs.YtfnpfkgmacaboaaGreat
