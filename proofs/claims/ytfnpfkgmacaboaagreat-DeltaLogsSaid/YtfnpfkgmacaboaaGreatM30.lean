/- Texts joined by a program. -/
import Derived.Test.YtfnpfkgmacaboaaGreatM14
namespace Go.Proofs.YtfnpfkgmacaboaaGreat
open Go
set_option linter.unusedVariables false
section
variable {P:Program} {ops:Array Oper} {Q:Exit->Act->World->Prop} {md:Region.Mode} {S:World->Prop} {z:Nat}
def ZeV (P:Program)(md:Region.Mode)(ops:Array Oper)(Q:Exit->Act->World->Prop)(S:World->Prop)(z:Nat):Nat->Array Bool->Act->World->Prop
 |0,listed,a,w=>Region.ready md ops listed=[]/\Q .normal a w
 |fuel+1,listed,a,w =>
  (Region.ready md ops listed=[]->Q .normal a w) /\
  ∀ i∈Region.ready md ops listed,wpOp P ops Q i (fun a' w'=>(i≠z->S w')/\ZeV P md ops Q S z fuel (listed.setIfInBounds i true) a' w') a w
theorem wpAny_of_F:∀ (fuel:Nat) (listed:Array Bool) (a:Act) (w:World),ZeV P md ops Q S z fuel listed a w->wpAny P md ops Q fuel listed a w
 |0,_,_,_,h=>h
 |fuel+1,_,_,_,h=>⟨h.1,fun i hi=>wpOp_mono (fun a' w' h'=>wpAny_of_F fuel _ a' w' h'.2) (h.2 i hi)⟩
theorem wpAnyF_first {i:Nat}{oi:Oper}{v:Value}(hi:ops[i]?=some oi)(hz:∀ oz,ops[z]?=some oz->∃ e∈oz.after,Region.binds md e=true/\e.on=i)(hsel:∀ (j:Nat) (o:Oper) cs b,ops[j]?=some o->o.op≠.select cs b)
 (hQ:∀ c a w,Q (.panic c) (a.put oi.dst v) w->Q (.panic c) a w) :
 ∀ (fuel:Nat) (listed:Array Bool) (a:Act) (w:World),
  (∀ j oj,ops[j]?=some oj->j≠i->listed.getD j true=false->(∀ e∈oj.after,Region.binds md e=true->e.on≠i)->oi.apart ops oj=true) ->
  i∈Region.ready md ops listed->YieldsIf P ops S oi v a->S w ->
  ZeV P md ops Q S z fuel (listed.setIfInBounds i true) (a.put oi.dst v) w->ZeV P md ops Q S z (fuel+1) listed a w:=by
 intro fuel
 induction fuel with
 |zero =>
  intro listed a w _ hr hy hS H
  refine⟨fun h=>(by rw[h]at hr;cases hr),fun j hj=>?_⟩
  by_cases hji:j=i
  · subst hji;exact hy.wpOp hi hS ⟨fun _=>hS,H⟩
  · have:=ready_mono hj hji
    rw[H.1]at this
    cases this
 |succ fuel ih =>
  intro listed a w hfree hr hy hS H
  refine⟨fun h=>(by rw[h]at hr;cases hr),fun j hj=>?_⟩
  by_cases hji:j=i
  · subst hji;exact hy.wpOp hi hS ⟨fun _=>hS,H⟩
  · have h1:=H.2 j (ready_mono hj hji)
    obtain⟨hjun,oj,hoj,hall⟩:=mem_ready.1 hj
    have hnot:∀ e∈oj.after,Region.binds md e=true->e.on≠i:=fun e he hb heq=>by
     have h1:=hall e he hb
     have h0:=(mem_ready.1 hr).1
     rw[heq]at h1
     rcases Nat.lt_or_ge i listed.size with h'|h'
     · simp[h']at h0 h1;rw[h0]at h1;cases h1
     · simp[Array.getElem?_eq_none h']at h1
    have hjz:j≠z:=fun e=>by
     subst e
     obtain⟨x,hx,hb,hon⟩:=hz oj hoj
     exact hnot x hx hb hon
    have h2:=wpOp_putIf hoj (hfree j oj hoj hji hjun hnot) (fun cs b=>hsel i oi cs b hi) (fun cs b=>hsel j oj cs b hoj) hQ hy h1
    have hfree':∀ k ok,ops[k]?=some ok->k≠i->(listed.setIfInBounds j true).getD k true=false ->
     (∀ e∈ok.after,Region.binds md e=true->e.on≠i)->oi.apart ops ok=true:=fun k ok hk hki hun hno=>by
     refine hfree k ok hk hki ?_ hno
     by_cases hjk:j=k
     · subst hjk;exact hjun
     · rw[Array.getD_eq_getD_getElem?,Array.getElem?_setIfInBounds_ne hjk,<-Array.getD_eq_getD_getElem?]at hun;exact hun
    refine wpOp_mono (fun a' w' h3=>⟨h3.2.1,ih (listed.setIfInBounds j true) a' w' hfree' (ready_mono hr (Ne.symm hji)) h3.1 (h3.2.1 hjz) ?_⟩) h2
    rw[Array.setIfInBounds_comm _ _ hji]
    exact h3.2.2
def waitsB (md:Region.Mode)(ops:Array Oper)(z k:Nat):Bool:=match ops[z]? with
 |some o=>o.after.any (fun e=>Region.binds md e&&e.on==k)
 |none=>false
theorem waitsB_spec {k:Nat}(h:waitsB md ops z k=true):∀ oz,ops[z]?=some oz->∃ e∈oz.after,Region.binds md e=true/\e.on=k:=by
 intro oz hz
 unfold waitsB at h
 rw[hz]at h
 simp only[Array.any_eq_true,Bool.and_eq_true,beq_iff_eq]at h
 obtain⟨i,hi,h1,h2⟩:=h
 exact⟨oz.after[i],Array.getElem_mem hi,h1,h2⟩
def trBz (md:Region.Mode)(ops:Array Oper)(z:Nat):Tr->Array Bool->Bool
 |.done,listed=>(Region.ready md ops listed).isEmpty
 |.free k t,listed=>(Region.ready md ops listed).contains k&&Region.free md ops listed k&&waitsB md ops z k&&trBz md ops z t (listed.setIfInBounds k true)
 |.one k t,listed=>decide (Region.ready md ops listed=[k])&&trBz md ops z t (listed.setIfInBounds k true)
 |.two k t j u,listed=>decide (Region.ready md ops listed=[k,j])&&trBz md ops z t (listed.setIfInBounds k true)&&trBz md ops z u (listed.setIfInBounds j true)
def stepZ (P:Program)(ops:Array Oper)(Q:Exit->Act->World->Prop)(S:World->Prop)(z:Nat)(k:Nat)(K:Act->World->Prop)(a:Act)(w:World):Prop :=
 ∃ o,ops[k]?=some o/\Region.wanted o (yielded ops a.tmps)=true/\o.wp P a w (fun a' w'=>(k≠z->S w')/\K a' w') Q
def trWz (P:Program)(ops:Array Oper)(Q:Exit->Act->World->Prop)(S:World->Prop)(z:Nat):Tr->Act->World->Prop
 |.done,a,w=>Q .normal a w
 |.free k t,a,w=>S w/\∃ o v,ops[k]?=some o/\YieldsIf P ops S o v a/\trWz P ops Q S z t (a.put o.dst v) w
 |.one k t,a,w=>stepZ P ops Q S z k (trWz P ops Q S z t) a w
 |.two k t j u,a,w=>stepZ P ops Q S z k (trWz P ops Q S z t) a w/\stepZ P ops Q S z j (trWz P ops Q S z u) a w
theorem stepZ_op {k:Nat}{K:Act->World->Prop}{a:Act}{w:World}{n:Nat}{listed:Array Bool}(ih:∀ a w,K a w->ZeV P md ops Q S z n (listed.setIfInBounds k true) a w)
 (h:stepZ P ops Q S z k K a w):wpOp P ops Q k (fun a' w'=>(k≠z->S w')/\ZeV P md ops Q S z n (listed.setIfInBounds k true) a' w') a w:=by
 obtain⟨o,h0,hw,h⟩:=h
 unfold wpOp
 simp only[h0,hw,if_true]
 exact Or.inl (Oper.wp_mono (fun a' w' h'=>⟨h'.1,ih a' w' h'.2⟩) h)
theorem ZdH (hsel:Region.noSelect ops=true)(hQ:∀ c a (d:Tmp) v w,Q (.panic c) (a.put (some d) v) w->Q (.panic c) a w) :
 ∀ (t:Tr) (n:Nat) (listed:Array Bool) (a:Act) (w:World),t.height<=n->trBz md ops z t listed=true->trWz P ops Q S z t a w->ZeV P md ops Q S z n listed a w
 |.done,0,listed,a,w,_,hB,h=>⟨by simpa [trBz]using hB,h⟩
 |.done,n+1,listed,a,w,_,hB,h=>by
  have hr:Region.ready md ops listed=[]:=by simpa [trBz]using hB
  exact⟨fun _=>h,by rw[hr];simp⟩
 |.free k t,0,_,_,_,hn,_,_=>by simp[Tr.height]at hn
 |.free k t,n+1,listed,a,w,hn,hB,h=>by
  simp only[trBz,Bool.and_eq_true]at hB
  obtain⟨hS,o,v,h0,hy,h⟩:=h
  exact wpAnyF_first h0 (waitsB_spec hB.1.2) (Region.noSelect_spec hsel) (fun c a w=>by cases hd:o.dst with|none=>exact fun h=>h|some d=>exact hQ c a d v w) n listed a w (Region.free_spec h0 hB.1.1.2) (by simpa using hB.1.1.1) hy hS
   (ZdH hsel hQ t n _ _ _ (by simp[Tr.height]at hn;exact hn) hB.2 h)
 |.one k t,0,_,_,_,hn,_,_=>by simp[Tr.height]at hn
 |.one k t,n+1,listed,a,w,hn,hB,h=>by
  simp only[trBz,Bool.and_eq_true,decide_eq_true_eq]at hB
  refine⟨(fun h0=>by rw[hB.1]at h0;cases h0),fun i hi=>?_⟩
  rw[hB.1]at hi
  obtain rfl:i=k:=by simpa using hi
  exact stepZ_op (fun a w h=>ZdH hsel hQ t n _ a w (by simp[Tr.height]at hn;exact hn) hB.2 h) h
 |.two k t j u,0,_,_,_,hn,_,_=>by simp[Tr.height]at hn
 |.two k t j u,n+1,listed,a,w,hn,hB,h=>by
  simp only[trBz,Bool.and_eq_true,decide_eq_true_eq]at hB
  simp only[Tr.height]at hn
  refine⟨(fun h0=>by rw[hB.1.1]at h0;cases h0),fun i hi=>?_⟩
  rw[hB.1.1]at hi
  rcases List.mem_cons.1 hi with rfl|hi
  · exact stepZ_op (fun a w h=>ZdH hsel hQ t n _ a w (by omega) hB.1.2 h) h.1
  · obtain rfl:i=j:=by simpa using hi
    exact stepZ_op (fun a w h=>ZdH hsel hQ u n _ a w (by omega) hB.2 h) h.2
theorem Zbd {id:Nat}{ops:Array Oper}{a:Act}{w:World}(z:Nat)(t:Tr)(hm:P.follows .mixedOrders=true)(hsel:Region.noSelect ops=true)(hQ:∀ c a (d:Tmp) v w,Q (.panic c) (a.put (some d) v) w->Q (.panic c) a w)
 (hB:trBz .any ops z t (Array.replicate ops.size false)=true) (hn:(decide (t.height<=ops.size))=true) (hS:S w.drew) (h:S w.drew->trWz P ops Q S z t a w.drew):(Code.region id ops true).wp P Q a w :=
 wp_region_any hm (wpAny_of_F _ _ _ _ (ZdH (S:=S) (z:=z) hsel hQ t _ _ a _ (by simpa using hn) hB (h hS)))
section
variable {o:Oper} {k j:Nat} {t u:Tr} {a:Act} {w:World}
theorem trz_take (hS:S w)(o:Oper)(v:Value)(ho:ops.toList[k]?=some o)(hw:Region.wanted o (yielded ops a.tmps)=true)(hv:∀ w,S w->(execOp a.eval o).run P w=.ok (.value v) w)(h:trWz P ops Q S z t (a.put o.dst v) w):trWz P ops Q S z (.free k t) a w:=⟨hS,o,v,operAt ho,Or.inl ⟨hw,hv⟩,h⟩
theorem zk {F:World->Prop}(hSS:S w)(HQ:∀ w,S w->F w)(v:Value){o:Oper}{a':Act}(h:trWz P ops Q S z t a' w)(ho:ops.toList[k]?=some o:=by exact rfl)(hw:Region.wanted o (yielded ops a.tmps)=true:=by rfl)(hv:∀ w,S w->F w->(execOp a.eval o).run P w=.ok (.value v) w:=by intro wq hSw KQ;(try simp only[Cl,Nat.reduceAdd]at KQ);go_simp)
 (e:a.put o.dst v=a':=by simp only[Act.put,m1,m2,m3];rfl):trWz P ops Q S z (.free k t) a w:=trz_take hSS o v ho hw (fun w h1=>hv w h1 (HQ w h1)) (e ▸ h)
theorem Zbp (o:Oper)(ho:ops.toList[k]?=some o)(hw:Region.wanted o (yielded ops a.tmps)=true)(h:∀ K':Act->World->Prop,Shut (∀ a w,(k≠z->S w)->trWz P ops Q S z t a w->K' a w)->Oper.wp P o a w K' Q):trWz P ops Q S z (.one k t) a w :=
 ⟨o,operAt ho,hw,h _ (fun a w hS h=>⟨hS,h⟩)⟩
theorem ZdG (h:Q .normal a w):trWz P ops Q S z .done a w:=h
theorem ZdF (hS:S w)(o:Oper)(ho:ops.toList[k]?=some o)(hw:Region.wanted o (yielded ops a.tmps)=true)(ty:TypeId)(x:Operand)(hop:o.op=.load ty x)(b off:Nat)(L:List Value)(hx:a.eval x=.pointer (some ⟨b,off,none⟩))(hc:∀ w,S w->∀ j v,L[j]?=some v->w.cell? ⟨b,off+j,none⟩=some v)
 (d:TypeDesc) (hu:P.underlying ty=some d) (hd:(match d with|.struct _|.array _ _=>true|_=>false)=true) (hi:(P.info? ty).map (·.size)=some L.length)
 (h:∀ v,v=.agg L.toArray->trWz P ops Q S z t (a.put o.dst v) w):trWz P ops Q S z (.free k t) a w:=by
 refine trz_take hS o (.agg L.toArray) ho hw (fun w hS=>?_) (h _ rfl)
 unfold execOp
 simp only[hop,hx,Instr.loadAt,Instr.sureAddr,Sem.run_bind,Sem.run_pure,Result.andThen_ok,ZaF w b off ty L d (hc w hS) hu hd hi]
end
end
end Go.Proofs.YtfnpfkgmacaboaaGreat
