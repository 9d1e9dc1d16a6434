/- Texts joined by a program. -/
import Derived.Test.YtfnpfkgmacaboaaGreatM12
import Derived.Test.YtfnpfkgmacaboaaGreatM13
namespace Go.Proofs.YtfnpfkgmacaboaaGreat
open Go.Proofs.Tryz
open Lib (hid)
open Go
set_option linter.unusedVariables false
inductive Tr where
 |done:Tr
 |free (k:Nat) (t:Tr):Tr
 |one (k:Nat) (t:Tr):Tr
 |two (k:Nat) (t:Tr) (j:Nat) (u:Tr):Tr
def Tr.height:Tr->Nat
 |.done=>0
 |.free _ t=>t.height+1
 |.one _ t=>t.height+1
 |.two _ t _ u=>max t.height u.height+1
section
variable {P:Program} {ops:Array Oper} {Q:Exit->Act->World->Prop} {md:Region.Mode} {S:World->Prop}
def trB (md:Region.Mode)(ops:Array Oper):Tr->Array Bool->Bool
 |.done,listed=>(Region.ready md ops listed).isEmpty
 |.free k t,listed=>(Region.ready md ops listed).contains k&&Region.free md ops listed k&&trB md ops t (listed.setIfInBounds k true)
 |.one k t,listed=>decide (Region.ready md ops listed=[k])&&trB md ops t (listed.setIfInBounds k true)
 |.two k t j u,listed=>decide (Region.ready md ops listed=[k,j])&&trB md ops t (listed.setIfInBounds k true)&&trB md ops u (listed.setIfInBounds j true)
def stepT (P:Program)(ops:Array Oper)(Q:Exit->Act->World->Prop)(S:World->Prop)(k:Nat)(K:Act->World->Prop)(a:Act)(w:World):Prop :=
 ∃ o,ops[k]?=some o/\if Region.wanted o (yielded ops a.tmps)=true then o.wp P a w (fun a' w'=>S w'/\K a' w') Q else K (a.put o.dst undef) w
def trW (P:Program)(ops:Array Oper)(Q:Exit->Act->World->Prop)(S:World->Prop):Tr->Act->World->Prop
 |.done,a,w=>Q .normal a w
 |.free k t,a,w=>∃ o v,ops[k]?=some o/\YieldsIf P ops S o v a/\trW P ops Q S t (a.put o.dst v) w
 |.one k t,a,w=>stepT P ops Q S k (trW P ops Q S t) a w
 |.two k t j u,a,w=>stepT P ops Q S k (trW P ops Q S t) a w/\stepT P ops Q S j (trW P ops Q S u) a w
theorem stepT_op {k:Nat}{K:Act->World->Prop}{a:Act}{w:World}{n:Nat}{listed:Array Bool}(hS:S w)(ih:∀ a w,S w->K a w->wpAnyH P md ops Q S n (listed.setIfInBounds k true) a w)
 (h:stepT P ops Q S k K a w):wpOp P ops Q k (fun a' w'=>S w'/\wpAnyH P md ops Q S n (listed.setIfInBounds k true) a' w') a w:=by
 obtain⟨o,h0,h⟩:=h
 unfold wpOp
 simp only[h0]
 split
 · rename_i hw
   rw[if_pos hw]at h
   exact Or.inl (Oper.wp_mono (fun a' w' h'=>⟨h'.1,ih a' w' h'.1 h'.2⟩) h)
 · rename_i hw
   rw[if_neg hw]at h
   exact⟨hS,ih _ _ hS h⟩
theorem ZeY (hsel:Region.noSelect ops=true)(hQ:∀ c a (d:Tmp) v w,Q (.panic c) (a.put (some d) v) w->Q (.panic c) a w) :
 ∀ (t:Tr) (n:Nat) (listed:Array Bool) (a:Act) (w:World),t.height<=n->trB md ops t listed=true->S w->trW P ops Q S t a w->wpAnyH P md ops Q S n listed a w
 |.done,n,listed,a,w,_,hB,_,h=>wpAnyH_done (by simpa [trB]using hB) h n
 |.free k t,0,_,_,_,hn,_,_,_=>by simp[Tr.height]at hn
 |.free k t,n+1,listed,a,w,hn,hB,hS,h=>by
  simp only[trB,Bool.and_eq_true]at hB
  obtain⟨o,v,h0,hy,h⟩:=h
  exact wpAnyH_take h0 hsel hB.1.2 hB.1.1 (fun c a w=>by cases hd:o.dst with|none=>exact fun h=>h|some d=>exact hQ c a d v w) hy hS (ZeY hsel hQ t n _ _ _ (by simp[Tr.height]at hn;exact hn) hB.2 hS h)
 |.one k t,0,_,_,_,hn,_,_,_=>by simp[Tr.height]at hn
 |.one k t,n+1,listed,a,w,hn,hB,hS,h=>by
  simp only[trB,Bool.and_eq_true,decide_eq_true_eq]at hB
  refine wpAnyH_all hB.1 (by simp) (fun i hi=>?_)
  obtain rfl:i=k:=by simpa using hi
  exact stepT_op hS (fun a w hS h=>ZeY hsel hQ t n _ a w (by simp[Tr.height]at hn;exact hn) hB.2 hS h) h
 |.two k t j u,0,_,_,_,hn,_,_,_=>by simp[Tr.height]at hn
 |.two k t j u,n+1,listed,a,w,hn,hB,hS,h=>by
  simp only[trB,Bool.and_eq_true,decide_eq_true_eq]at hB
  simp only[Tr.height]at hn
  refine wpAnyH_all hB.1.1 (by simp) (fun i hi=>?_)
  rcases List.mem_cons.1 hi with rfl|hi
  · exact stepT_op hS (fun a w hS h=>ZeY hsel hQ t n _ a w (by omega) hB.1.2 hS h) h.1
  · obtain rfl:i=j:=by simpa using hi
    exact stepT_op hS (fun a w hS h=>ZeY hsel hQ u n _ a w (by omega) hB.2 hS h) h.2
theorem wp_region_tree {id:Nat}{ops:Array Oper}{a:Act}{w:World}(t:Tr)(hm:P.follows .mixedOrders=true)(hsel:Region.noSelect ops=true)(hQ:∀ c a (d:Tmp) v w,Q (.panic c) (a.put (some d) v) w->Q (.panic c) a w)
 (hB:trB .any ops t (Array.replicate ops.size false)=true) (hn:(decide (t.height<=ops.size))=true) (hS:S w.drew) (h:trW P ops Q S t a w.drew):(Code.region id ops true).wp P Q a w :=
 wp_region_held hm (ZeY hsel hQ t _ _ a _ (by simpa using hn) hB hS h)
section
variable {o:Oper} {k j:Nat} {t u:Tr} {a:Act} {w:World}
theorem operAt {ops:Array Oper}{k:Nat}{o:Oper}(h:ops.toList[k]?=some o):ops[k]?=some o:=by rw[<-Array.getElem?_toList];exact h
theorem tr_take (o:Oper)(v:Value)(ho:ops.toList[k]?=some o)(hw:Region.wanted o (yielded ops a.tmps)=true)(hv:∀ w,S w->(execOp a.eval o).run P w=.ok (.value v) w)(h:trW P ops Q S t (a.put o.dst v) w):trW P ops Q S (.free k t) a w:=⟨o,v,operAt ho,Or.inl ⟨hw,hv⟩,h⟩
theorem tr_off (o:Oper)(ho:ops.toList[k]?=some o)(hw:Region.wanted o (yielded ops a.tmps)=false)(h:trW P ops Q S t (a.put o.dst undef) w):trW P ops Q S (.free k t) a w:=⟨o,undef,operAt ho,Or.inr ⟨hw,rfl⟩,h⟩
theorem stepT_call (o:Oper){K:Act->World->Prop}(ho:ops.toList[k]?=some o)(hw:Region.wanted o (yielded ops a.tmps)=true)(h:∀ K':Act->World->Prop,Shut (∀ a w,S w->(S w->K a w)->K' a w)->Oper.wp P o a w K' Q):stepT P ops Q S k K a w:=by
 refine⟨o,operAt ho,?_⟩
 rw[if_pos hw]
 exact h _ (fun a w hS h=>⟨hS,h hS⟩)
theorem tr_one (o:Oper)(ho:ops.toList[k]?=some o)(hw:Region.wanted o (yielded ops a.tmps)=true)(h:∀ K':Act->World->Prop,Shut (∀ a w,S w->(S w->trW P ops Q S t a w)->K' a w)->Oper.wp P o a w K' Q):trW P ops Q S (.one k t) a w:=stepT_call o ho hw h
theorem ZeX (h1:trW P ops Q S (.one k t) a w)(h2:trW P ops Q S (.one j u) a w):trW P ops Q S (.two k t j u) a w:=⟨h1,h2⟩
theorem ZaP (h:Q .normal a w):trW P ops Q S .done a w:=h
theorem tr_load (o:Oper)(ho:ops.toList[k]?=some o)(hw:Region.wanted o (yielded ops a.tmps)=true)(ty:TypeId)(x:Operand)(hop:o.op=.load ty x)(b off:Nat)(L:List Value)(hx:a.eval x=.pointer (some ⟨b,off,none⟩))(hc:∀ w,S w->∀ j v,L[j]?=some v->w.cell? ⟨b,off+j,none⟩=some v)
 (d:TypeDesc) (hu:P.underlying ty=some d) (hd:(match d with|.struct _|.array _ _=>true|_=>false)=true) (hi:(P.info? ty).map (·.size)=some L.length)
 (h:∀ v,v=.agg L.toArray->trW P ops Q S t (a.put o.dst v) w):trW P ops Q S (.free k t) a w:=by
 refine tr_take o (.agg L.toArray) ho hw (fun w hS=>?_) (h _ rfl)
 unfold execOp
 simp only[hop,hx,Instr.loadAt,Instr.sureAddr,Sem.run_bind,Sem.run_pure,Result.andThen_ok,ZaF w b off ty L d (hc w hS) hu hd hi]
end
end
section
variable {P:Program} {md:Region.Mode} {ops:Array Oper} {Q:Exit->Act->World->Prop} {S:World->Prop} {k j:Nat} {t u:Tr} {a:Act} {w:World}
theorem tk {F:World->Prop}(HQ:∀ w,S w->F w)(v:Value){o:Oper}{a':Act}(h:trW P ops Q S t a' w)(ho:ops.toList[k]?=some o:=by exact rfl)(hw:Region.wanted o (yielded ops a.tmps)=true:=by rfl)(hv:∀ w,S w->F w->(execOp a.eval o).run P w=.ok (.value v) w:=by intro wq hSw KQ;(try simp only[Cl,Nat.reduceAdd]at KQ);go_simp)
 (e:a.put o.dst v=a':=by simp only[Act.put,m1,m2,m3];rfl):trW P ops Q S (.free k t) a w:=tr_take o v ho hw (fun w h1=>hv w h1 (HQ w h1)) (e ▸ h)
theorem tk0 (v:Value){o:Oper}{a':Act}(h:trW P ops Q S t a' w)(ho:ops.toList[k]?=some o:=by exact rfl)(hw:Region.wanted o (yielded ops a.tmps)=true:=by rfl)(hv:∀ w,S w->(execOp a.eval o).run P w=.ok (.value v) w:=by intro wq hSw;go_simp)
 (e:a.put o.dst v=a':=by simp only[Act.put,m1,m2,m3];rfl):trW P ops Q S (.free k t) a w:=tr_take o v ho hw hv (e ▸ h)
theorem tl (b off:Nat)(L:List Value)(hc:∀ w,S w->∀ j v,L[j]?=some v->w.cell? ⟨b,off+j,none⟩=some v){o:Oper}{a':Act}{ty:TypeId}{x:Operand}(h:trW P ops Q S t a' w)(ho:ops.toList[k]?=some o:=by exact rfl)(hw:Region.wanted o (yielded ops a.tmps)=true:=by rfl)
 (hop:o.op=.load ty x:=by exact rfl) (hx:a.eval x=.pointer (some ⟨b,off,none⟩):=by exact rfl) (hu:(P.underlying ty).any (fun d=>match d with|.struct _|.array _ _=>true|_=>false)=true:=by kernel_rfl) (hi:(P.info? ty).map (·.size)=some L.length:=by kernel_rfl)
 (e:a.put o.dst (.agg L.toArray)=a':=by simp only[Act.put,m1,m2,m3];rfl):trW P ops Q S (.free k t) a w:=by
 cases hd:P.underlying ty with
 |none=>rw[hd]at hu;cases hu
 |some d =>
  rw[hd]at hu
  exact tr_load o ho hw ty x hop b off L hx hc d hd (by cases d<;>first|rfl|cases hu) hi (fun v hv=>by subst hv;exact e ▸ h)
theorem tro {o:Oper}{a':Act}(h:trW P ops Q S t a' w)(ho:ops.toList[k]?=some o:=by exact rfl)(hw:Region.wanted o (yielded ops a.tmps)=false:=by rfl)(e:a.put o.dst undef=a':=by simp only[Act.put,m1,m2,m3];rfl):trW P ops Q S (.free k t) a w:=tr_off o ho hw (e ▸ h)
theorem t1 {o:Oper}(h:∀ K':Act->World->Prop,Shut (∀ a w,S w->(S w->trW P ops Q S t a w)->K' a w)->Oper.wp P o a w K' Q)(ho:ops.toList[k]?=some o:=by exact rfl)(hw:Region.wanted o (yielded ops a.tmps)=true:=by rfl):trW P ops Q S (.one k t) a w:=tr_one o ho hw h
theorem wrt {id:Nat}(t:Tr)(hS:S w.drew)(h:trW P ops Q S t a w.drew)(hm:P.follows .mixedOrders=true:=by kernel_rfl)(hsel:Region.noSelect ops=true:=by kernel_rfl)(hQ:∀ c a (d:Tmp) v w,Q (.panic c) (a.put (some d) v) w->Q (.panic c) a w:=by exact fun _ _ _ _ _ h=>h)
 (hB:trB .any ops t (Array.replicate ops.size false)=true:=by kernel_rfl) (hn:(decide (t.height<=ops.size))=true:=by kernel_rfl):(Code.region id ops true).wp P Q a w:=wp_region_tree t hm hsel hQ hB hn hS h
end
open Go.ChangeShapes Go.WideShapes Go.ChangeAt Go.RowKit
set_option linter.unusedSimpArgs false
set_option maxRecDepth 100000
section
variable {P:Program} {o:Oper} {a:Act} {w:World} {K:Act->World->Prop} {Q:Exit->Act->World->Prop}
theorem Zed (ty:TypeId)(ho:o.op=.alloc ty)(L:List Value)(hz:(P.info? ty).map (fun i=>i.zero.map (fun z=>z.cells))=some (some L.toArray))
 (h:∀ w',Box w' w.heap.size L.toArray ty->Below w.heap.size w w'->K (a.put o.dst (.pointer (some ⟨w.heap.size,0,none⟩))) w'):o.wp P a w K Q:=by
 obtain⟨i,hq,z,hzi,hzs⟩:∃ i,P.info? ty=some i/\∃ z,i.zero=some z/\z.cells=L.toArray:=by
  cases hq:P.info? ty with
  |none=>rw[hq]at hz;simp at hz
  |some i =>
   rw[hq]at hz
   simp at hz
   obtain⟨z,h3,h4⟩:=hz
   exact⟨i,rfl,z,h3,h4⟩
 unfold Oper.wp
 rw[Zbr ty ho _ i z hq hzi,hzs]
 exact h _ (Box.new _ _ _) (Zab _)
theorem Zcn (ty:TypeId)(x y:Operand)(ho:o.op=.store ty x y)(hd:o.dst=none)(g:Nat)(t:TypeId)(cur:Array Value)(L:List Value)
 (hx:a.eval x=.pointer (some ⟨g,0,none⟩)) (hy:a.eval y=.agg L.toArray) (hg:Box w g cur t) (hi:(P.info? ty).map (·.size)=some L.length) (hs:L.length=cur.size) (h1:(L.all (·.oneCell'))=true) (w0:World) (hB:Below w0.heap.size w0 w) (hBg:w0.heap.size<=g)
 (h:∀ w',Box w' g L.toArray t->Below w0.heap.size w0 w'->(∀ k,k≠g->w'.heap[k]?=w.heap[k]?)->K a w'):o.wp P a w K Q:=by
 unfold Oper.wp execOp
 simp only[ho,hx,hy,Instr.storeAt,Instr.sureAddr,Sem.run_bind,Sem.run_pure,Result.andThen_ok,Zbl w g 0 t ty cur L hg hi (by omega) (List.all_eq_true.1 h1)]
 show K (a.put o.dst undef) _
 rw[hd,putC_all cur L hs]
 have hot:∀ k,k≠g->(w.setRow g L.toArray).heap[k]?=w.heap[k]?:=fun k hk=>by first|exact setRow_other _ _ _ _ hk|exact setRow_other _ _ hk
 exact h _ (Box.setRow hg _) (ZbH hB hBg _) hot
theorem Zex (w:World)(g off:Nat)(t ty:TypeId)(cur:Array Value)(v:Value)(hg:w.heap[g]?=some (.cells cur t (0,0)))(hi:(P.info? ty).map (·.size)=some 1)
 (hs:off<cur.size) (h1:v.oneCell'=true) (hc:v.cells=#[v]):(storeVar ty ⟨g,off,none⟩ v).run P w=.ok () (w.setRow g (cur.setIfInBounds off v)):=by
 have:=Zbt (P:=P) g t [v] off cur w hg (by simp;omega) (fun x hx=>by simp at hx;rw[hx];exact h1)
 rw[<-Nat.add_zero off,<-Zbk g off [v] 0,Nat.add_zero]at this
 cases hq:P.info? ty with
 |none=>simp[hq]at hi
 |some i =>
  have hs:i.size=1:=by simp[hq]at hi;omega
  simp[storeVar,sizeOf,typeInfo,hq,hc,hs,this,putC]
theorem Ze9 (ty:TypeId)(x y:Operand)(ho:o.op=.store ty x y)(hd:o.dst=none)(g off:Nat)(t:TypeId)(cur:Array Value)(v:Value)
 (hx:a.eval x=.pointer (some ⟨g,off,none⟩)) (hy:a.eval y=v) (hc:v.cells=#[v]) (h1:v.oneCell'=true) (hg:Box w g cur t) (hi:(P.info? ty).map (·.size)=some 1) (hs:off<cur.size) (w0:World) (hB:Below w0.heap.size w0 w) (hBg:w0.heap.size<=g)
 (h:∀ w',Box w' g (cur.setIfInBounds off v) t->Below w0.heap.size w0 w'->(∀ k,k≠g->w'.heap[k]?=w.heap[k]?)->K a w'):o.wp P a w K Q:=by
 unfold Oper.wp execOp
 simp only[ho,hx,hy,Instr.storeAt,Instr.sureAddr,Sem.run_bind,Sem.run_pure,Result.andThen_ok,Zex w g off t ty cur v hg hi hs h1 hc]
 show K (a.put o.dst undef) _
 rw[hd]
 have hot:∀ k,k≠g->(w.setRow g (cur.setIfInBounds off v)).heap[k]?=w.heap[k]?:=fun k hk=>by first|exact setRow_other _ _ _ _ hk|exact setRow_other _ _ hk
 exact h _ (Box.setRow hg _) (ZbH hB hBg _) hot
end
section
variable {P:Program} {ops:Array Oper} {rest:List Oper} {o:Oper} {a:Act} {w:World} {Q:Exit->Act->World->Prop}
theorem ZdA (hgd:o.guard=none)(ty:TypeId)(x y:Operand)(ho:o.op=.store ty x y)(hd:o.dst=none)(g off:Nat)(t:TypeId)(cur:Array Value)(v:Value)
 (hx:a.eval x=.pointer (some ⟨g,off,none⟩)) (hy:a.eval y=v) (hc:v.cells=#[v]) (h1:v.oneCell'=true) (hg:Box w g cur t) (hi:(P.info? ty).map (·.size)=some 1) (hs:off<cur.size) (w0:World) (hB:Below w0.heap.size w0 w) (hBg:w0.heap.size<=g)
 (h:∀ w',Box w' g (cur.setIfInBounds off v) t->Below w0.heap.size w0 w'->(∀ k,k≠g->w'.heap[k]?=w.heap[k]?)->wpList P ops Q rest a w'):wpList P ops Q (o :: rest) a w :=
 wpList_plain hgd fun K hK=>Ze9 ty x y ho hd g off t cur v hx hy hc h1 hg hi hs w0 hB hBg (fun w' hb hbe hot=>hK _ _ (h w' hb hbe hot))
end
set_option maxHeartbeats 4000000
theorem zeroX_of {n:Nat}{w w':World}{y:Ex}(h:ExAt n w y):ExAt n w' (⟨0,⟨#[]⟩,⟨#[]⟩,⟨#[]⟩,0,0,⟨#[]⟩,none,0,0,0,0,0,none,0,0⟩:Ex):=by
 cases n with
 |zero=>exact h.elim
 |succ n=>exact⟨ZaH.nil _ _,by decide,[],rfl,by decide,Zac.nil _ _,fun y hy=>(by cases hy)⟩
theorem proper_det (a_k:Int)(a_tm:ByteArray)(a_te:ByteArray)(a_tfa:Option Addr)(a_tfn:Nat)(a_tfc:Nat)(a_tp:Int)(a_fm:ByteArray)(a_fe:ByteArray)(a_ftk:Int)(a_ftua:Option Addr)(a_ftun:Nat)(a_ftuc:Nat)(a_fto:ByteArray)(a_fbk:Int)(a_fbo:ByteArray)(a_fbm:ByteArray)(a_fbt:ByteArray)(a_fbvk:Int)(a_fbvn:Int)(a_fbvs:ByteArray)(a_fbua:Option Addr)(a_fbun:Nat)(a_fbuc:Nat)(a_fbp:Int)(a_fbwk:Int)(a_fbwz:Int)(a_fbxa:Option Addr)(a_fbxn:Nat)(a_fbxc:Nat)(a_fr:Int)(a_m:ByteArray)(w0:World)(n:Nat)(h1a_:FdsAt w0 a_tfa a_tfn)(h2a_:ZaH w0 a_ftua a_ftun)(h3a_:ExAt n w0 ⟨a_fbk,a_fbo,a_fbm,a_fbt,a_fbvk,a_fbvn,a_fbvs,a_fbua,a_fbun,a_fbuc,a_fbp,a_fbwk,a_fbwz,a_fbxa,a_fbxn,a_fbxc⟩):∃ r:Bool,∀ (w:World),Below w0.heap.size w0 w->Calls prog 142 #[.agg #[.int .i64 a_k,.string a_tm,.string a_te,.slice a_tfa a_tfn a_tfc,.int .i64 a_tp,.string a_fm,.string a_fe,.int .i64 a_ftk,.slice a_ftua a_ftun a_ftuc,.string a_fto,.int .i64 a_fbk,.string a_fbo,.string a_fbm,.string a_fbt,.int .i64 a_fbvk,.int .i64 a_fbvn,.string a_fbvs,.slice a_fbua a_fbun a_fbuc,.int .i64 a_fbp,.int .i64 a_fbwk,.int .i64 a_fbwz,.slice a_fbxa a_fbxn a_fbxc,.int .i64 a_fr,.string a_m]] w (RetB r w):=by
 obtain⟨r1,h4⟩:=Zci a_k a_tm a_te a_tfa a_tfn a_tfc a_tp a_fm a_fe a_ftk a_ftua a_ftun a_ftuc a_fto a_fbk a_fbo a_fbm a_fbt a_fbvk a_fbvn a_fbvs a_fbua a_fbun a_fbuc a_fbp a_fbwk a_fbwz a_fbxa a_fbxn a_fbxc a_fr a_m a_k a_tm a_te a_tfa a_tfn a_tfc a_tp ⟨#[]⟩ ⟨#[]⟩ 0 none 0 0 ⟨#[]⟩ 0 ⟨#[]⟩ ⟨#[]⟩ ⟨#[]⟩ 0 0 ⟨#[]⟩ none 0 0 0 0 0 none 0 0 0 ⟨#[]⟩ w0 n h1a_ h2a_ h3a_ h1a_ (ZaH.nil _ _) (zeroX_of h3a_)
 obtain⟨r2,h5⟩:=Zci a_k a_tm a_te a_tfa a_tfn a_tfc a_tp a_fm a_fe a_ftk a_ftua a_ftun a_ftuc a_fto a_fbk a_fbo a_fbm a_fbt a_fbvk a_fbvn a_fbvs a_fbua a_fbun a_fbuc a_fbp a_fbwk a_fbwz a_fbxa a_fbxn a_fbxc a_fr a_m a_k ⟨#[]⟩ ⟨#[]⟩ none 0 0 0 a_fm a_fe a_ftk a_ftua a_ftun a_ftuc a_fto a_fbk a_fbo a_fbm a_fbt a_fbvk a_fbvn a_fbvs a_fbua a_fbun a_fbuc a_fbp a_fbwk a_fbwz a_fbxa a_fbxn a_fbxc a_fr ⟨#[]⟩ w0 n h1a_ h2a_ h3a_ (FdsAt.nil _ _) h2a_ h3a_
 obtain⟨r3,h6⟩:=Zci a_k a_tm a_te a_tfa a_tfn a_tfc a_tp a_fm a_fe a_ftk a_ftua a_ftun a_ftuc a_fto a_fbk a_fbo a_fbm a_fbt a_fbvk a_fbvn a_fbvs a_fbua a_fbun a_fbuc a_fbp a_fbwk a_fbwz a_fbxa a_fbxn a_fbxc a_fr a_m a_k ⟨#[]⟩ ⟨#[]⟩ none 0 0 0 ⟨#[]⟩ ⟨#[]⟩ 0 none 0 0 ⟨#[]⟩ 0 ⟨#[]⟩ ⟨#[]⟩ ⟨#[]⟩ 0 0 ⟨#[]⟩ none 0 0 0 0 0 none 0 0 0 a_m w0 n h1a_ h2a_ h3a_ (FdsAt.nil _ _) (ZaH.nil _ _) (zeroX_of h3a_)
 have Yv:=hid h4
 have Xv:=hid h5
 have Pr:=hid h6
 clear h4 h5 h6 h1a_ h2a_ h3a_
 obtain⟨R,hR⟩:∃ R,R=(((a_k==1)&&r1)||(((a_k==2)&&r2)||(((a_k==3)||((a_k==4)||(a_k==5)))&&r3))):=⟨_,rfl⟩
 have HR:=hid hR
 clear hR
 refine⟨R,fun w hw=>?_⟩
 have Ja:=hid hw
 clear hw
 go_enter func142,ntmps142
 go_upto_region 1 with fail
 refine gen1 (fun V B0 Aa=>?_)
 have Ga:Hid (Below w0.heap.size w0 V):=Ja.out.trans (Aa.out.mono Ja.out.size)
 have HS:Hid (∀ w',Below V.heap.size V w'->w'.cell? ⟨w.heap.size,0,none⟩=some (.int .i64 a_k)/\w'.cell? ⟨w.heap.size,1,none⟩=some (.string a_tm)/\w'.cell? ⟨w.heap.size,2,none⟩=some (.string a_te)/\w'.cell? ⟨w.heap.size,3,none⟩=some (.slice a_tfa a_tfn a_tfc)/\w'.cell? ⟨w.heap.size,4,none⟩=some (.int .i64 a_tp)/\w'.cell? ⟨w.heap.size,23,none⟩=some (.string a_m)):=fun w' h=>⟨(B0.out.kept h).cell 0 _ rfl,(B0.out.kept h).cell 1 _ rfl,(B0.out.kept h).cell 2 _ rfl,(B0.out.kept h).cell 3 _ rfl,(B0.out.kept h).cell 4 _ rfl,(B0.out.kept h).cell 23 _ rfl⟩
 have Yo:Hid (∀ w',Below V.heap.size V w'->∀ (j:Nat) (v:Value),([.string a_fm,.string a_fe,.int .i64 a_ftk,.slice a_ftua a_ftun a_ftuc,.string a_fto,.int .i64 a_fbk,.string a_fbo,.string a_fbm,.string a_fbt,.int .i64 a_fbvk,.int .i64 a_fbvn,.string a_fbvs,.slice a_fbua a_fbun a_fbuc,.int .i64 a_fbp,.int .i64 a_fbwk,.int .i64 a_fbwz,.slice a_fbxa a_fbxn a_fbxc,.int .i64 a_fr]:List Value)[j]?=some v->w'.cell? ⟨w.heap.size,5+j,none⟩=some v):=fun w' h j v hj=>(B0.out.kept h).cell (5+j) v (ZaU (k:=5) (m:=18) hj rfl)
 have Ur:Hid (∀ w',Below V.heap.size V w'->∀ (j:Nat) (v:Value),([.int .i64 a_k,.string a_tm,.string a_te,.slice a_tfa a_tfn a_tfc,.int .i64 a_tp,.string a_fm,.string a_fe,.int .i64 a_ftk,.slice a_ftua a_ftun a_ftuc,.string a_fto,.int .i64 a_fbk,.string a_fbo,.string a_fbm,.string a_fbt,.int .i64 a_fbvk,.int .i64 a_fbvn,.string a_fbvs,.slice a_fbua a_fbun a_fbuc,.int .i64 a_fbp,.int .i64 a_fbwk,.int .i64 a_fbwz,.slice a_fbxa a_fbxn a_fbxc,.int .i64 a_fr,.string a_m]:List Value)[j]?=some v->w'.cell? ⟨w.heap.size,0+j,none⟩=some v):=fun w' h j v hj=>(B0.out.kept h).cell (0+j) v (ZaU (k:=0) (m:=24) hj rfl)
 obtain⟨Xa,Va,Ua,Rb,Vb,Bi⟩:=HS.out V (ZR V)
 go_upto_region 2 with(first|(refine Zba rfl rfl 46 (.tmp 3) (.tmp 6) rfl rfl rfl [.int .i64 a_k,.string ⟨#[]⟩,.string ⟨#[]⟩,.slice none 0 0,.int .i64 0,.string ⟨#[]⟩,.string ⟨#[]⟩,.int .i64 0,.slice none 0 0,.string ⟨#[]⟩,.int .i64 0,.string ⟨#[]⟩,.string ⟨#[]⟩,.string ⟨#[]⟩,.int .i64 0,.int .i64 0,.string ⟨#[]⟩,.slice none 0 0,.int .i64 0,.int .i64 0,.int .i64 0,.slice none 0 0,.int .i64 0,.string ⟨#[]⟩] rfl rfl (by kernel_rfl) (List.all_eq_true.1 (by rfl)) ?_)|fail)
 refine Zan (fun W hW=>?_)
 have BY0:Hid (Box W V.heap.size #[.int .i64 a_k,.string ⟨#[]⟩,.string ⟨#[]⟩,.slice none 0 0,.int .i64 0,.string ⟨#[]⟩,.string ⟨#[]⟩,.int .i64 0,.slice none 0 0,.string ⟨#[]⟩,.int .i64 0,.string ⟨#[]⟩,.string ⟨#[]⟩,.string ⟨#[]⟩,.int .i64 0,.int .i64 0,.string ⟨#[]⟩,.slice none 0 0,.int .i64 0,.int .i64 0,.int .i64 0,.slice none 0 0,.int .i64 0,.string ⟨#[]⟩] 46):=by rw[hW];exact Zb4 ..
 have HY:Hid (Below V.heap.size V W):=by rw[hW];exact bt
 clear hW
 have KK:=HS.out _ HY.out
 obtain⟨Xa,Va,Ua,Rb,Vb,Bi⟩:=KK
 have hkk:a_k=1∨a_k=2∨a_k=3∨a_k=4∨a_k=5∨(a_k<1∨5<a_k):=by omega
 rcases hkk with hk|hk|hk|hk|hk|hk
 all_goals
  try subst hk
  try(have e1:(a_k==1)=false:=beq_eq_false_iff_ne.2 (by omega))
  try(have e2:(a_k==2)=false:=beq_eq_false_iff_ne.2 (by omega))
  try(have e3:(a_k==3)=false:=beq_eq_false_iff_ne.2 (by omega))
  try(have e4:(a_k==4)=false:=beq_eq_false_iff_ne.2 (by omega))
  try(have e5:(a_k==5)=false:=beq_eq_false_iff_ne.2 (by omega))
 · have hq:putC #[.int .i64 1,.string ⟨#[]⟩,.string ⟨#[]⟩,.slice none 0 0,.int .i64 0,.string ⟨#[]⟩,.string ⟨#[]⟩,.int .i64 0,.slice none 0 0,.string ⟨#[]⟩,.int .i64 0,.string ⟨#[]⟩,.string ⟨#[]⟩,.string ⟨#[]⟩,.int .i64 0,.int .i64 0,.string ⟨#[]⟩,.slice none 0 0,.int .i64 0,.int .i64 0,.int .i64 0,.slice none 0 0,.int .i64 0,.string ⟨#[]⟩] 1 [.string a_tm,.string a_te,.slice a_tfa a_tfn a_tfc,.int .i64 a_tp]=#[.int .i64 1,.string a_tm,.string a_te,.slice a_tfa a_tfn a_tfc,.int .i64 a_tp,.string ⟨#[]⟩,.string ⟨#[]⟩,.int .i64 0,.slice none 0 0,.string ⟨#[]⟩,.int .i64 0,.string ⟨#[]⟩,.string ⟨#[]⟩,.string ⟨#[]⟩,.int .i64 0,.int .i64 0,.string ⟨#[]⟩,.slice none 0 0,.int .i64 0,.int .i64 0,.int .i64 0,.slice none 0 0,.int .i64 0,.string ⟨#[]⟩]:=by simp only[putC,List.setIfInBounds_toArray,List.set_cons_zero,List.set_cons_succ]
   have HQ:=hid hq
   clear hq
   go_wp2_with (first|(refine ZbT rfl 32 (.tmp 13) (.tmp 12) rfl rfl V.heap.size 1 46 #[.int .i64 1,.string ⟨#[]⟩,.string ⟨#[]⟩,.slice none 0 0,.int .i64 0,.string ⟨#[]⟩,.string ⟨#[]⟩,.int .i64 0,.slice none 0 0,.string ⟨#[]⟩,.int .i64 0,.string ⟨#[]⟩,.string ⟨#[]⟩,.string ⟨#[]⟩,.int .i64 0,.int .i64 0,.string ⟨#[]⟩,.slice none 0 0,.int .i64 0,.int .i64 0,.int .i64 0,.slice none 0 0,.int .i64 0,.string ⟨#[]⟩] [.string a_tm,.string a_te,.slice a_tfa a_tfn a_tfc,.int .i64 a_tp] rfl rfl BY0.out (by kernel_rfl) (Nat.le_of_ble_eq_true rfl) (by rfl) V HY.out (Nat.le_refl _) ?_;rw[HQ.out];intro w' hby hyb;have HY:=hid hyb;have BY:=hid hby;clear hyb hby)|(refine Zal rfl 46 (.tmp 1) rfl w.heap.size 0 [.int .i64 1,.string a_tm,.string a_te,.slice a_tfa a_tfn a_tfc,.int .i64 a_tp,.string a_fm,.string a_fe,.int .i64 a_ftk,.slice a_ftua a_ftun a_ftuc,.string a_fto,.int .i64 a_fbk,.string a_fbo,.string a_fbm,.string a_fbt,.int .i64 a_fbvk,.int .i64 a_fbvn,.string a_fbvs,.slice a_fbua a_fbun a_fbuc,.int .i64 a_fbp,.int .i64 a_fbwk,.int .i64 a_fbwz,.slice a_fbxa a_fbxn a_fbxc,.int .i64 a_fr,.string a_m] rfl (fun j v hj=>(Ur.out _ HY.out j v hj)) _ underlying46 rfl (by kernel_rfl) ?_)|(refine Zal rfl 46 (.tmp 3) rfl V.heap.size 0 [.int .i64 1,.string a_tm,.string a_te,.slice a_tfa a_tfn a_tfc,.int .i64 a_tp,.string ⟨#[]⟩,.string ⟨#[]⟩,.int .i64 0,.slice none 0 0,.string ⟨#[]⟩,.int .i64 0,.string ⟨#[]⟩,.string ⟨#[]⟩,.string ⟨#[]⟩,.int .i64 0,.int .i64 0,.string ⟨#[]⟩,.slice none 0 0,.int .i64 0,.int .i64 0,.int .i64 0,.slice none 0 0,.int .i64 0,.string ⟨#[]⟩] rfl (fun j v hj=>by rw[Nat.zero_add];exact BY.out.cell j v (by rw[List.getElem?_toArray];exact hj)) _ underlying46 rfl (by kernel_rfl) ?_)|(go_at_call 163;refine(Yv.out _ (Ga.out.trans (Below.mono HY.out Ga.out.size))).mono ?_;rintro e w9 ⟨rfl,hb⟩;have HW:Hid (Below V.heap.size V w9):=ZT HY.out hb;clear hb)|fail)
   all_goals
    go_ret
    exact RetB.of (by have hR:=HR.out;simp_all) (ZT Aa.out HW.out)
 · have hq:putC #[.int .i64 2,.string ⟨#[]⟩,.string ⟨#[]⟩,.slice none 0 0,.int .i64 0,.string ⟨#[]⟩,.string ⟨#[]⟩,.int .i64 0,.slice none 0 0,.string ⟨#[]⟩,.int .i64 0,.string ⟨#[]⟩,.string ⟨#[]⟩,.string ⟨#[]⟩,.int .i64 0,.int .i64 0,.string ⟨#[]⟩,.slice none 0 0,.int .i64 0,.int .i64 0,.int .i64 0,.slice none 0 0,.int .i64 0,.string ⟨#[]⟩] 5 [.string a_fm,.string a_fe,.int .i64 a_ftk,.slice a_ftua a_ftun a_ftuc,.string a_fto,.int .i64 a_fbk,.string a_fbo,.string a_fbm,.string a_fbt,.int .i64 a_fbvk,.int .i64 a_fbvn,.string a_fbvs,.slice a_fbua a_fbun a_fbuc,.int .i64 a_fbp,.int .i64 a_fbwk,.int .i64 a_fbwz,.slice a_fbxa a_fbxn a_fbxc,.int .i64 a_fr]=#[.int .i64 2,.string ⟨#[]⟩,.string ⟨#[]⟩,.slice none 0 0,.int .i64 0,.string a_fm,.string a_fe,.int .i64 a_ftk,.slice a_ftua a_ftun a_ftuc,.string a_fto,.int .i64 a_fbk,.string a_fbo,.string a_fbm,.string a_fbt,.int .i64 a_fbvk,.int .i64 a_fbvn,.string a_fbvs,.slice a_fbua a_fbun a_fbuc,.int .i64 a_fbp,.int .i64 a_fbwk,.int .i64 a_fbwz,.slice a_fbxa a_fbxn a_fbxc,.int .i64 a_fr,.string ⟨#[]⟩]:=by simp only[putC,List.setIfInBounds_toArray,List.set_cons_zero,List.set_cons_succ]
   have HQ:=hid hq
   clear hq
   go_wp2_with (first|(refine Zal rfl 44 (.tmp 16) rfl w.heap.size 5 [.string a_fm,.string a_fe,.int .i64 a_ftk,.slice a_ftua a_ftun a_ftuc,.string a_fto,.int .i64 a_fbk,.string a_fbo,.string a_fbm,.string a_fbt,.int .i64 a_fbvk,.int .i64 a_fbvn,.string a_fbvs,.slice a_fbua a_fbun a_fbuc,.int .i64 a_fbp,.int .i64 a_fbwk,.int .i64 a_fbwz,.slice a_fbxa a_fbxn a_fbxc,.int .i64 a_fr] rfl (fun j v hj=>Yo.out _ HY.out j v hj) _ underlying44 rfl (by kernel_rfl) ?_)|(refine ZbT rfl 44 (.tmp 18) (.tmp 17) rfl rfl V.heap.size 5 46 #[.int .i64 2,.string ⟨#[]⟩,.string ⟨#[]⟩,.slice none 0 0,.int .i64 0,.string ⟨#[]⟩,.string ⟨#[]⟩,.int .i64 0,.slice none 0 0,.string ⟨#[]⟩,.int .i64 0,.string ⟨#[]⟩,.string ⟨#[]⟩,.string ⟨#[]⟩,.int .i64 0,.int .i64 0,.string ⟨#[]⟩,.slice none 0 0,.int .i64 0,.int .i64 0,.int .i64 0,.slice none 0 0,.int .i64 0,.string ⟨#[]⟩] [.string a_fm,.string a_fe,.int .i64 a_ftk,.slice a_ftua a_ftun a_ftuc,.string a_fto,.int .i64 a_fbk,.string a_fbo,.string a_fbm,.string a_fbt,.int .i64 a_fbvk,.int .i64 a_fbvn,.string a_fbvs,.slice a_fbua a_fbun a_fbuc,.int .i64 a_fbp,.int .i64 a_fbwk,.int .i64 a_fbwz,.slice a_fbxa a_fbxn a_fbxc,.int .i64 a_fr] rfl rfl BY0.out (by kernel_rfl) (Nat.le_of_ble_eq_true rfl) (by rfl) V HY.out (Nat.le_refl _) ?_;rw[HQ.out];intro w' hby hyb;have HY:=hid hyb;have BY:=hid hby;clear hyb hby)|(refine Zal rfl 46 (.tmp 1) rfl w.heap.size 0 [.int .i64 2,.string a_tm,.string a_te,.slice a_tfa a_tfn a_tfc,.int .i64 a_tp,.string a_fm,.string a_fe,.int .i64 a_ftk,.slice a_ftua a_ftun a_ftuc,.string a_fto,.int .i64 a_fbk,.string a_fbo,.string a_fbm,.string a_fbt,.int .i64 a_fbvk,.int .i64 a_fbvn,.string a_fbvs,.slice a_fbua a_fbun a_fbuc,.int .i64 a_fbp,.int .i64 a_fbwk,.int .i64 a_fbwz,.slice a_fbxa a_fbxn a_fbxc,.int .i64 a_fr,.string a_m] rfl (fun j v hj=>(Ur.out _ HY.out j v hj)) _ underlying46 rfl (by kernel_rfl) ?_)|(refine Zal rfl 46 (.tmp 3) rfl V.heap.size 0 [.int .i64 2,.string ⟨#[]⟩,.string ⟨#[]⟩,.slice none 0 0,.int .i64 0,.string a_fm,.string a_fe,.int .i64 a_ftk,.slice a_ftua a_ftun a_ftuc,.string a_fto,.int .i64 a_fbk,.string a_fbo,.string a_fbm,.string a_fbt,.int .i64 a_fbvk,.int .i64 a_fbvn,.string a_fbvs,.slice a_fbua a_fbun a_fbuc,.int .i64 a_fbp,.int .i64 a_fbwk,.int .i64 a_fbwz,.slice a_fbxa a_fbxn a_fbxc,.int .i64 a_fr,.string ⟨#[]⟩] rfl (fun j v hj=>by rw[Nat.zero_add];exact BY.out.cell j v (by rw[List.getElem?_toArray];exact hj)) _ underlying46 rfl (by kernel_rfl) ?_)|(go_at_call 163;refine(Xv.out _ (Ga.out.trans (Below.mono HY.out Ga.out.size))).mono ?_;rintro e w9 ⟨rfl,hb⟩;have HW:Hid (Below V.heap.size V w9):=ZT HY.out hb;clear hb)|fail)
   all_goals
    go_ret
    exact RetB.of (by have hR:=HR.out;simp_all) (ZT Aa.out HW.out)
 · have f23:=BY0.out.cell 23 _ rfl
   have z23:=BY0.out.free 23
   go_upto_region 12 with fail
   refine Zan (fun W3 hW3=>?_)
   have hq:(#[.int .i64 3,.string ⟨#[]⟩,.string ⟨#[]⟩,.slice none 0 0,.int .i64 0,.string ⟨#[]⟩,.string ⟨#[]⟩,.int .i64 0,.slice none 0 0,.string ⟨#[]⟩,.int .i64 0,.string ⟨#[]⟩,.string ⟨#[]⟩,.string ⟨#[]⟩,.int .i64 0,.int .i64 0,.string ⟨#[]⟩,.slice none 0 0,.int .i64 0,.int .i64 0,.int .i64 0,.slice none 0 0,.int .i64 0,.string ⟨#[]⟩]:Array Value).setIfInBounds 23 (.string a_m)=#[.int .i64 3,.string ⟨#[]⟩,.string ⟨#[]⟩,.slice none 0 0,.int .i64 0,.string ⟨#[]⟩,.string ⟨#[]⟩,.int .i64 0,.slice none 0 0,.string ⟨#[]⟩,.int .i64 0,.string ⟨#[]⟩,.string ⟨#[]⟩,.string ⟨#[]⟩,.int .i64 0,.int .i64 0,.string ⟨#[]⟩,.slice none 0 0,.int .i64 0,.int .i64 0,.int .i64 0,.slice none 0 0,.int .i64 0,.string a_m]:=by simp only[List.setIfInBounds_toArray,List.set_cons_zero,List.set_cons_succ]
   have BY:Hid (Box W3 V.heap.size #[.int .i64 3,.string ⟨#[]⟩,.string ⟨#[]⟩,.slice none 0 0,.int .i64 0,.string ⟨#[]⟩,.string ⟨#[]⟩,.int .i64 0,.slice none 0 0,.string ⟨#[]⟩,.int .i64 0,.string ⟨#[]⟩,.string ⟨#[]⟩,.string ⟨#[]⟩,.int .i64 0,.int .i64 0,.string ⟨#[]⟩,.slice none 0 0,.int .i64 0,.int .i64 0,.int .i64 0,.slice none 0 0,.int .i64 0,.string a_m] 46):=by rw[hW3,<-hq];exact BY0.out.put 23 _
   have Pi:Hid (Below V.heap.size V W3):=by rw[hW3];exact HY.out.setCell (Nat.le_refl _) _
   clear hW3 hq
   go_wp2_with (first|(refine Zal rfl 46 (.tmp 1) rfl w.heap.size 0 [.int .i64 3,.string a_tm,.string a_te,.slice a_tfa a_tfn a_tfc,.int .i64 a_tp,.string a_fm,.string a_fe,.int .i64 a_ftk,.slice a_ftua a_ftun a_ftuc,.string a_fto,.int .i64 a_fbk,.string a_fbo,.string a_fbm,.string a_fbt,.int .i64 a_fbvk,.int .i64 a_fbvn,.string a_fbvs,.slice a_fbua a_fbun a_fbuc,.int .i64 a_fbp,.int .i64 a_fbwk,.int .i64 a_fbwz,.slice a_fbxa a_fbxn a_fbxc,.int .i64 a_fr,.string a_m] rfl (fun j v hj=>(Ur.out _ Pi.out j v hj)) _ underlying46 rfl (by kernel_rfl) ?_)|(refine Zal rfl 46 (.tmp 3) rfl V.heap.size 0 [.int .i64 3,.string ⟨#[]⟩,.string ⟨#[]⟩,.slice none 0 0,.int .i64 0,.string ⟨#[]⟩,.string ⟨#[]⟩,.int .i64 0,.slice none 0 0,.string ⟨#[]⟩,.int .i64 0,.string ⟨#[]⟩,.string ⟨#[]⟩,.string ⟨#[]⟩,.int .i64 0,.int .i64 0,.string ⟨#[]⟩,.slice none 0 0,.int .i64 0,.int .i64 0,.int .i64 0,.slice none 0 0,.int .i64 0,.string a_m] rfl (fun j v hj=>by rw[Nat.zero_add];exact BY.out.cell j v (by rw[List.getElem?_toArray];exact hj)) _ underlying46 rfl (by kernel_rfl) ?_)|(go_at_call 163;refine(Pr.out _ (Ga.out.trans (Below.mono Pi.out Ga.out.size))).mono ?_;rintro e w9 ⟨rfl,hb⟩;have HW:Hid (Below V.heap.size V w9):=ZT Pi.out hb;clear hb)|fail)
   all_goals
    go_ret
    exact RetB.of (by have hR:=HR.out;simp_all) (ZT Aa.out HW.out)
 · have f23:=BY0.out.cell 23 _ rfl
   have z23:=BY0.out.free 23
   go_upto_region 12 with fail
   refine Zan (fun W3 hW3=>?_)
   have hq:(#[.int .i64 4,.string ⟨#[]⟩,.string ⟨#[]⟩,.slice none 0 0,.int .i64 0,.string ⟨#[]⟩,.string ⟨#[]⟩,.int .i64 0,.slice none 0 0,.string ⟨#[]⟩,.int .i64 0,.string ⟨#[]⟩,.string ⟨#[]⟩,.string ⟨#[]⟩,.int .i64 0,.int .i64 0,.string ⟨#[]⟩,.slice none 0 0,.int .i64 0,.int .i64 0,.int .i64 0,.slice none 0 0,.int .i64 0,.string ⟨#[]⟩]:Array Value).setIfInBounds 23 (.string a_m)=#[.int .i64 4,.string ⟨#[]⟩,.string ⟨#[]⟩,.slice none 0 0,.int .i64 0,.string ⟨#[]⟩,.string ⟨#[]⟩,.int .i64 0,.slice none 0 0,.string ⟨#[]⟩,.int .i64 0,.string ⟨#[]⟩,.string ⟨#[]⟩,.string ⟨#[]⟩,.int .i64 0,.int .i64 0,.string ⟨#[]⟩,.slice none 0 0,.int .i64 0,.int .i64 0,.int .i64 0,.slice none 0 0,.int .i64 0,.string a_m]:=by simp only[List.setIfInBounds_toArray,List.set_cons_zero,List.set_cons_succ]
   have BY:Hid (Box W3 V.heap.size #[.int .i64 4,.string ⟨#[]⟩,.string ⟨#[]⟩,.slice none 0 0,.int .i64 0,.string ⟨#[]⟩,.string ⟨#[]⟩,.int .i64 0,.slice none 0 0,.string ⟨#[]⟩,.int .i64 0,.string ⟨#[]⟩,.string ⟨#[]⟩,.string ⟨#[]⟩,.int .i64 0,.int .i64 0,.string ⟨#[]⟩,.slice none 0 0,.int .i64 0,.int .i64 0,.int .i64 0,.slice none 0 0,.int .i64 0,.string a_m] 46):=by rw[hW3,<-hq];exact BY0.out.put 23 _
   have Pi:Hid (Below V.heap.size V W3):=by rw[hW3];exact HY.out.setCell (Nat.le_refl _) _
   clear hW3 hq
   go_wp2_with (first|(refine Zal rfl 46 (.tmp 1) rfl w.heap.size 0 [.int .i64 4,.string a_tm,.string a_te,.slice a_tfa a_tfn a_tfc,.int .i64 a_tp,.string a_fm,.string a_fe,.int .i64 a_ftk,.slice a_ftua a_ftun a_ftuc,.string a_fto,.int .i64 a_fbk,.string a_fbo,.string a_fbm,.string a_fbt,.int .i64 a_fbvk,.int .i64 a_fbvn,.string a_fbvs,.slice a_fbua a_fbun a_fbuc,.int .i64 a_fbp,.int .i64 a_fbwk,.int .i64 a_fbwz,.slice a_fbxa a_fbxn a_fbxc,.int .i64 a_fr,.string a_m] rfl (fun j v hj=>(Ur.out _ Pi.out j v hj)) _ underlying46 rfl (by kernel_rfl) ?_)|(refine Zal rfl 46 (.tmp 3) rfl V.heap.size 0 [.int .i64 4,.string ⟨#[]⟩,.string ⟨#[]⟩,.slice none 0 0,.int .i64 0,.string ⟨#[]⟩,.string ⟨#[]⟩,.int .i64 0,.slice none 0 0,.string ⟨#[]⟩,.int .i64 0,.string ⟨#[]⟩,.string ⟨#[]⟩,.string ⟨#[]⟩,.int .i64 0,.int .i64 0,.string ⟨#[]⟩,.slice none 0 0,.int .i64 0,.int .i64 0,.int .i64 0,.slice none 0 0,.int .i64 0,.string a_m] rfl (fun j v hj=>by rw[Nat.zero_add];exact BY.out.cell j v (by rw[List.getElem?_toArray];exact hj)) _ underlying46 rfl (by kernel_rfl) ?_)|(go_at_call 163;refine(Pr.out _ (Ga.out.trans (Below.mono Pi.out Ga.out.size))).mono ?_;rintro e w9 ⟨rfl,hb⟩;have HW:Hid (Below V.heap.size V w9):=ZT Pi.out hb;clear hb)|fail)
   all_goals
    go_ret
    exact RetB.of (by have hR:=HR.out;simp_all) (ZT Aa.out HW.out)
 · have f23:=BY0.out.cell 23 _ rfl
   have z23:=BY0.out.free 23
   go_upto_region 12 with fail
   refine Zan (fun W3 hW3=>?_)
   have hq:(#[.int .i64 5,.string ⟨#[]⟩,.string ⟨#[]⟩,.slice none 0 0,.int .i64 0,.string ⟨#[]⟩,.string ⟨#[]⟩,.int .i64 0,.slice none 0 0,.string ⟨#[]⟩,.int .i64 0,.string ⟨#[]⟩,.string ⟨#[]⟩,.string ⟨#[]⟩,.int .i64 0,.int .i64 0,.string ⟨#[]⟩,.slice none 0 0,.int .i64 0,.int .i64 0,.int .i64 0,.slice none 0 0,.int .i64 0,.string ⟨#[]⟩]:Array Value).setIfInBounds 23 (.string a_m)=#[.int .i64 5,.string ⟨#[]⟩,.string ⟨#[]⟩,.slice none 0 0,.int .i64 0,.string ⟨#[]⟩,.string ⟨#[]⟩,.int .i64 0,.slice none 0 0,.string ⟨#[]⟩,.int .i64 0,.string ⟨#[]⟩,.string ⟨#[]⟩,.string ⟨#[]⟩,.int .i64 0,.int .i64 0,.string ⟨#[]⟩,.slice none 0 0,.int .i64 0,.int .i64 0,.int .i64 0,.slice none 0 0,.int .i64 0,.string a_m]:=by simp only[List.setIfInBounds_toArray,List.set_cons_zero,List.set_cons_succ]
   have BY:Hid (Box W3 V.heap.size #[.int .i64 5,.string ⟨#[]⟩,.string ⟨#[]⟩,.slice none 0 0,.int .i64 0,.string ⟨#[]⟩,.string ⟨#[]⟩,.int .i64 0,.slice none 0 0,.string ⟨#[]⟩,.int .i64 0,.string ⟨#[]⟩,.string ⟨#[]⟩,.string ⟨#[]⟩,.int .i64 0,.int .i64 0,.string ⟨#[]⟩,.slice none 0 0,.int .i64 0,.int .i64 0,.int .i64 0,.slice none 0 0,.int .i64 0,.string a_m] 46):=by rw[hW3,<-hq];exact BY0.out.put 23 _
   have Pi:Hid (Below V.heap.size V W3):=by rw[hW3];exact HY.out.setCell (Nat.le_refl _) _
   clear hW3 hq
   go_wp2_with (first|(refine Zal rfl 46 (.tmp 1) rfl w.heap.size 0 [.int .i64 5,.string a_tm,.string a_te,.slice a_tfa a_tfn a_tfc,.int .i64 a_tp,.string a_fm,.string a_fe,.int .i64 a_ftk,.slice a_ftua a_ftun a_ftuc,.string a_fto,.int .i64 a_fbk,.string a_fbo,.string a_fbm,.string a_fbt,.int .i64 a_fbvk,.int .i64 a_fbvn,.string a_fbvs,.slice a_fbua a_fbun a_fbuc,.int .i64 a_fbp,.int .i64 a_fbwk,.int .i64 a_fbwz,.slice a_fbxa a_fbxn a_fbxc,.int .i64 a_fr,.string a_m] rfl (fun j v hj=>(Ur.out _ Pi.out j v hj)) _ underlying46 rfl (by kernel_rfl) ?_)|(refine Zal rfl 46 (.tmp 3) rfl V.heap.size 0 [.int .i64 5,.string ⟨#[]⟩,.string ⟨#[]⟩,.slice none 0 0,.int .i64 0,.string ⟨#[]⟩,.string ⟨#[]⟩,.int .i64 0,.slice none 0 0,.string ⟨#[]⟩,.int .i64 0,.string ⟨#[]⟩,.string ⟨#[]⟩,.string ⟨#[]⟩,.int .i64 0,.int .i64 0,.string ⟨#[]⟩,.slice none 0 0,.int .i64 0,.int .i64 0,.int .i64 0,.slice none 0 0,.int .i64 0,.string a_m] rfl (fun j v hj=>by rw[Nat.zero_add];exact BY.out.cell j v (by rw[List.getElem?_toArray];exact hj)) _ underlying46 rfl (by kernel_rfl) ?_)|(go_at_call 163;refine(Pr.out _ (Ga.out.trans (Below.mono Pi.out Ga.out.size))).mono ?_;rintro e w9 ⟨rfl,hb⟩;have HW:Hid (Below V.heap.size V w9):=ZT Pi.out hb;clear hb)|fail)
   all_goals
    go_ret
    exact RetB.of (by have hR:=HR.out;simp_all) (ZT Aa.out HW.out)
 · go_wp2_with fail
   go_ret
   exact RetB.of (by have hR:=HR.out;simp_all) (ZT Aa.out HY.out)
structure Tb where
 m:ByteArray
 e:ByteArray
 fa:Option Addr
 fn:Nat
 fc:Nat
 p:Int
def Tb.cells (t:Tb):List Value:=[.string t.m,.string t.e,.slice t.fa t.fn t.fc,.int .i64 t.p]
abbrev Tb.val (t:Tb):Value:=.agg #[.string t.m,.string t.e,.slice t.fa t.fn t.fc,.int .i64 t.p]
theorem encT:Enc Tb.cells 4:=⟨fun _=>rfl,fun x v hv=>by
 simp only[Tb.cells,List.mem_cons,List.not_mem_nil,or_false]at hv
 rcases hv with h|h|h|h<;>subst h<;>rfl⟩
theorem Tb.cell {w:World}{b off:Nat}{l:List Tb}(h:Lies Tb.cells 4 w b off l){i:Nat}{v:Tb}(hv:l[i]?=some v) :
 w.cell? ⟨b,off+i*4,none⟩=some (.string v.m)/\w.cell? ⟨b,off+i*4+1,none⟩=some (.string v.e)/\w.cell? ⟨b,off+i*4+2,none⟩=some (.slice v.fa v.fn v.fc)/\w.cell? ⟨b,off+i*4+3,none⟩=some (.int .i64 v.p) :=
 ⟨h i v hv 0 _ rfl,h i v hv 1 _ rfl,h i v hv 2 _ rfl,h i v hv 3 _ rfl⟩
structure Ft where
 m:ByteArray
 e:ByteArray
 tk:Int
 tua:Option Addr
 tun:Nat
 tuc:Nat
 tof:ByteArray
 b:Ex
 r:Int
def Ft.cells (f:Ft):List Value:=[.string f.m,.string f.e,.int .i64 f.tk,.slice f.tua f.tun f.tuc,.string f.tof,.int .i64 f.b.k,.string f.b.o,.string f.b.m,.string f.b.t,.int .i64 f.b.vk,.int .i64 f.b.vn,.string f.b.vs,.slice f.b.ua f.b.un f.b.uc,.int .i64 f.b.p,.int .i64 f.b.wk,.int .i64 f.b.wz,.slice f.b.xa f.b.xn f.b.xc,.int .i64 f.r]
abbrev Ft.val (f:Ft):Value:=.agg #[.string f.m,.string f.e,.int .i64 f.tk,.slice f.tua f.tun f.tuc,.string f.tof,.int .i64 f.b.k,.string f.b.o,.string f.b.m,.string f.b.t,.int .i64 f.b.vk,.int .i64 f.b.vn,.string f.b.vs,.slice f.b.ua f.b.un f.b.uc,.int .i64 f.b.p,.int .i64 f.b.wk,.int .i64 f.b.wz,.slice f.b.xa f.b.xn f.b.xc,.int .i64 f.r]
theorem encFt:Enc Ft.cells 18:=⟨fun _=>rfl,fun x v hv=>by
 simp only[Ft.cells,List.mem_cons,List.not_mem_nil,or_false]at hv
 rcases hv with h|h|h|h|h|h|h|h|h|h|h|h|h|h|h|h|h|h<;>subst h<;>rfl⟩
def Ft.Ok (w:World)(f:Ft):Prop:=ZaH w f.tua f.tun/\∃ n,ExNd n 80 w f.b
theorem Ft.Ok.kept {w w':World}{f:Ft}(h:f.Ok w)(hb:Below w.heap.size w w'):f.Ok w':=⟨h.1.kept hb,let ⟨n,h2⟩:=h.2;⟨n,h2.kept hb⟩⟩
def FtsAt (B:Nat)(w:World)(a:Option Addr)(n:Nat):Prop:=∃ l:List Ft,n=l.length/\l.length<=B/\(∀ t∈l,t.Ok w)/\Zac Ft.cells 18 w a l
theorem FtsAt.kept {B:Nat}{w w':World}{a:Option Addr}{n:Nat}(h:FtsAt B w a n)(hb:Below w.heap.size w w'):FtsAt B w' a n :=
 let ⟨l,h1,h2,h3,h4⟩:=h;⟨l,h1,h2,fun f hf=>(h3 f hf).kept hb,h4.kept hb⟩
theorem FtsAt.nil (B:Nat)(w:World)(a:Option Addr):FtsAt B w a 0:=⟨[],rfl,Nat.zero_le _,fun f hf=>(by cases hf),Zac.nil _ _⟩
theorem Ft.name {w:World}{b off:Nat}{l:List Ft}(h:Lies Ft.cells 18 w b off l){i:Nat}{v:Ft}(hv:l[i]?=some v):w.cell? ⟨b,off+i*18,none⟩=some (.string v.m):=h i v hv 0 _ rfl
def IdxPost (n:Nat)(w:World)(e:Ending)(w':World):Prop:=∃ k:Int,e=.returned (.int .i64 k)/\-1<=k/\k<n/\Below w.heap.size w w'
theorem Zcp (a:Option Addr)(n c:Nat)(s:ByteArray)(B:Nat)(hB:B<=100000)(w:World)(h:FtsAt B w a n):Calls prog 183 #[.slice a n c,.string s,.int .i64 0] w (IdxPost n w):=by
 obtain⟨l,rfl,hl,-,h1⟩:=h
 have H1:=hid h1
 clear h1
 go_enter func183,ntmps183
 go_wp2_with fail
 go_loopw [7] (fun v wr=>∃ i:Nat,i<=l.length/\v=.int .i64 i/\Below w.heap.size w wr) (fun v _=>l.length - (intOf v).toNat)
 case atStart=>exact⟨0,by omega,rfl,Below.refl _ _⟩
 case round =>
  obtain⟨i,hi,rfl,hb⟩:=hrel
  by_cases hlt:i<l.length
  · obtain⟨x,hx⟩:∃ x,l[i]?=some x:=⟨l[i],List.getElem?_eq_getElem hlt⟩
    obtain⟨b1,o1,rfl,Da⟩:=(H1.out.kept hb).some (by omega)
    have c0:=Ft.name Da hx
    have HB:=hid hb
    clear Da hx hb
    go_wp2_with fail
    all_goals first
     |(go_ret;exact⟨_,rfl,by omega,by omega,HB.out⟩)
     |(go_roundw;(case rel=>exact⟨i+1,by omega,by go_num,HB.out⟩);(case measure=>simp[intOf];omega))
  · go_wp2_with fail
    go_ret
    exact⟨_,rfl,by omega,by omega,hb⟩
theorem last_any (a:Option Addr)(n c:Nat)(s:ByteArray)(B:Nat)(hB:B<=100000)(w:World)(h:FtsAt B w a n):Calls prog 187 #[.slice a n c,.string s] w (IdxPost n w):=by
 obtain⟨l,rfl,hl,-,h1⟩:=h
 have H1:=hid h1
 clear h1
 go_enter func187,ntmps187
 go_wp2_with fail
 go_loopw [5,6] (fun u v wr=>∃ (i:Nat) (k:Int),i<=l.length/\v=.int .i64 i/\u=.int .i64 k/\-1<=k/\k<l.length/\Below w.heap.size w wr) (fun _ v _=>l.length - (intOf v).toNat)
 case atStart=>exact⟨0,-1,by omega,rfl,rfl,by omega,by omega,Below.refl _ _⟩
 case round =>
  obtain⟨i,k,hi,rfl,rfl,Qh,Ng,hb⟩:=hrel
  by_cases hlt:i<l.length
  · obtain⟨x,hx⟩:∃ x,l[i]?=some x:=⟨l[i],List.getElem?_eq_getElem hlt⟩
    obtain⟨b1,o1,rfl,Da⟩:=(H1.out.kept hb).some (by omega)
    have c0:=Ft.name Da hx
    have HB:=hid hb
    clear Da hx hb
    go_wp2_with fail
    all_goals first
     |(go_ret;exact⟨_,rfl,by omega,by omega,HB.out⟩)
     |(go_roundw;(case rel=>exact⟨i+1,_,by omega,by go_num,rfl,by omega,by omega,HB.out⟩);(case measure=>simp[intOf];omega))
  · go_wp2_with fail
    go_ret
    exact⟨_,rfl,Qh,Ng,hb⟩
def OwnS (w:World)(B:Nat)(v:Value)(l:List ByteArray):Prop:=Own (fun s:ByteArray=>[Value.string s]) 1 9 w B v l/\∀ s∈l,s.size<=140737488355328
theorem OwnS.kept {w w':World}{B:Nat}{v:Value}{l:List ByteArray}(h:OwnS w B v l)(hb:Below w.heap.size w w'):OwnS w' B v l:=⟨h.1.kept hb,h.2⟩
theorem OwnS.mono {w:World}{B B':Nat}{v:Value}{l:List ByteArray}(h:OwnS w B v l)(hB:B'<=B):OwnS w B' v l:=⟨h.1.mono hB,h.2⟩
theorem OwnS.nil (w:World)(B:Nat):OwnS w B (.slice none 0 0) []:=⟨Own.nil w B,fun d hd=>by cases hd⟩
theorem elS:El prog 9 210 1 16:=⟨underlying210,by kernel_rfl,by decide,by decide⟩
theorem encS:Enc (fun s:ByteArray=>[Value.string s]) 1:=⟨fun _=>rfl,fun x v hv=>by simp at hv;subst hv;rfl⟩
def insS:List ByteArray->ByteArray->List ByteArray
 |[],s=>[s]
 |x :: l,s=>if Op.bytesLess x.toList s.toList=true then x :: insS l s else if (x.toList==s.toList)=true then x :: l else s :: x :: l
theorem ins_less {l:List ByteArray}{s t:ByteArray}{j:Nat}(hs:l[j]?=some s)(h:Op.bytesLess s.toList t.toList=true):l.take j++insS (l.drop j) t=l.take (j+1)++insS (l.drop (j+1)) t:=by
 rw[ZaD hs]
 simp only[insS]
 rw[if_pos h,List.take_add_one,hs]
 simp
theorem ins_same {l:List ByteArray}{s t:ByteArray}{j:Nat}(hs:l[j]?=some s)(h:Op.bytesLess s.toList t.toList=false)(h2:(s.toList==t.toList)=true):l.take j++insS (l.drop j) t=l:=by
 rw[ZaD hs]
 simp only[insS]
 rw[if_neg (by rw[h];decide),if_pos h2,<-ZaD hs,List.take_append_drop]
theorem ins_put {l:List ByteArray}{s t:ByteArray}{j:Nat}(hs:l[j]?=some s)(h:Op.bytesLess s.toList t.toList=false)(h2:(s.toList==t.toList)=false):l.take j++insS (l.drop j) t=l.take j++[t]++l.drop j:=by
 rw[ZaD hs]
 simp only[insS]
 rw[if_neg (by rw[h];decide),if_neg (by rw[h2];decide)]
 simp
theorem ins_end {l:List ByteArray}{t:ByteArray}{j:Nat}(h:l.length<=j):l.take j++insS (l.drop j) t=l.take j++[t]++l.drop j:=by
 rw[List.drop_of_length_le h]
 simp[insS]
theorem Zfd (l:List ByteArray)(s:ByteArray):(insS l s).length<=l.length+1:=by
 induction l with
 |nil=>simp[insS]
 |cons x l ih =>
  simp only[insS]
  split
  · simp;omega
  · split<;>simp
theorem insFold_len (us:List FID)(l:List ByteArray):(us.foldl (fun l f=>insS l f.1) l).length<=l.length+us.length:=by
 induction us generalizing l with
 |nil=>simp
 |cons f us ih =>
  have h1:=ih (insS l f.1)
  have h2:=Zfd l f.1
  simp only[List.foldl_cons,List.length_cons]
  omega
theorem names_det (us:List FID)(hn:us.length<=100000000):∃ L:List ByteArray,L.length<=us.length/\∀ (a:Option Addr) (c:Nat) (w:World),UnIs w a us->Calls prog 236 #[.slice a us.length c] w fun e w'=>∃ v,e=.returned v/\OwnS w' w.heap.size v L/\Below w.heap.size w w':=by
 obtain⟨L,hL0⟩:∃ L,L=us.foldl (fun l f=>insS l f.1) []:=⟨_,rfl⟩
 refine⟨L,by rw[hL0];simpa using insFold_len us [],fun a c w h=>?_⟩
 have Cj:=hid hL0
 clear hL0
 obtain⟨hu,hs,h1⟩:=h
 have H:=hid h1
 have Qg:=hid hs
 clear h1 hs
 go_enter func236,ntmps236
 go_wp2_with fail
 go_loopw [3,4] (fun v jj wr=>∃ (i:Nat) (l:List ByteArray) (v0:Value),v0=v/\i<=us.length/\jj=.int .i64 i/\Hid (OwnS wr w.heap.size v l/\l.length<=i)/\Hid (L=(us.drop i).foldl (fun l f=>insS l f.1) l)/\Hid (Below w.heap.size w wr)) (fun _ jj _=>us.length - (intOf jj).toNat)
 case atStart=>exact⟨0,[],_,rfl,by omega,rfl,⟨OwnS.nil _ _,by simp⟩,Cj,Below.refl _ _⟩
 case round =>
  obtain⟨i,l,v0,Hu,hi,rfl,hO,Nh,hB⟩:=hrel
  obtain⟨hO1,hli⟩:=hO.out
  obtain⟨ao,cp,Eh,hlc,hcn,-⟩:=hO1.1.lies encS
  rw[Eh]at Hu hO1 hO
  first|subst Eh|skip
  first|subst Hu|skip
  have HO:=hid hO1
  have Fj:=hid hcn
  clear hO hO1 hcn
  by_cases hlt:i<us.length
  · obtain⟨f,hf⟩:∃ f,us[i]?=some f:=⟨us[i],List.getElem?_eq_getElem hlt⟩
    have HF:=hid hf
    obtain⟨b1,o1,rfl,Da⟩:=(H.out.kept hB.out).some (by omega)
    have Tf:Hid (∀ w',Below w.heap.size w w'->w'.cell? ⟨b1,o1+i*2,none⟩=some (.string f.1)):=by
     intro w' hb
     obtain⟨b',o',he,hr⟩:=(H.out.kept hb).some (by omega)
     injection he with he;injection he with e1 e2 e3;subst e1 e2
     exact(Za2 hr HF.out).1
    have Jn:Hid (f.1.size<=140737488355328):=(Qg.out f (List.mem_of_getElem? hf)).1
    have Fi:Hid (L=(us.drop (i+1)).foldl (fun l f=>insS l f.1) (insS l f.1)):=by show _=_;rw[Nh.out,ZaD hf];rfl
    clear Da hf Nh
    go_wp2_with fail
    go_loopw [5] (fun v wr=>∃ j:Nat,j<=l.length/\v=.int .i64 j/\Hid (OwnS wr w.heap.size (.slice ao l.length cp) l)/\Hid (insS l f.1=l.take j++insS (l.drop j) f.1)/\Hid (Below w.heap.size w wr)) (fun v _=>l.length - (intOf v).toNat)
    case atStart=>exact⟨0,by omega,rfl,HO,hid rfl,hB⟩
    case round =>
     clear HO hB
     obtain⟨j,hj,rfl,HO,HJ,hB⟩:=hrel
     have c0:=Tf.out _ hB.out
     by_cases hjl:j<l.length
     · obtain⟨s,hs⟩:∃ s,l[j]?=some s:=⟨l[j],List.getElem?_eq_getElem hjl⟩
       obtain⟨a2,c2,Ki,-,-,hr⟩:=HO.out.1.lies encS
       injection Ki with e1 e2 e3
       subst e1 e3
       obtain⟨b2,o2,rfl,Bb⟩:=hr.some (by omega)
       have d0:=Zbs Bb hs
       have Wt:Hid (∀ w',Below wr.heap.size wr w'->w'.cell? ⟨b2,o2+j,none⟩=some (.string s)):=fun w' hb=>Zaa d0 hb
       have Jt:Hid (Op.bytesLess s.toList f.1.toList=true->insS l f.1=l.take (j+1)++insS (l.drop (j+1)) f.1):=fun h=>HJ.out.trans (ins_less hs h)
       have It:Hid (Op.bytesLess s.toList f.1.toList=false->(s.toList==f.1.toList)=true->insS l f.1=l):=fun h h2=>HJ.out.trans (ins_same hs h h2)
       have Ht:Hid (Op.bytesLess s.toList f.1.toList=false->(s.toList==f.1.toList)=false->insS l f.1=l.take j++[f.1]++l.drop j):=fun h h2=>HJ.out.trans (ins_put hs h h2)
       clear hr Bb hs HJ
       have hd:decide ((j:Int)<(l.length:Int))=true:=by simpa using hjl
       go_upto_region 6 with fail
       go_quiet (fail)
       go_wp2_with fail
       all_goals first
        |(go_roundw;(case rel=>exact⟨j+1,by omega,by go_num,HO.out.kept (Zad (Below.refl _ _) _),Jt.out (by simp_all),Zad hB.out _⟩);(case measure=>simp[intOf];omega))
        |skip
       all_goals
        have c0:=Tf.out _ (Zad hB.out nq)
        have d0:=Wt.out _ (Zad (Below.refl _ _) nq)
        go_quiet (fail)
        go_upto_region 9 with fail
        all_goals first
         |(refine⟨⟨i+1,l,_,rfl,by omega,by go_num,⟨HO.out.kept (by repeat(first|exact Below.refl _ _|refine Zad ?_ _)),by omega⟩,(by show _=_;rw[Fi.out,It.out (by simp_all) (by simp_all)]),(by repeat(first|exact hB.out|refine Zad ?_ _))⟩,?_⟩;(simp[intOf];omega))
         |skip
        all_goals
         have Lx:Hid (insS l f.1=l.take j++[f.1]++l.drop j):=Ht.out (by simp_all) (by simp_all)
         refine Zan (fun V hV=>?_)
         have Ll:Hid (OwnS V w.heap.size (.slice (some ⟨b2,o2,none⟩) l.length cp) l):=by rw[hV];exact HO.out.kept (by repeat(first|exact Below.refl _ _|refine Zad ?_ _))
         have Aa:Hid (Below w.heap.size w V):=by rw[hV];repeat(first|exact hB.out|refine Zad ?_ _)
         clear hV
         have hcu:=fun w=>Za4 elS (some ⟨b2,o2,none⟩) l.length cp j (by omega) w
         obtain⟨A,hcf,hA1,hA2⟩:=Za5 elS (some ⟨b2,o2,none⟩) l.length cp j hj
         have Xh:Hid (Zac (fun s:ByteArray=>[Value.string s]) 1 V (some ⟨b2,o2,none⟩) l):=by
          obtain⟨a2,c2,Ki,-,-,hr⟩:=Ll.out.1.lies encS
          injection Ki with e1 e2 e3
          subst e1
          exact hr
         have Kc:=hid (Xh.out.take j)
         have Tc:=hid (ZaV Xh.out hlc hA2)
         have Pd:Hid (j=(l.take j).length):=by show _=_;simp;omega
         have Oe:Hid (l.length - j=(l.drop j).length):=by show _=_;simp
         have Nb:Hid (([]:List ByteArray).length+(l.take j).length<=1000000000):=by show _<=_;simp;omega
         have Mb:Hid (([]++l.take j).length+[f.1].length<=1000000000):=by show _<=_;simp;omega
         have Zb:Hid (([]++l.take j++[f.1]).length+(l.drop j).length<=1000000000):=by show _<=_;simp;omega
         have Bg:Hid (A=none->cp - j=0):=fun e=>by have:=Fj.out (hA1 e);omega
         clear hA1 hA2
         have Vc:Hid (Own (fun s:ByteArray=>[Value.string s]) 1 9 V V.heap.size (.slice none 0 0) []):=Own.nil _ _
         go_wp2_with (at_builtin;first|(refine Zai elS encS rfl (.tmp 47) (.tmp 50) rfl rfl rfl Vc.out Kc.out Pd.out Fj.out (Nat.le_refl _) Nb.out ?_;intro v1 w1 ho hb;have Fb:=hid ho;have Ia:=hid hb;have c0:=Tf.out _ (Aa.out.trans (hb.mono Aa.out.size));clear ho hb)|(refine Zai elS encS rfl (.tmp 52) (.tmp 58) rfl rfl rfl (Fb.out.kept (Zab _)) (Zav _ _ encS) rfl (fun e=>by cases e) (Nat.le_trans Ia.out.size (Zab _).size) Mb.out ?_;intro v2 w2 ho hb;have Sb:=hid ho;have Qa:Hid (Below V.heap.size V w2):=hid ((Ia.out.alloc Ia.out.size _).trans hb);clear ho hb)|(refine Zai elS encS rfl (.tmp 60) (.tmp 63) rfl rfl rfl Sb.out (Tc.out.kept Qa.out) Oe.out Bg.out Qa.out.size Zb.out ?_;intro v3 w3 ho hb;have Ld:=hid ho;have Pa:=hid (Qa.out.trans hb);clear ho hb))
         go_roundw
         case rel =>
          refine⟨i+1,[]++l.take j++[f.1]++l.drop j,_,rfl,by omega,by go_num,⟨⟨Ld.out.mono Aa.out.size,fun s hs=>?_⟩,?_⟩,(by show _=_;rw[Fi.out,Lx.out];rfl),Aa.out.trans (Pa.out.mono Aa.out.size)⟩
          · simp only[List.nil_append,List.mem_append,List.mem_singleton]at hs
            rcases hs with(hs|hs)|hs
            · exact Ll.out.2 s (List.mem_of_mem_take hs)
            · rw[hs];exact Jn.out
            · exact Ll.out.2 s (List.mem_of_mem_drop hs)
          · simp;omega
         case measure=>simp[intOf];omega
     · have hd:decide ((j:Int)<(l.length:Int))=false:=by simpa using hjl
       go_upto_region 6 with fail
       go_quiet (fail)
       go_wp2_with fail
       have c0:=Tf.out _ (Zad hB.out nq)
       go_quiet (fail)
       go_upto_region 9 with fail
       have Lx:Hid (insS l f.1=l.take j++[f.1]++l.drop j):=HJ.out.trans (ins_end (by omega))
       refine Zan (fun V hV=>?_)
       have Ll:Hid (OwnS V w.heap.size (.slice ao l.length cp) l):=by rw[hV];exact HO.out.kept (by repeat(first|exact Below.refl _ _|refine Zad ?_ _))
       have Aa:Hid (Below w.heap.size w V):=by rw[hV];repeat(first|exact hB.out|refine Zad ?_ _)
       clear hV
       have hcu:=fun w=>Za4 elS ao l.length cp j (by omega) w
       obtain⟨A,hcf,hA1,hA2⟩:=Za5 elS ao l.length cp j hj
       have Xh:Hid (Zac (fun s:ByteArray=>[Value.string s]) 1 V ao l):=by
        obtain⟨a2,c2,Ki,-,-,hr⟩:=Ll.out.1.lies encS
        injection Ki with e1 e2 e3
        subst e1
        exact hr
       have Kc:=hid (Xh.out.take j)
       have Tc:=hid (ZaV Xh.out hlc hA2)
       have Pd:Hid (j=(l.take j).length):=by show _=_;simp;omega
       have Oe:Hid (l.length - j=(l.drop j).length):=by show _=_;simp
       have Nb:Hid (([]:List ByteArray).length+(l.take j).length<=1000000000):=by show _<=_;simp;omega
       have Mb:Hid (([]++l.take j).length+[f.1].length<=1000000000):=by show _<=_;simp;omega
       have Zb:Hid (([]++l.take j++[f.1]).length+(l.drop j).length<=1000000000):=by show _<=_;simp;omega
       have Bg:Hid (A=none->cp - j=0):=fun e=>by have:=Fj.out (hA1 e);omega
       clear hA1 hA2
       have Vc:Hid (Own (fun s:ByteArray=>[Value.string s]) 1 9 V V.heap.size (.slice none 0 0) []):=Own.nil _ _
       go_wp2_with (at_builtin;first|(refine Zai elS encS rfl (.tmp 47) (.tmp 50) rfl rfl rfl Vc.out Kc.out Pd.out Fj.out (Nat.le_refl _) Nb.out ?_;intro v1 w1 ho hb;have Fb:=hid ho;have Ia:=hid hb;have c0:=Tf.out _ (Aa.out.trans (hb.mono Aa.out.size));clear ho hb)|(refine Zai elS encS rfl (.tmp 52) (.tmp 58) rfl rfl rfl (Fb.out.kept (Zab _)) (Zav _ _ encS) rfl (fun e=>by cases e) (Nat.le_trans Ia.out.size (Zab _).size) Mb.out ?_;intro v2 w2 ho hb;have Sb:=hid ho;have Qa:Hid (Below V.heap.size V w2):=hid ((Ia.out.alloc Ia.out.size _).trans hb);clear ho hb)|(refine Zai elS encS rfl (.tmp 60) (.tmp 63) rfl rfl rfl Sb.out (Tc.out.kept Qa.out) Oe.out Bg.out Qa.out.size Zb.out ?_;intro v3 w3 ho hb;have Ld:=hid ho;have Pa:=hid (Qa.out.trans hb);clear ho hb))
       go_roundw
       case rel =>
        refine⟨i+1,[]++l.take j++[f.1]++l.drop j,_,rfl,by omega,by go_num,⟨⟨Ld.out.mono Aa.out.size,fun s hs=>?_⟩,?_⟩,(by show _=_;rw[Fi.out,Lx.out];rfl),Aa.out.trans (Pa.out.mono Aa.out.size)⟩
        · simp only[List.nil_append,List.mem_append,List.mem_singleton]at hs
          rcases hs with(hs|hs)|hs
          · exact Ll.out.2 s (List.mem_of_mem_take hs)
          · rw[hs];exact Jn.out
          · exact Ll.out.2 s (List.mem_of_mem_drop hs)
        · simp;omega
       case measure=>simp[intOf];omega
  · go_wp2_with fail
    go_ret
    exact⟨_,rfl,(by rw[Nh.out,List.drop_of_length_le (by omega)];exact HO.out),hB.out⟩
end Go.Proofs.YtfnpfkgmacaboaaGreat
