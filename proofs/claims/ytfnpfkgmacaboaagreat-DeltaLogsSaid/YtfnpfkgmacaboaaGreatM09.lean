/- Texts joined by a program. -/
import Derived.Test.YtfnpfkgmacaboaaGreatM07
import Derived.Test.YtfnpfkgmacaboaaGreatM08
namespace Go.Proofs.YtfnpfkgmacaboaaGreat
open Lib (hid)
open Go.ChangeShapes Go.WideShapes Go.ChangeAt Go.RowKit Go.Maps
set_option linter.unusedVariables false
set_option linter.unusedSimpArgs false
set_option linter.unusedSectionVars false
section
variable {P:Program} {kt:TypeId} {κ β:Type} [DecidableEq κ] {Z:Keyz P kt κ} {w w':World} {b r n cnt:Nat} {F:κ->Option β} {mkV:β->Value} {left:κ->Bool}
def tabV (F:κ->Option β)(mkV:β->Value):κ->Option Value:=fun k=>(F k).map mkV
def putF (F:κ->Option β)(k:κ)(d:β):κ->Option β:=fun x=>if x=k then some d else F x
theorem putT_tabV (k:κ)(d:β):putT (tabV F mkV) k (mkV d)=tabV (putF F k d) mkV:=by
 funext x
 unfold putT tabV putF
 split<;>rfl
theorem Tab.blocks {T:κ->Option Value}(h:Tab w Z b n T)(e:w'.heap[b]?=w.heap[b]?):Tab w' Z b n T:=by
 obtain⟨D,⟨es,clock,hb,F,hs,hD⟩,h2⟩:=h
 exact⟨D,⟨es,clock,e.trans hb,F,hs,hD⟩,h2⟩
theorem Tabs.blocks {T:κ->Option Value}(h:Tabs w Z b r n T left cnt)(e:w'.heap[b]?=w.heap[b]?)(e2:w'.heap[r]?=w.heap[r]?):Tabs w' Z b r n T left cnt:=by
 obtain⟨D,L,⟨es,clock,since,seen,c0,hb,F,hs,hD,hr,rest⟩,h2⟩:=h
 exact⟨D,L,⟨es,clock,since,seen,c0,e.trans hb,F,hs,hD,e2.trans hr,rest⟩,h2⟩
theorem Tabs.below {T:κ->Option Value}{B:Nat}(h:Tabs w Z b r n T left cnt)(hb:Below B w w')(h1:b<B)(h2:r<B):Tabs w' Z b r n T left cnt:=h.blocks (hb.block b h1) (hb.block r h2)
theorem Tabs.lt {T:κ->Option Value}(h:Tabs w Z b r n T left cnt):r<w.heap.size:=let ⟨D,L,h1,_⟩:=h;h1.lt
variable {ops:Array Oper} {rest:List Oper} {o:Oper} {a:Act} {Q:Exit->Act->World->Prop}
theorem Zew (hg:o.guard=none)(m x:Operand)(t:TypeId)(hop:o.op=Op.lookup t m x true)(e:TypeId)(ht:P.underlying t=some (.map kt e)){z:Value}(hz:(zeroValue e).run P w=.ok z w)
 (hm:a.eval m=.map (some b)) (h:Tab w Z b n (tabV F mkV)) (k:κ) (hx:a.eval x=Z.val k) (hk:Z.ok k) (hF:F k=none) (hK:wpList P ops Q rest (a.put o.dst (.tuple #[z,.bool false])) w):wpList P ops Q (o :: rest) a w:=by
 refine Zdi hg m x t hop e ht hz hm h k hx hk ?_
 have:tabV F mkV k=none:=by unfold tabV;rw[hF];rfl
 rw[this];exact hK
theorem Zev (hg:o.guard=none)(m x:Operand)(t:TypeId)(hop:o.op=Op.lookup t m x true)(e:TypeId)(ht:P.underlying t=some (.map kt e)){z:Value}(hz:(zeroValue e).run P w=.ok z w)
 (hm:a.eval m=.map (some b)) (h:Tab w Z b n (tabV F mkV)) (k:κ) (hx:a.eval x=Z.val k) (hk:Z.ok k) (d:β) (hF:F k=some d) (hK:wpList P ops Q rest (a.put o.dst (.tuple #[mkV d,.bool true])) w):wpList P ops Q (o :: rest) a w:=by
 refine Zdi hg m x t hop e ht hz hm h k hx hk ?_
 have:tabV F mkV k=some (mkV d):=by unfold tabV;rw[hF];rfl
 rw[this];exact hK
theorem ZbU (hg:o.guard=none)(m x v:Operand)(t:TypeId)(hop:o.op=Op.mapUpdate t m x v)(e:TypeId)(ht:P.underlying t=some (.map kt e))
 (hm:a.eval m=.map (some b)) (h:Tab w Z b n (tabV F mkV)) (hn:n<maxLen) (k:κ) (hx:a.eval x=Z.val k) (hk:Z.ok k) (d:β) (hv:a.eval v=mkV d)
 (hK:∀ w',Tab w' Z b (n+1) (tabV (putF F k d) mkV)->w.grownBy w' (some b)->wpList P ops Q rest (a.put o.dst undef) w'):wpList P ops Q (o :: rest) a w :=
 wpList_store hg m x v t hop e ht hm h hn k hx hk (mkV d) hv (fun w' h1 h2=>hK w' (by rw[<-putT_tabV];exact h1) h2)
theorem wpList_step (hg:o.guard=none)(it:Operand)(hop:o.op=Op.next it false)(mkK:κ->Value)(eK:∀ k,Z.val k=mkK k)(hit:a.eval it=.pointer (some ⟨r,0,none⟩))(h:Tabs w Z b r n (tabV F mkV) left cnt)
 (hDone:(∀ k,Z.ok k->left k=false)->wpList P ops Q rest (a.put o.dst (.tuple #[.bool false])) w)
 (hMore:∀ k d w' cnt',Z.ok k->left k=true->F k=some d->Tabs w' Z b r n (tabV F mkV) (fun x=>left x&&!decide (x=k)) cnt'->cnt' < cnt->w.grownBy w' (some r)->w'.heap.size=w.heap.size ->
  (Instr.entry (.pointer (some ⟨r,0,none⟩))).run P w'=.ok (.tuple #[mkK k,mkV d]) w'->wpList P ops Q rest (a.put o.dst (.tuple #[.bool true,mkK k,mkV d])) w') :
 wpList P ops Q (o :: rest) a w:=by
 refine wpList_plain hg fun K' hK'=>?_
 unfold Oper.wp
 rcases h.next o.type with⟨hl,hrun⟩|⟨k,v,w',cnt',hk,hlk,hv,hrun,hrg,hlt,hgr,hsz,hen⟩
 · simp[execOp,hop,hit,hrun,Result.andThen]
   exact hK' _ _ (hDone hl)
 · obtain⟨d,hd,rfl⟩:∃ d,F k=some d/\mkV d=v:=by
     unfold tabV at hv
     cases hq:F k with
     |none=>rw[hq]at hv;cases hv
     |some d=>rw[hq]at hv;injection hv with hv;exact⟨d,rfl,hv⟩
   rw[eK]at hrun hen
   simp[execOp,hop,hit,hrun,Result.andThen]
   exact hK' _ _ (hMore k d w' cnt' hk hlk hd hrg hlt hgr hsz hen)
def ThenDone (Z:Keyz P kt κ)(left:κ->Bool)(R:Prop):Prop:=(∀ k,Z.ok k->left k=false)->R
def ThenMore (Z:Keyz P kt κ)(w:World)(b r n:Nat)(F:κ->Option β)(mkV:β->Value)(left:κ->Bool)(cnt:Nat)(mkK:κ->Value)(R:Value->World->Prop):Prop :=
 ∀ k d w' cnt',Z.ok k->left k=true->F k=some d->Tabs w' Z b r n (tabV F mkV) (fun x=>left x&&!decide (x=k)) cnt'->cnt' < cnt->w.grownBy w' (some r)->w'.heap.size=w.heap.size ->
  (Instr.entry (.pointer (some ⟨r,0,none⟩))).run P w'=.ok (.tuple #[mkK k,mkV d]) w'->R (.tuple #[.bool true,mkK k,mkV d]) w'
theorem Zek (hg:o.guard=none)(it:Operand)(hop:o.op=Op.next it false)(mkK:κ->Value)(eK:∀ k,Z.val k=mkK k)(hit:a.eval it=.pointer (some ⟨r,0,none⟩))(h:Tabs w Z b r n (tabV F mkV) left cnt)
 (hDone:ThenDone Z left (wpList P ops Q rest (a.put o.dst (.tuple #[.bool false])) w))
 (hMore:ThenMore Z w b r n F mkV left cnt mkK (fun v w'=>wpList P ops Q rest (a.put o.dst v) w')) :
 wpList P ops Q (o :: rest) a w:=wpList_step hg it hop mkK eK hit h hDone hMore
end
structure Sums (w0:World) (L:List Dl) (F:{ k:DK // OkM k }->Option Dl):Prop where
 says:∀ k d,F k=some d->d.Ok w0/\d.key=k.1/\d.n=sumK (L.map Dl.kn) k.1
 all:∀ d∈L,∀ h:OkM d.key,∃ e,F ⟨d.key,h⟩=some e
theorem sumK_none {L:List (DK × Int)}{k:DK}(h:∀ x∈L,x.1≠k):sumK L k=0:=by
 have:∀ (L:List (DK × Int)) (s:Int),(∀ x∈L,x.1≠k)->L.foldl (fun s x=>if x.1=k then IntKind.i64.wrap (x.2+s)else s) s=s:=by
  intro L
  induction L with
  |nil=>intro s _;rfl
  |cons x L ih=>intro s h;simp only[List.foldl_cons];rw[if_neg (h x (by simp))];exact ih s (fun y hy=>h y (by simp[hy]))
 exact this L 0 h
theorem I64.wrapped {n:Int}(h:I64 n):IntKind.i64.wrap n=n:=IntWalk.i64_in _ (by unfold I64 at h;omega)
theorem Sums.nil (w0:World):Sums w0 [] (fun _=>none):=⟨fun k d h=>(by cases h),fun d h=>(by cases h)⟩
theorem Sums.fresh {w0:World}{L:List Dl}{F:{ k:DK // OkM k }->Option Dl}(h:Sums w0 L F){x:Dl}(hx:x.Ok w0)(hF:F ⟨x.key,hx.mark⟩=none):Sums w0 (L++[x]) (putF F ⟨x.key,hx.mark⟩ x):=by
 have hno:∀ y∈L.map Dl.kn,y.1≠x.key:=by
  intro y hy e
  obtain⟨d,hd,rfl⟩:=List.mem_map.1 hy
  have e':d.key=x.key:=e
  obtain⟨q,hq⟩:=h.all d hd (e' ▸ hx.mark)
  rw[show(⟨d.key,e' ▸ hx.mark⟩:{ k:DK // OkM k })=⟨x.key,hx.mark⟩ from Subtype.ext e',hF]at hq
  cases hq
 refine⟨fun k d hd=>?_,fun d hd hm=>?_⟩
 · unfold putF at hd
   split at hd
   · rename_i e
     injection hd with hd
     subst hd e
     refine⟨hx,rfl,?_⟩
     rw[List.map_append,List.map_singleton,ZcP,sumK_none hno]
     show x.n=if x.key=x.key then _ else _
     rw[if_pos rfl,Int.add_zero]
     exact hx.n.wrapped.symm
   · rename_i e
     obtain⟨h1,h2,h3⟩:=h.says k d hd
     refine⟨h1,h2,?_⟩
     rw[List.map_append,List.map_singleton,ZcP,h3]
     have hne:x.kn.1≠k.1:=fun q=>e (Subtype.ext q.symm)
     rw[if_neg hne]
 · by_cases e:d.key=x.key
   · exact⟨x,by unfold putF;rw[if_pos (Subtype.ext e)]⟩
   · simp only[List.mem_append,List.mem_singleton]at hd
     rcases hd with hd|rfl
     · obtain⟨q,hq⟩:=h.all d hd hm
       exact⟨q,by unfold putF;rw[if_neg (fun u=>e (congrArg Subtype.val u))];exact hq⟩
     · exact absurd rfl e
theorem Sums.again {w0:World}{L:List Dl}{F:{ k:DK // OkM k }->Option Dl}(h:Sums w0 L F){x d:Dl}(hx:x.Ok w0)(hF:F ⟨x.key,hx.mark⟩=some d):Sums w0 (L++[x]) (putF F ⟨x.key,hx.mark⟩ (x.withN (IntKind.i64.wrap (x.n+d.n)))):=by
 obtain⟨-,-,Rh⟩:=h.says _ _ hF
 refine⟨fun k e he=>?_,fun e he hm=>?_⟩
 · unfold putF at he
   split at he
   · rename_i q
     injection he with he
     subst he q
     refine⟨{ hx with n:=I64.wrap _ },rfl,?_⟩
     rw[List.map_append,List.map_singleton,ZcP,<-Rh]
     show IntKind.i64.wrap (x.n+d.n)=if x.key=x.key then IntKind.i64.wrap (x.n+d.n)else _
     rw[if_pos rfl]
   · rename_i q
     obtain⟨h1,h2,h3⟩:=h.says k e he
     refine⟨h1,h2,?_⟩
     rw[List.map_append,List.map_singleton,ZcP,h3]
     have hne:x.kn.1≠k.1:=fun u=>q (Subtype.ext u.symm)
     rw[if_neg hne]
 · by_cases q:e.key=x.key
   · exact⟨_,by unfold putF;rw[if_pos (Subtype.ext q)]⟩
   · simp only[List.mem_append,List.mem_singleton]at he
     rcases he with he|rfl
     · obtain⟨u,hu⟩:=h.all e he hm
       exact⟨u,by unfold putF;rw[if_neg (fun y=>q (congrArg Subtype.val y))];exact hu⟩
     · exact absurd rfl q
structure Took (w0:World) (S:DK->Int) (F:{ k:DK // OkM k }->Option Dl) (left:{ k:DK // OkM k }->Bool) (xs:List Dl):Prop where
 mem:∀ d∈xs,d.Ok w0/\d.n=S d.key/\d.n≠0/\∃ h:OkM d.key,left ⟨d.key,h⟩=false
 out:∀ k d,F k=some d->left k=false->S k.1=0∨∃ e∈xs,e.key=k.1
 nodup:(xs.map Dl.key).Nodup
theorem Took.start (w0:World)(S:DK->Int)(F:{ k:DK // OkM k }->Option Dl):Took w0 S F (fun k=>(tabV F Dl.val k).isSome) [] :=
 ⟨fun d h=>(by cases h),fun k d h hl=>(by unfold tabV at hl;rw[h]at hl;cases hl),List.Pairwise.nil⟩
theorem Took.skip {w0:World}{S:DK->Int}{F:{ k:DK // OkM k }->Option Dl}{left:{ k:DK // OkM k }->Bool}{xs:List Dl}(h:Took w0 S F left xs){k:{ k:DK // OkM k }}{d:Dl}(hd:d.n=S k.1)(h0:d.n=0) :
 Took w0 S F (fun x=>left x&&!decide (x=k)) xs:=by
 refine⟨fun e he=>?_,fun x e hx hl=>?_,h.nodup⟩
 · obtain⟨h1,h2,h3,h4,h5⟩:=h.mem e he
   exact⟨h1,h2,h3,h4,by rw[h5];rfl⟩
 · by_cases q:x=k
   · subst q;exact Or.inl (hd ▸ h0)
   · refine h.out x e hx ?_
     simpa [q]using hl
theorem Took.take {w0:World}{S:DK->Int}{F:{ k:DK // OkM k }->Option Dl}{left:{ k:DK // OkM k }->Bool}{xs:List Dl}(h:Took w0 S F left xs){k:{ k:DK // OkM k }}{d:Dl}(hok:d.Ok w0)(hk:d.key=k.1)(hl:left k=true)(hd:d.n=S k.1)(h0:d.n≠0) :
 Took w0 S F (fun x=>left x&&!decide (x=k)) (xs++[d]):=by
 refine⟨fun e he=>?_,fun x e hx hl=>?_,?_⟩
 · simp only[List.mem_append,List.mem_singleton]at he
   rcases he with he|rfl
   · obtain⟨h1,h2,h3,h4,h5⟩:=h.mem e he
     exact⟨h1,h2,h3,h4,by rw[h5];rfl⟩
   · exact⟨hok,by rw[hk];exact hd,h0,hk ▸ k.2,by
       have:(⟨e.key,hk ▸ k.2⟩:{ k:DK // OkM k })=k:=Subtype.ext hk
       rw[this];simp⟩
 · by_cases q:x=k
   · subst q;exact Or.inr ⟨d,by simp,hk⟩
   · rcases h.out x e hx (by simpa [q]using hl)with u|⟨u,hu,Xf⟩
     · exact Or.inl u
     · exact Or.inr ⟨u,by simp[hu],Xf⟩
 · rw[List.map_append,List.map_singleton,List.nodup_append]
   refine⟨h.nodup,by simp,?_⟩
   intro x hx y hy e
   simp only[List.mem_singleton]at hy
   subst hy
   obtain⟨u,hu,rfl⟩:=List.mem_map.1 hx
   obtain⟨-,-,-,h4,h5⟩:=h.mem u hu
   have e2:(⟨u.key,h4⟩:{ k:DK // OkM k })=k:=Subtype.ext (e.trans hk)
   rw[e2,hl]at h5
   cases h5
theorem ZeP (L:List (DK × Int))(hL:∀ x∈L,I64 x.2):ZbN cmpD (sumK L) (consK L):=by
 have:∀ (M:List (DK × Int)) (N:List (DK × Int)) (r:List (DK × Int)),(∀ x∈M,I64 x.2)->ZbN cmpD (sumK N) r->ZbN cmpD (sumK (N++M)) (M.foldl (putK cmpD) r):=by
  intro M
  induction M with
  |nil=>intro N r _ h;rw[List.append_nil];exact h
  |cons x M ih =>
   intro N r hM h
   have:=ih (N++[x]) (putK cmpD r x) (fun y hy=>hM y (by simp[hy])) (h.put Zbx ((hM x (by simp)).wrapped))
   rw[List.append_assoc]at this
   exact this
 have:=this L [] [] hL ZbN.nil
 unfold consK
 simpa using this
theorem Took.done {w0:World}{L:List Dl}{F:{ k:DK // OkM k }->Option Dl}{left:{ k:DK // OkM k }->Bool}{xs p:List Dl}(hs:Sums w0 L F)(hok:∀ d∈L,d.Ok w0)(h:Took w0 (sumK (L.map Dl.kn)) F left xs)(hl:∀ k,left k=false)
 (hp:xs.Perm p) (hr:p.Pairwise (fun x y=>¬ cmpD y.key x.key<0)):p.map Dl.kn=consK (L.map Dl.kn)/\∀ d∈p,d.Ok w0:=by
 have hm:∀ d∈p,d∈xs:=fun d hd=>hp.mem_iff.2 hd
 refine⟨?_,fun d hd=>(h.mem d (hm d hd)).1⟩
 have hnd:(p.map Dl.key).Nodup:=(hp.map Dl.key).nodup_iff.1 h.nodup
 have hris:Rising cmpD (p.map Dl.kn):=by
  unfold Rising
  rw[List.pairwise_map]
  have h2:p.Pairwise (fun x y=>x.key≠y.key):=by
   have:=hnd
   unfold List.Nodup at this
   rwa [List.pairwise_map]at this
  refine(hr.and h2).imp ?_
  rintro x y ⟨a1,a2⟩
  show cmpD x.key y.key<0
  have t1:=Zbx.turn x.key y.key
  have t2:=Zbx.turn y.key x.key
  have t3:cmpD x.key y.key≠0:=fun e=>a2 ((Zbx.zero _ _).1 e)
  omega
 have hL:∀ x∈L.map Dl.kn,I64 x.2:=fun x hx=>by obtain⟨d,hd,rfl⟩:=List.mem_map.1 hx;exact(hok d hd).n
 refine ZbN.unique Zbx ⟨hris,fun x hx=>?_,fun k=>?_⟩ (ZeP _ hL)
 · obtain⟨d,hd,rfl⟩:=List.mem_map.1 hx
   exact(h.mem d (hm d hd)).2.2.1
 · by_cases h0:sumK (L.map Dl.kn) k=0
   · rw[h0]
     refine ZeI _ (fun z hz e=>?_)
     obtain⟨d,hd,rfl⟩:=List.mem_map.1 hz
     obtain⟨-,h2,h3,-⟩:=h.mem d (hm d hd)
     have e':d.key=k:=e
     rw[e',h0]at h2
     exact h3 h2
   · have hex:∃ x∈L.map Dl.kn,x.1=k:=by
       cases Classical.em (∃ x∈L.map Dl.kn,x.1=k)with
       |inl q=>exact q
       |inr q=>exact absurd (sumK_none (fun x hx e=>q ⟨x,hx,e⟩)) h0
     obtain⟨x,hx,rfl⟩:=hex
     obtain⟨d,hd,rfl⟩:=List.mem_map.1 hx
     obtain⟨e,he⟩:=hs.all d hd (hok d hd).mark
     rcases h.out _ _ he (hl _)with q|⟨u,hu,Xf⟩
     · exact absurd q h0
     · have hu2':u.key=d.key:=Xf
       refine look_mem Zbx _ hris ?_
       have hun:=(h.mem u hu).2.1
       rw[hu2']at hun
       refine List.mem_map.2 ⟨u,hp.mem_iff.1 hu,?_⟩
       show(u.key,u.n)=_
       rw[hun,hu2'];rfl
def SlD (w:World)(v:Value)(l:List Dl):Prop:=∃ ao c,v=.slice ao l.length c/\l.length<=c/\(ao=none->c=0)/\DlsAt w ao l
theorem SlD.kept {w w':World}{v:Value}{l:List Dl}(h:SlD w v l)(hb:Below w.heap.size w w'):SlD w' v l:=let ⟨a,c,h1,h2,h3,h4⟩:=h;⟨a,c,h1,h2,h3,h4.kept hb⟩
theorem OwnD.slD {w:World}{B:Nat}{v:Value}{l:List Dl}(h:OwnD w B v l):SlD w v l:=h.lies
abbrev zeroD:Value:=.agg #[.string ⟨#[]⟩,.int .i64 0,.string ⟨#[]⟩,.string ⟨#[]⟩,.int .i64 0,.slice none 0 0,.int .i64 0,.int .i64 0,.int .i64 0,.int .i64 0]
theorem zero41 (w:World):(zeroValue 70).run Tryz.prog w=.ok zeroD w:=Tryz.zeroValue70 w
theorem Box.at9 {w:World}{g:Nat}{t:TypeId}{a0 a1 a2 a3 a4 a5 a6 a7 a8:Value}(h:Box w g #[a0,a1,a2,a3,a4,a5,a6,a7,a8] t):w.cell? ⟨g,0,none⟩=some a0/\w.cell? ⟨g,1,none⟩=some a1/\w.cell? ⟨g,2,none⟩=some a2/\w.cell? ⟨g,3,none⟩=some a3/\w.cell? ⟨g,4,none⟩=some a4/\w.cell? ⟨g,5,none⟩=some a5/\w.cell? ⟨g,6,none⟩=some a6/\w.cell? ⟨g,7,none⟩=some a7/\w.cell? ⟨g,8,none⟩=some a8 :=
 ⟨h.cell 0 _ rfl,h.cell 1 _ rfl,h.cell 2 _ rfl,h.cell 3 _ rfl,h.cell 4 _ rfl,h.cell 5 _ rfl,h.cell 6 _ rfl,h.cell 7 _ rfl,h.cell 8 _ rfl⟩
theorem Tabs.cnt_le {P:Program}{kt:TypeId}{κ:Type}{Z:Keyz P kt κ}{w:World}{b r n cnt:Nat}{T:κ->Option Value}{left:κ->Bool}(h:Tabs w Z b r n T left cnt):cnt<=n:=by
 obtain⟨D,L,⟨es,clock,since,seen,c0,hb,F,hs,hD,hr,ho,hc,rest⟩,h2⟩:=h
 rw[<-hc]
 refine Nat.le_trans ?_ hs
 unfold leftOf
 exact Array.size_filter_le
theorem Own.grow {α:Type}{enc:α->List Value}{k:Nat}{e:TypeId}{w w':World}{B:Nat}{v:Value}{l:List α}{r:Nat}(h:Own enc k e w B v l)(hg:w.grownBy w' (some r))(hr:r<B):Own enc k e w' B v l:=by
 refine⟨h.1,?_⟩
 rcases h.2 with h|⟨g,cap,cur,h1,h2,h3,h4⟩
 · exact Or.inl h
 · exact Or.inr ⟨g,cap,cur,h1,h2,(hg.block g (Array.getElem?_eq_some_iff.1 h3).1 (by simp;omega)).trans h3,h4⟩
set_option maxHeartbeats 8000000 in
set_option maxRecDepth 100000 in
theorem ZcZ (l:List Dl)(ao:Option Addr)(cap:Nat)(hl:l.length<=10000000)(w:World)(h:DlsAt w ao l) :
 Calls Tryz.prog 32 #[.slice ao l.length cap] w fun e w'=>∃ v l',e=.returned v/\SlD w' v l'/\l'.length<=l.length/\l'.map Dl.kn=consK (l.map Dl.kn)/\Below w.heap.size w w':=by
 have H:=hid h.1
 have Ma:=hid h.2
 clear h
 have hmm:=@run_makeMap Tryz.prog
 go_enter Tryz.func32,Tryz.ntmps32
 go_wp2_with fail
 go_loopw [14] (fun jj wr=>∃ (i:Nat) (F:{ k:DK // OkM k }->Option Dl),i<=l.length/\jj=.int .i64 i/\Hid (Tab wr keysM w.heap.size i (tabV F Dl.val))/\Hid (Sums w (l.take i) F)/\Below w.heap.size w wr) (fun jj _=>l.length - (intOf jj).toNat)
 case atStart=>exact⟨0,fun _=>none,by omega,rfl,ZdJ w keysM,Sums.nil w,Zab _⟩
 case round =>
  obtain⟨i,F,hi,rfl,HTab,HSum,hB⟩:=hrel
  have HB:=hid hB
  clear hB
  obtain⟨wo,hwo⟩:∃ wo,wo=wr:=⟨_,rfl⟩
  subst hwo
  by_cases hlt:i<l.length
  · obtain⟨x,hx⟩:∃ x,l[i]?=some x:=⟨l[i],List.getElem?_eq_getElem hlt⟩
    obtain⟨b,off,rfl,hrow⟩:=Zat (H.out.kept HB.out) hx
    obtain⟨c0,c1,c2,c3,c4,c5,c6,c7,c8,c9⟩:=Dl.cell hrow hx
    have HX:=hid hx
    have Gc:Hid (x.Ok w):=Ma.out x (List.mem_of_getElem? hx)
    clear hrow hx
    go_upto_region 5 with fail
    refine Zan (fun X hX=>?_)
    have Hg:Hid (Below w.heap.size w X):=by rw[hX];exact HB.out.alloc HB.out.size _
    have HG:Hid (Box X wo.heap.size #[.string x.r.src,.int .i64 x.r.seq,.string x.r.tb,.string x.r.ky,.int .i64 x.r.ev,.slice x.r.fa x.r.vs.length x.r.fc,.int .i64 x.r.no,.int .i64 x.r.tk,.int .i64 x.tick,.int .i64 x.n] 70):=by rw[hX];exact Box.new _ _ _
    have Vp:Hid (Tab X keysM w.heap.size i (tabV F Dl.val)):=by rw[hX];exact HTab.out.alloc _
    have HWO:Hid (w.heap.size<wo.heap.size):=HTab.out.lt
    clear hX c0 c1 c2 c3 c4 c5 c6 c7 c8 c9
    obtain⟨d0,d1,d2,d3,d4,d5,d6,d7,d8,d9⟩:=HG.out.at10
    have HM:=hid (mark_any x.r x.tick X (Gc.out.r.kept Hg.out))
    have HGk:Hid (∀ w',Below X.heap.size X w'->w'.cell? ⟨wo.heap.size,0,none⟩=some (.string x.r.src)/\w'.cell? ⟨wo.heap.size,1,none⟩=some (.int .i64 x.r.seq)/\w'.cell? ⟨wo.heap.size,2,none⟩=some (.string x.r.tb)/\w'.cell? ⟨wo.heap.size,3,none⟩=some (.string x.r.ky)/\w'.cell? ⟨wo.heap.size,4,none⟩=some (.int .i64 x.r.ev)/\w'.cell? ⟨wo.heap.size,5,none⟩=some (.slice x.r.fa x.r.vs.length x.r.fc)/\w'.cell? ⟨wo.heap.size,6,none⟩=some (.int .i64 x.r.no)/\w'.cell? ⟨wo.heap.size,7,none⟩=some (.int .i64 x.r.tk)/\w'.cell? ⟨wo.heap.size,8,none⟩=some (.int .i64 x.tick)/\w'.cell? ⟨wo.heap.size,9,none⟩=some (.int .i64 x.n)):=fun w' hb=>(HG.out.kept hb).at10
    have HGf:Hid (∀ w',Below X.heap.size X w'->w'.frozen? ⟨wo.heap.size,9,none⟩=false):=fun w' hb=>(HG.out.kept hb).free 9
    have HSx:Hid (∀ S,S=strOf (encF x.r.vs)->keysM.val ⟨x.key,Gc.out.mark⟩=.agg #[.string x.r.src,.int .i64 x.r.seq,.string x.r.tb,.string x.r.ky,.int .i64 x.r.ev,.int .i64 x.r.no,.int .i64 x.r.tk,.int .i64 x.tick,.string S]):=fun S hS=>by rw[hS];rfl
    obtain⟨S,hS⟩:∃ S,S=strOf (encF x.r.vs):=⟨_,rfl⟩
    have Pf:=hid (HSx.out S hS)
    simp only[markV,<-hS]at HM
    have Fo:=hid hS
    clear hS HSx
    obtain⟨kx,hkx⟩:∃ kx:{ k:DK // OkM k },kx=⟨x.key,Gc.out.mark⟩:=⟨_,rfl⟩
    have Dj:=hid hkx
    rw[<-hkx]at Pf
    clear hkx
    cases hF:F kx with
    |none =>
     have HFr:Hid (Sums w (l.take (i+1)) (putF F kx x)):=by show Sums _ _ _;rw[Zar HX.out,Dj.out];exact HSum.out.fresh Gc.out (by rw[<-Dj.out];exact hF)
     have Xo:=hid hF
     clear hF
     go_upto_region 9 with(first
      |(go_at_call 61;(with_reducible refine HM.out.mono ?_);rintro e w1 ⟨rfl,hb⟩;have Qb:=hid hb;obtain⟨k0,k1,k2,k3,k4,k5,k6,k7,k8,k9⟩:=HGk.out w1 hb;have f9:=HGf.out w1 hb;have HTb:Hid (Tab (w1.alloc (.cells #[.string x.r.src,.int .i64 x.r.seq,.string x.r.tb,.string x.r.ky,.int .i64 x.r.ev,.int .i64 x.r.no,.int .i64 x.r.tk,.int .i64 x.tick,.string S] 106)) keysM w.heap.size i (tabV F Dl.val)):=(Vp.out.kept hb).alloc _;clear hb)
      |(at_lookup;refine Zew rfl (.tmp 24) (.tmp 25) 104 rfl 70 Tryz.underlying104 (zero41 _) rfl HTb.out kx Pf.out.symm trivial Xo.out ?_))
     refine Zan (fun X2 h2=>?_)
     have Pj:Hid (Below w1.heap.size w1 X2):=by rw[h2];exact Zak _ _
     have Eo:Hid (Tab X2 keysM w.heap.size i (tabV F Dl.val)):=by rw[h2];exact HTb.out.alloc _
     have Ww:Hid (Box X2 w1.heap.size #[.string x.r.src,.int .i64 x.r.seq,.string x.r.tb,.string x.r.ky,.int .i64 x.r.ev,.int .i64 x.r.no,.int .i64 x.r.tk,.int .i64 x.tick,.string S] 106):=by rw[h2];exact(Box.new w1 _ _).kept (Zab _)
     have Ej:Hid (Box X2 wo.heap.size #[.string x.r.src,.int .i64 x.r.seq,.string x.r.tb,.string x.r.ky,.int .i64 x.r.ev,.slice x.r.fa x.r.vs.length x.r.fc,.int .i64 x.r.no,.int .i64 x.r.tk,.int .i64 x.tick,.int .i64 x.n] 70):=(HG.out.kept Qb.out).kept Pj.out
     have HBx2:Hid (Below w.heap.size w X2):=keepB (Nat.le_refl _) (keepB (Nat.le_refl _) Hg.out Qb.out) Pj.out
     clear h2 k0 k1 k2 k3 k4 k5 k6 k7 k8 k9 f9 d0 d1 d2 d3 d4 d5 d6 d7 d8 d9
     obtain⟨k0,k1,k2,k3,k4,k5,k6,k7,k8,k9⟩:=Ej.out.at10
     obtain⟨m0,m1,m2,m3,m4,m5,m6,m7,m8⟩:=Ww.out.at9
     have hmx:i<maxLen:=by unfold maxLen;omega
     go_wp2_with (at_mapUpdate;refine ZbU rfl (.tmp 36) (.tmp 37) (.tmp 38) 104 rfl 70 Tryz.underlying104 rfl Eo.out hmx kx Pf.out.symm trivial x rfl ?_;intro w5 ht hg;have Si:=hid ht;have Xe:Hid (Below w.heap.size w w5):=HBx2.out.grown hg HBx2.out.size (fun j hj=>(by injection hj with hj;omega));clear ht hg)
     go_roundw
     case rel=>exact⟨i+1,_,by omega,by go_num,Si,HFr,Xe.out⟩
     case measure=>simp[intOf];omega
    |some d =>
     have HFr:Hid (Sums w (l.take (i+1)) (putF F kx (x.withN (IntKind.i64.wrap (x.n+d.n))))):=by show Sums _ _ _;rw[Zar HX.out,Dj.out];exact HSum.out.again Gc.out (by rw[<-Dj.out];exact hF)
     have Xo:=hid hF
     have Ms:Hid (wrap64 (x.n+d.n)=IntKind.i64.wrap (x.n+d.n)):=ZeT _
     clear hF
     go_upto_region 9 with(first
      |(go_at_call 61;(with_reducible refine HM.out.mono ?_);rintro e w1 ⟨rfl,hb⟩;have Qb:=hid hb;obtain⟨k0,k1,k2,k3,k4,k5,k6,k7,k8,k9⟩:=HGk.out w1 hb;have f9:=HGf.out w1 hb;have HTb:Hid (Tab (w1.alloc (.cells #[.string x.r.src,.int .i64 x.r.seq,.string x.r.tb,.string x.r.ky,.int .i64 x.r.ev,.int .i64 x.r.no,.int .i64 x.r.tk,.int .i64 x.tick,.string S] 106)) keysM w.heap.size i (tabV F Dl.val)):=(Vp.out.kept hb).alloc _;have HTw:Hid (Tab w1 keysM w.heap.size i (tabV F Dl.val)):=Vp.out.kept hb;have HGw:Hid (Box w1 wo.heap.size #[.string x.r.src,.int .i64 x.r.seq,.string x.r.tb,.string x.r.ky,.int .i64 x.r.ev,.slice x.r.fa x.r.vs.length x.r.fc,.int .i64 x.r.no,.int .i64 x.r.tk,.int .i64 x.tick,.int .i64 x.n] 70):=HG.out.kept hb;have HWl:Hid (wo.heap.size<w1.heap.size):=(HG.out.kept hb).lt;have hwl:=HWl.out;clear hb)
      |(at_lookup;refine Zev rfl (.tmp 24) (.tmp 25) 104 rfl 70 Tryz.underlying104 (zero41 _) rfl HTb.out kx Pf.out.symm trivial d Xo.out ?_))
     refine Zan (fun X2 h2=>?_)
     have Pj:Hid (Below w.heap.size w X2):=by
      rw[h2]
      have h0:=keepB (Nat.le_refl _) Hg.out Qb.out
      exact((h0.setCell (by have:=HWO.out;show w.heap.size<=wo.heap.size;omega) _).alloc (by have:=h0.size;simp;omega) _).alloc (by have:=h0.size;simp;omega) _
     have Eo:Hid (Tab X2 keysM w.heap.size i (tabV F Dl.val)):=by
      rw[h2]
      exact((HTw.out.setCell (a:=⟨wo.heap.size,9,none⟩) (by have:=HWO.out;simp;omega) _).alloc _).alloc _
     have Ww:Hid (Box X2 w1.heap.size #[.string x.r.src,.int .i64 x.r.seq,.string x.r.tb,.string x.r.ky,.int .i64 x.r.ev,.int .i64 x.r.no,.int .i64 x.r.tk,.int .i64 x.tick,.string S] 106):=by
      rw[h2]
      have:=(Box.new (w1.setCell ⟨wo.heap.size,9,none⟩ (.int .i64 (wrap64 (x.n+d.n)))) #[.string x.r.src,.int .i64 x.r.seq,.string x.r.tb,.string x.r.ky,.int .i64 x.r.ev,.int .i64 x.r.no,.int .i64 x.r.tk,.int .i64 x.tick,.string S] 106).kept (Zab (.cells #[.string d.r.src,.int .i64 d.r.seq,.string d.r.tb,.string d.r.ky,.int .i64 d.r.ev,.slice d.r.fa d.r.vs.length d.r.fc,.int .i64 d.r.no,.int .i64 d.r.tk,.int .i64 d.tick,.int .i64 d.n] 70))
      show Box _ _ _ _
      simpa using this
     have Ej:Hid (Box X2 wo.heap.size #[.string x.r.src,.int .i64 x.r.seq,.string x.r.tb,.string x.r.ky,.int .i64 x.r.ev,.slice x.r.fa x.r.vs.length x.r.fc,.int .i64 x.r.no,.int .i64 x.r.tk,.int .i64 x.tick,.int .i64 (wrap64 (x.n+d.n))] 70):=by rw[h2];exact(HGw.out.put 9 _).kept (Zak _ _)
     clear h2 k0 k1 k2 k3 k4 k5 k6 k7 k8 k9 f9 d0 d1 d2 d3 d4 d5 d6 d7 d8 d9
     generalize wrap64 (x.n+d.n)=sm at *
     obtain⟨k0,k1,k2,k3,k4,k5,k6,k7,k8,k9⟩:=Ej.out.at10
     obtain⟨m0,m1,m2,m3,m4,m5,m6,m7,m8⟩:=Ww.out.at9
     have hmx:i<maxLen:=by unfold maxLen;omega
     go_wp2_with (at_mapUpdate;refine ZbU rfl (.tmp 36) (.tmp 37) (.tmp 38) 104 rfl 70 Tryz.underlying104 rfl Eo.out hmx kx Pf.out.symm trivial (x.withN sm) rfl ?_;intro w5 ht hg;have Si:=hid ht;have Xe:Hid (Below w.heap.size w w5):=Pj.out.grown hg Pj.out.size (fun j hj=>(by injection hj with hj;omega));clear ht hg)
     go_roundw
     case rel=>exact⟨i+1,_,by omega,by go_num,Si,by rw[Ms.out];exact HFr,Xe.out⟩
     case measure=>simp[intOf];omega
  · obtain rfl:i=l.length:=by omega
    have HS:Hid (Sums w l F):=by have:=HSum.out;rwa [List.take_length]at this
    clear HSum
    generalize hln:l.length=nl at *
    have HLn:=hid hln
    clear hln
    go_wp2_with (at_range;refine Zel rfl (.tmp 40) 104 rfl 70 Tryz.underlying104 rfl HTab.out ?_;intro w2 cnt0 hrg hgr hsz;have HRg:=hid hrg;have HGr:=hid hgr;have HSz:=hid hsz;clear hrg hgr hsz)
    go_frame
    have La:Hid (Below w.heap.size w w2):=HB.out.grown HGr.out HB.out.size (fun j hj=>by cases hj)
    have Xd:Hid (cnt0<=nl):=HRg.out.cnt_le
    have Hbr:Hid (w.heap.size<w2.heap.size/\wo.heap.size<w2.heap.size):=by have h1:=HSz.out;have h2:=HTab.out.lt;exact⟨by omega,by omega⟩
    have Hwr:Hid (w.heap.size<=wo.heap.size):=HB.out.size
    generalize wo.heap.size=r at *
    go_loopw [2] (fun v wr=>∃ (xs:List Dl) (left:{ k:DK // OkM k }->Bool) (cnt:Nat) (v0:Value),v0=v/\Hid (Own Dl.cells 10 70 wr w2.heap.size v xs/\xs.length+cnt<=cnt0)/\Hid (Tabs wr keysM w.heap.size r nl (tabV F Dl.val) left cnt)/\Hid (Took w (sumK (l.map Dl.kn)) F left xs)/\Below w.heap.size w wr/\w2.heap.size<=wr.heap.size) (fun _ wr=>wr.rangeLeft w.heap.size r)
    case atStart=>exact⟨[],_,cnt0,_,rfl,⟨Own.nil _ _,by simp⟩,HRg,Took.start w _ F,La.out,Nat.le_refl _⟩
    case round =>
     obtain⟨xs,left,cnt,v0,rfl,HOw,HTs,HTk,hB3,hS3⟩:=hrel
     have Ib:=hid hB3
     have Eb:=hid hS3
     clear hB3 hS3
     go_wp2_with (at_next;refine Zek rfl (.tmp 41) rfl (fun k=>markK k.1) (fun k=>rfl) rfl HTs.out ?_ ?_)
     · unfold ThenDone
       intro hdone
       have HDone:=hid hdone
       clear hdone
       obtain⟨a2,c2,rfl,Ff,Eg,Jv⟩:=HOw.out.1.lies encD
       have HLx:Hid (xs.length<=nl):=by have h1:=HOw.out.2;have h2:=Xd.out;show _<=_;omega
       have HSort:=hid (sortD_any w xs wr Ib.out a2 c2 (HOw.out.1.mono (by have:=Hbr.out.1;omega)) (fun d hd=>(HTk.out.mem d hd).1) (by have:=HLx.out;omega))
       have Ra:=hid Ff
       have Ia:=hid Eg
       clear Ff Eg Jv
       generalize hxl:xs.length=xl at *
       have Qp:=hid hxl
       clear hxl
       go_wp2_with (go_at_call 62;(with_reducible refine HSort.out.mono ?_);rintro e w5 ⟨rfl,p,hp,hr,hlies,hb⟩;have HP:=hid hp;have HRr:=hid hr;have HLi:=hid hlies;have Xe:=hid hb;clear hp hr hlies hb)
       go_ret
       have hfin:=HTk.out.done HS.out Ma.out (fun k=>HDone.out k trivial) HP.out (HRr.out.imp (fun {x y} h=>by omega))
       have hpl:p.length=xl:=by rw[<-HP.out.length_eq,Qp.out]
       exact⟨_,p,rfl,⟨a2,c2,by rw[hpl];rfl,by rw[hpl];exact Ra.out,Ia.out,HLi.out,fun d hd=>(hfin.2 d hd).kept Xe.out⟩,by rw[hpl,HLn.out];exact HLx.out,hfin.1,Xe.out⟩
     · unfold ThenMore
       intro k d w3 cnt3 _ hlk hFk ht3 Uq Gg hs3 hen
       obtain⟨q1,q2,q3⟩:=HS.out.says k d hFk
       have HQ:Hid (d.Ok w/\d.key=k.1/\d.n=sumK (l.map Dl.kn) k.1):=⟨q1,q2,q3⟩
       have HLk:=hid hlk
       have Rj:=hid ht3
       have HLt:=hid Uq
       have Ii:=hid Gg
       have Fl:=hid hs3
       have Sb:Hid (Own Dl.cells 10 70 w3 w2.heap.size v0 xs):=HOw.out.1.grow Ii.out Hbr.out.2
       have Fk:Hid (Below w.heap.size w w3):=Ib.out.grown Ii.out Ib.out.size (fun j hj=>by injection hj with hj;subst hj;exact Hwr.out)
       clear q1 q2 q3 hlk ht3 Uq Gg hs3 hFk
       have HXl:Hid (xs.length<=nl):=by have h1:=HOw.out.2;have h2:=Xd.out;show _<=_;omega
       by_cases h0:d.n=0
       · have hne:(d.n != 0)=false:=by simpa using h0
         have HTk2:=hid (HTk.out.skip (k:=k) (d:=d) HQ.out.2.2 h0)
         clear h0
         go_wp2_with fail
         go_roundw
         case rel=>exact⟨xs,_,cnt3,_,rfl,⟨Sb.out.kept (Zab _),by have h1:=HOw.out.2;have h2:=HLt.out;omega⟩,Rj.out.kept (Zab _),HTk2,Fk.out.alloc Fk.out.size _,by have h1:=Fl.out;have h2:=Eb.out;simp;omega⟩
         case measure=>rw[(Rj.out.kept (Zab _)).left_eq,HTs.out.left_eq];exact HLt.out
       · have hne:(d.n != 0)=true:=by simpa using h0
         have HTk2:=hid (HTk.out.take (k:=k) (d:=d) HQ.out.1 HQ.out.2.1 HLk.out HQ.out.2.2 h0)
         clear h0
         have Of:Hid (Own Dl.cells 10 70 ((w3.alloc (.cells (Dl.cells d).toArray 70)).alloc (.cells (Dl.cells d).toArray 70)) w2.heap.size v0 xs):=(Sb.out.kept (Zab _)).kept (Zab _)
         have Sc:Hid (w2.heap.size<=((w3.alloc (.cells (Dl.cells d).toArray 70)).alloc (.cells (Dl.cells d).toArray 70)).heap.size):=by have h1:=Fl.out;have h2:=Eb.out;show _<=_;simp;omega
         have Kd:Hid (Zac Dl.cells 10 ((w3.alloc (.cells (Dl.cells d).toArray 70)).alloc (.cells (Dl.cells d).toArray 70)) (some ⟨(w3.alloc (.cells (Dl.cells d).toArray 70)).heap.size,0,none⟩) [d]):=Zav _ _ encD
         rw[show(w3.alloc (.cells (Dl.cells d).toArray 70)).heap.size=w3.heap.size+1 by simp]at Kd
         have Xm:Hid (Tabs ((w3.alloc (.cells (Dl.cells d).toArray 70)).alloc (.cells (Dl.cells d).toArray 70)) keysM w.heap.size r nl (tabV F Dl.val) (fun x=>left x&&!decide (x=k)) cnt3):=(Rj.out.kept (Zab _)).kept (Zab _)
         have Zh:Hid (Below w.heap.size w ((w3.alloc (.cells (Dl.cells d).toArray 70)).alloc (.cells (Dl.cells d).toArray 70))):=(Fk.out.alloc Fk.out.size _).alloc (by have:=Fk.out.size;simp;omega) _
         have HLa:Hid (xs.length+[d].length<=1000000000):=by show _<=_;have:=HXl.out;simp;omega
         go_wp2_with (at_builtin;refine Zai elD encD rfl (.tmp 49) (.tmp 51) rfl rfl rfl Of.out Kd.out rfl (fun e=>by cases e) Sc.out HLa.out ?_;intro v5 w5 ho hb;have Bc:=hid ho;have Ya:=hid hb;clear ho hb)
         go_roundw
         case rel=>exact⟨xs++[d],_,cnt3,_,rfl,⟨Bc.out,by have h1:=HOw.out.2;have h2:=HLt.out;simp;omega⟩,Xm.out.below Ya.out Hbr.out.1 Hbr.out.2,HTk2,Zh.out.trans (Ya.out.mono (Nat.le_of_lt Hbr.out.1)),Nat.le_trans Sc.out Ya.out.size⟩
         case measure=>rw[(Xm.out.below Ya.out Hbr.out.1 Hbr.out.2).left_eq,HTs.out.left_eq];exact HLt.out
end Go.Proofs.YtfnpfkgmacaboaaGreat
