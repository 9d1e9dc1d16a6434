/- Texts joined by a program. -/
import Derived.TacticsInMore
import Derived.LoopNIn
import Derived.Sort.CutIn
import Derived.Shelf.Abstract
import Derived.Shelf.RegionOpen
import Derived.WideKeyEntry
import Derived.StringKeys
import Derived.Test.YtfnpfkgmacaboaaGreatM12
namespace Go.Proofs.YtfnpfkgmacaboaaGreat
open Go.Proofs.Tryz
open Go.ChangeShapes Go.WideShapes Go.ChangeAt Go.RowKit
set_option linter.unusedVariables false
set_option linter.unusedSimpArgs false
attribute [local go_sem] Oper.semAt_some
theorem wpIn_gen {F:Fence}{n:Nat}{P:Program}{c:Code}{Q:Exit->Act->World->Prop}{a:Act}{w:World}(h:∀ V,V=w->c.wpIn F n P Q a V):c.wpIn F n P Q a w:=h w rfl
abbrev Bs:=Bool × En
def zeroE:En:=⟨0,0,0,⟨#[]⟩,0,0,0,⟨#[]⟩,⟨#[]⟩,0,none,0,[],0,⟨#[]⟩,⟨#[]⟩,⟨#[]⟩,0,0,⟨#[]⟩,⟨#[]⟩,fun _=>0,fun _=>⟨#[]⟩,fun _=>(none,0,0)⟩
def zeroB:Bs:=(false,zeroE)
def Bs.cells (b:Bs):List Value:=.bool b.1 :: b.2.cells
theorem Bs.cells_one (b:Bs):∀ v∈Bs.cells b,v.oneCell'=true:=fun v hv=>by
 rcases List.mem_cons.1 hv with rfl|h
 · rfl
 · exact b.2.cells_one v h
abbrev bsV (b:Bs):Value:=.agg (Bs.cells b).toArray
theorem zero110 (w:World):(zeroValue 93).run prog w=.ok (bsV zeroB) w:=Tryz.zeroValue93 w
def nextB (b:Bs)(x:En):Bs:=(b.1||x.fk==1,if b.2.seq<x.seq then x else b.2)
def stepB (F:FID->Option Bs)(x:En):FID->Option Bs:=if x.kind=1 then fun k=>if eqF k x.base then some (nextB ((F k).getD zeroB) x)else F k else F
def Zbj (l:List En):FID->Option Bs:=l.foldl stepB (fun _=>none)
theorem Zdw (l:List En)(x:En):Zbj (l++[x])=stepB (Zbj l) x:=by unfold Zbj;rw[List.foldl_append];rfl
def tabB (l:List En):{ k:FID // OkF k }->Option Bs:=fun k=>Zbj l k.1
theorem tabB_skip (l:List En)(x:En)(h:x.kind≠1):tabB (l++[x])=tabB l:=by
 funext k;unfold tabB;rw[Zdw,stepB,if_neg h]
theorem tabB_put (l:List En)(x:En)(h:x.kind=1)(hx:OkF x.base):tabB (l++[x])=putF (tabB l) ⟨x.base,hx⟩ (nextB ((tabB l ⟨x.base,hx⟩).getD zeroB) x):=by
 funext k
 unfold putF
 show Zbj (l++[x]) k.1=_
 rw[Zdw,stepB,if_pos h]
 by_cases e:k=⟨x.base,hx⟩
 · rw[if_pos e];subst e
   show(if eqF x.base x.base then _ else _)=_
   rw[if_pos (ZaW.2 rfl)];rfl
 · rw[if_neg e]
   show(if eqF k.1 x.base then _ else _)=_
   rw[if_neg (fun e2=>e (Subtype.ext (ZaW.1 e2)))];rfl
theorem setRow_other (w:World){g k:Nat}(new:Array Value)(h:k≠g):(w.setRow g new).heap[k]?=w.heap[k]?:=by
 unfold World.setRow
 simp only[Array.getElem?_modify]
 rw[if_neg (fun e=>h e.symm)]
theorem Zdl (w:World)(g:Nat)(new:Array Value):w.grownBy (w.setRow g new) (some g) :=
 ⟨rfl,rfl,rfl,by simp[World.setRow],fun k hk hne=>setRow_other w new (fun e=>hne (by rw[e]))⟩
theorem cell_lt_of {w:World}{l:List En}{ao:Option Addr}(h:Zac En.cells 40 w ao l){x:En}(hx:x∈l){b off:Nat}(e:ao=some ⟨b,off,none⟩):b<w.heap.size:=by
 obtain⟨i,hi⟩:=List.getElem?_of_mem hx
 obtain⟨b',off',rfl,hr⟩:=Zat h hi
 injection e with e
 injection e with e1
 subst e1
 exact Zfk (hr i x hi 0 _ rfl)
theorem bases_end {w w1 W Y w5 X W2:World}{pre:List En}{x:En}{id:FID}{nb B:Bs}{bl bt:Nat}{ao:Option Addr}(hk:x.kind=1)(hid:id=x.base)(hnb:nb=nextB B x)(hxo:OkF x.base)(hok:OkF id)(hB:B=(tabB pre ⟨id,hok⟩).getD zeroB)
 (hbx:Boxed Y (w.heap.size+1) 90 (.map (some w.heap.size))) (ht:Tab w5 keysF w.heap.size (pre.length+1) (tabV (putF (tabB pre) ⟨id,hok⟩ nb) bsV)) (hg:Y.grownBy w5 (some w.heap.size)) (hYw:Below w.heap.size w Y)
 (hK:∀ k,k<W.heap.size->Y.heap[k]?=W.heap[k]?) (hs:Y.heap.size=X.heap.size) (hw:W.heap.size<=W2.heap.size/\W2.heap.size+2<=X.heap.size) (hsW:w.heap.size<=W.heap.size) (hS:w1.heap.size<=W.heap.size)
 (hbl:bl<w1.heap.size) (hbt:bt<w1.heap.size) (He:w.heap.size+1+1<=bl) (Ye:w.heap.size+1+1<=bt) (hao:∀ b off,ao=some ⟨b,off,none⟩->b<w.heap.size) :
 (Boxed w5 (w.heap.size+1) 90 (.map (some w.heap.size))/\Tab w5 keysF w.heap.size (pre.length+1) (tabV (tabB (pre++[x])) bsV)/\Below w.heap.size w w5) /\
  Zei (fun k=>k=bl∨k=bt∨(k<w1.heap.size/\∃ off,ao=some ⟨k,off,none⟩)) w1.heap.size W w5:=by
 subst hid
 have hall:∀ k,k<W.heap.size->k≠w.heap.size->w5.heap[k]?=W.heap[k]?:=fun k h1 h2=>(hg.block k (by omega) (fun e=>h2 (by injection e))).trans (hK k h1)
 refine⟨⟨hbx.kept hg (fun e=>by injection e with e;omega),?_,hYw.grown hg hYw.size (fun k e=>by injection e with e;omega)⟩,fun k hk'=>?_,fun k o h1 h2 h3=>?_⟩
 · rw[tabB_put pre x hk hok,<-hB,<-hnb];exact ht
 · rcases hk' with rfl|rfl|⟨h1,off,h2⟩
   · exact hall _ (by omega) (by omega)
   · exact hall _ (by omega) (by omega)
   · have:=hao k off h2
     exact hall _ (by omega) (by omega)
 · exact(hall k (Zeg h2) (by omega)).trans h2
set_option maxRecDepth 100000 in
set_option maxHeartbeats 8000000 in
theorem bases_any (l:List En)(ao:Option Addr)(c:Nat)(t:Int)(hl:l.length<=1000000000)(w:World)(h:EnsAt w ao l) :
 Calls prog 46 #[.slice ao l.length c,.int .i64 t] w fun e w'=>∃ b m,e=.returned (.map (some b))/\Tab w' keysF b m (tabV (tabB (untl l t)) bsV)/\m<=l.length/\w.heap.size<=b/\Below w.heap.size w w':=by
 refine(callsIn_wide (n:=3)).1 ?_
 have H:=Lib.hid h
 have HM:=Lib.hid (fun w'=>callsIn_wide (n:=2).2 (until_any l.length c ao t w'))
 clear h
 have hmm:=@run_makeMap prog
 refine callsIn_of_wp_marks func46 rfl trivial ?_ rfl
 simp only[ntmps46,List.size_toArray,List.length_cons,List.length_nil,Nat.reduceAdd,Nat.reduceSub,Array.replicate_succ,Array.replicate_zero,List.push_toArray,List.append_toArray,List.nil_append,List.cons_append]
 gi_wp2_with fail
 refine⟨trivial,(HM.out _).mono ?_⟩
 rintro e w1 ⟨v,rfl,bl,bt,rfl,hbl,hbt,He,Ye,hb⟩
 simp only[World.size_alloc]at He Ye
 have hs1:=hb.size
 simp only[World.size_alloc]at hs1
 have Cc:Boxed ((w.alloc (.map #[] 0)).alloc (.cells #[.map (some w.heap.size)] 90)) (w.heap.size+1) 90 (.map (some w.heap.size)):=by have:=Boxed.new (w.alloc (.map #[] 0)) 90 (.map (some w.heap.size));simpa using this
 have hbox:Boxed w1 (w.heap.size+1) 90 (.map (some w.heap.size)):=(hb.block _ (by simp)).trans Cc
 have htab:Tab w1 keysF w.heap.size 0 (tabV (tabB []) bsV):=((ZdJ w keysF).alloc _).kept hb
 have Qb:Hid (Below w.heap.size w w1):=keepB (Nat.le_refl _) (Zak _ _) hb
 have Bm:=Lib.hid hbl.lt
 have Yh:=Lib.hid hbt.lt
 have HY:=Lib.hid (until_yields 2 (by omega) bl bt t l ao c hl w1 hbl hbt (H.out.1.kept Qb.out) (fun k=>k=bl∨k=bt∨(k<w1.heap.size/\∃ off,ao=some ⟨k,off,none⟩)) (Or.inl rfl) (Or.inr (Or.inl rfl)) ?k3 (fun k hk=>by rcases hk with rfl|rfl|⟨h1,-⟩;exact Bm.out;exact Yh.out;exact h1))
 case k3=>exact fun b off e hlt=>Or.inr (Or.inr ⟨hlt,off,e⟩)
 have Wh:Hid (∀ pre x rest,untl l t=pre++x :: rest->pre.length<1000000000/\x∈l):=fun pre x rest e=>by
  have e1:=congrArg List.length e
  have e2:(untl l t).length<=l.length:=List.length_filter_le _ _
  refine⟨by simp at e1;omega,?_⟩
  have:x∈untl l t:=by rw[e];simp
  exact(List.mem_filter.1 this).1
 clear HM hb
 gi_wp2
 refine wp_range (n:=3) (gf:=103) (lb:=#[.pointer (some ⟨bl,0,none⟩),.pointer (some ⟨bt,0,none⟩)]) rfl (Go.Proofs.enters_of func103 (by kernel_rfl) rfl) (encs:=fun x:En=>#[x.val]) (fun _=>rfl) (bl:=bl) Bm.out (K:=fun k=>k=bl∨k=bt∨(k<w1.heap.size/\∃ off,ao=some ⟨k,off,none⟩))
  (fun k hk=>by rcases hk with rfl|rfl|⟨h1,-⟩;exact Bm.out;exact Yh.out;exact h1) HY.out
  (fun pre W=>Boxed W (w.heap.size+1) 90 (.map (some w.heap.size))/\Tab W keysF w.heap.size pre.length (tabV (tabB pre) bsV)/\Below w.heap.size w W) ?minds ⟨hbox,htab,Qb.out⟩
  (fun x a' W=>∃ q,w1.heap.size<=q/\Box W q x.cells.toArray 48/\a'={ tmps:=#[.slice ao l.length c,.int .i64 t,undef,undef,.map none,.pointer (some ⟨w.heap.size+1,0,none⟩),.pointer (some ⟨q,0,none⟩),undef,undef,.map (some w.heap.size),.slice ao l.length c,.int .i64 t,.func (.func 103) #[] #[.pointer (some ⟨bl,0,none⟩),.pointer (some ⟨bt,0,none⟩)],x.val,undef,undef,undef,undef,undef,undef,undef,undef,undef,undef,undef,undef,undef,undef,undef,undef,undef,undef,undef,undef,undef,undef,undef,undef,undef,undef,undef,undef,undef,undef,undef,undef,undef,undef],defers:=[] }) ?axm ?assign ?body ?done
 case minds =>
  rintro pre A B r ⟨hbx,ht,hbb⟩ hg hr
  have h1:r≠w.heap.size:=by rcases hr with rfl|⟨hr,_⟩<;>omega
  have h2:r≠w.heap.size+1:=by rcases hr with rfl|⟨hr,_⟩<;>omega
  exact⟨hbx.kept hg (fun e=>h2 (by injection e with e;exact e.symm)),ht.grown hg (fun e=>h1 (by injection e with e;exact e.symm)),hbb.grown hg hbb.size (fun k e=>by injection e with e;subst e;rcases hr with rfl|⟨hr,_⟩<;>omega)⟩
 case axm =>
  rintro x a' A B r ⟨q,hq,h2,rfl⟩ hg hr
  refine⟨q,hq,(hg.block q (Zeg h2) (fun e=>?_)).trans h2,rfl⟩
  injection e with e
  subst e
  rcases hr with rfl|⟨_,o,ho',hc⟩
  · have:=Bm.out;omega
  · rw[show A.heap[q]?=_ from h2]at ho';cases ho';cases hc
 case assign =>
  rintro lp pre x W C hS ⟨hbx,ht,hbb⟩ hC
  generalize hfr:Array.foldl _ _ _=fr
  simp at hfr
  subst hfr
  gi_wp2_with (refine Zb8 rfl rfl 48 (.tmp 6) (.tmp 13) rfl rfl rfl x.cells rfl rfl (by kernel_rfl) x.cells_one ?_)
  refine hC _ _ ⟨hbx.alloc _,ht.alloc _,hbb.alloc hbb.size _⟩ ⟨fun k hk=>Below.heap_alloc _ _ _ ?_,fun k o _ hk _=>(Below.heap_alloc _ _ _ (Zeg hk)).trans hk⟩ ⟨W.heap.size,hS,Box.new _ _ _,rfl⟩
  have h3:=Bm.out
  have h4:=Yh.out
  rcases hk with rfl|rfl|⟨h5,-⟩<;>omega
 case done =>
  rintro D W hD ⟨hbx,ht,hbb⟩ hd
  have hc:=hbx.cell
  have HT:=Lib.hid ht
  have Wf:=Lib.hid hbb
  have HD:=Lib.hid hd
  clear ht hbb hd hbx
  gi_wp2
  refine⟨by simp,.inl ⟨_,_,rfl,run_takeDeferred HD.out,?_⟩⟩
  refine⟨_,by simp[results,Tryz.results46,go_sem],w.heap.size,(untl l t).length,rfl,?_,List.length_filter_le _ _,Nat.le_refl _,?_⟩
  · exact HT.out.grown (grownBy_putObj' _ D (.deferred none)) (fun e=>by injection e with e;omega)
  · exact Wf.out.grown (grownBy_putObj' _ D (.deferred none)) Wf.out.size (fun k e=>by injection e with e;subst e;omega)
 case body =>
  rintro lp pre x rest a' W hxs hS ⟨hbx,ht,hbb⟩ ⟨q,hq,h2,rfl⟩
  have Qp:=Lib.hid (Wh.out pre x rest hxs)
  have HXM:Hid (x∈l):=(Wh.out pre x rest hxs).2
  have Gc:Hid (x.Ok w):=H.out.2 x (Wh.out pre x rest hxs).2
  have hc:=hbx.cell
  have Gb:=Lib.hid hbx
  have HT:=Lib.hid ht
  have Wf:=Lib.hid hbb
  have HQ:=Lib.hid h2
  clear hbx ht hbb h2 hxs
  by_cases hk:x.kind=1
  · have k2:=HQ.out.cell 2 (.int .i64 x.kind) rfl
    have hd:(x.kind != 1)=false:=by simpa using hk
    have k3:=HQ.out.cell 3 (.string x.src) rfl
    have k4:=HQ.out.cell 4 (.int .i64 x.seq) rfl
    have k5:=HQ.out.cell 5 (.int .i64 x.fk) rfl
    have k6:=HQ.out.cell 6 (.int .i64 x.ref) rfl
    have k7:=HQ.out.cell 7 (.string x.tb) rfl
    have k8:=HQ.out.cell 8 (.string x.ky) rfl
    have k9:=HQ.out.cell 9 (.int .i64 x.ev) rfl
    have k10:=HQ.out.cell 10 (.slice x.fa x.vs.length x.fc) rfl
    have HC:=Lib.hid (CallsIn.inRound lp (callsIn_wide (n:=0).2 (base_any x.src x.tb x.ky x.seq x.fk x.ref x.ev x.fa x.vs.length x.fc W)))
    gi_wp2
    refine⟨trivial,HC.out.mono ?_⟩
    rintro e W2 ⟨rfl,hb⟩
    have La:=Lib.hid hb
    have Hd:W2.cell? ⟨w.heap.size+1,0,none⟩=some (.map (some w.heap.size)):=Zaa hc hb
    have Ep:Hid (Boxed W2 (w.heap.size+1) 90 (.map (some w.heap.size))):=Gb.out.kept (ZcC hb) (by simp)
    have Zc:=Lib.hid (HQ.out.kept hb)
    have Yf:w.heap.size+1<W2.heap.size:=Ep.out.lt
    have Nd:q<W2.heap.size:=Zc.out.lt
    rw[show baseF x.src x.seq x.fk x.ref=x.base from rfl]
    obtain⟨id,hid⟩:∃ id,id=x.base:=⟨_,rfl⟩
    have HID:=Lib.hid hid
    have Ma:Hid (OkF id):=by rw[hid];exact Gc.out.base
    rw[<-hid]
    obtain⟨B,hB⟩:∃ B,B=(tabB pre ⟨id,Ma.out⟩).getD zeroB:=⟨_,rfl⟩
    have HBB':=Lib.hid hB
    have HV:Hid (((tabB pre ⟨id,Ma.out⟩).map bsV).getD (bsV zeroB)=bsV B):=by show _=_;rw[hB];cases tabB pre ⟨id,Ma.out⟩<;>rfl
    have Rj:Hid (Tab (W2.alloc (.cells #[.string id.1,.int .i64 id.2] 24)) keysF w.heap.size pre.length (tabV (tabB pre) bsV)):=(HT.out.kept hb).alloc _
    clear hid hB hb k2 k3 k4 k5 k6 k7 k8 k9 k10
    have k4:=Zc.out.cell 4 (.int .i64 x.seq) rfl
    have k5:=Zc.out.cell 5 (.int .i64 x.fk) rfl
    have HG:Hid (Box ((W2.alloc (.cells #[.string id.1,.int .i64 id.2] 24)).alloc (.cells (Bs.cells B).toArray 93)) (W2.heap.size+1) (Bs.cells B).toArray 93):=by
     show Box _ _ _ _
     have:=Box.new (W2.alloc (.cells #[.string id.1,.int .i64 id.2] 24)) (Bs.cells B).toArray 93;simpa using this
    have g0:=HG.out.cell 0 (.bool B.1) rfl
    have g5:=HG.out.cell 5 (.int .i64 B.2.seq) rfl
    have f0:=HG.out.free 0
    have hB1:B.1=true∨B.1=false:=by cases B.1<;>simp
    rcases hB1 with Cb|Cb
    all_goals
     rw[Cb]at g0
     gi_upto_region 8 with(first|(refine wpListIn_look rfl (.tmp 20) (.tmp 21) 90 rfl 93 underlying90 (zero110 _) rfl Rj.out ⟨id,Ma.out⟩ rfl trivial (bsV B) HV.out ?_)|(refine Zb8 rfl rfl 93 (.tmp 8) (.tmp 22) rfl rfl rfl (Bs.cells B) rfl rfl (by kernel_rfl) (Bs.cells_one B) ?_))
     refine wpIn_gen (fun X hX=>?_)
     have Ia:Hid (Below W2.heap.size W2 X):=by rw[hX];exact Zak _ _
     have HB1':Hid (∃ b',Box X (W2.heap.size+1) (Bs.cells (b',B.2)).toArray 93/\b'=(B.1||x.fk==1)):=by
      refine⟨_,?_,rfl⟩
      rw[hX]
      have:=Box.new (W2.alloc (.cells #[.string id.1,.int .i64 id.2] 24)) (Bs.cells (B.1||x.fk==1,B.2)).toArray 93
      rw[Cb]at this ⊢
      simpa [Bs.cells]using this
     obtain⟨b',Sd,hbe⟩:=HB1'.out
     have HBox:=Lib.hid Sd
     have Hj:=Lib.hid hbe
     have Av:Hid (Box X W2.heap.size #[.string id.1,.int .i64 id.2] 24):=by rw[hX];exact(Box.new W2 _ _).kept (Zab _)
     have Vp:Hid (Tab X keysF w.heap.size pre.length (tabV (tabB pre) bsV)):=by rw[hX];exact Rj.out.alloc _
     have hcX:=Zaa Hd Ia.out
     have HQX:=Lib.hid (Zc.out.kept Ia.out)
     have Bu:Hid (Boxed X (w.heap.size+1) 90 (.map (some w.heap.size))):=Ep.out.kept (ZcC Ia.out) (by simp)
     have Hg:Hid (W.heap.size<=W2.heap.size/\W2.heap.size+2<=X.heap.size):=⟨La.out.size,by rw[hX];simp⟩
     have Dj:Hid (∀ k,k<W.heap.size->X.heap[k]?=W.heap[k]?):=fun k hk'=>(Ia.out.block k (Nat.lt_of_lt_of_le hk' Hg.out.1)).trans (La.out.block k hk')
     have HXw:Hid (Below w.heap.size w X):=(Wf.out.trans (La.out.mono Wf.out.size)).trans (Ia.out.mono (Nat.le_trans Wf.out.size Hg.out.1))
     have q4:=HQX.out.cell 4 (.int .i64 x.seq) rfl
     have g5X:=HBox.out.cell 5 (.int .i64 B.2.seq) rfl
     clear hX g0 g5 f0 k4 k5 Hd HB1' HG Rj Sd hbe Zc Ep HC
     by_cases hs:B.2.seq<x.seq
     · have Mi:decide (B.2.seq<x.seq)=true:=decide_eq_true hs
       have HCQ:Hid (∀ j v,x.cells[j]?=some v->X.cell? ⟨q,0+j,none⟩=some v):=fun j v hv=>by rw[Nat.zero_add];exact HQX.out.cell j v (by simpa using hv)
       have Ag:Hid (1+x.cells.length=(Bs.cells (b',B.2)).toArray.size):=rfl
       gi_upto_region 10 with(first|(refine Zbh rfl 48 (.tmp 6) rfl q 0 x.cells rfl HCQ.out _ underlying48 rfl (by kernel_rfl) ?_)|(refine ZdB rfl 48 (.tmp 43) (.tmp 42) rfl rfl (W2.heap.size+1) 1 93 _ x.cells rfl rfl HBox.out (by kernel_rfl) Ag.out x.cells_one ?_))
       refine wpIn_gen (fun Y hY=>?_)
       obtain⟨nb,hnb⟩:∃ nb:Bs,nb=nextB B x:=⟨_,rfl⟩
       have Aj:=Lib.hid hnb
       have HBoxY:Hid (Box Y (W2.heap.size+1) (Bs.cells nb).toArray 93):=by
        have e:Bs.cells nb=(Bs.cells (b',B.2)).toArray.toList.take 1++x.cells:=by rw[Aj.out];show _ :: (if B.2.seq<x.seq then x else B.2).cells=_;rw[if_pos hs,Hj.out];rfl
        rw[hY,e];exact HBox.out.setRow _
       have Kt:Hid (Box Y W2.heap.size #[.string id.1,.int .i64 id.2] 24):=by rw[hY];exact(setRow_other _ _ (by omega)).trans Av.out
       have Kh:Hid (Tab Y keysF w.heap.size pre.length (tabV (tabB pre) bsV)):=by rw[hY];exact Vp.out.setRow (by omega) _
       have Dk:Hid (Boxed Y (w.heap.size+1) 90 (.map (some w.heap.size))):=by rw[hY];exact Bu.out.kept (Zdl _ _ _) (fun e=>by injection e with e;omega)
       have HYw:Hid (Below w.heap.size w Y):=by rw[hY];exact HXw.out.grown (Zdl _ _ _) HXw.out.size (fun k e=>by injection e with e;omega)
       have Ro:Hid (∀ k,k<W.heap.size->Y.heap[k]?=W.heap[k]?):=fun k hk'=>by rw[hY];exact(setRow_other _ _ (by have:=Hg.out.1;omega)).trans (Dj.out k hk')
       have HYs:Hid (Y.heap.size=X.heap.size):=by show _=_;rw[hY];simp[World.setRow]
       have Nn:Hid (∀ j v,(Bs.cells nb)[j]?=some v->Y.cell? ⟨W2.heap.size+1,0+j,none⟩=some v):=fun j v hv=>by rw[Nat.zero_add];exact HBoxY.out.cell j v (by simpa using hv)
       have hcY:=Dk.out.cell
       have iY0:=Kt.out.cell 0 (.string id.1) rfl
       have iY1:=Kt.out.cell 1 (.int .i64 id.2) rfl
       clear hY hnb hcX q4 g5X
       have hm:pre.length<Go.maxLen:=by have:=Qp.out.1;unfold maxLen;omega
       gi_wp2_with (first|(refine Zbh rfl 93 (.tmp 8) rfl (W2.heap.size+1) 0 (Bs.cells nb) rfl Nn.out _ underlying93 rfl (by kernel_rfl) ?_)|(refine ZdC rfl (.tmp 44) (.tmp 45) (.tmp 46) 90 rfl 93 underlying90 rfl Kh.out hm ⟨id,Ma.out⟩ rfl trivial nb rfl ?_;intro w5 Vk Kk))
       exact bases_end hk HID.out Aj.out Gc.out.base Ma.out HBB'.out Dk.out Vk Kk HYw.out Ro.out HYs.out Hg.out Wf.out.size hS Bm.out Yh.out He Ye (fun b off e=>cell_lt_of H.out.1 HXM.out e)
     · have Mi:decide (B.2.seq<x.seq)=false:=decide_eq_false hs
       gi_upto_region 10 with fail
       refine wpIn_gen (fun Y hY=>?_)
       obtain⟨nb,hnb⟩:∃ nb:Bs,nb=nextB B x:=⟨_,rfl⟩
       have Aj:=Lib.hid hnb
       have HBoxY:Hid (Box Y (W2.heap.size+1) (Bs.cells nb).toArray 93):=by
        have e:nb=(b',B.2):=by rw[Aj.out];show(_,(if B.2.seq<x.seq then x else B.2))=_;rw[if_neg hs,Hj.out]
        rw[hY,e];exact HBox.out
       have Kt:Hid (Box Y W2.heap.size #[.string id.1,.int .i64 id.2] 24):=by rw[hY];exact Av.out
       have Kh:Hid (Tab Y keysF w.heap.size pre.length (tabV (tabB pre) bsV)):=by rw[hY];exact Vp.out
       have Dk:Hid (Boxed Y (w.heap.size+1) 90 (.map (some w.heap.size))):=by rw[hY];exact Bu.out
       have HYw:Hid (Below w.heap.size w Y):=by rw[hY];exact HXw.out
       have Ro:Hid (∀ k,k<W.heap.size->Y.heap[k]?=W.heap[k]?):=fun k hk'=>by rw[hY];exact Dj.out k hk'
       have HYs:Hid (Y.heap.size=X.heap.size):=by show _=_;rw[hY]
       have Nn:Hid (∀ j v,(Bs.cells nb)[j]?=some v->Y.cell? ⟨W2.heap.size+1,0+j,none⟩=some v):=fun j v hv=>by rw[Nat.zero_add];exact HBoxY.out.cell j v (by simpa using hv)
       have hcY:=Dk.out.cell
       have iY0:=Kt.out.cell 0 (.string id.1) rfl
       have iY1:=Kt.out.cell 1 (.int .i64 id.2) rfl
       clear hY hnb hcX q4 g5X
       have hm:pre.length<Go.maxLen:=by have:=Qp.out.1;unfold maxLen;omega
       gi_wp2_with (first|(refine Zbh rfl 93 (.tmp 8) rfl (W2.heap.size+1) 0 (Bs.cells nb) rfl Nn.out _ underlying93 rfl (by kernel_rfl) ?_)|(refine ZdC rfl (.tmp 44) (.tmp 45) (.tmp 46) 90 rfl 93 underlying90 rfl Kh.out hm ⟨id,Ma.out⟩ rfl trivial nb rfl ?_;intro w5 Vk Kk))
       exact bases_end hk HID.out Aj.out Gc.out.base Ma.out HBB'.out Dk.out Vk Kk HYw.out Ro.out HYs.out Hg.out Wf.out.size hS Bm.out Yh.out He Ye (fun b off e=>cell_lt_of H.out.1 HXM.out e)
  · have k2:=HQ.out.cell 2 (.int .i64 x.kind) rfl
    have hd:(x.kind != 1)=true:=by simpa using hk
    gi_wp2
    exact⟨⟨Gb.out,by rw[tabB_skip pre x hk];exact HT.out.mono (by simp),Wf.out⟩,fun k _=>rfl,fun k o _ h _=>h⟩
end Go.Proofs.YtfnpfkgmacaboaaGreat
namespace Go.Proofs.YtfnpfkgmacaboaaGreat
open Go.Proofs.Tryz
open Go
set_option linter.unusedVariables false
section
variable {P:Program} {ops:Array Oper} {md:Region.Mode} {Q:Exit->Act->World->Prop}
def ZcQ (md:Region.Mode)(ops:Array Oper):Bool :=
 (List.range ops.size).all fun i=>match ops[i]? with
  |some o=>o.after.all fun e=>!Region.binds md e||decide (e.on<i)
  |none=>true
theorem sortedB_spec (h:ZcQ md ops=true){i:Nat}{o:Oper}(ho:ops[i]?=some o){e:Edge}(he:e∈o.after)(hb:Region.binds md e=true):e.on<i:=by
 unfold ZcQ at h
 have h1:=List.all_eq_true.1 h i (by simpa using(Array.getElem?_eq_some_iff.1 ho).1)
 rw[ho]at h1
 have h2:=Array.all_eq_true'.1 h1 e he
 simpa [hb]using h2
def left (listed:Array Bool):Nat:=(listed.toList.filter (fun b=>!b)).length
theorem left_set (listed:Array Bool)(i:Nat)(h:listed.getD i true=false):left (listed.setIfInBounds i true)+1=left listed:=by
 have hi:i<listed.size:=by
  rcases Nat.lt_or_ge i listed.size with h'|h'
  · exact h'
  · simp[Array.getElem?_eq_none h']at h
 have hb:listed.toList[i]?=some false:=by simpa [hi]using h
 unfold left
 rw[Array.toList_setIfInBounds]
 generalize listed.toList=l at hb
 clear hi h
 induction l generalizing i with
 |nil=>simp at hb
 |cons x l ih =>
  cases i with
  |zero=>injection hb with hb;subst hb;simp
  |succ i =>
   have:=ih i (by simpa using hb)
   rw[List.set_cons_succ,List.filter_cons,List.filter_cons]
   split<;>(try simp only[List.length_cons])<;>omega
theorem left_none (listed:Array Bool)(h:left listed=0)(i:Nat)(hi:i<listed.size):listed.getD i true=true:=by
 cases hb:listed.getD i true with
 |true=>rfl
 |false=>have:=left_set listed i hb;omega
theorem ready_none (hs:ZcQ md ops=true){listed:Array Bool}(hsz:listed.size=ops.size)(h:Region.ready md ops listed=[]):∀ i,i<ops.size->listed.getD i true=true:=by
 intro i
 induction i using Nat.strongRecOn with
 |_ i ih =>
  intro hi
  cases hb:listed.getD i true with
  |true=>rfl
  |false =>
   have:i∈Region.ready md ops listed:=by
    refine mem_ready.2 ⟨hb,ops[i],Array.getElem?_eq_getElem hi,fun e he hbd=>?_⟩
    have hlt:=sortedB_spec hs (Array.getElem?_eq_getElem hi) he hbd
    have:=ih e.on hlt (by omega)
    have hin:e.on<listed.size:=by omega
    simp[hin]at this ⊢
    exact this
   rw[h]at this
   cases this
theorem wpAny_inv (hs:ZcQ md ops=true)(Inv:Array Bool->Act->World->Prop)
 (hstep:∀ listed a w i,listed.size=ops.size->Inv listed a w->i∈Region.ready md ops listed->wpOp P ops Q i (Inv (listed.setIfInBounds i true)) a w)
 (hend:∀ listed a w,Inv listed a w->(∀ i,i<ops.size->listed.getD i true=true)->Q .normal a w) :
 ∀ (fuel:Nat) (listed:Array Bool) (a:Act) (w:World),listed.size=ops.size->left listed<=fuel->Inv listed a w->wpAny P md ops Q fuel listed a w:=by
 intro fuel
 induction fuel with
 |zero =>
  intro listed a w hsz hl h
  have hall:=fun i (hi:i<ops.size)=>left_none listed (by omega) i (by omega)
  refine⟨?_,hend listed a w h hall⟩
  cases hr:Region.ready md ops listed with
  |nil=>rfl
  |cons i l =>
   have h1:i∈Region.ready md ops listed:=by rw[hr];simp
   obtain⟨h2,o,ho,-⟩:=mem_ready.1 h1
   rw[hall i (Array.getElem?_eq_some_iff.1 ho).1]at h2
   cases h2
 |succ fuel ih =>
  intro listed a w hsz hl h
  refine⟨fun hr=>hend listed a w h (ready_none hs hsz hr),fun i hi=>?_⟩
  refine wpOp_mono (fun a' w' h'=>ih _ a' w' (by simpa using hsz) ?_ h') (hstep listed a w i hsz h hi)
  have:=left_set listed i (mem_ready.1 hi).1
  omega
theorem wp_region_inv {id:Nat}{a:Act}{w:World}(hm:P.follows .mixedOrders=true)(hs:ZcQ .any ops=true)(Inv:Array Bool->Act->World->Prop)
 (h0:Inv (Array.replicate ops.size false) a w.drew)
 (hstep:∀ listed a w i,listed.size=ops.size->Inv listed a w->i∈Region.ready .any ops listed->wpOp P ops Q i (Inv (listed.setIfInBounds i true)) a w)
 (hend:∀ listed a w,Inv listed a w->(∀ i,i<ops.size->listed.getD i true=true)->Q .normal a w):(Code.region id ops true).wp P Q a w:=by
 refine wp_region_any hm (wpAny_inv hs Inv hstep hend _ _ _ _ (by simp) ?_ h0)
 unfold left
 simp
end
end Go.Proofs.YtfnpfkgmacaboaaGreat
namespace Go.Proofs.YtfnpfkgmacaboaaGreat
open Go.Proofs.Tryz
open Go.ChangeShapes Go.WideShapes Go.ChangeAt Go.RowKit Go.Maps Go.WideElems Go.MapKept Go.ChangeMaps
set_option linter.unusedVariables false
set_option linter.unusedSimpArgs false
set_option linter.unusedSectionVars false
section
variable {P:Program} {kt t e:TypeId} {κ:Type} [DecidableEq κ] {Z:Keyz P kt κ} {w V:World} {b n:Nat} {T:κ->Option Value}
theorem Tab.entry (h:Tab V Z b n T)(ht:P.underlying t=some (.map kt e)){z:Value}(hz:∀ u:World,(zeroValue e).run P u=.ok z u)(hn:n<maxLen){k:κ}(hk:Z.ok k) :
 ∃ (st:Nat) (o1:Obj),(∀ w,w.heap[b]?=V.heap[b]?->(Instr.mapEntry t (.map (some b)) (Z.val k)).run P w=.ok (.tuple #[(T k).getD z,goInt st]) (setBlock w b o1)) /\
  ∀ (w2:World) (val:Value),w2.heap[b]?=some o1->∃ w3,(Instr.entryStore t (.map (some b)) (goInt st) val).run P w2=.ok () w3/\Tab w3 Z b (n+1) (putT T k val)/\w2.grownBy w3 (some b):=by
 have H:=h
 obtain⟨D,⟨es,clock,hb,F,hs,hD⟩,h2⟩:=h
 have hkey:=Z.of k hk
 have K:=Z.law
 have hkeys:∀ e∈es.toList,∃ l,keyOf P kt e.key=some l:=F.keys
 obtain⟨s1,s2,s3⟩:=F.stamped
 have hlook:=H.look (w:=V) ht (hz V) hk
 have hblk:∀ (u:World) (es':Array MapEntry) (clock':Nat),(u.heap[b]?).isSome=true->(setBlock u b (.map es' clock')).heap[b]?=some (.map es' clock'):=by
  intro u es' clock' hu
  have hlt:b<u.heap.size:=by
   rcases Nat.lt_or_ge b u.heap.size with q|q
   · exact q
   · rw[Array.getElem?_eq_none q]at hu;cases hu
  simp[setBlock,hlt]
 have hgr:∀ (u:World) (o:Obj),u.grownBy (setBlock u b o) (some b):=fun u o=>⟨rfl,rfl,rfl,by simp[setBlock],fun i _ hi=>by
  unfold setBlock
  simp only[Array.getElem?_setIfInBounds]
  rw[if_neg (fun e=>hi (by rw[e]))]⟩
 -- the map after the store,as the plain store leaves it
 have hfin:∀ (val:Value) (es':Array MapEntry) (clock':Nat),(Instr.mapUpdate t (.map (some b)) (Z.val k) val).run P V=.ok () (setBlock V b (.map es' clock'))->∀ w2:World,(w2.heap[b]?).isSome=true->Tab (setBlock w2 b (.map es' clock')) Z b (n+1) (putT T k val):=by
  intro val es' clock' hrun w2 Ji
  obtain⟨w',hrun',h3,-⟩:=H.store ht hn hk val
  rw[hrun]at hrun'
  injection hrun' with _ hw
  subst hw
  exact h3.blocks ((hblk w2 es' clock' Ji).trans (hblk V es' clock' (by rw[hb];rfl)).symm)
 rcases K.find V hkey es.toList hkeys with⟨h1,h0⟩|⟨j,e0,h1,Li,Pm⟩
 · have hv:(T k).getD z=z:=by
     have:(Instr.lookup t (.map (some b)) (Z.val k) false).run P V=.ok z V:=by
      simp[Instr.lookup,run_underlying ht,MapKept.run_getObj_map hb,K.check V _ hkey,h1,hz V,Result.andThen]
     rw[this]at hlook
     injection hlook with hlook _
     exact hlook.symm
   rw[hv]
   refine⟨clock,.map (es.push ⟨Z.val k,z,clock⟩) (clock+1),fun w hw=>?_,fun w2 val Ji=>⟨setBlock w2 b (.map (es.push ⟨Z.val k,val,clock⟩) (clock+1)),?_,?_,hgr _ _⟩⟩
   · have hbw:w.heap[b]?=some (.map es clock):=hw.trans hb
     have h1w:(Instr.findKey kt (Z.val k) es.toList).run P w=.ok none w:=by
      rcases K.find w hkey es.toList hkeys with⟨q,-⟩|⟨j,e0,q,hj,he⟩
      · exact q
      · exact absurd he (h0 e0 (List.mem_of_getElem? hj))
     simp[Instr.mapEntry,run_underlying ht,MapKept.run_getObj_map hbw,K.check w false hkey,h1w,hz w,MapKept.run_setObj_map _ hbw,Result.andThen,setBlock]
   · have hidx:(es.push ⟨Z.val k,z,clock⟩).findIdx? (fun e=>((e.born:Nat):Int)==((clock:Nat):Int))=some es.size:=by
       rw[findIdx_arr]
       have:=findIdx_born (l:=(es.push ⟨Z.val k,z,clock⟩).toList) (j:=es.size) (e0:=⟨Z.val k,z,clock⟩) (by
        simp only[Array.toList_push,List.map_append,List.map_cons,List.map_nil]
        refine List.nodup_append.2 ⟨s2,by simp,fun a ha c hc e1=>?_⟩
        simp only[List.mem_singleton]at hc
        obtain⟨x,hx,rfl⟩:=List.mem_map.1 ha
        have:=s1 x hx
        omega) (by simp)
       exact this
     have hmod:(es.push ⟨Z.val k,z,clock⟩).modify es.size (fun e=>{ e with val:=val })=es.push ⟨Z.val k,val,clock⟩:=by
      apply Array.ext'
      rw[Array.toList_modify,Array.toList_push,Array.toList_push,<-Array.length_toList,modify_last]
     simp[Instr.entryStore,MapKept.run_getObj_map Ji,asInt,asIntOf,goInt,hidx,hmod,MapKept.run_setObj_map _ Ji,Result.andThen,setBlock]
   · refine hfin val _ _ ?_ w2 (by rw[Ji];rfl)
     simp[Instr.mapUpdate,run_underlying ht,MapKept.run_getObj_map hb,K.check V false hkey,h1,MapKept.run_setObj_map _ hb,Result.andThen,setBlock]
 · have hj:es[j]?=some e0:=by simpa using Li
   have hv:(T k).getD z=e0.val:=by
    have:(Instr.lookup t (.map (some b)) (Z.val k) false).run P V=.ok e0.val V:=by
     simp[Instr.lookup,run_underlying ht,MapKept.run_getObj_map hb,K.check V _ hkey,h1,Result.andThen]
    rw[this]at hlook
    injection hlook with hlook _
    exact hlook.symm
   rw[hv]
   have hsame:es.modify j (fun e=>{ e with key:=Z.val k })=es:=by
    apply Array.ext'
    rw[Array.toList_modify,modify_eq_set _ _ _ _ Li]
    have:({ e0 with key:=Z.val k }:MapEntry)=e0:=by rw[<-Pm]
    rw[this]
    exact set_self _ _ _ Li
   refine⟨e0.born,.map es clock,fun w hw=>?_,fun w2 val Ji=>⟨setBlock w2 b (.map (es.modify j fun e'=>{ e' with key:=Z.val k,val:=val }) clock),?_,?_,hgr _ _⟩⟩
   · have hbw:w.heap[b]?=some (.map es clock):=hw.trans hb
     have h1w:(Instr.findKey kt (Z.val k) es.toList).run P w=.ok (some (j,e0.val)) w:=by
      rcases K.find w hkey es.toList hkeys with⟨q,h0⟩|⟨j',e',q,hj',he'⟩
      · exact absurd Pm (h0 e0 (List.mem_of_getElem? Li))
      · have:j'=j:=by
          have hlj:j<(es.toList.map (·.key)).length:=by simpa using(List.getElem?_eq_some_iff.1 Li).1
          refine((List.getElem?_inj (l:=es.toList.map MapEntry.key) hlj s3).1 ?_).symm
          rw[List.getElem?_map,List.getElem?_map,Li,hj']
          simp[Pm,he']
        subst this
        rw[Li]at hj'
        cases hj'
        exact q
     simp[Instr.mapEntry,run_underlying ht,MapKept.run_getObj_map hbw,K.check w false hkey,h1w,hj,Pm,K.stays w hkey,hsame,MapKept.run_setObj_map _ hbw,Result.andThen,setBlock]
   · have hidx:es.findIdx? (fun e=>((e.born:Nat):Int)==((e0.born:Nat):Int))=some j:=by
       rw[findIdx_arr]
       exact findIdx_born s2 Li
     have hmod:es.modify j (fun e=>{ e with val:=val })=es.modify j (fun e'=>{ e' with key:=Z.val k,val:=val }):=by
      apply Array.ext'
      rw[Array.toList_modify,Array.toList_modify,modify_eq_set _ _ _ _ Li,modify_eq_set _ _ _ _ Li,<-Pm]
     simp[Instr.entryStore,MapKept.run_getObj_map Ji,asInt,asIntOf,goInt,hidx,hmod,MapKept.run_setObj_map _ Ji,Result.andThen,setBlock]
   · refine hfin val _ _ ?_ w2 (by rw[Ji];rfl)
     simp[Instr.mapUpdate,run_underlying ht,MapKept.run_getObj_map hb,K.check V false hkey,h1,hj,Pm,K.stays V hkey,MapKept.run_setObj_map _ hb,Result.andThen,setBlock]
end
theorem wide128:(match prog.underlying 129 with|some (.array _ _)|some (.struct _)=>true|_=>false)=true:=by kernel_rfl
theorem row128:(129:TypeId)<prog.types.size:=of_decide_eq_true (by kernel_rfl)
theorem at128:prog.keyTypeAt 2 129=true:=by kernel_rfl
set_option maxRecDepth 100000 in
theorem law128:Keyed prog 129:=Keyed.of_law (deep_law_laid Tryz.laidOut (m:=2) (by omega) row128 at128 wide128)
theorem cells128:prog.cellsOf 129=2:=by kernel_rfl
theorem keyLit_who (d:Nat)(x:ByteArray × ByteArray)(h:x.1.size<=maxLen)(h2:x.2.size<=maxLen):prog.keyLits (d+2) 129 [.string x.1,.string x.2]=some [.string x.1.data.toList,.string x.2.data.toList]:=by
 simp[Program.keyLits,underlying129,underlying9,cells128,cells9,h,h2]
theorem key128 (x:ByteArray × ByteArray)(h:x.1.size<=maxLen)(h2:x.2.size<=maxLen):keyOf prog 129 (.agg #[.string x.1,.string x.2])=some (.string (keyBytes [.string x.1.data.toList,.string x.2.data.toList])):=by
 have hk:prog.keyType 129=true:=by kernel_rfl
 have hl:=keyLit_who 299 x h h2
 unfold keyOf
 rw[underlying129,depthT]
 simp[hk,Value.formed,underlying129,cells128,Value.cells,hl]
abbrev Who:=ByteArray × ByteArray
structure OkW (x:Who):Prop where
 kind:x.1.size<=1048576
 key:x.2.size<=1048576
theorem Ze1 {s:ByteArray}(h:s.size<=1048576):s.size<=maxLen:=Nat.le_trans h (by unfold maxLen;omega)
abbrev whoV (x:Who):Value:=.agg #[.string x.1,.string x.2]
def keysW:Keyz prog 129 { x:Who // OkW x } where
 val:=fun x=>whoV x.1
 ok:=fun _=>True
 lit:=fun x=>.string (keyBytes [.string x.1.1.data.toList,.string x.1.2.data.toList])
 of:=fun x _=>key128 x.1 (Ze1 x.2.kind) (Ze1 x.2.key)
 inj:=fun x y h=>by
  simp only[whoV,Value.agg.injEq,Array.mk.injEq,List.cons.injEq,Value.string.injEq,and_true,true_and]at h
  exact Subtype.ext (Prod.ext h.1 h.2)
 law:=law128
abbrev Nm:={ s:ByteArray // s.size<=1048576 }
theorem key9 (s:ByteArray)(h:s.size<=maxLen):keyOf prog 9 (.string s)=some (.string s.data.toList):=by
 simp[keyOf,mapKey,underlying9,h]
theorem law9:Keyed prog 9:=Keyed.of_law (Go.WideMaps.string_law underlying9)
def keysN:Keyz prog 9 Nm where
 val:=fun x=>.string x.1
 ok:=fun _=>True
 lit:=fun x=>.string x.1.data.toList
 of:=fun x _=>key9 x.1 (Ze1 x.2)
 inj:=fun x y h=>by injection h with h;exact Subtype.ext h
 law:=law9
end Go.Proofs.YtfnpfkgmacaboaaGreat
namespace Go.Proofs.YtfnpfkgmacaboaaGreat
open Go.Proofs.Tryz
open Go.ChangeShapes Go.WideShapes Go.ChangeAt Go.RowKit Go.Maps
set_option linter.unusedVariables false
set_option linter.unusedSimpArgs false
def putIf (b:Bool)(t:Tmp)(v:Value)(a:Act):Act:=if b then a.put (some t) v else a
theorem Zau (t:Tmp)(v:Value)(a:Act):putIf false t v a=a:=rfl
theorem Zaj (t:Tmp)(v:Value)(a:Act):putIf true t v a=a.put (some t) v:=rfl
theorem eval_put_ne {s t:Tmp}(v:Value)(a:Act)(h:s≠t):(a.put (some t) v).eval (.tmp s)=a.eval (.tmp s):=Act.eval_put (fun d hd e=>by injection hd with hd;injection e with e;exact h (by rw[e,hd]))
theorem Zam {b:Bool}{s t:Tmp}(v:Value)(a:Act)(h:s≠t):(putIf b t v a).eval (.tmp s)=a.eval (.tmp s):=by
 cases b
 · rfl
 · exact eval_put_ne v a h
theorem size_put (t:Tmp)(v:Value)(a:Act):(a.put (some t) v).tmps.size=a.tmps.size:=by simp[Act.put]
theorem ZaC (b:Bool)(t:Tmp)(v:Value)(a:Act):(putIf b t v a).tmps.size=a.tmps.size:=by
 cases b
 · rfl
 · exact size_put t v a
theorem Zas {t:Tmp}(v:Value)(a:Act)(h:t<a.tmps.size):(a.put (some t) v).eval (.tmp t)=v:=by simp[Act.put,Act.eval,h]
theorem ZaL {b:Bool}{s t:Tmp}(v u:Value)(a:Act)(h:s≠t):(putIf b t v a).put (some s) u=putIf b t v (a.put (some s) u):=by
 cases b
 · rfl
 · simp only[Zaj,Act.put]
   rw[Array.setIfInBounds_comm _ _ (fun e=>h e.symm)]
section
variable {P:Program} {Q:Exit->Act->World->Prop}
def Zcu (P:Program)(ops:Array Oper)(Q:Exit->Act->World->Prop)(Inv:Array Bool->Act->World->Prop):Nat->List Oper->Prop
 |_,[]=>True
 |n,o :: r=>(∀ listed a w,listed.size=ops.size->Inv listed a w->listed.getD n true=false->(∀ e∈o.after,Region.binds .any e=true->listed.getD e.on false=true) ->
  if Region.wanted o (yielded ops a.tmps)=true then o.wp P a w (Inv (listed.setIfInBounds n true)) Q else Inv (listed.setIfInBounds n true) (a.put o.dst undef) w)/\Zcu P ops Q Inv (n+1) r
theorem Zcu.get {ops:Array Oper}{Inv:Array Bool->Act->World->Prop}:∀ (l:List Oper) (n:Nat),Zcu P ops Q Inv n l->∀ i o,l[i]?=some o->∀ listed a w,listed.size=ops.size->Inv listed a w->listed.getD (n+i) true=false ->
 (∀ e∈o.after,Region.binds .any e=true->listed.getD e.on false=true) ->
 if Region.wanted o (yielded ops a.tmps)=true then o.wp P a w (Inv (listed.setIfInBounds (n+i) true)) Q else Inv (listed.setIfInBounds (n+i) true) (a.put o.dst undef) w
 |[],_,_,i,o,h=>by simp at h
 |x :: l,n,h,0,o,ho=>by
  injection ho with ho
  subst ho
  exact h.1
 |x :: l,n,h,i+1,o,ho=>by
  have:=Zcu.get l (n+1) h.2 i o (by simpa using ho)
  rwa [show n+1+i=n+(i+1) by omega]at this
theorem ZcK {id:Nat}{l:List Oper}{a:Act}{w:World}(hm:P.follows .mixedOrders=true)(hs:ZcQ .any l.toArray=true)(Inv:Array Bool->Act->World->Prop)
 (h0:Inv (Array.replicate l.length false) a w.drew) (hstep:Zcu P l.toArray Q Inv 0 l)
 (hend:∀ listed a w,Inv listed a w->(∀ i,i<l.length->listed.getD i true=true)->Q .normal a w):(Code.region id l.toArray true).wp P Q a w:=by
 refine wp_region_inv hm hs Inv h0 (fun listed a w i hsz hI hi=>?_) hend
 obtain⟨h1,o,ho,h2⟩:=mem_ready.1 hi
 have:=Zcu.get l 0 hstep i o (by simpa using ho) listed a w hsz hI (by rw[Nat.zero_add];exact h1) h2
 rw[Nat.zero_add]at this
 unfold wpOp
 simp only[ho]
 split
 · rename_i hw
   rw[if_pos hw]at this
   exact Or.inl this
 · rename_i hw
   rw[if_neg hw]at this
   exact this
end
theorem ZaB {listed:Array Bool}{n:Nat}{d:Bool}(h:n<listed.size):(listed.setIfInBounds n true).getD n d=true:=by simp[h]
theorem Zax {listed:Array Bool}{n m:Nat}{d:Bool}(h:n≠m):(listed.setIfInBounds n true).getD m d=listed.getD m d:=getD_set_ne d h
theorem fidC_one (x:FID):∀ v∈fidC x,v.oneCell'=true:=by
 intro v hv
 simp[fidC]at hv
 rcases hv with h|h<;>subst h<;>rfl
theorem elF:El prog 24 64 2 24:=⟨underlying64,by kernel_rfl,by decide,by decide⟩
theorem Zbi:Enc fidC 2:=⟨fun _=>rfl,fidC_one⟩
structure Er where
 ids:FID->Bool
 about:Who->List FID
 kinds:ByteArray->Option ByteArray
def Er.none:Er:=⟨fun _=>false,fun _=>[],fun _=>Option.none⟩
def whoF (s:Er)(x:En):Who:=((s.kinds x.tb).getD ⟨#[]⟩,x.ky)
def stepR (s:Er)(x:En):Er :=
 if x.kind=3/\x.ck=1 then { s with kinds:=fun k=>if k=x.tn then some x.te else s.kinds k }
 else if x.kind=1/\x.fk≠3 then { s with about:=fun k=>if k=whoF s x then s.about k++[x.base]else s.about k }
 else if x.kind=2/\x.ek=2 then { s with ids:=fun k=>eqF k (x.esr,x.esq)||s.ids k }
 else if x.kind=2 then { s with ids:=fun k=>memF (s.about (x.een,x.eky)) k||s.ids k }
 else s
def erS (l:List En):Er:=l.foldl stepR Er.none
theorem ZeL (l:List En)(x:En):erS (l++[x])=stepR (erS l) x:=by unfold erS;rw[List.foldl_append];rfl
def erF (l:List En)(x:FID):Bool:=(erS l).ids x
theorem stepR_about (s:Er)(x:En)(k:Who):((stepR s x).about k).length<=(s.about k).length+1:=by
 unfold stepR
 split
 · exact Nat.le_succ _
 · split
   · show(if k=whoF s x then s.about k++[x.base]else s.about k).length<=_
     split<;>simp
   · split
     · exact Nat.le_succ _
     · split<;>exact Nat.le_succ _
theorem foldR_about (l:List En):∀ (s:Er) (k:Who),((l.foldl stepR s).about k).length<=(s.about k).length+l.length:=by
 induction l with
 |nil=>intro s k;simp
 |cons x l ih =>
  intro s k
  have h1:=ih (stepR s x) k
  have h2:=stepR_about s x k
  simp only[List.foldl_cons,List.length_cons]
  omega
theorem erS_about (l:List En)(k:Who):((erS l).about k).length<=l.length:=by
 have:=foldR_about l Er.none k
 simpa [erS,Er.none]using this
theorem foldR_kinds (l:List En)(M:Nat)(h:∀ x∈l,x.te.size<=M):∀ (s:Er),(∀ k v,s.kinds k=some v->v.size<=M)->∀ k v,(l.foldl stepR s).kinds k=some v->v.size<=M:=by
 induction l with
 |nil=>intro s hs;exact hs
 |cons x l ih =>
  intro s hs
  refine ih (fun y hy=>h y (by simp[hy])) (stepR s x) (fun k v hv=>?_)
  unfold stepR at hv
  split at hv
  · have hv':(if k=x.tn then some x.te else s.kinds k)=some v:=hv
    split at hv'
    · injection hv' with hv';rw[<-hv'];exact h x (by simp)
    · exact hs k v hv'
  · split at hv
    · exact hs k v hv
    · split at hv
      · exact hs k v hv
      · split at hv<;>exact hs k v hv
theorem erS_kinds (l:List En)(M:Nat)(h:∀ x∈l,x.te.size<=M)(k v:ByteArray)(hv:(erS l).kinds k=some v):v.size<=M :=
 foldR_kinds l M h Er.none (fun k v e=>by cases e) k v hv
theorem foldR_ok (l:List En)(h:∀ x∈l,OkF x.base):∀ (s:Er),(∀ k,∀ y∈s.about k,OkF y)->∀ k,∀ y∈(l.foldl stepR s).about k,OkF y:=by
 induction l with
 |nil=>intro s hs;exact hs
 |cons x l ih =>
  intro s hs
  refine ih (fun y hy=>h y (by simp[hy])) (stepR s x) (fun k y hy=>?_)
  unfold stepR at hy
  split at hy
  · exact hs k y hy
  · split at hy
    · have hy':y∈(if k=whoF s x then s.about k++[x.base]else s.about k):=hy
      split at hy'
      · rcases List.mem_append.1 hy' with h1|h1
        · exact hs k y h1
        · simp at h1;rw[h1];exact h x (by simp)
      · exact hs k y hy'
    · split at hy
      · exact hs k y hy
      · split at hy<;>exact hs k y hy
theorem erS_ok (l:List En)(h:∀ x∈l,OkF x.base)(k:Who):∀ y∈(erS l).about k,OkF y:=foldR_ok l h Er.none (fun k y e=>by cases e) k
end Go.Proofs.YtfnpfkgmacaboaaGreat
namespace Go.Proofs.YtfnpfkgmacaboaaGreat
open Go.Proofs.Tryz
open Go.ChangeShapes Go.WideShapes Go.ChangeAt Go.RowKit Go.Maps Go.WideElems Go.ChangeMaps
set_option linter.unusedVariables false
set_option linter.unusedSimpArgs false
def tabI (s:Er):{ x:FID // OkF x }->Option Bool:=fun k=>if s.ids k.1 then some true else none
def tabK (s:Er):Nm->Option ByteArray:=fun k=>s.kinds k.1
abbrev Hdr:={ x:Who // OkW x }->Option Value
def hdrV (T:Hdr)(k:{ x:Who // OkW x }):Value:=(T k).getD (.slice none 0 0)
structure Abouts (w:World) (B:Nat) (T:Hdr) (about:Who->List FID):Prop where
 own:∀ k,Own fidC 2 24 w B (hdrV T k) (about k.1)
 apart:∀ k k' g,k≠k'->(hdrV T k).ownBlock=some g->(hdrV T k').ownBlock≠some g
structure ErAt (w0 w:World) (s:Er) (i m:Nat) (T:Hdr):Prop where
 ids:Tab w keysF w0.heap.size m (tabV (tabI s) Value.bool)
 about:Tab w keysW (w0.heap.size+1) i T
 kinds:Tab w keysN (w0.heap.size+2) i (tabV (tabK s) Value.string)
 rows:Abouts w (w0.heap.size+3) T s.about
 below:Below w0.heap.size w0 w
 size:w0.heap.size+3<=w.heap.size
theorem Own.same {α:Type}{enc:α->List Value}{k:Nat}{e:TypeId}{w w':World}{B:Nat}{v:Value}{l:List α}(h:Own enc k e w B v l)(hb:∀ g,v.ownBlock=some g->w'.heap[g]?=w.heap[g]?):Own enc k e w' B v l:=by
 refine⟨h.1,?_⟩
 rcases h.2 with h|⟨g,cap,cur,h1,h2,h3,h4⟩
 · exact Or.inl h
 · exact Or.inr ⟨g,cap,cur,h1,h2,(hb g (by rw[h1];rfl)).trans h3,h4⟩
theorem Own.ne_box {α:Type}{enc:α->List Value}{k:Nat}{e t:TypeId}{w:World}{B g:Nat}{cs:Array Value}{v:Value}{l:List α}(h:Own enc k e w B v l)(hb:Box w g cs t)(ht:t≠e):v.ownBlock≠some g:=by
 intro hg
 rcases h.2 with⟨rfl,-⟩|⟨g',cap,cur,rfl,h2,h3,h4⟩
 · cases hg
 · injection hg with hg
   subst hg
   rw[show w.heap[g']?=_ from hb]at h3
   injection h3 with h3
   injection h3 with h4 h5
   exact ht h5
theorem Tab.is_map {P:Program}{kt:TypeId}{κ:Type} [DecidableEq κ] {Z:Keyz P kt κ}{w:World}{b n:Nat}{T:κ->Option Value}(h:Tab w Z b n T):∃ es clock,w.heap[b]?=some (.map es clock):=by
 obtain⟨D,⟨es,clock,hb,-⟩,-⟩:=h
 exact⟨es,clock,hb⟩
theorem Tab.ne_box {P:Program}{kt:TypeId}{κ:Type} [DecidableEq κ] {Z:Keyz P kt κ}{w:World}{b n g:Nat}{T:κ->Option Value}(h:Tab w Z b n T){cs:Array Value}{t:TypeId}(hb:Box w g cs t):g≠b:=by
 rintro rfl
 obtain⟨es,clock,e⟩:=h.is_map
 rw[show w.heap[g]?=_ from hb]at e
 injection e with e
 cases e
theorem Tab.ne_own {P:Program}{kt:TypeId}{κ α:Type} [DecidableEq κ] {Z:Keyz P kt κ}{w:World}{b n:Nat}{T:κ->Option Value}(h:Tab w Z b n T){enc:α->List Value}{k:Nat}{e:TypeId}{B:Nat}{v:Value}{l:List α}(ho:Own enc k e w B v l):v.ownBlock≠some b:=by
 intro hg
 rcases ho.2 with⟨rfl,-⟩|⟨g',cap,cur,rfl,h2,h3,h4⟩
 · cases hg
 · injection hg with hg
   subst hg
   obtain⟨es,clock,e⟩:=h.is_map
   rw[h3]at e
   injection e with e
   cases e
def waits (o:Oper)(n:Nat):Bool:=o.after.any fun e=>Region.binds .any e&&e.on==n
theorem Zaz {o:Oper}{n:Nat}(h:waits o n=true){L:Array Bool}(ha:∀ e∈o.after,Region.binds .any e=true->L.getD e.on false=true):L.getD n false=true:=by
 obtain⟨e,he,hb⟩:=Array.any_eq_true'.1 h
 simp only[Bool.and_eq_true,beq_iff_eq]at hb
 have:=ha e he hb.1
 rwa [hb.2]at this
theorem Zbb {P:Program}{o:Oper}{a:Act}{w w':World}{K:Act->World->Prop}{Q:Exit->Act->World->Prop}{v:Value}(hrun:(execOp a.eval o).run P w=.ok (.value v) w')(h:K (a.put o.dst v) w'):o.wp P a w K Q:=by
 unfold Oper.wp;rw[hrun];exact h
theorem wp_skip {P:Program}{o:Oper}{a:Act}{w w':World}{K:Act->World->Prop}{Q:Exit->Act->World->Prop}(hrun:(execOp a.eval o).run P w=.ok .skip w')(h:K (a.put o.dst undef) w'):o.wp P a w K Q:=by
 unfold Oper.wp;rw[hrun];exact h
structure AbW (w0 V:World) (i:Nat) (T:Hdr) (k0:{ x:Who // OkW x }) (o1:Obj) (lst:List FID) (y:FID) (l5 l6 l8 l10:Bool) (gs:Nat) (v':Value) (w:World):Prop where
 below:Below w0.heap.size w0 w
 size:V.heap.size<=w.heap.size
 far:∀ q,q<V.heap.size->q≠w0.heap.size+1->(hdrV T k0).ownBlock≠some q->w.heap[q]?=V.heap[q]?
 map:l10=false->w.heap[w0.heap.size+1]?=if l6=true then some o1 else V.heap[w0.heap.size+1]?
 old:l8=false->Own fidC 2 24 w (w0.heap.size+3) (hdrV T k0) lst
 new:l5=true->l8=false->V.heap.size<=gs/\w.heap[gs]?=some (.cells (fidC y).toArray 24 (0,0))
 app:l8=true->Own fidC 2 24 w (w0.heap.size+3) v' (lst++[y])/\(v'.ownBlock=(hdrV T k0).ownBlock∨∃ g,v'.ownBlock=some g/\V.heap.size<=g)
 tab:l10=true->Tab w keysW (w0.heap.size+1) (i+1) (putT T k0 v')
 c8:l8=true->l6=true
 c10:l10=true->l8=true
section
variable {w0 V w w':World} {i gs:Nat} {T:Hdr} {k0:{ x:Who // OkW x }} {o1:Obj} {lst:List FID} {y:FID} {l5 l6 l8 l10:Bool} {v':Value}
theorem AbW.kept (h:AbW w0 V i T k0 o1 lst y l5 l6 l8 l10 gs v' w)(Cb:w0.heap.size+1<V.heap.size)(hb:Below w.heap.size w w'):AbW w0 V i T k0 o1 lst y l5 l6 l8 l10 gs v' w' :=
 ⟨h.below.trans (hb.mono h.below.size),Nat.le_trans h.size hb.size,fun q h1 h2 h3=>(hb.block q (Nat.lt_of_lt_of_le h1 h.size)).trans (h.far q h1 h2 h3),
  fun h1=>(hb.block _ (Nat.lt_of_lt_of_le Cb h.size)).trans (h.map h1),fun h1=>(h.old h1).kept hb,
  fun h1 h2=>⟨(h.new h1 h2).1,(hb.block gs (Array.getElem?_eq_some_iff.1 (h.new h1 h2).2).1).trans (h.new h1 h2).2⟩,fun h1=>⟨(h.app h1).1.kept hb,(h.app h1).2⟩,fun h1=>(h.tab h1).kept hb,h.c8,h.c10⟩
theorem AbW.build (h:AbW w0 V i T k0 o1 lst y l5 l6 l8 l10 gs v' w)(Cb:w0.heap.size+1<V.heap.size):AbW w0 V i T k0 o1 lst y true l6 l8 l10 w.heap.size v' (w.alloc (.cells (fidC y).toArray 24)):=by
 have h1:=h.kept Cb (Zab (w:=w) (.cells (fidC y).toArray 24))
 exact⟨h1.below,h1.size,h1.far,h1.map,h1.old,fun _ _=>⟨h.size,heap_alloc_new w _⟩,h1.app,h1.tab,h1.c8,h1.c10⟩
theorem Zey (u:World)(b:Nat)(o:Obj):u.grownBy (setBlock u b o) (some b):=⟨rfl,rfl,rfl,by simp[setBlock],fun i _ hi=>by
 unfold setBlock
 simp only[Array.getElem?_setIfInBounds]
 rw[if_neg (fun e=>hi (by rw[e]))]⟩
theorem AbW.entry (h:AbW w0 V i T k0 o1 lst y l5 false l8 l10 gs v' w)(Cb:w0.heap.size+1<V.heap.size)(hne:(hdrV T k0).ownBlock≠some (w0.heap.size+1))(hgs:l5=true->l8=false->gs≠w0.heap.size+1):AbW w0 V i T k0 o1 lst y l5 true l8 l10 gs v' (setBlock w (w0.heap.size+1) o1):=by
 have h8:l8=false:=by
  cases e:l8 with
  |false=>rfl
  |true=>have:=h.c8 e;cases this
 have hg:=Zey w (w0.heap.size+1) o1
 have hlt:w0.heap.size+1<w.heap.size:=Nat.lt_of_lt_of_le Cb h.size
 refine⟨h.below.grown hg h.below.size (fun k e=>by injection e with e;omega),Nat.le_trans h.size hg.size,fun q h1 h2 h3=>(hg.block q (Nat.lt_of_lt_of_le h1 h.size) (fun e=>h2 (Option.some.inj e))).trans (h.far q h1 h2 h3),fun _=>?_,
  fun h1=>(h.old h1).same (fun g hg'=>hg.block g ((h.old h1).lt g hg').2 (fun e=>hne (by rw[hg',e]))),fun h1 h2=>⟨(h.new h1 h2).1,(hg.block gs (Array.getElem?_eq_some_iff.1 (h.new h1 h2).2).1 (fun e=>hgs h1 h2 (Option.some.inj e))).trans (h.new h1 h2).2⟩,
  fun h1=>(by rw[h8]at h1;cases h1),fun h1=>(by have:=h.c10 h1;rw[h8]at this;cases this),fun _=>rfl,h.c10⟩
 rw[if_pos rfl]
 simp[setBlock,hlt]
end
theorem AbW.append {w0 V w:World}{i gs:Nat}{T:Hdr}{k0:{ x:Who // OkW x }}{o1:Obj}{lst:List FID}{y:FID}{l5 l6 l8 l10:Bool}{v':Value}(h:AbW w0 V i T k0 o1 lst y l5 l6 l8 l10 gs v' w)(Cb:w0.heap.size+1<V.heap.size)(hV:w0.heap.size+3<=V.heap.size)(hlen:lst.length<=1000000)
 (f5:l5=true) (f6:l6=true) (f8:l8=false) (f10:l10=false) (hne:(hdrV T k0).ownBlock≠some (w0.heap.size+1)) (ty:TypeId) :
 ∃ v1 w1,(Builtin.append_ #[64,64] ty #[hdrV T k0,.slice (some ⟨gs,0,none⟩) 1 1]).run prog w=.ok v1 w1/\AbW w0 V i T k0 o1 lst y l5 l6 true l10 gs v1 w1:=by
 obtain⟨ii,z,hi,hz,hs,hby,hzs⟩:=elF.parts
 obtain⟨Yd,Pe⟩:=h.new f5 f8
 have hold:=h.old f8
 obtain⟨v1,w1,hrun,hown,hgr,-,hblk⟩:=run_append_own_at (P:=prog) w (w0.heap.size+3) 64 ty 24 ii z 2 24 underlying64 hi hz hs hby hzs (by decide) (hdrV T k0) lst.length (encs fidC lst) hold ⟨gs,0,none⟩ 1 1 (fidC y) rfl
  (fun j u hu=>by rw[ZbE,Nat.zero_add];exact Box.cell (cs:=(fidC y).toArray) (t:=24) Pe j u (by simpa using hu)) (fidC_one y) (by unfold maxLen;omega) (by omega) (Nat.le_trans hV h.size)
 have hlt:∀ q,q<V.heap.size->(hdrV T k0).ownBlock≠some q->w1.heap[q]?=w.heap[q]?:=fun q h1 h2=>hgr.block q (Nat.lt_of_lt_of_le h1 h.size) (fun e=>h2 e.symm)
 refine⟨v1,w1,hrun,h.below.grown hgr h.below.size (fun k e=>by have:=(hold.lt k e).1;omega),Nat.le_trans h.size hgr.size,fun q h1 h2 h3=>(hlt q h1 h3).trans (h.far q h1 h2 h3),fun h1=>(hlt _ Cb hne).trans (h.map h1),fun e=>(by cases e),fun _ e=>(by cases e),fun _=>⟨?_,?_⟩,fun e=>(by rw[f10]at e;cases e),fun _=>f6,fun _=>rfl⟩
 · unfold Own
   rw[Za8,Zd0,List.length_append]
   exact hown
 · rcases hblk with e|e
   · exact Or.inl e
   · exact Or.inr ⟨_,e,h.size⟩
theorem AbW.store {w0 V w w1:World}{i gs:Nat}{T:Hdr}{k0:{ x:Who // OkW x }}{o1:Obj}{lst:List FID}{y:FID}{l5 l6 l8 l10:Bool}{v':Value}(h:AbW w0 V i T k0 o1 lst y l5 l6 l8 l10 gs v' w)(Cb:w0.heap.size+1<V.heap.size)(f8:l8=true)
 (ht:Tab w1 keysW (w0.heap.size+1) (i+1) (putT T k0 v')) (hg:w.grownBy w1 (some (w0.heap.size+1))) (hne:(hdrV T k0).ownBlock≠some (w0.heap.size+1)):AbW w0 V i T k0 o1 lst y l5 l6 l8 true gs v' w1:=by
 obtain⟨ho,hb⟩:=h.app f8
 have hv:v'.ownBlock≠some (w0.heap.size+1):=by
  rcases hb with e|⟨g,e,hg⟩
  · rw[e];exact hne
  · rw[e];intro e2;injection e2 with e2;omega
 refine⟨h.below.grown hg h.below.size (fun k e=>by injection e with e;omega),Nat.le_trans h.size hg.size,fun q h1 h2 h3=>(hg.block q (Nat.lt_of_lt_of_le h1 h.size) (fun e=>h2 (Option.some.inj e))).trans (h.far q h1 h2 h3),fun e=>(by cases e),fun e=>(by rw[f8]at e;cases e),fun _ e=>(by rw[f8]at e;cases e),
  fun _=>⟨ho.same (fun g hg'=>hg.block g (ho.lt g hg').2 (fun e=>hv (by rw[hg',e]))),hb⟩,fun _=>ht,h.c8,fun _=>f8⟩
theorem hdrV_put (T:Hdr)(k0 k:{ x:Who // OkW x })(v:Value):hdrV (putT T k0 v) k=if k=k0 then v else hdrV T k:=by
 unfold hdrV putT
 split<;>rfl
theorem ErAt.put {w0 V w:World}{s:Er}{i m:Nat}{T:Hdr}(hE:ErAt w0 V s i m T)(Cb:w0.heap.size+1<V.heap.size){who:Who}{hwho:OkW who}{y:FID}{v':Value}(ho:Own fidC 2 24 w (w0.heap.size+3) v' (s.about who++[y]))
 (hb:v'.ownBlock=(hdrV T ⟨who,hwho⟩).ownBlock∨∃ g,v'.ownBlock=some g/\V.heap.size<=g) (far:∀ q,q<V.heap.size->q≠w0.heap.size+1->(hdrV T ⟨who,hwho⟩).ownBlock≠some q->w.heap[q]?=V.heap[q]?)
 (below:Below w0.heap.size w0 w) (size:V.heap.size<=w.heap.size) (tab:Tab w keysW (w0.heap.size+1) (i+1) (putT T ⟨who,hwho⟩ v')) :
 ErAt w0 w { s with about:=fun k=>if k=who then s.about k++[y]else s.about k } (i+1) m (putT T ⟨who,hwho⟩ v'):=by
 have o0:=hE.rows.own ⟨who,hwho⟩
 refine⟨hE.ids.blocks (far _ (by omega) (by omega) (hE.ids.ne_own o0)),tab,(hE.kinds.blocks (far _ (by have:=hE.size;omega) (by omega) (hE.kinds.ne_own o0))).mono (Nat.le_succ _),⟨fun k=>?_,fun k k' g hne=>?_⟩,below,Nat.le_trans hE.size size⟩
 · rw[hdrV_put]
   by_cases e:k=⟨who,hwho⟩
   · subst e
     rw[if_pos rfl]
     show Own fidC 2 24 w _ v' (if who=who then _ else _)
     rw[if_pos rfl];exact ho
   · rw[if_neg e]
     have e2:¬ k.1=who:=fun q=>e (Subtype.ext q)
     show Own fidC 2 24 w _ _ (if k.1=who then _ else _)
     rw[if_neg e2]
     refine(hE.rows.own k).same (fun g hg=>far g ((hE.rows.own k).lt g hg).2 (fun q=>hE.about.ne_own (hE.rows.own k) (by rw[hg,q])) (fun q=>hE.rows.apart k _ g e hg q))
 · rw[hdrV_put,hdrV_put]
   by_cases e:k=⟨who,hwho⟩
   · rw[if_pos e,if_neg (fun q=>hne (by rw[e,q]))]
     intro hg hg'
     rcases hb with q|⟨g',q,Ye⟩
     · rw[q]at hg;exact hE.rows.apart _ k' g (fun q2=>hne (by rw[e,q2])) hg hg'
     · rw[q]at hg;injection hg with hg;have:=((hE.rows.own k').lt g hg').2;omega
   · rw[if_neg e]
     by_cases e':k'=⟨who,hwho⟩
     · rw[if_pos e']
       intro hg hg'
       rcases hb with q|⟨g',q,Ye⟩
       · rw[q]at hg';exact hE.rows.apart k _ g e hg hg'
       · rw[q]at hg';injection hg' with hg';have:=((hE.rows.own k).lt g hg).2;omega
     · rw[if_neg e'];exact hE.rows.apart k k' g hne
theorem Zcw {P:Program}{o:Oper}{ρ:Operand->Value}{w:World}(ty:TypeId)(x:Operand)(ho:o.op=.load ty x)(b off:Nat)(L:List Value)(hx:ρ x=.pointer (some ⟨b,off,none⟩))(hc:∀ j v,L[j]?=some v->w.cell? ⟨b,off+j,none⟩=some v)
 (d:TypeDesc) (hu:P.underlying ty=some d) (hd:(match d with|.struct _|.array _ _=>true|_=>false)=true) (hi:(P.info? ty).map (·.size)=some L.length):(execOp ρ o).run P w=.ok (.value (.agg L.toArray)) w:=by
 unfold execOp
 simp only[ho,hx,Instr.loadAt,Instr.sureAddr,Sem.run_bind,Sem.run_pure,Result.andThen_ok,ZaF w b off ty L d hc hu hd hi]
theorem build_fid (y:FID)(w:World):(Instr.buildSlice 64 1 #[(0,fidV y)]).run prog w=.ok (.slice (some ⟨w.heap.size,0,none⟩) 1 1) (w.alloc (.cells (fidC y).toArray 24)):=by
 obtain⟨i,z,hi,hz,hs,-,hzs⟩:=elF.parts
 refine run_buildSlice w 64 24 1 _ _ i z underlying64 hi hz (by rw[hs];decide) (by rw[hs];decide) ?_
 rw[hs]
 have hr:Array.range (1*2)=#[0,1]:=by decide
 rw[hr]
 simp[Instr.fill,fidC,fidV,Value.cells]
theorem fact_cells (x:En)(j:Nat)(v:Value)(h:([.string x.src,.int .i64 x.seq,.int .i64 x.fk,.int .i64 x.ref,.string x.tb,.string x.ky,.int .i64 x.ev,.slice x.fa x.vs.length x.fc]:List Value)[j]?=some v):x.cells.toArray[3+j]?=some v:=by
 match j,h with
 |0,h=>exact h
 |1,h=>exact h
 |2,h=>exact h
 |3,h=>exact h
 |4,h=>exact h
 |5,h=>exact h
 |6,h=>exact h
 |7,h=>exact h
theorem ZaM {L:Array Bool}{i:Nat}(h:L.getD i true=false):L.getD i false=false:=getD_both h
theorem getD_up {L:Array Bool}{i:Nat}(hi:i<L.size)(h:L.getD i true=true):L.getD i false=true:=by simp[hi]at h ⊢;exact h
section
variable {Q:Exit->Act->World->Prop} {A:Act} {V w0:World} {s:Er} {i m:Nat} {T:Hdr} {who:Who} {x:En} {g h:Nat}
set_option maxHeartbeats 4000000 in
set_option maxRecDepth 100000 in
theorem about_region {id:Nat}{o0 o1 o2 o3 o4 o5 o6 o7 o8 o9 o10:Oper}
 (p0:o0.op=.move (.tmp 4)/\o0.dst=some 58/\o0.guard=none)
 (p1:o1.op=.load 129 (.tmp 8)/\o1.dst=some 59/\o1.guard=none)
 (p2:o2.op=.fieldAddr 48 (.tmp 7) 3/\o2.dst=some 61/\o2.guard=none)
 (p3:o3.op=.load 27 (.tmp 61)/\o3.dst=some 62/\o3.guard=none)
 (p4:o4.op=.call { callee:=.value (.func 58),args:=#[.tmp 62],argTypes:=#[27] }/\o4.dst=some 63/\o4.guard=none)
 (p5:o5.op=.buildSlice 64 1 #[(0,.tmp 63)]/\o5.dst=some 64/\o5.guard=none)
 (p6:o6.op=.mapEntry 126 (.tmp 58) (.tmp 59)/\o6.dst=some 65/\o6.guard=none)
 (p7:o7.op=.extract (.tmp 65) 0/\o7.dst=some 60/\o7.guard=none)
 (p8:o8.op=.call { callee:=.builtin .append,args:=#[.tmp 60,.tmp 64],argTypes:=#[64,64] }/\o8.dst=some 66/\o8.guard=none)
 (p9:o9.op=.extract (.tmp 65) 1/\o9.dst=some 67/\o9.guard=none)
 (p10:o10.op=.entryStore 126 (.tmp 58) (.tmp 67) (.tmp 66)/\o10.dst=none/\o10.guard=none)
 (q3:waits o3 2=true) (q4:waits o4 3=true) (q5:waits o5 4=true) (q6:waits o6 0=true/\waits o6 1=true) (q7:waits o7 6=true) (q8:waits o8 5=true/\waits o8 6=true/\waits o8 7=true) (q9:waits o9 6=true)
 (q10:waits o10 0=true/\waits o10 8=true/\waits o10 9=true)
 (hs:ZcQ .any #[o0,o1,o2,o3,o4,o5,o6,o7,o8,o9,o10]=true)
 (hA4:A.eval (.tmp 4)=.map (some (w0.heap.size+1))) (hA7:A.eval (.tmp 7)=.pointer (some ⟨g,0,none⟩)) (hA8:A.eval (.tmp 8)=.pointer (some ⟨h,0,none⟩)) (hsz:68<=A.tmps.size)
 (hE:ErAt w0 V s i m T) (hi:i<Go.maxLen) (hlen:(s.about who).length<=1000000) (hg:Box V g x.cells.toArray 48) (hh:Box V h #[.string who.1,.string who.2] 129) (hwho:OkW who)
 (hQ:∀ st gs v' w',ErAt w0 w' { s with about:=fun k=>if k=who then s.about k++[x.base]else s.about k } (i+1) m (putT T ⟨who,hwho⟩ v') ->
  Q .normal (((((((((((A.put (some 58) (.map (some (w0.heap.size+1)))).put (some 59) (whoV who)).put (some 61) (.pointer (some ⟨g,3,none⟩))).put (some 62) (.agg #[.string x.src,.int .i64 x.seq,.int .i64 x.fk,.int .i64 x.ref,.string x.tb,.string x.ky,.int .i64 x.ev,.slice x.fa x.vs.length x.fc])).put (some 63) (fidV x.base)).put (some 64) (.slice (some ⟨gs,0,none⟩) 1 1)).put (some 65) (.tuple #[hdrV T ⟨who,hwho⟩,goInt st])).put (some 60) (hdrV T ⟨who,hwho⟩)).put (some 66) v').put (some 67) (goInt st))) w') :
 (Code.region id #[o0,o1,o2,o3,o4,o5,o6,o7,o8,o9,o10] true).wp prog Q A V:=by
 obtain⟨st,o1',hEn,hSt⟩:=hE.about.entry (t:=126) (e:=64) underlying126 (z:=.slice none 0 0) (fun u=>Tryz.zeroValue64 u) hi (k:=⟨who,hwho⟩) trivial
 have Cb:w0.heap.size+1<V.heap.size:=by have:=hE.size;omega
 have hne:=hE.about.ne_own (hE.rows.own ⟨who,hwho⟩)
 have hgb:=hE.about.ne_box hg
 have hhb:=hE.about.ne_box hh
 have hgo:=(hE.rows.own ⟨who,hwho⟩).ne_box hg (by decide)
 have hho:=(hE.rows.own ⟨who,hwho⟩).ne_box hh (by decide)
 have hw:∀ {o:Oper} {ops:Array Oper} {t:Array Value},o.guard=none->Region.wanted o (yielded ops t)=true:=fun hgd=>by simp[Region.wanted,hgd]
 have z58:58<A.tmps.size:=by omega
 have z59:59<A.tmps.size:=by omega
 have z60:60<A.tmps.size:=by omega
 have z61:61<A.tmps.size:=by omega
 have z62:62<A.tmps.size:=by omega
 have z63:63<A.tmps.size:=by omega
 have z64:64<A.tmps.size:=by omega
 have z65:65<A.tmps.size:=by omega
 have z66:66<A.tmps.size:=by omega
 have z67:67<A.tmps.size:=by omega
 obtain⟨F,hF⟩:∃ F:Array Bool->Nat->Value->Act,F=fun L gs v'=>putIf (L.getD 9 false) 67 (goInt st) (putIf (L.getD 8 false) 66 v' (putIf (L.getD 7 false) 60 (hdrV T ⟨who,hwho⟩) (putIf (L.getD 6 false) 65 (.tuple #[hdrV T ⟨who,hwho⟩,goInt st]) (putIf (L.getD 5 false) 64 (.slice (some ⟨gs,0,none⟩) 1 1) (putIf (L.getD 4 false) 63 (fidV x.base) (putIf (L.getD 3 false) 62 (.agg #[.string x.src,.int .i64 x.seq,.int .i64 x.fk,.int .i64 x.ref,.string x.tb,.string x.ky,.int .i64 x.ev,.slice x.fa x.vs.length x.fc]) (putIf (L.getD 2 false) 61 (.pointer (some ⟨g,3,none⟩)) (putIf (L.getD 1 false) 59 (whoV who) (putIf (L.getD 0 false) 58 (.map (some (w0.heap.size+1))) A))))))))):=⟨_,rfl⟩
 refine ZcK (l:=[o0,o1,o2,o3,o4,o5,o6,o7,o8,o9,o10]) (by kernel_rfl) hs (fun L a w=>L.size=11/\∃ gs v',a=F L gs v'/\AbW w0 V i T ⟨who,hwho⟩ o1' (s.about who) x.base (L.getD 5 false) (L.getD 6 false) (L.getD 8 false) (L.getD 10 false) gs v' w) ?_ ?_ ?_
 · have hz:∀ k,(Array.replicate 11 false).getD k false=false:=fun k=>getD_replicate_false 11 k
   refine⟨by simp,0,undef,?_,?_⟩
   · rw[hF]
     show A=putIf ((Array.replicate 11 false).getD 9 false) _ _ _
     simp only[List.length_cons,List.length_nil,Nat.reduceAdd,Nat.zero_add,hz,Zau]
   · show AbW w0 V i T ⟨who,hwho⟩ o1' (s.about who) x.base ((Array.replicate 11 false).getD 5 false) ((Array.replicate 11 false).getD 6 false) ((Array.replicate 11 false).getD 8 false) ((Array.replicate 11 false).getD 10 false) 0 undef V.drew
     simp only[hz]
     exact⟨hE.below.drew,Nat.le_refl _,fun q _ _ _=>rfl,fun _=>rfl,fun _=>hE.rows.own ⟨who,hwho⟩,fun e=>(by cases e),fun e=>(by cases e),fun e=>(by cases e),fun e=>(by cases e),fun e=>(by cases e)⟩
 · refine⟨?_,?_,?_,?_,?_,?_,?_,?_,?_,?_,?_,trivial⟩
   · rintro L a w hsz ⟨hL,gs,v',rfl,W⟩ hn haf
     rw[if_pos (hw p0.2.2)]
     have hn':=ZaM hn
     refine Zbb (v:=.map (some (w0.heap.size+1))) (w':=w) (by unfold execOp;rw[p0.1,hF];simp[Zam,hA4]) ⟨by simp[hL],gs,v',?_,by simpa only[Zax,ne_eq,Nat.reduceEqDiff,not_false_eq_true]using W⟩
     rw[p0.2.1,hF]
     simp[ZaL,hn',Zau,Zaj,Zax,ZaB,hL]
   · rintro L a w hsz ⟨hL,gs,v',rfl,W⟩ hn haf
     rw[if_pos (hw p1.2.2)]
     have hn':=ZaM hn
     have hbx:Box w h #[.string who.1,.string who.2] 129:=(W.far h hh.lt hhb hho).trans hh
     refine Zbb (v:=whoV who) (w':=w) (Zcw 129 (.tmp 8) p1.1 h 0 [.string who.1,.string who.2] (by rw[hF];simp[Zam,hA8]) (fun j v hv=>by rw[Nat.zero_add];exact hbx.cell j v (by simpa using hv)) _ underlying129 rfl (by kernel_rfl)) ⟨by simp[hL],gs,v',?_,by simpa only[Zax,ne_eq,Nat.reduceEqDiff,not_false_eq_true]using W⟩
     rw[p1.2.1,hF]
     simp[ZaL,hn',Zau,Zaj,Zax,ZaB,hL]
   · rintro L a w hsz ⟨hL,gs,v',rfl,W⟩ hn haf
     rw[if_pos (hw p2.2.2)]
     have hn':=ZaM hn
     refine Zbb (v:=.pointer (some ⟨g,3,none⟩)) (w':=w) (by unfold execOp;rw[p2.1,hF];simp[Zam,hA7];go_simp) ⟨by simp[hL],gs,v',?_,by simpa only[Zax,ne_eq,Nat.reduceEqDiff,not_false_eq_true]using W⟩
     rw[p2.2.1,hF]
     simp[ZaL,hn',Zau,Zaj,Zax,ZaB,hL]
   · rintro L a w hsz ⟨hL,gs,v',rfl,W⟩ hn haf
     rw[if_pos (hw p3.2.2)]
     have hn':=ZaM hn
     have f2:=Zaz q3 haf
     have hbx:Box w g x.cells.toArray 48:=(W.far g hg.lt hgb hgo).trans hg
     refine Zbb (v:=.agg #[.string x.src,.int .i64 x.seq,.int .i64 x.fk,.int .i64 x.ref,.string x.tb,.string x.ky,.int .i64 x.ev,.slice x.fa x.vs.length x.fc]) (w':=w) (Zcw 27 (.tmp 61) p3.1 g 3 [.string x.src,.int .i64 x.seq,.int .i64 x.fk,.int .i64 x.ref,.string x.tb,.string x.ky,.int .i64 x.ev,.slice x.fa x.vs.length x.fc] (by rw[hF];simp[Zam,f2,Zaj,Zas,ZaC,z61]) (fun j v hv=>hbx.cell (3+j) v (fact_cells x j v hv)) _ underlying27 rfl (by kernel_rfl)) ⟨by simp[hL],gs,v',?_,by simpa only[Zax,ne_eq,Nat.reduceEqDiff,not_false_eq_true]using W⟩
     rw[p3.2.1,hF]
     simp[ZaL,hn',Zau,Zaj,Zax,ZaB,hL]
   · rintro L a w hsz ⟨hL,gs,v',rfl,W⟩ hn haf
     rw[if_pos (hw p4.2.2)]
     have hn':=ZaM hn
     have f3:=Zaz q4 haf
     have hcall:(execOp (F L gs v').eval o4).run prog w=.ok (.enter 58 #[.agg #[.string x.src,.int .i64 x.seq,.int .i64 x.fk,.int .i64 x.ref,.string x.tb,.string x.ky,.int .i64 x.ev,.slice x.fa x.vs.length x.fc]]) w:=by
      unfold execOp
      have he:(F L gs v').eval (.tmp 62)=.agg #[.string x.src,.int .i64 x.seq,.int .i64 x.fk,.int .i64 x.ref,.string x.tb,.string x.ky,.int .i64 x.ev,.slice x.fa x.vs.length x.fc]:=by rw[hF];simp[Zam,f3,Zaj,Zas,ZaC,z62]
      have hfn:(F L gs v').eval (.func 58)=.func (.func 58) #[] #[]:=rfl
      have hen:=Go.Proofs.enters_of func58 (by kernel_rfl) rfl #[.agg #[.string x.src,.int .i64 x.seq,.int .i64 x.fk,.int .i64 x.ref,.string x.tb,.string x.ky,.int .i64 x.ev,.slice x.fa x.vs.length x.fc]] w
      have Yc:(F L gs v').tmps[62]?.getD undef=.agg #[.string x.src,.int .i64 x.seq,.int .i64 x.fk,.int .i64 x.ref,.string x.tb,.string x.ky,.int .i64 x.ev,.slice x.fa x.vs.length x.fc]:=by simpa [Act.eval]using he
      simp[p4.1,resolve,invoke,hfn,Yc,go_sem,hen]
     unfold Oper.wp
     rw[hcall]
     refine(base_any x.src x.tb x.ky x.seq x.fk x.ref x.ev x.fa x.vs.length x.fc w).mono ?_
     rintro e w' ⟨rfl,hb⟩
     refine⟨by simp[hL],gs,v',?_,by simpa only[Zax,ne_eq,Nat.reduceEqDiff,not_false_eq_true]using W.kept Cb hb⟩
     rw[p4.2.1,hF]
     simp[ZaL,hn',Zau,Zaj,Zax,ZaB,hL]
     rfl
   · rintro L a w hsz ⟨hL,gs,v',rfl,W⟩ hn haf
     rw[if_pos (hw p5.2.2)]
     have hn':=ZaM hn
     have f4:=Zaz q5 haf
     have he:(F L gs v').eval (.tmp 63)=fidV x.base:=by rw[hF];simp[Zam,f4,Zaj,Zas,ZaC,z63]
     have W':=W.build Cb
     refine Zbb (v:=.slice (some ⟨w.heap.size,0,none⟩) 1 1) (w':=w.alloc (.cells (fidC x.base).toArray 24)) (by unfold execOp;simp[p5.1,he,build_fid,Result.andThen]) ⟨by simp[hL],w.heap.size,v',?_,by simpa [Zax,ZaB,hL]using W'⟩
     rw[p5.2.1,hF]
     simp[ZaL,hn',Zau,Zaj,Zax,ZaB,hL]
   · rintro L a w hsz ⟨hL,gs,v',rfl,W⟩ hn haf
     rw[if_pos (hw p6.2.2)]
     have hn':=ZaM hn
     have f0:=Zaz q6.1 haf
     have f1:=Zaz q6.2 haf
     have he:(F L gs v').eval (.tmp 58)=.map (some (w0.heap.size+1)):=by rw[hF];simp[Zam,f0,Zaj,Zas,ZaC,z58]
     have Yc:(F L gs v').eval (.tmp 59)=keysW.val ⟨who,hwho⟩:=by rw[hF];simp[Zam,f1,Zaj,Zas,ZaC,z59];rfl
     have W0:=W
     have e6:L.getD 6 false=false:=hn'
     have h8:L.getD 8 false=false:=by
      cases e:L.getD 8 false with
      |false=>rfl
      |true=>have:=W.c8 e;rw[e6]at this;cases this
     have Nr:L.getD 10 false=false:=by
      cases e:L.getD 10 false with
      |false=>rfl
      |true=>have:=W.c10 e;rw[h8]at this;cases this
     rw[e6]at W0
     have hm:=W0.map Nr
     have W':=W0.entry Cb hne (fun h1 h2=>by have:=(W0.new h1 h2).1;omega)
     have hrun:=hEn w (by simpa using hm)
     refine Zbb (v:=.tuple #[hdrV T ⟨who,hwho⟩,goInt st]) (w':=setBlock w (w0.heap.size+1) o1') (by unfold execOp;simp only[p6.1,he,Yc];simp[hrun,Result.andThen];rfl) ⟨by simp[hL],gs,v',?_,by simpa [Zax,ZaB,hL]using W'⟩
     rw[p6.2.1,hF]
     simp[ZaL,hn',Zau,Zaj,Zax,ZaB,hL]
   · rintro L a w hsz ⟨hL,gs,v',rfl,W⟩ hn haf
     rw[if_pos (hw p7.2.2)]
     have hn':=ZaM hn
     have f6:=Zaz q7 haf
     have he:(F L gs v').eval (.tmp 65)=.tuple #[hdrV T ⟨who,hwho⟩,goInt st]:=by rw[hF];simp[Zam,f6,Zaj,Zas,ZaC,z65]
     refine Zbb (v:=hdrV T ⟨who,hwho⟩) (w':=w) (by unfold execOp;simp only[p7.1,he];go_simp) ⟨by simp[hL],gs,v',?_,by simpa [Zax]using W⟩
     rw[p7.2.1,hF]
     simp[ZaL,hn',Zau,Zaj,Zax,ZaB,hL]
   · rintro L a w hsz ⟨hL,gs,v',rfl,W⟩ hn haf
     rw[if_pos (hw p8.2.2)]
     have hn':=ZaM hn
     have f5:=Zaz q8.1 haf
     have f6:=Zaz q8.2.1 haf
     have f7:=Zaz q8.2.2 haf
     have e8:L.getD 8 false=false:=hn'
     have Nr:L.getD 10 false=false:=by
      cases e:L.getD 10 false with
      |false=>rfl
      |true=>have:=W.c10 e;rw[e8]at this;cases this
     have he:(F L gs v').eval (.tmp 60)=hdrV T ⟨who,hwho⟩:=by rw[hF];simp[Zam,f7,Zaj,Zas,ZaC,z60]
     have Yc:(F L gs v').eval (.tmp 64)=.slice (some ⟨gs,0,none⟩) 1 1:=by rw[hF];simp[Zam,f5,Zaj,Zas,ZaC,z64]
     obtain⟨v1,w1,hrun,W'⟩:=W.append Cb hE.size hlen f5 f6 e8 Nr hne o8.type
     refine Zbb (v:=v1) (w':=w1) (by unfold execOp;simp[p8.1,resolve,invoke,builtin,he,Yc,hrun,Result.andThen]) ⟨by simp[hL],gs,v1,?_,by simpa [Zax,ZaB,hL]using W'⟩
     rw[p8.2.1,hF]
     simp[ZaL,hn',Zau,Zaj,Zax,ZaB,hL]
   · rintro L a w hsz ⟨hL,gs,v',rfl,W⟩ hn haf
     rw[if_pos (hw p9.2.2)]
     have hn':=ZaM hn
     have f6:=Zaz q9 haf
     have he:(F L gs v').eval (.tmp 65)=.tuple #[hdrV T ⟨who,hwho⟩,goInt st]:=by rw[hF];simp[Zam,f6,Zaj,Zas,ZaC,z65]
     refine Zbb (v:=goInt st) (w':=w) (by unfold execOp;simp only[p9.1,he];go_simp) ⟨by simp[hL],gs,v',?_,by simpa [Zax]using W⟩
     rw[p9.2.1,hF]
     simp[ZaL,hn',Zau,Zaj,Zax,ZaB,hL]
   · rintro L a w hsz ⟨hL,gs,v',rfl,W⟩ hn haf
     rw[if_pos (hw p10.2.2)]
     have hn':=ZaM hn
     have f0:=Zaz q10.1 haf
     have f8:=Zaz q10.2.1 haf
     have f9:=Zaz q10.2.2 haf
     have Nr:L.getD 10 false=false:=hn'
     have he:(F L gs v').eval (.tmp 58)=.map (some (w0.heap.size+1)):=by rw[hF];simp[Zam,f0,Zaj,Zas,ZaC,z58]
     have Yc:(F L gs v').eval (.tmp 67)=goInt st:=by rw[hF];simp[Zam,f9,Zaj,Zas,ZaC,z67]
     have Di:(F L gs v').eval (.tmp 66)=v':=by rw[hF];simp[Zam,f8,Zaj,Zas,ZaC,z66]
     have hm:=W.map Nr
     rw[if_pos (W.c8 f8)]at hm
     obtain⟨w1,hrun,htab,hgr⟩:=hSt w v' hm
     refine wp_skip (w':=w1) (by unfold execOp;simp only[p10.1,he,Yc,Di];simp[hrun,Result.andThen]) ⟨by simp[hL],gs,v',?_,by simpa [Zax,ZaB,hL]using W.store Cb f8 htab hgr hne⟩
     rw[p10.2.1,hF]
     show putIf _ _ _ _=putIf _ _ _ _
     simp[ZaL,hn',Zau,Zaj,Zax,ZaB,hL]
 · rintro L a w ⟨hL,gs,v',rfl,W⟩ hall
   have hall':∀ k,k<11->L.getD k false=true:=fun k hk=>getD_up (by omega) (hall k hk)
   have e:F L gs v'=((((((((((A.put (some 58) (.map (some (w0.heap.size+1)))).put (some 59) (whoV who)).put (some 61) (.pointer (some ⟨g,3,none⟩))).put (some 62) (.agg #[.string x.src,.int .i64 x.seq,.int .i64 x.fk,.int .i64 x.ref,.string x.tb,.string x.ky,.int .i64 x.ev,.slice x.fa x.vs.length x.fc])).put (some 63) (fidV x.base)).put (some 64) (.slice (some ⟨gs,0,none⟩) 1 1)).put (some 65) (.tuple #[hdrV T ⟨who,hwho⟩,goInt st])).put (some 60) (hdrV T ⟨who,hwho⟩)).put (some 66) v').put (some 67) (goInt st)):=by
    rw[hF]
    simp only[hall' 0 (by omega),hall' 1 (by omega),hall' 2 (by omega),hall' 3 (by omega),hall' 4 (by omega),hall' 5 (by omega),hall' 6 (by omega),hall' 7 (by omega),hall' 8 (by omega),hall' 9 (by omega),Zaj]
   rw[e]
   refine hQ st gs v' w (ErAt.put hE Cb (W.app (hall' 8 (by omega))).1 (W.app (hall' 8 (by omega))).2 W.far W.below W.size (W.tab (hall' 10 (by omega))))
end
end Go.Proofs.YtfnpfkgmacaboaaGreat
