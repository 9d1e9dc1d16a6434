/- Texts joined by a program. -/
import Derived.LoopIn
import Derived.Stop.RegionWithIn
import Derived.Sort.QuietIn
import Derived.Laws.Rows
import Derived.OwnWalkIn
import Derived.Great.BuildSlice
import Derived.Test.YtfnpfkgmacaboaaGreatM11
namespace Go.Proofs.YtfnpfkgmacaboaaGreat
open Go.Proofs.Tryz
open Lib (hid)
open Go.ChangeShapes Go.WideShapes Go.ChangeAt Go.RowKit
set_option linter.unusedVariables false
set_option linter.unusedSimpArgs false
theorem ZaF {P:Program}(w:World)(b off:Nat)(ty:TypeId)(L:List Value)(d:TypeDesc)(hc:∀ j v,L[j]?=some v->w.cell? ⟨b,off+j,none⟩=some v)
 (hu:P.underlying ty=some d) (hd:(match d with|.struct _|.array _ _=>true|_=>false)=true) (hi:(P.info? ty).map (·.size)=some L.length) :
 (loadVar ty ⟨b,off,none⟩).run P w=.ok (.agg L.toArray) w:=by
 have hl:(loadCells ⟨b,off,none⟩ L.length).run P w=.ok L.toArray w :=
  run_loadCells_list (P:=P) w ⟨b,off,none⟩ L (fun j v hv=>by
   have hadd:(⟨b,off,none⟩:Addr).add j=⟨b,off+j,none⟩:=by unfold Addr.add;split<;>simp_all
   rw[hadd];exact hc j v hv)
 cases hq:P.info? ty with
 |none=>simp[hq]at hi
 |some i =>
  have hs:i.size=L.length:=by simpa [hq]using hi
  have hagg:(isAgg ty).run P w=.ok true w:=by
   unfold isAgg
   rw[Sem.run_bind,run_underlying hu w]
   cases d<;>simp_all
  simp[loadVar,Sem.run_bind,hagg,sizeOf,typeInfo,hq,hs,hl]
section
variable {F:Fence} {n:Nat} {P:Program} {ops:Array Oper} {rest:List Oper} {o o1 o2:Oper} {a:Act} {w:World} {Q:Exit->Act->World->Prop}
theorem Zal (hgd:o.guard=none)(ty:TypeId)(x:Operand)(ho:o.op=.load ty x)(b off:Nat)(L:List Value)(hx:a.eval x=.pointer (some ⟨b,off,none⟩))(hc:∀ j v,L[j]?=some v->w.cell? ⟨b,off+j,none⟩=some v)
 (d:TypeDesc) (hu:P.underlying ty=some d) (hd:(match d with|.struct _|.array _ _=>true|_=>false)=true) (hi:(P.info? ty).map (·.size)=some L.length)
 (h:wpList P ops Q rest (a.put o.dst (.agg L.toArray)) w):wpList P ops Q (o :: rest) a w:=by
 refine wpList_plain hgd fun K hK=>?_
 unfold Oper.wp execOp
 simp only[ho,hx,Instr.loadAt,Instr.sureAddr,Sem.run_bind,Sem.run_pure,Result.andThen_ok,ZaF w b off ty L d hc hu hd hi]
 exact hK _ _ h
theorem Zbh (hgd:o.guard=none)(ty:TypeId)(x:Operand)(ho:o.op=.load ty x)(b off:Nat)(L:List Value)(hx:a.eval x=.pointer (some ⟨b,off,none⟩))(hc:∀ j v,L[j]?=some v->w.cell? ⟨b,off+j,none⟩=some v)
 (d:TypeDesc) (hu:P.underlying ty=some d) (hd:(match d with|.struct _|.array _ _=>true|_=>false)=true) (hi:(P.info? ty).map (·.size)=some L.length)
 (h:wpListIn F n P ops Q rest (a.put o.dst (.agg L.toArray)) w):wpListIn F n P ops Q (o :: rest) a w:=by
 refine wpListIn_plain hgd fun K hK=>?_
 unfold Oper.wpIn
 refine⟨by simp[Oper.about,ho],?_⟩
 rw[Oper.semAt_plain F _ _ (by rw[ho];intro c hc';cases hc')]
 unfold execOp
 simp only[ho,hx,Instr.loadAt,Instr.sureAddr,Sem.run_bind,Sem.run_pure,Result.andThen_ok,ZaF w b off ty L d hc hu hd hi]
 exact hK _ _ h
theorem wpListIn_loadG (hw:Region.wanted o (yielded ops a.tmps)=true)(ty:TypeId)(x:Operand)(ho:o.op=.load ty x)(b off:Nat)(L:List Value)(hx:a.eval x=.pointer (some ⟨b,off,none⟩))(hc:∀ j v,L[j]?=some v->w.cell? ⟨b,off+j,none⟩=some v)
 (d:TypeDesc) (hu:P.underlying ty=some d) (hd:(match d with|.struct _|.array _ _=>true|_=>false)=true) (hi:(P.info? ty).map (·.size)=some L.length)
 (h:wpListIn F n P ops Q rest (a.put o.dst (.agg L.toArray)) w):wpListIn F n P ops Q (o :: rest) a w:=by
 refine wpListIn_step fun K hK=>?_
 rw[if_pos hw]
 unfold Oper.wpIn
 refine⟨by simp[Oper.about,ho],?_⟩
 rw[Oper.semAt_plain F _ _ (by rw[ho];intro c hc';cases hc')]
 unfold execOp
 simp only[ho,hx,Instr.loadAt,Instr.sureAddr,Sem.run_bind,Sem.run_pure,Result.andThen_ok,ZaF w b off ty L d hc hu hd hi]
 exact hK _ _ h
theorem Zca (w:World)(old new:Array Value)(t:TypeId):(w.alloc (.cells old t)).setRow w.heap.size new=w.alloc (.cells new t):=by
 have e:(w.heap.push (.cells old t)).modify w.heap.size (fun|.cells _ elem frozen=>.cells new elem frozen|o=>o)=w.heap.push (.cells new t):=by
  apply Array.ext_getElem?
  intro i
  rw[Array.getElem?_modify,Array.getElem?_push,Array.getElem?_push]
  by_cases h:w.heap.size=i
  · subst h;simp
  · rw[if_neg h,if_neg (fun e=>h e.symm),if_neg (fun e=>h e.symm)]
 show({ w.alloc (.cells old t)with heap:=(w.heap.push (.cells old t)).modify w.heap.size (fun|.cells _ elem frozen=>.cells new elem frozen|o=>o) }:World)=_
 rw[e]
 rfl
theorem Zbr (ty:TypeId)(h1:o1.op=.alloc ty)(ρ:Operand->Value)(i:TypeInfo)(z:Value)(hi:P.info? ty=some i)(hz:i.zero=some z) :
 (execOp ρ o1).run P w=.ok (.value (.pointer (some ⟨w.heap.size,0,none⟩))) (w.alloc (.cells z.cells ty)):=by
 have hzv:(zeroValue ty).run P w=.ok z w:=by simp[zeroValue,typeInfo,Sem.run_bind,hi,hz]
 unfold execOp
 simp[h1,hzv,go_sem]
theorem ZbG (ty:TypeId)(x y:Operand)(h2:o2.op=.store ty x y)(ρ:Operand->Value)(g:Nat)(cells old:Array Value)(t:TypeId)(hx:ρ x=.pointer (some ⟨g,0,none⟩))(hy:ρ y=.agg cells)
 (hg:w.heap[g]?=some (.cells old t (0,0))) (hi:(P.info? ty).map (·.size)=some cells.size) (hold:old.size=cells.size) (h1:cells.all (·.oneCell')=true) :
 (execOp ρ o2).run P w=.ok .skip (w.setRow g cells):=by
 unfold execOp
 simp only[h2,hx,hy,Instr.storeAt,Instr.sureAddr,Sem.run_bind,Sem.run_pure,Result.andThen_ok,run_storeVar_row w g t ty old cells hg hi hold h1]
theorem Zba (He:o1.guard=none)(Ye:o2.guard=none)(ty:TypeId)(x y:Operand)(h1:o1.op=.alloc ty)(h2:o2.op=.store ty x y)(hd:o2.dst=none)(L:List Value)
 (hx:(a.put o1.dst (.pointer (some ⟨w.heap.size,0,none⟩))).eval x=.pointer (some ⟨w.heap.size,0,none⟩)) (hy:(a.put o1.dst (.pointer (some ⟨w.heap.size,0,none⟩))).eval y=.agg L.toArray)
 (hi:(P.info? ty).map (fun i=>(i.zero.map (fun z=>z.cells.size),i.size))=some (some L.length,L.length)) (hone:∀ v∈L,v.oneCell'=true)
 (h:wpList P ops Q rest (a.put o1.dst (.pointer (some ⟨w.heap.size,0,none⟩))) (w.alloc (.cells L.toArray ty))):wpList P ops Q (o1 :: o2 :: rest) a w:=by
 obtain⟨i,hq,z,hz,hs,hzs⟩:∃ i,P.info? ty=some i/\∃ z,i.zero=some z/\i.size=L.length/\z.cells.size=L.length:=by
  cases hq:P.info? ty with
  |none=>rw[hq]at hi;simp at hi
  |some i =>
   rw[hq]at hi
   simp at hi
   obtain⟨⟨z,h3,h4⟩,h5⟩:=hi
   exact⟨i,rfl,z,h3,h5,h4⟩
 refine wpList_plain He fun K hK=>?_
 unfold Oper.wp
 rw[Zbr ty h1 _ i z hq hz]
 refine hK _ _ (wpList_plain Ye fun K' hK'=>?_)
 unfold Oper.wp
 rw[ZbG ty x y h2 _ w.heap.size L.toArray z.cells ty hx hy (heap_alloc_new w _) (by simp[hq,hs]) (by simpa using hzs) (by simpa using hone),Zca]
 refine hK' _ _ ?_
 rw[hd]
 exact h
theorem Zb8 (He:o1.guard=none)(Ye:o2.guard=none)(ty:TypeId)(x y:Operand)(h1:o1.op=.alloc ty)(h2:o2.op=.store ty x y)(hd:o2.dst=none)(L:List Value)
 (hx:(a.put o1.dst (.pointer (some ⟨w.heap.size,0,none⟩))).eval x=.pointer (some ⟨w.heap.size,0,none⟩)) (hy:(a.put o1.dst (.pointer (some ⟨w.heap.size,0,none⟩))).eval y=.agg L.toArray)
 (hi:(P.info? ty).map (fun i=>(i.zero.map (fun z=>z.cells.size),i.size))=some (some L.length,L.length)) (hone:∀ v∈L,v.oneCell'=true)
 (h:wpListIn F n P ops Q rest (a.put o1.dst (.pointer (some ⟨w.heap.size,0,none⟩))) (w.alloc (.cells L.toArray ty))):wpListIn F n P ops Q (o1 :: o2 :: rest) a w:=by
 obtain⟨i,hq,z,hz,hs,hzs⟩:∃ i,P.info? ty=some i/\∃ z,i.zero=some z/\i.size=L.length/\z.cells.size=L.length:=by
  cases hq:P.info? ty with
  |none=>rw[hq]at hi;simp at hi
  |some i =>
   rw[hq]at hi
   simp at hi
   obtain⟨⟨z,h3,h4⟩,h5⟩:=hi
   exact⟨i,rfl,z,h3,h5,h4⟩
 refine wpListIn_plain He fun K hK=>?_
 unfold Oper.wpIn
 refine⟨by simp[Oper.about,h1],?_⟩
 rw[Oper.semAt_plain F _ _ (by rw[h1];intro c hc';cases hc'),Zbr ty h1 _ i z hq hz]
 refine hK _ _ (wpListIn_plain Ye fun K' hK'=>?_)
 unfold Oper.wpIn
 refine⟨by simp[Oper.about,h2],?_⟩
 rw[Oper.semAt_plain F _ _ (by rw[h2];intro c hc';cases hc'),ZbG ty x y h2 _ w.heap.size L.toArray z.cells ty hx hy (heap_alloc_new w _) (by simp[hq,hs]) (by simpa using hzs) (by simpa using hone),Zca]
 refine hK' _ _ ?_
 rw[hd]
 exact h
end
end Go.Proofs.YtfnpfkgmacaboaaGreat
namespace Go.Proofs.YtfnpfkgmacaboaaGreat
open Go.Proofs.Tryz
open Lib (hid)
open Go.ChangeShapes Go.WideShapes Go.ChangeAt Go.RowKit
set_option linter.unusedVariables false
set_option linter.unusedSimpArgs false
abbrev En.val (e:En):Value:=.agg e.cells.toArray
def untl (l:List En)(t:Int):List En:=l.filter (fun e=>decide (e.tick<=t))
theorem untl_snoc (l:List En)(t:Int)(x:En):untl (l++[x]) t=untl l t++(if x.tick<=t then [x]else []):=by
 unfold untl
 rw[List.filter_append]
 by_cases h:x.tick<=t<;>simp[h]
theorem Lies.same {α:Type}{enc:α->List Value}{k:Nat}{w w':World}{b off:Nat}{l:List α}(h:Lies enc k w b off l)(hb:w'.heap[b]?=w.heap[b]?):Lies enc k w' b off l:=fun i x hx j v hv=>by
 have:=h i x hx j v hv
 simp only[World.cell?,hb]at this ⊢
 exact this
theorem Zeg {w:World}{g:Nat}{o:Obj}(h:w.heap[g]?=some o):g<w.heap.size:=(Array.getElem?_eq_some_iff.1 h).1
theorem Zfk {w:World}{a:Addr}{v:Value}(h:w.cell? a=some v):a.block<w.heap.size:=by
 unfold World.cell? at h
 cases e:w.heap[a.block]? with
 |none=>rw[e]at h;cases h
 |some o=>exact Zeg e
def UntilAt (w0 w:World)(v:Value)(ao:Option Addr)(n c:Nat)(t:Int):Prop:=∃ bl bt,v=.func (.func 103) #[] #[.pointer (some ⟨bl,0,none⟩),.pointer (some ⟨bt,0,none⟩)]/\Boxed w bl 22 (.slice ao n c)/\Boxed w bt 3 (.int .i64 t)/\w0.heap.size<=bl/\w0.heap.size<=bt/\Below w0.heap.size w0 w
set_option maxRecDepth 100000 in
theorem until_any (n c:Nat)(ao:Option Addr)(t:Int)(w:World):Calls prog 77 #[.slice ao n c,.int .i64 t] w fun e w'=>∃ v,e=.returned v/\UntilAt w w' v ao n c t:=by
 go_enter func77,ntmps77
 go_wp2_with fail
 go_ret
 exact⟨_,rfl,w.heap.size,w.heap.size+1,rfl,(Boxed.new w 22 _).alloc _,by have:=Boxed.new (w.alloc (.cells #[.slice ao n c] 22)) 3 (.int .i64 t);simpa using this,Nat.le_refl _,by omega,Zak _ _⟩
set_option maxRecDepth 100000 in
set_option maxHeartbeats 8000000 in
theorem until_yields (n:Nat)(hn:1<=n)(bl bt:Nat)(t:Int)(l:List En)(ao:Option Addr)(c:Nat)(hl:l.length<=1000000000)(w:World)(hbl:Boxed w bl 22 (.slice ao l.length c))(hbt:Boxed w bt 3 (.int .i64 t))(h:Zac En.cells 40 w ao l)
 (K:Nat->Prop) (hK1:K bl) (hK2:K bt) (hK3:∀ b off,ao=some ⟨b,off,none⟩->b<w.heap.size->K b) (hK4:∀ k,K k->k<w.heap.size) :
 Yields n prog 103 #[.pointer (some ⟨bl,0,none⟩),.pointer (some ⟨bt,0,none⟩)] (fun e:En=>#[e.val]) K bl (untl l t) w:=by
 intro lp J W hW hJ hY h0
 have H:=hid h
 have HL:=hid hbl
 have HT:=hid hbt
 have HW:=hid hW
 have HJ:=hid hJ
 have HY:=hid hY
 have Rl:=hid hK3
 have HK4:=hid hK4
 have Oh:=hid hK1
 have So:=hid hK2
 clear h hbl hbt hW hJ hY hK3 hK4 hK1 hK2
 have l0:W.cell? ⟨bl,0,none⟩=some (.slice ao l.length c):=Boxed.cell ((HW.out bl Oh.out).trans HL.out)
 refine callsIn_of_wp func103 rfl trivial ?_ rfl
 simp only[ntmps103,List.size_toArray,List.length_cons,List.length_nil,Nat.reduceAdd,Nat.reduceSub,Array.replicate_succ,Array.replicate_zero,List.push_toArray,List.append_toArray,List.nil_append,List.cons_append]
 gi_wp2
 clear l0
 gi_loopw [8] (fun v wr=>∃ i:Nat,i<=l.length/\v=.int .i64 i/\Hid (∀ k,K k->wr.heap[k]?=w.heap[k]?)/\Hid (J (untl (l.take i) t) wr)) (fun v _=>l.length - (intOf v).toNat)
 case atStart=>exact⟨0,by omega,rfl,HW,h0⟩
 case round =>
  obtain⟨i,hi,rfl,HS,HJr⟩:=hrel
  by_cases hlt:i<l.length
  · obtain⟨x,hx⟩:∃ x,l[i]?=some x:=⟨l[i],List.getElem?_eq_getElem hlt⟩
    obtain⟨b,off,rfl,hrow⟩:=Zat H.out hx
    have Gd:=hrow.same (HS.out b (Rl.out b off rfl (Zfk (hrow i x hx 0 _ rfl))))
    have HC:Hid (∀ j v,x.cells[j]?=some v->wr.cell? ⟨b,off+i*40+j,none⟩=some v):=fun j v hv=>Gd i x hx j v hv
    have t0:wr.cell? ⟨bt,0,none⟩=some (.int .i64 t):=Boxed.cell ((HS.out bt So.out).trans HT.out)
    have HX:=hid hx
    have HF:Hid (untl (l.take (i+1)) t=untl (l.take i) t++(if x.tick<=t then [x]else [])):=by show _=_;rw[Zar HX.out,untl_snoc]
    have HA:Hid (untl l t=untl (l.take (i+1)) t++untl (l.drop (i+1)) t):=by show _=_;unfold untl;rw[<-List.filter_append,List.take_append_drop]
    have htl:bt<wr.heap.size:=Zeg ((HS.out bt So.out).trans HT.out)
    have HG:Hid (Box (wr.alloc (.cells x.cells.toArray 48)) wr.heap.size x.cells.toArray 48):=Box.new _ _ _
    have k1:=HG.out.cell 1 (.int .i64 x.tick) rfl
    have Uc:Hid (∀ j v,x.cells[j]?=some v->(wr.alloc (.cells x.cells.toArray 48)).cell? ⟨wr.heap.size,0+j,none⟩=some v):=fun j v hv=>by rw[Nat.zero_add];exact HG.out.cell j v (by simpa using hv)
    have Ag:Hid (∀ k,K k->(wr.alloc (.cells x.cells.toArray 48)).heap[k]?=w.heap[k]?):=fun k hk=>(Below.heap_alloc _ _ _ (by have h1:=HS.out k hk;have h2:=HK4.out k hk;rw[Array.getElem?_eq_getElem h2]at h1;exact Zeg h1)).trans (HS.out k hk)
    have HJX:Hid (J (untl (l.take i) t) (wr.alloc (.cells x.cells.toArray 48))):=HJ.out _ _ _ HJr.out (World.grownBy_alloc wr _ _)
    clear hrow Gd hx
    by_cases ht:x.tick<=t
    · rw[if_pos ht]at HF
      have hd:decide (x.tick<=t)=true:=decide_eq_true ht
      obtain⟨fn,tmps,assign,body,hy,hR⟩:=HY.out (untl (l.take i) t) x (untl (l.drop (i+1)) t) _ (by rw[HA.out,HF.out];simp) HJX.out
      dsimp only[En.val]at hy
      gi_wp2_with (first|(refine Zbh rfl 48 (.tmp 10) rfl b (off+i*40) x.cells rfl HC.out _ underlying48 rfl (by kernel_rfl) ?_)|(refine Zb8 rfl rfl 48 (.tmp 5) (.tmp 11) rfl rfl rfl x.cells rfl rfl (by kernel_rfl) x.cells_one ?_)|(refine wpListIn_loadG (by rfl) 48 (.tmp 5) rfl wr.heap.size 0 x.cells rfl Uc.out _ underlying48 rfl (by kernel_rfl) ?_)|(refine hR.mono ?_;rintro e W3 ⟨rfl,hJ3,Jf⟩;have J3:=hid hJ3;have K3:=hid Jf;clear hJ3 Jf))
      go_roundw
      case rel=>exact⟨i+1,by omega,by go_num,fun k hk=>(K3.out k hk).trans (Ag.out k hk),by rw[HF.out];exact J3⟩
      case measure=>simp[intOf];omega
    · rw[if_neg ht,List.append_nil]at HF
      have hd:decide (x.tick<=t)=false:=decide_eq_false ht
      gi_wp2_with (first|(refine Zbh rfl 48 (.tmp 10) rfl b (off+i*40) x.cells rfl HC.out _ underlying48 rfl (by kernel_rfl) ?_)|(refine Zb8 rfl rfl 48 (.tmp 5) (.tmp 11) rfl rfl rfl x.cells rfl rfl (by kernel_rfl) x.cells_one ?_))
      refine And.intro (fun f hf=>nomatch hf) ?_
      gi_wp2
      go_roundw
      case rel=>exact⟨i+1,by omega,by go_num,Ag,by rw[HF.out];exact HJX⟩
      case measure=>simp[intOf];omega
  · obtain rfl:i=l.length:=by omega
    gi_wp2
    go_end0
    exact⟨⟨_,rfl⟩,by have:=HJr.out;rwa [List.take_length]at this⟩
end Go.Proofs.YtfnpfkgmacaboaaGreat
namespace Go.Proofs.YtfnpfkgmacaboaaGreat
open Go.Proofs.Tryz
open Lib (hid)
open Go.ChangeShapes Go.WideShapes Go.ChangeAt Go.RowKit
set_option linter.unusedVariables false
set_option linter.unusedSimpArgs false
set_option maxRecDepth 100000
set_option maxHeartbeats 4000000
theorem ZcL {P:Program}{ops:Array Oper}{rest:List Oper}{o:Oper}{Q:Exit->Act->World->Prop}{a:Act}{w:World}(hw:Region.wanted o (yielded ops a.tmps)=true)(ty:TypeId)(x:Operand)(ho:o.op=.load ty x)(b off:Nat)(L:List Value)(hx:a.eval x=.pointer (some ⟨b,off,none⟩))(hc:∀ j v,L[j]?=some v->w.cell? ⟨b,off+j,none⟩=some v)
 (d:TypeDesc) (hu:P.underlying ty=some d) (hd:(match d with|.struct _|.array _ _=>true|_=>false)=true) (hi:(P.info? ty).map (·.size)=some L.length)
 (h:wpList P ops Q rest (a.put o.dst (.agg L.toArray)) w):wpList P ops Q (o :: rest) a w:=by
 refine Go.wpList_step fun K hK=>?_
 rw[if_pos hw]
 unfold Oper.wp execOp
 simp only[ho,hx,Instr.loadAt,Instr.sureAddr,Sem.run_bind,Sem.run_pure,Result.andThen_ok,ZaF w b off ty L d hc hu hd hi]
 exact hK _ _ h
theorem ZaU {A:Array Value}{L:List Value}{k m j:Nat}{v:Value}(hj:L[j]?=some v)(h:(A.toList.drop k).take m=L):A[k+j]?=some v:=by
 rw[<-h]at hj
 rw[List.getElem?_take]at hj
 split at hj
 · rw[List.getElem?_drop]at hj
   rw[<-Array.getElem?_toList]
   exact hj
 · cases hj
theorem Zci (a_k:Int)(a_tm:ByteArray)(a_te:ByteArray)(a_tfa:Option Addr)(a_tfn:Nat)(a_tfc:Nat)(a_tp:Int)(a_fm:ByteArray)(a_fe:ByteArray)(a_ftk:Int)(a_ftua:Option Addr)(a_ftun:Nat)(a_ftuc:Nat)(a_fto:ByteArray)(a_fbk:Int)(a_fbo:ByteArray)(a_fbm:ByteArray)(a_fbt:ByteArray)(a_fbvk:Int)(a_fbvn:Int)(a_fbvs:ByteArray)(a_fbua:Option Addr)(a_fbun:Nat)(a_fbuc:Nat)(a_fbp:Int)(a_fbwk:Int)(a_fbwz:Int)(a_fbxa:Option Addr)(a_fbxn:Nat)(a_fbxc:Nat)(a_fr:Int)(a_m:ByteArray)(b_k:Int)(b_tm:ByteArray)(b_te:ByteArray)(b_tfa:Option Addr)(b_tfn:Nat)(b_tfc:Nat)(b_tp:Int)(b_fm:ByteArray)(b_fe:ByteArray)(b_ftk:Int)(b_ftua:Option Addr)(b_ftun:Nat)(b_ftuc:Nat)(b_fto:ByteArray)(b_fbk:Int)(b_fbo:ByteArray)(b_fbm:ByteArray)(b_fbt:ByteArray)(b_fbvk:Int)(b_fbvn:Int)(b_fbvs:ByteArray)(b_fbua:Option Addr)(b_fbun:Nat)(b_fbuc:Nat)(b_fbp:Int)(b_fbwk:Int)(b_fbwz:Int)(b_fbxa:Option Addr)(b_fbxn:Nat)(b_fbxc:Nat)(b_fr:Int)(b_m:ByteArray)(w0:World)(n:Nat)(h1a_:FdsAt w0 a_tfa a_tfn)(h2a_:ZaH w0 a_ftua a_ftun)(h3a_:ExAt n w0 ⟨a_fbk,a_fbo,a_fbm,a_fbt,a_fbvk,a_fbvn,a_fbvs,a_fbua,a_fbun,a_fbuc,a_fbp,a_fbwk,a_fbwz,a_fbxa,a_fbxn,a_fbxc⟩)(h1b_:FdsAt w0 b_tfa b_tfn)(h2b_:ZaH w0 b_ftua b_ftun)(h3b_:ExAt n w0 ⟨b_fbk,b_fbo,b_fbm,b_fbt,b_fbvk,b_fbvn,b_fbvs,b_fbua,b_fbun,b_fbuc,b_fbp,b_fbwk,b_fbwz,b_fbxa,b_fbxn,b_fbxc⟩):∃ r:Bool,∀ (w:World),Below w0.heap.size w0 w->Calls prog 163 #[.agg #[.int .i64 a_k,.string a_tm,.string a_te,.slice a_tfa a_tfn a_tfc,.int .i64 a_tp,.string a_fm,.string a_fe,.int .i64 a_ftk,.slice a_ftua a_ftun a_ftuc,.string a_fto,.int .i64 a_fbk,.string a_fbo,.string a_fbm,.string a_fbt,.int .i64 a_fbvk,.int .i64 a_fbvn,.string a_fbvs,.slice a_fbua a_fbun a_fbuc,.int .i64 a_fbp,.int .i64 a_fbwk,.int .i64 a_fbwz,.slice a_fbxa a_fbxn a_fbxc,.int .i64 a_fr,.string a_m],.agg #[.int .i64 b_k,.string b_tm,.string b_te,.slice b_tfa b_tfn b_tfc,.int .i64 b_tp,.string b_fm,.string b_fe,.int .i64 b_ftk,.slice b_ftua b_ftun b_ftuc,.string b_fto,.int .i64 b_fbk,.string b_fbo,.string b_fbm,.string b_fbt,.int .i64 b_fbvk,.int .i64 b_fbvn,.string b_fbvs,.slice b_fbua b_fbun b_fbuc,.int .i64 b_fbp,.int .i64 b_fbwk,.int .i64 b_fbwz,.slice b_fbxa b_fbxn b_fbxc,.int .i64 b_fr,.string b_m]] w (RetB r w):=by
 obtain⟨us,rfl,hus⟩:=h2a_.is
 obtain⟨vs,rfl,hvs⟩:=h2b_.is
 obtain⟨rt,h5⟩:=ZdN a_tm a_te a_tfa a_tfn a_tfc a_tp b_tm b_te b_tfa b_tfn b_tfc b_tp w0 h1a_ h1b_
 obtain⟨rf,h6⟩:=ZcS a_fm a_fe a_ftk a_ftua a_ftuc a_fto a_fbk a_fbo a_fbm a_fbt a_fbvk a_fbvn a_fbvs a_fbua a_fbun a_fbuc a_fbp a_fbwk a_fbwz a_fbxa a_fbxn a_fbxc a_fr b_fm b_fe b_ftk b_ftua b_ftuc b_fto b_fbk b_fbo b_fbm b_fbt b_fbvk b_fbvn b_fbvs b_fbua b_fbun b_fbuc b_fbp b_fbwk b_fbwz b_fbxa b_fbxn b_fbxc b_fr us vs w0 n h3a_ h3b_
 have Hrt:=hid h5
 have Hrf:=hid h6
 clear h5 h6 h1a_ h1b_ h3a_ h3b_ h2a_ h2b_
 obtain⟨ek,hek⟩:∃ q,(a_k==b_k)=q:=⟨_,rfl⟩
 obtain⟨em,hem⟩:∃ q,(a_m.toList==b_m.toList)=q:=⟨_,rfl⟩
 obtain⟨R,hR⟩:∃ R,R=(ek&&(em&&(rt&&rf))):=⟨_,rfl⟩
 have HR:=hid hR
 clear hR
 refine⟨R,fun w hw=>?_⟩
 have HA:=hid (hus.kept hw)
 have HB:=hid (hvs.kept hw)
 have Ja:=hid hw
 clear hus hvs hw
 go_enter func163,ntmps163
 go_upto_region 1 with fail
 refine gen2 (fun V B0 B1 Aa=>?_)
 have Ga:Hid (Below w0.heap.size w0 V):=Ja.out.trans (Aa.out.mono Ja.out.size)
 have HS:Hid (∀ w',Below V.heap.size V w'->w'.cell? ⟨w.heap.size,0,none⟩=some (.int .i64 a_k)/\w'.cell? ⟨w.heap.size,1,none⟩=some (.string a_tm)/\w'.cell? ⟨w.heap.size,2,none⟩=some (.string a_te)/\w'.cell? ⟨w.heap.size,3,none⟩=some (.slice a_tfa a_tfn a_tfc)/\w'.cell? ⟨w.heap.size,4,none⟩=some (.int .i64 a_tp)/\w'.cell? ⟨w.heap.size,23,none⟩=some (.string a_m)/\w'.cell? ⟨w.heap.size+1,0,none⟩=some (.int .i64 b_k)/\w'.cell? ⟨w.heap.size+1,1,none⟩=some (.string b_tm)/\w'.cell? ⟨w.heap.size+1,2,none⟩=some (.string b_te)/\w'.cell? ⟨w.heap.size+1,3,none⟩=some (.slice b_tfa b_tfn b_tfc)/\w'.cell? ⟨w.heap.size+1,4,none⟩=some (.int .i64 b_tp)/\w'.cell? ⟨w.heap.size+1,23,none⟩=some (.string b_m)):=fun w' h=>⟨(B0.out.kept h).cell 0 _ rfl,(B0.out.kept h).cell 1 _ rfl,(B0.out.kept h).cell 2 _ rfl,(B0.out.kept h).cell 3 _ rfl,(B0.out.kept h).cell 4 _ rfl,(B0.out.kept h).cell 23 _ rfl,(B1.out.kept h).cell 0 _ rfl,(B1.out.kept h).cell 1 _ rfl,(B1.out.kept h).cell 2 _ rfl,(B1.out.kept h).cell 3 _ rfl,(B1.out.kept h).cell 4 _ rfl,(B1.out.kept h).cell 23 _ rfl⟩
 have Yo:Hid (∀ w',Below V.heap.size V w'->∀ (j:Nat) (v:Value),([.string a_fm,.string a_fe,.int .i64 a_ftk,.slice a_ftua us.length a_ftuc,.string a_fto,.int .i64 a_fbk,.string a_fbo,.string a_fbm,.string a_fbt,.int .i64 a_fbvk,.int .i64 a_fbvn,.string a_fbvs,.slice a_fbua a_fbun a_fbuc,.int .i64 a_fbp,.int .i64 a_fbwk,.int .i64 a_fbwz,.slice a_fbxa a_fbxn a_fbxc,.int .i64 a_fr]:List Value)[j]?=some v->w'.cell? ⟨w.heap.size,5+j,none⟩=some v):=fun w' h j v hj=>(B0.out.kept h).cell (5+j) v (ZaU (k:=5) (m:=18) hj rfl)
 have Ha:Hid (∀ w',Below V.heap.size V w'->∀ (j:Nat) (v:Value),([.string b_fm,.string b_fe,.int .i64 b_ftk,.slice b_ftua vs.length b_ftuc,.string b_fto,.int .i64 b_fbk,.string b_fbo,.string b_fbm,.string b_fbt,.int .i64 b_fbvk,.int .i64 b_fbvn,.string b_fbvs,.slice b_fbua b_fbun b_fbuc,.int .i64 b_fbp,.int .i64 b_fbwk,.int .i64 b_fbwz,.slice b_fbxa b_fbxn b_fbxc,.int .i64 b_fr]:List Value)[j]?=some v->w'.cell? ⟨w.heap.size+1,5+j,none⟩=some v):=fun w' h j v hj=>(B1.out.kept h).cell (5+j) v (ZaU (k:=5) (m:=18) hj rfl)
 have Qf:Hid (∀ w',Below V.heap.size V w'->UnIs w' a_ftua us):=fun w' h=>(HA.out.kept Aa.out).kept h
 have Zg:Hid (∀ w',Below V.heap.size V w'->UnIs w' b_ftua vs):=fun w' h=>(HB.out.kept Aa.out).kept h
 obtain⟨Xa,Va,Ua,Rb,Vb,Bi,Oc,Nc,Mc,Gq,Fq,Em⟩:=HS.out V (ZR V)
 go_wp2_with (first|(refine ZcL (by rfl) 44 (.tmp 25) rfl w.heap.size 5 [.string a_fm,.string a_fe,.int .i64 a_ftk,.slice a_ftua us.length a_ftuc,.string a_fto,.int .i64 a_fbk,.string a_fbo,.string a_fbm,.string a_fbt,.int .i64 a_fbvk,.int .i64 a_fbvn,.string a_fbvs,.slice a_fbua a_fbun a_fbuc,.int .i64 a_fbp,.int .i64 a_fbwk,.int .i64 a_fbwz,.slice a_fbxa a_fbxn a_fbxc,.int .i64 a_fr] rfl (fun j v hj=>Yo.out _ bt j v hj) _ underlying44 rfl (by kernel_rfl) ?_)|(refine ZcL (by rfl) 44 (.tmp 27) rfl (w.heap.size+1) 5 [.string b_fm,.string b_fe,.int .i64 b_ftk,.slice b_ftua vs.length b_ftuc,.string b_fto,.int .i64 b_fbk,.string b_fbo,.string b_fbm,.string b_fbt,.int .i64 b_fbvk,.int .i64 b_fbvn,.string b_fbvs,.slice b_fbua b_fbun b_fbuc,.int .i64 b_fbp,.int .i64 b_fbwk,.int .i64 b_fbwz,.slice b_fbxa b_fbxn b_fbxc,.int .i64 b_fr] rfl (fun j v hj=>Ha.out _ bt j v hj) _ underlying44 rfl (by kernel_rfl) ?_)|(go_at_call 157;refine(Hrt.out _ (Ga.out.trans (Below.mono bt Ga.out.size))).mono ?_;rintro e w' ⟨rfl,hb⟩;have HW:Hid (Below V.heap.size V w'):=ZT bt hb;clear hb;have KK:=HS.out _ HW.out;obtain⟨Xa,Va,Ua,Rb,Vb,Bi,Oc,Nc,Mc,Gq,Fq,Em⟩:=KK;cases rt)|(go_at_call 158;refine(Hrf.out _ (Ga.out.trans (Below.mono bt Ga.out.size)) (Qf.out _ bt) (Zg.out _ bt)).mono ?_;rintro e w' ⟨rfl,hb⟩;have HW:Hid (Below V.heap.size V w'):=ZT bt hb;clear hb;have KK:=HS.out _ HW.out;obtain⟨Xa,Va,Ua,Rb,Vb,Bi,Oc,Nc,Mc,Gq,Fq,Em⟩:=KK;cases rf)|fail)
 all_goals
  go_ret
  exact RetB.of (by have hR:=HR.out;simp_all<;>grind) (ZT Aa.out bt)
theorem Zbk (g off:Nat):∀ (L:List Value) (i:Nat),storeCells ⟨g,off,none⟩ L i=storeCells ⟨g,0,none⟩ L (off+i)
 |[],i=>rfl
 |v :: L,i=>by
  unfold storeCells
  rw[Zbk g off L (i+1),ZbE,ZbE,Nat.zero_add,Nat.add_assoc]
theorem Zea {P:Program}(w:World)(g off:Nat)(t ty:TypeId)(cur:Array Value)(L:List Value)(hg:w.heap[g]?=some (.cells cur t (0,0)))(hi:(P.info? ty).map (·.size)=some L.length)
 (hs:off+L.length=cur.size) (h1:∀ v∈L,v.oneCell'=true):(storeVar ty ⟨g,off,none⟩ (.agg L.toArray)).run P w=.ok () (w.setRow g (cur.toList.take off++L).toArray):=by
 have:=run_storeCells_from (P:=P) g t L off cur w hg hs h1
 rw[<-Nat.add_zero off,<-Zbk g off L 0,Nat.add_zero]at this
 cases hq:P.info? ty with
 |none=>simp[hq]at hi
 |some i =>
  have hs:i.size=L.length:=by simp[hq]at hi;omega
  simp[storeVar,sizeOf,typeInfo,hq,Value.cells,hs,this]
section
variable {F:Fence} {n:Nat} {P:Program} {ops:Array Oper} {rest:List Oper} {o:Oper} {a:Act} {w:World} {Q:Exit->Act->World->Prop}
theorem ZdB (hgd:o.guard=none)(ty:TypeId)(x y:Operand)(ho:o.op=.store ty x y)(hd:o.dst=none)(g off:Nat)(t:TypeId)(cur:Array Value)(L:List Value)(hx:a.eval x=.pointer (some ⟨g,off,none⟩))(hy:a.eval y=.agg L.toArray)
 (hg:w.heap[g]?=some (.cells cur t (0,0))) (hi:(P.info? ty).map (·.size)=some L.length) (hs:off+L.length=cur.size) (h1:∀ v∈L,v.oneCell'=true)
 (h:wpListIn F n P ops Q rest a (w.setRow g (cur.toList.take off++L).toArray)):wpListIn F n P ops Q (o :: rest) a w:=by
 refine wpListIn_plain hgd fun K hK=>?_
 unfold Oper.wpIn
 refine⟨by simp[Oper.about,ho],?_⟩
 rw[Oper.semAt_plain F _ _ (by rw[ho];intro c hc';cases hc')]
 unfold execOp
 simp only[ho,hx,hy,Instr.storeAt,Instr.sureAddr,Sem.run_bind,Sem.run_pure,Result.andThen_ok,Zea w g off t ty cur L hg hi hs h1]
 refine hK _ _ ?_
 rw[hd]
 exact h
variable {kt:TypeId} {κ:Type} [DecidableEq κ] {Z:Keyz P kt κ} {b m cnt:Nat} {β:Type} {mkV:β->Value} {T:κ->Option β}
theorem wpListIn_look (hgd:o.guard=none)(mm x:Operand)(t:TypeId)(hop:o.op=Op.lookup t mm x false)(e:TypeId)(ht:P.underlying t=some (.map kt e)){z:Value}(hz:(zeroValue e).run P w=.ok z w)
 (hm:a.eval mm=.map (some b)) (h:Tab w Z b m (tabV T mkV)) (k:κ) (hx:a.eval x=Z.val k) (hk:Z.ok k) (v:Value) (hv:((T k).map mkV).getD z=v)
 (hK:wpListIn F n P ops Q rest (a.put o.dst v) w):wpListIn F n P ops Q (o :: rest) a w:=by
 refine wpListIn_plain hgd fun K' hK'=>?_
 have hrun:=h.look ht hz hk
 rw[show((tabV T mkV) k).getD z=v from hv]at hrun
 unfold Oper.wpIn
 refine⟨by simp[Oper.about,hop],?_⟩
 rw[Oper.semAt_plain F _ _ (by rw[hop];intro c hc';cases hc')]
 simp[execOp,hop,hm,hx,hrun,Result.andThen]
 exact hK' _ _ hK
theorem ZdC (hgd:o.guard=none)(mm x v:Operand)(t:TypeId)(hop:o.op=Op.mapUpdate t mm x v)(e:TypeId)(ht:P.underlying t=some (.map kt e))
 (hm:a.eval mm=.map (some b)) (h:Tab w Z b m (tabV T mkV)) (hn:m<maxLen) (k:κ) (hx:a.eval x=Z.val k) (hk:Z.ok k) (d:β) (hv:a.eval v=mkV d)
 (hK:∀ w',Tab w' Z b (m+1) (tabV (putF T k d) mkV)->w.grownBy w' (some b)->wpListIn F n P ops Q rest (a.put o.dst undef) w'):wpListIn F n P ops Q (o :: rest) a w:=by
 refine wpListIn_plain hgd fun K' hK'=>?_
 obtain⟨w',hrun,r1,r2⟩:=h.store ht hn hk (mkV d)
 rw[putT_tabV]at r1
 unfold Oper.wpIn
 refine⟨by simp[Oper.about,hop],?_⟩
 rw[Oper.semAt_plain F _ _ (by rw[hop];intro c hc';cases hc')]
 simp[execOp,hop,hm,hx,hv,hrun,Result.andThen]
 exact hK' _ _ (hK w' r1 r2)
end
theorem Box.setRow {w:World}{g:Nat}{cs:Array Value}{t:TypeId}(h:Box w g cs t)(new:Array Value):Box (w.setRow g new) g new t:=setRow_heap w g cs new t _ h
theorem Tab.setRow {P:Program}{kt:TypeId}{κ:Type} [DecidableEq κ] {Z:Keyz P kt κ}{w:World}{b m:Nat}{T:κ->Option Value}(h:Tab w Z b m T){g:Nat}(hg:b≠g)(new:Array Value):Tab (w.setRow g new) Z b m T :=
 h.grown (row:=some g) ⟨rfl,rfl,rfl,by simp,fun k hk hne=>by unfold World.setRow;simp only[Array.getElem?_modify];rw[if_neg (fun e=>hne (by rw[e]))]⟩ (fun e=>hg (by injection e))
def putC:Array Value->Nat->List Value->Array Value
 |cur,_,[]=>cur
 |cur,i,v :: vs=>putC (cur.setIfInBounds i v) (i+1) vs
theorem setRow_self (w:World)(g:Nat)(cur:Array Value)(t:TypeId)(hg:w.heap[g]?=some (.cells cur t (0,0))):w.setRow g cur=w:=by
 have hlt:g<w.heap.size:=(Array.getElem?_eq_some_iff.1 hg).1
 have hv:w.heap[g]=.cells cur t (0,0):=(Array.getElem?_eq_some_iff.1 hg).2
 unfold World.setRow
 cases w with
 |mk heap tape drawn os output =>
  congr 1
  apply Array.ext
  · simp
  · intro k h1 h2
    simp only[Array.getElem_modify]
    split
    · rename_i hk;subst hk;simp at hv;simp[hv]
    · rfl
theorem Zbt {P:Program}(g:Nat)(t:TypeId):∀ (vs:List Value) (i:Nat) (cur:Array Value) (w:World),w.heap[g]?=some (.cells cur t (0,0))->i+vs.length<=cur.size->(∀ v∈vs,v.oneCell'=true) ->
 (storeCells ⟨g,0,none⟩ vs i).run P w=.ok () (w.setRow g (putC cur i vs))
 |[],i,cur,w,hg,hl,_=>by
  show Result.ok () w=.ok () (w.setRow g cur)
  rw[setRow_self w g cur t hg]
 |v :: rest,i,cur,w,hg,hl,h1=>by
  have hi:i<cur.size:=by simp at hl;omega
  have hadd:(⟨g,0,none⟩:Addr).add i=⟨g,i,none⟩:=by unfold Addr.add;split<;>simp_all
  have hcell:w.cell? ⟨g,i,none⟩=some cur[i]:=by simp[World.cell?,hg,hi]
  have hfro:w.frozen? ⟨g,i,none⟩=false:=by simp[World.frozen?,hg]
  have hst:(store ((⟨g,0,none⟩:Addr).add i) v).run P w=.ok () (w.setRow g (cur.setIfInBounds i v)):=by
   rw[hadd,run_store P w _ v _ (h1 v (by simp)),hcell]
   simp[hfro,setCell_eq_setRow w g i cur t (0,0) v hg]
  have ih:=Zbt (P:=P) g t rest (i+1) (cur.setIfInBounds i v) (w.setRow g (cur.setIfInBounds i v)) (setRow_heap w g cur _ t _ hg) (by simp at hl ⊢;omega) (fun x hx=>h1 x (by simp[hx]))
  simp only[storeCells,Sem.run_bind,hst,Result.andThen_ok,ih,setRow_setRow,putC]
theorem Zbl {P:Program}(w:World)(g off:Nat)(t ty:TypeId)(cur:Array Value)(L:List Value)(hg:w.heap[g]?=some (.cells cur t (0,0)))(hi:(P.info? ty).map (·.size)=some L.length)
 (hs:off+L.length<=cur.size) (h1:∀ v∈L,v.oneCell'=true):(storeVar ty ⟨g,off,none⟩ (.agg L.toArray)).run P w=.ok () (w.setRow g (putC cur off L)):=by
 have:=Zbt (P:=P) g t L off cur w hg hs h1
 rw[<-Nat.add_zero off,<-Zbk g off L 0,Nat.add_zero]at this
 cases hq:P.info? ty with
 |none=>simp[hq]at hi
 |some i =>
  have hs:i.size=L.length:=by simp[hq]at hi;omega
  simp[storeVar,sizeOf,typeInfo,hq,Value.cells,hs,this]
theorem ZbH {B:Nat}{w w1:World}(h:Below B w w1){g:Nat}(hg:B<=g)(cs:Array Value):Below B w (w1.setRow g cs) :=
 ⟨h.os,h.tape,h.output,by rw[setRow_size];exact h.size,fun k hk=>by rw[setRow_other w1 g k cs (by omega)];exact h.block k hk⟩
theorem ZbT {P:Program}{ops:Array Oper}{rest:List Oper}{o:Oper}{Q:Exit->Act->World->Prop}{a:Act}{w:World}(hgd:o.guard=none)(ty:TypeId)(x y:Operand)(ho:o.op=.store ty x y)(hd:o.dst=none)(g off:Nat)(t:TypeId)(cur:Array Value)(L:List Value)
 (hx:a.eval x=.pointer (some ⟨g,off,none⟩)) (hy:a.eval y=.agg L.toArray) (hg:Box w g cur t) (hi:(P.info? ty).map (·.size)=some L.length) (hs:off+L.length<=cur.size) (h1:(L.all (·.oneCell'))=true) (w0:World) (hB:Below w0.heap.size w0 w) (hBg:w0.heap.size<=g)
 (h:∀ w',Box w' g (putC cur off L) t->Below w0.heap.size w0 w'->wpList P ops Q rest a w'):wpList P ops Q (o :: rest) a w:=by
 refine wpList_plain hgd fun K hK=>?_
 unfold Oper.wp execOp
 simp only[ho,hx,hy,Instr.storeAt,Instr.sureAddr,Sem.run_bind,Sem.run_pure,Result.andThen_ok,Zbl w g off t ty cur L hg hi hs (List.all_eq_true.1 h1)]
 refine hK _ _ ?_
 rw[hd]
 exact h _ (Box.setRow hg _) (ZbH hB hBg _)
section
variable {P:Program} {ops:Array Oper} {rest:List Oper} {a:Act} {w:World} {Q:Exit->Act->World->Prop} {d:Option Tmp} {ty:TypeId} {pos:String} {after:Array Edge} {g:Option (Nat × Bool)}
theorem Zaq (t:TypeId){parts:Array (Nat × Operand)}(h:wpList P ops Q (⟨d,.build t parts,ty,pos,after,g⟩ :: rest) a w):wpList P ops Q (⟨d,.build t parts,ty,pos,after,g⟩ :: rest) a w:=h
theorem Zaf (t:TypeId){x y:Operand}(h:wpList P ops Q (⟨d,.store t x y,ty,pos,after,g⟩ :: rest) a w):wpList P ops Q (⟨d,.store t x y,ty,pos,after,g⟩ :: rest) a w:=h
theorem Zah (t:TypeId){x:Operand}(h:wpList P ops Q (⟨d,.load t x,ty,pos,after,g⟩ :: rest) a w):wpList P ops Q (⟨d,.load t x,ty,pos,after,g⟩ :: rest) a w:=h
theorem ZaK (t:TypeId)(h:wpList P ops Q (⟨d,.alloc t,ty,pos,after,g⟩ :: rest) a w):wpList P ops Q (⟨d,.alloc t,ty,pos,after,g⟩ :: rest) a w:=h
end
theorem Ze6:∀ (vs:List Value) (cur:Array Value) (i:Nat),i+vs.length<=cur.size->(putC cur i vs).toList=cur.toList.take i++vs++cur.toList.drop (i+vs.length)
 |[],cur,i,_=>by simp[putC]
 |v :: vs,cur,i,h=>by
  have hi:i<cur.toList.length:=by simp at h ⊢;omega
  rw[putC,Ze6 vs _ (i+1) (by simp at h ⊢;omega),Array.toList_setIfInBounds]
  simp only[List.length_cons]
  rw[List.take_set,List.drop_set,if_pos (by omega),List.take_succ_eq_append_getElem (by simpa using hi)]
  rw[List.set_append_right _ _ (by simp;omega),List.length_take,Nat.min_eq_left (by omega),Nat.sub_self]
  simp only[List.set_cons_zero,List.append_assoc,List.singleton_append,List.cons_append,List.nil_append]
  rw[show i+1+vs.length=i+(vs.length+1) by omega]
theorem putC_all (cur:Array Value)(L:List Value)(h:L.length=cur.size):putC cur 0 L=L.toArray:=by
 apply Array.ext'
 rw[Ze6 L cur 0 (by omega)]
 simp[h]
section
variable {P:Program} {ops:Array Oper} {rest:List Oper} {o:Oper} {a:Act} {w:World} {Q:Exit->Act->World->Prop}
theorem Za1 (hgd:o.guard=none)(ty:TypeId)(x:Operand)(ho:o.op=.load ty x)(b off:Nat)(L:List Value)(hx:a.eval x=.pointer (some ⟨b,off,none⟩))(hc:∀ j v,L[j]?=some v->w.cell? ⟨b,off+j,none⟩=some v)
 (d:TypeDesc) (hu:P.underlying ty=some d) (hd:(match d with|.struct _|.array _ _=>true|_=>false)=true) (hi:(P.info? ty).map (·.size)=some L.length)
 (h:∀ v,Hid (v=.agg L.toArray)->wpList P ops Q rest (a.put o.dst v) w):wpList P ops Q (o :: rest) a w :=
 Zal hgd ty x ho b off L hx hc d hu hd hi (h _ rfl)
theorem Za6 (hgd:o.guard=none)(ty:TypeId)(x:Operand)(ho:o.op=.load ty x)(g:Nat)(L:List Value)(t:TypeId)(hx:a.eval x=.pointer (some ⟨g,0,none⟩))(hB:Box w g L.toArray t)
 (d:TypeDesc) (hu:P.underlying ty=some d) (hd:(match d with|.struct _|.array _ _=>true|_=>false)=true) (hi:(P.info? ty).map (·.size)=some L.length)
 (h:∀ v,Hid (v=.agg L.toArray)->wpList P ops Q rest (a.put o.dst v) w):wpList P ops Q (o :: rest) a w :=
 Za1 hgd ty x ho g 0 L hx (fun j v hj=>by rw[Nat.zero_add];exact hB.cell j v (by rw[List.getElem?_toArray];exact hj)) d hu hd hi h
end
section
variable {P:Program} {ops:Array Oper} {rest:List Oper} {o:Oper} {a:Act} {w:World} {Q:Exit->Act->World->Prop}
theorem LV (b off:Nat)(L:List Value){ty:TypeId}{x:Operand}(hc:∀ j v,L[j]?=some v->w.cell? ⟨b,off+j,none⟩=some v)(h:wpList P ops Q rest (a.put o.dst (.agg L.toArray)) w)(hgd:o.guard=none:=by exact rfl)(ho:o.op=.load ty x:=by exact rfl)
 (hx:a.eval x=.pointer (some ⟨b,off,none⟩):=by exact rfl) (hu:(P.underlying ty).any (fun d=>match d with|.struct _|.array _ _=>true|_=>false)=true:=by kernel_rfl) (hi:(P.info? ty).map (·.size)=some L.length:=by kernel_rfl):wpList P ops Q (o :: rest) a w:=by
 cases hd:P.underlying ty with
 |none=>rw[hd]at hu;cases hu
 |some d =>
  rw[hd]at hu
  exact Zal hgd ty x ho b off L hx hc d hd (by cases d<;>first|rfl|cases hu) hi h
theorem LB {g:Nat}{L:List Value}{t:TypeId}{ty:TypeId}{x:Operand}(hB:Box w g L.toArray t)(h:wpList P ops Q rest (a.put o.dst (.agg L.toArray)) w)(hgd:o.guard=none:=by exact rfl)(ho:o.op=.load ty x:=by exact rfl)
 (hx:a.eval x=.pointer (some ⟨g,0,none⟩):=by exact rfl) (hu:(P.underlying ty).any (fun d=>match d with|.struct _|.array _ _=>true|_=>false)=true:=by kernel_rfl) (hi:(P.info? ty).map (·.size)=some L.length:=by kernel_rfl):wpList P ops Q (o :: rest) a w :=
 LV g 0 L (fun j v hj=>by rw[Nat.zero_add];exact hB.cell j v (by rw[List.getElem?_toArray];exact hj)) h hgd ho hx hu hi
end
section
variable {P:Program} {ops:Array Oper} {rest:List Oper} {o:Oper} {a:Act} {w:World} {Q:Exit->Act->World->Prop}
theorem ZaE (hgd:o.guard=none)(ty:TypeId)(x y:Operand)(ho:o.op=.store ty x y)(hd:o.dst=none)(g:Nat)(t:TypeId)(cur:Array Value)(L:List Value)
 (hx:a.eval x=.pointer (some ⟨g,0,none⟩)) (hy:a.eval y=.agg L.toArray) (hg:Box w g cur t) (hi:(P.info? ty).map (·.size)=some L.length) (hs:L.length=cur.size) (h1:(L.all (·.oneCell'))=true) (w0:World) (hB:Below w0.heap.size w0 w) (hBg:w0.heap.size<=g)
 (h:∀ w',Box w' g L.toArray t->Below w0.heap.size w0 w'->(∀ k,k≠g->w'.heap[k]?=w.heap[k]?)->wpList P ops Q rest a w'):wpList P ops Q (o :: rest) a w:=by
 refine wpList_plain hgd fun K hK=>?_
 unfold Oper.wp execOp
 simp only[ho,hx,hy,Instr.storeAt,Instr.sureAddr,Sem.run_bind,Sem.run_pure,Result.andThen_ok,Zbl w g 0 t ty cur L hg hi (by omega) (List.all_eq_true.1 h1)]
 refine hK _ _ ?_
 rw[hd,putC_all cur L hs]
 exact h _ (Box.setRow hg _) (ZbH hB hBg _) (fun k hk=>setRow_other _ _ _ _ hk)
theorem SB {g:Nat}{t:TypeId}{cur:Array Value}{L:List Value}{ty:TypeId}{x y:Operand}(hg:Box w g cur t)(w0:World)(hB:Below w0.heap.size w0 w)(h:∀ w',Box w' g L.toArray t->Below w0.heap.size w0 w'->(∀ k,k≠g->w'.heap[k]?=w.heap[k]?)->wpList P ops Q rest a w')(hgd:o.guard=none:=by exact rfl)
 (ho:o.op=.store ty x y:=by exact rfl) (hd:o.dst=none:=by exact rfl) (hx:a.eval x=.pointer (some ⟨g,0,none⟩):=by exact rfl) (hy:a.eval y=.agg L.toArray:=by first|exact(by assumption:Hid (_=_)).out|exact rfl) (hi:(P.info? ty).map (·.size)=some L.length:=by kernel_rfl) (hs:L.length=cur.size:=by rfl) (h1:(L.all (·.oneCell'))=true:=by rfl) (hBg:w0.heap.size<=g:=by omega):wpList P ops Q (o :: rest) a w :=
 ZaE hgd ty x y ho hd g t cur L hx hy hg hi hs h1 w0 hB hBg h
theorem Zae (hgd:o.guard=none)(ty:TypeId)(parts:Array (Nat × Operand))(ho:o.op=.build ty parts)(L:List Value)
 (hr:∀ w,(Instr.build ty (parts.map fun(i,x)=>(i,a.eval x))).run P w=.ok (.agg L.toArray) w)
 (h:∀ v,Hid (v=.agg L.toArray)->wpList P ops Q rest (a.put o.dst v) w):wpList P ops Q (o :: rest) a w:=by
 refine wpList_plain hgd fun K hK=>?_
 unfold Oper.wp execOp
 simp only[ho]
 rw[Sem.run_bind,hr]
 exact hK _ _ (h _ rfl)
theorem Zbe {o1 o2:Oper}(He:o1.guard=none)(Ye:o2.guard=none)(ty:TypeId)(x y:Operand)(h1:o1.op=.alloc ty)(h2:o2.op=.store ty x y)(hd:o2.dst=none)(L:List Value)
 (hx:(a.put o1.dst (.pointer (some ⟨w.heap.size,0,none⟩))).eval x=.pointer (some ⟨w.heap.size,0,none⟩)) (hy:(a.put o1.dst (.pointer (some ⟨w.heap.size,0,none⟩))).eval y=.agg L.toArray)
 (hi:(P.info? ty).map (fun i=>(i.zero.map (fun z=>z.cells.size),i.size))=some (some L.length,L.length)) (hone:(L.all (·.oneCell'))=true) (w0:World) (hB:Below w0.heap.size w0 w)
 (h:∀ w',Box w' w.heap.size L.toArray ty->Below w0.heap.size w0 w'->Below w.heap.size w w'->wpList P ops Q rest (a.put o1.dst (.pointer (some ⟨w.heap.size,0,none⟩))) w'):wpList P ops Q (o1 :: o2 :: rest) a w :=
 Zba He Ye ty x y h1 h2 hd L hx hy hi (List.all_eq_true.1 hone) (h _ (Box.new _ _ _) (hB.alloc hB.size _) (Zab _))
end
section
variable {P:Program} {fn:Func} {tmps:Array Value} {w:World} {s u:Tmp} {ty:TypeId}
theorem results_box {t:TypeId}{g:Nat}{L:List Value}{d:TypeDesc}(h:fn.results=#[.cell s ty])(hs:tmps.getD s undef=.pointer (some ⟨g,0,none⟩))(hB:Box w g L.toArray t)
 (hu:P.underlying ty=some d) (hd:(match d with|.struct _|.array _ _=>true|_=>false)=true) (hi:(P.info? ty).map (·.size)=some L.length):(results fn tmps).run P w=.ok (.agg L.toArray) w:=by
 have hl:=ZaF (P:=P) w g 0 ty L d (fun j v hj=>by rw[Nat.zero_add];exact hB.cell j v (by rw[List.getElem?_toArray];exact hj)) hu hd hi
 have hs':tmps[s]?.getD undef=.pointer (some ⟨g,0,none⟩):=by simpa using hs
 simp[results,h,hs',asAddr,hl,Result.andThen]
theorem results_box2 {t:TypeId}{g:Nat}{L:List Value}{d:TypeDesc}(h:fn.results=#[.cell s ty,.tmp u])(hs:tmps.getD s undef=.pointer (some ⟨g,0,none⟩))(hB:Box w g L.toArray t)
 (hu:P.underlying ty=some d) (hd:(match d with|.struct _|.array _ _=>true|_=>false)=true) (hi:(P.info? ty).map (·.size)=some L.length):(results fn tmps).run P w=.ok (.tuple #[.agg L.toArray,tmps.getD u undef]) w:=by
 have hl:=ZaF (P:=P) w g 0 ty L d (fun j v hj=>by rw[Nat.zero_add];exact hB.cell j v (by rw[List.getElem?_toArray];exact hj)) hu hd hi
 have hs':tmps[s]?.getD undef=.pointer (some ⟨g,0,none⟩):=by simpa using hs
 simp[results,h,hs',asAddr,hl,Result.andThen]
end
theorem rb1 {P:Program}{fn:Func}{Q:Ending->World->Prop}{a:Act}{w:World}{s:Tmp}{ty t:TypeId}{g:Nat}{L:List Value}(hB:Box w g L.toArray t)(h:Q (.returned (.agg L.toArray)) w)(hf:fn.results=#[.cell s ty]:=by exact rfl)(hs:a.tmps.getD s undef=.pointer (some ⟨g,0,none⟩):=by exact rfl)
 (hu:(P.underlying ty).any (fun d=>match d with|.struct _|.array _ _=>true|_=>false)=true:=by kernel_rfl) (hi:(P.info? ty).map (·.size)=some L.length:=by kernel_rfl) (hd:a.defers=[]:=by exact rfl):bodyPost P fn Q .ret a w:=by
 cases hq:P.underlying ty with
 |none=>rw[hq]at hu;cases hu
 |some d =>
  rw[hq]at hu
  exact bodyPost_ret (results_box hf hs hB hq (by cases d<;>first|rfl|cases hu) hi) hd h
theorem rb2 {P:Program}{fn:Func}{Q:Ending->World->Prop}{a:Act}{w:World}{s u:Tmp}{ty t:TypeId}{g:Nat}{L:List Value}(hB:Box w g L.toArray t)(h:Q (.returned (.tuple #[.agg L.toArray,a.tmps.getD u undef])) w)(hf:fn.results=#[.cell s ty,.tmp u]:=by exact rfl)(hs:a.tmps.getD s undef=.pointer (some ⟨g,0,none⟩):=by exact rfl)
 (hu:(P.underlying ty).any (fun d=>match d with|.struct _|.array _ _=>true|_=>false)=true:=by kernel_rfl) (hi:(P.info? ty).map (·.size)=some L.length:=by kernel_rfl) (hd:a.defers=[]:=by exact rfl):bodyPost P fn Q .ret a w:=by
 cases hq:P.underlying ty with
 |none=>rw[hq]at hu;cases hu
 |some d =>
  rw[hq]at hu
  exact bodyPost_ret (results_box2 hf hs hB hq (by cases d<;>first|rfl|cases hu) hi) hd h
end Go.Proofs.YtfnpfkgmacaboaaGreat
