/- Texts joined by a program. -/
import Derived.Test.YtfnpfkgmacaboaaGreatM28
namespace Go.Proofs.YtfnpfkgmacaboaaGreat
open Go.ChangeShapes Go.WideShapes Go.ChangeAt Go.RowKit Go.Maps
set_option linter.unusedVariables false
set_option linter.unusedSimpArgs false
abbrev s1:FID:=(⟨#[115]⟩,1)
def row1 (a:Option Addr):Rw:=⟨⟨#[115]⟩,1,⟨#[116]⟩,⟨#[117]⟩,3,a,1,2,5,[(2,0,⟨#[]⟩)]⟩
def row2 (a:Option Addr):Rw:=⟨⟨#[115]⟩,1,⟨#[116]⟩,⟨#[117]⟩,3,a,1,3,9,[(2,1,⟨#[]⟩)]⟩
theorem effIs_one {l:List En}{t:Int}{r:Rw}(h:∀ k,effF l t k=if eqF k (r.src,r.seq)=true then some r else none):EffIs l t [r]:=by
 refine⟨List.pairwise_singleton _ _,fun x hx=>?_,fun k x hx=>?_⟩
 · simp at hx
   subst hx
   rw[h,if_pos (ZaW.2 rfl)]
 · rw[h]at hx
   split at hx
   · injection hx with hx;simp[hx]
   · cases hx
theorem effIs_none {l:List En}{t:Int}(h:∀ k,effF l t k=none):EffIs l t [] :=
 ⟨List.Pairwise.nil,fun x hx=>(by cases hx),fun k x hx=>(by rw[h]at hx;cases hx)⟩
theorem base2 (a:Option Addr)(t:Int):(scE a 1 t).base=s1:=by simp[scE,En.base,baseF]
theorem base3 (a:Option Addr)(t:Int):(scE a 2 t).base=s1:=by simp[scE,En.base,baseF]
theorem sc0_kind (a:Option Addr):(sc0 a).kind=3:=rfl
theorem sc0_tick (a:Option Addr):(sc0 a).tick=0:=rfl
theorem Zcv (a:Option Addr)(i:Nat)(t:Int):(scE a i t).kind=1:=by unfold scE;split<;>rfl
theorem Zcb (a:Option Addr)(i:Nat)(t:Int):(scE a i t).tick=t:=by unfold scE;split<;>rfl
theorem step0 (a:Option Addr)(F:FID->Option Bs):stepB F (sc0 a)=F:=by unfold stepB;rw[if_neg (by rw[sc0_kind];decide)]
theorem step1 (a:Option Addr)(t:Int):stepB (fun _=>none) (scE a 0 t)=fun k=>if eqF k s1=true then some (true,scE a 0 t)else none:=by
 unfold stepB
 rw[if_pos (Zcv a 0 t)]
 rfl
theorem stepN (b:Bs)(x:En)(hk:x.kind=1)(hb:x.base=s1):stepB (fun k=>if eqF k s1=true then some b else none) x=fun k=>if eqF k s1=true then some (nextB b x)else none:=by
 unfold stepB
 rw[if_pos hk,hb]
 funext k
 show(if eqF k s1=true then some (nextB ((if eqF k s1=true then some b else none).getD zeroB) x)else(if eqF k s1=true then some b else none))=_
 by_cases h:eqF k s1=true
 · rw[if_pos h,if_pos h,if_pos h];rfl
 · rw[if_neg h,if_neg h,if_neg h]
theorem scE_fk (a:Option Addr)(i:Nat)(t:Int):(scE a i t).fk=(i:Int)+1:=by
 unfold scE
 split
 · rename_i h;subst h;rfl
 · rfl
theorem scE_seq (a:Option Addr)(i:Nat)(t:Int):(scE a i t).seq=(i:Int)+1:=by
 unfold scE
 split
 · rename_i h;subst h;rfl
 · rfl
theorem nextN (a b:Option Addr)(i j:Nat)(t u:Int)(h:i<j):nextB (true,scE a i t) (scE b j u)=(true,scE b j u):=by
 unfold nextB
 show(true,if (scE a i t).seq<(scE b j u).seq then scE b j u else scE a i t)=_
 rw[if_pos (by rw[scE_seq,scE_seq];omega)]
theorem step2 (a b:Option Addr)(t u:Int):stepB (fun k=>if eqF k s1=true then some (true,scE a 0 t)else none) (scE b 1 u)=fun k=>if eqF k s1=true then some (true,scE b 1 u)else none:=by
 rw[stepN _ _ (Zcv b 1 u) (base2 b u),nextN a b 0 1 t u (by omega)]
theorem step3 (a b:Option Addr)(t u:Int):stepB (fun k=>if eqF k s1=true then some (true,scE a 1 t)else none) (scE b 2 u)=fun k=>if eqF k s1=true then some (true,scE b 2 u)else none:=by
 rw[stepN _ _ (Zcv b 2 u) (base3 b u),nextN a b 1 2 t u (by omega)]
theorem stepR_ids (s:Er)(x:En)(h:x.kind≠2):(stepR s x).ids=s.ids:=by
 unfold stepR
 by_cases h1:x.kind=3/\x.ck=1
 · rw[if_pos h1]
 · rw[if_neg h1]
   by_cases h2:x.kind=1/\x.fk≠3
   · rw[if_pos h2]
   · rw[if_neg h2,if_neg (fun q=>h q.1),if_neg h]
theorem erF_none {l:List En}(h:∀ x∈l,x.kind≠2)(k:FID):erF l k=false:=by
 have key:∀ (l:List En) (s:Er),(∀ x∈l,x.kind≠2)->(l.foldl stepR s).ids=s.ids:=by
  intro l
  induction l with
  |nil=>intro s _;rfl
  |cons x l ih=>intro s h;rw[List.foldl_cons,ih _ (fun y hy=>h y (by simp[hy])),stepR_ids s x (h x (by simp))]
 unfold erF erS
 rw[key l Er.none h];rfl
theorem scA_kinds (a0:Option Addr)(ts:List (Int × Option Addr)):∀ x∈scA a0 ts,x.kind≠2:=by
 intro x hx
 rcases List.mem_cons.1 hx with rfl|hx
 · rw[sc0_kind];decide
 · obtain⟨p,hp,rfl⟩:=List.mem_map.1 hx
   rw[Zcv];decide
theorem ZcN (x:En)(l:List En)(t:Int):untl (x :: l) t=if x.tick<=t then x :: untl l t else untl l t:=by
 unfold untl
 by_cases h:x.tick<=t<;>simp[h]
theorem eff_row {l:List En}{t:Int}{e:En}{r:Rw}(hb:Zbj (untl l t)=fun k=>if eqF k s1=true then some (true,e)else none)(hk:∀ x∈l,x.kind≠2)(hf:e.fk≠3)(hr:e.row s1=r):EffIs l t [r]:=by
 refine effIs_one fun k=>?_
 have h1:(r.src,r.seq)=s1:=by rw[<-hr];rfl
 rw[h1]
 unfold effF
 rw[hb]
 by_cases hks:eqF k s1=true
 · have e1:(fun k=>if eqF k s1=true then some ((true,e):Bs)else none) k=some (true,e):=if_pos hks
   rw[e1,if_pos hks]
   show(if true=true/\e.fk≠3/\erF l k=false then some (e.row k)else none)=_
   rw[if_pos ⟨rfl,hf,erF_none hk _⟩,ZaW.1 hks,hr]
 · have e1:(fun k=>if eqF k s1=true then some ((true,e):Bs)else none) k=none:=if_neg hks
   rw[e1,if_neg hks]
theorem eff_gone {l:List En}{t:Int}{e:En}(hb:Zbj (untl l t)=fun k=>if eqF k s1=true then some (true,e)else none)(hf:e.fk=3):EffIs l t []:=by
 refine effIs_none fun k=>?_
 unfold effF
 rw[hb]
 by_cases hks:eqF k s1=true
 · have e1:(fun k=>if eqF k s1=true then some ((true,e):Bs)else none) k=some (true,e):=if_pos hks
   rw[e1]
   show(if true=true/\e.fk≠3/\erF l k=false then some (e.row k)else none)=_
   rw[if_neg (fun q=>q.2.1 hf)]
 · have e1:(fun k=>if eqF k s1=true then some ((true,e):Bs)else none) k=none:=if_neg hks
   rw[e1]
theorem eff_early {l:List En}{t:Int}(hb:Zbj (untl l t)=fun _=>none):EffIs l t []:=by
 refine effIs_none fun k=>?_
 unfold effF
 rw[hb]
theorem row1_is (a:Option Addr):(scE a 0 5).row s1=row1 a:=rfl
theorem row2_is (a:Option Addr):(scE a 1 9).row s1=row2 a:=rfl
section
variable (a0 a1 a2 a3:Option Addr)
theorem sc_two:scA a0 [(5,a1),(9,a2)]=[sc0 a0,scE a1 0 5,scE a2 1 9]:=rfl
theorem sc_three:scA a0 [(5,a1),(9,a2),(9,a3)]=[sc0 a0,scE a1 0 5,scE a2 1 9,scE a3 2 9]:=rfl
theorem sc_one:scA a0 [(5,a1)]=[sc0 a0,scE a1 0 5]:=rfl
theorem Zc5 (t:Int)(ht:0<=t)(l:List En):Zbj (untl (sc0 a0 :: l) t)=Zbj (untl l t):=by
 rw[ZcN,if_pos (by rw[sc0_tick];exact ht)]
 show(untl l t).foldl stepB (stepB (fun _=>none) (sc0 a0))=_
 rw[step0];rfl
theorem bases_none (l:List En)(t:Int)(h:∀ x∈l,t<x.tick):Zbj (untl l t)=fun _=>none:=by
 have:untl l t=[]:=by
  unfold untl
  rw[List.filter_eq_nil_iff]
  intro x hx
  have:=h x hx
  simp;omega
 rw[this];rfl
theorem ZcI (l:List En)(t u:Int)(h:u<=t):Zbj (untl (scE a1 0 u :: l) t)=(untl l t).foldl stepB (fun k=>if eqF k s1=true then some (true,scE a1 0 u)else none):=by
 rw[ZcN,if_pos (by rw[Zcb];exact h)]
 show(untl l t).foldl stepB (stepB (fun _=>none) (scE a1 0 u))=_
 rw[step1]
theorem untl_nil (t:Int):untl [] t=[]:=rfl
theorem eff_0 (l:List En)(h:∀ x∈l,0<x.tick):effL (sc0 a0 :: l) 0=[]:=ZcD (eff_early (by rw[Zc5 a0 0 (by omega),bases_none l 0 h]))
theorem eff_5 (l:List En)(h:∀ x∈l,5<x.tick)(hk:∀ x∈l,x.kind≠2):effL (sc0 a0 :: scE a1 0 5 :: l) 5=[row1 a1]:=by
 refine ZcD (eff_row (e:=scE a1 0 5) ?_ ?_ (by rw[scE_fk];decide) (row1_is a1))
 · rw[Zc5 a0 5 (by omega),ZcI a1 l 5 5 (by omega)]
   have:untl l 5=[]:=by
    unfold untl
    rw[List.filter_eq_nil_iff]
    intro x hx
    have:=h x hx
    simp;omega
   rw[this];rfl
 · intro x hx
   rcases List.mem_cons.1 hx with rfl|hx
   · rw[sc0_kind];decide
   · rcases List.mem_cons.1 hx with rfl|hx
     · rw[Zcv];decide
     · exact hk x hx
theorem eff_9 (t:Int)(ht:9<=t):effL (scA a0 [(5,a1),(9,a2)]) t=[row2 a2]:=by
 refine ZcD (eff_row (e:=scE a2 1 9) ?_ (scA_kinds a0 _) (by rw[scE_fk];decide) (row2_is a2))
 rw[sc_two,Zc5 a0 t (by omega),ZcI a1 _ t 5 (by omega),ZcN,if_pos (by rw[Zcb];exact ht),untl_nil]
 rw[List.foldl_cons,List.foldl_nil,step2]
theorem eff_99:effL (scA a0 [(5,a1),(9,a2),(9,a3)]) 9=[]:=by
 refine ZcD (eff_gone (e:=scE a3 2 9) ?_ rfl)
 rw[sc_three,Zc5 a0 9 (by omega),ZcI a1 _ 9 5 (by omega),ZcN,if_pos (by rw[Zcb];omega),ZcN,if_pos (by rw[Zcb];omega),untl_nil]
 rw[List.foldl_cons,List.foldl_cons,List.foldl_nil,step2,step3]
theorem eff_max:effL (scA a0 [(5,a1)]) 1099511627776=[row1 a1]:=by
 refine ZcD (eff_row (e:=scE a1 0 5) ?_ (scA_kinds a0 _) (by rw[scE_fk];decide) (row1_is a1))
 rw[sc_one,Zc5 a0 _ (by omega),ZcI a1 _ _ 5 (by omega),untl_nil]
 rfl
end
end Go.Proofs.YtfnpfkgmacaboaaGreat
namespace Go.Proofs.YtfnpfkgmacaboaaGreat
open Go.ChangeShapes Go.WideShapes Go.ChangeAt Go.RowKit Go.Maps
set_option linter.unusedVariables false
set_option linter.unusedSimpArgs false
def exX (f1 f2:Option Addr):List Dl:=[⟨row1 f1,5,1⟩,⟨row1 f1,9,-1⟩,⟨row2 f2,9,1⟩]
def exY (f1:Option Addr):List Dl:=[⟨row1 f1,5,1⟩,⟨row1 f1,9,-1⟩]
def exZ (f1 f2:Option Addr):List Dl:=[⟨row1 f1,9,-1⟩,⟨row2 f2,9,1⟩]
theorem exX_kn (f1 f2:Option Addr):(exX f1 f2).map Dl.kn=(exX none none).map Dl.kn:=rfl
theorem exY_kn (f1:Option Addr):(exY f1).map Dl.kn=(exY none).map Dl.kn:=rfl
theorem exZ_kn (f1 f2:Option Addr):(exZ f1 f2).map Dl.kn=(exZ none none).map Dl.kn:=rfl
theorem cons_X:consK ((exX none none).map Dl.kn)=(exX none none).map Dl.kn:=by decide +kernel
theorem cons_Y:consK ((exY none).map Dl.kn)=(exY none).map Dl.kn:=by decide +kernel
theorem cons_Z:consK ((exZ none none).map Dl.kn)=(exZ none none).map Dl.kn:=by decide +kernel
theorem step_same {l:List En}{s:List Dl × List Rw}{i:Nat}(h:Za3 l i=true):Zb0 l s i=s:=if_pos h
theorem Zda {l:List En}{s:List Dl × List Rw}{i:Nat}{t:Int}{rows:List Rw}(h:Za3 l i=false)(ht:ZbM l i=t)(hr:effL l t=rows):Zb0 l s i=(s.1++betD s.2 rows t,rows):=by
 unfold Zb0
 rw[if_neg (by rw[h];decide),ht,hr]
section
variable (a0 a1 a2 a3:Option Addr)
theorem from_X:fromL (scA a0 [(5,a1),(9,a2)])=exX a1 a2:=by
 rw[sc_two]
 show(List.foldl (Zb0 [sc0 a0,scE a1 0 5,scE a2 1 9]) ([],[]) [0,1,2]).1=_
 rw[List.foldl_cons,Zda (t:=0) (rows:=[]) rfl rfl (eff_0 a0 _ (by intro x hx;simp at hx;rcases hx with h|h<;>subst h<;>rw[Zcb]<;>omega)),
  List.foldl_cons,Zda (t:=5) (rows:=[row1 a1]) rfl rfl (eff_5 a0 a1 _ (by intro x hx;simp at hx;subst hx;rw[Zcb];omega) (by intro x hx;simp at hx;subst hx;rw[Zcv];decide)),
  List.foldl_cons,Zda (t:=9) (rows:=[row2 a2]) rfl rfl (by rw[<-sc_two];exact eff_9 a0 a1 a2 9 (by omega)),List.foldl_nil]
 rfl
theorem from_Y:fromL (scA a0 [(5,a1),(9,a2),(9,a3)])=exY a1:=by
 rw[sc_three]
 show(List.foldl (Zb0 [sc0 a0,scE a1 0 5,scE a2 1 9,scE a3 2 9]) ([],[]) [0,1,2,3]).1=_
 rw[List.foldl_cons,Zda (t:=0) (rows:=[]) rfl rfl (eff_0 a0 _ (by intro x hx;simp at hx;rcases hx with h|h|h<;>subst h<;>rw[Zcb]<;>omega)),
  List.foldl_cons,Zda (t:=5) (rows:=[row1 a1]) rfl rfl (eff_5 a0 a1 _ (by intro x hx;simp at hx;rcases hx with h|h<;>subst h<;>rw[Zcb]<;>omega) (by intro x hx;simp at hx;rcases hx with h|h<;>subst h<;>rw[Zcv]<;>decide)),
  List.foldl_cons,step_same rfl,
  List.foldl_cons,Zda (t:=9) (rows:=[]) rfl rfl (by rw[<-sc_three];exact eff_99 a0 a1 a2 a3),List.foldl_nil]
 rfl
theorem next_Z (b0 b1:Option Addr):nextL (scA b0 [(5,b1)]) (scE a2 1 9)=exZ b1 a2:=by
 unfold nextL
 have e:scA b0 [(5,b1)]++[scE a2 1 9]=scA b0 [(5,b1),(9,a2)]:=rfl
 rw[e,eff_max,eff_9 b0 b1 a2 _ (by omega)]
 rfl
end
theorem ZdI (L:List Int)(W:World):Zac intC 1 (W.alloc (.cells (encs intC L).toArray 3)) (some ⟨W.heap.size,0,none⟩) L :=
 Or.inr ⟨_,0,rfl,Lies.of_cells (enc:=intC) (k:=1) (fun _=>rfl) (fun j v hj=>by rw[Nat.zero_add];exact(Box.new W (encs intC L).toArray 3).cell j v (by rw[List.getElem?_toArray];exact hj))⟩
theorem script_two (at0:Option Addr)(c0:Nat)(w:World)(h:Zac intC 1 w at0 [5,9]) :
 Calls Tryz.prog 36 #[.slice at0 2 c0] w fun e w'=>∃ a c a0 a1 a2,e=.returned (.slice a 3 c)/\EnsAt w' a (scA a0 [(5,a1),(9,a2)])/\(∀ q,a=some q->q.spot=none)/\Below w.heap.size w w':=by
 refine(Zd9 [5,9] at0 c0 (by decide) w h (fun t ht=>by simp at ht;rcases ht with q|q<;>subst q<;>(unfold I64;omega))).mono ?_
 rintro e w' ⟨a,c,a0,ts,rfl,hts,hE,hsp,hb⟩
 match ts,hts with
 |[(t1,a1),(t2,a2)],hts =>
  simp at hts
  obtain⟨rfl,rfl⟩:=hts
  exact⟨a,c,a0,a1,a2,rfl,hE,hsp,hb⟩
theorem script_three (at0:Option Addr)(c0:Nat)(w:World)(h:Zac intC 1 w at0 [5,9,9]) :
 Calls Tryz.prog 36 #[.slice at0 3 c0] w fun e w'=>∃ a c a0 a1 a2 a3,e=.returned (.slice a 4 c)/\EnsAt w' a (scA a0 [(5,a1),(9,a2),(9,a3)])/\Below w.heap.size w w':=by
 refine(Zd9 [5,9,9] at0 c0 (by decide) w h (fun t ht=>by simp at ht;rcases ht with q|q<;>subst q<;>(unfold I64;omega))).mono ?_
 rintro e w' ⟨a,c,a0,ts,rfl,hts,hE,hsp,hb⟩
 match ts,hts with
 |[(t1,a1),(t2,a2),(t3,a3)],hts =>
  simp at hts
  obtain⟨rfl,rfl,rfl⟩:=hts
  exact⟨a,c,a0,a1,a2,a3,rfl,hE,hb⟩
theorem script_one (at0:Option Addr)(c0:Nat)(w:World)(h:Zac intC 1 w at0 [5]) :
 Calls Tryz.prog 36 #[.slice at0 1 c0] w fun e w'=>∃ a c a0 a1,e=.returned (.slice a 2 c)/\EnsAt w' a (scA a0 [(5,a1)])/\(∀ q,a=some q->q.spot=none)/\Below w.heap.size w w':=by
 refine(Zd9 [5] at0 c0 (by decide) w h (fun t ht=>by simp at ht;subst ht;(unfold I64;omega))).mono ?_
 rintro e w' ⟨a,c,a0,ts,rfl,hts,hE,hsp,hb⟩
 match ts,hts with
 |[(t1,a1)],hts =>
  simp at hts
  subst hts
  exact⟨a,c,a0,a1,rfl,hE,hsp,hb⟩
theorem from_two (a:Option Addr)(c:Nat)(a0 a1 a2:Option Addr)(w:World)(h:EnsAt w a (scA a0 [(5,a1),(9,a2)])) :
 Calls Tryz.prog 13 #[.slice a 3 c] w fun e w'=>∃ v ds,e=.returned v/\SlD w' v ds/\ds.map Dl.kn=(exX none none).map Dl.kn/\Below w.heap.size w w':=by
 refine(ZeK (scA a0 [(5,a1),(9,a2)]) a c (by show 3<=_;omega) w h).mono ?_
 rintro e w' ⟨v,ds,rfl,h1,h2,h3⟩
 rw[from_X,exX_kn,cons_X]at h2
 exact⟨v,ds,rfl,h1,h2,h3⟩
theorem from_three (a:Option Addr)(c:Nat)(a0 a1 a2 a3:Option Addr)(w:World)(h:EnsAt w a (scA a0 [(5,a1),(9,a2),(9,a3)])) :
 Calls Tryz.prog 13 #[.slice a 4 c] w fun e w'=>∃ v ds,e=.returned v/\SlD w' v ds/\ds.map Dl.kn=(exY none).map Dl.kn/\Below w.heap.size w w':=by
 refine(ZeK (scA a0 [(5,a1),(9,a2),(9,a3)]) a c (by show 4<=_;omega) w h).mono ?_
 rintro e w' ⟨v,ds,rfl,h1,h2,h3⟩
 rw[from_Y,exY_kn,cons_Y]at h2
 exact⟨v,ds,rfl,h1,h2,h3⟩
theorem next_two (a:Option Addr)(c:Nat)(b0 b1 a2:Option Addr)(hsp:∀ q,a=some q->q.spot=none)(w:World)(h:EnsAt w a (scA b0 [(5,b1)]))(hx:(scE a2 1 9).Ok w) :
 Calls Tryz.prog 15 #[.slice a 2 c,(scE a2 1 9).val] w fun e w'=>∃ v ds,e=.returned v/\SlD w' v ds/\ds.map Dl.kn=(exZ none none).map Dl.kn/\Below w.heap.size w w':=by
 refine(next_any (scA b0 [(5,b1)]) a c (scE a2 1 9) (by show 2<=_;omega) hsp w h hx).mono ?_
 rintro e w' ⟨v,ds,rfl,h1,h2,h3⟩
 rw[next_Z,exZ_kn,cons_Z]at h2
 exact⟨v,ds,rfl,h1,h2,h3⟩
end Go.Proofs.YtfnpfkgmacaboaaGreat
