/- Texts joined by a program. -/
import Derived.WalkKit
import Derived.Test.YtfnpfkgmacaboaaGreatRows
import Derived.ProofKit
import Derived.OpenShut
import Derived.Lib.Hide
import Derived.Laws.Cover1
import Derived.Maps.OwnSet
import Derived.Maps.RangeWalk
import Derived.Deep.Draws
namespace Go.Proofs.YtfnpfkgmacaboaaGreat
open Go.Proofs.Tryz
open Lib (hid)
set_option linter.unusedVariables false
set_option linter.unusedSectionVars false
structure Cmp {α:Type} (c:α->α->Int):Prop where
 zero:∀ a b,c a b=0↔a=b
 turn:∀ a b,c a b<0↔0<c b a
 trans:∀ a b d,c a b<0->c b d<0->c a d<0
def orI (x y:Int):Int:=if x=0 then y else x
theorem orI_zero {x y:Int}:orI x y=0↔x=0/\y=0:=by unfold orI;split<;>simp[*]
theorem Zcy {x y:Int}:orI x y<0↔x<0∨x=0/\y<0:=by
 unfold orI
 by_cases h:x=0
 · rw[if_pos h];omega
 · rw[if_neg h];omega
theorem orI_pos {x y:Int}:0<orI x y↔0<x∨x=0/\0<y:=by
 unfold orI
 by_cases h:x=0
 · rw[if_pos h];omega
 · rw[if_neg h];omega
theorem Cmp.refl {α:Type}{c:α->α->Int}(h:Cmp c)(a:α):c a a=0:=(h.zero a a).2 rfl
theorem Cmp.pair {α β:Type}{c:α->α->Int}{d:β->β->Int}(hc:Cmp c)(hd:Cmp d):Cmp (fun(x y:α × β)=>orI (c x.1 y.1) (d x.2 y.2)) where
 zero:=fun x y=>by
  rw[orI_zero,hc.zero,hd.zero,Prod.ext_iff]
 turn:=fun x y=>by
  rw[Zcy,orI_pos,hc.turn,hd.turn,hc.zero,hc.zero]
  constructor
  · rintro (h|⟨h,k⟩)
    · exact Or.inl h
    · exact Or.inr ⟨h.symm,k⟩
  · rintro (h|⟨h,k⟩)
    · exact Or.inl h
    · exact Or.inr ⟨h.symm,k⟩
 trans:=fun x y z=>by
  rw[Zcy,Zcy,Zcy,hc.zero,hc.zero,hc.zero]
  rintro (h|⟨h,k⟩) (h'|⟨h',k'⟩)
  · exact Or.inl (hc.trans _ _ _ h h')
  · exact Or.inl (h' ▸ h)
  · exact Or.inl (h ▸ h')
  · exact Or.inr ⟨h.trans h',hd.trans _ _ _ k k'⟩
theorem Cmp.on {α β:Type}{c:β->β->Int}(hc:Cmp c)(f:α->β)(hf:∀ a b,f a=f b->a=b):Cmp (fun x y=>c (f x) (f y)) where
 zero:=fun x y=>by rw[hc.zero];exact⟨hf x y,fun h=>h ▸ rfl⟩
 turn:=fun x y=>hc.turn _ _
 trans:=fun x y z=>hc.trans _ _ _
def cmpI (a b:Int):Int:=if a<b then -1 else if b<a then 1 else 0
theorem Zbn:Cmp cmpI where
 zero:=fun a b=>by unfold cmpI;split<;>(try split)<;>omega
 turn:=fun a b=>by unfold cmpI;split<;>(try split)<;>(try split)<;>omega
 trans:=fun a b d=>by unfold cmpI;split<;>(try split)<;>(try split)<;>(try split)<;>(try split)<;>omega
def cmpL {α:Type}(c:α->α->Int):List α->List α->Int
 |[],[]=>0
 |[],_ :: _=>-1
 |_ :: _,[]=>1
 |x :: r,y :: s=>orI (c x y) (cmpL c r s)
theorem ZeR {α:Type}{c:α->α->Int}(hc:Cmp c):Cmp (cmpL c) where
 zero:=fun a=>by
  induction a with
  |nil=>intro b;cases b<;>simp[cmpL]
  |cons x r ih=>intro b;cases b with
   |nil=>simp[cmpL]
   |cons y s=>simp only[cmpL];rw[orI_zero,hc.zero,ih];simp
 turn:=fun a=>by
  induction a with
  |nil=>intro b;cases b<;>simp[cmpL]
  |cons x r ih=>intro b;cases b with
   |nil=>simp[cmpL]
   |cons y s =>
    simp only[cmpL];rw[Zcy,orI_pos,hc.turn,ih,hc.zero,hc.zero]
    constructor
    · rintro (h|⟨h,k⟩)
      · exact Or.inl h
      · exact Or.inr ⟨h.symm,k⟩
    · rintro (h|⟨h,k⟩)
      · exact Or.inl h
      · exact Or.inr ⟨h.symm,k⟩
 trans:=fun a=>by
  induction a with
  |nil=>intro b d;cases b<;>cases d<;>simp[cmpL]
  |cons x r ih=>intro b d;cases b with
   |nil=>simp[cmpL]
   |cons y s=>cases d with
    |nil=>simp[cmpL]
    |cons z u =>
     simp only[cmpL];rw[Zcy,Zcy,Zcy,hc.zero,hc.zero,hc.zero]
     rintro (h|⟨h,k⟩) (h'|⟨h',k'⟩)
     · exact Or.inl (hc.trans _ _ _ h h')
     · exact Or.inl (h' ▸ h)
     · exact Or.inl (h ▸ h')
     · exact Or.inr ⟨h.trans h',ih _ _ k k'⟩
section
variable {κ:Type} [DecidableEq κ] {c:κ->κ->Int}
def Rising (c:κ->κ->Int)(r:List (κ × Int)):Prop:=r.Pairwise (fun x y=>c x.1 y.1<0)
def look:List (κ × Int)->κ->Int
 |[],_=>0
 |y :: r,k=>if y.1=k then y.2 else look r k
theorem ZeI {k:κ}:∀ (r:List (κ × Int)),(∀ z,z∈r->z.1≠k)->look r k=0
 |[],_=>rfl
 |y :: r,h=>by unfold look;rw[if_neg (h y (by simp))];exact ZeI r (fun z hz=>h z (by simp[hz]))
theorem look_mem (hc:Cmp c){k:κ}{n:Int}:∀ (r:List (κ × Int)),Rising c r->(k,n)∈r->look r k=n
 |y :: r,hr,h=>by
  obtain⟨a1,a2⟩:=List.pairwise_cons.1 hr
  unfold look
  rcases List.mem_cons.1 h with e|h
  · rw[<-e];simp
  · rw[if_neg (fun e=>by have:=a1 _ h;rw[e,hc.refl]at this;omega)];exact look_mem hc r a2 h
theorem look_in {k:κ}:∀ (r:List (κ × Int)),look r k≠0->(k,look r k)∈r
 |[],h=>absurd rfl h
 |y :: r,h=>by
  unfold look at h ⊢
  split
  · rename_i e;subst e;simp
  · rename_i e;rw[if_neg e]at h;exact List.mem_cons_of_mem _ (look_in r h)
def sumK (d:List (κ × Int))(k:κ):Int:=d.foldl (fun s x=>if x.1=k then IntKind.i64.wrap (x.2+s)else s) 0
structure ZbN (c:κ->κ->Int) (S:κ->Int) (r:List (κ × Int)):Prop where
 rising:Rising c r
 some:∀ x,x∈r->x.2≠0
 look:∀ k,look r k=S k
theorem ZdO (hc:Cmp c):∀ (r r':List (κ × Int)),Rising c r->Rising c r'->(∀ x,x∈r↔x∈r')->r=r'
 |[],[],_,_,_=>rfl
 |[],y :: s,_,_,h=>by have:=(h y).2 (by simp);simp at this
 |x :: r,[],_,_,h=>by have:=(h x).1 (by simp);simp at this
 |x :: r,y :: s,h1,h2,h=>by
  obtain⟨a1,a2⟩:=List.pairwise_cons.1 h1
  obtain⟨b1,b2⟩:=List.pairwise_cons.1 h2
  have hxy:x=y:=by
   rcases List.mem_cons.1 ((h x).1 (by simp))with e|hx
   · exact e
   · rcases List.mem_cons.1 ((h y).2 (by simp))with e|hy
     · exact e.symm
     · have p:=b1 x hx
       have q:=a1 y hy
       have:=hc.trans _ _ _ p q
       rw[hc.refl]at this
       omega
  subst hxy
  congr 1
  refine ZdO hc r s a2 b2 (fun z=>?_)
  constructor
  · intro hz
    rcases List.mem_cons.1 ((h z).1 (by simp[hz]))with e|hz'
    · subst e;have:=a1 _ hz;rw[hc.refl]at this;omega
    · exact hz'
  · intro hz
    rcases List.mem_cons.1 ((h z).2 (by simp[hz]))with e|hz'
    · subst e;have:=b1 _ hz;rw[hc.refl]at this;omega
    · exact hz'
theorem ZbN.mem (hc:Cmp c){S:κ->Int}{r:List (κ × Int)}(h:ZbN c S r)(x:κ × Int):x∈r↔x.2=S x.1/\x.2≠0:=by
 constructor
 · intro hx
   exact⟨by rw[<-h.look];exact(look_mem hc r h.rising hx).symm,h.some x hx⟩
 · rintro ⟨e,hne⟩
   rw[e,<-h.look]at hne
   have:=look_in r hne
   rw[h.look,<-e]at this
   exact this
theorem ZbN.unique (hc:Cmp c){S:κ->Int}{r r':List (κ × Int)}(h:ZbN c S r)(h':ZbN c S r'):r=r' :=
 ZdO hc r r' h.rising h'.rising (fun x=>by rw[h.mem hc,h'.mem hc])
def putK (c:κ->κ->Int):List (κ × Int)->κ × Int->List (κ × Int)
 |[],x=>if x.2=0 then []else [x]
 |y :: r,x =>
  if c y.1 x.1<0 then y :: putK c r x
  else if c x.1 y.1<0 then(if x.2=0 then y :: r else x :: y :: r)
  else if IntKind.i64.wrap (x.2+y.2)=0 then r else(x.1,IntKind.i64.wrap (x.2+y.2)) :: r
theorem putK_keys {x:κ × Int}:∀ (l:List (κ × Int)) (z:κ × Int),z∈putK c l x->z.1=x.1∨z∈l:=by
 intro l
 induction l with
 |nil =>
  intro z h
  unfold putK at h
  split at h
  · simp at h
  · simp at h;exact Or.inl (by rw[h])
 |cons y r ih =>
  intro z h
  unfold putK at h
  split at h
  · rcases List.mem_cons.1 h with e|h
    · exact Or.inr (by simp[e])
    · rcases ih z h with e|e
      · exact Or.inl e
      · exact Or.inr (by simp[e])
  · split at h
    · split at h
      · exact Or.inr h
      · rcases List.mem_cons.1 h with e|h
        · exact Or.inl (by rw[e])
        · exact Or.inr h
    · split at h
      · exact Or.inr (by simp[h])
      · rcases List.mem_cons.1 h with e|h
        · exact Or.inl (by rw[e])
        · exact Or.inr (by simp[h])
theorem putK_rising (hc:Cmp c){x:κ × Int}:∀ (l:List (κ × Int)),Rising c l->Rising c (putK c l x):=by
 intro l
 induction l with
 |nil=>intro _;unfold putK;split<;>simp[Rising]
 |cons y r ih =>
  intro hr
  obtain⟨a1,a2⟩:=List.pairwise_cons.1 hr
  unfold putK
  split
  · rename_i h1
    refine List.pairwise_cons.2 ⟨fun z hz=>?_,ih a2⟩
    rcases putK_keys r z hz with e|e
    · rw[e];exact h1
    · exact a1 z e
  · rename_i h1
    split
    · rename_i h2
      split
      · exact hr
      · refine List.pairwise_cons.2 ⟨fun z hz=>?_,hr⟩
        rcases List.mem_cons.1 hz with e|hz
        · rw[e];exact h2
        · exact hc.trans _ _ _ h2 (a1 z hz)
    · rename_i h2
      have he:x.1=y.1:=(hc.zero _ _).1 (by have:=hc.turn y.1 x.1;omega)
      split
      · exact a2
      · exact List.pairwise_cons.2 ⟨fun z hz=>by show c x.1 z.1<0;rw[he];exact a1 z hz,a2⟩
theorem putK_some {x:κ × Int}:∀ (l:List (κ × Int)),(∀ z,z∈l->z.2≠0)->∀ z,z∈putK c l x->z.2≠0:=by
 intro l
 induction l with
 |nil =>
  intro _ z h
  unfold putK at h
  split at h
  · simp at h
  · simp at h;rw[h];assumption
 |cons y r ih =>
  intro hr z h
  unfold putK at h
  split at h
  · rcases List.mem_cons.1 h with e|h
    · rw[e];exact hr y (by simp)
    · exact ih (fun z hz=>hr z (by simp[hz])) z h
  · split at h
    · split at h
      · exact hr z h
      · rcases List.mem_cons.1 h with e|h
        · rw[e];assumption
        · exact hr z h
    · split at h
      · exact hr z (by simp[h])
      · rcases List.mem_cons.1 h with e|h
        · rw[e];assumption
        · exact hr z (by simp[h])
theorem putK_look (hc:Cmp c){x:κ × Int}(hx:IntKind.i64.wrap x.2=x.2)(k:κ):∀ (l:List (κ × Int)),Rising c l ->
 look (putK c l x) k=if x.1=k then IntKind.i64.wrap (x.2+look l k)else look l k:=by
 intro l
 induction l with
 |nil =>
  intro _
  unfold putK
  by_cases hk:x.1=k
  · rw[if_pos hk]
    split
    · rename_i h0;show(0:Int)=IntKind.i64.wrap (x.2+0);rw[Int.add_zero,hx,h0]
    · show(if x.1=k then x.2 else 0)=IntKind.i64.wrap (x.2+0);rw[if_pos hk,Int.add_zero,hx]
  · rw[if_neg hk]
    split
    · rfl
    · show(if x.1=k then x.2 else 0)=0;rw[if_neg hk]
 |cons y r ih =>
  intro hr
  obtain⟨a1,a2⟩:=List.pairwise_cons.1 hr
  unfold putK
  split
  · rename_i h1
    have hne:y.1≠x.1:=fun e=>by rw[e,hc.refl]at h1;omega
    simp only[look]
    rw[ih a2]
    by_cases hk:x.1=k
    · rw[if_pos hk,if_pos hk,if_neg (fun e=>hne (e.trans hk.symm)),if_neg (fun e=>hne (e.trans hk.symm))]
    · rw[if_neg hk,if_neg hk]
  · rename_i h1
    split
    · rename_i h2
      have hnot:look (y :: r) x.1=0:=ZeI _ (fun z hz e=>by
       rcases List.mem_cons.1 hz with e2|hz
       · rw[<-e,e2,hc.refl]at h2;omega
       · have:=hc.trans _ _ _ h2 (a1 z hz);rw[e,hc.refl]at this;omega)
      split
      · rename_i h0
        by_cases hk:x.1=k
        · rw[if_pos hk,<-hk,hnot,h0];decide
        · rw[if_neg hk]
      · show(if x.1=k then x.2 else look (y :: r) k)=_
        by_cases hk:x.1=k
        · rw[if_pos hk,if_pos hk,<-hk,hnot,Int.add_zero,hx]
        · rw[if_neg hk,if_neg hk]
    · rename_i h2
      have he:x.1=y.1:=(hc.zero _ _).1 (by have:=hc.turn y.1 x.1;omega)
      have hnot:look r x.1=0:=ZeI _ (fun z hz e=>by have:=a1 z hz;rw[e,he,hc.refl]at this;omega)
      split
      · rename_i h0
        simp only[look]
        by_cases hk:x.1=k
        · rw[if_pos hk,if_pos (he ▸ hk),h0,<-hk,hnot]
        · rw[if_neg hk,if_neg (fun e=>hk (he.trans e))]
      · simp only[look]
        by_cases hk:x.1=k
        · rw[if_pos hk,if_pos hk,if_pos (he ▸ hk)]
        · rw[if_neg hk,if_neg hk,if_neg (fun e=>hk (he.trans e))]
theorem ZcP (d:List (κ × Int))(x:κ × Int)(k:κ):sumK (d++[x]) k=if x.1=k then IntKind.i64.wrap (x.2+sumK d k)else sumK d k:=by
 unfold sumK;rw[List.foldl_append];rfl
theorem ZbN.put (hc:Cmp c){d l:List (κ × Int)}{x:κ × Int}(h:ZbN c (sumK d) l)(hx:IntKind.i64.wrap x.2=x.2):ZbN c (sumK (d++[x])) (putK c l x) :=
 ⟨putK_rising hc l h.rising,putK_some l h.some,fun k=>by rw[putK_look hc hx k l h.rising,ZcP,h.look]⟩
theorem ZbN.nil:ZbN c (sumK []) ([]:List (κ × Int)):=⟨List.Pairwise.nil,fun x hx=>by simp at hx,fun k=>rfl⟩
end
end Go.Proofs.YtfnpfkgmacaboaaGreat
namespace Go.Proofs.YtfnpfkgmacaboaaGreat
open Go.Proofs.Tryz
open Lib (hid)
open Go.ChangeShapes Go.WideShapes Go.ChangeAt Go.RowKit
set_option linter.unusedVariables false
set_option linter.unusedSimpArgs false
theorem Zdt {a b:Int}(h:a<b):cmpI a b=-1:=by unfold cmpI;rw[if_pos h]
theorem Zdu {a b:Int}(h:b<a):cmpI a b=1:=by unfold cmpI;rw[if_neg (by omega),if_pos h]
theorem ZcE (a:Int):cmpI a a=0:=Zbn.refl a
theorem Ze7 (a b:Int)(w:World):Calls prog 53 #[.int .i64 a,.int .i64 b] w fun e w'=>e=.returned (.int .i64 (cmpI a b))/\w=w':=by
 rcases Int.lt_trichotomy a b with h|h|h
 · rw[Zdt h]
   go_enter func53,ntmps53
   go_wp2_with fail
   go_ret
   exact⟨rfl,rfl⟩
 · subst h
   rw[ZcE]
   have h1:¬ a<a:=Int.lt_irrefl a
   go_enter func53,ntmps53
   go_wp2_with fail
   go_ret
   exact⟨rfl,rfl⟩
 · rw[Zdu h]
   have h1:¬ a<b:=by omega
   go_enter func53,ntmps53
   go_wp2_with fail
   go_ret
   exact⟨rfl,rfl⟩
theorem Zep (a b:Int)(w:World):Calls prog 56 #[.int .i64 a,.int .i64 b] w fun e w'=>e=.returned (.int .i64 (cmpI a b))/\w=w':=by
 rcases Int.lt_trichotomy a b with h|h|h
 · rw[Zdt h]
   go_enter func56,ntmps56
   go_wp2_with fail
   go_ret
   exact⟨rfl,rfl⟩
 · subst h
   rw[ZcE]
   have h1:¬ a<a:=Int.lt_irrefl a
   go_enter func56,ntmps56
   go_wp2_with fail
   go_ret
   exact⟨rfl,rfl⟩
 · rw[Zdu h]
   have h1:¬ a<b:=by omega
   go_enter func56,ntmps56
   go_wp2_with fail
   go_ret
   exact⟨rfl,rfl⟩
theorem isNaN_any (a:Int)(w:World):Calls prog 87 #[.int .i64 a] w fun e w'=>e=.returned (.bool false)/\w=w':=by
 go_enter func87,ntmps87
 go_wp2_with fail
 go_ret
 exact⟨rfl,rfl⟩
theorem Zbq (a b:Int)(w:World):Calls prog 65 #[.int .i64 a,.int .i64 b] w fun e w'=>e=.returned (.int .i64 (cmpI a b))/\w=w':=by
 have HA:=hid (fun w=>isNaN_any a w)
 have HB:=hid (fun w=>isNaN_any b w)
 rcases Int.lt_trichotomy a b with h|h|h
 · rw[Zdt h]
   go_enter func65,ntmps65
   go_wp2_with (first|(go_at_call 87;(with_reducible refine(HA.out _).mono ?_);rintro e w1 ⟨rfl,rfl⟩)|(go_at_call 87;(with_reducible refine(HB.out _).mono ?_);rintro e w1 ⟨rfl,rfl⟩))
   go_ret
   exact⟨rfl,rfl⟩
 · subst h
   rw[ZcE]
   have h1:¬ a<a:=Int.lt_irrefl a
   go_enter func65,ntmps65
   go_wp2_with (go_at_call 87;(with_reducible refine(HA.out _).mono ?_);rintro e w1 ⟨rfl,rfl⟩)
   go_ret
   exact⟨rfl,rfl⟩
 · rw[Zdu h]
   have h1:¬ a<b:=by omega
   go_enter func65,ntmps65
   go_wp2_with (first|(go_at_call 87;(with_reducible refine(HA.out _).mono ?_);rintro e w1 ⟨rfl,rfl⟩)|(go_at_call 87;(with_reducible refine(HB.out _).mono ?_);rintro e w1 ⟨rfl,rfl⟩))
   go_ret
   exact⟨rfl,rfl⟩
end Go.Proofs.YtfnpfkgmacaboaaGreat
namespace Go.Proofs.YtfnpfkgmacaboaaGreat
open Go.Proofs.Tryz
open Lib (hid)
open Go.ChangeShapes Go.WideShapes Go.ChangeAt Go.RowKit
set_option linter.unusedVariables false
set_option linter.unusedSimpArgs false
def cmpB (a b:UInt8):Int:=cmpI a.toNat b.toNat
theorem ZeS:Cmp cmpB:=Zbn.on (fun a:UInt8=>(a.toNat:Int)) (fun a b h=>UInt8.toNat_inj.1 (by exact_mod_cast h))
theorem ZcF:∀ (x y:List UInt8),Op.bytesLess x y=decide (cmpL cmpB x y<0)
 |[],[]=>by simp[Op.bytesLess,cmpL]
 |[],_ :: _=>by simp[Op.bytesLess,cmpL]
 |_ :: _,[]=>by simp[Op.bytesLess,cmpL]
 |a :: x,b :: y=>by
  have e:cmpL cmpB (a :: x) (b :: y)=orI (cmpB a b) (cmpL cmpB x y):=rfl
  unfold Op.bytesLess
  rw[ZcF x y,Bool.eq_iff_iff,decide_eq_true_iff,e,Zcy,ZeS.zero]
  simp only[Bool.or_eq_true,Bool.and_eq_true,decide_eq_true_eq,beq_iff_eq]
  have:a<b↔cmpB a b<0:=by
   unfold cmpB cmpI
   rw[UInt8.lt_iff_toNat_lt]
   split<;>(try split)<;>omega
  rw[this]
def cmpS (a b:ByteArray):Int:=cmpL cmpB a.toList b.toList
theorem ZeJ {a b:ByteArray}(h:cmpS a b<0):Op.bytesLess a.toList b.toList=true:=by rw[ZcF];exact decide_eq_true h
theorem ZcY {a b:ByteArray}(h:¬ cmpS a b<0):Op.bytesLess a.toList b.toList=false:=by rw[ZcF];exact decide_eq_false h
theorem cmpL_ends:∀ (x y:List UInt8),cmpL cmpB x y=-1∨cmpL cmpB x y=0∨cmpL cmpB x y=1
 |[],[]=>by simp[cmpL]
 |[],_ :: _=>by simp[cmpL]
 |_ :: _,[]=>by simp[cmpL]
 |a :: x,b :: y=>by
  simp only[cmpL]
  unfold orI
  split
  · exact cmpL_ends x y
  · unfold cmpB cmpI;split<;>(try split)<;>simp
theorem Zd3 (a b:ByteArray):cmpS a b=-1∨cmpS a b=0∨cmpS a b=1:=cmpL_ends _ _
theorem same_no {a b:ByteArray}(h:cmpS a b=1):(a.toList==b.toList)=false:=by
 rw[beq_eq_false_iff_ne]
 intro e
 unfold cmpS at h
 rw[((ZeR ZeS).zero _ _).2 e]at h
 omega
theorem ZeD {a b:ByteArray}(h:cmpS a b=0):(a.toList==b.toList)=true:=by
 rw[beq_iff_eq]
 exact((ZeR ZeS).zero _ _).1 h
theorem words_any (a b:ByteArray)(w:World):Calls prog 54 #[.string a,.string b] w fun e w'=>e=.returned (.int .i64 (cmpS a b))/\w=w':=by
 rcases Zd3 a b with h|h|h
 · have h1:=ZeJ (show cmpS a b<0 by omega)
   rw[h]
   go_enter func54,ntmps54
   go_wp2_with fail
   go_ret
   exact⟨rfl,rfl⟩
 · have h1:=ZcY (show ¬ cmpS a b<0 by omega)
   have h2:=ZeD h
   rw[h]
   go_enter func54,ntmps54
   go_wp2_with fail
   go_ret
   exact⟨rfl,rfl⟩
 · have h1:=ZcY (show ¬ cmpS a b<0 by omega)
   have h2:=same_no h
   rw[h]
   go_enter func54,ntmps54
   go_wp2_with fail
   go_ret
   exact⟨rfl,rfl⟩
end Go.Proofs.YtfnpfkgmacaboaaGreat
namespace Go.Proofs.YtfnpfkgmacaboaaGreat
open Go.Proofs.Tryz
open Lib (hid)
open Go.ChangeShapes Go.WideShapes Go.ChangeAt Go.RowKit
set_option linter.unusedVariables false
set_option linter.unusedSimpArgs false
theorem isNaNS_any (a:ByteArray)(w:World):Calls prog 122 #[.string a] w fun e w'=>e=.returned (.bool false)/\w=w':=by
 go_enter func122,ntmps122
 go_wp2_with fail
 go_ret
 exact⟨rfl,rfl⟩
theorem compareS_any (a b:ByteArray)(w:World):Calls prog 83 #[.string a,.string b] w fun e w'=>e=.returned (.int .i64 (cmpS a b))/\w=w':=by
 have HA:=hid (fun w=>isNaNS_any a w)
 have HB:=hid (fun w=>isNaNS_any b w)
 rcases Zd3 a b with h|h|h
 · have h1:=ZeJ (show cmpS a b<0 by omega)
   rw[h]
   go_enter func83,ntmps83
   go_wp2_with (first|(go_at_call 122;(with_reducible refine(HA.out _).mono ?_);rintro e w1 ⟨rfl,rfl⟩)|(go_at_call 122;(with_reducible refine(HB.out _).mono ?_);rintro e w1 ⟨rfl,rfl⟩))
   go_ret
   exact⟨rfl,rfl⟩
 · have h1:=ZcY (show ¬ cmpS a b<0 by omega)
   have h2:=ZeD h
   rw[h]
   go_enter func83,ntmps83
   go_wp2_with (first|(go_at_call 122;(with_reducible refine(HA.out _).mono ?_);rintro e w1 ⟨rfl,rfl⟩)|(go_at_call 122;(with_reducible refine(HB.out _).mono ?_);rintro e w1 ⟨rfl,rfl⟩))
   go_ret
   exact⟨rfl,rfl⟩
 · have h1:=ZcY (show ¬ cmpS a b<0 by omega)
   have h2:=same_no h
   rw[h]
   go_enter func83,ntmps83
   go_wp2_with (first|(go_at_call 122;(with_reducible refine(HA.out _).mono ?_);rintro e w1 ⟨rfl,rfl⟩)|(go_at_call 122;(with_reducible refine(HB.out _).mono ?_);rintro e w1 ⟨rfl,rfl⟩))
   go_ret
   exact⟨rfl,rfl⟩
end Go.Proofs.YtfnpfkgmacaboaaGreat
namespace Go.Proofs.YtfnpfkgmacaboaaGreat
open Go.Proofs.Tryz
open Lib (hid)
open Go.ChangeShapes Go.WideShapes Go.ChangeAt Go.RowKit
set_option linter.unusedVariables false
set_option linter.unusedSimpArgs false
theorem Zak {w:World}(o1 o2:Obj):Below w.heap.size w ((w.alloc o1).alloc o2):=((Below.refl _ _).alloc (Nat.le_refl _) _).alloc (by simp) _
theorem order5_any (a b:Int)(w:World):Calls prog 123 #[.int .i64 a,.int .i64 b] w fun e w'=>e=.returned (.int .i64 (cmpI a b))/\w=w':=by
 rcases Int.lt_trichotomy a b with h|h|h
 · rw[Zdt h]
   go_enter func123,ntmps123
   go_wp2_with fail
   go_ret
   exact⟨rfl,rfl⟩
 · subst h
   rw[ZcE]
   have h1:¬ a<a:=Int.lt_irrefl a
   go_enter func123,ntmps123
   go_wp2_with fail
   go_ret
   exact⟨rfl,rfl⟩
 · rw[Zdu h]
   have h1:¬ a<b:=by omega
   go_enter func123,ntmps123
   go_wp2_with fail
   go_ret
   exact⟨rfl,rfl⟩
theorem ZcU {x y:Int}(h:x≠0):orI x y=x:=by unfold orI;rw[if_neg h]
theorem Zcc (y:Int):orI 0 y=y:=rfl
theorem rid_any (s t:ByteArray)(m n:Int)(w:World):Calls prog 57 #[.agg #[.string s,.int .i64 m],.agg #[.string t,.int .i64 n]] w fun e w'=>e=.returned (.int .i64 (orI (cmpS s t) (cmpI m n)))/\Below w.heap.size w w':=by
 have HC:=hid (fun w=>Zep m n w)
 rcases Zd3 s t with h|h|h
 · have h1:=ZeJ (show cmpS s t<0 by omega)
   rw[h,ZcU (by decide)]
   go_enter func57,ntmps57
   go_wp2_with fail
   go_ret
   exact⟨rfl,Zak _ _⟩
 · have h1:=ZcY (show ¬ cmpS s t<0 by omega)
   have h2:=ZeD h
   rw[h,Zcc]
   generalize cmpI m n=r at *
   go_enter func57,ntmps57
   go_wp2_with (go_at_call 56;(with_reducible refine(HC.out _).mono ?_);rintro e w1 ⟨rfl,rfl⟩)
   go_ret
   exact⟨rfl,Zak _ _⟩
 · have h1:=ZcY (show ¬ cmpS s t<0 by omega)
   have h2:=same_no h
   rw[h,ZcU (by decide)]
   go_enter func57,ntmps57
   go_wp2_with fail
   go_ret
   exact⟨rfl,Zak _ _⟩
end Go.Proofs.YtfnpfkgmacaboaaGreat
namespace Go.Proofs.YtfnpfkgmacaboaaGreat
open Go.Proofs.Tryz
open Lib (hid)
open Go.ChangeShapes Go.WideShapes Go.ChangeAt Go.RowKit
set_option linter.unusedVariables false
set_option linter.unusedSimpArgs false
theorem rvalue_any (k1 n1 k2 n2:Int)(s1 s2:ByteArray)(w:World):Calls prog 84 #[.agg #[.int .i64 k1,.int .i64 n1,.string s1],.agg #[.int .i64 k2,.int .i64 n2,.string s2]] w fun e w'=>e=.returned (.int .i64 (orI (cmpI k1 k2) (orI (cmpI n1 n2) (cmpS s1 s2))))/\Below w.heap.size w w':=by
 have HK:=hid (fun w=>order5_any k1 k2 w)
 have HN:=hid (fun w=>order5_any n1 n2 w)
 by_cases hk:k1=k2
 · subst hk
   have Qh:(k1 != k1)=false:=by simp
   rw[ZcE,Zcc]
   by_cases hn:n1=n2
   · subst hn
     have Yd:(n1 != n1)=false:=by simp
     rw[ZcE,Zcc]
     rcases Zd3 s1 s2 with h|h|h
     · have h1:=ZeJ (show cmpS s1 s2<0 by omega)
       rw[h]
       go_enter func84,ntmps84
       go_wp2_with fail
       go_ret
       exact⟨rfl,Zak _ _⟩
     · have h1:=ZcY (show ¬ cmpS s1 s2<0 by omega)
       have h2:=ZeD h
       rw[h]
       go_enter func84,ntmps84
       go_wp2_with fail
       go_ret
       exact⟨rfl,Zak _ _⟩
     · have h1:=ZcY (show ¬ cmpS s1 s2<0 by omega)
       have h2:=same_no h
       rw[h]
       go_enter func84,ntmps84
       go_wp2_with fail
       go_ret
       exact⟨rfl,Zak _ _⟩
   · have Yd:(n1 != n2)=true:=by simpa using hn
     rw[ZcU (fun e=>hn ((Zbn.zero _ _).1 e))]
     generalize cmpI n1 n2=r at *
     go_enter func84,ntmps84
     go_wp2_with (go_at_call 123;(with_reducible refine(HN.out _).mono ?_);rintro e w1 ⟨rfl,rfl⟩)
     go_ret
     exact⟨rfl,Zak _ _⟩
 · have Qh:(k1 != k2)=true:=by simpa using hk
   rw[ZcU (fun e=>hk ((Zbn.zero _ _).1 e))]
   generalize cmpI k1 k2=r at *
   go_enter func84,ntmps84
   go_wp2_with (go_at_call 123;(with_reducible refine(HK.out _).mono ?_);rintro e w1 ⟨rfl,rfl⟩)
   go_ret
   exact⟨rfl,Zak _ _⟩
end Go.Proofs.YtfnpfkgmacaboaaGreat
namespace Go.Proofs.YtfnpfkgmacaboaaGreat
open Go.Proofs.Tryz
open Lib (hid)
open Go.ChangeShapes Go.WideShapes Go.ChangeAt Go.RowKit
set_option linter.unusedVariables false
set_option linter.unusedSimpArgs false
theorem rrow_any (s t tb tb2 ky ky2:ByteArray)(m n e1 e2 no no2 tk tk2:Int)(f f2:Option Addr)(l c l2 c2:Nat)(w:World) :
 Calls prog 27 #[.agg #[.string s,.int .i64 m,.string tb,.string ky,.int .i64 e1,.slice f l c,.int .i64 no,.int .i64 tk],.agg #[.string t,.int .i64 n,.string tb2,.string ky2,.int .i64 e2,.slice f2 l2 c2,.int .i64 no2,.int .i64 tk2]] w
  fun e w'=>e=.returned (.int .i64 (orI (cmpI e1 e2) (orI (cmpS s t) (cmpI m n))))/\Below w.heap.size w w':=by
 have HE:=hid (fun w=>Zep e1 e2 w)
 have HI:=hid (fun w=>rid_any s t m n w)
 by_cases he:cmpI e1 e2=0
 · rw[he,Zcc]
   rw[he]at HE
   generalize orI (cmpS s t) (cmpI m n)=r at *
   go_enter func27,ntmps27
   go_wp2_with (first|(go_at_call 56;(with_reducible refine(HE.out _).mono ?_);rintro e w1 ⟨rfl,rfl⟩)|(go_at_call 57;(with_reducible refine(HI.out _).mono ?_);rintro e w1 ⟨rfl,hb⟩;have HB:=hid hb;clear hb))
   go_ret
   exact⟨rfl,(Zak _ _).trans (HB.out.mono (by simp;omega))⟩
 · have hne:(cmpI e1 e2 != 0)=true:=by simpa using he
   rw[ZcU he]
   generalize cmpI e1 e2=r at *
   go_enter func27,ntmps27
   go_wp2_with (go_at_call 56;(with_reducible refine(HE.out _).mono ?_);rintro e w1 ⟨rfl,rfl⟩)
   go_ret
   exact⟨rfl,Zak _ _⟩
end Go.Proofs.YtfnpfkgmacaboaaGreat
namespace Go.Proofs.YtfnpfkgmacaboaaGreat
open Go.Proofs.Tryz
open Lib (hid)
open Go.RowKit Go.Maps
set_option linter.unusedVariables false
set_option linter.unusedSectionVars false
def rawR (v:Value):Option (DataW Value × List MemPlace):=some (.held v,[])
structure Keyz (P:Program) (kt:TypeId) (κ:Type) where
 val:κ->Value
 ok:κ->Prop
 lit:κ->Lit
 of:∀ k,ok k->keyOf P kt (val k)=some (lit k)
 inj:∀ k k',val k=val k'->k=k'
 law:Keyed P kt
section
variable {P:Program} {kt:TypeId} {κ:Type} [DecidableEq κ] {Z:Keyz P kt κ} {w w':World} {b r n cnt:Nat} {T:κ->Option Value} {left:κ->Bool} {D:DataW Value}
theorem Keyz.lit_inj (Z:Keyz P kt κ){k k':κ}(h:Z.ok k)(h':Z.ok k')(e:Z.lit k=Z.lit k'):k=k' :=
 Z.inj k k' (Z.law.inj (Z.of k h) (e ▸ Z.of k' h'))
structure Says (Z:Keyz P kt κ) (T:κ->Option Value) (D:DataW Value):Prop where
 ok:∀ k v,T k=some v->Z.ok k
 at':∀ k v,T k=some v->∀ z,D.atKey (Z.lit k) z=.held v
 no:∀ k,Z.ok k->T k=none->Maps.has D (Z.lit k)=false
 all:∀ l,Maps.has D l=true->∃ k,Z.ok k/\Z.lit k=l
def Tab (w:World)(Z:Keyz P kt κ)(b n:Nat)(T:κ->Option Value):Prop:=∃ D,w.ownsMap P kt rawR b n D/\Says Z T D
def Tabs (w:World)(Z:Keyz P kt κ)(b r n:Nat)(T:κ->Option Value)(left:κ->Bool)(cnt:Nat):Prop :=
 ∃ D leftL,w.ranges P kt rawR b r n D leftL cnt/\Says Z T D/\(∀ k,Z.ok k->leftL (Z.lit k)=left k)/\∀ l,leftL l=true->∃ k,Z.ok k/\Z.lit k=l
theorem Says.has (h:Says Z T D){k:κ}{v:Value}(hv:T k=some v):Maps.has D (Z.lit k)=true:=Maps.has_true_of_atKey (h.at' k v hv)
theorem Says.some (h:Says Z T D){k:κ}(hk:Z.ok k)(hh:Maps.has D (Z.lit k)=true):∃ v,T k=some v:=by
 cases e:T k with
 |none=>rw[h.no k hk e]at hh;cases hh
 |some v=>exact⟨v,rfl⟩
theorem ZdJ (w:World)(Z:Keyz P kt κ):Tab (w.alloc (.map #[] 0)) Z w.heap.size 0 (fun _=>none) :=
 ⟨_,World.ownsMap_made w P kt rawR,⟨fun k v h=>(by cases h),fun k v h=>(by cases h),fun k _ _=>rfl,fun l h=>(by cases h)⟩⟩
theorem Tab.mono (h:Tab w Z b n T){m:Nat}(hm:n<=m):Tab w Z b m T:=let ⟨D,h1,h2⟩:=h;⟨D,h1.mono hm,h2⟩
theorem Tab.lt (h:Tab w Z b n T):b<w.heap.size:=let ⟨D,h1,h2⟩:=h;h1.lt
theorem Tab.grown {row:Option Nat}(h:Tab w Z b n T)(hg:w.grownBy w' row)(hne:some b≠row):Tab w' Z b n T:=let ⟨D,h1,h2⟩:=h;⟨D,h1.kept hg hne,h2⟩
theorem ZcC (hb:Below w.heap.size w w'):w.grownBy w' none:=⟨hb.os,hb.tape,hb.output,hb.size,fun k hk _=>hb.block k hk⟩
theorem Tab.kept (h:Tab w Z b n T)(hb:Below w.heap.size w w'):Tab w' Z b n T:=h.grown (ZcC hb) (by simp)
theorem Tab.alloc (h:Tab w Z b n T)(o:Obj):Tab (w.alloc o) Z b n T:=let ⟨D,h1,h2⟩:=h;⟨D,h1.alloc o,h2⟩
theorem Tab.drew (h:Tab w Z b n T):Tab w.drew Z b n T:=h
theorem Tab.drewN (h:Tab w Z b n T)(k:Nat):Tab (w.drewN k) Z b n T:=h.grown ⟨rfl,rfl,rfl,Nat.le_refl _,fun _ _ _=>rfl⟩ (by simp:some b≠none)
theorem Tab.setCell (h:Tab w Z b n T){a:Addr}(ha:b≠a.block)(u:Value):Tab (w.setCell a u) Z b n T:=let ⟨D,h1,h2⟩:=h;⟨D,h1.setCell ha u,h2⟩
theorem Tab.look_ok {t e:TypeId}(h:Tab w Z b n T)(ht:P.underlying t=some (.map kt e)){z:Value}(hz:(zeroValue e).run P w=.ok z w){k:κ}(hk:Z.ok k) :
 (Instr.lookup t (.map (some b)) (Z.val k) true).run P w=.ok (.tuple #[(T k).getD z,.bool (T k).isSome]) w:=by
 obtain⟨D,h1,h2⟩:=h
 obtain⟨v,ps,hrun,hR⟩:=h1.look_ok Z.law ht hz (zd:=.held z) (zp:=[]) rfl (Z.of k hk)
 rw[hrun]
 simp only[rawR,Option.some.injEq,Prod.mk.injEq]at hR
 cases e:T k with
 |none =>
  have hn:=h2.no k hk e
  rw[Maps.atKey_of_not_has hn]at hR
  injection hR.1 with hv
  rw[hn,hv];rfl
 |some u =>
  rw[h2.at' k u e]at hR
  injection hR.1 with hv
  rw[h2.has e,hv];rfl
theorem Tab.look {t e:TypeId}(h:Tab w Z b n T)(ht:P.underlying t=some (.map kt e)){z:Value}(hz:(zeroValue e).run P w=.ok z w){k:κ}(hk:Z.ok k) :
 (Instr.lookup t (.map (some b)) (Z.val k) false).run P w=.ok ((T k).getD z) w:=by
 obtain⟨D,h1,h2⟩:=h
 obtain⟨v,ps,hrun,hR⟩:=h1.lookup Z.law ht hz (zd:=.held z) (zp:=[]) rfl (Z.of k hk)
 rw[hrun]
 simp only[rawR,Option.some.injEq,Prod.mk.injEq]at hR
 cases e:T k with
 |none =>
  have hn:=h2.no k hk e
  rw[Maps.atKey_of_not_has hn]at hR
  injection hR.1 with hv
  rw[hv];rfl
 |some u =>
  rw[h2.at' k u e]at hR
  injection hR.1 with hv
  rw[hv];rfl
def putT (T:κ->Option Value)(k:κ)(v:Value):κ->Option Value:=fun x=>if x=k then some v else T x
theorem Says.put (h:Says Z T D)(hD:Maps.IsMap D){k:κ}(hk:Z.ok k)(v:Value):Says Z (putT T k v) (D.put (Z.lit k) (.held v)):=by
 have hkey:=Z.law.key (Z.of k hk)
 refine⟨fun x u hx=>?_,fun x u hx z=>?_,fun x hx hn=>?_,fun l hl=>?_⟩
 · unfold putT at hx
   split at hx
   · rename_i e;rw[e];exact hk
   · exact h.ok x u hx
 · unfold putT at hx
   split at hx
   · rename_i e;rw[e,Maps.atKey_put_same hD hkey];injection hx with hx;rw[hx]
   · rename_i e;rw[Maps.atKey_put_other (fun e2=>e (Z.lit_inj (h.ok x u hx) hk e2))];exact h.at' x u hx z
 · unfold putT at hn
   split at hn
   · cases hn
   · rename_i e;rw[Maps.has_put_other (fun e2=>e (Z.lit_inj hx hk e2))];exact h.no x hx hn
 · by_cases e:l=Z.lit k
   · exact⟨k,hk,e.symm⟩
   · rw[Maps.has_put_other e]at hl;exact h.all l hl
theorem Tab.store {t e:TypeId}(h:Tab w Z b n T)(ht:P.underlying t=some (.map kt e))(hn:n<maxLen){k:κ}(hk:Z.ok k)(v:Value) :
 ∃ w',(Instr.mapUpdate t (.map (some b)) (Z.val k) v).run P w=.ok () w'/\Tab w' Z b (n+1) (putT T k v)/\w.grownBy w' (some b):=by
 obtain⟨D,h1,h2⟩:=h
 obtain⟨w',hrun,h3,h4⟩:=h1.update Z.law ht hn (Z.of k hk) (d:=.held v) (ps:=[]) rfl
 exact⟨w',hrun,⟨_,h3,h2.put h1.isMap hk v⟩,h4⟩
theorem Tab.range {t e:TypeId}(h:Tab w Z b n T)(ht:P.underlying t=some (.map kt e)) :
 ∃ w' cnt,(Instr.range t (.map (some b))).run P w=.ok (.pointer (some ⟨w.heap.size,0,none⟩)) w'/\Tabs w' Z b w.heap.size n T (fun k=>(T k).isSome) cnt/\w.grownBy w' none/\w'.heap.size=w.heap.size+1:=by
 obtain⟨D,h1,h2⟩:=h
 obtain⟨w',hrun,h3,h4,h5⟩:=h1.range Z.law ht
 refine⟨w',_,hrun,⟨D,_,h3,h2,fun k hk=>?_,h2.all⟩,h4,h5⟩
 cases e:T k with
 |none=>simp only[e];exact h2.no k hk e
 |some v=>simp only[e];exact h2.has e
theorem Tabs.left_eq (h:Tabs w Z b r n T left cnt):w.rangeLeft b r=cnt:=let ⟨D,L,h1,_⟩:=h;h1.left_eq
theorem Tabs.grown {row:Option Nat}(h:Tabs w Z b r n T left cnt)(hg:w.grownBy w' row)(h1:some b≠row)(h2:some r≠row):Tabs w' Z b r n T left cnt :=
 let ⟨D,L,h3,h4⟩:=h;⟨D,L,h3.kept hg h1 h2,h4⟩
theorem Tabs.kept (h:Tabs w Z b r n T left cnt)(hb:Below w.heap.size w w'):Tabs w' Z b r n T left cnt:=h.grown (ZcC hb) (by simp) (by simp)
theorem Tabs.next (h:Tabs w Z b r n T left cnt)(ty:TypeId) :
 ((∀ k,Z.ok k->left k=false)/\(Instr.next (.pointer (some ⟨r,0,none⟩)) false ty).run P w=.ok (.tuple #[.bool false]) w) ∨
 ∃ k v w' cnt',Z.ok k/\left k=true/\T k=some v/\(Instr.next (.pointer (some ⟨r,0,none⟩)) false ty).run P w=.ok (.tuple #[.bool true,Z.val k,v]) w' /\
  Tabs w' Z b r n T (fun x=>left x&&!decide (x=k)) cnt'/\cnt' < cnt/\w.grownBy w' (some r)/\w'.heap.size=w.heap.size/\(Instr.entry (.pointer (some ⟨r,0,none⟩))).run P w'=.ok (.tuple #[Z.val k,v]) w':=by
 obtain⟨D,L,h1,h2,h3,h4⟩:=h
 rcases h1.next Z.law ty with⟨-,hl,hrun⟩|⟨key,v,kl,y,w',cnt',hkey,hlk,hv,hat,hrun,hrg,hlt,hgr,hsz,hen⟩
 · exact Or.inl ⟨fun k hk=>(h3 k hk).symm.trans (hl _),hrun⟩
 · obtain⟨k,hk,rfl⟩:=h4 kl hlk
   have hkv:=Z.law.inj hkey (Z.of k hk)
   subst hkv
   obtain⟨u,hu⟩:=h2.some hk (Maps.has_true_of_atKey hat)
   have huv:u=v:=by
    have e1:=h2.at' k u hu (.held v)
    rw[hat]at e1
    simp only[rawR,Option.some.injEq]at hv
    rw[<-hv]at e1
    injection e1 with e1
    exact e1.symm
   subst huv
   refine Or.inr ⟨k,u,w',cnt',hk,(h3 k hk).symm.trans hlk,hu,hrun,⟨D,_,hrg,h2,fun x hx=>?_,fun l hl=>h4 l (by simp at hl;exact hl.1)⟩,hlt,hgr,hsz,hen⟩
   rw[h3 x hx]
   by_cases e:x=k
   · subst e;rw[WideAt.sameKey_self (Z.law.key (Z.of x hx))];simp
   · rw[Maps.sameKey_ne (fun e2=>e (Z.lit_inj hx hk e2))];simp[e]
variable {ops:Array Oper} {rest:List Oper} {o:Oper} {a:Act} {Q:Exit->Act->World->Prop}
theorem ZeU (hg:o.guard=none)(m x:Operand)(t:TypeId)(hop:o.op=Op.lookup t m x false)(e:TypeId)(ht:P.underlying t=some (.map kt e)){z:Value}(hz:(zeroValue e).run P w=.ok z w)
 (hm:a.eval m=.map (some b)) (h:Tab w Z b n T) (k:κ) (hx:a.eval x=Z.val k) (hk:Z.ok k) (hK:wpList P ops Q rest (a.put o.dst ((T k).getD z)) w):wpList P ops Q (o :: rest) a w:=by
 refine wpList_plain hg fun K' hK'=>?_
 have hrun:=h.look ht hz hk
 unfold Oper.wp
 simp[execOp,hop,hm,hx,hrun,Result.andThen]
 exact hK' _ _ hK
theorem Zdi (hg:o.guard=none)(m x:Operand)(t:TypeId)(hop:o.op=Op.lookup t m x true)(e:TypeId)(ht:P.underlying t=some (.map kt e)){z:Value}(hz:(zeroValue e).run P w=.ok z w)
 (hm:a.eval m=.map (some b)) (h:Tab w Z b n T) (k:κ) (hx:a.eval x=Z.val k) (hk:Z.ok k) (hK:wpList P ops Q rest (a.put o.dst (.tuple #[(T k).getD z,.bool (T k).isSome])) w):wpList P ops Q (o :: rest) a w:=by
 refine wpList_plain hg fun K' hK'=>?_
 have hrun:=h.look_ok ht hz hk
 unfold Oper.wp
 simp[execOp,hop,hm,hx,hrun,Result.andThen]
 exact hK' _ _ hK
theorem wpList_store (hg:o.guard=none)(m x v:Operand)(t:TypeId)(hop:o.op=Op.mapUpdate t m x v)(e:TypeId)(ht:P.underlying t=some (.map kt e))
 (hm:a.eval m=.map (some b)) (h:Tab w Z b n T) (hn:n<maxLen) (k:κ) (hx:a.eval x=Z.val k) (hk:Z.ok k) (val:Value) (hv:a.eval v=val)
 (hK:∀ w',Tab w' Z b (n+1) (putT T k val)->w.grownBy w' (some b)->wpList P ops Q rest (a.put o.dst undef) w'):wpList P ops Q (o :: rest) a w:=by
 refine wpList_plain hg fun K' hK'=>?_
 obtain⟨w',hrun,r1,r2⟩:=h.store ht hn hk val
 unfold Oper.wp
 simp[execOp,hop,hm,hx,hv,hrun,Result.andThen]
 exact hK' _ _ (hK w' r1 r2)
theorem Zel (hg:o.guard=none)(m:Operand)(t:TypeId)(hop:o.op=Op.range t m)(e:TypeId)(ht:P.underlying t=some (.map kt e))(hm:a.eval m=.map (some b))(h:Tab w Z b n T)
 (hK:∀ w' cnt,Tabs w' Z b w.heap.size n T (fun k=>(T k).isSome) cnt->w.grownBy w' none->w'.heap.size=w.heap.size+1->wpList P ops Q rest (a.put o.dst (.pointer (some ⟨w.heap.size,0,none⟩))) w') :
 wpList P ops Q (o :: rest) a w:=by
 refine wpList_plain hg fun K' hK'=>?_
 obtain⟨w',cnt,hrun,r1,r2,r3⟩:=h.range ht
 unfold Oper.wp
 simp[execOp,hop,hm,hrun,Result.andThen]
 exact hK' _ _ (hK w' cnt r1 r2 r3)
end
open Go.ChangeShapes Go.WideShapes Go.ChangeAt
set_option linter.unusedSimpArgs false
theorem Zby {a b:ByteArray}(h:a.toList=b.toList):a=b:=by
 rw[ByteArray.toList_eq,ByteArray.toList_eq]at h
 cases a;cases b
 simp at h
 rw[h]
theorem ZeQ:Cmp cmpS:=(ZeR ZeS).on ByteArray.toList (fun a b h=>Zby h)
abbrev Val:=Int × Int × ByteArray
def cmpV:Val->Val->Int:=fun x y=>orI (cmpI x.1 y.1) (orI (cmpI x.2.1 y.2.1) (cmpS x.2.2 y.2.2))
theorem cmpV_cmp:Cmp cmpV:=Zbn.pair (Zbn.pair ZeQ)
def valC (v:Val):List Value:=[.int .i64 v.1,.int .i64 v.2.1,.string v.2.2]
abbrev RK:=Int × (ByteArray × Int) × Int × Int × ByteArray × ByteArray × List Val
def cmpID:ByteArray × Int->ByteArray × Int->Int:=fun x y=>orI (cmpS x.1 y.1) (cmpI x.2 y.2)
theorem Zb3:Cmp cmpID:=ZeQ.pair Zbn
def cmpR:RK->RK->Int:=fun x y=>orI (cmpI x.1 y.1) (orI (cmpID x.2.1 y.2.1) (orI (cmpI x.2.2.1 y.2.2.1) (orI (cmpI x.2.2.2.1 y.2.2.2.1) (orI (cmpS x.2.2.2.2.1 y.2.2.2.2.1) (orI (cmpS x.2.2.2.2.2.1 y.2.2.2.2.2.1) (cmpL cmpV x.2.2.2.2.2.2 y.2.2.2.2.2.2))))))
theorem ZbP:Cmp cmpR:=Zbn.pair (Zb3.pair (Zbn.pair (Zbn.pair (ZeQ.pair (ZeQ.pair (ZeR cmpV_cmp))))))
abbrev DK:=Int × RK
def cmpD:DK->DK->Int:=fun x y=>orI (cmpI x.1 y.1) (cmpR x.2 y.2)
theorem Zbx:Cmp cmpD:=Zbn.pair ZbP
theorem orI_assoc (x y z:Int):orI (orI x y) z=orI x (orI y z):=by
 unfold orI;by_cases h:x=0
 · rw[if_pos h,if_pos h]
 · rw[if_neg h,if_neg h,if_neg h]
theorem Zcj (x:Int):orI x 0=x:=by unfold orI;split<;>simp[*]
def orL:List Int->Int
 |[]=>0
 |x :: r=>orI x (orL r)
section
variable {α:Type} {enc:α->List Value} {k:Nat} {w w':World}
def Lies (enc:α->List Value)(k:Nat)(w:World)(b off:Nat)(l:List α):Prop:=∀ i x,l[i]?=some x->∀ j v,(enc x)[j]?=some v->w.cell? ⟨b,off+i*k+j,none⟩=some v
def Zac (enc:α->List Value)(k:Nat)(w:World)(ao:Option Addr)(l:List α):Prop:=l=[]∨∃ b off,ao=some ⟨b,off,none⟩/\Lies enc k w b off l
theorem bsome {X w':World}(hb:Below X.heap.size X w'):(∀ p,(X.cell? p).isSome=true->w'.cell? p=X.cell? p)/\(∀ p,(X.cell? p).isSome=true->w'.frozen? p=X.frozen? p):=by
 have hlt:∀ p,(X.cell? p).isSome=true->p.block<X.heap.size:=by
  intro p h
  rcases Nat.lt_or_ge p.block X.heap.size with hp|hp
  · exact hp
  · have:X.heap[p.block]?=none:=Array.getElem?_eq_none hp
    simp[World.cell?,this]at h
 exact⟨fun p h=>hb.cell (hlt p h),fun p h=>hb.frozen (hlt p h)⟩
theorem Zaa {p:Addr}{v:Value}(h:w.cell? p=some v)(hb:Below w.heap.size w w'):w'.cell? p=some v:=by
 rw[(bsome hb).1 p (by rw[h];rfl),h]
theorem Lies.kept {b off:Nat}{l:List α}(h:Lies enc k w b off l)(hb:Below w.heap.size w w'):Lies enc k w' b off l:=fun i x hx j v hv=>Zaa (h i x hx j v hv) hb
theorem Zac.kept {ao:Option Addr}{l:List α}(h:Zac enc k w ao l)(hb:Below w.heap.size w w'):Zac enc k w' ao l:=by
 rcases h with h|⟨b,off,e,h⟩
 · exact Or.inl h
 · exact Or.inr ⟨b,off,e,h.kept hb⟩
theorem Zac.nil (w:World)(ao:Option Addr):Zac enc k w ao []:=Or.inl rfl
def encs (enc:α->List Value)(l:List α):List Value:=l.flatMap enc
theorem Za7 (hk:∀ x,(enc x).length=k)(l:List α):(encs enc l).length=l.length*k:=by
 induction l with
 |nil=>simp[encs]
 |cons x l ih=>simp only[encs,List.flatMap_cons,List.length_append,hk,List.length_cons,Nat.succ_mul]at *;omega
theorem Za8 (l m:List α):encs enc (l++m)=encs enc l++encs enc m:=by simp[encs]
theorem Zd0 (x:α):encs enc [x]=enc x:=by simp[encs]
theorem encs_get (hk:∀ x,(enc x).length=k)(l:List α)(i j:Nat)(x:α)(v:Value)(h:l[i]?=some x)(hv:(enc x)[j]?=some v):(encs enc l)[i*k+j]?=some v:=by
 have hj:j<k:=by rw[<-hk x];exact(List.getElem?_eq_some_iff.1 hv).1
 induction l generalizing i with
 |nil=>simp at h
 |cons y l ih =>
  have e:encs enc (y :: l)=enc y++encs enc l:=by simp[encs]
  rw[e]
  cases i with
  |zero=>simp at h;subst h;rw[Nat.zero_mul,Nat.zero_add,List.getElem?_append_left (by rw[hk];exact hj)];exact hv
  |succ i =>
   simp at h
   rw[List.getElem?_append_right (by rw[hk,Nat.succ_mul];omega),hk,show(i+1)*k+j - k=i*k+j by rw[Nat.succ_mul];omega]
   exact ih i h
theorem ZbB (h1:∀ x,∀ v∈enc x,v.oneCell'=true)(l:List α):∀ v∈encs enc l,v.oneCell'=true:=by
 intro v hv
 simp only[encs,List.mem_flatMap]at hv
 obtain⟨x,_,h⟩:=hv
 exact h1 x v h
theorem Lies.of_cells (hk:∀ x,(enc x).length=k){b off:Nat}{l:List α}(hc:∀ j v,(encs enc l)[j]?=some v->w.cell? ⟨b,off+j,none⟩=some v):Lies enc k w b off l :=
 fun i x hx j v hv=>by rw[Nat.add_assoc];exact hc _ _ (encs_get hk l i j x v hx hv)
theorem encs_inv (hk:∀ x,(enc x).length=k)(Uf:0<k)(l:List α)(j:Nat)(v:Value)(h:(encs enc l)[j]?=some v):∃ x,l[j / k]?=some x/\(enc x)[j % k]?=some v:=by
 have hj:=(List.getElem?_eq_some_iff.1 h).1
 rw[Za7 hk]at hj
 have hi:j / k<l.length:=Nat.div_lt_of_lt_mul (by rw[Nat.mul_comm];exact hj)
 have hm:j % k<k:=Nat.mod_lt _ Uf
 refine⟨l[j / k],List.getElem?_eq_getElem hi,?_⟩
 have hx:(enc l[j / k])[j % k]?=some ((enc l[j / k])[j % k]'(by rw[hk];exact hm)):=List.getElem?_eq_getElem _
 have:=encs_get hk l (j / k) (j % k) l[j / k] _ (List.getElem?_eq_getElem hi) hx
 rw[show j / k*k+j % k=j by rw[Nat.mul_comm];exact Nat.div_add_mod j k,h]at this
 rw[hx,this]
theorem Lies.cells (hk:∀ x,(enc x).length=k)(Uf:0<k){b off:Nat}{l:List α}(h:Lies enc k w b off l)(j:Nat)(v:Value)(hv:(encs enc l)[j]?=some v):w.cell? ⟨b,off+j,none⟩=some v:=by
 obtain⟨x,h1,h2⟩:=encs_inv hk Uf l j v hv
 have:=h _ _ h1 _ _ h2
 rwa [Nat.add_assoc,show j / k*k+j % k=j by rw[Nat.mul_comm];exact Nat.div_add_mod j k]at this
end
structure Rw where
 src:ByteArray
 seq:Int
 tb:ByteArray
 ky:ByteArray
 ev:Int
 fa:Option Addr
 fc:Nat
 no:Int
 tk:Int
 vs:List Val
def Rw.cells (r:Rw):List Value:=[.string r.src,.int .i64 r.seq,.string r.tb,.string r.ky,.int .i64 r.ev,.slice r.fa r.vs.length r.fc,.int .i64 r.no,.int .i64 r.tk]
def I64 (n:Int):Prop:=-9223372036854775808<=n/\n<9223372036854775808
structure Rw.Ok (w:World) (r:Rw):Prop where
 lies:Zac valC 3 w r.fa r.vs
 len:r.vs.length<=1048576
 str:∀ v∈r.vs,v.2.2.size<=1048576
 val:∀ v∈r.vs,I64 v.1/\I64 v.2.1
 src:r.src.size<=1048576
 tb:r.tb.size<=1048576
 ky:r.ky.size<=1048576
 ints:I64 r.seq/\I64 r.ev/\I64 r.no/\I64 r.tk
def Rw.key (r:Rw):RK:=(r.ev,(r.src,r.seq),r.no,r.tk,r.tb,r.ky,r.vs)
theorem Rw.Ok.kept {w w':World}{r:Rw}(h:r.Ok w)(hb:Below w.heap.size w w'):r.Ok w':={ h with lies:=h.lies.kept hb }
structure Dl where
 r:Rw
 tick:Int
 n:Int
def Dl.cells (d:Dl):List Value:=d.r.cells++[.int .i64 d.tick,.int .i64 d.n]
structure Dl.Ok (w:World) (d:Dl):Prop where
 r:d.r.Ok w
 tick:I64 d.tick
 n:I64 d.n
theorem Dl.Ok.kept {w w':World}{d:Dl}(h:d.Ok w)(hb:Below w.heap.size w w'):d.Ok w':={ h with r:=h.r.kept hb }
def Dl.key (d:Dl):DK:=(d.tick,d.r.key)
def Dl.kn (d:Dl):DK × Int:=(d.key,d.n)
theorem Rw.cells_one (r:Rw):∀ v∈r.cells,v.oneCell'=true:=by
 intro v hv
 simp[Rw.cells]at hv
 rcases hv with h|h|h|h|h|h|h|h<;>subst h<;>rfl
theorem Dl.cells_one (d:Dl):∀ v∈d.cells,v.oneCell'=true:=by
 intro v hv
 simp only[Dl.cells,List.mem_append]at hv
 rcases hv with h|h
 · exact d.r.cells_one v h
 · simp at h;rcases h with h|h<;>subst h<;>rfl
abbrev Rw.val (r:Rw):Value:=.agg #[.string r.src,.int .i64 r.seq,.string r.tb,.string r.ky,.int .i64 r.ev,.slice r.fa r.vs.length r.fc,.int .i64 r.no,.int .i64 r.tk]
abbrev Dl.val (d:Dl):Value:=.agg #[.string d.r.src,.int .i64 d.r.seq,.string d.r.tb,.string d.r.ky,.int .i64 d.r.ev,.slice d.r.fa d.r.vs.length d.r.fc,.int .i64 d.r.no,.int .i64 d.r.tk,.int .i64 d.tick,.int .i64 d.n]
def ZaY (w:World)(ao:Option Addr)(l:List Rw):Prop:=Zac Rw.cells 8 w ao l/\∀ r∈l,r.Ok w
def DlsAt (w:World)(ao:Option Addr)(l:List Dl):Prop:=Zac Dl.cells 10 w ao l/\∀ d∈l,d.Ok w
theorem ZaY.kept {w w':World}{ao:Option Addr}{l:List Rw}(h:ZaY w ao l)(hb:Below w.heap.size w w'):ZaY w' ao l:=⟨h.1.kept hb,fun r hr=>(h.2 r hr).kept hb⟩
theorem DlsAt.kept {w w':World}{ao:Option Addr}{l:List Dl}(h:DlsAt w ao l)(hb:Below w.heap.size w w'):DlsAt w' ao l:=⟨h.1.kept hb,fun r hr=>(h.2 r hr).kept hb⟩
theorem Rw.cell {w:World}{b off:Nat}{l:List Rw}(h:Lies Rw.cells 8 w b off l){i:Nat}{r:Rw}(hr:l[i]?=some r) :
 w.cell? ⟨b,off+i*8,none⟩=some (.string r.src)/\w.cell? ⟨b,off+i*8+1,none⟩=some (.int .i64 r.seq)/\w.cell? ⟨b,off+i*8+2,none⟩=some (.string r.tb)/\w.cell? ⟨b,off+i*8+3,none⟩=some (.string r.ky) /\
 w.cell? ⟨b,off+i*8+4,none⟩=some (.int .i64 r.ev)/\w.cell? ⟨b,off+i*8+5,none⟩=some (.slice r.fa r.vs.length r.fc)/\w.cell? ⟨b,off+i*8+6,none⟩=some (.int .i64 r.no)/\w.cell? ⟨b,off+i*8+7,none⟩=some (.int .i64 r.tk) :=
 ⟨h i r hr 0 _ rfl,h i r hr 1 _ rfl,h i r hr 2 _ rfl,h i r hr 3 _ rfl,h i r hr 4 _ rfl,h i r hr 5 _ rfl,h i r hr 6 _ rfl,h i r hr 7 _ rfl⟩
theorem Dl.cell {w:World}{b off:Nat}{l:List Dl}(h:Lies Dl.cells 10 w b off l){i:Nat}{d:Dl}(hr:l[i]?=some d) :
 w.cell? ⟨b,off+i*10,none⟩=some (.string d.r.src)/\w.cell? ⟨b,off+i*10+1,none⟩=some (.int .i64 d.r.seq)/\w.cell? ⟨b,off+i*10+2,none⟩=some (.string d.r.tb)/\w.cell? ⟨b,off+i*10+3,none⟩=some (.string d.r.ky) /\
 w.cell? ⟨b,off+i*10+4,none⟩=some (.int .i64 d.r.ev)/\w.cell? ⟨b,off+i*10+5,none⟩=some (.slice d.r.fa d.r.vs.length d.r.fc)/\w.cell? ⟨b,off+i*10+6,none⟩=some (.int .i64 d.r.no)/\w.cell? ⟨b,off+i*10+7,none⟩=some (.int .i64 d.r.tk) /\
 w.cell? ⟨b,off+i*10+8,none⟩=some (.int .i64 d.tick)/\w.cell? ⟨b,off+i*10+9,none⟩=some (.int .i64 d.n) :=
 ⟨h i d hr 0 _ rfl,h i d hr 1 _ rfl,h i d hr 2 _ rfl,h i d hr 3 _ rfl,h i d hr 4 _ rfl,h i d hr 5 _ rfl,h i d hr 6 _ rfl,h i d hr 7 _ rfl,h i d hr 8 _ rfl,h i d hr 9 _ rfl⟩
theorem ZdD {w:World}{b off:Nat}{l:List Val}(h:Lies valC 3 w b off l){i:Nat}{v:Val}(hv:l[i]?=some v) :
 w.cell? ⟨b,off+i*3,none⟩=some (.int .i64 v.1)/\w.cell? ⟨b,off+i*3+1,none⟩=some (.int .i64 v.2.1)/\w.cell? ⟨b,off+i*3+2,none⟩=some (.string v.2.2) :=
 ⟨h i v hv 0 _ rfl,h i v hv 1 _ rfl,h i v hv 2 _ rfl⟩
end Go.Proofs.YtfnpfkgmacaboaaGreat
