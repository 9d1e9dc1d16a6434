/- Texts joined by a program. -/
import Derived.Test.YtfnpfkgmacaboaaGreatM27
namespace Go.Proofs.YtfnpfkgmacaboaaGreat
set_option linter.unusedVariables false
set_option linter.unusedSimpArgs false
set_option linter.unusedSectionVars false
theorem wrap_mod (n:Int):(IntKind.i64.wrap n - n) % 18446744073709551616=0:=by
 unfold IntKind.wrap
 simp[IntKind.signed,IntKind.bits]
 split<;>omega
theorem ZeN {a b:Int}(ha:I64 a)(hb:I64 b)(h:(a - b) % 18446744073709551616=0):a=b:=by
 unfold I64 at ha hb;omega
section
variable {κ:Type} [DecidableEq κ]
def sumT:List (κ × Int)->κ->Int
 |[],_=>0
 |x :: d,k=>(if x.1=k then x.2 else 0)+sumT d k
theorem Ze9 (k:κ):∀ (l m:List (κ × Int)),sumT (l++m) k=sumT l k+sumT m k
 |[],m=>by simp[sumT]
 |x :: l,m=>by
  show(if x.1=k then x.2 else 0)+sumT (l++m) k=((if x.1=k then x.2 else 0)+sumT l k)+sumT m k
  rw[Ze9 k l m];omega
theorem Zdk (k:κ):∀ (d:List (κ × Int)) (s:Int),I64 s->(d.foldl (fun s x=>if x.1=k then IntKind.i64.wrap (x.2+s)else s) s - (s+sumT d k)) % 18446744073709551616=0/\I64 (d.foldl (fun s x=>if x.1=k then IntKind.i64.wrap (x.2+s)else s) s)
 |[],s,h=>⟨by simp[sumT],h⟩
 |x :: d,s,h=>by
  rw[List.foldl_cons]
  by_cases e:x.1=k
  · rw[if_pos e]
    obtain⟨h1,h2⟩:=Zdk k d (IntKind.i64.wrap (x.2+s)) (I64.wrap _)
    refine⟨?_,h2⟩
    have:=wrap_mod (x.2+s)
    rw[show sumT (x :: d) k=x.2+sumT d k by rw[sumT,if_pos e]]
    omega
  · rw[if_neg e]
    obtain⟨h1,h2⟩:=Zdk k d s h
    refine⟨?_,h2⟩
    rw[show sumT (x :: d) k=sumT d k by rw[sumT,if_neg e,Int.zero_add]]
    exact h1
theorem ZdX (d:List (κ × Int))(k:κ):(sumK d k - sumT d k) % 18446744073709551616=0:=by
 have:=(Zdk k d 0 (by unfold I64;omega)).1
 rw[Int.zero_add]at this
 exact this
theorem ZdY (d:List (κ × Int))(k:κ):I64 (sumK d k):=(Zdk k d 0 (by unfold I64;omega)).2
theorem sumK_of_mod {d e:List (κ × Int)}{k:κ}(h:(sumT d k - sumT e k) % 18446744073709551616=0):sumK d k=sumK e k:=by
 have h1:=ZdX d k
 have h2:=ZdX e k
 exact ZeN (ZdY d k) (ZdY e k) (by omega)
theorem Ze8 {c:κ->κ->Int}(hc:Cmp c)(k:κ):∀ (r:List (κ × Int)),Rising c r->sumT r k=look r k
 |[],_=>rfl
 |y :: r,hr=>by
  obtain⟨a1,a2⟩:=List.pairwise_cons.1 hr
  unfold sumT look
  rw[Ze8 hc k r a2]
  by_cases e:y.1=k
  · rw[if_pos e,if_pos e,Zd8 r (fun z hz e2=>by have:=a1 z hz;rw[e,e2,hc.refl]at this;omega)]
    omega
  · rw[if_neg e,if_neg e];omega
end
def Ints (L:List (DK × Int)):Prop:=∀ x∈L,I64 x.2
theorem Ints.append {L M:List (DK × Int)}(h:Ints L)(k:Ints M):Ints (L++M):=fun x hx=>(List.mem_append.1 hx).elim (h x) (k x)
theorem Ints.cons {L:List (DK × Int)}(h:Ints L):Ints (consK L):=fun x hx=>by
 rw[((Zb1 L h).mem ZaW x).1 hx |>.1]
 exact ZdY _ _
theorem Ints.nil:Ints []:=fun x hx=>by cases hx
theorem Zdc {L M:List (DK × Int)}(hL:Ints L)(hM:Ints M)(h:∀ k,(sumT L k - sumT M k) % 18446744073709551616=0):consK L=consK M:=by
 refine ZbU.unique ZaW (Zb1 L hL) ?_
 have:=Zb1 M hM
 exact⟨this.rising,this.some,fun k=>by rw[this.look,sumK_of_mod (h k)]⟩
theorem Zct {L:List (DK × Int)}(hL:Ints L)(k:DK):(sumT (consK L) k - sumT L k) % 18446744073709551616=0:=by
 have h:=Zb1 L hL
 rw[Ze8 ZaW k _ h.rising,h.look]
 exact ZdX L k
def sumP (f:DK->Bool):List (DK × Int)->Int
 |[]=>0
 |x :: d=>(if f x.1=true then x.2 else 0)+sumP f d
theorem ZcB (f:DK->Bool):∀ (l m:List (DK × Int)),sumP f (l++m)=sumP f l+sumP f m
 |[],m=>by simp[sumP]
 |x :: l,m=>by
  show(if f x.1=true then x.2 else 0)+sumP f (l++m)=((if f x.1=true then x.2 else 0)+sumP f l)+sumP f m
  rw[ZcB f l m];omega
theorem sumP_put (f:DK->Bool)(x:DK × Int):∀ (l:List (DK × Int)),(sumP f (putK cmpD l x) - (sumP f l+(if f x.1=true then x.2 else 0))) % 18446744073709551616=0
 |[]=>by
  unfold putK
  by_cases h:x.2=0
  · rw[if_pos h];simp[sumP,h]
  · rw[if_neg h];simp[sumP]
 |y :: l=>by
  unfold putK
  split
  · have:=sumP_put f x l
    show(((if f y.1=true then y.2 else 0)+sumP f (putK cmpD l x)) - (((if f y.1=true then y.2 else 0)+sumP f l)+_)) % _=0
    omega
  · rename_i h1
    split
    · split
      · rename_i h3
        rw[h3];simp
      · show(((if f x.1=true then x.2 else 0)+sumP f (y :: l)) - _) % _=0
        omega
    · rename_i h2
      have e:x.1=y.1:=(ZaW.zero _ _).1 (by
       have:=ZaW.turn x.1 y.1
       have:=ZaW.turn y.1 x.1
       omega)
      have hw:=wrap_mod (x.2+y.2)
      split
      · rename_i h3
        rw[h3]at hw
        show(sumP f l - (((if f y.1=true then y.2 else 0)+sumP f l)+_)) % _=0
        rw[e]
        split<;>omega
      · show(((if f x.1=true then IntKind.i64.wrap (x.2+y.2)else 0)+sumP f l) - (((if f y.1=true then y.2 else 0)+sumP f l)+_)) % _=0
        rw[e]
        split<;>omega
theorem ZdW (f:DK->Bool)(L:List (DK × Int)):(sumP f (consK L) - sumP f L) % 18446744073709551616=0:=by
 have key:∀ (L M:List (DK × Int)),(sumP f (L.foldl (putK cmpD) M) - (sumP f M+sumP f L)) % 18446744073709551616=0:=by
  intro L
  induction L with
  |nil=>intro M;simp[sumP]
  |cons x L ih =>
   intro M
   rw[List.foldl_cons]
   have h1:=ih (putK cmpD M x)
   have h2:=sumP_put f x M
   show(_ - (sumP f M+((if f x.1=true then x.2 else 0)+sumP f L))) % _=0
   omega
 have:=key L []
 unfold consK
 show(_ - sumP f L) % _=0
 have e:sumP f []=0:=rfl
 omega
def upF (t:Int)(k:RK):DK->Bool:=fun x=>decide (x.1<=t)&&decide (x.2=k)
theorem cntK_mod (k:RK)(t:Int)(L:List (DK × Int)):(cntK L k t - sumP (upF t k) L) % 18446744073709551616=0/\I64 (cntK L k t):=by
 have key:∀ (L:List (DK × Int)) (s:Int),I64 s->(L.foldl (fun s x=>if x.1.1<=t/\x.1.2=k then IntKind.i64.wrap (s+x.2)else s) s - (s+sumP (upF t k) L)) % 18446744073709551616=0/\I64 (L.foldl (fun s x=>if x.1.1<=t/\x.1.2=k then IntKind.i64.wrap (s+x.2)else s) s):=by
  intro L
  induction L with
  |nil=>intro s hs;exact⟨by simp[sumP],hs⟩
  |cons x L ih =>
   intro s hs
   rw[List.foldl_cons]
   by_cases e:x.1.1<=t/\x.1.2=k
   · rw[if_pos e]
     obtain⟨h1,h2⟩:=ih (IntKind.i64.wrap (s+x.2)) (I64.wrap _)
     refine⟨?_,h2⟩
     have:=wrap_mod (s+x.2)
     have e2:sumP (upF t k) (x :: L)=x.2+sumP (upF t k) L:=by
      show(if upF t k x.1=true then x.2 else 0)+_=_
      rw[if_pos (by unfold upF;simp[e.1,e.2])]
     omega
   · rw[if_neg e]
     obtain⟨h1,h2⟩:=ih s hs
     refine⟨?_,h2⟩
     have e2:sumP (upF t k) (x :: L)=sumP (upF t k) L:=by
      show(if upF t k x.1=true then x.2 else 0)+_=_
      rw[if_neg (by unfold upF;simpa using e)]
      omega
     omega
 have:=key L 0 (by unfold I64;omega)
 unfold cntK
 exact⟨by have:=this.1;omega,this.2⟩
def cntR:List Rw->RK->Int
 |[],_=>0
 |r :: l,k=>(if r.key=k then 1 else 0)+cntR l k
theorem ZeT {k:RK}:∀ {l:List Rw},(∀ r∈l,r.key≠k)->cntR l k=0
 |[],_=>rfl
 |r :: l,h=>by
  unfold cntR
  rw[if_neg (h r (by simp)),ZeT (fun y hy=>h y (by simp[hy]))];rfl
theorem cntR_in {r:Rw}:∀ {l:List Rw},r∈l->0<cntR l r.key
 |x :: l,h=>by
  have hn:∀ (l:List Rw) (k:RK),0<=cntR l k:=by
   intro l k
   induction l with
   |nil=>exact Int.le_refl _
   |cons y l ih=>unfold cntR;split<;>omega
  unfold cntR
  rcases List.mem_cons.1 h with h|h
  · subst h;rw[if_pos rfl];have:=hn l r.key;omega
  · have:=cntR_in h
    split<;>omega
theorem Zfz {k:RK}{l:List Rw}(h:cntR l k≠0):∃ r∈l,r.key=k:=by
 by_cases q:∃ r∈l,r.key=k
 · exact q
 · exact absurd (ZeT (fun r hr e=>q ⟨r,hr,e⟩)) h
theorem cntR_le {β:Type}{k:RK}{c:Rw->β}(hc:∀ r s:Rw,r.key=s.key->c r=c s):∀ {l:List Rw},(l.map c).Nodup->0<=cntR l k/\cntR l k<=1
 |[],_=>⟨Int.le_refl _,by show(0:Int)<=1;decide⟩
 |r :: l,h=>by
  rw[List.map_cons,List.nodup_cons]at h
  unfold cntR
  by_cases e:r.key=k
  · rw[if_pos e,ZeT (fun s hs e2=>h.1 (List.mem_map.2 ⟨s,hs,hc s r (e2.trans e.symm)⟩))]
    omega
  · rw[if_neg e]
    have:=cntR_le (k:=k) hc h.2
    omega
theorem Zfa (f:DK->Bool)(t n:Int):∀ (l:List Rw),sumP f ((l.map (fun r=>(⟨r,t,n⟩:Dl))).map Dl.kn)=n*(l.map (fun r=>if f (t,r.key)=true then(1:Int)else 0)).sum
 |[]=>by simp[sumP]
 |r :: l=>by
  have:=Zfa f t n l
  show(if f (t,r.key)=true then n else 0)+sumP f _=n*((if f (t,r.key)=true then(1:Int)else 0)+_)
  rw[this,Int.mul_add]
  congr 1
  split<;>simp
theorem sum_up {t':Int}{k:RK}{t:Int}(h:t<=t'):∀ (l:List Rw),(l.map (fun r=>if upF t' k (t,r.key)=true then(1:Int)else 0)).sum=cntR l k
 |[]=>rfl
 |r :: l=>by
  rw[List.map_cons,List.sum_cons,sum_up h l]
  show _=(if r.key=k then 1 else 0)+cntR l k
  congr 1
  unfold upF
  by_cases e:r.key=k<;>simp[e,h]
theorem sum_out {t':Int}{k:RK}{t:Int}(h:¬ t<=t'):∀ (l:List Rw),(l.map (fun r=>if upF t' k (t,r.key)=true then(1:Int)else 0)).sum=0
 |[]=>rfl
 |r :: l=>by
  rw[List.map_cons,List.sum_cons,sum_out h l]
  unfold upF
  simp[h]
theorem sumP_bet (a b:List Rw)(t t':Int)(k:RK):sumP (upF t' k) ((betD a b t).map Dl.kn)=if t<=t' then cntR b k - cntR a k else 0:=by
 unfold betD
 rw[List.map_append,ZcB,Zfa,Zfa]
 by_cases h:t<=t'
 · rw[if_pos h,sum_up h,sum_up h];omega
 · rw[if_neg h,sum_out h,sum_out h];omega
def Order (l:List En):Prop:=l.Pairwise (fun x y=>x.tick<=y.tick)
theorem Zdr {l m:List En}{t u:Int}(h:∀ k,effF l t k=effF m u k):effL l t=effL m u:=by
 have e:EffIs l t=EffIs m u:=by
  funext rows
  apply propext
  exact⟨fun q=>⟨q.rise,fun r hr=>by rw[<-h];exact q.mem r hr,fun k r hr=>q.all k r (by rw[h];exact hr)⟩,fun q=>⟨q.rise,fun r hr=>by rw[h];exact q.mem r hr,fun k r hr=>q.all k r (by rw[<-h];exact hr)⟩⟩
 by_cases q:∃ rows,EffIs l t rows
 · obtain⟨rows,hr⟩:=q
   rw[Zcr hr]
   rw[e]at hr
   rw[Zcr hr]
 · have q2:¬ ∃ rows,EffIs m u rows:=fun⟨rows,hr⟩=>q ⟨rows,by rw[e];exact hr⟩
   unfold effL
   rw[dif_neg q,dif_neg q2]
theorem Zee {l:List En}{t u:Int}(h:untl l t=untl l u):effL l t=effL l u:=Zdr fun k=>by unfold effF;rw[h]
theorem effL_none {l:List En}{t:Int}(h:untl l t=[]):effL l t=[]:=by
 refine Zcr ⟨List.Pairwise.nil,(fun r hr=>by cases hr),fun k r hr=>?_⟩
 unfold effF at hr
 rw[h]at hr
 cases hr
theorem untl_eq {l:List En}{t u:Int}(h:∀ x∈l,(x.tick<=t↔x.tick<=u)):untl l t=untl l u:=by
 unfold untl
 exact List.filter_congr fun x hx=>by simp[h x hx]
theorem untl_none {l:List En}{t:Int}(h:∀ x∈l,t<x.tick):untl l t=[]:=by
 unfold untl
 rw[List.filter_eq_nil_iff]
 intro x hx
 have:=h x hx
 simp;omega
theorem untl_all {l:List En}{t:Int}(h:∀ x∈l,x.tick<=t):untl l t=l:=by
 unfold untl
 rw[List.filter_eq_self]
 intro x hx
 simpa using h x hx
theorem Order.at {l:List En}(h:Order l){i j:Nat}{x y:En}(hx:l[i]?=some x)(hy:l[j]?=some y)(hij:i<j):x.tick<=y.tick:=by
 obtain⟨hi,rfl⟩:=List.getElem?_eq_some_iff.1 hx
 obtain⟨hj,rfl⟩:=List.getElem?_eq_some_iff.1 hy
 exact List.pairwise_iff_getElem.1 h i j hi hj hij
structure FrInv (l:List En) (i:Nat):Prop where
 low:∀ t k,(∀ x,l[i]?=some x->t<x.tick)->sumP (upF t k) ((frS l i).1.map Dl.kn)=cntR (effL l t) k
 high:∀ x,l[i]?=some x->∀ t k,x.tick<=t->sumP (upF t k) ((frS l i).1.map Dl.kn)=cntR (frS l i).2 k
 rows:∀ x,l[i]?=some x->(frS l i).2=effL l (x.tick - 1)
theorem mem_at {l:List En}{x:En}(h:x∈l):∃ j:Nat,l[j]?=some x:=by
 obtain⟨j,hj,rfl⟩:=List.mem_iff_getElem.1 h
 exact⟨j,List.getElem?_eq_getElem hj⟩
theorem frInv {l:List En}(h:Order l):∀ i,i<=l.length->FrInv l i:=by
 intro i
 induction i with
 |zero =>
  intro _
  have before:∀ t,(∀ x,l[0]?=some x->t<x.tick)->untl l t=[]:=by
   intro t ht
   refine untl_none fun y hy=>?_
   obtain⟨j,hj⟩:=mem_at hy
   have hl:0<l.length:=by have:=(List.getElem?_eq_some_iff.1 hj).1;omega
   have h0:l[0]?=some l[0]:=List.getElem?_eq_getElem hl
   have h1:=ht _ h0
   by_cases e:j=0
   · subst e;rw[h0]at hj;injection hj with hj;rw[<-hj];exact h1
   · have:=h.at h0 hj (by omega);omega
  refine⟨fun t k ht=>?_,fun x hx t k ht=>?_,fun x hx=>?_⟩
  · rw[effL_none (before t ht)];rfl
  · rfl
  · rw[effL_none (before _ (fun y hy=>by rw[hx]at hy;injection hy with hy;subst hy;omega))];rfl
 |succ i ih =>
  intro hi
  have I:=ih (by omega)
  obtain⟨x,hx⟩:∃ x,l[i]?=some x:=⟨l[i],List.getElem?_eq_getElem hi⟩
  have hxt:Zc0 l i=x.tick:=by unfold Zc0;rw[hx]
  rw[show FrInv l (i+1)=FrInv l (i+1) from rfl]
  by_cases hs:Zbv l i=true
  · have e:frS l (i+1)=frS l i:=by rw[ZcK];unfold Zcl;rw[if_pos hs]
    obtain⟨y,hy,hyt⟩:∃ y,l[i+1]?=some y/\y.tick=x.tick:=by
     unfold Zbv at hs
     rw[hx]at hs
     cases hy:l[i+1]? with
     |none=>rw[hy]at hs;cases hs
     |some y=>rw[hy]at hs;exact⟨y,rfl,by simpa using hs⟩
    refine⟨fun t k ht=>?_,fun z hz t k ht=>?_,fun z hz=>?_⟩
    · rw[e]
      refine I.low t k (fun z hz=>?_)
      rw[hx]at hz
      injection hz with hz
      subst hz
      have:=ht y hy
      omega
    · rw[hy]at hz;injection hz with hz;subst hz
      rw[e];exact I.high x hx t k (by omega)
    · rw[hy]at hz;injection hz with hz;subst hz
      rw[e,I.rows x hx,hyt]
  · have e:frS l (i+1)=((frS l i).1++betD (frS l i).2 (effL l x.tick) x.tick,effL l x.tick):=by rw[ZcK];unfold Zcl;rw[if_neg hs,hxt]
    have gap:∀ y,l[i+1]?=some y->x.tick<y.tick:=by
     intro y hy
     have h1:=h.at hx hy (by omega)
     have h2:y.tick≠x.tick:=fun q=>hs (by unfold Zbv;rw[hx,hy];simp[q])
     omega
    -- between this tick and the next one nothing is new
    have still:∀ t,x.tick<=t->(∀ y,l[i+1]?=some y->t<y.tick)->untl l t=untl l x.tick:=by
     intro t h1 h2
     refine untl_eq fun z hz=>⟨fun h3=>?_,fun h3=>by omega⟩
     obtain⟨j,hj⟩:=mem_at hz
     by_cases q:j<=i
     · by_cases q2:j=i
       · subst q2;rw[hx]at hj;injection hj with hj;rw[hj];exact Int.le_refl _
       · exact h.at hj hx (by omega)
     · have hlt:i+1<l.length:=by have:=(List.getElem?_eq_some_iff.1 hj).1;omega
       have hy:l[i+1]?=some l[i+1]:=List.getElem?_eq_getElem hlt
       have h4:=h2 _ hy
       by_cases q2:j=i+1
       · subst q2;rw[hy]at hj;injection hj with hj;rw[<-hj]at h3;omega
       · have:=h.at hy hj (by omega);omega
    have sum:∀ t k,sumP (upF t k) ((frS l (i+1)).1.map Dl.kn)=sumP (upF t k) ((frS l i).1.map Dl.kn)+if x.tick<=t then cntR (effL l x.tick) k - cntR (frS l i).2 k else 0:=by
     intro t k
     rw[e,List.map_append,ZcB,sumP_bet]
    refine⟨fun t k ht=>?_,fun y hy t k ht=>?_,fun y hy=>?_⟩
    · rw[sum]
      by_cases q:x.tick<=t
      · rw[if_pos q,I.high x hx t k q,Zee (still t q ht)];omega
      · rw[if_neg q,I.low t k (fun z hz=>by rw[hx]at hz;injection hz with hz;subst hz;omega)];omega
    · have:=gap y hy
      have e2:(frS l (i+1)).2=effL l x.tick:=by rw[e]
      rw[sum,if_pos (by omega),I.high x hx t k (by omega),e2];omega
    · rw[e]
      exact(Zee (still (y.tick - 1) (by have:=gap y hy;omega) (fun z hz=>by rw[hy]at hz;injection hz with hz;subst hz;omega))).symm
theorem Zc9 {l:List En}(h:Order l)(t:Int)(k:RK):sumP (upF t k) ((fromL l).map Dl.kn)=cntR (effL l t) k:=by
 unfold fromL
 exact(frInv h l.length (Nat.le_refl _)).low t k (fun x hx=>by rw[List.getElem?_eq_none (Nat.le_refl _)]at hx;cases hx)
theorem sumT_up (L:List (DK × Int))(t:Int)(k:RK):sumT L (t,k)=sumP (upF t k) L - sumP (upF (t - 1) k) L:=by
 induction L with
 |nil=>rfl
 |cons x L ih =>
  unfold sumT sumP
  rw[ih]
  unfold upF
  by_cases e2:x.1.2=k
  · by_cases e1:x.1.1=t
    · have:x.1=(t,k):=Prod.ext e1 e2
      simp[this];omega
    · have:x.1≠(t,k):=fun q=>e1 (by rw[q])
      by_cases e3:x.1.1<=t
      · have e4:x.1.1<=t - 1:=by omega
        simp[this,e2,e3,e4];omega
      · have e4:¬ x.1.1<=t - 1:=by omega
        simp[this,e2,e3,e4]
  · have:x.1≠(t,k):=fun q=>e2 (by rw[q])
    simp[this,e2]
theorem ZbK {l:List En}(h:Order l)(t:Int)(k:RK):sumT ((fromL l).map Dl.kn) (t,k)=cntR (effL l t) k - cntR (effL l (t - 1)) k:=by
 rw[sumT_up,Zc9 h,Zc9 h]
theorem ZcC {s:Er}{x:En}(h:x.kind=3/\x.ck=1):stepR s x={ s with kinds:=fun k=>if k=x.tn then some x.te else s.kinds k }:=if_pos h
theorem Zcu {s:Er}{x:En}(h:x.kind=1)(h2:x.fk≠3):stepR s x={ s with about:=fun k=>if k=whoF s x then s.about k++[x.base]else s.about k }:=by
 unfold stepR
 rw[if_neg (fun q=>by rw[h]at q;exact absurd q.1 (by decide)),if_pos ⟨h,h2⟩]
theorem ZbC {s:Er}{x:En}(h:x.kind=1)(h2:x.fk=3):stepR s x=s:=by
 unfold stepR
 rw[if_neg (fun q=>by rw[h]at q;exact absurd q.1 (by decide)),if_neg (fun q=>q.2 h2),if_neg (fun q=>by rw[h]at q;exact absurd q.1 (by decide)),if_neg (by rw[h];decide)]
theorem ZbN {s:Er}{x:En}(h:x.kind=2)(h2:x.ek=2):stepR s x={ s with ids:=fun k=>eqF k (x.esr,x.esq)||s.ids k }:=by
 unfold stepR
 rw[if_neg (fun q=>by rw[h]at q;exact absurd q.1 (by decide)),if_neg (fun q=>by rw[h]at q;exact absurd q.1 (by decide)),if_pos ⟨h,h2⟩]
theorem Zcg {s:Er}{x:En}(h:x.kind=2)(h2:x.ek≠2):stepR s x={ s with ids:=fun k=>memF (s.about (x.een,x.eky)) k||s.ids k }:=by
 unfold stepR
 rw[if_neg (fun q=>by rw[h]at q;exact absurd q.1 (by decide)),if_neg (fun q=>by rw[h]at q;exact absurd q.1 (by decide)),if_neg (fun q=>h2 q.2),if_pos h]
theorem Zdm {s:Er}{x:En}(h:¬ (x.kind=3/\x.ck=1))(h1:x.kind≠1)(h2:x.kind≠2):stepR s x=s:=by
 unfold stepR
 rw[if_neg h,if_neg (fun q=>h1 q.1),if_neg (fun q=>h2 q.1),if_neg h2]
theorem ZdC (x:En):(x.kind=3/\x.ck=1)∨(x.kind=1/\x.fk≠3)∨(x.kind=1/\x.fk=3)∨(x.kind=2/\x.ek=2)∨(x.kind=2/\x.ek≠2)∨(¬ (x.kind=3/\x.ck=1)/\x.kind≠1/\x.kind≠2):=by omega
theorem ids_mono (s:Er)(x:En)(k:FID)(h:s.ids k=true):(stepR s x).ids k=true:=by
 rcases ZdC x with q|q|q|q|q|q
 · rw[ZcC q];exact h
 · rw[Zcu q.1 q.2];exact h
 · rw[ZbC q.1 q.2];exact h
 · rw[ZbN q.1 q.2]
   show(eqF k _||s.ids k)=true
   rw[h,Bool.or_true]
 · rw[Zcg q.1 q.2]
   show(memF _ k||s.ids k)=true
   rw[h,Bool.or_true]
 · rw[Zdm q.1 q.2.1 q.2.2];exact h
theorem ids_fold:∀ (l:List En) (s:Er) (k:FID),s.ids k=true->(l.foldl stepR s).ids k=true
 |[],_,_,h=>h
 |x :: l,s,k,h=>ids_fold l _ k (ids_mono s x k h)
theorem erF_append (l m:List En)(k:FID)(h:erF l k=true):erF (l++m) k=true:=by
 unfold erF erS at h ⊢
 rw[List.foldl_append]
 exact ids_fold m _ k h
theorem erF_other (l:List En)(x:En)(hx:x.kind≠2)(k:FID):erF (l++[x]) k=erF l k:=by
 unfold erF
 rw[erS_snoc]
 rcases ZdC x with q|q|q|q|q|q
 · rw[ZcC q]
 · rw[Zcu q.1 q.2]
 · rw[ZbC q.1 q.2]
 · exact absurd q.1 hx
 · exact absurd q.1 hx
 · rw[Zdm q.1 q.2.1 q.2.2]
theorem dedup_some {α:Type}:∀ (l:List α),∃ d:List α,d.Nodup/\∀ k,k∈d↔k∈l
 |[]=>⟨[],List.Pairwise.nil,fun k=>Iff.rfl⟩
 |x :: l=>by
  obtain⟨d,h1,h2⟩:=dedup_some l
  by_cases h:x∈d
  · exact⟨d,h1,fun k=>by rw[List.mem_cons,h2];exact⟨Or.inr,fun q=>q.elim (fun q=>by rw[q];exact(h2 x).1 h) id⟩⟩
  · exact⟨x :: d,List.nodup_cons.2 ⟨h,h1⟩,fun k=>by rw[List.mem_cons,List.mem_cons,h2]⟩
theorem basesF_key:∀ (l:List En) (F:FID->Option Bs) (k:FID) (b:Bs),l.foldl stepB F k=some b->(∃ x∈l,x.kind=1/\x.base=k)∨F k=some b
 |[],F,k,b,h=>Or.inr h
 |x :: l,F,k,b,h=>by
  rcases basesF_key l (stepB F x) k b h with⟨y,hy,h2⟩|h2
  · exact Or.inl ⟨y,by simp[hy],h2⟩
  · unfold stepB at h2
    split at h2
    · rename_i hk
      replace h2:(if eqF k x.base=true then some (nextB ((F k).getD zeroB) x)else F k)=some b:=h2
      by_cases e:eqF k x.base=true
      · exact Or.inl ⟨x,by simp,hk,(Zba.1 e).symm⟩
      · rw[if_neg e]at h2;exact Or.inr h2
    · exact Or.inr h2
theorem Zfw {l:List En}{t:Int}(hl:∀ x∈l,OkF x.base):EffIs l t (effL l t):=by
 have hex:∃ rows,EffIs l t rows:=by
  obtain⟨d,h1,h2⟩:=dedup_some (l.map En.base)
  have hT:TookE l t (fun _=>false) (d.filterMap (effF l t)):=by
   refine⟨fun r hr=>?_,fun k _ r hr=>?_,?_⟩
   · obtain⟨k,hk,e⟩:=List.mem_filterMap.1 hr
     have ek:=Zef e
     obtain⟨y,hy,hyb⟩:=List.mem_map.1 ((h2 k).1 hk)
     exact⟨by rw[ek];exact e,by rw[ek,<-hyb];exact hl y hy,rfl⟩
   · refine List.mem_filterMap.2 ⟨k.1,(h2 _).2 ?_,hr⟩
     have he:=hr
     unfold effF at he
     split at he
     · rename_i b hb
       rcases basesF_key _ _ _ _ hb with⟨y,hy,-,hyb⟩|q
       · exact List.mem_map.2 ⟨y,(ZcA hy).1,hyb⟩
       · cases q
     · cases he
   · have:∀ (d:List FID),d.Nodup->((d.filterMap (effF l t)).map (fun r=>((r.src,r.seq):FID))).Nodup:=by
       intro d
       induction d with
       |nil=>intro _;exact List.Pairwise.nil
       |cons k d ih =>
        intro h
        rw[List.nodup_cons]at h
        cases e:effF l t k with
        |none=>rw[List.filterMap_cons_none e];exact ih h.2
        |some r =>
         rw[List.filterMap_cons_some e,List.map_cons,List.nodup_cons]
         refine⟨fun q=>?_,ih h.2⟩
         obtain⟨s,hs,hq⟩:=List.mem_map.1 q
         obtain⟨k2,hk2,e2⟩:=List.mem_filterMap.1 hs
         have a1:=Zef e
         have a2:=Zef e2
         have:k2=k:=by rw[<-a1,<-a2];exact hq
         rw[this]at hk2
         exact h.1 hk2
     exact this d h1
  refine⟨_,hT.done (fun _=>rfl) hl (List.mergeSort_perm _ (fun x y=>!decide (cmpE y.ek x.ek<0))).symm ?_⟩
  have:=List.pairwise_mergeSort (le:=fun x y:Rw=>!decide (cmpE y.ek x.ek<0)) (fun a b c h1 h2=>?_) (fun a b=>?_) (d.filterMap (effF l t))
  · exact this.imp (fun {a b} h=>by simpa using h)
  · simp only[Bool.not_eq_true',decide_eq_false_iff_not]at h1 h2 ⊢
    intro h3
    have t1:=Za7.turn a.ek b.ek
    have t2:=Za7.turn b.ek c.ek
    have z1:=Za7.zero a.ek b.ek
    have z2:=Za7.zero b.ek c.ek
    by_cases q1:a.ek=b.ek
    · rw[q1]at h3;exact h2 h3
    · by_cases q2:b.ek=c.ek
      · rw[<-q2]at h3;exact h1 h3
      · have b1:cmpE a.ek b.ek<0:=by
          have:cmpE a.ek b.ek≠0:=fun q=>q1 (z1.1 q)
          have:=Za7.turn b.ek a.ek
          omega
        have b2:cmpE b.ek c.ek<0:=by
         have:cmpE b.ek c.ek≠0:=fun q=>q2 (z2.1 q)
         have:=Za7.turn c.ek b.ek
         omega
        have:=Za7.trans _ _ _ b1 b2
        have:=Za7.turn a.ek c.ek
        omega
  · simp only[Bool.or_eq_true,Bool.not_eq_true',decide_eq_false_iff_not]
    have:=Za7.turn a.ek b.ek
    omega
 unfold effL
 rw[dif_pos hex]
 exact Classical.choose_spec hex
theorem effF_other (l:List En)(x:En)(hx:x.kind≠2){t u:Int}(h:untl (l++[x]) t=untl (l++[x]) u)(k:FID):effF (l++[x]) t k=effF (l++[x]) u k:=by
 unfold effF;rw[h]
theorem Zev (l:List En)(x:En)(hx:x.kind≠2){t:Int}(ht:t<x.tick):effL (l++[x]) t=effL l t:=Zdr fun k=>by
 unfold effF
 rw[erF_other l x hx k,Ze4,if_neg (by omega),List.append_nil]
theorem effF_erase (l:List En)(x:En)(hx:x.kind=2)(t:Int)(k:FID):effF (l++[x]) t k=if erF (l++[x]) k=true then none else effF l t k:=by
 have hb:Zbg (untl (l++[x]) t) k=Zbg (untl l t) k:=by
  rw[Ze4]
  split
  · rw[ZdJ];unfold stepB;rw[if_neg (by rw[hx];decide)]
  · rw[List.append_nil]
 unfold effF
 rw[hb]
 by_cases h:erF (l++[x]) k=true
 · rw[if_pos h]
   split
   · rw[if_neg (by rw[h];simp)]
   · rfl
 · rw[if_neg h]
   have h2:¬ erF l k=true:=fun q=>h (erF_append l [x] k q)
   rw[Bool.not_eq_true]at h h2
   rw[h,h2]
def keepR (g:FID->Bool)(rows:List Rw):List Rw:=rows.filter (fun r=>!g (r.src,r.seq))
theorem effL_keep {l m:List En}{t u:Int}(g:FID->Bool)(hl:∀ x∈l,OkF x.base)(h:∀ k,effF m u k=if g k=true then none else effF l t k):effL m u=keepR g (effL l t):=by
 have E:=Zfw (t:=t) hl
 refine Zcr ⟨E.rise.filter _,fun r hr=>?_,fun k r hr=>?_⟩
 · obtain⟨h1,h2⟩:=List.mem_filter.1 hr
   rw[h,if_neg (by simpa using h2)]
   exact E.mem r h1
 · rw[h]at hr
   split at hr
   · cases hr
   · rename_i hg
     have hk:=Zef hr
     exact List.mem_filter.2 ⟨E.all k r hr,by rw[hk];simpa using hg⟩
theorem effL_gone {l:List En}{t:Int}(hl:∀ x∈l,OkF x.base){r:Rw}(hr:r∈effL l t):erF l (r.src,r.seq)=false:=by
 have:=(Zfw hl).mem r hr
 unfold effF at this
 split at this
 · split at this
   · rename_i h;exact h.2.2
   · cases this
 · cases this
def puE (x:En):En:={ zeroE with no:=x.no,tick:=x.tick,kind:=2,ek:=2,esr:=x.base.1,esq:=x.base.2 }
def puX (g:FID->Bool)(x:En):En:=if x.kind=1/\g x.base=true then puE x else x
def Zdx (l:List En):List En:=l.map (puX (erF l))
theorem puX_tick (g:FID->Bool)(x:En):(puX g x).tick=x.tick:=by unfold puX;split<;>rfl
theorem puX_no (g:FID->Bool)(x:En):(puX g x).no=x.no:=by unfold puX;split<;>rfl
theorem untl_pu (g:FID->Bool)(l:List En)(t:Int):untl (l.map (puX g)) t=(untl l t).map (puX g):=by
 unfold untl
 rw[List.filter_map]
 congr 1
 exact List.filter_congr fun x _=>by simp[puX_tick]
theorem bases_pu (g:FID->Bool)(k:FID):∀ (l:List En) (F F':FID->Option Bs),(F' k=if g k=true then none else F k)->(l.map (puX g)).foldl stepB F' k=if g k=true then none else l.foldl stepB F k
 |[],F,F',h=>h
 |x :: l,F,F',h=>by
  rw[List.map_cons,List.foldl_cons,List.foldl_cons]
  refine bases_pu g k l _ _ ?_
  unfold puX
  by_cases h1:x.kind=1
  · by_cases h2:g x.base=true
    · rw[if_pos ⟨h1,h2⟩]
      have e1:stepB F' (puE x) k=F' k:=by unfold stepB;rw[if_neg (by show ¬ (2:Int)=1;decide)]
      rw[e1,h]
      unfold stepB
      rw[if_pos h1]
      show _=if g k=true then none else(if eqF k x.base=true then _ else F k)
      by_cases e:eqF k x.base=true
      · rw[Zba.1 e,if_pos h2,if_pos h2]
      · rw[if_neg e]
    · rw[if_neg (fun q=>h2 q.2)]
      unfold stepB
      rw[if_pos h1,if_pos h1]
      show(if eqF k x.base=true then some (nextB ((F' k).getD zeroB) x)else F' k)=if g k=true then none else(if eqF k x.base=true then some (nextB ((F k).getD zeroB) x)else F k)
      by_cases e:eqF k x.base=true
      · have hk:¬ g k=true:=by rw[Zba.1 e];exact h2
        rw[if_pos e,if_neg hk,if_pos e,h,if_neg hk]
      · rw[if_neg e,if_neg e,h]
  · rw[if_neg (fun q=>h1 q.1)]
    unfold stepB
    rw[if_neg h1,if_neg h1]
    exact h
structure SubR (g:FID->Bool) (s' s:Er):Prop where
 kinds:s'.kinds=s.kinds
 about:∀ w k,k∈s'.about w->k∈s.about w
 ids:∀ k,s'.ids k=true->g k=true
theorem SubR.step {g:FID->Bool}{s' s:Er}(h:SubR g s' s)(x:En)(hg:∀ k,(stepR s x).ids k=true->g k=true):SubR g (stepR s' (puX g x)) (stepR s x):=by
 have hw:whoF s' x=whoF s x:=by unfold whoF;rw[h.kinds]
 have keep:x.kind≠1->puX g x=x:=fun h1=>if_neg (fun q=>h1 q.1)
 have gone:x.kind=1->g x.base=true->stepR s' (puX g x)={ s' with ids:=fun k=>eqF k x.base||s'.ids k }:=fun h1 h2=>by
  have e:puX g x=puE x:=if_pos ⟨h1,h2⟩
  rw[e,ZbN (x:=puE x) rfl rfl]
  rfl
 have stay:g x.base≠true->puX g x=x:=fun h2=>if_neg (fun q=>h2 q.2)
 have gids:g x.base=true->∀ k,(eqF k x.base||s'.ids k)=true->g k=true:=fun h2 k hk=>by
  rcases Bool.or_eq_true_iff.1 hk with q|q
  · rw[Zba.1 q];exact h2
  · exact h.ids k q
 rcases ZdC x with q|q|q|q|q|q
 · rw[keep (by omega),ZcC q,ZcC q]
   exact⟨by show(fun k=>if k=x.tn then some x.te else s'.kinds k)=_;rw[h.kinds],h.about,h.ids⟩
 · by_cases h2:g x.base=true
   · rw[gone q.1 h2,Zcu q.1 q.2]
     refine⟨h.kinds,fun w k hk=>?_,gids h2⟩
     show k∈(if w=whoF s x then s.about w++[x.base]else s.about w)
     have:=h.about w k hk
     split
     · exact List.mem_append_left _ this
     · exact this
   · rw[stay h2,Zcu q.1 q.2,Zcu q.1 q.2]
     refine⟨h.kinds,fun w k hk=>?_,h.ids⟩
     replace hk:k∈(if w=whoF s' x then s'.about w++[x.base]else s'.about w):=hk
     show k∈(if w=whoF s x then s.about w++[x.base]else s.about w)
     rw[hw]at hk
     split
     · rename_i e
       rw[if_pos e]at hk
       rcases List.mem_append.1 hk with hk|hk
       · exact List.mem_append_left _ (h.about w k hk)
       · exact List.mem_append_right _ hk
     · rename_i e
       rw[if_neg e]at hk
       exact h.about w k hk
 · by_cases h2:g x.base=true
   · rw[gone q.1 h2,ZbC q.1 q.2]
     exact⟨h.kinds,h.about,gids h2⟩
   · rw[stay h2,ZbC q.1 q.2,ZbC q.1 q.2]
     exact h
 · rw[ZbN q.1 q.2]at hg
   rw[keep (by omega),ZbN q.1 q.2,ZbN q.1 q.2]
   refine⟨h.kinds,h.about,fun k hk=>?_⟩
   replace hk:(eqF k (x.esr,x.esq)||s'.ids k)=true:=hk
   rcases Bool.or_eq_true_iff.1 hk with q2|q2
   · exact hg k (by show(eqF k (x.esr,x.esq)||s.ids k)=true;rw[q2];rfl)
   · exact h.ids k q2
 · rw[Zcg q.1 q.2]at hg
   rw[keep (by omega),Zcg q.1 q.2,Zcg q.1 q.2]
   refine⟨h.kinds,h.about,fun k hk=>?_⟩
   replace hk:(memF (s'.about (x.een,x.eky)) k||s'.ids k)=true:=hk
   rcases Bool.or_eq_true_iff.1 hk with q2|q2
   · exact hg k (by show(memF (s.about (x.een,x.eky)) k||s.ids k)=true;rw[ZcH.2 (h.about _ k (ZcH.1 q2))];rfl)
   · exact h.ids k q2
 · rw[keep (by omega),Zdm q.1 q.2.1 q.2.2,Zdm q.1 q.2.1 q.2.2]
   exact h
theorem SubR.fold {g:FID->Bool}:∀ (p:List En) {s' s:Er},SubR g s' s->(∀ k,(p.foldl stepR s).ids k=true->g k=true)->SubR g ((p.map (puX g)).foldl stepR s') (p.foldl stepR s)
 |[],_,_,h,_=>h
 |x :: p,s',s,h,hg=>SubR.fold p (h.step x fun k hk=>hg k (ids_fold p _ k hk)) hg
theorem erF_pu {g:FID->Bool}(p:List En)(hg:∀ k,erF p k=true->g k=true)(k:FID)(h:erF (p.map (puX g)) k=true):g k=true :=
 (SubR.fold p (s':=Er.none) (s:=Er.none) ⟨rfl,fun w k h=>(by cases h),fun k h=>(by cases h)⟩ hg).ids k h
theorem effF_pu {l p:List En}{t u:Int}(hp:∀ k,erF p k=true->erF l k=true)(hu:untl p u=untl l t)(k:FID):effF (p.map (puX (erF l))) u k=effF l t k:=by
 have hb:Zbg (untl (p.map (puX (erF l))) u) k=if erF l k=true then none else Zbg (untl l t) k:=by
  rw[untl_pu,hu]
  unfold Zbg
  refine bases_pu (erF l) k _ _ _ ?_
  split<;>rfl
 unfold effF
 rw[hb]
 by_cases h:erF l k=true
 · rw[if_pos h]
   cases Zbg (untl l t) k with
   |none=>rfl
   |some b =>
    show none=(if b.1=true/\b.2.fk≠3/\erF l k=false then some (b.2.row k)else none)
    rw[if_neg (by rw[h];simp)]
 · have h2:erF (p.map (puX (erF l))) k=false:=by
     rw[<-Bool.not_eq_true];exact fun q=>h (erF_pu p hp k q)
   rw[if_neg h,h2]
   rw[Bool.not_eq_true]at h
   rw[h]
theorem effL_purge (l:List En)(t:Int):effL (Zdx l) t=effL l t:=Zdr fun k=>effF_pu (fun _ h=>h) rfl k
theorem untl_take {l:List En}(h:Order l){n:Nat}{x:En}(hx:l[n]?=some x){t:Int}(ht:t<x.tick):untl (l.take (n+1)) t=untl l t:=by
 have e:l=l.take (n+1)++l.drop (n+1):=(List.take_append_drop _ _).symm
 have h2:untl (l.drop (n+1)) t=[]:=untl_none fun y hy=>by
  obtain⟨j,hj⟩:=mem_at hy
  rw[List.getElem?_drop]at hj
  have:=h.at hx hj (by omega)
  omega
 conv=>rhs;rw[e]
 unfold untl at h2 ⊢
 rw[List.filter_append,h2,List.append_nil]
theorem effL_upto {l:List En}(h:Order l){n:Nat}{x:En}(hx:l[n]?=some x){t:Int}(ht:t<x.tick):effL ((Zdx l).take (n+1)) t=effL l t:=by
 unfold Zdx
 rw[<-List.map_take]
 refine Zdr fun k=>effF_pu (fun k h=>?_) (untl_take h hx ht) k
 have:=erF_append (l.take (n+1)) (l.drop (n+1)) k h
 rwa [List.take_append_drop]at this
theorem Order.take {l:List En}(h:Order l)(n:Nat):Order (l.take n):=h.sublist (List.take_sublist _ _)
theorem Order.purge {l:List En}(h:Order l):Order (Zdx l):=by
 unfold Order Zdx
 rw[List.pairwise_map]
 exact h.imp (fun {a b} q=>by rw[puX_tick,puX_tick];exact q)
theorem Order.init {l:List En}{x:En}(h:Order (l++[x])):Order l:=h.sublist (List.sublist_append_left _ _)
theorem Order.last {l:List En}{x:En}(h:Order (l++[x])){y:En}(hy:y∈l):y.tick<=x.tick:=(List.pairwise_append.1 h).2.2 y hy x (by simp)
theorem look_i64 (k:DK):∀ (F:List (DK × Int)),Ints F->I64 (look F k)
 |[],_=>by unfold look I64;omega
 |y :: F,h=>by
  unfold look
  split
  · exact h y (by simp)
  · exact look_i64 k F (fun z hz=>h z (by simp[hz]))
theorem consK_self {F:List (DK × Int)}(hr:Rising cmpD F)(hs:∀ x∈F,x.2≠0)(hF:Ints F):consK F=F:=by
 refine ZbU.unique ZaW (Zb1 F hF) ⟨hr,hs,fun k=>?_⟩
 have h1:=ZdX F k
 rw[Ze8 ZaW k F hr]at h1
 exact(ZeN (ZdY F k) (look_i64 k F hF) h1).symm
theorem Zcn {L:List (DK × Int)}(hL:Ints L)(p:DK->Bool):consK ((consK L).filter (fun x=>p x.1))=(consK L).filter (fun x=>p x.1):=by
 have h:=Zb1 L hL
 refine consK_self ?_ (fun x hx=>h.some x (List.mem_filter.1 hx).1) (fun x hx=>hL.cons x (List.mem_filter.1 hx).1)
 have:=h.rising
 unfold Rising at this ⊢
 exact this.filter _
theorem Zb9 (p:DK->Bool)(k:DK):∀ (L:List (DK × Int)),sumT (L.filter (fun x=>p x.1)) k=if p k=true then sumT L k else 0
 |[]=>by simp[sumT]
 |x :: L=>by
  have ih:=Zb9 p k L
  rw[List.filter_cons]
  by_cases h:p x.1=true
  · rw[if_pos h]
    show(if x.1=k then x.2 else 0)+sumT (L.filter (fun x=>p x.1)) k=if p k=true then(if x.1=k then x.2 else 0)+sumT L k else 0
    rw[ih]
    by_cases e:x.1=k
    · rw[if_pos e]
      rw[e]at h
      rw[if_pos h,if_pos h]
    · rw[if_neg e,Int.zero_add,Int.zero_add]
  · rw[if_neg h,ih]
    show _=if p k=true then(if x.1=k then x.2 else 0)+sumT L k else 0
    by_cases e:x.1=k
    · rw[e]at h
      rw[if_neg h,if_neg h]
    · rw[if_neg e,Int.zero_add]
theorem filter_ext {L M:List (DK × Int)}(hL:Ints L)(hM:Ints M)(p:DK->Bool)(h:∀ k,p k=true->(sumT L k - sumT M k) % 18446744073709551616=0):(consK L).filter (fun x=>p x.1)=(consK M).filter (fun x=>p x.1):=by
 rw[<-Zcn hL p,<-Zcn hM p]
 refine Zdc (fun x hx=>hL.cons x (List.mem_filter.1 hx).1) (fun x hx=>hM.cons x (List.mem_filter.1 hx).1) fun k=>?_
 rw[Zb9,Zb9]
 by_cases e:p k=true
 · rw[if_pos e,if_pos e]
   have h1:=Zct hL k
   have h2:=Zct hM k
   have h3:=h k e
   omega
 · rw[if_neg e,if_neg e];simp
theorem cmpR_of_ek {x y:Rw}(h:cmpE x.ek y.ek<0):cmpR x.key y.key<0:=by
 unfold cmpE at h
 unfold cmpR
 simp only[Rw.key,Rw.ek]at h ⊢
 rw[Zcb]at h ⊢
 rcases h with h|⟨h1,h2⟩
 · exact Or.inl h
 · exact Or.inr ⟨h1,Zcb.2 (Or.inl h2)⟩
theorem key_ek (r s:Rw)(h:r.key=s.key):r.ek=s.ek:=by
 unfold Rw.key at h
 unfold Rw.ek
 injection h with h1 h2
 injection h2 with h2 h3
 rw[h1,h2]
def RiseE (E:List Rw):Prop:=E.Pairwise (fun x y=>cmpE x.ek y.ek<0)
theorem RiseE.nodup {E:List Rw}(h:RiseE E):(E.map Rw.ek).Nodup:=by
 unfold List.Nodup
 rw[List.pairwise_map]
 exact h.imp (fun {a b} q e=>by rw[e,Za7.refl]at q;omega)
theorem RiseE.cnt {E:List Rw}(h:RiseE E)(k:RK):0<=cntR E k/\cntR E k<=1:=cntR_le key_ek h.nodup
theorem at_keys {L:List (DK × Int)}{t:Int}{ks:List RK}{E:List Rw}(h:IsAt L t L ks)(hE:RiseE E)(hs:∀ k,(sumP (upF t k) L - cntR E k) % 18446744073709551616=0):ks=E.map Rw.key:=by
 have hc:∀ k,cntK L k t=cntR E k:=by
  intro k
  obtain⟨h1,h2⟩:=cntK_mod k t L
  have h3:=hs k
  have h4:=hE.cnt k
  exact ZeN h2 (by unfold I64;omega) (by omega)
 have rise:(E.map Rw.key).Pairwise (fun x y=>cmpR x y<0):=by
  rw[List.pairwise_map]
  exact hE.imp (fun {a b} q=>cmpR_of_ek q)
 have nd:∀ {p:List RK},p.Pairwise (fun x y=>cmpR x y<0)->p.Nodup:=fun h=>h.imp (fun {x y} h e=>by rw[e,Zbe.refl]at h;omega)
 refine List.Perm.eq_of_pairwise (le:=fun x y=>cmpR x y<0) (fun a b _ _ h1 h2=>?_) h.rising rise ((List.perm_ext_iff_of_nodup (nd h.rising) (nd rise)).2 fun k=>?_)
 · have:=Zbe.trans _ _ _ h1 h2
   rw[Zbe.refl]at this
   omega
 · rw[h.mem,hc]
   constructor
   · rintro ⟨-,hp⟩
     obtain⟨r,hr,e⟩:=Zfz (l:=E) (k:=k) (by omega)
     exact List.mem_map.2 ⟨r,hr,e⟩
   · intro hk
     obtain⟨r,hr,rfl⟩:=List.mem_map.1 hk
     have hp:=cntR_in hr
     refine⟨?_,hp⟩
     by_cases q:∃ x∈L,x.1.2=r.key
     · exact q
     · have:=cntK_not r.key t L (fun x hx e=>q ⟨x,hx,e⟩)
       rw[hc]at this
       omega
theorem frS_one (l:List En):∀ i,∀ d∈(frS l i).1,d.n=1∨d.n=-1:=by
 intro i
 induction i with
 |zero=>intro d hd;simp[frS]at hd
 |succ i ih =>
  intro d hd
  rw[ZcK]at hd
  unfold Zcl at hd
  split at hd
  · exact ih d hd
  · rcases List.mem_append.1 hd with hd|hd
    · exact ih d hd
    · unfold betD at hd
      rcases List.mem_append.1 hd with hd|hd<;>obtain⟨y,hy,rfl⟩:=List.mem_map.1 hd
      · exact Or.inr rfl
      · exact Or.inl rfl
noncomputable def fromK (l:List En):List (DK × Int):=(fromL l).map Dl.kn
theorem Za1 (l:List En):Ints (fromK l):=fun x hx=>by
 obtain⟨d,hd,rfl⟩:=List.mem_map.1 hx
 rcases frS_one l _ d hd with e|e<;>(show I64 d.n;rw[e];unfold I64;omega)
noncomputable def nextK (l:List En)(x:En):List (DK × Int):=(nextL l x).map Dl.kn
theorem nextK_ints (l:List En)(x:En):Ints (nextK l x):=fun y hy=>by
 obtain⟨d,hd,rfl⟩:=List.mem_map.1 hy
 unfold nextL betD at hd
 rcases List.mem_append.1 hd with hd|hd<;>obtain⟨z,hz,rfl⟩:=List.mem_map.1 hd
 · show I64 (-1)
   unfold I64;omega
 · show I64 1
   unfold I64;omega
theorem Zed {l:List En}{t:Int}(hl:∀ x∈l,OkF x.base):RiseE (effL l t):=(Zfw hl).rise
theorem sum_consK (f:DK->Bool){L:List (DK × Int)}(n:Int)(h:sumP f L=n):(sumP f (consK L) - n) % 18446744073709551616=0:=by rw[<-h];exact ZdW f L
theorem Zd9 {l:List En}(hO:Order l)(hl:∀ x∈l,OkF x.base){t:Int}{ks:List RK}(h:IsAt (consK (fromK l)) t (consK (fromK l)) ks):ks=(effL l t).map Rw.key :=
 at_keys h (Zed hl) fun k=>sum_consK _ _ (Zc9 hO t k)
theorem Zfq (l:List En)(x:En)(t:Int)(k:RK):sumP (upF t k) (nextK l x)=if x.tick<=t then cntR (effL (l++[x]) 1099511627776) k - cntR (effL l 1099511627776) k else 0:=sumP_bet _ _ _ _ _
theorem late_all {l:List En}{t:Int}(h:∀ y∈l,y.tick<=t):effL l t=effL l 1099511627776∨∃ y∈l,1099511627776<y.tick:=by
 by_cases q:∃ y∈l,1099511627776<y.tick
 · exact Or.inr q
 · refine Or.inl (Zee ?_)
   rw[untl_all h,untl_all (fun y hy=>by
    by_cases e:y.tick<=1099511627776
    · exact e
    · exact absurd ⟨y,hy,by omega⟩ q)]
theorem late_eq {l:List En}{t:Int}(h:∀ y∈l,y.tick<=t)(hm:∀ y∈l,y.tick<=1099511627776):effL l t=effL l 1099511627776:=by
 rcases late_all h with e|⟨y,hy,e⟩
 · exact e
 · have:=hm y hy;omega
theorem law_next {l:List En}{x:En}(hO:Order (l++[x]))(hm:∀ y∈l++[x],y.tick<=1099511627776)(hx:x.kind≠2):consK (consK (fromK l)++consK (nextK l x))=consK (fromK (l++[x])):=by
 refine Zdc ((Za1 l).cons.append (nextK_ints l x).cons) (Za1 _) ?_
 rintro ⟨t,k⟩
 have h1:=Zct (Za1 l) (t,k)
 have h2:=Zct (nextK_ints l x) (t,k)
 have e1:sumT (fromK l) (t,k)=_:=ZbK hO.init t k
 have e2:sumT (fromK (l++[x])) (t,k)=_:=ZbK hO t k
 have e3:=sumT_up (nextK l x) t k
 rw[Zfq,Zfq]at e3
 rw[Ze9]
 have hlast:=fun t (ht:x.tick<=t)=>late_eq (l:=l) (t:=t) (fun y hy=>by have:=hO.last hy;omega) (fun y hy=>hm y (by simp[hy]))
 have hall:=fun t (ht:x.tick<=t)=>late_eq (l:=l++[x]) (t:=t) (fun y hy=>by
  rcases List.mem_append.1 hy with hy|hy
  · have:=hO.last hy;omega
  · simp at hy;rw[hy];exact ht) hm
 by_cases q:t<x.tick
 · rw[Zev l x hx q,Zev l x hx (by omega)]at e2
   rw[if_neg (by omega),if_neg (by omega)]at e3
   omega
 · rw[if_pos (by omega)]at e3
   rw[hlast t (by omega)]at e1
   rw[hall t (by omega)]at e2
   by_cases q2:x.tick<=t - 1
   · rw[if_pos q2]at e3
     rw[hlast (t - 1) q2]at e1
     rw[hall (t - 1) q2]at e2
     omega
   · rw[if_neg q2]at e3
     rw[Zev l x hx (t:=t - 1) (by omega)]at e2
     omega
theorem Zei (g:FID->Bool)(k:RK):∀ (rows:List Rw),cntR (keepR g rows) k=if g k.2.1=true then 0 else cntR rows k
 |[]=>by simp[keepR,cntR]
 |r :: rows=>by
  have ih:=Zei g k rows
  unfold keepR at ih ⊢
  rw[List.filter_cons]
  by_cases h:g (r.src,r.seq)=true
  · rw[if_neg (by simp[h]),ih]
    split
    · rfl
    · rename_i q
      show _=(if r.key=k then(1:Int)else 0)+cntR rows k
      rw[if_neg (fun e=>q (by rw[<-e];exact h)),Int.zero_add]
  · rw[if_pos (by simp[h])]
    show(if r.key=k then(1:Int)else 0)+cntR (rows.filter _) k=if g k.2.1=true then 0 else(if r.key=k then(1:Int)else 0)+cntR rows k
    rw[ih]
    by_cases q:g k.2.1=true
    · rw[if_pos q,if_pos q,if_neg (fun e=>h (by rw[<-e]at q;exact q))];rfl
    · rw[if_neg q,if_neg q]
def cutK (g:FID->Bool)(L:List (DK × Int)):List (DK × Int):=L.filter (fun x=>!g x.1.2.2.1)
theorem purgeD_kn (ds:List Dl)(ids:List FID):(ZbR ds ids).map Dl.kn=cutK (memF ids) (ds.map Dl.kn):=by
 unfold ZbR cutK
 rw[List.filter_map]
 rfl
theorem law_erase {l:List En}{x:En}(hO:Order (l++[x]))(hl:∀ y∈l,OkF y.base)(hx:x.kind=2):consK (fromK (l++[x]))=cutK (erF (l++[x])) (consK (fromK l)):=by
 unfold cutK
 rw[<-Zcn (Za1 l) (fun k=>!erF (l++[x]) k.2.2.1)]
 refine Zdc (Za1 _) (fun y hy=>(Za1 l).cons y (List.mem_filter.1 hy).1) ?_
 rintro ⟨t,k⟩
 rw[Zb9 (fun k=>!erF (l++[x]) k.2.2.1)]
 have h1:=Zct (Za1 l) (t,k)
 have e1:sumT (fromK l) (t,k)=_:=ZbK hO.init t k
 have e2:sumT (fromK (l++[x])) (t,k)=_:=ZbK hO t k
 rw[effL_keep (erF (l++[x])) hl (effF_erase l x hx t),effL_keep (erF (l++[x])) hl (effF_erase l x hx (t - 1)),Zei,Zei]at e2
 by_cases q:erF (l++[x]) k.2.1=true
 · rw[if_pos q,if_pos q]at e2
   rw[if_neg (by simp[q])]
   omega
 · rw[if_neg q,if_neg q]at e2
   rw[if_pos (by simp[q])]
   omega
theorem law_late {l:List En}{x:En}(hO:Order (l++[x]))(hm:∀ y∈l++[x],y.tick<=1099511627776)(hl:∀ y∈l++[x],OkF y.base){t:Int}(ht:x.tick<=t){ks:List RK}
 (h:IsAt (consK (consK (fromK l)++consK (nextK l x))) t (consK (consK (fromK l)++consK (nextK l x))) ks):ks=(effL (l++[x]) t).map Rw.key:=by
 refine at_keys h (Zed hl) fun k=>?_
 have h0:=ZdW (upF t k) (consK (fromK l)++consK (nextK l x))
 have h1:=ZdW (upF t k) (fromK l)
 have h2:=ZdW (upF t k) (nextK l x)
 rw[ZcB]at h0
 rw[Zfq,if_pos ht]at h2
 have e1:sumP (upF t k) (fromK l)=_:=Zc9 hO.init t k
 rw[late_eq (l:=l) (t:=t) (fun y hy=>by have:=hO.last hy;omega) (fun y hy=>hm y (by simp[hy]))]at e1
 rw[late_eq (l:=l++[x]) (t:=t) (fun y hy=>by
  rcases List.mem_append.1 hy with hy|hy
  · have:=hO.last hy;omega
  · simp at hy;rw[hy];exact ht) hm]
 omega
theorem law_purged {l:List En}(hO:Order l):consK (fromK (Zdx l))=consK (fromK l) :=
 Zdc (Za1 _) (Za1 _) (by
  rintro ⟨t,k⟩
  have e1:sumT (fromK l) (t,k)=_:=ZbK hO t k
  have e2:sumT (fromK (Zdx l)) (t,k)=_:=ZbK hO.purge t k
  rw[effL_purge,effL_purge]at e2
  omega)
theorem law_none {l:List En}(hO:Order l)(hl:∀ y∈l,OkF y.base):cutK (erF l) (consK (fromK l))=consK (fromK l):=by
 have hL:=Za1 l
 unfold cutK
 rw[<-Zcn hL (fun k=>!erF l k.2.2.1)]
 refine Zdc (fun y hy=>hL.cons y (List.mem_filter.1 hy).1) hL ?_
 rintro ⟨t,k⟩
 rw[Zb9 (fun k=>!erF l k.2.2.1)]
 have h1:=Zct hL (t,k)
 have e1:sumT (fromK l) (t,k)=_:=ZbK hO t k
 by_cases q:erF l k.2.1=true
 · rw[if_neg (by simp[q])]
   have z:∀ t,cntR (effL l t) k=0:=fun t=>ZeT fun r hr e=>by
    have:=effL_gone hl hr
    rw[<-e]at q
    rw[show(r.key.2.1)=(r.src,r.seq) from rfl,this]at q
    cases q
   rw[z,z]at e1
   omega
 · rw[if_pos (by simp[q])]
   omega
theorem keep_rise {g:FID->Bool}{E:List Rw}(h:RiseE E):RiseE (keepR g E):=List.Pairwise.filter _ h
theorem sumP_cut (f:DK->Bool)(g:FID->Bool):∀ (L:List (DK × Int)),sumP f (cutK g L)=sumP (fun x=>f x&&!g x.2.2.1) L
 |[]=>rfl
 |x :: L=>by
  have ih:=sumP_cut f g L
  unfold cutK at ih ⊢
  rw[List.filter_cons]
  by_cases h:g x.1.2.2.1=true
  · rw[if_neg (by simp[h]),ih]
    show _=(if (f x.1&&!g x.1.2.2.1)=true then x.2 else 0)+_
    rw[if_neg (by simp[h]),Int.zero_add]
  · rw[if_pos (by simp[h])]
    show(if f x.1=true then x.2 else 0)+sumP f (L.filter _)=(if (f x.1&&!g x.1.2.2.1)=true then x.2 else 0)+_
    rw[ih]
    rw[Bool.not_eq_true]at h
    simp[h]
theorem upF_cut (t:Int)(k:RK)(g:FID->Bool)(L:List (DK × Int)):sumP (fun x=>upF t k x&&!g x.2.2.1) L=if g k.2.1=true then 0 else sumP (upF t k) L:=by
 induction L with
 |nil=>simp[sumP]
 |cons x L ih =>
  unfold sumP
  rw[ih]
  by_cases e:x.1.2=k
  · rw[e]
    by_cases q:g k.2.1=true
    · simp[q]
    · simp[q]
  · have:upF t k x.1=false:=by unfold upF;simp[e]
    simp[this]
theorem law_cut {l:List En}(hO:Order l)(hl:∀ y∈l,OkF y.base)(ids:List FID){t:Int}{ks:List RK}(h:IsAt (cutK (memF ids) (consK (fromK l))) t (cutK (memF ids) (consK (fromK l))) ks):ks=(keepR (memF ids) (effL l t)).map Rw.key:=by
 refine at_keys h (keep_rise (Zed hl)) fun k=>?_
 rw[sumP_cut,upF_cut,Zei]
 by_cases q:memF ids k.2.1=true
 · rw[if_pos q,if_pos q];rfl
 · rw[if_neg q,if_neg q]
   exact sum_consK _ _ (Zc9 hO t k)
def beforeK (t:Int)(L:List (DK × Int)):List (DK × Int):=L.filter (fun x=>decide (x.1.1<t))
theorem law_past {l:List En}(hO:Order l){n:Nat}{x:En}(hx:l[n]?=some x):beforeK x.tick (consK (fromK ((Zdx l).take (n+1))))=beforeK x.tick (consK (fromK l)):=by
 unfold beforeK
 refine filter_ext (Za1 _) (Za1 _) (fun k=>decide (k.1<x.tick)) ?_
 rintro ⟨t,k⟩ hk
 have ht:t<x.tick:=by simpa using hk
 have e1:sumT (fromK l) (t,k)=_:=ZbK hO t k
 have e2:sumT (fromK ((Zdx l).take (n+1))) (t,k)=_:=ZbK (hO.purge.take _) t k
 rw[effL_upto hO hx ht,effL_upto hO hx (by omega)]at e2
 omega
theorem purge_okF {l:List En}(hl:∀ y∈l,OkF y.base):∀ y∈Zdx l,OkF y.base:=by
 intro y hy
 obtain⟨x,hx,rfl⟩:=List.mem_map.1 hy
 unfold puX
 split
 · show OkF (baseF ⟨#[]⟩ 0 0 0)
   exact⟨by decide,by unfold I64;decide⟩
 · exact hl x hx
theorem bases_true {l:List En}(hs:∀ x∈l,x.kind=1->1<=x.seq):∀ (k:FID) (b:Bs),Zbg l k=some b->b.2∈l/\b.2.kind=1/\b.2.base=k/\1<=b.2.seq:=by
 have key:∀ (l:List En) (F:FID->Option Bs) (M:List En),(∀ x∈l,x.kind=1->1<=x.seq)->(∀ k b,F k=some b->b.2∈M/\b.2.kind=1/\b.2.base=k/\1<=b.2.seq)->∀ k b,l.foldl stepB F k=some b->b.2∈M++l/\b.2.kind=1/\b.2.base=k/\1<=b.2.seq:=by
  intro l
  induction l with
  |nil=>intro F M _ h k b hb;simpa using h k b hb
  |cons x l ih =>
   intro F M hs h k b hb
   have:=ih (stepB F x) (M++[x]) (fun y hy=>hs y (by simp[hy])) (fun k b hb=>?_) k b hb
   · simpa using this
   · unfold stepB at hb
     split at hb
     · rename_i h1
       replace hb:(if eqF k x.base=true then some (nextB ((F k).getD zeroB) x)else F k)=some b:=hb
       by_cases e:eqF k x.base=true
       · rw[if_pos e]at hb
         injection hb with hb
         rw[<-hb]
         have hx:=hs x (by simp) h1
         cases hF:F k with
         |none =>
          show(if (0:Int)<x.seq then x else zeroE)∈_/\_
          have e2:(nextB ((none:Option Bs).getD zeroB) x).2=x:=by
           show(if (0:Int)<x.seq then x else zeroE)=x
           rw[if_pos (by omega)]
          rw[show(if (0:Int)<x.seq then x else zeroE)=x from e2,e2]
          exact⟨by simp,h1,(Zba.1 e).symm,hx⟩
         |some c =>
          have hc:=h k c hF
          show(if c.2.seq<x.seq then x else c.2)∈_/\(if c.2.seq<x.seq then x else c.2).kind=1/\(if c.2.seq<x.seq then x else c.2).base=k/\1<=(if c.2.seq<x.seq then x else c.2).seq
          split
          · exact⟨by simp,h1,(Zba.1 e).symm,hx⟩
          · exact⟨by simp[hc.1],hc.2⟩
       · rw[if_neg e]at hb
         have hc:=h k b hb
         exact⟨by simp[hc.1],hc.2⟩
     · have hc:=h k b hb
       exact⟨by simp[hc.1],hc.2⟩
 intro k b hb
 have:=key l (fun _=>none) [] hs (fun k b h=>by cases h) k b hb
 simpa using this
theorem Zfv {l:List En}(hl:∀ x∈l,OkF x.base)(hs:∀ x∈l,x.kind=1->1<=x.seq){t:Int}{r:Rw}(hr:r∈effL l t):∃ e∈l,e.tick<=t/\e.kind=1/\e.base=(r.src,r.seq)/\r=e.row (r.src,r.seq):=by
 have:=(Zfw hl).mem r hr
 unfold effF at this
 split at this
 · rename_i b hb
   split at this
   · injection this with this
     obtain⟨h1,h2,h3,-⟩:=bases_true (fun x hx=>hs x (ZcA hx).1) _ _ hb
     exact⟨b.2,(ZcA h1).1,(ZcA h1).2,h2,h3,this.symm⟩
   · cases this
 · cases this
theorem law_signs {l:List En}(hO:Order l)(hl:∀ x∈l,OkF x.base)(hs:∀ x∈l,x.kind=1->1<=x.seq){x:DK × Int}(hx:x∈consK (fromK l)) :
 (x.2=1∨x.2=-1)/\(∃ e∈l,e.tick=x.1.1)/\∃ (e:En) (r:Rw),e∈l/\e.tick<=x.1.1/\e.kind=1/\e.base=(r.src,r.seq)/\r=e.row (r.src,r.seq)/\r.key=x.1.2:=by
 obtain⟨⟨t,k⟩,n⟩:=x
 obtain⟨h1,h2⟩:=((Zb1 _ (Za1 l)).mem ZaW _).1 hx
 have h3:=ZdX (fromK l) (t,k)
 have e1:sumT (fromK l) (t,k)=_:=ZbK hO t k
 have c1:=(Zed (t:=t) hl).cnt k
 have c2:=(Zed (t:=t - 1) hl).cnt k
 have hn:sumK (fromK l) (t,k)=cntR (effL l t) k - cntR (effL l (t - 1)) k:=ZeN (ZdY _ _) (by unfold I64;omega) (by rw[<-e1];exact h3)
 simp only at h1 h2
 rw[hn]at h1
 refine⟨by show n=1∨n=-1;omega,?_,?_⟩
 · by_cases q:∃ e∈l,e.tick=t
   · exact q
   · have:effL l t=effL l (t - 1):=Zee (untl_eq fun y hy=>⟨fun h=>by
       by_cases e:y.tick=t
       · exact absurd ⟨y,hy,e⟩ q
       · omega,fun h=>by omega⟩)
     rw[this]at h1
     omega
 · by_cases q:cntR (effL l t) k=0
   · obtain⟨r,hr,hrk⟩:=Zfz (l:=effL l (t - 1)) (k:=k) (by omega)
     obtain⟨e,h4,h5,h6,h7,h8⟩:=Zfv hl hs hr
     exact⟨e,r,h4,by show e.tick<=t;omega,h6,h7,h8,hrk⟩
   · obtain⟨r,hr,hrk⟩:=Zfz (l:=effL l t) (k:=k) q
     obtain⟨e,h4,h5,h6,h7,h8⟩:=Zfv hl hs hr
     exact⟨e,r,h4,h5,h6,h7,h8,hrk⟩
end Go.Proofs.YtfnpfkgmacaboaaGreat
