/- Texts joined by a program. -/
import Derived.Test.YtfnpfkgmacaboaaGreatM40
namespace Go.Proofs.YtfnpfkgmacaboaaGreat
open Go.ChangeShapes Go.WideShapes Go.ChangeAt Go.RowKit
set_option linter.unusedVariables false
set_option linter.unusedSimpArgs false
set_option maxRecDepth 100000
set_option maxHeartbeats 4000000
abbrev Sl:=Option Addr × Nat × Nat
def slC (s:Sl):List Value:=[.slice s.1 s.2.1 s.2.2]
abbrev nC (t:Int):List Value:=[.int .i64 t]
theorem encSl:Enc slC 1:=⟨fun _=>rfl,fun x v hv=>by simp[slC]at hv;subst hv;rfl⟩
theorem elSl:El Tryz.prog 101 233 1 24:=⟨Tryz.underlying233,by kernel_rfl,by decide,by decide⟩
theorem encI:Enc nC 1:=⟨fun _=>rfl,fun x v hv=>by simp at hv;subst hv;rfl⟩
theorem elI:El Tryz.prog 3 101 1 8:=⟨Tryz.underlying101,by kernel_rfl,by decide,by decide⟩
structure GrR (w:World) (R:List (List Int)) (a:Option Addr):Prop where
 ok:∀ r∈R,r.length<=R.length/\∀ x∈r,0<=x/\x<R.length
 lies:∃ L:List Sl,L.length=R.length/\Zac slC 1 w a L/\∀ (i:Nat) (s:Sl) (r:List Int),L[i]?=some s->R[i]?=some r->s.2.1=r.length/\Zac nC 1 w s.1 r
theorem GrR.kept {w w':World}{R:List (List Int)}{a:Option Addr}(h:GrR w R a)(hb:Below w.heap.size w w'):GrR w' R a :=
 ⟨h.ok,let ⟨L,h1,h2,h3⟩:=h.lies;⟨L,h1,h2.kept hb,fun i s r hs hr=>⟨(h3 i s r hs hr).1,(h3 i s r hs hr).2.kept hb⟩⟩⟩
theorem Zco {α:Type}{enc:α->List Value}{b off:Nat}{w:World}{l:List α}{f:α->Value}(he:∀ x,enc x=[f x])(h:Lies enc 1 w b off l){i:Nat}{x:α}(hx:l[i]?=some x):w.cell? ⟨b,off+i,none⟩=some (f x):=by
 have:=h i x hx 0 (f x) (by rw[he];rfl)
 rwa [Nat.mul_one,Nat.add_zero]at this
theorem GrR.row {w:World}{R:List (List Int)}{a:Option Addr}(h:GrR w R a){i:Nat}{r:List Int}(hr:R[i]?=some r):∃ b o ar cr,a=some ⟨b,o,none⟩/\w.cell? ⟨b,o+i,none⟩=some (.slice ar r.length cr)/\Zac nC 1 w ar r:=by
 obtain⟨L,h1,h2,h3⟩:=h.lies
 have hi:=(List.getElem?_eq_some_iff.1 hr).1
 have hs:L[i]?=some (L[i]'(by omega)):=List.getElem?_eq_getElem _
 obtain⟨b,o,rfl,hl⟩:=h2.some (by omega)
 obtain⟨h4,h5⟩:=h3 i _ r hs hr
 refine⟨b,o,(L[i]'(by omega)).1,(L[i]'(by omega)).2.2,rfl,?_,h5⟩
 rw[<-h4]
 exact Zco (f:=fun s:Sl=>.slice s.1 s.2.1 s.2.2) (fun _=>rfl) hl hs
structure StepI (R:List (List Int)) (t:Int) (D:List Int):Prop where
 len:D.length=R.length
 low:∀ (i:Nat) (x:Int),D[i]?=some x->1<=x/\x<=1000
 wit:∀ (i:Nat) (x:Int) (r:List Int),D[i]?=some x->R[i]?=some r->x<1000->∃ y∈r,(y=t/\x=1)∨(y≠t/\∃ z,D[y.toNat]?=some z/\z+1<=x)
def FixAt (t:Int)(D:List Int)(x y:Int):Prop:=(y=t->x<=1)/\(y≠t->∀ z,D[y.toNat]?=some z->x<=z+1)
def Zdy (R:List (List Int))(t:Int)(D:List Int)(n:Nat):Prop:=∀ (i:Nat) (x:Int) (r:List Int),i<n->D[i]?=some x->R[i]?=some r->∀ y∈r,FixAt t D x y
def Zb6 (R:List (List Int))(t:Int)(D:List Int):Prop:=StepI R t D/\Zdy R t D R.length
theorem StepI.start (R:List (List Int))(t:Int):StepI R t (List.replicate R.length 1000):=by
 refine⟨by simp,fun i x hx=>?_,fun i x r hx _ h=>?_⟩ <;>
 · rw[List.getElem?_replicate]at hx
   split at hx
   · injection hx with hx;omega
   · cases hx
theorem StepI.put {R:List (List Int)}{t:Int}{D:List Int}(h:StepI R t D){i:Nat}{x n y:Int}{r:List Int}(hx:D[i]?=some x)(hr:R[i]?=some r)(hy:y∈r)(hn:n<x)
 (hv:(y=t/\n=1)∨(y≠t/\∃ z,D[y.toNat]?=some z/\n=z+1)):StepI R t (D.set i n):=by
 have hi:=(List.getElem?_eq_some_iff.1 hx).1
 have Eg:=h.low i x hx
 have n1:1<=n:=by
  rcases hv with⟨-,e⟩|⟨-,z,hz,e⟩
  · omega
  · have:=h.low _ z hz;omega
 have le:∀ (j:Nat) (z:Int),D[j]?=some z->∃ z',(D.set i n)[j]?=some z'/\z'<=z:=by
  intro j z hz
  by_cases e:i=j
  · subst e
    rw[hx]at hz
    injection hz with hz
    exact⟨n,by simp[hi],by omega⟩
  · exact⟨z,by rw[List.getElem?_set_ne e];exact hz,Int.le_refl _⟩
 refine⟨by rw[List.length_set];exact h.len,fun j z hz=>?_,fun j z s hz hs hlt=>?_⟩
 · by_cases e:i=j
   · subst e
     rw[List.getElem?_set_self hi]at hz
     injection hz with hz
     omega
   · rw[List.getElem?_set_ne e]at hz;exact h.low j z hz
 · by_cases e:i=j
   · subst e
     rw[List.getElem?_set_self hi]at hz
     injection hz with hz
     subst hz
     rw[hr]at hs
     injection hs with hs
     subst hs
     refine⟨y,hy,?_⟩
     rcases hv with⟨e1,e2⟩|⟨e1,z,hz,e2⟩
     · exact Or.inl ⟨e1,e2⟩
     · obtain⟨z',hz',hle⟩:=le _ z hz
       exact Or.inr ⟨e1,z',hz',by omega⟩
   · rw[List.getElem?_set_ne e]at hz
     obtain⟨u,hu,q⟩:=h.wit j z s hz hs hlt
     refine⟨u,hu,?_⟩
     rcases q with q|⟨q1,v,Eh,Ki⟩
     · exact Or.inl q
     · obtain⟨v',hv',hle⟩:=le _ v Eh
       exact Or.inr ⟨q1,v',hv',by omega⟩
theorem steps_le {R:List (List Int)}{t:Int}{D E:List Int}(hR:∀ r∈R,∀ x∈r,0<=x/\x<(R.length:Int))(hD:Zb6 R t D)(hE:Zb6 R t E):∀ (m:Nat) (i:Nat) (x z:Int),x.toNat=m->D[i]?=some x->E[i]?=some z->z<=x:=by
 intro m
 induction m using Nat.strongRecOn with
 |ind m ih =>
  intro i x z hm hx hz
  have Ff:=hD.1.low i x hx
  have Ea:=hE.1.low i z hz
  by_cases hlt:x<1000
  · have hi:=(List.getElem?_eq_some_iff.1 hx).1
    have hr:R[i]?=some (R[i]'(by have:=hD.1.len;omega)):=List.getElem?_eq_getElem _
    obtain⟨y,hy,q⟩:=hD.1.wit i x _ hx hr hlt
    have hf:=hE.2 i z _ (by have:=hD.1.len;omega) hz hr y hy
    rcases q with⟨e1,e2⟩|⟨e1,u,hu,Xf⟩
    · have:=hf.1 e1;omega
    · have hyr:=hR _ (List.mem_of_getElem? hr) y hy
      have hv:E[y.toNat]?=some (E[y.toNat]'(by have:=hE.1.len;omega)):=List.getElem?_eq_getElem _
      have Uk:=hD.1.low _ u hu
      have:=ih u.toNat (by omega) _ u _ rfl hu hv
      have:=hf.2 e1 _ hv
      omega
  · omega
theorem steps_same {R:List (List Int)}{t:Int}{D E:List Int}(hR:∀ r∈R,∀ x∈r,0<=x/\x<(R.length:Int))(hD:Zb6 R t D)(hE:Zb6 R t E):D=E:=by
 refine List.ext_getElem? fun i=>?_
 by_cases hi:i<D.length
 · have h1:D[i]?=some D[i]:=List.getElem?_eq_getElem hi
   have h2:E[i]?=some (E[i]'(by have:=hD.1.len;have:=hE.1.len;omega)):=List.getElem?_eq_getElem _
   have a:=steps_le hR hD hE _ i _ _ rfl h1 h2
   have b:=steps_le hR hE hD _ i _ _ rfl h2 h1
   rw[h1,h2]
   congr 1
   omega
 · rw[List.getElem?_eq_none (by omega),List.getElem?_eq_none (by have:=hD.1.len;have:=hE.1.len;omega)]
theorem steps_next {R:List (List Int)}{t:Int}{D:List Int}(hD:Zb6 R t D){i:Nat}{x:Int}{r:List Int}(hx:D[i]?=some x)(hr:R[i]?=some r)(h1:1<x)(h2:x<1000):∃ y∈r,D[y.toNat]?=some (x - 1):=by
 obtain⟨y,hy,q⟩:=hD.1.wit i x r hx hr h2
 rcases q with⟨-,e⟩|⟨e,z,hz,hle⟩
 · omega
 · have hi:=(List.getElem?_eq_some_iff.1 hr).1
   have:=(hD.2 i x r hi hx hr y hy).2 e z hz
   exact⟨y,hy,by rw[hz];congr 1;omega⟩
def sumD (D:List Int):Nat:=(D.map Int.toNat).sum
theorem sumD_put {D:List Int}{i:Nat}{x n:Int}(hx:D[i]?=some x)(hn:n<x)(h0:0<=n):sumD (D.set i n)<sumD D:=by
 unfold sumD
 induction D generalizing i with
 |nil=>cases hx
 |cons a D ih =>
  cases i with
  |zero =>
   simp at hx
   subst hx
   simp
   omega
  |succ i =>
   have:=ih (i:=i) (by simpa using hx)
   simp only[List.set_cons_succ,List.map_cons,List.sum_cons]
   omega
end Go.Proofs.YtfnpfkgmacaboaaGreat
