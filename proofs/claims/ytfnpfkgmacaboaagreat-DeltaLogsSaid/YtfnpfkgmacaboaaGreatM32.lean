/- Texts joined by a program. -/
import Derived.Test.YtfnpfkgmacaboaaGreatM28
namespace Go.Proofs.YtfnpfkgmacaboaaGreat
set_option linter.unusedVariables false
set_option linter.unusedSimpArgs false
set_option linter.unusedSectionVars false
theorem wrap_mod (n:Int):(IntKind.i64.wrap n - n) % 18446744073709551616=0:=by
 unfold IntKind.wrap
 simp[IntKind.signed,IntKind.bits]
 split<;>omega
theorem same_mod {a b:Int}(ha:I64 a)(hb:I64 b)(h:(a - b) % 18446744073709551616=0):a=b:=by
 unfold I64 at ha hb;omega
section
variable {κ:Type} [DecidableEq κ]
def sumT:List (κ × Int)->κ->Int
 |[],_=>0
 |x :: d,k=>(if x.1=k then x.2 else 0)+sumT d k
theorem ZbX (k:κ):∀ (l m:List (κ × Int)),sumT (l++m) k=sumT l k+sumT m k
 |[],m=>by simp[sumT]
 |x :: l,m=>by
  show(if x.1=k then x.2 else 0)+sumT (l++m) k=((if x.1=k then x.2 else 0)+sumT l k)+sumT m k
  rw[ZbX k l m];omega
theorem Zc9 (k:κ):∀ (d:List (κ × Int)) (s:Int),I64 s->(d.foldl (fun s x=>if x.1=k then IntKind.i64.wrap (x.2+s)else s) s - (s+sumT d k)) % 18446744073709551616=0/\I64 (d.foldl (fun s x=>if x.1=k then IntKind.i64.wrap (x.2+s)else s) s)
 |[],s,h=>⟨by simp[sumT],h⟩
 |x :: d,s,h=>by
  rw[List.foldl_cons]
  by_cases e:x.1=k
  · rw[if_pos e]
    obtain⟨h1,h2⟩:=Zc9 k d (IntKind.i64.wrap (x.2+s)) (I64.wrap _)
    refine⟨?_,h2⟩
    have:=wrap_mod (x.2+s)
    rw[show sumT (x :: d) k=x.2+sumT d k by rw[sumT,if_pos e]]
    omega
  · rw[if_neg e]
    obtain⟨h1,h2⟩:=Zc9 k d s h
    refine⟨?_,h2⟩
    rw[show sumT (x :: d) k=sumT d k by rw[sumT,if_neg e,Int.zero_add]]
    exact h1
theorem sumK_mod (d:List (κ × Int))(k:κ):(sumK d k - sumT d k) % 18446744073709551616=0:=by
 have:=(Zc9 k d 0 (by unfold I64;omega)).1
 rw[Int.zero_add]at this
 exact this
theorem sumK_i64 (d:List (κ × Int))(k:κ):I64 (sumK d k):=(Zc9 k d 0 (by unfold I64;omega)).2
theorem sumK_of_mod {d e:List (κ × Int)}{k:κ}(h:(sumT d k - sumT e k) % 18446744073709551616=0):sumK d k=sumK e k:=by
 have h1:=sumK_mod d k
 have h2:=sumK_mod e k
 exact same_mod (sumK_i64 d k) (sumK_i64 e k) (by omega)
end
def Ints (L:List (DK × Int)):Prop:=∀ x∈L,I64 x.2
theorem Ints.append {L M:List (DK × Int)}(h:Ints L)(k:Ints M):Ints (L++M):=fun x hx=>(List.mem_append.1 hx).elim (h x) (k x)
theorem Ints.cons {L:List (DK × Int)}(h:Ints L):Ints (consK L):=fun x hx=>by
 rw[((ZeP L h).mem Zbx x).1 hx |>.1]
 exact sumK_i64 _ _
theorem Ints.nil:Ints []:=fun x hx=>by cases hx
theorem consK_ext {L M:List (DK × Int)}(hL:Ints L)(hM:Ints M)(h:∀ k,(sumT L k - sumT M k) % 18446744073709551616=0):consK L=consK M:=by
 refine ZbN.unique Zbx (ZeP L hL) ?_
 have:=ZeP M hM
 exact⟨this.rising,this.some,fun k=>by rw[this.look,sumK_of_mod (h k)]⟩
def cntR:List Rw->RK->Int
 |[],_=>0
 |r :: l,k=>(if r.key=k then 1 else 0)+cntR l k
theorem cntR_not {k:RK}:∀ {l:List Rw},(∀ r∈l,r.key≠k)->cntR l k=0
 |[],_=>rfl
 |r :: l,h=>by
  unfold cntR
  rw[if_neg (h r (by simp)),cntR_not (fun y hy=>h y (by simp[hy]))];rfl
theorem cntR_in {r:Rw}:∀ {l:List Rw},r∈l->0<cntR l r.key
 |x :: l,h=>by
  have hn:∀ (l:List Rw) (k:RK),0<=cntR l k:=by
   intro l k
   induction l with
   |nil=>exact Int.le_refl _
   |cons y l ih=>unfold cntR;split<;>omega
  unfold cntR
  rcases List.mem_cons.1 h with h|h
  · subst h;rw[if_pos rfl];have:=hn l r.key;omega
  · have:=cntR_in h
    split<;>omega
theorem cntR_le {β:Type}{k:RK}{c:Rw->β}(hc:∀ r s:Rw,r.key=s.key->c r=c s):∀ {l:List Rw},(l.map c).Nodup->0<=cntR l k/\cntR l k<=1
 |[],_=>⟨Int.le_refl _,by show(0:Int)<=1;decide⟩
 |r :: l,h=>by
  rw[List.map_cons,List.nodup_cons]at h
  unfold cntR
  by_cases e:r.key=k
  · rw[if_pos e,cntR_not (fun s hs e2=>h.1 (List.mem_map.2 ⟨s,hs,hc s r (e2.trans e.symm)⟩))]
    omega
  · rw[if_neg e]
    have:=cntR_le (k:=k) hc h.2
    omega
theorem dedup_some {α:Type}:∀ (l:List α),∃ d:List α,d.Nodup/\∀ k,k∈d↔k∈l
 |[]=>⟨[],List.Pairwise.nil,fun k=>Iff.rfl⟩
 |x :: l=>by
  obtain⟨d,h1,h2⟩:=dedup_some l
  by_cases h:x∈d
  · exact⟨d,h1,fun k=>by rw[List.mem_cons,h2];exact⟨Or.inr,fun q=>q.elim (fun q=>by rw[q];exact(h2 x).1 h) id⟩⟩
  · exact⟨x :: d,List.nodup_cons.2 ⟨h,h1⟩,fun k=>by rw[List.mem_cons,List.mem_cons,h2]⟩
theorem Zeh:∀ (l:List En) (F:FID->Option Bs) (k:FID) (b:Bs),l.foldl stepB F k=some b->(∃ x∈l,x.kind=1/\x.base=k)∨F k=some b
 |[],F,k,b,h=>Or.inr h
 |x :: l,F,k,b,h=>by
  rcases Zeh l (stepB F x) k b h with⟨y,hy,h2⟩|h2
  · exact Or.inl ⟨y,by simp[hy],h2⟩
  · unfold stepB at h2
    split at h2
    · rename_i hk
      replace h2:(if eqF k x.base=true then some (nextB ((F k).getD zeroB) x)else F k)=some b:=h2
      by_cases e:eqF k x.base=true
      · exact Or.inl ⟨x,by simp,hk,(ZaW.1 e).symm⟩
      · rw[if_neg e]at h2;exact Or.inr h2
    · exact Or.inr h2
theorem effL_ex {l:List En}{t:Int}(hl:∀ x∈l,OkF x.base):EffIs l t (effL l t):=by
 have hex:∃ rows,EffIs l t rows:=by
  obtain⟨d,h1,h2⟩:=dedup_some (l.map En.base)
  have hT:TookE l t (fun _=>false) (d.filterMap (effF l t)):=by
   refine⟨fun r hr=>?_,fun k _ r hr=>?_,?_⟩
   · obtain⟨k,hk,e⟩:=List.mem_filterMap.1 hr
     have ek:=Zcf e
     obtain⟨y,hy,hyb⟩:=List.mem_map.1 ((h2 k).1 hk)
     exact⟨by rw[ek];exact e,by rw[ek,<-hyb];exact hl y hy,rfl⟩
   · refine List.mem_filterMap.2 ⟨k.1,(h2 _).2 ?_,hr⟩
     have he:=hr
     unfold effF at he
     split at he
     · rename_i b hb
       rcases Zeh _ _ _ _ hb with⟨y,hy,-,hyb⟩|q
       · exact List.mem_map.2 ⟨y,(Zb9 hy).1,hyb⟩
       · cases q
     · cases he
   · have:∀ (d:List FID),d.Nodup->((d.filterMap (effF l t)).map (fun r=>((r.src,r.seq):FID))).Nodup:=by
       intro d
       induction d with
       |nil=>intro _;exact List.Pairwise.nil
       |cons k d ih =>
        intro h
        rw[List.nodup_cons]at h
        cases e:effF l t k with
        |none=>rw[List.filterMap_cons_none e];exact ih h.2
        |some r =>
         rw[List.filterMap_cons_some e,List.map_cons,List.nodup_cons]
         refine⟨fun q=>?_,ih h.2⟩
         obtain⟨s,hs,hq⟩:=List.mem_map.1 q
         obtain⟨k2,Ng,e2⟩:=List.mem_filterMap.1 hs
         have a1:=Zcf e
         have a2:=Zcf e2
         have:k2=k:=by rw[<-a1,<-a2];exact hq
         rw[this]at Ng
         exact h.1 Ng
     exact this d h1
  refine⟨_,hT.done (fun _=>rfl) hl (List.mergeSort_perm _ (fun x y=>!decide (cmpE y.ek x.ek<0))).symm ?_⟩
  have:=List.pairwise_mergeSort (le:=fun x y:Rw=>!decide (cmpE y.ek x.ek<0)) (fun a b c h1 h2=>?_) (fun a b=>?_) (d.filterMap (effF l t))
  · exact this.imp (fun {a b} h=>by simpa using h)
  · simp only[Bool.not_eq_true',decide_eq_false_iff_not]at h1 h2 ⊢
    intro h3
    have t1:=ZaN.turn a.ek b.ek
    have t2:=ZaN.turn b.ek c.ek
    have z1:=ZaN.zero a.ek b.ek
    have z2:=ZaN.zero b.ek c.ek
    by_cases q1:a.ek=b.ek
    · rw[q1]at h3;exact h2 h3
    · by_cases q2:b.ek=c.ek
      · rw[<-q2]at h3;exact h1 h3
      · have b1:cmpE a.ek b.ek<0:=by
          have:cmpE a.ek b.ek≠0:=fun q=>q1 (z1.1 q)
          have:=ZaN.turn b.ek a.ek
          omega
        have b2:cmpE b.ek c.ek<0:=by
         have:cmpE b.ek c.ek≠0:=fun q=>q2 (z2.1 q)
         have:=ZaN.turn c.ek b.ek
         omega
        have:=ZaN.trans _ _ _ b1 b2
        have:=ZaN.turn a.ek c.ek
        omega
  · simp only[Bool.or_eq_true,Bool.not_eq_true',decide_eq_false_iff_not]
    have:=ZaN.turn a.ek b.ek
    omega
 unfold effL
 rw[dif_pos hex]
 exact Classical.choose_spec hex
theorem key_ek (r s:Rw)(h:r.key=s.key):r.ek=s.ek:=by
 unfold Rw.key at h
 unfold Rw.ek
 injection h with h1 h2
 injection h2 with h2 h3
 rw[h1,h2]
def RiseE (E:List Rw):Prop:=E.Pairwise (fun x y=>cmpE x.ek y.ek<0)
theorem RiseE.nodup {E:List Rw}(h:RiseE E):(E.map Rw.ek).Nodup:=by
 unfold List.Nodup
 rw[List.pairwise_map]
 exact h.imp (fun {a b} q e=>by rw[e,ZaN.refl]at q;omega)
theorem RiseE.cnt {E:List Rw}(h:RiseE E)(k:RK):0<=cntR E k/\cntR E k<=1:=cntR_le key_ek h.nodup
noncomputable def fromK (l:List En):List (DK × Int):=(fromL l).map Dl.kn
theorem ZeM {l:List En}{t:Int}(hl:∀ x∈l,OkF x.base):RiseE (effL l t):=(effL_ex hl).rise
theorem bases_true {l:List En}(hs:∀ x∈l,x.kind=1->1<=x.seq):∀ (k:FID) (b:Bs),Zbj l k=some b->b.2∈l/\b.2.kind=1/\b.2.base=k/\1<=b.2.seq:=by
 have key:∀ (l:List En) (F:FID->Option Bs) (M:List En),(∀ x∈l,x.kind=1->1<=x.seq)->(∀ k b,F k=some b->b.2∈M/\b.2.kind=1/\b.2.base=k/\1<=b.2.seq)->∀ k b,l.foldl stepB F k=some b->b.2∈M++l/\b.2.kind=1/\b.2.base=k/\1<=b.2.seq:=by
  intro l
  induction l with
  |nil=>intro F M _ h k b hb;simpa using h k b hb
  |cons x l ih =>
   intro F M hs h k b hb
   have:=ih (stepB F x) (M++[x]) (fun y hy=>hs y (by simp[hy])) (fun k b hb=>?_) k b hb
   · simpa using this
   · unfold stepB at hb
     split at hb
     · rename_i h1
       replace hb:(if eqF k x.base=true then some (nextB ((F k).getD zeroB) x)else F k)=some b:=hb
       by_cases e:eqF k x.base=true
       · rw[if_pos e]at hb
         injection hb with hb
         rw[<-hb]
         have hx:=hs x (by simp) h1
         cases hF:F k with
         |none =>
          show(if (0:Int)<x.seq then x else zeroE)∈_/\_
          have e2:(nextB ((none:Option Bs).getD zeroB) x).2=x:=by
           show(if (0:Int)<x.seq then x else zeroE)=x
           rw[if_pos (by omega)]
          rw[show(if (0:Int)<x.seq then x else zeroE)=x from e2,e2]
          exact⟨by simp,h1,(ZaW.1 e).symm,hx⟩
         |some c =>
          have hc:=h k c hF
          show(if c.2.seq<x.seq then x else c.2)∈_/\(if c.2.seq<x.seq then x else c.2).kind=1/\(if c.2.seq<x.seq then x else c.2).base=k/\1<=(if c.2.seq<x.seq then x else c.2).seq
          split
          · exact⟨by simp,h1,(ZaW.1 e).symm,hx⟩
          · exact⟨by simp[hc.1],hc.2⟩
       · rw[if_neg e]at hb
         have hc:=h k b hb
         exact⟨by simp[hc.1],hc.2⟩
     · have hc:=h k b hb
       exact⟨by simp[hc.1],hc.2⟩
 intro k b hb
 have:=key l (fun _=>none) [] hs (fun k b h=>by cases h) k b hb
 simpa using this
theorem eff_entry {l:List En}(hl:∀ x∈l,OkF x.base)(hs:∀ x∈l,x.kind=1->1<=x.seq){t:Int}{r:Rw}(hr:r∈effL l t):∃ e∈l,e.tick<=t/\e.kind=1/\e.base=(r.src,r.seq)/\r=e.row (r.src,r.seq):=by
 have:=(effL_ex hl).mem r hr
 unfold effF at this
 split at this
 · rename_i b hb
   split at this
   · injection this with this
     obtain⟨h1,h2,h3,-⟩:=bases_true (fun x hx=>hs x (Zb9 hx).1) _ _ hb
     exact⟨b.2,(Zb9 h1).1,(Zb9 h1).2,h2,h3,this.symm⟩
   · cases this
 · cases this
end Go.Proofs.YtfnpfkgmacaboaaGreat
