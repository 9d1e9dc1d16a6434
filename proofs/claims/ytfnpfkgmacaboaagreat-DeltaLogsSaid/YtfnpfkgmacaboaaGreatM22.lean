/- Texts joined by a program. -/
import Derived.Deep.RegionLaw
import Derived.Test.YtfnpfkgmacaboaaGreatM20
import Derived.Test.YtfnpfkgmacaboaaGreatM21
namespace Go.Proofs.YtfnpfkgmacaboaaGreatEx
open Go.Proofs.Tryz
open Lib (hid)
open Go.ChangeShapes Go.WideShapes Go.ChangeAt Go.RowKit
set_option maxHeartbeats 1000000 in
set_option maxRecDepth 100000 in
theorem Zfn (g cap g' cap':Nat)(f f':Nat->Int)(hf:Digs f)(hf':Digs f')(w:World)(c1:ZaZ w g f)(c2:ZaZ w g' f') :
 Calls prog 246 #[.slice (some ⟨g,0,none⟩) 8 cap,.slice (some ⟨g',0,none⟩) 8 cap'] w fun e w'=>e=.returned (.bool (decide (val8 f<val8 f')))/\Below w.heap.size w w':=by
 have C1:=hid c1;have C2:=hid c2
 have F1:=hid hf;have F2:=hid hf'
 clear c1 c2 hf hf'
 go_enter func246,ntmps246
 go_wp2_with fail
 go_loopw [5] (fun v wr=>∃ k:Nat,k<=8/\v=.int .i64 (7 - (k:Int))/\Below w.heap.size w wr/\∀ j:Nat,7 - (k:Int)<j->j<8->f j=f' j) (fun v _=>(intOf v+1).toNat)
 case atStart=>exact⟨0,by omega,rfl,Below.refl _ _,fun j h1 h2=>by omega⟩
 case round =>
  obtain⟨k,hk,rfl,hB,he⟩:=hrel
  have HE:=hid he
  clear he
  by_cases hlt:k<8
  · have d1:=C1.out.kept hB (7 - k) (by omega)
    have d2:=C2.out.kept hB (7 - k) (by omega)
    by_cases hne:f (7 - k)=f' (7 - k)
    · have hE:Hid (∀ j:Nat,7 - ((k+1:Nat):Int)<j->j<8->f j=f' j):=fun j h1 h2=>by
        by_cases e:j=7 - k
        · subst e;exact hne
        · exact HE.out j (by omega) h2
      rw[hne]at d1
      generalize f' (7 - k)=p at *
      clear hne
      go_wp2_with fail
      go_region
      all_goals
       go_wp2_with fail
       go_roundw
       case rel=>exact⟨k+1,by omega,by go_num,hB.drew,hE.out⟩
       case measure=>simp[intOf];omega
    · have hfin:decide (f (7 - k)<f' (7 - k))=decide (val8 f<val8 f'):=decide_eq_decide.2 (val8_lt F1.out F2.out (7 - k) (by omega) (fun j h1 h2=>HE.out j (by omega) h2) hne)
      have hb:(f (7 - k)==f' (7 - k))=false:=by simpa using hne
      have HF:=hid hfin
      clear hfin
      generalize f' (7 - k)=p at *
      generalize f (7 - k)=q at *
      go_wp2_with fail
      go_region
      all_goals
       go_wp2_with fail
       go_region
       all_goals
        go_wp2_with fail
        refine bodyPost_ret (v:=.bool (decide (q<p))) (by simp[results,Tryz.results246,go_sem]) rfl ⟨by rw[HF.out],hB.drew.drew⟩
  · have Ci:k=8:=by omega
    subst Ci
    have hs:Hid (decide (val8 f<val8 f')=false):=by
     have:val8 f=val8 f':=val8_same (fun j hj=>HE.out j (by omega) hj)
     show _=_
     rw[this];simp
    go_wp2_with fail
    refine bodyPost_ret (v:=.bool false) (by simp[results,Tryz.results246,go_sem]) rfl ⟨by rw[hs.out],hB⟩
theorem Ze0 {P:Program}{ops:Array Oper}{o:Oper}{a:Act}{w:World}{K:Act->World->Prop}{Q:Exit->Act->World->Prop}{E:Prop}
 (hg:o.guard=none) (s x:Operand) (t:TypeId) (hop:o.op=Op.call { callee:=Callee.builtin Builtin.append,args:=#[s,x],argTypes:=#[t,t] })
 (base:Nat) (e:TypeId) (i:TypeInfo) (z:Value) (size bytes:Nat) (h1:P.underlying t=some (.slice e)) (h2:P.info? e=some i) (h3:i.zero=some z) (h4:i.size=size) (h5:i.bytes=bytes) (h6:z.cells.size=size) (h7:0<size)
 (v:Value) (n:Nat) (xs:List Value) (hs:a.eval s=v) (hown:w.ownsRow base e size v n xs)
 (ad:Addr) (m c:Nat) (news:List Value) (hx:a.eval x=.slice (some ad) m c) (hn:news.length=m*size) (hc:∀ j u,news[j]?=some u->w.cell? (ad.add j)=some u) (h1c:∀ u∈news,u.oneCell'=true)
 (b1:n+m<=maxLen) (b2:(n+m)*bytes<=140737488355328) (b4:base<=w.heap.size)
 (hK:∀ v' w',w'.ownsRow base e size v' (n+m) (xs++news)->w.grownBy w' v.ownBlock->K (a.put o.dst v') w') :
 if Region.wanted o (yielded ops a.tmps)=true then Oper.wp P o a w K Q else E:=by
 have hw:Region.wanted o (yielded ops a.tmps)=true:=by simp[Region.wanted,hg]
 rw[if_pos hw]
 obtain⟨v',w',hrun,r1,r2,_⟩:=run_append_own (P:=P) w base t o.type e i z size bytes h1 h2 h3 h4 h5 h6 h7 v n xs hown ad m c news hn hc h1c b1 b2 b4
 unfold Oper.wp
 simp[execOp,hop,resolve,invoke,builtin,hs,hx,hrun,Result.andThen]
 exact hK v' w' r1 r2
set_option maxHeartbeats 2000000 in
set_option maxRecDepth 100000 in
theorem minus_any (g cap g' cap':Nat)(f f':Nat->Int)(hf:Digs f)(hf':Digs f')(w:World)(c1:ZaZ w g f)(c2:ZaZ w g' f') :
 Calls prog 247 #[.slice (some ⟨g,0,none⟩) 8 cap,.slice (some ⟨g',0,none⟩) 8 cap'] w (Zc8 w (car (fun i=>f i - f' i))):=by
 obtain⟨i0,hi,Xc,Ea,Fa⟩:=info_parts info3
 have C1:=hid c1;have C2:=hid c2
 have F1:=hid hf;have F2:=hid hf'
 clear c1 c2 hf hf'
 go_enter func247,ntmps247
 go_wp2_with fail
 go_loopw [5,6] (fun v i wr=>∃ k:Nat,k<=8/\i=.int .i64 k/\wr.ownsRow w.heap.size 3 1 v k (row (fun i=>f i - f' i) k)/\Below w.heap.size w wr) (fun _ i _=>8 - (intOf i).toNat)
 case atStart=>exact⟨0,by omega,rfl,ZeF _ _,Below.refl _ _⟩
 case round =>
  obtain⟨k,hk,rfl,hown,hB⟩:=hrel
  have hBz:=hB.size
  by_cases hlt:k<8
  · have d1:=C1.out.kept hB k hlt
    have d2:=C2.out.kept hB k hlt
    have b1:=F1.out k hlt
    have b2:=F2.out k hlt
    have hr:Hid ((fun i=>f i - f' i) k=f k - f' k):=rfl
    obtain⟨p0,p1⟩:=b1
    obtain⟨q0,q1⟩:=b2
    generalize hp:f k=p at *
    generalize hq:f' k=q at *
    clear hp hq
    go_wp2_with fail
    have hwr:IntKind.i64.wrap (p - q)=p - q:=by simp[IntKind.wrap,IntKind.bits,IntKind.signed];omega
    go_region_law (refine Ze0 rfl (.tmp 11) (.tmp 21) 101 rfl w.heap.size 3 i0 (.int .i64 0) 1 8 underlying101 hi Xc Ea Fa rfl (by decide) _ k _ (by simp[Act.eval];done) (hown.alloc _).drew ⟨wr.heap.size,0,none⟩ 1 1 [.int .i64 (p - q)] (by simp[Act.eval];done) rfl (Zcz _ _ _) (Zfc _) (by unfold maxLen;omega) (by omega) (by simp;omega) ?_;intro v' w1 Hb hgrow1)
    all_goals
     have Cb:Below w.heap.size w w1:=(hB.drew.alloc hBz _).grown hgrow1 (by simp;omega) (ZbZ hown)
     have Fc:w1.ownsRow w.heap.size 3 1 v' (k+1) (row (fun i=>f i - f' i) (k+1)):=by rw[Zcx,hr.out];exact Hb
     clear Hb hgrow1 hown hB hBz d1 d2
     go_wp2_with fail
     go_roundw
     case rel=>exact⟨k+1,by omega,by go_num,Fc,Cb⟩
     case measure=>simp[intOf];omega
  · have Ci:k=8:=by omega
    subst Ci
    obtain⟨X,capX,rfl,hX,hcX,hXl,cX,fX⟩:=Zbu hown
    have cr:=hid (Zd4 X capX (fun i=>f i - f' i) (fun i hi=>by have:=F1.out i hi;have:=F2.out i hi;omega) wr cX)
    clear hown cX fX
    go_wp2_with fail
    refine cr.out.mono ?_
    rintro e w2 ⟨z,rfl,hz,hb⟩
    go_wp2_with fail
    go_ret
    exact⟨_,rfl,⟨hz.1,by rcases hz.2 with h|⟨g0,c0,u0,e0,Cc,rest⟩;exact Or.inl h;exact Or.inr ⟨g0,c0,u0,e0,by omega,rest⟩⟩,hB.trans (hb.mono hBz)⟩
theorem Zc8.under {w0 w w':World}{f:Nat->Int}{e:Ending}(h:Zc8 w f e w')(hb:Below w0.heap.size w0 w):Zc8 w0 f e w':=by
 obtain⟨v,rfl,hz,Sd⟩:=h
 have:=hb.size
 exact⟨_,rfl,⟨hz.1,by rcases hz.2 with h|⟨g0,c0,u0,e0,Cc,rest⟩;exact Or.inl h;exact Or.inr ⟨g0,c0,u0,e0,by omega,rest⟩⟩,hb.trans (Sd.mono hb.size)⟩
def dbl (f:Nat->Int)(n:Int)(i:Nat):Int:=if i=0 then 2*f 0+n else 2*f i
theorem val_dbl (f:Nat->Int)(n:Int):val8 (dbl f n)=2*val8 f+n:=by
 unfold val8 dbl
 simp only[if_true,if_neg (show ¬ (1:Nat)=0 by decide),if_neg (show ¬ (2:Nat)=0 by decide),if_neg (show ¬ (3:Nat)=0 by decide),if_neg (show ¬ (4:Nat)=0 by decide),if_neg (show ¬ (5:Nat)=0 by decide),if_neg (show ¬ (6:Nat)=0 by decide),if_neg (show ¬ (7:Nat)=0 by decide)]
 omega
set_option maxHeartbeats 2000000 in
set_option maxRecDepth 100000 in
theorem ZdE (g cap:Nat)(f:Nat->Int)(n:Int)(n0:0<=n)(n1:n<=1)(hf:Digs f)(w:World)(c1:ZaZ w g f) :
 Calls prog 245 #[.slice (some ⟨g,0,none⟩) 8 cap,.int .i64 n] w (Zc8 w (car (dbl f n))):=by
 obtain⟨i0,hi,Xc,Ea,Fa⟩:=info_parts info3
 have C1:=hid c1
 have F1:=hid hf
 clear c1 hf
 go_enter func245,ntmps245
 go_wp2_with fail
 go_loopw [5,6] (fun v i wr=>∃ k:Nat,k<=8/\i=.int .i64 k/\wr.ownsRow w.heap.size 3 1 v k (row (fun i=>2*f i) k)/\Below w.heap.size w wr) (fun _ i _=>8 - (intOf i).toNat)
 case atStart=>exact⟨0,by omega,rfl,ZeF _ _,Below.refl _ _⟩
 case round =>
  obtain⟨k,hk,rfl,hown,hB⟩:=hrel
  have hBz:=hB.size
  by_cases hlt:k<8
  · have d1:=C1.out.kept hB k hlt
    have b1:=F1.out k hlt
    obtain⟨p0,p1⟩:=b1
    generalize hp:f k=p at *
    have hr:Hid (2*f k=2*p):=by rw[hp];rfl
    clear hp
    go_wp2_with (at_builtin;refine wpList_append_own _ rfl _ _ 101 rfl w.heap.size 3 i0 (.int .i64 0) 1 8 underlying101 hi Xc Ea Fa rfl (by decide) _ _ _ rfl (hown.alloc _) ⟨wr.heap.size,0,none⟩ 1 1 [.int .i64 (2*p)] rfl rfl (Zcz _ _ _) (Zfc _) (by unfold maxLen;omega) (by omega) (by simp;omega) ?_;intro v' w1 Hb hgrow1 _)
    have Cb:Below w.heap.size w w1:=(hB.alloc hBz _).grown hgrow1 (by simp;omega) (ZbZ hown)
    have Fc:w1.ownsRow w.heap.size 3 1 v' (k+1) (row (fun i=>2*f i) (k+1)):=by rw[Zcx,hr.out];exact Hb
    clear Hb hgrow1 hown hB hBz d1
    go_wp2_with fail
    go_roundw
    case rel=>exact⟨k+1,by omega,by go_num,Fc,Cb⟩
    case measure=>simp[intOf];omega
  · have Ci:k=8:=by omega
    subst Ci
    obtain⟨X,capX,rfl,hX,hcX,hXl,cX,fX⟩:=Zbu hown
    have CX:=hid cX
    have x0:=cX 0 (by omega)
    have f0:=fX 0 (by omega)
    have b0:=F1.out 0 (by omega)
    have hC:∀ wx,wx=wr∨wx=wr.drew∨wx=wr.drew.drew->ZaZ (wx.setCell ⟨X,0,none⟩ (.int .i64 (2*f 0+n))) X (dbl f n)/\Below w.heap.size w (wx.setCell ⟨X,0,none⟩ (.int .i64 (2*f 0+n))):=by
     intro wx hwx
     have hc:ZaZ wx X (fun i=>2*f i):=by rcases hwx with rfl|rfl|rfl<;>exact CX.out
     have hb:Below w.heap.size w wx:=by rcases hwx with rfl|rfl|rfl;exact hB;exact hB.drew;exact hB.drew.drew
     refine⟨fun i hi=>?_,hb.setCell hX _⟩
     by_cases e:i=0
     · subst e
       rw[World.cell?_setCell_same' _ _ _ (by rw[hc 0 hi];rfl)];rfl
     · rw[World.cell?_setCell_other _ ⟨X,0,none⟩ ⟨X,i,none⟩ _ (fun h'=>e (by injection h' with _ h'';exact h''.symm)),hc i hi]
       unfold dbl;rw[if_neg e]
    have HC:=hid hC
    have hd:Hid (∀ i,i<8->-1099511627776<=dbl f n i/\dbl f n i<=1099511627776):=fun i hi=>by
     have:=F1.out i hi;have:=F1.out 0 (by omega)
     unfold dbl;split<;>omega
    clear hown cX fX CX hC
    dsimp only at x0
    generalize f 0=p at *
    go_wp2_with fail
    have hfin:=HC.out wr (Or.inl rfl)
    clear HC
    refine(Zd4 X capX (dbl f n) hd.out _ hfin.1).mono ?_
    rintro e w2 hz
    obtain⟨v,rfl,Ea,Fa⟩:=hz.under hfin.2
    go_wp2_with fail
    go_ret
    exact⟨_,rfl,Ea,Fa⟩
theorem size_ref (a c:Int)(hc:c=if norm a<0 then -a else a)(w:World) :
 Calls prog 244 #[.agg #[.int .i64 (whi a),.int .u64 (wlo a)]] w (Zc8 w (dgt c)):=by
 have hneg:norm a<0↔whi a<0:=by have:=wlo_lo a;have:=wlo_hi a;unfold norm;omega
 by_cases h:whi a<0
 · rw[if_pos (hneg.2 h)]at hc
   subst hc
   clear hneg
   have ng:=hid (rneg_any a)
   have dg:=hid (ZbS (-a))
   go_enter func244,ntmps244
   go_wp2_with fail
   refine(ng.out _).mono ?_
   rintro e w1 ⟨rfl,Cb⟩
   have Qb:Below w.heap.size w w1:=((Below.refl _ _).alloc (Nat.le_refl _) _).trans (Cb.mono (by simp))
   go_wp2_with fail
   refine(dg.out _).mono ?_
   rintro e w2 hz
   obtain⟨v,rfl,Ea,Fa⟩:=hz.under Qb
   go_wp2_with fail
   go_ret
   exact⟨_,rfl,Ea,Fa⟩
 · rw[if_neg (fun h'=>h (hneg.1 h'))]at hc
   subst hc
   clear hneg
   have dg:=hid (ZbS c)
   go_enter func244,ntmps244
   go_wp2_with fail
   refine(dg.out _).mono ?_
   rintro e w2 hz
   obtain⟨v,rfl,Ea,Fa⟩:=hz.under ((Below.refl _ _).alloc (Nat.le_refl _) _)
   go_wp2_with fail
   go_ret
   exact⟨_,rfl,Ea,Fa⟩
end Go.Proofs.YtfnpfkgmacaboaaGreatEx
