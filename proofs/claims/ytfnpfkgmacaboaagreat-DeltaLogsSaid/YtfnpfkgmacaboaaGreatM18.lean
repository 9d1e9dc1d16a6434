/- Texts joined by a program. -/
import Derived.RegionTactic
import Derived.ChangeAlike
import Derived.Test.YtfnpfkgmacaboaaGreatM16
import Derived.Test.YtfnpfkgmacaboaaGreatM17
namespace Go.Proofs.YtfnpfkgmacaboaaGreatEx
open Go.Proofs.Tryz
open Lib (hid)
open Go.ChangeShapes Go.WideShapes Go.ChangeAt Go.RowKit
theorem info3:(prog.info? 3).map (fun i=>(i.zero,i.size,i.bytes))=some (some (.int .i64 0),1,8):=by kernel_rfl
def row (f:Nat->Int)(n:Nat):List Value:=(List.range n).map fun i=>.int .i64 (f i)
theorem Zcx (f:Nat->Int)(n:Nat):row f (n+1)=row f n++[.int .i64 (f n)]:=by simp[row,List.range_succ]
theorem row_get (f:Nat->Int)(n i:Nat)(h:i<n):(row f n)[i]?=some (.int .i64 (f i)):=by simp[row,h]
def Zc8 (w:World)(f:Nat->Int)(e:Ending)(w':World):Prop:=∃ v,e=.returned v/\w'.ownsRow w.heap.size 3 1 v 8 (row f 8)/\Below w.heap.size w w'
theorem Zcz (w:World)(x:Int)(t:TypeId):∀ (j:Nat) (u:Value),[Value.int IntKind.i64 x][j]?=some u->(w.alloc (Obj.cells #[Value.int IntKind.i64 x] t)).cell? ((⟨w.heap.size,0,none⟩:Addr).add j)=some u:=by
 intro j u h
 match j,h with
 |0,h =>
  simp at h
  subst h
  simp[Addr.add,go_sem]
theorem Zfc (x:Int):∀ u,u∈[Value.int IntKind.i64 x]->u.oneCell'=true:=by
 intro u h
 simp at h
 subst h
 rfl
theorem ZbZ {w:World}{B:Nat}{v:Value}{n:Nat}{xs:List Value}(h:w.ownsRow B 3 1 v n xs):∀ k,v.ownBlock=some k->B<=k:=by
 intro k hk
 rcases h.2 with⟨rfl,_⟩|⟨g,cap,cur,rfl,hb,_⟩
 · cases hk
 · simp[Value.ownBlock]at hk;omega
theorem ZeF (w:World)(B:Nat):w.ownsRow B 3 1 (.slice none 0 0) 0 []:=⟨rfl,Or.inl ⟨rfl,rfl⟩⟩
set_option maxHeartbeats 2000000 in
set_option maxRecDepth 100000 in
theorem ZbS (a:Int)(w:World):Calls prog 241 #[.agg #[.int .i64 (whi a),.int .u64 (wlo a)]] w (Zc8 w (dgt a)):=by
 obtain⟨i0,hi,Xc,Ea,Fa⟩:=info_parts info3
 have l0:=wlo_lo a;have l1:=wlo_hi a
 have u0:0<=whi a % 18446744073709551616:=by omega
 have u1:whi a % 18446744073709551616<=18446744073709551615:=by omega
 have uw:IntKind.u64.wrap (whi a)=whi a % 18446744073709551616:=u64w _
 have hD1:∀ k,k<4->dgt a k=lod (wlo a) k % 65536:=fun k hk=>by unfold dgt;rw[if_pos hk]
 have hD2:∀ k,dgt a (4+k)=lod (whi a % 18446744073709551616) k % 65536:=fun k=>by unfold dgt;rw[if_neg (by omega),Nat.add_sub_cancel_left]
 have Ck:=hid hD1;have Ay:=hid hD2
 clear hD1 hD2
 go_enter func241,ntmps241
 go_wp2_with fail
 clear uw
 generalize hu:whi a % 18446744073709551616=u at *
 clear hu
 go_loopw [3,4,6] (fun v lo i wr=>∃ k:Nat,k<=4/\i=.int .i64 k/\lo=.int .u64 (lod (wlo a) k)/\wr.ownsRow w.heap.size 3 1 v k (row (dgt a) k)/\Below w.heap.size w wr) (fun _ _ i _=>4 - (intOf i).toNat)
 case atStart=>exact⟨0,by omega,rfl,rfl,ZeF _ _,(Below.refl _ _).alloc (Nat.le_refl _) _⟩
 case round =>
  obtain⟨k,hk,rfl,rfl,hown,hB⟩:=hrel
  have b0:=lod_lo (wlo a) l0 k
  have b1:=lod_hi (wlo a) l0 l1 k
  have hBz:=hB.size
  by_cases hlt:k<4
  · go_wp2_with (at_builtin;refine wpList_append_own _ rfl _ _ 101 rfl w.heap.size 3 i0 (.int .i64 0) 1 8 underlying101 hi Xc Ea Fa rfl (by decide) _ _ _ rfl (hown.alloc _) ⟨wr.heap.size,0,none⟩ 1 1 [.int .i64 (lod (wlo a) k % 65536)] rfl rfl (Zcz _ _ _) (Zfc _) (by unfold maxLen;omega) (by omega) (by simp;omega) ?_;intro v' w1 Hb hgrow1 _)
    have Cb:Below w.heap.size w w1:=(hB.alloc (by omega) _).grown hgrow1 (by simp;omega) (ZbZ hown)
    have Fc:w1.ownsRow w.heap.size 3 1 v' (k+1) (row (dgt a) (k+1)):=by rw[Zcx,Ck.out k hlt];exact Hb
    clear Hb hgrow1 hown hB hBz
    go_wp2_with fail
    go_roundw
    case rel=>exact⟨k+1,by omega,by go_num,rfl,Fc,Cb⟩
    case measure=>simp[intOf];omega
  · have Zk:k=4:=by omega
    subst Zk
    rw[show(((4:Nat):Int))=(4:Int) from rfl]
    go_wp2_with fail
    go_loopw [3,5,7] (fun v lo i wr=>∃ k:Nat,k<=4/\i=.int .i64 k/\lo=.int .u64 (lod u k)/\wr.ownsRow w.heap.size 3 1 v (4+k) (row (dgt a) (4+k))/\Below w.heap.size w wr) (fun _ _ i _=>4 - (intOf i).toNat)
    case atStart=>exact⟨0,by omega,rfl,rfl,hown,hB⟩
    case round =>
     clear hown hB hBz b0 b1
     obtain⟨k,hk,rfl,rfl,hown,hB⟩:=hrel
     have b0:=lod_lo u u0 k
     have b1:=lod_hi u u0 u1 k
     have hBz:=hB.size
     by_cases hlt:k<4
     · go_wp2_with (at_builtin;refine wpList_append_own _ rfl _ _ 101 rfl w.heap.size 3 i0 (.int .i64 0) 1 8 underlying101 hi Xc Ea Fa rfl (by decide) _ _ _ rfl (hown.alloc _) ⟨wr.heap.size,0,none⟩ 1 1 [.int .i64 (lod u k % 65536)] rfl rfl (Zcz _ _ _) (Zfc _) (by unfold maxLen;omega) (by omega) (by simp;omega) ?_;intro v' w1 Hb hgrow1 _)
       have Cb:Below w.heap.size w w1:=(hB.alloc (by omega) _).grown hgrow1 (by simp;omega) (ZbZ hown)
       have Fc:w1.ownsRow w.heap.size 3 1 v' (4+(k+1)) (row (dgt a) (4+(k+1))):=by rw[<-Nat.add_assoc,Zcx,Ay.out k];exact Hb
       clear Hb hgrow1 hown hB hBz
       go_wp2_with fail
       go_roundw
       case rel=>exact⟨k+1,by omega,by go_num,rfl,Fc,Cb⟩
       case measure=>simp[intOf];omega
     · have Zk:k=4:=by omega
       subst Zk
       go_wp2_with fail
       go_ret
       exact⟨_,rfl,hown,hB⟩
def ZaZ (w:World)(g:Nat)(f:Nat->Int):Prop:=∀ i,i<8->w.cell? ⟨g,i,none⟩=some (.int .i64 (f i))
theorem Zbu {w:World}{B:Nat}{v:Value}{f:Nat->Int}(h:w.ownsRow B 3 1 v 8 (row f 8)):∃ g cap,v=.slice (some ⟨g,0,none⟩) 8 cap/\B<=g/\8<=cap/\g<w.heap.size/\ZaZ w g f/\∀ i,i<8->w.frozen? ⟨g,i,none⟩=false:=by
 rcases h.2 with⟨_,h'⟩|⟨g,cap,cur,rfl,hb,hg,hn,_⟩
 · omega
 · have hc:ZaZ w g f:=fun i hi=>by rw[h.cellAt i (by omega),row_get f 8 i hi]
   exact⟨g,cap,rfl,hb,hn,(Array.getElem?_eq_some_iff.1 hg).1,hc,fun i hi=>h.frozenAt i⟩
theorem ZaZ.kept {w w':World}{g:Nat}{f:Nat->Int}(h:ZaZ w g f)(hb:Below w.heap.size w w'):ZaZ w' g f:=by
 intro i hi
 rw[(bsome hb).1 _ (by rw[h i hi];rfl),h i hi]
set_option maxHeartbeats 1000000 in
set_option maxRecDepth 100000 in
theorem make_any (g cap:Nat)(f:Nat->Int)(c:Int)(hf:∀ i,i<8->0<=f i/\f i<=65535)(hc:eqv (val8 f) c)(w:World)(hcell:ZaZ w g f) :
 Calls prog 242 #[.slice (some ⟨g,0,none⟩) 8 cap] w fun e w'=>e=.returned (.agg #[.int .i64 (whi c),.int .u64 (wlo c)])/\Below w.heap.size w w':=by
 have hfin:=mk4_halves f hf c hc
 have HF:=hid hfin
 have HC:=hid hcell
 have Hf:=hid hf
 have hg:g<w.heap.size:=by
  rcases Nat.lt_or_ge g w.heap.size with hp|hp
  · exact hp
  · have:=hcell 0 (by omega)
    have h0:w.heap[g]?=none:=Array.getElem?_eq_none hp
    simp[World.cell?,h0]at this
 clear hfin hcell hf hc
 go_enter func242,ntmps242
 go_wp2_with fail
 go_loopw [3,4,5] (fun lo hi i wr=>∃ k:Nat,k<=4/\i=.int .i64 (3 - (k:Int))/\lo=.int .u64 (mk4 f k)/\hi=.int .u64 (mk4 (fun i=>f (i+4)) k)/\wr=w.alloc (.cells #[.int .i64 0,.int .u64 0] 273)) (fun _ _ i _=>(intOf i+1).toNat)
 case atStart=>exact⟨0,by omega,rfl,rfl,rfl,rfl⟩
 case round =>
  obtain⟨k,hk,rfl,rfl,rfl,rfl⟩:=hrel
  have b1:=mk4_bd f (fun i hi=>Hf.out i (by omega)) k hk
  have b2:=mk4_bd (fun i=>f (i+4)) (fun i hi=>Hf.out (i+4) (by omega)) k hk
  by_cases hlt:k<4
  · have f1:=Hf.out (3 - k) (by omega)
    have f2:=Hf.out (3 - k+4) (by omega)
    have c1:=HC.out (3 - k) (by omega)
    have c2:=HC.out (3 - k+4) (by omega)
    have b3:=mk4_bd f (fun i hi=>Hf.out i (by omega)) (k+1) hlt
    have b4:=mk4_bd (fun i=>f (i+4)) (fun i hi=>Hf.out (i+4) (by omega)) (k+1) hlt
    simp only[mk4]at b3 b4
    go_wp2_with fail
    go_roundw
    case rel=>exact⟨k+1,by omega,by go_num,rfl,rfl,trivial⟩
    case measure=>simp[intOf];omega
  · have Zk:k=4:=by omega
    subst Zk
    obtain⟨e1,e2⟩:=HF.out
    have E1:Hid (wrap64 (mk4 (fun i=>f (i+4)) 4)=whi c):=by unfold Hid wrap64;exact e1
    have E2:=hid e2
    clear e1 e2
    go_wp2_with fail
    rw[E1.out,E2.out]
    exact bodyPost_ret (v:=.agg #[.int .i64 (whi c),.int .u64 (wlo c)]) (by simp[results,Tryz.results242,go_sem]) rfl ⟨rfl,(Below.refl _ _).alloc (Nat.le_refl _) _⟩
theorem floor_cases (t:Int):0<=t∨t<0/\t.tmod 65536=0/\t % 65536=0/\t.tdiv 65536=t / 65536∨t<0/\t.tmod 65536=t % 65536 - 65536/\0<t % 65536/\t.tdiv 65536=t / 65536+1:=by
 rcases Int.lt_or_le t 0 with h|h
 · right
   have e:t.tmod 65536=t - 65536*t.tdiv 65536:=by have:=Int.mul_tdiv_add_tmod t 65536;omega
   by_cases hz:t % 65536=0
   · left
     have:t.tdiv 65536=t / 65536:=Int.tdiv_eq_ediv_of_dvd (Int.dvd_of_emod_eq_zero hz)
     omega
   · right
     have:t.tdiv 65536=t / 65536+1:=by
      rw[Int.tdiv_eq_ediv]
      have hd:¬ (65536:Int)∣t:=fun hd=>hz (Int.emod_eq_zero_of_dvd hd)
      rw[if_neg (by omega)]
      rfl
     omega
 · left;exact h
set_option maxHeartbeats 2000000 in
set_option maxRecDepth 100000 in
theorem Zd4 (g cap:Nat)(f:Nat->Int)(hf:∀ i,i<8->-1099511627776<=f i/\f i<=1099511627776)(w:World)(hcell:ZaZ w g f) :
 Calls prog 243 #[.slice (some ⟨g,0,none⟩) 8 cap] w (Zc8 w (car f)):=by
 obtain⟨i0,hi,Xc,Ea,Fa⟩:=info_parts info3
 have HC:=hid hcell
 have Hf:=hid hf
 clear hcell hf
 go_enter func243,ntmps243
 go_wp2_with fail
 go_loopw [3,4,5] (fun v m i wr=>∃ k:Nat,k<=8/\i=.int .i64 k/\m=.int .i64 (more f k)/\wr.ownsRow w.heap.size 3 1 v k (row (car f) k)/\Below w.heap.size w wr) (fun _ _ i _=>8 - (intOf i).toNat)
 case atStart=>exact⟨0,by omega,rfl,rfl,ZeF _ _,Below.refl _ _⟩
 case round =>
  obtain⟨k,hk,rfl,rfl,hown,hB⟩:=hrel
  have hBz:=hB.size
  by_cases hlt:k<8
  · have b1:=more_bd f k (fun i hi=>Hf.out i (by omega))
    have b2:=Hf.out k hlt
    have c1:=HC.out.kept hB k hlt
    have hm:more f (k+1)=(f k+more f k) / 65536:=rfl
    have hr:car f k=(f k+more f k) % 65536:=rfl
    have HM:=hid hm;have HR:=hid hr
    clear hm hr
    generalize more f k=m at *
    generalize hx:f k=x at *
    clear hx
    rcases floor_cases (x+m)with h|⟨h,h1,h2,h3⟩|⟨h,h1,h2,h3⟩
    · go_wp2_with (at_builtin;refine wpList_append_own _ rfl _ _ 101 rfl w.heap.size 3 i0 (.int .i64 0) 1 8 underlying101 hi Xc Ea Fa rfl (by decide) _ _ _ rfl (hown.alloc _) ⟨wr.heap.size,0,none⟩ 1 1 [.int .i64 ((x+m) % 65536)] rfl rfl (Zcz _ _ _) (Zfc _) (by unfold maxLen;omega) (by omega) (by simp;omega) ?_;intro v' w1 Hb hgrow1 _)
      have Cb:Below w.heap.size w w1:=(hB.alloc (by omega) _).grown hgrow1 (by simp;omega) (ZbZ hown)
      have Fc:w1.ownsRow w.heap.size 3 1 v' (k+1) (row (car f) (k+1)):=by rw[Zcx,HR.out];exact Hb
      clear Hb hgrow1 hown hB hBz c1 b1 b2
      go_wp2_with fail
      go_roundw
      case rel=>exact⟨k+1,by omega,by go_num,by rw[HM.out],Fc,Cb⟩
      case measure=>simp[intOf];omega
    · have h4:(x+m) % 65536=0:=h2
      clear h2
      go_wp2_with (at_builtin;refine wpList_append_own _ rfl _ _ 101 rfl w.heap.size 3 i0 (.int .i64 0) 1 8 underlying101 hi Xc Ea Fa rfl (by decide) _ _ _ rfl (hown.alloc _) ⟨wr.heap.size,0,none⟩ 1 1 [.int .i64 0] rfl rfl (Zcz _ _ _) (Zfc _) (by unfold maxLen;omega) (by omega) (by simp;omega) ?_;intro v' w1 Hb hgrow1 _)
      have Cb:Below w.heap.size w w1:=(hB.alloc (by omega) _).grown hgrow1 (by simp;omega) (ZbZ hown)
      have Fc:w1.ownsRow w.heap.size 3 1 v' (k+1) (row (car f) (k+1)):=by rw[Zcx,HR.out,h4];exact Hb
      clear Hb hgrow1 hown hB hBz c1 b1 b2
      go_wp2_with fail
      go_roundw
      case rel=>exact⟨k+1,by omega,by go_num,by rw[HM.out],Fc,Cb⟩
      case measure=>simp[intOf];omega
    · go_wp2_with (at_builtin;refine wpList_append_own _ rfl _ _ 101 rfl w.heap.size 3 i0 (.int .i64 0) 1 8 underlying101 hi Xc Ea Fa rfl (by decide) _ _ _ rfl (hown.alloc _) ⟨wr.heap.size,0,none⟩ 1 1 [.int .i64 ((x+m) % 65536)] rfl rfl (Zcz _ _ _) (Zfc _) (by unfold maxLen;omega) (by omega) (by simp;omega) ?_;intro v' w1 Hb hgrow1 _)
      have Cb:Below w.heap.size w w1:=(hB.alloc (by omega) _).grown hgrow1 (by simp;omega) (ZbZ hown)
      have Fc:w1.ownsRow w.heap.size 3 1 v' (k+1) (row (car f) (k+1)):=by rw[Zcx,HR.out];exact Hb
      clear Hb hgrow1 hown hB hBz c1 b1 b2
      go_wp2_with fail
      go_roundw
      case rel=>exact⟨k+1,by omega,by go_num,by rw[HM.out],Fc,Cb⟩
      case measure=>simp[intOf];omega
  · have Ci:k=8:=by omega
    subst Ci
    go_wp2_with fail
    go_ret
    exact⟨_,rfl,hown,hB⟩
theorem ZcT (n:Int)(w:World)(h1:-9223372036854775808<=n)(h2:n<=9223372036854775807) :
 Calls prog 238 #[.int .i64 n] w fun e w'=>e=.returned (.agg #[.int .i64 (whi n),.int .u64 (wlo n)])/\Below w.heap.size w w':=by
 by_cases hn:n<0
 · have e1:whi n=-1:=by unfold whi;omega
   have e2:wlo n=IntKind.u64.wrap n:=by rw[u64w];rfl
   rw[e1,e2]
   clear e1 e2
   go_enter func238,ntmps238
   go_wp2_with fail
   exact bodyPost_ret (v:=.agg #[.int .i64 (-1),.int .u64 (IntKind.u64.wrap n)]) (by simp[results,Tryz.results238,go_sem]) rfl ⟨rfl,(Below.refl _ _).alloc (Nat.le_refl _) _⟩
 · have e1:whi n=0:=by unfold whi;omega
   have e2:wlo n=n:=by unfold wlo;omega
   rw[e1,e2]
   clear e1 e2
   go_enter func238,ntmps238
   go_wp2_with fail
   exact bodyPost_ret (v:=.agg #[.int .i64 0,.int .u64 n]) (by simp[results,Tryz.results238,go_sem]) rfl ⟨rfl,(Below.refl _ _).alloc (Nat.le_refl _) _⟩
theorem ite_step (i k:Nat)(x y:Int)(h:i≠k):(if i<k+1 then x else y)=if i<k then x else y:=by
 by_cases h1:i<k
 · rw[if_pos h1,if_pos (by omega)]
 · rw[if_neg h1,if_neg (by omega)]
structure Open2 (w:World) (R:Nat):Prop where
 r0:(w.cell? ⟨R,0,none⟩).isSome=true
 r1:(w.cell? ⟨R,1,none⟩).isSome=true
 f0:w.frozen? ⟨R,0,none⟩=false
 f1:w.frozen? ⟨R,1,none⟩=false
theorem Open2.kept {w w':World}{R:Nat}(h:Open2 w R)(hb:Below w.heap.size w w'):Open2 w' R:=by
 obtain⟨hk,hf⟩:=bsome hb
 exact⟨by rw[hk _ h.r0];exact h.r0,by rw[hk _ h.r1];exact h.r1,by rw[hf _ h.r0];exact h.f0,by rw[hf _ h.r1];exact h.f1⟩
theorem Open2.put {w:World}{R X k:Nat}(h:Open2 w R)(v:Value)(hne:X≠R):Open2 (w.setCell ⟨X,k,none⟩ v) R:=by
 have e0:=World.cell?_setCell_other w ⟨X,k,none⟩ ⟨R,0,none⟩ v (fun e=>hne (by injection e))
 have e1:=World.cell?_setCell_other w ⟨X,k,none⟩ ⟨R,1,none⟩ v (fun e=>hne (by injection e))
 exact⟨by rw[e0];exact h.r0,by rw[e1];exact h.r1,by rw[World.frozen?_setCell];exact h.f0,by rw[World.frozen?_setCell];exact h.f1⟩
theorem Open2.drew {w:World}{R:Nat}(h:Open2 w R):Open2 w.drew R:=⟨h.r0,h.r1,h.f0,h.f1⟩
structure Zdm (w:World) (X Y R:Nat) (f g:Nat->Int) (wr:World):Prop where
 below:Below w.heap.size w wr
 low:w.heap.size<=X
 ne:X≠Y
 ner:X≠R
 x:ZaZ wr X f
 y:ZaZ wr Y g
 fx:∀ i,i<8->wr.frozen? ⟨X,i,none⟩=false
 r:Open2 wr R
theorem Zdm.drew {w:World}{X Y R:Nat}{f g:Nat->Int}{wr:World}(h:Zdm w X Y R f g wr):Zdm w X Y R f g wr.drew:=⟨h.below.drew,h.low,h.ne,h.ner,h.x,h.y,h.fx,h.r.drew⟩
theorem Zdm.put {w:World}{X Y R:Nat}{f f' g:Nat->Int}{wr:World}(h:Zdm w X Y R f g wr)(k:Nat)(v:Int)(hk:f' k=v)(ho:∀ i,i≠k->f' i=f i) :
 Zdm w X Y R f' g (wr.setCell ⟨X,k,none⟩ (.int .i64 v)):=by
 refine⟨h.below.setCell h.low _,h.low,h.ne,h.ner,?_,?_,?_,h.r.put _ h.ner⟩
 · intro i hi
   by_cases e:i=k
   · subst e
     rw[hk,World.cell?_setCell_same' _ _ _ (by rw[h.x i hi];rfl)]
   · rw[ho i e,World.cell?_setCell_other _ ⟨X,k,none⟩ ⟨X,i,none⟩ _ (fun h'=>e (by injection h' with _ h'';exact h''.symm)),h.x i hi]
 · intro i hi
   rw[World.cell?_setCell_other _ ⟨X,k,none⟩ ⟨Y,i,none⟩ _ (fun e=>h.ne (by injection e)),h.y i hi]
 · intro i hi
   rw[World.frozen?_setCell];exact h.fx i hi
set_option maxHeartbeats 2000000 in
set_option maxRecDepth 100000 in
theorem refAdd_any (a b:Int)(w:World) :
 Calls prog 239 #[.agg #[.int .i64 (whi a),.int .u64 (wlo a)],.agg #[.int .i64 (whi b),.int .u64 (wlo b)]] w fun e w'=>e=.returned (.agg #[.int .i64 (whi (a+b)),.int .u64 (wlo (a+b))])/\Below w.heap.size w w':=by
 have da:=hid (ZbS a)
 have db:=hid (ZbS b)
 go_enter func239,ntmps239
 go_wp2_with fail
 refine(da.out _).mono ?_
 rintro e w1 ⟨x,rfl,hx,Cb⟩
 obtain⟨X,capX,rfl,hX,hcX,hXl,cX,fX⟩:=Zbu hx
 have CX:=hid cX;have FX:=hid fX
 clear cX fX hx
 have Ea:=Cb.size
 simp at Ea hX
 have k0:w1.cell? ⟨w.heap.size+1,0,none⟩=some (.int .i64 (whi b)):=by rw[Cb.cell (by simp;try omega)];simp[go_sem]
 have k1:w1.cell? ⟨w.heap.size+1,1,none⟩=some (.int .u64 (wlo b)):=by rw[Cb.cell (by simp;try omega)];simp[go_sem]
 have HR:Hid (Open2 w1 (w.heap.size+1+1)):=Open2.kept ⟨by simp[go_sem],by simp[go_sem],by simp[go_sem],by simp[go_sem]⟩ Cb
 have Qb:Below w.heap.size w w1:=((((Below.refl _ _).alloc (Nat.le_refl _) _).alloc (by simp) _).alloc (by simp;omega) _).trans (Cb.mono (by simp;omega))
 go_wp2_with fail
 refine(db.out _).mono ?_
 rintro e w2 ⟨y,rfl,hy,Sd⟩
 obtain⟨Y,capY,rfl,hY,hcY,hYl,cY,fY⟩:=Zbu hy
 have HI:Hid (Zdm w X Y (w.heap.size+1+1) (dgt a) (dgt b) w2):=⟨Qb.trans (Sd.mono (by omega)),by omega,by omega,by omega,CX.out.kept Sd,cY,fun i hi=>by rw[Sd.frozen (by simpa using hXl)];exact FX.out i hi,HR.out.kept Sd⟩
 have Fa:=Sd.size
 clear cY fY hy CX FX Cb Sd Qb k0 k1 HR
 go_wp2_with fail
 go_loopw [7] (fun i wr=>∃ k:Nat,k<=8/\i=.int .i64 k/\Zdm w X Y (w.heap.size+1+1) (fun i=>if i<k then dgt a i+dgt b i else dgt a i) (dgt b) wr) (fun i _=>8 - (intOf i).toNat)
 case atStart=>exact⟨0,by omega,rfl,HI.out⟩
 case round =>
  obtain⟨k,hk,rfl,hI⟩:=hrel
  have HK:=hid hI
  clear hI HI
  by_cases hlt:k<8
  · have c1:=HK.out.x k hlt
    have c2:=HK.out.y k hlt
    have c3:=HK.out.fx k hlt
    rw[if_neg (Nat.lt_irrefl k)]at c1
    have b1:=Zd1 a k;have b2:=Zd2 a k;have b3:=Zd1 b k;have b4:=Zd2 b k
    have hv:Hid ((fun i=>if i<k+1 then dgt a i+dgt b i else dgt a i) k=dgt a k+dgt b k):=if_pos (Nat.lt_succ_self k)
    generalize dgt a k=p at *
    generalize dgt b k=q at *
    go_wp2_with fail
    go_region
    all_goals
     go_wp2_with fail
     go_roundw
     case rel=>exact⟨k+1,by omega,by go_num,by exact HK.out.drew.put (f':=fun i=>if i<k+1 then dgt a i+dgt b i else dgt a i) k (p+q) hv.out (fun i hi=>ite_step i k _ _ hi)⟩
     case measure=>simp[intOf];omega
  · have Ci:k=8:=by omega
    subst Ci
    have HX:=HK.out.x
    have e8:∀ i,i<8->(if i<8 then dgt a i+dgt b i else dgt a i)=dgt a i+dgt b i:=fun i hi=>if_pos hi
    have hcx:ZaZ wr X (fun i=>dgt a i+dgt b i):=fun i hi=>(HX i hi).trans (congrArg (fun z=>some (Value.int IntKind.i64 z)) (e8 i hi))
    have Tg:=hid hcx
    clear hcx HX e8
    have cr:=hid (Zd4 X capX (fun i=>dgt a i+dgt b i) (fun i hi=>by have:=Zd1 a i;have:=Zd2 a i;have:=Zd1 b i;have:=Zd2 b i;omega) wr Tg.out)
    have hval:eqv (val8 (car (fun i=>dgt a i+dgt b i))) (a+b):=by
     refine Zcq (ZeW _) ?_
     have:val8 (fun i=>dgt a i+dgt b i)=val8 (dgt a)+val8 (dgt b):=by simp only[val8];omega
     rw[this]
     exact eqv_add (Zd8 a) (Zd8 b)
    have HV:=hid hval
    clear hval
    have HR:=hid HK.out.r
    have HBz:=HK.out.below
    clear HK Tg
    go_wp2_with fail
    refine cr.out.mono ?_
    rintro e w3 ⟨z,rfl,hz,Ue⟩
    obtain⟨Z,capZ,rfl,hZ,hcZ,hZl,cZ,fZ⟩:=Zbu hz
    have Md:=hid (HR.out.kept Ue)
    have Ib:=HBz.trans (Ue.mono HBz.size)
    have mk:=hid (make_any Z capZ _ _ (fun i hi=>⟨car_lo _ i,car_hi _ i⟩) HV.out w3 cZ)
    clear hz cZ fZ Ue HR HBz cr
    go_wp2_with fail
    refine mk.out.mono ?_
    rintro e w4 ⟨rfl,Xn⟩
    have Rg:=Md.out.kept Xn
    have Ac:=Ib.trans (Xn.mono Ib.size)
    have g0:=Rg.f0;have g1:=Rg.f1;have g2:=Rg.r0;have g3:=Rg.r1
    have e2:=twoset (x:=.int .i64 (whi (a+b))) (y:=.int .u64 (wlo (a+b))) g2 g3
    obtain⟨y0,Hq⟩:=Option.isSome_iff_exists.1 g2
    obtain⟨y1,Gp⟩:=Option.isSome_iff_exists.1 g3
    have E2:=hid e2
    clear g2 g3 Rg Xn Ib mk Md e2
    go_wp2_with fail
    refine bodyPost_ret (v:=.agg #[.int .i64 (whi (a+b)),.int .u64 (wlo (a+b))]) ?_ rfl ⟨rfl,(Ac.setCell (by simp;omega) _).setCell (by simp;omega) _⟩
    simp[results,Tryz.results239,go_sem,E2.out.1,E2.out.2]
set_option maxHeartbeats 2000000 in
set_option maxRecDepth 100000 in
theorem refSub_any (a b:Int)(w:World) :
 Calls prog 249 #[.agg #[.int .i64 (whi a),.int .u64 (wlo a)],.agg #[.int .i64 (whi b),.int .u64 (wlo b)]] w fun e w'=>e=.returned (.agg #[.int .i64 (whi (a - b)),.int .u64 (wlo (a - b))])/\Below w.heap.size w w':=by
 have da:=hid (ZbS a)
 have db:=hid (ZbS b)
 go_enter func249,ntmps249
 go_wp2_with fail
 refine(da.out _).mono ?_
 rintro e w1 ⟨x,rfl,hx,Cb⟩
 obtain⟨X,capX,rfl,hX,hcX,hXl,cX,fX⟩:=Zbu hx
 have CX:=hid cX;have FX:=hid fX
 clear cX fX hx
 have Ea:=Cb.size
 simp at Ea hX
 have k0:w1.cell? ⟨w.heap.size+1,0,none⟩=some (.int .i64 (whi b)):=by rw[Cb.cell (by simp;try omega)];simp[go_sem]
 have k1:w1.cell? ⟨w.heap.size+1,1,none⟩=some (.int .u64 (wlo b)):=by rw[Cb.cell (by simp;try omega)];simp[go_sem]
 have HR:Hid (Open2 w1 (w.heap.size+1+1)):=Open2.kept ⟨by simp[go_sem],by simp[go_sem],by simp[go_sem],by simp[go_sem]⟩ Cb
 have Qb:Below w.heap.size w w1:=((((Below.refl _ _).alloc (Nat.le_refl _) _).alloc (by simp) _).alloc (by simp;omega) _).trans (Cb.mono (by simp;omega))
 go_wp2_with fail
 refine(db.out _).mono ?_
 rintro e w2 ⟨y,rfl,hy,Sd⟩
 obtain⟨Y,capY,rfl,hY,hcY,hYl,cY,fY⟩:=Zbu hy
 have HI:Hid (Zdm w X Y (w.heap.size+1+1) (dgt a) (dgt b) w2):=⟨Qb.trans (Sd.mono (by omega)),by omega,by omega,by omega,CX.out.kept Sd,cY,fun i hi=>by rw[Sd.frozen (by simpa using hXl)];exact FX.out i hi,HR.out.kept Sd⟩
 have Fa:=Sd.size
 clear cY fY hy CX FX Cb Sd Qb k0 k1 HR
 go_wp2_with fail
 go_loopw [7] (fun i wr=>∃ k:Nat,k<=8/\i=.int .i64 k/\Zdm w X Y (w.heap.size+1+1) (fun i=>if i<k then dgt a i - dgt b i else dgt a i) (dgt b) wr) (fun i _=>8 - (intOf i).toNat)
 case atStart=>exact⟨0,by omega,rfl,HI.out⟩
 case round =>
  obtain⟨k,hk,rfl,hI⟩:=hrel
  have HK:=hid hI
  clear hI HI
  by_cases hlt:k<8
  · have c1:=HK.out.x k hlt
    have c2:=HK.out.y k hlt
    have c3:=HK.out.fx k hlt
    rw[if_neg (Nat.lt_irrefl k)]at c1
    have b1:=Zd1 a k;have b2:=Zd2 a k;have b3:=Zd1 b k;have b4:=Zd2 b k
    have hv:Hid ((fun i=>if i<k+1 then dgt a i - dgt b i else dgt a i) k=dgt a k - dgt b k):=if_pos (Nat.lt_succ_self k)
    generalize dgt a k=p at *
    generalize dgt b k=q at *
    go_wp2_with fail
    go_region
    all_goals
     go_wp2_with fail
     go_roundw
     case rel=>exact⟨k+1,by omega,by go_num,by exact HK.out.drew.put (f':=fun i=>if i<k+1 then dgt a i - dgt b i else dgt a i) k (p - q) hv.out (fun i hi=>ite_step i k _ _ hi)⟩
     case measure=>simp[intOf];omega
  · have Ci:k=8:=by omega
    subst Ci
    have HX:=HK.out.x
    have e8:∀ i,i<8->(if i<8 then dgt a i - dgt b i else dgt a i)=dgt a i - dgt b i:=fun i hi=>if_pos hi
    have hcx:ZaZ wr X (fun i=>dgt a i - dgt b i):=fun i hi=>(HX i hi).trans (congrArg (fun z=>some (Value.int IntKind.i64 z)) (e8 i hi))
    have Tg:=hid hcx
    clear hcx HX e8
    have cr:=hid (Zd4 X capX (fun i=>dgt a i - dgt b i) (fun i hi=>by have:=Zd1 a i;have:=Zd2 a i;have:=Zd1 b i;have:=Zd2 b i;omega) wr Tg.out)
    have hval:eqv (val8 (car (fun i=>dgt a i - dgt b i))) (a - b):=by
     refine Zcq (ZeW _) ?_
     have:val8 (fun i=>dgt a i - dgt b i)=val8 (dgt a) - val8 (dgt b):=by simp only[val8];omega
     rw[this]
     exact eqv_sub (Zd8 a) (Zd8 b)
    have HV:=hid hval
    clear hval
    have HR:=hid HK.out.r
    have HBz:=HK.out.below
    clear HK Tg
    go_wp2_with fail
    refine cr.out.mono ?_
    rintro e w3 ⟨z,rfl,hz,Ue⟩
    obtain⟨Z,capZ,rfl,hZ,hcZ,hZl,cZ,fZ⟩:=Zbu hz
    have Md:=hid (HR.out.kept Ue)
    have Ib:=HBz.trans (Ue.mono HBz.size)
    have mk:=hid (make_any Z capZ _ _ (fun i hi=>⟨car_lo _ i,car_hi _ i⟩) HV.out w3 cZ)
    clear hz cZ fZ Ue HR HBz cr
    go_wp2_with fail
    refine mk.out.mono ?_
    rintro e w4 ⟨rfl,Xn⟩
    have Rg:=Md.out.kept Xn
    have Ac:=Ib.trans (Xn.mono Ib.size)
    have g0:=Rg.f0;have g1:=Rg.f1;have g2:=Rg.r0;have g3:=Rg.r1
    have e2:=twoset (x:=.int .i64 (whi (a - b))) (y:=.int .u64 (wlo (a - b))) g2 g3
    obtain⟨y0,Hq⟩:=Option.isSome_iff_exists.1 g2
    obtain⟨y1,Gp⟩:=Option.isSome_iff_exists.1 g3
    have E2:=hid e2
    clear g2 g3 Rg Xn Ib mk Md e2
    go_wp2_with fail
    refine bodyPost_ret (v:=.agg #[.int .i64 (whi (a - b)),.int .u64 (wlo (a - b))]) ?_ rfl ⟨rfl,(Ac.setCell (by simp;omega) _).setCell (by simp;omega) _⟩
    simp[results,Tryz.results249,go_sem,E2.out.1,E2.out.2]
theorem Open2.own {w:World}{R:Nat}(h:Open2 w R)(x y:Value):Open2 ((w.setCell ⟨R,0,none⟩ x).setCell ⟨R,1,none⟩ y) R:=by
 have e:=twoset (x:=x) (y:=y) h.r0 h.r1
 exact⟨by rw[e.1];rfl,by rw[e.2];rfl,by rw[World.frozen?_setCell,World.frozen?_setCell];exact h.f0,by rw[World.frozen?_setCell,World.frozen?_setCell];exact h.f1⟩
theorem keepT {B:Nat}{w0 w:World}(h:Below B w0 w)(g:Nat)(hg:B<=g)(x y:Value):Below B w0 ((w.setCell ⟨g,0,none⟩ x).setCell ⟨g,1,none⟩ y):=(h.setCell hg x).setCell hg y
theorem rneg_any (a:Int)(w:World) :
 Calls prog 248 #[.agg #[.int .i64 (whi a),.int .u64 (wlo a)]] w fun e w'=>e=.returned (.agg #[.int .i64 (whi (-a)),.int .u64 (wlo (-a))])/\Below w.heap.size w w':=by
 have o:=hid (fun w=>ZcT 0 w (by decide) (by decide))
 have s:=hid (fun w=>by have h:=refSub_any 0 a w;rw[show(0 - a)=-a by omega]at h;exact h)
 go_enter func248,ntmps248
 go_wp2_with fail
 refine Zan (fun W hW=>?_)
 have HB:Below w.heap.size w W:=by rw[hW];exact((Below.refl _ _).alloc (Nat.le_refl _) _).alloc (by simp) _
 have hB:w.heap.size+1<=W.heap.size:=by rw[hW];simp
 have k0:W.cell? ⟨w.heap.size,0,none⟩=some (.int .i64 (whi a)):=by rw[hW];simp[go_sem]
 have k1:W.cell? ⟨w.heap.size,1,none⟩=some (.int .u64 (wlo a)):=by rw[hW];simp[go_sem]
 have HR:Hid (Open2 W (w.heap.size+1)):=by rw[hW];exact⟨by simp[go_sem],by simp[go_sem],by simp[go_sem],by simp[go_sem]⟩
 clear hW
 have HS:Hid (∀ w',Below (w.heap.size+1) W w'->Open2 w' (w.heap.size+1)->(Below (w.heap.size+1) W w'/\Open2 w' (w.heap.size+1))/\w'.cell? ⟨w.heap.size,0,none⟩=some (.int .i64 (whi a))/\w'.cell? ⟨w.heap.size,1,none⟩=some (.int .u64 (wlo a))) :=
  fun w' h h2=>⟨⟨h,h2⟩,(h.cell (by simp)).trans k0,(h.cell (by simp)).trans k1⟩
 go_region_held3 (fun w'=>(Below (w.heap.size+1) W w'/\Open2 w' (w.heap.size+1))/\w'.cell? ⟨w.heap.size,0,none⟩=some (.int .i64 (whi a))/\w'.cell? ⟨w.heap.size,1,none⟩=some (.int .u64 (wlo a)))
  (first|exact HS.out _ (Below.refl _ _).drew HR.out.drew|exact HS.out _ (keepB hB (And.left (And.left (by assumption))) hb) (Open2.kept (And.right (And.left (by assumption))) hb)|exact HS.out _ (keepT (And.left (And.left (by assumption))) _ (Nat.le_refl _) _ _) (Open2.own (And.right (And.left (by assumption))) _ _)|exact HS.out _ (keepT (And.left (And.left (by assumption:(Below (w.heap.size+1) W w'/\Open2 w' (w.heap.size+1))/\_))) _ (Nat.le_refl _) _ _) (Open2.own (And.right (And.left (by assumption:(Below (w.heap.size+1) W w'/\Open2 w' (w.heap.size+1))/\_))) _ _))
  (first
   |(go_at_call 238;refine(o.out _).mono ?_;rintro e w' ⟨rfl,hb⟩)
   |(go_at_call 249;refine(s.out _).mono ?_;rintro e w' ⟨rfl,hb⟩;have hO:=Open2.kept (And.right (And.left (by assumption:(Below (w.heap.size+1) W _/\Open2 _ (w.heap.size+1))/\_))) hb;obtain⟨y0,Hq⟩:=Option.isSome_iff_exists.1 hO.r0;obtain⟨y1,Gp⟩:=Option.isSome_iff_exists.1 hO.r1;have hf0:=hO.f0;have Om:=hO.f1))
 all_goals
  have HL:=And.left (And.left (by assumption:(Below (w.heap.size+1) W _/\Open2 _ (w.heap.size+1))/\_))
  have E2:=hid (twoset (x:=.int .i64 (whi (-a))) (y:=.int .u64 (wlo (-a))) hO.r0 hO.r1)
  go_wp2_with fail
  refine bodyPost_ret (v:=.agg #[.int .i64 (whi (-a)),.int .u64 (wlo (-a))]) ?_ rfl ⟨rfl,HB.trans (HL.mono (by omega))⟩
  simp[results,Tryz.results248,go_sem,E2.out.1,E2.out.2]
end Go.Proofs.YtfnpfkgmacaboaaGreatEx
