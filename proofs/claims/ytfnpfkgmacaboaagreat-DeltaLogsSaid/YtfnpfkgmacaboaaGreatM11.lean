/- Texts joined by a program. -/
import Derived.RangeFuncNested
import Derived.RangeFuncBound
import Derived.RangeFuncCalls
import Derived.RangeFuncLeaves
import Derived.Test.YtfnpfkgmacaboaaGreatM09
import Derived.Test.YtfnpfkgmacaboaaGreatM10
namespace Go.Proofs.YtfnpfkgmacaboaaGreat
open Go.Proofs.Tryz
open Go.ChangeShapes Go.WideShapes Go.ChangeAt Go.RowKit
set_option linter.unusedVariables false
set_option linter.unusedSimpArgs false
set_option maxRecDepth 100000 in
theorem grow_any (n:Nat)(hn:n<=1000000000)(w:World):Calls prog 80 #[.slice none 0 0,.int .i64 n] w fun e w'=>∃ v,e=.returned v/\Own Dl.cells 10 70 w' w.heap.size v []/\Below w.heap.size w w':=by
 by_cases h0:n=0
 · subst h0
   refine(Go.Proofs.Any8.slices_Grow_room Tryz.growD none 0 0 0 w (by omega) (by omega) (by omega) (by omega)).mono ?_
   rintro e w' ⟨rfl,rfl⟩
   exact⟨_,rfl,Own.nil _ _,Below.refl _ _⟩
 · obtain⟨i,z,hi,Xc,Ea,Fa,Ef⟩:=elD.parts
   refine(Go.Proofs.Any8.slices_Grow_grow Tryz.growD i z hi Xc (by rw[Ea];decide) none 0 0 n [] w (by omega) (by omega) (by rw[Fa];omega) (by omega) (by simp) (fun _=>rfl) (fun a ha=>by cases ha)).mono ?_
   rintro e w' ⟨rfl,rfl⟩
   have hge:=grownCap_ge w (0+n) 0 70
   have hle:=grownCap_le_maxLen w (0+n) 0 70 (by unfold maxLen;omega)
   refine⟨_,rfl,⟨by simp[encs],Or.inr ⟨w.heap.size,_,_,rfl,Nat.le_refl _,heap_alloc_new w.drew _,Nat.zero_le _,hle,?_,by simp[encs]⟩⟩,(Below.refl _ w).drew.alloc (Nat.le_refl _) _⟩
   obtain⟨G,hG⟩:∃ G,G=grownCap w (0+n) 0 (Tryz.growD_ren.t 25):=⟨_,rfl⟩
   have hge':0+n<=G:=by rw[hG];exact hge
   rw[<-hG]
   simp only[Array.size_append,size_zeroCells,Ef]
   have e1:(0+n - 0)*10+(G - (0+n))*10=G*10:=by rw[<-Nat.add_mul];congr 1;omega
   simpa using e1
set_option maxHeartbeats 4000000 in
set_option maxRecDepth 100000 in
theorem concat_any (l k:List Dl)(a1 a2:Option Addr)(c1 c2 g:Nat)(hl:l.length<=10000000)(hk:k.length<=10000000)(h1c:a1=none->c1=0)(h2c:a2=none->c2=0)(w:World)
 (Wn:w.cell? ⟨g,0,none⟩=some (.slice a1 l.length c1)) (Bl:w.cell? ⟨g,1,none⟩=some (.slice a2 k.length c2)) (h1:DlsAt w a1 l) (h2:DlsAt w a2 k) :
 Calls prog 49 #[.slice (some ⟨g,0,none⟩) 2 2] w fun e w'=>∃ v,e=.returned v/\OwnD w' w.heap.size v (l++k)/\Below w.heap.size w w':=by
 have H1:=Lib.hid h1
 have H2:=Lib.hid h2
 have Dp:=Lib.hid h1c
 have Uc:=Lib.hid h2c
 have HK0:=Lib.hid Wn
 have Oh:=Lib.hid Bl
 clear h1 h2 h1c h2c
 generalize hll:l.length=ll at *
 generalize hkk:k.length=kk at *
 have Yb:Hid (ll=l.length):=hll.symm
 have Zs:Hid (kk=k.length):=hkk.symm
 clear hll hkk
 have hg:=grow_any (ll+kk) (by omega) w
 rw[Int.natCast_add]at hg
 have HG:=Lib.hid hg
 clear hg
 go_enter func49,ntmps49
 go_wp2_with fail
 go_loop [3,11] (fun s v=>(v=.int .i64 0/\s=.int .i64 0)∨(v=.int .i64 1/\s=.int .i64 ll)∨(v=.int .i64 2/\s=.int .i64 ((ll:Int)+(kk:Int)))) (fun _ v=>2 - (intOf v).toNat)
 case atStart=>exact Or.inl ⟨rfl,rfl⟩
 case round =>
  rcases hrel with⟨rfl,rfl⟩|⟨rfl,rfl⟩|⟨rfl,rfl⟩
  · go_wp2_with fail
    go_round
    case rel=>exact Or.inr (Or.inl ⟨rfl,by simp⟩)
    case measure=>simp[intOf]
  · go_wp2_with fail
    go_round
    case rel=>exact Or.inr (Or.inr ⟨rfl,by simp⟩)
    case measure=>simp[intOf]
  · clear Wn Bl
    go_wp2_with (go_at_call 80;(with_reducible refine HG.out.mono ?_);rintro e w1 ⟨v1,rfl,ho,hb⟩;have HO:=Lib.hid ho;have Qb:=Lib.hid hb;clear ho hb)
    have Jh:Hid (w.heap.size<=w1.heap.size):=Qb.out.size
    go_loopw [6,27] (fun v j wr=>∃ v0,v0=v/\Hid (Below w.heap.size w wr)/\((j=.int .i64 0/\Hid (Own Dl.cells 10 70 wr w.heap.size v []))∨(j=.int .i64 1/\Hid (Own Dl.cells 10 70 wr w.heap.size v l))∨(j=.int .i64 2/\Hid (Own Dl.cells 10 70 wr w.heap.size v (l++k))))) (fun _ j _=>2 - (intOf j).toNat)
    case atStart=>exact⟨_,rfl,Qb,Or.inl ⟨rfl,HO⟩⟩
    case round =>
     obtain⟨v0,rfl,HB,hcase⟩:=hrel
     have e0:=Zaa HK0.out HB.out
     have e1:=Zaa Oh.out HB.out
     have HBs:Hid (w.heap.size<=wr.heap.size):=HB.out.size
     rcases hcase with⟨rfl,Fb⟩|⟨rfl,Fb⟩|⟨rfl,Fb⟩
     · have HLm:Hid (([]:List Dl).length+l.length<=1000000000):=by show _<=_;rw[<-Yb.out];simp;omega
       go_wp2_with (at_builtin;refine Zai elD encD rfl (.tmp 31) (.tmp 32) rfl rfl rfl Fb.out (H1.out.1.kept HB.out) Yb.out Dp.out HBs.out HLm.out ?_;intro v5 w5 ho hb;have Bc:=Lib.hid ho;have Xe:=Lib.hid (HB.out.trans hb);clear ho hb)
       go_roundw
       case rel=>exact⟨_,rfl,Xe,Or.inr (Or.inl ⟨rfl,by simpa using Bc⟩)⟩
       case measure=>simp[intOf]
     · have HLm:Hid (l.length+k.length<=1000000000):=by show _<=_;rw[<-Yb.out,<-Zs.out];omega
       go_wp2_with (at_builtin;refine Zai elD encD rfl (.tmp 31) (.tmp 32) rfl rfl rfl Fb.out (H2.out.1.kept HB.out) Zs.out Uc.out HBs.out HLm.out ?_;intro v5 w5 ho hb;have Bc:=Lib.hid ho;have Xe:=Lib.hid (HB.out.trans hb);clear ho hb)
       go_roundw
       case rel=>exact⟨_,rfl,Xe,Or.inr (Or.inr ⟨rfl,Bc⟩)⟩
       case measure=>simp[intOf]
     · go_wp2_with fail
       go_ret
       refine⟨_,rfl,⟨Fb.out,fun d hd=>?_⟩,HB.out⟩
       simp only[List.mem_append]at hd
       exact hd.elim (fun h=>(H1.out.2 d h).kept HB.out) (fun h=>(H2.out.2 d h).kept HB.out)
set_option maxHeartbeats 4000000 in
set_option maxRecDepth 100000 in
theorem fadd_any (l k:List Dl)(a1 a2:Option Addr)(c1 c2:Nat)(hl:l.length<=5000000)(hk:k.length<=5000000)(h1c:a1=none->c1=0)(h2c:a2=none->c2=0)(w:World)(h1:DlsAt w a1 l)(h2:DlsAt w a2 k) :
 Calls prog 20 #[.slice a1 l.length c1,.slice a2 k.length c2] w fun e w'=>∃ v l',e=.returned v/\SlD w' v l'/\l'.length<=l.length+k.length/\l'.map Dl.kn=consK (l.map Dl.kn++k.map Dl.kn)/\Below w.heap.size w w':=by
 have Lc:Hid (Below w.heap.size w (w.alloc (.cells #[.slice a1 l.length c1,.slice a2 k.length c2] 53))):=Zab _
 have HC:=Lib.hid (concat_any l k a1 a2 c1 c2 w.heap.size (by omega) (by omega) h1c h2c (w.alloc (.cells #[.slice a1 l.length c1,.slice a2 k.length c2] 53)) ((Box.new w _ _).cell 0 _ rfl) ((Box.new w _ _).cell 1 _ rfl) (h1.kept (Zab _)) (h2.kept (Zab _)))
 obtain⟨m,hm⟩:∃ m,m=l++k:=⟨_,rfl⟩
 have HM:Hid (m.length=l.length+k.length/\m.map Dl.kn=l.map Dl.kn++k.map Dl.kn):=by rw[hm];exact⟨by simp,by simp⟩
 rw[<-hm]at HC
 have HF:=Lib.hid (fun a c w' h=>ZcZ m a c (by have:=HM.out.1;omega) w' h)
 clear h1 h2 hm h1c h2c
 have HLen:Hid (l.length<=5000000/\k.length<=5000000):=⟨hl,hk⟩
 clear hl hk
 generalize l.length=ll at *
 generalize k.length=kk at *
 generalize hml:m.length=ml at *
 have Qo:=Lib.hid hml
 clear hml
 go_enter func20,ntmps20
 go_wp2_with (first
  |(go_at_call 49;(with_reducible refine HC.out.mono ?_);rintro e w2 ⟨v2,rfl,ho,hb⟩;obtain⟨a3,c3,rfl,Da,Bb,Ph⟩:=ho.lies;rw[Qo.out];have HP:=Lib.hid (HF.out a3 c3 w2 Ph);have La:=Lib.hid (keepB (Nat.le_refl _) Lc.out hb);clear ho hb Da Bb Ph)
  |(go_at_call 32;(with_reducible refine HP.out.mono ?_);rintro e w3 ⟨v3,l3,rfl,hs,Mg,Rq,hb⟩;have Eb:=Lib.hid hs;have Zb:=Lib.hid Mg;have Mh:=Lib.hid Rq;have Ib:=Lib.hid hb;clear hs Mg Rq hb))
 go_ret
 exact⟨_,l3,rfl,Eb.out,by have h1:=Zb.out;have h2:=HM.out.1;omega,by rw[Mh.out,HM.out.2],keepB (Nat.le_refl _) La.out Ib.out⟩
end Go.Proofs.YtfnpfkgmacaboaaGreat
namespace Go.Proofs.YtfnpfkgmacaboaaGreat
open Go.Proofs.Tryz
open Go.ChangeShapes Go.WideShapes Go.ChangeAt Go.RowKit
set_option linter.unusedVariables false
set_option linter.unusedSimpArgs false
theorem clone_any (l:List Dl)(ao:Option Addr)(c:Nat)(hl:l.length<=100000000)(hsp:∀ a,ao=some a->a.spot=none)(w:World)(h:Zac Dl.cells 10 w ao l) :
 Calls prog 67 #[.slice ao l.length c] w fun e w'=>∃ v,e=.returned v/\Own Dl.cells 10 70 w' w.heap.size v l/\Below w.heap.size w w':=by
 cases ao with
 |none =>
  have hn:l=[]:=by
   rcases h with h|⟨_,_,h,_⟩
   · exact h
   · cases h
  subst hn
  refine(Go.Proofs.AnyE.slices_Clone_nil Tryz.cloneD 0 c w).mono ?_
  rintro e w' ⟨rfl,rfl⟩
  exact⟨_,rfl,Own.nil _ _,Below.refl _ _⟩
 |some a =>
  obtain⟨i,z,hi,Xc,Ea,Fa,Ef⟩:=elD.parts
  have hcells:∃ b off,a=⟨b,off,none⟩/\∀ j u,(encs Dl.cells l)[j]?=some u->w.cell? ⟨b,off+j,none⟩=some u:=by
   rcases h with rfl|⟨b,off,he,hr⟩
   · have:=hsp a rfl
     obtain⟨b,off,sp⟩:=a
     cases this
     exact⟨b,off,rfl,fun j u hj=>by simp[encs]at hj⟩
   · injection he with he
     exact⟨b,off,he,fun j u hj=>hr.cells encD.len (by decide) j u hj⟩
  obtain⟨b,off,rfl,hc⟩:=hcells
  refine(Go.Proofs.AnyE.slices_Clone Tryz.cloneD i z 10 120 hi Xc Ea Fa Ef (by decide) Tryz.sizeOf70 b off l.length c (encs Dl.cells l) w (Za7 encD.len l) (by unfold maxLen;omega) (by omega) hc (ZbB encD.one l)).mono ?_
  rintro e w' ⟨v,rfl,ho,-,hb⟩
  exact⟨v,rfl,ho,hb⟩
theorem encs_set {α:Type}{enc:α->List Value}{k:Nat}(hk:∀ x,(enc x).length=k)(x y:α)(j:Nat)(u:Value)(hj:j<k)(hy:enc y=(enc x).set j u):∀ (l:List α) (i:Nat),l[i]?=some x->encs enc (l.set i y)=(encs enc l).set (i*k+j) u
 |[],_,h=>by simp at h
 |a :: l,0,h=>by
  simp at h
  subst h
  show enc y++encs enc l=(enc a++encs enc l).set (0*k+j) u
  rw[hy,List.set_append_left _ _ (by rw[hk];omega)]
  simp
 |a :: l,i+1,h=>by
  show enc a++encs enc (l.set i y)=(enc a++encs enc l).set ((i+1)*k+j) u
  rw[encs_set hk x y j u hj hy l i (by simpa using h),List.set_append_right _ _ (by rw[hk,Nat.add_mul];omega),hk]
  congr 2
  rw[Nat.add_mul];omega
theorem Own.setAt {α:Type}{enc:α->List Value}{k:Nat}{e:TypeId}{w:World}{B:Nat}{ao:Option Addr}{n c:Nat}{l:List α}(hE:Enc enc k)(h:Own enc k e w B (.slice ao n c) l)(x y:α)(i j:Nat)(u:Value)(hx:l[i]?=some x)(hj:j<k)(hy:enc y=(enc x).set j u) :
 ∃ g,ao=some ⟨g,0,none⟩/\B<=g/\w.frozen? ⟨g,i*k+j,none⟩=false/\Own enc k e (w.setCell ⟨g,i*k+j,none⟩ u) B (.slice ao n c) (l.set i y):=by
 have hlt:i<l.length:=(List.getElem?_eq_some_iff.1 hx).1
 rcases h.2 with⟨-,h0⟩|⟨g,cap,cur,h1,h2,h3,h4,h5,h6,h7⟩
 · omega
 injection h1 with h1 h1n h1c
 subst h1
 refine⟨g,rfl,h2,Box.free h3 _,?_,Or.inr ⟨g,cap,_,?_,h2,Box.put h3 _ u,?_,h5,?_,?_⟩⟩
 · rw[Za7 hE.len,List.length_set]
 · rw[h1c,h1n,List.length_set]
 · rw[List.length_set];exact h4
 · simpa using h6
 · rw[encs_set hE.len x y j u hj hy l i hx,<-h7,List.length_set,Array.toList_setIfInBounds,List.take_set]
end Go.Proofs.YtfnpfkgmacaboaaGreat
namespace Go.Proofs.YtfnpfkgmacaboaaGreat
open Go.Proofs.Tryz
open Go.ChangeShapes Go.WideShapes Go.ChangeAt Go.RowKit
set_option linter.unusedVariables false
set_option linter.unusedSimpArgs false
set_option maxHeartbeats 2000000 in
set_option maxRecDepth 100000 in
theorem fneg_any (l:List Dl)(ao:Option Addr)(cap:Nat)(hl:l.length<=100000000)(hsp:∀ a,ao=some a->a.spot=none)(w:World)(h:DlsAt w ao l) :
 Calls prog 34 #[.slice ao l.length cap] w fun e w'=>∃ v,e=.returned v/\OwnD w' w.heap.size v (l.map Dl.neg)/\Below w.heap.size w w':=by
 have H:=Lib.hid h
 have HC:=Lib.hid (clone_any l ao cap hl hsp w h.1)
 clear h hsp
 generalize hll:l.length=ll at *
 have Yb:Hid (ll=l.length):=hll.symm
 clear hll
 go_enter func34,ntmps34
 go_wp2_with (go_at_call 67;(with_reducible refine HC.out.mono ?_);rintro e w1 ⟨v1,rfl,ho,hb⟩;have Qb:=Lib.hid hb;obtain⟨a1,c1,rfl,-⟩:=ho.lies encD;rw[<-Yb.out]at ho ⊢;have Vc:=Lib.hid ho;clear ho hb)
 go_loopw [8,3] (fun j _ wr=>∃ (i:Nat),i<=ll/\j=.int .i64 i/\Hid (Own Dl.cells 10 70 wr w.heap.size (.slice a1 ll c1) ((l.take i).map Dl.neg++l.drop i))/\Hid (Below w.heap.size w wr)) (fun j _ _=>ll - (intOf j).toNat)
 case atStart=>exact⟨0,by omega,rfl,by simpa using Vc,Qb⟩
 case round =>
  obtain⟨i,hi,rfl,HR,HB⟩:=hrel
  by_cases hlt:i<ll
  · obtain⟨x,hx⟩:∃ x,l[i]?=some x:=⟨l[i]'(by have:=Yb.out;omega),List.getElem?_eq_getElem (by have:=Yb.out;omega)⟩
    have hxr:((l.take i).map Dl.neg++l.drop i)[i]?=some x:=by
     rw[List.getElem?_append_right (by simp;omega)]
     simp only[List.length_map,List.length_take]
     rw[show i - min i l.length=0 by have:=Yb.out;omega]
     simp[hx]
    have HW:Hid (wrap64 (-x.n)=IntKind.i64.wrap (-x.n)):=ZeT _
    have hset:((l.take i).map Dl.neg++l.drop i).set i (x.neg)=(l.take (i+1)).map Dl.neg++l.drop (i+1):=by
     rw[List.set_append_right _ _ (by simp;omega)]
     simp only[List.length_map,List.length_take]
     rw[show i - min i l.length=0 by have:=Yb.out;omega,Zar hx,List.map_append,List.drop_eq_getElem_cons (by have:=Yb.out;omega)]
     rw[List.getElem?_eq_getElem (by have:=Yb.out;omega)]at hx
     injection hx with hx
     simp[hx]
    have hlr:((l.take i).map Dl.neg++l.drop i).length=ll:=by simp;have:=Yb.out;omega
    obtain⟨g,rfl,He,Ye,Gg⟩:=HR.out.setAt encD x x.neg i 9 (.int .i64 (IntKind.i64.wrap (-x.n))) hxr (by decide) rfl
    obtain⟨a2,c2,he,-,-,hlies⟩:=HR.out.lies encD
    injection he with Og Yc Di
    subst Og
    rw[hset]at Gg
    clear Yc Di
    obtain⟨b,off,hb,hrow⟩:=hlies.some (by have:=List.getElem?_eq_some_iff.1 hxr;omega)
    injection hb with hb
    injection hb with Cb Sd Ue
    subst Cb Sd
    obtain⟨k0,k1,k2,k3,k4,k5,k6,k7,k8,k9⟩:=Dl.cell hrow hxr
    clear k0 k1 k2 k3 k4 k5 k6 k7 k8
    simp only[Nat.zero_add]at k9
    rw[<-HW.out]at Gg
    have Ii:=Lib.hid Gg
    have Ox:=Lib.hid He
    clear Gg hset hxr hx hrow hlies He
    go_wp2_with fail
    go_roundw
    case rel=>exact⟨i+1,by omega,by go_num,Ii,HB.out.setCell Ox.out _⟩
    case measure=>simp[intOf];omega
  · obtain rfl:i=ll:=by omega
    go_wp2_with fail
    go_ret
    refine⟨_,rfl,⟨?_,fun d hd=>?_⟩,HB.out⟩
    · have:=HR.out
      rw[Yb.out,List.take_length,List.drop_length,List.append_nil]at this
      rw[Yb.out];exact this
    · obtain⟨y,hy,rfl⟩:=List.mem_map.1 hd;exact((H.out.2 y hy).kept HB.out).neg
end Go.Proofs.YtfnpfkgmacaboaaGreat
namespace Go.Proofs.YtfnpfkgmacaboaaGreat
open Go.Proofs.Tryz
open Go.ChangeShapes Go.WideShapes Go.ChangeAt Go.RowKit
set_option linter.unusedVariables false
set_option linter.unusedSimpArgs false
def Dl.at0 (x:Dl):Dl:={ x with tick:=0 }
theorem Dl.Ok.at0 {w:World}{d:Dl}(h:d.Ok w):d.at0.Ok w:={ h with tick:=⟨by show(-9223372036854775808:Int)<=0;decide,by show(0:Int)<=9223372036854775807;decide⟩ }
def atD (l:List Dl)(t:Int):List Dl:=(l.filter (fun d=>decide (d.tick<=t))).map Dl.at0
theorem atD_snoc (l:List Dl)(t:Int)(x:Dl):atD (l++[x]) t=atD l t++(if x.tick<=t then [x.at0]else []):=by
 unfold atD
 rw[List.filter_append,List.map_append]
 by_cases h:x.tick<=t<;>simp[h]
def rowsD (l:List Dl):List Rw:=(l.filter (fun d=>decide (0<d.n))).map Dl.r
theorem rowsD_snoc (l:List Dl)(x:Dl):rowsD (l++[x])=rowsD l++(if 0<x.n then [x.r]else []):=by
 unfold rowsD
 rw[List.filter_append,List.map_append]
 by_cases h:0<x.n<;>simp[h]
theorem atD_len (l:List Dl)(t:Int):(atD l t).length<=l.length:=by unfold atD;rw[List.length_map];exact List.length_filter_le _ _
theorem rowsD_len (l:List Dl):(rowsD l).length<=l.length:=by unfold rowsD;rw[List.length_map];exact List.length_filter_le _ _
set_option maxHeartbeats 8000000 in
set_option maxRecDepth 100000 in
theorem fat_walk (l:List Dl)(ao:Option Addr)(cap:Nat)(hl:l.length<=10000000)(t:Int)(w:World)(h:DlsAt w ao l) :
 Calls prog 18 #[.slice ao l.length cap,.int .i64 t] w fun e w'=>∃ v l3,e=.returned v/\l3.length<=l.length/\l3.map Dl.kn=consK ((atD l t).map Dl.kn)/\OwnR w' w.heap.size v (rowsD l3)/\Below w.heap.size w w':=by
 have H:=Lib.hid h
 clear h
 go_enter func18,ntmps18
 go_wp2_with fail
 go_loopw [5,12] (fun v jj wr=>∃ (i:Nat) (v0:Value),v0=v/\i<=l.length/\jj=.int .i64 i/\Hid (Own Dl.cells 10 70 wr w.heap.size v (atD (l.take i) t))/\Hid (Below w.heap.size w wr)) (fun _ jj _=>l.length - (intOf jj).toNat)
 case atStart=>exact⟨0,_,rfl,by omega,rfl,Own.nil _ _,Below.refl _ _⟩
 case round =>
  obtain⟨i,v0,rfl,hi,rfl,HR,HB⟩:=hrel
  by_cases hlt:i<l.length
  · obtain⟨x,hx⟩:∃ x,l[i]?=some x:=⟨l[i],List.getElem?_eq_getElem hlt⟩
    obtain⟨b,off,rfl,hrow⟩:=Zat (H.out.1.kept HB.out) hx
    obtain⟨c0,c1,c2,c3,c4,c5,c6,c7,c8,c9⟩:=Dl.cell hrow hx
    have HX:=Lib.hid hx
    have HF:Hid (atD (l.take (i+1)) t=atD (l.take i) t++(if x.tick<=t then [x.at0]else [])):=by show _=_;rw[Zar HX.out,atD_snoc]
    have HLn:Hid ((atD (l.take i) t).length<=10000000):=by show _<=_;have:=atD_len (l.take i) t;simp at this;omega
    generalize atD (l.take i) t=r at *
    clear hrow hx
    by_cases ht:x.tick<=t
    · rw[if_pos ht]at HF
      go_upto_region 7 with fail
      refine Zan (fun X hX=>?_)
      have HG:Hid (Box X wr.heap.size #[.string x.r.src,.int .i64 x.r.seq,.string x.r.tb,.string x.r.ky,.int .i64 x.r.ev,.slice x.r.fa x.r.vs.length x.r.fc,.int .i64 x.r.no,.int .i64 x.r.tk,.int .i64 0,.int .i64 x.n] 70):=by rw[hX];exact Box.new wr _ _
      have Hg:Hid (Below w.heap.size w X):=by rw[hX];exact HB.out.alloc HB.out.size _
      have Wd:Hid (Own Dl.cells 10 70 X w.heap.size v0 r):=by rw[hX];exact HR.out.kept (Zab _)
      clear hX c0 c1 c2 c3 c4 c5 c6 c7 c8 c9
      obtain⟨d0,d1,d2,d3,d4,d5,d6,d7,d8,d9⟩:=HG.out.at10
      have Sc:Hid (Below w.heap.size w (X.alloc (.cells (Dl.cells x.at0).toArray 70))):=Hg.out.alloc Hg.out.size _
      have Of:Hid (Own Dl.cells 10 70 (X.alloc (.cells (Dl.cells x.at0).toArray 70)) w.heap.size v0 r):=Wd.out.kept (Zab _)
      have Kd:Hid (Zac Dl.cells 10 (X.alloc (.cells (Dl.cells x.at0).toArray 70)) (some ⟨X.heap.size,0,none⟩) [x.at0]):=Zav _ _ encD
      have HLa:Hid (r.length+[x.at0].length<=1000000000):=by show _<=_;have:=HLn.out;simp;omega
      go_wp2_with (at_builtin;refine Zai elD encD rfl (.tmp 21) (.tmp 23) rfl rfl rfl Of.out Kd.out rfl (fun e=>by cases e) Sc.out.size HLa.out ?_;intro v5 w5 ho hb;have Bc:=Lib.hid ho;have Ya:=Lib.hid (Sc.out.trans hb);clear ho hb)
      go_roundw
      case rel=>exact⟨i+1,_,rfl,by omega,by go_num,by rw[HF.out];exact Bc.out,Ya.out⟩
      case measure=>simp[intOf];omega
    · rw[if_neg ht,List.append_nil]at HF
      go_wp2_with fail
      go_roundw
      case rel=>exact⟨i+1,_,rfl,by omega,by go_num,by rw[HF.out];exact HR.out.kept (Zab _),HB.out.alloc HB.out.size _⟩
      case measure=>simp[intOf];omega
  · obtain rfl:i=l.length:=by omega
    rw[List.take_length]at HR
    have HOd:Hid (OwnD wr w.heap.size v0 (atD l t)):=⟨HR.out,fun d hd=>by
     obtain⟨y,hy,rfl⟩:=List.mem_map.1 hd
     exact((H.out.2 y (List.mem_filter.1 hy).1).kept HB.out).at0⟩
    obtain⟨a2,c2,rfl,Da,Bb,Ph⟩:=HOd.out.lies
    have HC:=Lib.hid (ZcZ (atD l t) a2 c2 (Nat.le_trans (atD_len l t) hl) wr Ph)
    have HLat:Hid ((atD l t).length<=l.length):=atD_len l t
    clear Da Bb Ph
    generalize hll:l.length=nl at *
    have Ol:=Lib.hid hll
    clear hll
    generalize hml:(atD l t).length=ml at *
    clear hml
    go_wp2_with (go_at_call 32;(with_reducible refine HC.out.mono ?_);rintro e w1 ⟨v1,l3,rfl,hs,Mg,Rq,hb⟩;obtain⟨a3,c3,rfl,hs1,hs2,hs3⟩:=hs;have Eb:=Lib.hid hs3;have Zb:=Lib.hid Mg;have Mh:=Lib.hid Rq;have Qb:=Lib.hid (keepB (Nat.le_refl _) HB.out hb);clear hs1 hs2 hs3 Mg Rq hb)
    have H3l:Hid (l3.length<=nl):=Nat.le_trans Zb.out HLat.out
    go_loopw [4,29] (fun v jj wr=>∃ (i:Nat) (v0:Value),v0=v/\i<=l3.length/\jj=.int .i64 i/\Hid (Own Rw.cells 8 68 wr w1.heap.size v (rowsD (l3.take i)))/\Hid (Below w1.heap.size w1 wr)) (fun _ jj _=>l3.length - (intOf jj).toNat)
    case atStart=>exact⟨0,_,rfl,by omega,rfl,Own.nil _ _,Below.refl _ _⟩
    case round =>
     obtain⟨i,v0,rfl,hi,rfl,HR,Wf⟩:=hrel
     by_cases hlt:i<l3.length
     · obtain⟨x,hx⟩:∃ x,l3[i]?=some x:=⟨l3[i],List.getElem?_eq_getElem hlt⟩
       obtain⟨b,off,rfl,hrow⟩:=Zat (Eb.out.1.kept Wf.out) hx
       obtain⟨c0,c1,c2,c3,c4,c5,c6,c7,c8,c9⟩:=Dl.cell hrow hx
       have HX:=Lib.hid hx
       have HF:Hid (rowsD (l3.take (i+1))=rowsD (l3.take i)++(if 0<x.n then [x.r]else [])):=by show _=_;rw[Zar HX.out,rowsD_snoc]
       have h3l:=H3l.out
       have HLn:Hid ((rowsD (l3.take i)).length<=10000000):=by show _<=_;have:=rowsD_len (l3.take i);simp at this;omega
       generalize rowsD (l3.take i)=r at *
       clear hrow hx
       by_cases ht:0<x.n
       · rw[if_pos ht]at HF
         have Sc:Hid (Below w1.heap.size w1 ((wr.alloc (.cells (Dl.cells x).toArray 70)).alloc (.cells (Rw.cells x.r).toArray 68))):=have hz:=Wf.out.alloc Wf.out.size (.cells (Dl.cells x).toArray 70);hz.alloc hz.size _
         have Of:Hid (Own Rw.cells 8 68 ((wr.alloc (.cells (Dl.cells x).toArray 70)).alloc (.cells (Rw.cells x.r).toArray 68)) w1.heap.size v0 r):=(HR.out.kept (Zab _)).kept (Zab _)
         have Kd:Hid (Zac Rw.cells 8 ((wr.alloc (.cells (Dl.cells x).toArray 70)).alloc (.cells (Rw.cells x.r).toArray 68)) (some ⟨(wr.alloc (.cells (Dl.cells x).toArray 70)).heap.size,0,none⟩) [x.r]):=Zav _ _ encR
         rw[show(wr.alloc (.cells (Dl.cells x).toArray 70)).heap.size=wr.heap.size+1 by simp]at Kd
         have HLa:Hid (r.length+[x.r].length<=1000000000):=by show _<=_;have:=HLn.out;simp;omega
         go_wp2_with (at_builtin;refine Zai elR encR rfl (.tmp 36) (.tmp 39) rfl rfl rfl Of.out Kd.out rfl (fun e=>by cases e) Sc.out.size HLa.out ?_;intro v5 w5 ho hb;have Bc:=Lib.hid ho;have Ya:=Lib.hid (Sc.out.trans hb);clear ho hb)
         go_roundw
         case rel=>exact⟨i+1,_,rfl,by omega,by go_num,by rw[HF.out];exact Bc.out,Ya.out⟩
         case measure=>simp[intOf];omega
       · rw[if_neg ht,List.append_nil]at HF
         go_wp2_with fail
         go_roundw
         case rel=>exact⟨i+1,_,rfl,by omega,by go_num,by rw[HF.out];exact HR.out.kept (Zab _),Wf.out.alloc Wf.out.size _⟩
         case measure=>simp[intOf];omega
     · obtain rfl:i=l3.length:=by omega
       rw[List.take_length]at HR
       go_wp2_with fail
       go_ret
       refine⟨_,l3,rfl,by rw[Ol.out];exact H3l.out,Mh.out,⟨HR.out.mono Qb.out.size,fun d hd=>?_⟩,keepB (Nat.le_refl _) Qb.out Wf.out⟩
       obtain⟨y,hy,rfl⟩:=List.mem_map.1 hd
       exact((Eb.out.2 y (List.mem_filter.1 hy).1).kept Wf.out).r
end Go.Proofs.YtfnpfkgmacaboaaGreat
namespace Go.Proofs.YtfnpfkgmacaboaaGreat
open Go.Proofs.Tryz
open Go.ChangeShapes Go.WideShapes Go.ChangeAt Go.RowKit
set_option linter.unusedVariables false
set_option linter.unusedSimpArgs false
end Go.Proofs.YtfnpfkgmacaboaaGreat
namespace Go.Proofs.YtfnpfkgmacaboaaGreat
open Go.Proofs.Tryz
open Go.ChangeShapes Go.WideShapes Go.ChangeAt Go.RowKit
set_option linter.unusedVariables false
set_option linter.unusedSimpArgs false
theorem eqF_comm (x y:FID):eqF x y=eqF y x:=by
 rw[Bool.eq_iff_iff,ZaW,ZaW];exact⟨fun h=>h.symm,fun h=>h.symm⟩
set_option maxHeartbeats 2000000 in
set_option maxRecDepth 100000 in
theorem idx_nil (ao:Option Addr)(c:Nat)(x:FID)(w:World) :
 Calls prog 81 #[.slice ao 0 c,fidV x] w fun e w'=>e=.returned (.int .i64 (-1))/\Below w.heap.size w w':=by
 go_enter func81,ntmps81
 go_wp2_with fail
 go_loopw [8] (fun v wr=>v=.int .i64 0/\Below w.heap.size w wr) (fun v _=>(0:Nat))
 case atStart=>exact⟨rfl,Zab _⟩
 case round =>
  obtain⟨rfl,hB⟩:=hrel
  go_wp2_with fail
  go_ret
  exact⟨rfl,hB⟩
set_option maxHeartbeats 2000000 in
set_option maxRecDepth 100000 in
theorem cont_nil (ao:Option Addr)(c:Nat)(x:FID)(w:World) :
 Calls prog 50 #[.slice ao 0 c,fidV x] w fun e w'=>e=.returned (.bool false)/\Below w.heap.size w w':=by
 have HI:=Lib.hid (idx_nil ao c x (w.alloc (.cells #[.string x.1,.int .i64 x.2] 24)))
 go_enter func50,ntmps50
 go_wp2_with (go_at_call 81;(with_reducible refine HI.out.mono ?_);rintro e w1 ⟨rfl,hb⟩;have HB:=Lib.hid hb;clear hb)
 go_ret
 exact⟨rfl,keepB (Nat.le_refl _) (Zab _) HB.out⟩
theorem cont_any (l:List FID)(ao:Option Addr)(cap:Nat)(hl:l.length<=4611686018427387904)(x:FID)(w:World)(h:Zac fidC 2 w ao l) :
 Calls prog 50 #[.slice ao l.length cap,fidV x] w fun e w'=>e=.returned (.bool (memF l x))/\Below w.heap.size w w':=by
 rcases h with rfl|⟨b,off,rfl,hr⟩
 · exact cont_nil ao cap x w
 · refine(Go.Proofs.AnyQ.slices_Contains (α:=FID) Tryz.contF 2 Tryz.isAgg24 Tryz.sizeOf24 fidC (fun _=>rfl) eqF ⟨fun x y w=>eql36 x y w,fun op a b x y w=>Zff op a b x y w⟩ b off l.length cap l x w (Nat.le_refl _) (by omega) ?_).mono ?_
   · intro j hj i v hv
     exact hr j l[j]! (by rw[getElem!_pos l j hj];exact List.getElem?_eq_getElem hj) i v hv
   · rintro e w' ⟨rfl,hb⟩
     refine⟨?_,hb⟩
     rw[List.take_length]
     unfold memF
     congr 3
     funext y
     exact eqF_comm _ _
set_option maxHeartbeats 2000000 in
set_option maxRecDepth 100000 in
theorem fpurge_any (l:List Dl)(ao:Option Addr)(cap:Nat)(hl:l.length<=100000000)(ids:List FID)(a2:Option Addr)(c2:Nat)(hids:ids.length<=4611686018427387904)(w:World)(h:DlsAt w ao l)(h2:Zac fidC 2 w a2 ids) :
 Calls prog 21 #[.slice ao l.length cap,.slice a2 ids.length c2] w fun e w'=>∃ v,e=.returned v/\OwnD w' w.heap.size v (Zcm l ids)/\Below w.heap.size w w':=by
 have H:=Lib.hid h
 have HI:=Lib.hid (fun x w' (hb:Below w.heap.size w w')=>cont_any ids a2 c2 hids x w' (h2.kept hb))
 clear h h2
 generalize ids.length=nids at *
 clear hids
 go_enter func21,ntmps21
 go_wp2_with fail
 go_loopw [4,9] (fun v j wr=>∃ (i:Nat) (v0:Value),v0=v/\i<=l.length/\j=.int .i64 i/\Hid (Own Dl.cells 10 70 wr w.heap.size v (Zcm (l.take i) ids)/\(Zcm (l.take i) ids).length<=i)/\Below w.heap.size w wr) (fun _ j _=>l.length - (intOf j).toNat)
 case atStart=>exact⟨0,_,rfl,by omega,rfl,⟨Own.nil _ _,Nat.le_refl _⟩,Below.refl _ _⟩
 case round =>
  obtain⟨i,v0,rfl,hi,rfl,HR,hB⟩:=hrel
  have HB:=Lib.hid hB
  clear hB
  by_cases hlt:i<l.length
  · obtain⟨x,hx⟩:∃ x,l[i]?=some x:=⟨l[i],List.getElem?_eq_getElem hlt⟩
    obtain⟨b,off,rfl,hrow⟩:=(H.out.1.kept HB.out).some (by omega)
    obtain⟨c0,c1,c2',c3,c4,c5,c6,c7,c8,c9⟩:=Dl.cell hrow hx
    have HX:=Lib.hid hx
    have HF:Hid (Zcm (l.take (i+1)) ids=Zcm (l.take i) ids++(if memF ids (x.r.src,x.r.seq)then []else [x])):=by show _=_;rw[Zar HX.out,purgeD_snoc]
    have HO:Hid (Own Dl.cells 10 70 wr w.heap.size v0 (Zcm (l.take i) ids)):=HR.out.1
    have HLn:Hid ((Zcm (l.take i) ids).length<=i):=HR.out.2
    clear hrow hx HR
    generalize Zcm (l.take i) ids=r at *
    go_upto_region 4 with fail
    refine Zan (fun X hX=>?_)
    have HG:Hid (Box X wr.heap.size #[.string x.r.src,.int .i64 x.r.seq,.string x.r.tb,.string x.r.ky,.int .i64 x.r.ev,.slice x.r.fa x.r.vs.length x.r.fc,.int .i64 x.r.no,.int .i64 x.r.tk,.int .i64 x.tick,.int .i64 x.n] 70):=by rw[hX];exact Box.new wr _ _
    have Hg:Hid (Below w.heap.size w X):=by rw[hX];exact HB.out.alloc HB.out.size _
    have Wd:Hid (Own Dl.cells 10 70 X w.heap.size v0 r):=by rw[hX];exact HO.out.kept (Zab _)
    have HC:=Lib.hid (HI.out (x.r.src,x.r.seq) X Hg.out)
    clear hX c0 c1 c2' c3 c4 c5 c6 c7 c8 c9 HO HB
    obtain⟨e0,e1,e2,e3,e4,e5,e6,e7,e8,e9⟩:=HG.out.at10
    cases hm:memF ids (x.r.src,x.r.seq)
    · rw[hm]at HF HC
      go_wp2_with (first
       |(go_at_call 50;(with_reducible refine HC.out.mono ?_);rintro e w1 ⟨rfl,hb⟩;have Qb:=Lib.hid hb;obtain⟨d0,d1,d2,d3,d4,d5,d6,d7,d8,d9⟩:=(HG.out.kept hb).at10;have Sc:Hid (Below w.heap.size w (w1.alloc (.cells (Dl.cells x).toArray 70))):=(have hz:=keepB (Nat.le_refl _) Hg.out hb;hz.alloc hz.size _);have Of:Hid (Own Dl.cells 10 70 (w1.alloc (.cells (Dl.cells x).toArray 70)) w.heap.size v0 r):=(Wd.out.kept hb).kept (Zab _);have Kd:Hid (Zac Dl.cells 10 (w1.alloc (.cells (Dl.cells x).toArray 70)) (some ⟨w1.heap.size,0,none⟩) [x]):=Zav _ _ encD;have HLa:Hid (r.length+[x].length<=1000000000):=(by show _<=_;have:=HLn.out;simp;omega);clear hb)
       |(at_builtin;refine Zai elD encD rfl (.tmp 19) (.tmp 21) rfl rfl rfl Of.out Kd.out rfl (fun e=>by cases e) Sc.out.size HLa.out ?_;intro v5 w5 ho hb;have Bc:=Lib.hid ho;have Ya:=Lib.hid (Sc.out.trans hb);clear ho hb))
      go_roundw
      case rel=>exact⟨i+1,_,rfl,by omega,by go_num,by rw[HF.out];exact⟨Bc.out,by have:=HLn.out;simp;omega⟩,Ya.out⟩
      case measure=>simp[intOf];omega
    · rw[hm]at HF HC
      go_wp2_with (go_at_call 50;(with_reducible refine HC.out.mono ?_);rintro e w1 ⟨rfl,hb⟩;have Qb:=Lib.hid hb;clear hb)
      go_roundw
      case rel=>exact⟨i+1,_,rfl,by omega,by go_num,by rw[HF.out];exact⟨by simpa using Wd.out.kept Qb.out,by have:=HLn.out;simp;omega⟩,keepB (Nat.le_refl _) Hg.out Qb.out⟩
      case measure=>simp[intOf];omega
  · obtain rfl:i=l.length:=by omega
    go_wp2_with fail
    go_ret
    exact⟨_,rfl,⟨by have:=HR.out.1;rwa [List.take_length]at this,fun d hd=>(H.out.2 d (List.mem_filter.1 hd).1).kept HB.out⟩,HB.out⟩
end Go.Proofs.YtfnpfkgmacaboaaGreat
namespace Go.Proofs.YtfnpfkgmacaboaaGreat
open Go.Proofs.Tryz
open Go.ChangeShapes Go.WideShapes Go.ChangeAt Go.RowKit
set_option linter.unusedVariables false
set_option linter.unusedSimpArgs false
theorem Zbw (n:Int)(h:n=-1∨n=1):I64 n:=by rcases h with rfl|rfl<;>unfold I64<;>omega
def betD (a b:List Rw)(t:Int):List Dl:=a.map (fun r=>⟨r,t,-1⟩)++b.map (fun r=>⟨r,t,1⟩)
set_option maxHeartbeats 8000000 in
set_option maxRecDepth 100000 in
theorem Zdv (l k:List Rw)(a1 a2:Option Addr)(c1 c2:Nat)(t:Int)(ht:I64 t)(hl:l.length<=10000000)(hk:k.length<=10000000)(w:World)(h1:ZaY w a1 l)(h2:ZaY w a2 k) :
 Calls prog 39 #[.slice a1 l.length c1,.slice a2 k.length c2,.int .i64 t] w fun e w'=>∃ v,e=.returned v/\OwnD w' w.heap.size v (betD l k t)/\Below w.heap.size w w':=by
 have H1:=Lib.hid h1
 have H2:=Lib.hid h2
 have HT:=Lib.hid ht
 clear h1 h2 ht
 go_enter func39,ntmps39
 go_wp2_with fail
 go_loopw [6,13] (fun v jj wr=>∃ (i:Nat) (v0:Value),v0=v/\i<=l.length/\jj=.int .i64 i/\Hid (Own Dl.cells 10 70 wr w.heap.size v ((l.take i).map (fun r=>⟨r,t,-1⟩)))/\Hid (Below w.heap.size w wr)) (fun _ jj _=>l.length - (intOf jj).toNat)
 case atStart=>exact⟨0,_,rfl,by omega,rfl,Own.nil _ _,Below.refl _ _⟩
 case round =>
  obtain⟨i,v0,rfl,hi,rfl,HR,HB⟩:=hrel
  by_cases hlt:i<l.length
  · obtain⟨x,hx⟩:∃ x,l[i]?=some x:=⟨l[i],List.getElem?_eq_getElem hlt⟩
    obtain⟨b,off,rfl,hrow⟩:=Zat (H1.out.1.kept HB.out) hx
    obtain⟨c0,c1',c2',c3,c4,c5,c6,c7⟩:=Rw.cell hrow hx
    have HX:=Lib.hid hx
    have HF:Hid ((l.take (i+1)).map (fun r=>(⟨r,t,-1⟩:Dl))=(l.take i).map (fun r=>⟨r,t,-1⟩)++[⟨x,t,-1⟩]):=by show _=_;rw[Zar HX.out,List.map_append];rfl
    have HLn:Hid (((l.take i).map (fun r=>(⟨r,t,-1⟩:Dl))).length<=10000000):=by show _<=_;simp;omega
    generalize (l.take i).map (fun r=>(⟨r,t,-1⟩:Dl))=r at *
    clear hrow hx
    have Sc:Hid (Below w.heap.size w ((wr.alloc (.cells (Rw.cells x).toArray 68)).alloc (.cells (Dl.cells ⟨x,t,-1⟩).toArray 70))):=(have hz:=HB.out.alloc HB.out.size (.cells (Rw.cells x).toArray 68);hz.alloc hz.size _)
    have Of:Hid (Own Dl.cells 10 70 ((wr.alloc (.cells (Rw.cells x).toArray 68)).alloc (.cells (Dl.cells ⟨x,t,-1⟩).toArray 70)) w.heap.size v0 r):=(HR.out.kept (Zab _)).kept (Zab _)
    have Kd:Hid (Zac Dl.cells 10 ((wr.alloc (.cells (Rw.cells x).toArray 68)).alloc (.cells (Dl.cells ⟨x,t,-1⟩).toArray 70)) (some ⟨(wr.alloc (.cells (Rw.cells x).toArray 68)).heap.size,0,none⟩) [(⟨x,t,-1⟩:Dl)]):=Zav _ _ encD
    rw[show(wr.alloc (.cells (Rw.cells x).toArray 68)).heap.size=wr.heap.size+1 by simp]at Kd
    have HLa:Hid (r.length+[(⟨x,t,-1⟩:Dl)].length<=1000000000):=by show _<=_;have:=HLn.out;simp;omega
    go_wp2_with (at_builtin;refine Zai elD encD rfl (.tmp 17) (.tmp 21) rfl rfl rfl Of.out Kd.out rfl (fun e=>by cases e) Sc.out.size HLa.out ?_;intro v5 w5 ho hb;have Bc:=Lib.hid ho;have Ya:=Lib.hid (Sc.out.trans hb);clear ho hb)
    go_roundw
    case rel=>exact⟨i+1,_,rfl,by omega,by go_num,by rw[HF.out];exact Bc.out,Ya.out⟩
    case measure=>simp[intOf];omega
  · obtain rfl:i=l.length:=by omega
    rw[List.take_length]at HR
    obtain⟨m,hm⟩:∃ m,m=l.map (fun r=>(⟨r,t,-1⟩:Dl)):=⟨_,rfl⟩
    have HM:=Lib.hid hm
    rw[<-hm]at HR
    have HMl:Hid (m.length<=10000000):=by show _<=_;rw[hm,List.length_map];exact hl
    clear hm
    generalize l.length=nl at *
    go_wp2_with fail
    go_loopw [6,26] (fun v jj wr'=>∃ (i:Nat) (v1:Value),v1=v/\i<=k.length/\jj=.int .i64 i/\Hid (Own Dl.cells 10 70 wr' w.heap.size v (m++(k.take i).map (fun r=>⟨r,t,1⟩)))/\Hid (Below w.heap.size w wr')) (fun _ jj _=>k.length - (intOf jj).toNat)
    case atStart=>exact⟨0,_,rfl,by omega,rfl,by simpa using HR,HB⟩
    case round =>
     obtain⟨i,v1,rfl,hi,rfl,HR,HB⟩:=hrel
     by_cases hlt:i<k.length
     · obtain⟨x,hx⟩:∃ x,k[i]?=some x:=⟨k[i],List.getElem?_eq_getElem hlt⟩
       obtain⟨b,off,rfl,hrow⟩:=Zat (H2.out.1.kept HB.out) hx
       obtain⟨c0,c1',c2',c3,c4,c5,c6,c7⟩:=Rw.cell hrow hx
       have HX:=Lib.hid hx
       have HF:Hid (m++(k.take (i+1)).map (fun r=>(⟨r,t,1⟩:Dl))=(m++(k.take i).map (fun r=>⟨r,t,1⟩))++[⟨x,t,1⟩]):=by show _=_;rw[Zar HX.out,List.map_append,List.append_assoc];rfl
       have HLn:Hid ((m++(k.take i).map (fun r=>(⟨r,t,1⟩:Dl))).length<=20000000):=by show _<=_;have:=HMl.out;simp;omega
       generalize m++(k.take i).map (fun r=>(⟨r,t,1⟩:Dl))=r at *
       clear hrow hx
       have Sc:Hid (Below w.heap.size w ((wr.alloc (.cells (Rw.cells x).toArray 68)).alloc (.cells (Dl.cells ⟨x,t,1⟩).toArray 70))):=(have hz:=HB.out.alloc HB.out.size (.cells (Rw.cells x).toArray 68);hz.alloc hz.size _)
       have Of:Hid (Own Dl.cells 10 70 ((wr.alloc (.cells (Rw.cells x).toArray 68)).alloc (.cells (Dl.cells ⟨x,t,1⟩).toArray 70)) w.heap.size v1 r):=(HR.out.kept (Zab _)).kept (Zab _)
       have Kd:Hid (Zac Dl.cells 10 ((wr.alloc (.cells (Rw.cells x).toArray 68)).alloc (.cells (Dl.cells ⟨x,t,1⟩).toArray 70)) (some ⟨(wr.alloc (.cells (Rw.cells x).toArray 68)).heap.size,0,none⟩) [(⟨x,t,1⟩:Dl)]):=Zav _ _ encD
       rw[show(wr.alloc (.cells (Rw.cells x).toArray 68)).heap.size=wr.heap.size+1 by simp]at Kd
       have HLa:Hid (r.length+[(⟨x,t,1⟩:Dl)].length<=1000000000):=by show _<=_;have:=HLn.out;simp;omega
       go_wp2_with (at_builtin;refine Zai elD encD rfl (.tmp 30) (.tmp 34) rfl rfl rfl Of.out Kd.out rfl (fun e=>by cases e) Sc.out.size HLa.out ?_;intro v5 w5 ho hb;have Bc:=Lib.hid ho;have Ya:=Lib.hid (Sc.out.trans hb);clear ho hb)
       go_roundw
       case rel=>exact⟨i+1,_,rfl,by omega,by go_num,by rw[HF.out];exact Bc.out,Ya.out⟩
       case measure=>simp[intOf];omega
     · obtain rfl:i=k.length:=by omega
       rw[List.take_length]at HR
       go_wp2_with fail
       go_ret
       refine⟨_,rfl,⟨by unfold betD;rw[<-HM.out];exact HR.out,fun d hd=>?_⟩,HB.out⟩
       rcases List.mem_append.1 hd with hd|hd<;>obtain⟨y,hy,rfl⟩:=List.mem_map.1 hd
       · exact⟨(H1.out.2 y hy).kept HB.out,HT.out,Zbw _ (by simp)⟩
       · exact⟨(H2.out.2 y hy).kept HB.out,HT.out,Zbw _ (by simp)⟩
def baseF (src:ByteArray)(seq kind ref:Int):FID:=if kind=1 then(src,seq)else(src,ref)
set_option maxHeartbeats 2000000 in
set_option maxRecDepth 100000 in
theorem base_any (src tb ky:ByteArray)(seq kind ref ev:Int)(fa:Option Addr)(n c:Nat)(w:World) :
 Calls prog 58 #[.agg #[.string src,.int .i64 seq,.int .i64 kind,.int .i64 ref,.string tb,.string ky,.int .i64 ev,.slice fa n c]] w fun e w'=>e=.returned (fidV (baseF src seq kind ref))/\Below w.heap.size w w':=by
 by_cases hk:kind=1
 · subst hk
   go_enter func58,ntmps58
   go_wp2_with fail
   refine bodyPost_ret (v:=fidV (src,seq)) (by simp[results,Tryz.results58,go_sem]) rfl ⟨rfl,?_⟩
   first|exact Zak _ _|exact(((Zak _ _).setCell (by simp) _).setCell (by simp) _)
 · have hb:baseF src seq kind ref=(src,ref):=if_neg hk
   rw[hb]
   go_enter func58,ntmps58
   go_wp2_with fail
   refine bodyPost_ret (v:=fidV (src,ref)) (by simp[results,Tryz.results58,go_sem]) rfl ⟨rfl,?_⟩
   first|exact Zak _ _|exact(((Zak _ _).setCell (by simp) _).setCell (by simp) _)
end Go.Proofs.YtfnpfkgmacaboaaGreat
namespace Go.Proofs.YtfnpfkgmacaboaaGreat
open Go.Proofs.Tryz
open Go.ChangeShapes Go.WideShapes Go.ChangeAt Go.RowKit
set_option linter.unusedVariables false
set_option linter.unusedSimpArgs false
structure En where
 no:Int
 tick:Int
 kind:Int
 src:ByteArray
 seq:Int
 fk:Int
 ref:Int
 tb:ByteArray
 ky:ByteArray
 ev:Int
 fa:Option Addr
 fc:Nat
 vs:List Val
 ek:Int
 een:ByteArray
 eky:ByteArray
 esr:ByteArray
 esq:Int
 ck:Int
 tn:ByteArray
 te:ByteArray
 oi:Fin 9->Int
 os:Fin 8->ByteArray
 ol:Fin 4->Option Addr × Nat × Nat
def En.cells (e:En):List Value:=[.int .i64 e.no,.int .i64 e.tick,.int .i64 e.kind,.string e.src,.int .i64 e.seq,.int .i64 e.fk,.int .i64 e.ref,.string e.tb,.string e.ky,.int .i64 e.ev,.slice e.fa e.vs.length e.fc,.int .i64 e.ek,.string e.een,.string e.eky,.string e.esr,.int .i64 e.esq,.int .i64 e.ck,.string e.tn,.string e.te,.slice (e.ol 0).1 (e.ol 0).2.1 (e.ol 0).2.2,.int .i64 (e.oi 0),.string (e.os 0),.string (e.os 1),.int .i64 (e.oi 1),.slice (e.ol 1).1 (e.ol 1).2.1 (e.ol 1).2.2,.string (e.os 2),.int .i64 (e.oi 2),.string (e.os 3),.string (e.os 4),.string (e.os 5),.int .i64 (e.oi 3),.int .i64 (e.oi 4),.string (e.os 6),.slice (e.ol 2).1 (e.ol 2).2.1 (e.ol 2).2.2,.int .i64 (e.oi 5),.int .i64 (e.oi 6),.int .i64 (e.oi 7),.slice (e.ol 3).1 (e.ol 3).2.1 (e.ol 3).2.2,.int .i64 (e.oi 8),.string (e.os 7)]
def En.base (e:En):FID:=baseF e.src e.seq e.fk e.ref
def En.row (e:En)(id:FID):Rw:=⟨id.1,id.2,e.tb,e.ky,e.ev,e.fa,e.fc,e.no,e.tick,e.vs⟩
structure En.Ok (w:World) (e:En):Prop where
 lies:Zac valC 3 w e.fa e.vs
 len:e.vs.length<=1048576
 str:∀ v∈e.vs,v.2.2.size<=1048576
 val:∀ v∈e.vs,I64 v.1/\I64 v.2.1
 src:e.src.size<=1048576
 tb:e.tb.size<=1048576
 ky:e.ky.size<=1048576
 een:e.een.size<=1048576
 eky:e.eky.size<=1048576
 esr:e.esr.size<=1048576
 tn:e.tn.size<=1048576
 te:e.te.size<=1048576
 ints:I64 e.no/\I64 e.tick/\I64 e.kind/\I64 e.seq/\I64 e.fk/\I64 e.ref/\I64 e.ev/\I64 e.ek/\I64 e.esq/\I64 e.ck
theorem En.Ok.kept {w w':World}{e:En}(h:e.Ok w)(hb:Below w.heap.size w w'):e.Ok w':={ h with lies:=h.lies.kept hb }
theorem En.Ok.base {w:World}{e:En}(h:e.Ok w):OkF e.base:=by
 obtain⟨-,-,-,h4,-,h6,-⟩:=h.ints
 unfold En.base baseF
 split
 · exact⟨h.src,h4⟩
 · exact⟨h.src,h6⟩
theorem En.Ok.row {w:World}{e:En}(h:e.Ok w){id:FID}(hid:OkF id):(e.row id).Ok w:=by
 obtain⟨h1,h2,-,-,-,-,h7,-⟩:=h.ints
 exact⟨h.lies,h.len,h.str,h.val,hid.src,h.tb,h.ky,hid.seq,h7,h1,h2⟩
theorem En.cells_one (e:En):∀ v∈e.cells,v.oneCell'=true:=by
 intro v hv
 simp only[En.cells,List.mem_cons,List.not_mem_nil,or_false]at hv
 rcases hv with h|h|h|h|h|h|h|h|h|h|h|h|h|h|h|h|h|h|h|h|h|h|h|h|h|h|h|h|h|h|h|h|h|h|h|h|h|h|h|h<;>subst h<;>rfl
theorem elE:El prog 48 22 40 528:=⟨underlying22,by kernel_rfl,by decide,by decide⟩
theorem encE:Enc En.cells 40:=⟨fun _=>rfl,En.cells_one⟩
theorem En.cell {w:World}{b off:Nat}{l:List En}(h:Lies En.cells 40 w b off l){i:Nat}{e:En}(he:l[i]?=some e) :
 w.cell? ⟨b,off+i*40,none⟩=some (.int .i64 e.no)/\w.cell? ⟨b,off+i*40+1,none⟩=some (.int .i64 e.tick)/\w.cell? ⟨b,off+i*40+2,none⟩=some (.int .i64 e.kind)/\w.cell? ⟨b,off+i*40+3,none⟩=some (.string e.src)/\w.cell? ⟨b,off+i*40+4,none⟩=some (.int .i64 e.seq)/\w.cell? ⟨b,off+i*40+5,none⟩=some (.int .i64 e.fk)/\w.cell? ⟨b,off+i*40+6,none⟩=some (.int .i64 e.ref)/\w.cell? ⟨b,off+i*40+7,none⟩=some (.string e.tb)/\w.cell? ⟨b,off+i*40+8,none⟩=some (.string e.ky)/\w.cell? ⟨b,off+i*40+9,none⟩=some (.int .i64 e.ev)/\w.cell? ⟨b,off+i*40+10,none⟩=some (.slice e.fa e.vs.length e.fc)/\w.cell? ⟨b,off+i*40+11,none⟩=some (.int .i64 e.ek)/\w.cell? ⟨b,off+i*40+12,none⟩=some (.string e.een)/\w.cell? ⟨b,off+i*40+13,none⟩=some (.string e.eky)/\w.cell? ⟨b,off+i*40+14,none⟩=some (.string e.esr)/\w.cell? ⟨b,off+i*40+15,none⟩=some (.int .i64 e.esq)/\w.cell? ⟨b,off+i*40+16,none⟩=some (.int .i64 e.ck)/\w.cell? ⟨b,off+i*40+17,none⟩=some (.string e.tn)/\w.cell? ⟨b,off+i*40+18,none⟩=some (.string e.te)/\w.cell? ⟨b,off+i*40+19,none⟩=some (.slice (e.ol 0).1 (e.ol 0).2.1 (e.ol 0).2.2)/\w.cell? ⟨b,off+i*40+20,none⟩=some (.int .i64 (e.oi 0))/\w.cell? ⟨b,off+i*40+21,none⟩=some (.string (e.os 0))/\w.cell? ⟨b,off+i*40+22,none⟩=some (.string (e.os 1))/\w.cell? ⟨b,off+i*40+23,none⟩=some (.int .i64 (e.oi 1))/\w.cell? ⟨b,off+i*40+24,none⟩=some (.slice (e.ol 1).1 (e.ol 1).2.1 (e.ol 1).2.2)/\w.cell? ⟨b,off+i*40+25,none⟩=some (.string (e.os 2))/\w.cell? ⟨b,off+i*40+26,none⟩=some (.int .i64 (e.oi 2))/\w.cell? ⟨b,off+i*40+27,none⟩=some (.string (e.os 3))/\w.cell? ⟨b,off+i*40+28,none⟩=some (.string (e.os 4))/\w.cell? ⟨b,off+i*40+29,none⟩=some (.string (e.os 5))/\w.cell? ⟨b,off+i*40+30,none⟩=some (.int .i64 (e.oi 3))/\w.cell? ⟨b,off+i*40+31,none⟩=some (.int .i64 (e.oi 4))/\w.cell? ⟨b,off+i*40+32,none⟩=some (.string (e.os 6))/\w.cell? ⟨b,off+i*40+33,none⟩=some (.slice (e.ol 2).1 (e.ol 2).2.1 (e.ol 2).2.2)/\w.cell? ⟨b,off+i*40+34,none⟩=some (.int .i64 (e.oi 5))/\w.cell? ⟨b,off+i*40+35,none⟩=some (.int .i64 (e.oi 6))/\w.cell? ⟨b,off+i*40+36,none⟩=some (.int .i64 (e.oi 7))/\w.cell? ⟨b,off+i*40+37,none⟩=some (.slice (e.ol 3).1 (e.ol 3).2.1 (e.ol 3).2.2)/\w.cell? ⟨b,off+i*40+38,none⟩=some (.int .i64 (e.oi 8))/\w.cell? ⟨b,off+i*40+39,none⟩=some (.string (e.os 7)) :=
 ⟨h i e he 0 _ rfl,h i e he 1 _ rfl,h i e he 2 _ rfl,h i e he 3 _ rfl,h i e he 4 _ rfl,h i e he 5 _ rfl,h i e he 6 _ rfl,h i e he 7 _ rfl,h i e he 8 _ rfl,h i e he 9 _ rfl,h i e he 10 _ rfl,h i e he 11 _ rfl,h i e he 12 _ rfl,h i e he 13 _ rfl,h i e he 14 _ rfl,h i e he 15 _ rfl,h i e he 16 _ rfl,h i e he 17 _ rfl,h i e he 18 _ rfl,h i e he 19 _ rfl,h i e he 20 _ rfl,h i e he 21 _ rfl,h i e he 22 _ rfl,h i e he 23 _ rfl,h i e he 24 _ rfl,h i e he 25 _ rfl,h i e he 26 _ rfl,h i e he 27 _ rfl,h i e he 28 _ rfl,h i e he 29 _ rfl,h i e he 30 _ rfl,h i e he 31 _ rfl,h i e he 32 _ rfl,h i e he 33 _ rfl,h i e he 34 _ rfl,h i e he 35 _ rfl,h i e he 36 _ rfl,h i e he 37 _ rfl,h i e he 38 _ rfl,h i e he 39 _ rfl⟩
theorem Box.entry {w:World}{g:Nat}{e:En}{t:TypeId}(h:Box w g e.cells.toArray t) :
 w.cell? ⟨g,0,none⟩=some (.int .i64 e.no)/\w.cell? ⟨g,1,none⟩=some (.int .i64 e.tick)/\w.cell? ⟨g,2,none⟩=some (.int .i64 e.kind)/\w.cell? ⟨g,3,none⟩=some (.string e.src)/\w.cell? ⟨g,4,none⟩=some (.int .i64 e.seq)/\w.cell? ⟨g,5,none⟩=some (.int .i64 e.fk)/\w.cell? ⟨g,6,none⟩=some (.int .i64 e.ref)/\w.cell? ⟨g,7,none⟩=some (.string e.tb)/\w.cell? ⟨g,8,none⟩=some (.string e.ky)/\w.cell? ⟨g,9,none⟩=some (.int .i64 e.ev)/\w.cell? ⟨g,10,none⟩=some (.slice e.fa e.vs.length e.fc)/\w.cell? ⟨g,11,none⟩=some (.int .i64 e.ek)/\w.cell? ⟨g,12,none⟩=some (.string e.een)/\w.cell? ⟨g,13,none⟩=some (.string e.eky)/\w.cell? ⟨g,14,none⟩=some (.string e.esr)/\w.cell? ⟨g,15,none⟩=some (.int .i64 e.esq)/\w.cell? ⟨g,16,none⟩=some (.int .i64 e.ck)/\w.cell? ⟨g,17,none⟩=some (.string e.tn)/\w.cell? ⟨g,18,none⟩=some (.string e.te)/\w.cell? ⟨g,19,none⟩=some (.slice (e.ol 0).1 (e.ol 0).2.1 (e.ol 0).2.2)/\w.cell? ⟨g,20,none⟩=some (.int .i64 (e.oi 0))/\w.cell? ⟨g,21,none⟩=some (.string (e.os 0))/\w.cell? ⟨g,22,none⟩=some (.string (e.os 1))/\w.cell? ⟨g,23,none⟩=some (.int .i64 (e.oi 1))/\w.cell? ⟨g,24,none⟩=some (.slice (e.ol 1).1 (e.ol 1).2.1 (e.ol 1).2.2)/\w.cell? ⟨g,25,none⟩=some (.string (e.os 2))/\w.cell? ⟨g,26,none⟩=some (.int .i64 (e.oi 2))/\w.cell? ⟨g,27,none⟩=some (.string (e.os 3))/\w.cell? ⟨g,28,none⟩=some (.string (e.os 4))/\w.cell? ⟨g,29,none⟩=some (.string (e.os 5))/\w.cell? ⟨g,30,none⟩=some (.int .i64 (e.oi 3))/\w.cell? ⟨g,31,none⟩=some (.int .i64 (e.oi 4))/\w.cell? ⟨g,32,none⟩=some (.string (e.os 6))/\w.cell? ⟨g,33,none⟩=some (.slice (e.ol 2).1 (e.ol 2).2.1 (e.ol 2).2.2)/\w.cell? ⟨g,34,none⟩=some (.int .i64 (e.oi 5))/\w.cell? ⟨g,35,none⟩=some (.int .i64 (e.oi 6))/\w.cell? ⟨g,36,none⟩=some (.int .i64 (e.oi 7))/\w.cell? ⟨g,37,none⟩=some (.slice (e.ol 3).1 (e.ol 3).2.1 (e.ol 3).2.2)/\w.cell? ⟨g,38,none⟩=some (.int .i64 (e.oi 8))/\w.cell? ⟨g,39,none⟩=some (.string (e.os 7)) :=
 ⟨h.cell 0 _ rfl,h.cell 1 _ rfl,h.cell 2 _ rfl,h.cell 3 _ rfl,h.cell 4 _ rfl,h.cell 5 _ rfl,h.cell 6 _ rfl,h.cell 7 _ rfl,h.cell 8 _ rfl,h.cell 9 _ rfl,h.cell 10 _ rfl,h.cell 11 _ rfl,h.cell 12 _ rfl,h.cell 13 _ rfl,h.cell 14 _ rfl,h.cell 15 _ rfl,h.cell 16 _ rfl,h.cell 17 _ rfl,h.cell 18 _ rfl,h.cell 19 _ rfl,h.cell 20 _ rfl,h.cell 21 _ rfl,h.cell 22 _ rfl,h.cell 23 _ rfl,h.cell 24 _ rfl,h.cell 25 _ rfl,h.cell 26 _ rfl,h.cell 27 _ rfl,h.cell 28 _ rfl,h.cell 29 _ rfl,h.cell 30 _ rfl,h.cell 31 _ rfl,h.cell 32 _ rfl,h.cell 33 _ rfl,h.cell 34 _ rfl,h.cell 35 _ rfl,h.cell 36 _ rfl,h.cell 37 _ rfl,h.cell 38 _ rfl,h.cell 39 _ rfl⟩
def EnsAt (w:World)(ao:Option Addr)(l:List En):Prop:=Zac En.cells 40 w ao l/\∀ e∈l,e.Ok w
theorem EnsAt.kept {w w':World}{ao:Option Addr}{l:List En}(h:EnsAt w ao l)(hb:Below w.heap.size w w'):EnsAt w' ao l:=⟨h.1.kept hb,fun r hr=>(h.2 r hr).kept hb⟩
end Go.Proofs.YtfnpfkgmacaboaaGreat
namespace Go.Proofs.YtfnpfkgmacaboaaGreat
open Go.Proofs.Tryz
open Go.ChangeShapes Go.WideShapes Go.ChangeAt Go.RowKit
set_option linter.unusedVariables false
def Yields {α:Type}(n:Nat)(P:Program)(gf:Nat)(lb:Array Value)(encs:α->Array Value)(K:Nat->Prop)(bl:Nat)(xs:List α)(w:World):Prop :=
 ∀ (l:Nat) (J:List α->World->Prop) (W:World),(∀ k,K k->W.heap[k]?=w.heap[k]?)->(∀ pre A B,J pre A->A.grownBy B (some bl)->J pre B) ->
  (∀ pre x rest W1,xs=pre++x :: rest->J pre W1->YieldAt Fence.wide (n - 1) P l (encs x) W1 fun e W'=>e=.returned (.bool true)/\J (pre++[x]) W'/\∀ k,K k->W'.heap[k]?=W1.heap[k]?) ->
  J [] W->CallsIn Fence.wide n P gf (#[.func (.yield l) #[] #[]]++lb) W fun e W'=>(∃ v,e=.returned v)/\J xs W'
def Zei (K:Nat->Prop)(S:Nat)(W W':World):Prop:=(∀ k,K k->W'.heap[k]?=W.heap[k]?)/\∀ k o,S<=k->W.heap[k]?=some o->o.isCells=false->W'.heap[k]?=some o
def Minds (bl S:Nat)(I:World->Prop):Prop:=∀ A B r,I A->A.grownBy B (some r)->(r=bl∨(S<=r/\∃ o,A.heap[r]?=some o/\o.isCells=false))->I B
theorem Minds.alloc {bl S:Nat}{I:World->Prop}(h:Minds bl S I)(W:World)(o:Obj)(hi:I W):I (W.alloc o):=h W _ bl hi (World.grownBy_alloc W o _) (Or.inl rfl)
theorem Minds.putObj {bl S:Nat}{I:World->Prop}(h:Minds bl S I)(W:World)(r:Nat)(o o':Obj)(hi:I W)(hS:S<=r)(ho:W.heap[r]?=some o)(hc:o.isCells=false):I (W.putObj r o'):=h W _ r hi (grownBy_putObj' W r o') (Or.inr ⟨hS,o,ho,hc⟩)
theorem wp_range {α:Type}{n:Nat}{P:Program}{g:Operand}{ps:Array Tmp}{assign body:Code}{Q:Exit->Act->World->Prop}{a:Act}{w:World}
 {gf:Nat} {lb:Array Value} (hg:a.eval g=.func (.func gf) #[] lb) (eg:∀ args w,(callFunc gf args).run P w=.ok (.enter gf args) w)
 {encs:α->Array Value} (hps:∀ x,(encs x).size=ps.size) {xs:List α} {bl:Nat} (hbl:bl<w.heap.size) {K:Nat->Prop} (hK:∀ k,K k->k<w.heap.size)
 (hseq:Yields (n - 1) P gf lb encs K bl xs w)
 (I:List α->World->Prop) (hI:∀ pre,Minds bl w.heap.size (I pre)) (h0:I [] w) (Ax:α->Act->World->Prop) (hAx:∀ x a',Minds bl w.heap.size (Ax x a'))
 (hassign:∀ (l:Nat) (pre:List α) (x:α) (W:World) (C:Act->World->Prop),w.heap.size<=W.heap.size->I pre W->(∀ a' W',I pre W'->Zei K w.heap.size W W'->Ax x a' W'->C a' W') ->
  assign.wpIn (Fence.wide.inRound l) (n - 1 - 1) P (Exit.then C (fun _ _ _=>False)) { tmps:=(ps.zip (encs x)).foldl (fun t (p,v)=>t.setIfInBounds p v) a.tmps,defers:=[] } W)
 (hbody:∀ (l:Nat) (pre:List α) (x:α) (rest:List α) (a':Act) (W:World),xs=pre++x :: rest->w.heap.size<=W.heap.size->I pre W->Ax x a' W ->
  body.wpIn (Fence.wide.inRound l) (n - 1 - 1) P (fun e _ W'=>e=.normal/\I (pre++[x]) W'/\Zei K w.heap.size W W') a' W)
 (hdone:∀ (D:Nat) (W:World),w.heap.size<=D->I xs W->W.heap[D]?=some (.deferred (some []))->Q .normal { a with defers:={ target:=.collected D,args:=#[] } :: a.defers } W) :
 (Code.rangeFunc g ps assign body).wpIn Fence.wide n P Q a w:=by
 refine wpIn_rangeFunc ?_
 intro fn hfn
 obtain⟨rec,hrec⟩:∃ rec:LoopState->Option Code->Loop,rec=fun st pe=>{ state:=st,pending:=pe,fn,tmps:=a.tmps,params:=ps,assign,body,defers:=w.heap.size }:=⟨_,rfl⟩
 obtain⟨W1,hW1⟩:∃ W1,(w.alloc (.deferred (some []))).alloc (.loop (rec .ready none))=W1:=⟨_,rfl⟩
 have hL1:W1.heap[w.heap.size+1]?=some (.loop (rec .ready none)):=by
  rw[<-hW1];have:=World.alloc_heap_new (w.alloc (.deferred (some []))) (.loop (rec .ready none));rwa [World.size_alloc]at this
 have hK1:W1.heap[w.heap.size]?=some (.deferred (some [])):=by
  rw[<-hW1];exact(Below.heap_alloc _ _ _ (by simp)).trans (World.alloc_heap_new w _)
 have hI1:I [] W1:=by rw[<-hW1];exact(hI _).alloc _ _ ((hI _).alloc _ _ h0)
 have Cb:Below w.heap.size w W1:=by
  rw[<-hW1];exact((Below.refl _ w).alloc (Nat.le_refl _) _).alloc (by simp) _
 refine⟨w.heap.size+1,[{ target:=.collected w.heap.size,args:=#[] }],W1,{ target:=.fn (.func gf) lb,args:=#[.func (.yield (w.heap.size+1)) #[] #[]] },W1,gf,
  #[.func (.yield (w.heap.size+1)) #[] #[]]++lb,W1,?_,?_,fun _ _=>trivial,?_,fun h=>?_,?_⟩
 · rw[<-hW1,hrec];exact run_enterLoop_outer _ _ _ _ _
 · simp only[resolve,hg]
   simp[go_sem]
 · simp[invoke,go_sem,eg]
 · cases h
 · have far:∀ {A B:World} {k:Nat} {o:Obj},A.grownBy B (some bl)->w.heap.size<=k->A.heap[k]?=some o->B.heap[k]?=some o:=fun hgr hk ho =>
     (hgr.block _ (Array.getElem?_eq_some_iff.1 ho).1 (fun e=>by injection e with e;omega)).trans ho
   refine(hseq (w.heap.size+1)
    (fun pre W=>I pre W/\W.heap[w.heap.size+1]?=some (.loop (rec .ready none))/\W.heap[w.heap.size]?=some (.deferred (some [])))
    W1 (fun k hk=>Cb.block k (hK k hk))
    (fun pre A B hj hgr=>⟨hI pre A B bl hj.1 hgr (Or.inl rfl),far hgr (by omega) hj.2.1,far hgr (Nat.le_refl _) hj.2.2⟩)
    ?_ ⟨hI1,hL1,hK1⟩).mono ?_
   · rintro pre x rest W hxs ⟨hi,hl,hk⟩
     have hlt:w.heap.size+1<W.heap.size:=(Array.getElem?_eq_some_iff.1 hl).1
     have hy:=run_yield (P:=P) (args:=encs x) hl (by rw[hrec];exact hps x)
     rw[hrec]at hy
     refine⟨fn,_,assign,body,hy,roundIn_of_wpIn hfn (hassign _ pre x W _ (by omega) hi ?_)⟩
     clear hy
     intro a' Wa hia hka hax
     have hla:=hka.2 _ _ (by omega) hl rfl
     have hda:=hka.2 _ _ (Nat.le_refl _) hk rfl
     have hlta:w.heap.size+1<Wa.heap.size:=(Array.getElem?_eq_some_iff.1 hla).1
     refine⟨_,run_beginRound hla (by rw[hrec]),?_⟩
     have Nd:(Wa.putObj (w.heap.size+1) (.loop { rec .ready none with state:=.busy })).heap[w.heap.size+1]?=some (.loop { rec .ready none with state:=.busy }):=World.putObj_heap_same hlta
     have Ng:(Wa.putObj (w.heap.size+1) (.loop { rec .ready none with state:=.busy })).heap[w.heap.size]?=some (.deferred (some [])):=(World.putObj_heap_other (by omega)).trans hda
     refine wpIn_mono (hbody _ pre x rest a' _ hxs (by rw[World.putObj_size];omega) ((hI pre).putObj _ _ _ _ hia (by omega) hla rfl) ((hAx x a').putObj _ _ _ _ hax (by omega) hla rfl)) ?_
     rintro e a3 W3 ⟨rfl,Tv,Jf⟩
     have Mg:=Jf.2 _ _ (by omega) Nd rfl
     have Rh:=Jf.2 _ _ (Nat.le_refl _) Ng rfl
     have hr:=run_endRound (P:=P) none Mg
     rw[hrec]at hr
     refine⟨_,_,hr,rfl,⟨(hI _).putObj _ _ _ _ Tv (by omega) Mg rfl,?_,(World.putObj_heap_other (by omega)).trans Rh⟩,?_⟩
     · rw[World.putObj_heap_same (Array.getElem?_eq_some_iff.1 Mg).1,hrec];rfl
     · intro k hkk
       have hne:k≠w.heap.size+1:=by have:=hK k hkk;omega
       rw[World.putObj_heap_other hne,Jf.1 k hkk,World.putObj_heap_other hne,hka.1 k hkk]
   · rintro e W2 ⟨⟨v,rfl⟩,hi,hl,hk⟩
     exact⟨none,_,by have:=run_endLoop (P:=P) hl (by rw[hrec];simp);rw[hrec]at this;exact this,hdone _ _ (Nat.le_refl _) ((hI _).putObj _ _ _ _ hi (by omega) hl rfl) ((World.putObj_heap_other (by omega)).trans hk)⟩
end Go.Proofs.YtfnpfkgmacaboaaGreat
