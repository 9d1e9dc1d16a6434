/- Texts joined by a program. -/
import Derived.RangeFuncNested
import Derived.RangeFuncBound
import Derived.RangeFuncCalls
import Derived.RangeFuncLeaves
import Derived.LoopIn
import Derived.Stop.RegionWithIn
import Derived.Sort.QuietIn
import Derived.Laws.Rows
import Derived.OwnWalkIn
import Derived.Great.BuildSlice
import Derived.Test.YtfnpfkgmacaboaaGreatM08
import Derived.Test.YtfnpfkgmacaboaaGreatM09
namespace Go.Proofs.YtfnpfkgmacaboaaGreat
open Go.Proofs.Tryz
open Go.ChangeShapes Go.WideShapes Go.ChangeAt Go.RowKit
set_option linter.unusedVariables false
set_option linter.unusedSimpArgs false
set_option maxRecDepth 100000 in
theorem grow_any (n:Nat)(hn:n<=1000000000)(w:World):Calls prog 80 #[.slice none 0 0,.int .i64 n] w fun e w'=>∃ v,e=.returned v/\Own Dl.cells 10 70 w' w.heap.size v []/\Below w.heap.size w w':=by
 by_cases h0:n=0
 · subst h0
   refine(Go.Proofs.Any8.slices_Grow_room Tryz.growD none 0 0 0 w (by omega) (by omega) (by omega) (by omega)).mono ?_
   rintro e w' ⟨rfl,rfl⟩
   exact⟨_,rfl,Own.nil _ _,Below.refl _ _⟩
 · obtain⟨i,z,hi,hz0,hz1,hz2,hz3⟩:=elD.parts
   refine(Go.Proofs.Any8.slices_Grow_grow Tryz.growD i z hi hz0 (by rw[hz1];decide) none 0 0 n [] w (by omega) (by omega) (by rw[hz2];omega) (by omega) (by simp) (fun _=>rfl) (fun a ha=>by cases ha)).mono ?_
   rintro e w' ⟨rfl,rfl⟩
   have hge:=grownCap_ge w (0+n) 0 70
   have hle:=grownCap_le_maxLen w (0+n) 0 70 (by unfold maxLen;omega)
   refine⟨_,rfl,⟨by simp[encs],Or.inr ⟨w.heap.size,_,_,rfl,Nat.le_refl _,heap_alloc_new w.drew _,Nat.zero_le _,hle,?_,by simp[encs]⟩⟩,(Below.refl _ w).drew.alloc (Nat.le_refl _) _⟩
   obtain⟨G,hG⟩:∃ G,G=grownCap w (0+n) 0 (Tryz.growD_ren.t 25):=⟨_,rfl⟩
   have hge':0+n<=G:=by rw[hG];exact hge
   rw[<-hG]
   simp only[Array.size_append,size_zeroCells,hz3]
   have e1:(0+n - 0)*10+(G - (0+n))*10=G*10:=by rw[<-Nat.add_mul];congr 1;omega
   simpa using e1
set_option maxHeartbeats 4000000 in
set_option maxRecDepth 100000 in
theorem concat_any (l k:List Dl)(a1 a2:Option Addr)(c1 c2 g:Nat)(hl:l.length<=10000000)(hk:k.length<=10000000)(h1c:a1=none->c1=0)(h2c:a2=none->c2=0)(w:World)
 (hc0:w.cell? ⟨g,0,none⟩=some (.slice a1 l.length c1)) (hc1:w.cell? ⟨g,1,none⟩=some (.slice a2 k.length c2)) (h1:DlsAt w a1 l) (h2:DlsAt w a2 k) :
 Calls prog 49 #[.slice (some ⟨g,0,none⟩) 2 2] w fun e w'=>∃ v,e=.returned v/\OwnD w' w.heap.size v (l++k)/\Below w.heap.size w w':=by
 have H1:=Lib.hid h1
 have H2:=Lib.hid h2
 have HC1:=Lib.hid h1c
 have HC2:=Lib.hid h2c
 have HK0:=Lib.hid hc0
 have HK1:=Lib.hid hc1
 clear h1 h2 h1c h2c
 generalize hll:l.length=ll at *
 generalize hkk:k.length=kk at *
 have HLL:Hid (ll=l.length):=hll.symm
 have HKK:Hid (kk=k.length):=hkk.symm
 clear hll hkk
 have hg:=grow_any (ll+kk) (by omega) w
 rw[Int.natCast_add]at hg
 have HG:=Lib.hid hg
 clear hg
 go_enter func49,ntmps49
 go_wp2_with fail
 go_loop [3,11] (fun s v=>(v=.int .i64 0/\s=.int .i64 0)∨(v=.int .i64 1/\s=.int .i64 ll)∨(v=.int .i64 2/\s=.int .i64 ((ll:Int)+(kk:Int)))) (fun _ v=>2 - (intOf v).toNat)
 case atStart=>exact Or.inl ⟨rfl,rfl⟩
 case round =>
  rcases hrel with⟨rfl,rfl⟩|⟨rfl,rfl⟩|⟨rfl,rfl⟩
  · go_wp2_with fail
    go_round
    case rel=>exact Or.inr (Or.inl ⟨rfl,by simp⟩)
    case measure=>simp[intOf]
  · go_wp2_with fail
    go_round
    case rel=>exact Or.inr (Or.inr ⟨rfl,by simp⟩)
    case measure=>simp[intOf]
  · clear hc0 hc1
    go_wp2_with (go_at_call 80;(with_reducible refine HG.out.mono ?_);rintro e w1 ⟨v1,rfl,ho,hb⟩;have HO:=Lib.hid ho;have HB1:=Lib.hid hb;clear ho hb)
    have HW1:Hid (w.heap.size<=w1.heap.size):=HB1.out.size
    go_loopw [6,27] (fun v j wr=>∃ v0,v0=v/\Hid (Below w.heap.size w wr)/\((j=.int .i64 0/\Hid (Own Dl.cells 10 70 wr w.heap.size v []))∨(j=.int .i64 1/\Hid (Own Dl.cells 10 70 wr w.heap.size v l))∨(j=.int .i64 2/\Hid (Own Dl.cells 10 70 wr w.heap.size v (l++k))))) (fun _ j _=>2 - (intOf j).toNat)
    case atStart=>exact⟨_,rfl,HB1,Or.inl ⟨rfl,HO⟩⟩
    case round =>
     obtain⟨v0,rfl,HB,hcase⟩:=hrel
     have e0:=Zaa HK0.out HB.out
     have e1:=Zaa HK1.out HB.out
     have HBs:Hid (w.heap.size<=wr.heap.size):=HB.out.size
     rcases hcase with⟨rfl,HO2⟩|⟨rfl,HO2⟩|⟨rfl,HO2⟩
     · have HLm:Hid (([]:List Dl).length+l.length<=1000000000):=by show _<=_;rw[<-HLL.out];simp;omega
       go_wp2_with (at_builtin;refine Zay elD encD rfl (.tmp 31) (.tmp 32) rfl rfl rfl HO2.out (H1.out.1.kept HB.out) HLL.out HC1.out HBs.out HLm.out ?_;intro v5 w5 ho hb;have HO5:=Lib.hid ho;have HB5:=Lib.hid (HB.out.trans hb);clear ho hb)
       go_roundw
       case rel=>exact⟨_,rfl,HB5,Or.inr (Or.inl ⟨rfl,by simpa using HO5⟩)⟩
       case measure=>simp[intOf]
     · have HLm:Hid (l.length+k.length<=1000000000):=by show _<=_;rw[<-HLL.out,<-HKK.out];omega
       go_wp2_with (at_builtin;refine Zay elD encD rfl (.tmp 31) (.tmp 32) rfl rfl rfl HO2.out (H2.out.1.kept HB.out) HKK.out HC2.out HBs.out HLm.out ?_;intro v5 w5 ho hb;have HO5:=Lib.hid ho;have HB5:=Lib.hid (HB.out.trans hb);clear ho hb)
       go_roundw
       case rel=>exact⟨_,rfl,HB5,Or.inr (Or.inr ⟨rfl,HO5⟩)⟩
       case measure=>simp[intOf]
     · go_wp2_with fail
       go_ret
       refine⟨_,rfl,⟨HO2.out,fun d hd=>?_⟩,HB.out⟩
       simp only[List.mem_append]at hd
       exact hd.elim (fun h=>(H1.out.2 d h).kept HB.out) (fun h=>(H2.out.2 d h).kept HB.out)
set_option maxHeartbeats 4000000 in
set_option maxRecDepth 100000 in
theorem fadd_any (l k:List Dl)(a1 a2:Option Addr)(c1 c2:Nat)(hl:l.length<=5000000)(hk:k.length<=5000000)(h1c:a1=none->c1=0)(h2c:a2=none->c2=0)(w:World)(h1:DlsAt w a1 l)(h2:DlsAt w a2 k) :
 Calls prog 20 #[.slice a1 l.length c1,.slice a2 k.length c2] w fun e w'=>∃ v l',e=.returned v/\SlD w' v l'/\l'.length<=l.length+k.length/\l'.map Dl.kn=consK (l.map Dl.kn++k.map Dl.kn)/\Below w.heap.size w w':=by
 have HB0:Hid (Below w.heap.size w (w.alloc (.cells #[.slice a1 l.length c1,.slice a2 k.length c2] 53))):=Zab _
 have HC:=Lib.hid (concat_any l k a1 a2 c1 c2 w.heap.size (by omega) (by omega) h1c h2c (w.alloc (.cells #[.slice a1 l.length c1,.slice a2 k.length c2] 53)) ((Box.new w _ _).cell 0 _ rfl) ((Box.new w _ _).cell 1 _ rfl) (h1.kept (Zab _)) (h2.kept (Zab _)))
 obtain⟨m,hm⟩:∃ m,m=l++k:=⟨_,rfl⟩
 have HM:Hid (m.length=l.length+k.length/\m.map Dl.kn=l.map Dl.kn++k.map Dl.kn):=by rw[hm];exact⟨by simp,by simp⟩
 rw[<-hm]at HC
 have HF:=Lib.hid (fun a c w' h=>Zda m a c (by have:=HM.out.1;omega) w' h)
 clear h1 h2 hm h1c h2c
 have HLen:Hid (l.length<=5000000/\k.length<=5000000):=⟨hl,hk⟩
 clear hl hk
 generalize l.length=ll at *
 generalize k.length=kk at *
 generalize hml:m.length=ml at *
 have HML:=Lib.hid hml
 clear hml
 go_enter func20,ntmps20
 go_wp2_with (first
  |(go_at_call 49;(with_reducible refine HC.out.mono ?_);rintro e w2 ⟨v2,rfl,ho,hb⟩;obtain⟨a3,c3,rfl,hr1,hr2,hr3⟩:=ho.lies;rw[HML.out];have HP:=Lib.hid (HF.out a3 c3 w2 hr3);have HB2:=Lib.hid (keepB (Nat.le_refl _) HB0.out hb);clear ho hb hr1 hr2 hr3)
  |(go_at_call 32;(with_reducible refine HP.out.mono ?_);rintro e w3 ⟨v3,l3,rfl,hs,hl3,hm3,hb⟩;have HS3:=Lib.hid hs;have HL3:=Lib.hid hl3;have HM3:=Lib.hid hm3;have HB3:=Lib.hid hb;clear hs hl3 hm3 hb))
 go_ret
 exact⟨_,l3,rfl,HS3.out,by have h1:=HL3.out;have h2:=HM.out.1;omega,by rw[HM3.out,HM.out.2],keepB (Nat.le_refl _) HB2.out HB3.out⟩
end Go.Proofs.YtfnpfkgmacaboaaGreat
namespace Go.Proofs.YtfnpfkgmacaboaaGreat
open Go.Proofs.Tryz
open Go.ChangeShapes Go.WideShapes Go.ChangeAt Go.RowKit
set_option linter.unusedVariables false
set_option linter.unusedSimpArgs false
theorem clone_any (l:List Dl)(ao:Option Addr)(c:Nat)(hl:l.length<=100000000)(hsp:∀ a,ao=some a->a.spot=none)(w:World)(h:Zaf Dl.cells 10 w ao l) :
 Calls prog 67 #[.slice ao l.length c] w fun e w'=>∃ v,e=.returned v/\Own Dl.cells 10 70 w' w.heap.size v l/\Below w.heap.size w w':=by
 cases ao with
 |none =>
  have hn:l=[]:=by
   rcases h with h|⟨_,_,h,_⟩
   · exact h
   · cases h
  subst hn
  refine(Go.Proofs.AnyE.slices_Clone_nil Tryz.cloneD 0 c w).mono ?_
  rintro e w' ⟨rfl,rfl⟩
  exact⟨_,rfl,Own.nil _ _,Below.refl _ _⟩
 |some a =>
  obtain⟨i,z,hi,hz0,hz1,hz2,hz3⟩:=elD.parts
  have hcells:∃ b off,a=⟨b,off,none⟩/\∀ j u,(encs Dl.cells l)[j]?=some u->w.cell? ⟨b,off+j,none⟩=some u:=by
   rcases h with rfl|⟨b,off,he,hr⟩
   · have:=hsp a rfl
     obtain⟨b,off,sp⟩:=a
     cases this
     exact⟨b,off,rfl,fun j u hj=>by simp[encs]at hj⟩
   · injection he with he
     exact⟨b,off,he,fun j u hj=>hr.cells encD.len (by decide) j u hj⟩
  obtain⟨b,off,rfl,hc⟩:=hcells
  refine(Go.Proofs.AnyE.slices_Clone Tryz.cloneD i z 10 120 hi hz0 hz1 hz2 hz3 (by decide) Tryz.sizeOf70 b off l.length c (encs Dl.cells l) w (Zbc encD.len l) (by unfold maxLen;omega) (by omega) hc (ZbI encD.one l)).mono ?_
  rintro e w' ⟨v,rfl,ho,-,hb⟩
  exact⟨v,rfl,ho,hb⟩
theorem encs_set {α:Type}{enc:α->List Value}{k:Nat}(hk:∀ x,(enc x).length=k)(x y:α)(j:Nat)(u:Value)(hj:j<k)(hy:enc y=(enc x).set j u):∀ (l:List α) (i:Nat),l[i]?=some x->encs enc (l.set i y)=(encs enc l).set (i*k+j) u
 |[],_,h=>by simp at h
 |a :: l,0,h=>by
  simp at h
  subst h
  show enc y++encs enc l=(enc a++encs enc l).set (0*k+j) u
  rw[hy,List.set_append_left _ _ (by rw[hk];omega)]
  simp
 |a :: l,i+1,h=>by
  show enc a++encs enc (l.set i y)=(enc a++encs enc l).set ((i+1)*k+j) u
  rw[encs_set hk x y j u hj hy l i (by simpa using h),List.set_append_right _ _ (by rw[hk,Nat.add_mul];omega),hk]
  congr 2
  rw[Nat.add_mul];omega
theorem Own.setAt {α:Type}{enc:α->List Value}{k:Nat}{e:TypeId}{w:World}{B:Nat}{ao:Option Addr}{n c:Nat}{l:List α}(hE:Enc enc k)(h:Own enc k e w B (.slice ao n c) l)(x y:α)(i j:Nat)(u:Value)(hx:l[i]?=some x)(hj:j<k)(hy:enc y=(enc x).set j u) :
 ∃ g,ao=some ⟨g,0,none⟩/\B<=g/\w.frozen? ⟨g,i*k+j,none⟩=false/\Own enc k e (w.setCell ⟨g,i*k+j,none⟩ u) B (.slice ao n c) (l.set i y):=by
 have hlt:i<l.length:=(List.getElem?_eq_some_iff.1 hx).1
 rcases h.2 with⟨-,h0⟩|⟨g,cap,cur,h1,h2,h3,h4,h5,h6,h7⟩
 · omega
 injection h1 with h1 h1n h1c
 subst h1
 refine⟨g,rfl,h2,Box.free h3 _,?_,Or.inr ⟨g,cap,_,?_,h2,Box.put h3 _ u,?_,h5,?_,?_⟩⟩
 · rw[Zbc hE.len,List.length_set]
 · rw[h1c,h1n,List.length_set]
 · rw[List.length_set];exact h4
 · simpa using h6
 · rw[encs_set hE.len x y j u hj hy l i hx,<-h7,List.length_set,Array.toList_setIfInBounds,List.take_set]
end Go.Proofs.YtfnpfkgmacaboaaGreat
namespace Go.Proofs.YtfnpfkgmacaboaaGreat
open Go.Proofs.Tryz
open Go.ChangeShapes Go.WideShapes Go.ChangeAt Go.RowKit
set_option linter.unusedVariables false
set_option linter.unusedSimpArgs false
set_option maxHeartbeats 2000000 in
set_option maxRecDepth 100000 in
theorem fneg_any (l:List Dl)(ao:Option Addr)(cap:Nat)(hl:l.length<=100000000)(hsp:∀ a,ao=some a->a.spot=none)(w:World)(h:DlsAt w ao l) :
 Calls prog 34 #[.slice ao l.length cap] w fun e w'=>∃ v,e=.returned v/\OwnD w' w.heap.size v (l.map Dl.neg)/\Below w.heap.size w w':=by
 have H:=Lib.hid h
 have HC:=Lib.hid (clone_any l ao cap hl hsp w h.1)
 clear h hsp
 generalize hll:l.length=ll at *
 have HLL:Hid (ll=l.length):=hll.symm
 clear hll
 go_enter func34,ntmps34
 go_wp2_with (go_at_call 67;(with_reducible refine HC.out.mono ?_);rintro e w1 ⟨v1,rfl,ho,hb⟩;have HB1:=Lib.hid hb;obtain⟨a1,c1,rfl,-⟩:=ho.lies encD;rw[<-HLL.out]at ho ⊢;have HO1:=Lib.hid ho;clear ho hb)
 go_loopw [8,3] (fun j _ wr=>∃ (i:Nat),i<=ll/\j=.int .i64 i/\Hid (Own Dl.cells 10 70 wr w.heap.size (.slice a1 ll c1) ((l.take i).map Dl.neg++l.drop i))/\Hid (Below w.heap.size w wr)) (fun j _ _=>ll - (intOf j).toNat)
 case atStart=>exact⟨0,by omega,rfl,by simpa using HO1,HB1⟩
 case round =>
  obtain⟨i,hi,rfl,HR,HB⟩:=hrel
  by_cases hlt:i<ll
  · obtain⟨x,hx⟩:∃ x,l[i]?=some x:=⟨l[i]'(by have:=HLL.out;omega),List.getElem?_eq_getElem (by have:=HLL.out;omega)⟩
    have hxr:((l.take i).map Dl.neg++l.drop i)[i]?=some x:=by
     rw[List.getElem?_append_right (by simp;omega)]
     simp only[List.length_map,List.length_take]
     rw[show i - min i l.length=0 by have:=HLL.out;omega]
     simp[hx]
    have HW:Hid (wrap64 (-x.n)=IntKind.i64.wrap (-x.n)):=wrap64_is _
    have hset:((l.take i).map Dl.neg++l.drop i).set i (x.neg)=(l.take (i+1)).map Dl.neg++l.drop (i+1):=by
     rw[List.set_append_right _ _ (by simp;omega)]
     simp only[List.length_map,List.length_take]
     rw[show i - min i l.length=0 by have:=HLL.out;omega,ZaO hx,List.map_append,List.drop_eq_getElem_cons (by have:=HLL.out;omega)]
     rw[List.getElem?_eq_getElem (by have:=HLL.out;omega)]at hx
     injection hx with hx
     simp[hx]
    have hlr:((l.take i).map Dl.neg++l.drop i).length=ll:=by simp;have:=HLL.out;omega
    obtain⟨g,rfl,hg1,hg2,hg3⟩:=HR.out.setAt encD x x.neg i 9 (.int .i64 (IntKind.i64.wrap (-x.n))) hxr (by decide) rfl
    obtain⟨a2,c2,he,-,-,hlies⟩:=HR.out.lies encD
    injection he with he1 he2 he3
    subst he1
    rw[hset]at hg3
    clear he2 he3
    obtain⟨b,off,hb,hrow⟩:=hlies.some (by have:=List.getElem?_eq_some_iff.1 hxr;omega)
    injection hb with hb
    injection hb with hb1 hb2 hb3
    subst hb1 hb2
    obtain⟨k0,k1,k2,k3,k4,k5,k6,k7,k8,k9⟩:=Dl.cell hrow hxr
    clear k0 k1 k2 k3 k4 k5 k6 k7 k8
    simp only[Nat.zero_add]at k9
    rw[<-HW.out]at hg3
    have HG3:=Lib.hid hg3
    have HGB:=Lib.hid hg1
    clear hg3 hset hxr hx hrow hlies hg1
    go_wp2_with fail
    go_roundw
    case rel=>exact⟨i+1,by omega,by go_num,HG3,HB.out.setCell HGB.out _⟩
    case measure=>simp[intOf];omega
  · obtain rfl:i=ll:=by omega
    go_wp2_with fail
    go_ret
    refine⟨_,rfl,⟨?_,fun d hd=>?_⟩,HB.out⟩
    · have:=HR.out
      rw[HLL.out,List.take_length,List.drop_length,List.append_nil]at this
      rw[HLL.out];exact this
    · obtain⟨y,hy,rfl⟩:=List.mem_map.1 hd;exact((H.out.2 y hy).kept HB.out).neg
end Go.Proofs.YtfnpfkgmacaboaaGreat
namespace Go.Proofs.YtfnpfkgmacaboaaGreat
open Go.Proofs.Tryz
open Go.ChangeShapes Go.WideShapes Go.ChangeAt Go.RowKit
set_option linter.unusedVariables false
set_option linter.unusedSimpArgs false
def Dl.at0 (x:Dl):Dl:={ x with tick:=0 }
theorem Dl.Ok.at0 {w:World}{d:Dl}(h:d.Ok w):d.at0.Ok w:={ h with tick:=⟨by show(-9223372036854775808:Int)<=0;decide,by show(0:Int)<=9223372036854775807;decide⟩ }
def atD (l:List Dl)(t:Int):List Dl:=(l.filter (fun d=>decide (d.tick<=t))).map Dl.at0
theorem atD_snoc (l:List Dl)(t:Int)(x:Dl):atD (l++[x]) t=atD l t++(if x.tick<=t then [x.at0]else []):=by
 unfold atD
 rw[List.filter_append,List.map_append]
 by_cases h:x.tick<=t<;>simp[h]
def rowsD (l:List Dl):List Rw:=(l.filter (fun d=>decide (0<d.n))).map Dl.r
theorem rowsD_snoc (l:List Dl)(x:Dl):rowsD (l++[x])=rowsD l++(if 0<x.n then [x.r]else []):=by
 unfold rowsD
 rw[List.filter_append,List.map_append]
 by_cases h:0<x.n<;>simp[h]
theorem atD_len (l:List Dl)(t:Int):(atD l t).length<=l.length:=by unfold atD;rw[List.length_map];exact List.length_filter_le _ _
theorem Zfe (l:List Dl):(rowsD l).length<=l.length:=by unfold rowsD;rw[List.length_map];exact List.length_filter_le _ _
set_option maxHeartbeats 8000000 in
set_option maxRecDepth 100000 in
theorem fat_walk (l:List Dl)(ao:Option Addr)(cap:Nat)(hl:l.length<=10000000)(t:Int)(w:World)(h:DlsAt w ao l) :
 Calls prog 18 #[.slice ao l.length cap,.int .i64 t] w fun e w'=>∃ v l3,e=.returned v/\l3.length<=l.length/\l3.map Dl.kn=consK ((atD l t).map Dl.kn)/\OwnR w' w.heap.size v (rowsD l3)/\Below w.heap.size w w':=by
 have H:=Lib.hid h
 clear h
 go_enter func18,ntmps18
 go_wp2_with fail
 go_loopw [5,12] (fun v jj wr=>∃ (i:Nat) (v0:Value),v0=v/\i<=l.length/\jj=.int .i64 i/\Hid (Own Dl.cells 10 70 wr w.heap.size v (atD (l.take i) t))/\Hid (Below w.heap.size w wr)) (fun _ jj _=>l.length - (intOf jj).toNat)
 case atStart=>exact⟨0,_,rfl,by omega,rfl,Own.nil _ _,Below.refl _ _⟩
 case round =>
  obtain⟨i,v0,rfl,hi,rfl,HR,HB⟩:=hrel
  by_cases hlt:i<l.length
  · obtain⟨x,hx⟩:∃ x,l[i]?=some x:=⟨l[i],List.getElem?_eq_getElem hlt⟩
    obtain⟨b,off,rfl,hrow⟩:=ZaT (H.out.1.kept HB.out) hx
    obtain⟨c0,c1,c2,c3,c4,c5,c6,c7,c8,c9⟩:=Dl.cell hrow hx
    have HX:=Lib.hid hx
    have HF:Hid (atD (l.take (i+1)) t=atD (l.take i) t++(if x.tick<=t then [x.at0]else [])):=by show _=_;rw[ZaO HX.out,atD_snoc]
    have HLn:Hid ((atD (l.take i) t).length<=10000000):=by show _<=_;have:=atD_len (l.take i) t;simp at this;omega
    generalize atD (l.take i) t=r at *
    clear hrow hx
    by_cases ht:x.tick<=t
    · rw[if_pos ht]at HF
      go_upto_region 7 with fail
      refine Zam (fun X hX=>?_)
      have HG:Hid (Box X wr.heap.size #[.string x.r.src,.int .i64 x.r.seq,.string x.r.tb,.string x.r.ky,.int .i64 x.r.ev,.slice x.r.fa x.r.vs.length x.r.fc,.int .i64 x.r.no,.int .i64 x.r.tk,.int .i64 0,.int .i64 x.n] 70):=by rw[hX];exact Box.new wr _ _
      have HWX:Hid (Below w.heap.size w X):=by rw[hX];exact HB.out.alloc HB.out.size _
      have HOX:Hid (Own Dl.cells 10 70 X w.heap.size v0 r):=by rw[hX];exact HR.out.kept (Zab _)
      clear hX c0 c1 c2 c3 c4 c5 c6 c7 c8 c9
      obtain⟨d0,d1,d2,d3,d4,d5,d6,d7,d8,d9⟩:=HG.out.at10
      have HX6:Hid (Below w.heap.size w (X.alloc (.cells (Dl.cells x.at0).toArray 70))):=HWX.out.alloc HWX.out.size _
      have HO6:Hid (Own Dl.cells 10 70 (X.alloc (.cells (Dl.cells x.at0).toArray 70)) w.heap.size v0 r):=HOX.out.kept (Zab _)
      have HS6:Hid (Zaf Dl.cells 10 (X.alloc (.cells (Dl.cells x.at0).toArray 70)) (some ⟨X.heap.size,0,none⟩) [x.at0]):=ZaG _ _ encD
      have HLa:Hid (r.length+[x.at0].length<=1000000000):=by show _<=_;have:=HLn.out;simp;omega
      go_wp2_with (at_builtin;refine Zay elD encD rfl (.tmp 21) (.tmp 23) rfl rfl rfl HO6.out HS6.out rfl (fun e=>by cases e) HX6.out.size HLa.out ?_;intro v5 w5 ho hb;have HO5:=Lib.hid ho;have HX5:=Lib.hid (HX6.out.trans hb);clear ho hb)
      go_roundw
      case rel=>exact⟨i+1,_,rfl,by omega,by go_num,by rw[HF.out];exact HO5.out,HX5.out⟩
      case measure=>simp[intOf];omega
    · rw[if_neg ht,List.append_nil]at HF
      go_wp2_with fail
      go_roundw
      case rel=>exact⟨i+1,_,rfl,by omega,by go_num,by rw[HF.out];exact HR.out.kept (Zab _),HB.out.alloc HB.out.size _⟩
      case measure=>simp[intOf];omega
  · obtain rfl:i=l.length:=by omega
    rw[List.take_length]at HR
    have HOd:Hid (OwnD wr w.heap.size v0 (atD l t)):=⟨HR.out,fun d hd=>by
     obtain⟨y,hy,rfl⟩:=List.mem_map.1 hd
     exact((H.out.2 y (List.mem_filter.1 hy).1).kept HB.out).at0⟩
    obtain⟨a2,c2,rfl,hr1,hr2,hr3⟩:=HOd.out.lies
    have HC:=Lib.hid (Zda (atD l t) a2 c2 (Nat.le_trans (atD_len l t) hl) wr hr3)
    have HLat:Hid ((atD l t).length<=l.length):=atD_len l t
    clear hr1 hr2 hr3
    generalize hll:l.length=nl at *
    have HNL:=Lib.hid hll
    clear hll
    generalize hml:(atD l t).length=ml at *
    clear hml
    go_wp2_with (go_at_call 32;(with_reducible refine HC.out.mono ?_);rintro e w1 ⟨v1,l3,rfl,hs,hl3,hm3,hb⟩;obtain⟨a3,c3,rfl,hs1,hs2,hs3⟩:=hs;have HS3:=Lib.hid hs3;have HL3:=Lib.hid hl3;have HM3:=Lib.hid hm3;have HB1:=Lib.hid (keepB (Nat.le_refl _) HB.out hb);clear hs1 hs2 hs3 hl3 hm3 hb)
    have H3l:Hid (l3.length<=nl):=Nat.le_trans HL3.out HLat.out
    go_loopw [4,29] (fun v jj wr=>∃ (i:Nat) (v0:Value),v0=v/\i<=l3.length/\jj=.int .i64 i/\Hid (Own Rw.cells 8 68 wr w1.heap.size v (rowsD (l3.take i)))/\Hid (Below w1.heap.size w1 wr)) (fun _ jj _=>l3.length - (intOf jj).toNat)
    case atStart=>exact⟨0,_,rfl,by omega,rfl,Own.nil _ _,Below.refl _ _⟩
    case round =>
     obtain⟨i,v0,rfl,hi,rfl,HR,HBB⟩:=hrel
     by_cases hlt:i<l3.length
     · obtain⟨x,hx⟩:∃ x,l3[i]?=some x:=⟨l3[i],List.getElem?_eq_getElem hlt⟩
       obtain⟨b,off,rfl,hrow⟩:=ZaT (HS3.out.1.kept HBB.out) hx
       obtain⟨c0,c1,c2,c3,c4,c5,c6,c7,c8,c9⟩:=Dl.cell hrow hx
       have HX:=Lib.hid hx
       have HF:Hid (rowsD (l3.take (i+1))=rowsD (l3.take i)++(if 0<x.n then [x.r]else [])):=by show _=_;rw[ZaO HX.out,rowsD_snoc]
       have h3l:=H3l.out
       have HLn:Hid ((rowsD (l3.take i)).length<=10000000):=by show _<=_;have:=Zfe (l3.take i);simp at this;omega
       generalize rowsD (l3.take i)=r at *
       clear hrow hx
       by_cases ht:0<x.n
       · rw[if_pos ht]at HF
         have HX6:Hid (Below w1.heap.size w1 ((wr.alloc (.cells (Dl.cells x).toArray 70)).alloc (.cells (Rw.cells x.r).toArray 68))):=have hz:=HBB.out.alloc HBB.out.size (.cells (Dl.cells x).toArray 70);hz.alloc hz.size _
         have HO6:Hid (Own Rw.cells 8 68 ((wr.alloc (.cells (Dl.cells x).toArray 70)).alloc (.cells (Rw.cells x.r).toArray 68)) w1.heap.size v0 r):=(HR.out.kept (Zab _)).kept (Zab _)
         have HS6:Hid (Zaf Rw.cells 8 ((wr.alloc (.cells (Dl.cells x).toArray 70)).alloc (.cells (Rw.cells x.r).toArray 68)) (some ⟨(wr.alloc (.cells (Dl.cells x).toArray 70)).heap.size,0,none⟩) [x.r]):=ZaG _ _ encR
         rw[show(wr.alloc (.cells (Dl.cells x).toArray 70)).heap.size=wr.heap.size+1 by simp]at HS6
         have HLa:Hid (r.length+[x.r].length<=1000000000):=by show _<=_;have:=HLn.out;simp;omega
         go_wp2_with (at_builtin;refine Zay elR encR rfl (.tmp 36) (.tmp 39) rfl rfl rfl HO6.out HS6.out rfl (fun e=>by cases e) HX6.out.size HLa.out ?_;intro v5 w5 ho hb;have HO5:=Lib.hid ho;have HX5:=Lib.hid (HX6.out.trans hb);clear ho hb)
         go_roundw
         case rel=>exact⟨i+1,_,rfl,by omega,by go_num,by rw[HF.out];exact HO5.out,HX5.out⟩
         case measure=>simp[intOf];omega
       · rw[if_neg ht,List.append_nil]at HF
         go_wp2_with fail
         go_roundw
         case rel=>exact⟨i+1,_,rfl,by omega,by go_num,by rw[HF.out];exact HR.out.kept (Zab _),HBB.out.alloc HBB.out.size _⟩
         case measure=>simp[intOf];omega
     · obtain rfl:i=l3.length:=by omega
       rw[List.take_length]at HR
       go_wp2_with fail
       go_ret
       refine⟨_,l3,rfl,by rw[HNL.out];exact H3l.out,HM3.out,⟨HR.out.mono HB1.out.size,fun d hd=>?_⟩,keepB (Nat.le_refl _) HB1.out HBB.out⟩
       obtain⟨y,hy,rfl⟩:=List.mem_map.1 hd
       exact((HS3.out.2 y (List.mem_filter.1 hy).1).kept HBB.out).r
end Go.Proofs.YtfnpfkgmacaboaaGreat
namespace Go.Proofs.YtfnpfkgmacaboaaGreat
open Go.Proofs.Tryz
open Go.ChangeShapes Go.WideShapes Go.ChangeAt Go.RowKit
set_option linter.unusedVariables false
set_option linter.unusedSimpArgs false
theorem sumK_at0 (t:Int)(k:RK):∀ (l:List Dl) (a:Int),(((atD l t).map Dl.kn).foldl (fun s x=>if x.1=((0,k):DK)then IntKind.i64.wrap (x.2+s)else s) a)=((l.map Dl.kn).foldl (fun s x=>if x.1.1<=t/\x.1.2=k then IntKind.i64.wrap (s+x.2)else s) a)
 |[],a=>rfl
 |x :: l,a=>by
  by_cases h:x.tick<=t
  · have e:atD (x :: l) t=x.at0 :: atD l t:=by simp[atD,h]
    rw[e,List.map_cons,List.foldl_cons,List.map_cons,List.foldl_cons,sumK_at0 t k l]
    congr 1
    show(if ((0,x.r.key):DK)=(0,k)then IntKind.i64.wrap (x.n+a)else a)=if x.tick<=t/\x.r.key=k then IntKind.i64.wrap (a+x.n)else a
    rw[Int.add_comm]
    simp[h]
  · have e:atD (x :: l) t=atD l t:=by simp[atD,h]
    rw[e,List.map_cons,List.foldl_cons,sumK_at0 t k l]
    congr 1
    show a=if x.tick<=t/\x.r.key=k then IntKind.i64.wrap (a+x.n)else a
    rw[if_neg (fun e=>h e.1)]
theorem sumK_at (l:List Dl)(t:Int)(k:RK):sumK ((atD l t).map Dl.kn) ((0,k):DK)=cntK (l.map Dl.kn) k t:=sumK_at0 t k l 0
theorem sumK_not {κ:Type} [DecidableEq κ] (k:κ):∀ (d:List (κ × Int)),(∀ x∈d,x.1≠k)->sumK d k=0:=by
 intro d
 unfold sumK
 generalize (0:Int)=a
 induction d generalizing a with
 |nil=>intro _;rfl
 |cons x d ih =>
  intro h
  rw[List.foldl_cons,if_neg (h x (by simp))]
  exact ih a (fun y hy=>h y (by simp[hy]))
theorem cntK_not (k:RK)(t:Int):∀ (L:List (DK × Int)),(∀ x∈L,x.1.2≠k)->cntK L k t=0:=by
 intro L
 unfold cntK
 generalize (0:Int)=a
 induction L generalizing a with
 |nil=>intro _;rfl
 |cons x L ih =>
  intro h
  rw[List.foldl_cons,if_neg (fun e=>h x (by simp) e.2)]
  exact ih a (fun y hy=>h y (by simp[hy]))
theorem rowsD_keys (l:List Dl):(rowsD l).map Rw.key=((l.map Dl.kn).filter (fun x=>decide (0<x.2))).map (fun x=>x.1.2):=by
 induction l with
 |nil=>rfl
 |cons x l ih =>
  by_cases h:0<x.n
  · have e1:rowsD (x :: l)=x.r :: rowsD l:=by simp[rowsD,h]
    have e2:decide (0<(Dl.kn x).2)=true:=decide_eq_true h
    rw[e1,List.map_cons,List.map_cons,List.filter_cons,if_pos e2,List.map_cons,ih]
    rfl
  · have e1:rowsD (x :: l)=rowsD l:=by simp[rowsD,h]
    have e2:¬ decide (0<(Dl.kn x).2)=true:=fun e=>h (of_decide_eq_true e)
    rw[e1,List.map_cons,List.filter_cons,if_neg e2,ih]
theorem cmpD_zero (a b:RK):cmpD (0,a) (0,b)=cmpR a b:=by
 unfold cmpD
 rw[show cmpI (0:Int) 0=0 from rfl]
 simp[orI]
theorem isAt_of (l l3:List Dl)(t:Int)(hl:∀ d∈l,I64 d.n)(h:l3.map Dl.kn=consK ((atD l t).map Dl.kn)):IsAt (l.map Dl.kn) t (l.map Dl.kn) ((rowsD l3).map Rw.key):=by
 have hM:∀ x∈(atD l t).map Dl.kn,I64 x.2:=by
  intro x hx
  obtain⟨d,hd,rfl⟩:=List.mem_map.1 hx
  obtain⟨y,hy,rfl⟩:=List.mem_map.1 hd
  exact hl y (List.mem_filter.1 hy).1
 have hC:=Zb1 _ hM
 have h0:∀ x∈(atD l t).map Dl.kn,x.1.1=0:=by
  intro x hx
  obtain⟨d,hd,rfl⟩:=List.mem_map.1 hx
  obtain⟨y,hy,rfl⟩:=List.mem_map.1 hd
  rfl
 have hz:∀ x∈consK ((atD l t).map Dl.kn),x.1.1=0:=by
  intro x hx
  by_cases e:x.1.1=0
  · exact e
  · have:=(hC.mem ZaW x).1 hx
    rw[sumK_not x.1 _ (fun y hy e2=>e (by rw[<-e2];exact h0 y hy))]at this
    exact absurd this.1 this.2
 rw[rowsD_keys,h]
 constructor
 · rw[List.pairwise_map]
   refine List.Pairwise.imp_of_mem ?_ (hC.rising.filter _)
   intro x y hx hy hxy
   have hx0:=hz x (List.mem_filter.1 hx).1
   have hy0:=hz y (List.mem_filter.1 hy).1
   obtain⟨⟨x1,x2⟩,x3⟩:=x
   obtain⟨⟨y1,y2⟩,y3⟩:=y
   simp only at hx0 hy0
   subst hx0 hy0
   rw[<-cmpD_zero]
   exact hxy
 · intro k
   constructor
   · intro hk
     obtain⟨x,hx,rfl⟩:=List.mem_map.1 hk
     obtain⟨hx1,hx2⟩:=List.mem_filter.1 hx
     have hx3:=(hC.mem ZaW x).1 hx1
     have hx0:=hz x hx1
     obtain⟨⟨x1,x2⟩,x3⟩:=x
     simp only at hx0 hx3 hx2 ⊢
     subst hx0
     rw[sumK_at]at hx3
     have hp:0<cntK (l.map Dl.kn) x2 t:=by have:=of_decide_eq_true hx2;omega
     refine⟨?_,hp⟩
     by_cases e:∃ x∈l.map Dl.kn,x.1.2=x2
     · exact e
     · rw[cntK_not x2 t _ (fun y hy e2=>e ⟨y,hy,e2⟩)]at hp
       omega
   · rintro ⟨_,hp⟩
     refine List.mem_map.2 ⟨((0,k),cntK (l.map Dl.kn) k t),List.mem_filter.2 ⟨(hC.mem ZaW _).2 ⟨(sumK_at l t k).symm,by show cntK (l.map Dl.kn) k t≠0;omega⟩,by simpa using hp⟩,rfl⟩
theorem fat_any (l:List Dl)(ao:Option Addr)(cap:Nat)(hl:l.length<=10000000)(t:Int)(w:World)(h:DlsAt w ao l) :
 Calls prog 18 #[.slice ao l.length cap,.int .i64 t] w fun e w'=>∃ v rows,e=.returned v/\OwnR w' w.heap.size v rows/\rows.length<=l.length/\IsAt (l.map Dl.kn) t (l.map Dl.kn) (rows.map Rw.key)/\Below w.heap.size w w':=by
 refine(fat_walk l ao cap hl t w h).mono ?_
 rintro e w' ⟨v,l3,rfl,h1,h2,h3,h4⟩
 exact⟨v,rowsD l3,rfl,h3,Nat.le_trans (Zfe l3) h1,isAt_of l l3 t (fun d hd=>(h.2 d hd).n) h2,h4⟩
end Go.Proofs.YtfnpfkgmacaboaaGreat
namespace Go.Proofs.YtfnpfkgmacaboaaGreat
open Go.Proofs.Tryz
open Go.ChangeShapes Go.WideShapes Go.ChangeAt Go.RowKit
set_option linter.unusedVariables false
set_option linter.unusedSimpArgs false
theorem eqF_comm (x y:FID):eqF x y=eqF y x:=by
 rw[Bool.eq_iff_iff,Zba,Zba];exact⟨fun h=>h.symm,fun h=>h.symm⟩
set_option maxHeartbeats 2000000 in
set_option maxRecDepth 100000 in
theorem idx_nil (ao:Option Addr)(c:Nat)(x:FID)(w:World) :
 Calls prog 81 #[.slice ao 0 c,fidV x] w fun e w'=>e=.returned (.int .i64 (-1))/\Below w.heap.size w w':=by
 go_enter func81,ntmps81
 go_wp2_with fail
 go_loopw [8] (fun v wr=>v=.int .i64 0/\Below w.heap.size w wr) (fun v _=>(0:Nat))
 case atStart=>exact⟨rfl,Zab _⟩
 case round =>
  obtain⟨rfl,hB⟩:=hrel
  go_wp2_with fail
  go_ret
  exact⟨rfl,hB⟩
set_option maxHeartbeats 2000000 in
set_option maxRecDepth 100000 in
theorem cont_nil (ao:Option Addr)(c:Nat)(x:FID)(w:World) :
 Calls prog 50 #[.slice ao 0 c,fidV x] w fun e w'=>e=.returned (.bool false)/\Below w.heap.size w w':=by
 have HI:=Lib.hid (idx_nil ao c x (w.alloc (.cells #[.string x.1,.int .i64 x.2] 24)))
 go_enter func50,ntmps50
 go_wp2_with (go_at_call 81;(with_reducible refine HI.out.mono ?_);rintro e w1 ⟨rfl,hb⟩;have HB:=Lib.hid hb;clear hb)
 go_ret
 exact⟨rfl,keepB (Nat.le_refl _) (Zab _) HB.out⟩
theorem cont_any (l:List FID)(ao:Option Addr)(cap:Nat)(hl:l.length<=4611686018427387904)(x:FID)(w:World)(h:Zaf fidC 2 w ao l) :
 Calls prog 50 #[.slice ao l.length cap,fidV x] w fun e w'=>e=.returned (.bool (memF l x))/\Below w.heap.size w w':=by
 rcases h with rfl|⟨b,off,rfl,hr⟩
 · exact cont_nil ao cap x w
 · refine(Go.Proofs.AnyQ.slices_Contains (α:=FID) Tryz.contF 2 Tryz.isAgg24 Tryz.sizeOf24 fidC (fun _=>rfl) eqF ⟨fun x y w=>eql36 x y w,fun op a b x y w=>guard36 op a b x y w⟩ b off l.length cap l x w (Nat.le_refl _) (by omega) ?_).mono ?_
   · intro j hj i v hv
     exact hr j l[j]! (by rw[getElem!_pos l j hj];exact List.getElem?_eq_getElem hj) i v hv
   · rintro e w' ⟨rfl,hb⟩
     refine⟨?_,hb⟩
     rw[List.take_length]
     unfold memF
     congr 3
     funext y
     exact eqF_comm _ _
set_option maxHeartbeats 2000000 in
set_option maxRecDepth 100000 in
theorem fpurge_any (l:List Dl)(ao:Option Addr)(cap:Nat)(hl:l.length<=100000000)(ids:List FID)(a2:Option Addr)(c2:Nat)(hids:ids.length<=4611686018427387904)(w:World)(h:DlsAt w ao l)(h2:Zaf fidC 2 w a2 ids) :
 Calls prog 21 #[.slice ao l.length cap,.slice a2 ids.length c2] w fun e w'=>∃ v,e=.returned v/\OwnD w' w.heap.size v (ZbR l ids)/\Below w.heap.size w w':=by
 have H:=Lib.hid h
 have HI:=Lib.hid (fun x w' (hb:Below w.heap.size w w')=>cont_any ids a2 c2 hids x w' (h2.kept hb))
 clear h h2
 generalize ids.length=nids at *
 clear hids
 go_enter func21,ntmps21
 go_wp2_with fail
 go_loopw [4,9] (fun v j wr=>∃ (i:Nat) (v0:Value),v0=v/\i<=l.length/\j=.int .i64 i/\Hid (Own Dl.cells 10 70 wr w.heap.size v (ZbR (l.take i) ids)/\(ZbR (l.take i) ids).length<=i)/\Below w.heap.size w wr) (fun _ j _=>l.length - (intOf j).toNat)
 case atStart=>exact⟨0,_,rfl,by omega,rfl,⟨Own.nil _ _,Nat.le_refl _⟩,Below.refl _ _⟩
 case round =>
  obtain⟨i,v0,rfl,hi,rfl,HR,hB⟩:=hrel
  have HB:=Lib.hid hB
  clear hB
  by_cases hlt:i<l.length
  · obtain⟨x,hx⟩:∃ x,l[i]?=some x:=⟨l[i],List.getElem?_eq_getElem hlt⟩
    obtain⟨b,off,rfl,hrow⟩:=(H.out.1.kept HB.out).some (by omega)
    obtain⟨c0,c1,c2',c3,c4,c5,c6,c7,c8,c9⟩:=Dl.cell hrow hx
    have HX:=Lib.hid hx
    have HF:Hid (ZbR (l.take (i+1)) ids=ZbR (l.take i) ids++(if memF ids (x.r.src,x.r.seq)then []else [x])):=by show _=_;rw[ZaO HX.out,purgeD_snoc]
    have HO:Hid (Own Dl.cells 10 70 wr w.heap.size v0 (ZbR (l.take i) ids)):=HR.out.1
    have HLn:Hid ((ZbR (l.take i) ids).length<=i):=HR.out.2
    clear hrow hx HR
    generalize ZbR (l.take i) ids=r at *
    go_upto_region 4 with fail
    refine Zam (fun X hX=>?_)
    have HG:Hid (Box X wr.heap.size #[.string x.r.src,.int .i64 x.r.seq,.string x.r.tb,.string x.r.ky,.int .i64 x.r.ev,.slice x.r.fa x.r.vs.length x.r.fc,.int .i64 x.r.no,.int .i64 x.r.tk,.int .i64 x.tick,.int .i64 x.n] 70):=by rw[hX];exact Box.new wr _ _
    have HWX:Hid (Below w.heap.size w X):=by rw[hX];exact HB.out.alloc HB.out.size _
    have HOX:Hid (Own Dl.cells 10 70 X w.heap.size v0 r):=by rw[hX];exact HO.out.kept (Zab _)
    have HC:=Lib.hid (HI.out (x.r.src,x.r.seq) X HWX.out)
    clear hX c0 c1 c2' c3 c4 c5 c6 c7 c8 c9 HO HB
    obtain⟨e0,e1,e2,e3,e4,e5,e6,e7,e8,e9⟩:=HG.out.at10
    cases hm:memF ids (x.r.src,x.r.seq)
    · rw[hm]at HF HC
      go_wp2_with (first
       |(go_at_call 50;(with_reducible refine HC.out.mono ?_);rintro e w1 ⟨rfl,hb⟩;have HB1:=Lib.hid hb;obtain⟨d0,d1,d2,d3,d4,d5,d6,d7,d8,d9⟩:=(HG.out.kept hb).at10;have HX6:Hid (Below w.heap.size w (w1.alloc (.cells (Dl.cells x).toArray 70))):=(have hz:=keepB (Nat.le_refl _) HWX.out hb;hz.alloc hz.size _);have HO6:Hid (Own Dl.cells 10 70 (w1.alloc (.cells (Dl.cells x).toArray 70)) w.heap.size v0 r):=(HOX.out.kept hb).kept (Zab _);have HS6:Hid (Zaf Dl.cells 10 (w1.alloc (.cells (Dl.cells x).toArray 70)) (some ⟨w1.heap.size,0,none⟩) [x]):=ZaG _ _ encD;have HLa:Hid (r.length+[x].length<=1000000000):=(by show _<=_;have:=HLn.out;simp;omega);clear hb)
       |(at_builtin;refine Zay elD encD rfl (.tmp 19) (.tmp 21) rfl rfl rfl HO6.out HS6.out rfl (fun e=>by cases e) HX6.out.size HLa.out ?_;intro v5 w5 ho hb;have HO5:=Lib.hid ho;have HX5:=Lib.hid (HX6.out.trans hb);clear ho hb))
      go_roundw
      case rel=>exact⟨i+1,_,rfl,by omega,by go_num,by rw[HF.out];exact⟨HO5.out,by have:=HLn.out;simp;omega⟩,HX5.out⟩
      case measure=>simp[intOf];omega
    · rw[hm]at HF HC
      go_wp2_with (go_at_call 50;(with_reducible refine HC.out.mono ?_);rintro e w1 ⟨rfl,hb⟩;have HB1:=Lib.hid hb;clear hb)
      go_roundw
      case rel=>exact⟨i+1,_,rfl,by omega,by go_num,by rw[HF.out];exact⟨by simpa using HOX.out.kept HB1.out,by have:=HLn.out;simp;omega⟩,keepB (Nat.le_refl _) HWX.out HB1.out⟩
      case measure=>simp[intOf];omega
  · obtain rfl:i=l.length:=by omega
    go_wp2_with fail
    go_ret
    exact⟨_,rfl,⟨by have:=HR.out.1;rwa [List.take_length]at this,fun d hd=>(H.out.2 d (List.mem_filter.1 hd).1).kept HB.out⟩,HB.out⟩
end Go.Proofs.YtfnpfkgmacaboaaGreat
namespace Go.Proofs.YtfnpfkgmacaboaaGreat
open Go.Proofs.Tryz
open Go.ChangeShapes Go.WideShapes Go.ChangeAt Go.RowKit
set_option linter.unusedVariables false
set_option linter.unusedSimpArgs false
theorem Zea (n:Int)(h:n=-1∨n=1):I64 n:=by rcases h with rfl|rfl<;>unfold I64<;>omega
def betD (a b:List Rw)(t:Int):List Dl:=a.map (fun r=>⟨r,t,-1⟩)++b.map (fun r=>⟨r,t,1⟩)
set_option maxHeartbeats 8000000 in
set_option maxRecDepth 100000 in
theorem ZdI (l k:List Rw)(a1 a2:Option Addr)(c1 c2:Nat)(t:Int)(ht:I64 t)(hl:l.length<=10000000)(hk:k.length<=10000000)(w:World)(h1:Zbs w a1 l)(h2:Zbs w a2 k) :
 Calls prog 39 #[.slice a1 l.length c1,.slice a2 k.length c2,.int .i64 t] w fun e w'=>∃ v,e=.returned v/\OwnD w' w.heap.size v (betD l k t)/\Below w.heap.size w w':=by
 have H1:=Lib.hid h1
 have H2:=Lib.hid h2
 have HT:=Lib.hid ht
 clear h1 h2 ht
 go_enter func39,ntmps39
 go_wp2_with fail
 go_loopw [6,13] (fun v jj wr=>∃ (i:Nat) (v0:Value),v0=v/\i<=l.length/\jj=.int .i64 i/\Hid (Own Dl.cells 10 70 wr w.heap.size v ((l.take i).map (fun r=>⟨r,t,-1⟩)))/\Hid (Below w.heap.size w wr)) (fun _ jj _=>l.length - (intOf jj).toNat)
 case atStart=>exact⟨0,_,rfl,by omega,rfl,Own.nil _ _,Below.refl _ _⟩
 case round =>
  obtain⟨i,v0,rfl,hi,rfl,HR,HB⟩:=hrel
  by_cases hlt:i<l.length
  · obtain⟨x,hx⟩:∃ x,l[i]?=some x:=⟨l[i],List.getElem?_eq_getElem hlt⟩
    obtain⟨b,off,rfl,hrow⟩:=ZaT (H1.out.1.kept HB.out) hx
    obtain⟨c0,c1',c2',c3,c4,c5,c6,c7⟩:=Rw.cell hrow hx
    have HX:=Lib.hid hx
    have HF:Hid ((l.take (i+1)).map (fun r=>(⟨r,t,-1⟩:Dl))=(l.take i).map (fun r=>⟨r,t,-1⟩)++[⟨x,t,-1⟩]):=by show _=_;rw[ZaO HX.out,List.map_append];rfl
    have HLn:Hid (((l.take i).map (fun r=>(⟨r,t,-1⟩:Dl))).length<=10000000):=by show _<=_;simp;omega
    generalize (l.take i).map (fun r=>(⟨r,t,-1⟩:Dl))=r at *
    clear hrow hx
    have HX6:Hid (Below w.heap.size w ((wr.alloc (.cells (Rw.cells x).toArray 68)).alloc (.cells (Dl.cells ⟨x,t,-1⟩).toArray 70))):=(have hz:=HB.out.alloc HB.out.size (.cells (Rw.cells x).toArray 68);hz.alloc hz.size _)
    have HO6:Hid (Own Dl.cells 10 70 ((wr.alloc (.cells (Rw.cells x).toArray 68)).alloc (.cells (Dl.cells ⟨x,t,-1⟩).toArray 70)) w.heap.size v0 r):=(HR.out.kept (Zab _)).kept (Zab _)
    have HS6:Hid (Zaf Dl.cells 10 ((wr.alloc (.cells (Rw.cells x).toArray 68)).alloc (.cells (Dl.cells ⟨x,t,-1⟩).toArray 70)) (some ⟨(wr.alloc (.cells (Rw.cells x).toArray 68)).heap.size,0,none⟩) [(⟨x,t,-1⟩:Dl)]):=ZaG _ _ encD
    rw[show(wr.alloc (.cells (Rw.cells x).toArray 68)).heap.size=wr.heap.size+1 by simp]at HS6
    have HLa:Hid (r.length+[(⟨x,t,-1⟩:Dl)].length<=1000000000):=by show _<=_;have:=HLn.out;simp;omega
    go_wp2_with (at_builtin;refine Zay elD encD rfl (.tmp 17) (.tmp 21) rfl rfl rfl HO6.out HS6.out rfl (fun e=>by cases e) HX6.out.size HLa.out ?_;intro v5 w5 ho hb;have HO5:=Lib.hid ho;have HX5:=Lib.hid (HX6.out.trans hb);clear ho hb)
    go_roundw
    case rel=>exact⟨i+1,_,rfl,by omega,by go_num,by rw[HF.out];exact HO5.out,HX5.out⟩
    case measure=>simp[intOf];omega
  · obtain rfl:i=l.length:=by omega
    rw[List.take_length]at HR
    obtain⟨m,hm⟩:∃ m,m=l.map (fun r=>(⟨r,t,-1⟩:Dl)):=⟨_,rfl⟩
    have HM:=Lib.hid hm
    rw[<-hm]at HR
    have HMl:Hid (m.length<=10000000):=by show _<=_;rw[hm,List.length_map];exact hl
    clear hm
    generalize l.length=nl at *
    go_wp2_with fail
    go_loopw [6,26] (fun v jj wr'=>∃ (i:Nat) (v1:Value),v1=v/\i<=k.length/\jj=.int .i64 i/\Hid (Own Dl.cells 10 70 wr' w.heap.size v (m++(k.take i).map (fun r=>⟨r,t,1⟩)))/\Hid (Below w.heap.size w wr')) (fun _ jj _=>k.length - (intOf jj).toNat)
    case atStart=>exact⟨0,_,rfl,by omega,rfl,by simpa using HR,HB⟩
    case round =>
     obtain⟨i,v1,rfl,hi,rfl,HR,HB⟩:=hrel
     by_cases hlt:i<k.length
     · obtain⟨x,hx⟩:∃ x,k[i]?=some x:=⟨k[i],List.getElem?_eq_getElem hlt⟩
       obtain⟨b,off,rfl,hrow⟩:=ZaT (H2.out.1.kept HB.out) hx
       obtain⟨c0,c1',c2',c3,c4,c5,c6,c7⟩:=Rw.cell hrow hx
       have HX:=Lib.hid hx
       have HF:Hid (m++(k.take (i+1)).map (fun r=>(⟨r,t,1⟩:Dl))=(m++(k.take i).map (fun r=>⟨r,t,1⟩))++[⟨x,t,1⟩]):=by show _=_;rw[ZaO HX.out,List.map_append,List.append_assoc];rfl
       have HLn:Hid ((m++(k.take i).map (fun r=>(⟨r,t,1⟩:Dl))).length<=20000000):=by show _<=_;have:=HMl.out;simp;omega
       generalize m++(k.take i).map (fun r=>(⟨r,t,1⟩:Dl))=r at *
       clear hrow hx
       have HX6:Hid (Below w.heap.size w ((wr.alloc (.cells (Rw.cells x).toArray 68)).alloc (.cells (Dl.cells ⟨x,t,1⟩).toArray 70))):=(have hz:=HB.out.alloc HB.out.size (.cells (Rw.cells x).toArray 68);hz.alloc hz.size _)
       have HO6:Hid (Own Dl.cells 10 70 ((wr.alloc (.cells (Rw.cells x).toArray 68)).alloc (.cells (Dl.cells ⟨x,t,1⟩).toArray 70)) w.heap.size v1 r):=(HR.out.kept (Zab _)).kept (Zab _)
       have HS6:Hid (Zaf Dl.cells 10 ((wr.alloc (.cells (Rw.cells x).toArray 68)).alloc (.cells (Dl.cells ⟨x,t,1⟩).toArray 70)) (some ⟨(wr.alloc (.cells (Rw.cells x).toArray 68)).heap.size,0,none⟩) [(⟨x,t,1⟩:Dl)]):=ZaG _ _ encD
       rw[show(wr.alloc (.cells (Rw.cells x).toArray 68)).heap.size=wr.heap.size+1 by simp]at HS6
       have HLa:Hid (r.length+[(⟨x,t,1⟩:Dl)].length<=1000000000):=by show _<=_;have:=HLn.out;simp;omega
       go_wp2_with (at_builtin;refine Zay elD encD rfl (.tmp 30) (.tmp 34) rfl rfl rfl HO6.out HS6.out rfl (fun e=>by cases e) HX6.out.size HLa.out ?_;intro v5 w5 ho hb;have HO5:=Lib.hid ho;have HX5:=Lib.hid (HX6.out.trans hb);clear ho hb)
       go_roundw
       case rel=>exact⟨i+1,_,rfl,by omega,by go_num,by rw[HF.out];exact HO5.out,HX5.out⟩
       case measure=>simp[intOf];omega
     · obtain rfl:i=k.length:=by omega
       rw[List.take_length]at HR
       go_wp2_with fail
       go_ret
       refine⟨_,rfl,⟨by unfold betD;rw[<-HM.out];exact HR.out,fun d hd=>?_⟩,HB.out⟩
       rcases List.mem_append.1 hd with hd|hd<;>obtain⟨y,hy,rfl⟩:=List.mem_map.1 hd
       · exact⟨(H1.out.2 y hy).kept HB.out,HT.out,Zea _ (by simp)⟩
       · exact⟨(H2.out.2 y hy).kept HB.out,HT.out,Zea _ (by simp)⟩
def baseF (src:ByteArray)(seq kind ref:Int):FID:=if kind=1 then(src,seq)else(src,ref)
set_option maxHeartbeats 2000000 in
set_option maxRecDepth 100000 in
theorem base_any (src tb ky:ByteArray)(seq kind ref ev:Int)(fa:Option Addr)(n c:Nat)(w:World) :
 Calls prog 58 #[.agg #[.string src,.int .i64 seq,.int .i64 kind,.int .i64 ref,.string tb,.string ky,.int .i64 ev,.slice fa n c]] w fun e w'=>e=.returned (fidV (baseF src seq kind ref))/\Below w.heap.size w w':=by
 by_cases hk:kind=1
 · subst hk
   go_enter func58,ntmps58
   go_wp2_with fail
   refine bodyPost_ret (v:=fidV (src,seq)) (by simp[results,Tryz.results58,go_sem]) rfl ⟨rfl,?_⟩
   first|exact Zax _ _|exact(((Zax _ _).setCell (by simp) _).setCell (by simp) _)
 · have hb:baseF src seq kind ref=(src,ref):=if_neg hk
   rw[hb]
   go_enter func58,ntmps58
   go_wp2_with fail
   refine bodyPost_ret (v:=fidV (src,ref)) (by simp[results,Tryz.results58,go_sem]) rfl ⟨rfl,?_⟩
   first|exact Zax _ _|exact(((Zax _ _).setCell (by simp) _).setCell (by simp) _)
end Go.Proofs.YtfnpfkgmacaboaaGreat
namespace Go.Proofs.YtfnpfkgmacaboaaGreat
open Go.Proofs.Tryz
open Go.ChangeShapes Go.WideShapes Go.ChangeAt Go.RowKit
set_option linter.unusedVariables false
set_option linter.unusedSimpArgs false
structure En where
 no:Int
 tick:Int
 kind:Int
 src:ByteArray
 seq:Int
 fk:Int
 ref:Int
 tb:ByteArray
 ky:ByteArray
 ev:Int
 fa:Option Addr
 fc:Nat
 vs:List Val
 ek:Int
 een:ByteArray
 eky:ByteArray
 esr:ByteArray
 esq:Int
 ck:Int
 tn:ByteArray
 te:ByteArray
 oi:Fin 9->Int
 os:Fin 8->ByteArray
 ol:Fin 4->Option Addr × Nat × Nat
def En.cells (e:En):List Value:=[.int .i64 e.no,.int .i64 e.tick,.int .i64 e.kind,.string e.src,.int .i64 e.seq,.int .i64 e.fk,.int .i64 e.ref,.string e.tb,.string e.ky,.int .i64 e.ev,.slice e.fa e.vs.length e.fc,.int .i64 e.ek,.string e.een,.string e.eky,.string e.esr,.int .i64 e.esq,.int .i64 e.ck,.string e.tn,.string e.te,.slice (e.ol 0).1 (e.ol 0).2.1 (e.ol 0).2.2,.int .i64 (e.oi 0),.string (e.os 0),.string (e.os 1),.int .i64 (e.oi 1),.slice (e.ol 1).1 (e.ol 1).2.1 (e.ol 1).2.2,.string (e.os 2),.int .i64 (e.oi 2),.string (e.os 3),.string (e.os 4),.string (e.os 5),.int .i64 (e.oi 3),.int .i64 (e.oi 4),.string (e.os 6),.slice (e.ol 2).1 (e.ol 2).2.1 (e.ol 2).2.2,.int .i64 (e.oi 5),.int .i64 (e.oi 6),.int .i64 (e.oi 7),.slice (e.ol 3).1 (e.ol 3).2.1 (e.ol 3).2.2,.int .i64 (e.oi 8),.string (e.os 7)]
def En.base (e:En):FID:=baseF e.src e.seq e.fk e.ref
def En.row (e:En)(id:FID):Rw:=⟨id.1,id.2,e.tb,e.ky,e.ev,e.fa,e.fc,e.no,e.tick,e.vs⟩
structure En.Ok (w:World) (e:En):Prop where
 lies:Zaf valC 3 w e.fa e.vs
 len:e.vs.length<=1048576
 str:∀ v∈e.vs,v.2.2.size<=1048576
 val:∀ v∈e.vs,I64 v.1/\I64 v.2.1
 src:e.src.size<=1048576
 tb:e.tb.size<=1048576
 ky:e.ky.size<=1048576
 een:e.een.size<=1048576
 eky:e.eky.size<=1048576
 esr:e.esr.size<=1048576
 tn:e.tn.size<=1048576
 te:e.te.size<=1048576
 ints:I64 e.no/\I64 e.tick/\I64 e.kind/\I64 e.seq/\I64 e.fk/\I64 e.ref/\I64 e.ev/\I64 e.ek/\I64 e.esq/\I64 e.ck
theorem En.Ok.kept {w w':World}{e:En}(h:e.Ok w)(hb:Below w.heap.size w w'):e.Ok w':={ h with lies:=h.lies.kept hb }
theorem En.Ok.base {w:World}{e:En}(h:e.Ok w):OkF e.base:=by
 obtain⟨-,-,-,h4,-,h6,-⟩:=h.ints
 unfold En.base baseF
 split
 · exact⟨h.src,h4⟩
 · exact⟨h.src,h6⟩
theorem En.Ok.row {w:World}{e:En}(h:e.Ok w){id:FID}(hid:OkF id):(e.row id).Ok w:=by
 obtain⟨h1,h2,-,-,-,-,h7,-⟩:=h.ints
 exact⟨h.lies,h.len,h.str,h.val,hid.src,h.tb,h.ky,hid.seq,h7,h1,h2⟩
theorem En.cells_one (e:En):∀ v∈e.cells,v.oneCell'=true:=by
 intro v hv
 simp only[En.cells,List.mem_cons,List.not_mem_nil,or_false]at hv
 rcases hv with h|h|h|h|h|h|h|h|h|h|h|h|h|h|h|h|h|h|h|h|h|h|h|h|h|h|h|h|h|h|h|h|h|h|h|h|h|h|h|h<;>subst h<;>rfl
theorem elE:El prog 48 22 40 528:=⟨underlying22,by kernel_rfl,by decide,by decide⟩
theorem encE:Enc En.cells 40:=⟨fun _=>rfl,En.cells_one⟩
theorem En.cell {w:World}{b off:Nat}{l:List En}(h:Lies En.cells 40 w b off l){i:Nat}{e:En}(he:l[i]?=some e) :
 w.cell? ⟨b,off+i*40,none⟩=some (.int .i64 e.no)/\w.cell? ⟨b,off+i*40+1,none⟩=some (.int .i64 e.tick)/\w.cell? ⟨b,off+i*40+2,none⟩=some (.int .i64 e.kind)/\w.cell? ⟨b,off+i*40+3,none⟩=some (.string e.src)/\w.cell? ⟨b,off+i*40+4,none⟩=some (.int .i64 e.seq)/\w.cell? ⟨b,off+i*40+5,none⟩=some (.int .i64 e.fk)/\w.cell? ⟨b,off+i*40+6,none⟩=some (.int .i64 e.ref)/\w.cell? ⟨b,off+i*40+7,none⟩=some (.string e.tb)/\w.cell? ⟨b,off+i*40+8,none⟩=some (.string e.ky)/\w.cell? ⟨b,off+i*40+9,none⟩=some (.int .i64 e.ev)/\w.cell? ⟨b,off+i*40+10,none⟩=some (.slice e.fa e.vs.length e.fc)/\w.cell? ⟨b,off+i*40+11,none⟩=some (.int .i64 e.ek)/\w.cell? ⟨b,off+i*40+12,none⟩=some (.string e.een)/\w.cell? ⟨b,off+i*40+13,none⟩=some (.string e.eky)/\w.cell? ⟨b,off+i*40+14,none⟩=some (.string e.esr)/\w.cell? ⟨b,off+i*40+15,none⟩=some (.int .i64 e.esq)/\w.cell? ⟨b,off+i*40+16,none⟩=some (.int .i64 e.ck)/\w.cell? ⟨b,off+i*40+17,none⟩=some (.string e.tn)/\w.cell? ⟨b,off+i*40+18,none⟩=some (.string e.te)/\w.cell? ⟨b,off+i*40+19,none⟩=some (.slice (e.ol 0).1 (e.ol 0).2.1 (e.ol 0).2.2)/\w.cell? ⟨b,off+i*40+20,none⟩=some (.int .i64 (e.oi 0))/\w.cell? ⟨b,off+i*40+21,none⟩=some (.string (e.os 0))/\w.cell? ⟨b,off+i*40+22,none⟩=some (.string (e.os 1))/\w.cell? ⟨b,off+i*40+23,none⟩=some (.int .i64 (e.oi 1))/\w.cell? ⟨b,off+i*40+24,none⟩=some (.slice (e.ol 1).1 (e.ol 1).2.1 (e.ol 1).2.2)/\w.cell? ⟨b,off+i*40+25,none⟩=some (.string (e.os 2))/\w.cell? ⟨b,off+i*40+26,none⟩=some (.int .i64 (e.oi 2))/\w.cell? ⟨b,off+i*40+27,none⟩=some (.string (e.os 3))/\w.cell? ⟨b,off+i*40+28,none⟩=some (.string (e.os 4))/\w.cell? ⟨b,off+i*40+29,none⟩=some (.string (e.os 5))/\w.cell? ⟨b,off+i*40+30,none⟩=some (.int .i64 (e.oi 3))/\w.cell? ⟨b,off+i*40+31,none⟩=some (.int .i64 (e.oi 4))/\w.cell? ⟨b,off+i*40+32,none⟩=some (.string (e.os 6))/\w.cell? ⟨b,off+i*40+33,none⟩=some (.slice (e.ol 2).1 (e.ol 2).2.1 (e.ol 2).2.2)/\w.cell? ⟨b,off+i*40+34,none⟩=some (.int .i64 (e.oi 5))/\w.cell? ⟨b,off+i*40+35,none⟩=some (.int .i64 (e.oi 6))/\w.cell? ⟨b,off+i*40+36,none⟩=some (.int .i64 (e.oi 7))/\w.cell? ⟨b,off+i*40+37,none⟩=some (.slice (e.ol 3).1 (e.ol 3).2.1 (e.ol 3).2.2)/\w.cell? ⟨b,off+i*40+38,none⟩=some (.int .i64 (e.oi 8))/\w.cell? ⟨b,off+i*40+39,none⟩=some (.string (e.os 7)) :=
 ⟨h i e he 0 _ rfl,h i e he 1 _ rfl,h i e he 2 _ rfl,h i e he 3 _ rfl,h i e he 4 _ rfl,h i e he 5 _ rfl,h i e he 6 _ rfl,h i e he 7 _ rfl,h i e he 8 _ rfl,h i e he 9 _ rfl,h i e he 10 _ rfl,h i e he 11 _ rfl,h i e he 12 _ rfl,h i e he 13 _ rfl,h i e he 14 _ rfl,h i e he 15 _ rfl,h i e he 16 _ rfl,h i e he 17 _ rfl,h i e he 18 _ rfl,h i e he 19 _ rfl,h i e he 20 _ rfl,h i e he 21 _ rfl,h i e he 22 _ rfl,h i e he 23 _ rfl,h i e he 24 _ rfl,h i e he 25 _ rfl,h i e he 26 _ rfl,h i e he 27 _ rfl,h i e he 28 _ rfl,h i e he 29 _ rfl,h i e he 30 _ rfl,h i e he 31 _ rfl,h i e he 32 _ rfl,h i e he 33 _ rfl,h i e he 34 _ rfl,h i e he 35 _ rfl,h i e he 36 _ rfl,h i e he 37 _ rfl,h i e he 38 _ rfl,h i e he 39 _ rfl⟩
theorem Box.entry {w:World}{g:Nat}{e:En}{t:TypeId}(h:Box w g e.cells.toArray t) :
 w.cell? ⟨g,0,none⟩=some (.int .i64 e.no)/\w.cell? ⟨g,1,none⟩=some (.int .i64 e.tick)/\w.cell? ⟨g,2,none⟩=some (.int .i64 e.kind)/\w.cell? ⟨g,3,none⟩=some (.string e.src)/\w.cell? ⟨g,4,none⟩=some (.int .i64 e.seq)/\w.cell? ⟨g,5,none⟩=some (.int .i64 e.fk)/\w.cell? ⟨g,6,none⟩=some (.int .i64 e.ref)/\w.cell? ⟨g,7,none⟩=some (.string e.tb)/\w.cell? ⟨g,8,none⟩=some (.string e.ky)/\w.cell? ⟨g,9,none⟩=some (.int .i64 e.ev)/\w.cell? ⟨g,10,none⟩=some (.slice e.fa e.vs.length e.fc)/\w.cell? ⟨g,11,none⟩=some (.int .i64 e.ek)/\w.cell? ⟨g,12,none⟩=some (.string e.een)/\w.cell? ⟨g,13,none⟩=some (.string e.eky)/\w.cell? ⟨g,14,none⟩=some (.string e.esr)/\w.cell? ⟨g,15,none⟩=some (.int .i64 e.esq)/\w.cell? ⟨g,16,none⟩=some (.int .i64 e.ck)/\w.cell? ⟨g,17,none⟩=some (.string e.tn)/\w.cell? ⟨g,18,none⟩=some (.string e.te)/\w.cell? ⟨g,19,none⟩=some (.slice (e.ol 0).1 (e.ol 0).2.1 (e.ol 0).2.2)/\w.cell? ⟨g,20,none⟩=some (.int .i64 (e.oi 0))/\w.cell? ⟨g,21,none⟩=some (.string (e.os 0))/\w.cell? ⟨g,22,none⟩=some (.string (e.os 1))/\w.cell? ⟨g,23,none⟩=some (.int .i64 (e.oi 1))/\w.cell? ⟨g,24,none⟩=some (.slice (e.ol 1).1 (e.ol 1).2.1 (e.ol 1).2.2)/\w.cell? ⟨g,25,none⟩=some (.string (e.os 2))/\w.cell? ⟨g,26,none⟩=some (.int .i64 (e.oi 2))/\w.cell? ⟨g,27,none⟩=some (.string (e.os 3))/\w.cell? ⟨g,28,none⟩=some (.string (e.os 4))/\w.cell? ⟨g,29,none⟩=some (.string (e.os 5))/\w.cell? ⟨g,30,none⟩=some (.int .i64 (e.oi 3))/\w.cell? ⟨g,31,none⟩=some (.int .i64 (e.oi 4))/\w.cell? ⟨g,32,none⟩=some (.string (e.os 6))/\w.cell? ⟨g,33,none⟩=some (.slice (e.ol 2).1 (e.ol 2).2.1 (e.ol 2).2.2)/\w.cell? ⟨g,34,none⟩=some (.int .i64 (e.oi 5))/\w.cell? ⟨g,35,none⟩=some (.int .i64 (e.oi 6))/\w.cell? ⟨g,36,none⟩=some (.int .i64 (e.oi 7))/\w.cell? ⟨g,37,none⟩=some (.slice (e.ol 3).1 (e.ol 3).2.1 (e.ol 3).2.2)/\w.cell? ⟨g,38,none⟩=some (.int .i64 (e.oi 8))/\w.cell? ⟨g,39,none⟩=some (.string (e.os 7)) :=
 ⟨h.cell 0 _ rfl,h.cell 1 _ rfl,h.cell 2 _ rfl,h.cell 3 _ rfl,h.cell 4 _ rfl,h.cell 5 _ rfl,h.cell 6 _ rfl,h.cell 7 _ rfl,h.cell 8 _ rfl,h.cell 9 _ rfl,h.cell 10 _ rfl,h.cell 11 _ rfl,h.cell 12 _ rfl,h.cell 13 _ rfl,h.cell 14 _ rfl,h.cell 15 _ rfl,h.cell 16 _ rfl,h.cell 17 _ rfl,h.cell 18 _ rfl,h.cell 19 _ rfl,h.cell 20 _ rfl,h.cell 21 _ rfl,h.cell 22 _ rfl,h.cell 23 _ rfl,h.cell 24 _ rfl,h.cell 25 _ rfl,h.cell 26 _ rfl,h.cell 27 _ rfl,h.cell 28 _ rfl,h.cell 29 _ rfl,h.cell 30 _ rfl,h.cell 31 _ rfl,h.cell 32 _ rfl,h.cell 33 _ rfl,h.cell 34 _ rfl,h.cell 35 _ rfl,h.cell 36 _ rfl,h.cell 37 _ rfl,h.cell 38 _ rfl,h.cell 39 _ rfl⟩
def EnsAt (w:World)(ao:Option Addr)(l:List En):Prop:=Zaf En.cells 40 w ao l/\∀ e∈l,e.Ok w
theorem EnsAt.kept {w w':World}{ao:Option Addr}{l:List En}(h:EnsAt w ao l)(hb:Below w.heap.size w w'):EnsAt w' ao l:=⟨h.1.kept hb,fun r hr=>(h.2 r hr).kept hb⟩
end Go.Proofs.YtfnpfkgmacaboaaGreat
namespace Go.Proofs.YtfnpfkgmacaboaaGreat
open Go.Proofs.Tryz
open Go.ChangeShapes Go.WideShapes Go.ChangeAt Go.RowKit
set_option linter.unusedVariables false
def Yields {α:Type}(n:Nat)(P:Program)(gf:Nat)(lb:Array Value)(encs:α->Array Value)(K:Nat->Prop)(bl:Nat)(xs:List α)(w:World):Prop :=
 ∀ (l:Nat) (J:List α->World->Prop) (W:World),(∀ k,K k->W.heap[k]?=w.heap[k]?)->(∀ pre A B,J pre A->A.grownBy B (some bl)->J pre B) ->
  (∀ pre x rest W1,xs=pre++x :: rest->J pre W1->YieldAt Fence.wide (n - 1) P l (encs x) W1 fun e W'=>e=.returned (.bool true)/\J (pre++[x]) W'/\∀ k,K k->W'.heap[k]?=W1.heap[k]?) ->
  J [] W->CallsIn Fence.wide n P gf (#[.func (.yield l) #[] #[]]++lb) W fun e W'=>(∃ v,e=.returned v)/\J xs W'
def Zez (K:Nat->Prop)(S:Nat)(W W':World):Prop:=(∀ k,K k->W'.heap[k]?=W.heap[k]?)/\∀ k o,S<=k->W.heap[k]?=some o->o.isCells=false->W'.heap[k]?=some o
def Minds (bl S:Nat)(I:World->Prop):Prop:=∀ A B r,I A->A.grownBy B (some r)->(r=bl∨(S<=r/\∃ o,A.heap[r]?=some o/\o.isCells=false))->I B
theorem Minds.alloc {bl S:Nat}{I:World->Prop}(h:Minds bl S I)(W:World)(o:Obj)(hi:I W):I (W.alloc o):=h W _ bl hi (World.grownBy_alloc W o _) (Or.inl rfl)
theorem Minds.putObj {bl S:Nat}{I:World->Prop}(h:Minds bl S I)(W:World)(r:Nat)(o o':Obj)(hi:I W)(hS:S<=r)(ho:W.heap[r]?=some o)(hc:o.isCells=false):I (W.putObj r o'):=h W _ r hi (grownBy_putObj' W r o') (Or.inr ⟨hS,o,ho,hc⟩)
theorem wp_range {α:Type}{n:Nat}{P:Program}{g:Operand}{ps:Array Tmp}{assign body:Code}{Q:Exit->Act->World->Prop}{a:Act}{w:World}
 {gf:Nat} {lb:Array Value} (hg:a.eval g=.func (.func gf) #[] lb) (eg:∀ args w,(callFunc gf args).run P w=.ok (.enter gf args) w)
 {encs:α->Array Value} (hps:∀ x,(encs x).size=ps.size) {xs:List α} {bl:Nat} (hbl:bl<w.heap.size) {K:Nat->Prop} (hK:∀ k,K k->k<w.heap.size)
 (hseq:Yields (n - 1) P gf lb encs K bl xs w)
 (I:List α->World->Prop) (hI:∀ pre,Minds bl w.heap.size (I pre)) (h0:I [] w) (Ax:α->Act->World->Prop) (hAx:∀ x a',Minds bl w.heap.size (Ax x a'))
 (hassign:∀ (l:Nat) (pre:List α) (x:α) (W:World) (C:Act->World->Prop),w.heap.size<=W.heap.size->I pre W->(∀ a' W',I pre W'->Zez K w.heap.size W W'->Ax x a' W'->C a' W') ->
  assign.wpIn (Fence.wide.inRound l) (n - 1 - 1) P (Exit.then C (fun _ _ _=>False)) { tmps:=(ps.zip (encs x)).foldl (fun t (p,v)=>t.setIfInBounds p v) a.tmps,defers:=[] } W)
 (hbody:∀ (l:Nat) (pre:List α) (x:α) (rest:List α) (a':Act) (W:World),xs=pre++x :: rest->w.heap.size<=W.heap.size->I pre W->Ax x a' W ->
  body.wpIn (Fence.wide.inRound l) (n - 1 - 1) P (fun e _ W'=>e=.normal/\I (pre++[x]) W'/\Zez K w.heap.size W W') a' W)
 (hdone:∀ (D:Nat) (W:World),w.heap.size<=D->I xs W->W.heap[D]?=some (.deferred (some []))->Q .normal { a with defers:={ target:=.collected D,args:=#[] } :: a.defers } W) :
 (Code.rangeFunc g ps assign body).wpIn Fence.wide n P Q a w:=by
 refine wpIn_rangeFunc ?_
 intro fn hfn
 obtain⟨rec,hrec⟩:∃ rec:LoopState->Option Code->Loop,rec=fun st pe=>{ state:=st,pending:=pe,fn,tmps:=a.tmps,params:=ps,assign,body,defers:=w.heap.size }:=⟨_,rfl⟩
 obtain⟨W1,hW1⟩:∃ W1,(w.alloc (.deferred (some []))).alloc (.loop (rec .ready none))=W1:=⟨_,rfl⟩
 have hL1:W1.heap[w.heap.size+1]?=some (.loop (rec .ready none)):=by
  rw[<-hW1];have:=World.alloc_heap_new (w.alloc (.deferred (some []))) (.loop (rec .ready none));rwa [World.size_alloc]at this
 have hK1:W1.heap[w.heap.size]?=some (.deferred (some [])):=by
  rw[<-hW1];exact(Below.heap_alloc _ _ _ (by simp)).trans (World.alloc_heap_new w _)
 have hI1:I [] W1:=by rw[<-hW1];exact(hI _).alloc _ _ ((hI _).alloc _ _ h0)
 have hb1:Below w.heap.size w W1:=by
  rw[<-hW1];exact((Below.refl _ w).alloc (Nat.le_refl _) _).alloc (by simp) _
 refine⟨w.heap.size+1,[{ target:=.collected w.heap.size,args:=#[] }],W1,{ target:=.fn (.func gf) lb,args:=#[.func (.yield (w.heap.size+1)) #[] #[]] },W1,gf,
  #[.func (.yield (w.heap.size+1)) #[] #[]]++lb,W1,?_,?_,fun _ _=>trivial,?_,fun h=>?_,?_⟩
 · rw[<-hW1,hrec];exact run_enterLoop_outer _ _ _ _ _
 · simp only[resolve,hg]
   simp[go_sem]
 · simp[invoke,go_sem,eg]
 · cases h
 · have far:∀ {A B:World} {k:Nat} {o:Obj},A.grownBy B (some bl)->w.heap.size<=k->A.heap[k]?=some o->B.heap[k]?=some o:=fun hgr hk ho =>
     (hgr.block _ (Array.getElem?_eq_some_iff.1 ho).1 (fun e=>by injection e with e;omega)).trans ho
   refine(hseq (w.heap.size+1)
    (fun pre W=>I pre W/\W.heap[w.heap.size+1]?=some (.loop (rec .ready none))/\W.heap[w.heap.size]?=some (.deferred (some [])))
    W1 (fun k hk=>hb1.block k (hK k hk))
    (fun pre A B hj hgr=>⟨hI pre A B bl hj.1 hgr (Or.inl rfl),far hgr (by omega) hj.2.1,far hgr (Nat.le_refl _) hj.2.2⟩)
    ?_ ⟨hI1,hL1,hK1⟩).mono ?_
   · rintro pre x rest W hxs ⟨hi,hl,hk⟩
     have hlt:w.heap.size+1<W.heap.size:=(Array.getElem?_eq_some_iff.1 hl).1
     have hy:=run_yield (P:=P) (args:=encs x) hl (by rw[hrec];exact hps x)
     rw[hrec]at hy
     refine⟨fn,_,assign,body,hy,roundIn_of_wpIn hfn (hassign _ pre x W _ (by omega) hi ?_)⟩
     clear hy
     intro a' Wa hia hka hax
     have hla:=hka.2 _ _ (by omega) hl rfl
     have hda:=hka.2 _ _ (Nat.le_refl _) hk rfl
     have hlta:w.heap.size+1<Wa.heap.size:=(Array.getElem?_eq_some_iff.1 hla).1
     refine⟨_,run_beginRound hla (by rw[hrec]),?_⟩
     have hl2:(Wa.putObj (w.heap.size+1) (.loop { rec .ready none with state:=.busy })).heap[w.heap.size+1]?=some (.loop { rec .ready none with state:=.busy }):=World.putObj_heap_same hlta
     have hk2:(Wa.putObj (w.heap.size+1) (.loop { rec .ready none with state:=.busy })).heap[w.heap.size]?=some (.deferred (some [])):=(World.putObj_heap_other (by omega)).trans hda
     refine wpIn_mono (hbody _ pre x rest a' _ hxs (by rw[World.putObj_size];omega) ((hI pre).putObj _ _ _ _ hia (by omega) hla rfl) ((hAx x a').putObj _ _ _ _ hax (by omega) hla rfl)) ?_
     rintro e a3 W3 ⟨rfl,hi3,hk3⟩
     have hl3:=hk3.2 _ _ (by omega) hl2 rfl
     have hd3:=hk3.2 _ _ (Nat.le_refl _) hk2 rfl
     have hr:=run_endRound (P:=P) none hl3
     rw[hrec]at hr
     refine⟨_,_,hr,rfl,⟨(hI _).putObj _ _ _ _ hi3 (by omega) hl3 rfl,?_,(World.putObj_heap_other (by omega)).trans hd3⟩,?_⟩
     · rw[World.putObj_heap_same (Array.getElem?_eq_some_iff.1 hl3).1,hrec];rfl
     · intro k hkk
       have hne:k≠w.heap.size+1:=by have:=hK k hkk;omega
       rw[World.putObj_heap_other hne,hk3.1 k hkk,World.putObj_heap_other hne,hka.1 k hkk]
   · rintro e W2 ⟨⟨v,rfl⟩,hi,hl,hk⟩
     exact⟨none,_,by have:=run_endLoop (P:=P) hl (by rw[hrec];simp);rw[hrec]at this;exact this,hdone _ _ (Nat.le_refl _) ((hI _).putObj _ _ _ _ hi (by omega) hl rfl) ((World.putObj_heap_other (by omega)).trans hk)⟩
end Go.Proofs.YtfnpfkgmacaboaaGreat
namespace Go.Proofs.YtfnpfkgmacaboaaGreat
open Go.Proofs.Tryz
open Go.ChangeShapes Go.WideShapes Go.ChangeAt Go.RowKit
set_option linter.unusedVariables false
set_option linter.unusedSimpArgs false
theorem ZaM {P:Program}(w:World)(b off:Nat)(ty:TypeId)(L:List Value)(d:TypeDesc)(hc:∀ j v,L[j]?=some v->w.cell? ⟨b,off+j,none⟩=some v)
 (hu:P.underlying ty=some d) (hd:(match d with|.struct _|.array _ _=>true|_=>false)=true) (hi:(P.info? ty).map (·.size)=some L.length) :
 (loadVar ty ⟨b,off,none⟩).run P w=.ok (.agg L.toArray) w:=by
 have hl:(loadCells ⟨b,off,none⟩ L.length).run P w=.ok L.toArray w :=
  run_loadCells_list (P:=P) w ⟨b,off,none⟩ L (fun j v hv=>by
   have hadd:(⟨b,off,none⟩:Addr).add j=⟨b,off+j,none⟩:=by unfold Addr.add;split<;>simp_all
   rw[hadd];exact hc j v hv)
 cases hq:P.info? ty with
 |none=>simp[hq]at hi
 |some i =>
  have hs:i.size=L.length:=by simpa [hq]using hi
  have hagg:(isAgg ty).run P w=.ok true w:=by
   unfold isAgg
   rw[Sem.run_bind,run_underlying hu w]
   cases d<;>simp_all
  simp[loadVar,Sem.run_bind,hagg,sizeOf,typeInfo,hq,hs,hl]
section
variable {F:Fence} {n:Nat} {P:Program} {ops:Array Oper} {rest:List Oper} {o o1 o2:Oper} {a:Act} {w:World} {Q:Exit->Act->World->Prop}
theorem Zat (hgd:o.guard=none)(ty:TypeId)(x:Operand)(ho:o.op=.load ty x)(b off:Nat)(L:List Value)(hx:a.eval x=.pointer (some ⟨b,off,none⟩))(hc:∀ j v,L[j]?=some v->w.cell? ⟨b,off+j,none⟩=some v)
 (d:TypeDesc) (hu:P.underlying ty=some d) (hd:(match d with|.struct _|.array _ _=>true|_=>false)=true) (hi:(P.info? ty).map (·.size)=some L.length)
 (h:wpList P ops Q rest (a.put o.dst (.agg L.toArray)) w):wpList P ops Q (o :: rest) a w:=by
 refine wpList_plain hgd fun K hK=>?_
 unfold Oper.wp execOp
 simp only[ho,hx,Instr.loadAt,Instr.sureAddr,Sem.run_bind,Sem.run_pure,Result.andThen_ok,ZaM w b off ty L d hc hu hd hi]
 exact hK _ _ h
theorem Zbq (hgd:o.guard=none)(ty:TypeId)(x:Operand)(ho:o.op=.load ty x)(b off:Nat)(L:List Value)(hx:a.eval x=.pointer (some ⟨b,off,none⟩))(hc:∀ j v,L[j]?=some v->w.cell? ⟨b,off+j,none⟩=some v)
 (d:TypeDesc) (hu:P.underlying ty=some d) (hd:(match d with|.struct _|.array _ _=>true|_=>false)=true) (hi:(P.info? ty).map (·.size)=some L.length)
 (h:wpListIn F n P ops Q rest (a.put o.dst (.agg L.toArray)) w):wpListIn F n P ops Q (o :: rest) a w:=by
 refine wpListIn_plain hgd fun K hK=>?_
 unfold Oper.wpIn
 refine⟨by simp[Oper.about,ho],?_⟩
 rw[Oper.semAt_plain F _ _ (by rw[ho];intro c hc';cases hc')]
 unfold execOp
 simp only[ho,hx,Instr.loadAt,Instr.sureAddr,Sem.run_bind,Sem.run_pure,Result.andThen_ok,ZaM w b off ty L d hc hu hd hi]
 exact hK _ _ h
theorem wpListIn_loadG (hw:Region.wanted o (yielded ops a.tmps)=true)(ty:TypeId)(x:Operand)(ho:o.op=.load ty x)(b off:Nat)(L:List Value)(hx:a.eval x=.pointer (some ⟨b,off,none⟩))(hc:∀ j v,L[j]?=some v->w.cell? ⟨b,off+j,none⟩=some v)
 (d:TypeDesc) (hu:P.underlying ty=some d) (hd:(match d with|.struct _|.array _ _=>true|_=>false)=true) (hi:(P.info? ty).map (·.size)=some L.length)
 (h:wpListIn F n P ops Q rest (a.put o.dst (.agg L.toArray)) w):wpListIn F n P ops Q (o :: rest) a w:=by
 refine wpListIn_step fun K hK=>?_
 rw[if_pos hw]
 unfold Oper.wpIn
 refine⟨by simp[Oper.about,ho],?_⟩
 rw[Oper.semAt_plain F _ _ (by rw[ho];intro c hc';cases hc')]
 unfold execOp
 simp only[ho,hx,Instr.loadAt,Instr.sureAddr,Sem.run_bind,Sem.run_pure,Result.andThen_ok,ZaM w b off ty L d hc hu hd hi]
 exact hK _ _ h
theorem Zch (w:World)(old new:Array Value)(t:TypeId):(w.alloc (.cells old t)).setRow w.heap.size new=w.alloc (.cells new t):=by
 have e:(w.heap.push (.cells old t)).modify w.heap.size (fun|.cells _ elem frozen=>.cells new elem frozen|o=>o)=w.heap.push (.cells new t):=by
  apply Array.ext_getElem?
  intro i
  rw[Array.getElem?_modify,Array.getElem?_push,Array.getElem?_push]
  by_cases h:w.heap.size=i
  · subst h;simp
  · rw[if_neg h,if_neg (fun e=>h e.symm),if_neg (fun e=>h e.symm)]
 show({ w.alloc (.cells old t)with heap:=(w.heap.push (.cells old t)).modify w.heap.size (fun|.cells _ elem frozen=>.cells new elem frozen|o=>o) }:World)=_
 rw[e]
 rfl
theorem Zbn (ty:TypeId)(h1:o1.op=.alloc ty)(ρ:Operand->Value)(i:TypeInfo)(z:Value)(hi:P.info? ty=some i)(hz:i.zero=some z) :
 (execOp ρ o1).run P w=.ok (.value (.pointer (some ⟨w.heap.size,0,none⟩))) (w.alloc (.cells z.cells ty)):=by
 have hzv:(zeroValue ty).run P w=.ok z w:=by simp[zeroValue,typeInfo,Sem.run_bind,hi,hz]
 unfold execOp
 simp[h1,hzv,go_sem]
theorem ZbQ (ty:TypeId)(x y:Operand)(h2:o2.op=.store ty x y)(ρ:Operand->Value)(g:Nat)(cells old:Array Value)(t:TypeId)(hx:ρ x=.pointer (some ⟨g,0,none⟩))(hy:ρ y=.agg cells)
 (hg:w.heap[g]?=some (.cells old t (0,0))) (hi:(P.info? ty).map (·.size)=some cells.size) (hold:old.size=cells.size) (h1:cells.all (·.oneCell')=true) :
 (execOp ρ o2).run P w=.ok .skip (w.setRow g cells):=by
 unfold execOp
 simp only[h2,hx,hy,Instr.storeAt,Instr.sureAddr,Sem.run_bind,Sem.run_pure,Result.andThen_ok,run_storeVar_row w g t ty old cells hg hi hold h1]
theorem Zbh (hg1:o1.guard=none)(hg2:o2.guard=none)(ty:TypeId)(x y:Operand)(h1:o1.op=.alloc ty)(h2:o2.op=.store ty x y)(hd:o2.dst=none)(L:List Value)
 (hx:(a.put o1.dst (.pointer (some ⟨w.heap.size,0,none⟩))).eval x=.pointer (some ⟨w.heap.size,0,none⟩)) (hy:(a.put o1.dst (.pointer (some ⟨w.heap.size,0,none⟩))).eval y=.agg L.toArray)
 (hi:(P.info? ty).map (fun i=>(i.zero.map (fun z=>z.cells.size),i.size))=some (some L.length,L.length)) (hone:∀ v∈L,v.oneCell'=true)
 (h:wpList P ops Q rest (a.put o1.dst (.pointer (some ⟨w.heap.size,0,none⟩))) (w.alloc (.cells L.toArray ty))):wpList P ops Q (o1 :: o2 :: rest) a w:=by
 obtain⟨i,hq,z,hz,hs,hzs⟩:∃ i,P.info? ty=some i/\∃ z,i.zero=some z/\i.size=L.length/\z.cells.size=L.length:=by
  cases hq:P.info? ty with
  |none=>rw[hq]at hi;simp at hi
  |some i =>
   rw[hq]at hi
   simp at hi
   obtain⟨⟨z,h3,h4⟩,h5⟩:=hi
   exact⟨i,rfl,z,h3,h5,h4⟩
 refine wpList_plain hg1 fun K hK=>?_
 unfold Oper.wp
 rw[Zbn ty h1 _ i z hq hz]
 refine hK _ _ (wpList_plain hg2 fun K' hK'=>?_)
 unfold Oper.wp
 rw[ZbQ ty x y h2 _ w.heap.size L.toArray z.cells ty hx hy (heap_alloc_new w _) (by simp[hq,hs]) (by simpa using hzs) (by simpa using hone),Zch]
 refine hK' _ _ ?_
 rw[hd]
 exact h
theorem Zcf (hg1:o1.guard=none)(hg2:o2.guard=none)(ty:TypeId)(x y:Operand)(h1:o1.op=.alloc ty)(h2:o2.op=.store ty x y)(hd:o2.dst=none)(L:List Value)
 (hx:(a.put o1.dst (.pointer (some ⟨w.heap.size,0,none⟩))).eval x=.pointer (some ⟨w.heap.size,0,none⟩)) (hy:(a.put o1.dst (.pointer (some ⟨w.heap.size,0,none⟩))).eval y=.agg L.toArray)
 (hi:(P.info? ty).map (fun i=>(i.zero.map (fun z=>z.cells.size),i.size))=some (some L.length,L.length)) (hone:∀ v∈L,v.oneCell'=true)
 (h:wpListIn F n P ops Q rest (a.put o1.dst (.pointer (some ⟨w.heap.size,0,none⟩))) (w.alloc (.cells L.toArray ty))):wpListIn F n P ops Q (o1 :: o2 :: rest) a w:=by
 obtain⟨i,hq,z,hz,hs,hzs⟩:∃ i,P.info? ty=some i/\∃ z,i.zero=some z/\i.size=L.length/\z.cells.size=L.length:=by
  cases hq:P.info? ty with
  |none=>rw[hq]at hi;simp at hi
  |some i =>
   rw[hq]at hi
   simp at hi
   obtain⟨⟨z,h3,h4⟩,h5⟩:=hi
   exact⟨i,rfl,z,h3,h5,h4⟩
 refine wpListIn_plain hg1 fun K hK=>?_
 unfold Oper.wpIn
 refine⟨by simp[Oper.about,h1],?_⟩
 rw[Oper.semAt_plain F _ _ (by rw[h1];intro c hc';cases hc'),Zbn ty h1 _ i z hq hz]
 refine hK _ _ (wpListIn_plain hg2 fun K' hK'=>?_)
 unfold Oper.wpIn
 refine⟨by simp[Oper.about,h2],?_⟩
 rw[Oper.semAt_plain F _ _ (by rw[h2];intro c hc';cases hc'),ZbQ ty x y h2 _ w.heap.size L.toArray z.cells ty hx hy (heap_alloc_new w _) (by simp[hq,hs]) (by simpa using hzs) (by simpa using hone),Zch]
 refine hK' _ _ ?_
 rw[hd]
 exact h
end
end Go.Proofs.YtfnpfkgmacaboaaGreat
namespace Go.Proofs.YtfnpfkgmacaboaaGreat
open Go.Proofs.Tryz
open Go.ChangeShapes Go.WideShapes Go.ChangeAt Go.RowKit
set_option linter.unusedVariables false
set_option linter.unusedSimpArgs false
abbrev En.val (e:En):Value:=.agg e.cells.toArray
def untl (l:List En)(t:Int):List En:=l.filter (fun e=>decide (e.tick<=t))
theorem Ze4 (l:List En)(t:Int)(x:En):untl (l++[x]) t=untl l t++(if x.tick<=t then [x]else []):=by
 unfold untl
 rw[List.filter_append]
 by_cases h:x.tick<=t<;>simp[h]
theorem Lies.same {α:Type}{enc:α->List Value}{k:Nat}{w w':World}{b off:Nat}{l:List α}(h:Lies enc k w b off l)(hb:w'.heap[b]?=w.heap[b]?):Lies enc k w' b off l:=fun i x hx j v hv=>by
 have:=h i x hx j v hv
 simp only[World.cell?,hb]at this ⊢
 exact this
theorem Zeu {w:World}{g:Nat}{o:Obj}(h:w.heap[g]?=some o):g<w.heap.size:=(Array.getElem?_eq_some_iff.1 h).1
theorem ZfB {w:World}{a:Addr}{v:Value}(h:w.cell? a=some v):a.block<w.heap.size:=by
 unfold World.cell? at h
 cases e:w.heap[a.block]? with
 |none=>rw[e]at h;cases h
 |some o=>exact Zeu e
def UntilAt (w0 w:World)(v:Value)(ao:Option Addr)(n c:Nat)(t:Int):Prop:=∃ bl bt,v=.func (.func 103) #[] #[.pointer (some ⟨bl,0,none⟩),.pointer (some ⟨bt,0,none⟩)]/\Boxed w bl 22 (.slice ao n c)/\Boxed w bt 3 (.int .i64 t)/\w0.heap.size<=bl/\w0.heap.size<=bt/\Below w0.heap.size w0 w
set_option maxRecDepth 100000 in
theorem until_any (n c:Nat)(ao:Option Addr)(t:Int)(w:World):Calls prog 77 #[.slice ao n c,.int .i64 t] w fun e w'=>∃ v,e=.returned v/\UntilAt w w' v ao n c t:=by
 go_enter func77,ntmps77
 go_wp2_with fail
 go_ret
 exact⟨_,rfl,w.heap.size,w.heap.size+1,rfl,(Boxed.new w 22 _).alloc _,by have:=Boxed.new (w.alloc (.cells #[.slice ao n c] 22)) 3 (.int .i64 t);simpa using this,Nat.le_refl _,by omega,Zax _ _⟩
set_option maxRecDepth 100000 in
set_option maxHeartbeats 8000000 in
theorem until_yields (n:Nat)(hn:1<=n)(bl bt:Nat)(t:Int)(l:List En)(ao:Option Addr)(c:Nat)(hl:l.length<=1000000000)(w:World)(hbl:Boxed w bl 22 (.slice ao l.length c))(hbt:Boxed w bt 3 (.int .i64 t))(h:Zaf En.cells 40 w ao l)
 (K:Nat->Prop) (hK1:K bl) (hK2:K bt) (hK3:∀ b off,ao=some ⟨b,off,none⟩->b<w.heap.size->K b) (hK4:∀ k,K k->k<w.heap.size) :
 Yields n prog 103 #[.pointer (some ⟨bl,0,none⟩),.pointer (some ⟨bt,0,none⟩)] (fun e:En=>#[e.val]) K bl (untl l t) w:=by
 intro lp J W hW hJ hY h0
 have H:=Lib.hid h
 have HL:=Lib.hid hbl
 have HT:=Lib.hid hbt
 have HW:=Lib.hid hW
 have HJ:=Lib.hid hJ
 have HY:=Lib.hid hY
 have HK3:=Lib.hid hK3
 have HK4:=Lib.hid hK4
 have HK1:=Lib.hid hK1
 have HK2:=Lib.hid hK2
 clear h hbl hbt hW hJ hY hK3 hK4 hK1 hK2
 have l0:W.cell? ⟨bl,0,none⟩=some (.slice ao l.length c):=Boxed.cell ((HW.out bl HK1.out).trans HL.out)
 refine callsIn_of_wp func103 rfl trivial ?_ rfl
 simp only[ntmps103,List.size_toArray,List.length_cons,List.length_nil,Nat.reduceAdd,Nat.reduceSub,Array.replicate_succ,Array.replicate_zero,List.push_toArray,List.append_toArray,List.nil_append,List.cons_append]
 gi_wp2
 clear l0
 gi_loopw [8] (fun v wr=>∃ i:Nat,i<=l.length/\v=.int .i64 i/\Hid (∀ k,K k->wr.heap[k]?=w.heap[k]?)/\Hid (J (untl (l.take i) t) wr)) (fun v _=>l.length - (intOf v).toNat)
 case atStart=>exact⟨0,by omega,rfl,HW,h0⟩
 case round =>
  obtain⟨i,hi,rfl,HS,HJr⟩:=hrel
  by_cases hlt:i<l.length
  · obtain⟨x,hx⟩:∃ x,l[i]?=some x:=⟨l[i],List.getElem?_eq_getElem hlt⟩
    obtain⟨b,off,rfl,hrow⟩:=ZaT H.out hx
    have hrow2:=hrow.same (HS.out b (HK3.out b off rfl (ZfB (hrow i x hx 0 _ rfl))))
    have HC:Hid (∀ j v,x.cells[j]?=some v->wr.cell? ⟨b,off+i*40+j,none⟩=some v):=fun j v hv=>hrow2 i x hx j v hv
    have t0:wr.cell? ⟨bt,0,none⟩=some (.int .i64 t):=Boxed.cell ((HS.out bt HK2.out).trans HT.out)
    have HX:=Lib.hid hx
    have HF:Hid (untl (l.take (i+1)) t=untl (l.take i) t++(if x.tick<=t then [x]else [])):=by show _=_;rw[ZaO HX.out,Ze4]
    have HA:Hid (untl l t=untl (l.take (i+1)) t++untl (l.drop (i+1)) t):=by show _=_;unfold untl;rw[<-List.filter_append,List.take_append_drop]
    have htl:bt<wr.heap.size:=Zeu ((HS.out bt HK2.out).trans HT.out)
    have HG:Hid (Box (wr.alloc (.cells x.cells.toArray 48)) wr.heap.size x.cells.toArray 48):=Box.new _ _ _
    have k1:=HG.out.cell 1 (.int .i64 x.tick) rfl
    have HC2:Hid (∀ j v,x.cells[j]?=some v->(wr.alloc (.cells x.cells.toArray 48)).cell? ⟨wr.heap.size,0+j,none⟩=some v):=fun j v hv=>by rw[Nat.zero_add];exact HG.out.cell j v (by simpa using hv)
    have HSX:Hid (∀ k,K k->(wr.alloc (.cells x.cells.toArray 48)).heap[k]?=w.heap[k]?):=fun k hk=>(Below.heap_alloc _ _ _ (by have h1:=HS.out k hk;have h2:=HK4.out k hk;rw[Array.getElem?_eq_getElem h2]at h1;exact Zeu h1)).trans (HS.out k hk)
    have HJX:Hid (J (untl (l.take i) t) (wr.alloc (.cells x.cells.toArray 48))):=HJ.out _ _ _ HJr.out (World.grownBy_alloc wr _ _)
    clear hrow hrow2 hx
    by_cases ht:x.tick<=t
    · rw[if_pos ht]at HF
      have hd:decide (x.tick<=t)=true:=decide_eq_true ht
      obtain⟨fn,tmps,assign,body,hy,hR⟩:=HY.out (untl (l.take i) t) x (untl (l.drop (i+1)) t) _ (by rw[HA.out,HF.out];simp) HJX.out
      dsimp only[En.val]at hy
      gi_wp2_with (first|(refine Zbq rfl 48 (.tmp 10) rfl b (off+i*40) x.cells rfl HC.out _ underlying48 rfl (by kernel_rfl) ?_)|(refine Zcf rfl rfl 48 (.tmp 5) (.tmp 11) rfl rfl rfl x.cells rfl rfl (by kernel_rfl) x.cells_one ?_)|(refine wpListIn_loadG (by rfl) 48 (.tmp 5) rfl wr.heap.size 0 x.cells rfl HC2.out _ underlying48 rfl (by kernel_rfl) ?_)|(refine hR.mono ?_;rintro e W3 ⟨rfl,hJ3,hk3⟩;have J3:=Lib.hid hJ3;have K3:=Lib.hid hk3;clear hJ3 hk3))
      go_roundw
      case rel=>exact⟨i+1,by omega,by go_num,fun k hk=>(K3.out k hk).trans (HSX.out k hk),by rw[HF.out];exact J3⟩
      case measure=>simp[intOf];omega
    · rw[if_neg ht,List.append_nil]at HF
      have hd:decide (x.tick<=t)=false:=decide_eq_false ht
      gi_wp2_with (first|(refine Zbq rfl 48 (.tmp 10) rfl b (off+i*40) x.cells rfl HC.out _ underlying48 rfl (by kernel_rfl) ?_)|(refine Zcf rfl rfl 48 (.tmp 5) (.tmp 11) rfl rfl rfl x.cells rfl rfl (by kernel_rfl) x.cells_one ?_))
      refine And.intro (fun f hf=>nomatch hf) ?_
      gi_wp2
      go_roundw
      case rel=>exact⟨i+1,by omega,by go_num,HSX,by rw[HF.out];exact HJX⟩
      case measure=>simp[intOf];omega
  · obtain rfl:i=l.length:=by omega
    gi_wp2
    go_end0
    exact⟨⟨_,rfl⟩,by have:=HJr.out;rwa [List.take_length]at this⟩
end Go.Proofs.YtfnpfkgmacaboaaGreat
