/- Texts joined by a program. -/
import Derived.Shelf.SlSortCmp.QuietGrown
import Derived.Lib.OwnBridge
import Derived.Shelf.SlSortCmp.NoneTotal
import Derived.Deep.RegionLaw
import Derived.Lib.AppendStr
import Derived.Laws.BytesString
import Derived.DeepKeys5
import Derived.Test.YtfnpfkgmacaboaaGreatM06
import Derived.Test.YtfnpfkgmacaboaaGreatM07
namespace Go.Proofs.YtfnpfkgmacaboaaGreat
open Go.Proofs.Tryz
open Lib (hid)
open Go.ChangeShapes Go.WideShapes Go.ChangeAt Go.RowKit
set_option linter.unusedVariables false
set_option linter.unusedSimpArgs false
structure Grew (w w':World):Prop where
 below:Below w.heap.size w w'
 drawn:w.drawn<=w'.drawn
theorem Grew.refl (w:World):Grew w w:=⟨Below.refl _ _,Nat.le_refl _⟩
theorem Grew.trans {a b c:World}(h:Grew a b)(k:Grew b c):Grew a c:=⟨keepB (Nat.le_refl _) h.below k.below,Nat.le_trans h.drawn k.drawn⟩
theorem Grew.alloc {a b:World}(h:Grew a b)(o:Obj):Grew a (b.alloc o):=⟨h.below.alloc h.below.size o,h.drawn⟩
theorem Grew.two {w:World}(o1 o2:Obj):Grew w ((w.alloc o1).alloc o2):=((Grew.refl w).alloc o1).alloc o2
theorem Grew.ex {w w':World}(h:Grew w w'):∃ q os,w'=Go.Sort.grow (w.drewN q) os:=by
 obtain⟨p,hp⟩:=regrown_of_below h.below
 refine⟨p.d - w.drawn,p.os,?_⟩
 have hd:w.drawn<=p.d:=by have:=h.drawn;rw[hp]at this;exact this
 rw[hp]
 have:redrawn w p.d=w.drewN (p.d - w.drawn):=by
  unfold redrawn World.drewN
  rw[show w.drawn+(p.d - w.drawn)=p.d by omega]
 rw[this]
theorem Grew.of_ex (w:World)(q:Nat)(os:Array Obj):Grew w (Go.Sort.grow (w.drewN q) os):=⟨below_regrown w (w.drawn+q) os,Nat.le_add_right _ _⟩
theorem Calls.grewn {P:Program}{f:FuncId}{args:Array Value}{V:World}{n:Nat}{os:Array Obj}{v:Value}(h:Calls P f args (Go.Sort.grow (V.drewN n) os) fun e w'=>e=.returned v/\Grew (Go.Sort.grow (V.drewN n) os) w') :
 Calls P f args (Go.Sort.grow (V.drewN n) os) fun e w''=>e=.returned v/\∃ p:GrownBy,w''=Go.Sort.grow (V.drewN p.n) p.os :=
 Calls.grown_of (h.mono fun e w' ⟨h1,h2⟩=>⟨h1,h2.ex⟩)
theorem Calls.grewn_same {P:Program}{f:FuncId}{args:Array Value}{V:World}{n:Nat}{os:Array Obj}{v:Value}(h:Calls P f args (Go.Sort.grow (V.drewN n) os) fun e w'=>e=.returned v/\Go.Sort.grow (V.drewN n) os=w') :
 Calls P f args (Go.Sort.grow (V.drewN n) os) fun e w''=>e=.returned v/\∃ p:GrownBy,w''=Go.Sort.grow (V.drewN p.n) p.os :=
 h.mono fun e w' ⟨h1,h2⟩=>⟨h1,⟨n,os⟩,h2.symm⟩
theorem ZaZ {P:Program}{id:Nat}{Q:Exit->Act->World->Prop}{a:Act}{w:World}{l:List Oper}(n:Nat)(hm:P.follows .mixedOrders=true)(hB:Region.lexTailB .any l.toArray n=true)
 (h:wpQuiet P l.toArray (fun w'=>∃ p:GrownBy,w'=Go.Sort.grow (w.drewN p.n) p.os) (fun a'=>∀ w',(∃ p:GrownBy,w'=Go.Sort.grow (w.drewN p.n) p.os)->wpList P l.toArray Q (l.drop n) a' w') (l.take n) a):(Code.region id l.toArray true).wp P Q a w :=
 ZbW (C:=fun w'=>∃ p:GrownBy,w'=Go.Sort.grow (w.drewN p.n) p.os) n hm hB ⟨⟨1,#[]⟩,by rw[Go.Sort.grow_empty];rfl⟩ h
theorem Box.grown {V:World}{g:Nat}{cs:Array Value}{t:TypeId}(h:Box V g cs t)(j:Nat)(v:Value)(hv:cs[j]?=some v)(d:Nat)(os:Array Obj):(Go.Sort.grow (V.drewN d) os).cell? ⟨g,j,none⟩=some v:=cell_grown h.lt (h.cell j v hv) d os
theorem Box.grown2 {V:World}{g:Nat}{t:TypeId}{a0 a1:Value}(h:Box V g #[a0,a1] t):(∀ d os,(Go.Sort.grow (V.drewN d) os).cell? ⟨g,0,none⟩=some a0)/\(∀ d os,(Go.Sort.grow (V.drewN d) os).cell? ⟨g,1,none⟩=some a1) :=
 ⟨h.grown 0 _ rfl,h.grown 1 _ rfl⟩
theorem Box.grown3 {V:World}{g:Nat}{t:TypeId}{a0 a1 a2:Value}(h:Box V g #[a0,a1,a2] t):(∀ d os,(Go.Sort.grow (V.drewN d) os).cell? ⟨g,0,none⟩=some a0)/\(∀ d os,(Go.Sort.grow (V.drewN d) os).cell? ⟨g,1,none⟩=some a1)/\(∀ d os,(Go.Sort.grow (V.drewN d) os).cell? ⟨g,2,none⟩=some a2) :=
 ⟨h.grown 0 _ rfl,h.grown 1 _ rfl,h.grown 2 _ rfl⟩
theorem Box.grown8 {V:World}{g:Nat}{t:TypeId}{a0 a1 a2 a3 a4 a5 a6 a7:Value}(h:Box V g #[a0,a1,a2,a3,a4,a5,a6,a7] t):(∀ d os,(Go.Sort.grow (V.drewN d) os).cell? ⟨g,0,none⟩=some a0)/\(∀ d os,(Go.Sort.grow (V.drewN d) os).cell? ⟨g,1,none⟩=some a1)/\(∀ d os,(Go.Sort.grow (V.drewN d) os).cell? ⟨g,2,none⟩=some a2)/\(∀ d os,(Go.Sort.grow (V.drewN d) os).cell? ⟨g,3,none⟩=some a3)/\(∀ d os,(Go.Sort.grow (V.drewN d) os).cell? ⟨g,4,none⟩=some a4)/\(∀ d os,(Go.Sort.grow (V.drewN d) os).cell? ⟨g,5,none⟩=some a5)/\(∀ d os,(Go.Sort.grow (V.drewN d) os).cell? ⟨g,6,none⟩=some a6)/\(∀ d os,(Go.Sort.grow (V.drewN d) os).cell? ⟨g,7,none⟩=some a7) :=
 ⟨h.grown 0 _ rfl,h.grown 1 _ rfl,h.grown 2 _ rfl,h.grown 3 _ rfl,h.grown 4 _ rfl,h.grown 5 _ rfl,h.grown 6 _ rfl,h.grown 7 _ rfl⟩
theorem Box.grown10 {V:World}{g:Nat}{t:TypeId}{a0 a1 a2 a3 a4 a5 a6 a7 a8 a9:Value}(h:Box V g #[a0,a1,a2,a3,a4,a5,a6,a7,a8,a9] t):(∀ d os,(Go.Sort.grow (V.drewN d) os).cell? ⟨g,0,none⟩=some a0)/\(∀ d os,(Go.Sort.grow (V.drewN d) os).cell? ⟨g,1,none⟩=some a1)/\(∀ d os,(Go.Sort.grow (V.drewN d) os).cell? ⟨g,2,none⟩=some a2)/\(∀ d os,(Go.Sort.grow (V.drewN d) os).cell? ⟨g,3,none⟩=some a3)/\(∀ d os,(Go.Sort.grow (V.drewN d) os).cell? ⟨g,4,none⟩=some a4)/\(∀ d os,(Go.Sort.grow (V.drewN d) os).cell? ⟨g,5,none⟩=some a5)/\(∀ d os,(Go.Sort.grow (V.drewN d) os).cell? ⟨g,6,none⟩=some a6)/\(∀ d os,(Go.Sort.grow (V.drewN d) os).cell? ⟨g,7,none⟩=some a7)/\(∀ d os,(Go.Sort.grow (V.drewN d) os).cell? ⟨g,8,none⟩=some a8)/\(∀ d os,(Go.Sort.grow (V.drewN d) os).cell? ⟨g,9,none⟩=some a9) :=
 ⟨h.grown 0 _ rfl,h.grown 1 _ rfl,h.grown 2 _ rfl,h.grown 3 _ rfl,h.grown 4 _ rfl,h.grown 5 _ rfl,h.grown 6 _ rfl,h.grown 7 _ rfl,h.grown 8 _ rfl,h.grown 9 _ rfl⟩
set_option maxHeartbeats 1000000 in
theorem or_any (g n:Nat)(L:List Int)(hn:n=L.length)(hn6:n<=6)(w:World)(hc:∀ (i:Nat) (c:Int),L[i]?=some c->w.cell? ⟨g,i,none⟩=some (.int .i64 c)) :
 Calls prog 64 #[.slice (some ⟨g,0,none⟩) n n] w fun e w'=>e=.returned (.int .i64 (orL L))/\w=w':=by
 have HC:=hid hc
 have HLen:Hid (L.length=n):=hn.symm
 clear hc hn
 go_enter func64,ntmps64
 go_wp2_with fail
 go_loop [8] (fun v=>∃ i:Nat,i<=n/\v=.int .i64 i/\Hid (orL L=orL (L.drop i))) (fun v=>n - (intOf v).toNat)
 case atStart=>exact⟨0,by omega,rfl,hid rfl⟩
 case round =>
  obtain⟨i,hi,rfl,HI⟩:=hrel
  by_cases hlt:i<n
  · obtain⟨c,hc⟩:∃ c,L[i]?=some c:=⟨L[i]'(by rw[HLen.out];exact hlt),List.getElem?_eq_getElem _⟩
    have hcell:=HC.out i c hc
    have HN:=hid (HI.out.trans (orL_drop L i c hc))
    clear hc HI
    by_cases h0:c=0
    · subst h0
      have HN2:Hid (orL L=orL (L.drop (i+1))):=HN.out.trans (Zck _)
      go_wp2_with fail
      go_round
      case rel=>exact⟨i+1,by omega,by go_num,HN2⟩
      case measure=>simp[intOf];omega
    · have hne:(c != 0)=true:=by simpa using h0
      have HN2:Hid (orL L=c):=HN.out.trans (Zd6 h0)
      go_wp2_with fail
      go_ret
      exact⟨by rw[HN2.out];rfl,rfl⟩
  · have HN2:Hid (orL L=0):=by show _=_;rw[HI.out,List.drop_of_length_le (by rw[HLen.out];omega)];rfl
    clear HI
    obtain rfl:i=n:=by omega
    go_wp2_with fail
    go_ret
    exact⟨by rw[HN2.out];rfl,rfl⟩
theorem or2_any (V:World)(c0 c1:Int):Calls prog 64 #[.slice (some ⟨V.heap.size,0,none⟩) 2 2] (V.alloc (.cells #[.int .i64 c0,.int .i64 c1] 3)) fun e w'=>e=.returned (.int .i64 (orL [c0,c1]))/\V.alloc (.cells #[.int .i64 c0,.int .i64 c1] 3)=w':=by
 refine or_any V.heap.size 2 [c0,c1] rfl (by decide) _ (fun i c hc=>(Box.new V _ _).cell i _ ?_)
 match i,hc with
 |0,hc=>cases hc;rfl
 |1,hc=>cases hc;rfl
theorem or3_any (V:World)(c0 c1 c2:Int):Calls prog 64 #[.slice (some ⟨V.heap.size,0,none⟩) 3 3] (V.alloc (.cells #[.int .i64 c0,.int .i64 c1,.int .i64 c2] 3)) fun e w'=>e=.returned (.int .i64 (orL [c0,c1,c2]))/\V.alloc (.cells #[.int .i64 c0,.int .i64 c1,.int .i64 c2] 3)=w':=by
 refine or_any V.heap.size 3 [c0,c1,c2] rfl (by decide) _ (fun i c hc=>(Box.new V _ _).cell i _ ?_)
 match i,hc with
 |0,hc=>cases hc;rfl
 |1,hc=>cases hc;rfl
 |2,hc=>cases hc;rfl
theorem or6_any (V:World)(c0 c1 c2 c3 c4 c5:Int):Calls prog 64 #[.slice (some ⟨V.heap.size,0,none⟩) 6 6] (V.alloc (.cells #[.int .i64 c0,.int .i64 c1,.int .i64 c2,.int .i64 c3,.int .i64 c4,.int .i64 c5] 3)) fun e w'=>e=.returned (.int .i64 (orL [c0,c1,c2,c3,c4,c5]))/\V.alloc (.cells #[.int .i64 c0,.int .i64 c1,.int .i64 c2,.int .i64 c3,.int .i64 c4,.int .i64 c5] 3)=w':=by
 refine or_any V.heap.size 6 [c0,c1,c2,c3,c4,c5] rfl (by decide) _ (fun i c hc=>(Box.new V _ _).cell i _ ?_)
 match i,hc with
 |0,hc=>cases hc;rfl
 |1,hc=>cases hc;rfl
 |2,hc=>cases hc;rfl
 |3,hc=>cases hc;rfl
 |4,hc=>cases hc;rfl
 |5,hc=>cases hc;rfl
theorem orL_two (a b:Int):orL [a,b]=orI a b:=by simp only[orL,Zcq]
theorem orL_three (a b c:Int):orL [a,b,c]=orI a (orI b c):=by simp only[orL,Zcq]
theorem Zdd:∀ (x y:List UInt8),Lib.compareBytes x y=cmpL cmpB x y
 |[],[]=>rfl
 |[],_ :: _=>rfl
 |_ :: _,[]=>rfl
 |a :: x,b :: y=>by
  have e:cmpL cmpB (a :: x) (b :: y)=orI (cmpB a b) (cmpL cmpB x y):=rfl
  rw[e,Lib.compareBytes,Zdd x y]
  unfold cmpB cmpI orI
  simp only[UInt8.lt_iff_toNat_lt,Int.ofNat_lt]
  split
  · simp
  · split<;>simp
theorem ZdB (a b:ByteArray)(w:World):Calls prog 88 #[.string a,.string b] w fun e w'=>e=.returned (.int .i64 (cmpS a b))/\w=w':=by
 refine(Go.Proofs.Any.strings_Compare Tryz.lays106 a b w).mono ?_
 rintro e w' ⟨rfl,rfl⟩
 exact⟨by rw[Zdd];unfold cmpS;rw[ByteArray.toList_eq,ByteArray.toList_eq],rfl⟩
set_option maxHeartbeats 2000000 in
set_option maxRecDepth 100000 in
theorem fid_any (s t:ByteArray)(m n:Int)(w:World):Calls prog 52 #[.agg #[.string s,.int .i64 m],.agg #[.string t,.int .i64 n]] w fun e w'=>e=.returned (.int .i64 (cmpID (s,m) (t,n)))/\Grew w w':=by
 have C0:=hid (fun w=>compareS_any s t w)
 have C1:=hid (fun w=>ZbB m n w)
 have he:=fun w=>eql36 (s,m) (t,n) w
 have hg:=fun w=>guard36 .eql (.tmp 5) (.tmp 6) (s,m) (t,n) w
 simp only[fidV]at he hg
 cases hq:eqF (s,m) (t,n)
 · rw[hq]at he
   have HD:Hid (cmpID (s,m) (t,n)=orL [cmpS s t,cmpI m n]):=by show _=_;rw[orL_two];rfl
   clear hq
   generalize cmpS s t=c0 at *
   generalize cmpI m n=c1 at *
   have HOr:=hid (fun V=>or2_any V c0 c1)
   generalize orL [c0,c1]=r at *
   go_enter func52,ntmps52
   go_upto_region 3 with fail
   refine Zam (fun V hV=>?_)
   have HGV:Hid (Grew w V):=by rw[hV];exact Grew.two _ _
   have B0:Hid (Box V w.heap.size #[.string s,.int .i64 m] 24):=by rw[hV];exact(Box.new w _ _).kept (Zab _)
   have B1:Hid (Box V (w.heap.size+1) #[.string t,.int .i64 n] 24):=by rw[hV];show Box _ _ _ _;have:=Box.new (w.alloc (.cells #[.string s,.int .i64 m] 24)) #[.string t,.int .i64 n] 24;simpa using this
   obtain⟨a0,a1⟩:=B0.out.grown2
   obtain⟨b0,b1⟩:=B1.out.grown2
   clear hV B0 B1 he hg
   refine ZaZ 10 (by kernel_rfl) (by kernel_rfl) ?_
   simp only[List.take_succ_cons,List.take_zero,List.drop_succ_cons,List.drop_zero]
   repeat(go_big_quiet_step (first|with_reducible exact Calls.grewn_same (C0.out _)|with_reducible exact Calls.grewn_same (C1.out _)))
   refine wpQuiet_nil ?_
   intro _ hw'
   obtain⟨p,hw''⟩:=hw'
   subst hw''
   have HZ:=hid (Grew.of_ex V p.n p.os)
   clear a0 a1 b0 b1 C0 C1
   generalize Go.Sort.grow (V.drewN p.n) p.os=V2 at *
   go_wp2_with (go_at_call 64;(with_reducible refine(HOr.out _).mono ?_);rintro e w1 ⟨rfl,rfl⟩)
   go_ret
   exact⟨by rw[HD.out];rfl,(HGV.out.trans HZ.out).alloc _⟩
 · rw[hq]at he
   have HD:Hid (cmpID (s,m) (t,n)=0):=(Zek.zero _ _).2 (Zba.1 hq)
   clear hq
   go_enter func52,ntmps52
   go_wp2_with fail
   go_ret
   exact⟨by rw[HD.out];rfl,Grew.two _ _⟩
set_option maxHeartbeats 2000000 in
set_option maxRecDepth 100000 in
theorem frow_any (r s:Rw)(w:World):Calls prog 48 #[r.val,s.val] w fun e w'=>e=.returned (.int .i64 (orI (cmpI r.ev s.ev) (cmpID (r.src,r.seq) (s.src,s.seq))))/\Grew w w':=by
 have C0:=hid (fun w=>ZbB r.ev s.ev w)
 have C1:=hid (fun w=>fid_any r.src s.src r.seq s.seq w)
 have HD:Hid (orI (cmpI r.ev s.ev) (cmpID (r.src,r.seq) (s.src,s.seq))=orL [cmpI r.ev s.ev,cmpID (r.src,r.seq) (s.src,s.seq)]):=by show _=_;rw[orL_two]
 rw[HD.out]
 generalize cmpI r.ev s.ev=c0 at *
 generalize cmpID (r.src,r.seq) (s.src,s.seq)=c1 at *
 have HOr:=hid (fun V=>or2_any V c0 c1)
 generalize orL [c0,c1]=q at *
 clear HD
 dsimp only[Rw.val]
 go_enter func48,ntmps48
 go_upto_region 1 with fail
 refine Zam (fun V hV=>?_)
 have HGV:Hid (Grew w V):=by rw[hV];exact Grew.two _ _
 have B0:Hid (Box V w.heap.size #[.string r.src,.int .i64 r.seq,.string r.tb,.string r.ky,.int .i64 r.ev,.slice r.fa r.vs.length r.fc,.int .i64 r.no,.int .i64 r.tk] 68):=by rw[hV];exact(Box.new w _ _).kept (Zab _)
 have B1:Hid (Box V (w.heap.size+1) #[.string s.src,.int .i64 s.seq,.string s.tb,.string s.ky,.int .i64 s.ev,.slice s.fa s.vs.length s.fc,.int .i64 s.no,.int .i64 s.tk] 68):=by rw[hV];show Box _ _ _ _;have:=Box.new (w.alloc (.cells #[.string r.src,.int .i64 r.seq,.string r.tb,.string r.ky,.int .i64 r.ev,.slice r.fa r.vs.length r.fc,.int .i64 r.no,.int .i64 r.tk] 68)) #[.string s.src,.int .i64 s.seq,.string s.tb,.string s.ky,.int .i64 s.ev,.slice s.fa s.vs.length s.fc,.int .i64 s.no,.int .i64 s.tk] 68;simpa using this
 obtain⟨a0,a1,a2,a3,a4,a5,a6,a7⟩:=B0.out.grown8
 obtain⟨b0,b1,b2,b3,b4,b5,b6,b7⟩:=B1.out.grown8
 clear hV B0 B1
 refine ZaZ 10 (by kernel_rfl) (by kernel_rfl) ?_
 simp only[List.take_succ_cons,List.take_zero,List.drop_succ_cons,List.drop_zero]
 repeat(go_big_quiet_step (first|with_reducible exact Calls.grewn_same (C0.out _)|with_reducible exact Calls.grewn (C1.out _)))
 refine wpQuiet_nil ?_
 intro _ hw'
 obtain⟨p,hw''⟩:=hw'
 subst hw''
 have HZ:=hid (Grew.of_ex V p.n p.os)
 clear a0 a1 a2 a3 a4 a5 a6 a7 b0 b1 b2 b3 b4 b5 b6 b7 C0 C1
 generalize Go.Sort.grow (V.drewN p.n) p.os=V2 at *
 go_wp2_with (go_at_call 64;(with_reducible refine(HOr.out _).mono ?_);rintro e w1 ⟨rfl,rfl⟩)
 go_ret
 exact⟨rfl,(HGV.out.trans HZ.out).alloc _⟩
set_option maxHeartbeats 2000000 in
set_option maxRecDepth 100000 in
theorem fval_any (x y:Val)(w:World):Calls prog 90 #[.agg #[.int .i64 x.1,.int .i64 x.2.1,.string x.2.2],.agg #[.int .i64 y.1,.int .i64 y.2.1,.string y.2.2]] w fun e w'=>e=.returned (.int .i64 (cmpV x y))/\Grew w w':=by
 have C0:=hid (fun w=>ZbB x.1 y.1 w)
 have C1:=hid (fun w=>ZbB x.2.1 y.2.1 w)
 have C2:=hid (fun w=>ZdB x.2.2 y.2.2 w)
 have HD:Hid (cmpV x y=orL [cmpI x.1 y.1,cmpI x.2.1 y.2.1,cmpS x.2.2 y.2.2]):=by show _=_;rw[orL_three];rfl
 rw[HD.out]
 obtain⟨x0,x1,x2⟩:=x
 obtain⟨y0,y1,y2⟩:=y
 simp only at C0 C1 C2 HD ⊢
 generalize cmpI x0 y0=c0 at *
 generalize cmpI x1 y1=c1 at *
 generalize cmpS x2 y2=c2 at *
 have HOr:=hid (fun V=>or3_any V c0 c1 c2)
 generalize orL [c0,c1,c2]=q at *
 clear HD
 go_enter func90,ntmps90
 go_upto_region 1 with fail
 refine Zam (fun V hV=>?_)
 have HGV:Hid (Grew w V):=by rw[hV];exact Grew.two _ _
 have B0:Hid (Box V w.heap.size #[.int .i64 x0,.int .i64 x1,.string x2] 37):=by rw[hV];exact(Box.new w _ _).kept (Zab _)
 have B1:Hid (Box V (w.heap.size+1) #[.int .i64 y0,.int .i64 y1,.string y2] 37):=by rw[hV];show Box _ _ _ _;have:=Box.new (w.alloc (.cells #[.int .i64 x0,.int .i64 x1,.string x2] 37)) #[.int .i64 y0,.int .i64 y1,.string y2] 37;simpa using this
 obtain⟨a0,a1,a2⟩:=B0.out.grown3
 obtain⟨b0,b1,b2⟩:=B1.out.grown3
 clear hV B0 B1
 refine ZaZ 15 (by kernel_rfl) (by kernel_rfl) ?_
 simp only[List.take_succ_cons,List.take_zero,List.drop_succ_cons,List.drop_zero]
 repeat(go_big_quiet_step (first|with_reducible exact Calls.grewn_same (C0.out _)|with_reducible exact Calls.grewn_same (C1.out _)|with_reducible exact Calls.grewn_same (C2.out _)))
 refine wpQuiet_nil ?_
 intro _ hw'
 obtain⟨p,hw''⟩:=hw'
 subst hw''
 have HZ:=hid (Grew.of_ex V p.n p.os)
 clear a0 a1 a2 b0 b1 b2 C0 C1 C2
 generalize Go.Sort.grow (V.drewN p.n) p.os=V2 at *
 go_wp2_with (go_at_call 64;(with_reducible refine(HOr.out _).mono ?_);rintro e w1 ⟨rfl,rfl⟩)
 go_ret
 exact⟨rfl,(HGV.out.trans HZ.out).alloc _⟩
set_option maxHeartbeats 2000000 in
set_option maxRecDepth 100000 in
theorem fvals_any (l k:List Val)(a1 a2:Option Addr)(c1 c2:Nat)(hl:l.length<=4611686018427387904)(hk:k.length<=4611686018427387904)(w:World)(h:Zaf valC 3 w a1 l)(h2:Zaf valC 3 w a2 k) :
 Calls prog 89 #[.slice a1 l.length c1,.slice a2 k.length c2,.func (.func 90) #[] #[]] w fun e w'=>e=.returned (.int .i64 (cmpL cmpV l k))/\Grew w w':=by
 have H:=hid h
 have H2:=hid h2
 clear h h2
 have eg:∀ args w,(callFunc 90 args).run prog w=.ok (.enter 90 args) w:=Go.Proofs.enters_of func90 (by kernel_rfl) rfl
 go_enter func89,ntmps89
 go_wp2_with fail
 go_loopw [13] (fun v wr=>∃ i:Nat,i<=l.length/\i<=k.length/\v=.int .i64 i/\Hid (cmpL cmpV l k=cmpL cmpV (l.drop i) (k.drop i))/\Grew w wr) (fun v _=>l.length - (intOf v).toNat)
 case atStart=>exact⟨0,by omega,by omega,rfl,hid rfl,Grew.refl _⟩
 case round =>
  obtain⟨i,hi1,hi2,rfl,HE,hB⟩:=hrel
  have HB:=hid hB
  clear hB
  by_cases hlt1:i<l.length
  · obtain⟨x,hx⟩:∃ x,l[i]?=some x:=⟨l[i],List.getElem?_eq_getElem hlt1⟩
    obtain⟨b,off,rfl,hL⟩:=(H.out.kept HB.out.below).some (by omega)
    obtain⟨y0,y1,y2⟩:=ZdP hL hx
    by_cases hlt2:i<k.length
    · obtain⟨y,hy⟩:∃ y,k[i]?=some y:=⟨k[i],List.getElem?_eq_getElem hlt2⟩
      obtain⟨b2,off2,rfl,hL2⟩:=(H2.out.kept HB.out.below).some (by omega)
      obtain⟨z0,z1,z2⟩:=ZdP hL2 hy
      have hn:=cmpL_step cmpV l k i x y hx hy
      have HC0:=hid (fun w=>fval_any x y w)
      generalize cmpV x y=c at *
      have HN:=hid (HE.out.trans hn)
      have k0:=fun o=>Zaa z0 (Zab o)
      have k1:=fun o=>Zaa z1 (Zab o)
      have k2:=fun o=>Zaa z2 (Zab o)
      clear hx hy hL hL2 HE hn
      obtain⟨x1,x2,x3⟩:=x
      obtain⟨v1,v2,v3⟩:=y
      simp only at y0 y1 y2 z0 z1 z2 k0 k1 k2
      by_cases hc:c=0
      · subst hc
        have HN2:Hid (cmpL cmpV l k=cmpL cmpV (l.drop (i+1)) (k.drop (i+1))):=HN.out.trans (Zck _)
        go_wp2_with (go_at_call 90;(with_reducible refine(HC0.out _).mono ?_);rintro e w1 ⟨rfl,hb⟩;have HB1:=hid hb;clear hb)
        go_roundw
        case rel=>exact⟨i+1,by omega,by omega,by go_num,HN2,(HB.out.trans (Grew.two _ _)).trans HB1.out⟩
        case measure=>simp[intOf];omega
      · have hne:(c != 0)=true:=by simpa using hc
        have HN2:Hid (cmpL cmpV l k=c):=HN.out.trans (Zd6 hc)
        go_wp2_with (go_at_call 90;(with_reducible refine(HC0.out _).mono ?_);rintro e w1 ⟨rfl,hb⟩;have HB1:=hid hb;clear hb)
        go_ret
        exact⟨by rw[HN2.out];rfl,(HB.out.trans (Grew.two _ _)).trans HB1.out⟩
    · have HN:Hid (cmpL cmpV l k=1):=by
        show _=_
        rw[HE.out,cmpL_end cmpV l k i hi1 hi2 (fun h=>hlt2 h.2),Zex (by omega)]
      have hge:(k.length:Int)<=(i:Int):=by omega
      clear hx hL HE
      obtain⟨x1,x2,x3⟩:=x
      simp only at y0 y1 y2
      go_wp2_with fail
      go_ret
      exact⟨by rw[HN.out];rfl,HB.out.alloc _⟩
  · obtain rfl:i=l.length:=by omega
    have HN:=hid (HE.out.trans (cmpL_end cmpV l k l.length hi1 hi2 (fun h=>hlt1 h.1)))
    by_cases hlk:l.length<k.length
    · have HM:Hid (cmpL cmpV l k=-1):=by show _=_;rw[HN.out,Zew (by omega)]
      go_wp2_with fail
      go_ret
      exact⟨by rw[HM.out];rfl,HB.out⟩
    · have HM:Hid (cmpL cmpV l k=0):=by show _=_;rw[HN.out,show k.length=l.length by omega,Zde]
      go_wp2_with fail
      go_ret
      exact⟨by rw[HM.out];rfl,HB.out⟩
set_option maxHeartbeats 2000000 in
set_option maxRecDepth 100000 in
theorem ffull_any (r s:Rw)(w:World)(hr:r.Ok w)(hs:s.Ok w):Calls prog 66 #[r.val,s.val] w fun e w'=>e=.returned (.int .i64 (cmpR r.key s.key))/\Grew w w':=by
 have HR:=hid hr
 have HS:=hid hs
 clear hr hs
 have E:Hid (cmpR r.key s.key=orL [orI (cmpI r.ev s.ev) (cmpID (r.src,r.seq) (s.src,s.seq)),cmpI r.no s.no,cmpI r.tk s.tk,cmpS r.tb s.tb,cmpS r.ky s.ky,cmpL cmpV r.vs s.vs]):=by
  show _=_
  rw[orL_six,orI_assoc];rfl
 rw[E.out]
 have C0:=hid (fun w=>frow_any r s w)
 have C1:=hid (fun w=>ZbB r.no s.no w)
 have C2:=hid (fun w=>ZbB r.tk s.tk w)
 have C3:=hid (fun w=>ZdB r.tb s.tb w)
 have C4:=hid (fun w=>ZdB r.ky s.ky w)
 have hrl:=HR.out.len
 have hsl:=HS.out.len
 have C5:=hid (fun w' h h'=>fvals_any r.vs s.vs r.fa s.fa r.fc s.fc (by omega) (by omega) w' h h')
 have HR5:=hid HR.out.lies
 have HS5:=hid HS.out.lies
 clear HR HS hrl hsl E
 generalize orI (cmpI r.ev s.ev) (cmpID (r.src,r.seq) (s.src,s.seq))=c0 at *
 generalize cmpI r.no s.no=c1 at *
 generalize cmpI r.tk s.tk=c2 at *
 generalize cmpS r.tb s.tb=c3 at *
 generalize cmpS r.ky s.ky=c4 at *
 generalize cmpL cmpV r.vs s.vs=c5 at *
 have HOr:=hid (fun V=>or6_any V c0 c1 c2 c3 c4 c5)
 generalize orL [c0,c1,c2,c3,c4,c5]=q at *
 dsimp only[Rw.val]
 go_enter func66,ntmps66
 go_upto_region 1 with fail
 refine Zam (fun V hV=>?_)
 have HGV:Hid (Grew w V):=by rw[hV];exact Grew.two _ _
 have B0:Hid (Box V w.heap.size #[.string r.src,.int .i64 r.seq,.string r.tb,.string r.ky,.int .i64 r.ev,.slice r.fa r.vs.length r.fc,.int .i64 r.no,.int .i64 r.tk] 68):=by rw[hV];exact(Box.new w _ _).kept (Zab _)
 have B1:Hid (Box V (w.heap.size+1) #[.string s.src,.int .i64 s.seq,.string s.tb,.string s.ky,.int .i64 s.ev,.slice s.fa s.vs.length s.fc,.int .i64 s.no,.int .i64 s.tk] 68):=by rw[hV];show Box _ _ _ _;have:=Box.new (w.alloc (.cells #[.string r.src,.int .i64 r.seq,.string r.tb,.string r.ky,.int .i64 r.ev,.slice r.fa r.vs.length r.fc,.int .i64 r.no,.int .i64 r.tk] 68)) #[.string s.src,.int .i64 s.seq,.string s.tb,.string s.ky,.int .i64 s.ev,.slice s.fa s.vs.length s.fc,.int .i64 s.no,.int .i64 s.tk] 68;simpa using this
 obtain⟨a0,a1,a2,a3,a4,a5,a6,a7⟩:=B0.out.grown8
 obtain⟨b0,b1,b2,b3,b4,b5,b6,b7⟩:=B1.out.grown8
 have D5:=hid (fun d os=>Calls.grewn (C5.out (Go.Sort.grow (V.drewN d) os) ((HR5.out.kept HGV.out.below).kept (Grew.of_ex V d os).below) ((HS5.out.kept HGV.out.below).kept (Grew.of_ex V d os).below)))
 clear hV B0 B1 C5
 refine ZaZ 28 (by kernel_rfl) (by kernel_rfl) ?_
 simp only[List.take_succ_cons,List.take_zero,List.drop_succ_cons,List.drop_zero]
 repeat(go_big_quiet_step (first|with_reducible exact Calls.grewn (C0.out _)|with_reducible exact D5.out _ _|with_reducible exact Calls.grewn_same (C1.out _)|with_reducible exact Calls.grewn_same (C2.out _)|with_reducible exact Calls.grewn_same (C3.out _)|with_reducible exact Calls.grewn_same (C4.out _)))
 refine wpQuiet_nil ?_
 intro _ hw'
 obtain⟨p,hw''⟩:=hw'
 subst hw''
 have HZ:=hid (Grew.of_ex V p.n p.os)
 clear a0 a1 a2 a3 a4 a5 a6 a7 b0 b1 b2 b3 b4 b5 b6 b7 C0 C1 C2 C3 C4 D5 HR5 HS5
 generalize Go.Sort.grow (V.drewN p.n) p.os=V2 at *
 go_wp2_with (go_at_call 64;(with_reducible refine(HOr.out _).mono ?_);rintro e w1 ⟨rfl,rfl⟩)
 go_ret
 exact⟨rfl,(HGV.out.trans HZ.out).alloc _⟩
set_option maxHeartbeats 2000000 in
set_option maxRecDepth 100000 in
theorem fdelta_any (x y:Dl)(w:World)(hx:x.r.Ok w)(hy:y.r.Ok w):Calls prog 63 #[x.val,y.val] w fun e w'=>e=.returned (.int .i64 (cmpD x.key y.key))/\Grew w w':=by
 have HR:=hid hx
 have HS:=hid hy
 clear hx hy
 have E:Hid (cmpD x.key y.key=orL [cmpI x.tick y.tick,cmpR x.r.key y.r.key]):=by show _=_;rw[orL_two];rfl
 rw[E.out]
 have C0:=hid (fun w=>ZbB x.tick y.tick w)
 have C5:=hid (fun w' h h'=>ffull_any x.r y.r w' h h')
 clear E
 generalize cmpI x.tick y.tick=c0 at *
 generalize cmpR x.r.key y.r.key=c1 at *
 have HOr:=hid (fun V=>or2_any V c0 c1)
 generalize orL [c0,c1]=q at *
 dsimp only[Dl.val]
 go_enter func63,ntmps63
 go_upto_region 1 with fail
 refine Zam (fun V hV=>?_)
 have HGV:Hid (Grew w V):=by rw[hV];exact Grew.two _ _
 have B0:Hid (Box V w.heap.size #[.string x.r.src,.int .i64 x.r.seq,.string x.r.tb,.string x.r.ky,.int .i64 x.r.ev,.slice x.r.fa x.r.vs.length x.r.fc,.int .i64 x.r.no,.int .i64 x.r.tk,.int .i64 x.tick,.int .i64 x.n] 70):=by rw[hV];exact(Box.new w _ _).kept (Zab _)
 have B1:Hid (Box V (w.heap.size+1) #[.string y.r.src,.int .i64 y.r.seq,.string y.r.tb,.string y.r.ky,.int .i64 y.r.ev,.slice y.r.fa y.r.vs.length y.r.fc,.int .i64 y.r.no,.int .i64 y.r.tk,.int .i64 y.tick,.int .i64 y.n] 70):=by rw[hV];show Box _ _ _ _;have:=Box.new (w.alloc (.cells #[.string x.r.src,.int .i64 x.r.seq,.string x.r.tb,.string x.r.ky,.int .i64 x.r.ev,.slice x.r.fa x.r.vs.length x.r.fc,.int .i64 x.r.no,.int .i64 x.r.tk,.int .i64 x.tick,.int .i64 x.n] 70)) #[.string y.r.src,.int .i64 y.r.seq,.string y.r.tb,.string y.r.ky,.int .i64 y.r.ev,.slice y.r.fa y.r.vs.length y.r.fc,.int .i64 y.r.no,.int .i64 y.r.tk,.int .i64 y.tick,.int .i64 y.n] 70;simpa using this
 obtain⟨a0,a1,a2,a3,a4,a5,a6,a7,a8,a9⟩:=B0.out.grown10
 obtain⟨b0,b1,b2,b3,b4,b5,b6,b7,b8,b9⟩:=B1.out.grown10
 have D5:=hid (fun d os=>Calls.grewn (C5.out (Go.Sort.grow (V.drewN d) os) ((HR.out.kept HGV.out.below).kept (Grew.of_ex V d os).below) ((HS.out.kept HGV.out.below).kept (Grew.of_ex V d os).below)))
 clear hV B0 B1 C5
 refine ZaZ 10 (by kernel_rfl) (by kernel_rfl) ?_
 simp only[List.take_succ_cons,List.take_zero,List.drop_succ_cons,List.drop_zero]
 repeat(go_big_quiet_step (first|with_reducible exact Calls.grewn_same (C0.out _)|with_reducible exact D5.out _ _))
 refine wpQuiet_nil ?_
 intro _ hw'
 obtain⟨p,hw''⟩:=hw'
 subst hw''
 have HZ:=hid (Grew.of_ex V p.n p.os)
 clear a0 a1 a2 a3 a4 a5 a6 a7 a8 a9 b0 b1 b2 b3 b4 b5 b6 b7 b8 b9 C0 D5 HR HS
 generalize Go.Sort.grow (V.drewN p.n) p.os=V2 at *
 go_wp2_with (go_at_call 64;(with_reducible refine(HOr.out _).mono ?_);rintro e w1 ⟨rfl,rfl⟩)
 go_ret
 exact⟨rfl,(HGV.out.trans HZ.out).alloc _⟩
open Go.Shelf Go.Sort
theorem below_grow {B:Nat}{w X:World}(h:Go.RowKit.Below B w X)(hB:B<=X.heap.size)(os:Array Obj):Go.RowKit.Below B w (grow X os) :=
 ⟨h.os,h.tape,h.output,by have:=h.size;simp[grow];omega,fun k hk=>by
  rw[<-h.block k hk]
  simp[grow,Array.getElem?_append,show k<X.heap.size by omega]⟩
theorem ZeP {α:Type}{cf:α->α->Int}{x y:α}:ltOf cf x y=decide (cf x y<0):=rfl
theorem cmp_swo {α κ:Type}{c:κ->κ->Int}(hc:Cmp c)(f:α->κ):SWO (ltOf (fun x y:α=>c (f x) (f y))) where
 irrefl:=fun x=>by rw[ZeP,hc.refl];rfl
 trans:=fun x y z h1 h2=>by
  rw[ZeP,decide_eq_true_eq]at *
  exact hc.trans _ _ _ h1 h2
 ntrans:=fun x y z h1 h2=>by
  rw[ZeP,decide_eq_false_iff_not]at *
  intro h3
  by_cases e1:c (f x) (f y)=0
  · rw[(hc.zero _ _).1 e1]at h3;exact h2 h3
  · have p1:c (f y) (f x)<0:=(hc.turn _ _).2 (by omega)
    exact h2 (hc.trans _ _ _ p1 h3)
set_option maxRecDepth 100000 in
theorem sort_gen {α κ:Type}{enc:α->List Value}{k:Nat}{e:TypeId}(hE:Enc enc k){c:κ->κ->Int}(hc:Cmp c)(f:α->κ)(ok:α->Prop){ρ:Ren}(L:Go.Proofs.SlLaysF0.n6 prog ρ)
 (aE:∀ w,(isAgg (ρ.t 24)).run prog w=.ok true w) (zE:∀ w,(Go.sizeOf (ρ.t 24)).run prog w=.ok k w) (hk0:0<k) (g:Nat) (eg:∀ args w,(callFunc g args).run prog w=.ok (.enter g args) w)
 (w0:World) (hcmp:∀ x y,ok x->ok y->∀ w',Go.RowKit.Below w0.heap.size w0 w'->Calls prog g #[.agg (enc x).toArray,.agg (enc y).toArray] w' fun r w''=>r=.returned (.int .i64 (c (f x) (f y)))/\Grew w' w'')
 (l:List α) (w:World) (hB:Go.RowKit.Below w0.heap.size w0 w) (ao:Option Addr) (cap:Nat) (h:Own enc k e w w0.heap.size (.slice ao l.length cap) l) (hok:∀ x∈l,ok x) (hl:l.length<4611686018427387904) :
 Calls prog (ρ.f 6) #[.slice ao l.length cap,.func (.func g) #[] #[]] w fun r w'=>r=.returned (.tuple #[])/\∃ p,l.Perm p/\p.Pairwise (fun x y=>¬ c (f y) (f x)<0)/\Zaf enc k w' ao p/\Go.RowKit.Below w0.heap.size w0 w':=by
 by_cases h0:l=[]
 · subst h0
   refine(Go.Proofs.AnyF.slices_SortFunc_none L ao cap (.func (.func g) #[] #[]) w).mono ?_
   rintro r w' ⟨rfl,rfl⟩
   exact⟨rfl,[],List.Perm.refl _,List.Pairwise.nil,Or.inl rfl,hB⟩
 · rcases h.2 with⟨h1,h2⟩|⟨b,cap',cur,h1,h2,h3,h4,h5,h6,h7⟩
   · exact absurd (List.eq_nil_of_length_eq_zero h2) h0
   · injection h1 with e1 e2 e3
     subst e1 e3
     have hg:b<w.heap.size:=(Array.getElem?_eq_some_iff.1 h3).1
     obtain⟨_,c',hv,-,-,hrow⟩:=h.lies hE
     injection hv with hv1 hv2 hv3
     subst hv1 hv3
     obtain⟨b',off',he,hr⟩:=hrow.some (by cases l with|nil=>exact absurd rfl h0|cons _ _=>simp)
     injection he with he
     injection he with he1 he2 _
     subst he1 he2
     haveI:Inhabited {x:α // ok x}:=⟨by
      cases l with
      |nil=>exact absurd rfl h0
      |cons x l=>exact⟨x,hok x (by simp)⟩⟩
     let d:Array {x:α // ok x}:=(l.attachWith ok hok).toArray
     have hd:d.size=l.length:=by simp[d]
     have hdl:d.toList.map (·.1)=l:=by
      apply List.ext_getElem
      · simp[d]
      · intro i h1 h2
        simp[d]
     have hget:∀ (i:Nat) (hi:i<l.length),(d[i]!).1=l[i]:=by
      intro i hi
      rw[getElem!_pos d i (by omega)]
      simp[d]
     have hH:HoldsK (fun x:{x:α // ok x}=>enc x.1) k w b 0 d:=by
      intro j hj
      have hsz:(flatK (fun x:{x:α // ok x}=>enc x.1) k d).size=d.size*k:=size_flatK _ _ _
      have hjl:j / k<l.length:=by
       rw[hsz,hd]at hj
       exact Nat.div_lt_of_lt_mul (by rw[Nat.mul_comm];exact hj)
      refine⟨?_,by simp[World.frozen?,h3]⟩
      rw[get_flatK _ _ _ _ (by rw[<-hsz];exact hj),Nat.zero_add]
      rw[hget _ hjl]
      have hm:j % k<k:=Nat.mod_lt _ hk0
      have hx:(enc l[j / k])[j % k]?=some ((enc l[j / k])[j % k]'(by rw[hE.len];exact hm)):=List.getElem?_eq_getElem _
      have:=hr (j / k) _ (List.getElem?_eq_getElem hjl) (j % k) _ hx
      rw[Nat.zero_add,show j / k*k+j % k=j by rw[Nat.mul_comm];exact Nat.div_add_mod j k]at this
      rw[this,getElem!_pos _ _ (by rw[hE.len];exact hm)];rfl
     have hbw:∀ m dk os,Go.RowKit.Below w0.heap.size w0 (Go.Proofs.sortWorldK (fun x:{x:α // ok x}=>enc x.1) k w b 0 m dk os):=fun m dk os =>
      below_grow (Go.Lib.below_putRow hB h2) (by have:=hB.size;simp[size_putRow,Sort.ahead];omega) os
     have hlays:Go.Proofs.CmpLays prog g #[] (fun x:{x:α // ok x}=>enc x.1) k (fun x y=>c (f x.1) (f y.1)) b 0 d.size w:=fun m os dk hs x y=>by
      refine(hcmp x.1 y.1 x.2 y.2 _ (hbw m dk os)).mono ?_
      rintro r w'' ⟨h1,h2⟩
      exact⟨h1,h2.ex⟩
     have hs:=Go.Proofs.AnyQ.slices_SortFunc L k aE zE (fun x:{x:α // ok x}=>enc x.1) (fun x=>hE.len x.1) (fun x=>hE.one x.1) (fun x y=>c (f x.1) (f y.1)) (cmp_swo hc (fun x:{x:α // ok x}=>f x.1)) g #[] b 0 cap d w eg hlays hH hg (by omega)
     rw[hd]at hs
     refine hs.mono ?_
     rintro r w' ⟨rfl,d',n,os,hp,hso,rfl⟩
     obtain⟨p1,-,p3⟩:=hp
     have e1:(d'.extract 0 l.length).toList=d'.toList:=by rw[<-hd,<-p1];simp
     have e2:(d.extract 0 l.length).toList=d.toList:=by rw[<-hd];simp
     rw[e1,e2]at p3
     have hperm:l.Perm (d'.toList.map (·.1)):=by
      have:=(p3.map (·.1)).symm
      rwa [hdl]at this
     have hsz:d'.size=l.length:=by omega
     refine⟨rfl,d'.toList.map (·.1),hperm,?_,Or.inr ⟨b,0,rfl,?_⟩,hbw n d' os⟩
     · rw[List.pairwise_iff_getElem]
       intro i j hi hj hij
       simp at hi hj
       have:=hso i j (Nat.zero_le _) hij (by omega)
       rw[ZeP,getElem!_pos d' j (by omega),getElem!_pos d' i (by omega),decide_eq_false_iff_not]at this
       simpa using this
     · have hH':=Go.Proofs.holdsK_sortWorldK (fun x:{x:α // ok x}=>enc x.1) k w b 0 n d d' os hg hH p1
       intro i x hx j v hv
       obtain⟨hi,hx⟩:=List.getElem?_eq_some_iff.1 hx
       simp at hi hx
       have hj:j<k:=by rw[<-hE.len x];exact(List.getElem?_eq_some_iff.1 hv).1
       have c0:=(hH'.cell (i:=i) (c:=j) hi hj).1
       rw[getElem!_pos d' i hi,hx]at c0
       rw[List.getElem!_eq_getElem?_getD,hv]at c0
       exact c0
theorem sortD_any (w0:World)(l:List Dl)(w:World)(hB:Go.RowKit.Below w0.heap.size w0 w)(ao:Option Addr)(cap:Nat)(h:Own Dl.cells 10 70 w w0.heap.size (.slice ao l.length cap) l)(hok:∀ x∈l,x.Ok w0)(hl:l.length<4611686018427387904) :
 Calls prog 62 #[.slice ao l.length cap,.func (.func 63) #[] #[]] w fun r w'=>r=.returned (.tuple #[])/\∃ p,l.Perm p/\p.Pairwise (fun x y=>¬ cmpD y.key x.key<0)/\Zaf Dl.cells 10 w' ao p/\Go.RowKit.Below w0.heap.size w0 w' :=
 sort_gen encD ZaW Dl.key (fun x=>x.Ok w0) Tryz.sortD Tryz.isAgg70 Tryz.sizeOf70 (by decide) 63 (Go.Proofs.enters_of func63 (by kernel_rfl) rfl) w0
  (fun x y hx hy w' hb=>fdelta_any x y w' (hx.kept hb).r (hy.kept hb).r) l w hB ao cap h hok hl
def OwnR (w:World)(B:Nat)(v:Value)(l:List Rw):Prop:=Own Rw.cells 8 68 w B v l/\∀ r∈l,r.Ok w
theorem OwnR.kept {w w':World}{B:Nat}{v:Value}{l:List Rw}(h:OwnR w B v l)(hb:Below w.heap.size w w'):OwnR w' B v l:=⟨h.1.kept hb,fun d hd=>(h.2 d hd).kept hb⟩
theorem OwnR.mono {w:World}{B B':Nat}{v:Value}{l:List Rw}(h:OwnR w B v l)(hB:B'<=B):OwnR w B' v l:=⟨h.1.mono hB,h.2⟩
theorem OwnR.nil (w:World)(B:Nat):OwnR w B (.slice none 0 0) []:=⟨Own.nil w B,fun d hd=>by cases hd⟩
theorem OwnR.lies {w:World}{B:Nat}{v:Value}{l:List Rw}(h:OwnR w B v l):∃ ao c,v=.slice ao l.length c/\l.length<=c/\(ao=none->c=0)/\Zbs w ao l:=by
 obtain⟨ao,c,h1,h2,h3,h4⟩:=h.1.lies encR
 exact⟨ao,c,h1,h2,h3,h4,h.2⟩
theorem Own.lit1 {α:Type}{enc:α->List Value}{k:Nat}{e:TypeId}{W:World}{B:Nat}(hE:Enc enc k)(hB:B<=W.heap.size)(x:α):Own enc k e (W.alloc (.cells (enc x).toArray e)) B (.slice (some ⟨W.heap.size,0,none⟩) 1 1) [x]:=by
 have:=World.ownsRow_lit (e:=e) (size:=k) W (enc x).toArray 1 hB (by unfold maxLen;omega) (by simp[hE.len])
 unfold Own
 rw[Zec]
 simpa using this
structure IsAt (L:List (DK × Int)) (t:Int) (d:List (DK × Int)) (ks:List RK):Prop where
 rising:ks.Pairwise (fun x y=>cmpR x y<0)
 mem:∀ k,k∈ks↔(∃ x∈d,x.1.2=k)/\0<cntK L k t
def insK (ks:List RK)(k:RK):List RK:=ks.takeWhile (fun x=>decide (cmpR x k<0))++k :: ks.dropWhile (fun x=>decide (cmpR x k<0))
theorem insK_mem (ks:List RK)(k x:RK):x∈insK ks k↔x=k∨x∈ks:=by
 have h:ks.takeWhile (fun x=>decide (cmpR x k<0))++ks.dropWhile (fun x=>decide (cmpR x k<0))=ks:=List.takeWhile_append_dropWhile
 unfold insK
 constructor
 · intro hx
   simp only[List.mem_append,List.mem_cons]at hx
   rcases hx with hx|hx|hx
   · exact Or.inr ((List.takeWhile_prefix _).subset hx)
   · exact Or.inl hx
   · exact Or.inr ((List.dropWhile_suffix _).subset hx)
 · rintro (rfl|hx)
   · simp
   · rw[<-h,List.mem_append]at hx
     simp only[List.mem_append,List.mem_cons]
     rcases hx with hx|hx
     · exact Or.inl hx
     · exact Or.inr (Or.inr hx)
theorem insK_rising {ks:List RK}{k:RK}(h:ks.Pairwise (fun x y=>cmpR x y<0))(hk:k ∉ ks):(insK ks k).Pairwise (fun x y=>cmpR x y<0):=by
 induction ks with
 |nil=>simp[insK]
 |cons y l ih =>
  obtain⟨a1,a2⟩:=List.pairwise_cons.1 h
  have hi:=ih a2 (fun e=>hk (by simp[e]))
  by_cases hd:cmpR y k<0
  · have e:insK (y :: l) k=y :: insK l k:=by unfold insK;simp[List.takeWhile,List.dropWhile,hd]
    rw[e,List.pairwise_cons]
    refine⟨fun z hz=>?_,hi⟩
    rcases(insK_mem l k z).1 hz with rfl|hz
    · exact hd
    · exact a1 z hz
  · have e:insK (y :: l) k=k :: y :: l:=by unfold insK;simp[List.takeWhile,List.dropWhile,hd]
    rw[e,List.pairwise_cons]
    have hky:cmpR k y<0:=by
     have h1:=Zbe.turn y k
     have h2:cmpR y k≠0:=fun e=>hk (by rw[(Zbe.zero _ _).1 e];simp)
     have h3:=Zbe.turn k y
     omega
    refine⟨fun z hz=>?_,h⟩
    rcases List.mem_cons.1 hz with rfl|hz
    · exact hky
    · exact Zbe.trans _ _ _ hky (a1 z hz)
theorem IsAt.nil (L:List (DK × Int))(t:Int):IsAt L t [] []:=⟨List.Pairwise.nil,fun k=>by simp⟩
theorem IsAt.skip {L d:List (DK × Int)}{t:Int}{ks:List RK}{x:DK × Int}(h:IsAt L t d ks)(hx:cntK L x.1.2 t<=0∨x.1.2∈ks):IsAt L t (d++[x]) ks:=by
 refine⟨h.rising,fun k=>?_⟩
 rw[h.mem]
 constructor
 · rintro ⟨⟨y,hy,rfl⟩,hc⟩
   exact⟨⟨y,by simp[hy],rfl⟩,hc⟩
 · rintro ⟨⟨y,hy,rfl⟩,hc⟩
   simp only[List.mem_append,List.mem_singleton]at hy
   rcases hy with hy|rfl
   · exact⟨⟨y,hy,rfl⟩,hc⟩
   · rcases hx with hx|hx
     · omega
     · exact(h.mem _).1 hx
theorem IsAt.put {L d:List (DK × Int)}{t:Int}{ks:List RK}{x:DK × Int}(h:IsAt L t d ks)(h0:0<cntK L x.1.2 t)(hx:x.1.2 ∉ ks):IsAt L t (d++[x]) (insK ks x.1.2):=by
 refine⟨insK_rising h.rising hx,fun k=>?_⟩
 rw[insK_mem,h.mem]
 constructor
 · rintro (rfl|⟨⟨y,hy,rfl⟩,hc⟩)
   · exact⟨⟨x,by simp,rfl⟩,h0⟩
   · exact⟨⟨y,by simp[hy],rfl⟩,hc⟩
 · rintro ⟨⟨y,hy,rfl⟩,hc⟩
   simp only[List.mem_append,List.mem_singleton]at hy
   rcases hy with hy|rfl
   · exact Or.inr ⟨⟨y,hy,rfl⟩,hc⟩
   · exact Or.inl rfl
theorem rising_one {c:RK->RK->Int}(hc:Cmp c):∀ (r s:List RK),r.Pairwise (fun x y=>c x y<0)->s.Pairwise (fun x y=>c x y<0)->(∀ x,x∈r↔x∈s)->r=s
 |[],[],_,_,_=>rfl
 |[],y :: s,_,_,h=>by have:=(h y).2 (by simp);simp at this
 |x :: r,[],_,_,h=>by have:=(h x).1 (by simp);simp at this
 |x :: r,y :: s,h1,h2,h=>by
  obtain⟨a1,a2⟩:=List.pairwise_cons.1 h1
  obtain⟨b1,b2⟩:=List.pairwise_cons.1 h2
  have hxy:x=y:=by
   rcases List.mem_cons.1 ((h x).1 (by simp))with e|hx
   · exact e
   · rcases List.mem_cons.1 ((h y).2 (by simp))with e|hy
     · exact e.symm
     · have:=hc.trans _ _ _ (b1 x hx) (a1 y hy)
       rw[hc.refl]at this
       omega
  subst hxy
  congr 1
  refine rising_one hc r s a2 b2 (fun z=>?_)
  constructor
  · intro hz
    rcases List.mem_cons.1 ((h z).1 (by simp[hz]))with e|hz'
    · subst e;have:=a1 _ hz;rw[hc.refl]at this;omega
    · exact hz'
  · intro hz
    rcases List.mem_cons.1 ((h z).2 (by simp[hz]))with e|hz'
    · subst e;have:=b1 _ hz;rw[hc.refl]at this;omega
    · exact hz'
theorem IsAt.unique {L d:List (DK × Int)}{t:Int}{ks ks':List RK}(h:IsAt L t d ks)(h':IsAt L t d ks'):ks=ks' :=
 rising_one Zbe ks ks' h.rising h'.rising (fun k=>by rw[h.mem,h'.mem])
def u8I (n:Int):List Value:=[.int .u8 n]
theorem encU:Enc u8I 1:=⟨fun _=>rfl,fun x v hv=>by simp[u8I]at hv;subst hv;rfl⟩
theorem elU:El prog 5 142 1 1:=⟨underlying142,by kernel_rfl,by decide,by decide⟩
theorem encs_u8 (l:List Int):encs u8I l=l.map (Value.int .u8):=by
 induction l with
 |nil=>rfl
 |cons x l ih=>simp only[encs,List.flatMap_cons,List.map_cons]at *;rw[ih];rfl
structure Bag (W wr:World) (v:Value) (ns:List Int) (g1 g2:Nat):Prop where
 own:Own u8I 1 5 wr W.heap.size v ns
 below:Below W.heap.size W wr
 far1:v.ownBlock≠some g1
 far2:v.ownBlock≠some g2
theorem Box.grow {w w':World}{g:Nat}{cs:Array Value}{t:TypeId}{row:Option Nat}(h:Box w g cs t)(hg:w.grownBy w' row)(hne:row≠some g):Box w' g cs t:=(hg.block g h.lt (fun e=>hne e.symm)).trans h
theorem wpList_byte {W wr:World}{v:Value}{ns:List Int}{g1 g2:Nat}{c1 c2:Array Value}{t1 t2:TypeId}{x:Int}{ops:Array Oper}{rest:List Oper}{o:Oper}{a:Act}{Q:Exit->Act->World->Prop}
 (hb:Bag W wr v ns g1 g2) (h1:Box wr g1 c1 t1) (h2:Box wr g2 c2 t2) (hgd:o.guard=none) (s y:Operand)
 (ho:o.op=.call { callee:=.builtin .append,args:=#[s,y],argTypes:=#[142,142] }) (hs:a.eval s=v) (hx:a.eval y=.slice (some ⟨wr.heap.size,0,none⟩) 1 1) (hl:ns.length<=2000000000000)
 (h:∀ v' w1,Bag W w1 v' (ns++[x]) g1 g2->Box w1 g1 c1 t1->Box w1 g2 c2 t2->wpList prog ops Q rest (a.put o.dst v') w1) :
 wpList prog ops Q (o :: rest) a (wr.alloc (.cells #[.int .u8 x] 5)):=by
 obtain⟨i,z,hi,hz0,hz1,hz2,hz3⟩:=elU.parts
 have hB:=hb.below.size
 have hown:=hb.own.kept (Zab (w:=wr) (.cells #[.int .u8 x] 5))
 refine wpList_append_own_at (w:=wr.alloc (.cells #[.int .u8 x] 5)) hgd s y 142 ho W.heap.size 5 i z 1 1 elU.und hi hz0 hz1 hz2 hz3 (by decide) v _ _ hs hown ⟨wr.heap.size,0,none⟩ 1 1 [.int .u8 x] hx rfl (cell_one_new _ _ _) (by simp[Value.oneCell']) (by unfold maxLen;omega) (by omega) (by simp;omega) ?_
 intro v' w1 hO hgr _ hloc
 have hk1:=h1.lt
 have hk2:=h2.lt
 refine h v' w1 ⟨?_,?_,?_,?_⟩ ((h1.kept (Zab _)).grow hgr hb.far1) ((h2.kept (Zab _)).grow hgr hb.far2)
 · unfold Own
   rw[Zbd,List.length_append];exact hO
 · exact(hb.below.alloc hB _).grown hgr (by simp;omega) (fun g hg=>(hb.own.lt g hg).1)
 · rcases hloc with e|e
   · rw[e];exact hb.far1
   · rw[e];simp;omega
 · rcases hloc with e|e
   · rw[e];exact hb.far2
   · rw[e];simp;omega
theorem wpList_text {B:Nat}{w:World}{v:Value}{ns:List Int}{ops:Array Oper}{rest:List Oper}{o:Oper}{a:Act}{Q:Exit->Act->World->Prop}
 (hO:Own u8I 1 5 w B v ns) (hB:B<=w.heap.size) (hgd:o.guard=none) (s y:Operand)
 (ho:o.op=.call { callee:=.builtin .append,args:=#[s,y],argTypes:=#[142,9] }) (hs:a.eval s=v) (S:ByteArray) (hx:a.eval y=.string S) (hl:ns.length<=2000000000000) (hS:S.size<=2000000000000)
 (h:∀ v' w1,Own u8I 1 5 w1 B v' (ns++S.data.toList.map (fun b=>(b.toNat:Int)))->Below B w w1->wpList prog ops Q rest (a.put o.dst v') w1) :
 wpList prog ops Q (o :: rest) a w:=by
 have hi:∃ i,prog.info? 5=some i/\i.zero=some (.int .u8 0)/\i.size=1/\i.bytes=1:=by
  have e:(prog.info? 5).map (fun i=>(i.zero,i.size,i.bytes))=some (some (.int .u8 0),1,1):=by kernel_rfl
  cases hq:prog.info? 5 with
  |none=>rw[hq]at e;cases e
  |some i =>
   rw[hq]at e
   simp only[Option.map_some,Option.some.injEq,Prod.mk.injEq]at e
   exact⟨i,rfl,e.1,e.2.1,e.2.2⟩
 obtain⟨i,hi,hz,h1,h2⟩:=hi
 refine Lib.wpList_append_own_string (w:=w) hgd s y 142 9 ho B 5 i underlying142 underlying9 hi hz h1 h2 v _ _ hs hO S hx (by unfold maxLen;omega) (by omega) hB ?_
 intro v' w1 hO2 hgr _
 refine h v' w1 ?_ ((Below.refl _ _).grown hgr hB (fun g hg=>(hO.lt g hg).1))
 unfold Own
 rw[Zbd,List.length_append,List.length_map,encs_u8 (S.data.toList.map _),List.map_map]
 exact hO2
def strOf (ns:List Int):ByteArray:=ns.foldl (fun r n=>r.push (UInt8.ofNat n.toNat)) ByteArray.empty
theorem run_strOf {w:World}{B:Nat}{v:Value}{ns:List Int}(h:Own u8I 1 5 w B v ns):(convert 142 9 v).run prog w=.ok (.string (strOf ns)) w:=by
 obtain⟨ao,c,rfl,h1,h2,h3⟩:=h.lies encU
 rw[run_convert_bytes_string w 142 9 5 ao _ c underlying142 underlying5 underlying9]
 cases ao with
 |none =>
  have hn:ns=[]:=by
   rcases h3 with h|⟨_,_,h,_⟩
   · exact h
   · cases h
  subst hn
  rfl
 |some a =>
  refine run_bytesToString w a _ c ns ?_
  rcases h3 with rfl|⟨b,off,he,hr⟩
  · exact run_loadCells_list (P:=prog) w a [] (by simp)
  · injection he with he
    subst he
    have:=run_loadCells_list (P:=prog) w ⟨b,off,none⟩ (ns.map (Value.int .u8)) (fun j u hj=>by rw[ZbM];exact hr.cells encU.len (by decide) j u (by rw[encs_u8];exact hj))
    simpa using this
def byteI (n:Int)(i:Nat):Int:=n / 2 ^ (8*i) % 256
def B8 (n:Int):List Int:=(List.range 8).map (byteI n)
def encV (v:Val):List Int:=B8 v.1++B8 v.2.1++B8 (v.2.2.size:Int)++v.2.2.data.toList.map (fun b=>(b.toNat:Int))
def encF (vs:List Val):List Int:=vs.flatMap encV
theorem Zbo (n:Int):(B8 n).length=8:=by simp[B8]
theorem ZdF (v:Val):(encV v).length=24+v.2.2.size:=by simp[encV,Zbo];omega
theorem encF_snoc {vs:List Val}{i:Nat}{v:Val}(h:vs[i]?=some v):encF (vs.take (i+1))=encF (vs.take i)++encV v:=by
 rw[ZaO h];simp[encF]
theorem ZdG:∀ (vs:List Val),(∀ v∈vs,v.2.2.size<=1048576)->(encF vs).length<=vs.length*1048600
 |[],_=>by simp[encF]
 |v :: vs,h=>by
  have e:encF (v :: vs)=encV v++encF vs:=by simp[encF]
  have h1:=h v (by simp)
  have h2:=ZdG vs (fun u hu=>h u (by simp[hu]))
  rw[e,List.length_append,ZdF,List.length_cons,Nat.succ_mul]
  omega
theorem B8_inj {m n:Int}(hm:I64 m)(hn:I64 n)(h:B8 m=B8 n):m=n:=by
 have hb:∀ i,i<8->byteI m i=byteI n i:=fun i hi=>by
  have:=congrArg (fun l:List Int=>l[i]?) h
  simpa [B8,hi]using this
 have h0:=hb 0 (by omega);have h1:=hb 1 (by omega);have h2:=hb 2 (by omega);have h3:=hb 3 (by omega)
 have h4:=hb 4 (by omega);have h5:=hb 5 (by omega);have h6:=hb 6 (by omega);have h7:=hb 7 (by omega)
 unfold byteI at *
 obtain⟨a1,a2⟩:=hm
 obtain⟨b1,b2⟩:=hn
 simp only[show(2:Int) ^ (8*0)=1 from rfl,show(2:Int) ^ (8*1)=256 from rfl,show(2:Int) ^ (8*2)=65536 from rfl,show(2:Int) ^ (8*3)=16777216 from rfl,show(2:Int) ^ (8*4)=4294967296 from rfl,show(2:Int) ^ (8*5)=1099511627776 from rfl,show(2:Int) ^ (8*6)=281474976710656 from rfl,show(2:Int) ^ (8*7)=72057594037927936 from rfl]at *
 clear h hb
 omega
theorem encF_inj:∀ (vs us:List Val),(∀ v∈vs,I64 v.1/\I64 v.2.1/\v.2.2.size<=1048576)->(∀ v∈us,I64 v.1/\I64 v.2.1/\v.2.2.size<=1048576)->encF vs=encF us->vs=us
 |[],[],_,_,_=>rfl
 |[],u :: us,_,_,h=>by
  have:=congrArg List.length h
  simp[encF,ZdF]at this
  omega
 |v :: vs,[],_,_,h=>by
  have:=congrArg List.length h
  simp[encF,ZdF]at this
 |v :: vs,u :: us,h1,h2,h=>by
  obtain⟨p1,p2,p3⟩:=h1 v (by simp)
  obtain⟨q1,q2,q3⟩:=h2 u (by simp)
  have e1:encF (v :: vs)=B8 v.1++(B8 v.2.1++(B8 (v.2.2.size:Int)++(v.2.2.data.toList.map (fun b=>(b.toNat:Int))++encF vs))):=by simp[encF,encV]
  have e2:encF (u :: us)=B8 u.1++(B8 u.2.1++(B8 (u.2.2.size:Int)++(u.2.2.data.toList.map (fun b=>(b.toNat:Int))++encF us))):=by simp[encF,encV]
  rw[e1,e2]at h
  obtain⟨k1,h⟩:=List.append_inj h (by rw[Zbo,Zbo])
  obtain⟨k2,h⟩:=List.append_inj h (by rw[Zbo,Zbo])
  obtain⟨k3,h⟩:=List.append_inj h (by rw[Zbo,Zbo])
  have c1:=B8_inj p1 q1 k1
  have c2:=B8_inj p2 q2 k2
  have c3:=B8_inj (m:=v.2.2.size) (n:=u.2.2.size) ⟨by omega,by omega⟩ ⟨by omega,by omega⟩ k3
  obtain⟨k4,h⟩:=List.append_inj h (by simp;exact_mod_cast c3)
  have c4:v.2.2=u.2.2:=by
   have:v.2.2.data.toList=u.2.2.data.toList:=by
    exact(List.map_inj_right (f:=fun b:UInt8=>(b.toNat:Int)) (fun a b hab=>UInt8.toNat_inj.1 (by exact_mod_cast hab))).1 k4
   exact Zcd (by rw[ByteArray.toList_eq,ByteArray.toList_eq];exact this)
  have:=encF_inj vs us (fun x hx=>h1 x (by simp[hx])) (fun x hx=>h2 x (by simp[hx])) h
  rw[this,show v=u from Prod.ext c1 (Prod.ext c2 c4)]
abbrev markV (r:Rw)(t:Int):Value:=.agg #[.string r.src,.int .i64 r.seq,.string r.tb,.string r.ky,.int .i64 r.ev,.int .i64 r.no,.int .i64 r.tk,.int .i64 t,.string (strOf (encF r.vs))]
theorem B8_snoc (n:Int)(i:Nat)(hi:i<8):(B8 n).take (i+1)=(B8 n).take i++[byteI n i]:=ZaO (by simp[B8,hi])
set_option maxHeartbeats 8000000 in
set_option maxRecDepth 100000 in
theorem mark_any (r:Rw)(t:Int)(w:World)(hr:r.Ok w):Calls prog 61 #[r.val,.int .i64 t] w fun e w'=>e=.returned (markV r t)/\Below w.heap.size w w':=by
 have HR:=hid hr.lies
 have hlen:=hr.len
 have HS:=hid hr.str
 clear hr
 dsimp only[Rw.val,markV]
 generalize hvs:r.vs=vs at *
 clear hvs
 go_enter func61,ntmps61
 go_upto_region 2 with fail
 refine Zam (fun W hW=>?_)
 have HW:Hid (Below w.heap.size w W):=by rw[hW];exact Zax _ _
 have HT:Hid (Box W w.heap.size #[.string r.src,.int .i64 r.seq,.string r.tb,.string r.ky,.int .i64 r.ev,.slice r.fa vs.length r.fc,.int .i64 r.no,.int .i64 r.tk] 68):=by rw[hW];exact(Box.new w _ _).kept (Zab _)
 have HZ:Hid (w.heap.size+1<W.heap.size):=by show _<_;rw[hW];simp
 have HTr:Hid (Box W (w.heap.size+1) #[.string ⟨#[]⟩,.int .i64 0,.string ⟨#[]⟩,.string ⟨#[]⟩,.int .i64 0,.int .i64 0,.int .i64 0,.int .i64 0,.string ⟨#[]⟩] 106):=by
  rw[hW]
  show Box _ _ _ _
  have:=Box.new (w.alloc (.cells #[.string r.src,.int .i64 r.seq,.string r.tb,.string r.ky,.int .i64 r.ev,.slice r.fa vs.length r.fc,.int .i64 r.no,.int .i64 r.tk] 68)) #[.string ⟨#[]⟩,.int .i64 0,.string ⟨#[]⟩,.string ⟨#[]⟩,.int .i64 0,.int .i64 0,.int .i64 0,.int .i64 0,.string ⟨#[]⟩] 106
  simpa using this
 obtain⟨t0,t1,t2,t3,t4,t5,t6,t7⟩:=HT.out.at8
 clear hW
 go_wp2_with fail
 clear t0 t1 t2 t3 t4 t5 t6 t7
 go_loopw [5,14] (fun v j wr=>∃ (i:Nat) (v0:Value),v0=v/\i<=vs.length/\j=.int .i64 i/\Hid (Own u8I 1 5 wr W.heap.size v (encF (vs.take i)))/\Below W.heap.size W wr) (fun _ j _=>vs.length - (intOf j).toNat)
 case atStart=>exact⟨0,_,rfl,by omega,rfl,Own.nil _ _,Below.refl _ _⟩
 case round =>
  obtain⟨i,v0,rfl,hi,rfl,HO,hB⟩:=hrel
  have HB:=hid hB
  clear hB
  obtain⟨wo,hwo⟩:∃ wo,wo=wr:=⟨_,rfl⟩
  subst hwo
  by_cases hlt:i<vs.length
  · obtain⟨x,hx⟩:∃ x,vs[i]?=some x:=⟨vs[i],List.getElem?_eq_getElem hlt⟩
    obtain⟨b,off,hfa,hrow⟩:=ZaT ((HR.out.kept HW.out).kept HB.out) hx
    obtain⟨c0,c1,c2⟩:=ZdP hrow hx
    have HX:=hid hx
    have HXs:Hid (x.2.2.size<=1048576):=HS.out x (List.mem_of_getElem? hx)
    have HEl:Hid ((encF (vs.take i)).length<=1100000000000):=by
     have h1:=ZdG (vs.take i) (fun v hv=>HS.out v (List.mem_of_mem_take hv))
     have h2:(vs.take i).length<=1048576:=by simp;omega
     have h3:=Nat.mul_le_mul_right 1048600 h2
     show _<=_
     omega
    clear hrow hx
    obtain⟨x0,x1,x2⟩:=x
    simp only at c0 c1 c2
    rw[hfa]
    go_wp2_with fail
    refine Zam (fun X hX=>?_)
    have HG1:Hid (Box X wo.heap.size #[.int .i64 x0,.int .i64 x1,.string x2] 37):=by rw[hX];exact(Box.new wo _ _).kept (Zab _)
    have HG2:Hid (Box X (wo.heap.size+1) #[.int .i64 x0,.int .i64 x1,.int .i64 (x2.size:Int)] 3):=by
     rw[hX]
     show Box _ _ _ _
     have:=Box.new (wo.alloc (.cells #[.int .i64 x0,.int .i64 x1,.string x2] 37)) #[.int .i64 x0,.int .i64 x1,.int .i64 (x2.size:Int)] 3
     simpa using this
    have HBX:Hid (Below wo.heap.size wo X):=by rw[hX];exact Zax _ _
    have HBag:Hid (Bag W X v0 (encF (vs.take i)) wo.heap.size (wo.heap.size+1)):=by
     refine⟨HO.out.kept HBX.out,keepB (Nat.le_refl _) HB.out HBX.out,?_,?_⟩<;>(intro e;have:=(HO.out.lt _ e).2;omega)
    clear hX c0 c1 c2
    generalize wo.heap.size=g1 at *
    have HEq:Hid (encF (vs.take (i+1))=encF (vs.take i)++(([x0,x1,(x2.size:Int)].flatMap B8)++x2.data.toList.map (fun b=>(b.toNat:Int)))):=by
     show _=_
     rw[encF_snoc HX.out]
     simp[encV]
    generalize encF (vs.take i)=acc at *
    have HLc:Hid (∀ (j:Nat) (c:Int),[x0,x1,(x2.size:Int)][j]?=some c->#[Value.int .i64 x0,.int .i64 x1,.int .i64 (x2.size:Int)][j]?=some (.int .i64 c)):=by
     intro j c hc
     match j,hc with
     |0,hc=>cases hc;rfl
     |1,hc=>cases hc;rfl
     |2,hc=>cases hc;rfl
    have HLl:Hid ([x0,x1,(x2.size:Int)].length=3):=rfl
    generalize [x0,x1,(x2.size:Int)]=L at *
    generalize hC1:#[Value.int .i64 x0,.int .i64 x1,.string x2]=C1 at *
    have HC1:=hid hC1
    clear hC1
    generalize #[Value.int .i64 x0,.int .i64 x1,.int .i64 (x2.size:Int)]=C2 at *
    go_loopw [5,27] (fun v jj wr=>∃ (j:Nat) (v1:Value),v1=v/\j<=3/\jj=.int .i64 j/\Hid (Bag W wr v (acc++(L.take j).flatMap B8) g1 (g1+1))/\Hid (Box wr g1 C1 37)/\Hid (Box wr (g1+1) C2 3)) (fun _ jj _=>3 - (intOf jj).toNat)
    case atStart=>exact⟨0,_,rfl,by omega,rfl,by show Bag _ _ _ _ _ _;simpa using HBag.out,HG1,HG2⟩
    case round =>
     obtain⟨j,v1,rfl,hj,rfl,HBag2,HG12,HG22⟩:=hrel
     obtain⟨w2,hw2⟩:∃ w2,w2=wr:=⟨_,rfl⟩
     subst hw2
     by_cases hjl:j<3
     · obtain⟨c,hc⟩:∃ c,L[j]?=some c:=⟨L[j]'(by rw[HLl.out];exact hjl),List.getElem?_eq_getElem _⟩
       have hcell:=HG22.out.cell j _ (HLc.out j c hc)
       have HF:Hid (acc++(L.take (j+1)).flatMap B8=acc++(L.take j).flatMap B8++B8 c):=by show _=_;rw[ZaO hc];simp
       have HA2:Hid ((acc++(L.take j).flatMap B8).length<=1200000000000):=by
        show _<=_
        have h1:=HEl.out
        have h2:((L.take j).flatMap B8).length<=24:=by
         have:∀ l:List Int,(l.flatMap B8).length=l.length*8:=by
          intro l
          induction l with
          |nil=>rfl
          |cons a l ih=>rw[List.flatMap_cons,List.length_append,ih,Zbo,List.length_cons];omega
         rw[this];simp;omega
        rw[List.length_append];omega
       clear hc
       generalize acc++(L.take j).flatMap B8=acc2 at *
       go_wp2_with fail
       rw[show decide ((j:Int)<3)=true from decide_eq_true (by omega)]
       go_loopw [5,31] (fun v jj wr=>∃ (q:Nat) (v2:Value),v2=v/\q<=8/\jj=.int .i64 q/\Hid (Bag W wr v (acc2++(B8 c).take q) g1 (g1+1))/\Hid (Box wr g1 C1 37)/\Hid (Box wr (g1+1) C2 3)) (fun _ jj _=>8 - (intOf jj).toNat)
       case atStart=>exact⟨0,_,rfl,by omega,rfl,by show Bag _ _ _ _ _ _;simpa using HBag2.out,HG12,HG22⟩
       case round =>
        obtain⟨q,v2,rfl,hq,rfl,HBag3,HG13,HG23⟩:=hrel
        by_cases hql:q<8
        · have HF3:Hid (acc2++(B8 c).take (q+1)=acc2++(B8 c).take q++[byteI c q]):=by show _=_;rw[B8_snoc c q hql,List.append_assoc]
          have HA3:Hid ((acc2++(B8 c).take q).length<=2000000000000):=by show _<=_;have:=HA2.out;rw[List.length_append];simp[Zbo];omega
          generalize acc2++(B8 c).take q=acc3 at *
          go_wp2_with (at_builtin;(refine wpList_byte HBag3.out HG13.out HG23.out rfl (.tmp 34) (.tmp 40) rfl rfl rfl HA3.out ?_);intro v3 w3 hb3 h13 h23;have HB4:=hid hb3;have HG14:=hid h13;have HG24:=hid h23;clear hb3 h13 h23)
          go_roundw
          case rel=>exact⟨q+1,_,rfl,by omega,by go_num,by rw[HF3.out];exact HB4.out,HG14,HG24⟩
          case measure=>simp[intOf];omega
        · obtain rfl:q=8:=by omega
          go_wp2_with fail
          go_roundw
          case rel=>exact⟨j+1,_,rfl,by omega,by go_num,by have:=HBag3.out;rw[List.take_of_length_le (by rw[Zbo];exact Nat.le_refl 8)]at this;rw[HF.out];exact this,HG13,HG23⟩
          case measure=>simp[intOf];omega
     · obtain rfl:j=3:=by omega
       have HFin:Hid (Bag W w2 v1 (acc++L.flatMap B8) g1 (g1+1)):=by have:=HBag2.out;rw[List.take_of_length_le (by rw[HLl.out];exact Nat.le_refl 3)]at this;exact this
       have HG12b:Hid (Box w2 g1 #[.int .i64 x0,.int .i64 x1,.string x2] 37):=by rw[HC1.out];exact HG12.out
       obtain⟨d0,d1,d2⟩:w2.cell? ⟨g1,0,none⟩=some (.int .i64 x0)/\w2.cell? ⟨g1,1,none⟩=some (.int .i64 x1)/\w2.cell? ⟨g1,2,none⟩=some (.string x2):=⟨HG12b.out.cell 0 _ rfl,HG12b.out.cell 1 _ rfl,HG12b.out.cell 2 _ rfl⟩
       have HLn:Hid ((acc++L.flatMap B8).length<=2000000000000):=by
        have:∀ l:List Int,(l.flatMap B8).length=l.length*8:=by
         intro l
         induction l with
         |nil=>rfl
         |cons a l ih=>rw[List.flatMap_cons,List.length_append,ih,Zbo,List.length_cons];omega
        show _<=_
        have h1:=HEl.out
        rw[List.length_append,this,HLl.out];omega
       have HSz:Hid (x2.size<=2000000000000):=by have:=HXs.out;show _<=_;omega
       have HBS:=hid HFin.out.below
       have HWs:Hid (W.heap.size<=w2.heap.size):=HFin.out.below.size
       have HEq2:Hid (encF (vs.take (i+1))=acc++L.flatMap B8++x2.data.toList.map (fun b=>(b.toNat:Int))):=by show _=_;rw[HEq.out,List.append_assoc]
       generalize acc++L.flatMap B8=acc4 at *
       have HOw:=hid HFin.out.own
       go_wp2_with (at_builtin;refine wpList_text HOw.out HWs.out rfl (.tmp 44) (.tmp 46) rfl rfl x2 rfl HLn.out HSz.out ?_;intro v5 w5 ho hb;have HO5:=hid ho;have HB5:=hid hb;clear ho hb)
       go_roundw
       case rel=>exact⟨i+1,_,rfl,by omega,by go_num,by rw[HEq2.out];exact HO5.out,HBS.out.trans HB5.out⟩
       case measure=>simp[intOf];omega
  · obtain rfl:i=vs.length:=by omega
    have HOf:Hid (Own u8I 1 5 wo W.heap.size v0 (encF vs)):=by have:=HO.out;rwa [List.take_length]at this
    have hconv:=run_strOf HOf.out
    obtain⟨t0,t1,t2,t3,t4,t5,t6,t7⟩:=(HT.out.kept HB.out).at8
    have HTf:=hid (HTr.out.kept HB.out)
    have f0:=HTf.out.free 0
    have f1:=HTf.out.free 1
    have f2:=HTf.out.free 2
    have f3:=HTf.out.free 3
    have f4:=HTf.out.free 4
    have f5:=HTf.out.free 5
    have f6:=HTf.out.free 6
    have f7:=HTf.out.free 7
    have f8:=HTf.out.free 8
    have k0:=HTf.out.cell 0 _ rfl
    have k1:=HTf.out.cell 1 _ rfl
    have k2:=HTf.out.cell 2 _ rfl
    have k3:=HTf.out.cell 3 _ rfl
    have k4:=HTf.out.cell 4 _ rfl
    have k5:=HTf.out.cell 5 _ rfl
    have k6:=HTf.out.cell 6 _ rfl
    have k7:=HTf.out.cell 7 _ rfl
    have k8:=HTf.out.cell 8 _ rfl
    go_wp2_with fail
    refine gen_exit (fun V5 h5=>?_)
    have HB5:Hid (Below w.heap.size w V5):=by rw[h5];exact((((((((((HW.out.trans (HB.out.mono HW.out.size)).setCell (by simp) _).setCell (by simp) _).setCell (by simp) _).setCell (by simp) _).setCell (by simp) _).setCell (by simp) _).setCell (by simp) _).setCell (by simp) _).setCell (by simp) _)
    have HT5:Hid (Box V5 (w.heap.size+1) #[.string r.src,.int .i64 r.seq,.string r.tb,.string r.ky,.int .i64 r.ev,.int .i64 r.no,.int .i64 r.tk,.int .i64 t,.string (strOf (encF vs))] 106):=by rw[h5];exact(((((((((HTf.out.put 0 _).put 1 _).put 2 _).put 3 _).put 4 _).put 5 _).put 6 _).put 7 _).put 8 _)
    clear h5 f0 f1 f2 f3 f4 f5 f6 f7 f8 k0 k1 k2 k3 k4 k5 k6 k7 k8 t0 t1 t2 t3 t4 t5 t6 t7
    have k0:=HT5.out.cell 0 _ rfl
    have k1:=HT5.out.cell 1 _ rfl
    have k2:=HT5.out.cell 2 _ rfl
    have k3:=HT5.out.cell 3 _ rfl
    have k4:=HT5.out.cell 4 _ rfl
    have k5:=HT5.out.cell 5 _ rfl
    have k6:=HT5.out.cell 6 _ rfl
    have k7:=HT5.out.cell 7 _ rfl
    have k8:=HT5.out.cell 8 _ rfl
    refine bodyPost_ret (v:=.agg #[.string r.src,.int .i64 r.seq,.string r.tb,.string r.ky,.int .i64 r.ev,.int .i64 r.no,.int .i64 r.tk,.int .i64 t,.string (strOf (encF vs))]) ?_ rfl ⟨rfl,HB5.out⟩
    simp[results,Tryz.results61,go_sem,k0,k1,k2,k3,k4,k5,k6,k7,k8]
open Go.Maps
theorem Tryz.laidOut:laidOutB prog=true:=by kernel_rfl
theorem wide75:(match prog.underlying 106 with|some (.array _ _)|some (.struct _)=>true|_=>false)=true:=by kernel_rfl
theorem wide36:(match prog.underlying 24 with|some (.array _ _)|some (.struct _)=>true|_=>false)=true:=by kernel_rfl
theorem row75:(106:TypeId)<prog.types.size:=of_decide_eq_true (by kernel_rfl)
theorem row36:(24:TypeId)<prog.types.size:=of_decide_eq_true (by kernel_rfl)
theorem at75:prog.keyTypeAt 3 106=true:=by kernel_rfl
theorem at36:prog.keyTypeAt 2 24=true:=by kernel_rfl
set_option maxRecDepth 100000 in
theorem law75:Keyed prog 106:=Keyed.of_law (deep_law_laid Tryz.laidOut (m:=3) (by omega) row75 at75 wide75)
set_option maxRecDepth 100000 in
theorem law36:Keyed prog 24:=Keyed.of_law (deep_law_laid Tryz.laidOut (m:=2) (by omega) row36 at36 wide36)
theorem depthT:prog.types.size+1=297+4:=by kernel_rfl
theorem cells75:prog.cellsOf 106=9:=by kernel_rfl
theorem cells36:prog.cellsOf 24=2:=by kernel_rfl
theorem cells9:prog.cellsOf 9=1:=by kernel_rfl
theorem cells3:prog.cellsOf 3=1:=by kernel_rfl
theorem keyLit_str (d:Nat)(s:ByteArray)(h:s.size<=maxLen):prog.keyLits (d+1) 9 [.string s]=some [.string s.data.toList]:=by
 simp[Program.keyLits,underlying9,h]
theorem keyLit_int (d:Nat)(n:Int)(h:I64 n):prog.keyLits (d+1) 3 [.int .i64 n]=some [.int .i64 n]:=by
 have hw:(Lit.int .i64 n).wf=true:=WalkArith.wf_i64 (by unfold I64 at h;omega)
 simp[Program.keyLits,underlying3,hw]
theorem keyLit_fid (d:Nat)(x:FID)(h:x.1.size<=maxLen)(h2:I64 x.2):prog.keyLits (d+2) 24 [.string x.1,.int .i64 x.2]=some [.string x.1.data.toList,.int .i64 x.2]:=by
 have hw:(Lit.int .i64 x.2).wf=true:=WalkArith.wf_i64 (by unfold I64 at h2;omega)
 simp[Program.keyLits,underlying24,underlying9,underlying3,cells36,cells9,cells3,h,hw]
theorem key36 (x:FID)(h:x.1.size<=maxLen)(h2:I64 x.2):keyOf prog 24 (fidV x)=some (.string (keyBytes [.string x.1.data.toList,.int .i64 x.2])):=by
 have hk:prog.keyType 24=true:=by kernel_rfl
 have hl:=keyLit_fid 299 x h h2
 unfold keyOf
 rw[underlying24,depthT]
 simp[hk,Value.formed,underlying24,cells36,Value.cells,hl]
structure OkF (x:FID):Prop where
 src:x.1.size<=1048576
 seq:I64 x.2
theorem OkF.max {x:FID}(h:OkF x):x.1.size<=maxLen:=Nat.le_trans h.src (by unfold maxLen;omega)
def keysF:Keyz prog 24 { x:FID // OkF x } where
 val:=fun x=>fidV x.1
 ok:=fun _=>True
 lit:=fun x=>.string (keyBytes [.string x.1.1.data.toList,.int .i64 x.1.2])
 of:=fun x _=>key36 x.1 x.2.max x.2.seq
 inj:=fun x y h=>by
  simp only[fidV,Value.agg.injEq,Array.mk.injEq,List.cons.injEq,Value.string.injEq,Value.int.injEq,and_true,true_and]at h
  exact Subtype.ext (Prod.ext h.1 h.2)
 law:=law36
abbrev markK (k:DK):Value:=.agg #[.string k.2.2.1.1,.int .i64 k.2.2.1.2,.string k.2.2.2.2.2.1,.string k.2.2.2.2.2.2.1,.int .i64 k.2.1,.int .i64 k.2.2.2.1,.int .i64 k.2.2.2.2.1,.int .i64 k.1,.string (strOf (encF k.2.2.2.2.2.2.2))]
structure OkM (k:DK):Prop where
 tick:I64 k.1
 ev:I64 k.2.1
 src:k.2.2.1.1.size<=1048576
 seq:I64 k.2.2.1.2
 no:I64 k.2.2.2.1
 tk:I64 k.2.2.2.2.1
 tb:k.2.2.2.2.2.1.size<=1048576
 ky:k.2.2.2.2.2.2.1.size<=1048576
 len:k.2.2.2.2.2.2.2.length<=1048576
 vals:∀ v∈k.2.2.2.2.2.2.2,I64 v.1/\I64 v.2.1/\v.2.2.size<=1048576
theorem strOf_fold (ns:List Int)(r:ByteArray):(ns.foldl (fun r n=>r.push (UInt8.ofNat n.toNat)) r).data.toList=r.data.toList++ns.map (fun n=>UInt8.ofNat n.toNat):=by
 induction ns generalizing r with
 |nil=>simp
 |cons n ns ih=>simp only[List.foldl_cons,List.map_cons];rw[ih];simp[ByteArray.push]
theorem strOf_list (ns:List Int):(strOf ns).data.toList=ns.map (fun n=>UInt8.ofNat n.toNat):=by
 unfold strOf;rw[strOf_fold];rfl
theorem strOf_size (ns:List Int):(strOf ns).size=ns.length:=by
 have:(strOf ns).data.toList.length=ns.length:=by rw[strOf_list];simp
 exact this
theorem encF_byte:∀ (vs:List Val),∀ n∈encF vs,0<=n/\n<256:=by
 intro vs n hn
 simp only[encF,List.mem_flatMap,encV,List.mem_append,List.mem_map]at hn
 have hb:∀ m,n∈B8 m->0<=n/\n<256:=by
  intro m hm
  simp only[B8,List.mem_map]at hm
  obtain⟨i,_,rfl⟩:=hm
  exact⟨Int.emod_nonneg _ (by decide),Int.emod_lt_of_pos _ (by decide)⟩
 obtain⟨v,_,((h|h)|h)|⟨b,_,rfl⟩⟩:=hn
 · exact hb _ h
 · exact hb _ h
 · exact hb _ h
 · have:=b.toNat_lt;omega
theorem strOf_inj {ns ms:List Int}(h1:∀ n∈ns,0<=n/\n<256)(h2:∀ n∈ms,0<=n/\n<256)(h:strOf ns=strOf ms):ns=ms:=by
 have e:=congrArg (fun s:ByteArray=>(s.data.toList.map (fun b=>(b.toNat:Int)))) h
 simp only[strOf_list,List.map_map]at e
 have key:∀ l:List Int,(∀ n∈l,0<=n/\n<256)->l.map ((fun b:UInt8=>(b.toNat:Int)) ∘ fun n:Int=>UInt8.ofNat n.toNat)=l:=by
  intro l hl
  conv=>rhs;rw[<-List.map_id l]
  refine List.map_congr_left (fun n hn=>?_)
  have:=hl n hn
  simp[UInt8.toNat_ofNat']
  omega
 rw[key ns h1,key ms h2]at e
 exact e
theorem OkM.fields {k:DK}(h:OkM k):(strOf (encF k.2.2.2.2.2.2.2)).size<=maxLen:=by
 rw[strOf_size]
 have h1:=ZdG _ (fun v hv=>(h.vals v hv).2.2)
 have h2:=Nat.mul_le_mul_right 1048600 h.len
 unfold maxLen
 omega
theorem markK_inj {k k':DK}(h:OkM k)(h':OkM k')(e:markK k=markK k'):k=k':=by
 obtain⟨a,b,⟨c,d⟩,e1,f,g,i,j⟩:=k
 obtain⟨a',b',⟨c',d'⟩,e1',f',g',i',j'⟩:=k'
 simp only[markK,Value.agg.injEq,Array.mk.injEq,List.cons.injEq,Value.string.injEq,Value.int.injEq,and_true,true_and]at e
 obtain⟨p1,p2,p3,p4,p5,p6,p7,p8,p9⟩:=e
 have q:=encF_inj _ _ h.vals h'.vals (strOf_inj (encF_byte _) (encF_byte _) p9)
 simp only at q
 subst p1 p2 p3 p4 p5 p6 p7 p8 q
 rfl
set_option maxHeartbeats 2000000 in
set_option maxRecDepth 100000 in
theorem lits75 (a c d i:ByteArray)(b e f g h:Int)(ha:a.size<=maxLen)(hc:c.size<=maxLen)(hd:d.size<=maxLen)(hi:i.size<=maxLen)(hb:I64 b)(he:I64 e)(hf:I64 f)(hg:I64 g)(hh:I64 h) :
 prog.keyLits 301 106 [.string a,.int .i64 b,.string c,.string d,.int .i64 e,.int .i64 f,.int .i64 g,.int .i64 h,.string i]
  = some [.string a.data.toList,.int .i64 b,.string c.data.toList,.string d.data.toList,.int .i64 e,.int .i64 f,.int .i64 g,.int .i64 h,.string i.data.toList]:=by
 have e36:prog.keyLits 300 24 [.string a,.int .i64 b]=some [.string a.data.toList,.int .i64 b]:=keyLit_fid 298 (a,b) ha hb
 have e9:∀ s:ByteArray,s.size<=maxLen->prog.keyLits 300 9 [.string s]=some [.string s.data.toList]:=fun s hs=>keyLit_str 299 s hs
 have e3:∀ n:Int,I64 n->prog.keyLits 300 3 [.int .i64 n]=some [.int .i64 n]:=fun n hn=>keyLit_int 299 n hn
 have c9:=e9 c hc
 have d9:=e9 d hd
 have i9:=e9 i hi
 have e3':=e3 e he
 have f3:=e3 f hf
 have g3:=e3 g hg
 have h3:=e3 h hh
 clear e9 e3
 unfold Program.keyLits
 simp only[underlying106,cells75,cells36,cells9,cells3]
 simp
 simp only[cells36,cells9,cells3,List.take_succ_cons,List.take_zero,e36,c9,d9,i9,e3',f3,g3,h3,Option.bind_some,Function.comp]
 rfl
set_option maxHeartbeats 2000000 in
set_option maxRecDepth 100000 in
theorem key75v (a c d i:ByteArray)(b e f g h:Int)(ha:a.size<=maxLen)(hc:c.size<=maxLen)(hd:d.size<=maxLen)(hi:i.size<=maxLen)(hb:I64 b)(he:I64 e)(hf:I64 f)(hg:I64 g)(hh:I64 h) :
 keyOf prog 106 (.agg #[.string a,.int .i64 b,.string c,.string d,.int .i64 e,.int .i64 f,.int .i64 g,.int .i64 h,.string i])=some (.string (keyBytes [.string a.data.toList,.int .i64 b,.string c.data.toList,.string d.data.toList,.int .i64 e,.int .i64 f,.int .i64 g,.int .i64 h,.string i.data.toList])):=by
 have hk:prog.keyType 106=true:=by kernel_rfl
 have hl:=lits75 a c d i b e f g h ha hc hd hi hb he hf hg hh
 unfold keyOf
 rw[underlying106,depthT]
 simp[hk,Value.formed,underlying106,cells75,Value.cells,hl]
theorem key75 (k:DK)(h:OkM k):keyOf prog 106 (markK k)=some (.string (keyBytes [.string k.2.2.1.1.data.toList,.int .i64 k.2.2.1.2,.string k.2.2.2.2.2.1.data.toList,.string k.2.2.2.2.2.2.1.data.toList,.int .i64 k.2.1,.int .i64 k.2.2.2.1,.int .i64 k.2.2.2.2.1,.int .i64 k.1,.string (strOf (encF k.2.2.2.2.2.2.2)).data.toList])):=by
 have hm:∀ s:ByteArray,s.size<=1048576->s.size<=maxLen:=fun s hs=>Nat.le_trans hs (by unfold maxLen;omega)
 exact key75v _ _ _ _ _ _ _ _ _ (hm _ h.src) (hm _ h.tb) (hm _ h.ky) h.fields h.seq h.ev h.no h.tk h.tick
def keysM:Keyz prog 106 { k:DK // OkM k } where
 val:=fun k=>markK k.1
 ok:=fun _=>True
 lit:=fun k=>.string (keyBytes [.string k.1.2.2.1.1.data.toList,.int .i64 k.1.2.2.1.2,.string k.1.2.2.2.2.2.1.data.toList,.string k.1.2.2.2.2.2.2.1.data.toList,.int .i64 k.1.2.1,.int .i64 k.1.2.2.2.1,.int .i64 k.1.2.2.2.2.1,.int .i64 k.1.1,.string (strOf (encF k.1.2.2.2.2.2.2.2)).data.toList])
 of:=fun k _=>key75 k.1 k.2
 inj:=fun x y h=>Subtype.ext (markK_inj x.2 y.2 h)
 law:=law75
theorem Dl.Ok.mark {w:World}{d:Dl}(h:d.Ok w):OkM d.key :=
 ⟨h.tick,h.r.ints.2.1,h.r.src,h.r.ints.1,h.r.ints.2.2.1,h.r.ints.2.2.2,h.r.tb,h.r.ky,h.r.len,fun v hv=>⟨(h.r.val v hv).1,(h.r.val v hv).2,h.r.str v hv⟩⟩
set_option linter.unusedSectionVars false
section
variable {P:Program} {kt:TypeId} {κ β:Type} [DecidableEq κ] {Z:Keyz P kt κ} {w w':World} {b r n cnt:Nat} {F:κ->Option β} {mkV:β->Value} {left:κ->Bool}
def tabV (F:κ->Option β)(mkV:β->Value):κ->Option Value:=fun k=>(F k).map mkV
def putF (F:κ->Option β)(k:κ)(d:β):κ->Option β:=fun x=>if x=k then some d else F x
theorem putT_tabV (k:κ)(d:β):putT (tabV F mkV) k (mkV d)=tabV (putF F k d) mkV:=by
 funext x
 unfold putT tabV putF
 split<;>rfl
theorem Tab.blocks {T:κ->Option Value}(h:Tab w Z b n T)(e:w'.heap[b]?=w.heap[b]?):Tab w' Z b n T:=by
 obtain⟨D,⟨es,clock,hb,F,hs,hD⟩,h2⟩:=h
 exact⟨D,⟨es,clock,e.trans hb,F,hs,hD⟩,h2⟩
theorem Tabs.blocks {T:κ->Option Value}(h:Tabs w Z b r n T left cnt)(e:w'.heap[b]?=w.heap[b]?)(e2:w'.heap[r]?=w.heap[r]?):Tabs w' Z b r n T left cnt:=by
 obtain⟨D,L,⟨es,clock,since,seen,c0,hb,F,hs,hD,hr,rest⟩,h2⟩:=h
 exact⟨D,L,⟨es,clock,since,seen,c0,e.trans hb,F,hs,hD,e2.trans hr,rest⟩,h2⟩
theorem Tabs.below {T:κ->Option Value}{B:Nat}(h:Tabs w Z b r n T left cnt)(hb:Below B w w')(h1:b<B)(h2:r<B):Tabs w' Z b r n T left cnt:=h.blocks (hb.block b h1) (hb.block r h2)
theorem Tabs.lt {T:κ->Option Value}(h:Tabs w Z b r n T left cnt):r<w.heap.size:=let ⟨D,L,h1,_⟩:=h;h1.lt
variable {ops:Array Oper} {rest:List Oper} {o:Oper} {a:Act} {Q:Exit->Act->World->Prop}
theorem ZeF (hg:o.guard=none)(m x:Operand)(t:TypeId)(hop:o.op=Op.lookup t m x true)(e:TypeId)(ht:P.underlying t=some (.map kt e)){z:Value}(hz:(zeroValue e).run P w=.ok z w)
 (hm:a.eval m=.map (some b)) (h:Tab w Z b n (tabV F mkV)) (k:κ) (hx:a.eval x=Z.val k) (hk:Z.ok k) (hF:F k=none) (hK:wpList P ops Q rest (a.put o.dst (.tuple #[z,.bool false])) w):wpList P ops Q (o :: rest) a w:=by
 refine Zdv hg m x t hop e ht hz hm h k hx hk ?_
 have:tabV F mkV k=none:=by unfold tabV;rw[hF];rfl
 rw[this];exact hK
theorem ZeE (hg:o.guard=none)(m x:Operand)(t:TypeId)(hop:o.op=Op.lookup t m x true)(e:TypeId)(ht:P.underlying t=some (.map kt e)){z:Value}(hz:(zeroValue e).run P w=.ok z w)
 (hm:a.eval m=.map (some b)) (h:Tab w Z b n (tabV F mkV)) (k:κ) (hx:a.eval x=Z.val k) (hk:Z.ok k) (d:β) (hF:F k=some d) (hK:wpList P ops Q rest (a.put o.dst (.tuple #[mkV d,.bool true])) w):wpList P ops Q (o :: rest) a w:=by
 refine Zdv hg m x t hop e ht hz hm h k hx hk ?_
 have:tabV F mkV k=some (mkV d):=by unfold tabV;rw[hF];rfl
 rw[this];exact hK
theorem Zb6 (hg:o.guard=none)(m x v:Operand)(t:TypeId)(hop:o.op=Op.mapUpdate t m x v)(e:TypeId)(ht:P.underlying t=some (.map kt e))
 (hm:a.eval m=.map (some b)) (h:Tab w Z b n (tabV F mkV)) (hn:n<maxLen) (k:κ) (hx:a.eval x=Z.val k) (hk:Z.ok k) (d:β) (hv:a.eval v=mkV d)
 (hK:∀ w',Tab w' Z b (n+1) (tabV (putF F k d) mkV)->w.grownBy w' (some b)->wpList P ops Q rest (a.put o.dst undef) w'):wpList P ops Q (o :: rest) a w :=
 wpList_store hg m x v t hop e ht hm h hn k hx hk (mkV d) hv (fun w' h1 h2=>hK w' (by rw[<-putT_tabV];exact h1) h2)
theorem wpList_step (hg:o.guard=none)(it:Operand)(hop:o.op=Op.next it false)(mkK:κ->Value)(eK:∀ k,Z.val k=mkK k)(hit:a.eval it=.pointer (some ⟨r,0,none⟩))(h:Tabs w Z b r n (tabV F mkV) left cnt)
 (hDone:(∀ k,Z.ok k->left k=false)->wpList P ops Q rest (a.put o.dst (.tuple #[.bool false])) w)
 (hMore:∀ k d w' cnt',Z.ok k->left k=true->F k=some d->Tabs w' Z b r n (tabV F mkV) (fun x=>left x&&!decide (x=k)) cnt'->cnt' < cnt->w.grownBy w' (some r)->w'.heap.size=w.heap.size ->
  (Instr.entry (.pointer (some ⟨r,0,none⟩))).run P w'=.ok (.tuple #[mkK k,mkV d]) w'->wpList P ops Q rest (a.put o.dst (.tuple #[.bool true,mkK k,mkV d])) w') :
 wpList P ops Q (o :: rest) a w:=by
 refine wpList_plain hg fun K' hK'=>?_
 unfold Oper.wp
 rcases h.next o.type with⟨hl,hrun⟩|⟨k,v,w',cnt',hk,hlk,hv,hrun,hrg,hlt,hgr,hsz,hen⟩
 · simp[execOp,hop,hit,hrun,Result.andThen]
   exact hK' _ _ (hDone hl)
 · obtain⟨d,hd,rfl⟩:∃ d,F k=some d/\mkV d=v:=by
     unfold tabV at hv
     cases hq:F k with
     |none=>rw[hq]at hv;cases hv
     |some d=>rw[hq]at hv;injection hv with hv;exact⟨d,rfl,hv⟩
   rw[eK]at hrun hen
   simp[execOp,hop,hit,hrun,Result.andThen]
   exact hK' _ _ (hMore k d w' cnt' hk hlk hd hrg hlt hgr hsz hen)
def ZeY (Z:Keyz P kt κ)(left:κ->Bool)(R:Prop):Prop:=(∀ k,Z.ok k->left k=false)->R
def ZeX (Z:Keyz P kt κ)(w:World)(b r n:Nat)(F:κ->Option β)(mkV:β->Value)(left:κ->Bool)(cnt:Nat)(mkK:κ->Value)(R:Value->World->Prop):Prop :=
 ∀ k d w' cnt',Z.ok k->left k=true->F k=some d->Tabs w' Z b r n (tabV F mkV) (fun x=>left x&&!decide (x=k)) cnt'->cnt' < cnt->w.grownBy w' (some r)->w'.heap.size=w.heap.size ->
  (Instr.entry (.pointer (some ⟨r,0,none⟩))).run P w'=.ok (.tuple #[mkK k,mkV d]) w'->R (.tuple #[.bool true,mkK k,mkV d]) w'
theorem ZcU (hg:o.guard=none)(it:Operand)(hop:o.op=Op.next it false)(mkK:κ->Value)(eK:∀ k,Z.val k=mkK k)(hit:a.eval it=.pointer (some ⟨r,0,none⟩))(h:Tabs w Z b r n (tabV F mkV) left cnt)
 (hDone:ZeY Z left (wpList P ops Q rest (a.put o.dst (.tuple #[.bool false])) w))
 (hMore:ZeX Z w b r n F mkV left cnt mkK (fun v w'=>wpList P ops Q rest (a.put o.dst v) w')) :
 wpList P ops Q (o :: rest) a w:=wpList_step hg it hop mkK eK hit h hDone hMore
end
structure Sums (w0:World) (L:List Dl) (F:{ k:DK // OkM k }->Option Dl):Prop where
 says:∀ k d,F k=some d->d.Ok w0/\d.key=k.1/\d.n=sumK (L.map Dl.kn) k.1
 all:∀ d∈L,∀ h:OkM d.key,∃ e,F ⟨d.key,h⟩=some e
theorem sumK_none {L:List (DK × Int)}{k:DK}(h:∀ x∈L,x.1≠k):sumK L k=0:=by
 have:∀ (L:List (DK × Int)) (s:Int),(∀ x∈L,x.1≠k)->L.foldl (fun s x=>if x.1=k then IntKind.i64.wrap (x.2+s)else s) s=s:=by
  intro L
  induction L with
  |nil=>intro s _;rfl
  |cons x L ih=>intro s h;simp only[List.foldl_cons];rw[if_neg (h x (by simp))];exact ih s (fun y hy=>h y (by simp[hy]))
 exact this L 0 h
theorem I64.wrapped {n:Int}(h:I64 n):IntKind.i64.wrap n=n:=IntWalk.i64_in _ (by unfold I64 at h;omega)
theorem Sums.nil (w0:World):Sums w0 [] (fun _=>none):=⟨fun k d h=>(by cases h),fun d h=>(by cases h)⟩
theorem Sums.fresh {w0:World}{L:List Dl}{F:{ k:DK // OkM k }->Option Dl}(h:Sums w0 L F){x:Dl}(hx:x.Ok w0)(hF:F ⟨x.key,hx.mark⟩=none):Sums w0 (L++[x]) (putF F ⟨x.key,hx.mark⟩ x):=by
 have hno:∀ y∈L.map Dl.kn,y.1≠x.key:=by
  intro y hy e
  obtain⟨d,hd,rfl⟩:=List.mem_map.1 hy
  have e':d.key=x.key:=e
  obtain⟨q,hq⟩:=h.all d hd (e' ▸ hx.mark)
  rw[show(⟨d.key,e' ▸ hx.mark⟩:{ k:DK // OkM k })=⟨x.key,hx.mark⟩ from Subtype.ext e',hF]at hq
  cases hq
 refine⟨fun k d hd=>?_,fun d hd hm=>?_⟩
 · unfold putF at hd
   split at hd
   · rename_i e
     injection hd with hd
     subst hd e
     refine⟨hx,rfl,?_⟩
     rw[List.map_append,List.map_singleton,Zc1,sumK_none hno]
     show x.n=if x.key=x.key then _ else _
     rw[if_pos rfl,Int.add_zero]
     exact hx.n.wrapped.symm
   · rename_i e
     obtain⟨h1,h2,h3⟩:=h.says k d hd
     refine⟨h1,h2,?_⟩
     rw[List.map_append,List.map_singleton,Zc1,h3]
     have hne:x.kn.1≠k.1:=fun q=>e (Subtype.ext q.symm)
     rw[if_neg hne]
 · by_cases e:d.key=x.key
   · exact⟨x,by unfold putF;rw[if_pos (Subtype.ext e)]⟩
   · simp only[List.mem_append,List.mem_singleton]at hd
     rcases hd with hd|rfl
     · obtain⟨q,hq⟩:=h.all d hd hm
       exact⟨q,by unfold putF;rw[if_neg (fun u=>e (congrArg Subtype.val u))];exact hq⟩
     · exact absurd rfl e
theorem Sums.again {w0:World}{L:List Dl}{F:{ k:DK // OkM k }->Option Dl}(h:Sums w0 L F){x d:Dl}(hx:x.Ok w0)(hF:F ⟨x.key,hx.mark⟩=some d):Sums w0 (L++[x]) (putF F ⟨x.key,hx.mark⟩ (x.withN (IntKind.i64.wrap (x.n+d.n)))):=by
 obtain⟨-,-,hd3⟩:=h.says _ _ hF
 refine⟨fun k e he=>?_,fun e he hm=>?_⟩
 · unfold putF at he
   split at he
   · rename_i q
     injection he with he
     subst he q
     refine⟨{ hx with n:=I64.wrap _ },rfl,?_⟩
     rw[List.map_append,List.map_singleton,Zc1,<-hd3]
     show IntKind.i64.wrap (x.n+d.n)=if x.key=x.key then IntKind.i64.wrap (x.n+d.n)else _
     rw[if_pos rfl]
   · rename_i q
     obtain⟨h1,h2,h3⟩:=h.says k e he
     refine⟨h1,h2,?_⟩
     rw[List.map_append,List.map_singleton,Zc1,h3]
     have hne:x.kn.1≠k.1:=fun u=>q (Subtype.ext u.symm)
     rw[if_neg hne]
 · by_cases q:e.key=x.key
   · exact⟨_,by unfold putF;rw[if_pos (Subtype.ext q)]⟩
   · simp only[List.mem_append,List.mem_singleton]at he
     rcases he with he|rfl
     · obtain⟨u,hu⟩:=h.all e he hm
       exact⟨u,by unfold putF;rw[if_neg (fun y=>q (congrArg Subtype.val y))];exact hu⟩
     · exact absurd rfl q
structure Took (w0:World) (S:DK->Int) (F:{ k:DK // OkM k }->Option Dl) (left:{ k:DK // OkM k }->Bool) (xs:List Dl):Prop where
 mem:∀ d∈xs,d.Ok w0/\d.n=S d.key/\d.n≠0/\∃ h:OkM d.key,left ⟨d.key,h⟩=false
 out:∀ k d,F k=some d->left k=false->S k.1=0∨∃ e∈xs,e.key=k.1
 nodup:(xs.map Dl.key).Nodup
theorem Took.start (w0:World)(S:DK->Int)(F:{ k:DK // OkM k }->Option Dl):Took w0 S F (fun k=>(tabV F Dl.val k).isSome) [] :=
 ⟨fun d h=>(by cases h),fun k d h hl=>(by unfold tabV at hl;rw[h]at hl;cases hl),List.Pairwise.nil⟩
theorem Took.skip {w0:World}{S:DK->Int}{F:{ k:DK // OkM k }->Option Dl}{left:{ k:DK // OkM k }->Bool}{xs:List Dl}(h:Took w0 S F left xs){k:{ k:DK // OkM k }}{d:Dl}(hd:d.n=S k.1)(h0:d.n=0) :
 Took w0 S F (fun x=>left x&&!decide (x=k)) xs:=by
 refine⟨fun e he=>?_,fun x e hx hl=>?_,h.nodup⟩
 · obtain⟨h1,h2,h3,h4,h5⟩:=h.mem e he
   exact⟨h1,h2,h3,h4,by rw[h5];rfl⟩
 · by_cases q:x=k
   · subst q;exact Or.inl (hd ▸ h0)
   · refine h.out x e hx ?_
     simpa [q]using hl
theorem Took.take {w0:World}{S:DK->Int}{F:{ k:DK // OkM k }->Option Dl}{left:{ k:DK // OkM k }->Bool}{xs:List Dl}(h:Took w0 S F left xs){k:{ k:DK // OkM k }}{d:Dl}(hok:d.Ok w0)(hk:d.key=k.1)(hl:left k=true)(hd:d.n=S k.1)(h0:d.n≠0) :
 Took w0 S F (fun x=>left x&&!decide (x=k)) (xs++[d]):=by
 refine⟨fun e he=>?_,fun x e hx hl=>?_,?_⟩
 · simp only[List.mem_append,List.mem_singleton]at he
   rcases he with he|rfl
   · obtain⟨h1,h2,h3,h4,h5⟩:=h.mem e he
     exact⟨h1,h2,h3,h4,by rw[h5];rfl⟩
   · exact⟨hok,by rw[hk];exact hd,h0,hk ▸ k.2,by
       have:(⟨e.key,hk ▸ k.2⟩:{ k:DK // OkM k })=k:=Subtype.ext hk
       rw[this];simp⟩
 · by_cases q:x=k
   · subst q;exact Or.inr ⟨d,by simp,hk⟩
   · rcases h.out x e hx (by simpa [q]using hl)with u|⟨u,hu,hu2⟩
     · exact Or.inl u
     · exact Or.inr ⟨u,by simp[hu],hu2⟩
 · rw[List.map_append,List.map_singleton,List.nodup_append]
   refine⟨h.nodup,by simp,?_⟩
   intro x hx y hy e
   simp only[List.mem_singleton]at hy
   subst hy
   obtain⟨u,hu,rfl⟩:=List.mem_map.1 hx
   obtain⟨-,-,-,h4,h5⟩:=h.mem u hu
   have e2:(⟨u.key,h4⟩:{ k:DK // OkM k })=k:=Subtype.ext (e.trans hk)
   rw[e2,hl]at h5
   cases h5
theorem Zb1 (L:List (DK × Int))(hL:∀ x∈L,I64 x.2):ZbU cmpD (sumK L) (consK L):=by
 have:∀ (M:List (DK × Int)) (N:List (DK × Int)) (r:List (DK × Int)),(∀ x∈M,I64 x.2)->ZbU cmpD (sumK N) r->ZbU cmpD (sumK (N++M)) (M.foldl (putK cmpD) r):=by
  intro M
  induction M with
  |nil=>intro N r _ h;rw[List.append_nil];exact h
  |cons x M ih =>
   intro N r hM h
   have:=ih (N++[x]) (putK cmpD r x) (fun y hy=>hM y (by simp[hy])) (h.put ZaW ((hM x (by simp)).wrapped))
   rw[List.append_assoc]at this
   exact this
 have:=this L [] [] hL ZbU.nil
 unfold consK
 simpa using this
theorem Took.done {w0:World}{L:List Dl}{F:{ k:DK // OkM k }->Option Dl}{left:{ k:DK // OkM k }->Bool}{xs p:List Dl}(hs:Sums w0 L F)(hok:∀ d∈L,d.Ok w0)(h:Took w0 (sumK (L.map Dl.kn)) F left xs)(hl:∀ k,left k=false)
 (hp:xs.Perm p) (hr:p.Pairwise (fun x y=>¬ cmpD y.key x.key<0)):p.map Dl.kn=consK (L.map Dl.kn)/\∀ d∈p,d.Ok w0:=by
 have hm:∀ d∈p,d∈xs:=fun d hd=>hp.mem_iff.2 hd
 refine⟨?_,fun d hd=>(h.mem d (hm d hd)).1⟩
 have hnd:(p.map Dl.key).Nodup:=(hp.map Dl.key).nodup_iff.1 h.nodup
 have hris:Rising cmpD (p.map Dl.kn):=by
  unfold Rising
  rw[List.pairwise_map]
  have h2:p.Pairwise (fun x y=>x.key≠y.key):=by
   have:=hnd
   unfold List.Nodup at this
   rwa [List.pairwise_map]at this
  refine(hr.and h2).imp ?_
  rintro x y ⟨a1,a2⟩
  show cmpD x.key y.key<0
  have t1:=ZaW.turn x.key y.key
  have t2:=ZaW.turn y.key x.key
  have t3:cmpD x.key y.key≠0:=fun e=>a2 ((ZaW.zero _ _).1 e)
  omega
 have hL:∀ x∈L.map Dl.kn,I64 x.2:=fun x hx=>by obtain⟨d,hd,rfl⟩:=List.mem_map.1 hx;exact(hok d hd).n
 refine ZbU.unique ZaW ⟨hris,fun x hx=>?_,fun k=>?_⟩ (Zb1 _ hL)
 · obtain⟨d,hd,rfl⟩:=List.mem_map.1 hx
   exact(h.mem d (hm d hd)).2.2.1
 · by_cases h0:sumK (L.map Dl.kn) k=0
   · rw[h0]
     refine Zd8 _ (fun z hz e=>?_)
     obtain⟨d,hd,rfl⟩:=List.mem_map.1 hz
     obtain⟨-,h2,h3,-⟩:=h.mem d (hm d hd)
     have e':d.key=k:=e
     rw[e',h0]at h2
     exact h3 h2
   · have hex:∃ x∈L.map Dl.kn,x.1=k:=by
       cases Classical.em (∃ x∈L.map Dl.kn,x.1=k)with
       |inl q=>exact q
       |inr q=>exact absurd (sumK_none (fun x hx e=>q ⟨x,hx,e⟩)) h0
     obtain⟨x,hx,rfl⟩:=hex
     obtain⟨d,hd,rfl⟩:=List.mem_map.1 hx
     obtain⟨e,he⟩:=hs.all d hd (hok d hd).mark
     rcases h.out _ _ he (hl _)with q|⟨u,hu,hu2⟩
     · exact absurd q h0
     · have hu2':u.key=d.key:=hu2
       refine look_mem ZaW _ hris ?_
       have hun:=(h.mem u hu).2.1
       rw[hu2']at hun
       refine List.mem_map.2 ⟨u,hp.mem_iff.1 hu,?_⟩
       show(u.key,u.n)=_
       rw[hun,hu2'];rfl
def SlD (w:World)(v:Value)(l:List Dl):Prop:=∃ ao c,v=.slice ao l.length c/\l.length<=c/\(ao=none->c=0)/\DlsAt w ao l
theorem SlD.kept {w w':World}{v:Value}{l:List Dl}(h:SlD w v l)(hb:Below w.heap.size w w'):SlD w' v l:=let ⟨a,c,h1,h2,h3,h4⟩:=h;⟨a,c,h1,h2,h3,h4.kept hb⟩
theorem OwnD.slD {w:World}{B:Nat}{v:Value}{l:List Dl}(h:OwnD w B v l):SlD w v l:=h.lies
abbrev zeroD:Value:=.agg #[.string ⟨#[]⟩,.int .i64 0,.string ⟨#[]⟩,.string ⟨#[]⟩,.int .i64 0,.slice none 0 0,.int .i64 0,.int .i64 0,.int .i64 0,.int .i64 0]
theorem zero41 (w:World):(zeroValue 70).run prog w=.ok zeroD w:=Tryz.zeroValue70 w
theorem Box.at9 {w:World}{g:Nat}{t:TypeId}{a0 a1 a2 a3 a4 a5 a6 a7 a8:Value}(h:Box w g #[a0,a1,a2,a3,a4,a5,a6,a7,a8] t):w.cell? ⟨g,0,none⟩=some a0/\w.cell? ⟨g,1,none⟩=some a1/\w.cell? ⟨g,2,none⟩=some a2/\w.cell? ⟨g,3,none⟩=some a3/\w.cell? ⟨g,4,none⟩=some a4/\w.cell? ⟨g,5,none⟩=some a5/\w.cell? ⟨g,6,none⟩=some a6/\w.cell? ⟨g,7,none⟩=some a7/\w.cell? ⟨g,8,none⟩=some a8 :=
 ⟨h.cell 0 _ rfl,h.cell 1 _ rfl,h.cell 2 _ rfl,h.cell 3 _ rfl,h.cell 4 _ rfl,h.cell 5 _ rfl,h.cell 6 _ rfl,h.cell 7 _ rfl,h.cell 8 _ rfl⟩
theorem Tabs.cnt_le {P:Program}{kt:TypeId}{κ:Type}{Z:Keyz P kt κ}{w:World}{b r n cnt:Nat}{T:κ->Option Value}{left:κ->Bool}(h:Tabs w Z b r n T left cnt):cnt<=n:=by
 obtain⟨D,L,⟨es,clock,since,seen,c0,hb,F,hs,hD,hr,ho,hc,rest⟩,h2⟩:=h
 rw[<-hc]
 refine Nat.le_trans ?_ hs
 unfold leftOf
 exact Array.size_filter_le
theorem Own.grow {α:Type}{enc:α->List Value}{k:Nat}{e:TypeId}{w w':World}{B:Nat}{v:Value}{l:List α}{r:Nat}(h:Own enc k e w B v l)(hg:w.grownBy w' (some r))(hr:r<B):Own enc k e w' B v l:=by
 refine⟨h.1,?_⟩
 rcases h.2 with h|⟨g,cap,cur,h1,h2,h3,h4⟩
 · exact Or.inl h
 · exact Or.inr ⟨g,cap,cur,h1,h2,(hg.block g (Array.getElem?_eq_some_iff.1 h3).1 (by simp;omega)).trans h3,h4⟩
set_option maxHeartbeats 8000000 in
set_option maxRecDepth 100000 in
theorem Zda (l:List Dl)(ao:Option Addr)(cap:Nat)(hl:l.length<=10000000)(w:World)(h:DlsAt w ao l) :
 Calls prog 32 #[.slice ao l.length cap] w fun e w'=>∃ v l',e=.returned v/\SlD w' v l'/\l'.length<=l.length/\l'.map Dl.kn=consK (l.map Dl.kn)/\Below w.heap.size w w':=by
 have H:=hid h.1
 have HOK:=hid h.2
 clear h
 have hmm:=@run_makeMap prog
 go_enter func32,ntmps32
 go_wp2_with fail
 go_loopw [14] (fun jj wr=>∃ (i:Nat) (F:{ k:DK // OkM k }->Option Dl),i<=l.length/\jj=.int .i64 i/\Hid (Tab wr keysM w.heap.size i (tabV F Dl.val))/\Hid (Sums w (l.take i) F)/\Below w.heap.size w wr) (fun jj _=>l.length - (intOf jj).toNat)
 case atStart=>exact⟨0,fun _=>none,by omega,rfl,ZdV w keysM,Sums.nil w,Zab _⟩
 case round =>
  obtain⟨i,F,hi,rfl,HTab,HSum,hB⟩:=hrel
  have HB:=hid hB
  clear hB
  obtain⟨wo,hwo⟩:∃ wo,wo=wr:=⟨_,rfl⟩
  subst hwo
  by_cases hlt:i<l.length
  · obtain⟨x,hx⟩:∃ x,l[i]?=some x:=⟨l[i],List.getElem?_eq_getElem hlt⟩
    obtain⟨b,off,rfl,hrow⟩:=ZaT (H.out.kept HB.out) hx
    obtain⟨c0,c1,c2,c3,c4,c5,c6,c7,c8,c9⟩:=Dl.cell hrow hx
    have HX:=hid hx
    have HXO:Hid (x.Ok w):=HOK.out x (List.mem_of_getElem? hx)
    clear hrow hx
    go_upto_region 5 with fail
    refine Zam (fun X hX=>?_)
    have HWX:Hid (Below w.heap.size w X):=by rw[hX];exact HB.out.alloc HB.out.size _
    have HG:Hid (Box X wo.heap.size #[.string x.r.src,.int .i64 x.r.seq,.string x.r.tb,.string x.r.ky,.int .i64 x.r.ev,.slice x.r.fa x.r.vs.length x.r.fc,.int .i64 x.r.no,.int .i64 x.r.tk,.int .i64 x.tick,.int .i64 x.n] 70):=by rw[hX];exact Box.new _ _ _
    have HTX:Hid (Tab X keysM w.heap.size i (tabV F Dl.val)):=by rw[hX];exact HTab.out.alloc _
    have HWO:Hid (w.heap.size<wo.heap.size):=HTab.out.lt
    clear hX c0 c1 c2 c3 c4 c5 c6 c7 c8 c9
    obtain⟨d0,d1,d2,d3,d4,d5,d6,d7,d8,d9⟩:=HG.out.at10
    have HM:=hid (mark_any x.r x.tick X (HXO.out.r.kept HWX.out))
    have HGk:Hid (∀ w',Below X.heap.size X w'->w'.cell? ⟨wo.heap.size,0,none⟩=some (.string x.r.src)/\w'.cell? ⟨wo.heap.size,1,none⟩=some (.int .i64 x.r.seq)/\w'.cell? ⟨wo.heap.size,2,none⟩=some (.string x.r.tb)/\w'.cell? ⟨wo.heap.size,3,none⟩=some (.string x.r.ky)/\w'.cell? ⟨wo.heap.size,4,none⟩=some (.int .i64 x.r.ev)/\w'.cell? ⟨wo.heap.size,5,none⟩=some (.slice x.r.fa x.r.vs.length x.r.fc)/\w'.cell? ⟨wo.heap.size,6,none⟩=some (.int .i64 x.r.no)/\w'.cell? ⟨wo.heap.size,7,none⟩=some (.int .i64 x.r.tk)/\w'.cell? ⟨wo.heap.size,8,none⟩=some (.int .i64 x.tick)/\w'.cell? ⟨wo.heap.size,9,none⟩=some (.int .i64 x.n)):=fun w' hb=>(HG.out.kept hb).at10
    have HGf:Hid (∀ w',Below X.heap.size X w'->w'.frozen? ⟨wo.heap.size,9,none⟩=false):=fun w' hb=>(HG.out.kept hb).free 9
    have HSx:Hid (∀ S,S=strOf (encF x.r.vs)->keysM.val ⟨x.key,HXO.out.mark⟩=.agg #[.string x.r.src,.int .i64 x.r.seq,.string x.r.tb,.string x.r.ky,.int .i64 x.r.ev,.int .i64 x.r.no,.int .i64 x.r.tk,.int .i64 x.tick,.string S]):=fun S hS=>by rw[hS];rfl
    obtain⟨S,hS⟩:∃ S,S=strOf (encF x.r.vs):=⟨_,rfl⟩
    have HKV:=hid (HSx.out S hS)
    simp only[markV,<-hS]at HM
    have HSS:=hid hS
    clear hS HSx
    obtain⟨kx,hkx⟩:∃ kx:{ k:DK // OkM k },kx=⟨x.key,HXO.out.mark⟩:=⟨_,rfl⟩
    have HKX:=hid hkx
    rw[<-hkx]at HKV
    clear hkx
    cases hF:F kx with
    |none =>
     have HFr:Hid (Sums w (l.take (i+1)) (putF F kx x)):=by show Sums _ _ _;rw[ZaO HX.out,HKX.out];exact HSum.out.fresh HXO.out (by rw[<-HKX.out];exact hF)
     have HFN:=hid hF
     clear hF
     go_upto_region 9 with(first
      |(go_at_call 61;(with_reducible refine HM.out.mono ?_);rintro e w1 ⟨rfl,hb⟩;have HB1:=hid hb;obtain⟨k0,k1,k2,k3,k4,k5,k6,k7,k8,k9⟩:=HGk.out w1 hb;have f9:=HGf.out w1 hb;have HTb:Hid (Tab (w1.alloc (.cells #[.string x.r.src,.int .i64 x.r.seq,.string x.r.tb,.string x.r.ky,.int .i64 x.r.ev,.int .i64 x.r.no,.int .i64 x.r.tk,.int .i64 x.tick,.string S] 106)) keysM w.heap.size i (tabV F Dl.val)):=(HTX.out.kept hb).alloc _;clear hb)
      |(at_lookup;refine ZeF rfl (.tmp 24) (.tmp 25) 104 rfl 70 underlying104 (zero41 _) rfl HTb.out kx HKV.out.symm trivial HFN.out ?_))
     refine Zam (fun X2 h2=>?_)
     have HX12:Hid (Below w1.heap.size w1 X2):=by rw[h2];exact Zax _ _
     have HT2:Hid (Tab X2 keysM w.heap.size i (tabV F Dl.val)):=by rw[h2];exact HTb.out.alloc _
     have HM2:Hid (Box X2 w1.heap.size #[.string x.r.src,.int .i64 x.r.seq,.string x.r.tb,.string x.r.ky,.int .i64 x.r.ev,.int .i64 x.r.no,.int .i64 x.r.tk,.int .i64 x.tick,.string S] 106):=by rw[h2];exact(Box.new w1 _ _).kept (Zab _)
     have HG2:Hid (Box X2 wo.heap.size #[.string x.r.src,.int .i64 x.r.seq,.string x.r.tb,.string x.r.ky,.int .i64 x.r.ev,.slice x.r.fa x.r.vs.length x.r.fc,.int .i64 x.r.no,.int .i64 x.r.tk,.int .i64 x.tick,.int .i64 x.n] 70):=(HG.out.kept HB1.out).kept HX12.out
     have HBx2:Hid (Below w.heap.size w X2):=keepB (Nat.le_refl _) (keepB (Nat.le_refl _) HWX.out HB1.out) HX12.out
     clear h2 k0 k1 k2 k3 k4 k5 k6 k7 k8 k9 f9 d0 d1 d2 d3 d4 d5 d6 d7 d8 d9
     obtain⟨k0,k1,k2,k3,k4,k5,k6,k7,k8,k9⟩:=HG2.out.at10
     obtain⟨m0,m1,m2,m3,m4,m5,m6,m7,m8⟩:=HM2.out.at9
     have hmx:i<maxLen:=by unfold maxLen;omega
     go_wp2_with (at_mapUpdate;refine Zb6 rfl (.tmp 36) (.tmp 37) (.tmp 38) 104 rfl 70 underlying104 rfl HT2.out hmx kx HKV.out.symm trivial x rfl ?_;intro w5 ht hg;have HT5:=hid ht;have HB5:Hid (Below w.heap.size w w5):=HBx2.out.grown hg HBx2.out.size (fun j hj=>(by injection hj with hj;omega));clear ht hg)
     go_roundw
     case rel=>exact⟨i+1,_,by omega,by go_num,HT5,HFr,HB5.out⟩
     case measure=>simp[intOf];omega
    |some d =>
     have HFr:Hid (Sums w (l.take (i+1)) (putF F kx (x.withN (IntKind.i64.wrap (x.n+d.n))))):=by show Sums _ _ _;rw[ZaO HX.out,HKX.out];exact HSum.out.again HXO.out (by rw[<-HKX.out];exact hF)
     have HFN:=hid hF
     have HSM:Hid (wrap64 (x.n+d.n)=IntKind.i64.wrap (x.n+d.n)):=wrap64_is _
     clear hF
     go_upto_region 9 with(first
      |(go_at_call 61;(with_reducible refine HM.out.mono ?_);rintro e w1 ⟨rfl,hb⟩;have HB1:=hid hb;obtain⟨k0,k1,k2,k3,k4,k5,k6,k7,k8,k9⟩:=HGk.out w1 hb;have f9:=HGf.out w1 hb;have HTb:Hid (Tab (w1.alloc (.cells #[.string x.r.src,.int .i64 x.r.seq,.string x.r.tb,.string x.r.ky,.int .i64 x.r.ev,.int .i64 x.r.no,.int .i64 x.r.tk,.int .i64 x.tick,.string S] 106)) keysM w.heap.size i (tabV F Dl.val)):=(HTX.out.kept hb).alloc _;have HTw:Hid (Tab w1 keysM w.heap.size i (tabV F Dl.val)):=HTX.out.kept hb;have HGw:Hid (Box w1 wo.heap.size #[.string x.r.src,.int .i64 x.r.seq,.string x.r.tb,.string x.r.ky,.int .i64 x.r.ev,.slice x.r.fa x.r.vs.length x.r.fc,.int .i64 x.r.no,.int .i64 x.r.tk,.int .i64 x.tick,.int .i64 x.n] 70):=HG.out.kept hb;have HWl:Hid (wo.heap.size<w1.heap.size):=(HG.out.kept hb).lt;have hwl:=HWl.out;clear hb)
      |(at_lookup;refine ZeE rfl (.tmp 24) (.tmp 25) 104 rfl 70 underlying104 (zero41 _) rfl HTb.out kx HKV.out.symm trivial d HFN.out ?_))
     refine Zam (fun X2 h2=>?_)
     have HX12:Hid (Below w.heap.size w X2):=by
      rw[h2]
      have h0:=keepB (Nat.le_refl _) HWX.out HB1.out
      exact((h0.setCell (by have:=HWO.out;show w.heap.size<=wo.heap.size;omega) _).alloc (by have:=h0.size;simp;omega) _).alloc (by have:=h0.size;simp;omega) _
     have HT2:Hid (Tab X2 keysM w.heap.size i (tabV F Dl.val)):=by
      rw[h2]
      exact((HTw.out.setCell (a:=⟨wo.heap.size,9,none⟩) (by have:=HWO.out;simp;omega) _).alloc _).alloc _
     have HM2:Hid (Box X2 w1.heap.size #[.string x.r.src,.int .i64 x.r.seq,.string x.r.tb,.string x.r.ky,.int .i64 x.r.ev,.int .i64 x.r.no,.int .i64 x.r.tk,.int .i64 x.tick,.string S] 106):=by
      rw[h2]
      have:=(Box.new (w1.setCell ⟨wo.heap.size,9,none⟩ (.int .i64 (wrap64 (x.n+d.n)))) #[.string x.r.src,.int .i64 x.r.seq,.string x.r.tb,.string x.r.ky,.int .i64 x.r.ev,.int .i64 x.r.no,.int .i64 x.r.tk,.int .i64 x.tick,.string S] 106).kept (Zab (.cells #[.string d.r.src,.int .i64 d.r.seq,.string d.r.tb,.string d.r.ky,.int .i64 d.r.ev,.slice d.r.fa d.r.vs.length d.r.fc,.int .i64 d.r.no,.int .i64 d.r.tk,.int .i64 d.tick,.int .i64 d.n] 70))
      show Box _ _ _ _
      simpa using this
     have HG2:Hid (Box X2 wo.heap.size #[.string x.r.src,.int .i64 x.r.seq,.string x.r.tb,.string x.r.ky,.int .i64 x.r.ev,.slice x.r.fa x.r.vs.length x.r.fc,.int .i64 x.r.no,.int .i64 x.r.tk,.int .i64 x.tick,.int .i64 (wrap64 (x.n+d.n))] 70):=by rw[h2];exact(HGw.out.put 9 _).kept (Zax _ _)
     clear h2 k0 k1 k2 k3 k4 k5 k6 k7 k8 k9 f9 d0 d1 d2 d3 d4 d5 d6 d7 d8 d9
     generalize wrap64 (x.n+d.n)=sm at *
     obtain⟨k0,k1,k2,k3,k4,k5,k6,k7,k8,k9⟩:=HG2.out.at10
     obtain⟨m0,m1,m2,m3,m4,m5,m6,m7,m8⟩:=HM2.out.at9
     have hmx:i<maxLen:=by unfold maxLen;omega
     go_wp2_with (at_mapUpdate;refine Zb6 rfl (.tmp 36) (.tmp 37) (.tmp 38) 104 rfl 70 underlying104 rfl HT2.out hmx kx HKV.out.symm trivial (x.withN sm) rfl ?_;intro w5 ht hg;have HT5:=hid ht;have HB5:Hid (Below w.heap.size w w5):=HX12.out.grown hg HX12.out.size (fun j hj=>(by injection hj with hj;omega));clear ht hg)
     go_roundw
     case rel=>exact⟨i+1,_,by omega,by go_num,HT5,by rw[HSM.out];exact HFr,HB5.out⟩
     case measure=>simp[intOf];omega
  · obtain rfl:i=l.length:=by omega
    have HS:Hid (Sums w l F):=by have:=HSum.out;rwa [List.take_length]at this
    clear HSum
    generalize hln:l.length=nl at *
    have HLn:=hid hln
    clear hln
    go_wp2_with (at_range;refine ZcV rfl (.tmp 40) 104 rfl 70 underlying104 rfl HTab.out ?_;intro w2 cnt0 hrg hgr hsz;have HRg:=hid hrg;have HGr:=hid hgr;have HSz:=hid hsz;clear hrg hgr hsz)
    go_frame
    have HB2:Hid (Below w.heap.size w w2):=HB.out.grown HGr.out HB.out.size (fun j hj=>by cases hj)
    have HC0:Hid (cnt0<=nl):=HRg.out.cnt_le
    have Hbr:Hid (w.heap.size<w2.heap.size/\wo.heap.size<w2.heap.size):=by have h1:=HSz.out;have h2:=HTab.out.lt;exact⟨by omega,by omega⟩
    have Hwr:Hid (w.heap.size<=wo.heap.size):=HB.out.size
    generalize wo.heap.size=r at *
    go_loopw [2] (fun v wr=>∃ (xs:List Dl) (left:{ k:DK // OkM k }->Bool) (cnt:Nat) (v0:Value),v0=v/\Hid (Own Dl.cells 10 70 wr w2.heap.size v xs/\xs.length+cnt<=cnt0)/\Hid (Tabs wr keysM w.heap.size r nl (tabV F Dl.val) left cnt)/\Hid (Took w (sumK (l.map Dl.kn)) F left xs)/\Below w.heap.size w wr/\w2.heap.size<=wr.heap.size) (fun _ wr=>wr.rangeLeft w.heap.size r)
    case atStart=>exact⟨[],_,cnt0,_,rfl,⟨Own.nil _ _,by simp⟩,HRg,Took.start w _ F,HB2.out,Nat.le_refl _⟩
    case round =>
     obtain⟨xs,left,cnt,v0,rfl,HOw,HTs,HTk,hB3,hS3⟩:=hrel
     have HB3:=hid hB3
     have HS3:=hid hS3
     clear hB3 hS3
     go_wp2_with (at_next;refine ZcU rfl (.tmp 41) rfl (fun k=>markK k.1) (fun k=>rfl) rfl HTs.out ?_ ?_)
     · unfold ZeY
       intro hdone
       have HDone:=hid hdone
       clear hdone
       obtain⟨a2,c2,rfl,hx1,hx2,hx3⟩:=HOw.out.1.lies encD
       have HLx:Hid (xs.length<=nl):=by have h1:=HOw.out.2;have h2:=HC0.out;show _<=_;omega
       have HSort:=hid (sortD_any w xs wr HB3.out a2 c2 (HOw.out.1.mono (by have:=Hbr.out.1;omega)) (fun d hd=>(HTk.out.mem d hd).1) (by have:=HLx.out;omega))
       have HX1:=hid hx1
       have HX2:=hid hx2
       clear hx1 hx2 hx3
       generalize hxl:xs.length=xl at *
       have HXL:=hid hxl
       clear hxl
       go_wp2_with (go_at_call 62;(with_reducible refine HSort.out.mono ?_);rintro e w5 ⟨rfl,p,hp,hr,hlies,hb⟩;have HP:=hid hp;have HRr:=hid hr;have HLi:=hid hlies;have HB5:=hid hb;clear hp hr hlies hb)
       go_ret
       have hfin:=HTk.out.done HS.out HOK.out (fun k=>HDone.out k trivial) HP.out (HRr.out.imp (fun {x y} h=>by omega))
       have hpl:p.length=xl:=by rw[<-HP.out.length_eq,HXL.out]
       exact⟨_,p,rfl,⟨a2,c2,by rw[hpl];rfl,by rw[hpl];exact HX1.out,HX2.out,HLi.out,fun d hd=>(hfin.2 d hd).kept HB5.out⟩,by rw[hpl,HLn.out];exact HLx.out,hfin.1,HB5.out⟩
     · unfold ZeX
       intro k d w3 cnt3 _ hlk hFk ht3 hlt3 hg3 hs3 hen
       obtain⟨q1,q2,q3⟩:=HS.out.says k d hFk
       have HQ:Hid (d.Ok w/\d.key=k.1/\d.n=sumK (l.map Dl.kn) k.1):=⟨q1,q2,q3⟩
       have HLk:=hid hlk
       have HT3:=hid ht3
       have HLt:=hid hlt3
       have HG3:=hid hg3
       have HZ3:=hid hs3
       have HO3:Hid (Own Dl.cells 10 70 w3 w2.heap.size v0 xs):=HOw.out.1.grow HG3.out Hbr.out.2
       have HB33:Hid (Below w.heap.size w w3):=HB3.out.grown HG3.out HB3.out.size (fun j hj=>by injection hj with hj;subst hj;exact Hwr.out)
       clear q1 q2 q3 hlk ht3 hlt3 hg3 hs3 hFk
       have HXl:Hid (xs.length<=nl):=by have h1:=HOw.out.2;have h2:=HC0.out;show _<=_;omega
       by_cases h0:d.n=0
       · have hne:(d.n != 0)=false:=by simpa using h0
         have HTk2:=hid (HTk.out.skip (k:=k) (d:=d) HQ.out.2.2 h0)
         clear h0
         go_wp2_with fail
         go_roundw
         case rel=>exact⟨xs,_,cnt3,_,rfl,⟨HO3.out.kept (Zab _),by have h1:=HOw.out.2;have h2:=HLt.out;omega⟩,HT3.out.kept (Zab _),HTk2,HB33.out.alloc HB33.out.size _,by have h1:=HZ3.out;have h2:=HS3.out;simp;omega⟩
         case measure=>rw[(HT3.out.kept (Zab _)).left_eq,HTs.out.left_eq];exact HLt.out
       · have hne:(d.n != 0)=true:=by simpa using h0
         have HTk2:=hid (HTk.out.take (k:=k) (d:=d) HQ.out.1 HQ.out.2.1 HLk.out HQ.out.2.2 h0)
         clear h0
         have HO6:Hid (Own Dl.cells 10 70 ((w3.alloc (.cells (Dl.cells d).toArray 70)).alloc (.cells (Dl.cells d).toArray 70)) w2.heap.size v0 xs):=(HO3.out.kept (Zab _)).kept (Zab _)
         have HX6:Hid (w2.heap.size<=((w3.alloc (.cells (Dl.cells d).toArray 70)).alloc (.cells (Dl.cells d).toArray 70)).heap.size):=by have h1:=HZ3.out;have h2:=HS3.out;show _<=_;simp;omega
         have HS6:Hid (Zaf Dl.cells 10 ((w3.alloc (.cells (Dl.cells d).toArray 70)).alloc (.cells (Dl.cells d).toArray 70)) (some ⟨(w3.alloc (.cells (Dl.cells d).toArray 70)).heap.size,0,none⟩) [d]):=ZaG _ _ encD
         rw[show(w3.alloc (.cells (Dl.cells d).toArray 70)).heap.size=w3.heap.size+1 by simp]at HS6
         have HT6:Hid (Tabs ((w3.alloc (.cells (Dl.cells d).toArray 70)).alloc (.cells (Dl.cells d).toArray 70)) keysM w.heap.size r nl (tabV F Dl.val) (fun x=>left x&&!decide (x=k)) cnt3):=(HT3.out.kept (Zab _)).kept (Zab _)
         have HB6:Hid (Below w.heap.size w ((w3.alloc (.cells (Dl.cells d).toArray 70)).alloc (.cells (Dl.cells d).toArray 70))):=(HB33.out.alloc HB33.out.size _).alloc (by have:=HB33.out.size;simp;omega) _
         have HLa:Hid (xs.length+[d].length<=1000000000):=by show _<=_;have:=HXl.out;simp;omega
         go_wp2_with (at_builtin;refine Zay elD encD rfl (.tmp 49) (.tmp 51) rfl rfl rfl HO6.out HS6.out rfl (fun e=>by cases e) HX6.out HLa.out ?_;intro v5 w5 ho hb;have HO5:=hid ho;have HX5:=hid hb;clear ho hb)
         go_roundw
         case rel=>exact⟨xs++[d],_,cnt3,_,rfl,⟨HO5.out,by have h1:=HOw.out.2;have h2:=HLt.out;simp;omega⟩,HT6.out.below HX5.out Hbr.out.1 Hbr.out.2,HTk2,HB6.out.trans (HX5.out.mono (Nat.le_of_lt Hbr.out.1)),Nat.le_trans HX6.out HX5.out.size⟩
         case measure=>rw[(HT6.out.below HX5.out Hbr.out.1 Hbr.out.2).left_eq,HTs.out.left_eq];exact HLt.out
end Go.Proofs.YtfnpfkgmacaboaaGreat
