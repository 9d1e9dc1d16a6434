/- Texts joined by a program. -/
import Derived.Shelf.SlSortCmp.QuietGrown
import Derived.Lib.OwnBridge
import Derived.Shelf.SlSortCmp.NoneTotal
import Derived.Test.YtfnpfkgmacaboaaGreatM05
import Derived.Test.YtfnpfkgmacaboaaGreatM06
namespace Go.Proofs.YtfnpfkgmacaboaaGreat
open Go.Proofs.Tryz
open Lib (hid)
open Go.ChangeShapes Go.WideShapes Go.ChangeAt Go.RowKit
set_option linter.unusedVariables false
set_option linter.unusedSimpArgs false
structure Grew (w w':World):Prop where
 below:Below w.heap.size w w'
 drawn:w.drawn<=w'.drawn
theorem Grew.refl (w:World):Grew w w:=⟨Below.refl _ _,Nat.le_refl _⟩
theorem Grew.trans {a b c:World}(h:Grew a b)(k:Grew b c):Grew a c:=⟨keepB (Nat.le_refl _) h.below k.below,Nat.le_trans h.drawn k.drawn⟩
theorem Grew.alloc {a b:World}(h:Grew a b)(o:Obj):Grew a (b.alloc o):=⟨h.below.alloc h.below.size o,h.drawn⟩
theorem Grew.two {w:World}(o1 o2:Obj):Grew w ((w.alloc o1).alloc o2):=((Grew.refl w).alloc o1).alloc o2
theorem Grew.ex {w w':World}(h:Grew w w'):∃ q os,w'=Go.Sort.grow (w.drewN q) os:=by
 obtain⟨p,hp⟩:=regrown_of_below h.below
 refine⟨p.d - w.drawn,p.os,?_⟩
 have hd:w.drawn<=p.d:=by have:=h.drawn;rw[hp]at this;exact this
 rw[hp]
 have:redrawn w p.d=w.drewN (p.d - w.drawn):=by
  unfold redrawn World.drewN
  rw[show w.drawn+(p.d - w.drawn)=p.d by omega]
 rw[this]
theorem Grew.of_ex (w:World)(q:Nat)(os:Array Obj):Grew w (Go.Sort.grow (w.drewN q) os):=⟨below_regrown w (w.drawn+q) os,Nat.le_add_right _ _⟩
theorem Calls.grewn {P:Program}{f:FuncId}{args:Array Value}{V:World}{n:Nat}{os:Array Obj}{v:Value}(h:Calls P f args (Go.Sort.grow (V.drewN n) os) fun e w'=>e=.returned v/\Grew (Go.Sort.grow (V.drewN n) os) w') :
 Calls P f args (Go.Sort.grow (V.drewN n) os) fun e w''=>e=.returned v/\∃ p:GrownBy,w''=Go.Sort.grow (V.drewN p.n) p.os :=
 Calls.grown_of (h.mono fun e w' ⟨h1,h2⟩=>⟨h1,h2.ex⟩)
theorem Calls.grewn_same {P:Program}{f:FuncId}{args:Array Value}{V:World}{n:Nat}{os:Array Obj}{v:Value}(h:Calls P f args (Go.Sort.grow (V.drewN n) os) fun e w'=>e=.returned v/\Go.Sort.grow (V.drewN n) os=w') :
 Calls P f args (Go.Sort.grow (V.drewN n) os) fun e w''=>e=.returned v/\∃ p:GrownBy,w''=Go.Sort.grow (V.drewN p.n) p.os :=
 h.mono fun e w' ⟨h1,h2⟩=>⟨h1,⟨n,os⟩,h2.symm⟩
theorem ZaS {P:Program}{id:Nat}{Q:Exit->Act->World->Prop}{a:Act}{w:World}{l:List Oper}(n:Nat)(hm:P.follows .mixedOrders=true)(hB:Region.lexTailB .any l.toArray n=true)
 (h:wpQuiet P l.toArray (fun w'=>∃ p:GrownBy,w'=Go.Sort.grow (w.drewN p.n) p.os) (fun a'=>∀ w',(∃ p:GrownBy,w'=Go.Sort.grow (w.drewN p.n) p.os)->wpList P l.toArray Q (l.drop n) a' w') (l.take n) a):(Code.region id l.toArray true).wp P Q a w :=
 ZbK (C:=fun w'=>∃ p:GrownBy,w'=Go.Sort.grow (w.drewN p.n) p.os) n hm hB ⟨⟨1,#[]⟩,by rw[Go.Sort.grow_empty];rfl⟩ h
theorem Box.grown {V:World}{g:Nat}{cs:Array Value}{t:TypeId}(h:Box V g cs t)(j:Nat)(v:Value)(hv:cs[j]?=some v)(d:Nat)(os:Array Obj):(Go.Sort.grow (V.drewN d) os).cell? ⟨g,j,none⟩=some v:=cell_grown h.lt (h.cell j v hv) d os
theorem Box.grown2 {V:World}{g:Nat}{t:TypeId}{a0 a1:Value}(h:Box V g #[a0,a1] t):(∀ d os,(Go.Sort.grow (V.drewN d) os).cell? ⟨g,0,none⟩=some a0)/\(∀ d os,(Go.Sort.grow (V.drewN d) os).cell? ⟨g,1,none⟩=some a1) :=
 ⟨h.grown 0 _ rfl,h.grown 1 _ rfl⟩
theorem Box.grown3 {V:World}{g:Nat}{t:TypeId}{a0 a1 a2:Value}(h:Box V g #[a0,a1,a2] t):(∀ d os,(Go.Sort.grow (V.drewN d) os).cell? ⟨g,0,none⟩=some a0)/\(∀ d os,(Go.Sort.grow (V.drewN d) os).cell? ⟨g,1,none⟩=some a1)/\(∀ d os,(Go.Sort.grow (V.drewN d) os).cell? ⟨g,2,none⟩=some a2) :=
 ⟨h.grown 0 _ rfl,h.grown 1 _ rfl,h.grown 2 _ rfl⟩
theorem Box.grown8 {V:World}{g:Nat}{t:TypeId}{a0 a1 a2 a3 a4 a5 a6 a7:Value}(h:Box V g #[a0,a1,a2,a3,a4,a5,a6,a7] t):(∀ d os,(Go.Sort.grow (V.drewN d) os).cell? ⟨g,0,none⟩=some a0)/\(∀ d os,(Go.Sort.grow (V.drewN d) os).cell? ⟨g,1,none⟩=some a1)/\(∀ d os,(Go.Sort.grow (V.drewN d) os).cell? ⟨g,2,none⟩=some a2)/\(∀ d os,(Go.Sort.grow (V.drewN d) os).cell? ⟨g,3,none⟩=some a3)/\(∀ d os,(Go.Sort.grow (V.drewN d) os).cell? ⟨g,4,none⟩=some a4)/\(∀ d os,(Go.Sort.grow (V.drewN d) os).cell? ⟨g,5,none⟩=some a5)/\(∀ d os,(Go.Sort.grow (V.drewN d) os).cell? ⟨g,6,none⟩=some a6)/\(∀ d os,(Go.Sort.grow (V.drewN d) os).cell? ⟨g,7,none⟩=some a7) :=
 ⟨h.grown 0 _ rfl,h.grown 1 _ rfl,h.grown 2 _ rfl,h.grown 3 _ rfl,h.grown 4 _ rfl,h.grown 5 _ rfl,h.grown 6 _ rfl,h.grown 7 _ rfl⟩
theorem Box.grown10 {V:World}{g:Nat}{t:TypeId}{a0 a1 a2 a3 a4 a5 a6 a7 a8 a9:Value}(h:Box V g #[a0,a1,a2,a3,a4,a5,a6,a7,a8,a9] t):(∀ d os,(Go.Sort.grow (V.drewN d) os).cell? ⟨g,0,none⟩=some a0)/\(∀ d os,(Go.Sort.grow (V.drewN d) os).cell? ⟨g,1,none⟩=some a1)/\(∀ d os,(Go.Sort.grow (V.drewN d) os).cell? ⟨g,2,none⟩=some a2)/\(∀ d os,(Go.Sort.grow (V.drewN d) os).cell? ⟨g,3,none⟩=some a3)/\(∀ d os,(Go.Sort.grow (V.drewN d) os).cell? ⟨g,4,none⟩=some a4)/\(∀ d os,(Go.Sort.grow (V.drewN d) os).cell? ⟨g,5,none⟩=some a5)/\(∀ d os,(Go.Sort.grow (V.drewN d) os).cell? ⟨g,6,none⟩=some a6)/\(∀ d os,(Go.Sort.grow (V.drewN d) os).cell? ⟨g,7,none⟩=some a7)/\(∀ d os,(Go.Sort.grow (V.drewN d) os).cell? ⟨g,8,none⟩=some a8)/\(∀ d os,(Go.Sort.grow (V.drewN d) os).cell? ⟨g,9,none⟩=some a9) :=
 ⟨h.grown 0 _ rfl,h.grown 1 _ rfl,h.grown 2 _ rfl,h.grown 3 _ rfl,h.grown 4 _ rfl,h.grown 5 _ rfl,h.grown 6 _ rfl,h.grown 7 _ rfl,h.grown 8 _ rfl,h.grown 9 _ rfl⟩
set_option maxHeartbeats 1000000 in
theorem or_any (g n:Nat)(L:List Int)(hn:n=L.length)(hn6:n<=6)(w:World)(hc:∀ (i:Nat) (c:Int),L[i]?=some c->w.cell? ⟨g,i,none⟩=some (.int .i64 c)) :
 Calls prog 64 #[.slice (some ⟨g,0,none⟩) n n] w fun e w'=>e=.returned (.int .i64 (orL L))/\w=w':=by
 have HC:=hid hc
 have HLen:Hid (L.length=n):=hn.symm
 clear hc hn
 go_enter func64,ntmps64
 go_wp2_with fail
 go_loop [8] (fun v=>∃ i:Nat,i<=n/\v=.int .i64 i/\Hid (orL L=orL (L.drop i))) (fun v=>n - (intOf v).toNat)
 case atStart=>exact⟨0,by omega,rfl,hid rfl⟩
 case round =>
  obtain⟨i,hi,rfl,HI⟩:=hrel
  by_cases hlt:i<n
  · obtain⟨c,hc⟩:∃ c,L[i]?=some c:=⟨L[i]'(by rw[HLen.out];exact hlt),List.getElem?_eq_getElem _⟩
    have hcell:=HC.out i c hc
    have HN:=hid (HI.out.trans (orL_drop L i c hc))
    clear hc HI
    by_cases h0:c=0
    · subst h0
      have Ab:Hid (orL L=orL (L.drop (i+1))):=HN.out.trans (Zcc _)
      go_wp2_with fail
      go_round
      case rel=>exact⟨i+1,by omega,by go_num,Ab⟩
      case measure=>simp[intOf];omega
    · have hne:(c != 0)=true:=by simpa using h0
      have Ab:Hid (orL L=c):=HN.out.trans (ZcU h0)
      go_wp2_with fail
      go_ret
      exact⟨by rw[Ab.out];rfl,rfl⟩
  · have Ab:Hid (orL L=0):=by show _=_;rw[HI.out,List.drop_of_length_le (by rw[HLen.out];omega)];rfl
    clear HI
    obtain rfl:i=n:=by omega
    go_wp2_with fail
    go_ret
    exact⟨by rw[Ab.out];rfl,rfl⟩
theorem or2_any (V:World)(c0 c1:Int):Calls prog 64 #[.slice (some ⟨V.heap.size,0,none⟩) 2 2] (V.alloc (.cells #[.int .i64 c0,.int .i64 c1] 3)) fun e w'=>e=.returned (.int .i64 (orL [c0,c1]))/\V.alloc (.cells #[.int .i64 c0,.int .i64 c1] 3)=w':=by
 refine or_any V.heap.size 2 [c0,c1] rfl (by decide) _ (fun i c hc=>(Box.new V _ _).cell i _ ?_)
 match i,hc with
 |0,hc=>cases hc;rfl
 |1,hc=>cases hc;rfl
theorem or3_any (V:World)(c0 c1 c2:Int):Calls prog 64 #[.slice (some ⟨V.heap.size,0,none⟩) 3 3] (V.alloc (.cells #[.int .i64 c0,.int .i64 c1,.int .i64 c2] 3)) fun e w'=>e=.returned (.int .i64 (orL [c0,c1,c2]))/\V.alloc (.cells #[.int .i64 c0,.int .i64 c1,.int .i64 c2] 3)=w':=by
 refine or_any V.heap.size 3 [c0,c1,c2] rfl (by decide) _ (fun i c hc=>(Box.new V _ _).cell i _ ?_)
 match i,hc with
 |0,hc=>cases hc;rfl
 |1,hc=>cases hc;rfl
 |2,hc=>cases hc;rfl
theorem or6_any (V:World)(c0 c1 c2 c3 c4 c5:Int):Calls prog 64 #[.slice (some ⟨V.heap.size,0,none⟩) 6 6] (V.alloc (.cells #[.int .i64 c0,.int .i64 c1,.int .i64 c2,.int .i64 c3,.int .i64 c4,.int .i64 c5] 3)) fun e w'=>e=.returned (.int .i64 (orL [c0,c1,c2,c3,c4,c5]))/\V.alloc (.cells #[.int .i64 c0,.int .i64 c1,.int .i64 c2,.int .i64 c3,.int .i64 c4,.int .i64 c5] 3)=w':=by
 refine or_any V.heap.size 6 [c0,c1,c2,c3,c4,c5] rfl (by decide) _ (fun i c hc=>(Box.new V _ _).cell i _ ?_)
 match i,hc with
 |0,hc=>cases hc;rfl
 |1,hc=>cases hc;rfl
 |2,hc=>cases hc;rfl
 |3,hc=>cases hc;rfl
 |4,hc=>cases hc;rfl
 |5,hc=>cases hc;rfl
theorem orL_two (a b:Int):orL [a,b]=orI a b:=by simp only[orL,Zcj]
theorem orL_three (a b c:Int):orL [a,b,c]=orI a (orI b c):=by simp only[orL,Zcj]
theorem Zc1:∀ (x y:List UInt8),Lib.compareBytes x y=cmpL cmpB x y
 |[],[]=>rfl
 |[],_ :: _=>rfl
 |_ :: _,[]=>rfl
 |a :: x,b :: y=>by
  have e:cmpL cmpB (a :: x) (b :: y)=orI (cmpB a b) (cmpL cmpB x y):=rfl
  rw[e,Lib.compareBytes,Zc1 x y]
  unfold cmpB cmpI orI
  simp only[UInt8.lt_iff_toNat_lt,Int.ofNat_lt]
  split
  · simp
  · split<;>simp
theorem Zdp (a b:ByteArray)(w:World):Calls prog 88 #[.string a,.string b] w fun e w'=>e=.returned (.int .i64 (cmpS a b))/\w=w':=by
 refine(Go.Proofs.Any.strings_Compare Tryz.lays106 a b w).mono ?_
 rintro e w' ⟨rfl,rfl⟩
 exact⟨by rw[Zc1];unfold cmpS;rw[ByteArray.toList_eq,ByteArray.toList_eq],rfl⟩
set_option maxHeartbeats 2000000 in
set_option maxRecDepth 100000 in
theorem fid_any (s t:ByteArray)(m n:Int)(w:World):Calls prog 52 #[.agg #[.string s,.int .i64 m],.agg #[.string t,.int .i64 n]] w fun e w'=>e=.returned (.int .i64 (cmpID (s,m) (t,n)))/\Grew w w':=by
 have C0:=hid (fun w=>compareS_any s t w)
 have C1:=hid (fun w=>Zbq m n w)
 have he:=fun w=>eql36 (s,m) (t,n) w
 have hg:=fun w=>Zff .eql (.tmp 5) (.tmp 6) (s,m) (t,n) w
 simp only[fidV]at he hg
 cases hq:eqF (s,m) (t,n)
 · rw[hq]at he
   have HD:Hid (cmpID (s,m) (t,n)=orL [cmpS s t,cmpI m n]):=by show _=_;rw[orL_two];rfl
   clear hq
   generalize cmpS s t=c0 at *
   generalize cmpI m n=c1 at *
   have HOr:=hid (fun V=>or2_any V c0 c1)
   generalize orL [c0,c1]=r at *
   go_enter func52,ntmps52
   go_upto_region 3 with fail
   refine Zan (fun V hV=>?_)
   have Gi:Hid (Grew w V):=by rw[hV];exact Grew.two _ _
   have B0:Hid (Box V w.heap.size #[.string s,.int .i64 m] 24):=by rw[hV];exact(Box.new w _ _).kept (Zab _)
   have B1:Hid (Box V (w.heap.size+1) #[.string t,.int .i64 n] 24):=by rw[hV];show Box _ _ _ _;have:=Box.new (w.alloc (.cells #[.string s,.int .i64 m] 24)) #[.string t,.int .i64 n] 24;simpa using this
   obtain⟨a0,a1⟩:=B0.out.grown2
   obtain⟨b0,b1⟩:=B1.out.grown2
   clear hV B0 B1 he hg
   refine ZaS 10 (by kernel_rfl) (by kernel_rfl) ?_
   simp only[List.take_succ_cons,List.take_zero,List.drop_succ_cons,List.drop_zero]
   repeat(go_big_quiet_step (first|with_reducible exact Calls.grewn_same (C0.out _)|with_reducible exact Calls.grewn_same (C1.out _)))
   refine wpQuiet_nil ?_
   intro _ hw'
   obtain⟨p,hw''⟩:=hw'
   subst hw''
   have HZ:=hid (Grew.of_ex V p.n p.os)
   clear a0 a1 b0 b1 C0 C1
   generalize Go.Sort.grow (V.drewN p.n) p.os=V2 at *
   go_wp2_with (go_at_call 64;(with_reducible refine(HOr.out _).mono ?_);rintro e w1 ⟨rfl,rfl⟩)
   go_ret
   exact⟨by rw[HD.out];rfl,(Gi.out.trans HZ.out).alloc _⟩
 · rw[hq]at he
   have HD:Hid (cmpID (s,m) (t,n)=0):=(Zb3.zero _ _).2 (ZaW.1 hq)
   clear hq
   go_enter func52,ntmps52
   go_wp2_with fail
   go_ret
   exact⟨by rw[HD.out];rfl,Grew.two _ _⟩
set_option maxHeartbeats 2000000 in
set_option maxRecDepth 100000 in
theorem frow_any (r s:Rw)(w:World):Calls prog 48 #[r.val,s.val] w fun e w'=>e=.returned (.int .i64 (orI (cmpI r.ev s.ev) (cmpID (r.src,r.seq) (s.src,s.seq))))/\Grew w w':=by
 have C0:=hid (fun w=>Zbq r.ev s.ev w)
 have C1:=hid (fun w=>fid_any r.src s.src r.seq s.seq w)
 have HD:Hid (orI (cmpI r.ev s.ev) (cmpID (r.src,r.seq) (s.src,s.seq))=orL [cmpI r.ev s.ev,cmpID (r.src,r.seq) (s.src,s.seq)]):=by show _=_;rw[orL_two]
 rw[HD.out]
 generalize cmpI r.ev s.ev=c0 at *
 generalize cmpID (r.src,r.seq) (s.src,s.seq)=c1 at *
 have HOr:=hid (fun V=>or2_any V c0 c1)
 generalize orL [c0,c1]=q at *
 clear HD
 dsimp only[Rw.val]
 go_enter func48,ntmps48
 go_upto_region 1 with fail
 refine Zan (fun V hV=>?_)
 have Gi:Hid (Grew w V):=by rw[hV];exact Grew.two _ _
 have B0:Hid (Box V w.heap.size #[.string r.src,.int .i64 r.seq,.string r.tb,.string r.ky,.int .i64 r.ev,.slice r.fa r.vs.length r.fc,.int .i64 r.no,.int .i64 r.tk] 68):=by rw[hV];exact(Box.new w _ _).kept (Zab _)
 have B1:Hid (Box V (w.heap.size+1) #[.string s.src,.int .i64 s.seq,.string s.tb,.string s.ky,.int .i64 s.ev,.slice s.fa s.vs.length s.fc,.int .i64 s.no,.int .i64 s.tk] 68):=by rw[hV];show Box _ _ _ _;have:=Box.new (w.alloc (.cells #[.string r.src,.int .i64 r.seq,.string r.tb,.string r.ky,.int .i64 r.ev,.slice r.fa r.vs.length r.fc,.int .i64 r.no,.int .i64 r.tk] 68)) #[.string s.src,.int .i64 s.seq,.string s.tb,.string s.ky,.int .i64 s.ev,.slice s.fa s.vs.length s.fc,.int .i64 s.no,.int .i64 s.tk] 68;simpa using this
 obtain⟨a0,a1,a2,a3,a4,a5,a6,a7⟩:=B0.out.grown8
 obtain⟨b0,b1,b2,b3,b4,b5,b6,b7⟩:=B1.out.grown8
 clear hV B0 B1
 refine ZaS 10 (by kernel_rfl) (by kernel_rfl) ?_
 simp only[List.take_succ_cons,List.take_zero,List.drop_succ_cons,List.drop_zero]
 repeat(go_big_quiet_step (first|with_reducible exact Calls.grewn_same (C0.out _)|with_reducible exact Calls.grewn (C1.out _)))
 refine wpQuiet_nil ?_
 intro _ hw'
 obtain⟨p,hw''⟩:=hw'
 subst hw''
 have HZ:=hid (Grew.of_ex V p.n p.os)
 clear a0 a1 a2 a3 a4 a5 a6 a7 b0 b1 b2 b3 b4 b5 b6 b7 C0 C1
 generalize Go.Sort.grow (V.drewN p.n) p.os=V2 at *
 go_wp2_with (go_at_call 64;(with_reducible refine(HOr.out _).mono ?_);rintro e w1 ⟨rfl,rfl⟩)
 go_ret
 exact⟨rfl,(Gi.out.trans HZ.out).alloc _⟩
set_option maxHeartbeats 2000000 in
set_option maxRecDepth 100000 in
theorem fval_any (x y:Val)(w:World):Calls prog 90 #[.agg #[.int .i64 x.1,.int .i64 x.2.1,.string x.2.2],.agg #[.int .i64 y.1,.int .i64 y.2.1,.string y.2.2]] w fun e w'=>e=.returned (.int .i64 (cmpV x y))/\Grew w w':=by
 have C0:=hid (fun w=>Zbq x.1 y.1 w)
 have C1:=hid (fun w=>Zbq x.2.1 y.2.1 w)
 have C2:=hid (fun w=>Zdp x.2.2 y.2.2 w)
 have HD:Hid (cmpV x y=orL [cmpI x.1 y.1,cmpI x.2.1 y.2.1,cmpS x.2.2 y.2.2]):=by show _=_;rw[orL_three];rfl
 rw[HD.out]
 obtain⟨x0,x1,x2⟩:=x
 obtain⟨y0,y1,y2⟩:=y
 simp only at C0 C1 C2 HD ⊢
 generalize cmpI x0 y0=c0 at *
 generalize cmpI x1 y1=c1 at *
 generalize cmpS x2 y2=c2 at *
 have HOr:=hid (fun V=>or3_any V c0 c1 c2)
 generalize orL [c0,c1,c2]=q at *
 clear HD
 go_enter func90,ntmps90
 go_upto_region 1 with fail
 refine Zan (fun V hV=>?_)
 have Gi:Hid (Grew w V):=by rw[hV];exact Grew.two _ _
 have B0:Hid (Box V w.heap.size #[.int .i64 x0,.int .i64 x1,.string x2] 37):=by rw[hV];exact(Box.new w _ _).kept (Zab _)
 have B1:Hid (Box V (w.heap.size+1) #[.int .i64 y0,.int .i64 y1,.string y2] 37):=by rw[hV];show Box _ _ _ _;have:=Box.new (w.alloc (.cells #[.int .i64 x0,.int .i64 x1,.string x2] 37)) #[.int .i64 y0,.int .i64 y1,.string y2] 37;simpa using this
 obtain⟨a0,a1,a2⟩:=B0.out.grown3
 obtain⟨b0,b1,b2⟩:=B1.out.grown3
 clear hV B0 B1
 refine ZaS 15 (by kernel_rfl) (by kernel_rfl) ?_
 simp only[List.take_succ_cons,List.take_zero,List.drop_succ_cons,List.drop_zero]
 repeat(go_big_quiet_step (first|with_reducible exact Calls.grewn_same (C0.out _)|with_reducible exact Calls.grewn_same (C1.out _)|with_reducible exact Calls.grewn_same (C2.out _)))
 refine wpQuiet_nil ?_
 intro _ hw'
 obtain⟨p,hw''⟩:=hw'
 subst hw''
 have HZ:=hid (Grew.of_ex V p.n p.os)
 clear a0 a1 a2 b0 b1 b2 C0 C1 C2
 generalize Go.Sort.grow (V.drewN p.n) p.os=V2 at *
 go_wp2_with (go_at_call 64;(with_reducible refine(HOr.out _).mono ?_);rintro e w1 ⟨rfl,rfl⟩)
 go_ret
 exact⟨rfl,(Gi.out.trans HZ.out).alloc _⟩
set_option maxHeartbeats 2000000 in
set_option maxRecDepth 100000 in
theorem fvals_any (l k:List Val)(a1 a2:Option Addr)(c1 c2:Nat)(hl:l.length<=4611686018427387904)(hk:k.length<=4611686018427387904)(w:World)(h:Zac valC 3 w a1 l)(h2:Zac valC 3 w a2 k) :
 Calls prog 89 #[.slice a1 l.length c1,.slice a2 k.length c2,.func (.func 90) #[] #[]] w fun e w'=>e=.returned (.int .i64 (cmpL cmpV l k))/\Grew w w':=by
 have H:=hid h
 have H2:=hid h2
 clear h h2
 have eg:∀ args w,(callFunc 90 args).run prog w=.ok (.enter 90 args) w:=Go.Proofs.enters_of func90 (by kernel_rfl) rfl
 go_enter func89,ntmps89
 go_wp2_with fail
 go_loopw [13] (fun v wr=>∃ i:Nat,i<=l.length/\i<=k.length/\v=.int .i64 i/\Hid (cmpL cmpV l k=cmpL cmpV (l.drop i) (k.drop i))/\Grew w wr) (fun v _=>l.length - (intOf v).toNat)
 case atStart=>exact⟨0,by omega,by omega,rfl,hid rfl,Grew.refl _⟩
 case round =>
  obtain⟨i,Np,Jk,rfl,HE,hB⟩:=hrel
  have HB:=hid hB
  clear hB
  by_cases Yk:i<l.length
  · obtain⟨x,hx⟩:∃ x,l[i]?=some x:=⟨l[i],List.getElem?_eq_getElem Yk⟩
    obtain⟨b,off,rfl,hL⟩:=(H.out.kept HB.out.below).some (by omega)
    obtain⟨y0,y1,y2⟩:=ZdD hL hx
    by_cases Wg:i<k.length
    · obtain⟨y,hy⟩:∃ y,k[i]?=some y:=⟨k[i],List.getElem?_eq_getElem Wg⟩
      obtain⟨b2,off2,rfl,hL2⟩:=(H2.out.kept HB.out.below).some (by omega)
      obtain⟨z0,z1,z2⟩:=ZdD hL2 hy
      have hn:=cmpL_step cmpV l k i x y hx hy
      have Xd:=hid (fun w=>fval_any x y w)
      generalize cmpV x y=c at *
      have HN:=hid (HE.out.trans hn)
      have k0:=fun o=>Zaa z0 (Zab o)
      have k1:=fun o=>Zaa z1 (Zab o)
      have k2:=fun o=>Zaa z2 (Zab o)
      clear hx hy hL hL2 HE hn
      obtain⟨x1,x2,x3⟩:=x
      obtain⟨v1,v2,v3⟩:=y
      simp only at y0 y1 y2 z0 z1 z2 k0 k1 k2
      by_cases hc:c=0
      · subst hc
        have Ab:Hid (cmpL cmpV l k=cmpL cmpV (l.drop (i+1)) (k.drop (i+1))):=HN.out.trans (Zcc _)
        go_wp2_with (go_at_call 90;(with_reducible refine(Xd.out _).mono ?_);rintro e w1 ⟨rfl,hb⟩;have Qb:=hid hb;clear hb)
        go_roundw
        case rel=>exact⟨i+1,by omega,by omega,by go_num,Ab,(HB.out.trans (Grew.two _ _)).trans Qb.out⟩
        case measure=>simp[intOf];omega
      · have hne:(c != 0)=true:=by simpa using hc
        have Ab:Hid (cmpL cmpV l k=c):=HN.out.trans (ZcU hc)
        go_wp2_with (go_at_call 90;(with_reducible refine(Xd.out _).mono ?_);rintro e w1 ⟨rfl,hb⟩;have Qb:=hid hb;clear hb)
        go_ret
        exact⟨by rw[Ab.out];rfl,(HB.out.trans (Grew.two _ _)).trans Qb.out⟩
    · have HN:Hid (cmpL cmpV l k=1):=by
        show _=_
        rw[HE.out,cmpL_end cmpV l k i Np Jk (fun h=>Wg h.2),Zdu (by omega)]
      have hge:(k.length:Int)<=(i:Int):=by omega
      clear hx hL HE
      obtain⟨x1,x2,x3⟩:=x
      simp only at y0 y1 y2
      go_wp2_with fail
      go_ret
      exact⟨by rw[HN.out];rfl,HB.out.alloc _⟩
  · obtain rfl:i=l.length:=by omega
    have HN:=hid (HE.out.trans (cmpL_end cmpV l k l.length Np Jk (fun h=>Yk h.1)))
    by_cases hlk:l.length<k.length
    · have HM:Hid (cmpL cmpV l k=-1):=by show _=_;rw[HN.out,Zdt (by omega)]
      go_wp2_with fail
      go_ret
      exact⟨by rw[HM.out];rfl,HB.out⟩
    · have HM:Hid (cmpL cmpV l k=0):=by show _=_;rw[HN.out,show k.length=l.length by omega,ZcE]
      go_wp2_with fail
      go_ret
      exact⟨by rw[HM.out];rfl,HB.out⟩
set_option maxHeartbeats 2000000 in
set_option maxRecDepth 100000 in
theorem ffull_any (r s:Rw)(w:World)(hr:r.Ok w)(hs:s.Ok w):Calls prog 66 #[r.val,s.val] w fun e w'=>e=.returned (.int .i64 (cmpR r.key s.key))/\Grew w w':=by
 have HR:=hid hr
 have HS:=hid hs
 clear hr hs
 have E:Hid (cmpR r.key s.key=orL [orI (cmpI r.ev s.ev) (cmpID (r.src,r.seq) (s.src,s.seq)),cmpI r.no s.no,cmpI r.tk s.tk,cmpS r.tb s.tb,cmpS r.ky s.ky,cmpL cmpV r.vs s.vs]):=by
  show _=_
  rw[orL_six,orI_assoc];rfl
 rw[E.out]
 have C0:=hid (fun w=>frow_any r s w)
 have C1:=hid (fun w=>Zbq r.no s.no w)
 have C2:=hid (fun w=>Zbq r.tk s.tk w)
 have C3:=hid (fun w=>Zdp r.tb s.tb w)
 have C4:=hid (fun w=>Zdp r.ky s.ky w)
 have hrl:=HR.out.len
 have hsl:=HS.out.len
 have C5:=hid (fun w' h h'=>fvals_any r.vs s.vs r.fa s.fa r.fc s.fc (by omega) (by omega) w' h h')
 have Ei:=hid HR.out.lies
 have De:=hid HS.out.lies
 clear HR HS hrl hsl E
 generalize orI (cmpI r.ev s.ev) (cmpID (r.src,r.seq) (s.src,s.seq))=c0 at *
 generalize cmpI r.no s.no=c1 at *
 generalize cmpI r.tk s.tk=c2 at *
 generalize cmpS r.tb s.tb=c3 at *
 generalize cmpS r.ky s.ky=c4 at *
 generalize cmpL cmpV r.vs s.vs=c5 at *
 have HOr:=hid (fun V=>or6_any V c0 c1 c2 c3 c4 c5)
 generalize orL [c0,c1,c2,c3,c4,c5]=q at *
 dsimp only[Rw.val]
 go_enter func66,ntmps66
 go_upto_region 1 with fail
 refine Zan (fun V hV=>?_)
 have Gi:Hid (Grew w V):=by rw[hV];exact Grew.two _ _
 have B0:Hid (Box V w.heap.size #[.string r.src,.int .i64 r.seq,.string r.tb,.string r.ky,.int .i64 r.ev,.slice r.fa r.vs.length r.fc,.int .i64 r.no,.int .i64 r.tk] 68):=by rw[hV];exact(Box.new w _ _).kept (Zab _)
 have B1:Hid (Box V (w.heap.size+1) #[.string s.src,.int .i64 s.seq,.string s.tb,.string s.ky,.int .i64 s.ev,.slice s.fa s.vs.length s.fc,.int .i64 s.no,.int .i64 s.tk] 68):=by rw[hV];show Box _ _ _ _;have:=Box.new (w.alloc (.cells #[.string r.src,.int .i64 r.seq,.string r.tb,.string r.ky,.int .i64 r.ev,.slice r.fa r.vs.length r.fc,.int .i64 r.no,.int .i64 r.tk] 68)) #[.string s.src,.int .i64 s.seq,.string s.tb,.string s.ky,.int .i64 s.ev,.slice s.fa s.vs.length s.fc,.int .i64 s.no,.int .i64 s.tk] 68;simpa using this
 obtain⟨a0,a1,a2,a3,a4,a5,a6,a7⟩:=B0.out.grown8
 obtain⟨b0,b1,b2,b3,b4,b5,b6,b7⟩:=B1.out.grown8
 have D5:=hid (fun d os=>Calls.grewn (C5.out (Go.Sort.grow (V.drewN d) os) ((Ei.out.kept Gi.out.below).kept (Grew.of_ex V d os).below) ((De.out.kept Gi.out.below).kept (Grew.of_ex V d os).below)))
 clear hV B0 B1 C5
 refine ZaS 28 (by kernel_rfl) (by kernel_rfl) ?_
 simp only[List.take_succ_cons,List.take_zero,List.drop_succ_cons,List.drop_zero]
 repeat(go_big_quiet_step (first|with_reducible exact Calls.grewn (C0.out _)|with_reducible exact D5.out _ _|with_reducible exact Calls.grewn_same (C1.out _)|with_reducible exact Calls.grewn_same (C2.out _)|with_reducible exact Calls.grewn_same (C3.out _)|with_reducible exact Calls.grewn_same (C4.out _)))
 refine wpQuiet_nil ?_
 intro _ hw'
 obtain⟨p,hw''⟩:=hw'
 subst hw''
 have HZ:=hid (Grew.of_ex V p.n p.os)
 clear a0 a1 a2 a3 a4 a5 a6 a7 b0 b1 b2 b3 b4 b5 b6 b7 C0 C1 C2 C3 C4 D5 Ei De
 generalize Go.Sort.grow (V.drewN p.n) p.os=V2 at *
 go_wp2_with (go_at_call 64;(with_reducible refine(HOr.out _).mono ?_);rintro e w1 ⟨rfl,rfl⟩)
 go_ret
 exact⟨rfl,(Gi.out.trans HZ.out).alloc _⟩
set_option maxHeartbeats 2000000 in
set_option maxRecDepth 100000 in
theorem fdelta_any (x y:Dl)(w:World)(hx:x.r.Ok w)(hy:y.r.Ok w):Calls prog 63 #[x.val,y.val] w fun e w'=>e=.returned (.int .i64 (cmpD x.key y.key))/\Grew w w':=by
 have HR:=hid hx
 have HS:=hid hy
 clear hx hy
 have E:Hid (cmpD x.key y.key=orL [cmpI x.tick y.tick,cmpR x.r.key y.r.key]):=by show _=_;rw[orL_two];rfl
 rw[E.out]
 have C0:=hid (fun w=>Zbq x.tick y.tick w)
 have C5:=hid (fun w' h h'=>ffull_any x.r y.r w' h h')
 clear E
 generalize cmpI x.tick y.tick=c0 at *
 generalize cmpR x.r.key y.r.key=c1 at *
 have HOr:=hid (fun V=>or2_any V c0 c1)
 generalize orL [c0,c1]=q at *
 dsimp only[Dl.val]
 go_enter func63,ntmps63
 go_upto_region 1 with fail
 refine Zan (fun V hV=>?_)
 have Gi:Hid (Grew w V):=by rw[hV];exact Grew.two _ _
 have B0:Hid (Box V w.heap.size #[.string x.r.src,.int .i64 x.r.seq,.string x.r.tb,.string x.r.ky,.int .i64 x.r.ev,.slice x.r.fa x.r.vs.length x.r.fc,.int .i64 x.r.no,.int .i64 x.r.tk,.int .i64 x.tick,.int .i64 x.n] 70):=by rw[hV];exact(Box.new w _ _).kept (Zab _)
 have B1:Hid (Box V (w.heap.size+1) #[.string y.r.src,.int .i64 y.r.seq,.string y.r.tb,.string y.r.ky,.int .i64 y.r.ev,.slice y.r.fa y.r.vs.length y.r.fc,.int .i64 y.r.no,.int .i64 y.r.tk,.int .i64 y.tick,.int .i64 y.n] 70):=by rw[hV];show Box _ _ _ _;have:=Box.new (w.alloc (.cells #[.string x.r.src,.int .i64 x.r.seq,.string x.r.tb,.string x.r.ky,.int .i64 x.r.ev,.slice x.r.fa x.r.vs.length x.r.fc,.int .i64 x.r.no,.int .i64 x.r.tk,.int .i64 x.tick,.int .i64 x.n] 70)) #[.string y.r.src,.int .i64 y.r.seq,.string y.r.tb,.string y.r.ky,.int .i64 y.r.ev,.slice y.r.fa y.r.vs.length y.r.fc,.int .i64 y.r.no,.int .i64 y.r.tk,.int .i64 y.tick,.int .i64 y.n] 70;simpa using this
 obtain⟨a0,a1,a2,a3,a4,a5,a6,a7,a8,a9⟩:=B0.out.grown10
 obtain⟨b0,b1,b2,b3,b4,b5,b6,b7,b8,b9⟩:=B1.out.grown10
 have D5:=hid (fun d os=>Calls.grewn (C5.out (Go.Sort.grow (V.drewN d) os) ((HR.out.kept Gi.out.below).kept (Grew.of_ex V d os).below) ((HS.out.kept Gi.out.below).kept (Grew.of_ex V d os).below)))
 clear hV B0 B1 C5
 refine ZaS 10 (by kernel_rfl) (by kernel_rfl) ?_
 simp only[List.take_succ_cons,List.take_zero,List.drop_succ_cons,List.drop_zero]
 repeat(go_big_quiet_step (first|with_reducible exact Calls.grewn_same (C0.out _)|with_reducible exact D5.out _ _))
 refine wpQuiet_nil ?_
 intro _ hw'
 obtain⟨p,hw''⟩:=hw'
 subst hw''
 have HZ:=hid (Grew.of_ex V p.n p.os)
 clear a0 a1 a2 a3 a4 a5 a6 a7 a8 a9 b0 b1 b2 b3 b4 b5 b6 b7 b8 b9 C0 D5 HR HS
 generalize Go.Sort.grow (V.drewN p.n) p.os=V2 at *
 go_wp2_with (go_at_call 64;(with_reducible refine(HOr.out _).mono ?_);rintro e w1 ⟨rfl,rfl⟩)
 go_ret
 exact⟨rfl,(Gi.out.trans HZ.out).alloc _⟩
open Go.Shelf Go.Sort
theorem below_grow {B:Nat}{w X:World}(h:Go.RowKit.Below B w X)(hB:B<=X.heap.size)(os:Array Obj):Go.RowKit.Below B w (grow X os) :=
 ⟨h.os,h.tape,h.output,by have:=h.size;simp[grow];omega,fun k hk=>by
  rw[<-h.block k hk]
  simp[grow,Array.getElem?_append,show k<X.heap.size by omega]⟩
theorem ZeH {α:Type}{cf:α->α->Int}{x y:α}:ltOf cf x y=decide (cf x y<0):=rfl
theorem cmp_swo {α κ:Type}{c:κ->κ->Int}(hc:Cmp c)(f:α->κ):SWO (ltOf (fun x y:α=>c (f x) (f y))) where
 irrefl:=fun x=>by rw[ZeH,hc.refl];rfl
 trans:=fun x y z h1 h2=>by
  rw[ZeH,decide_eq_true_eq]at *
  exact hc.trans _ _ _ h1 h2
 ntrans:=fun x y z h1 h2=>by
  rw[ZeH,decide_eq_false_iff_not]at *
  intro h3
  by_cases e1:c (f x) (f y)=0
  · rw[(hc.zero _ _).1 e1]at h3;exact h2 h3
  · have p1:c (f y) (f x)<0:=(hc.turn _ _).2 (by omega)
    exact h2 (hc.trans _ _ _ p1 h3)
set_option maxRecDepth 100000 in
theorem sort_gen {α κ:Type}{enc:α->List Value}{k:Nat}{e:TypeId}(hE:Enc enc k){c:κ->κ->Int}(hc:Cmp c)(f:α->κ)(ok:α->Prop){ρ:Ren}(L:Go.Proofs.SlLaysF0.n6 prog ρ)
 (aE:∀ w,(isAgg (ρ.t 24)).run prog w=.ok true w) (zE:∀ w,(Go.sizeOf (ρ.t 24)).run prog w=.ok k w) (Uf:0<k) (g:Nat) (eg:∀ args w,(callFunc g args).run prog w=.ok (.enter g args) w)
 (w0:World) (hcmp:∀ x y,ok x->ok y->∀ w',Go.RowKit.Below w0.heap.size w0 w'->Calls prog g #[.agg (enc x).toArray,.agg (enc y).toArray] w' fun r w''=>r=.returned (.int .i64 (c (f x) (f y)))/\Grew w' w'')
 (l:List α) (w:World) (hB:Go.RowKit.Below w0.heap.size w0 w) (ao:Option Addr) (cap:Nat) (h:Own enc k e w w0.heap.size (.slice ao l.length cap) l) (hok:∀ x∈l,ok x) (hl:l.length<4611686018427387904) :
 Calls prog (ρ.f 6) #[.slice ao l.length cap,.func (.func g) #[] #[]] w fun r w'=>r=.returned (.tuple #[])/\∃ p,l.Perm p/\p.Pairwise (fun x y=>¬ c (f y) (f x)<0)/\Zac enc k w' ao p/\Go.RowKit.Below w0.heap.size w0 w':=by
 by_cases h0:l=[]
 · subst h0
   refine(Go.Proofs.AnyF.slices_SortFunc_none L ao cap (.func (.func g) #[] #[]) w).mono ?_
   rintro r w' ⟨rfl,rfl⟩
   exact⟨rfl,[],List.Perm.refl _,List.Pairwise.nil,Or.inl rfl,hB⟩
 · rcases h.2 with⟨h1,h2⟩|⟨b,cap',cur,h1,h2,h3,h4,h5,h6,h7⟩
   · exact absurd (List.eq_nil_of_length_eq_zero h2) h0
   · injection h1 with e1 e2 e3
     subst e1 e3
     have hg:b<w.heap.size:=(Array.getElem?_eq_some_iff.1 h3).1
     obtain⟨_,c',hv,-,-,hrow⟩:=h.lies hE
     injection hv with Eh Ki hv3
     subst Eh hv3
     obtain⟨b',off',he,hr⟩:=hrow.some (by cases l with|nil=>exact absurd rfl h0|cons _ _=>simp)
     injection he with he
     injection he with Og Yc _
     subst Og Yc
     haveI:Inhabited {x:α // ok x}:=⟨by
      cases l with
      |nil=>exact absurd rfl h0
      |cons x l=>exact⟨x,hok x (by simp)⟩⟩
     let d:Array {x:α // ok x}:=(l.attachWith ok hok).toArray
     have hd:d.size=l.length:=by simp[d]
     have hdl:d.toList.map (·.1)=l:=by
      apply List.ext_getElem
      · simp[d]
      · intro i h1 h2
        simp[d]
     have hget:∀ (i:Nat) (hi:i<l.length),(d[i]!).1=l[i]:=by
      intro i hi
      rw[getElem!_pos d i (by omega)]
      simp[d]
     have hH:HoldsK (fun x:{x:α // ok x}=>enc x.1) k w b 0 d:=by
      intro j hj
      have hsz:(flatK (fun x:{x:α // ok x}=>enc x.1) k d).size=d.size*k:=size_flatK _ _ _
      have hjl:j / k<l.length:=by
       rw[hsz,hd]at hj
       exact Nat.div_lt_of_lt_mul (by rw[Nat.mul_comm];exact hj)
      refine⟨?_,by simp[World.frozen?,h3]⟩
      rw[get_flatK _ _ _ _ (by rw[<-hsz];exact hj),Nat.zero_add]
      rw[hget _ hjl]
      have hm:j % k<k:=Nat.mod_lt _ Uf
      have hx:(enc l[j / k])[j % k]?=some ((enc l[j / k])[j % k]'(by rw[hE.len];exact hm)):=List.getElem?_eq_getElem _
      have:=hr (j / k) _ (List.getElem?_eq_getElem hjl) (j % k) _ hx
      rw[Nat.zero_add,show j / k*k+j % k=j by rw[Nat.mul_comm];exact Nat.div_add_mod j k]at this
      rw[this,getElem!_pos _ _ (by rw[hE.len];exact hm)];rfl
     have hbw:∀ m dk os,Go.RowKit.Below w0.heap.size w0 (Go.Proofs.sortWorldK (fun x:{x:α // ok x}=>enc x.1) k w b 0 m dk os):=fun m dk os =>
      below_grow (Go.Lib.below_putRow hB h2) (by have:=hB.size;simp[size_putRow,Sort.ahead];omega) os
     have hlays:Go.Proofs.CmpLays prog g #[] (fun x:{x:α // ok x}=>enc x.1) k (fun x y=>c (f x.1) (f y.1)) b 0 d.size w:=fun m os dk hs x y=>by
      refine(hcmp x.1 y.1 x.2 y.2 _ (hbw m dk os)).mono ?_
      rintro r w'' ⟨h1,h2⟩
      exact⟨h1,h2.ex⟩
     have hs:=Go.Proofs.AnyQ.slices_SortFunc L k aE zE (fun x:{x:α // ok x}=>enc x.1) (fun x=>hE.len x.1) (fun x=>hE.one x.1) (fun x y=>c (f x.1) (f y.1)) (cmp_swo hc (fun x:{x:α // ok x}=>f x.1)) g #[] b 0 cap d w eg hlays hH hg (by omega)
     rw[hd]at hs
     refine hs.mono ?_
     rintro r w' ⟨rfl,d',n,os,hp,hso,rfl⟩
     obtain⟨p1,-,p3⟩:=hp
     have e1:(d'.extract 0 l.length).toList=d'.toList:=by rw[<-hd,<-p1];simp
     have e2:(d.extract 0 l.length).toList=d.toList:=by rw[<-hd];simp
     rw[e1,e2]at p3
     have hperm:l.Perm (d'.toList.map (·.1)):=by
      have:=(p3.map (·.1)).symm
      rwa [hdl]at this
     have hsz:d'.size=l.length:=by omega
     refine⟨rfl,d'.toList.map (·.1),hperm,?_,Or.inr ⟨b,0,rfl,?_⟩,hbw n d' os⟩
     · rw[List.pairwise_iff_getElem]
       intro i j hi hj hij
       simp at hi hj
       have:=hso i j (Nat.zero_le _) hij (by omega)
       rw[ZeH,getElem!_pos d' j (by omega),getElem!_pos d' i (by omega),decide_eq_false_iff_not]at this
       simpa using this
     · have hH':=Go.Proofs.holdsK_sortWorldK (fun x:{x:α // ok x}=>enc x.1) k w b 0 n d d' os hg hH p1
       intro i x hx j v hv
       obtain⟨hi,hx⟩:=List.getElem?_eq_some_iff.1 hx
       simp at hi hx
       have hj:j<k:=by rw[<-hE.len x];exact(List.getElem?_eq_some_iff.1 hv).1
       have c0:=(hH'.cell (i:=i) (c:=j) hi hj).1
       rw[getElem!_pos d' i hi,hx]at c0
       rw[List.getElem!_eq_getElem?_getD,hv]at c0
       exact c0
theorem sortD_any (w0:World)(l:List Dl)(w:World)(hB:Go.RowKit.Below w0.heap.size w0 w)(ao:Option Addr)(cap:Nat)(h:Own Dl.cells 10 70 w w0.heap.size (.slice ao l.length cap) l)(hok:∀ x∈l,x.Ok w0)(hl:l.length<4611686018427387904) :
 Calls prog 62 #[.slice ao l.length cap,.func (.func 63) #[] #[]] w fun r w'=>r=.returned (.tuple #[])/\∃ p,l.Perm p/\p.Pairwise (fun x y=>¬ cmpD y.key x.key<0)/\Zac Dl.cells 10 w' ao p/\Go.RowKit.Below w0.heap.size w0 w' :=
 sort_gen encD Zbx Dl.key (fun x=>x.Ok w0) Tryz.sortD Tryz.isAgg70 Tryz.sizeOf70 (by decide) 63 (Go.Proofs.enters_of func63 (by kernel_rfl) rfl) w0
  (fun x y hx hy w' hb=>fdelta_any x y w' (hx.kept hb).r (hy.kept hb).r) l w hB ao cap h hok hl
end Go.Proofs.YtfnpfkgmacaboaaGreat
