/- Texts joined by a program. -/
import Derived.BigQuiet
import Derived.Outline
import Derived.Deep.DeepCutAuto
import Derived.Deep.CutBlock
import Derived.Laws.OwnMore
import Derived.Laws.AppendOwnNone
import Derived.Lib.SliceRun
import Derived.WalkSpells
import Derived.Maps.AppendAt
import Derived.RegionTactic
import Derived.Deep.QuietTactic
import Derived.Laws.StructEq
import Derived.Shelf.SlicesE.Kit
import Derived.Test.YtfnpfkgmacaboaaGreatM01
import Derived.Test.YtfnpfkgmacaboaaGreatM02
namespace Go.Proofs.YtfnpfkgmacaboaaGreat
open Go.Proofs.Tryz
open Lib (hid)
open Go.ChangeShapes Go.WideShapes Go.ChangeAt Go.RowKit
set_option linter.unusedVariables false
set_option linter.unusedSimpArgs false
theorem Zan {P:Program}{c:Code}{Q:Exit->Act->World->Prop}{a:Act}{w:World}(h:∀ W,W=w->Code.wp P c Q a W):Code.wp P c Q a w:=h w rfl
theorem cmpL_end {α:Type}(c:α->α->Int)(l k:List α)(i:Nat)(h1:i<=l.length)(h2:i<=k.length)(h:¬ (i<l.length/\i<k.length)):cmpL c (l.drop i) (k.drop i)=cmpI l.length k.length:=by
 by_cases e1:i=l.length
 · rw[List.drop_of_length_le (by omega)]
   by_cases e2:i=k.length
   · rw[List.drop_of_length_le (by omega),show k.length=l.length by omega,ZcE];rfl
   · rw[List.drop_eq_getElem_cons (show i<k.length by omega),Zdt (by omega)];rfl
 · rw[List.drop_eq_getElem_cons (show i<l.length by omega),List.drop_of_length_le (show k.length<=i by omega),Zdu (by omega)];rfl
theorem cmpL_step {α:Type}(c:α->α->Int)(l k:List α)(i:Nat)(x y:α)(hx:l[i]?=some x)(hy:k[i]?=some y):cmpL c (l.drop i) (k.drop i)=orI (c x y) (cmpL c (l.drop (i+1)) (k.drop (i+1))):=by
 obtain⟨h1,rfl⟩:=List.getElem?_eq_some_iff.1 hx
 obtain⟨h2,rfl⟩:=List.getElem?_eq_some_iff.1 hy
 rw[List.drop_eq_getElem_cons h1,List.drop_eq_getElem_cons h2];rfl
theorem Zac.some {α:Type}{enc:α->List Value}{k:Nat}{w:World}{ao:Option Addr}{l:List α}(h:Zac enc k w ao l)(hl:0<l.length):∃ b off,ao=Option.some ⟨b,off,none⟩/\Lies enc k w b off l:=by
 rcases h with rfl|h
 · simp at hl
 · exact h
set_option maxHeartbeats 1000000 in
set_option maxRecDepth 100000 in
theorem rfields_any (l k:List Val)(a1 a2:Option Addr)(c1 c2:Nat)(hl:l.length<=4611686018427387904)(hk:k.length<=4611686018427387904)(w:World)(h:Zac valC 3 w a1 l)(h2:Zac valC 3 w a2 k) :
 Calls prog 55 #[.slice a1 l.length c1,.slice a2 k.length c2] w fun e w'=>e=.returned (.int .i64 (cmpL cmpV l k))/\Below w.heap.size w w':=by
 have H:=hid h
 have H2:=hid h2
 clear h h2
 have HO:=hid (fun w=>Ze7 (l.length:Int) (k.length:Int) w)
 go_enter func55,ntmps55
 go_wp2_with fail
 go_loopw [5] (fun v wr=>∃ i:Nat,i<=l.length/\i<=k.length/\v=.int .i64 i/\Hid (cmpL cmpV l k=cmpL cmpV (l.drop i) (k.drop i))/\Below w.heap.size w wr) (fun v _=>l.length - (intOf v).toNat)
 case atStart=>exact⟨0,by omega,by omega,rfl,hid rfl,Below.refl _ _⟩
 case round =>
  obtain⟨i,Np,Jk,rfl,HE,hB⟩:=hrel
  have HB:=hid hB
  have hsz:=hB.size
  by_cases hlt:i<l.length/\i<k.length
  · obtain⟨Yk,Wg⟩:=hlt
    obtain⟨x,hx⟩:∃ x,l[i]?=some x:=⟨l[i],List.getElem?_eq_getElem Yk⟩
    obtain⟨y,hy⟩:∃ y,k[i]?=some y:=⟨k[i],List.getElem?_eq_getElem Wg⟩
    obtain⟨b,off,rfl,hL⟩:=(H.out.kept hB).some (by omega)
    obtain⟨b2,off2,rfl,hL2⟩:=(H2.out.kept hB).some (by omega)
    obtain⟨y0,y1,y2⟩:=ZdD hL hx
    obtain⟨z0,z1,z2⟩:=ZdD hL2 hy
    have hn:=cmpL_step cmpV l k i x y hx hy
    have Xd:=hid (fun w=>rvalue_any x.1 x.2.1 y.1 y.2.1 x.2.2 y.2.2 w)
    change Hid (∀ w,Calls prog 84 _ w fun e w'=>e=.returned (.int .i64 (cmpV x y))/\_)at Xd
    generalize cmpV x y=c at *
    have HN:=hid (HE.out.trans hn)
    clear hx hy hL hL2 HE hn hB
    obtain⟨x1,x2,x3⟩:=x
    obtain⟨v1,v2,v3⟩:=y
    simp only at y0 y1 y2 z0 z1 z2
    go_upto_region 4 with fail
    refine Zan (fun V hV=>?_)
    have Aa:Hid (Below w.heap.size w V):=by rw[hV];exact HB.out
    have r0:∀ d os,(Go.Sort.grow (redrawn V d) os).cell? ⟨b,off+i*3,none⟩=some (.int .i64 x1):=fun d os=>cell_regrown (by rw[hV];exact y0) d os
    have r1:∀ d os,(Go.Sort.grow (redrawn V d) os).cell? ⟨b,off+i*3+1,none⟩=some (.int .i64 x2):=fun d os=>cell_regrown (by rw[hV];exact y1) d os
    have r2:∀ d os,(Go.Sort.grow (redrawn V d) os).cell? ⟨b,off+i*3+2,none⟩=some (.string x3):=fun d os=>cell_regrown (by rw[hV];exact y2) d os
    have s0:∀ d os,(Go.Sort.grow (redrawn V d) os).cell? ⟨b2,off2+i*3,none⟩=some (.int .i64 v1):=fun d os=>cell_regrown (by rw[hV];exact z0) d os
    have s1:∀ d os,(Go.Sort.grow (redrawn V d) os).cell? ⟨b2,off2+i*3+1,none⟩=some (.int .i64 v2):=fun d os=>cell_regrown (by rw[hV];exact z1) d os
    have s2:∀ d os,(Go.Sort.grow (redrawn V d) os).cell? ⟨b2,off2+i*3+2,none⟩=some (.string v3):=fun d os=>cell_regrown (by rw[hV];exact z2) d os
    have HC:=hid (fun d os=>Calls.regrown_of (Xd.out (Go.Sort.grow (redrawn V d) os)))
    have ws1:IntKind.i64.wrap (i:Int)=(i:Int):=IntWalk.i64_in _ (by omega)
    clear hV y0 y1 y2 z0 z1 z2 Xd
    refine wp_region_quiet_below (by kernel_rfl) (by kernel_rfl) ?_
    repeat(go_big_quiet_step (first|exact HC.out _ _))
    refine wpQuiet_nil ?_
    intro _ hw'
    obtain⟨p,hw''⟩:=hw'
    subst hw''
    have HZ:=below_regrown V p.d p.os
    generalize Go.Sort.grow (redrawn V p.d) p.os=V2 at *
    have La:Hid (Below w.heap.size w V2):=Aa.out.trans (HZ.mono Aa.out.size)
    clear HZ HC
    by_cases hc:c=0
    · subst hc
      have Ab:Hid (cmpL cmpV l k=cmpL cmpV (l.drop (i+1)) (k.drop (i+1))):=HN.out.trans (Zcc _)
      go_wp2_with fail
      go_roundw
      case rel=>exact⟨i+1,by omega,by omega,by go_num,Ab,La.out⟩
      case measure=>simp[intOf];omega
    · have hne:(c != 0)=true:=by simpa using hc
      have Ab:Hid (cmpL cmpV l k=c):=HN.out.trans (ZcU hc)
      go_wp2_with fail
      go_ret
      exact⟨by rw[Ab.out];rfl,La.out⟩
  · have HN:=hid (HE.out.trans (cmpL_end cmpV l k i Np Jk hlt))
    clear HE hB
    by_cases h1:i<l.length
    · have h2:¬ i<k.length:=fun h=>hlt ⟨h1,h⟩
      clear hlt
      go_wp2_with (go_at_call 53;(with_reducible refine(HO.out _).mono ?_);rintro e w1 ⟨rfl,rfl⟩)
      go_ret
      exact⟨by rw[HN.out];rfl,HB.out⟩
    · clear hlt
      go_wp2_with (go_at_call 53;(with_reducible refine(HO.out _).mono ?_);rintro e w1 ⟨rfl,rfl⟩)
      go_ret
      exact⟨by rw[HN.out];rfl,HB.out⟩
def Box (w:World)(g:Nat)(cs:Array Value)(t:TypeId):Prop:=w.heap[g]?=some (.cells cs t (0,0))
theorem Box.new (w:World)(cs:Array Value)(t:TypeId):Box (w.alloc (.cells cs t)) w.heap.size cs t:=heap_alloc_new w _
theorem Box.lt {w:World}{g:Nat}{cs:Array Value}{t:TypeId}(h:Box w g cs t):g<w.heap.size:=(Array.getElem?_eq_some_iff.1 h).1
theorem Box.kept {w w':World}{g:Nat}{cs:Array Value}{t:TypeId}(h:Box w g cs t)(hb:Below w.heap.size w w'):Box w' g cs t:=(hb.block g h.lt).trans h
theorem Box.cell {w:World}{g:Nat}{cs:Array Value}{t:TypeId}(h:Box w g cs t)(j:Nat)(v:Value)(hv:cs[j]?=some v):w.cell? ⟨g,j,none⟩=some v:=by
 rw[cell_of_row w g j cs t _ h];exact hv
theorem Box.free {w:World}{g:Nat}{cs:Array Value}{t:TypeId}(h:Box w g cs t)(j:Nat):w.frozen? ⟨g,j,none⟩=false:=by simp[World.frozen?,show w.heap[g]?=_ from h]
theorem Zab {w:World}(o:Obj):Below w.heap.size w (w.alloc o):=(Below.refl _ _).alloc (Nat.le_refl _) _
theorem Box.all {V:World}{g:Nat}{cs:Array Value}{t:TypeId}(h:Box V g cs t)(j:Nat)(v:Value)(hv:cs[j]?=some v)(d:Nat)(os:Array Obj):(Go.Sort.grow (redrawn V d) os).cell? ⟨g,j,none⟩=some v:=cell_regrown (h.cell j v hv) d os
theorem Box.all8 {V:World}{g:Nat}{t:TypeId}{a0 a1 a2 a3 a4 a5 a6 a7:Value}(h:Box V g #[a0,a1,a2,a3,a4,a5,a6,a7] t):(∀ d os,(Go.Sort.grow (redrawn V d) os).cell? ⟨g,0,none⟩=some a0)/\(∀ d os,(Go.Sort.grow (redrawn V d) os).cell? ⟨g,1,none⟩=some a1)/\(∀ d os,(Go.Sort.grow (redrawn V d) os).cell? ⟨g,2,none⟩=some a2)/\(∀ d os,(Go.Sort.grow (redrawn V d) os).cell? ⟨g,3,none⟩=some a3)/\(∀ d os,(Go.Sort.grow (redrawn V d) os).cell? ⟨g,4,none⟩=some a4)/\(∀ d os,(Go.Sort.grow (redrawn V d) os).cell? ⟨g,5,none⟩=some a5)/\(∀ d os,(Go.Sort.grow (redrawn V d) os).cell? ⟨g,6,none⟩=some a6)/\(∀ d os,(Go.Sort.grow (redrawn V d) os).cell? ⟨g,7,none⟩=some a7) :=
 ⟨h.all 0 _ rfl,h.all 1 _ rfl,h.all 2 _ rfl,h.all 3 _ rfl,h.all 4 _ rfl,h.all 5 _ rfl,h.all 6 _ rfl,h.all 7 _ rfl⟩
theorem Box.all10 {V:World}{g:Nat}{t:TypeId}{a0 a1 a2 a3 a4 a5 a6 a7 a8 a9:Value}(h:Box V g #[a0,a1,a2,a3,a4,a5,a6,a7,a8,a9] t):(∀ d os,(Go.Sort.grow (redrawn V d) os).cell? ⟨g,0,none⟩=some a0)/\(∀ d os,(Go.Sort.grow (redrawn V d) os).cell? ⟨g,1,none⟩=some a1)/\(∀ d os,(Go.Sort.grow (redrawn V d) os).cell? ⟨g,2,none⟩=some a2)/\(∀ d os,(Go.Sort.grow (redrawn V d) os).cell? ⟨g,3,none⟩=some a3)/\(∀ d os,(Go.Sort.grow (redrawn V d) os).cell? ⟨g,4,none⟩=some a4)/\(∀ d os,(Go.Sort.grow (redrawn V d) os).cell? ⟨g,5,none⟩=some a5)/\(∀ d os,(Go.Sort.grow (redrawn V d) os).cell? ⟨g,6,none⟩=some a6)/\(∀ d os,(Go.Sort.grow (redrawn V d) os).cell? ⟨g,7,none⟩=some a7)/\(∀ d os,(Go.Sort.grow (redrawn V d) os).cell? ⟨g,8,none⟩=some a8)/\(∀ d os,(Go.Sort.grow (redrawn V d) os).cell? ⟨g,9,none⟩=some a9) :=
 ⟨h.all 0 _ rfl,h.all 1 _ rfl,h.all 2 _ rfl,h.all 3 _ rfl,h.all 4 _ rfl,h.all 5 _ rfl,h.all 6 _ rfl,h.all 7 _ rfl,h.all 8 _ rfl,h.all 9 _ rfl⟩
theorem orL_drop (L:List Int)(i:Nat)(c:Int)(h:L[i]?=some c):orL (L.drop i)=orI c (orL (L.drop (i+1))):=by
 obtain⟨h1,rfl⟩:=List.getElem?_eq_some_iff.1 h
 rw[List.drop_eq_getElem_cons h1];rfl
theorem _root_.Go.Calls.same_grown {P:Program}{f:FuncId}{args:Array Value}{w V:World}{v:Value}{p:Regrown}(h:Calls P f args w fun e w'=>e=.returned v/\w=w')(hw:w=Go.Sort.grow (redrawn V p.d) p.os):Calls P f args w fun e w''=>e=.returned v/\∃ p:Regrown,w''=Go.Sort.grow (redrawn V p.d) p.os :=
 h.mono fun e w' ⟨h1,h2⟩=>⟨h1,p,by rw[<-h2,hw]⟩
theorem orL_six (a b c d e f:Int):orL [a,b,c,d,e,f]=orI a (orI b (orI c (orI d (orI e f)))):=by
 simp only[orL,Zcj]
set_option maxHeartbeats 2000000 in
set_option maxRecDepth 100000 in
theorem ZdP (r s:Rw)(w:World)(hr:r.Ok w)(hs:s.Ok w):Calls prog 26 #[r.val,s.val] w fun e w'=>e=.returned (.int .i64 (cmpR r.key s.key))/\Below w.heap.size w w':=by
 have HR:=hid hr
 have HS:=hid hs
 clear hr hs
 have E:Hid (cmpR r.key s.key=orL [orI (cmpI r.ev s.ev) (cmpID (r.src,r.seq) (s.src,s.seq)),cmpI r.no s.no,cmpI r.tk s.tk,cmpS r.tb s.tb,cmpS r.ky s.ky,cmpL cmpV r.vs s.vs]):=by
  show _=_
  rw[orL_six,orI_assoc];rfl
 have C0:=hid (fun w=>rrow_any r.src s.src r.tb s.tb r.ky s.ky r.seq s.seq r.ev s.ev r.no s.no r.tk s.tk r.fa s.fa r.vs.length r.fc s.vs.length s.fc w)
 change Hid (∀ w,Calls prog 27 _ w fun e w'=>e=.returned (.int .i64 (orI (cmpI r.ev s.ev) (cmpID (r.src,r.seq) (s.src,s.seq))))/\_)at C0
 have C1:=hid (fun w=>Ze7 r.no s.no w)
 have C2:=hid (fun w=>Ze7 r.tk s.tk w)
 have C3:=hid (fun w=>words_any r.tb s.tb w)
 have C4:=hid (fun w=>words_any r.ky s.ky w)
 have hrl:=HR.out.len
 have hsl:=HS.out.len
 have C5:=hid (fun w' h h'=>rfields_any r.vs s.vs r.fa s.fa r.fc s.fc (by omega) (by omega) w' h h')
 have Ei:=hid HR.out.lies
 have De:=hid HS.out.lies
 clear HR HS hrl hsl
 generalize orI (cmpI r.ev s.ev) (cmpID (r.src,r.seq) (s.src,s.seq))=c0 at *
 generalize cmpI r.no s.no=c1 at *
 generalize cmpI r.tk s.tk=c2 at *
 generalize cmpS r.tb s.tb=c3 at *
 generalize cmpS r.ky s.ky=c4 at *
 generalize cmpL cmpV r.vs s.vs=c5 at *
 generalize cmpR r.key s.key=cc at *
 obtain⟨r0,r1,r2,r3,r4,r5,r5c,r6,r7,rv⟩:=r
 obtain⟨s0,s1,s2,s3,s4,s5,s5c,s6,s7,sv⟩:=s
 simp only at C0 C1 C2 C3 C4 C5 Ei De
 dsimp only[Rw.val]
 generalize hrn:rv.length=rn at *
 generalize hsn:sv.length=sn at *
 clear hrn hsn
 go_enter func26,ntmps26
 go_upto_region 1 with fail
 refine Zan (fun V hV=>?_)
 have B0:Hid (Box V w.heap.size #[.string r0,.int .i64 r1,.string r2,.string r3,.int .i64 r4,.slice r5 rn r5c,.int .i64 r6,.int .i64 r7] 68):=by rw[hV];exact(Box.new w _ _).kept (Zab _)
 have B1:Hid (Box V (w.heap.size+1) #[.string s0,.int .i64 s1,.string s2,.string s3,.int .i64 s4,.slice s5 sn s5c,.int .i64 s6,.int .i64 s7] 68):=by
  rw[hV];show Box _ _ _ _;have:=Box.new (w.alloc (.cells #[.string r0,.int .i64 r1,.string r2,.string r3,.int .i64 r4,.slice r5 rn r5c,.int .i64 r6,.int .i64 r7] 68)) #[.string s0,.int .i64 s1,.string s2,.string s3,.int .i64 s4,.slice s5 sn s5c,.int .i64 s6,.int .i64 s7] 68;simpa using this
 have Aa:Hid (Below w.heap.size w V):=by rw[hV];exact Zak _ _
 have Qg:Hid (w.heap.size+2<=V.heap.size):=by show _<=_;rw[hV];simp
 obtain⟨a0,a1,a2,a3,a4,a5,a6,a7⟩:=B0.out.all8
 obtain⟨b0,b1,b2,b3,b4,b5,b6,b7⟩:=B1.out.all8
 have D0:=hid (fun d os=>Calls.regrown_of (C0.out (Go.Sort.grow (redrawn V d) os)))
 have D5:=hid (fun d os=>Calls.regrown_of (C5.out (Go.Sort.grow (redrawn V d) os) ((Ei.out.kept Aa.out).kept (below_regrown V d os)) ((De.out.kept Aa.out).kept (below_regrown V d os))))
 clear hV B0 B1 C0 C5
 refine ZbL 28 (by kernel_rfl) (by kernel_rfl) ?_
 simp only[List.take_succ_cons,List.take_zero,List.drop_succ_cons,List.drop_zero]
 repeat(go_big_quiet_step (first|with_reducible exact D0.out _ _|with_reducible exact D5.out _ _|with_reducible exact Calls.same_grown (p:=_) (C1.out _) rfl|with_reducible exact Calls.same_grown (p:=_) (C2.out _) rfl|with_reducible exact Calls.same_grown (p:=_) (C3.out _) rfl|with_reducible exact Calls.same_grown (p:=_) (C4.out _) rfl))
 refine wpQuiet_nil ?_
 intro _ hw'
 obtain⟨p,hw''⟩:=hw'
 subst hw''
 have HZ:=below_regrown V p.d p.os
 generalize Go.Sort.grow (redrawn V p.d) p.os=V2 at *
 have La:Hid (Below w.heap.size w V2):=Aa.out.trans (HZ.mono Aa.out.size)
 clear HZ a0 a1 a2 a3 a4 a5 a6 a7 b0 b1 b2 b3 b4 b5 b6 b7 C1 C2 C3 C4 D0 D5 Ei De Aa Qg
 go_wp2_with fail
 refine Zan (fun V3 h3=>?_)
 generalize hg:V2.heap.size=g at *
 have Ib:Hid (Below w.heap.size w V3):=by rw[h3];exact La.out.alloc La.out.size _
 have HL:Hid (∀ (i:Nat) (c:Int),[c0,c1,c2,c3,c4,c5][i]?=some c->V3.cell? ⟨g,i,none⟩=some (.int .i64 c)):=by
  intro i c hc
  rw[h3,<-hg]
  refine(Box.new V2 _ _).cell i _ ?_
  match i,hc with
  |0,hc=>cases hc;rfl
  |1,hc=>cases hc;rfl
  |2,hc=>cases hc;rfl
  |3,hc=>cases hc;rfl
  |4,hc=>cases hc;rfl
  |5,hc=>cases hc;rfl
 clear h3 hg La
 have HLen:Hid ([c0,c1,c2,c3,c4,c5].length=6):=rfl
 generalize [c0,c1,c2,c3,c4,c5]=L at *
 go_loop [6] (fun v=>∃ i:Nat,i<=6/\v=.int .i64 i/\Hid (orL L=orL (L.drop i))) (fun v=>6 - (intOf v).toNat)
 case atStart=>exact⟨0,by omega,rfl,hid rfl⟩
 case round =>
  obtain⟨i,hi,rfl,HI⟩:=hrel
  by_cases hlt:i<6
  · obtain⟨c,hc⟩:∃ c,L[i]?=some c:=⟨L[i]'(by rw[HLen.out];exact hlt),List.getElem?_eq_getElem _⟩
    have hcell:=HL.out i c hc
    have HN:=hid (HI.out.trans (orL_drop L i c hc))
    clear hc HI
    by_cases h0:c=0
    · subst h0
      have Ab:Hid (orL L=orL (L.drop (i+1))):=HN.out.trans (Zcc _)
      go_wp2_with fail
      go_round
      case rel=>exact⟨i+1,by omega,by go_num,Ab⟩
      case measure=>simp[intOf];omega
    · have hne:(c != 0)=true:=by simpa using h0
      have Ab:Hid (orL L=c):=HN.out.trans (ZcU h0)
      go_wp2_with fail
      go_ret
      exact⟨by rw[E.out,Ab.out];rfl,Ib.out⟩
  · have Ab:Hid (orL L=0):=by show _=_;rw[HI.out,List.drop_of_length_le (by rw[HLen.out];omega)];rfl
    clear HI
    obtain rfl:i=6:=by omega
    go_wp2_with fail
    go_ret
    exact⟨by rw[E.out,Ab.out];rfl,Ib.out⟩
end Go.Proofs.YtfnpfkgmacaboaaGreat
namespace Go.Proofs.YtfnpfkgmacaboaaGreat
open Go.Proofs.Tryz
open Lib (hid)
open Go.ChangeShapes Go.WideShapes Go.ChangeAt Go.RowKit
set_option linter.unusedVariables false
set_option linter.unusedSimpArgs false
section
variable {P:Program} {α:Type} {enc:α->List Value} {k bytes:Nat} {e t:TypeId} {w w':World} {B:Nat} {v:Value} {l m:List α}
structure El (P:Program) (e t:TypeId) (k bytes:Nat):Prop where
 und:P.underlying t=some (.slice e)
 info:(P.info? e).map (fun i=>(i.zero.map (fun z=>z.cells.size),i.size,i.bytes))=some (some k,k,bytes)
 pos:0<k
 few:bytes<=100000
theorem El.parts (E:El P e t k bytes):∃ i z,P.info? e=some i/\i.zero=some z/\i.size=k/\i.bytes=bytes/\z.cells.size=k:=by
 have h:=E.info
 cases hi:P.info? e with
 |none=>rw[hi]at h;simp at h
 |some i =>
  rw[hi]at h
  simp at h
  obtain⟨⟨z,h1,h2⟩,h3,h4⟩:=h
  exact⟨i,z,rfl,h1,h3,h4,h2⟩
theorem El.size (E:El P e t k bytes):(P.info? e).map (·.size)=some k:=by
 obtain⟨i,z,h1,-,h3,-⟩:=E.parts
 rw[h1];simp[h3]
structure Enc (enc:α->List Value) (k:Nat):Prop where
 len:∀ x,(enc x).length=k
 one:∀ x,∀ v∈enc x,v.oneCell'=true
def Own (enc:α->List Value)(k:Nat)(e:TypeId)(w:World)(B:Nat)(v:Value)(l:List α):Prop:=w.ownsRow B e k v l.length (encs enc l)
theorem ownsRow_kept {size n:Nat}{xs:List Value}(h:w.ownsRow B e size v n xs)(hb:Below w.heap.size w w'):w'.ownsRow B e size v n xs:=by
 refine⟨h.1,?_⟩
 rcases h.2 with h|⟨g,cap,cur,h1,h2,h3,h4⟩
 · exact Or.inl h
 · exact Or.inr ⟨g,cap,cur,h1,h2,(hb.block g (Array.getElem?_eq_some_iff.1 h3).1).trans h3,h4⟩
theorem Own.kept (h:Own enc k e w B v l)(hb:Below w.heap.size w w'):Own enc k e w' B v l:=ownsRow_kept h hb
theorem Own.mono {B':Nat}(h:Own enc k e w B v l)(hB:B'<=B):Own enc k e w B' v l:=by
 refine⟨h.1,?_⟩
 rcases h.2 with h|⟨g,cap,cur,h1,h2,h3⟩
 · exact Or.inl h
 · exact Or.inr ⟨g,cap,cur,h1,by omega,h3⟩
theorem Own.nil (w:World)(B:Nat):Own enc k e w B (.slice none 0 0) []:=⟨by simp[encs],Or.inl ⟨rfl,rfl⟩⟩
theorem Own.lit {W:World}(hB:B<=W.heap.size):Own enc k e (W.alloc (.cells #[] e)) B (.slice (some ⟨W.heap.size,0,none⟩) 0 0) []:=World.ownsRow_lit W #[] 0 hB (by unfold maxLen;omega) (by simp)
theorem Own.lt (h:Own enc k e w B v l):∀ g,v.ownBlock=some g->B<=g/\g<w.heap.size:=by
 intro g hg
 rcases h.2 with⟨rfl,-⟩|⟨g',cap,cur,rfl,h2,h3,-⟩
 · cases hg
 · injection hg with hg;subst hg;exact⟨h2,(Array.getElem?_eq_some_iff.1 h3).1⟩
theorem Own.lies (hE:Enc enc k)(h:Own enc k e w B v l):∃ ao c,v=.slice ao l.length c/\l.length<=c/\(ao=none->c=0)/\Zac enc k w ao l:=by
 rcases h.2 with⟨rfl,h0⟩|⟨g,cap,cur,h1,h2,h3,h4,h5,h6,h7⟩
 · exact⟨none,0,by rw[h0],by omega,fun _=>rfl,Or.inl (List.eq_nil_of_length_eq_zero h0)⟩
 · refine⟨_,cap,h1,h4,(fun e=>by cases e),Or.inr ⟨g,0,rfl,Lies.of_cells hE.len ?_⟩⟩
   intro j u hj
   rw[Nat.zero_add,cell_of_row w g _ cur e _ h3]
   rw[<-h7,List.getElem?_take]at hj
   split at hj
   · simpa using hj
   · cases hj
theorem ZbE (b o j:Nat):(⟨b,o,none⟩:Addr).add j=⟨b,o+j,none⟩:=by simp[Addr.add]
theorem Zai {ops:Array Oper}{rest:List Oper}{o:Oper}{a:Act}{Q:Exit->Act->World->Prop}{ao:Option Addr}{n c:Nat}(E:El P e t k bytes)(hE:Enc enc k)(hgd:o.guard=none)(s x:Operand)
 (ho:o.op=.call { callee:=.builtin .append,args:=#[s,x],argTypes:=#[t,t] }) (hs:a.eval s=v) (hx:a.eval x=.slice ao n c)
 (hO:Own enc k e w B v l) (hS:Zac enc k w ao m) (hn:n=m.length) (hc:ao=none->c=0) (hB:B<=w.heap.size) (hl:l.length+m.length<=1000000000)
 (h:∀ v' w1,Own enc k e w1 B v' (l++m)->Below B w w1->wpList P ops Q rest (a.put o.dst v') w1) :
 wpList P ops Q (o :: rest) a w:=by
 obtain⟨i,z,hi,Xc,Ea,Fa,Ef⟩:=E.parts
 have hpos:=E.pos
 have hfew:=E.few
 subst hn
 cases ao with
 |none =>
  have hk:m=[]:=by
   rcases hS with h|⟨_,_,h,_⟩
   · exact h
   · cases h
  subst hk
  have h0:=hc rfl
  subst h0
  refine wpList_append_own_none hgd s x t ho B e i k E.und hi v _ _ hs hO hx ?_
  exact h v w (by rw[List.append_nil];exact hO) (Below.refl _ _)
 |some ad =>
  have hcells:∀ j v,(encs enc m)[j]?=some v->w.cell? (ad.add j)=some v:=by
   intro j u hj
   rcases hS with rfl|⟨b,off,he,hr⟩
   · simp[encs]at hj
   · injection he with he;subst he
     rw[ZbE];exact hr.cells hE.len hpos j u hj
  have hbytes:(l.length+m.length)*bytes<=140737488355328:=Nat.le_trans (Nat.mul_le_mul hl hfew) (by decide)
  refine wpList_append_own _ hgd s x t ho B e i z k bytes E.und hi Xc Ea Fa Ef hpos v _ _ hs hO ad m.length c (encs enc m) hx (Za7 hE.len m) hcells (ZbB hE.one m) (by unfold maxLen;omega) hbytes hB ?_
  intro v' w1 hown hgr _
  refine h v' w1 ?_ ((Below.refl _ _).grown hgr hB (fun g hg=>(hO.lt g hg).1))
  unfold Own
  rw[Za8,List.length_append];exact hown
theorem Zav (x:α)(W:World)(hE:Enc enc k):Zac enc k (W.alloc (.cells (enc x).toArray e)) (some ⟨W.heap.size,0,none⟩) [x] :=
 Or.inr ⟨_,_,rfl,Lies.of_cells hE.len (fun j v hj=>by
  rw[Zd0]at hj
  rw[Nat.zero_add]
  exact(Box.new W (enc x).toArray e).cell j v (by simpa using hj))⟩
theorem Lies.take {b off:Nat}(h:Lies enc k w b off l)(n:Nat):Lies enc k w b off (l.take n):=by
 intro i x hx
 have hi:i<n:=by
  have:=(List.getElem?_eq_some_iff.1 hx).1
  simp at this;omega
 rw[List.getElem?_take_of_lt hi]at hx
 exact h i x hx
theorem Lies.drop {b off:Nat}(h:Lies enc k w b off l)(n:Nat):Lies enc k w b (off+n*k) (l.drop n):=by
 intro i x hx j v hv
 rw[List.getElem?_drop]at hx
 have:=h _ x hx j v hv
 rwa [show off+n*k+i*k=off+(n+i)*k by rw[Nat.add_mul];omega]
theorem Zac.take {ao:Option Addr}(h:Zac enc k w ao l)(i:Nat):Zac enc k w ao (l.take i):=by
 rcases h with rfl|⟨b,off,rfl,h⟩
 · exact Or.inl (by simp)
 · exact Or.inr ⟨b,off,rfl,h.take i⟩
theorem run_size {size:Nat}(hs:(P.info? e).map (·.size)=some size)(w:World):(sizeOf e).run P w=.ok size w:=by
 cases hq:P.info? e with
 |none=>simp[hq]at hs
 |some i=>simp[hq]at hs;simp[sizeOf,typeInfo,hq,hs]
theorem Za5 (E:El P e t k bytes)(A:Option Addr)(n c lo:Nat)(h:lo<=n) :
 ∃ A',(∀ w,(Instr.slice t (.slice A n c) (some (.int .i64 (lo:Int))) none none).run P w=.ok (.slice A' (n - lo) (c - lo)) w)/\(A'=none->A=none)/\∀ b off,A=some ⟨b,off,none⟩->lo<c->A'=some ⟨b,off+lo*k,none⟩:=by
 have ht:=E.und
 have he:P.elem t=e:=by simp[Program.elem,ht]
 refine⟨if c=lo then A else A.map (·.add (lo*k)),fun w=>?_,?_,?_⟩
 · rw[run_slice_l (P:=P) w t A n c (by rw[he];exact ht) .i64 lo (by omega) (by omega),he,run_size E.size]
   simp[sliced,Result.andThen]
 · split<;>simp
 · intro b off ha hc
   rw[if_neg (by omega),ha]
   simp[Addr.add]
theorem Za4 (E:El P e t k bytes)(A:Option Addr)(n c hi:Nat)(h:hi<=c)(w:World) :
 (Instr.slice t (.slice A n c) none (some (.int .i64 (hi:Int))) none).run P w=.ok (.slice A hi c) w:=by
 have ht:=E.und
 have he:P.elem t=e:=by simp[Program.elem,ht]
 rw[run_slice_h (P:=P) w t A n c (by rw[he];exact ht) .i64 hi (by omega) (by omega),he,run_size E.size]
 cases A with
 |none=>simp[sliced,Result.andThen]
 |some a=>simp[sliced,Result.andThen,Addr.add]
theorem ZaV {A A':Option Addr}{c i:Nat}(h:Zac enc k w A l)(hlc:l.length<=c)(hA:∀ b off,A=some ⟨b,off,none⟩->i<c->A'=some ⟨b,off+i*k,none⟩):Zac enc k w A' (l.drop i):=by
 by_cases hd:i<l.length
 · obtain⟨b',off',he,hr⟩:=h.some (by omega)
   exact Or.inr ⟨b',off'+i*k,hA b' off' he (by omega),hr.drop i⟩
 · exact Or.inl (List.drop_eq_nil_of_le (by omega))
end
theorem elD:El prog 70 53 10 120:=⟨underlying53,by kernel_rfl,by decide,by decide⟩
theorem elR:El prog 68 58 8 104:=⟨underlying58,by kernel_rfl,by decide,by decide⟩
theorem encD:Enc Dl.cells 10:=⟨fun _=>rfl,Dl.cells_one⟩
theorem encR:Enc Rw.cells 8:=⟨fun _=>rfl,Rw.cells_one⟩
end Go.Proofs.YtfnpfkgmacaboaaGreat
namespace Go.Proofs.YtfnpfkgmacaboaaGreat
open Go.Proofs.Tryz
open Lib (hid)
open Go.ChangeShapes Go.WideShapes Go.ChangeAt Go.RowKit
set_option linter.unusedVariables false
set_option linter.unusedSimpArgs false
theorem below_box2 {w:World}(c1 c2:Array Value)(t1 t2:TypeId):Below w.heap.size w ((w.alloc (.cells c1 t1)).alloc (.cells c2 t2)):=Zak _ _
set_option maxHeartbeats 1000000 in
theorem rless_any (x y:Dl)(w:World)(hx:x.r.Ok w)(hy:y.r.Ok w):Calls prog 102 #[x.val,y.val] w fun e w'=>e=.returned (.bool (decide (cmpD x.key y.key<0)))/\Below w.heap.size w w':=by
 have HC:=hid (fun w' (hb:Below w.heap.size w w')=>ZdP x.r y.r w' (hx.kept hb) (hy.kept hb))
 have E:Hid (cmpD x.key y.key=orI (cmpI x.tick y.tick) (cmpR x.r.key y.r.key)):=rfl
 generalize cmpR x.r.key y.r.key=c at *
 generalize cmpD x.key y.key=d at *
 clear hx hy
 dsimp only[Dl.val]
 rcases Int.lt_trichotomy x.tick y.tick with h|h|h
 · have F:Hid (decide (d<0)=true):=decide_eq_true (by rw[E.out,Zdt h,ZcU (by decide)];decide)
   go_enter func102,ntmps102
   go_wp2_with fail
   go_ret
   exact⟨by rw[F.out];rfl,Zak _ _⟩
 · have F:Hid (decide (d<0)=decide (c<0)):=by show _=_;rw[E.out,h,ZcE];rfl
   have h1:¬ x.tick<y.tick:=by omega
   have La:=hid (fun c1 c2 t1 t2=>@below_box2 w c1 c2 t1 t2)
   go_enter func102,ntmps102
   go_wp2_with (go_at_call 26;(with_reducible refine(HC.out _ (La.out _ _ _ _)).mono ?_);rintro e w1 ⟨rfl,hb⟩;have HB:=hid hb;clear hb)
   go_ret
   exact⟨by rw[F.out];rfl,(Zak _ _).trans (HB.out.mono (by simp;omega))⟩
 · have F:Hid (decide (d<0)=false):=decide_eq_false (by rw[E.out,Zdu h,ZcU (by decide)];decide)
   have h1:¬ x.tick<y.tick:=by omega
   have h2:(x.tick==y.tick)=false:=by simp;omega
   go_enter func102,ntmps102
   go_wp2_with fail
   go_ret
   exact⟨by rw[F.out];rfl,Zak _ _⟩
end Go.Proofs.YtfnpfkgmacaboaaGreat
namespace Go.Proofs.YtfnpfkgmacaboaaGreat
open Go.Proofs.Tryz
open Lib (hid)
open Go.ChangeShapes Go.WideShapes Go.ChangeAt Go.RowKit
set_option linter.unusedVariables false
set_option linter.unusedSimpArgs false
theorem putK_at {κ:Type}(c:κ->κ->Int)(x:κ × Int):∀ (L:List (κ × Int)) (i:Nat),i<=L.length->(∀ j y,j<i->L[j]?=some y->c y.1 x.1<0)->putK c L x=L.take i++putK c (L.drop i) x
 |L,0,_,_=>by simp
 |[],i+1,h,_=>by simp at h
 |y :: L,i+1,h,hl=>by
  have h0:=hl 0 y (by omega) rfl
  rw[show putK c (y :: L) x=y :: putK c L x by rw[putK,if_pos h0]]
  rw[putK_at c x L i (by simpa using h) (fun j z hj hz=>hl (j+1) z (by omega) (by simpa using hz))]
  rfl
theorem Box.put {w:World}{g:Nat}{cs:Array Value}{t:TypeId}(h:Box w g cs t)(j:Nat)(v:Value):Box (w.setCell ⟨g,j,none⟩ v) g (cs.setIfInBounds j v) t:=by
 obtain⟨hlt,hk⟩:=Array.getElem?_eq_some_iff.1 h
 show(w.heap.modify g _)[g]?=_
 rw[Array.getElem?_eq_getElem (by rw[Array.size_modify];exact hlt),Array.getElem_modify_self,hk]
 simp
theorem Zad {B:Nat}{a w:World}(h:Below B a w)(n:Nat):Below B a (w.drewN n):=⟨h.os,h.tape,h.output,h.size,h.block⟩
theorem Own.far {α:Type}{enc:α->List Value}{k:Nat}{e:TypeId}{w:World}{B:Nat}{v:Value}{l:List α}{p:Addr}{x:Value}(h:Own enc k e w B v l)(hp:p.block<B):Own enc k e (w.setCell p x) B v l:=by
 refine⟨h.1,?_⟩
 rcases h.2 with h|⟨g,cap,cur,h1,h2,h3,h4⟩
 · exact Or.inl h
 · exact Or.inr ⟨g,cap,cur,h1,h2,(Below.heap_setCell w p x g (by omega)).trans h3,h4⟩
theorem Box.at10 {w:World}{g:Nat}{t:TypeId}{a0 a1 a2 a3 a4 a5 a6 a7 a8 a9:Value}(h:Box w g #[a0,a1,a2,a3,a4,a5,a6,a7,a8,a9] t):w.cell? ⟨g,0,none⟩=some a0/\w.cell? ⟨g,1,none⟩=some a1/\w.cell? ⟨g,2,none⟩=some a2/\w.cell? ⟨g,3,none⟩=some a3/\w.cell? ⟨g,4,none⟩=some a4/\w.cell? ⟨g,5,none⟩=some a5/\w.cell? ⟨g,6,none⟩=some a6/\w.cell? ⟨g,7,none⟩=some a7/\w.cell? ⟨g,8,none⟩=some a8/\w.cell? ⟨g,9,none⟩=some a9 :=
 ⟨h.cell 0 _ rfl,h.cell 1 _ rfl,h.cell 2 _ rfl,h.cell 3 _ rfl,h.cell 4 _ rfl,h.cell 5 _ rfl,h.cell 6 _ rfl,h.cell 7 _ rfl,h.cell 8 _ rfl,h.cell 9 _ rfl⟩
theorem ZeT (n:Int):wrap64 n=IntKind.i64.wrap n:=by
 unfold wrap64 IntKind.wrap
 simp[IntKind.signed,IntKind.bits]
 split<;>omega
theorem gen_exit {R:Exit->Act->World->Prop}{x:Exit}{a:Act}{w:World}(h:∀ W,W=w->R x a W):R x a w:=h w rfl
def Dl.withN (x:Dl)(n:Int):Dl:={ x with n:=n }
def OwnD (w:World)(B:Nat)(v:Value)(l:List Dl):Prop:=Own Dl.cells 10 70 w B v l/\∀ d∈l,d.Ok w
theorem I64.wrap (n:Int):I64 (IntKind.i64.wrap n):=by
 unfold I64 IntKind.wrap
 simp[IntKind.signed,IntKind.bits]
 split<;>omega
theorem putK_gt {κ:Type}{c:κ->κ->Int}{L:List (κ × Int)}{x y:κ × Int}(h1:¬ c y.1 x.1<0)(h2:c x.1 y.1<0):putK c (y :: L) x=if x.2=0 then y :: L else x :: y :: L:=by
 rw[putK,if_neg h1,if_pos h2]
theorem putK_on {κ:Type}{c:κ->κ->Int}{L:List (κ × Int)}{x y:κ × Int}(h1:¬ c y.1 x.1<0)(h2:¬ c x.1 y.1<0):putK c (y :: L) x=if IntKind.i64.wrap (x.2+y.2)=0 then L else(x.1,IntKind.i64.wrap (x.2+y.2)) :: L:=by
 rw[putK,if_neg h1,if_neg h2]
theorem Zdc {l:List Dl}{x:Dl}{i:Nat}(hi:i<=l.length)(h:∀ j y,j<i->l[j]?=some y->cmpD y.key x.key<0):putK cmpD (l.map Dl.kn) x.kn=(l.take i).map Dl.kn++putK cmpD ((l.drop i).map Dl.kn) x.kn:=by
 rw[putK_at cmpD x.kn (l.map Dl.kn) i (by simpa using hi) ?_,List.map_take,List.map_drop]
 intro j y hj hy
 rw[List.getElem?_map]at hy
 cases hz:l[j]? with
 |none=>rw[hz]at hy;cases hy
 |some z=>rw[hz]at hy;cases hy;exact h j z hj hz
theorem put_end0 {l:List Dl}{x:Dl}{i:Nat}(hi:i=l.length)(h:∀ j y,j<i->l[j]?=some y->cmpD y.key x.key<0)(h0:x.n=0):([]++l.take i++l.drop i).map Dl.kn=putK cmpD (l.map Dl.kn) x.kn:=by
 rw[Zdc (by omega) h,List.drop_of_length_le (by omega)]
 simp[putK,Dl.kn,h0]
theorem put_end1 {l:List Dl}{x:Dl}{i:Nat}(hi:i=l.length)(h:∀ j y,j<i->l[j]?=some y->cmpD y.key x.key<0)(h0:x.n≠0):([]++l.take i++[x]++l.drop i).map Dl.kn=putK cmpD (l.map Dl.kn) x.kn:=by
 rw[Zdc (by omega) h,List.drop_of_length_le (by omega)]
 simp[putK,Dl.kn,h0]
theorem put_in0 {l:List Dl}{x y:Dl}{i:Nat}(hy:l[i]?=some y)(h:∀ j y,j<i->l[j]?=some y->cmpD y.key x.key<0)(h1:¬ cmpD y.key x.key<0)(h2:cmpD x.key y.key<0)(h0:x.n=0):([]++l.take i++l.drop i).map Dl.kn=putK cmpD (l.map Dl.kn) x.kn:=by
 obtain⟨hi,rfl⟩:=List.getElem?_eq_some_iff.1 hy
 rw[Zdc (by omega) h,List.drop_eq_getElem_cons hi,List.map_cons,putK_gt h1 h2,if_pos (show x.kn.2=0 from h0),List.nil_append,List.map_append,List.map_cons]
theorem put_in1 {l:List Dl}{x y:Dl}{i:Nat}(hy:l[i]?=some y)(h:∀ j y,j<i->l[j]?=some y->cmpD y.key x.key<0)(h1:¬ cmpD y.key x.key<0)(h2:cmpD x.key y.key<0)(h0:x.n≠0):([]++l.take i++[x]++l.drop i).map Dl.kn=putK cmpD (l.map Dl.kn) x.kn:=by
 obtain⟨hi,rfl⟩:=List.getElem?_eq_some_iff.1 hy
 rw[Zdc (by omega) h,List.drop_eq_getElem_cons hi,List.map_cons,putK_gt h1 h2,if_neg (show ¬ x.kn.2=0 from h0),List.nil_append,List.append_assoc,List.map_append,List.map_append,List.map_cons]
 rfl
theorem put_on0 {l:List Dl}{x y:Dl}{i:Nat}{sm:Int}(hsm:sm=IntKind.i64.wrap (x.n+y.n))(hy:l[i]?=some y)(h:∀ j y,j<i->l[j]?=some y->cmpD y.key x.key<0)(h1:¬ cmpD y.key x.key<0)(h2:¬ cmpD x.key y.key<0)(h0:sm=0):([]++l.take i++l.drop (i+1)).map Dl.kn=putK cmpD (l.map Dl.kn) x.kn:=by
 subst hsm
 obtain⟨hi,rfl⟩:=List.getElem?_eq_some_iff.1 hy
 rw[Zdc (by omega) h,List.drop_eq_getElem_cons hi,List.map_cons,putK_on h1 h2,if_pos (show IntKind.i64.wrap (x.kn.2+l[i].kn.2)=0 from h0),List.nil_append,List.map_append]
theorem put_on1 {l:List Dl}{x y:Dl}{i:Nat}{sm:Int}(hsm:sm=IntKind.i64.wrap (x.n+y.n))(hy:l[i]?=some y)(h:∀ j y,j<i->l[j]?=some y->cmpD y.key x.key<0)(h1:¬ cmpD y.key x.key<0)(h2:¬ cmpD x.key y.key<0)(h0:sm≠0):([]++l.take i++[x.withN sm]++l.drop (i+1)).map Dl.kn=putK cmpD (l.map Dl.kn) x.kn:=by
 subst hsm
 obtain⟨hi,rfl⟩:=List.getElem?_eq_some_iff.1 hy
 rw[Zdc (by omega) h,List.drop_eq_getElem_cons hi,List.map_cons,putK_on h1 h2,if_neg (show ¬ IntKind.i64.wrap (x.kn.2+l[i].kn.2)=0 from h0),List.nil_append,List.append_assoc,List.map_append,List.map_append]
 rfl
end Go.Proofs.YtfnpfkgmacaboaaGreat
namespace Go.Proofs.YtfnpfkgmacaboaaGreat
open Go.Proofs.Tryz
open Lib (hid)
open Go.ChangeShapes Go.WideShapes Go.ChangeAt Go.RowKit
set_option linter.unusedVariables false
set_option linter.unusedSimpArgs false
set_option maxHeartbeats 8000000 in
set_option maxRecDepth 100000 in
theorem rput_any (l:List Dl)(ao:Option Addr)(cap:Nat)(hl:l.length<=100000000)(hlc:l.length<=cap)(hcap:ao=none->cap=0)(x:Dl)(w:World)(h:DlsAt w ao l)(hx:x.Ok w) :
 Calls prog 75 #[.slice ao l.length cap,x.val] w fun e w'=>∃ v l',e=.returned v/\OwnD w' w.heap.size v l'/\l'.length<=l.length+1/\l'.map Dl.kn=putK cmpD (l.map Dl.kn) x.kn/\Below w.heap.size w w':=by
 have H:=hid h.1
 have Ma:=hid h.2
 have Gc:=hid hx
 have HC:=hid hcap
 have HLess:=hid (fun a b w'=>rless_any a b w')
 clear h hcap hx
 dsimp only[Dl.val]
 go_enter func75,ntmps75
 go_wp2_with fail
 refine Zan (fun W hW=>?_)
 have HW:Hid (Below w.heap.size w W):=by rw[hW];exact Zab _
 have HT:Hid (Box W w.heap.size #[Value.string x.r.src,Value.int .i64 x.r.seq,Value.string x.r.tb,Value.string x.r.ky,Value.int .i64 x.r.ev,Value.slice x.r.fa x.r.vs.length x.r.fc,Value.int .i64 x.r.no,Value.int .i64 x.r.tk,Value.int .i64 x.tick,Value.int .i64 x.n] 70):=by rw[hW];exact Box.new _ _ _
 clear hW
 go_loopw [5] (fun v wr=>∃ i:Nat,i<=l.length/\v=.int .i64 i/\Hid (∀ j y,j<i->l[j]?=some y->cmpD y.key x.key<0)/\Below W.heap.size W wr) (fun v _=>l.length - (intOf v).toNat)
 case atStart=>exact⟨0,by omega,rfl,hid (fun j y hj=>by omega),Below.refl _ _⟩
 case round =>
  obtain⟨i,hi,rfl,hlow,hB⟩:=hrel
  have HB:=hid hB
  have HBw:=hid (HW.out.trans (hB.mono HW.out.size))
  clear hB
  by_cases hlt:i<l.length
  · obtain⟨y,hy⟩:∃ y,l[i]?=some y:=⟨l[i],List.getElem?_eq_getElem hlt⟩
    obtain⟨b,off,rfl,hrow⟩:=(H.out.kept HBw.out).some (by omega)
    obtain⟨c0,c1,c2,c3,c4,c5,c6,c7,c8,c9⟩:=Dl.cell hrow hy
    have HY:=hid hy
    have Um:Hid (y.Ok w):=Ma.out y (List.mem_of_getElem? hy)
    clear hrow hy
    have ws1:IntKind.i64.wrap (i:Int)=(i:Int):=IntWalk.i64_in _ (by omega)
    go_upto_region 2 with fail
    refine Zan (fun V hV=>?_)
    have Aa:Hid (Below w.heap.size w V):=by rw[hV];exact HBw.out
    have Am:Hid (Below W.heap.size W V):=by rw[hV];exact HB.out
    have r0:∀ d os,(Go.Sort.grow (redrawn V d) os).cell? ⟨b,off+i*10,none⟩=some (Value.string y.r.src):=fun d os=>cell_regrown (by rw[hV];exact c0) d os
    have r1:∀ d os,(Go.Sort.grow (redrawn V d) os).cell? ⟨b,off+i*10+1,none⟩=some (Value.int .i64 y.r.seq):=fun d os=>cell_regrown (by rw[hV];exact c1) d os
    have r2:∀ d os,(Go.Sort.grow (redrawn V d) os).cell? ⟨b,off+i*10+2,none⟩=some (Value.string y.r.tb):=fun d os=>cell_regrown (by rw[hV];exact c2) d os
    have r3:∀ d os,(Go.Sort.grow (redrawn V d) os).cell? ⟨b,off+i*10+3,none⟩=some (Value.string y.r.ky):=fun d os=>cell_regrown (by rw[hV];exact c3) d os
    have r4:∀ d os,(Go.Sort.grow (redrawn V d) os).cell? ⟨b,off+i*10+4,none⟩=some (Value.int .i64 y.r.ev):=fun d os=>cell_regrown (by rw[hV];exact c4) d os
    have r5:∀ d os,(Go.Sort.grow (redrawn V d) os).cell? ⟨b,off+i*10+5,none⟩=some (Value.slice y.r.fa y.r.vs.length y.r.fc):=fun d os=>cell_regrown (by rw[hV];exact c5) d os
    have r6:∀ d os,(Go.Sort.grow (redrawn V d) os).cell? ⟨b,off+i*10+6,none⟩=some (Value.int .i64 y.r.no):=fun d os=>cell_regrown (by rw[hV];exact c6) d os
    have r7:∀ d os,(Go.Sort.grow (redrawn V d) os).cell? ⟨b,off+i*10+7,none⟩=some (Value.int .i64 y.r.tk):=fun d os=>cell_regrown (by rw[hV];exact c7) d os
    have r8:∀ d os,(Go.Sort.grow (redrawn V d) os).cell? ⟨b,off+i*10+8,none⟩=some (Value.int .i64 y.tick):=fun d os=>cell_regrown (by rw[hV];exact c8) d os
    have r9:∀ d os,(Go.Sort.grow (redrawn V d) os).cell? ⟨b,off+i*10+9,none⟩=some (Value.int .i64 y.n):=fun d os=>cell_regrown (by rw[hV];exact c9) d os
    obtain⟨s0,s1,s2,s3,s4,s5,s6,s7,s8,s9⟩:=(HT.out.kept Am.out).all10
    have Xd:=hid (fun d os=>Calls.regrown_of (HLess.out y x (Go.Sort.grow (redrawn V d) os) ((Um.out.r.kept Aa.out).kept (below_regrown V d os)) ((Gc.out.r.kept Aa.out).kept (below_regrown V d os))))
    generalize hbl:decide (cmpD y.key x.key<0)=bl at *
    clear hV c0 c1 c2 c3 c4 c5 c6 c7 c8 c9
    refine wp_region_quiet_below (by kernel_rfl) (by kernel_rfl) ?_
    repeat(go_big_quiet_step (first|with_reducible exact Xd.out _ _))
    refine wpQuiet_nil ?_
    intro _ hw'
    obtain⟨p,hw''⟩:=hw'
    subst hw''
    have HZ:=below_regrown V p.d p.os
    generalize Go.Sort.grow (redrawn V p.d) p.os=V2 at *
    have La:Hid (Below W.heap.size W V2):=Am.out.trans (HZ.mono Am.out.size)
    clear HZ Xd r0 r1 r2 r3 r4 r5 r6 r7 r8 r9 s0 s1 s2 s3 s4 s5 s6 s7 s8 s9 Aa Am
    cases bl
    · have We:Hid (decide (cmpD y.key x.key<0)=false):=hbl
      clear hbl
      have hcu:=fun w=>Za4 elD (some ⟨b,off,none⟩) l.length cap i (by omega) w
      have Pd:Hid (i=(l.take i).length):=by show _=_;simp;omega
      have Vc:Hid (Own Dl.cells 10 70 (V2.alloc (.cells #[] 70)) W.heap.size (.slice (some ⟨V2.heap.size,0,none⟩) 0 0) []):=Own.lit La.out.size
      have Ra:Hid (Below W.heap.size W (V2.alloc (.cells #[] 70))):=La.out.alloc La.out.size _
      have Hw:Hid (∀ w',Below W.heap.size W w'->Zac Dl.cells 10 w' (some ⟨b,off,none⟩) (l.take i)):=fun w' hb=>((H.out.kept HW.out).kept hb).take i
      have Nb:Hid (([]:List Dl).length+(l.take i).length<=1000000000):=by show _<=_;simp;omega
      obtain⟨A,hcf,hA1,hA2⟩:=Za5 elD (some ⟨b,off,none⟩) l.length cap i hi
      obtain rfl:=hA2 b off rfl (by omega)
      clear hA1 hA2
      have HR0:Hid (∀ w',Below W.heap.size W w'->Lies Dl.cells 10 w' b (off+i*10) (l.drop i)):=by
       intro w' hb
       obtain⟨b',off',he,hr⟩:=((H.out.kept HW.out).kept hb).some (by omega)
       injection he with he;injection he with e1 e2 e3;subst e1 e2;exact hr.drop i
      have Wi:Hid (l.length - i=(l.drop i).length):=by show _=_;simp
      have Ut:Hid (l.length - i - 1=(l.drop (i+1)).length):=by show _=_;simp;omega
      have HY0:Hid ((l.drop i)[0]?=some y):=by show _=_;rw[List.getElem?_drop];exact HY.out
      have Vt:Hid ((l.drop i).drop 1=l.drop (i+1)):=by show _=_;rw[List.drop_drop]
      have hq:0<l.length - i:=by omega
      have hqc:l.length - i<=cap - i:=by omega
      go_wp2_with (at_builtin;refine Zai elD encD rfl (.tmp 22) (.tmp 25) rfl rfl rfl Vc.out (Hw.out _ Ra.out) Pd.out (fun e=>by cases e) Ra.out.size Nb.out ?_;intro v1 w1 ho hb;have Fb:=hid ho;have Ia:=hid (Ra.out.trans hb);clear ho hb)
      obtain⟨c0,c1,c2,c3,c4,c5,c6,c7,c8,c9⟩:=Dl.cell (HR0.out _ Ia.out) HY0.out
      simp only[Nat.zero_mul,Nat.add_zero]at c0 c1 c2 c3 c4 c5 c6 c7 c8 c9
      generalize l.length - i=q at *
      generalize cap - i=cq at *
      generalize hof:off+i*10=of1 at *
      have hgt:(0:Int)<(q:Int):=by omega
      have Xd:=hid (fun d os=>Calls.regrown_of (HLess.out x y (Go.Sort.grow (redrawn w1 d) os) ((Gc.out.r.kept (HW.out.trans (Ia.out.mono HW.out.size))).kept (below_regrown w1 d os)) ((Um.out.r.kept (HW.out.trans (Ia.out.mono HW.out.size))).kept (below_regrown w1 d os))))
      generalize hbl:decide (cmpD x.key y.key<0)=bl at *
      have r0:∀ d os,(Go.Sort.grow (redrawn w1 d) os).cell? ⟨b,of1,none⟩=some (Value.string y.r.src):=fun d os=>cell_regrown c0 d os
      have r1:∀ d os,(Go.Sort.grow (redrawn w1 d) os).cell? ⟨b,of1+1,none⟩=some (Value.int .i64 y.r.seq):=fun d os=>cell_regrown c1 d os
      have r2:∀ d os,(Go.Sort.grow (redrawn w1 d) os).cell? ⟨b,of1+2,none⟩=some (Value.string y.r.tb):=fun d os=>cell_regrown c2 d os
      have r3:∀ d os,(Go.Sort.grow (redrawn w1 d) os).cell? ⟨b,of1+3,none⟩=some (Value.string y.r.ky):=fun d os=>cell_regrown c3 d os
      have r4:∀ d os,(Go.Sort.grow (redrawn w1 d) os).cell? ⟨b,of1+4,none⟩=some (Value.int .i64 y.r.ev):=fun d os=>cell_regrown c4 d os
      have r5:∀ d os,(Go.Sort.grow (redrawn w1 d) os).cell? ⟨b,of1+5,none⟩=some (Value.slice y.r.fa y.r.vs.length y.r.fc):=fun d os=>cell_regrown c5 d os
      have r6:∀ d os,(Go.Sort.grow (redrawn w1 d) os).cell? ⟨b,of1+6,none⟩=some (Value.int .i64 y.r.no):=fun d os=>cell_regrown c6 d os
      have r7:∀ d os,(Go.Sort.grow (redrawn w1 d) os).cell? ⟨b,of1+7,none⟩=some (Value.int .i64 y.r.tk):=fun d os=>cell_regrown c7 d os
      have r8:∀ d os,(Go.Sort.grow (redrawn w1 d) os).cell? ⟨b,of1+8,none⟩=some (Value.int .i64 y.tick):=fun d os=>cell_regrown c8 d os
      have r9:∀ d os,(Go.Sort.grow (redrawn w1 d) os).cell? ⟨b,of1+9,none⟩=some (Value.int .i64 y.n):=fun d os=>cell_regrown c9 d os
      obtain⟨s0,s1,s2,s3,s4,s5,s6,s7,s8,s9⟩:=(HT.out.kept Ia.out).all10
      clear c0 c1 c2 c3 c4 c5 c6 c7 c8 c9
      refine wp_region_quiet_below (by kernel_rfl) (by kernel_rfl) ?_
      repeat(go_big_quiet_step (first|with_reducible exact Xd.out _ _))
      refine wpQuiet_nil ?_
      intro _ hw'
      obtain⟨p,hw''⟩:=hw'
      subst hw''
      have HZ:=hid (below_regrown w1 p.d p.os)
      clear Xd r0 r1 r2 r3 r4 r5 r6 r7 r8 r9 s0 s1 s2 s3 s4 s5 s6 s7 s8 s9
      generalize Go.Sort.grow (redrawn w1 p.d) p.os=V4 at *
      have Pa:Hid (Below W.heap.size W V4):=Ia.out.trans (HZ.out.mono Ia.out.size)
      have Ld:=hid (Fb.out.kept HZ.out)
      obtain⟨c0,c1,c2,c3,c4,c5,c6,c7,c8,c9⟩:=Dl.cell (HR0.out _ Pa.out) HY0.out
      simp only[Nat.zero_mul,Nat.add_zero]at c0 c1 c2 c3 c4 c5 c6 c7 c8 c9
      have Ac:=hid (HT.out.kept Pa.out)
      have k0:=Ac.out.cell 0 _ rfl
      cases bl
      · have Ab:Hid (decide (cmpD x.key y.key<0)=false):=hbl
        have k9:=Ac.out.cell 9 _ rfl
        have f9:=Ac.out.free 9
        have HWlt:Hid (w.heap.size<W.heap.size):=HT.out.lt
        have hR:=Za5 elD (some ⟨b,of1,none⟩) q cq 1 (by omega)
        obtain⟨A2,Wv,hB1,hB2⟩:=hR
        simp only[Int.natCast_one]at Wv
        have Dg:Hid (A2=none->cq - 1=0):=fun e=>by cases hB1 e
        have Eb:Hid (∀ w',Below w.heap.size w w'->Zac Dl.cells 10 w' A2 (l.drop (i+1))):=by
         intro w' hb
         obtain⟨b',off',he,hr⟩:=(H.out.kept hb).some (by omega)
         injection he with he;injection he with e1 e2 e3;subst e1 e2
         have Bb:=hr.drop i
         rw[hof]at Bb
         rw[<-Vt.out]
         exact ZaV (Or.inr ⟨_,_,rfl,Bb⟩) (by have:=Wi.out;omega) hB2
        clear hbl hB1 hB2 k0
        go_wp2_with fail
        go_region
        have Ms:Hid (wrap64 (x.n+y.n)=IntKind.i64.wrap (x.n+y.n)):=ZeT _
        generalize wrap64 (x.n+y.n)=sm at *
        refine gen_exit (fun V5 h5=>?_)
        have HXw:Hid (Below w.heap.size w V5):=by rw[h5];exact(((HW.out.trans (Pa.out.mono HW.out.size)).setCell (Nat.le_refl _) _)).drew
        have HOw:Hid (Own Dl.cells 10 70 V5 w.heap.size v1 ([]++l.take i)):=by rw[h5];exact(Ld.out.far (p:=⟨w.heap.size,9,none⟩) HWlt.out).mono HW.out.size
        have Xe:Hid (Box V5 w.heap.size #[Value.string x.r.src,Value.int .i64 x.r.seq,Value.string x.r.tb,Value.string x.r.ky,Value.int .i64 x.r.ev,Value.slice x.r.fa x.r.vs.length x.r.fc,Value.int .i64 x.r.no,Value.int .i64 x.r.tk,Value.int .i64 x.tick,Value.int .i64 sm] 70):=by rw[h5];exact Ac.out.put 9 (.int .i64 sm)
        clear h5 k9 f9 c0 c1 c2 c3 c4 c5 c6 c7 c8 c9
        obtain⟨t0,t1,t2,t3,t4,t5,t6,t7,t8,t9⟩:=Xe.out.at10
        have HOx:Hid ((x.withN sm).Ok w):={ Gc.out with n:=by show I64 sm;rw[Ms.out];exact I64.wrap _ }
        have HRm:Hid (∀ d,d∈l.drop (i+1)->d∈l):=fun d hd=>List.mem_of_mem_drop hd
        have HTm:Hid (∀ d,d∈l.take i->d∈l):=fun d hd=>List.mem_of_mem_take hd
        have HLn:Hid ((l.drop (i+1)).length<=100000000/\(l.drop (i+1)).length+(l.take i).length<=l.length):=⟨by have:(l.drop (i+1)).length<=l.length:=(by simp);omega,by simp;omega⟩
        by_cases Ec:sm=0
        · have hne:(sm != 0)=false:=by simpa using Ec
          have Sj:Hid (([]++l.take i++l.drop (i+1)).map Dl.kn=putK cmpD (l.map Dl.kn) x.kn):=put_on0 Ms.out HY.out hlow.out (of_decide_eq_false We.out) (of_decide_eq_false Ab.out) Ec
          have HLb:Hid (([]++l.take i).length+(l.drop (i+1)).length<=1000000000):=by show _<=_;have:=HLn.out;simp at this ⊢<;>omega
          clear Ec
          go_wp2_with (at_builtin;refine Zai elD encD rfl (.tmp 58) (.tmp 59) rfl rfl rfl HOw.out (Eb.out _ HXw.out) Ut.out Dg.out HXw.out.size HLb.out ?_;intro v5 w5 ho hb;have Bc:=hid ho;have Ya:=hid (HXw.out.trans hb);clear ho hb)
          go_ret
          have Ge:=Ya.out
          refine⟨_,_,rfl,⟨Bc.out,fun d hd=>?_⟩,?_,Sj.out,Ge⟩
          · simp only[List.nil_append,List.mem_append]at hd
            exact(Ma.out d (hd.elim (HTm.out d) (HRm.out d))).kept Ge
          · have:=HLn.out.2;simp at this ⊢<;>omega
        · have hne:(sm != 0)=true:=by simpa using Ec
          have Sj:Hid (([]++l.take i++[(x.withN sm)]++l.drop (i+1)).map Dl.kn=putK cmpD (l.map Dl.kn) x.kn):=put_on1 Ms.out HY.out hlow.out (of_decide_eq_false We.out) (of_decide_eq_false Ab.out) Ec
          have HLa:Hid (([]++l.take i).length+[(x.withN sm)].length<=1000000000):=by show _<=_;have:=HLn.out;simp at this ⊢<;>omega
          have HLb:Hid (([]++l.take i++[(x.withN sm)]).length+(l.drop (i+1)).length<=1000000000):=by show _<=_;have:=HLn.out;simp at this ⊢<;>omega
          have Of:Hid (Own Dl.cells 10 70 (V5.alloc (.cells (Dl.cells (x.withN sm)).toArray 70)) w.heap.size v1 ([]++l.take i)):=HOw.out.kept (Zab _)
          have Sc:Hid (Below w.heap.size w (V5.alloc (.cells (Dl.cells (x.withN sm)).toArray 70))):=HXw.out.alloc HXw.out.size _
          have Kd:Hid (Zac Dl.cells 10 (V5.alloc (.cells (Dl.cells (x.withN sm)).toArray 70)) (some ⟨V5.heap.size,0,none⟩) [(x.withN sm)]):=Zav _ _ encD
          clear Ec
          go_wp2_with (at_builtin;first|(refine Zai elD encD rfl (.tmp 54) (.tmp 56) rfl rfl rfl Of.out Kd.out rfl (fun e=>by cases e) Sc.out.size HLa.out ?_;intro v5 w5 ho hb;have Bc:=hid ho;have Ya:=hid (Sc.out.trans hb);clear ho hb)|(refine Zai elD encD rfl (.tmp 58) (.tmp 59) rfl rfl rfl Bc.out (Eb.out _ Ya.out) Ut.out Dg.out Ya.out.size HLb.out ?_;intro v7 w7 ho hb;have Tj:=hid ho;have Sp:=hid (Ya.out.trans hb);clear ho hb))
          go_ret
          have Ge:=Sp.out
          refine⟨_,_,rfl,⟨Tj.out,fun d hd=>?_⟩,?_,Sj.out,Ge⟩
          · simp only[List.nil_append,List.mem_append,List.mem_singleton]at hd
            rcases hd with(hd|hd)|hd
            · exact(Ma.out d (HTm.out d hd)).kept Ge
            · subst hd;exact HOx.out.kept Ge
            · exact(Ma.out d (HRm.out d hd)).kept Ge
          · have:=HLn.out.2;simp at this ⊢<;>omega
      · have Ab:Hid (decide (cmpD x.key y.key<0)=true):=hbl
        have HA:Hid ((some ⟨b,of1,none⟩:Option Addr)=none->cq=0):=fun e=>by cases e
        have Eb:Hid (∀ w',Below w.heap.size w w'->Zac Dl.cells 10 w' (some ⟨b,of1,none⟩) (l.drop i)):=by
         intro w' hb
         obtain⟨b',off',he,hr⟩:=(H.out.kept hb).some (by omega)
         injection he with he;injection he with e1 e2 e3;subst e1 e2
         have Bb:=hr.drop i
         rw[hof]at Bb
         exact Or.inr ⟨_,_,rfl,Bb⟩
        clear hbl k0 c0 c1 c2 c3 c4 c5 c6 c7 c8 c9
        obtain⟨t0,t1,t2,t3,t4,t5,t6,t7,t8,t9⟩:=Ac.out.at10
        have HXw:Hid (Below w.heap.size w V4):=HW.out.trans (Pa.out.mono HW.out.size)
        have HOw:Hid (Own Dl.cells 10 70 V4 w.heap.size v1 ([]++l.take i)):=Ld.out.mono HW.out.size
        have HOx:Hid (x.Ok w):=Gc.out
        have HRm:Hid (∀ d,d∈l.drop i->d∈l):=fun d hd=>List.mem_of_mem_drop hd
        have HTm:Hid (∀ d,d∈l.take i->d∈l):=fun d hd=>List.mem_of_mem_take hd
        have HLn:Hid ((l.drop i).length<=100000000/\(l.drop i).length+(l.take i).length<=l.length):=⟨by have:(l.drop i).length<=l.length:=(by simp);omega,by simp;omega⟩
        by_cases Ec:x.n=0
        · have hne:(x.n != 0)=false:=by simpa using Ec
          have Sj:Hid (([]++l.take i++l.drop i).map Dl.kn=putK cmpD (l.map Dl.kn) x.kn):=put_in0 HY.out hlow.out (of_decide_eq_false We.out) (of_decide_eq_true Ab.out) Ec
          have HLb:Hid (([]++l.take i).length+(l.drop i).length<=1000000000):=by show _<=_;have:=HLn.out;simp at this ⊢<;>omega
          clear Ec
          go_wp2_with (at_builtin;refine Zai elD encD rfl (.tmp 58) (.tmp 59) rfl rfl rfl HOw.out (Eb.out _ HXw.out) Wi.out HA.out HXw.out.size HLb.out ?_;intro v5 w5 ho hb;have Bc:=hid ho;have Ya:=hid (HXw.out.trans hb);clear ho hb)
          go_ret
          have Ge:=Ya.out
          refine⟨_,_,rfl,⟨Bc.out,fun d hd=>?_⟩,?_,Sj.out,Ge⟩
          · simp only[List.nil_append,List.mem_append]at hd
            exact(Ma.out d (hd.elim (HTm.out d) (HRm.out d))).kept Ge
          · have:=HLn.out.2;simp at this ⊢<;>omega
        · have hne:(x.n != 0)=true:=by simpa using Ec
          have Sj:Hid (([]++l.take i++[x]++l.drop i).map Dl.kn=putK cmpD (l.map Dl.kn) x.kn):=put_in1 HY.out hlow.out (of_decide_eq_false We.out) (of_decide_eq_true Ab.out) Ec
          have HLa:Hid (([]++l.take i).length+[x].length<=1000000000):=by show _<=_;have:=HLn.out;simp at this ⊢<;>omega
          have HLb:Hid (([]++l.take i++[x]).length+(l.drop i).length<=1000000000):=by show _<=_;have:=HLn.out;simp at this ⊢<;>omega
          have Of:Hid (Own Dl.cells 10 70 (V4.alloc (.cells (Dl.cells x).toArray 70)) w.heap.size v1 ([]++l.take i)):=HOw.out.kept (Zab _)
          have Sc:Hid (Below w.heap.size w (V4.alloc (.cells (Dl.cells x).toArray 70))):=HXw.out.alloc HXw.out.size _
          have Kd:Hid (Zac Dl.cells 10 (V4.alloc (.cells (Dl.cells x).toArray 70)) (some ⟨V4.heap.size,0,none⟩) [x]):=Zav _ _ encD
          clear Ec
          go_wp2_with (at_builtin;first|(refine Zai elD encD rfl (.tmp 54) (.tmp 56) rfl rfl rfl Of.out Kd.out rfl (fun e=>by cases e) Sc.out.size HLa.out ?_;intro v5 w5 ho hb;have Bc:=hid ho;have Ya:=hid (Sc.out.trans hb);clear ho hb)|(refine Zai elD encD rfl (.tmp 58) (.tmp 59) rfl rfl rfl Bc.out (Eb.out _ Ya.out) Wi.out HA.out Ya.out.size HLb.out ?_;intro v7 w7 ho hb;have Tj:=hid ho;have Sp:=hid (Ya.out.trans hb);clear ho hb))
          go_ret
          have Ge:=Sp.out
          refine⟨_,_,rfl,⟨Tj.out,fun d hd=>?_⟩,?_,Sj.out,Ge⟩
          · simp only[List.nil_append,List.mem_append,List.mem_singleton]at hd
            rcases hd with(hd|hd)|hd
            · exact(Ma.out d (HTm.out d hd)).kept Ge
            · subst hd;exact HOx.out.kept Ge
            · exact(Ma.out d (HRm.out d hd)).kept Ge
          · have:=HLn.out.2;simp at this ⊢<;>omega
    · have HL:Hid (∀ j z,j<i+1->l[j]?=some z->cmpD z.key x.key<0):=by
        intro j z hj hz
        by_cases e:j=i
        · subst e;rw[HY.out]at hz;injection hz with hz;subst hz;exact of_decide_eq_true hbl
        · exact hlow.out j z (by omega) hz
      clear hbl
      go_wp2_with fail
      go_roundw
      case rel=>exact⟨i+1,by omega,by go_num,HL,La.out⟩
      case measure=>simp[intOf];omega
  · have HIE:Hid (i=l.length):=by show _=_;omega
    go_wp2_with fail
    go_quiet (fail)
    generalize hX:wr.drewN nq=V2
    have La:Hid (Below W.heap.size W V2):=by rw[<-hX];exact Zad HB.out _
    clear hX
    have hcu:=fun w=>Za4 elD ao l.length cap i (by omega) w
    have Pd:Hid (i=(l.take i).length):=by show _=_;simp;omega
    have Vc:Hid (Own Dl.cells 10 70 (V2.alloc (.cells #[] 70)) W.heap.size (.slice (some ⟨V2.heap.size,0,none⟩) 0 0) []):=Own.lit La.out.size
    have Ra:Hid (Below W.heap.size W (V2.alloc (.cells #[] 70))):=La.out.alloc La.out.size _
    have Hw:Hid (∀ w',Below W.heap.size W w'->Zac Dl.cells 10 w' ao (l.take i)):=fun w' hb=>((H.out.kept HW.out).kept hb).take i
    have Nb:Hid (([]:List Dl).length+(l.take i).length<=1000000000):=by show _<=_;simp;omega
    obtain⟨A,hcf,hA1,hA2⟩:=Za5 elD ao l.length cap i hi
    have HA:Hid (A=none->cap - i=0):=fun h=>by have:=HC.out (hA1 h);omega
    have Wi:Hid (l.length - i=(l.drop i).length):=by show _=_;simp
    have Eb:Hid (∀ w',Below w.heap.size w w'->Zac Dl.cells 10 w' A (l.drop i)):=fun w' hb=>ZaV (H.out.kept hb) hlc hA2
    clear hA1 hA2
    have hq:l.length - i=0:=by omega
    generalize l.length - i=q at *
    subst hq
    generalize cap - i=cq at *
    go_wp2_with (at_builtin;refine Zai elD encD rfl (.tmp 22) (.tmp 25) rfl rfl rfl Vc.out (Hw.out _ Ra.out) Pd.out HC.out Ra.out.size Nb.out ?_;intro v1 w1 ho hb;have Fb:=hid ho;have Ia:=hid (Ra.out.trans hb);clear ho hb)
    go_quiet (fail)
    generalize hX:w1.drewN nq=V4
    have Pa:Hid (Below W.heap.size W V4):=by rw[<-hX];exact Zad Ia.out _
    have Ld:Hid (Own Dl.cells 10 70 V4 W.heap.size v1 ([]++l.take i)):=by rw[<-hX];exact Fb.out
    clear hX
    obtain⟨t0,t1,t2,t3,t4,t5,t6,t7,t8,t9⟩:=(HT.out.kept Pa.out).at10
    have HXw:Hid (Below w.heap.size w V4):=HW.out.trans (Pa.out.mono HW.out.size)
    have HOw:Hid (Own Dl.cells 10 70 V4 w.heap.size v1 ([]++l.take i)):=Ld.out.mono HW.out.size
    have HOx:Hid (x.Ok w):=Gc.out
    have HRm:Hid (∀ d,d∈l.drop i->d∈l):=fun d hd=>List.mem_of_mem_drop hd
    have HTm:Hid (∀ d,d∈l.take i->d∈l):=fun d hd=>List.mem_of_mem_take hd
    have HLn:Hid ((l.drop i).length<=100000000/\(l.drop i).length+(l.take i).length<=l.length):=⟨by have:(l.drop i).length<=l.length:=(by simp);omega,by simp;omega⟩
    by_cases Ec:x.n=0
    · have hne:(x.n != 0)=false:=by simpa using Ec
      have Sj:Hid (([]++l.take i++l.drop i).map Dl.kn=putK cmpD (l.map Dl.kn) x.kn):=put_end0 HIE.out hlow.out Ec
      have HLb:Hid (([]++l.take i).length+(l.drop i).length<=1000000000):=by show _<=_;have:=HLn.out;simp at this ⊢<;>omega
      clear Ec
      go_wp2_with (at_builtin;refine Zai elD encD rfl (.tmp 58) (.tmp 59) rfl rfl rfl HOw.out (Eb.out _ HXw.out) Wi.out HA.out HXw.out.size HLb.out ?_;intro v5 w5 ho hb;have Bc:=hid ho;have Ya:=hid (HXw.out.trans hb);clear ho hb)
      go_ret
      have Ge:=Ya.out
      refine⟨_,_,rfl,⟨Bc.out,fun d hd=>?_⟩,?_,Sj.out,Ge⟩
      · simp only[List.nil_append,List.mem_append]at hd
        exact(Ma.out d (hd.elim (HTm.out d) (HRm.out d))).kept Ge
      · have:=HLn.out.2;simp at this ⊢<;>omega
    · have hne:(x.n != 0)=true:=by simpa using Ec
      have Sj:Hid (([]++l.take i++[x]++l.drop i).map Dl.kn=putK cmpD (l.map Dl.kn) x.kn):=put_end1 HIE.out hlow.out Ec
      have HLa:Hid (([]++l.take i).length+[x].length<=1000000000):=by show _<=_;have:=HLn.out;simp at this ⊢<;>omega
      have HLb:Hid (([]++l.take i++[x]).length+(l.drop i).length<=1000000000):=by show _<=_;have:=HLn.out;simp at this ⊢<;>omega
      have Of:Hid (Own Dl.cells 10 70 (V4.alloc (.cells (Dl.cells x).toArray 70)) w.heap.size v1 ([]++l.take i)):=HOw.out.kept (Zab _)
      have Sc:Hid (Below w.heap.size w (V4.alloc (.cells (Dl.cells x).toArray 70))):=HXw.out.alloc HXw.out.size _
      have Kd:Hid (Zac Dl.cells 10 (V4.alloc (.cells (Dl.cells x).toArray 70)) (some ⟨V4.heap.size,0,none⟩) [x]):=Zav _ _ encD
      clear Ec
      go_wp2_with (at_builtin;first|(refine Zai elD encD rfl (.tmp 54) (.tmp 56) rfl rfl rfl Of.out Kd.out rfl (fun e=>by cases e) Sc.out.size HLa.out ?_;intro v5 w5 ho hb;have Bc:=hid ho;have Ya:=hid (Sc.out.trans hb);clear ho hb)|(refine Zai elD encD rfl (.tmp 58) (.tmp 59) rfl rfl rfl Bc.out (Eb.out _ Ya.out) Wi.out HA.out Ya.out.size HLb.out ?_;intro v7 w7 ho hb;have Tj:=hid ho;have Sp:=hid (Ya.out.trans hb);clear ho hb))
      go_ret
      have Ge:=Sp.out
      refine⟨_,_,rfl,⟨Tj.out,fun d hd=>?_⟩,?_,Sj.out,Ge⟩
      · simp only[List.nil_append,List.mem_append,List.mem_singleton]at hd
        rcases hd with(hd|hd)|hd
        · exact(Ma.out d (HTm.out d hd)).kept Ge
        · subst hd;exact HOx.out.kept Ge
        · exact(Ma.out d (HRm.out d hd)).kept Ge
      · have:=HLn.out.2;simp at this ⊢<;>omega
end Go.Proofs.YtfnpfkgmacaboaaGreat
namespace Go.Proofs.YtfnpfkgmacaboaaGreat
open Go.Proofs.Tryz
open Lib (hid)
open Go.ChangeShapes Go.WideShapes Go.ChangeAt Go.RowKit
set_option linter.unusedVariables false
set_option linter.unusedSimpArgs false
instance decRK:DecidableEq RK:=fun a b=>if h:cmpR a b=0 then .isTrue ((ZbP.zero a b).1 h)else .isFalse (fun e=>h ((ZbP.zero a b).2 e))
instance decDK:DecidableEq DK:=fun a b=>if h:cmpD a b=0 then .isTrue ((Zbx.zero a b).1 h)else .isFalse (fun e=>h ((Zbx.zero a b).2 e))
def consK (d:List (DK × Int)):List (DK × Int):=d.foldl (putK cmpD) []
theorem consK_snoc (d:List (DK × Int))(x:DK × Int):consK (d++[x])=putK cmpD (consK d) x:=by unfold consK;rw[List.foldl_append];rfl
theorem Zar {α:Type}{l:List α}{i:Nat}{x:α}(h:l[i]?=some x):l.take (i+1)=l.take i++[x]:=by
 rw[List.take_add_one,h];rfl
theorem OwnD.kept {w w':World}{B:Nat}{v:Value}{l:List Dl}(h:OwnD w B v l)(hb:Below w.heap.size w w'):OwnD w' B v l:=⟨h.1.kept hb,fun d hd=>(h.2 d hd).kept hb⟩
theorem OwnD.mono {w:World}{B B':Nat}{v:Value}{l:List Dl}(h:OwnD w B v l)(hB:B'<=B):OwnD w B' v l:=⟨h.1.mono hB,h.2⟩
theorem OwnD.nil (w:World)(B:Nat):OwnD w B (.slice none 0 0) []:=⟨Own.nil w B,fun d hd=>by cases hd⟩
theorem OwnD.lies {w:World}{B:Nat}{v:Value}{l:List Dl}(h:OwnD w B v l):∃ ao c,v=.slice ao l.length c/\l.length<=c/\(ao=none->c=0)/\DlsAt w ao l:=by
 obtain⟨ao,c,h1,h2,h3,h4⟩:=h.1.lies encD
 exact⟨ao,c,h1,h2,h3,h4,h.2⟩
theorem keepB {B:Nat}{w0 w w1:World}(hB:B<=w0.heap.size)(h:Below B w0 w)(hb:Below w.heap.size w w1):Below B w0 w1:=h.trans (hb.mono (Nat.le_trans hB h.size))
set_option maxHeartbeats 2000000 in
set_option maxRecDepth 100000 in
theorem rcons_any (l:List Dl)(ao:Option Addr)(cap:Nat)(hl:l.length<=100000000)(w:World)(h:DlsAt w ao l) :
 Calls prog 42 #[.slice ao l.length cap] w fun e w'=>∃ v l',e=.returned v/\OwnD w' w.heap.size v l'/\l'.length<=l.length/\l'.map Dl.kn=consK (l.map Dl.kn)/\Below w.heap.size w w':=by
 have H:=hid h
 clear h
 go_enter func42,ntmps42
 go_wp2_with fail
 go_loopw [3,4] (fun v j wr=>∃ (i:Nat) (r:List Dl) (v0:Value),v0=v/\i<=l.length/\j=.int .i64 i/\Hid (OwnD wr w.heap.size v r/\r.length<=i/\r.map Dl.kn=consK ((l.take i).map Dl.kn))/\Below w.heap.size w wr) (fun _ j _=>l.length - (intOf j).toNat)
 case atStart=>exact⟨0,[],_,rfl,by omega,rfl,⟨OwnD.nil _ _,Nat.le_refl _,rfl⟩,Below.refl _ _⟩
 case round =>
  obtain⟨i,r,v0,rfl,hi,rfl,HR,hB⟩:=hrel
  have HB:=hid hB
  clear hB
  by_cases hlt:i<l.length
  · obtain⟨x,hx⟩:∃ x,l[i]?=some x:=⟨l[i],List.getElem?_eq_getElem hlt⟩
    obtain⟨b,off,rfl,hrow⟩:=(H.out.1.kept HB.out).some (by omega)
    obtain⟨c0,c1,c2,c3,c4,c5,c6,c7,c8,c9⟩:=Dl.cell hrow hx
    have HX:=hid hx
    have Gc:Hid (x.Ok wr):=(H.out.2 x (List.mem_of_getElem? hx)).kept HB.out
    obtain⟨a2,c,rfl,hrc,hrn,hrd⟩:=HR.out.1.lies
    have HP:=hid (rput_any r a2 c (by have:=HR.out.2.1;omega) hrc hrn x wr hrd Gc.out)
    have Xp:Hid (r.length<=i):=HR.out.2.1
    have HRM:Hid (r.map Dl.kn=consK ((l.take i).map Dl.kn)):=HR.out.2.2
    clear hrow hx hrc hrn hrd HR
    generalize hrl:r.length=rl at *
    have Lh:=hid hrl
    clear hrl
    go_wp2_with (go_at_call 75;(with_reducible refine HP.out.mono ?_);rintro e w1 ⟨v',l',rfl,ho,hl',hm,hb⟩;have HO:=hid ho;have HL:=hid hl';have HM:=hid hm;have Qb:=hid hb;clear ho hl' hm hb)
    go_roundw
    case rel =>
     refine⟨i+1,l',_,rfl,by omega,by go_num,⟨HO.out.mono HB.out.size,?_,?_⟩,keepB (Nat.le_refl _) HB.out Qb.out⟩
     · have h1:=HL.out;have h2:=Xp.out;omega
     · rw[HM.out,HRM.out,Zar HX.out,List.map_append,List.map_singleton,consK_snoc]
    case measure=>simp[intOf];omega
  · obtain rfl:i=l.length:=by omega
    go_wp2_with fail
    go_ret
    exact⟨_,r,rfl,HR.out.1,HR.out.2.1,by rw[HR.out.2.2,List.take_length],HB.out⟩
end Go.Proofs.YtfnpfkgmacaboaaGreat
namespace Go.Proofs.YtfnpfkgmacaboaaGreat
open Go.Proofs.Tryz
open Lib (hid)
open Go.ChangeShapes Go.WideShapes Go.ChangeAt Go.RowKit
set_option linter.unusedVariables false
set_option linter.unusedSimpArgs false
def Dl.neg (d:Dl):Dl:=d.withN (IntKind.i64.wrap (-d.n))
theorem Dl.Ok.neg {w:World}{d:Dl}(h:d.Ok w):d.neg.Ok w:={ h with n:=I64.wrap _ }
end Go.Proofs.YtfnpfkgmacaboaaGreat
namespace Go.Proofs.YtfnpfkgmacaboaaGreat
open Go.Proofs.Tryz
open Lib (hid)
open Go.ChangeShapes Go.WideShapes Go.ChangeAt Go.RowKit
set_option linter.unusedVariables false
set_option linter.unusedSimpArgs false
abbrev FID:=ByteArray × Int
def fidC (x:FID):List Value:=[.string x.1,.int .i64 x.2]
abbrev fidV (x:FID):Value:=.agg #[.string x.1,.int .i64 x.2]
theorem Za2 {w:World}{b off:Nat}{l:List FID}(h:Lies fidC 2 w b off l){i:Nat}{v:FID}(hv:l[i]?=some v) :
 w.cell? ⟨b,off+i*2,none⟩=some (.string v.1)/\w.cell? ⟨b,off+i*2+1,none⟩=some (.int .i64 v.2):=⟨h i v hv 0 _ rfl,h i v hv 1 _ rfl⟩
theorem Zff (op:BinOp)(a b:Operand)(x y:FID)(w:World):(eqGuard op 24 a b (fidV x) (fidV y)).run prog w=.ok () w:=run_eqGuard_agg w op 24 a b _ _ (by kernel_rfl)
def eqF (x y:FID):Bool:=x.1.toList==y.1.toList&&x.2==y.2
theorem ZaW {x y:FID}:eqF x y=true↔x=y:=by
 unfold eqF
 rw[Bool.and_eq_true,beq_iff_eq,beq_iff_eq,Prod.ext_iff]
 exact⟨fun h=>⟨Zby h.1,h.2⟩,fun h=>⟨by rw[h.1],h.2⟩⟩
theorem eql36 (x y:FID)(w:World):(binOp .eql 24 (fidV x) (fidV y)).run prog w=.ok (.bool (eqF x y)) w:=by
 have u3:=underlying3
 have u9:=underlying9
 have a3:=Tryz.isAgg3
 have z3:=Tryz.sizeOf3
 have a9:=Tryz.isAgg9
 have z9:=Tryz.sizeOf9
 have hS:prog.underlying 24=some (.struct (prog.fieldsOf 24)):=by kernel_rfl
 have hp:prog.stoodInHeld 24=false:=by kernel_rfl
 rw[run_eql_struct,show(10000:Nat)=9999+1 from rfl,run_equalIn_agg w 9999 24 _ _ hS hp]
 simp only[Program.fieldsOf,underlying24]
 go_simp
 unfold eqF
 by_cases h1:x.1.toList=y.1.toList<;>by_cases h2:x.2=y.2<;>simp[h1,h2]
def memF (l:List FID)(x:FID):Bool:=l.any (fun y=>eqF y x)
theorem ZeG {l:List FID}{x:FID}:memF l x=true↔x∈l:=by
 unfold memF
 rw[List.any_eq_true]
 exact⟨fun⟨y,h1,h2⟩=>ZaW.1 h2 ▸ h1,fun h=>⟨x,h,ZaW.2 rfl⟩⟩
set_option maxHeartbeats 2000000 in
set_option maxRecDepth 100000 in
theorem inids_any (l:List FID)(ao:Option Addr)(cap:Nat)(hl:l.length<=4611686018427387904)(x:FID)(w:World)(h:Zac fidC 2 w ao l) :
 Calls prog 29 #[.slice ao l.length cap,fidV x] w fun e w'=>e=.returned (.bool (memF l x))/\Below w.heap.size w w':=by
 have H:=hid h
 clear h
 go_enter func29,ntmps29
 go_wp2_with fail
 refine Zan (fun W hW=>?_)
 have HW:Hid (Below w.heap.size w W):=by rw[hW];exact Zab _
 have HT:Hid (Box W w.heap.size #[.string x.1,.int .i64 x.2] 24):=by rw[hW];exact Box.new _ _ _
 clear hW
 go_loopw [5] (fun v wr=>∃ i:Nat,i<=l.length/\v=.int .i64 i/\Hid (memF (l.take i) x=false)/\Below W.heap.size W wr) (fun v _=>l.length - (intOf v).toNat)
 case atStart=>exact⟨0,by omega,rfl,hid rfl,Below.refl _ _⟩
 case round =>
  obtain⟨i,hi,rfl,HN,hB⟩:=hrel
  have HB:=hid hB
  clear hB
  by_cases hlt:i<l.length
  · obtain⟨y,hy⟩:∃ y,l[i]?=some y:=⟨l[i],List.getElem?_eq_getElem hlt⟩
    obtain⟨b,off,rfl,hrow⟩:=((H.out.kept HW.out).kept HB.out).some (by omega)
    obtain⟨c0,c1⟩:=Za2 hrow hy
    have t0:=(HT.out.kept HB.out).cell 0 _ rfl
    have t1:=(HT.out.kept HB.out).cell 1 _ rfl
    have HY:=hid hy
    clear hrow hy
    have ws1:IntKind.i64.wrap (i:Int)=(i:Int):=IntWalk.i64_in _ (by omega)
    have hg:=fun w=>Zff .eql (.tmp 15) (.tmp 16) y x w
    have he:=fun w=>eql36 y x w
    cases hyx:eqF y x
    · rw[hyx]at he
      have HR:Hid (memF (l.take (i+1)) x=false):=by show _=_;rw[Zar HY.out];unfold memF;rw[List.any_append];have:=HN.out;unfold memF at this;rw[this];simp[hyx]
      clear hyx
      go_wp2_with fail
      go_quiet (fail)
      go_wp2_with fail
      go_roundw
      case rel=>exact⟨i+1,by omega,by go_num,HR,Zad HB.out _⟩
      case measure=>simp[intOf];omega
    · rw[hyx]at he
      have HR:Hid (memF l x=true):=ZeG.2 (ZaW.1 hyx ▸ List.mem_of_getElem? HY.out)
      clear hyx
      go_wp2_with fail
      go_quiet (fail)
      go_wp2_with fail
      go_ret
      exact⟨by rw[HR.out];rfl,HW.out.trans (Zad (HB.out.mono HW.out.size) _)⟩
  · obtain rfl:i=l.length:=by omega
    have HR:Hid (memF l x=false):=by have:=HN.out;rwa [List.take_length]at this
    go_wp2_with fail
    go_ret
    exact⟨by rw[HR.out];rfl,HW.out.trans (HB.out.mono HW.out.size)⟩
def Zcm (l:List Dl)(ids:List FID):List Dl:=l.filter (fun d=>!memF ids (d.r.src,d.r.seq))
theorem purgeD_snoc (l:List Dl)(ids:List FID)(x:Dl):Zcm (l++[x]) ids=Zcm l ids++(if memF ids (x.r.src,x.r.seq)then []else [x]):=by
 unfold Zcm
 rw[List.filter_append]
 cases h:memF ids (x.r.src,x.r.seq)<;>simp[h]
set_option maxRecDepth 100000
set_option maxHeartbeats 4000000
def GotB (w:World)(e:Ending)(w':World):Prop:=∃ b:Bool,e=.returned (.bool b)/\Below w.heap.size w w'
def GotI (w:World)(e:Ending)(w':World):Prop:=∃ n:Int,e=.returned (.int .i64 n)/\Below w.heap.size w w'
theorem ZR (w:World):Below w.heap.size w w:=Below.refl _ _
theorem ZH {w w1:World}(h:Hid (Below w.heap.size w w1)):Below w.heap.size w w1:=h.out
theorem ZA {w w1:World}(h:Below w.heap.size w w1)(o:Obj):Below w.heap.size w (w1.alloc o):=h.alloc h.size o
theorem ZD {w w1:World}(h:Below w.heap.size w w1):Below w.heap.size w w1.drew:=Below.drew h
theorem bt {p:Prop}(h:p:=by repeat(first|exact ZR _|exact ZH (by assumption)|refine ZA ?_ _|refine ZD ?_|refine ZN ?_ _)):p:=h
theorem m1 {α : Type} {l : List α} {i : Nat} {a : α} : l.toArray.setIfInBounds i a = (l.set i a).toArray := List.setIfInBounds_toArray ..
theorem m2 {α : Type} {a b : α} {l : List α} : (a :: l).set 0 b = b :: l := List.set_cons_zero
theorem m3 {α : Type} {a b : α} {l : List α} {n : Nat} : (a :: l).set (n + 1) b = a :: l.set n b := List.set_cons_succ
theorem ZT {w w1 w2:World}(h:Below w.heap.size w w1)(hb:Below w1.heap.size w1 w2):Below w.heap.size w w2:=h.trans (hb.mono h.size)
def GotN (Q:Int->Prop)(w:World)(e:Ending)(w':World):Prop:=∃ n:Int,e=.returned (.int .i64 n)/\Q n/\Below w.heap.size w w'
def GotP (Q:Bool->Prop)(w:World)(e:Ending)(w':World):Prop:=∃ b:Bool,e=.returned (.bool b)/\Q b/\Below w.heap.size w w'
def ZaH (w:World)(ua:Option Addr)(un:Nat):Prop:=∃ us:List FID,un=us.length/\us.length<=140737488355328/\(∀ f∈us,f.1.size<=140737488355328/\I64 f.2)/\Zac fidC 2 w ua us
theorem ZaH.kept {w w':World}{ua:Option Addr}{un:Nat}(h:ZaH w ua un)(hb:Below w.heap.size w w'):ZaH w' ua un:=let ⟨us,h1,h2,h4,h3⟩:=h;⟨us,h1,h2,h4,h3.kept hb⟩
theorem ZaH.nil (w:World)(ua:Option Addr):ZaH w ua 0:=⟨[],rfl,by decide,fun f hf=>(by cases hf),Zac.nil _ _⟩
theorem Zdk (T:TypeId)(h:prog.eqGuardType prog.depth T=false)(op:BinOp)(a b:Operand)(xs ys:Array Value)(w:World):(eqGuard op T a b (.agg xs) (.agg ys)).run prog w=.ok () w:=run_eqGuard_agg w op T a b _ _ h
theorem eqFac (x y:FID):∃ b:Bool,(∀ w,(binOp .eql 198 (fidV x) (fidV y)).run prog w=.ok (.bool b) w)/\∀ w,(binOp .neq 198 (fidV x) (fidV y)).run prog w=.ok (.bool (!b)) w:=by
 have u3:=underlying3
 have u9:=underlying9
 have a3:=Tryz.isAgg3
 have z3:=Tryz.sizeOf3
 have a9:=Tryz.isAgg9
 have z9:=Tryz.sizeOf9
 have hS:prog.underlying 198=some (.struct (prog.fieldsOf 198)):=by kernel_rfl
 have hp:prog.stoodInHeld 198=false:=by kernel_rfl
 refine⟨eqF x y,fun w=>?_,fun w=>?_⟩
 all_goals
  first|rw[run_eql_struct]|rw[run_neq_struct]
  rw[show(10000:Nat)=9999+1 from rfl,run_equalIn_agg w 9999 198 _ _ hS hp]
  simp only[Program.fieldsOf,underlying198]
  go_simp
  unfold eqF
  by_cases h1:x.1.toList=y.1.toList<;>by_cases h2:x.2=y.2<;>simp[h1,h2]
theorem eqVal (x y:Val):∃ b:Bool,(∀ w,(binOp .eql 37 (.agg #[.int .i64 x.1,.int .i64 x.2.1,.string x.2.2]) (.agg #[.int .i64 y.1,.int .i64 y.2.1,.string y.2.2])).run prog w=.ok (.bool b) w) /\
 ∀ w,(binOp .neq 37 (.agg #[.int .i64 x.1,.int .i64 x.2.1,.string x.2.2]) (.agg #[.int .i64 y.1,.int .i64 y.2.1,.string y.2.2])).run prog w=.ok (.bool (!b)) w:=by
 have u3:=underlying3
 have u9:=underlying9
 have a3:=Tryz.isAgg3
 have z3:=Tryz.sizeOf3
 have a9:=Tryz.isAgg9
 have z9:=Tryz.sizeOf9
 have hS:prog.underlying 37=some (.struct (prog.fieldsOf 37)):=by kernel_rfl
 have hp:prog.stoodInHeld 37=false:=by kernel_rfl
 refine⟨(x.1==y.1&&x.2.1==y.2.1)&&x.2.2.toList==y.2.2.toList,fun w=>?_,fun w=>?_⟩
 all_goals
  first|rw[run_eql_struct]|rw[run_neq_struct]
  rw[show(10000:Nat)=9999+1 from rfl,run_equalIn_agg w 9999 37 _ _ hS hp]
  simp only[Program.fieldsOf,underlying37]
  go_simp
  by_cases h1:x.1=y.1<;>by_cases h2:x.2.1=y.2.1<;>by_cases h3:x.2.2.toList=y.2.2.toList<;>simp[h1,h2,h3]
theorem eqWin (x y:Int × Int):∃ b:Bool,(∀ w,(binOp .eql 39 (.agg #[.int .i64 x.1,.int .i64 x.2]) (.agg #[.int .i64 y.1,.int .i64 y.2])).run prog w=.ok (.bool b) w) /\
 ∀ w,(binOp .neq 39 (.agg #[.int .i64 x.1,.int .i64 x.2]) (.agg #[.int .i64 y.1,.int .i64 y.2])).run prog w=.ok (.bool (!b)) w:=by
 have u3:=underlying3
 have a3:=Tryz.isAgg3
 have z3:=Tryz.sizeOf3
 have hS:prog.underlying 39=some (.struct (prog.fieldsOf 39)):=by kernel_rfl
 have hp:prog.stoodInHeld 39=false:=by kernel_rfl
 refine⟨x.1==y.1&&x.2==y.2,fun w=>?_,fun w=>?_⟩
 all_goals
  first|rw[run_eql_struct]|rw[run_neq_struct]
  rw[show(10000:Nat)=9999+1 from rfl,run_equalIn_agg w 9999 39 _ _ hS hp]
  simp only[Program.fieldsOf,underlying39]
  go_simp
  by_cases h1:x.1=y.1<;>by_cases h2:x.2=y.2<;>simp[h1,h2]
theorem Zb4 (w:World)(c0:Array Value)(t0:TypeId):Box (w.alloc (.cells c0 t0)) w.heap.size c0 t0:=Box.new _ _ _
theorem ZcH (w:World)(c0:Array Value)(t0:TypeId)(c1:Array Value)(t1:TypeId):Box ((w.alloc (.cells c0 t0)).alloc (.cells c1 t1)) w.heap.size c0 t0:=(Box.new w c0 t0).kept (Zab _)
theorem ZcG (w:World)(c0:Array Value)(t0:TypeId)(c1:Array Value)(t1:TypeId):Box ((w.alloc (.cells c0 t0)).alloc (.cells c1 t1)) (w.heap.size+1) c1 t1:=by
 have:=Box.new (w.alloc (.cells c0 t0)) c1 t1
 simpa using this
theorem Zc4 (w:World)(c0:Array Value)(t0:TypeId)(c1:Array Value)(t1:TypeId)(c2:Array Value)(t2:TypeId):Box (((w.alloc (.cells c0 t0)).alloc (.cells c1 t1)).alloc (.cells c2 t2)) w.heap.size c0 t0:=(ZcH w c0 t0 c1 t1).kept (Zab _)
theorem Zc3 (w:World)(c0:Array Value)(t0:TypeId)(c1:Array Value)(t1:TypeId)(c2:Array Value)(t2:TypeId):Box (((w.alloc (.cells c0 t0)).alloc (.cells c1 t1)).alloc (.cells c2 t2)) (w.heap.size+1) c1 t1:=(ZcG w c0 t0 c1 t1).kept (Zab _)
theorem Zc2 (w:World)(c0:Array Value)(t0:TypeId)(c1:Array Value)(t1:TypeId)(c2:Array Value)(t2:TypeId):Box (((w.alloc (.cells c0 t0)).alloc (.cells c1 t1)).alloc (.cells c2 t2)) (w.heap.size+1+1) c2 t2:=by
 have:=Box.new ((w.alloc (.cells c0 t0)).alloc (.cells c1 t1)) c2 t2
 simpa using this
theorem gen1 {P:Program}{c:Code}{Q:Exit->Act->World->Prop}{a:Act}{w:World}{c0:Array Value}{t0:TypeId}(h:∀ V,Hid (Box V w.heap.size c0 t0)->Hid (Below w.heap.size w V)->c.wp P Q a V):c.wp P Q a (w.alloc (.cells c0 t0)):=h _ (Zb4 ..) (ZA (ZR _) _)
theorem gen2 {P:Program}{c:Code}{Q:Exit->Act->World->Prop}{a:Act}{w:World}{c0 c1:Array Value}{t0 t1:TypeId}(h:∀ V,Hid (Box V w.heap.size c0 t0)->Hid (Box V (w.heap.size+1) c1 t1)->Hid (Below w.heap.size w V)->c.wp P Q a V):c.wp P Q a ((w.alloc (.cells c0 t0)).alloc (.cells c1 t1)):=h _ (ZcH ..) (ZcG ..) (ZA (ZA (ZR _) _) _)
theorem gen3 {P:Program}{c:Code}{Q:Exit->Act->World->Prop}{a:Act}{w:World}{c0 c1 c2:Array Value}{t0 t1 t2:TypeId}(h:∀ V,Hid (Box V w.heap.size c0 t0)->Hid (Box V (w.heap.size+1) c1 t1)->Hid (Box V (w.heap.size+1+1) c2 t2)->Hid (Below w.heap.size w V)->c.wp P Q a V):c.wp P Q a (((w.alloc (.cells c0 t0)).alloc (.cells c1 t1)).alloc (.cells c2 t2)):=h _ (Zc4 ..) (Zc3 ..) (Zc2 ..) (ZA (ZA (ZA (ZR _) _) _) _)
def Cl (w:World)(g:Nat):Nat->List Value->Prop
 |_,[]=>True
 |i,v :: L=>w.cell? ⟨g,i,none⟩=some v/\Cl w g (i+1) L
theorem cl_of {w:World}{g:Nat}:∀ {L:List Value} {i:Nat},(∀ j v,L[j]?=some v->w.cell? ⟨g,i+j,none⟩=some v)->Cl w g i L
 |[],_,_=>trivial
 |v :: L,i,h=>⟨h 0 v rfl,cl_of (fun j v hj=>by rw[Nat.add_assoc,Nat.add_comm 1 j];exact h (j+1) v hj)⟩
theorem Box.cl {w:World}{g:Nat}{L:List Value}{t:TypeId}(h:Box w g L.toArray t):Cl w g 0 L:=cl_of (fun j v hj=>by rw[Nat.zero_add];exact h.cell j v (by rw[List.getElem?_toArray];exact hj))
theorem hs1 {V:World}{g0:Nat}{L0:List Value}{t0:TypeId}(B0:Hid (Box V g0 L0.toArray t0)):Hid (∀ w',Below V.heap.size V w'->Cl w' g0 0 L0):=fun w' h=>(B0.out.kept h).cl
theorem hs2 {V:World}{g0 g1:Nat}{L0 L1:List Value}{t0 t1:TypeId}(B0:Hid (Box V g0 L0.toArray t0))(B1:Hid (Box V g1 L1.toArray t1)):Hid (∀ w',Below V.heap.size V w'->Cl w' g0 0 L0/\Cl w' g1 0 L1):=fun w' h=>⟨(B0.out.kept h).cl,(B1.out.kept h).cl⟩
theorem hs3 {V:World}{g0 g1 g2:Nat}{L0 L1 L2:List Value}{t0 t1 t2:TypeId}(B0:Hid (Box V g0 L0.toArray t0))(B1:Hid (Box V g1 L1.toArray t1))(B2:Hid (Box V g2 L2.toArray t2)):Hid (∀ w',Below V.heap.size V w'->Cl w' g0 0 L0/\Cl w' g1 0 L1/\Cl w' g2 0 L2):=fun w' h=>⟨(B0.out.kept h).cl,(B1.out.kept h).cl,(B2.out.kept h).cl⟩
def RetB (b:Bool)(w:World)(e:Ending)(w':World):Prop:=e=.returned (.bool b)/\Below w.heap.size w w'
def RetI (n:Int)(w:World)(e:Ending)(w':World):Prop:=e=.returned (.int .i64 n)/\Below w.heap.size w w'
theorem RetB.of {b r:Bool}{w w':World}(h:b=r)(hb:Below w.heap.size w w'):RetB r w (.returned (.bool b)) w':=⟨by rw[h],hb⟩
theorem RetI.of {b r:Int}{w w':World}(h:b=r)(hb:Below w.heap.size w w'):RetI r w (.returned (.int .i64 b)) w':=⟨by rw[h],hb⟩
theorem RetB.got {b:Bool}{w w':World}{e:Ending}(h:RetB b w e w'):GotB w e w':=⟨b,h.1,h.2⟩
theorem RetI.got {b:Int}{w w':World}{e:Ending}(h:RetI b w e w'):GotI w e w':=⟨b,h.1,h.2⟩
theorem pick {α β:Type}{P:α->β->Prop}(h:∀ a,∃ b,P a b):∃ f:α->β,∀ a,P a (f a):=⟨fun a=>(h a).choose,fun a=>(h a).choose_spec⟩
theorem ZbY {α β:Type} [Inhabited β] {D:α->Prop}{P:α->β->Prop}(h:∀ a,D a->∃ b,P a b):∃ f:α->β,∀ a,D a->P a (f a):=by
 refine pick (P:=fun a b=>D a->P a b) (fun a=>?_)
 by_cases hd:D a
 · exact let ⟨b,hb⟩:=h a hd;⟨b,fun _=>hb⟩
 · exact⟨default,fun h=>absurd h hd⟩
def eqAll {α β:Type}(g:α->β->Bool):List α->List β->Bool
 |[],[]=>true
 |x :: xs,y :: ys=>g x y&&eqAll g xs ys
 |_,_=>false
theorem ZaD {α:Type}{l:List α}{i:Nat}{x:α}(h:l[i]?=some x):l.drop i=x :: l.drop (i+1):=by
 have hi:i<l.length:=(List.getElem?_eq_some_iff.1 h).1
 rw[List.drop_eq_getElem_cons hi]
 rw[List.getElem?_eq_getElem hi]at h
 injection h with h
 rw[h]
theorem ZdZ {α β:Type}{g:α->β->Bool}{xs:List α}{ys:List β}{i:Nat}{x:α}{y:β}(hx:xs[i]?=some x)(hy:ys[i]?=some y):eqAll g (xs.drop i) (ys.drop i)=(g x y&&eqAll g (xs.drop (i+1)) (ys.drop (i+1))):=by rw[ZaD hx,ZaD hy];rfl
theorem Zc0 {α β:Type}{g:α->β->Bool}{xs:List α}{ys:List β}{i:Nat}(hx:xs.length<=i)(hy:ys.length<=i):eqAll g (xs.drop i) (ys.drop i)=true:=by rw[List.drop_of_length_le hx,List.drop_of_length_le hy];rfl
theorem Zcr {α β:Type}{g:α->β->Bool}:∀ {xs:List α} {ys:List β},xs.length≠ys.length->eqAll g xs ys=false
 |[],[],h=>absurd rfl h
 |[],_ :: _,_=>rfl
 |_ :: _,[],_=>rfl
 |x :: xs,y :: ys,h=>by
  show(_&&_)=_
  rw[Zcr (fun e=>h (by simp[e])),Bool.and_false]
def UnIs (w:World)(a:Option Addr)(us:List FID):Prop:=us.length<=140737488355328/\(∀ f∈us,f.1.size<=140737488355328/\I64 f.2)/\Zac fidC 2 w a us
theorem UnIs.kept {w w':World}{a:Option Addr}{us:List FID}(h:UnIs w a us)(hb:Below w.heap.size w w'):UnIs w' a us:=⟨h.1,h.2.1,h.2.2.kept hb⟩
theorem UnIs.nil (w:World)(a:Option Addr):UnIs w a []:=⟨by decide,fun f hf=>(by cases hf),Zac.nil _ _⟩
theorem UnIs.at {w:World}{a:Option Addr}{us:List FID}(h:UnIs w a us):ZaH w a us.length:=⟨us,rfl,h⟩
theorem ZaH.is {w:World}{a:Option Addr}{n:Nat}(h:ZaH w a n):∃ us,n=us.length/\UnIs w a us:=h
theorem ZdM (us vs:List FID):∃ r:Bool,∀ (a b:Option Addr) (c d:Nat) (w:World),UnIs w a us->UnIs w b vs->Calls prog 205 #[.slice a us.length c,.slice b vs.length d] w (RetB r w):=by
 obtain⟨g,Ih⟩:=pick (fun p:FID × FID=>eqFac p.1 p.2)
 obtain⟨R,hR⟩:∃ R,R=eqAll (fun x y=>g (x,y)) us vs:=⟨_,rfl⟩
 have HG:=hid Ih
 have HR:=hid hR
 clear Ih hR
 refine⟨R,fun a b c d w ha hb=>?_⟩
 obtain⟨hu,-,h1⟩:=ha
 obtain⟨hv,-,h2⟩:=hb
 have H1:=hid h1
 have H2:=hid h2
 clear h1 h2
 generalize hn:us.length=n at *
 generalize hm:vs.length=m at *
 have HN:=hid hn
 have HM:=hid hm
 clear hn hm
 go_enter func205,ntmps205
 by_cases hlen:n=m
 · subst hlen
   go_wp2_with fail
   go_loopw [5] (fun v wr=>∃ i:Nat,i<=n/\v=.int .i64 i/\Hid (R=eqAll (fun x y=>g (x,y)) (us.drop i) (vs.drop i))/\Below w.heap.size w wr) (fun v _=>n - (intOf v).toNat)
   case atStart=>exact⟨0,by omega,rfl,HR,Below.refl _ _⟩
   case round =>
    obtain⟨i,hi,rfl,HI,hB⟩:=hrel
    by_cases hlt:i<n
    · obtain⟨x,hx⟩:∃ x,us[i]?=some x:=⟨us[i]'(by have:=HN.out;omega),List.getElem?_eq_getElem _⟩
      obtain⟨y,hy⟩:∃ y,vs[i]?=some y:=⟨vs[i]'(by have:=HM.out;omega),List.getElem?_eq_getElem _⟩
      obtain⟨b1,o1,rfl,Da⟩:=(H1.out.kept hB).some (by have:=HN.out;omega)
      obtain⟨b2,o2,rfl,Bb⟩:=(H2.out.kept hB).some (by have:=HM.out;omega)
      obtain⟨c0,c1⟩:=Za2 Da hx
      obtain⟨d0,d1⟩:=Za2 Bb hy
      have hgx:=HG.out (x,y)
      have HQ:Hid (R=(g (x,y)&&eqAll (fun x y=>g (x,y)) (us.drop (i+1)) (vs.drop (i+1)))):=HI.out.trans (ZdZ hx hy)
      clear HI
      generalize g (x,y)=e at hgx HQ
      obtain⟨Og,Yc⟩:=hgx
      have hg:=fun op a b w=>Zdk 198 (by kernel_rfl) op a b #[.string x.1,.int .i64 x.2] #[.string y.1,.int .i64 y.2] w
      have HB:=hid hB
      clear Da Bb hx hy hB
      cases e
      all_goals
       go_wp2_with fail
       go_quiet (fail)
       go_wp2_with fail
       first
        |(go_ret;exact RetB.of HQ.out.symm (Zad HB.out _))
        |(go_roundw;(case rel=>exact⟨i+1,by omega,by go_num,HQ,Zad HB.out _⟩);(case measure=>simp[intOf];omega))
    · go_wp2_with fail
      go_ret
      exact RetB.of (HI.out.trans (Zc0 (by have:=HN.out;omega) (by have:=HM.out;omega))).symm hB
 · go_wp2_with fail
   go_ret
   exact RetB.of (HR.out.trans (Zcr (by have:=HN.out;have:=HM.out;omega))).symm (Below.refl _ _)
theorem Zcs (p:Prop):∃ R:Bool,(R=true↔p):=by
 by_cases h:p
 · exact⟨true,iff_of_true rfl h⟩
 · exact⟨false,iff_of_false (by decide) h⟩
theorem all_bad {n i:Nat}{ok:Nat->Prop}{R:Bool}(h:R=true↔∀ j,j<n->ok j)(hi:i<n)(hb:¬ ok i):false=R:=by
 cases R with
 |true=>exact absurd (h.1 rfl i hi) hb
 |false=>rfl
theorem all_end {n i:Nat}{ok:Nat->Prop}{R:Bool}(h:R=true↔∀ j,j<n->ok j)(ha:∀ j,j<i->ok j)(hi:n<=i):true=R:=(h.2 fun j hj=>ha j (by omega)).symm
theorem Za9 {i:Nat}{ok:Nat->Prop}(ha:∀ j,j<i->ok j)(h:ok i):∀ j,j<i+1->ok j:=fun j hj=>by
 by_cases e:j=i
 · exact e ▸ h
 · exact ha j (by omega)
theorem Zdd {R:Bool}(h:R=true->False):false=R:=by
 cases R with
 |true=>exact(h rfl).elim
 |false=>rfl
theorem ZdW (a_k:Int)(a_o:ByteArray)(a_m:ByteArray)(a_t:ByteArray)(a_vk:Int)(a_vn:Int)(a_vs:ByteArray)(a_ua:Option Addr)(a_uc:Nat)(a_p:Int)(a_wk:Int)(a_wz:Int)(a_xa:Option Addr)(a_xn:Nat)(a_xc:Nat)(b_k:Int)(b_o:ByteArray)(b_m:ByteArray)(b_t:ByteArray)(b_vk:Int)(b_vn:Int)(b_vs:ByteArray)(b_ua:Option Addr)(b_uc:Nat)(b_p:Int)(b_wk:Int)(b_wz:Int)(b_xa:Option Addr)(b_xn:Nat)(b_xc:Nat)(us vs:List FID):∃ r:Bool,∀ (w:World),UnIs w a_ua us->UnIs w b_ua vs->Calls prog 219 #[.agg #[.int .i64 a_k,.string a_o,.string a_m,.string a_t,.int .i64 a_vk,.int .i64 a_vn,.string a_vs,.slice a_ua us.length a_uc,.int .i64 a_p,.int .i64 a_wk,.int .i64 a_wz,.slice a_xa a_xn a_xc],.agg #[.int .i64 b_k,.string b_o,.string b_m,.string b_t,.int .i64 b_vk,.int .i64 b_vn,.string b_vs,.slice b_ua vs.length b_uc,.int .i64 b_p,.int .i64 b_wk,.int .i64 b_wz,.slice b_xa b_xn b_xc]] w (RetB r w):=by
 obtain⟨r,hr⟩:=ZdM us vs
 have Ve:=hid hr
 obtain⟨ev,Eh,Ki⟩:=eqVal (a_vk,a_vn,a_vs) (b_vk,b_vn,b_vs)
 obtain⟨ew,Ip,Ji⟩:=eqWin (a_wk,a_wz) (b_wk,b_wz)
 obtain⟨e1,Og⟩:∃ q,(a_k==b_k)=q:=⟨_,rfl⟩
 obtain⟨e2,Yc⟩:∃ q,(a_o.toList==b_o.toList)=q:=⟨_,rfl⟩
 obtain⟨e3,Di⟩:∃ q,(a_m.toList==b_m.toList)=q:=⟨_,rfl⟩
 obtain⟨e4,Vv⟩:∃ q,(a_t.toList==b_t.toList)=q:=⟨_,rfl⟩
 obtain⟨e5,Lk⟩:∃ q,(a_p==b_p)=q:=⟨_,rfl⟩
 obtain⟨R,hR⟩:∃ R,R=(e1&&(e2&&(e3&&(e4&&(ev&&(r&&(e5&&ew))))))):=⟨_,rfl⟩
 have HR:=hid hR
 clear hr hR
 refine⟨R,fun w ha hb=>?_⟩
 have HA:=hid ha
 have HB:=hid hb
 clear ha hb
 go_enter func219,ntmps219
 go_upto_region 1 with fail
 refine gen2 (fun V B0 B1 Aa=>?_)
 have HS:=hs2 B0 B1
 simp only[Cl,Nat.reduceAdd]at HS
 have KK:=HS.out V (ZR V)
 have Qf:Hid (∀ w',Below V.heap.size V w'->UnIs w' a_ua us):=fun w' h=>(HA.out.kept Aa.out).kept h
 have Zg:Hid (∀ w',Below V.heap.size V w'->UnIs w' b_ua vs):=fun w' h=>(HB.out.kept Aa.out).kept h
 have He:=fun op a b w=>Zdk 37 (by kernel_rfl) op a b #[.int .i64 a_vk,.int .i64 a_vn,.string a_vs] #[.int .i64 b_vk,.int .i64 b_vn,.string b_vs] w
 have Ye:=fun op a b w=>Zdk 39 (by kernel_rfl) op a b #[.int .i64 a_wk,.int .i64 a_wz] #[.int .i64 b_wk,.int .i64 b_wz] w
 go_wp2_with (first|(go_at_call 205;refine(Ve.out _ _ _ _ _ (Qf.out _ bt) (Zg.out _ bt)).mono ?_;rintro e w' ⟨rfl,hb⟩;have HW:Hid (Below V.heap.size V w'):=ZT bt hb;clear hb;have KK:=HS.out _ HW.out)|fail)
 all_goals
  go_ret
  exact RetB.of (by have hR:=HR.out;simp_all) (ZT Aa.out bt)
def Za0 (s:ByteArray)(i:Nat):Int:=((s.data.toList.getD i 0).toNat:Nat)
theorem Zfl (s:ByteArray){i:Nat}(h:i<s.size):Za0 s i=((s[i]'h).toNat:Int):=by
 unfold Za0
 rw[List.getD_eq_getElem?_getD,List.getElem?_eq_getElem (by rw[Array.length_toList];exact h)]
 rfl
theorem Zbs {w:World}{b off:Nat}{l:List ByteArray}(h:Lies (fun s:ByteArray=>[Value.string s]) 1 w b off l){i:Nat}{v:ByteArray}(hv:l[i]?=some v):w.cell? ⟨b,off+i,none⟩=some (.string v):=by
 have:=h i v hv 0 _ rfl
 simpa using this
def strE:ByteArray->List Value:=fun s=>[Value.string s]
def Zfo (w:World)(a:Option Addr)(L:List ByteArray):Prop:=Zac strE 1 w a L
theorem Zcl (L:List ByteArray)(w:World):Zfo (w.alloc (.cells (encs strE L).toArray 9)) (some ⟨w.heap.size,0,none⟩) L :=
 Or.inr ⟨_,0,rfl,Lies.of_cells (k:=1) (fun _=>rfl) (fun j v hj=>by rw[Nat.zero_add];exact(Box.new w (encs strE L).toArray 9).cell j v (by rw[List.getElem?_toArray];exact hj))⟩
def isOne (s:ByteArray)(L:List ByteArray):Bool:=L.any (fun x=>decide (x.toList=s.toList))
theorem one_is (s:ByteArray)(L:List ByteArray)(a:Option Addr)(c:Nat)(w:World)(hl:L.length<=1000)(h:Zfo w a L):Calls prog 222 #[.string s,.slice a L.length c] w fun e w'=>e=.returned (.bool (isOne s L))/\Below w.heap.size w w':=by
 have H1:=hid h
 clear h
 obtain⟨B,hB0⟩:∃ B,B=isOne s L:=⟨_,rfl⟩
 rw[<-hB0]
 have Lc:=hid hB0
 clear hB0
 go_enter func222,ntmps222
 go_wp2_with fail
 go_loopw [5] (fun v wr=>∃ i:Nat,i<=L.length/\v=.int .i64 i/\Hid (B=isOne s (L.drop i))/\Below w.heap.size w wr) (fun v _=>L.length - (intOf v).toNat)
 case atStart=>exact⟨0,by omega,rfl,by rw[List.drop_zero];exact Lc,Below.refl _ _⟩
 case round =>
  obtain⟨i,hi,rfl,HI,hB⟩:=hrel
  by_cases hlt:i<L.length
  · obtain⟨x,hx⟩:∃ x,L[i]?=some x:=⟨L[i],List.getElem?_eq_getElem hlt⟩
    obtain⟨b1,o1,rfl,Da⟩:=(H1.out.kept hB).some (by omega)
    have c0:=Zbs Da hx
    have HB:=hid hB
    have hd:L.drop i=x :: L.drop (i+1):=by
     rw[List.drop_eq_getElem_cons hlt]
     rw[List.getElem?_eq_getElem hlt]at hx
     injection hx with hx
     rw[hx]
    have HS:Hid (isOne s (L.drop i)=(decide (x.toList=s.toList)||isOne s (L.drop (i+1)))):=by show _=_;rw[hd];rfl
    clear Da hx hB hd
    by_cases he:x.toList=s.toList
    · have HQ:Hid (B=true):=by show _=_;rw[HI.out,HS.out,decide_eq_true he];rfl
      have Yc:(x.toList==s.toList)=true:=by simpa using he
      clear he
      go_wp2_with fail
      go_ret
      rw[HQ.out]
      exact⟨rfl,HB.out⟩
    · have HQ:Hid (B=isOne s (L.drop (i+1))):=by show _=_;rw[HI.out,HS.out,decide_eq_false he];rfl
      have Yc:(x.toList==s.toList)=false:=by simpa using he
      clear HI he
      go_wp2_with fail
      go_roundw
      case rel=>exact⟨i+1,by omega,by go_num,HQ,HB.out⟩
      case measure=>simp[intOf];omega
  · have HQ:Hid (B=false):=by show _=_;rw[HI.out,List.drop_of_length_le (by omega)];rfl
    clear HI
    go_wp2_with fail
    go_ret
    rw[HQ.out]
    exact⟨rfl,hB⟩
theorem far_det (n:Int):∃ r:Bool,∀ w:World,Calls prog 210 #[.int .i64 n] w (RetB r w):=by
 by_cases h1:8<n<;>by_cases h2:n < -8
 all_goals first
  |(refine⟨true,fun w=>?_⟩;go_enter func210,ntmps210;go_wp2_with fail;go_ret;exact⟨rfl,bt⟩)
  |(refine⟨false,fun w=>?_⟩;go_enter func210,ntmps210;go_wp2_with fail;go_ret;exact⟨rfl,bt⟩)
theorem inRange_det (n:Int):∃ r:Bool,∀ w:World,Calls prog 197 #[.int .i64 n] w (RetB r w):=by
 by_cases h1:n<=1152921504606846976<;>by_cases h2:-1152921504606846976<=n
 all_goals first
  |(refine⟨true,fun w=>?_⟩;go_enter func197,ntmps197;go_wp2_with fail;go_ret;exact⟨rfl,bt⟩)
  |(refine⟨false,fun w=>?_⟩;go_enter func197,ntmps197;go_wp2_with fail;go_ret;exact⟨rfl,bt⟩)
theorem fields_det (a_k:Int)(a_n:Int)(a_s:ByteArray):∃ r:Bool,∀ (w:World),Calls prog 196 #[.agg #[.int .i64 a_k,.int .i64 a_n,.string a_s]] w (RetB r w):=by
 obtain⟨e0,Pm⟩:∃ q,(a_k==0)=q:=⟨_,rfl⟩
 obtain⟨e1,Og⟩:∃ q,(a_k==1)=q:=⟨_,rfl⟩
 obtain⟨e2,Yc⟩:∃ q,(a_k==2)=q:=⟨_,rfl⟩
 obtain⟨e3,Di⟩:∃ q,(a_k==3)=q:=⟨_,rfl⟩
 obtain⟨e4,Vv⟩:∃ q,(a_k==4)=q:=⟨_,rfl⟩
 obtain⟨e5,Lk⟩:∃ q,(a_k==5)=q:=⟨_,rfl⟩
 obtain⟨n0,Km⟩:∃ q,(a_n==0)=q:=⟨_,rfl⟩
 obtain⟨n1,Yd⟩:∃ q,(a_n==1)=q:=⟨_,rfl⟩
 obtain⟨s0,Im⟩:∃ q,(a_s.toList.isEmpty)=q:=⟨_,rfl⟩
 obtain⟨R,hR⟩:∃ R:Bool,R=((e0&&(n0&&s0))||(!e0&&((e1&&((n0||n1)&&s0))||(!e1&&(((e2||e3)&&s0)||(!e2&&(!e3&&((e4||e5)&&n0)))))))):=⟨_,rfl⟩
 have HR:=hid hR
 clear hR
 refine⟨R,fun w=>?_⟩
 go_enter func196,ntmps196
 go_upto_region 1 with fail
 refine gen1 (fun V B0 Aa=>?_)
 have HS:=hs1 B0
 simp only[Cl,Nat.reduceAdd]at HS
 have KK:=HS.out V (ZR V)
 go_wp2_with fail
 all_goals
  go_ret
  exact RetB.of (by have hR:=HR.out;simp_all) (ZT Aa.out bt)
theorem ZdS (s:ByteArray)(lo:Int)(hs:s.size<=140737488355328):∃ r:Bool,∀ w:World,Calls prog 179 #[.string s,.int .u8 lo] w (RetB r w):=by
 obtain⟨R,hR⟩:=Zcs (∀ j,j<s.size->lo<=Za0 s j/\Za0 s j<=126/\Za0 s j≠34/\Za0 s j≠92)
 have HR:=hid hR
 clear hR
 refine⟨R,fun w=>?_⟩
 go_enter func179,ntmps179
 go_wp2_with fail
 go_loop [5] (fun v=>∃ i:Nat,i<=s.size/\v=.int .i64 i/\Hid (∀ j,j<i->lo<=Za0 s j/\Za0 s j<=126/\Za0 s j≠34/\Za0 s j≠92)) (fun v=>s.size - (intOf v).toNat)
 case atStart=>exact⟨0,by omega,rfl,hid (fun j hj=>by omega)⟩
 case round =>
  obtain⟨i,hi,rfl,HI⟩:=hrel
  by_cases hlt:i<s.size
  · have Cm:Hid (Za0 s i=((s[i]'hlt).toNat:Int)):=Zfl s hlt
    go_wp2_with fail
    all_goals first
     |(go_ret;exact RetB.of (all_bad HR.out hlt (by rw[Cm.out];rintro ⟨g1,g2,g3,g4⟩;simp_all<;>omega)) (ZR _))
     |(go_round;(case rel=>exact⟨i+1,by omega,by go_num,hid (Za9 HI.out (by rw[Cm.out];simp_all))⟩);(case measure=>simp[intOf];omega))
  · go_wp2_with fail
    go_ret
    exact RetB.of (all_end HR.out HI.out (by omega)) (ZR _)
def letB (c:Int):Bool:=decide (97<=c)&&decide (c<=122)
def digB (c:Int):Bool:=decide (48<=c)&&decide (c<=57)
theorem ZcX (c:Int)(w:World):Calls prog 181 #[.int .u8 c] w fun e w'=>e=.returned (.bool (letB c))/\Below w.heap.size w w':=by
 by_cases h1:97<=c<;>by_cases h2:c<=122
 all_goals
  go_enter func181,ntmps181
  go_wp2_with fail
  go_ret
  exact⟨by simp[letB,h1,h2],ZR _⟩
theorem digit_is (c:Int)(w:World):Calls prog 182 #[.int .u8 c] w fun e w'=>e=.returned (.bool (digB c))/\Below w.heap.size w w':=by
 by_cases h1:48<=c<;>by_cases h2:c<=57
 all_goals
  go_enter func182,ntmps182
  go_wp2_with fail
  go_ret
  exact⟨by simp[digB,h1,h2],ZR _⟩
def spanW (f:Nat->Bool)(n:Nat):Nat->Nat->Nat
 |0,i=>i
 |k+1,i=>if i<n/\f i=true then spanW f n k (i+1)else i
def chB (c:Int):Bool:=letB c||digB c||(c==95)
def wordN (g:Nat->Int)(n:Nat):Nat:=if letB (g 0)then spanW (fun i=>chB (g i)) n n 1 else 0
def BytesIs (w:World)(a:Option Addr)(n:Nat)(g:Nat->Int):Prop:=∃ b o,a=some ⟨b,o,none⟩/\∀ i,i<n->w.cell? ⟨b,o+i,none⟩=some (.int .u8 (g i))
theorem span_stop {f:Nat->Bool}{n k i:Nat}(h:¬ (i<n/\f i=true)):spanW f n k i=i:=by
 cases k with
 |zero=>rfl
 |succ k=>simp only[spanW];rw[if_neg h]
theorem asword_is (a:Option Addr)(n c:Nat)(g:Nat->Int)(w:World)(h:BytesIs w a n g)(h0:0<n)(hn:n<=140737488355328) :
 Calls prog 161 #[.slice a n c,.int .i64 0] w fun e w'=>e=.returned (.int .i64 (wordN g n:Nat))/\Below w.heap.size w w':=by
 obtain⟨b,o,rfl,hb⟩:=h
 have H:=hid hb
 have Ec:=hb 0 h0
 have HC:Hid (∀ w',Below w.heap.size w w'->w'.cell? ⟨b,o+0,none⟩=some (.int .u8 (g 0))):=fun w' hw=>Zaa Ec hw
 have k0:=HC.out _ (ZR w)
 simp only[Nat.add_zero]at k0
 obtain⟨T,hT⟩:∃ T,T=wordN g n:=⟨_,rfl⟩
 rw[<-hT]
 have HT:=hid hT
 clear hb Ec hT
 go_enter func161,ntmps161
 cases hl:letB (g 0)
 · have CL:Hid (∀ w,Calls prog 181 #[.int .u8 (g 0)] w fun e w'=>e=.returned (.bool false)/\Below w.heap.size w w'):=by rw[<-hl];exact fun w=>ZcX _ w
   have Hc:Hid (T=0):=by show _=_;rw[HT.out];unfold wordN;rw[hl];rfl
   clear HT hl
   go_wp2_with (first|(go_at_call 181;refine(CL.out _).mono ?_;rintro e w' ⟨rfl,hb⟩;have HW:Hid (Below w.heap.size w w'):=ZT bt hb;clear hb;have KK:=HC.out _ HW.out)|fail)
   go_ret
   rw[Hc.out]
   exact⟨rfl,bt⟩
 · have CL:Hid (∀ w,Calls prog 181 #[.int .u8 (g 0)] w fun e w'=>e=.returned (.bool true)/\Below w.heap.size w w'):=by rw[<-hl];exact fun w=>ZcX _ w
   have Hc:Hid (T=spanW (fun i=>chB (g i)) n n 1):=by show _=_;rw[HT.out];unfold wordN;rw[hl];rfl
   clear HT hl
   go_wp2_with (first|(go_at_call 181;refine(CL.out _).mono ?_;rintro e w' ⟨rfl,hb⟩;have HW:Hid (Below w.heap.size w w'):=ZT bt hb;clear hb;have KK:=HC.out _ HW.out)|fail)
   have Lc:Hid (Below w.heap.size w w'):=HW
   clear HC k0 KK CL
   go_loopw [5] (fun v wr=>∃ i:Nat,1<=i/\i<=n/\v=.int .i64 i/\Hid (T=spanW (fun i=>chB (g i)) n (n+1 - i) i)/\Hid (Below w.heap.size w wr)) (fun v _=>n - (intOf v).toNat)
   case atStart=>exact⟨1,by omega,by omega,rfl,Hc,Lc⟩
   case round =>
    obtain⟨i,hi0,hi,rfl,HI,hB⟩:=hrel
    by_cases hlt:i<n
    · have hx:=H.out i hlt
      have HC:Hid (∀ w',Below w.heap.size w w'->w'.cell? ⟨b,o+i,none⟩=some (.int .u8 (g i))):=fun w' hw=>Zaa hx hw
      have KK:=HC.out _ hB.out
      have HS:Hid (chB (g i)=true->T=spanW (fun i=>chB (g i)) n (n+1 - (i+1)) (i+1)):=fun hc=>by
       rw[HI.out,show n+1 - i=(n+1 - (i+1))+1 by omega]
       simp only[spanW]
       rw[if_pos ⟨hlt,hc⟩]
      have HN:Hid (chB (g i)=false->T=i):=fun hc=>by
       rw[HI.out]
       exact span_stop (fun h=>by rw[hc]at h;cases h.2)
      clear hx HI Hc
      generalize hgi:g i=x at *
      cases hl:letB x
      · cases hd:digB x
        · cases h5:(x==95)
          all_goals
           have CL:Hid (∀ w,Calls prog 181 #[.int .u8 x] w fun e w'=>e=.returned (.bool false)/\Below w.heap.size w w'):=by rw[<-hl];exact fun w=>ZcX _ w
           have CD:Hid (∀ w,Calls prog 182 #[.int .u8 x] w fun e w'=>e=.returned (.bool false)/\Below w.heap.size w w'):=by rw[<-hd];exact fun w=>digit_is _ w
           have hcb:chB x=(x==95):=by unfold chB;rw[hl,hd];rfl
           have HS2:=fun h=>HS.out (hcb.trans h)
           have Ab:=fun h=>HN.out (hcb.trans h)
           have Eb:=hid HS2
           have Cn:=hid Ab
           have H5:=hid h5
           clear HS2 Ab hcb HS HN hl hd hgi
           go_wp2_with (first|(go_at_call 181;refine(CL.out _).mono ?_;rintro e w' ⟨rfl,hb⟩;have HW:Hid (Below w.heap.size w w'):=ZT bt hb;clear hb;have KK:=HC.out _ HW.out)|(go_at_call 182;refine(CD.out _).mono ?_;rintro e w' ⟨rfl,hb⟩;have HW:Hid (Below w.heap.size w w'):=ZT bt hb;clear hb;have KK:=HC.out _ HW.out)|fail)
           first
            |(go_ret;rw[Cn.out H5.out];exact⟨rfl,bt⟩)
            |(go_roundw;(case rel=>exact⟨i+1,by omega,by omega,by go_num,Eb.out H5.out,bt⟩);(case measure=>simp[intOf];omega))
        · have CL:Hid (∀ w,Calls prog 181 #[.int .u8 x] w fun e w'=>e=.returned (.bool false)/\Below w.heap.size w w'):=by rw[<-hl];exact fun w=>ZcX _ w
          have CD:Hid (∀ w,Calls prog 182 #[.int .u8 x] w fun e w'=>e=.returned (.bool true)/\Below w.heap.size w w'):=by rw[<-hd];exact fun w=>digit_is _ w
          have Eb:=hid (HS.out (by unfold chB;rw[hl,hd];rfl))
          clear HS HN hl hd hgi
          go_wp2_with (first|(go_at_call 181;refine(CL.out _).mono ?_;rintro e w' ⟨rfl,hb⟩;have HW:Hid (Below w.heap.size w w'):=ZT bt hb;clear hb;have KK:=HC.out _ HW.out)|(go_at_call 182;refine(CD.out _).mono ?_;rintro e w' ⟨rfl,hb⟩;have HW:Hid (Below w.heap.size w w'):=ZT bt hb;clear hb;have KK:=HC.out _ HW.out)|fail)
          go_roundw
          case rel=>exact⟨i+1,by omega,by omega,by go_num,Eb,bt⟩
          case measure=>simp[intOf];omega
      · have CL:Hid (∀ w,Calls prog 181 #[.int .u8 x] w fun e w'=>e=.returned (.bool true)/\Below w.heap.size w w'):=by rw[<-hl];exact fun w=>ZcX _ w
        have Eb:=hid (HS.out (by unfold chB;rw[hl];rfl))
        clear HS HN hl hgi
        go_wp2_with (first|(go_at_call 181;refine(CL.out _).mono ?_;rintro e w' ⟨rfl,hb⟩;have HW:Hid (Below w.heap.size w w'):=ZT bt hb;clear hb;have KK:=HC.out _ HW.out)|fail)
        go_roundw
        case rel=>exact⟨i+1,by omega,by omega,by go_num,Eb,bt⟩
        case measure=>simp[intOf];omega
    · have HN:Hid (T=i):=by show _=_;rw[HI.out];exact span_stop (fun h=>hlt h.1)
      clear HI Hc
      go_wp2_with fail
      go_ret
      rw[HN.out]
      exact⟨rfl,hB.out⟩
def kwL:List ByteArray:=[⟨#[116,97,98,108,101]⟩,⟨#[102,101,97,116,117,114,101]⟩,⟨#[111,102]⟩,⟨#[107,101,101,112]⟩,⟨#[98,111,111,108]⟩,⟨#[116,101,120,116]⟩,⟨#[107,101,121]⟩,⟨#[105,110,116]⟩,⟨#[100,101,99]⟩,⟨#[105,102]⟩,⟨#[116,104,101,110]⟩,⟨#[101,108,115,101]⟩,⟨#[100,101,102,97,117,108,116]⟩,⟨#[111,114]⟩,⟨#[97,110,100]⟩,⟨#[110,111,116]⟩,⟨#[116,114,117,101]⟩,⟨#[102,97,108,115,101]⟩,⟨#[110,117,108,108]⟩,⟨#[99,111,117,110,116]⟩,⟨#[115,117,109]⟩,⟨#[109,101,97,110]⟩,⟨#[109,105,110]⟩,⟨#[109,97,120]⟩,⟨#[102,105,114,115,116]⟩,⟨#[108,97,115,116]⟩,⟨#[100,105,115,116,105,110,99,116]⟩,⟨#[113,117,97,110,116,105,108,101]⟩,⟨#[100,101,99,97,121]⟩,⟨#[97,108,108]⟩,⟨#[115,108,105,100,105,110,103]⟩,⟨#[116,117,109,98,108,105,110,103]⟩,⟨#[115,101,115,115,105,111,110]⟩,⟨#[119,104,101,114,101]⟩]
theorem keyword_is (s:ByteArray)(w:World):Calls prog 162 #[.string s] w fun e w'=>e=.returned (.bool (isOne s kwL))/\Below w.heap.size w w':=by
 obtain⟨d⟩:=s
 go_enter func162,ntmps162
 generalize hB:isOne ⟨d⟩ kwL=B
 have HB:=hid hB
 clear hB
 go_wp2_with fail
 all_goals
  go_ret
  refine⟨?_,ZR _⟩
  have hB:=HB.out
  clear HB
  rw[<-hB]
  clear hB
  simp_all [isOne,kwL,ByteArray.toList_eq]
  all_goals
   repeat' apply And.intro
  all_goals
   intro h
   subst h
   simp_all
end Go.Proofs.YtfnpfkgmacaboaaGreat
