/- Texts joined by a program. -/
import Derived.BigQuiet
import Derived.Outline
import Derived.Deep.DeepCutAuto
import Derived.Deep.CutBlock
import Derived.Test.YtfnpfkgmacaboaaGreatM01
import Derived.Test.YtfnpfkgmacaboaaGreatM02
namespace Go.Proofs.YtfnpfkgmacaboaaGreat
open Lib (hid)
open Go.ChangeShapes Go.WideShapes Go.ChangeAt Go.RowKit
set_option linter.unusedVariables false
set_option linter.unusedSimpArgs false
theorem Zam {P:Program}{c:Code}{Q:Exit->Act->World->Prop}{a:Act}{w:World}(h:∀ W,W=w->Code.wp P c Q a W):Code.wp P c Q a w:=h w rfl
theorem cmpL_end {α:Type}(c:α->α->Int)(l k:List α)(i:Nat)(h1:i<=l.length)(h2:i<=k.length)(h:¬ (i<l.length/\i<k.length)):cmpL c (l.drop i) (k.drop i)=cmpI l.length k.length:=by
 by_cases e1:i=l.length
 · rw[List.drop_of_length_le (by omega)]
   by_cases e2:i=k.length
   · rw[List.drop_of_length_le (by omega),show k.length=l.length by omega,Zde];rfl
   · rw[List.drop_eq_getElem_cons (show i<k.length by omega),Zew (by omega)];rfl
 · rw[List.drop_eq_getElem_cons (show i<l.length by omega),List.drop_of_length_le (show k.length<=i by omega),Zex (by omega)];rfl
theorem cmpL_step {α:Type}(c:α->α->Int)(l k:List α)(i:Nat)(x y:α)(hx:l[i]?=some x)(hy:k[i]?=some y):cmpL c (l.drop i) (k.drop i)=orI (c x y) (cmpL c (l.drop (i+1)) (k.drop (i+1))):=by
 obtain⟨h1,rfl⟩:=List.getElem?_eq_some_iff.1 hx
 obtain⟨h2,rfl⟩:=List.getElem?_eq_some_iff.1 hy
 rw[List.drop_eq_getElem_cons h1,List.drop_eq_getElem_cons h2];rfl
theorem Zaf.some {α:Type}{enc:α->List Value}{k:Nat}{w:World}{ao:Option Addr}{l:List α}(h:Zaf enc k w ao l)(hl:0<l.length):∃ b off,ao=Option.some ⟨b,off,none⟩/\Lies enc k w b off l:=by
 rcases h with rfl|h
 · simp at hl
 · exact h
set_option maxHeartbeats 1000000 in
set_option maxRecDepth 100000 in
theorem rfields_any (l k:List Val)(a1 a2:Option Addr)(c1 c2:Nat)(hl:l.length<=4611686018427387904)(hk:k.length<=4611686018427387904)(w:World)(h:Zaf valC 3 w a1 l)(h2:Zaf valC 3 w a2 k) :
 Calls Tryz.prog 55 #[.slice a1 l.length c1,.slice a2 k.length c2] w fun e w'=>e=.returned (.int .i64 (cmpL cmpV l k))/\Below w.heap.size w w':=by
 have H:=hid h
 have H2:=hid h2
 clear h h2
 have HO:=hid (fun w=>Zfi (l.length:Int) (k.length:Int) w)
 go_enter Tryz.func55,Tryz.ntmps55
 go_wp2_with fail
 go_loopw [5] (fun v wr=>∃ i:Nat,i<=l.length/\i<=k.length/\v=.int .i64 i/\Hid (cmpL cmpV l k=cmpL cmpV (l.drop i) (k.drop i))/\Below w.heap.size w wr) (fun v _=>l.length - (intOf v).toNat)
 case atStart=>exact⟨0,by omega,by omega,rfl,hid rfl,Below.refl _ _⟩
 case round =>
  obtain⟨i,hi1,hi2,rfl,HE,hB⟩:=hrel
  have HB:=hid hB
  have hsz:=hB.size
  by_cases hlt:i<l.length/\i<k.length
  · obtain⟨hlt1,hlt2⟩:=hlt
    obtain⟨x,hx⟩:∃ x,l[i]?=some x:=⟨l[i],List.getElem?_eq_getElem hlt1⟩
    obtain⟨y,hy⟩:∃ y,k[i]?=some y:=⟨k[i],List.getElem?_eq_getElem hlt2⟩
    obtain⟨b,off,rfl,hL⟩:=(H.out.kept hB).some (by omega)
    obtain⟨b2,off2,rfl,hL2⟩:=(H2.out.kept hB).some (by omega)
    obtain⟨y0,y1,y2⟩:=ZdP hL hx
    obtain⟨z0,z1,z2⟩:=ZdP hL2 hy
    have hn:=cmpL_step cmpV l k i x y hx hy
    have HC0:=hid (fun w=>rvalue_any x.1 x.2.1 y.1 y.2.1 x.2.2 y.2.2 w)
    change Hid (∀ w,Calls Tryz.prog 84 _ w fun e w'=>e=.returned (.int .i64 (cmpV x y))/\_)at HC0
    generalize cmpV x y=c at *
    have HN:=hid (HE.out.trans hn)
    clear hx hy hL hL2 HE hn hB
    obtain⟨x1,x2,x3⟩:=x
    obtain⟨v1,v2,v3⟩:=y
    simp only at y0 y1 y2 z0 z1 z2
    go_upto_region 4 with fail
    refine Zam (fun V hV=>?_)
    have HBV:Hid (Below w.heap.size w V):=by rw[hV];exact HB.out
    have r0:∀ d os,(Go.Sort.grow (redrawn V d) os).cell? ⟨b,off+i*3,none⟩=some (.int .i64 x1):=fun d os=>cell_regrown (by rw[hV];exact y0) d os
    have r1:∀ d os,(Go.Sort.grow (redrawn V d) os).cell? ⟨b,off+i*3+1,none⟩=some (.int .i64 x2):=fun d os=>cell_regrown (by rw[hV];exact y1) d os
    have r2:∀ d os,(Go.Sort.grow (redrawn V d) os).cell? ⟨b,off+i*3+2,none⟩=some (.string x3):=fun d os=>cell_regrown (by rw[hV];exact y2) d os
    have s0:∀ d os,(Go.Sort.grow (redrawn V d) os).cell? ⟨b2,off2+i*3,none⟩=some (.int .i64 v1):=fun d os=>cell_regrown (by rw[hV];exact z0) d os
    have s1:∀ d os,(Go.Sort.grow (redrawn V d) os).cell? ⟨b2,off2+i*3+1,none⟩=some (.int .i64 v2):=fun d os=>cell_regrown (by rw[hV];exact z1) d os
    have s2:∀ d os,(Go.Sort.grow (redrawn V d) os).cell? ⟨b2,off2+i*3+2,none⟩=some (.string v3):=fun d os=>cell_regrown (by rw[hV];exact z2) d os
    have HC:=hid (fun d os=>Calls.regrown_of (HC0.out (Go.Sort.grow (redrawn V d) os)))
    have ws1:IntKind.i64.wrap (i:Int)=(i:Int):=IntWalk.i64_in _ (by omega)
    clear hV y0 y1 y2 z0 z1 z2 HC0
    refine wp_region_quiet_below (by kernel_rfl) (by kernel_rfl) ?_
    repeat(go_big_quiet_step (first|exact HC.out _ _))
    refine wpQuiet_nil ?_
    intro _ hw'
    obtain⟨p,hw''⟩:=hw'
    subst hw''
    have HZ:=below_regrown V p.d p.os
    generalize Go.Sort.grow (redrawn V p.d) p.os=V2 at *
    have HB2:Hid (Below w.heap.size w V2):=HBV.out.trans (HZ.mono HBV.out.size)
    clear HZ HC
    by_cases hc:c=0
    · subst hc
      have HN2:Hid (cmpL cmpV l k=cmpL cmpV (l.drop (i+1)) (k.drop (i+1))):=HN.out.trans (Zck _)
      go_wp2_with fail
      go_roundw
      case rel=>exact⟨i+1,by omega,by omega,by go_num,HN2,HB2.out⟩
      case measure=>simp[intOf];omega
    · have hne:(c != 0)=true:=by simpa using hc
      have HN2:Hid (cmpL cmpV l k=c):=HN.out.trans (Zd6 hc)
      go_wp2_with fail
      go_ret
      exact⟨by rw[HN2.out];rfl,HB2.out⟩
  · have HN:=hid (HE.out.trans (cmpL_end cmpV l k i hi1 hi2 hlt))
    clear HE hB
    by_cases h1:i<l.length
    · have h2:¬ i<k.length:=fun h=>hlt ⟨h1,h⟩
      clear hlt
      go_wp2_with (go_at_call 53;(with_reducible refine(HO.out _).mono ?_);rintro e w1 ⟨rfl,rfl⟩)
      go_ret
      exact⟨by rw[HN.out];rfl,HB.out⟩
    · clear hlt
      go_wp2_with (go_at_call 53;(with_reducible refine(HO.out _).mono ?_);rintro e w1 ⟨rfl,rfl⟩)
      go_ret
      exact⟨by rw[HN.out];rfl,HB.out⟩
def Box (w:World)(g:Nat)(cs:Array Value)(t:TypeId):Prop:=w.heap[g]?=some (.cells cs t (0,0))
theorem Box.new (w:World)(cs:Array Value)(t:TypeId):Box (w.alloc (.cells cs t)) w.heap.size cs t:=heap_alloc_new w _
theorem Box.lt {w:World}{g:Nat}{cs:Array Value}{t:TypeId}(h:Box w g cs t):g<w.heap.size:=(Array.getElem?_eq_some_iff.1 h).1
theorem Box.kept {w w':World}{g:Nat}{cs:Array Value}{t:TypeId}(h:Box w g cs t)(hb:Below w.heap.size w w'):Box w' g cs t:=(hb.block g h.lt).trans h
theorem Box.cell {w:World}{g:Nat}{cs:Array Value}{t:TypeId}(h:Box w g cs t)(j:Nat)(v:Value)(hv:cs[j]?=some v):w.cell? ⟨g,j,none⟩=some v:=by
 rw[cell_of_row w g j cs t _ h];exact hv
theorem Box.free {w:World}{g:Nat}{cs:Array Value}{t:TypeId}(h:Box w g cs t)(j:Nat):w.frozen? ⟨g,j,none⟩=false:=by simp[World.frozen?,show w.heap[g]?=_ from h]
theorem Zab {w:World}(o:Obj):Below w.heap.size w (w.alloc o):=(Below.refl _ _).alloc (Nat.le_refl _) _
theorem Box.all {V:World}{g:Nat}{cs:Array Value}{t:TypeId}(h:Box V g cs t)(j:Nat)(v:Value)(hv:cs[j]?=some v)(d:Nat)(os:Array Obj):(Go.Sort.grow (redrawn V d) os).cell? ⟨g,j,none⟩=some v:=cell_regrown (h.cell j v hv) d os
theorem Box.all8 {V:World}{g:Nat}{t:TypeId}{a0 a1 a2 a3 a4 a5 a6 a7:Value}(h:Box V g #[a0,a1,a2,a3,a4,a5,a6,a7] t):(∀ d os,(Go.Sort.grow (redrawn V d) os).cell? ⟨g,0,none⟩=some a0)/\(∀ d os,(Go.Sort.grow (redrawn V d) os).cell? ⟨g,1,none⟩=some a1)/\(∀ d os,(Go.Sort.grow (redrawn V d) os).cell? ⟨g,2,none⟩=some a2)/\(∀ d os,(Go.Sort.grow (redrawn V d) os).cell? ⟨g,3,none⟩=some a3)/\(∀ d os,(Go.Sort.grow (redrawn V d) os).cell? ⟨g,4,none⟩=some a4)/\(∀ d os,(Go.Sort.grow (redrawn V d) os).cell? ⟨g,5,none⟩=some a5)/\(∀ d os,(Go.Sort.grow (redrawn V d) os).cell? ⟨g,6,none⟩=some a6)/\(∀ d os,(Go.Sort.grow (redrawn V d) os).cell? ⟨g,7,none⟩=some a7) :=
 ⟨h.all 0 _ rfl,h.all 1 _ rfl,h.all 2 _ rfl,h.all 3 _ rfl,h.all 4 _ rfl,h.all 5 _ rfl,h.all 6 _ rfl,h.all 7 _ rfl⟩
theorem orL_drop (L:List Int)(i:Nat)(c:Int)(h:L[i]?=some c):orL (L.drop i)=orI c (orL (L.drop (i+1))):=by
 obtain⟨h1,rfl⟩:=List.getElem?_eq_some_iff.1 h
 rw[List.drop_eq_getElem_cons h1];rfl
theorem _root_.Go.Calls.same_grown {P:Program}{f:FuncId}{args:Array Value}{w V:World}{v:Value}{p:Regrown}(h:Calls P f args w fun e w'=>e=.returned v/\w=w')(hw:w=Go.Sort.grow (redrawn V p.d) p.os):Calls P f args w fun e w''=>e=.returned v/\∃ p:Regrown,w''=Go.Sort.grow (redrawn V p.d) p.os :=
 h.mono fun e w' ⟨h1,h2⟩=>⟨h1,p,by rw[<-h2,hw]⟩
theorem orL_six (a b c d e f:Int):orL [a,b,c,d,e,f]=orI a (orI b (orI c (orI d (orI e f)))):=by
 simp only[orL,Zcq]
set_option maxHeartbeats 2000000 in
set_option maxRecDepth 100000 in
theorem rfull_any (r s:Rw)(w:World)(hr:r.Ok w)(hs:s.Ok w):Calls Tryz.prog 26 #[r.val,s.val] w fun e w'=>e=.returned (.int .i64 (cmpR r.key s.key))/\Below w.heap.size w w':=by
 have HR:=hid hr
 have HS:=hid hs
 clear hr hs
 have E:Hid (cmpR r.key s.key=orL [orI (cmpI r.ev s.ev) (cmpID (r.src,r.seq) (s.src,s.seq)),cmpI r.no s.no,cmpI r.tk s.tk,cmpS r.tb s.tb,cmpS r.ky s.ky,cmpL cmpV r.vs s.vs]):=by
  show _=_
  rw[orL_six,orI_assoc];rfl
 have C0:=hid (fun w=>rrow_any r.src s.src r.tb s.tb r.ky s.ky r.seq s.seq r.ev s.ev r.no s.no r.tk s.tk r.fa s.fa r.vs.length r.fc s.vs.length s.fc w)
 change Hid (∀ w,Calls Tryz.prog 27 _ w fun e w'=>e=.returned (.int .i64 (orI (cmpI r.ev s.ev) (cmpID (r.src,r.seq) (s.src,s.seq))))/\_)at C0
 have C1:=hid (fun w=>Zfi r.no s.no w)
 have C2:=hid (fun w=>Zfi r.tk s.tk w)
 have C3:=hid (fun w=>words_any r.tb s.tb w)
 have C4:=hid (fun w=>words_any r.ky s.ky w)
 have hrl:=HR.out.len
 have hsl:=HS.out.len
 have C5:=hid (fun w' h h'=>rfields_any r.vs s.vs r.fa s.fa r.fc s.fc (by omega) (by omega) w' h h')
 have HR5:=hid HR.out.lies
 have HS5:=hid HS.out.lies
 clear HR HS hrl hsl
 generalize orI (cmpI r.ev s.ev) (cmpID (r.src,r.seq) (s.src,s.seq))=c0 at *
 generalize cmpI r.no s.no=c1 at *
 generalize cmpI r.tk s.tk=c2 at *
 generalize cmpS r.tb s.tb=c3 at *
 generalize cmpS r.ky s.ky=c4 at *
 generalize cmpL cmpV r.vs s.vs=c5 at *
 generalize cmpR r.key s.key=cc at *
 obtain⟨r0,r1,r2,r3,r4,r5,r5c,r6,r7,rv⟩:=r
 obtain⟨s0,s1,s2,s3,s4,s5,s5c,s6,s7,sv⟩:=s
 simp only at C0 C1 C2 C3 C4 C5 HR5 HS5
 dsimp only[Rw.val]
 generalize hrn:rv.length=rn at *
 generalize hsn:sv.length=sn at *
 clear hrn hsn
 go_enter Tryz.func26,Tryz.ntmps26
 go_upto_region 1 with fail
 refine Zam (fun V hV=>?_)
 have B0:Hid (Box V w.heap.size #[.string r0,.int .i64 r1,.string r2,.string r3,.int .i64 r4,.slice r5 rn r5c,.int .i64 r6,.int .i64 r7] 68):=by rw[hV];exact(Box.new w _ _).kept (Zab _)
 have B1:Hid (Box V (w.heap.size+1) #[.string s0,.int .i64 s1,.string s2,.string s3,.int .i64 s4,.slice s5 sn s5c,.int .i64 s6,.int .i64 s7] 68):=by
  rw[hV];show Box _ _ _ _;have:=Box.new (w.alloc (.cells #[.string r0,.int .i64 r1,.string r2,.string r3,.int .i64 r4,.slice r5 rn r5c,.int .i64 r6,.int .i64 r7] 68)) #[.string s0,.int .i64 s1,.string s2,.string s3,.int .i64 s4,.slice s5 sn s5c,.int .i64 s6,.int .i64 s7] 68;simpa using this
 have HBV:Hid (Below w.heap.size w V):=by rw[hV];exact Zax _ _
 have HSZ:Hid (w.heap.size+2<=V.heap.size):=by show _<=_;rw[hV];simp
 obtain⟨a0,a1,a2,a3,a4,a5,a6,a7⟩:=B0.out.all8
 obtain⟨b0,b1,b2,b3,b4,b5,b6,b7⟩:=B1.out.all8
 have D0:=hid (fun d os=>Calls.regrown_of (C0.out (Go.Sort.grow (redrawn V d) os)))
 have D5:=hid (fun d os=>Calls.regrown_of (C5.out (Go.Sort.grow (redrawn V d) os) ((HR5.out.kept HBV.out).kept (below_regrown V d os)) ((HS5.out.kept HBV.out).kept (below_regrown V d os))))
 clear hV B0 B1 C0 C5
 refine ZbX 28 (by kernel_rfl) (by kernel_rfl) ?_
 simp only[List.take_succ_cons,List.take_zero,List.drop_succ_cons,List.drop_zero]
 repeat(go_big_quiet_step (first|with_reducible exact D0.out _ _|with_reducible exact D5.out _ _|with_reducible exact Calls.same_grown (p:=_) (C1.out _) rfl|with_reducible exact Calls.same_grown (p:=_) (C2.out _) rfl|with_reducible exact Calls.same_grown (p:=_) (C3.out _) rfl|with_reducible exact Calls.same_grown (p:=_) (C4.out _) rfl))
 refine wpQuiet_nil ?_
 intro _ hw'
 obtain⟨p,hw''⟩:=hw'
 subst hw''
 have HZ:=below_regrown V p.d p.os
 generalize Go.Sort.grow (redrawn V p.d) p.os=V2 at *
 have HB2:Hid (Below w.heap.size w V2):=HBV.out.trans (HZ.mono HBV.out.size)
 clear HZ a0 a1 a2 a3 a4 a5 a6 a7 b0 b1 b2 b3 b4 b5 b6 b7 C1 C2 C3 C4 D0 D5 HR5 HS5 HBV HSZ
 go_wp2_with fail
 refine Zam (fun V3 h3=>?_)
 generalize hg:V2.heap.size=g at *
 have HB3:Hid (Below w.heap.size w V3):=by rw[h3];exact HB2.out.alloc HB2.out.size _
 have HL:Hid (∀ (i:Nat) (c:Int),[c0,c1,c2,c3,c4,c5][i]?=some c->V3.cell? ⟨g,i,none⟩=some (.int .i64 c)):=by
  intro i c hc
  rw[h3,<-hg]
  refine(Box.new V2 _ _).cell i _ ?_
  match i,hc with
  |0,hc=>cases hc;rfl
  |1,hc=>cases hc;rfl
  |2,hc=>cases hc;rfl
  |3,hc=>cases hc;rfl
  |4,hc=>cases hc;rfl
  |5,hc=>cases hc;rfl
 clear h3 hg HB2
 have HLen:Hid ([c0,c1,c2,c3,c4,c5].length=6):=rfl
 generalize [c0,c1,c2,c3,c4,c5]=L at *
 go_loop [6] (fun v=>∃ i:Nat,i<=6/\v=.int .i64 i/\Hid (orL L=orL (L.drop i))) (fun v=>6 - (intOf v).toNat)
 case atStart=>exact⟨0,by omega,rfl,hid rfl⟩
 case round =>
  obtain⟨i,hi,rfl,HI⟩:=hrel
  by_cases hlt:i<6
  · obtain⟨c,hc⟩:∃ c,L[i]?=some c:=⟨L[i]'(by rw[HLen.out];exact hlt),List.getElem?_eq_getElem _⟩
    have hcell:=HL.out i c hc
    have HN:=hid (HI.out.trans (orL_drop L i c hc))
    clear hc HI
    by_cases h0:c=0
    · subst h0
      have HN2:Hid (orL L=orL (L.drop (i+1))):=HN.out.trans (Zck _)
      go_wp2_with fail
      go_round
      case rel=>exact⟨i+1,by omega,by go_num,HN2⟩
      case measure=>simp[intOf];omega
    · have hne:(c != 0)=true:=by simpa using h0
      have HN2:Hid (orL L=c):=HN.out.trans (Zd6 h0)
      go_wp2_with fail
      go_ret
      exact⟨by rw[E.out,HN2.out];rfl,HB3.out⟩
  · have HN2:Hid (orL L=0):=by show _=_;rw[HI.out,List.drop_of_length_le (by rw[HLen.out];omega)];rfl
    clear HI
    obtain rfl:i=6:=by omega
    go_wp2_with fail
    go_ret
    exact⟨by rw[E.out,HN2.out];rfl,HB3.out⟩
end Go.Proofs.YtfnpfkgmacaboaaGreat
