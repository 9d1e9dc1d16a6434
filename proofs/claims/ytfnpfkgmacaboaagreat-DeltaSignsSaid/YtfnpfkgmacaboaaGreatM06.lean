/- Texts joined by a program. -/
import Derived.Test.YtfnpfkgmacaboaaGreatM04
namespace Go.Proofs.YtfnpfkgmacaboaaGreat
open Lib (hid)
open Go.ChangeShapes Go.WideShapes Go.ChangeAt Go.RowKit
set_option linter.unusedVariables false
set_option linter.unusedSimpArgs false
theorem Zdp {α β:Type} [DecidableEq β] {f:α->β}{l k:List α}{i:Nat}{x y:α}(hx:l[i]?=some x)(hy:k[i]?=some y)(h:f x≠f y):decide (l.map f=k.map f)=false:=by
 refine decide_eq_false (fun e=>?_)
 have:=congrArg (fun l:List β=>l[i]?) e
 simp only[List.getElem?_map,hx,hy,Option.map_some,Option.some.injEq]at this
 exact h this
theorem map_step {α β:Type}{f:α->β}{l k:List α}{i:Nat}{x y:α}(h:(l.take i).map f=(k.take i).map f)(hx:l[i]?=some x)(hy:k[i]?=some y)(e:f x=f y):(l.take (i+1)).map f=(k.take (i+1)).map f:=by
 rw[ZaO hx,ZaO hy,List.map_append,List.map_append,h]
 simp[e]
theorem map_length {α β:Type} [DecidableEq β] {f:α->β}{l k:List α}(h:¬ l.length=k.length):decide (l.map f=k.map f)=false :=
 decide_eq_false (fun e=>h (by simpa using congrArg List.length e))
theorem ZaT {α:Type}{enc:α->List Value}{k:Nat}{w:World}{ao:Option Addr}{l:List α}{i:Nat}{x:α}(h:Zaf enc k w ao l)(hx:l[i]?=some x):∃ b off,ao=some ⟨b,off,none⟩/\Lies enc k w b off l:=by
 refine h.some ?_
 have:=(List.getElem?_eq_some_iff.1 hx).1
 omega
set_option maxHeartbeats 2000000 in
set_option maxRecDepth 100000 in
theorem samerows_any (l k:List Rw)(a1 a2:Option Addr)(c1 c2:Nat)(hl:l.length<=4611686018427387904)(w:World)(h:Zbs w a1 l)(h2:Zbs w a2 k) :
 Calls Tryz.prog 30 #[.slice a1 l.length c1,.slice a2 k.length c2] w fun e w'=>e=.returned (.bool (decide (l.map Rw.key=k.map Rw.key)))/\Below w.heap.size w w':=by
 have H:=hid h
 have H2:=hid h2
 clear h h2
 by_cases hlen:l.length=k.length
 · have HLen:=hid hlen
   obtain⟨n,hn⟩:∃ n,n=l.length:=⟨_,rfl⟩
   have HN1:Hid (n=l.length):=hn
   have HN2:Hid (n=k.length):=hn.trans hlen
   rw[<-hlen,<-hn]
   rw[<-hn]at hl
   clear hlen hn
   have e0:((n:Int) != (n:Int))=false:=by simp
   go_enter Tryz.func30,Tryz.ntmps30
   go_wp2_with fail
   go_loopw [5] (fun v wr=>∃ i:Nat,i<=n/\v=.int .i64 i/\Hid ((l.take i).map Rw.key=(k.take i).map Rw.key)/\Below w.heap.size w wr) (fun v _=>n - (intOf v).toNat)
   case atStart=>exact⟨0,by omega,rfl,hid (by simp),Below.refl _ _⟩
   case round =>
    obtain⟨i,hi,rfl,ht,hB⟩:=hrel
    have HB:=hid hB
    clear hB
    by_cases hlt:i<n
    · obtain⟨x,hx⟩:∃ x,l[i]?=some x:=⟨l[i]'(by rw[<-HN1.out];exact hlt),List.getElem?_eq_getElem _⟩
      obtain⟨y,hy⟩:∃ y,k[i]?=some y:=⟨k[i]'(by rw[<-HN2.out];exact hlt),List.getElem?_eq_getElem _⟩
      obtain⟨b,off,rfl,hrow⟩:=ZaT (H.out.1.kept HB.out) hx
      obtain⟨b2,off2,rfl,hrow2⟩:=ZaT (H2.out.1.kept HB.out) hy
      obtain⟨y0,y1,y2,y3,y4,y5,y6,y7⟩:=Rw.cell hrow hx
      obtain⟨z0,z1,z2,z3,z4,z5,z6,z7⟩:=Rw.cell hrow2 hy
      have HXO:Hid (x.Ok wr):=(H.out.2 x (List.mem_of_getElem? hx)).kept HB.out
      have HYO:Hid (y.Ok wr):=(H2.out.2 y (List.mem_of_getElem? hy)).kept HB.out
      have HX:=hid hx
      have HY:=hid hy
      clear hrow hx hrow2 hy
      have ws1:IntKind.i64.wrap (i:Int)=(i:Int):=IntWalk.i64_in _ (by omega)
      go_upto_region 6 with fail
      refine Zam (fun V hV=>?_)
      have HBV:Hid (Below w.heap.size w V):=by rw[hV];exact HB.out
      have HVV:Hid (wr=V):=hV.symm
      have r0:=fun d os=>cell_regrown (w:=V) (by rw[hV];exact y0) d os
      have r1:=fun d os=>cell_regrown (w:=V) (by rw[hV];exact y1) d os
      have r2:=fun d os=>cell_regrown (w:=V) (by rw[hV];exact y2) d os
      have r3:=fun d os=>cell_regrown (w:=V) (by rw[hV];exact y3) d os
      have r4:=fun d os=>cell_regrown (w:=V) (by rw[hV];exact y4) d os
      have r5:=fun d os=>cell_regrown (w:=V) (by rw[hV];exact y5) d os
      have r6:=fun d os=>cell_regrown (w:=V) (by rw[hV];exact y6) d os
      have r7:=fun d os=>cell_regrown (w:=V) (by rw[hV];exact y7) d os
      have s0:=fun d os=>cell_regrown (w:=V) (by rw[hV];exact z0) d os
      have s1:=fun d os=>cell_regrown (w:=V) (by rw[hV];exact z1) d os
      have s2:=fun d os=>cell_regrown (w:=V) (by rw[hV];exact z2) d os
      have s3:=fun d os=>cell_regrown (w:=V) (by rw[hV];exact z3) d os
      have s4:=fun d os=>cell_regrown (w:=V) (by rw[hV];exact z4) d os
      have s5:=fun d os=>cell_regrown (w:=V) (by rw[hV];exact z5) d os
      have s6:=fun d os=>cell_regrown (w:=V) (by rw[hV];exact z6) d os
      have s7:=fun d os=>cell_regrown (w:=V) (by rw[hV];exact z7) d os
      have HC0:=hid (fun d os=>Calls.regrown_of (rfull_any x y (Go.Sort.grow (redrawn V d) os) ((HVV.out ▸ HXO.out).kept (below_regrown V d os)) ((HVV.out ▸ HYO.out).kept (below_regrown V d os))))
      generalize hcc:cmpR x.key y.key=c at *
      have HCC:=hid hcc
      clear hV hcc y0 y1 y2 y3 y4 y5 y6 y7 z0 z1 z2 z3 z4 z5 z6 z7 HVV
      refine wp_region_quiet_below (by kernel_rfl) (by kernel_rfl) ?_
      repeat(go_big_quiet_step (first|with_reducible exact HC0.out _ _))
      refine wpQuiet_nil ?_
      intro _ hw'
      obtain⟨p,hw''⟩:=hw'
      subst hw''
      have HZ:=below_regrown V p.d p.os
      clear HC0 r0 r1 r2 r3 r4 r5 r6 r7 s0 s1 s2 s3 s4 s5 s6 s7
      generalize Go.Sort.grow (redrawn V p.d) p.os=V2 at *
      have HB2:Hid (Below w.heap.size w V2):=HBV.out.trans (HZ.mono HBV.out.size)
      clear HZ
      by_cases hc:c=0
      · subst hc
        have HN:=hid (map_step ht.out HX.out HY.out ((Zbe.zero _ _).1 HCC.out))
        go_wp2_with fail
        go_roundw
        case rel=>exact⟨i+1,by omega,by go_num,HN,HB2.out⟩
        case measure=>simp[intOf];omega
      · have hne:(c != 0)=true:=by simpa using hc
        have HN:=hid (Zdp (f:=Rw.key) HX.out HY.out (fun e=>hc (HCC.out ▸ (Zbe.zero _ _).2 e)))
        go_wp2_with fail
        go_ret
        exact⟨by rw[HN.out];rfl,HB2.out⟩
    · have HR:Hid (decide (l.map Rw.key=k.map Rw.key)=true):=by
        refine decide_eq_true ?_
        have:=ht.out
        rw[List.take_of_length_le (by rw[<-HN1.out];omega),List.take_of_length_le (by rw[<-HN2.out];omega)]at this
        exact this
      obtain rfl:i=n:=by omega
      go_wp2_with fail
      go_ret
      exact⟨by rw[HR.out];rfl,HB.out⟩
 · have e0:((l.length:Int) != (k.length:Int))=true:=by simp;omega
   have HR:=hid (map_length (f:=Rw.key) hlen)
   clear hlen
   generalize l.length=n at *
   generalize k.length=m at *
   go_enter Tryz.func30,Tryz.ntmps30
   go_wp2_with fail
   go_ret
   exact⟨by rw[HR.out];rfl,Below.refl _ _⟩
set_option maxHeartbeats 2000000 in
set_option maxRecDepth 100000 in
theorem same_any (l k:List Dl)(a1 a2:Option Addr)(c1 c2:Nat)(hl:l.length<=4611686018427387904)(w:World)(h:DlsAt w a1 l)(h2:DlsAt w a2 k) :
 Calls Tryz.prog 12 #[.slice a1 l.length c1,.slice a2 k.length c2] w fun e w'=>e=.returned (.bool (decide (l.map Dl.kn=k.map Dl.kn)))/\Below w.heap.size w w':=by
 have H:=hid h
 have H2:=hid h2
 clear h h2
 by_cases hlen:l.length=k.length
 · have HLen:=hid hlen
   obtain⟨n,hn⟩:∃ n,n=l.length:=⟨_,rfl⟩
   have HN1:Hid (n=l.length):=hn
   have HN2:Hid (n=k.length):=hn.trans hlen
   rw[<-hlen,<-hn]
   rw[<-hn]at hl
   clear hlen hn
   have e0:((n:Int) != (n:Int))=false:=by simp
   go_enter Tryz.func12,Tryz.ntmps12
   go_wp2_with fail
   go_loopw [5] (fun v wr=>∃ i:Nat,i<=n/\v=.int .i64 i/\Hid ((l.take i).map Dl.kn=(k.take i).map Dl.kn)/\Below w.heap.size w wr) (fun v _=>n - (intOf v).toNat)
   case atStart=>exact⟨0,by omega,rfl,hid (by simp),Below.refl _ _⟩
   case round =>
    obtain⟨i,hi,rfl,ht,hB⟩:=hrel
    have HB:=hid hB
    clear hB
    by_cases hlt:i<n
    · obtain⟨x,hx⟩:∃ x,l[i]?=some x:=⟨l[i]'(by rw[<-HN1.out];exact hlt),List.getElem?_eq_getElem _⟩
      obtain⟨y,hy⟩:∃ y,k[i]?=some y:=⟨k[i]'(by rw[<-HN2.out];exact hlt),List.getElem?_eq_getElem _⟩
      obtain⟨b,off,rfl,hrow⟩:=ZaT (H.out.1.kept HB.out) hx
      obtain⟨b2,off2,rfl,hrow2⟩:=ZaT (H2.out.1.kept HB.out) hy
      obtain⟨y0,y1,y2,y3,y4,y5,y6,y7,y8,y9⟩:=Dl.cell hrow hx
      obtain⟨z0,z1,z2,z3,z4,z5,z6,z7,z8,z9⟩:=Dl.cell hrow2 hy
      have HXO:Hid (x.Ok wr):=(H.out.2 x (List.mem_of_getElem? hx)).kept HB.out
      have HYO:Hid (y.Ok wr):=(H2.out.2 y (List.mem_of_getElem? hy)).kept HB.out
      have HX:=hid hx
      have HY:=hid hy
      clear hrow hx hrow2 hy
      have ws1:IntKind.i64.wrap (i:Int)=(i:Int):=IntWalk.i64_in _ (by omega)
      go_upto_region 6 with fail
      refine Zam (fun V hV=>?_)
      have HBV:Hid (Below w.heap.size w V):=by rw[hV];exact HB.out
      have HVV:Hid (wr=V):=hV.symm
      have r0:=fun d os=>cell_regrown (w:=V) (by rw[hV];exact y0) d os
      have r1:=fun d os=>cell_regrown (w:=V) (by rw[hV];exact y1) d os
      have r2:=fun d os=>cell_regrown (w:=V) (by rw[hV];exact y2) d os
      have r3:=fun d os=>cell_regrown (w:=V) (by rw[hV];exact y3) d os
      have r4:=fun d os=>cell_regrown (w:=V) (by rw[hV];exact y4) d os
      have r5:=fun d os=>cell_regrown (w:=V) (by rw[hV];exact y5) d os
      have r6:=fun d os=>cell_regrown (w:=V) (by rw[hV];exact y6) d os
      have r7:=fun d os=>cell_regrown (w:=V) (by rw[hV];exact y7) d os
      have r8:=fun d os=>cell_regrown (w:=V) (by rw[hV];exact y8) d os
      have r9:=fun d os=>cell_regrown (w:=V) (by rw[hV];exact y9) d os
      have s0:=fun d os=>cell_regrown (w:=V) (by rw[hV];exact z0) d os
      have s1:=fun d os=>cell_regrown (w:=V) (by rw[hV];exact z1) d os
      have s2:=fun d os=>cell_regrown (w:=V) (by rw[hV];exact z2) d os
      have s3:=fun d os=>cell_regrown (w:=V) (by rw[hV];exact z3) d os
      have s4:=fun d os=>cell_regrown (w:=V) (by rw[hV];exact z4) d os
      have s5:=fun d os=>cell_regrown (w:=V) (by rw[hV];exact z5) d os
      have s6:=fun d os=>cell_regrown (w:=V) (by rw[hV];exact z6) d os
      have s7:=fun d os=>cell_regrown (w:=V) (by rw[hV];exact z7) d os
      have s8:=fun d os=>cell_regrown (w:=V) (by rw[hV];exact z8) d os
      have s9:=fun d os=>cell_regrown (w:=V) (by rw[hV];exact z9) d os
      have HC0:=hid (fun d os=>Calls.regrown_of (rfull_any x.r y.r (Go.Sort.grow (redrawn V d) os) ((HVV.out ▸ HXO.out.r).kept (below_regrown V d os)) ((HVV.out ▸ HYO.out.r).kept (below_regrown V d os))))
      generalize hcc:cmpR x.r.key y.r.key=c at *
      have HCC:=hid hcc
      clear hV hcc y0 y1 y2 y3 y4 y5 y6 y7 y8 y9 z0 z1 z2 z3 z4 z5 z6 z7 z8 z9 HVV
      by_cases h1:x.tick=y.tick
      · have g1:(x.tick != y.tick)=false:=by simp[h1]
        by_cases h2:x.n=y.n
        · have g2:(x.n != y.n)=false:=by simp[h2]
          have HE:Hid (x.tick=y.tick/\x.n=y.n):=⟨h1,h2⟩
          clear h1 h2
          refine wp_region_quiet_below (by kernel_rfl) (by kernel_rfl) ?_
          repeat(go_big_quiet_step (first|with_reducible exact HC0.out _ _))
          refine wpQuiet_nil ?_
          intro _ hw'
          obtain⟨p,hw''⟩:=hw'
          subst hw''
          have HZ:=below_regrown V p.d p.os
          clear HC0 r0 r1 r2 r3 r4 r5 r6 r7 r8 r9 s0 s1 s2 s3 s4 s5 s6 s7 s8 s9
          generalize Go.Sort.grow (redrawn V p.d) p.os=V2 at *
          have HB2:Hid (Below w.heap.size w V2):=HBV.out.trans (HZ.mono HBV.out.size)
          clear HZ
          by_cases hc:c=0
          · subst hc
            have HN:=hid (map_step (f:=Dl.kn) ht.out HX.out HY.out (by unfold Dl.kn Dl.key;rw[HE.out.1,HE.out.2,(Zbe.zero _ _).1 HCC.out]))
            go_wp2_with fail
            go_roundw
            case rel=>exact⟨i+1,by omega,by go_num,HN,HB2.out⟩
            case measure=>simp[intOf];omega
          · have hne:(c != 0)=true:=by simpa using hc
            have HN:=hid (Zdp (f:=Dl.kn) HX.out HY.out (fun e=>hc (HCC.out ▸ (Zbe.zero _ _).2 (congrArg (fun q:DK × Int=>q.1.2) e))))
            go_wp2_with fail
            go_ret
            exact⟨by rw[HN.out];rfl,HB2.out⟩
        · have g2:(x.n != y.n)=true:=by simpa using h2
          have HN:=hid (Zdp (f:=Dl.kn) HX.out HY.out (fun e=>h2 (congrArg (fun q:DK × Int=>q.2) e)))
          clear h1 h2
          refine wp_region_quiet_below (by kernel_rfl) (by kernel_rfl) ?_
          repeat(go_big_quiet_step (fail))
          refine wpQuiet_nil ?_
          intro _ hw'
          obtain⟨p,hw''⟩:=hw'
          subst hw''
          have HZ:=below_regrown V p.d p.os
          clear HC0 r0 r1 r2 r3 r4 r5 r6 r7 r8 r9 s0 s1 s2 s3 s4 s5 s6 s7 s8 s9
          generalize Go.Sort.grow (redrawn V p.d) p.os=V2 at *
          have HB2:Hid (Below w.heap.size w V2):=HBV.out.trans (HZ.mono HBV.out.size)
          clear HZ
          go_wp2_with fail
          go_ret
          exact⟨by rw[HN.out];rfl,HB2.out⟩
      · have g1:(x.tick != y.tick)=true:=by simpa using h1
        have HN:=hid (Zdp (f:=Dl.kn) HX.out HY.out (fun e=>h1 (congrArg (fun q:DK × Int=>q.1.1) e)))
        clear h1
        refine wp_region_quiet_below (by kernel_rfl) (by kernel_rfl) ?_
        repeat(go_big_quiet_step (fail))
        refine wpQuiet_nil ?_
        intro _ hw'
        obtain⟨p,hw''⟩:=hw'
        subst hw''
        have HZ:=below_regrown V p.d p.os
        clear HC0 r0 r1 r2 r3 r4 r5 r6 r7 r8 r9 s0 s1 s2 s3 s4 s5 s6 s7 s8 s9
        generalize Go.Sort.grow (redrawn V p.d) p.os=V2 at *
        have HB2:Hid (Below w.heap.size w V2):=HBV.out.trans (HZ.mono HBV.out.size)
        clear HZ
        go_wp2_with fail
        go_ret
        exact⟨by rw[HN.out];rfl,HB2.out⟩
    · have HR:Hid (decide (l.map Dl.kn=k.map Dl.kn)=true):=by
        refine decide_eq_true ?_
        have:=ht.out
        rw[List.take_of_length_le (by rw[<-HN1.out];omega),List.take_of_length_le (by rw[<-HN2.out];omega)]at this
        exact this
      obtain rfl:i=n:=by omega
      go_wp2_with fail
      go_ret
      exact⟨by rw[HR.out];rfl,HB.out⟩
 · have e0:((l.length:Int) != (k.length:Int))=true:=by simp;omega
   have HR:=hid (map_length (f:=Dl.kn) hlen)
   clear hlen
   generalize l.length=n at *
   generalize k.length=m at *
   go_enter Tryz.func12,Tryz.ntmps12
   go_wp2_with fail
   go_ret
   exact⟨by rw[HR.out];rfl,Below.refl _ _⟩
theorem Box.at8 {w:World}{g:Nat}{t:TypeId}{a0 a1 a2 a3 a4 a5 a6 a7:Value}(h:Box w g #[a0,a1,a2,a3,a4,a5,a6,a7] t):w.cell? ⟨g,0,none⟩=some a0/\w.cell? ⟨g,1,none⟩=some a1/\w.cell? ⟨g,2,none⟩=some a2/\w.cell? ⟨g,3,none⟩=some a3/\w.cell? ⟨g,4,none⟩=some a4/\w.cell? ⟨g,5,none⟩=some a5/\w.cell? ⟨g,6,none⟩=some a6/\w.cell? ⟨g,7,none⟩=some a7 :=
 ⟨h.cell 0 _ rfl,h.cell 1 _ rfl,h.cell 2 _ rfl,h.cell 3 _ rfl,h.cell 4 _ rfl,h.cell 5 _ rfl,h.cell 6 _ rfl,h.cell 7 _ rfl⟩
def cntK (L:List (DK × Int))(k:RK)(t:Int):Int:=L.foldl (fun s x=>if x.1.1<=t/\x.1.2=k then IntKind.i64.wrap (s+x.2)else s) 0
end Go.Proofs.YtfnpfkgmacaboaaGreat
