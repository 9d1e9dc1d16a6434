/- Texts joined by a program. -/
import Derived.Test.YtfnpfkgmacaboaaGreatM22
import Derived.Test.YtfnpfkgmacaboaaGreatM23
namespace Go.Proofs.YtfnpfkgmacaboaaGreatEx
open Go.Proofs.Tryz
open Lib (hid)
open Go.ChangeShapes Go.WideShapes Go.ChangeAt Go.RowKit
structure ZcJ (w:World) (X Y:Nat) (x y:Nat->Int) (h m:Int) (rest:Value) (wr:World):Prop where
 below:Below w.heap.size w wr
 x:ZaZ wr X x
 y:ZaZ wr Y y
 hi:wr.cell? ⟨w.heap.size,0,none⟩=some (.int .i64 h)
 rest:∃ Z cap f,rest=.slice (some ⟨Z,0,none⟩) 8 cap/\8<=cap/\ZaZ wr Z f/\Digs f/\val8 f=m
theorem ZcJ.next {w wr w':World}{X Y:Nat}{x y:Nat->Int}{h m m':Int}{rest:Value}{e:Ending}{f:Nat->Int}(H:ZcJ w X Y x y h m rest wr)(hr:Zc8 wr f e w')(hf:Digs f)(hv:val8 f=m') :
 ∃ Z cap,e=.returned (.slice (some ⟨Z,0,none⟩) 8 cap)/\8<=cap/\ZaZ w' Z f/\ZcJ w X Y x y h m' (.slice (some ⟨Z,0,none⟩) 8 cap) w':=by
 obtain⟨v,rfl,hz,hb⟩:=hr
 obtain⟨Z,cap,rfl,hZ,hc,hZl,cZ,fZ⟩:=Zbu hz
 exact⟨Z,cap,rfl,hc,cZ,H.below.trans (hb.mono H.below.size),H.x.kept hb,H.y.kept hb,by rw[(bsome hb).1 _ (by rw[H.hi];rfl),H.hi],Z,cap,f,rfl,hc,cZ,hf,hv⟩
theorem ZcJ.kept {w wr w':World}{X Y:Nat}{x y:Nat->Int}{h m:Int}{rest:Value}(H:ZcJ w X Y x y h m rest wr)(hb:Below wr.heap.size wr w'):ZcJ w X Y x y h m rest w':=by
 obtain⟨Z,cap,f,e,hc,cZ,hf,hv⟩:=H.rest
 exact⟨H.below.trans (hb.mono H.below.size),H.x.kept hb,H.y.kept hb,by rw[(bsome hb).1 _ (by rw[H.hi];rfl),H.hi],Z,cap,f,e,hc,cZ.kept hb,hf,hv⟩
theorem upq_ge (N D:Int):N / D<=upq N D:=by unfold upq;split<;>omega
set_option maxHeartbeats 2000000 in
set_option maxRecDepth 100000 in
theorem refDivide_core (a d N D:Int)(x y:Nat->Int)(hd:d≠0)(on:∀ w,Calls prog 238 #[.int .i64 d] w fun e w'=>e=.returned (.agg #[.int .i64 (whi d),.int .u64 (wlo d)])/\Below w.heap.size w w')
 (sx:∀ w,Calls prog 244 #[.agg #[.int .i64 (whi a),.int .u64 (wlo a)]] w (Zc8 w x)) (sy:∀ w,Calls prog 244 #[.agg #[.int .i64 (whi d),.int .u64 (wlo d)]] w (Zc8 w y))
 (hN0:0<=N/\N<=170141183460469231731687303715884105728) (hD0:1<=D/\D<=9223372036854775808) (hx:Digs x) (hvx:val8 x=N) (hy:Digs y) (hvy:val8 y=D) (res:Value) (hres:res=Zb2 (decide (whi a<0) != decide (d<0)) (upq N D)) (w:World) :
 Calls prog 240 #[.agg #[.int .i64 (whi a),.int .u64 (wlo a)],.int .i64 d] w fun e w'=>e=.returned res/\Below w.heap.size w w':=by
 have hmk:=make8
 have sx:=hid sx
 have on:=hid on
 have sy:=hid sy
 have hd':(d==0)=false:=by simpa using hd
 have hbit:=hid hx
 have hy:=hid hy
 have hvy':=hid hvy
 have hvx':=hid hvx
 have hres':=hid hres
 clear hres hvy hvx hx
 go_enter func240,ntmps240
 go_wp2_with fail
 refine(sx.out _).mono ?_
 rintro e w1 ⟨x0,rfl,hxr,Cb⟩
 obtain⟨X,capX,rfl,hX,hcX,hXl,cX,fX⟩:=Zbu hxr
 have CX:=hid cX
 clear cX fX hxr
 have Ea:=Cb.size
 simp at Ea hX
 have Qb:Below w.heap.size w w1:=((Below.refl _ _).alloc (Nat.le_refl _) _).trans (Cb.mono (by simp))
 have k0:w1.cell? ⟨w.heap.size,0,none⟩=some (.int .i64 (whi a)):=by rw[Cb.cell (by simp)];simp[go_sem]
 clear Cb
 go_wp2_with fail
 refine(on.out _).mono ?_
 rintro e w2 ⟨rfl,Sd⟩
 have CX2:=hid (CX.out.kept Sd)
 have La:Below w.heap.size w w2:=Qb.trans (Sd.mono Qb.size)
 have Fa:=Sd.size
 have kk2:w2.cell? ⟨w.heap.size,0,none⟩=some (.int .i64 (whi a)):=by rw[Sd.cell (by simp;omega),k0]
 clear CX Qb Sd
 go_wp2_with fail
 refine(sy.out _).mono ?_
 rintro e w3 ⟨y0,rfl,hyr,Ue⟩
 obtain⟨Y,capY,rfl,hY,hcY,hYl,cY,fY⟩:=Zbu hyr
 have CX3:=hid (CX2.out.kept Ue)
 have CY3:=hid cY
 have Ib:Below w.heap.size w w3:=La.trans (Ue.mono La.size)
 have Ef:=Ue.size
 have kk3:w3.cell? ⟨w.heap.size,0,none⟩=some (.int .i64 (whi a)):=by rw[Ue.cell (by simp;omega),kk2]
 clear CX2 La Ue cY fY hyr
 go_wp2_with fail
 clear sx on sy hmk
 have Uf:(w3.alloc zeros).cell? ⟨w.heap.size,0,none⟩=some (.int .i64 (whi a)):=by
  rw[(Below.alloc (Below.refl w3.heap.size w3) (Nat.le_refl _) _).cell (by simp;omega)];exact kk3
 have hI:Hid (ZcJ w X Y x y (whi a) (pre N 128 % D) (.slice (some ⟨w3.heap.size,0,none⟩) 8 8) (w3.alloc zeros)) :=
  ⟨Ib.alloc (by omega) _,CX3.out.kept (Below.alloc (Below.refl _ _) (Nat.le_refl _) _),CY3.out.kept (Below.alloc (Below.refl _ _) (Nat.le_refl _) _),Uf,w3.heap.size,8,fun _=>0,rfl,Nat.le_refl _,zeros_cells w3,fun _ _=>⟨by show(0:Int)<=0;decide,by show(0:Int)<=65535;decide⟩,by rw[pre_top N hN0.1 (by omega),Int.zero_emod];rfl⟩
 have Rn:pre N 128 / D=0:=by rw[pre_top N hN0.1 (by omega)];exact Int.zero_ediv D
 clear Uf CX3 CY3 Ib
 generalize w3.alloc zeros=W at hI ⊢
 generalize w3.heap.size=Z0 at hI ⊢
 clear hYl Ef Fa hXl Ea k0 kk2 kk3
 go_loopw [8,9,10] (fun rest q i wr=>∃ s:Nat,s<=128/\i=.int .i64 ((s:Int) - 1)/\q=.int .i64 (pre N s / D)/\pre N s / D<=1152921504606846976/\ZcJ w X Y x y (whi a) (pre N s % D) rest wr) (fun _ _ i _=>(intOf i+1).toNat)
 case atStart=>exact⟨128,by omega,rfl,by rw[Rn],by omega,hI.out⟩
 case round =>
  clear hI Rn
  obtain⟨s,hs,rfl,rfl,hq,hI⟩:=hrel
  have HK:=hid hI
  clear hI
  match s,hs with
  |t+1,hs =>
   rw[show((t+1:Nat):Int) - 1=t by omega]
   obtain⟨Z,cap,f,rfl,hc8,cZ,hf,hv⟩:=HK.out.rest
   have c1:=HK.out.x (t / 16) (by omega)
   have b1:=hbit.out (t / 16) (by omega)
   have hp:=pre_next N t hbit.out hvx'.out (by omega)
   have hbv:Hid ((x (t / 16) / 2 ^ (t % 16)).tmod 2=x (t / 16) / 2 ^ (t % 16) % 2):=Int.tmod_eq_emod_of_nonneg (Int.ediv_nonneg b1.1 (Int.le_of_lt (Int.pow_pos (by decide))))
   have hv':=hid hv
   have cZ':=hid cZ
   have hp':=hid hp
   have hle:pre N t<=N:=pre_le N hN0.1 t
   have hup:=hid (upq_ge N D)
   have hmono:=hid (Int.ediv_le_ediv (by omega:0<D) hle)
   have hP0:=pre_pos N hN0.1 (t+1)
   have Ik:=Int.emod_nonneg (pre N (t+1)) (by omega:D≠0)
   have Da:=Int.emod_lt_of_pos (pre N (t+1)) (by omega:0<D)
   have Rn:0<=pre N (t+1) / D:=Int.ediv_nonneg hP0 (by omega)
   have slo:=hid (step_low (pre N (t+1)) D)
   have shi:=hid (step_high (pre N (t+1)) D)
   clear hv cZ hp
   go_wp2_with fail
   have hbz:0<=x (t / 16) / 2 ^ (t % 16) % 2/\x (t / 16) / 2 ^ (t % 16) % 2<=1:=by omega
   rw[hbv.out]
   clear hbv
   generalize x (t / 16) / 2 ^ (t % 16) % 2=b at *
   generalize pre N (t+1) % D=r at *
   generalize pre N (t+1) / D=q at *
   generalize pre N (t+1)=P at *
   refine(ZdE Z cap f b hbz.1 hbz.2 hf _ cZ'.out).mono ?_
   rintro e wa hra
   have hva:val8 (car (dbl f b))=2*r+b:=ZcM (ZbD _) (Zcq (ZeW _) (eqv_of (by rw[val_dbl,hv'.out]))) (by omega) (by omega)
   obtain⟨Z1,cap1,rfl,Bl,cZ1,H1⟩:=HK.out.next hra (ZbD _) hva
   have HA:=hid H1
   have bl:=Zfn Z1 cap1 Y capY _ _ (ZbD (dbl f b)) hy.out wa cZ1 H1.y
   rw[hva,hvy'.out]at bl
   have cZ1':=hid cZ1
   have BL:=hid bl
   clear bl hra H1 cZ1 HK
   by_cases hlow:2*r+b<D
   · obtain⟨e1,e2⟩:=slo.out b (by omega) hbz.1 hlow
     rw[<-hp'.out]at e1 e2
     have E1:=hid e1;have E2:=hid e2
     rw[e2]at hmono
     have BL2:Hid (Calls prog 246 #[.slice (some ⟨Z1,0,none⟩) 8 cap1,.slice (some ⟨Y,0,none⟩) 8 capY] wa fun e w'=>e=.returned (.bool true)/\Below wa.heap.size wa w'):=by
      have:=BL.out
      rw[decide_eq_true hlow]at this
      exact this
     clear BL e1 e2 slo shi
     go_wp2_with fail
     refine BL2.out.mono ?_
     rintro e wb ⟨rfl,hb⟩
     have HB:=hid (HA.out.kept hb)
     clear hb BL2 HA
     by_cases hbig:1152921504606846976<2*q
     · have hout:Hid (res=.tuple #[.int .i64 0,.bool false]):=by
         have h1:=hup.out;have h2:=hmono.out;have h3:=hres'.out
         rw[ZbR _ _ (by omega)]at h3
         exact h3
       have HBb:=HB.out.below
       clear HB
       go_wp2_with fail
       refine bodyPost_ret (v:=.tuple #[.int .i64 0,.bool false]) (by simp[results,Tryz.results240,go_sem]) rfl ⟨by rw[hout.out],HBb⟩
     · go_wp2_with fail
       go_roundw
       case rel=>exact⟨t,by omega,by go_num,by rw[E2.out],by rw[E2.out];omega,by rw[E1.out];exact HB.out⟩
       case measure=>simp[intOf]
   · obtain⟨e1,e2⟩:=shi.out b (by omega) hbz.2 (by omega)
     rw[<-hp'.out]at e1 e2
     have E1:=hid e1;have E2:=hid e2
     rw[e2]at hmono
     have BL2:Hid (Calls prog 246 #[.slice (some ⟨Z1,0,none⟩) 8 cap1,.slice (some ⟨Y,0,none⟩) 8 capY] wa fun e w'=>e=.returned (.bool false)/\Below wa.heap.size wa w'):=by
      have:=BL.out
      rw[decide_eq_false hlow]at this
      exact this
     clear BL e1 e2 slo shi
     go_wp2_with fail
     refine BL2.out.mono ?_
     rintro e wb ⟨rfl,hb⟩
     have Qb:=hid (HA.out.kept hb)
     have mi:=hid (minus_any Z1 cap1 Y capY _ _ (ZbD (dbl f b)) hy.out wb (cZ1'.out.kept hb) Qb.out.y)
     clear hb BL2 HA
     have hvm:val8 (car (fun i=>car (dbl f b) i - y i))=2*r+b - D:=by
      refine ZcM (ZbD _) (Zcq (ZeW _) (eqv_of ?_)) (by omega) (by omega)
      rw[<-hva,<-hvy'.out]
      simp only[val8];omega
     have Tp:=hid hvm
     clear hvm hva
     go_wp2_with fail
     refine mi.out.mono ?_
     rintro e wc hrc
     obtain⟨Z2,cap2,rfl,Hd,cZ2,H2⟩:=Qb.out.next hrc (ZbD _) Tp.out
     have HB:=hid H2
     clear hrc cZ2 H2 Qb mi Tp
     by_cases hbig:1152921504606846976<2*q+1
     · have hout:Hid (res=.tuple #[.int .i64 0,.bool false]):=by
         have h1:=hup.out;have h2:=hmono.out;have h3:=hres'.out
         rw[ZbR _ _ (by omega)]at h3
         exact h3
       have HBb:=HB.out.below
       clear HB
       go_wp2_with fail
       refine bodyPost_ret (v:=.tuple #[.int .i64 0,.bool false]) (by simp[results,Tryz.results240,go_sem]) rfl ⟨by rw[hout.out],HBb⟩
     · go_wp2_with fail
       go_roundw
       case rel=>exact⟨t,by omega,by go_num,by rw[E2.out],by rw[E2.out];omega,by rw[E1.out];exact HB.out⟩
       case measure=>simp[intOf]
  |0,_ =>
   rw[show((0:Nat):Int) - 1=-1 from rfl]
   obtain⟨Z,cap,f,rfl,hc8,cZ,hf,hv⟩:=HK.out.rest
   rw[pre_zero]at hv hq
   have HK':Hid (ZcJ w X Y x y (whi a) (N % D) (.slice (some ⟨Z,0,none⟩) 8 cap) wr):=by have:=HK.out;rw[pre_zero]at this;exact this
   have Ik:=Int.emod_nonneg N (by omega:D≠0)
   have Da:=Int.emod_lt_of_pos N (by omega:0<D)
   have Rn:0<=N / D:=Int.ediv_nonneg hN0.1 (by omega)
   have hR:Hid (res=Zb2 (decide (whi a<0) != decide (d<0)) (if N % D>D - N % D∨(N % D=D - N % D/\N / D % 2=1)then N / D+1 else N / D)):=hres'.out
   have tw:=ZdE Z cap f 0 (by decide) (by decide) hf wr cZ
   have hva:val8 (car (dbl f 0))=2*(N % D):=ZcM (ZbD _) (Zcq (ZeW _) (eqv_of (by rw[val_dbl,hv];omega))) (by omega) (by omega)
   have TW:=hid tw
   clear tw hv cZ hres' HK
   rw[pre_zero]
   generalize N % D=r at *
   generalize N / D=q at *
   go_wp2_with fail
   refine TW.out.mono ?_
   rintro e wa hra
   obtain⟨Z1,cap1,rfl,Bl,cZ1,H1⟩:=HK'.out.next hra (ZbD _) hva
   have HA:=hid H1
   have bl:=Zfn Y capY Z1 cap1 _ _ hy.out (ZbD (dbl f 0)) wa H1.y cZ1
   rw[hva,hvy'.out]at bl
   have cZ1':=hid cZ1
   have BL:=hid bl
   clear bl hra H1 cZ1 HK' TW
   by_cases hup:D<2*r
   · have hR2:Hid (res=Zb2 (decide (whi a<0) != decide (d<0)) (q+1)):=by
       have:=hR.out
       rw[if_pos (Or.inl (by omega))]at this
       exact this
     have BL2:Hid (Calls prog 246 #[.slice (some ⟨Y,0,none⟩) 8 capY,.slice (some ⟨Z1,0,none⟩) 8 cap1] wa fun e w'=>e=.returned (.bool true)/\Below wa.heap.size wa w'):=by
      have:=BL.out
      rw[decide_eq_true hup]at this
      exact this
     clear BL hR
     go_wp2_with fail
     refine BL2.out.mono ?_
     rintro e wb ⟨rfl,hb⟩
     have H2:=HA.out.kept hb
     have HBz:=H2.below
     have kh:=H2.hi
     clear hb BL2 HA H2
     go_wp2_with fail
     all_goals
      go_ret2
      refine⟨?_,HBz⟩
      rw[hR2.out]
      first
      |(rw[ZbR _ _ (by omega)];rfl)
      |(rw[Zdg _ _ (by omega) _ _ rfl (by assumption)];rfl)
      |(rw[Zdh _ _ (by omega) _ _ rfl (by assumption)];rfl)
   · have BL2:Hid (Calls prog 246 #[.slice (some ⟨Y,0,none⟩) 8 capY,.slice (some ⟨Z1,0,none⟩) 8 cap1] wa fun e w'=>e=.returned (.bool false)/\Below wa.heap.size wa w'):=by
       have:=BL.out
       rw[decide_eq_false hup]at this
       exact this
     clear BL
     go_wp2_with fail
     refine BL2.out.mono ?_
     rintro e wb ⟨rfl,hb⟩
     have H2:=hid (HA.out.kept hb)
     have bl:=Zfn Z1 cap1 Y capY _ _ (ZbD (dbl f 0)) hy.out wb (cZ1'.out.kept hb) H2.out.y
     rw[hva,hvy'.out]at bl
     have BL:=hid bl
     clear bl hb BL2 HA
     by_cases hdn:2*r<D
     · have hR2:Hid (res=Zb2 (decide (whi a<0) != decide (d<0)) q):=by
         have:=hR.out
         rw[if_neg (by omega)]at this
         exact this
       have BL2:Hid (Calls prog 246 #[.slice (some ⟨Z1,0,none⟩) 8 cap1,.slice (some ⟨Y,0,none⟩) 8 capY] wb fun e w'=>e=.returned (.bool true)/\Below wb.heap.size wb w'):=by
        have:=BL.out
        rw[decide_eq_true hdn]at this
        exact this
       clear BL hR
       go_wp2_with fail
       refine BL2.out.mono ?_
       rintro e wc ⟨rfl,hb⟩
       have H3:=H2.out.kept hb
       have HBz:=H3.below
       have kh:=H3.hi
       clear hb BL2 H2 H3
       go_wp2_with fail
       all_goals
        go_ret2
        refine⟨?_,HBz⟩
        rw[hR2.out]
        first
        |(rw[ZbR _ _ (by omega)];rfl)
        |(rw[Zdg _ _ (by omega) _ _ rfl (by assumption)];rfl)
        |(rw[Zdh _ _ (by omega) _ _ rfl (by assumption)];rfl)
     · have BL2:Hid (Calls prog 246 #[.slice (some ⟨Z1,0,none⟩) 8 cap1,.slice (some ⟨Y,0,none⟩) 8 capY] wb fun e w'=>e=.returned (.bool false)/\Below wb.heap.size wb w'):=by
         have:=BL.out
         rw[decide_eq_false hdn]at this
         exact this
       clear BL
       by_cases hodd:q % 2=1
       · have hR2:Hid (res=Zb2 (decide (whi a<0) != decide (d<0)) (q+1)):=by
           have:=hR.out
           rw[if_pos (Or.inr ⟨by omega,hodd⟩)]at this
           exact this
         clear hR
         go_wp2_with fail
         refine BL2.out.mono ?_
         rintro e wc ⟨rfl,hb⟩
         have H3:=H2.out.kept hb
         have HBz:=H3.below
         have kh:=H3.hi
         clear hb BL2 H2 H3
         go_wp2_with fail
         all_goals
          go_ret2
          refine⟨?_,HBz⟩
          rw[hR2.out]
          first
          |(rw[ZbR _ _ (by omega)];rfl)
          |(rw[Zdg _ _ (by omega) _ _ rfl (by assumption)];rfl)
          |(rw[Zdh _ _ (by omega) _ _ rfl (by assumption)];rfl)
       · have hR2:Hid (res=Zb2 (decide (whi a<0) != decide (d<0)) q):=by
           have:=hR.out
           rw[if_neg (by omega)]at this
           exact this
         clear hR
         go_wp2_with fail
         refine BL2.out.mono ?_
         rintro e wc ⟨rfl,hb⟩
         have H3:=H2.out.kept hb
         have HBz:=H3.below
         have kh:=H3.hi
         clear hb BL2 H2 H3
         go_wp2_with fail
         all_goals
          go_ret2
          refine⟨?_,HBz⟩
          rw[hR2.out]
          first
          |(rw[ZbR _ _ (by omega)];rfl)
          |(rw[Zdg _ _ (by omega) _ _ rfl (by assumption)];rfl)
          |(rw[Zdh _ _ (by omega) _ _ rfl (by assumption)];rfl)
theorem refDivide_zero (a:Int)(w:World) :
 Calls prog 240 #[.agg #[.int .i64 (whi a),.int .u64 (wlo a)],.int .i64 0] w fun e w'=>e=.returned (.tuple #[.int .i64 0,.bool false])/\Below w.heap.size w w':=by
 go_enter func240,ntmps240
 go_wp2_with fail
 exact bodyPost_ret (v:=.tuple #[.int .i64 0,.bool false]) (by simp[results,Tryz.results240,go_sem]) rfl ⟨rfl,(Below.refl _ _).alloc (Nat.le_refl _) _⟩
theorem ZdQ (a d:Int)(d1:-9223372036854775808<=d)(d2:d<=9223372036854775807)(w:World) :
 Calls prog 240 #[.agg #[.int .i64 (whi a),.int .u64 (wlo a)],.int .i64 d] w fun e w'=>e=.returned (Zfh (norm a) d)/\Below w.heap.size w w':=by
 by_cases hd:d=0
 · subst hd
   refine(refDivide_zero a w).mono ?_
   rintro e w' ⟨rfl,hb⟩
   exact⟨by simp[Zfh],hb⟩
 · have hN0:0<=absI (norm a)/\absI (norm a)<=170141183460469231731687303715884105728:=by have:=norm_lo a;have:=norm_hi a;unfold absI;split<;>omega
   have hD0:1<=absI d/\absI d<=9223372036854775808:=by unfold absI;split<;>omega
   have hvx:∀ c,c=(if norm a<0 then -a else a)->val8 (dgt c)=absI (norm a):=by
    intro c hc
    refine ZcM (ZeO c) (Zcq (Zd8 c) ?_) hN0.1 (by omega)
    have h1:=norm_eqv a
    subst hc
    unfold absI
    unfold eqv at *
    split<;>omega
   refine refDivide_core a d (absI (norm a)) (absI d) (dgt (if norm a<0 then -a else a)) (dgt (absI d)) hd (fun w=>ZcT d w d1 d2) (size_ref a _ rfl) (size_ref d _ (by rw[norm_int d d1 d2];rfl)) hN0 hD0 (ZeO _) (hvx _ rfl) (ZeO _)
    (ZcM (ZeO _) (Zd8 _) (by omega) (by omega)) (Zfh (norm a) d) ?_ w
   unfold Zfh
   rw[if_neg hd,show decide (norm a<0)=decide (whi a<0) from decide_eq_decide.2 (iff_of_eq (neg_iff a))]
end Go.Proofs.YtfnpfkgmacaboaaGreatEx
