/- Texts joined by a program. -/
import Derived.Test.YtfnpfkgmacaboaaGreatM33
namespace Go.Proofs.YtfnpfkgmacaboaaGreat
open Go.Proofs.Tryz
open Lib (hid)
open Go.ChangeShapes Go.WideShapes Go.ChangeAt Go.RowKit
set_option linter.unusedVariables false
set_option linter.unusedSimpArgs false
set_option maxRecDepth 100000
set_option maxHeartbeats 4000000
open Go.Maps
theorem cntR_off (b:List Rw)(k:RK):∀ (l:List Rw),cntR (offR b l) k=if memR b k=true then 0 else cntR l k
 |[]=>by unfold offR;simp[cntR]
 |r :: l=>by
  have ih:=cntR_off b k l
  have e:offR b (r :: l)=if memR b r.key=true then offR b l else r :: offR b l:=by
   unfold offR
   rw[List.filter_cons]
   cases memR b r.key<;>rfl
  rw[e]
  by_cases hr:memR b r.key=true
  · rw[if_pos hr,ih]
    by_cases hk:memR b k=true
    · rw[if_pos hk,if_pos hk]
    · rw[if_neg hk,if_neg hk]
      show _=(if r.key=k then 1 else 0)+cntR l k
      rw[if_neg (fun q:r.key=k=>hk (q ▸ hr))];omega
  · rw[if_neg hr]
    show(if r.key=k then 1 else 0)+cntR (offR b l) k=_
    rw[ih]
    by_cases hk:memR b k=true
    · rw[if_pos hk,if_pos hk,if_neg (fun q:r.key=k=>hr (q ▸ hk))];rfl
    · rw[if_neg hk,if_neg hk];rfl
theorem ZcO (t n:Int)(k:DK):∀ (l:List Rw),sumT ((l.map (fun r=>(⟨r,t,n⟩:Dl))).map Dl.kn) k=if t=k.1 then n*cntR l k.2 else 0
 |[]=>by simp[sumT,cntR]
 |r :: l=>by
  have ih:=ZcO t n k l
  show(if (t,r.key)=k then n else 0)+sumT ((l.map (fun r=>(⟨r,t,n⟩:Dl))).map Dl.kn) k=if t=k.1 then n*((if r.key=k.2 then 1 else 0)+cntR l k.2)else 0
  rw[ih]
  obtain⟨u,q⟩:=k
  by_cases h1:t=u
  · by_cases h2:r.key=q
    · rw[if_pos (by rw[h1,h2]),if_pos h1,if_pos h1,if_pos h2,Int.mul_add];omega
    · rw[if_neg (fun e=>h2 (by injection e)),if_pos h1,if_pos h1,if_neg h2];simp
  · rw[if_neg (fun e=>h1 (by injection e)),if_neg h1,if_neg h1];rfl
theorem memR_cnt {l:List Rw}(hl:RiseE l)(k:RK):cntR l k=if memR l k=true then 1 else 0:=by
 by_cases h:memR l k=true
 · rw[if_pos h]
   obtain⟨r,hr,rfl⟩:=List.mem_map.1 (memR_iff.1 h)
   have h1:=cntR_in hr
   have h2:=(hl.cnt r.key).2
   omega
 · rw[if_neg h]
   exact cntR_not (fun r hr e=>h (memR_iff.2 (List.mem_map.2 ⟨r,hr,e⟩)))
theorem ZdV (t n:Int)(hn:n=-1∨n=1)(l:List Rw):Ints ((l.map (fun r=>(⟨r,t,n⟩:Dl))).map Dl.kn):=by
 intro x hx
 obtain⟨d,hd,rfl⟩:=List.mem_map.1 hx
 obtain⟨r,-,rfl⟩:=List.mem_map.1 hd
 exact Zbw n hn
theorem betK_ints (a b:List Rw)(t:Int):Ints ((betK a b t).map Dl.kn):=by
 unfold betK
 rw[List.map_append]
 intro x hx
 rcases List.mem_append.1 hx with hx|hx
 · exact ZdV t (-1) (Or.inl rfl) _ x hx
 · exact ZdV t 1 (Or.inr rfl) _ x hx
theorem betD_ints (a b:List Rw)(t:Int):Ints ((betD a b t).map Dl.kn):=by
 unfold betD
 rw[List.map_append]
 intro x hx
 rcases List.mem_append.1 hx with hx|hx
 · exact ZdV t (-1) (Or.inl rfl) _ x hx
 · exact ZdV t 1 (Or.inr rfl) _ x hx
theorem betK_sum {a b:List Rw}(ha:RiseE a)(hb:RiseE b)(t:Int)(k:DK):sumT ((betK a b t).map Dl.kn) k=sumT ((betD a b t).map Dl.kn) k:=by
 unfold betK betD
 rw[List.map_append,List.map_append,ZbX,ZbX,ZcO,ZcO,ZcO,ZcO,cntR_off,cntR_off,memR_cnt ha,memR_cnt hb]
 by_cases h1:memR a k.2=true<;>by_cases h2:memR b k.2=true<;>by_cases h3:t=k.1<;>simp[h1,h2,h3]
theorem betK_cons {a b:List Rw}(ha:RiseE a)(hb:RiseE b)(t:Int):consK ((betK a b t).map Dl.kn)=consK ((betD a b t).map Dl.kn) :=
 consK_ext (betK_ints a b t) (betD_ints a b t) (fun k=>by rw[betK_sum ha hb];simp)
noncomputable def ZbA (l:List En)(s:List Dl × List Rw)(i:Nat):List Dl × List Rw:=if Za3 l i=true then s else(s.1++betK s.2 (effL l (ZbM l i)) (ZbM l i),effL l (ZbM l i))
noncomputable def frK (l:List En):Nat->List Dl × List Rw
 |0=>([],[])
 |i+1=>ZbA l (frK l i) i
theorem frK_rows (l:List En):∀ i,(frK l i).2=(frS l i).2
 |0=>rfl
 |i+1=>by
  rw[Zce]
  show(ZbA l (frK l i) i).2=_
  unfold ZbA Zb0
  rw[<-frK_rows l i]
  split<;>first|rfl|exact frK_rows l i
theorem frS_rise {l:List En}(hl:∀ x∈l,OkF x.base):∀ i,RiseE (frS l i).2
 |0=>List.Pairwise.nil
 |i+1=>by
  rw[Zce]
  unfold Zb0
  split
  · exact frS_rise hl i
  · exact ZeM hl
theorem frK_sum {l:List En}(hl:∀ x∈l,OkF x.base)(k:DK):∀ i,sumT ((frK l i).1.map Dl.kn) k=sumT ((frS l i).1.map Dl.kn) k
 |0=>rfl
 |i+1=>by
  rw[Zce]
  show sumT ((ZbA l (frK l i) i).1.map Dl.kn) k=_
  unfold ZbA Zb0
  split
  · exact frK_sum hl k i
  · show sumT (((frK l i).1++betK (frK l i).2 _ _).map Dl.kn) k=sumT (((frS l i).1++betD (frS l i).2 _ _).map Dl.kn) k
    rw[List.map_append,List.map_append,ZbX,ZbX,frK_sum hl k i,frK_rows,betK_sum (frS_rise hl i) (ZeM hl)]
theorem frK_ints (l:List En):∀ i,Ints ((frK l i).1.map Dl.kn)
 |0=>fun x hx=>by cases hx
 |i+1=>by
  show Ints ((ZbA l (frK l i) i).1.map Dl.kn)
  unfold ZbA
  split
  · exact frK_ints l i
  · intro x hx
    rw[List.map_append]at hx
    rcases List.mem_append.1 hx with hx|hx
    · exact frK_ints l i x hx
    · exact betK_ints _ _ _ x hx
theorem frS_ints (l:List En):∀ i,Ints ((frS l i).1.map Dl.kn)
 |0=>fun x hx=>by cases hx
 |i+1=>by
  rw[Zce]
  unfold Zb0
  split
  · exact frS_ints l i
  · intro x hx
    rw[List.map_append]at hx
    rcases List.mem_append.1 hx with hx|hx
    · exact frS_ints l i x hx
    · exact betD_ints _ _ _ x hx
theorem frK_cons {l:List En}(hl:∀ x∈l,OkF x.base)(i:Nat):consK ((frK l i).1.map Dl.kn)=consK ((frS l i).1.map Dl.kn) :=
 consK_ext (frK_ints l i) (frS_ints l i) (fun k=>by rw[frK_sum hl];simp)
noncomputable def ZcW (l:List En)(x:En):List Dl:=betK (effL l 1099511627776) (effL (l++[x]) 1099511627776) x.tick
theorem nextB20_cons {l:List En}{x:En}(hl:∀ y∈l++[x],OkF y.base):consK ((ZcW l x).map Dl.kn)=consK ((nextL l x).map Dl.kn) :=
 betK_cons (ZeM (fun y hy=>hl y (List.mem_append_left _ hy))) (ZeM hl) _
theorem frK_ok {l:List En}{w:World}(hl:∀ x∈l,x.Ok w):∀ i,i<=l.length->(∀ d∈(frK l i).1,d.Ok w)/\∀ r∈(frK l i).2,r.Ok w:=by
 intro i
 induction i with
 |zero=>intro _;exact⟨fun d hd=>by simp[frK]at hd,fun r hr=>by simp[frK]at hr⟩
 |succ i ih =>
  intro hi
  obtain⟨h1,h2⟩:=ih (by omega)
  obtain⟨x,hx⟩:∃ x,l[i]?=some x:=⟨l[i],List.getElem?_eq_getElem hi⟩
  have ht:I64 (ZbM l i):=by unfold ZbM;rw[hx];exact(hl x (List.mem_of_getElem? hx)).ints.2.1
  show(∀ d∈(ZbA l (frK l i) i).1,d.Ok w)/\∀ r∈(ZbA l (frK l i) i).2,r.Ok w
  unfold ZbA
  split
  · exact⟨h1,h2⟩
  · refine⟨fun d hd=>?_,effL_ok hl⟩
    rcases List.mem_append.1 hd with hd|hd
    · exact h1 d hd
    · unfold betK at hd
      rcases List.mem_append.1 hd with hd|hd<;>obtain⟨y,hy,rfl⟩:=List.mem_map.1 hd
      · exact⟨h2 y (List.mem_filter.1 hy).1,ht,Zbw _ (by simp)⟩
      · exact⟨effL_ok hl y (List.mem_filter.1 hy).1,ht,Zbw _ (by simp)⟩
theorem Zfm (p q:List Rw)(t:Int):(betK p q t).length<=p.length+q.length:=by
 unfold betK
 rw[List.length_append,List.length_map,List.length_map]
 have h1:=ZdT q p
 have h2:=ZdT p q
 omega
theorem betK_len {A i j L:Nat}{p q:List Rw}(h1:A<=i*2000)(h2:p.length<=L)(h3:q.length<=L)(hl:L<=1000)(hj:j=i+1)(hi:i<L)(t:Int):A+(betK p q t).length<=j*2000/\j*2000<=1000000000:=by
 have:=Zfm p q t
 omega
set_option maxHeartbeats 8000000 in
theorem from_any20 (l:List En)(ao:Option Addr)(c:Nat)(hl:l.length<=1000)(w:World)(h:EnsAt w ao l)(Tm:∀ w',Below w.heap.size w w'->Calls prog 70 #[.slice ao l.length c] w' (Zej l w')) :
 Calls prog 14 #[.slice ao l.length c] w fun e w'=>∃ v ds,e=.returned v/\SlD w' v ds/\ds.map Dl.kn=consK ((frK l l.length).1.map Dl.kn)/\Below w.heap.size w w':=by
 have H:=hid h
 have Fu:=hid Tm
 clear h Tm
 go_enter func14,ntmps14
 go_wp2_with fail
 go_loopw [3,4,5] (fun v u jj wr=>∃ (i:Nat) (v0 u0:Value),v0=v/\u0=u/\i<=l.length/\jj=.int .i64 i/\Hid (Own Dl.cells 10 70 wr w.heap.size v (frK l i).1/\(frK l i).1.length<=i*2000)/\Hid (Zfp wr u v (frK l i).2/\(frK l i).2.length<=l.length)/\Hid (Below w.heap.size w wr)) (fun _ _ jj _=>l.length - (intOf jj).toNat)
 case atStart=>exact⟨0,_,_,rfl,rfl,by omega,rfl,⟨Own.nil _ _,by simp[frK]⟩,⟨⟨none,0,rfl,Or.inl (by simp[frK]),fun g e=>by cases e⟩,by simp[frK]⟩,Below.refl _ _⟩
 case round =>
  obtain⟨i,v0,u0,rfl,rfl,hi,rfl,HD,HU,HB⟩:=hrel
  rename World=>wr
  by_cases hlt:i<l.length
  · obtain⟨x,hx⟩:∃ x,l[i]?=some x:=⟨l[i],List.getElem?_eq_getElem hlt⟩
    obtain⟨b,off,rfl,hrow⟩:=Zat (H.out.1.kept HB.out) hx
    have n1:wr.cell? ⟨b,off+i*40+1,none⟩=some (.int .i64 x.tick):=hrow i x hx 1 _ rfl
    have HX:=hid hx
    have Gc:Hid (x.Ok w):=H.out.2 x (List.mem_of_getElem? hx)
    have Ig:=hid hrow
    clear hrow hx
    have Mf:Hid (ZbM l i=x.tick):=by show _=_;unfold ZbM;rw[HX.out]
    obtain⟨j,hj⟩:∃ j,j=i+1:=⟨_,rfl⟩
    have ws1:IntKind.i64.wrap ((i:Int)+1)=(j:Int):=by rw[IntWalk.i64_in _ (by omega)];omega
    have HJ:=hid hj
    clear hj
    have HKS:Hid (frK l j=ZbA l (frK l i) i):=by show _=_;rw[HJ.out];rfl
    by_cases hn:i+1<l.length/\Za3 l i=true
    · obtain⟨Yd,Pe⟩:=hn
      obtain⟨y,hy⟩:∃ y,l[i+1]?=some y:=⟨l[i+1],List.getElem?_eq_getElem Yd⟩
      have hyt:y.tick=x.tick:=by
       unfold Za3 at Pe
       rw[HX.out,hy]at Pe
       simpa using Pe
      have hjl:j<l.length:=by rw[HJ.out];exact Yd
      have d1:decide ((j:Int)<l.length)=true:=decide_eq_true (by omega)
      have y1:wr.cell? ⟨b,off+j*40+1,none⟩=some (.int .i64 x.tick):=by rw[<-hyt,HJ.out];exact Ig.out (i+1) y hy 1 _ rfl
      have HF:Hid (frK l j=frK l i):=by show _=_;rw[HKS.out];unfold ZbA;rw[if_pos Pe]
      clear hy hyt Pe
      go_upto_region 6 with fail
      go_quiet (fail)
      generalize hV:wr.drewN nq=V
      have Aa:Hid (Below w.heap.size w V):=by rw[<-hV];exact Zad HB.out _
      have Pf:Hid (Below wr.heap.size wr V):=by rw[<-hV];exact Zad (Below.refl _ _) _
      clear hV
      go_wp2_with fail
      go_roundw
      case rel=>exact⟨j,_,_,rfl,rfl,by rw[HJ.out];omega,by first|rfl|(rw[HJ.out];rfl),by rw[HF.out];exact⟨HD.out.1.kept Pf.out,Nat.le_trans HD.out.2 (Nat.mul_le_mul_right _ (by rw[HJ.out];omega))⟩,by rw[HF.out];exact⟨HU.out.1.kept Pf.out,HU.out.2⟩,Aa⟩
      case measure=>have:=HJ.out;simp[intOf];omega
    · have hns:Za3 l i=false:=by
        cases e:Za3 l i with
        |false=>rfl
        |true =>
         refine absurd ⟨?_,e⟩ hn
         unfold Za3 at e
         rw[HX.out]at e
         rcases Nat.lt_or_ge (i+1) l.length with q|q
         · exact q
         · rw[List.getElem?_eq_none q]at e;cases e
      have HF:Hid (frK l j=((frK l i).1++betK (frK l i).2 (effL l x.tick) x.tick,effL l x.tick)):=by
       show _=_;rw[HKS.out];unfold ZbA;rw[if_neg (by rw[hns];decide),Mf.out]
      have Nl:Hid (∀ r∈(frK l i).2,r.Ok w):=(frK_ok H.out.2 i (by omega)).2
      clear hn
      by_cases Yd:i+1<l.length
      case' pos =>
       obtain⟨y,hy⟩:∃ y,l[i+1]?=some y:=⟨l[i+1],List.getElem?_eq_getElem Yd⟩
       have hyt:(y.tick==x.tick)=false:=by
        unfold Za3 at hns
        rw[HX.out,hy]at hns
        exact hns
       have hjl:j<l.length:=by rw[HJ.out];exact Yd
       have d1:decide ((j:Int)<l.length)=true:=decide_eq_true (by omega)
       have y1:wr.cell? ⟨b,off+j*40+1,none⟩=some (.int .i64 y.tick):=by rw[HJ.out];exact Ig.out (i+1) y hy 1 _ rfl
       clear hy hns
       go_upto_region 6 with fail
       go_quiet (fail)
      case' neg =>
       have d1:decide (j<l.length)=false:=decide_eq_false (by have:=HJ.out;omega)
       clear Yd hns
       go_upto_region 6 with fail
       go_quiet (fail)
       clear d1
      all_goals
       generalize hV:wr.drewN nq=V
       have Aa:Hid (Below w.heap.size w V):=by rw[<-hV];exact Zad HB.out _
       have Pf:Hid (Below wr.heap.size wr V):=by rw[<-hV];exact Zad (Below.refl _ _) _
       clear hV
       have Ln:Hid (Own Dl.cells 10 70 V w.heap.size v0 (frK l i).1):=HD.out.1.kept Pf.out
       obtain⟨a1,c1,rfl,Xf,Uk⟩:=HU.out.1.kept Pf.out
       have Jo:Hid (ZaY V a1 (frK l i).2):=⟨Xf,fun r hr=>(Nl.out r hr).kept Aa.out⟩
       have HE:=hid (Zb1 l (some ⟨b,off,none⟩) c x.tick (by omega) V (H.out.kept Aa.out) (fun w' hb=>Fu.out w' (Aa.out.trans (hb.mono Aa.out.size))))
       unfold Zfr at HE
       have Yh:=hid (fun(a2:Option Addr) (c2:Nat) (w6:World) (hb:Below V.heap.size V w6) (h6:ZaY w6 a2 (effL l x.tick)) (h7:(effL l x.tick).length<=10000000)=>Zd6 (frK l i).2 (effL l x.tick) a1 a2 c1 c2 x.tick Gc.out.ints.2.1 (by have:=HU.out.2;omega) h7 w6 (Jo.out.kept hb) h6)
       have t1:=Zaa n1 Pf.out
       clear Xf Uk n1
       go_wp2_with (first
        |(go_at_call 40;(with_reducible refine HE.out.mono ?_);rintro e w6 ⟨m6,a2,c2,rfl,-,-,Gf,Pp,Lm,Mm,Kf⟩;obtain rfl:=ZcD Pp;have Vi:=hid Gf;have Bj:=hid Lm;have Tl:=hid Mm;have Zh:=hid Kf;have Xm:=Zaa t1 Kf;have Dh:Hid (Below w.heap.size w w6):=Aa.out.trans (Kf.mono Aa.out.size);have Ek:=hid (Yh.out a2 c2 w6 Kf Gf (by omega));have Ap:=hid (Ln.out.kept Kf);clear Gf Pp Lm Mm Kf)
        |(go_at_call 41;(with_reducible refine Ek.out.mono ?_);rintro e w7 ⟨v7,rfl,Jm,Xg⟩;obtain⟨a7,c7,rfl,Mr,Sm,Rm⟩:=Jm.lies;have Tj:=hid Rm;have Au:=hid Sm;have Ug:Hid (Below w.heap.size w w7):=Dh.out.trans (Xg.mono Dh.out.size);have Mn:=hid (Ap.out.kept Xg);have Ko:Hid (Zac Rw.cells 8 w7 a2 (effL l x.tick)):=Vi.out.1.kept Xg;have Ve:Hid (V.heap.size<=w6.heap.size/\w6.heap.size<=w7.heap.size):=⟨Zh.out.size,Xg.size⟩;have HLa:Hid ((frK l i).1.length+(betK (frK l i).2 (effL l x.tick) x.tick).length<=j*2000/\j*2000<=1000000000):=betK_len HD.out.2 HU.out.2 Bj.out hl HJ.out hlt x.tick;clear Mr Sm Rm Jm Xg)
        |(at_builtin;refine ZbV elD encD rfl (.tmp 39) (.tmp 47) rfl rfl rfl Mn.out Tj.out.1 rfl Au.out Ug.out.size (Nat.le_trans HLa.out.1 HLa.out.2) ?_;intro v8 w8 ho hg hv;have Bn:=hid ho;have Gn:=hid hg;have Hl:=hid hv;clear ho hg hv))
       go_roundw
       case rel=>exact⟨j,_,_,rfl,rfl,by rw[HJ.out];omega,by first|rfl|(rw[HJ.out];rfl),by rw[HF.out];exact⟨Bn.out,by rw[List.length_append];exact HLa.out.1⟩,by rw[HF.out];exact⟨Zeb Ko.out Gn.out Hl.out Tl.out Ln.out.lt Ve.out,Bj.out⟩,Ug.out.grown Gn.out Ug.out.size (fun k e=>(Mn.out.lt k e).1)⟩
       case measure=>have:=HJ.out;simp[intOf];omega
  · obtain rfl:i=l.length:=by omega
    have Vu:Hid (OwnD wr w.heap.size v0 (frK l l.length).1):=⟨HD.out.1,fun d hd=>((frK_ok H.out.2 l.length (Nat.le_refl _)).1 d hd).kept HB.out⟩
    have Tc:Hid ((frK l l.length).1.length<=10000000):=by have:=HD.out.2;show _<=_;omega
    clear HD HU
    obtain⟨fk,hfk⟩:∃ f,f=(frK l l.length).1:=⟨_,rfl⟩
    have HFK:=hid hfk
    rw[<-hfk]at Vu Tc
    clear hfk
    obtain⟨a2,c2,rfl,Fr,Mi,Rh⟩:=Vu.out.slD
    have Xi:=hid (rcons_any fk a2 c2 (by have:=Tc.out;omega) wr Rh)
    clear Fr Mi Rh
    generalize hfl:fk.length=fl at *
    clear hfl
    go_wp2_with (go_at_call 42;(with_reducible refine Xi.out.mono ?_);rintro e w5 ⟨v5,ds,rfl,Hm,Qe,Rd,Qm⟩;have De:=hid Hm.slD;have Et:=hid Rd;have Xe:=hid (HB.out.trans (Qm.mono HB.out.size));clear Hm Qe Rd Qm)
    go_ret
    exact⟨_,ds,rfl,De.out,by rw[<-HFK.out];exact Et.out,Xe.out⟩
section
variable {P:Program} {α:Type} {enc:α->List Value} {k bytes:Nat} {e t:TypeId} {w:World} {B:Nat} {o:Oper} {a:Act} {K:Act->World->Prop} {Q:Exit->Act->World->Prop}
theorem op_lit0 (E:El P e t k bytes)(ho:o.op=.buildSlice t 0 #[])(hrun:(Instr.buildSlice t 0 #[]).run P w=.ok (.slice (some ⟨w.heap.size,0,none⟩) 0 0) (w.alloc (.cells #[] e)))(hB:B<=w.heap.size)
 (h:∀ g w',Own enc k e w' B (.slice (some ⟨g,0,none⟩) 0 0) []->g=w.heap.size->g<w'.heap.size->Below w.heap.size w w'->K (a.put o.dst (.slice (some ⟨g,0,none⟩) 0 0)) w'):o.wp P a w K Q:=by
 unfold Oper.wp execOp
 simp only[ho]
 have:((#[]:Array (Nat × Operand)).map fun(i,x)=>(i,a.eval x))=#[]:=by simp
 rw[this,Sem.run_bind,hrun]
 exact h _ _ (Own.lit hB) rfl (by simp) (Zab _)
theorem lies_lit (y:α)(w:World)(hE:Enc enc k):Lies enc k (w.alloc (.cells (enc y).toArray e)) w.heap.size 0 [y]:=by
 rcases Zav y w hE (e:=e)with h|⟨b,off,he,h⟩
 · cases h
 · cases he;exact h
theorem ZbI (E:El P e t k bytes)(hE:Enc enc k)(s x:Operand){v:Value}{l m:List α}{ao:Option Addr}{n c:Nat}
 (ho:o.op=.call { callee:=.builtin .append,args:=#[s,x],argTypes:=#[t,t] }) (hs:a.eval s=v) (hx:a.eval x=.slice ao n c)
 (hO:Own enc k e w B v l) (hS:Zac enc k w ao m) (hn:n=m.length) (hB:B<=w.heap.size) (Cc:0<bytes) (hl:(l.length+m.length)*bytes<=140737488355328)
 (h:∀ v' w1,Own enc k e w1 B v' (l++m)->Below B w w1->(∀ q,q<w.heap.size->v.ownBlock≠some q->w1.heap[q]?=w.heap[q]?)->K (a.put o.dst v') w1):o.wp P a w K Q:=by
 obtain⟨i,z,hi,Xc,Ea,Fa,Ef⟩:=E.parts
 have hpos:=E.pos
 have hfew:=E.few
 subst hn
 cases ao with
 |none =>
  have hk:m=[]:=by
   rcases hS with h|⟨_,_,h,_⟩
   · exact h
   · cases h
  subst hk
  have hrun:=Zb5 (P:=P) (w:=w) B t o.type e i k E.und hi v _ _ c hO
  have hx':a.eval x=.slice none 0 c:=hx
  unfold Oper.wp
  simp[execOp,ho,resolve,invoke,builtin,hs,hx',hrun,Result.andThen]
  exact h v w (by rw[List.append_nil];exact hO) (Below.refl _ _) (fun _ _ _=>rfl)
 |some ad =>
  have hcells:∀ j v,(encs enc m)[j]?=some v->w.cell? (ad.add j)=some v:=by
   intro j u hj
   rcases hS with rfl|⟨b,off,he,hr⟩
   · simp[encs]at hj
   · injection he with he;subst he
     rw[ZbE];exact hr.cells hE.len hpos j u hj
  have hbytes:=hl
  have hlm:l.length+m.length<=140737488355328:=Nat.le_trans (Nat.le_mul_of_pos_right _ Cc) hl
  refine wp_append_own w s x t ho B e i z k bytes E.und hi Xc Ea Fa Ef hpos v _ _ hs hO ad m.length c (encs enc m) hx (Za7 hE.len m) hcells (ZbB hE.one m) (by unfold maxLen;omega) hbytes hB ?_
  intro v' w1 hown hgr _
  refine h v' w1 ?_ ((Below.refl _ _).grown hgr hB (fun g hg=>(hO.lt g hg).1)) (fun q hq hne=>hgr.block q hq (Ne.symm hne))
  unfold Own
  rw[Za8,List.length_append];exact hown
theorem Zee (E:El P e t k bytes)(hE:Enc enc k)(hk:k<=1000)(x:Operand)(ho:o.op=.buildSlice t 1 #[(0,x)])(y:α)(hx:a.eval x=.agg (enc y).toArray)
 (h:∀ g w',Lies enc k w' g 0 [y]->g=w.heap.size->g<w'.heap.size->Below w.heap.size w w'->K (a.put o.dst (.slice (some ⟨g,0,none⟩) 1 1)) w'):o.wp P a w K Q :=
 Zef E hk x ho (enc y) (hE.len y) hx (h _ _ (lies_lit y w hE) rfl (by simp) (Zab _))
end
def BehindPost (l:List En)(x:En)(w:World)(e:Ending)(w':World):Prop:=∃ (a:Option Addr) (c:Nat),e=.returned (.slice a (l.length+1) c)/\l.length+1<=c/\(a=none->c=0)/\Zac En.cells 40 w' a (l++[x])/\Below w.heap.size w w'
theorem behind_any (l:List En)(ao:Option Addr)(c:Nat)(hl:(l.length+1)*528<=140737488355328)(x:En)(w:World)(h:Zac En.cells 40 w ao l):Calls prog 11 #[.slice ao l.length c,.agg x.cells.toArray] w (BehindPost l x w):=by
 have Cj:=hid h
 clear h
 have Nb:Hid ((([]:List En).length+l.length)*528<=140737488355328):=by show _<=_;simp;omega
 have Mb:Hid ((([]++l).length+[x].length)*528<=140737488355328):=by show _<=_;simpa using hl
 go_enter func11,ntmps11
 go_upto_region 1 with(first|(refine ZaO rfl 48 (.tmp 1) rfl x.cells rfl ?_)|fail)
 refine Zan (fun W hW=>?_)
 have Za:Hid (Box W w.heap.size x.cells.toArray 48):=by rw[hW];exact Zb4 ..
 have Aa:Hid (Below w.heap.size w W):=by rw[hW];exact Zab _
 clear hW
 have HL:Hid (Zac En.cells 40 W ao l):=Cj.out.kept Aa.out
 try simp only[Act.put,m1,m2,m3]
 refine wrt (S:=fun w'=>Below W.heap.size W w') (.free 1 (.free 3 (.two 0 (.two 2 (.one 4 (.one 5 (.free 6 .done))) 4 (.one 2 (.one 5 (.free 6 .done)))) 4 (.one 0 (.one 2 (.one 5 (.free 6 .done))))))) (ZD (ZR W)) ?_
 refine tk0 (.slice ao l.length c) ?_
 refine tl w.heap.size 0 x.cells (fun w hS j v hj=>by rw[Nat.zero_add];exact(Za.out.kept hS).cell j v (by rw[List.getElem?_toArray];exact hj)) ?_
 refine ZeX ?p1 ?q1
 case' p1 =>
  refine t1 fun K hK=>?_
  refine op_lit0 (enc:=En.cells) (B:=W.heap.size) elE rfl (by go_simp) ((ZD (ZR W))).size ?_
  intro g0 u0 ho Ih hg0s hb
  have Uh:=hid ho
  clear ho
  have Ae:Hid (Below W.heap.size W u0):=((ZD (ZR W))).trans (hb.mono ((ZD (ZR W))).size)
  have Lc:=hid hb
  refine hk hK Ae.out ?_
  clear hK K hb
  refine ZeX ?p2 ?q2
  case' p2 =>
   refine t1 fun K hK=>?_
   refine ZbI (B:=W.heap.size) elE encE (.tmp 5) (.tmp 6) (by rfl) (by rfl) (by rfl) Uh.out (HL.out.kept Ae.out) rfl (Ae.out).size (by decide) Nb.out ?_
   intro v2 u2 ho Cc hot
   have Fb:=hid ho
   clear ho hot
   have Ia:Hid (Below W.heap.size W u2):=(Ae.out).trans Cc
   refine hk hK Ia.out ?_
   clear hK K Cc
   refine t1 fun K hK=>?_
   refine Zee elE encE (by decide) _ rfl x rfl ?_
   intro g4 u4 hl Hh hg4s hb
   have Fe:=hid hl
   clear hl
   have Pa:Hid (Below W.heap.size W u4):=(Ia.out).trans (hb.mono (Ia.out).size)
   have Ac:=hid hb
   refine hk hK Pa.out ?_
   clear hK K hb
   refine t1 fun K hK=>?_
   refine ZbI (B:=W.heap.size) (m:=[x]) (n:=1) (c:=1) (ao:=some ⟨g4,0,none⟩) elE encE (.tmp 7) (.tmp 9) (by rfl) (by rfl) (by rfl) (Fb.out.kept Ac.out) (Or.inr ⟨g4,0,rfl,Fe.out⟩) rfl (Pa.out).size (by decide) Mb.out ?_
   intro v5 u5 ho Cc _
   have Bc:=hid ho
   have Ya:Hid (Below W.heap.size W u5):=(Pa.out).trans Cc
   refine hk hK Ya.out ?_
   clear hK K ho Cc
   refine tk0 (v5) ?_
   refine ZaP ?_
  case' q2 =>
   refine t1 fun K hK=>?_
   refine Zee elE encE (by decide) _ rfl x rfl ?_
   intro g4 u4 hl Hh hg4s hb
   have Fe:=hid hl
   clear hl
   have Pa:Hid (Below W.heap.size W u4):=(Ae.out).trans (hb.mono (Ae.out).size)
   have Ac:=hid hb
   refine hk hK Pa.out ?_
   clear hK K hb
   refine t1 fun K hK=>?_
   refine ZbI (B:=W.heap.size) elE encE (.tmp 5) (.tmp 6) (by rfl) (by rfl) (by rfl) (Uh.out.kept Ac.out) (HL.out.kept Pa.out) rfl (Pa.out).size (by decide) Nb.out ?_
   intro v2 u2 ho Cc hot
   have Fb:=hid ho
   have Fe:Hid (Lies En.cells 40 u2 g4 0 [x]):=Fe.out.same (hot g4 (by omega) (by simp[Value.ownBlock];omega))
   clear ho hot
   have Ia:Hid (Below W.heap.size W u2):=(Pa.out).trans Cc
   refine hk hK Ia.out ?_
   clear hK K Cc
   refine t1 fun K hK=>?_
   refine ZbI (B:=W.heap.size) (m:=[x]) (n:=1) (c:=1) (ao:=some ⟨g4,0,none⟩) elE encE (.tmp 7) (.tmp 9) (by rfl) (by rfl) (by rfl) Fb.out (Or.inr ⟨g4,0,rfl,Fe.out⟩) rfl (Ia.out).size (by decide) Mb.out ?_
   intro v5 u5 ho Cc _
   have Bc:=hid ho
   have Ya:Hid (Below W.heap.size W u5):=(Ia.out).trans Cc
   refine hk hK Ya.out ?_
   clear hK K ho Cc
   refine tk0 (v5) ?_
   refine ZaP ?_
 case' q1 =>
  refine t1 fun K hK=>?_
  refine Zee elE encE (by decide) _ rfl x rfl ?_
  intro g4 u4 hl Hh hg4s hb
  have Fe:=hid hl
  clear hl
  have Pa:Hid (Below W.heap.size W u4):=((ZD (ZR W))).trans (hb.mono ((ZD (ZR W))).size)
  have Ac:=hid hb
  refine hk hK Pa.out ?_
  clear hK K hb
  refine t1 fun K hK=>?_
  refine op_lit0 (enc:=En.cells) (B:=W.heap.size) elE rfl (by go_simp) (Pa.out).size ?_
  intro g0 u0 ho Ih hg0s hb
  have Uh:=hid ho
  clear ho
  have Ae:Hid (Below W.heap.size W u0):=(Pa.out).trans (hb.mono (Pa.out).size)
  have Lc:=hid hb
  refine hk hK Ae.out ?_
  clear hK K hb
  refine t1 fun K hK=>?_
  refine ZbI (B:=W.heap.size) elE encE (.tmp 5) (.tmp 6) (by rfl) (by rfl) (by rfl) Uh.out (HL.out.kept Ae.out) rfl (Ae.out).size (by decide) Nb.out ?_
  intro v2 u2 ho Cc hot
  have Fb:=hid ho
  have Fe:Hid (Lies En.cells 40 u2 g4 0 [x]):=(Fe.out.kept Lc.out).same (hot g4 (by have:=Lc.out.size;omega) (by simp[Value.ownBlock];omega))
  clear ho hot
  have Ia:Hid (Below W.heap.size W u2):=(Ae.out).trans Cc
  refine hk hK Ia.out ?_
  clear hK K Cc
  refine t1 fun K hK=>?_
  refine ZbI (B:=W.heap.size) (m:=[x]) (n:=1) (c:=1) (ao:=some ⟨g4,0,none⟩) elE encE (.tmp 7) (.tmp 9) (by rfl) (by rfl) (by rfl) Fb.out (Or.inr ⟨g4,0,rfl,Fe.out⟩) rfl (Ia.out).size (by decide) Mb.out ?_
  intro v5 u5 ho Cc _
  have Bc:=hid ho
  have Ya:Hid (Below W.heap.size W u5):=(Ia.out).trans Cc
  refine hk hK Ya.out ?_
  clear hK K ho Cc
  refine tk0 (v5) ?_
  refine ZaP ?_
 all_goals
  obtain⟨a5,c5,rfl,h5a,h5b,h5⟩:=Bc.out.lies encE
  have h5l:(([]++l)++[x]).length=l.length+1:=by simp
  rw[List.nil_append]at h5l h5 h5a
  rw[List.nil_append,h5l]
  go_wp2_with fail
  go_ret
  exact⟨a5,c5,rfl,by rw[h5l]at h5a;exact h5a,h5b,h5,ZT Aa.out Ya.out⟩
set_option maxHeartbeats 8000000 in
theorem next_any20 (l:List En)(ao:Option Addr)(c:Nat)(x:En)(hl:l.length<=1000)(w:World)(h:EnsAt w ao l)(hx:x.Ok w)(Tm:∀ w',Below w.heap.size w w'->Calls prog 70 #[.slice ao l.length c] w' (Zej l w'))
 (h70b:∀ (a:Option Addr) (k:Nat) (w':World),(l++[x]).length<=k->Below w.heap.size w w'->Zac En.cells 40 w' a (l++[x])->Calls prog 70 #[.slice a (l++[x]).length k] w' (Zej (l++[x]) w')) :
 Calls prog 16 #[.slice ao l.length c,.agg x.cells.toArray] w fun e w'=>∃ v ds,e=.returned v/\SlD w' v ds/\ds.map Dl.kn=consK ((ZcW l x).map Dl.kn)/\Below w.heap.size w w':=by
 have Cj:=hid h
 have Ae:=hid hx
 have Fu:=hid Tm
 obtain⟨L,hL⟩:∃ L,L=l++[x]:=⟨_,rfl⟩
 rw[<-hL]at h70b
 have H70b:=hid h70b
 have Nh:=hid hL
 have Yb:Hid (L.length=l.length+1):=by show _=_;rw[hL];simp
 have Wh:=hid hl
 clear h hx Tm h70b hL
 have Nb:Hid ((([]:List En).length+l.length)*528<=140737488355328):=by show _<=_;simp;omega
 have Mb:Hid ((([]++l).length+[x].length)*528<=140737488355328):=by show _<=_;simp;omega
 go_enter func16,ntmps16
 go_upto_region 1 with(first|(refine ZaO rfl 48 (.tmp 1) rfl x.cells rfl ?_)|fail)
 refine Zan (fun W hW=>?_)
 have Za:Hid (Box W w.heap.size x.cells.toArray 48):=by rw[hW];exact Zb4 ..
 have Aa:Hid (Below w.heap.size w W):=by rw[hW];exact Zab _
 clear hW
 have HL:Hid (EnsAt W ao l):=Cj.out.kept Aa.out
 have Gc:Hid (x.Ok W):=Ae.out.kept Aa.out
 try simp only[Act.put,m1,m2,m3]
 refine wrt (S:=fun w'=>Below W.heap.size W w') (.free 1 (.free 3 (.two 0 (.two 2 (.one 4 (.one 5 (.free 6 .done))) 4 (.one 2 (.one 5 (.free 6 .done)))) 4 (.one 0 (.one 2 (.one 5 (.free 6 .done))))))) (ZD (ZR W)) ?_
 refine tk0 (.slice ao l.length c) ?_
 refine tl w.heap.size 0 x.cells (fun w hS j v hj=>by rw[Nat.zero_add];exact(Za.out.kept hS).cell j v (by rw[List.getElem?_toArray];exact hj)) ?_
 refine ZeX ?p1 ?q1
 case' p1 =>
  refine t1 fun K hK=>?_
  refine op_lit0 (enc:=En.cells) (B:=W.heap.size) elE rfl (by go_simp) ((ZD (ZR W))).size ?_
  intro g0 u0 ho Ih hg0s hb
  have Uh:=hid ho
  clear ho
  have Ae:Hid (Below W.heap.size W u0):=((ZD (ZR W))).trans (hb.mono ((ZD (ZR W))).size)
  have Lc:=hid hb
  refine hk hK Ae.out ?_
  clear hK K hb
  refine ZeX ?p2 ?q2
  case' p2 =>
   refine t1 fun K hK=>?_
   refine ZbI (B:=W.heap.size) elE encE (.tmp 6) (.tmp 7) (by rfl) (by rfl) (by rfl) Uh.out (HL.out.1.kept Ae.out) rfl (Ae.out).size (by decide) Nb.out ?_
   intro v2 u2 ho Cc hot
   have Fb:=hid ho
   clear ho hot
   have Ia:Hid (Below W.heap.size W u2):=(Ae.out).trans Cc
   refine hk hK Ia.out ?_
   clear hK K Cc
   refine t1 fun K hK=>?_
   refine Zee elE encE (by decide) _ rfl x rfl ?_
   intro g4 u4 hl Hh hg4s hb
   have Fe:=hid hl
   clear hl
   have Pa:Hid (Below W.heap.size W u4):=(Ia.out).trans (hb.mono (Ia.out).size)
   have Ac:=hid hb
   refine hk hK Pa.out ?_
   clear hK K hb
   refine t1 fun K hK=>?_
   refine ZbI (B:=W.heap.size) (m:=[x]) (n:=1) (c:=1) (ao:=some ⟨g4,0,none⟩) elE encE (.tmp 8) (.tmp 10) (by rfl) (by rfl) (by rfl) (Fb.out.kept Ac.out) (Or.inr ⟨g4,0,rfl,Fe.out⟩) rfl (Pa.out).size (by decide) Mb.out ?_
   intro v5 u5 ho Cc _
   have Bc:=hid ho
   have Ya:Hid (Below W.heap.size W u5):=(Pa.out).trans Cc
   refine hk hK Ya.out ?_
   clear hK K ho Cc
   refine tk0 (v5) ?_
   refine ZaP ?_
  case' q2 =>
   refine t1 fun K hK=>?_
   refine Zee elE encE (by decide) _ rfl x rfl ?_
   intro g4 u4 hl Hh hg4s hb
   have Fe:=hid hl
   clear hl
   have Pa:Hid (Below W.heap.size W u4):=(Ae.out).trans (hb.mono (Ae.out).size)
   have Ac:=hid hb
   refine hk hK Pa.out ?_
   clear hK K hb
   refine t1 fun K hK=>?_
   refine ZbI (B:=W.heap.size) elE encE (.tmp 6) (.tmp 7) (by rfl) (by rfl) (by rfl) (Uh.out.kept Ac.out) (HL.out.1.kept Pa.out) rfl (Pa.out).size (by decide) Nb.out ?_
   intro v2 u2 ho Cc hot
   have Fb:=hid ho
   have Fe:Hid (Lies En.cells 40 u2 g4 0 [x]):=Fe.out.same (hot g4 (by omega) (by simp[Value.ownBlock];omega))
   clear ho hot
   have Ia:Hid (Below W.heap.size W u2):=(Pa.out).trans Cc
   refine hk hK Ia.out ?_
   clear hK K Cc
   refine t1 fun K hK=>?_
   refine ZbI (B:=W.heap.size) (m:=[x]) (n:=1) (c:=1) (ao:=some ⟨g4,0,none⟩) elE encE (.tmp 8) (.tmp 10) (by rfl) (by rfl) (by rfl) Fb.out (Or.inr ⟨g4,0,rfl,Fe.out⟩) rfl (Ia.out).size (by decide) Mb.out ?_
   intro v5 u5 ho Cc _
   have Bc:=hid ho
   have Ya:Hid (Below W.heap.size W u5):=(Ia.out).trans Cc
   refine hk hK Ya.out ?_
   clear hK K ho Cc
   refine tk0 (v5) ?_
   refine ZaP ?_
 case' q1 =>
  refine t1 fun K hK=>?_
  refine Zee elE encE (by decide) _ rfl x rfl ?_
  intro g4 u4 hl Hh hg4s hb
  have Fe:=hid hl
  clear hl
  have Pa:Hid (Below W.heap.size W u4):=((ZD (ZR W))).trans (hb.mono ((ZD (ZR W))).size)
  have Ac:=hid hb
  refine hk hK Pa.out ?_
  clear hK K hb
  refine t1 fun K hK=>?_
  refine op_lit0 (enc:=En.cells) (B:=W.heap.size) elE rfl (by go_simp) (Pa.out).size ?_
  intro g0 u0 ho Ih hg0s hb
  have Uh:=hid ho
  clear ho
  have Ae:Hid (Below W.heap.size W u0):=(Pa.out).trans (hb.mono (Pa.out).size)
  have Lc:=hid hb
  refine hk hK Ae.out ?_
  clear hK K hb
  refine t1 fun K hK=>?_
  refine ZbI (B:=W.heap.size) elE encE (.tmp 6) (.tmp 7) (by rfl) (by rfl) (by rfl) Uh.out (HL.out.1.kept Ae.out) rfl (Ae.out).size (by decide) Nb.out ?_
  intro v2 u2 ho Cc hot
  have Fb:=hid ho
  have Fe:Hid (Lies En.cells 40 u2 g4 0 [x]):=(Fe.out.kept Lc.out).same (hot g4 (by have:=Lc.out.size;omega) (by simp[Value.ownBlock];omega))
  clear ho hot
  have Ia:Hid (Below W.heap.size W u2):=(Ae.out).trans Cc
  refine hk hK Ia.out ?_
  clear hK K Cc
  refine t1 fun K hK=>?_
  refine ZbI (B:=W.heap.size) (m:=[x]) (n:=1) (c:=1) (ao:=some ⟨g4,0,none⟩) elE encE (.tmp 8) (.tmp 10) (by rfl) (by rfl) (by rfl) Fb.out (Or.inr ⟨g4,0,rfl,Fe.out⟩) rfl (Ia.out).size (by decide) Mb.out ?_
  intro v5 u5 ho Cc _
  have Bc:=hid ho
  have Ya:Hid (Below W.heap.size W u5):=(Ia.out).trans Cc
  refine hk hK Ya.out ?_
  clear hK K ho Cc
  refine tk0 (v5) ?_
  refine ZaP ?_
 all_goals
  obtain⟨a5,c5,rfl,h5a,h5b,h5⟩:=Bc.out.lies encE
  have h5l:([]++l)++[x]=l++[x]:=by simp
  rw[h5l,<-Nh.out]at h5 h5a
  rw[h5l,<-Nh.out]
  have Sf:=hid h5
  have Hg:Hid (Below w.heap.size w u5):=ZT Aa.out Ya.out
  have HE:Hid (EnsAt u5 ao l/\EnsAt u5 a5 L):=⟨⟨HL.out.1.kept Ya.out,fun e he=>(HL.out.2 e he).kept Ya.out⟩,⟨Sf.out,fun e he=>(List.mem_append.1 (Nh.out ▸ he:e∈l++[x])).elim (fun h=>(HL.out.2 e h).kept Ya.out) (fun h=>by rw[List.mem_singleton]at h;rw[h];exact Gc.out.kept Ya.out)⟩⟩
  have HA:Hid (∀ w2,Below u5.heap.size u5 w2->Calls prog 40 #[.slice ao l.length c,.int .i64 1099511627776] w2 (Zfr l 1099511627776 w2)):=fun w2 hb=>Zb1 l ao c _ (by have:=Wh.out;omega) w2 (HE.out.1.kept hb) (fun w3 Ue=>Fu.out w3 (ZT Hg.out (ZT hb Ue)))
  have Qk:Hid (∀ w2,Below u5.heap.size u5 w2->Calls prog 40 #[.slice a5 L.length c5,.int .i64 1099511627776] w2 (Zfr L 1099511627776 w2)):=fun w2 hb=>Zb1 L a5 c5 _ (by have:=Wh.out;have:=Yb.out;omega) w2 (HE.out.2.kept hb) (fun w3 Ue=>H70b.out a5 c5 w3 h5a (ZT Hg.out (ZT hb Ue)) (Sf.out.kept (ZT hb Ue)))
  unfold Zfr at HA Qk
  have Yh:=hid (fun(a1 a2:Option Addr) (c1 c2:Nat) (w6:World) (h5:ZaY w6 a1 (effL l 1099511627776)) (h6:ZaY w6 a2 (effL L 1099511627776)) (h7:(effL l 1099511627776).length<=10000000) (h8:(effL L 1099511627776).length<=10000000)=>Zd6 (effL l 1099511627776) (effL L 1099511627776) a1 a2 c1 c2 x.tick Gc.out.ints.2.1 h7 h8 w6 h5 h6)
  clear h5 h5l Uh Fb Bc Fe
  go_upto_region 2 with fail
  try simp only[Act.put,m1,m2,m3]
  refine wrt (S:=fun w'=>Below u5.heap.size u5 w') (.free 0 (.free 2 (.free 4 (.free 5 (.one 1 (.one 3 (.one 6 (.one 7 (.free 8 .done))))))))) (ZD (ZR u5)) ?_
  have Ca:=fun wq (hSw:(fun w'=>Below u5.heap.size u5 w') wq)=>(Za.out.kept (ZT Ya.out hSw)).cell 1 (.int .i64 x.tick) rfl
  refine tk Ca (.slice ao l.length c) ?_
  refine tk Ca (.slice a5 L.length c5) ?_
  refine tk Ca (.pointer (some ⟨w.heap.size,1,none⟩)) ?_
  refine tk Ca (.int .i64 x.tick) ?_
  refine t1 fun K hK=>?_
  go_wp2_with (go_at_call 40;(with_reducible refine(HA.out _ (ZD (ZR u5))).mono ?_);rintro e y1 ⟨mm1,b1,d1,rfl,-,-,hr,hi,Yf,-,hb⟩;obtain rfl:=ZcD hi;have Ee:=hid hr;have Uj:=hid Yf;have Bw:Hid (Below u5.heap.size u5 y1):=ZT (ZD (ZR u5)) hb;clear hr hi Yf hb)
  refine hk hK Bw.out ?_
  clear hK K
  refine t1 fun K hK=>?_
  go_wp2_with (go_at_call 40;(with_reducible refine(Qk.out _ Bw.out).mono ?_);rintro e y3 ⟨mm3,b3,d3,rfl,-,-,hr,hi,Mg,-,hb⟩;obtain rfl:=ZcD hi;have Md:=hid hr;have Mh:=hid Mg;have HY3:Hid (Below u5.heap.size u5 y3):=ZT Bw.out hb;have Ee:=hid (Ee.out.kept hb);clear hr hi Mg hb)
  refine hk hK HY3.out ?_
  clear hK K
  refine t1 fun K hK=>?_
  go_wp2_with (go_at_call 41;(with_reducible refine(Yh.out b1 b3 d1 d3 _ Ee.out Md.out (by have:=Uj.out;have:=Wh.out;omega) (by have:=Mh.out;have:=Wh.out;have:=Yb.out;omega)).mono ?_);rintro e y6 ⟨v6,rfl,Iu,hb⟩;replace Iu:OwnD y6 y3.heap.size v6 (ZcW l x):=(by unfold ZcW;rw[<-Nh.out];exact Iu);have Tc:Hid ((ZcW l x).length<=10000000):=(by(have h1:=Zfm (effL l 1099511627776) (effL (l++[x]) 1099511627776) x.tick;have h2:=Uj.out;have h3:=Mh.out;have h4:=Wh.out;have h6:=Yb.out;unfold ZcW;rw[<-Nh.out]at h1 ⊢;show _<=_;omega));obtain⟨a6,c6,rfl,-,-,hd6⟩:=Iu.lies;have Ap:=hid hd6;have HY6:Hid (Below u5.heap.size u5 y6):=ZT HY3.out hb;clear Iu hd6 hb)
  refine hk hK HY6.out ?_
  clear hK K
  refine t1 fun K hK=>?_
  have Xi:=hid (rcons_any (ZcW l x) a6 c6 (by have:=Tc.out;omega) y6 Ap.out)
  go_wp2_with (go_at_call 42;(with_reducible refine Xi.out.mono ?_);rintro e y7 ⟨v7,ds,rfl,hs7,-,Lp,hb⟩;have Ve:=hid hs7.slD;have Dt:=hid Lp;have HY7:Hid (Below u5.heap.size u5 y7):=ZT HY6.out hb;clear hs7 Lp hb)
  refine hk hK HY7.out ?_
  clear hK K
  refine tk Ca (v7) ?_
  refine ZaP ?_
  go_wp2_with fail
  go_ret
  exact⟨_,ds,rfl,Ve.out,Dt.out,ZT Aa.out (ZT Ya.out HY7.out)⟩
end Go.Proofs.YtfnpfkgmacaboaaGreat
