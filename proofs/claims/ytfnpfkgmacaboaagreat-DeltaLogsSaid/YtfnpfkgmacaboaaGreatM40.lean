/- Texts joined by a program. -/
import Derived.Test.YtfnpfkgmacaboaaGreatM14
namespace Go.Proofs.YtfnpfkgmacaboaaGreat
open Go.Proofs.Tryz
open Lib (hid)
open Go.ChangeShapes Go.WideShapes Go.ChangeAt Go.RowKit
set_option linter.unusedVariables false
set_option linter.unusedSimpArgs false
set_option maxRecDepth 100000
set_option maxHeartbeats 4000000
def StrsX (w:World)(a:Option Addr)(c:Nat)(l:List ByteArray):Prop:=l.length<=c/\(a=none->c=0)/\Zac (fun s:ByteArray=>[Value.string s]) 1 w a l
theorem StrsX.kept {w w':World}{a:Option Addr}{c:Nat}{l:List ByteArray}(h:StrsX w a c l)(hb:Below w.heap.size w w'):StrsX w' a c l:=⟨h.1,h.2.1,h.2.2.kept hb⟩
theorem StrsX.nil (w:World):StrsX w none 0 []:=⟨Nat.le_refl _,fun _=>rfl,Zac.nil _ _⟩
theorem StrsX.own {w:World}{B:Nat}{v:Value}{l:List ByteArray}(h:Own (fun s:ByteArray=>[Value.string s]) 1 9 w B v l):∃ a c,v=.slice a l.length c/\StrsX w a c l :=
 let ⟨a,c,h1,h2,h3,h4⟩:=h.lies encS;⟨a,c,h1,h2,h3,h4⟩
def StrsR (L:List ByteArray)(w:World)(e:Ending)(w':World):Prop:=∃ a c,e=.returned (.slice a L.length c)/\StrsX w' a c L/\Below w.heap.size w w'
theorem StrsR.of {L K:List ByteArray}{w w':World}{a:Option Addr}{c:Nat}(h:L=K)(hs:StrsX w' a c K)(hb:Below w.heap.size w w'):StrsR L w (.returned (.slice a K.length c)) w':=by subst h;exact⟨a,c,rfl,hs,hb⟩
theorem in12_det (l:List ByteArray)(s:ByteArray)(hn:l.length<=100000000):∃ r:Bool,∀ (a:Option Addr) (c:Nat) (w:World),StrsX w a c l->Calls prog 208 #[.slice a l.length c,.string s] w (RetB r w):=by
 obtain⟨R,hR⟩:=Zcs (∀ j,j<l.length->∀ t,l[j]?=some t->(t.toList==s.toList)=false)
 have HR:=hid hR
 clear hR
 refine⟨!R,fun a c w h=>?_⟩
 obtain⟨hlc,hcn,h1⟩:=h
 have H:=hid h1
 clear h1 hcn
 go_enter func208,ntmps208
 go_wp2_with fail
 go_loop [5] (fun v=>∃ j:Nat,j<=l.length/\v=.int .i64 j/\Hid (∀ q,q<j->∀ t,l[q]?=some t->(t.toList==s.toList)=false)) (fun v=>l.length - (intOf v).toNat)
 case atStart=>exact⟨0,by omega,rfl,hid (fun q hq=>by omega)⟩
 case round =>
  obtain⟨j,hj,rfl,HI⟩:=hrel
  by_cases hjl:j<l.length
  · obtain⟨t,ht⟩:∃ t,l[j]?=some t:=⟨l[j],List.getElem?_eq_getElem hjl⟩
    obtain⟨b2,o2,rfl,Bb⟩:=H.out.some (by omega)
    have d0:=Zbs Bb ht
    have HB:Hid ((t.toList==s.toList)=true->true=!R):=fun e=>by
     have:=all_bad HR.out hjl (fun h=>by have:=h t ht;rw[e]at this;cases this)
     rw[<-this];rfl
    have HG:Hid ((t.toList==s.toList)=false->∀ q,q<j+1->∀ t,l[q]?=some t->(t.toList==s.toList)=false):=fun e=>Za9 HI.out (fun u hu=>by rw[ht]at hu;injection hu with hu;subst hu;exact e)
    clear Bb ht
    go_wp2_with fail
    all_goals first
     |(go_round;(case rel=>exact⟨j+1,by omega,by go_num,hid (HG.out (by simp_all))⟩);(case measure=>simp[intOf];omega))
     |(go_ret;exact RetB.of (HB.out (by simp_all)) (ZR _))
  · have HT:=hid (all_end HR.out HI.out (by omega))
    go_wp2_with fail
    go_ret
    exact RetB.of (by rw[<-HT.out];rfl) (ZR _)
theorem put12_is (l:List ByteArray)(s:ByteArray)(hn:l.length<=100000000)(a:Option Addr)(c:Nat)(w:World)(h:StrsX w a c l):Calls prog 216 #[.slice a l.length c,.string s] w (StrsR (insS l s) w):=by
 have Vh:=hid h
 obtain⟨hlc,hcn,h1⟩:=h
 have H:=hid h1
 have Fj:=hid hcn
 clear h1 hcn
 go_enter func216,ntmps216
 go_wp2_with fail
 go_loop [5] (fun v=>∃ j:Nat,j<=l.length/\v=.int .i64 j/\Hid (insS l s=l.take j++insS (l.drop j) s)) (fun v=>l.length - (intOf v).toNat)
 case atStart=>exact⟨0,by omega,rfl,hid rfl⟩
 case round =>
  obtain⟨j,hj,rfl,HJ⟩:=hrel
  by_cases hjl:j<l.length
  · obtain⟨t,ht⟩:∃ t,l[j]?=some t:=⟨l[j],List.getElem?_eq_getElem hjl⟩
    obtain⟨b2,o2,rfl,Bb⟩:=H.out.some (by omega)
    have d0:=Zbs Bb ht
    have Jt:Hid (Op.bytesLess t.toList s.toList=true->insS l s=l.take (j+1)++insS (l.drop (j+1)) s):=fun h=>HJ.out.trans (ins_less ht h)
    have It:Hid (Op.bytesLess t.toList s.toList=false->(t.toList==s.toList)=true->insS l s=l):=fun h h2=>HJ.out.trans (ins_same ht h h2)
    have Ht:Hid (Op.bytesLess t.toList s.toList=false->(t.toList==s.toList)=false->insS l s=[]++l.take j++[s]++l.drop j):=fun h h2=>HJ.out.trans (ins_put ht h h2)
    clear Bb ht HJ
    have hcu:=fun w=>Za4 elS (some ⟨b2,o2,none⟩) l.length c j (by omega) w
    obtain⟨A,hcf,hA1,hA2⟩:=Za5 elS (some ⟨b2,o2,none⟩) l.length c j hj
    have Kc:=hid (H.out.take j)
    have Tc:=hid (ZaV H.out hlc hA2)
    have Pd:Hid (j=(l.take j).length):=by show _=_;simp;omega
    have Oe:Hid (l.length - j=(l.drop j).length):=by show _=_;simp
    have Nb:Hid (([]:List ByteArray).length+(l.take j).length<=1000000000):=by show _<=_;simp;omega
    have Mb:Hid (([]++l.take j).length+[s].length<=1000000000):=by show _<=_;simp;omega
    have Zb:Hid (([]++l.take j++[s]).length+(l.drop j).length<=1000000000):=by show _<=_;simp;omega
    have Bg:Hid (A=none->c - j=0):=fun e=>by have:=Fj.out (hA1 e);omega
    have Vc:Hid (Own (fun s:ByteArray=>[Value.string s]) 1 9 (w.alloc (.cells #[] 9)) w.heap.size (.slice (some ⟨w.heap.size,0,none⟩) 0 0) []):=Own.lit (Nat.le_refl _)
    have Ra:Hid (Below w.heap.size w (w.alloc (.cells #[] 9))):=Zab _
    clear hA1 hA2
    go_wp2_with (first|(at_builtin;first|(refine Zai elS encS rfl (.tmp 34) (.tmp 37) rfl rfl rfl Vc.out (Kc.out.kept Ra.out) Pd.out Fj.out Ra.out.size Nb.out ?_;intro v1 w1 ho hb;have Fb:=hid ho;have Ia:=hid (Ra.out.trans hb);clear ho hb)|(refine Zai elS encS rfl (.tmp 39) (.tmp 41) rfl rfl rfl (Fb.out.kept (Zab _)) (Zav _ _ encS) rfl (fun e=>by cases e) (Nat.le_trans Ia.out.size (Zab _).size) Mb.out ?_;intro v2 w2 ho hb;have Sb:=hid ho;have Qa:Hid (Below w.heap.size w w2):=hid ((Ia.out.alloc Ia.out.size _).trans hb);clear ho hb)|(refine Zai elS encS rfl (.tmp 43) (.tmp 46) rfl rfl rfl Sb.out (Tc.out.kept Qa.out) Oe.out Bg.out Qa.out.size Zb.out ?_;intro v3 w3 ho hb;have Ld:=hid ho;have Pa:=hid (Qa.out.trans hb);clear ho hb)|fail)|fail)
    all_goals first
     |(go_round;(case rel=>exact⟨j+1,by omega,by go_num,hid (Jt.out (by simp_all))⟩);(case measure=>simp[intOf];omega))
     |(go_ret;exact StrsR.of (It.out (by simp_all) (by simp_all)) Vh.out (ZR _))
     |(have hj3:=Ht.out (by simp_all) (by simp_all);obtain⟨a5,c5,rfl,h5⟩:=StrsX.own Ld.out;go_ret;exact StrsR.of hj3 h5 Pa.out)
  · skip
    have Ht:Hid (insS l s=[]++l.take j++[s]++l.drop j):=HJ.out.trans (ins_end (by omega))
    have hcu:=fun w=>Za4 elS a l.length c j (by omega) w
    obtain⟨A,hcf,hA1,hA2⟩:=Za5 elS a l.length c j hj
    have Kc:=hid (H.out.take j)
    have Tc:=hid (ZaV H.out hlc hA2)
    have Pd:Hid (j=(l.take j).length):=by show _=_;simp;omega
    have Oe:Hid (l.length - j=(l.drop j).length):=by show _=_;simp
    have Nb:Hid (([]:List ByteArray).length+(l.take j).length<=1000000000):=by show _<=_;simp;omega
    have Mb:Hid (([]++l.take j).length+[s].length<=1000000000):=by show _<=_;simp;omega
    have Zb:Hid (([]++l.take j++[s]).length+(l.drop j).length<=1000000000):=by show _<=_;simp;omega
    have Bg:Hid (A=none->c - j=0):=fun e=>by have:=Fj.out (hA1 e);omega
    have Vc:Hid (Own (fun s:ByteArray=>[Value.string s]) 1 9 (w.alloc (.cells #[] 9)) w.heap.size (.slice (some ⟨w.heap.size,0,none⟩) 0 0) []):=Own.lit (Nat.le_refl _)
    have Ra:Hid (Below w.heap.size w (w.alloc (.cells #[] 9))):=Zab _
    clear hA1 hA2
    go_wp2_with (first|(at_builtin;first|(refine Zai elS encS rfl (.tmp 34) (.tmp 37) rfl rfl rfl Vc.out (Kc.out.kept Ra.out) Pd.out Fj.out Ra.out.size Nb.out ?_;intro v1 w1 ho hb;have Fb:=hid ho;have Ia:=hid (Ra.out.trans hb);clear ho hb)|(refine Zai elS encS rfl (.tmp 39) (.tmp 41) rfl rfl rfl (Fb.out.kept (Zab _)) (Zav _ _ encS) rfl (fun e=>by cases e) (Nat.le_trans Ia.out.size (Zab _).size) Mb.out ?_;intro v2 w2 ho hb;have Sb:=hid ho;have Qa:Hid (Below w.heap.size w w2):=hid ((Ia.out.alloc Ia.out.size _).trans hb);clear ho hb)|(refine Zai elS encS rfl (.tmp 43) (.tmp 46) rfl rfl rfl Sb.out (Tc.out.kept Qa.out) Oe.out Bg.out Qa.out.size Zb.out ?_;intro v3 w3 ho hb;have Ld:=hid ho;have Pa:=hid (Qa.out.trans hb);clear ho hb)|fail)|fail)
    all_goals first
     |(obtain⟨a5,c5,rfl,h5⟩:=StrsX.own Ld.out;go_ret;exact StrsR.of Ht.out h5 Pa.out)
theorem sum_take_step {cs:List Nat}{i d:Nat}(h:cs[i]?=some d):(cs.take (i+1)).sum=(cs.take i).sum+d:=by
 rw[List.take_add_one,h];simp
theorem ZeZ (cs:List Nat)(i:Nat):(cs.take i).sum<=cs.sum:=by
 conv=>rhs;rw[<-List.take_append_drop i cs]
 rw[List.sum_append];omega
def DirR (L1 L2:List ByteArray)(m k:Nat)(w:World)(e:Ending)(w':World):Prop:=∃ a c a2 c2,e=.returned (.tuple #[.slice a L1.length c,.slice a2 L2.length c2])/\StrsX w' a c L1/\StrsX w' a2 c2 L2/\L1.length<=m/\L2.length<=k/\Below w.heap.size w w'
theorem DirR.of {L1 L2 K1 K2:List ByteArray}{m k:Nat}{w w':World}{a:Option Addr}{c:Nat}{a2:Option Addr}{c2:Nat}(h1:L1=K1)(h2:L2=K2)(hs:StrsX w' a c K1)(ht:StrsX w' a2 c2 K2)(hm:K1.length<=m)(hk:K2.length<=k)(hb:Below w.heap.size w w'):DirR L1 L2 m k w (.returned (.tuple #[.slice a K1.length c,.slice a2 K2.length c2])) w':=by
 subst h1 h2;exact⟨a,c,a2,c2,rfl,hs,ht,hm,hk,hb⟩
abbrev Two:=List ByteArray × List ByteArray
theorem direct_det (w0:World):∀ (n d:Nat) (x:Ex),ExNd n d w0 x->∃ D:List ByteArray->List ByteArray->Two,∀ (f t:List ByteArray) (fa:Option Addr) (fc:Nat) (ta:Option Addr) (tc:Nat) (w:World),Below w0.heap.size w0 w->StrsX w fa fc f->StrsX w ta tc t->f.length+d<=1000000->t.length+d<=1000000->Calls prog 218 #[x.val,.slice fa f.length fc,.slice ta t.length tc] w (DirR (D f t).1 (D f t).2 (f.length+d) (t.length+d) w)
 |0,_,_,h=>h.elim
 |n+1,d,⟨x_k,x_o,x_m,x_t,x_vk,x_vn,x_vs,x_ua,x_un,x_uc,x_p,x_wk,x_wz,x_xa,x_xn,x_xc⟩,h=>by
  obtain⟨-,-,xs,cs,hxn,hxl,hl,hcl,hcs,hy⟩:=h
  dsimp only at hxn hl
  subst hxn
  obtain⟨Dy,hDy⟩:=pick (P:=fun(i:Nat) (D:List ByteArray->List ByteArray->Two)=>∀ (y:Ex) (dd:Nat),xs[i]?=some y->cs[i]?=some dd->∀ (f t:List ByteArray) (fa:Option Addr) (fc:Nat) (ta:Option Addr) (tc:Nat) (w:World),Below w0.heap.size w0 w->StrsX w fa fc f->StrsX w ta tc t->f.length+dd<=1000000->t.length+dd<=1000000->Calls prog 218 #[y.val,.slice fa f.length fc,.slice ta t.length tc] w (DirR (D f t).1 (D f t).2 (f.length+dd) (t.length+dd) w)) (fun i=>by
   by_cases h:∃ y dd,xs[i]?=some y/\cs[i]?=some dd
   · obtain⟨y,dd,h1,h2⟩:=h
     obtain⟨D,hD⟩:=direct_det w0 n dd y (hy i y dd h1 h2)
     exact⟨D,fun y2 d2 h3 h4=>by rw[h1]at h3;rw[h2]at h4;injection h3 with h3;injection h4 with h4;subst h3 h4;exact hD⟩
   · exact⟨fun _ _=>([],[]),fun y dd h1 h2=>(h ⟨y,dd,h1,h2⟩).elim⟩)
  have HDY:=hid hDy
  clear hDy hy
  generalize hn:xs.length=xn at *
  refine⟨fun f t=>(List.range xn).foldl (fun(p:Two) i=>Dy i p.1 p.2) (if (x_k==3||x_k==4)=true then insS f x_m else f,if (x_k==5)=true then insS t x_t else t),fun f t fa fc ta tc w hw hf ht hfn htn=>?_⟩
  obtain⟨f1,Om⟩:∃ f1,f1=(if (x_k==3||x_k==4)=true then insS f x_m else f):=⟨_,rfl⟩
  obtain⟨t1,Gm⟩:∃ t1,t1=(if (x_k==5)=true then insS t x_t else t):=⟨_,rfl⟩
  have hfl:f1.length<=f.length+1:=by rw[Om];split;exact Zfd _ _;omega
  have htl:t1.length<=t.length+1:=by rw[Gm];split;exact Zfd _ _;omega
  dsimp only
  rw[<-Om,<-Gm]
  obtain⟨R,hR⟩:∃ R:Two,R=(List.range xn).foldl (fun(p:Two) i=>Dy i p.1 p.2) (f1,t1):=⟨_,rfl⟩
  rw[<-hR]
  have Vl:=hid Om
  have Kl:=hid Gm
  have Af:=hid hR
  have HL:=hid (hl.kept hw)
  have Ja:=hid hw
  have HCL:=hid hcl
  have Rt:=hid hf
  have Hc:=hid ht
  have HN:=hid hn
  clear hl hw hf ht hcl Om Gm hR hn
  generalize Cr:f.length=fn at *
  generalize Iq:t.length=tn at *
  have Xo:=hid Cr
  have Co:=hid Iq
  clear Cr Iq
  dsimp only[Ex.val]
  go_enter func218,ntmps218
  go_upto_region 1 with fail
  refine gen1 (fun V B0 Aa=>?_)
  have HS:=hs1 B0
  simp only[Cl,Nat.reduceAdd]at HS
  have KK:=HS.out V (ZR V)
  have Ga:Hid (Below w0.heap.size w0 V):=Ja.out.trans (Aa.out.mono Ja.out.size)
  have Cq:Hid (StrsX V fa fc f):=Rt.out.kept Aa.out
  have Ks:Hid (StrsX V ta tc t):=Hc.out.kept Aa.out
  go_cut [16] (fun v wx=>v=.bool (x_k==3||x_k==4)/\Hid (Below V.heap.size V wx))
  case first =>
   obtain⟨q3,e3⟩:∃ q,(x_k==3)=q:=⟨_,rfl⟩
   obtain⟨q4,e4⟩:∃ q,(x_k==4)=q:=⟨_,rfl⟩
   cases q3<;>cases q4
   all_goals
    go_wp2_with fail
    go_meet
    case rel=>exact⟨by simp_all,ZR V⟩
  case rest =>
   obtain⟨rfl,HW⟩:=hcut
   rename World=>w3
   have KK:=HS.out _ HW.out
   obtain⟨q34,Kq⟩:∃ q,(x_k==3||x_k==4)=q:=⟨_,rfl⟩
   rw[Kq]at Vl ⊢
   clear Kq
   go_upto_if 16 with fail
   go_cut [1] (fun v wx=>∃ a c,v=.slice a f1.length c/\Hid (StrsX wx a c f1)/\Hid (Below V.heap.size V wx))
   case first =>
    cases q34
    · obtain rfl:f1=f:=Vl.out
      go_wp2_with fail
      go_meet
      case rel=>exact⟨_,_,by rw[Xo.out],Cq.out.kept HW.out,HW.out⟩
    · obtain rfl:f1=insS f x_m:=Vl.out
      go_wp2_with (first|(go_at_call 216;rw[<-Xo.out];refine(put12_is f x_m (by have:=Xo.out;omega) _ _ _ (Cq.out.kept HW.out)).mono ?_;rintro e w' ⟨a5,c5,rfl,hs,hb⟩;have HP:=hid hs;have Wb:Hid (Below V.heap.size V w'):=ZT HW.out hb;clear hs hb)|fail)
      go_meet
      case rel=>exact⟨_,_,rfl,HP.out,Wb.out⟩
   case rest =>
    clear HW
    obtain⟨a1,c1,rfl,Hk,HW⟩:=hcut
    rename World=>w4
    have KK:=HS.out _ HW.out
    obtain⟨q5,Wk⟩:∃ q,(x_k==5)=q:=⟨_,rfl⟩
    rw[Wk]at Kl
    have Jg:=hid Wk
    go_upto_if 23 with fail
    go_cut [2] (fun v wx=>∃ a c,v=.slice a t1.length c/\Hid (StrsX wx a c t1)/\Hid (StrsX wx a1 c1 f1)/\Hid (Below V.heap.size V wx))
    case first =>
     cases q5
     · obtain rfl:t1=t:=Kl.out
       go_wp2_with fail
       go_meet
       case rel=>exact⟨_,_,by rw[Co.out],Ks.out.kept HW.out,Hk.out,HW.out⟩
     · obtain rfl:t1=insS t x_t:=Kl.out
       go_wp2_with (first|(go_at_call 216;rw[<-Co.out];refine(put12_is t x_t (by have:=Co.out;omega) _ _ _ (Ks.out.kept bt)).mono ?_;rintro e w' ⟨a5,c5,rfl,hs,hb⟩;have HP:=hid hs;have Dg:=hid (Hk.out.kept hb);have Wb:Hid (Below V.heap.size V w'):=ZT bt hb;clear hs hb)|fail)
       go_meet
       case rel=>exact⟨_,_,rfl,HP.out,Dg.out,Wb.out⟩
    case rest =>
     clear Hk HW Cq Ks Vl Kl Wk
     obtain⟨a2,c2,rfl,Dg,Hk,HW⟩:=hcut
     rename World=>w5
     go_wp2_with fail
     go_loopw [1,2,8] (fun u v jj wr=>∃ (i:Nat) (l1 l2:List ByteArray) (a:Option Addr) (c:Nat) (a2:Option Addr) (c2:Nat),u=.slice a l1.length c/\v=.slice a2 l2.length c2/\i<=xn/\jj=.int .i64 i/\l1.length<=fn+1+(cs.take i).sum/\l2.length<=tn+1+(cs.take i).sum/\Hid (StrsX wr a c l1)/\Hid (StrsX wr a2 c2 l2)/\Hid (R=((List.range xn).drop i).foldl (fun(p:Two) i=>Dy i p.1 p.2) (l1,l2))/\Hid (Below V.heap.size V wr)) (fun _ _ jj _=>xn - (intOf jj).toNat)
     case atStart=>exact⟨0,f1,t1,_,_,_,_,rfl,rfl,by omega,rfl,by simpa using hfl,by simpa using htl,Hk,Dg,Af,HW⟩
     case round =>
      clear Hk Dg HW hfl htl Af
      obtain⟨i,l1,l2,a1,c1,a2,c2,rfl,rfl,hi,rfl,Fg,Ob,Hk,Dg,Af,HW⟩:=hrel
      have KK:=HS.out _ HW.out
      by_cases hlt:i<xn
      · obtain⟨y,hy⟩:∃ y,xs[i]?=some y:=⟨xs[i]'(by have:=HN.out;omega),List.getElem?_eq_getElem _⟩
        obtain⟨dd,hd⟩:∃ dd,cs[i]?=some dd:=⟨cs[i]'(by have:=HN.out;have:=HCL.out;omega),List.getElem?_eq_getElem _⟩
        obtain⟨b1,o1,rfl,Da⟩:=((HL.out.kept Aa.out).kept HW.out).some (by have:=HN.out;omega)
        obtain⟨e0,e1,e2,e3,e4,e5,e6,e7,e8,e9,e10,e11⟩:=Ex.cell Da hy
        have HY:=hid (HDY.out i y dd hy hd)
        have hs1:=sum_take_step hd
        have hs2:=ZeZ cs (i+1)
        obtain⟨P,HP,Io⟩:∃ P:Two,Hid (∀ (fa:Option Addr) (fc:Nat) (ta:Option Addr) (tc:Nat) (w:World),Below w0.heap.size w0 w->StrsX w fa fc l1->StrsX w ta tc l2->l1.length+dd<=1000000->l2.length+dd<=1000000->Calls prog 218 #[y.val,.slice fa l1.length fc,.slice ta l2.length tc] w (DirR P.1 P.2 (l1.length+dd) (l2.length+dd) w))/\Hid (R=((List.range xn).drop (i+1)).foldl (fun(p:Two) i=>Dy i p.1 p.2) P) :=
         ⟨Dy i l1 l2,HY.out l1 l2,(by show _=_;rw[Af.out,ZaD (x:=i) (by simp[hlt])];rfl)⟩
        clear Da hy hd Af HY
        go_wp2_with (first|(go_at_call 218;refine(HP.out _ _ _ _ _ (Ga.out.trans (Below.mono bt Ga.out.size)) (Hk.out.kept bt) (Dg.out.kept bt) (by omega) (by omega)).mono ?_;rintro e w' ⟨a5,c5,a6,c6,rfl,h5,h6,Rv,hm6,hb⟩;have HP5:=hid h5;have HP6:=hid h6;have Qj:Hid (Below V.heap.size V w'):=ZT bt hb;clear h5 h6 hb)|fail)
        go_roundw
        case rel=>exact⟨i+1,P.1,P.2,_,_,_,_,rfl,rfl,by omega,by go_num,by omega,by omega,HP5.out,HP6.out,Io,Qj.out⟩
        case measure=>simp[intOf];omega
      · have hs2:=ZeZ cs i
        have HT:Hid (R=(l1,l2)):=by show _=_;rw[Af.out,List.drop_of_length_le (by simp;omega)];rfl
        clear Af
        go_wp2_with fail
        go_ret2
        exact DirR.of (by rw[HT.out]) (by rw[HT.out]) Hk.out Dg.out (by omega) (by omega) (ZT Aa.out HW.out)
def Zeq (l:List Ft):List ByteArray:=l.foldl (fun L f=>insS L f.m) []
theorem namesF_len (l:List Ft):(Zeq l).length<=l.length:=by
 have h:∀ (l:List Ft) (L:List ByteArray),(l.foldl (fun L f=>insS L f.m) L).length<=L.length+l.length:=fun l=>by
  induction l with
  |nil=>intro L;simp
  |cons f l ih=>intro L;have h1:=ih (insS L f.m);have h2:=Zfd L f.m;simp only[List.foldl_cons,List.length_cons];omega
 simpa [Zeq]using h l []
theorem names12_is (c_ta:Option Addr)(c_tn:Nat)(c_tc:Nat)(c_fa:Option Addr)(c_fc:Nat)(c_da:Option Addr)(c_dn:Nat)(c_dc:Nat)(c_qa:Option Addr)(c_qn:Nat)(c_qc:Nat)(w:World)(l:List Ft)(hl:l.length<=100000)(h1:Zac Ft.cells 18 w c_fa l):Calls prog 206 #[.agg #[.slice c_ta c_tn c_tc,.slice c_fa l.length c_fc,.slice c_da c_dn c_dc,.slice c_qa c_qn c_qc]] w (StrsR (Zeq l) w):=by
 have H1:=hid h1
 obtain⟨R,hR⟩:∃ R,R=Zeq l:=⟨_,rfl⟩
 rw[<-hR]
 have HR:=hid hR
 clear h1 hR
 go_enter func206,ntmps206
 go_upto_region 1 with fail
 refine gen1 (fun V B0 Aa=>?_)
 have HS:=hs1 B0
 simp only[Cl,Nat.reduceAdd]at HS
 have KK:=HS.out V (ZR V)
 go_wp2_with fail
 go_loopw [3,4] (fun v jj wr=>∃ (i:Nat) (L:List ByteArray) (a:Option Addr) (c:Nat),v=.slice a L.length c/\i<=l.length/\jj=.int .i64 i/\L.length<=i/\Hid (StrsX wr a c L)/\Hid (R=(l.drop i).foldl (fun L f=>insS L f.m) L)/\Hid (Below V.heap.size V wr)) (fun _ jj _=>l.length - (intOf jj).toNat)
 case atStart=>exact⟨0,[],_,_,rfl,by omega,rfl,Nat.le_refl _,StrsX.nil _,HR,ZR V⟩
 case round =>
  clear HR
  obtain⟨i,L,a,c,rfl,hi,rfl,hn,HA,HR,HW⟩:=hrel
  have KK:=HS.out _ HW.out
  by_cases hlt:i<l.length
  · obtain⟨x,hx⟩:∃ x,l[i]?=some x:=⟨l[i],List.getElem?_eq_getElem hlt⟩
    obtain⟨b1,o1,rfl,Da⟩:=(H1.out.kept (ZT Aa.out HW.out)).some (by omega)
    have c0:=Ft.name Da hx
    have Io:Hid (R=(l.drop (i+1)).foldl (fun L f=>insS L f.m) (insS L x.m)):=by show _=_;rw[HR.out,ZaD hx];rfl
    have hil:=Zfd L x.m
    clear Da hx HR
    go_wp2_with (first|(go_at_call 216;refine(put12_is L x.m (by omega) _ _ _ (HA.out.kept bt)).mono ?_;rintro e w' ⟨a5,c5,rfl,hs,hb⟩;have HP:=hid hs;have Wb:Hid (Below V.heap.size V w'):=ZT bt hb;clear hs hb)|fail)
    go_roundw
    case rel=>exact⟨i+1,insS L x.m,_,_,rfl,by omega,by go_num,by omega,HP.out,Io,Wb.out⟩
    case measure=>simp[intOf];omega
  · have HT:Hid (R=L):=by show _=_;rw[HR.out,List.drop_of_length_le (by omega)];rfl
    go_wp2_with fail
    go_ret
    exact StrsR.of HT.out HA.out (ZT Aa.out HW.out)
end Go.Proofs.YtfnpfkgmacaboaaGreat
