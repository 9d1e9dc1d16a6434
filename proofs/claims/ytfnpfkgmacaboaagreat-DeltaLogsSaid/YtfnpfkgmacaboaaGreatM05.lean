/- Texts joined by a program. -/
import Derived.Deep.RegionHeld3
import Derived.Deep.Cut
import Derived.StillTailTactics
import Derived.Test.YtfnpfkgmacaboaaGreatM04
namespace Go.Proofs.YtfnpfkgmacaboaaGreat
open Go.Proofs.Tryz
open Lib (hid)
open Go.ChangeShapes Go.WideShapes Go.ChangeAt Go.RowKit
set_option linter.unusedVariables false
set_option linter.unusedSimpArgs false
set_option maxRecDepth 100000
set_option maxHeartbeats 4000000
def AggOk:Prop:=∀ (x_k:Int) (x_o:ByteArray) (x_m:ByteArray) (x_t:ByteArray) (x_vk:Int) (x_vn:Int) (x_vs:ByteArray) (x_ua:Option Addr) (x_uc:Nat) (x_p:Int) (x_wk:Int) (x_wz:Int) (x_xa:Option Addr) (x_xn:Nat) (x_xc:Nat) (us:List FID),∃ r:Bool,∀ w,UnIs w x_ua us->Calls prog 221 #[.agg #[.int .i64 x_k,.string x_o,.string x_m,.string x_t,.int .i64 x_vk,.int .i64 x_vn,.string x_vs,.slice x_ua us.length x_uc,.int .i64 x_p,.int .i64 x_wk,.int .i64 x_wz,.slice x_xa x_xn x_xc]] w (RetB r w)
def NodeR (k:Int)(R:Bool)(w:World)(e:Ending)(w':World):Prop:=e=.returned (.tuple #[.int .i64 (arity k:Nat),.bool R])/\Below w.heap.size w w'
theorem NodeR.of {k m:Int}{b R:Bool}{w w':World}(hm:m=(arity k:Nat))(hb:b=R)(h:Below w.heap.size w w'):NodeR k R w (.returned (.tuple #[.int .i64 m,.bool b])) w':=⟨by rw[hm,hb],h⟩
def unaL:List ByteArray:=[⟨#[45]⟩,⟨#[110,111,116]⟩,⟨#[110,117,108,108]⟩]
theorem node_det (hagg:AggOk)(x_k:Int)(x_o:ByteArray)(x_m:ByteArray)(x_t:ByteArray)(x_vk:Int)(x_vn:Int)(x_vs:ByteArray)(x_ua:Option Addr)(x_uc:Nat)(x_p:Int)(x_wk:Int)(x_wz:Int)(x_xa:Option Addr)(x_xn:Nat)(x_xc:Nat)(ins:Bool)(us:List FID)(hs:x_vs.size<=140737488355328):∃ r:Bool,(r=true->1<=x_k/\x_k<=9)/\∀ w,UnIs w x_ua us->Calls prog 211 #[.agg #[.int .i64 x_k,.string x_o,.string x_m,.string x_t,.int .i64 x_vk,.int .i64 x_vn,.string x_vs,.slice x_ua us.length x_uc,.int .i64 x_p,.int .i64 x_wk,.int .i64 x_wz,.slice x_xa x_xn x_xc],.bool ins] w (NodeR x_k r w):=by
 obtain⟨qn,hqn⟩:∃ q,nameB x_m=q:=⟨_,rfl⟩
 have Po:Hid (∀ w,Calls prog 140 #[.string x_m] w (RetB qn w)):=by rw[<-hqn];exact fun w=>ZbJ _ w
 obtain⟨rl,h1⟩:=literal_det x_k x_o x_m x_t x_vk x_vn x_vs x_ua x_uc x_p x_wk x_wz x_xa x_xn x_xc us hs
 obtain⟨ra,h2⟩:=hagg x_k x_o x_m x_t x_vk x_vn x_vs x_ua x_uc x_p x_wk x_wz x_xa x_xn x_xc us
 obtain⟨f1,h3⟩:=ZdW x_k x_o x_m x_t x_vk x_vn x_vs x_ua x_uc x_p x_wk x_wz x_xa x_xn x_xc x_k ⟨#[]⟩ x_m ⟨#[]⟩ 0 0 ⟨#[]⟩ none 0 0 0 0 none 0 0 us []
 obtain⟨f2,h4⟩:=ZdW x_k x_o x_m x_t x_vk x_vn x_vs x_ua x_uc x_p x_wk x_wz x_xa x_xn x_xc x_k x_o ⟨#[]⟩ ⟨#[]⟩ 0 0 ⟨#[]⟩ none 0 0 0 0 none 0 0 us []
 have Hrl:=hid h1
 have Hra:=hid h2
 have Hf1:=hid h3
 have Hf2:=hid h4
 clear hqn h1 h2 h3 h4
 obtain⟨N6,hN6⟩:∃ N6,N6=(qn&&f1):=⟨_,rfl⟩
 obtain⟨N7,hN7⟩:∃ N7,N7=f2:=⟨_,rfl⟩
 obtain⟨R,hR⟩:∃ R,R=(((x_k==1)&&rl)||((x_k==2)&&(ins&&N6))||((x_k==3)&&(!ins&&N6))||((x_k==4)&&(!ins&&N6))||((x_k==5)&&(!ins&&ra))||((x_k==6)&&(N7&&isOne x_o unaL))||((x_k==7)&&(N7&&isOne x_o opsL))||((x_k==8)&&(N7&&x_o.toList.isEmpty))||((x_k==9)&&(N7&&x_o.toList.isEmpty))):=⟨_,rfl⟩
 have HN6:=hid hN6
 have HN7:=hid hN7
 have HR:=hid hR
 clear hN6 hN7 hR
 refine⟨R,fun h=>?_,fun w h=>?_⟩
 · have hR:=HR.out
   rw[h]at hR
   by_cases hk:1<=x_k/\x_k<=9
   · exact hk
   · exfalso
     have e:∀ c:Int,1<=c->c<=9->(x_k==c)=false:=fun c h1 h2=>beq_eq_false_iff_ne.2 (by omega)
     simp[e]at hR
 have H:=hid h
 clear h
 go_enter func211,ntmps211
 go_upto_region 1 with fail
 refine gen1 (fun V B0 Aa=>?_)
 have HS:=hs1 B0
 simp only[Cl,Nat.reduceAdd]at HS
 have KK:=HS.out V (ZR V)
 have HU:Hid (∀ w',Below V.heap.size V w'->UnIs w' x_ua us):=fun w' h=>(H.out.kept Aa.out).kept h
 go_cut [6] (fun v wx=>v=.bool N6/\Hid (Below V.heap.size V wx))
 case first =>
  go_wp2_with (first|(go_at_call 140;refine(Po.out _).mono ?_;rintro e w' ⟨rfl,hb⟩;have HW:Hid (Below V.heap.size V w'):=ZT bt hb;clear hb;have KK:=HS.out _ HW.out;try cases qn)|(go_at_call 219;refine(Hf1.out _ (HU.out _ bt) (UnIs.nil _ _)).mono ?_;rintro e w' ⟨rfl,hb⟩;have HW:Hid (Below V.heap.size V w'):=ZT bt hb;clear hb;have KK:=HS.out _ HW.out;try cases f1)|fail)
  all_goals
   go_meet
   case rel=>exact⟨by have hR:=HN6.out;simp_all,bt⟩
 case rest =>
  obtain⟨rfl,Zh⟩:=hcut
  rename World=>w6
  have KK:=HS.out _ Zh.out
  clear HN6
  go_upto_region 2 with fail
  go_cut [7] (fun v wx=>v=.bool N7/\Hid (Below V.heap.size V wx))
  case first =>
   go_wp2_with (first|(go_at_call 219;refine(Hf2.out _ (HU.out _ bt) (UnIs.nil _ _)).mono ?_;rintro e w' ⟨rfl,hb⟩;have HW:Hid (Below V.heap.size V w'):=ZT bt hb;clear hb;have KK:=HS.out _ HW.out;try cases f2)|fail)
   all_goals
    go_meet
    case rel=>exact⟨by have hR:=HN7.out;simp_all,bt⟩
  case rest =>
   obtain⟨rfl,Ug⟩:=hcut
   rename World=>w7
   have KK:=HS.out _ Ug.out
   clear HN7
   have hkk:x_k=1∨x_k=2∨x_k=3∨x_k=4∨x_k=5∨x_k=6∨x_k=7∨x_k=8∨x_k=9∨(x_k<1∨9<x_k):=by omega
   rcases hkk with hk|hk|hk|hk|hk|hk|hk|hk|hk|hk
   all_goals
    try subst hk
    cases N7<;>cases N6
   all_goals
    try(have e1:(x_k==1)=false:=beq_eq_false_iff_ne.2 (by omega))
    try(have e2:(x_k==2)=false:=beq_eq_false_iff_ne.2 (by omega))
    try(have e3:(x_k==3)=false:=beq_eq_false_iff_ne.2 (by omega))
    try(have e4:(x_k==4)=false:=beq_eq_false_iff_ne.2 (by omega))
    try(have e5:(x_k==5)=false:=beq_eq_false_iff_ne.2 (by omega))
    try(have e6:(x_k==6)=false:=beq_eq_false_iff_ne.2 (by omega))
    try(have e7:(x_k==7)=false:=beq_eq_false_iff_ne.2 (by omega))
    try(have e8:(x_k==8)=false:=beq_eq_false_iff_ne.2 (by omega))
    try(have e9:(x_k==9)=false:=beq_eq_false_iff_ne.2 (by omega))
    go_wp2_with (first|(go_at_call 220;refine(Hrl.out _ (HU.out _ bt)).mono ?_;rintro e w' ⟨rfl,hb⟩;have HW:Hid (Below V.heap.size V w'):=ZT bt hb;clear hb;have KK:=HS.out _ HW.out;try cases rl)|(go_at_call 221;refine(Hra.out _ (HU.out _ bt)).mono ?_;rintro e w' ⟨rfl,hb⟩;have HW:Hid (Below V.heap.size V w'):=ZT bt hb;clear hb;have KK:=HS.out _ HW.out;try cases ra)|(go_at_call 222;refine(one_is _ unaL _ _ _ (by decide) (Zcl unaL _)).mono ?_;rintro e w' ⟨rfl,hb⟩;have HW:Hid (Below V.heap.size V w'):=ZT bt hb;clear hb;have KK:=HS.out _ HW.out)|fail)
   all_goals first
    |(go_ret2;exact NodeR.of (by unfold arity;split<;>(try split)<;>(try split)<;>omega) (by have hR:=HR.out;simp_all) (ZT Aa.out bt))
    |(go_quiet (fail);go_wp2_with fail;(go_ret2;exact NodeR.of (by unfold arity;split<;>(try split)<;>(try split)<;>omega) (by have hR:=HR.out;simp_all) (ZT Aa.out bt)))
    |skip
   all_goals
    have Eb:Hid (∀ w',Below V.heap.size V w'->Below V.heap.size V w'/\w'.cell? ⟨w.heap.size,1,none⟩=some (.string x_o)):=fun w' h=>⟨h,(HS.out w' h).2.1⟩
    go_region_held3 (fun w'=>Below V.heap.size V w'/\w'.cell? ⟨w.heap.size,1,none⟩=some (.string x_o))
     (first|exact Eb.out _ (Ug.out.drew)|exact Eb.out _ (ZT (And.left (by assumption)) hb)|exact Eb.out _ (ZT Ug.out hb)|exact Eb.out _ Ug.out)
     (first
      |(go_at_call 223;refine(opers_any _).mono ?_;rintro e w' ⟨a5,c5,rfl,hL,hb⟩)
      |(go_at_call 222;refine(one_is _ opsL _ _ _ (by decide) hL).mono ?_;rintro e w' ⟨rfl,hb⟩))
    have Zf:Hid (Below V.heap.size V w'):=And.left (by assumption)
    go_wp2_with fail
    go_ret2
    exact NodeR.of (by unfold arity;split<;>(try split)<;>(try split)<;>omega) (by have hR:=HR.out;simp_all) (ZT Aa.out (ZH Zf))
theorem same10_det (w0:World):∀ (n:Nat) (x z:Ex),ExAt n w0 x->ExAt n w0 z->∃ r:Bool,∀ w,Below w0.heap.size w0 w->Calls prog 212 #[x.val,z.val] w (RetB r w)
 |0,_,_,h,_=>h.elim
 |n+1,⟨x_k,x_o,x_m,x_t,x_vk,x_vn,x_vs,x_ua,x_un,x_uc,x_p,x_wk,x_wz,x_xa,x_xn,x_xc⟩,⟨z_k,z_o,z_m,z_t,z_vk,z_vn,z_vs,z_ua,z_un,z_uc,z_p,z_wk,z_wz,z_xa,z_xn,z_xc⟩,h,g=>by
  obtain⟨ux,-,xs,hxn,hxl,hl,hy⟩:=h
  obtain⟨uz,-,zs,hzn,hzl,gl,gy⟩:=g
  obtain⟨us,hun,hus⟩:=ux.is
  obtain⟨vs,hvn,hvs⟩:=uz.is
  obtain⟨f,hf⟩:=ZbY (D:=fun p:Ex × Ex=>p.1∈xs/\p.2∈zs) (fun p h=>same10_det w0 n p.1 p.2 (hy p.1 h.1) (gy p.2 h.2))
  have HF:Hid (∀ y v,y∈xs->v∈zs->∀ w,Below w0.heap.size w0 w->Calls prog 212 #[y.val,v.val] w (RetB (f (y,v)) w)):=fun y v h1 h2=>hf (y,v) ⟨h1,h2⟩
  obtain⟨rf,hrf⟩:=ZdW x_k x_o x_m x_t x_vk x_vn x_vs x_ua x_uc x_p x_wk x_wz x_xa x_xn x_xc z_k z_o z_m z_t z_vk z_vn z_vs z_ua z_uc z_p z_wk z_wz z_xa z_xn z_xc us vs
  have Hrf:=hid hrf
  clear hrf
  obtain⟨E,hE⟩:∃ E,E=eqAll (fun y v=>f (y,v)) xs zs:=⟨_,rfl⟩
  obtain⟨R,hR⟩:∃ R,R=(rf&&E):=⟨_,rfl⟩
  have HE:=hid hE
  have HR:=hid hR
  clear hf hE hR hy gy ux uz
  refine⟨R,fun w hw=>?_⟩
  dsimp only at hxn hl hzn gl hus hvs hun hvn
  subst hxn hzn hun hvn
  have HL:=hid (hl.kept hw)
  have GL:=hid (gl.kept hw)
  have HA:=hid (hus.kept hw)
  have HB:=hid (hvs.kept hw)
  have Ja:=hid hw
  clear hl gl hus hvs hw
  dsimp only[Ex.val]
  go_enter func212,ntmps212
  go_upto_region 1 with fail
  refine gen2 (fun V B0 B1 Aa=>?_)
  have HS:=hs2 B0 B1
  simp only[Cl,Nat.reduceAdd]at HS
  have KK:=HS.out V (ZR V)
  have Ga:Hid (Below w0.heap.size w0 V):=Ja.out.trans (Aa.out.mono Ja.out.size)
  have Qf:Hid (∀ w',Below V.heap.size V w'->UnIs w' x_ua us):=fun w' h=>(HA.out.kept Aa.out).kept h
  have Zg:Hid (∀ w',Below V.heap.size V w'->UnIs w' z_ua vs):=fun w' h=>(HB.out.kept Aa.out).kept h
  generalize hn:xs.length=xn at *
  generalize hm:zs.length=zn at *
  have HN:=hid hn
  have HM:=hid hm
  clear hn hm
  by_cases hlen:xn=zn
  · subst hlen
    go_wp2_with (first|(go_at_call 219;refine(Hrf.out _ (Qf.out _ bt) (Zg.out _ bt)).mono ?_;rintro e w' ⟨rfl,hb⟩;have HW:Hid (Below V.heap.size V w'):=ZT bt hb;clear hb;have KK:=HS.out _ HW.out;try cases rf)|fail)
    all_goals first
     |(go_ret;exact RetB.of (by have hR:=HR.out;simp_all) (ZT Aa.out bt))
     |skip
    all_goals
     have Af:Hid (R=eqAll (fun y v=>f (y,v)) xs zs):=by show _=_;rw[<-HE.out];have hR:=HR.out;simp_all
     have Lc:Hid (Below V.heap.size V w'):=HW
     clear HR HE
     go_loopw [5] (fun v wr=>∃ i:Nat,i<=xn/\v=.int .i64 i/\Hid (R=eqAll (fun y v=>f (y,v)) (xs.drop i) (zs.drop i))/\Hid (Below V.heap.size V wr)) (fun v _=>xn - (intOf v).toNat)
     case atStart=>exact⟨0,by omega,rfl,Af,Lc⟩
     case round =>
      obtain⟨i,hi,rfl,HI,hB⟩:=hrel
      have KK:=HS.out _ hB.out
      by_cases hlt:i<xn
      · obtain⟨y,hy⟩:∃ y,xs[i]?=some y:=⟨xs[i]'(by have:=HN.out;omega),List.getElem?_eq_getElem _⟩
        obtain⟨v,hv⟩:∃ v,zs[i]?=some v:=⟨zs[i]'(by have:=HM.out;omega),List.getElem?_eq_getElem _⟩
        obtain⟨b1,o1,rfl,Da⟩:=(HL.out.kept Aa.out).some (by have:=HN.out;omega)
        obtain⟨b2,o2,rfl,Bb⟩:=(GL.out.kept Aa.out).some (by have:=HM.out;omega)
        obtain⟨c0,c1,c2,c3,c4,c5,c6,c7,c8,c9,c10,c11⟩:=Ex.cell Da hy
        obtain⟨d0,d1,d2,d3,d4,d5,d6,d7,d8,d9,d10,d11⟩:=Ex.cell Bb hv
        have Nj:=hid (List.mem_of_getElem? hy)
        have Tp:=hid (List.mem_of_getElem? hv)
        have HQ:Hid (R=(f (y,v)&&eqAll (fun y v=>f (y,v)) (xs.drop (i+1)) (zs.drop (i+1)))):=HI.out.trans (ZdZ hy hv)
        have Eb:Hid (∀ w',Below V.heap.size V w'->Below V.heap.size V w'/\w'.cell? ⟨w.heap.size,11,none⟩=some (.slice (some ⟨b1,o1,none⟩) xn x_xc)/\w'.cell? ⟨w.heap.size+1,11,none⟩=some (.slice (some ⟨b2,o2,none⟩) xn z_xc)/\w'.cell? ⟨b1,o1+i*12,none⟩=some (.int .i64 y.k)/\w'.cell? ⟨b1,o1+i*12+1,none⟩=some (.string y.o)/\w'.cell? ⟨b1,o1+i*12+2,none⟩=some (.string y.m)/\w'.cell? ⟨b1,o1+i*12+3,none⟩=some (.string y.t)/\w'.cell? ⟨b1,o1+i*12+4,none⟩=some (.int .i64 y.vk)/\w'.cell? ⟨b1,o1+i*12+5,none⟩=some (.int .i64 y.vn)/\w'.cell? ⟨b1,o1+i*12+6,none⟩=some (.string y.vs)/\w'.cell? ⟨b1,o1+i*12+7,none⟩=some (.slice y.ua y.un y.uc)/\w'.cell? ⟨b1,o1+i*12+8,none⟩=some (.int .i64 y.p)/\w'.cell? ⟨b1,o1+i*12+9,none⟩=some (.int .i64 y.wk)/\w'.cell? ⟨b1,o1+i*12+10,none⟩=some (.int .i64 y.wz)/\w'.cell? ⟨b1,o1+i*12+11,none⟩=some (.slice y.xa y.xn y.xc)/\w'.cell? ⟨b2,o2+i*12,none⟩=some (.int .i64 v.k)/\w'.cell? ⟨b2,o2+i*12+1,none⟩=some (.string v.o)/\w'.cell? ⟨b2,o2+i*12+2,none⟩=some (.string v.m)/\w'.cell? ⟨b2,o2+i*12+3,none⟩=some (.string v.t)/\w'.cell? ⟨b2,o2+i*12+4,none⟩=some (.int .i64 v.vk)/\w'.cell? ⟨b2,o2+i*12+5,none⟩=some (.int .i64 v.vn)/\w'.cell? ⟨b2,o2+i*12+6,none⟩=some (.string v.vs)/\w'.cell? ⟨b2,o2+i*12+7,none⟩=some (.slice v.ua v.un v.uc)/\w'.cell? ⟨b2,o2+i*12+8,none⟩=some (.int .i64 v.p)/\w'.cell? ⟨b2,o2+i*12+9,none⟩=some (.int .i64 v.wk)/\w'.cell? ⟨b2,o2+i*12+10,none⟩=some (.int .i64 v.wz)/\w'.cell? ⟨b2,o2+i*12+11,none⟩=some (.slice v.xa v.xn v.xc)):=fun w' h=>⟨h,(HS.out w' h).1.2.2.2.2.2.2.2.2.2.2.2.1,(HS.out w' h).2.2.2.2.2.2.2.2.2.2.2.2.1,Zaa c0 h,Zaa c1 h,Zaa c2 h,Zaa c3 h,Zaa c4 h,Zaa c5 h,Zaa c6 h,Zaa c7 h,Zaa c8 h,Zaa c9 h,Zaa c10 h,Zaa c11 h,Zaa d0 h,Zaa d1 h,Zaa d2 h,Zaa d3 h,Zaa d4 h,Zaa d5 h,Zaa d6 h,Zaa d7 h,Zaa d8 h,Zaa d9 h,Zaa d10 h,Zaa d11 h⟩
        have Je:Hid (Below V.heap.size V wr):=hB
        clear Da Bb hy hv c0 c1 c2 c3 c4 c5 c6 c7 c8 c9 c10 c11 d0 d1 d2 d3 d4 d5 d6 d7 d8 d9 d10 d11 HI
        go_wp2_with fail
        go_region_held3 (fun w'=>Below V.heap.size V w'/\w'.cell? ⟨w.heap.size,11,none⟩=some (.slice (some ⟨b1,o1,none⟩) xn x_xc)/\w'.cell? ⟨w.heap.size+1,11,none⟩=some (.slice (some ⟨b2,o2,none⟩) xn z_xc)/\w'.cell? ⟨b1,o1+i*12,none⟩=some (.int .i64 y.k)/\w'.cell? ⟨b1,o1+i*12+1,none⟩=some (.string y.o)/\w'.cell? ⟨b1,o1+i*12+2,none⟩=some (.string y.m)/\w'.cell? ⟨b1,o1+i*12+3,none⟩=some (.string y.t)/\w'.cell? ⟨b1,o1+i*12+4,none⟩=some (.int .i64 y.vk)/\w'.cell? ⟨b1,o1+i*12+5,none⟩=some (.int .i64 y.vn)/\w'.cell? ⟨b1,o1+i*12+6,none⟩=some (.string y.vs)/\w'.cell? ⟨b1,o1+i*12+7,none⟩=some (.slice y.ua y.un y.uc)/\w'.cell? ⟨b1,o1+i*12+8,none⟩=some (.int .i64 y.p)/\w'.cell? ⟨b1,o1+i*12+9,none⟩=some (.int .i64 y.wk)/\w'.cell? ⟨b1,o1+i*12+10,none⟩=some (.int .i64 y.wz)/\w'.cell? ⟨b1,o1+i*12+11,none⟩=some (.slice y.xa y.xn y.xc)/\w'.cell? ⟨b2,o2+i*12,none⟩=some (.int .i64 v.k)/\w'.cell? ⟨b2,o2+i*12+1,none⟩=some (.string v.o)/\w'.cell? ⟨b2,o2+i*12+2,none⟩=some (.string v.m)/\w'.cell? ⟨b2,o2+i*12+3,none⟩=some (.string v.t)/\w'.cell? ⟨b2,o2+i*12+4,none⟩=some (.int .i64 v.vk)/\w'.cell? ⟨b2,o2+i*12+5,none⟩=some (.int .i64 v.vn)/\w'.cell? ⟨b2,o2+i*12+6,none⟩=some (.string v.vs)/\w'.cell? ⟨b2,o2+i*12+7,none⟩=some (.slice v.ua v.un v.uc)/\w'.cell? ⟨b2,o2+i*12+8,none⟩=some (.int .i64 v.p)/\w'.cell? ⟨b2,o2+i*12+9,none⟩=some (.int .i64 v.wk)/\w'.cell? ⟨b2,o2+i*12+10,none⟩=some (.int .i64 v.wz)/\w'.cell? ⟨b2,o2+i*12+11,none⟩=some (.slice v.xa v.xn v.xc))
         (first|assumption|exact Eb.out _ (ZT (And.left (by assumption)) hb)|exact Eb.out _ (ZD Je.out)|exact Eb.out _ (ZD (And.left (by assumption)))|exact Eb.out _ (ZT Je.out hb)|exact Eb.out _ Je.out)
         (first|(go_at_call 212;refine(HF.out y v Nj.out Tp.out _ (Ga.out.trans (Below.mono (And.left (by assumption)) Ga.out.size))).mono ?_;rintro e w' ⟨rfl,hb⟩))
        have Wb:Hid (Below V.heap.size V w'):=And.left (by assumption)
        generalize f (y,v)=q at *
        cases q
        all_goals
         go_wp2_with fail
         first
          |(go_ret;exact RetB.of HQ.out.symm (ZT Aa.out Wb.out))
          |(go_roundw;(case rel=>exact⟨i+1,by omega,by go_num,HQ,Wb⟩);(case measure=>simp[intOf];omega))
      · go_wp2_with fail
        go_ret
        exact RetB.of (HI.out.trans (Zc0 (by have:=HN.out;omega) (by have:=HM.out;omega))).symm (ZT Aa.out hB.out)
  · have St:Hid (E=false):=HE.out.trans (Zcr (by have:=HN.out;have:=HM.out;omega))
    have Ke:Hid (R=false):=by show _=_;rw[HR.out,St.out,Bool.and_false]
    go_wp2_with (first|(go_at_call 219;refine(Hrf.out _ (Qf.out _ bt) (Zg.out _ bt)).mono ?_;rintro e w' ⟨rfl,hb⟩;have HW:Hid (Below V.heap.size V w'):=ZT bt hb;clear hb;have KK:=HS.out _ HW.out;try cases rf)|fail)
    all_goals
     go_ret
     exact RetB.of Ke.out.symm (ZT Aa.out bt)
theorem same_det12 (us vs:List FID):∃ r:Bool,∀ (a b:Option Addr) (c d:Nat) (w:World),UnIs w a us->UnIs w b vs->Calls prog 195 #[.slice a us.length c,.slice b vs.length d] w (RetB r w):=by
 obtain⟨g,Ih⟩:=pick (fun p:FID × FID=>eqFac p.1 p.2)
 obtain⟨R,hR⟩:∃ R,R=eqAll (fun x y=>g (x,y)) us vs:=⟨_,rfl⟩
 have HG:=hid Ih
 have HR:=hid hR
 clear Ih hR
 refine⟨R,fun a b c d w ha hb=>?_⟩
 obtain⟨hu,-,h1⟩:=ha
 obtain⟨hv,-,h2⟩:=hb
 have H1:=hid h1
 have H2:=hid h2
 clear h1 h2
 generalize hn:us.length=n at *
 generalize hm:vs.length=m at *
 have HN:=hid hn
 have HM:=hid hm
 clear hn hm
 go_enter func195,ntmps195
 by_cases hlen:n=m
 · subst hlen
   go_wp2_with fail
   go_loopw [5] (fun v wr=>∃ i:Nat,i<=n/\v=.int .i64 i/\Hid (R=eqAll (fun x y=>g (x,y)) (us.drop i) (vs.drop i))/\Below w.heap.size w wr) (fun v _=>n - (intOf v).toNat)
   case atStart=>exact⟨0,by omega,rfl,HR,Below.refl _ _⟩
   case round =>
    obtain⟨i,hi,rfl,HI,hB⟩:=hrel
    by_cases hlt:i<n
    · obtain⟨x,hx⟩:∃ x,us[i]?=some x:=⟨us[i]'(by have:=HN.out;omega),List.getElem?_eq_getElem _⟩
      obtain⟨y,hy⟩:∃ y,vs[i]?=some y:=⟨vs[i]'(by have:=HM.out;omega),List.getElem?_eq_getElem _⟩
      obtain⟨b1,o1,rfl,Da⟩:=(H1.out.kept hB).some (by have:=HN.out;omega)
      obtain⟨b2,o2,rfl,Bb⟩:=(H2.out.kept hB).some (by have:=HM.out;omega)
      obtain⟨c0,c1⟩:=Za2 Da hx
      obtain⟨d0,d1⟩:=Za2 Bb hy
      have hgx:=HG.out (x,y)
      have HQ:Hid (R=(g (x,y)&&eqAll (fun x y=>g (x,y)) (us.drop (i+1)) (vs.drop (i+1)))):=HI.out.trans (ZdZ hx hy)
      clear HI
      generalize g (x,y)=e at hgx HQ
      obtain⟨Og,Yc⟩:=hgx
      have hg:=fun op a b w=>Zdk 198 (by kernel_rfl) op a b #[.string x.1,.int .i64 x.2] #[.string y.1,.int .i64 y.2] w
      have HB:=hid hB
      clear Da Bb hx hy hB
      cases e
      all_goals
       go_wp2_with fail
       go_quiet (fail)
       go_wp2_with fail
       first
        |(go_ret;exact RetB.of HQ.out.symm (Zad HB.out _))
        |(go_roundw;(case rel=>exact⟨i+1,by omega,by go_num,HQ,Zad HB.out _⟩);(case measure=>simp[intOf];omega))
    · go_wp2_with fail
      go_ret
      exact RetB.of (HI.out.trans (Zc0 (by have:=HN.out;omega) (by have:=HM.out;omega))).symm hB
 · go_wp2_with fail
   go_ret
   exact RetB.of (HR.out.trans (Zcr (by have:=HN.out;have:=HM.out;omega))).symm (Below.refl _ _)
theorem same12_det (w0:World):∀ (n:Nat) (x z:Ex),ExAt n w0 x->ExAt n w0 z->∃ r:Bool,∀ w,Below w0.heap.size w0 w->Calls prog 178 #[x.val,z.val] w (RetB r w)
 |0,_,_,h,_=>h.elim
 |n+1,⟨x_k,x_o,x_m,x_t,x_vk,x_vn,x_vs,x_ua,x_un,x_uc,x_p,x_wk,x_wz,x_xa,x_xn,x_xc⟩,⟨z_k,z_o,z_m,z_t,z_vk,z_vn,z_vs,z_ua,z_un,z_uc,z_p,z_wk,z_wz,z_xa,z_xn,z_xc⟩,h,g=>by
  obtain⟨ux,-,xs,hxn,hxl,hl,hy⟩:=h
  obtain⟨uz,-,zs,hzn,hzl,gl,gy⟩:=g
  obtain⟨us,hun,hus⟩:=ux.is
  obtain⟨vs,hvn,hvs⟩:=uz.is
  obtain⟨f,hf⟩:=ZbY (D:=fun p:Ex × Ex=>p.1∈xs/\p.2∈zs) (fun p h=>same12_det w0 n p.1 p.2 (hy p.1 h.1) (gy p.2 h.2))
  have HF:Hid (∀ y v,y∈xs->v∈zs->∀ w,Below w0.heap.size w0 w->Calls prog 178 #[y.val,v.val] w (RetB (f (y,v)) w)):=fun y v h1 h2=>hf (y,v) ⟨h1,h2⟩
  obtain⟨ru,hru⟩:=same_det12 us vs
  have Hru:=hid hru
  clear hru
  obtain⟨ev,Eh,Ki⟩:=eqVal (x_vk,x_vn,x_vs) (z_vk,z_vn,z_vs)
  obtain⟨ew,Ip,Ji⟩:=eqWin (x_wk,x_wz) (z_wk,z_wz)
  have He:=fun op a b w=>Zdk 37 (by kernel_rfl) op a b #[.int .i64 x_vk,.int .i64 x_vn,.string x_vs] #[.int .i64 z_vk,.int .i64 z_vn,.string z_vs] w
  have Ye:=fun op a b w=>Zdk 39 (by kernel_rfl) op a b #[.int .i64 x_wk,.int .i64 x_wz] #[.int .i64 z_wk,.int .i64 z_wz] w
  obtain⟨e1,Og⟩:∃ q,(x_k==z_k)=q:=⟨_,rfl⟩
  obtain⟨e2,Yc⟩:∃ q,(x_o.toList==z_o.toList)=q:=⟨_,rfl⟩
  obtain⟨e3,Di⟩:∃ q,(x_m.toList==z_m.toList)=q:=⟨_,rfl⟩
  obtain⟨e4,Vv⟩:∃ q,(x_t.toList==z_t.toList)=q:=⟨_,rfl⟩
  obtain⟨e5,Lk⟩:∃ q,(x_p==z_p)=q:=⟨_,rfl⟩
  obtain⟨E,hE⟩:∃ E,E=eqAll (fun y v=>f (y,v)) xs zs:=⟨_,rfl⟩
  obtain⟨R,hR⟩:∃ R,R=((e1&&(e2&&(e3&&(e4&&(ev&&(e5&&(ew&&ru)))))))&&E):=⟨_,rfl⟩
  have HE:=hid hE
  have HR:=hid hR
  clear hf hE hR hy gy ux uz
  refine⟨R,fun w hw=>?_⟩
  dsimp only at hxn hl hzn gl hus hvs hun hvn
  subst hxn hzn hun hvn
  have HL:=hid (hl.kept hw)
  have GL:=hid (gl.kept hw)
  have HA:=hid (hus.kept hw)
  have HB:=hid (hvs.kept hw)
  have Ja:=hid hw
  clear hl gl hus hvs hw
  dsimp only[Ex.val]
  go_enter func178,ntmps178
  go_upto_region 1 with fail
  refine gen2 (fun V B0 B1 Aa=>?_)
  have HS:=hs2 B0 B1
  simp only[Cl,Nat.reduceAdd]at HS
  have KK:=HS.out V (ZR V)
  have Ga:Hid (Below w0.heap.size w0 V):=Ja.out.trans (Aa.out.mono Ja.out.size)
  have Qf:Hid (∀ w',Below V.heap.size V w'->UnIs w' x_ua us):=fun w' h=>(HA.out.kept Aa.out).kept h
  have Zg:Hid (∀ w',Below V.heap.size V w'->UnIs w' z_ua vs):=fun w' h=>(HB.out.kept Aa.out).kept h
  generalize hn:xs.length=xn at *
  generalize hm:zs.length=zn at *
  have HN:=hid hn
  have HM:=hid hm
  clear hn hm
  by_cases hlen:xn=zn
  · subst hlen
    go_wp2_with (first|(go_at_call 195;refine(Hru.out _ _ _ _ _ (Qf.out _ bt) (Zg.out _ bt)).mono ?_;rintro e w' ⟨rfl,hb⟩;have HW:Hid (Below V.heap.size V w'):=ZT bt hb;clear hb;have KK:=HS.out _ HW.out;try cases ru)|fail)
    all_goals first
     |(go_ret;exact RetB.of (by have hR:=HR.out;simp_all<;>grind) (ZT Aa.out bt))
     |skip
    all_goals
     have Af:Hid (R=eqAll (fun y v=>f (y,v)) xs zs):=by show _=_;rw[<-HE.out];have hR:=HR.out;simp_all<;>grind
     have Lc:Hid (Below V.heap.size V w'):=HW
     clear HR HE
     go_loopw [5] (fun v wr=>∃ i:Nat,i<=xn/\v=.int .i64 i/\Hid (R=eqAll (fun y v=>f (y,v)) (xs.drop i) (zs.drop i))/\Hid (Below V.heap.size V wr)) (fun v _=>xn - (intOf v).toNat)
     case atStart=>exact⟨0,by omega,rfl,Af,Lc⟩
     case round =>
      obtain⟨i,hi,rfl,HI,hB⟩:=hrel
      have KK:=HS.out _ hB.out
      by_cases hlt:i<xn
      · obtain⟨y,hy⟩:∃ y,xs[i]?=some y:=⟨xs[i]'(by have:=HN.out;omega),List.getElem?_eq_getElem _⟩
        obtain⟨v,hv⟩:∃ v,zs[i]?=some v:=⟨zs[i]'(by have:=HM.out;omega),List.getElem?_eq_getElem _⟩
        obtain⟨b1,o1,rfl,Da⟩:=(HL.out.kept Aa.out).some (by have:=HN.out;omega)
        obtain⟨b2,o2,rfl,Bb⟩:=(GL.out.kept Aa.out).some (by have:=HM.out;omega)
        obtain⟨c0,c1,c2,c3,c4,c5,c6,c7,c8,c9,c10,c11⟩:=Ex.cell Da hy
        obtain⟨d0,d1,d2,d3,d4,d5,d6,d7,d8,d9,d10,d11⟩:=Ex.cell Bb hv
        have Nj:=hid (List.mem_of_getElem? hy)
        have Tp:=hid (List.mem_of_getElem? hv)
        have HQ:Hid (R=(f (y,v)&&eqAll (fun y v=>f (y,v)) (xs.drop (i+1)) (zs.drop (i+1)))):=HI.out.trans (ZdZ hy hv)
        have Eb:Hid (∀ w',Below V.heap.size V w'->Below V.heap.size V w'/\w'.cell? ⟨w.heap.size,11,none⟩=some (.slice (some ⟨b1,o1,none⟩) xn x_xc)/\w'.cell? ⟨w.heap.size+1,11,none⟩=some (.slice (some ⟨b2,o2,none⟩) xn z_xc)/\w'.cell? ⟨b1,o1+i*12,none⟩=some (.int .i64 y.k)/\w'.cell? ⟨b1,o1+i*12+1,none⟩=some (.string y.o)/\w'.cell? ⟨b1,o1+i*12+2,none⟩=some (.string y.m)/\w'.cell? ⟨b1,o1+i*12+3,none⟩=some (.string y.t)/\w'.cell? ⟨b1,o1+i*12+4,none⟩=some (.int .i64 y.vk)/\w'.cell? ⟨b1,o1+i*12+5,none⟩=some (.int .i64 y.vn)/\w'.cell? ⟨b1,o1+i*12+6,none⟩=some (.string y.vs)/\w'.cell? ⟨b1,o1+i*12+7,none⟩=some (.slice y.ua y.un y.uc)/\w'.cell? ⟨b1,o1+i*12+8,none⟩=some (.int .i64 y.p)/\w'.cell? ⟨b1,o1+i*12+9,none⟩=some (.int .i64 y.wk)/\w'.cell? ⟨b1,o1+i*12+10,none⟩=some (.int .i64 y.wz)/\w'.cell? ⟨b1,o1+i*12+11,none⟩=some (.slice y.xa y.xn y.xc)/\w'.cell? ⟨b2,o2+i*12,none⟩=some (.int .i64 v.k)/\w'.cell? ⟨b2,o2+i*12+1,none⟩=some (.string v.o)/\w'.cell? ⟨b2,o2+i*12+2,none⟩=some (.string v.m)/\w'.cell? ⟨b2,o2+i*12+3,none⟩=some (.string v.t)/\w'.cell? ⟨b2,o2+i*12+4,none⟩=some (.int .i64 v.vk)/\w'.cell? ⟨b2,o2+i*12+5,none⟩=some (.int .i64 v.vn)/\w'.cell? ⟨b2,o2+i*12+6,none⟩=some (.string v.vs)/\w'.cell? ⟨b2,o2+i*12+7,none⟩=some (.slice v.ua v.un v.uc)/\w'.cell? ⟨b2,o2+i*12+8,none⟩=some (.int .i64 v.p)/\w'.cell? ⟨b2,o2+i*12+9,none⟩=some (.int .i64 v.wk)/\w'.cell? ⟨b2,o2+i*12+10,none⟩=some (.int .i64 v.wz)/\w'.cell? ⟨b2,o2+i*12+11,none⟩=some (.slice v.xa v.xn v.xc)):=fun w' h=>⟨h,(HS.out w' h).1.2.2.2.2.2.2.2.2.2.2.2.1,(HS.out w' h).2.2.2.2.2.2.2.2.2.2.2.2.1,Zaa c0 h,Zaa c1 h,Zaa c2 h,Zaa c3 h,Zaa c4 h,Zaa c5 h,Zaa c6 h,Zaa c7 h,Zaa c8 h,Zaa c9 h,Zaa c10 h,Zaa c11 h,Zaa d0 h,Zaa d1 h,Zaa d2 h,Zaa d3 h,Zaa d4 h,Zaa d5 h,Zaa d6 h,Zaa d7 h,Zaa d8 h,Zaa d9 h,Zaa d10 h,Zaa d11 h⟩
        have Je:Hid (Below V.heap.size V wr):=hB
        clear Da Bb hy hv c0 c1 c2 c3 c4 c5 c6 c7 c8 c9 c10 c11 d0 d1 d2 d3 d4 d5 d6 d7 d8 d9 d10 d11 HI
        go_wp2_with fail
        go_region_held3 (fun w'=>Below V.heap.size V w'/\w'.cell? ⟨w.heap.size,11,none⟩=some (.slice (some ⟨b1,o1,none⟩) xn x_xc)/\w'.cell? ⟨w.heap.size+1,11,none⟩=some (.slice (some ⟨b2,o2,none⟩) xn z_xc)/\w'.cell? ⟨b1,o1+i*12,none⟩=some (.int .i64 y.k)/\w'.cell? ⟨b1,o1+i*12+1,none⟩=some (.string y.o)/\w'.cell? ⟨b1,o1+i*12+2,none⟩=some (.string y.m)/\w'.cell? ⟨b1,o1+i*12+3,none⟩=some (.string y.t)/\w'.cell? ⟨b1,o1+i*12+4,none⟩=some (.int .i64 y.vk)/\w'.cell? ⟨b1,o1+i*12+5,none⟩=some (.int .i64 y.vn)/\w'.cell? ⟨b1,o1+i*12+6,none⟩=some (.string y.vs)/\w'.cell? ⟨b1,o1+i*12+7,none⟩=some (.slice y.ua y.un y.uc)/\w'.cell? ⟨b1,o1+i*12+8,none⟩=some (.int .i64 y.p)/\w'.cell? ⟨b1,o1+i*12+9,none⟩=some (.int .i64 y.wk)/\w'.cell? ⟨b1,o1+i*12+10,none⟩=some (.int .i64 y.wz)/\w'.cell? ⟨b1,o1+i*12+11,none⟩=some (.slice y.xa y.xn y.xc)/\w'.cell? ⟨b2,o2+i*12,none⟩=some (.int .i64 v.k)/\w'.cell? ⟨b2,o2+i*12+1,none⟩=some (.string v.o)/\w'.cell? ⟨b2,o2+i*12+2,none⟩=some (.string v.m)/\w'.cell? ⟨b2,o2+i*12+3,none⟩=some (.string v.t)/\w'.cell? ⟨b2,o2+i*12+4,none⟩=some (.int .i64 v.vk)/\w'.cell? ⟨b2,o2+i*12+5,none⟩=some (.int .i64 v.vn)/\w'.cell? ⟨b2,o2+i*12+6,none⟩=some (.string v.vs)/\w'.cell? ⟨b2,o2+i*12+7,none⟩=some (.slice v.ua v.un v.uc)/\w'.cell? ⟨b2,o2+i*12+8,none⟩=some (.int .i64 v.p)/\w'.cell? ⟨b2,o2+i*12+9,none⟩=some (.int .i64 v.wk)/\w'.cell? ⟨b2,o2+i*12+10,none⟩=some (.int .i64 v.wz)/\w'.cell? ⟨b2,o2+i*12+11,none⟩=some (.slice v.xa v.xn v.xc))
         (first|assumption|exact Eb.out _ (ZT (And.left (by assumption)) hb)|exact Eb.out _ (ZD Je.out)|exact Eb.out _ (ZD (And.left (by assumption)))|exact Eb.out _ (ZT Je.out hb)|exact Eb.out _ Je.out)
         (first|(go_at_call 178;refine(HF.out y v Nj.out Tp.out _ (Ga.out.trans (Below.mono (And.left (by assumption)) Ga.out.size))).mono ?_;rintro e w' ⟨rfl,hb⟩))
        have Wb:Hid (Below V.heap.size V w'):=And.left (by assumption)
        generalize f (y,v)=q at *
        cases q
        all_goals
         go_wp2_with fail
         first
          |(go_ret;exact RetB.of HQ.out.symm (ZT Aa.out Wb.out))
          |(go_roundw;(case rel=>exact⟨i+1,by omega,by go_num,HQ,Wb⟩);(case measure=>simp[intOf];omega))
      · go_wp2_with fail
        go_ret
        exact RetB.of (HI.out.trans (Zc0 (by have:=HN.out;omega) (by have:=HM.out;omega))).symm (ZT Aa.out hB.out)
  · have St:Hid (E=false):=HE.out.trans (Zcr (by have:=HN.out;have:=HM.out;omega))
    have Ke:Hid (R=false):=by show _=_;rw[HR.out,St.out,Bool.and_false]
    go_wp2_with (first|(go_at_call 195;refine(Hru.out _ _ _ _ _ (Qf.out _ bt) (Zg.out _ bt)).mono ?_;rintro e w' ⟨rfl,hb⟩;have HW:Hid (Below V.heap.size V w'):=ZT bt hb;clear hb;have KK:=HS.out _ HW.out;try cases ru)|fail)
    all_goals
     go_ret
     exact RetB.of Ke.out.symm (ZT Aa.out bt)
theorem trueX_at (n:Nat)(w:World):ExAt (n+1) w trueX:=⟨ZaH.nil _ _,by decide,[],rfl,by decide,Zac.nil _ _,fun y hy=>(by cases hy)⟩
theorem trueX_of {n:Nat}{w w':World}{y:Ex}(h:ExAt n w y):ExAt n w' trueX:=by
 cases n with
 |zero=>exact h.elim
 |succ n=>exact trueX_at n w'
def headB (s:Ex->Bool):List Ex->Bool
 |y :: _=>s y
 |[]=>true
theorem headB_at {s:Ex->Bool}{xs:List Ex}{y:Ex}(h:xs[0]?=some y):headB s xs=s y:=by
 cases xs with
 |nil=>cases h
 |cons x xs=>injection h with h;subst h;rfl
theorem all_at {α:Type}{g:α->Bool}{xs:List α}{i:Nat}{x:α}(hx:xs[i]?=some x):(xs.drop i).all g=(g x&&(xs.drop (i+1)).all g):=by rw[ZaD hx];rfl
theorem all_over {α:Type}{g:α->Bool}{xs:List α}{i:Nat}(h:xs.length<=i):(xs.drop i).all g=true:=by rw[List.drop_of_length_le h];rfl
theorem form_det (hagg:AggOk)(w0:World):∀ (n:Nat) (x:Ex) (ins:Bool),ExAt n w0 x->∃ r:Bool,(r=true->Shaped n w0 x)/\∀ w,Below w0.heap.size w0 w->Calls prog 203 #[x.val,.bool ins] w (RetB r w)
 |0,_,_,h=>h.elim
 |n+1,⟨x_k,x_o,x_m,x_t,x_vk,x_vn,x_vs,x_ua,x_un,x_uc,x_p,x_wk,x_wz,x_xa,x_xn,x_xc⟩,ins,h=>by
  obtain⟨ux,hvs,xs,hxn,hxl,hl,hy⟩:=h
  obtain⟨us,hun,hus⟩:=ux.is
  dsimp only at hxn hl hvs hun hus
  subst hxn hun
  obtain⟨f,hf⟩:=ZbY (D:=fun p:Ex × Bool=>p.1∈xs) (fun p h=>form_det hagg w0 n p.1 p.2 (hy p.1 h))
  have HF:Hid (∀ y b,y∈xs->∀ w,Below w0.heap.size w0 w->Calls prog 203 #[y.val,.bool b] w (RetB (f (y,b)) w)):=fun y b h1=>(hf (y,b) h1).2
  have Jn:Hid (∀ y b,y∈xs->f (y,b)=true->Shaped n w0 y):=fun y b h1=>(hf (y,b) h1).1
  obtain⟨s,hs⟩:=ZbY (D:=fun y:Ex=>y∈xs) (fun y h=>same10_det w0 n y trueX (hy y h) (trueX_of (hy y h)))
  have Ag:=hid hs
  obtain⟨rn,hnk,hnd⟩:=node_det hagg x_k x_o x_m x_t x_vk x_vn x_vs x_ua x_uc x_p x_wk x_wz x_xa xs.length x_xc ins us hvs
  obtain⟨ar,har⟩:∃ ar,arity x_k=ar:=⟨_,rfl⟩
  have Sw:Hid (∀ w,UnIs w x_ua us->Calls prog 211 #[.agg #[.int .i64 x_k,.string x_o,.string x_m,.string x_t,.int .i64 x_vk,.int .i64 x_vn,.string x_vs,.slice x_ua us.length x_uc,.int .i64 x_p,.int .i64 x_wk,.int .i64 x_wz,.slice x_xa xs.length x_xc],.bool ins] w (fun e w'=>e=.returned (.tuple #[.int .i64 (ar:Nat),.bool rn])/\Below w.heap.size w w')):=fun w h=>(hnd w h).mono (fun e w' h=>by rw[<-har];exact h)
  obtain⟨F,hF⟩:∃ F,F=(!(x_k==5)||(!(x_o.toList==([99,111,117,110,116]:List UInt8))||headB s xs)):=⟨_,rfl⟩
  obtain⟨R,hR⟩:∃ R,R=(rn&&(decide (xs.length=ar)&&(xs.all (fun y=>f (y,ins||(x_k==5)))&&F))):=⟨_,rfl⟩
  have Rx:=hid hF
  have HR:=hid hR
  have HAR:=hid har
  refine⟨R,fun h=>?_,fun w hw=>?_⟩
  · rw[hR]at h
    simp only[Bool.and_eq_true,decide_eq_true_eq,List.all_eq_true]at h
    exact⟨hnk h.1,by dsimp only;rw[h.2.1,har],xs,rfl,hl,fun y hy=>Jn.out y _ hy (h.2.2.1 y hy)⟩
  clear hf hs hnd hnk hF hR har ux hy
  have HL:=hid (hl.kept hw)
  have HA:=hid (hus.kept hw)
  have Ja:=hid hw
  clear hl hus hw
  dsimp only[Ex.val]
  go_enter func203,ntmps203
  go_upto_region 1 with fail
  refine gen1 (fun V B0 Aa=>?_)
  have HS:=hs1 B0
  simp only[Cl,Nat.reduceAdd]at HS
  have KK:=HS.out V (ZR V)
  have Ga:Hid (Below w0.heap.size w0 V):=Ja.out.trans (Aa.out.mono Ja.out.size)
  have Qf:Hid (∀ w',Below V.heap.size V w'->UnIs w' x_ua us):=fun w' h=>(HA.out.kept Aa.out).kept h
  generalize hn:xs.length=xn at *
  have HN:=hid hn
  clear hn
  by_cases hlen:xn=ar
  · subst hlen
    go_wp2_with (first|(go_at_call 211;refine(Sw.out _ (Qf.out _ bt)).mono ?_;rintro e w' ⟨rfl,hb⟩;have HW:Hid (Below V.heap.size V w'):=ZT bt hb;clear hb;have KK:=HS.out _ HW.out;cases rn)|fail)
    all_goals first
     |(go_ret;exact RetB.of (by rw[HR.out];rfl) (ZT Aa.out bt))
     |skip
    all_goals
     have Af:Hid (R=(xs.all (fun y=>f (y,ins||(x_k==5)))&&F)):=by show _=_;rw[HR.out];simp
     have Lc:Hid (Below V.heap.size V w'):=HW
     clear HR Sw
     go_loopw [7] (fun v wr=>∃ i:Nat,i<=xn/\v=.int .i64 i/\Hid (R=((xs.drop i).all (fun y=>f (y,ins||(x_k==5)))&&F))/\Hid (Below V.heap.size V wr)) (fun v _=>xn - (intOf v).toNat)
     case atStart=>exact⟨0,by omega,rfl,Af,Lc⟩
     case round =>
      obtain⟨i,hi,rfl,HI,hB⟩:=hrel
      clear Af
      have KK:=HS.out _ hB.out
      by_cases hlt:i<xn
      · obtain⟨y,hy⟩:∃ y,xs[i]?=some y:=⟨xs[i]'(by have:=HN.out;omega),List.getElem?_eq_getElem _⟩
        have Nj:=hid (List.mem_of_getElem? hy)
        obtain⟨q5,Wk⟩:∃ q,(x_k==5)=q:=⟨_,rfl⟩
        have HQ:Hid (R=((f (y,ins||q5)&&(xs.drop (i+1)).all (fun y=>f (y,ins||(x_k==5))))&&F)):=by show _=_;rw[HI.out,all_at hy,Wk]
        obtain⟨b1,o1,rfl,Da⟩:=(HL.out.kept Aa.out).some (by have:=HN.out;omega)
        obtain⟨c0,c1,c2,c3,c4,c5,c6,c7,c8,c9,c10,c11⟩:=Ex.cell Da hy
        have Eb:Hid (∀ w',Below V.heap.size V w'->Below V.heap.size V w'/\w'.cell? ⟨w.heap.size,0,none⟩=some (.int .i64 x_k)/\w'.cell? ⟨w.heap.size,11,none⟩=some (.slice (some ⟨b1,o1,none⟩) xn x_xc)/\w'.cell? ⟨b1,o1+i*12,none⟩=some (.int .i64 y.k)/\w'.cell? ⟨b1,o1+i*12+1,none⟩=some (.string y.o)/\w'.cell? ⟨b1,o1+i*12+2,none⟩=some (.string y.m)/\w'.cell? ⟨b1,o1+i*12+3,none⟩=some (.string y.t)/\w'.cell? ⟨b1,o1+i*12+4,none⟩=some (.int .i64 y.vk)/\w'.cell? ⟨b1,o1+i*12+5,none⟩=some (.int .i64 y.vn)/\w'.cell? ⟨b1,o1+i*12+6,none⟩=some (.string y.vs)/\w'.cell? ⟨b1,o1+i*12+7,none⟩=some (.slice y.ua y.un y.uc)/\w'.cell? ⟨b1,o1+i*12+8,none⟩=some (.int .i64 y.p)/\w'.cell? ⟨b1,o1+i*12+9,none⟩=some (.int .i64 y.wk)/\w'.cell? ⟨b1,o1+i*12+10,none⟩=some (.int .i64 y.wz)/\w'.cell? ⟨b1,o1+i*12+11,none⟩=some (.slice y.xa y.xn y.xc)):=fun w' h=>⟨h,(HS.out w' h).1,(HS.out w' h).2.2.2.2.2.2.2.2.2.2.2.1,Zaa c0 h,Zaa c1 h,Zaa c2 h,Zaa c3 h,Zaa c4 h,Zaa c5 h,Zaa c6 h,Zaa c7 h,Zaa c8 h,Zaa c9 h,Zaa c10 h,Zaa c11 h⟩
        have Je:Hid (Below V.heap.size V wr):=hB
        clear Da hy c0 c1 c2 c3 c4 c5 c6 c7 c8 c9 c10 c11 HI
        have KK:=Eb.out _ hB.out
        obtain⟨-,-,-,c0,c1,c2,c3,c4,c5,c6,c7,c8,c9,c10,c11⟩:=KK
        generalize hT:(xs.drop (i+1)).all (fun y=>f (y,ins||(x_k==5)))=T at HQ
        have HT:=hid hT
        clear hT
        obtain⟨q,Zc,HFY⟩:∃ q,Hid (R=((q&&T)&&F))/\Hid (∀ w,Below w0.heap.size w0 w->Calls prog 203 #[y.val,.bool (ins||q5)] w (RetB q w)):=⟨_,HQ,HF.out y _ Nj.out⟩
        clear HQ
        cases ins<;>cases q5
        all_goals
         go_wp2_with fail
         go_still_tail 11,(by kernel_rfl)
         change wpList _ _ _ _ _ wr.drew
         go_wp2_with (first|(go_at_call 203;refine(HFY.out _ (Ga.out.trans (Below.mono (ZD hB.out) Ga.out.size))).mono ?_;rintro e w' ⟨rfl,hb⟩;have Wb:Hid (Below V.heap.size V w'):=ZT (ZD hB.out) hb;clear hb;cases q)|fail)
         all_goals first
          |(go_ret;exact RetB.of (by rw[Zc.out];rfl) (ZT Aa.out Wb.out))
          |(go_roundw;(case rel=>exact⟨i+1,by omega,by go_num,(by show _=_;rw[Zc.out,<-HT.out];rfl),Wb⟩);(case measure=>simp[intOf];omega))
      · obtain rfl:i=xn:=by omega
        have Zm:Hid (R=F):=by show _=_;rw[HI.out,all_over (by have:=HN.out;omega)];rfl
        clear HI
        by_cases Rd:x_k=5
        · have e5:(x_k != 5)=false:=by simp[Rd]
          by_cases hc:(x_o.toList==[99,111,117,110,116])=true
          · have e6:(x_o.toList != [99,111,117,110,116])=false:=by simpa using hc
            have hi0:0<i:=by have:=HAR.out;rw[Rd]at this;simp[arity]at this;omega
            obtain⟨y,hy⟩:∃ y,xs[0]?=some y:=⟨xs[0]'(by have:=HN.out;omega),List.getElem?_eq_getElem _⟩
            have Nj:=hid (List.mem_of_getElem? hy)
            have Zj:Hid (R=s y):=by show _=_;rw[Zm.out,Rx.out,hc,headB_at hy,Rd];rfl
            obtain⟨b1,o1,rfl,Da⟩:=(HL.out.kept Aa.out).some (by have:=HN.out;omega)
            have hcc:=Ex.cell Da hy
            simp only[Nat.zero_mul,Nat.add_zero]at hcc
            obtain⟨c0,c1,c2,c3,c4,c5,c6,c7,c8,c9,c10,c11⟩:=hcc
            have Eb:Hid (∀ w',Below wr.heap.size wr w'->Below wr.heap.size wr w'/\w'.cell? ⟨w.heap.size,0,none⟩=some (.int .i64 x_k)/\w'.cell? ⟨w.heap.size,1,none⟩=some (.string x_o)/\w'.cell? ⟨w.heap.size,11,none⟩=some (.slice (some ⟨b1,o1,none⟩) i x_xc)/\w'.cell? ⟨b1,o1,none⟩=some (.int .i64 y.k)/\w'.cell? ⟨b1,o1+1,none⟩=some (.string y.o)/\w'.cell? ⟨b1,o1+2,none⟩=some (.string y.m)/\w'.cell? ⟨b1,o1+3,none⟩=some (.string y.t)/\w'.cell? ⟨b1,o1+4,none⟩=some (.int .i64 y.vk)/\w'.cell? ⟨b1,o1+5,none⟩=some (.int .i64 y.vn)/\w'.cell? ⟨b1,o1+6,none⟩=some (.string y.vs)/\w'.cell? ⟨b1,o1+7,none⟩=some (.slice y.ua y.un y.uc)/\w'.cell? ⟨b1,o1+8,none⟩=some (.int .i64 y.p)/\w'.cell? ⟨b1,o1+9,none⟩=some (.int .i64 y.wk)/\w'.cell? ⟨b1,o1+10,none⟩=some (.int .i64 y.wz)/\w'.cell? ⟨b1,o1+11,none⟩=some (.slice y.xa y.xn y.xc)):=fun w' h=>⟨h,(HS.out w' (ZT hB.out h)).1,(HS.out w' (ZT hB.out h)).2.1,(HS.out w' (ZT hB.out h)).2.2.2.2.2.2.2.2.2.2.2.1,Zaa c0 (ZT hB.out h),Zaa c1 (ZT hB.out h),Zaa c2 (ZT hB.out h),Zaa c3 (ZT hB.out h),Zaa c4 (ZT hB.out h),Zaa c5 (ZT hB.out h),Zaa c6 (ZT hB.out h),Zaa c7 (ZT hB.out h),Zaa c8 (ZT hB.out h),Zaa c9 (ZT hB.out h),Zaa c10 (ZT hB.out h),Zaa c11 (ZT hB.out h)⟩
            have Je:Hid (Below wr.heap.size wr wr):=ZR wr
            have Yr:Hid (Below w0.heap.size w0 wr):=Ga.out.trans (Below.mono hB.out Ga.out.size)
            have e8:(x_o.toList==[99,111,117,110,116])=true:=hc
            clear Da hy c0 c1 c2 c3 c4 c5 c6 c7 c8 c9 c10 c11 hc Rd
            go_wp2_with fail
            go_region_held3 (fun w'=>Below wr.heap.size wr w'/\w'.cell? ⟨w.heap.size,0,none⟩=some (.int .i64 x_k)/\w'.cell? ⟨w.heap.size,1,none⟩=some (.string x_o)/\w'.cell? ⟨w.heap.size,11,none⟩=some (.slice (some ⟨b1,o1,none⟩) i x_xc)/\w'.cell? ⟨b1,o1,none⟩=some (.int .i64 y.k)/\w'.cell? ⟨b1,o1+1,none⟩=some (.string y.o)/\w'.cell? ⟨b1,o1+2,none⟩=some (.string y.m)/\w'.cell? ⟨b1,o1+3,none⟩=some (.string y.t)/\w'.cell? ⟨b1,o1+4,none⟩=some (.int .i64 y.vk)/\w'.cell? ⟨b1,o1+5,none⟩=some (.int .i64 y.vn)/\w'.cell? ⟨b1,o1+6,none⟩=some (.string y.vs)/\w'.cell? ⟨b1,o1+7,none⟩=some (.slice y.ua y.un y.uc)/\w'.cell? ⟨b1,o1+8,none⟩=some (.int .i64 y.p)/\w'.cell? ⟨b1,o1+9,none⟩=some (.int .i64 y.wk)/\w'.cell? ⟨b1,o1+10,none⟩=some (.int .i64 y.wz)/\w'.cell? ⟨b1,o1+11,none⟩=some (.slice y.xa y.xn y.xc))
             (first|assumption|exact Eb.out _ (ZT (And.left (by assumption)) hb)|exact Eb.out _ (ZD Je.out)|exact Eb.out _ (ZD (And.left (by assumption)))|exact Eb.out _ (ZT Je.out hb)|exact Eb.out _ Je.out)
             (first|(go_at_call 213;refine(true_any _).mono ?_;rintro e w' ⟨rfl,hb⟩)|(go_at_call 212;refine(Ag.out y Nj.out _ (Yr.out.trans (Below.mono (And.left (by assumption)) Yr.out.size))).mono ?_;rintro e w' ⟨rfl,hb⟩))
            have Wb:Hid (Below wr.heap.size wr w'):=And.left (by assumption)
            go_wp2_with fail
            go_ret
            exact RetB.of Zj.out.symm (ZT Aa.out (ZT hB.out Wb.out))
          · have e6:(x_o.toList != [99,111,117,110,116])=true:=by simpa using hc
            have e7:(x_o.toList==[99,111,117,110,116])=false:=by simpa using hc
            have Zj:Hid (R=true):=by show _=_;rw[Zm.out,Rx.out,e7];simp
            clear hc Rd
            go_wp2_with fail
            go_quiet (fail)
            go_wp2_with fail
            go_ret
            exact RetB.of Zj.out.symm (ZT Aa.out (ZT hB.out bt))
        · have e5:(x_k != 5)=true:=by simpa using Rd
          have Zj:Hid (R=true):=by show _=_;rw[Zm.out,Rx.out,beq_eq_false_iff_ne.2 Rd];rfl
          clear Rd
          go_wp2_with fail
          go_quiet (fail)
          go_wp2_with fail
          go_ret
          exact RetB.of Zj.out.symm (ZT Aa.out (ZT hB.out bt))
  · have hne:((xn:Int) != (ar:Int))=true:=by simp only[bne_iff_ne,ne_eq];omega
    have Th:Hid (R=false):=by show _=_;rw[HR.out];simp[hlen]
    go_wp2_with (first|(go_at_call 211;refine(Sw.out _ (Qf.out _ bt)).mono ?_;rintro e w' ⟨rfl,hb⟩;have HW:Hid (Below V.heap.size V w'):=ZT bt hb;clear hb;have KK:=HS.out _ HW.out;cases rn)|fail)
    all_goals
     go_ret
     exact RetB.of Th.out.symm (ZT Aa.out bt)
theorem Zdj (a_k:Int)(a_o:ByteArray)(b_k:Int)(b_o:ByteArray)(us vs:List FID):∃ r:Bool,∀ (a_ua:Option Addr) (a_uc:Nat) (b_ua:Option Addr) (b_uc:Nat) (w:World),UnIs w a_ua us->UnIs w b_ua vs->Calls prog 177 #[.agg #[.int .i64 a_k,.slice a_ua us.length a_uc,.string a_o],.agg #[.int .i64 b_k,.slice b_ua vs.length b_uc,.string b_o]] w (RetB r w):=by
 obtain⟨r,hr⟩:=same_det12 us vs
 have Hr:=hid hr
 clear hr
 obtain⟨e1,Og⟩:∃ q,(a_k==b_k)=q:=⟨_,rfl⟩
 obtain⟨e2,Yc⟩:∃ q,(a_o.toList==b_o.toList)=q:=⟨_,rfl⟩
 obtain⟨R,hR⟩:∃ R:Bool,R=(e1&&(e2&&r)):=⟨_,rfl⟩
 have HR:=hid hR
 clear hR
 refine⟨R,fun a_ua a_uc b_ua b_uc w h0 h1=>?_⟩
 have HA:=hid h0
 have HB:=hid h1
 clear h0 h1
 go_enter func177,ntmps177
 go_upto_region 1 with fail
 refine gen2 (fun V B0 B1 Aa=>?_)
 have HS:=hs2 B0 B1
 simp only[Cl,Nat.reduceAdd]at HS
 have KK:=HS.out V (ZR V)
 have Qf:Hid (∀ w',Below V.heap.size V w'->UnIs w' a_ua us):=fun w' h=>(HA.out.kept Aa.out).kept h
 have Zg:Hid (∀ w',Below V.heap.size V w'->UnIs w' b_ua vs):=fun w' h=>(HB.out.kept Aa.out).kept h
 go_wp2_with (first|(go_at_call 195;refine(Hr.out _ _ _ _ _ (Qf.out _ bt) (Zg.out _ bt)).mono ?_;rintro e w' ⟨rfl,hb⟩;have HW:Hid (Below V.heap.size V w'):=ZT bt hb;clear hb;have KK:=HS.out _ HW.out;cases r)|fail)
 all_goals
  go_ret
  exact RetB.of (by have hR:=HR.out;simp_all<;>grind) (ZT Aa.out bt)
theorem shape_det (hagg:AggOk)(w0:World)(n:Nat)(x_k:Int)(x_o:ByteArray)(x_m:ByteArray)(x_t:ByteArray)(x_vk:Int)(x_vn:Int)(x_vs:ByteArray)(x_ua:Option Addr)(x_un:Nat)(x_uc:Nat)(x_p:Int)(x_wk:Int)(x_wz:Int)(x_xa:Option Addr)(x_xn:Nat)(x_xc:Nat)(h:ExAt n w0 ⟨x_k,x_o,x_m,x_t,x_vk,x_vn,x_vs,x_ua,x_un,x_uc,x_p,x_wk,x_wz,x_xa,x_xn,x_xc⟩):∃ r:Bool,(r=true->Shaped n w0 ⟨x_k,x_o,x_m,x_t,x_vk,x_vn,x_vs,x_ua,x_un,x_uc,x_p,x_wk,x_wz,x_xa,x_xn,x_xc⟩)/\∀ (w:World),Below w0.heap.size w0 w->Calls prog 190 #[.agg #[.int .i64 x_k,.string x_o,.string x_m,.string x_t,.int .i64 x_vk,.int .i64 x_vn,.string x_vs,.slice x_ua x_un x_uc,.int .i64 x_p,.int .i64 x_wk,.int .i64 x_wz,.slice x_xa x_xn x_xc]] w (RetZ r w):=by
 obtain⟨sz,h1⟩:=size_det w0 n _ h
 have Hsz:=hid h1
 clear h1
 obtain⟨dp,h2⟩:=depth_det w0 n _ h
 have Hdp:=hid h2
 clear h2
 obtain⟨rf,hsh,hf⟩:=form_det hagg w0 n _ false h
 have Hrf:=hid hf
 clear hf
 obtain⟨R,hR⟩:∃ R:Bool,R=(!decide (64<sz)&&(!decide (12<dp)&&rf)):=⟨_,rfl⟩
 have HR:=hid hR
 clear hR
 refine⟨R,(fun h=>hsh (by rw[HR.out]at h;simp at h;exact h.2.2)),fun w h0=>?_⟩
 clear h hsh
 have Ja:=hid h0
 clear h0
 go_enter func190,ntmps190
 go_upto_region 1 with fail
 refine gen1 (fun V B0 Aa=>?_)
 have HS:=hs1 B0
 simp only[Cl,Nat.reduceAdd]at HS
 have KK:=HS.out V (ZR V)
 have Ga:Hid (Below w0.heap.size w0 V):=Ja.out.trans (Aa.out.mono Ja.out.size)
 go_wp2_with (first|(go_at_call 201;refine(Hsz.out _ (Ga.out.trans (Below.mono bt Ga.out.size))).mono ?_;rintro e w' ⟨rfl,hb⟩;have HW:Hid (Below V.heap.size V w'):=ZT bt hb;clear hb;have KK:=HS.out _ HW.out)|(go_at_call 202;refine(Hdp.out _ (Ga.out.trans (Below.mono bt Ga.out.size))).mono ?_;rintro e w' ⟨rfl,hb⟩;have HW:Hid (Below V.heap.size V w'):=ZT bt hb;clear hb;have KK:=HS.out _ HW.out)|(go_at_call 203;refine(Hrf.out _ (Ga.out.trans (Below.mono bt Ga.out.size))).mono ?_;rintro e w' ⟨rfl,hb⟩;have HW:Hid (Below V.heap.size V w'):=ZT bt hb;clear hb;have KK:=HS.out _ HW.out;cases rf)|fail)
 all_goals
  go_ret
  exact RetZ.of (by have hR:=HR.out;simp_all<;>grind) (by have hR:=HR.out;simp_all<;>grind) (ZT Aa.out bt)
theorem ZcS (a_m:ByteArray)(a_e:ByteArray)(a_tk:Int)(a_tua:Option Addr)(a_tuc:Nat)(a_to:ByteArray)(a_bk:Int)(a_bo:ByteArray)(a_bm:ByteArray)(a_bt:ByteArray)(a_bvk:Int)(a_bvn:Int)(a_bvs:ByteArray)(a_bua:Option Addr)(a_bun:Nat)(a_buc:Nat)(a_bp:Int)(a_bwk:Int)(a_bwz:Int)(a_bxa:Option Addr)(a_bxn:Nat)(a_bxc:Nat)(a_r:Int)(b_m:ByteArray)(b_e:ByteArray)(b_tk:Int)(b_tua:Option Addr)(b_tuc:Nat)(b_to:ByteArray)(b_bk:Int)(b_bo:ByteArray)(b_bm:ByteArray)(b_bt:ByteArray)(b_bvk:Int)(b_bvn:Int)(b_bvs:ByteArray)(b_bua:Option Addr)(b_bun:Nat)(b_buc:Nat)(b_bp:Int)(b_bwk:Int)(b_bwz:Int)(b_bxa:Option Addr)(b_bxn:Nat)(b_bxc:Nat)(b_r:Int)(us vs:List FID)(w0:World)(n:Nat)(hx:ExAt n w0 ⟨a_bk,a_bo,a_bm,a_bt,a_bvk,a_bvn,a_bvs,a_bua,a_bun,a_buc,a_bp,a_bwk,a_bwz,a_bxa,a_bxn,a_bxc⟩)(hz:ExAt n w0 ⟨b_bk,b_bo,b_bm,b_bt,b_bvk,b_bvn,b_bvs,b_bua,b_bun,b_buc,b_bp,b_bwk,b_bwz,b_bxa,b_bxn,b_bxc⟩):∃ r:Bool,∀ (w:World),Below w0.heap.size w0 w->UnIs w a_tua us->UnIs w b_tua vs->Calls prog 158 #[.agg #[.string a_m,.string a_e,.int .i64 a_tk,.slice a_tua us.length a_tuc,.string a_to,.int .i64 a_bk,.string a_bo,.string a_bm,.string a_bt,.int .i64 a_bvk,.int .i64 a_bvn,.string a_bvs,.slice a_bua a_bun a_buc,.int .i64 a_bp,.int .i64 a_bwk,.int .i64 a_bwz,.slice a_bxa a_bxn a_bxc,.int .i64 a_r],.agg #[.string b_m,.string b_e,.int .i64 b_tk,.slice b_tua vs.length b_tuc,.string b_to,.int .i64 b_bk,.string b_bo,.string b_bm,.string b_bt,.int .i64 b_bvk,.int .i64 b_bvn,.string b_bvs,.slice b_bua b_bun b_buc,.int .i64 b_bp,.int .i64 b_bwk,.int .i64 b_bwz,.slice b_bxa b_bxn b_bxc,.int .i64 b_r]] w (RetB r w):=by
 obtain⟨rt,h1⟩:=Zdj a_tk a_to b_tk b_to us vs
 have Hrt:=hid h1
 clear h1
 obtain⟨rx,h2⟩:=same12_det w0 n _ _ hx hz
 have Hrx:=hid h2
 clear h2
 obtain⟨e1,Og⟩:∃ q,(a_m.toList==b_m.toList)=q:=⟨_,rfl⟩
 obtain⟨e2,Yc⟩:∃ q,(a_e.toList==b_e.toList)=q:=⟨_,rfl⟩
 obtain⟨e3,Di⟩:∃ q,(a_r==b_r)=q:=⟨_,rfl⟩
 obtain⟨R,hR⟩:∃ R:Bool,R=(rt&&(rx&&(e1&&(e2&&e3)))):=⟨_,rfl⟩
 have HR:=hid hR
 clear hR
 refine⟨R,fun w h0 h1 h2=>?_⟩
 clear hx hz
 have Ja:=hid h0
 have HA:=hid h1
 have HB:=hid h2
 clear h0 h1 h2
 go_enter func158,ntmps158
 go_upto_region 1 with fail
 refine gen2 (fun V B0 B1 Aa=>?_)
 have HS:=hs2 B0 B1
 simp only[Cl,Nat.reduceAdd]at HS
 have KK:=HS.out V (ZR V)
 have Ga:Hid (Below w0.heap.size w0 V):=Ja.out.trans (Aa.out.mono Ja.out.size)
 have Qf:Hid (∀ w',Below V.heap.size V w'->UnIs w' a_tua us):=fun w' h=>(HA.out.kept Aa.out).kept h
 have Zg:Hid (∀ w',Below V.heap.size V w'->UnIs w' b_tua vs):=fun w' h=>(HB.out.kept Aa.out).kept h
 go_wp2_with (first|(go_at_call 177;refine(Hrt.out _ _ _ _ _ (Qf.out _ bt) (Zg.out _ bt)).mono ?_;rintro e w' ⟨rfl,hb⟩;have HW:Hid (Below V.heap.size V w'):=ZT bt hb;clear hb;have KK:=HS.out _ HW.out;cases rt)|(go_at_call 178;refine(Hrx.out _ (Ga.out.trans (Below.mono bt Ga.out.size))).mono ?_;rintro e w' ⟨rfl,hb⟩;have HW:Hid (Below V.heap.size V w'):=ZT bt hb;clear hb;have KK:=HS.out _ HW.out;cases rx)|fail)
 all_goals
  go_ret
  exact RetB.of (by have hR:=HR.out;simp_all<;>grind) (ZT Aa.out bt)
theorem own_det (hagg:AggOk)(a_m:ByteArray)(a_e:ByteArray)(a_tk:Int)(a_tua:Option Addr)(a_tuc:Nat)(a_to:ByteArray)(a_bk:Int)(a_bo:ByteArray)(a_bm:ByteArray)(a_bt:ByteArray)(a_bvk:Int)(a_bvn:Int)(a_bvs:ByteArray)(a_bua:Option Addr)(a_bun:Nat)(a_buc:Nat)(a_bp:Int)(a_bwk:Int)(a_bwz:Int)(a_bxa:Option Addr)(a_bxn:Nat)(a_bxc:Nat)(a_r:Int)(us:List FID)(w0:World)(n:Nat)(hx:ExAt n w0 ⟨a_bk,a_bo,a_bm,a_bt,a_bvk,a_bvn,a_bvs,a_bua,a_bun,a_buc,a_bp,a_bwk,a_bwz,a_bxa,a_bxn,a_bxc⟩):∃ r:Bool,(r=true->Shaped n w0 ⟨a_bk,a_bo,a_bm,a_bt,a_bvk,a_bvn,a_bvs,a_bua,a_bun,a_buc,a_bp,a_bwk,a_bwz,a_bxa,a_bxn,a_bxc⟩)/\∀ (w:World),Below w0.heap.size w0 w->UnIs w a_tua us->Calls prog 171 #[.agg #[.string a_m,.string a_e,.int .i64 a_tk,.slice a_tua us.length a_tuc,.string a_to,.int .i64 a_bk,.string a_bo,.string a_bm,.string a_bt,.int .i64 a_bvk,.int .i64 a_bvn,.string a_bvs,.slice a_bua a_bun a_buc,.int .i64 a_bp,.int .i64 a_bwk,.int .i64 a_bwz,.slice a_bxa a_bxn a_bxc,.int .i64 a_r]] w (RetZ r w):=by
 obtain⟨rt,h1⟩:=ZeA a_tk a_to us
 have Hrt:=hid h1
 clear h1
 obtain⟨q1,Fg⟩:∃ q,nameB a_m=q:=⟨_,rfl⟩
 have We:Hid (∀ w,Calls prog 140 #[.string a_m] w (RetB q1 w)):=by rw[<-Fg];exact fun w=>ZbJ _ w
 clear Fg
 obtain⟨q2,Ob⟩:∃ q,nameB a_e=q:=⟨_,rfl⟩
 have Ab:Hid (∀ w,Calls prog 140 #[.string a_e] w (RetB q2 w)):=by rw[<-Ob];exact fun w=>ZbJ _ w
 clear Ob
 obtain⟨rs,hsh,hs⟩:=shape_det hagg w0 n _ _ _ _ _ _ _ _ _ _ _ _ _ _ _ _ hx
 have Hrs:=hid hs
 clear hs
 obtain⟨e1,Og⟩:∃ q,decide (a_r<1)=q:=⟨_,rfl⟩
 obtain⟨e2,Yc⟩:∃ q,decide (1099511627776<a_r)=q:=⟨_,rfl⟩
 obtain⟨R,hR⟩:∃ R:Bool,R=((q1&&q2)&&(!e1&&(!e2&&(rt&&rs)))):=⟨_,rfl⟩
 have HR:=hid hR
 clear hR
 refine⟨R,(fun h=>hsh (by rw[HR.out]at h;simp at h;exact h.2.2.2.2)),fun w h0 h1=>?_⟩
 clear hx hsh
 have Ja:=hid h0
 have HA:=hid h1
 clear h0 h1
 go_enter func171,ntmps171
 go_upto_region 1 with fail
 refine gen1 (fun V B0 Aa=>?_)
 have HS:=hs1 B0
 simp only[Cl,Nat.reduceAdd]at HS
 have KK:=HS.out V (ZR V)
 have Ga:Hid (Below w0.heap.size w0 V):=Ja.out.trans (Aa.out.mono Ja.out.size)
 have Qf:Hid (∀ w',Below V.heap.size V w'->UnIs w' a_tua us):=fun w' h=>(HA.out.kept Aa.out).kept h
 go_wp2_with (first|(go_at_call 140;(with_reducible refine(We.out _).mono ?_);rintro e w' ⟨rfl,hb⟩;have HW:Hid (Below V.heap.size V w'):=ZT bt hb;clear hb;have KK:=HS.out _ HW.out;try cases q1)|(go_at_call 140;(with_reducible refine(Ab.out _).mono ?_);rintro e w' ⟨rfl,hb⟩;have HW:Hid (Below V.heap.size V w'):=ZT bt hb;clear hb;have KK:=HS.out _ HW.out;try cases q2)|(go_at_call 189;refine(Hrt.out _ _ _ (Qf.out _ bt)).mono ?_;rintro e w' ⟨n1,rfl,Ea,Fa,hb⟩;have HW:Hid (Below V.heap.size V w'):=ZT bt hb;clear hb;have KK:=HS.out _ HW.out;rcases retz Ea Fa with⟨Gm,rfl⟩|⟨Gm,n10⟩<;>clear Ea Fa)|(go_at_call 190;refine(Hrs.out _ (Ga.out.trans (Below.mono bt Ga.out.size))).mono ?_;rintro e w' ⟨n2,rfl,Ea,Fa,hb⟩;have HW:Hid (Below V.heap.size V w'):=ZT bt hb;clear hb;have KK:=HS.out _ HW.out;rcases retz Ea Fa with⟨hs1,rfl⟩|⟨hs1,n20⟩<;>clear Ea Fa)|fail)
 all_goals
  go_ret
  exact RetZ.of (by have hR:=HR.out;simp_all<;>grind) (by have hR:=HR.out;simp_all<;>grind) (ZT Aa.out bt)
theorem fdType_det (w0:World)(f g:Fd)(hf:ZaH w0 f.ua f.un)(hg:ZaH w0 g.ua g.un):∃ r:Bool,∀ w,Below w0.heap.size w0 w->Calls prog 177 #[.agg #[.int .i64 f.k,.slice f.ua f.un f.uc,.string f.o],.agg #[.int .i64 g.k,.slice g.ua g.un g.uc,.string g.o]] w (RetB r w):=by
 obtain⟨us,h1,hus⟩:=hf.is
 obtain⟨vs,h2,hvs⟩:=hg.is
 obtain⟨r,h⟩:=Zdj f.k f.o g.k g.o us vs
 rw[h1,h2]
 exact⟨r,fun w hw=>h _ _ _ _ w (hus.kept hw) (hvs.kept hw)⟩
theorem ZdN (a_m:ByteArray)(a_e:ByteArray)(a_fa:Option Addr)(a_fn:Nat)(a_fc:Nat)(a_p:Int)(b_m:ByteArray)(b_e:ByteArray)(b_fa:Option Addr)(b_fn:Nat)(b_fc:Nat)(b_p:Int)(w0:World)(ha:FdsAt w0 a_fa a_fn)(hb:FdsAt w0 b_fa b_fn):∃ r:Bool,∀ (w:World),Below w0.heap.size w0 w->Calls prog 157 #[.agg #[.string a_m,.string a_e,.slice a_fa a_fn a_fc,.int .i64 a_p],.agg #[.string b_m,.string b_e,.slice b_fa b_fn b_fc,.int .i64 b_p]] w (RetB r w):=by
 obtain⟨fs,rfl,hfl,hfu,hf⟩:=ha
 obtain⟨gs,rfl,hgl,hgu,hg⟩:=hb
 obtain⟨t,ht⟩:=ZbY (D:=fun p:Fd × Fd=>p.1∈fs/\p.2∈gs) (fun p h=>fdType_det w0 p.1 p.2 (hfu _ h.1) (hgu _ h.2))
 have Jc:Hid (∀ f g,f∈fs->g∈gs->∀ w,Below w0.heap.size w0 w->Calls prog 177 #[.agg #[.int .i64 f.k,.slice f.ua f.un f.uc,.string f.o],.agg #[.int .i64 g.k,.slice g.ua g.un g.uc,.string g.o]] w (RetB (t (f,g)) w)):=fun f g h1 h2=>ht (f,g) ⟨h1,h2⟩
 obtain⟨E,hE⟩:∃ E,E=eqAll (fun f g=>t (f,g)&&(f.m.toList==g.m.toList)) fs gs:=⟨_,rfl⟩
 obtain⟨e1,Og⟩:∃ q,(a_m.toList==b_m.toList)=q:=⟨_,rfl⟩
 obtain⟨e2,Yc⟩:∃ q,(a_e.toList==b_e.toList)=q:=⟨_,rfl⟩
 obtain⟨e3,Di⟩:∃ q,(a_p==b_p)=q:=⟨_,rfl⟩
 obtain⟨R,hR⟩:∃ R,R=((e1&&(e2&&e3))&&E):=⟨_,rfl⟩
 have Xx:=hid hE
 have HR:=hid hR
 clear ht hE hR hfu hgu
 refine⟨R,fun w hw=>?_⟩
 have Yj:=hid (hf.kept hw)
 have Vo:=hid (hg.kept hw)
 have Ja:=hid hw
 clear hf hg hw
 go_enter func157,ntmps157
 go_upto_region 1 with fail
 refine gen2 (fun V B0 B1 Aa=>?_)
 have HS:=hs2 B0 B1
 simp only[Cl,Nat.reduceAdd]at HS
 have KK:=HS.out V (ZR V)
 have Ga:Hid (Below w0.heap.size w0 V):=Ja.out.trans (Aa.out.mono Ja.out.size)
 generalize hn:fs.length=fn at *
 generalize hm:gs.length=gn at *
 have HN:=hid hn
 have HM:=hid hm
 clear hn hm
 by_cases hlen:fn=gn
 · subst hlen
   go_wp2_with fail
   all_goals first
    |(go_ret;exact RetB.of (by have hR:=HR.out;simp_all<;>grind) (ZT Aa.out bt))
    |skip
   all_goals
    have Af:Hid (R=eqAll (fun f g=>t (f,g)&&(f.m.toList==g.m.toList)) fs gs):=by show _=_;rw[<-Xx.out];have hR:=HR.out;simp_all <;>grind
    clear HR Xx
    go_loopw [5] (fun v wr=>∃ i:Nat,i<=fn/\v=.int .i64 i/\Hid (R=eqAll (fun f g=>t (f,g)&&(f.m.toList==g.m.toList)) (fs.drop i) (gs.drop i))/\Hid (Below V.heap.size V wr)) (fun v _=>fn - (intOf v).toNat)
    case atStart=>exact⟨0,by omega,rfl,Af,ZR V⟩
    case round =>
     obtain⟨i,hi,rfl,HI,hB⟩:=hrel
     have KK:=HS.out _ hB.out
     by_cases hlt:i<fn
     · try(exfalso;omega)
       all_goals
        obtain⟨f,hf⟩:∃ f,fs[i]?=some f:=⟨fs[i]'(by have:=HN.out;omega),List.getElem?_eq_getElem _⟩
        obtain⟨g,hg⟩:∃ g,gs[i]?=some g:=⟨gs[i]'(by have:=HM.out;omega),List.getElem?_eq_getElem _⟩
        obtain⟨b1,o1,rfl,Da⟩:=(Yj.out.kept Aa.out).some (by have:=HN.out;omega)
        obtain⟨b2,o2,rfl,Bb⟩:=(Vo.out.kept Aa.out).some (by have:=HM.out;omega)
        obtain⟨c0,c1,c2,c3⟩:=Fd.cell Da hf
        obtain⟨d0,d1,d2,d3⟩:=Fd.cell Bb hg
        obtain⟨q,HQ,HT⟩:∃ q,Hid (R=((q&&(f.m.toList==g.m.toList))&&eqAll (fun f g=>t (f,g)&&(f.m.toList==g.m.toList)) (fs.drop (i+1)) (gs.drop (i+1))))/\Hid (∀ w,Below w0.heap.size w0 w->Calls prog 177 #[.agg #[.int .i64 f.k,.slice f.ua f.un f.uc,.string f.o],.agg #[.int .i64 g.k,.slice g.ua g.un g.uc,.string g.o]] w (RetB q w)):=⟨_,HI.out.trans (ZdZ hf hg),Jc.out f g (List.mem_of_getElem? hf) (List.mem_of_getElem? hg)⟩
        have HE:Hid (∀ w',Below V.heap.size V w'->w'.cell? ⟨b1,o1+i*4,none⟩=some (.string f.m)/\w'.cell? ⟨b1,o1+i*4+1,none⟩=some (.int .i64 f.k)/\w'.cell? ⟨b1,o1+i*4+2,none⟩=some (.slice f.ua f.un f.uc)/\w'.cell? ⟨b1,o1+i*4+3,none⟩=some (.string f.o)/\w'.cell? ⟨b2,o2+i*4,none⟩=some (.string g.m)/\w'.cell? ⟨b2,o2+i*4+1,none⟩=some (.int .i64 g.k)/\w'.cell? ⟨b2,o2+i*4+2,none⟩=some (.slice g.ua g.un g.uc)/\w'.cell? ⟨b2,o2+i*4+3,none⟩=some (.string g.o)):=fun w' h=>⟨Zaa c0 h,Zaa c1 h,Zaa c2 h,Zaa c3 h,Zaa d0 h,Zaa d1 h,Zaa d2 h,Zaa d3 h⟩
        clear Da Bb hf hg c0 c1 c2 c3 d0 d1 d2 d3 HI
        have EE:=HE.out _ hB.out
        obtain⟨c0,c1,c2,c3,d0,d1,d2,d3⟩:=EE
        go_wp2_with fail
        go_still_tail 12,(by kernel_rfl)
        change wpList _ _ _ _ _ wr.drew
        go_wp2_with (first|(go_at_call 177;refine(HT.out _ (Ga.out.trans (Below.mono bt Ga.out.size))).mono ?_;rintro e w' ⟨rfl,hb⟩;have HW:Hid (Below V.heap.size V w'):=ZT bt hb;clear hb;have KK:=HS.out _ HW.out;have EE:=HE.out _ HW.out;obtain⟨c0,c1,c2,c3,d0,d1,d2,d3⟩:=EE;cases q)|fail)
        all_goals
         go_quiet (fail)
         go_wp2_with fail
        all_goals first
         |(go_ret;exact RetB.of (by have hR:=HQ.out;simp_all<;>grind) (ZT Aa.out bt))
         |(go_roundw;(case rel=>exact⟨i+1,by omega,by go_num,(by show _=_;have hR:=HQ.out;simp_all<;>grind),bt⟩);(case measure=>simp[intOf];omega))
     · go_wp2_with fail
       go_ret
       exact RetB.of (HI.out.trans (Zc0 (by have:=HN.out;omega) (by have:=HM.out;omega))).symm (ZT Aa.out hB.out)
 · have St:Hid (E=false):=Xx.out.trans (Zcr (by have:=HN.out;have:=HM.out;omega))
   have Ke:Hid (R=false):=by show _=_;rw[HR.out,St.out,Bool.and_false]
   go_wp2_with fail
   all_goals
    go_ret
    exact RetB.of Ke.out.symm (ZT Aa.out bt)
def okFd (t:Fd->Bool)(fs:List Fd)(i:Nat):Prop:=∀ f,fs[i]?=some f->nameB f.m=true/\(∀ k g,k<i->fs[k]?=some g->(g.m.toList==f.m.toList)=false)/\t f=true
theorem okFd_at {t:Fd->Bool}{fs:List Fd}{i:Nat}{f:Fd}(hf:fs[i]?=some f):okFd t fs i↔(nameB f.m=true/\(∀ k g,k<i->fs[k]?=some g->(g.m.toList==f.m.toList)=false)/\t f=true) :=
 ⟨fun h=>h f hf,fun h g hg=>by rw[hf]at hg;injection hg with hg;subst hg;exact h⟩
theorem fdTy_det (w0:World)(f:Fd)(hf:ZaH w0 f.ua f.un):∃ r:Bool,∀ w,Below w0.heap.size w0 w->Calls prog 189 #[.agg #[.int .i64 f.k,.slice f.ua f.un f.uc,.string f.o]] w (RetZ r w):=by
 obtain⟨us,h1,hus⟩:=hf.is
 obtain⟨r,h⟩:=ZeA f.k f.o us
 rw[h1]
 exact⟨r,fun w hw=>h _ _ w (hus.kept hw)⟩
theorem table_det (a_m:ByteArray)(a_e:ByteArray)(a_fa:Option Addr)(a_fn:Nat)(a_fc:Nat)(a_p:Int)(w0:World)(ha:FdsAt w0 a_fa a_fn):∃ r:Bool,∀ (w:World),Below w0.heap.size w0 w->Calls prog 188 #[.agg #[.string a_m,.string a_e,.slice a_fa a_fn a_fc,.int .i64 a_p]] w (RetZ r w):=by
 obtain⟨fs,rfl,hfl,hfu,hf⟩:=ha
 obtain⟨t,ht⟩:=ZbY (D:=fun f:Fd=>f∈fs) (fun f h=>fdTy_det w0 f (hfu _ h))
 have Jc:=hid ht
 obtain⟨q1,Fg⟩:∃ q,nameB a_m=q:=⟨_,rfl⟩
 have We:Hid (∀ w,Calls prog 140 #[.string a_m] w (RetB q1 w)):=by rw[<-Fg];exact fun w=>ZbJ _ w
 clear Fg
 obtain⟨q2,Ob⟩:∃ q,nameB a_e=q:=⟨_,rfl⟩
 have Ab:Hid (∀ w,Calls prog 140 #[.string a_e] w (RetB q2 w)):=by rw[<-Ob];exact fun w=>ZbJ _ w
 clear Ob
 generalize hn:fs.length=fn at *
 have HN:=hid hn
 clear hn
 obtain⟨e1,Og⟩:∃ q,decide (a_p<0)=q:=⟨_,rfl⟩
 obtain⟨e2,Yc⟩:∃ q,decide (1099511627776<a_p)=q:=⟨_,rfl⟩
 obtain⟨e3,Di⟩:∃ q,decide ((8:Int)<(fn:Int))=q:=⟨_,rfl⟩
 obtain⟨C,hC⟩:∃ C,C=(q1&&(q2&&(!e1&&(!e2&&!e3)))):=⟨_,rfl⟩
 obtain⟨R,hR⟩:=Zcs (C=true/\∀ i,i<fn->okFd t fs i)
 have HC:=hid hC
 have HR:=hid hR
 clear ht hC hR hfu
 refine⟨R,fun w hw=>?_⟩
 have Yj:=hid (hf.kept hw)
 have Ja:=hid hw
 clear hf hw
 go_enter func188,ntmps188
 go_upto_region 1 with fail
 refine gen1 (fun V B0 Aa=>?_)
 have HS:=hs1 B0
 simp only[Cl,Nat.reduceAdd]at HS
 have KK:=HS.out V (ZR V)
 have Ga:Hid (Below w0.heap.size w0 V):=Ja.out.trans (Aa.out.mono Ja.out.size)
 go_wp2_with (first|(go_at_call 140;(with_reducible refine(We.out _).mono ?_);rintro e w' ⟨rfl,hb⟩;have HW:Hid (Below V.heap.size V w'):=ZT bt hb;clear hb;have KK:=HS.out _ HW.out;try cases q1)|(go_at_call 140;(with_reducible refine(Ab.out _).mono ?_);rintro e w' ⟨rfl,hb⟩;have HW:Hid (Below V.heap.size V w'):=ZT bt hb;clear hb;have KK:=HS.out _ HW.out;try cases q2)|fail)
 all_goals first
  |(go_ret;exact RetZ.of (fun h=>absurd (HR.out.1 h).1 (by rw[HC.out];simp_all<;>grind)) (fun _=>by decide) (ZT Aa.out bt))
  |skip
 all_goals
  try(obtain rfl:e1=false:=by simp_all)
  try(obtain rfl:e2=false:=by simp_all)
  try(obtain rfl:e3=false:=by simp_all)
  have Xt:Hid (C=true):=by show _=_;rw[HC.out];simp_all<;>grind
  have Io:Hid (∀ j,j<fn->¬ okFd t fs j->false=R):=fun j hj hb=>Zdd (fun e=>hb ((HR.out.1 e).2 j hj))
  have Jw:Hid ((∀ j,j<fn->okFd t fs j)->R=true):=fun h=>HR.out.2 ⟨Xt.out,h⟩
  have Lc:Hid (Below V.heap.size V w'):=HW
  clear HR HC Xt
  go_loopw [3] (fun v wr=>∃ i:Nat,i<=fn/\v=.int .i64 i/\Hid (∀ j,j<i->okFd t fs j)/\Hid (Below V.heap.size V wr)) (fun v _=>fn - (intOf v).toNat)
  case atStart=>exact⟨0,by omega,rfl,hid (fun j hj=>by omega),Lc⟩
  case round =>
   rename World=>wo
   obtain⟨i,hi,rfl,HI,hB⟩:=hrel
   have KK:=HS.out _ hB.out
   by_cases hlt:i<fn
   · try(exfalso;omega)
     all_goals
      obtain⟨f,hf⟩:∃ f,fs[i]?=some f:=⟨fs[i]'(by have:=HN.out;omega),List.getElem?_eq_getElem _⟩
      have Qd:=hid (Io.out i hlt)
      have Gs:Hid (∀ w,Below w0.heap.size w0 w->Calls prog 189 #[.agg #[.int .i64 f.k,.slice f.ua f.un f.uc,.string f.o]] w (RetZ (t f) w)):=Jc.out f (List.mem_of_getElem? hf)
      have Ws:=hid (okFd_at (t:=t) hf)
      obtain⟨q3,Xk⟩:∃ q,nameB f.m=q:=⟨_,rfl⟩
      have Cn:Hid (∀ w,Calls prog 140 #[.string f.m] w (RetB q3 w)):=by rw[<-Xk];exact fun w=>ZbJ _ w
      obtain⟨q4,Kh,Ma⟩:∃ q,Hid (∀ w,Below w0.heap.size w0 w->Calls prog 189 #[.agg #[.int .i64 f.k,.slice f.ua f.un f.uc,.string f.o]] w (RetZ q w))/\Hid (okFd t fs i↔(q3=true/\(∀ k g,k<i->fs[k]?=some g->(g.m.toList==f.m.toList)=false)/\q=true)):=⟨_,Gs,Xk ▸ Ws⟩
      obtain⟨b1,o1,rfl,Da⟩:=(Yj.out.kept Aa.out).some (by have:=HN.out;omega)
      have Xh:=hid Da
      obtain⟨c0,c1,c2,c3⟩:=Fd.cell Da hf
      have HE:Hid (∀ w',Below V.heap.size V w'->w'.cell? ⟨b1,o1+i*4,none⟩=some (.string f.m)/\w'.cell? ⟨b1,o1+i*4+1,none⟩=some (.int .i64 f.k)/\w'.cell? ⟨b1,o1+i*4+2,none⟩=some (.slice f.ua f.un f.uc)/\w'.cell? ⟨b1,o1+i*4+3,none⟩=some (.string f.o)):=fun w' h=>⟨Zaa c0 h,Zaa c1 h,Zaa c2 h,Zaa c3 h⟩
      clear Da hf c0 c1 c2 c3 Gs Ws Xk
      have EE:=HE.out _ hB.out
      obtain⟨c0,c1,c2,c3⟩:=EE
      go_wp2_with (first|(go_at_call 140;refine(Cn.out _).mono ?_;rintro e w' ⟨rfl,hb⟩;have HW:Hid (Below V.heap.size V w'):=ZT bt hb;clear hb;have KK:=HS.out _ HW.out;have EE:=HE.out _ HW.out;obtain⟨c0,c1,c2,c3⟩:=EE;cases q3)|fail)
      all_goals first
       |(go_ret;exact RetZ.of (fun h=>absurd (h.symm.trans (Qd.out (by rw[Ma.out];simp_all)).symm) (by decide)) (fun _=>by first|decide|assumption) (ZT Aa.out bt))
       |skip
      all_goals
       have Qb:Hid (Below V.heap.size V w'):=HW
       go_loopw [4] (fun v wr=>∃ k:Nat,k<=i/\v=.int .i64 k/\Hid (∀ j,j<k->∀ g,fs[j]?=some g->(g.m.toList==f.m.toList)=false)/\Hid (Below V.heap.size V wr)) (fun v _=>i - (intOf v).toNat)
       case atStart=>exact⟨0,by omega,rfl,hid (fun j hj=>by omega),Qb⟩
       case round =>
        obtain⟨k,hk,rfl,HK,hB⟩:=hrel
        have KK:=HS.out _ hB.out
        have EE:=HE.out _ hB.out
        obtain⟨c0,c1,c2,c3⟩:=EE
        by_cases hkl:k<i
        · obtain⟨g,hg⟩:∃ g,fs[k]?=some g:=⟨fs[k]'(by have:=HN.out;omega),List.getElem?_eq_getElem _⟩
          obtain⟨d0,d1,d2,d3⟩:=Fd.cell (Xh.out.kept hB.out) hg
          have Ox:Hid ((g.m.toList==f.m.toList)=true->false=R):=fun e=>Qd.out (fun h=>by have:=(Ma.out.1 h).2.1 k g hkl hg;rw[e]at this;cases this)
          have Nx:Hid ((g.m.toList==f.m.toList)=false->∀ j,j<k+1->∀ g,fs[j]?=some g->(g.m.toList==f.m.toList)=false):=fun e=>Za9 HK.out (fun z hz=>by rw[hg]at hz;injection hz with hz;subst hz;exact e)
          clear hg
          go_wp2_with fail
          go_quiet (fail)
          go_wp2_with fail
          all_goals first
           |(go_ret;exact RetZ.of (fun h=>absurd (h.symm.trans (Ox.out (by simp_all)).symm) (by decide)) (fun _=>by decide) (ZT Aa.out bt))
           |(go_roundw;(case rel=>exact⟨k+1,by omega,by go_num,hid (Nx.out (by simp_all)),hid (ZN hB.out _)⟩);(case measure=>simp[intOf];omega))
        · go_wp2_with (first|(go_at_call 189;refine(Kh.out _ (Ga.out.trans (Below.mono bt Ga.out.size))).mono ?_;rintro e w' ⟨nt,rfl,Ea,Fa,hb⟩;have HW:Hid (Below V.heap.size V w'):=ZT bt hb;clear hb;have KK:=HS.out _ HW.out;rcases retz Ea Fa with⟨Kp,rfl⟩|⟨Kp,nt0⟩<;>clear Ea Fa)|fail)
          all_goals first
           |(go_ret;exact RetZ.of (fun h=>absurd (h.symm.trans (Qd.out (fun e=>by have:=(Ma.out.1 e).2.2;simp_all)).symm) (by decide)) (fun _=>by assumption) (ZT Aa.out bt))
           |(go_roundw;(case rel=>exact⟨i+1,by omega,by go_num,hid (Za9 HI.out (Ma.out.2 ⟨by first|rfl|trivial|assumption,fun j g h1 h2=>HK.out j (by omega) g h2,by first|rfl|trivial|assumption⟩)),bt⟩);(case measure=>simp[intOf];omega))
   · have HT:=hid (Jw.out (fun j hj=>HI.out j (by omega)))
     go_wp2_with fail
     go_ret
     exact RetZ.of (fun _=>rfl) (fun h=>absurd (h.symm.trans HT.out) (by decide)) (ZT Aa.out hB.out)
theorem Zde {α β:Type} [DecidableEq β] {f:α->β}{l k:List α}{i:Nat}{x y:α}(hx:l[i]?=some x)(hy:k[i]?=some y)(h:f x≠f y):decide (l.map f=k.map f)=false:=by
 refine decide_eq_false (fun e=>?_)
 have:=congrArg (fun l:List β=>l[i]?) e
 simp only[List.getElem?_map,hx,hy,Option.map_some,Option.some.injEq]at this
 exact h this
theorem map_step {α β:Type}{f:α->β}{l k:List α}{i:Nat}{x y:α}(h:(l.take i).map f=(k.take i).map f)(hx:l[i]?=some x)(hy:k[i]?=some y)(e:f x=f y):(l.take (i+1)).map f=(k.take (i+1)).map f:=by
 rw[Zar hx,Zar hy,List.map_append,List.map_append,h]
 simp[e]
theorem map_length {α β:Type} [DecidableEq β] {f:α->β}{l k:List α}(h:¬ l.length=k.length):decide (l.map f=k.map f)=false :=
 decide_eq_false (fun e=>h (by simpa using congrArg List.length e))
theorem Zat {α:Type}{enc:α->List Value}{k:Nat}{w:World}{ao:Option Addr}{l:List α}{i:Nat}{x:α}(h:Zac enc k w ao l)(hx:l[i]?=some x):∃ b off,ao=some ⟨b,off,none⟩/\Lies enc k w b off l:=by
 refine h.some ?_
 have:=(List.getElem?_eq_some_iff.1 hx).1
 omega
set_option maxHeartbeats 2000000 in
set_option maxRecDepth 100000 in
theorem samerows_any (l k:List Rw)(a1 a2:Option Addr)(c1 c2:Nat)(hl:l.length<=4611686018427387904)(w:World)(h:ZaY w a1 l)(h2:ZaY w a2 k) :
 Calls prog 30 #[.slice a1 l.length c1,.slice a2 k.length c2] w fun e w'=>e=.returned (.bool (decide (l.map Rw.key=k.map Rw.key)))/\Below w.heap.size w w':=by
 have H:=hid h
 have H2:=hid h2
 clear h h2
 by_cases hlen:l.length=k.length
 · have HLen:=hid hlen
   obtain⟨n,hn⟩:∃ n,n=l.length:=⟨_,rfl⟩
   have We:Hid (n=l.length):=hn
   have Ab:Hid (n=k.length):=hn.trans hlen
   rw[<-hlen,<-hn]
   rw[<-hn]at hl
   clear hlen hn
   have e0:((n:Int) != (n:Int))=false:=by simp
   go_enter func30,ntmps30
   go_wp2_with fail
   go_loopw [5] (fun v wr=>∃ i:Nat,i<=n/\v=.int .i64 i/\Hid ((l.take i).map Rw.key=(k.take i).map Rw.key)/\Below w.heap.size w wr) (fun v _=>n - (intOf v).toNat)
   case atStart=>exact⟨0,by omega,rfl,hid (by simp),Below.refl _ _⟩
   case round =>
    obtain⟨i,hi,rfl,ht,hB⟩:=hrel
    have HB:=hid hB
    clear hB
    by_cases hlt:i<n
    · obtain⟨x,hx⟩:∃ x,l[i]?=some x:=⟨l[i]'(by rw[<-We.out];exact hlt),List.getElem?_eq_getElem _⟩
      obtain⟨y,hy⟩:∃ y,k[i]?=some y:=⟨k[i]'(by rw[<-Ab.out];exact hlt),List.getElem?_eq_getElem _⟩
      obtain⟨b,off,rfl,hrow⟩:=Zat (H.out.1.kept HB.out) hx
      obtain⟨b2,off2,rfl,Gd⟩:=Zat (H2.out.1.kept HB.out) hy
      obtain⟨y0,y1,y2,y3,y4,y5,y6,y7⟩:=Rw.cell hrow hx
      obtain⟨z0,z1,z2,z3,z4,z5,z6,z7⟩:=Rw.cell Gd hy
      have Gc:Hid (x.Ok wr):=(H.out.2 x (List.mem_of_getElem? hx)).kept HB.out
      have Um:Hid (y.Ok wr):=(H2.out.2 y (List.mem_of_getElem? hy)).kept HB.out
      have HX:=hid hx
      have HY:=hid hy
      clear hrow hx Gd hy
      have ws1:IntKind.i64.wrap (i:Int)=(i:Int):=IntWalk.i64_in _ (by omega)
      go_upto_region 6 with fail
      refine Zan (fun V hV=>?_)
      have Aa:Hid (Below w.heap.size w V):=by rw[hV];exact HB.out
      have Je:Hid (wr=V):=hV.symm
      have r0:=fun d os=>cell_regrown (w:=V) (by rw[hV];exact y0) d os
      have r1:=fun d os=>cell_regrown (w:=V) (by rw[hV];exact y1) d os
      have r2:=fun d os=>cell_regrown (w:=V) (by rw[hV];exact y2) d os
      have r3:=fun d os=>cell_regrown (w:=V) (by rw[hV];exact y3) d os
      have r4:=fun d os=>cell_regrown (w:=V) (by rw[hV];exact y4) d os
      have r5:=fun d os=>cell_regrown (w:=V) (by rw[hV];exact y5) d os
      have r6:=fun d os=>cell_regrown (w:=V) (by rw[hV];exact y6) d os
      have r7:=fun d os=>cell_regrown (w:=V) (by rw[hV];exact y7) d os
      have s0:=fun d os=>cell_regrown (w:=V) (by rw[hV];exact z0) d os
      have s1:=fun d os=>cell_regrown (w:=V) (by rw[hV];exact z1) d os
      have s2:=fun d os=>cell_regrown (w:=V) (by rw[hV];exact z2) d os
      have s3:=fun d os=>cell_regrown (w:=V) (by rw[hV];exact z3) d os
      have s4:=fun d os=>cell_regrown (w:=V) (by rw[hV];exact z4) d os
      have s5:=fun d os=>cell_regrown (w:=V) (by rw[hV];exact z5) d os
      have s6:=fun d os=>cell_regrown (w:=V) (by rw[hV];exact z6) d os
      have s7:=fun d os=>cell_regrown (w:=V) (by rw[hV];exact z7) d os
      have Xd:=hid (fun d os=>Calls.regrown_of (ZdP x y (Go.Sort.grow (redrawn V d) os) ((Je.out ▸ Gc.out).kept (below_regrown V d os)) ((Je.out ▸ Um.out).kept (below_regrown V d os))))
      generalize hcc:cmpR x.key y.key=c at *
      have Yi:=hid hcc
      clear hV hcc y0 y1 y2 y3 y4 y5 y6 y7 z0 z1 z2 z3 z4 z5 z6 z7 Je
      refine wp_region_quiet_below (by kernel_rfl) (by kernel_rfl) ?_
      repeat(go_big_quiet_step (first|with_reducible exact Xd.out _ _))
      refine wpQuiet_nil ?_
      intro _ hw'
      obtain⟨p,hw''⟩:=hw'
      subst hw''
      have HZ:=below_regrown V p.d p.os
      clear Xd r0 r1 r2 r3 r4 r5 r6 r7 s0 s1 s2 s3 s4 s5 s6 s7
      generalize Go.Sort.grow (redrawn V p.d) p.os=V2 at *
      have La:Hid (Below w.heap.size w V2):=Aa.out.trans (HZ.mono Aa.out.size)
      clear HZ
      by_cases hc:c=0
      · subst hc
        have HN:=hid (map_step ht.out HX.out HY.out ((ZbP.zero _ _).1 Yi.out))
        go_wp2_with fail
        go_roundw
        case rel=>exact⟨i+1,by omega,by go_num,HN,La.out⟩
        case measure=>simp[intOf];omega
      · have hne:(c != 0)=true:=by simpa using hc
        have HN:=hid (Zde (f:=Rw.key) HX.out HY.out (fun e=>hc (Yi.out ▸ (ZbP.zero _ _).2 e)))
        go_wp2_with fail
        go_ret
        exact⟨by rw[HN.out];rfl,La.out⟩
    · have HR:Hid (decide (l.map Rw.key=k.map Rw.key)=true):=by
        refine decide_eq_true ?_
        have:=ht.out
        rw[List.take_of_length_le (by rw[<-We.out];omega),List.take_of_length_le (by rw[<-Ab.out];omega)]at this
        exact this
      obtain rfl:i=n:=by omega
      go_wp2_with fail
      go_ret
      exact⟨by rw[HR.out];rfl,HB.out⟩
 · have e0:((l.length:Int) != (k.length:Int))=true:=by simp;omega
   have HR:=hid (map_length (f:=Rw.key) hlen)
   clear hlen
   generalize l.length=n at *
   generalize k.length=m at *
   go_enter func30,ntmps30
   go_wp2_with fail
   go_ret
   exact⟨by rw[HR.out];rfl,Below.refl _ _⟩
set_option maxHeartbeats 2000000 in
set_option maxRecDepth 100000 in
theorem ZeE (l k:List Dl)(a1 a2:Option Addr)(c1 c2:Nat)(hl:l.length<=4611686018427387904)(w:World)(h:DlsAt w a1 l)(h2:DlsAt w a2 k) :
 Calls prog 12 #[.slice a1 l.length c1,.slice a2 k.length c2] w fun e w'=>e=.returned (.bool (decide (l.map Dl.kn=k.map Dl.kn)))/\Below w.heap.size w w':=by
 have H:=hid h
 have H2:=hid h2
 clear h h2
 by_cases hlen:l.length=k.length
 · have HLen:=hid hlen
   obtain⟨n,hn⟩:∃ n,n=l.length:=⟨_,rfl⟩
   have We:Hid (n=l.length):=hn
   have Ab:Hid (n=k.length):=hn.trans hlen
   rw[<-hlen,<-hn]
   rw[<-hn]at hl
   clear hlen hn
   have e0:((n:Int) != (n:Int))=false:=by simp
   go_enter func12,ntmps12
   go_wp2_with fail
   go_loopw [5] (fun v wr=>∃ i:Nat,i<=n/\v=.int .i64 i/\Hid ((l.take i).map Dl.kn=(k.take i).map Dl.kn)/\Below w.heap.size w wr) (fun v _=>n - (intOf v).toNat)
   case atStart=>exact⟨0,by omega,rfl,hid (by simp),Below.refl _ _⟩
   case round =>
    obtain⟨i,hi,rfl,ht,hB⟩:=hrel
    have HB:=hid hB
    clear hB
    by_cases hlt:i<n
    · obtain⟨x,hx⟩:∃ x,l[i]?=some x:=⟨l[i]'(by rw[<-We.out];exact hlt),List.getElem?_eq_getElem _⟩
      obtain⟨y,hy⟩:∃ y,k[i]?=some y:=⟨k[i]'(by rw[<-Ab.out];exact hlt),List.getElem?_eq_getElem _⟩
      obtain⟨b,off,rfl,hrow⟩:=Zat (H.out.1.kept HB.out) hx
      obtain⟨b2,off2,rfl,Gd⟩:=Zat (H2.out.1.kept HB.out) hy
      obtain⟨y0,y1,y2,y3,y4,y5,y6,y7,y8,y9⟩:=Dl.cell hrow hx
      obtain⟨z0,z1,z2,z3,z4,z5,z6,z7,z8,z9⟩:=Dl.cell Gd hy
      have Gc:Hid (x.Ok wr):=(H.out.2 x (List.mem_of_getElem? hx)).kept HB.out
      have Um:Hid (y.Ok wr):=(H2.out.2 y (List.mem_of_getElem? hy)).kept HB.out
      have HX:=hid hx
      have HY:=hid hy
      clear hrow hx Gd hy
      have ws1:IntKind.i64.wrap (i:Int)=(i:Int):=IntWalk.i64_in _ (by omega)
      go_upto_region 6 with fail
      refine Zan (fun V hV=>?_)
      have Aa:Hid (Below w.heap.size w V):=by rw[hV];exact HB.out
      have Je:Hid (wr=V):=hV.symm
      have r0:=fun d os=>cell_regrown (w:=V) (by rw[hV];exact y0) d os
      have r1:=fun d os=>cell_regrown (w:=V) (by rw[hV];exact y1) d os
      have r2:=fun d os=>cell_regrown (w:=V) (by rw[hV];exact y2) d os
      have r3:=fun d os=>cell_regrown (w:=V) (by rw[hV];exact y3) d os
      have r4:=fun d os=>cell_regrown (w:=V) (by rw[hV];exact y4) d os
      have r5:=fun d os=>cell_regrown (w:=V) (by rw[hV];exact y5) d os
      have r6:=fun d os=>cell_regrown (w:=V) (by rw[hV];exact y6) d os
      have r7:=fun d os=>cell_regrown (w:=V) (by rw[hV];exact y7) d os
      have r8:=fun d os=>cell_regrown (w:=V) (by rw[hV];exact y8) d os
      have r9:=fun d os=>cell_regrown (w:=V) (by rw[hV];exact y9) d os
      have s0:=fun d os=>cell_regrown (w:=V) (by rw[hV];exact z0) d os
      have s1:=fun d os=>cell_regrown (w:=V) (by rw[hV];exact z1) d os
      have s2:=fun d os=>cell_regrown (w:=V) (by rw[hV];exact z2) d os
      have s3:=fun d os=>cell_regrown (w:=V) (by rw[hV];exact z3) d os
      have s4:=fun d os=>cell_regrown (w:=V) (by rw[hV];exact z4) d os
      have s5:=fun d os=>cell_regrown (w:=V) (by rw[hV];exact z5) d os
      have s6:=fun d os=>cell_regrown (w:=V) (by rw[hV];exact z6) d os
      have s7:=fun d os=>cell_regrown (w:=V) (by rw[hV];exact z7) d os
      have s8:=fun d os=>cell_regrown (w:=V) (by rw[hV];exact z8) d os
      have s9:=fun d os=>cell_regrown (w:=V) (by rw[hV];exact z9) d os
      have Xd:=hid (fun d os=>Calls.regrown_of (ZdP x.r y.r (Go.Sort.grow (redrawn V d) os) ((Je.out ▸ Gc.out.r).kept (below_regrown V d os)) ((Je.out ▸ Um.out.r).kept (below_regrown V d os))))
      generalize hcc:cmpR x.r.key y.r.key=c at *
      have Yi:=hid hcc
      clear hV hcc y0 y1 y2 y3 y4 y5 y6 y7 y8 y9 z0 z1 z2 z3 z4 z5 z6 z7 z8 z9 Je
      by_cases h1:x.tick=y.tick
      · have g1:(x.tick != y.tick)=false:=by simp[h1]
        by_cases h2:x.n=y.n
        · have g2:(x.n != y.n)=false:=by simp[h2]
          have HE:Hid (x.tick=y.tick/\x.n=y.n):=⟨h1,h2⟩
          clear h1 h2
          refine wp_region_quiet_below (by kernel_rfl) (by kernel_rfl) ?_
          repeat(go_big_quiet_step (first|with_reducible exact Xd.out _ _))
          refine wpQuiet_nil ?_
          intro _ hw'
          obtain⟨p,hw''⟩:=hw'
          subst hw''
          have HZ:=below_regrown V p.d p.os
          clear Xd r0 r1 r2 r3 r4 r5 r6 r7 r8 r9 s0 s1 s2 s3 s4 s5 s6 s7 s8 s9
          generalize Go.Sort.grow (redrawn V p.d) p.os=V2 at *
          have La:Hid (Below w.heap.size w V2):=Aa.out.trans (HZ.mono Aa.out.size)
          clear HZ
          by_cases hc:c=0
          · subst hc
            have HN:=hid (map_step (f:=Dl.kn) ht.out HX.out HY.out (by unfold Dl.kn Dl.key;rw[HE.out.1,HE.out.2,(ZbP.zero _ _).1 Yi.out]))
            go_wp2_with fail
            go_roundw
            case rel=>exact⟨i+1,by omega,by go_num,HN,La.out⟩
            case measure=>simp[intOf];omega
          · have hne:(c != 0)=true:=by simpa using hc
            have HN:=hid (Zde (f:=Dl.kn) HX.out HY.out (fun e=>hc (Yi.out ▸ (ZbP.zero _ _).2 (congrArg (fun q:DK × Int=>q.1.2) e))))
            go_wp2_with fail
            go_ret
            exact⟨by rw[HN.out];rfl,La.out⟩
        · have g2:(x.n != y.n)=true:=by simpa using h2
          have HN:=hid (Zde (f:=Dl.kn) HX.out HY.out (fun e=>h2 (congrArg (fun q:DK × Int=>q.2) e)))
          clear h1 h2
          refine wp_region_quiet_below (by kernel_rfl) (by kernel_rfl) ?_
          repeat(go_big_quiet_step (fail))
          refine wpQuiet_nil ?_
          intro _ hw'
          obtain⟨p,hw''⟩:=hw'
          subst hw''
          have HZ:=below_regrown V p.d p.os
          clear Xd r0 r1 r2 r3 r4 r5 r6 r7 r8 r9 s0 s1 s2 s3 s4 s5 s6 s7 s8 s9
          generalize Go.Sort.grow (redrawn V p.d) p.os=V2 at *
          have La:Hid (Below w.heap.size w V2):=Aa.out.trans (HZ.mono Aa.out.size)
          clear HZ
          go_wp2_with fail
          go_ret
          exact⟨by rw[HN.out];rfl,La.out⟩
      · have g1:(x.tick != y.tick)=true:=by simpa using h1
        have HN:=hid (Zde (f:=Dl.kn) HX.out HY.out (fun e=>h1 (congrArg (fun q:DK × Int=>q.1.1) e)))
        clear h1
        refine wp_region_quiet_below (by kernel_rfl) (by kernel_rfl) ?_
        repeat(go_big_quiet_step (fail))
        refine wpQuiet_nil ?_
        intro _ hw'
        obtain⟨p,hw''⟩:=hw'
        subst hw''
        have HZ:=below_regrown V p.d p.os
        clear Xd r0 r1 r2 r3 r4 r5 r6 r7 r8 r9 s0 s1 s2 s3 s4 s5 s6 s7 s8 s9
        generalize Go.Sort.grow (redrawn V p.d) p.os=V2 at *
        have La:Hid (Below w.heap.size w V2):=Aa.out.trans (HZ.mono Aa.out.size)
        clear HZ
        go_wp2_with fail
        go_ret
        exact⟨by rw[HN.out];rfl,La.out⟩
    · have HR:Hid (decide (l.map Dl.kn=k.map Dl.kn)=true):=by
        refine decide_eq_true ?_
        have:=ht.out
        rw[List.take_of_length_le (by rw[<-We.out];omega),List.take_of_length_le (by rw[<-Ab.out];omega)]at this
        exact this
      obtain rfl:i=n:=by omega
      go_wp2_with fail
      go_ret
      exact⟨by rw[HR.out];rfl,HB.out⟩
 · have e0:((l.length:Int) != (k.length:Int))=true:=by simp;omega
   have HR:=hid (map_length (f:=Dl.kn) hlen)
   clear hlen
   generalize l.length=n at *
   generalize k.length=m at *
   go_enter func12,ntmps12
   go_wp2_with fail
   go_ret
   exact⟨by rw[HR.out];rfl,Below.refl _ _⟩
def memR (l:List Rw)(k:RK):Bool:=l.any (fun r=>decide (r.key=k))
theorem memR_iff {l:List Rw}{k:RK}:memR l k=true↔k∈l.map Rw.key:=by
 unfold memR
 rw[List.any_eq_true,List.mem_map]
 exact⟨fun⟨r,h1,h2⟩=>⟨r,h1,of_decide_eq_true h2⟩,fun⟨r,h1,h2⟩=>⟨r,h1,decide_eq_true h2⟩⟩
theorem memR_snoc (l:List Rw)(x:Rw)(k:RK):memR (l++[x]) k=(memR l k||decide (x.key=k)):=by unfold memR;rw[List.any_append];simp
theorem Box.at8 {w:World}{g:Nat}{t:TypeId}{a0 a1 a2 a3 a4 a5 a6 a7:Value}(h:Box w g #[a0,a1,a2,a3,a4,a5,a6,a7] t):w.cell? ⟨g,0,none⟩=some a0/\w.cell? ⟨g,1,none⟩=some a1/\w.cell? ⟨g,2,none⟩=some a2/\w.cell? ⟨g,3,none⟩=some a3/\w.cell? ⟨g,4,none⟩=some a4/\w.cell? ⟨g,5,none⟩=some a5/\w.cell? ⟨g,6,none⟩=some a6/\w.cell? ⟨g,7,none⟩=some a7 :=
 ⟨h.cell 0 _ rfl,h.cell 1 _ rfl,h.cell 2 _ rfl,h.cell 3 _ rfl,h.cell 4 _ rfl,h.cell 5 _ rfl,h.cell 6 _ rfl,h.cell 7 _ rfl⟩
set_option maxHeartbeats 2000000 in
set_option maxRecDepth 100000 in
theorem in_any (l:List Rw)(ao:Option Addr)(cap:Nat)(hl:l.length<=4611686018427387904)(x:Rw)(w:World)(h:ZaY w ao l)(hx:x.Ok w) :
 Calls prog 74 #[.slice ao l.length cap,x.val] w fun e w'=>e=.returned (.bool (memR l x.key))/\Below w.heap.size w w':=by
 have H:=hid h
 have Gc:=hid hx
 clear h hx
 dsimp only[Rw.val]
 go_enter func74,ntmps74
 go_wp2_with fail
 refine Zan (fun W hW=>?_)
 have HW:Hid (Below w.heap.size w W):=by rw[hW];exact Zab _
 have HT:Hid (Box W w.heap.size #[.string x.src,.int .i64 x.seq,.string x.tb,.string x.ky,.int .i64 x.ev,.slice x.fa x.vs.length x.fc,.int .i64 x.no,.int .i64 x.tk] 68):=by rw[hW];exact Box.new _ _ _
 clear hW
 go_loopw [5] (fun v wr=>∃ i:Nat,i<=l.length/\v=.int .i64 i/\Hid (memR (l.take i) x.key=false)/\Below W.heap.size W wr) (fun v _=>l.length - (intOf v).toNat)
 case atStart=>exact⟨0,by omega,rfl,hid rfl,Below.refl _ _⟩
 case round =>
  obtain⟨i,hi,rfl,HN,hB⟩:=hrel
  have HB:=hid hB
  have HBw:=hid (HW.out.trans (hB.mono HW.out.size))
  clear hB
  by_cases hlt:i<l.length
  · obtain⟨y,hy⟩:∃ y,l[i]?=some y:=⟨l[i],List.getElem?_eq_getElem hlt⟩
    obtain⟨b,off,rfl,hrow⟩:=Zat (H.out.1.kept HBw.out) hy
    obtain⟨y0,y1,y2,y3,y4,y5,y6,y7⟩:=Rw.cell hrow hy
    have Um:Hid (y.Ok wr):=(H.out.2 y (List.mem_of_getElem? hy)).kept HBw.out
    have HXW:Hid (x.Ok wr):=Gc.out.kept HBw.out
    have HY:=hid hy
    obtain⟨z0,z1,z2,z3,z4,z5,z6,z7⟩:=(HT.out.kept HB.out).at8
    clear hrow hy
    have ws1:IntKind.i64.wrap (i:Int)=(i:Int):=IntWalk.i64_in _ (by omega)
    go_upto_region 4 with fail
    refine Zan (fun V hV=>?_)
    have Aa:Hid (Below W.heap.size W V):=by rw[hV];exact HB.out
    have Je:Hid (wr=V):=hV.symm
    have r0:=fun d os=>cell_regrown (w:=V) (by rw[hV];exact y0) d os
    have r1:=fun d os=>cell_regrown (w:=V) (by rw[hV];exact y1) d os
    have r2:=fun d os=>cell_regrown (w:=V) (by rw[hV];exact y2) d os
    have r3:=fun d os=>cell_regrown (w:=V) (by rw[hV];exact y3) d os
    have r4:=fun d os=>cell_regrown (w:=V) (by rw[hV];exact y4) d os
    have r5:=fun d os=>cell_regrown (w:=V) (by rw[hV];exact y5) d os
    have r6:=fun d os=>cell_regrown (w:=V) (by rw[hV];exact y6) d os
    have r7:=fun d os=>cell_regrown (w:=V) (by rw[hV];exact y7) d os
    have s0:=fun d os=>cell_regrown (w:=V) (by rw[hV];exact z0) d os
    have s1:=fun d os=>cell_regrown (w:=V) (by rw[hV];exact z1) d os
    have s2:=fun d os=>cell_regrown (w:=V) (by rw[hV];exact z2) d os
    have s3:=fun d os=>cell_regrown (w:=V) (by rw[hV];exact z3) d os
    have s4:=fun d os=>cell_regrown (w:=V) (by rw[hV];exact z4) d os
    have s5:=fun d os=>cell_regrown (w:=V) (by rw[hV];exact z5) d os
    have s6:=fun d os=>cell_regrown (w:=V) (by rw[hV];exact z6) d os
    have s7:=fun d os=>cell_regrown (w:=V) (by rw[hV];exact z7) d os
    have Xd:=hid (fun d os=>Calls.regrown_of (ZdP y x (Go.Sort.grow (redrawn V d) os) ((Je.out ▸ Um.out).kept (below_regrown V d os)) ((Je.out ▸ HXW.out).kept (below_regrown V d os))))
    generalize hcc:cmpR y.key x.key=c at *
    have Yi:=hid hcc
    clear hV hcc y0 y1 y2 y3 y4 y5 y6 y7 z0 z1 z2 z3 z4 z5 z6 z7 Je
    refine wp_region_quiet_below (by kernel_rfl) (by kernel_rfl) ?_
    repeat(go_big_quiet_step (first|with_reducible exact Xd.out _ _))
    refine wpQuiet_nil ?_
    intro _ hw'
    obtain⟨p,hw''⟩:=hw'
    subst hw''
    have HZ:=below_regrown V p.d p.os
    clear Xd r0 r1 r2 r3 r4 r5 r6 r7 s0 s1 s2 s3 s4 s5 s6 s7
    generalize Go.Sort.grow (redrawn V p.d) p.os=V2 at *
    have La:Hid (Below W.heap.size W V2):=Aa.out.trans (HZ.mono Aa.out.size)
    clear HZ
    by_cases hc:c=0
    · subst hc
      have HR:Hid (memR l x.key=true):=memR_iff.2 ((ZbP.zero _ _).1 Yi.out ▸ List.mem_map_of_mem (List.mem_of_getElem? HY.out))
      go_wp2_with fail
      go_ret
      exact⟨by rw[HR.out];rfl,HW.out.trans (La.out.mono HW.out.size)⟩
    · have hne:(c==0)=false:=by simpa using hc
      have HR:Hid (memR (l.take (i+1)) x.key=false):=by
       show _=_
       rw[Zar HY.out,memR_snoc,HN.out,decide_eq_false (fun e=>hc (Yi.out ▸ (ZbP.zero _ _).2 e))];rfl
      go_wp2_with fail
      go_roundw
      case rel=>exact⟨i+1,by omega,by go_num,HR,La.out⟩
      case measure=>simp[intOf];omega
  · obtain rfl:i=l.length:=by omega
    have HR:Hid (memR l x.key=false):=by have:=HN.out;rwa [List.take_length]at this
    go_wp2_with fail
    go_ret
    exact⟨by rw[HR.out];rfl,HBw.out⟩
end Go.Proofs.YtfnpfkgmacaboaaGreat
