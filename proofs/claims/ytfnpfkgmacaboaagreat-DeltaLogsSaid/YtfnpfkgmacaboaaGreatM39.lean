/- Texts joined by a program. -/
import Derived.Test.YtfnpfkgmacaboaaGreatM37
import Derived.Test.YtfnpfkgmacaboaaGreatM38
namespace Go.Proofs.YtfnpfkgmacaboaaGreat
open Go.Proofs.Tryz
open Lib (hid)
open Go.ChangeShapes Go.WideShapes Go.ChangeAt Go.RowKit
set_option linter.unusedVariables false
set_option linter.unusedSimpArgs false
set_option maxRecDepth 100000
set_option maxHeartbeats 4000000
theorem encTy:Enc Ty.cells 3:=⟨fun _=>rfl,fun x v hv=>by
 simp only[Ty.cells,List.mem_cons,List.not_mem_nil,or_false]at hv
 rcases hv with h|h|h<;>subst h<;>rfl⟩
theorem elTy:El prog 35 250 3 48:=⟨underlying250,by kernel_rfl,by decide,by decide⟩
theorem UnX.grown {w0 w w':World}{ua:Option Addr}{uc B2:Nat}{us:List FID}{v:Value}{L:List Ty}(h:UnX w0 w ua uc us)(hO:Own Ty.cells 3 35 w B2 v L)(hg:w.grownBy w' v.ownBlock):UnX w0 w' ua uc us:=by
 rcases h with h|⟨h,h2⟩
 · exact Or.inl h
 · refine Or.inr ⟨⟨h.1.same (fun g hk=>?_),h.2⟩,h2⟩
   rcases h.1.2 with⟨e,-⟩|⟨g2,cap,cur,e,h5,h6,h7⟩
   · rw[e]at hk;cases hk
   · rw[e]at hk
     injection hk with hk
     subst hk
     exact hg.block _ (Array.getElem?_eq_some_iff.1 h6).1 (fun e=>Own.ne_box hO h6 (by decide) e.symm)
def TyOk (w0 w:World)(r:Ty)(t:Ta):Prop:=r.k=t.k/\r.un=t.us.length/\r.o=t.o/\UnX w0 w r.ua r.uc t.us
theorem TyOk.kept {w0 w w':World}{r:Ty}{t:Ta}(h:TyOk w0 w r t)(hb:Below w.heap.size w w'):TyOk w0 w' r t:=⟨h.1,h.2.1,h.2.2.1,h.2.2.2.kept hb⟩
theorem TyOk.putq {w0 w w':World}{g:Nat}{cs:Array Value}{ty:TypeId}(ho:∀ k,k≠g->w'.heap[k]?=w.heap[k]?)(hg:Box w g cs ty)(ht:ty≠198){r:Ty}{t:Ta}(h:TyOk w0 w r t):TyOk w0 w' r t:=⟨h.1,h.2.1,h.2.2.1,h.2.2.2.put hg ht ho⟩
theorem TyOk.grown {w0 w w':World}{B2:Nat}{r:Ty}{t:Ta}{v:Value}{L:List Ty}(h:TyOk w0 w r t)(hO:Own Ty.cells 3 35 w B2 v L)(hg:w.grownBy w' v.ownBlock):TyOk w0 w' r t:=⟨h.1,h.2.1,h.2.2.1,h.2.2.2.grown hO hg⟩
def TyRaw (z:Bool)(t:Ta)(w0 w:World)(e:Ending)(w':World):Prop:=∃ (r:Ty) (n:Int),e=.returned (.tuple #[.agg #[.int .i64 r.k,.slice r.ua r.un r.uc,.string r.o],.int .i64 n])/\(z=true->n=0)/\(z=false->n≠0)/\TyOk w0 w' r t/\Below w.heap.size w w'
theorem TyR.raw {z:Bool}{t:Ta}{w0 w:World}{e:Ending}{w':World}(h:TyR z t w0 w e w'):TyRaw z t w0 w e w':=by
 obtain⟨a,c,n,h1,h2,h3,h4,h5⟩:=h
 exact⟨⟨t.k,a,t.us.length,c,t.o⟩,n,h1,h2,h3,⟨rfl,rfl,rfl,h4⟩,h5⟩
theorem TyOk.ret {z:Bool}{t:Ta}{r:Ty}{n:Int}{w0 w w':World}(h1:z=true->n=0)(h2:z=false->n≠0)(h:TyOk w0 w' r t)(hb:Below w.heap.size w w'):TyR z t w0 w (.returned (.tuple #[.agg #[.int .i64 r.k,.slice r.ua r.un r.uc,.string r.o],.int .i64 n])) w':=by
 obtain⟨e1,e2,e3,e4⟩:=h
 rw[e1,e2,e3]
 exact⟨_,_,_,rfl,h1,h2,e4,hb⟩
def Sub (T L:List Tb):Prop:=∀ nm t,findT T nm=some t->findT L nm=some t
theorem findT_mem {T:List Tb}{nm:ByteArray}{t:Tb}(h:findT T nm=some t):t∈T:=List.mem_of_find?_eq_some h
theorem scope_of (w0:World)(T:List Tb)(htok:∀ t∈T,FdsAt w0 t.fa t.fn)(k:Int)(xt se:ByteArray)(ta:Option Addr)(tn:Nat)(hfd:FdsAt w0 ta tn):∃ (c:Bool) (ce:ByteArray) (ca:Option Addr) (cn:Nat),FdsAt w0 ca cn/\((k==5)=true->c=true->∃ t,findT T xt=some t/\ce=⟨#[]⟩/\ca=t.fa/\cn=t.fn)/\((k==5)=true->c=true->∀ t,findT T xt=some t->(t.e.toList==se.toList)=true)/\((k==5)=true->c=false->∀ t,findT T xt=some t->(t.e.toList==se.toList)=false)/\((k==5)=false->c=true/\ce=se/\ca=ta/\cn=tn):=by
 cases hk:(k==5)with
 |false=>exact⟨true,se,ta,tn,hfd,(fun h=>by cases h),(fun h=>by cases h),(fun h=>by cases h),fun _=>⟨rfl,rfl,rfl,rfl⟩⟩
 |true =>
  cases hf:findT T xt with
  |none=>exact⟨false,se,ta,tn,hfd,(fun _ h=>by cases h),(fun _ h=>by cases h),(fun _ _ t h=>by cases h),fun h=>by cases h⟩
  |some t =>
   cases he:(t.e.toList==se.toList)with
   |false=>exact⟨false,se,ta,tn,hfd,(fun _ h=>by cases h),(fun _ h=>by cases h),(fun _ _ u h=>by injection h with h;subst h;exact he),fun h=>by cases h⟩
   |true=>exact⟨true,⟨#[]⟩,t.fa,t.fn,htok t (findT_mem hf),(fun _ _=>⟨t,rfl,rfl,rfl,rfl⟩),(fun _ _ u h=>by injection h with h;subst h;exact he),(fun _ h=>by cases h),fun h=>by cases h⟩
theorem TysX.kept {w0 w w':World}{a:Option Addr}{ts:List Ta}(h:TysX w0 w a ts)(hb:Below w.heap.size w w'):TysX w0 w' a ts :=
 let ⟨rs,h1,h2,h3⟩:=h;⟨rs,h1,h2.kept hb,fun i r t hr ht=>let ⟨a1,a2,a3,a4⟩:=h3 i r t hr ht;⟨a1,a2,a3,a4.kept hb⟩⟩
theorem infer_det (w0:World)(F:List Ft)(hfl:F.length<=100000)(hfok:∀ f∈F,f.Ok w0)(T:List Tb)(htok:∀ t∈T,FdsAt w0 t.fa t.fn)(n:Nat):∀ (s_e:ByteArray) (s_tfa:Option Addr) (s_tfn:Nat),FdsAt w0 s_tfa s_tfn->∀ (x:Ex),ExAt n w0 x->Shaped n w0 x->∃ (z:Bool) (t:Ta),∀ (s_cta:Option Addr) (s_ctc:Nat) (s_cfa:Option Addr) (s_cfc:Nat) (s_cda:Option Addr) (s_cdn:Nat) (s_cdc:Nat) (s_cqa:Option Addr) (s_cqn:Nat) (s_cqc:Nat) (s_tm:ByteArray) (s_te:ByteArray) (s_tfc:Nat) (s_tp:Int) (L:List Tb) (w:World),Below w0.heap.size w0 w->Zac Ft.cells 18 w s_cfa F->Zac Tb.cells 4 w s_cta L->L.length<=100000->(L=T∨z=true/\Sub T L)->Calls prog 204 #[.agg #[.slice s_cta L.length s_ctc,.slice s_cfa F.length s_cfc,.slice s_cda s_cdn s_cdc,.slice s_cqa s_cqn s_cqc,.string s_e,.string s_tm,.string s_te,.slice s_tfa s_tfn s_tfc,.int .i64 s_tp],x.val] w (TyR z t w0 w):=by
 induction n with
 |zero=>exact fun _ _ _ _ x h=>h.elim
 |succ n ih =>
  intro s_e s_tfa s_tfn hfd x h hs
  obtain⟨x_k,x_o,x_m,x_t,x_vk,x_vn,x_vs,x_ua,x_un,x_uc,x_p,x_wk,x_wz,x_xa,x_xn,x_xc⟩:=x
  obtain⟨hu,-,xs,hxn,hxl,hl,hy⟩:=h
  obtain⟨hk,har,xs',hxn',hl',hy'⟩:=hs
  obtain rfl:xs=xs':=lies_same (by rw[<-hxn,<-hxn']) hl hl'
  dsimp only at hxn hl har hk hu
  subst hxn
  obtain⟨cok,ce,ca,cn,hcf,Bl,Hd,hc3,hc4⟩:=scope_of w0 T htok x_k x_t s_e s_tfa s_tfn hfd
  obtain⟨rf,hrf⟩:=pick (P:=fun(y:Ex) (p:Bool × Ta)=>y∈xs->∀ (s_cta:Option Addr) (s_ctc:Nat) (s_cfa:Option Addr) (s_cfc:Nat) (s_cda:Option Addr) (s_cdn:Nat) (s_cdc:Nat) (s_cqa:Option Addr) (s_cqn:Nat) (s_cqc:Nat) (s_tm:ByteArray) (s_te:ByteArray) (s_tfc:Nat) (s_tp:Int) (L:List Tb) (w:World),Below w0.heap.size w0 w->Zac Ft.cells 18 w s_cfa F->Zac Tb.cells 4 w s_cta L->L.length<=100000->(L=T∨p.1=true/\Sub T L)->Calls prog 204 #[.agg #[.slice s_cta L.length s_ctc,.slice s_cfa F.length s_cfc,.slice s_cda s_cdn s_cdc,.slice s_cqa s_cqn s_cqc,.string ce,.string s_tm,.string s_te,.slice ca cn s_tfc,.int .i64 s_tp],y.val] w (TyRaw p.1 p.2 w0 w)) (fun y=>by
   by_cases hm:y∈xs
   · obtain⟨z,t,h⟩:=ih ce ca cn hcf y (hy y hm) (hy' y hm)
     exact⟨(z,t),fun _=>fun s_cta s_ctc s_cfa s_cfc s_cda s_cdn s_cdc s_cqa s_cqn s_cqc s_tm s_te s_tfc s_tp L w h1 h2 h3 h4 h5=>(h s_cta s_ctc s_cfa s_cfc s_cda s_cdn s_cdc s_cqa s_cqn s_cqc s_tm s_te s_tfc s_tp L w h1 h2 h3 h4 h5).mono fun _ _ h=>h.raw⟩
   · exact⟨(false,Ta.zero),fun h=>(hm h).elim⟩)
  obtain⟨zo,tq,Tn⟩:=operation_det w0 F hfl hfok s_tfa s_tfn hfd s_e x_k x_o x_m x_t x_vk x_vn x_vs x_ua x_un x_uc x_p x_wk x_wz x_xa xs.length x_xc hu hk (xs.map (fun y=>(rf y).2)) (by rw[List.length_map];exact har)
  simp only[List.length_map]at Tn
  generalize hn:xs.length=xn at *
  have hop:∀ (s_cta:Option Addr) (s_ctn:Nat) (s_ctc:Nat) (s_cfa:Option Addr) (s_cfc:Nat) (s_cda:Option Addr) (s_cdn:Nat) (s_cdc:Nat) (s_cqa:Option Addr) (s_cqn:Nat) (s_cqc:Nat) (s_tm:ByteArray) (s_te:ByteArray) (s_tfc:Nat) (s_tp:Int) (la:Option Addr) (lc:Nat) (w:World),Below w0.heap.size w0 w->Zac Ft.cells 18 w s_cfa F->TysX w0 w la (xs.map (fun y=>(rf y).2))->Calls prog 215 #[.agg #[.slice s_cta s_ctn s_ctc,.slice s_cfa F.length s_cfc,.slice s_cda s_cdn s_cdc,.slice s_cqa s_cqn s_cqc,.string s_e,.string s_tm,.string s_te,.slice s_tfa s_tfn s_tfc,.int .i64 s_tp],.agg #[.int .i64 x_k,.string x_o,.string x_m,.string x_t,.int .i64 x_vk,.int .i64 x_vn,.string x_vs,.slice x_ua x_un x_uc,.int .i64 x_p,.int .i64 x_wk,.int .i64 x_wz,.slice x_xa xn x_xc],.slice la xn lc] w (TyRaw zo tq w0 w):=fun s_cta s_ctn s_ctc s_cfa s_cfc s_cda s_cdn s_cdc s_cqa s_cqn s_cqc s_tm s_te s_tfc s_tp la lc w h1 h2 h3=>(Tn s_cta s_ctn s_ctc s_cfa s_cfc s_cda s_cdn s_cdc s_cqa s_cqn s_cqc s_tm s_te s_tfc s_tp la lc w h1 h2 h3).mono fun _ _ h=>h.raw
  clear Tn
  obtain⟨A,hA⟩:=Zcs (∀ j,j<xn->∀ y,xs[j]?=some y->(rf y).1=true)
  obtain⟨z,hz⟩:∃ z,z=(cok&&(A&&zo)):=⟨_,rfl⟩
  obtain⟨t,ht⟩:∃ t,t=(if (cok&&A)=true then tq else Ta.zero):=⟨_,rfl⟩
  have HA:=hid hA
  have HZ:=hid hz
  have Jc:=hid ht
  have Zm:=hid hrf
  have Us:=hid hop
  have Dp:=hid Bl
  have Uc:=hid Hd
  have HC3:=hid hc3
  have HC4:=hid hc4
  refine⟨z,t,fun s_cta s_ctc s_cfa s_cfc s_cda s_cdn s_cdc s_cqa s_cqn s_cqc s_tm s_te s_tfc s_tp L w Oa hft htb hll hext=>?_⟩
  have Cf:Hid (∀ j y,j<xn->xs[j]?=some y->(L=T∨(rf y).1=true/\Sub T L)):=fun j y hj hy=>by
   rcases hext with h|⟨h1,h2⟩
   · exact Or.inl h
   · rw[hz]at h1
     simp only[Bool.and_eq_true]at h1
     exact Or.inr ⟨hA.1 h1.2.1 j hj y hy,h2⟩
  have Aq:Hid ((x_k==5)=true->findT L x_t=findT T x_t):=fun h5=>by
   rcases hext with h|⟨h1,h2⟩
   · rw[h]
   · rw[hz]at h1
     simp only[Bool.and_eq_true]at h1
     obtain⟨u,hu,-⟩:=Bl h5 h1.1
     rw[hu]
     exact h2 _ _ hu
  clear hA hz ht hrf hop Bl Hd hc3 hc4 hext ih hcf hfd hfok htok
  have Cj:=hid hl
  have Ja:=hid Oa
  have Ri:=hid htb
  have Be:=hid hft
  have Yb:=hid hll
  have HN:=hid hn
  have HAR0:=hid har
  have Qa:Hid (xn<=3):=by show _<=_;rw[har];unfold arity;repeat(first|split|omega)
  clear hl hl' hy hy' hu hk Oa htb hft hxn' hn har hll
  dsimp only[Ex.val]
  go_enter func204,ntmps204
  go_upto_region 1 with fail
  refine gen3 (fun V B0 B1 B2 Aa=>?_)
  have HW:Hid (Below V.heap.size V V):=ZR V
  have HS:=hs2 B0 B1
  simp only[Cl,Nat.reduceAdd]at HS
  have KK:=HS.out V (ZR V)
  have Ga:Hid (Below w0.heap.size w0 V):=Ja.out.trans (Aa.out.mono Ja.out.size)
  have Td:Hid (Zac Tb.cells 4 V s_cta L):=Ri.out.kept Aa.out
  have Bf:Hid (Zac Ft.cells 18 V s_cfa F):=Be.out.kept Aa.out
  clear Ri Be
  go_upto_region 2 with(first|((with_reducible refine ZaK 242 ?_);refine Zbe rfl rfl 242 _ _ rfl rfl rfl _ rfl rfl (by kernel_rfl) (by rfl) V bt ?_;intro w6 hbx hbe hbl;have Zh:=hid hbx;have Qj:Hid (Below V.heap.size V w6):=hbe;clear hbx hbe hbl;have KK:=HS.out _ Qj.out)|fail)
  go_upto_if 16 with fail
  go_cut [6] (fun v wx=>v=.pointer (some ⟨V.heap.size,0,none⟩)/\∃ (ie:ByteArray) (it:Tb),Hid (Box wx V.heap.size #[.slice s_cta L.length s_ctc,.slice s_cfa F.length s_cfc,.slice s_cda s_cdn s_cdc,.slice s_cqa s_cqn s_cqc,.string ie,.string it.m,.string it.e,.slice it.fa it.fn it.fc,.int .i64 it.p] 242)/\Hid (cok=true/\ce=ie/\ca=it.fa/\cn=it.fn)/\Hid (Below V.heap.size V wx))
  case first =>
   obtain⟨q5,e5⟩:∃ q,(x_k==5)=q:=⟨_,rfl⟩
   have Jg:=hid e5
   cases q5
   · have Yi:=hid (HC4.out Jg.out)
     go_wp2_with fail
     go_meet
     case rel=>exact⟨rfl,s_e,⟨s_tm,s_te,s_tfa,s_tfn,s_tfc,s_tp⟩,Zh,⟨Yi.out.1,Yi.out.2.1,Yi.out.2.2.1,Yi.out.2.2.2⟩,Qj⟩
   · go_wp2_with (first|(go_at_call 214;refine(within_is _ _ _ _ _ _ _ _ _ _ _ _ _ _ _ _ _ _ _ _ _ L rfl Yb.out (Td.out.kept bt)).mono ?_;rintro e w7 (⟨k7,Lp,rfl,Al,hb⟩|⟨t7,rfl,Al,he7,hb⟩)<;>(have Sp:Hid (Below w6.heap.size w6 w7):=hb;have HW7:Hid (Below V.heap.size V w7):=ZT Qj.out hb;clear hb;have KK:=HS.out _ HW7.out))|((with_reducible refine ZaK 242 ?_);refine Zbe rfl rfl 242 _ _ rfl rfl rfl _ rfl rfl (by kernel_rfl) (by rfl) w6 bt ?_;intro w8 hbx hbe hbl;have Ug:=hid hbx;have HX8:Hid (Below w6.heap.size w6 w8):=hbe;have Lf:Hid (Below V.heap.size V w8):=ZT Qj.out hbe;clear hbx hbe hbl)|((with_reducible refine Zah 242 ?_);refine LB Ug.out ?_)|((with_reducible refine Zaf 242 ?_);refine ZaE rfl _ _ _ rfl rfl V.heap.size 242 _ _ rfl rfl (Zh.out.kept HX8.out) (by kernel_rfl) (by rfl) (by rfl) V Lf.out (Nat.le_refl _) ?_;intro w9 hby hyb hot;have Lg:=hid hby;have Zf:Hid (Below V.heap.size V w9):=hyb;clear hby hyb hot)|((with_reducible refine Zaq 35 ?_);refine Zae rfl 35 #[] rfl _ (fun w=>ZaX w) ?_;intro v hv)|((with_reducible refine Zaf 35 ?_);refine SB (B2.out.kept bt) w (ZT Aa.out bt) ?_;intro w9 hby hyb hot;have HR:=hid hby;have Ka:=hid hyb;have Na:=hid hot;clear hby hyb hot)|fail)
     all_goals
      have Xi:Hid (∀ q,cok=q->q=cok):=fun _ h=>h.symm
     all_goals first
      |(have hco:cok=false:=(by
       cases hq:cok with
       |false=>rfl
       |true =>
        obtain⟨u,hu,-⟩:=Dp.out Jg.out hq
        have h1:=Uc.out Jg.out hq u hu
        rw[Aq.out Jg.out]at Al
        rw[Al u hu]at h1
        cases h1);
        (try simp only[Exit.inBlock,Exit.then]);refine rb2 HR.out ?_;exact TyR.bad (by rw[HZ.out,hco];rfl) (by rw[Jc.out,hco];rfl) Lp Ka.out)
      |(have hco:cok=true:=(by
       cases hq:cok with
       |true=>rfl
       |false =>
        rw[Aq.out Jg.out]at Al
        rw[HC3.out Jg.out hq _ Al]at he7
        cases he7);
        obtain⟨u,hu,h1,h2,h3⟩:=Dp.out Jg.out hco;
        obtain rfl:t7=u:=(by rw[Aq.out Jg.out,hu]at Al;injection Al with Al;exact Al.symm);
        go_meet;(case rel=>exact⟨rfl,⟨#[]⟩,t7,Lg,⟨hco,h1,h2,h3⟩,Zf⟩))
  case rest =>
   clear Zh Qj
   obtain⟨rfl,ie,it,Lg,hcc,Zf⟩:=hcut
   obtain⟨im,ie2,ifa,ifn,ifc,ip⟩:=it
   have Ir:=hcc.out
   dsimp only at Ir
   obtain⟨hco,rfl,rfl,rfl⟩:=Ir
   clear hcc Dp Uc HC3 HC4 Aq
   have Xi:=hid hco
   clear hco
   dsimp only at Lg
   rename World=>w9
   go_wp2_with fail
   go_loopw [9,10] (fun v jj wr=>∃ (i:Nat) (ts:List Ty) (v0:Value),v0=v/\i<=xn/\jj=.int .i64 i/\Hid (Own Ty.cells 3 35 wr w9.heap.size v ts)/\ts.length=i/\Hid (∀ (j:Nat) (r:Ty) (u:Ex),ts[j]?=some r->xs[j]?=some u->TyOk w0 wr r (rf u).2)/\Hid (∀ j,j<i->∀ y,xs[j]?=some y->(rf y).1=true)/\Hid (Below w9.heap.size w9 wr)) (fun _ jj _=>xn - (intOf jj).toNat)
   case atStart=>exact⟨0,[],_,rfl,by omega,rfl,Own.nil _ _,rfl,hid (fun j r u hr=>by simp at hr),hid (fun j hj=>by omega),ZR w9⟩
   case round =>
    obtain⟨i,ts,v0,rfl,hi,rfl,HO,htl,HU,My,Ze⟩:=hrel
    rename World=>wr
    have HR:Hid (Below V.heap.size V wr):=ZT Zf.out Ze.out
    have KK:=HS.out _ HR.out
    by_cases hlt:i<xn
    · obtain⟨y,hy⟩:∃ y,xs[i]?=some y:=⟨xs[i]'(by have:=HN.out;omega),List.getElem?_eq_getElem _⟩
      obtain⟨b1,o1,rfl,Da⟩:=(Cj.out.kept (Ga.out.trans (Below.mono HR.out Ga.out.size))).some (by have:=HN.out;omega)
      have Sh:Hid (∀ w',Below wr.heap.size wr w'->∀ j v,(Ex.cells y)[j]?=some v->w'.cell? ⟨b1,o1+i*12+j,none⟩=some v):=fun w' hb j v hj=>Zaa (Da i y hy j v hj) hb
      have Zv:=hid hy
      have Sr:=Cf.out i y hlt hy
      obtain⟨zy,q,Nn,HXY,HZB,Fp,HQY⟩:∃ (zy:Bool) (q:Ta),Hid (∀ (s_cta:Option Addr) (s_ctc:Nat) (s_cfa:Option Addr) (s_cfc:Nat) (s_cda:Option Addr) (s_cdn:Nat) (s_cdc:Nat) (s_cqa:Option Addr) (s_cqn:Nat) (s_cqc:Nat) (s_tm:ByteArray) (s_te:ByteArray) (s_tfc:Nat) (s_tp:Int) (L:List Tb) (w:World),Below w0.heap.size w0 w->Zac Ft.cells 18 w s_cfa F->Zac Tb.cells 4 w s_cta L->L.length<=100000->(L=T∨zy=true/\Sub T L)->Calls prog 204 #[.agg #[.slice s_cta L.length s_ctc,.slice s_cfa F.length s_cfc,.slice s_cda s_cdn s_cdc,.slice s_cqa s_cqn s_cqc,.string ce,.string s_tm,.string s_te,.slice ca cn s_tfc,.int .i64 s_tp],y.val] w (TyRaw zy q w0 w))/\Hid (L=T∨zy=true/\Sub T L)/\Hid (zy=false->z=false/\t=Ta.zero)/\Hid (zy=true->∀ j,j<i+1->∀ y,xs[j]?=some y->(rf y).1=true)/\Hid (q=(rf y).2) :=
       ⟨_,_,Zm.out y (List.mem_of_getElem? hy),Sr,hid (fun e=>by
        have hA:A=false:=by
         cases hq:A with
         |false=>rfl
         |true=>have:=HA.out.1 hq i hlt y hy;rw[e]at this;cases this
        exact⟨by rw[HZ.out,hA];simp,by rw[Jc.out,hA];simp⟩),hid (fun e=>Za9 My.out (fun u hu=>by rw[hy]at hu;injection hu with hu;subst hu;exact e)),hid rfl⟩
      have HBr:=hid (Lg.out.kept Ze.out)
      have HB6c:Hid (∀ w',Below wr.heap.size wr w'->w'.cell? ⟨V.heap.size,0,none⟩=some (.slice s_cta L.length s_ctc)/\w'.cell? ⟨V.heap.size,1,none⟩=some (.slice s_cfa F.length s_cfc)/\w'.cell? ⟨V.heap.size,2,none⟩=some (.slice s_cda s_cdn s_cdc)/\w'.cell? ⟨V.heap.size,3,none⟩=some (.slice s_cqa s_cqn s_cqc)/\w'.cell? ⟨V.heap.size,4,none⟩=some (.string ce)/\w'.cell? ⟨V.heap.size,5,none⟩=some (.string im)/\w'.cell? ⟨V.heap.size,6,none⟩=some (.string ie2)/\w'.cell? ⟨V.heap.size,7,none⟩=some (.slice ca cn ifc)/\w'.cell? ⟨V.heap.size,8,none⟩=some (.int .i64 ip)):=fun w' h=>⟨(HBr.out.kept h).cell 0 _ rfl,(HBr.out.kept h).cell 1 _ rfl,(HBr.out.kept h).cell 2 _ rfl,(HBr.out.kept h).cell 3 _ rfl,(HBr.out.kept h).cell 4 _ rfl,(HBr.out.kept h).cell 5 _ rfl,(HBr.out.kept h).cell 6 _ rfl,(HBr.out.kept h).cell 7 _ rfl,(HBr.out.kept h).cell 8 _ rfl⟩
      clear Da hy Sr
      go_upto_region 11 with fail
      refine wrt (S:=fun w'=>Below wr.heap.size wr w') (.free 0 (.free 1 (.free 2 (.free 3 (.free 4 (.free 5 (.two 6 (.free 7 (.free 8 (.free 9 (.one 10 (.one 11 (.free 12 .done)))))) 10 (.one 6 (.free 7 (.free 8 (.free 9 (.one 11 (.free 12 .done))))))))))))) (ZD (ZR wr)) ?_
      have Ca:=fun wq (hSw:(fun w'=>Below wr.heap.size wr w') wq)=>And.intro (HS.out wq (ZT HR.out hSw)) (HB6c.out wq hSw)
      refine tk Ca (.agg #[.slice s_cta L.length s_ctc,.slice s_cfa F.length s_cfc,.slice s_cda s_cdn s_cdc,.slice s_cqa s_cqn s_cqc,.string ce,.string im,.string ie2,.slice ca cn ifc,.int .i64 ip]) ?_
      refine tk Ca (.pointer (some ⟨w.heap.size+1,11,none⟩)) ?_
      refine tk Ca (.slice (some ⟨b1,o1,none⟩) xn x_xc) ?_
      refine tk Ca (.int .i64 i) ?_
      refine tk Ca (.pointer (some ⟨b1,o1+i*12,none⟩)) ?_
      refine tl b1 (o1+i*12) (Ex.cells y) (fun w hS=>Sh.out w hS) ?_
      refine ZeX ?p1 ?q1
      case' p1 =>
       refine t1 fun K hK=>?_
       go_wp2_with (go_at_call 204;refine(Nn.out _ _ _ _ _ _ _ _ _ _ _ _ _ _ L _ (Ga.out.trans (Below.mono (ZT HR.out bt) Ga.out.size)) (Bf.out.kept (ZT HR.out bt)) (Td.out.kept (ZT HR.out bt)) Yb.out HXY.out).mono ?_;rintro e w5 ⟨t5,k5,rfl,Ea,Fa,Ed,hb⟩;have Jd:=hid Ed;have Jb:=hid Ea;have Dc:=hid Fa;have Db:Hid (Below wr.heap.size wr w5):=ZT bt hb;clear Ed hb Ea Fa)
       refine hk hK Db.out ?_
       clear hK K
       refine tk Ca (.tuple #[.agg #[.int .i64 t5.k,.slice t5.ua t5.un t5.uc,.string t5.o],.int .i64 k5]) ?_
       refine tk Ca (.agg #[.int .i64 t5.k,.slice t5.ua t5.un t5.uc,.string t5.o]) ?_
       refine tk Ca (.int .i64 k5) ?_
       refine t1 fun K hK=>?_
       refine Zed 35 rfl [.int .i64 0,.slice none 0 0,.string ⟨#[]⟩] (by kernel_rfl) ?_
       intro wA hnb hbe
       have HN:=hid hnb
       have Dw:=hid (Jd.out.kept hbe)
       have Ds:Hid (Below wr.heap.size wr wA):=ZT bt hbe
       refine hk hK Ds.out ?_
       clear hK K hnb hbe
       refine t1 fun K hK=>?_
       have Ab:=HN
       refine Zcn 35 _ _ rfl rfl _ 35 _ (Ty.cells t5) rfl rfl Ab.out (by kernel_rfl) (by rfl) (by rfl) wr bt (by first|exact Db.out.size|exact Nat.le_refl _) ?_
       intro w10 Ud Pb hot
       have Ai:=hid Ud
       have Fs:=hid (TyOk.putq (w0:=w0) hot Ab.out (by decide) Dw.out)
       have Xb:Hid (Below wr.heap.size wr w10):=Pb
       refine hk hK Xb.out ?_
       clear hK K Ud Pb hot
       refine tk Ca (.int .i64 k5) ?_
       refine ZaP ?_
      case' q1 =>
       refine t1 fun K hK=>?_
       refine Zed 35 rfl [.int .i64 0,.slice none 0 0,.string ⟨#[]⟩] (by kernel_rfl) ?_
       intro wA hnb hbe
       have HN:=hid hnb
       have Ds:Hid (Below wr.heap.size wr wA):=ZT bt hbe
       refine hk hK Ds.out ?_
       clear hK K hnb hbe
       refine t1 fun K hK=>?_
       go_wp2_with (go_at_call 204;refine(Nn.out _ _ _ _ _ _ _ _ _ _ _ _ _ _ L _ (Ga.out.trans (Below.mono (ZT HR.out bt) Ga.out.size)) (Bf.out.kept (ZT HR.out bt)) (Td.out.kept (ZT HR.out bt)) Yb.out HXY.out).mono ?_;rintro e w5 ⟨t5,k5,rfl,Ea,Fa,Ed,hb⟩;have Jd:=hid Ed;have Jb:=hid Ea;have Dc:=hid Fa;have Db:Hid (Below wr.heap.size wr w5):=ZT bt hb;have hKB:=hid hb;clear Ed hb Ea Fa)
       refine hk hK Db.out ?_
       clear hK K
       refine tk Ca (.tuple #[.agg #[.int .i64 t5.k,.slice t5.ua t5.un t5.uc,.string t5.o],.int .i64 k5]) ?_
       refine tk Ca (.agg #[.int .i64 t5.k,.slice t5.ua t5.un t5.uc,.string t5.o]) ?_
       refine tk Ca (.int .i64 k5) ?_
       refine t1 fun K hK=>?_
       have Ab:=hid (HN.out.kept hKB.out)
       have Dw:=Jd
       refine Zcn 35 _ _ rfl rfl _ 35 _ (Ty.cells t5) rfl rfl Ab.out (by kernel_rfl) (by rfl) (by rfl) wr bt (by first|exact Db.out.size|exact Nat.le_refl _) ?_
       intro w10 Ud Pb hot
       have Ai:=hid Ud
       have Fs:=hid (TyOk.putq (w0:=w0) hot Ab.out (by decide) Dw.out)
       have Xb:Hid (Below wr.heap.size wr w10):=Pb
       refine hk hK Xb.out ?_
       clear hK K Ud Pb hot
       refine tk Ca (.int .i64 k5) ?_
       refine ZaP ?_
      all_goals
       have c0:=Ai.out.cell 0 (.int .i64 t5.k) rfl
       have c1:=Ai.out.cell 1 (.slice t5.ua t5.un t5.uc) rfl
       have c2:=Ai.out.cell 2 (.string t5.o) rfl
       have Lw:Hid (Below V.heap.size V w10):=ZT HR.out Xb.out
       have Kg:Hid (Below w9.heap.size w9 w10):=ZT Ze.out Xb.out
       have Ma:=hid (HO.out.kept Xb.out)
       have HL:Hid (ts.length+[t5].length<=1000000000):=by show _<=_;have:=Qa.out;simp;omega
       rcases retz Jb.out Dc.out with⟨hzy,rfl⟩|⟨hzy,Rd⟩
       all_goals
        go_wp2_with (first|(at_builtin;refine ZbV elTy encTy rfl (.tmp 50) (.tmp 52) rfl rfl rfl (Ma.out.kept (Zab _)) (Zav t5 _ encTy) rfl (fun e=>by cases e) (Nat.le_trans Kg.out.size (Zab _).size) HL.out ?_;intro v3 w3 ho hg hv;have Sb:=hid ho;have Ii:=hid hg;have Zi:Hid (Below w9.heap.size w9 w3):=(Kg.out.alloc Kg.out.size _).grown hg (Nat.le_trans Kg.out.size (Zab _).size) (fun k e=>(Own.lt Ma.out k e).1);clear ho hg hv)|((with_reducible refine Zaq 35 ?_);refine Zae rfl 35 #[] rfl _ (fun w=>ZaX w) ?_;intro v hv)|((with_reducible refine Zaf 35 ?_);refine SB (B2.out.kept bt) w (ZT Aa.out bt) ?_;intro w9 hby hyb hot;have HR:=hid hby;have Ka:=hid hyb;have Na:=hid hot;clear hby hyb hot)|fail)
       all_goals first
        |((try simp only[Exit.inBlock,Exit.then]);refine rb2 HR.out ?_;exact TyR.bad (HZB.out hzy).1 (HZB.out hzy).2 Rd Ka.out)
        |skip
       go_roundw
       case rel =>
        refine⟨i+1,ts++[t5],_,rfl,by omega,by go_num,Sb.out,by simp;omega,hid (fun j r u hr hu=>?_),hid (Fp.out hzy),Zi.out⟩
        by_cases hj:j<ts.length
        · rw[List.getElem?_append_left hj]at hr
          exact(((HU.out j r u hr hu).kept Xb.out).kept (Zab _)).grown (Ma.out.kept (Zab _)) Ii.out
        · have Mp:j=ts.length:=by
            have:=(List.getElem?_eq_some_iff.1 hr).1
            simp at this
            omega
          subst Mp
          have Bb:r=t5:=by simpa using hr.symm
          subst Bb
          have Xf:u=y:=by rw[htl,Zv.out]at hu;injection hu with hu;exact hu.symm
          subst Xf
          exact((HQY.out ▸ Fs.out).kept (Zab _)).grown (Ma.out.kept (Zab _)) Ii.out
       case measure=>simp[intOf];omega
    · obtain⟨a9,c9,rfl,-,-,Vq⟩:=HO.out.lies encTy
      have Kh:Hid (TysX w0 wr a9 (xs.map (fun y=>(rf y).2))):=⟨ts,by rw[List.length_map];have:=HN.out;omega,Vq,fun j r t hr ht=>by
       rw[List.getElem?_map]at ht
       cases hx:xs[j]? with
       |none=>rw[hx]at ht;cases ht
       |some u =>
        rw[hx]at ht
        injection ht with ht
        subst ht
        exact HU.out j r u hr hx⟩
      have Cu:Hid (A=true):=HA.out.2 (fun j hj=>My.out j (by omega))
      have HZT:Hid (z=zo/\t=tq):=⟨by rw[HZ.out,Xi.out,Cu.out];rfl,by rw[Jc.out,Xi.out,Cu.out];rfl⟩
      obtain⟨rfl,rfl⟩:=HZT.out
      have Wh:Hid (ts.length=xn):=by show _=_;omega
      clear Vq HO HU Lg Cj Td hi HZ Jc HZT My Zm Cf
      rw[Wh.out]
      go_wp2_with (first|(go_at_call 215;refine(Us.out _ _ _ _ _ _ _ _ _ _ _ _ _ _ _ _ _ _ (Ga.out.trans (Below.mono (ZT HR.out bt) Ga.out.size)) (Bf.out.kept (ZT HR.out bt)) (Kh.out.kept bt)).mono ?_;rintro e w5 ⟨t5,k5,rfl,Ea,Fa,Ed,hb⟩;have Jd:=hid Ed;have Jb:=hid Ea;have Dc:=hid Fa;have Db:Hid (Below V.heap.size V w5):=ZT HR.out (ZT (ZR _) hb);clear Ed hb Ea Fa)|((with_reducible refine Zaf 35 ?_);refine SB (B2.out.kept bt) w (ZT Aa.out bt) ?_;intro w9 hby hyb hot;have HR:=hid hby;have Ka:=hid hyb;have Na:=hid hot;clear hby hyb hot;have Cw:=hid (TyOk.putq (w0:=w0) Na.out (B2.out.kept bt) (by decide) Jd.out))|fail)
      (try simp only[Exit.inBlock,Exit.then]);refine rb2 HR.out ?_
      exact Cw.out.ret Jb.out Dc.out Ka.out
theorem infer191_det (w0:World)(F:List Ft)(hfl:F.length<=100000)(hfok:∀ f∈F,f.Ok w0)(T:List Tb)(htok:∀ t∈T,FdsAt w0 t.fa t.fn)(n:Nat)(en:ByteArray)(x:Ex)(hx:ExAt n w0 x):∃ (z:Bool) (t:Ta),∀ (c_ta:Option Addr) (c_tc:Nat) (c_fa:Option Addr) (c_fc:Nat) (c_da:Option Addr) (c_dn:Nat) (c_dc:Nat) (c_qa:Option Addr) (c_qn:Nat) (c_qc:Nat) (L:List Tb) (w:World),Below w0.heap.size w0 w->Zac Ft.cells 18 w c_fa F->Zac Tb.cells 4 w c_ta L->L.length<=100000->(L=T∨z=true/\Sub T L)->Calls prog 191 #[.agg #[.slice c_ta L.length c_tc,.slice c_fa F.length c_fc,.slice c_da c_dn c_dc,.slice c_qa c_qn c_qc],.string en,x.val] w (TyR z t w0 w):=by
 obtain⟨rs,hsh,hs⟩:=shape_det agg_ok w0 n _ _ _ _ _ _ _ _ _ _ _ _ _ _ _ _ hx
 obtain⟨zi,ti,hin⟩:∃ (zi:Bool) (ti:Ta),rs=true->∀ (s_cta:Option Addr) (s_ctc:Nat) (s_cfa:Option Addr) (s_cfc:Nat) (s_cda:Option Addr) (s_cdn:Nat) (s_cdc:Nat) (s_cqa:Option Addr) (s_cqn:Nat) (s_cqc:Nat) (s_tm:ByteArray) (s_te:ByteArray) (s_tfc:Nat) (s_tp:Int) (L:List Tb) (w:World),Below w0.heap.size w0 w->Zac Ft.cells 18 w s_cfa F->Zac Tb.cells 4 w s_cta L->L.length<=100000->(L=T∨zi=true/\Sub T L)->Calls prog 204 #[.agg #[.slice s_cta L.length s_ctc,.slice s_cfa F.length s_cfc,.slice s_cda s_cdn s_cdc,.slice s_cqa s_cqn s_cqc,.string en,.string s_tm,.string s_te,.slice none 0 s_tfc,.int .i64 s_tp],x.val] w (TyRaw zi ti w0 w):=by
  cases rs with
  |false=>exact⟨false,Ta.zero,fun h=>by cases h⟩
  |true =>
   obtain⟨zi,ti,h⟩:=infer_det w0 F hfl hfok T htok n en none 0 (FdsAt.nil _ _) x hx (hsh rfl)
   exact⟨zi,ti,fun _=>fun s_cta s_ctc s_cfa s_cfc s_cda s_cdn s_cdc s_cqa s_cqn s_cqc s_tm s_te s_tfc s_tp L w h1 h2 h3 h4 h5=>(h s_cta s_ctc s_cfa s_cfc s_cda s_cdn s_cdc s_cqa s_cqn s_cqc s_tm s_te s_tfc s_tp L w h1 h2 h3 h4 h5).mono fun _ _ h=>h.raw⟩
 obtain⟨z,hz⟩:∃ z,z=(rs&&zi):=⟨_,rfl⟩
 obtain⟨t,ht⟩:∃ t,t=(if rs=true then ti else Ta.zero):=⟨_,rfl⟩
 have HSH:=hid hs
 have Xj:=hid hin
 have HZ:=hid hz
 have Jc:=hid ht
 refine⟨z,t,fun c_ta c_tc c_fa c_fc c_da c_dn c_dc c_qa c_qn c_qc L w Oa hft htb hll hext=>?_⟩
 have Cf:Hid (rs=true->(L=T∨zi=true/\Sub T L)):=fun e=>by
  rcases hext with h|⟨h1,h2⟩
  · exact Or.inl h
  · rw[hz]at h1
    simp only[Bool.and_eq_true]at h1
    exact Or.inr ⟨h1.2,h2⟩
 have Be:=hid hft
 have Ri:=hid htb
 have Yb:=hid hll
 have Ja:=hid Oa
 clear hs hin hz ht hext hft htb hll Oa hsh hx hfok htok
 obtain⟨x_k,x_o,x_m,x_t,x_vk,x_vn,x_vs,x_ua,x_un,x_uc,x_p,x_wk,x_wz,x_xa,x_xn,x_xc⟩:=x
 go_enter func191,ntmps191
 go_upto_region 1 with fail
 refine gen3 (fun V B0 B1 B2 Aa=>?_)
 have HW:Hid (Below V.heap.size V V):=ZR V
 have HS:=hs2 B0 B1
 simp only[Cl,Nat.reduceAdd]at HS
 have KK:=HS.out V (ZR V)
 have Bf:Hid (Zac Ft.cells 18 V c_fa F):=Be.out.kept Aa.out
 have Td:Hid (Zac Tb.cells 4 V c_ta L):=Ri.out.kept Aa.out
 have Ga:Hid (Below w0.heap.size w0 V):=Ja.out.trans (Aa.out.mono Ja.out.size)
 go_wp2_with (first|(go_at_call 190;refine(HSH.out _ (Ga.out.trans (Below.mono bt Ga.out.size))).mono ?_;rintro e w4 ⟨k4,rfl,Ea,Fa,hb⟩;have Vm:Hid (Below V.heap.size V w4):=ZT bt hb;clear hb;have KK:=HS.out _ Vm.out;rcases retz Ea Fa with⟨hrs,rfl⟩|⟨hrs,Zk⟩<;>clear Ea Fa)|((with_reducible refine ZaK 242 ?_);refine Zbe rfl rfl 242 _ _ rfl rfl rfl _ rfl rfl (by kernel_rfl) (by rfl) V bt ?_;intro w8 hbx hbe hbl;have Za:=hid hbx;have Lf:Hid (Below V.heap.size V w8):=hbe;clear hbx hbe hbl;have KK:=HS.out _ Lf.out)|((with_reducible refine Zah 242 ?_);refine LB Za.out ?_)|(go_at_call 204;refine(Xj.out hrs _ _ _ _ _ _ _ _ _ _ _ _ _ _ L _ (Ga.out.trans (Below.mono bt Ga.out.size)) (Bf.out.kept bt) (Td.out.kept bt) Yb.out (Cf.out hrs)).mono ?_;rintro e w5 ⟨t5,k5,rfl,Ea,Fa,Ed,hb⟩;have Jd:=hid Ed;have Jb:=hid Ea;have Dc:=hid Fa;have Db:Hid (Below V.heap.size V w5):=ZT bt hb;clear Ed hb Ea Fa)|((with_reducible refine Zaq 35 ?_);refine Zae rfl 35 #[] rfl _ (fun w=>ZaX w) ?_;intro v hv)|((with_reducible refine Zaf 35 ?_);refine SB (B2.out.kept bt) w (ZT Aa.out bt) ?_;intro w9 hby hyb hot;have HR:=hid hby;have Ka:=hid hyb;have Na:=hid hot;clear hby hyb hot;try(have Cw:=hid (TyOk.putq (w0:=w0) Na.out (B2.out.kept bt) (by decide) Jd.out)))|fail)
 all_goals
  (try simp only[Exit.inBlock,Exit.then]);refine rb2 HR.out ?_
  first
   |exact TyR.bad (by rw[HZ.out,hrs];rfl) (by rw[Jc.out,hrs];rfl) (by assumption) Ka.out
   |(obtain⟨rfl,rfl⟩:z=zi/\t=ti:=⟨by rw[HZ.out,hrs];rfl,by rw[Jc.out,hrs];rfl⟩;exact Cw.out.ret Jb.out Dc.out Ka.out)
theorem ZdY (w0:World)(F:List Ft)(hfl:F.length<=100000)(hfok:∀ f∈F,f.Ok w0)(T:List Tb)(htok:∀ t∈T,FdsAt w0 t.fa t.fn)(n:Nat)(f_m:ByteArray)(f_e:ByteArray)(f_tk:Int)(f_tua:Option Addr)(f_tuc:Nat)(f_to:ByteArray)(f_bk:Int)(f_bo:ByteArray)(f_bm:ByteArray)(f_bt:ByteArray)(f_bvk:Int)(f_bvn:Int)(f_bvs:ByteArray)(f_bua:Option Addr)(f_bun:Nat)(f_buc:Nat)(f_bp:Int)(f_bwk:Int)(f_bwz:Int)(f_bxa:Option Addr)(f_bxn:Nat)(f_bxc:Nat)(f_r:Int)(us:List FID)(hfu:UnIs w0 f_tua us)(hx:ExAt n w0 ⟨f_bk,f_bo,f_bm,f_bt,f_bvk,f_bvn,f_bvs,f_bua,f_bun,f_buc,f_bp,f_bwk,f_bwz,f_bxa,f_bxn,f_bxc⟩):∃ z:Bool,∀ (c_ta:Option Addr) (c_tc:Nat) (c_fa:Option Addr) (c_fc:Nat) (c_da:Option Addr) (c_dn:Nat) (c_dc:Nat) (c_qa:Option Addr) (c_qn:Nat) (c_qc:Nat) (L:List Tb) (w:World),Below w0.heap.size w0 w->Zac Ft.cells 18 w c_fa F->Zac Tb.cells 4 w c_ta L->L.length<=100000->(L=T∨z=true/\Sub T L)->Calls prog 172 #[.agg #[.slice c_ta L.length c_tc,.slice c_fa F.length c_fc,.slice c_da c_dn c_dc,.slice c_qa c_qn c_qc],.agg #[.string f_m,.string f_e,.int .i64 f_tk,.slice f_tua us.length f_tuc,.string f_to,.int .i64 f_bk,.string f_bo,.string f_bm,.string f_bt,.int .i64 f_bvk,.int .i64 f_bvn,.string f_bvs,.slice f_bua f_bun f_buc,.int .i64 f_bp,.int .i64 f_bwk,.int .i64 f_bwz,.slice f_bxa f_bxn f_bxc,.int .i64 f_r]] w (RetZ z w):=by
 obtain⟨q1,Fg⟩:∃ q,nameB f_m=q:=⟨_,rfl⟩
 have We:Hid (∀ w,Calls prog 140 #[.string f_m] w (RetB q1 w)):=by rw[<-Fg];exact fun w=>ZbJ _ w
 clear Fg
 obtain⟨q2,Ob⟩:∃ q,nameB f_e=q:=⟨_,rfl⟩
 have Ab:Hid (∀ w,Calls prog 140 #[.string f_e] w (RetB q2 w)):=by rw[<-Ob];exact fun w=>ZbJ _ w
 clear Ob
 obtain⟨rt,hty⟩:=ZeA f_tk f_to us
 obtain⟨zi,ti,hin⟩:=infer191_det w0 F hfl hfok T htok n f_e _ hx
 obtain⟨rb,hbo⟩:=both_det ti.k ti.o f_tk f_to ti.us us
 have HBO:Hid (∀ (r:Ty) (w:World),TyOk w0 w r ti->Below w0.heap.size w0 w->UnIs w f_tua us->Calls prog 192 #[.agg #[.int .i64 r.k,.slice r.ua r.un r.uc,.string r.o],.agg #[.int .i64 f_tk,.slice f_tua us.length f_tuc,.string f_to]] w (RetZ rb w)):=fun r w h1 h2 h3=>by
  obtain⟨e1,e2,e3,e4⟩:=h1
  rw[e1,e2,e3]
  exact hbo _ _ _ _ w (e4.is h2) h3
 obtain⟨e1,Og⟩:∃ q,decide (f_r<0)=q:=⟨_,rfl⟩
 obtain⟨z,hz⟩:∃ z,z=(q1&&(q2&&(!e1&&(rt&&(zi&&rb))))):=⟨_,rfl⟩
 have Kh:=hid hty
 have Xj:Hid (∀ (c_ta:Option Addr) (c_tc:Nat) (c_fa:Option Addr) (c_fc:Nat) (c_da:Option Addr) (c_dn:Nat) (c_dc:Nat) (c_qa:Option Addr) (c_qn:Nat) (c_qc:Nat) (L:List Tb) (w:World),Below w0.heap.size w0 w->Zac Ft.cells 18 w c_fa F->Zac Tb.cells 4 w c_ta L->L.length<=100000->(L=T∨zi=true/\Sub T L)->Calls prog 191 #[.agg #[.slice c_ta L.length c_tc,.slice c_fa F.length c_fc,.slice c_da c_dn c_dc,.slice c_qa c_qn c_qc],.string f_e,.agg #[.int .i64 f_bk,.string f_bo,.string f_bm,.string f_bt,.int .i64 f_bvk,.int .i64 f_bvn,.string f_bvs,.slice f_bua f_bun f_buc,.int .i64 f_bp,.int .i64 f_bwk,.int .i64 f_bwz,.slice f_bxa f_bxn f_bxc]] w (TyRaw zi ti w0 w)):=fun c_ta c_tc c_fa c_fc c_da c_dn c_dc c_qa c_qn c_qc L w h1 h2 h3 h4 h5=>(hin c_ta c_tc c_fa c_fc c_da c_dn c_dc c_qa c_qn c_qc L w h1 h2 h3 h4 h5).mono fun _ _ h=>h.raw
 have HR:=hid hz
 refine⟨z,fun c_ta c_tc c_fa c_fc c_da c_dn c_dc c_qa c_qn c_qc L w Oa hft htb hll hext=>?_⟩
 have Cf:Hid (L=T∨zi=true/\Sub T L):=by
  rcases hext with h|⟨h1,h2⟩
  · exact Or.inl h
  · rw[hz]at h1
    simp only[Bool.and_eq_true]at h1
    exact Or.inr ⟨h1.2.2.2.2.1,h2⟩
 have Be:=hid hft
 have Ri:=hid htb
 have Yb:=hid hll
 have Ja:=hid Oa
 have Zp:=hid hfu
 clear hty hin hbo hz hext hft htb hll Oa hx hfu hfok htok
 go_enter func172,ntmps172
 go_upto_region 1 with fail
 refine gen2 (fun V B0 B1 Aa=>?_)
 have HS:=hs2 B0 B1
 simp only[Cl,Nat.reduceAdd]at HS
 have KK:=HS.out V (ZR V)
 have Bf:Hid (Zac Ft.cells 18 V c_fa F):=Be.out.kept Aa.out
 have Td:Hid (Zac Tb.cells 4 V c_ta L):=Ri.out.kept Aa.out
 have Ga:Hid (Below w0.heap.size w0 V):=Ja.out.trans (Aa.out.mono Ja.out.size)
 go_wp2_with (first|(go_at_call 140;(with_reducible refine(We.out _).mono ?_);rintro e w' ⟨rfl,hb⟩;have HW:Hid (Below V.heap.size V w'):=ZT bt hb;clear hb;have KK:=HS.out _ HW.out;try cases q1)|(go_at_call 140;(with_reducible refine(Ab.out _).mono ?_);rintro e w' ⟨rfl,hb⟩;have HW:Hid (Below V.heap.size V w'):=ZT bt hb;clear hb;have KK:=HS.out _ HW.out;try cases q2)|(go_at_call 189;refine(Kh.out _ _ _ (Zp.out.kept (Ga.out.trans (Below.mono bt Ga.out.size)))).mono ?_;rintro e w' ⟨nt,rfl,Ea,Fa,hb⟩;have HW:Hid (Below V.heap.size V w'):=ZT bt hb;clear hb;have KK:=HS.out _ HW.out;rcases retz Ea Fa with⟨hrt,rfl⟩|⟨hrt,nt0⟩<;>clear Ea Fa)|(go_at_call 191;refine(Xj.out _ _ _ _ _ _ _ _ _ _ L _ (Ga.out.trans (Below.mono bt Ga.out.size)) (Bf.out.kept bt) (Td.out.kept bt) Yb.out Cf.out).mono ?_;rintro e w5 ⟨t5,k5,rfl,Ea,Fa,Ed,hb⟩;have Jd:=hid Ed;have Jb:=hid Ea;have Dc:=hid Fa;have Db:Hid (Below V.heap.size V w5):=ZT bt hb;clear Ed hb Ea Fa;have KK:=HS.out _ Db.out)|((with_reducible refine ZaK 35 ?_);refine Zbe rfl rfl 35 _ _ rfl rfl rfl (Ty.cells t5) rfl rfl (by kernel_rfl) (by rfl) V bt ?_;intro w8 hbx hbe hbl;have Hl:=hid (Jd.out.kept hbl);have g0:=hbx.cell 0 (.int .i64 t5.k) rfl;have g1:=hbx.cell 1 (.slice t5.ua t5.un t5.uc) rfl;have g2:=hbx.cell 2 (.string t5.o) rfl;have Lf:Hid (Below V.heap.size V w8):=hbe;clear hbx hbe hbl;have KK:=HS.out _ Lf.out;rcases retz Jb.out Dc.out with⟨hzi,rfl⟩|⟨hzi,Uf⟩)|(go_at_call 192;refine(HBO.out t5 _ Hl.out (Ga.out.trans (Below.mono bt Ga.out.size)) (Zp.out.kept (Ga.out.trans (Below.mono bt Ga.out.size)))).mono ?_;rintro e w9 ⟨k9,rfl,Ea,Fa,hb⟩;have Zf:Hid (Below V.heap.size V w9):=ZT bt hb;clear hb;rcases retz Ea Fa with⟨hbo,rfl⟩|⟨hbo,hk9⟩<;>clear Ea Fa)|fail)
 all_goals
  go_ret
  exact RetZ.of (by have hR:=HR.out;simp_all<;>grind) (by have hR:=HR.out;simp_all<;>grind) (ZT Aa.out bt)
theorem feature10_any (c_ta:Option Addr)(c_tn:Nat)(c_tc:Nat)(c_fa:Option Addr)(c_fn:Nat)(c_fc:Nat)(c_da:Option Addr)(c_dn:Nat)(c_dc:Nat)(c_qa:Option Addr)(c_qn:Nat)(c_qc:Nat)(f_m:ByteArray)(f_e:ByteArray)(f_tk:Int)(f_tua:Option Addr)(f_tun:Nat)(f_tuc:Nat)(f_to:ByteArray)(f_bk:Int)(f_bo:ByteArray)(f_bm:ByteArray)(f_bt:ByteArray)(f_bvk:Int)(f_bvn:Int)(f_bvs:ByteArray)(f_bua:Option Addr)(f_bun:Nat)(f_buc:Nat)(f_bp:Int)(f_bwk:Int)(f_bwz:Int)(f_bxa:Option Addr)(f_bxn:Nat)(f_bxc:Nat)(f_r:Int)(w w0:World)(Oa:Below w0.heap.size w0 w)(B:Nat)(hB:B<=100000)(h:CatW w0 B w c_ta c_tn c_fa c_fn c_da c_dn c_qa c_qn)(n:Nat)(hu:ZaH w0 f_tua f_tun)(hx:ExAt n w0 ⟨f_bk,f_bo,f_bm,f_bt,f_bvk,f_bvn,f_bvs,f_bua,f_bun,f_buc,f_bp,f_bwk,f_bwz,f_bxa,f_bxn,f_bxc⟩):Calls prog 172 #[.agg #[.slice c_ta c_tn c_tc,.slice c_fa c_fn c_fc,.slice c_da c_dn c_dc,.slice c_qa c_qn c_qc],.agg #[.string f_m,.string f_e,.int .i64 f_tk,.slice f_tua f_tun f_tuc,.string f_to,.int .i64 f_bk,.string f_bo,.string f_bm,.string f_bt,.int .i64 f_bvk,.int .i64 f_bvn,.string f_bvs,.slice f_bua f_bun f_buc,.int .i64 f_bp,.int .i64 f_bwk,.int .i64 f_bwz,.slice f_bxa f_bxn f_bxc,.int .i64 f_r]] w (GotI w):=by
 obtain⟨T,rfl,hT,htok,hlt⟩:=h.t
 obtain⟨F,rfl,hF,hfok,hlf⟩:=h.f
 obtain⟨us,rfl,hus⟩:=hu.is
 obtain⟨z,hz⟩:=ZdY w0 F (by omega) hfok T htok n f_m f_e f_tk f_tua f_tuc f_to f_bk f_bo f_bm f_bt f_bvk f_bvn f_bvs f_bua f_bun f_buc f_bp f_bwk f_bwz f_bxa f_bxn f_bxc f_r us hus hx
 exact(hz c_ta c_tc c_fa c_fc c_da c_dn c_dc c_qa c_qn c_qc T w Oa hlf hlt (by omega) (Or.inl rfl)).mono fun _ _ h=>h.got
theorem Ft.setr {W:World}{g:Nat}{f:Ft}{v:Int}(h:Box W g (f.cells.toArray.setIfInBounds 17 (.int .i64 v)) 44):∃ f2:Ft,Box W g f2.cells.toArray 44/\f2.r=v/\∀ w0,f.Ok w0->f2.Ok w0 :=
 ⟨⟨f.m,f.e,f.tk,f.tua,f.tun,f.tuc,f.tof,f.b,v⟩,h,rfl,fun w0 h=>h⟩
theorem Cs.other {w0 w W W':World}{B g r:Nat}{c:Ct}(h:Cs w0 w B g r c W)(h0:c.Ok w0 B w)(hbe:Below w.heap.size w W')(hg':W'.heap[g]?=W.heap[g]?)(hr':W'.heap[r]?=W.heap[r]?):Cs w0 w B g r c W':=⟨hg'.trans h.box,hr'.trans h.res,h0.kept hbe,hbe,h.old,h.hg,h.hr,h.ne⟩
theorem publish_any (c:Ct)(f:Ft)(w w0:World)(Oa:Below w0.heap.size w0 w)(B:Nat)(hB:B<=1000)(h:c.Ok w0 B w)(hf:f.Ok w0):Calls prog 165 #[c.val,f.val] w (CatSame c w0 (B+2) w):=by
 obtain⟨ta,tn,tc,fa,fn,fc,da,dn,dc,qa,qn,qc⟩:=c
 have hB2:B<=100000:=by omega
 dsimp only[Ct.val]
 have Ma:=hid h
 have Vf:=hid hf
 obtain⟨hfu,n,hfx⟩:=hf
 have Zp:=hid hfu
 have HFX:Hid (ExAt n w0 f.b):=hfx.at
 clear hfu hfx
 go_enter func165,ntmps165
 go_upto_region 1 with fail
 refine Zan (fun V hV=>?_)
 have Ba:Hid (Cs w0 w B w.heap.size (w.heap.size+1+1) ⟨ta,tn,tc,fa,fn,fc,da,dn,dc,qa,qn,qc⟩ V):=by
  have hb:Below w.heap.size w V:=by rw[hV];exact bt
  exact⟨by rw[hV];exact Zc4 ..,by rw[hV];exact Zc2 ..,h.kept hb,hb,Oa,Nat.le_refl _,by omega,by omega⟩
 have Ha:Hid (Box V (w.heap.size+1) f.cells.toArray 44):=by rw[hV];exact Zc3 ..
 have f0:=Ha.out.cell 0 (.string f.m) rfl
 have f17:=Ha.out.cell 17 (.int .i64 f.r) rfl
 clear hV h
 have qq:=Ba.out.q
 obtain⟨q0,q1,q2,q3⟩:=qq
 go_wp2_with (first|(go_at_call 183;refine(Zcp _ _ _ _ B hB2 _ (Ba.out.ok.d.lies.at Ba.out.wz)).mono ?_;intro e w5 hp;obtain⟨hp,hb⟩:=hp.two;have Ba:=hid (Ba.out.kept hb);have Ha:=hid (Ha.out.kept hb);clear hb;have qq:=Ba.out.q;obtain⟨q0,q1,q2,q3⟩:=qq;(rcases hp with rfl|⟨k5,Rd,rfl⟩);all_goals(have f0:=Ha.out.cell 0 (.string f.m) rfl;have f17:=Ha.out.cell 17 (.int .i64 f.r) rfl))|(go_at_call 172;refine(feature10_any _ _ _ _ _ _ _ _ _ _ _ _ _ _ _ _ _ _ _ _ _ _ _ _ _ _ _ _ _ _ _ _ _ _ _ _ _ w0 Ba.out.wz B hB2 Ba.out.ok.w n Zp.out HFX.out).mono ?_;rintro e w5 ⟨k5,rfl,hb⟩;have Ba:=hid (Ba.out.kept hb);have Ha:=hid (Ha.out.kept hb);clear hb;have qq:=Ba.out.q;obtain⟨q0,q1,q2,q3⟩:=qq;have f0:=Ha.out.cell 0 (.string f.m) rfl;have f17:=Ha.out.cell 17 (.int .i64 f.r) rfl;rcases ZcA k5 with rfl|Uf)|(go_at_call 184;refine(newest_any _ _ _ _ _ _ _ _ _ _ _ _ _ _ w0 B hB2 Ba.out.ok.w).mono ?_;rintro e w5 ⟨k6,rfl,hb⟩;have Ba:=hid (Ba.out.kept hb);have Ha:=hid (Ha.out.kept hb);clear hb;have qq:=Ba.out.q;obtain⟨q0,q1,q2,q3⟩:=qq;have f0:=Ha.out.cell 0 (.string f.m) rfl;have f17:=Ha.out.cell 17 (.int .i64 f.r) rfl)|((with_reducible refine Zaq 118 ?_);refine Zae rfl 118 #[] rfl Ct.zero.cells (fun w=>Zcg w) ?_;intro v hv;obtain rfl:=hv.out)|((with_reducible refine Zaf 118 ?_);refine Zao rfl _ _ rfl rfl Ba.out Ct.zero rfl rfl (Ct.zero_ok _ B _) ?_;intro w9 hR hotr;have HR:=hid hR;have Na:=hid hotr;clear hR hotr)|((with_reducible refine Zah 118 ?_);refine LB Ba.out.box ?_)|((with_reducible refine Zah 44 ?_);refine LB (L:=(Ft.cells f)) Ha.out ?_)|((with_reducible refine Zah 44 ?_);refine LB (L:=(Ft.cells f2)) Ha.out ?_)|((with_reducible refine Zaf 3 ?_);refine ZdA rfl 3 _ _ rfl rfl (w.heap.size+1) 17 44 _ _ rfl rfl rfl rfl Ha.out (by kernel_rfl) (by show(17:Nat)<18;decide) w Ba.out.below (by omega) ?_;intro w6 Kf Jr hot;obtain⟨f2,Dr,hf3,hf4⟩:=Ft.setr Kf;have Ha:=hid Dr;have Bq:=hid (hf4 w0 Vf.out);have Ba:Hid (Cs w0 w B w.heap.size (w.heap.size+1+1) ⟨ta,tn,tc,fa,fn,fc,da,dn,dc,qa,qn,qc⟩ w6):=Ba.out.other Ma.out Jr (hot _ (by omega)) (hot _ (by omega));clear Kf Jr hot Dr hf3 hf4;have qq:=Ba.out.q;obtain⟨q0,q1,q2,q3⟩:=qq)|(go_at_call 185;refine(ZbQ _ _ _ f2 w0 _ (by omega) _ Ba.out.ok.d Bq.out).mono ?_;rintro e w5 ⟨a5,n5,c5,rfl,h5,hb⟩;have H5:=hid h5;clear h5;have Ba:=hid (Ba.out.kept hb);have Ha:=hid (Ha.out.kept hb);clear hb;have qq:=Ba.out.q;obtain⟨q0,q1,q2,q3⟩:=qq)|((with_reducible refine Zaf 116 ?_);refine Zbo rfl 116 (by kernel_rfl) _ _ rfl rfl Ba.out 2 (by decide) (.slice a5 n5 c5) rfl rfl rfl rfl ⟨ta,tn,tc,fa,fn,fc,a5,n5,c5,qa,qn,qc⟩ rfl ⟨(Ba.out.ok.mono (Nat.le_succ _)).t,(Ba.out.ok.mono (Nat.le_succ _)).f,H5.out,(Ba.out.ok.mono (Nat.le_succ _)).q⟩ ?_;intro w6 hst hot;have Ba:=hid hst;have Ha:=hid (Ha.out.aside hot (by omega));clear hst hot;have qq:=Ba.out.q;obtain⟨q0,q1,q2,q3⟩:=qq)|((with_reducible refine Zaf 118 ?_);refine Zao rfl _ _ rfl rfl Ba.out _ rfl rfl Ba.out.ok ?_;intro w9 hR hotr;have HR:=hid hR;have Na:=hid hotr;clear hR hotr)|fail)
 all_goals
  (try simp only[Exit.inBlock,Exit.then]);refine rb2 HR.out.box ?_
  exact⟨_,_,rfl,HR.out.ok.mono (by omega),(fun e=>by first|exact⟨rfl,rfl,rfl⟩|(exfalso;omega)|cases e),HR.out.below⟩
def TabPost (l:List Tb)(nm:ByteArray)(w0 w:World)(e:Ending)(w':World):Prop:=∃ (t:Tb) (b:Bool),e=.returned (.tuple #[.agg t.cells.toArray,.bool b])/\FdsAt w0 t.fa t.fn/\findT l nm=(if b=true then some t else none)/\Below w.heap.size w w'
def zeroT:Tb:=⟨⟨#[]⟩,⟨#[]⟩,none,0,0,0⟩
theorem Zdo (c:Ct)(nm:ByteArray)(w w0:World)(l:List Tb)(hn:c.tn=l.length)(hl:l.length<=100000)(hok:∀ t∈l,FdsAt w0 t.fa t.fn)(h:Zac Tb.cells 4 w c.ta l):Calls prog 138 #[c.val,.string nm] w (TabPost l nm w0 w):=by
 obtain⟨ta,tn,tc,fa,fn,fc,da,dn,dc,qa,qn,qc⟩:=c
 dsimp only[Ct.val]at *
 subst hn
 have H1:=hid h
 have Ma:=hid hok
 clear h hok
 go_enter func138,ntmps138
 go_upto_region 1 with fail
 refine gen2 (fun V B0 B1 Aa=>?_)
 have q0:=B0.out.cell 0 _ rfl
 go_wp2_with fail
 go_loop [6] (fun v=>∃ i:Nat,i<=l.length/\v=.int .i64 i/\Hid (∀ j t,j<i->l[j]?=some t->t.m≠nm)) (fun v=>l.length - (intOf v).toNat)
 case atStart=>exact⟨0,by omega,rfl,fun j t hj=>absurd hj (by omega)⟩
 case round =>
  obtain⟨i,hi,rfl,Oo⟩:=hrel
  by_cases hlt:i<l.length
  · obtain⟨x,hx⟩:∃ x,l[i]?=some x:=⟨l[i],List.getElem?_eq_getElem hlt⟩
    obtain⟨b1,o1,rfl,Da⟩:=(H1.out.kept Aa.out).some (by omega)
    have c0:=(Tb.cell Da hx).1
    have HC:Hid (∀ j v,(Tb.cells x)[j]?=some v->V.cell? ⟨b1,o1+i*4+j,none⟩=some v):=fun j v hj=>Da i x hx j v hj
    have HX:Hid (FdsAt w0 x.fa x.fn):=Ma.out x (List.mem_of_getElem? hx)
    have Od:=hid hx
    clear Da hx
    by_cases he:x.m=nm
    · have Yc:(x.m.toList==nm.toList)=true:=by rw[he];simp
      have Di:=hid he
      clear he
      go_wp2_with (first|((with_reducible refine Zah 32 ?_);refine LV b1 (o1+i*4) (Tb.cells x) HC.out ?_)|((with_reducible refine Zaf 32 ?_);refine SB B1.out w Aa.out ?_;intro w9 hby hyb hot;have HR:=hid hby;have Ka:=hid hyb;clear hby hyb hot)|fail)
      (try simp only[Exit.inBlock,Exit.then]);refine rb2 HR.out ?_
      exact⟨x,true,rfl,HX.out,findT_at l i x Od.out Oo.out Di.out,Ka.out⟩
    · have Yc:(x.m.toList==nm.toList)=false:=by simpa using fun e=>he (Zby e)
      have Di:=hid he
      clear he
      go_wp2_with fail
      go_round
      case rel=>exact⟨i+1,by omega,by go_num,fun j t hj ht=>by
       by_cases e:j=i
       · subst e
         rw[Od.out]at ht
         injection ht with ht
         subst ht
         exact Di.out
       · exact Oo.out j t (by omega) ht⟩
      case measure=>simp[intOf];omega
  · go_wp2_with (first|((with_reducible refine Zaq 32 ?_);refine Zae rfl 32 #[] rfl zeroT.cells (fun w=>build32 w) ?_;intro v hv;obtain rfl:=hv.out)|((with_reducible refine Zaf 32 ?_);refine SB B1.out w Aa.out ?_;intro w9 hby hyb hot;have HR:=hid hby;have Ka:=hid hyb;clear hby hyb hot)|fail)
    (try simp only[Exit.inBlock,Exit.then]);refine rb2 HR.out ?_
    exact⟨zeroT,false,rfl,FdsAt.nil _ _,findT_none (fun j t hj ht=>Oo.out j t (by omega) ht),Ka.out⟩
theorem TbsL.put {W W':World}{a:Option Addr}{l:List Tb}{g:Nat}{cs:Array Value}{t:TypeId}(h:Zac Tb.cells 4 W a l)(hg:Box W g cs t)(hcs:NoStr cs)(hot:∀ k,k≠g->W'.heap[k]?=W.heap[k]?):Zac Tb.cells 4 W' a l:=by
 rcases h with h1|⟨b,off,rfl,hr⟩
 · exact Or.inl h1
 · cases l with
   |nil=>exact Or.inl rfl
   |cons x l=>exact Or.inr ⟨b,off,rfl,hr.same (hot b (ZeB hg hcs (s:=x.m) (hr 0 x rfl 0 _ rfl)))⟩
def insT:List Tb->Tb->List Tb
 |[],t=>[t]
 |x :: l,t=>if Op.bytesLess x.m.toList t.m.toList=true∨(x.m.toList==t.m.toList)=true then x :: insT l t else t :: x :: l
theorem insT_on {l:List Tb}{x t:Tb}{j:Nat}(hx:l[j]?=some x)(h:Op.bytesLess x.m.toList t.m.toList=true∨(x.m.toList==t.m.toList)=true):l.take j++insT (l.drop j) t=l.take (j+1)++insT (l.drop (j+1)) t:=by
 rw[ZaD hx]
 simp only[insT]
 rw[if_pos h,List.take_add_one,hx]
 simp
theorem insT_here {l:List Tb}{x t:Tb}{j:Nat}(hx:l[j]?=some x)(h:¬ (Op.bytesLess x.m.toList t.m.toList=true∨(x.m.toList==t.m.toList)=true)):l.take j++insT (l.drop j) t=l.take j++[t]++l.drop j:=by
 rw[ZaD hx]
 simp only[insT]
 rw[if_neg h]
 simp
theorem insT_end {l:List Tb}{t:Tb}{j:Nat}(h:l.length<=j):l.take j++insT (l.drop j) t=l.take j++[t]++l.drop j:=by
 rw[List.drop_of_length_le h]
 simp[insT]
theorem Zdf (t:Tb):∀ l:List Tb,∃ i,insT l t=l.take i++[t]++l.drop i
 |[]=>⟨0,rfl⟩
 |x :: l=>by
  simp only[insT]
  split
  · obtain⟨i,h⟩:=Zdf t l
    exact⟨i+1,by rw[h];simp⟩
  · exact⟨0,by simp⟩
def CatTab (l:List Tb)(t:Tb)(c:Ct)(w0:World)(B:Nat)(w:World)(e:Ending)(w':World):Prop:=∃ (c2:Ct) (k:Int),e=.returned (.tuple #[c2.val,.int .i64 k])/\c2.Ok w0 B w'/\(k=0↔findT l t.m=none)/\(k=0->c2.tn=(insT l t).length/\Zac Tb.cells 4 w' c2.ta (insT l t)/\c2.fa=c.fa/\c2.fn=c.fn/\c2.da=c.da/\c2.dn=c.dn/\c2.qa=c.qa/\c2.qn=c.qn)/\Below w.heap.size w w'
theorem tbl_any (c:Ct)(t:Tb)(l:List Tb)(w w0:World)(Oa:Below w0.heap.size w0 w)(B:Nat)(hB:B<=1000)(h:c.Ok w0 B w)(hn:c.tn=l.length)(hlies:Zac Tb.cells 4 w c.ta l)(hok:∀ t∈l,FdsAt w0 t.fa t.fn)(ht:FdsAt w0 t.fa t.fn):Calls prog 164 #[c.val,t.val] w (CatTab l t c w0 (B+2) w):=by
 obtain⟨ta,tn,tc,fa,fn,fc,da,dn,dc,qa,qn,qc⟩:=c
 have hB2:B<=100000:=by omega
 dsimp only[Ct.val]
 dsimp only at hn hlies
 subst hn
 have hlB:l.length<=B:=by
  obtain⟨⟨l2,e1,e2,-⟩,-,-⟩:=h.t
  dsimp only at e1
  omega
 have HL:=hid hlies
 have Ma:=hid hok
 have Vf:=hid ht
 clear hlies hok ht
 go_enter func164,ntmps164
 go_upto_region 1 with fail
 refine Zan (fun V hV=>?_)
 have Ba:Hid (Cs w0 w B w.heap.size (w.heap.size+1+1) ⟨ta,l.length,tc,fa,fn,fc,da,dn,dc,qa,qn,qc⟩ V):=by
  have hb:Below w.heap.size w V:=by rw[hV];exact bt
  exact⟨by rw[hV];exact Zc4 ..,by rw[hV];exact Zc2 ..,h.kept hb,hb,Oa,Nat.le_refl _,by omega,by omega⟩
 have Td:Hid (Box V (w.heap.size+1) t.cells.toArray 32):=by rw[hV];exact Zc3 ..
 have t0:=Td.out.cell 0 (.string t.m) rfl
 clear hV h
 have qq:=Ba.out.q
 obtain⟨q0,q1,q2,q3⟩:=qq
 go_upto_region 4 with(first|(go_at_call 138;refine(Zdo ⟨ta,l.length,tc,fa,fn,fc,da,dn,dc,qa,qn,qc⟩ _ _ w0 l rfl (by omega) Ma.out (HL.out.kept Ba.out.below)).mono ?_;rintro e w5 ⟨x5,b5,rfl,Hp,Mj,hb⟩;have Ul:=hid Mj;clear Mj Hp;have Ba:=hid (Ba.out.kept hb);have Td:=hid (Td.out.kept hb);clear hb;have qq:=Ba.out.q;obtain⟨q0,q1,q2,q3⟩:=qq;have t0:=Td.out.cell 0 (.string t.m) rfl;cases b5)|((with_reducible refine ZaK 32 ?_);refine ZaA rfl rfl 32 _ _ rfl rfl rfl (Tb.cells x5) rfl rfl (by kernel_rfl) (by rfl) ?_;intro g7 w8 hbx Re hb;clear Re hbx;have Ba:=hid (Ba.out.kept hb);have Td:=hid (Td.out.kept hb);clear hb;have qq:=Ba.out.q;obtain⟨q0,q1,q2,q3⟩:=qq;have t0:=Td.out.cell 0 (.string t.m) rfl)|((with_reducible refine Zaq 118 ?_);refine Zae rfl 118 #[] rfl Ct.zero.cells (fun w=>Zcg w) ?_;intro v hv;obtain rfl:=hv.out)|((with_reducible refine Zaf 118 ?_);refine Zao rfl _ _ rfl rfl Ba.out Ct.zero rfl rfl (Ct.zero_ok _ B _) ?_;intro w9 hR hotr;have HR:=hid hR;have Na:=hid hotr;clear hR hotr)|((with_reducible refine Zah 118 ?_);refine LB Ba.out.box ?_)|fail)
 rotate_left
 · (try simp only[Exit.inBlock,Exit.then]);refine rb2 HR.out.box ?_
   exact⟨_,_,rfl,HR.out.ok.mono (by omega),iff_of_false (by decide) (fun e=>by rw[Ul.out]at e;simp at e),(fun e=>by cases e),HR.out.below⟩
 · rw[if_neg (by decide)]at Ul
   refine Zan (fun V1 hV1=>?_)
   subst hV1
   go_wp2_with fail
   go_loopw [8] (fun v wr=>∃ j:Nat,j<=l.length/\v=.int .i64 j/\Hid (insT l t=l.take j++insT (l.drop j) t)/\Hid (Below V1.heap.size V1 wr)) (fun v _=>l.length - (intOf v).toNat)
   case atStart=>exact⟨0,by omega,rfl,hid rfl,ZR V1⟩
   case round =>
    obtain⟨j,hj,rfl,HJ,HR⟩:=hrel
    rename World=>wr
    have qq:=(Ba.out.kept HR.out).q
    obtain⟨q0,q1,q2,q3⟩:=qq
    have t0:=(Td.out.kept HR.out).cell 0 (.string t.m) rfl
    by_cases hjl:j<l.length
    · obtain⟨x,hx⟩:∃ x,l[j]?=some x:=⟨l[j],List.getElem?_eq_getElem hjl⟩
      obtain⟨b1,o1,rfl,Da⟩:=(HL.out.kept (Ba.out.kept HR.out).below).some (by omega)
      have d0:=(Tb.cell Da hx).1
      have Jt:Hid ((Op.bytesLess x.m.toList t.m.toList=true∨(x.m.toList==t.m.toList)=true)->insT l t=l.take (j+1)++insT (l.drop (j+1)) t):=fun h=>HJ.out.trans (insT_on hx h)
      have It:Hid (¬ (Op.bytesLess x.m.toList t.m.toList=true∨(x.m.toList==t.m.toList)=true)->insT l t=[]++l.take j++[t]++l.drop j):=fun h=>HJ.out.trans (insT_here hx h)
      clear Da hx HJ
      have hd:decide ((j:Int)<(l.length:Int))=true:=by simpa using hjl
      go_upto_region 5 with fail
      go_quiet (fail)
      go_upto_region 7 with fail
      all_goals first
       |(refine⟨⟨j+1,by omega,by go_num,hid (Jt.out (by simp_all)),Zad HR.out _⟩,?_⟩;(simp[intOf];omega))
       |skip
      have Xj:=hid (It.out (by simp_all))
      refine Zan (fun W hW=>?_)
      have Kb:Hid (Below V1.heap.size V1 W):=by rw[hW];repeat(first|exact HR.out|refine Zad ?_ _)
      clear hW
      have Ba:=hid (Ba.out.kept Kb.out)
      have Td:=hid (Td.out.kept Kb.out)
      have qq:=Ba.out.q
      obtain⟨q0,q1,q2,q3⟩:=qq
      have hlc:=Ba.out.ok.t.cap
      dsimp only at hlc
      have hcu:=fun w=>Za4 elTb (some ⟨b1,o1,none⟩) l.length tc j (by omega) w
      obtain⟨A,hcf,hA1,hA2⟩:=Za5 elTb (some ⟨b1,o1,none⟩) l.length tc j hj
      have Vh:=hid (HL.out.kept Ba.out.below)
      have Kc:=hid (Vh.out.take j)
      have Tc:=hid (ZaV Vh.out hlc hA2)
      have Pd:Hid (j=(l.take j).length):=by show _=_;simp;omega
      have Oe:Hid (l.length - j=(l.drop j).length):=by show _=_;simp
      have Nb:Hid (([]:List Tb).length+(l.take j).length<=1000000000):=by show _<=_;simp;omega
      have Mb:Hid (([]++l.take j).length+[t].length<=1000000000):=by show _<=_;simp;omega
      have Zb:Hid (([]++l.take j++[t]).length+(l.drop j).length<=1000000000):=by show _<=_;simp;omega
      have Vj:Hid (([]++l.take j++[t]++l.drop j).length<=B+2):=by show _<=_;simp;omega
      have Le:Hid (∀ t2∈[]++l.take j++[t]++l.drop j,FdsAt w0 t2.fa t2.fn):=fun t2 ht=>by
       simp only[List.nil_append,List.mem_append,List.mem_singleton]at ht
       rcases ht with(ht|ht)|ht
       · exact Ma.out t2 (List.mem_of_mem_take ht)
       · rw[ht];exact Vf.out
       · exact Ma.out t2 (List.mem_of_mem_drop ht)
      have Vc:Hid (Own Tb.cells 4 32 (W.alloc (.cells #[] 32)) W.heap.size (.slice (some ⟨W.heap.size,0,none⟩) 0 0) []):=Own.lit (Nat.le_refl _)
      have Ra:Hid (Below W.heap.size W (W.alloc (.cells #[] 32))):=Zab _
      have qq:=(Ba.out.kept Ra.out).q
      obtain⟨q0,q1,q2,q3⟩:=qq
      clear hA1 hA2 hlc
      go_upto_region 8 with(first|(at_builtin;refine Zaw elTb encT rfl (.tmp 37) (.tmp 41) rfl rfl rfl Vc.out (Kc.out.kept Ra.out) Pd.out Ra.out.size Nb.out ?_;intro v2 w2 ho hb;have Fb:=hid ho;have Ia:Hid (Below W.heap.size W w2):=Ra.out.trans hb;clear ho hb)|fail)
      refine Zbd (S:=fun w'=>Below W.heap.size W w') 10 (.free 0 (.free 1 (.free 4 (.free 5 (.free 6 (.free 7 (.one 2 (.one 3 (.one 8 (.free 9 (.one 10 .done))))))))))) (by kernel_rfl) (by kernel_rfl) (fun _ _ _ _ _ h=>h) (by kernel_rfl) (by kernel_rfl) (ZD Ia.out) (fun hSS=>?_)
      have Ca:=fun wq (hSw:(fun w'=>Below W.heap.size W w') wq)=>(Ba.out.kept hSw).q
      refine zk (hSS) Ca (v2) ?_
      refine ZdF (hSS) _ rfl (by rfl) 32 _ rfl (w.heap.size+1) 0 t.cells rfl (fun w hS j v hj=>by rw[Nat.zero_add];exact(Td.out.kept hS).cell j v (by rw[List.getElem?_toArray];exact hj)) _ underlying32 rfl (by kernel_rfl) ?_
      intro v1 Eh
      subst Eh
      try simp only[Act.put,m1,m2,m3]
      refine zk (hSS) Ca (.pointer (some ⟨w.heap.size,0,none⟩)) ?_
      refine zk (hSS) Ca (.slice (some ⟨b1,o1,none⟩) l.length tc) ?_
      refine zk (hSS) Ca (.int .i64 j) ?_
      refine zk (hSS) Ca (.slice A (l.length - j) (tc - j)) ?_
      refine Zbp _ rfl (by rfl) (fun K hK=>?_)
      refine Zef elTb (by decide) _ rfl t.cells rfl rfl ?_
      refine hK.out _ _ (fun _=>ZA (ZD Ia.out) _) ?_
      clear hK K
      try simp only[Act.put,m1,m2,m3]
      refine Zbp _ rfl (by rfl) (fun K hK=>?_)
      refine ZcV (v:=v2) (l:=[]++l.take j) (m:=[t]) (n:=1) (c:=1) (ao:=some ⟨w2.drew.heap.size,0,none⟩) (B:=W.heap.size) elTb encT (.tmp 43) (.tmp 45) (by rfl) (by rfl) (by rfl) ((Fb.out.kept (ZD (ZR _))).kept (Zab _)) (Zav t _ encT) rfl (Nat.le_trans (ZD Ia.out).size (Zab _).size) Mb.out ?_
      intro v3 w3 ho hb
      have Sb:=hid ho
      have Qa:Hid (Below W.heap.size W w3):=(ZA (ZD Ia.out) _).trans hb
      refine hK.out _ _ (fun _=>Qa.out) ?_
      clear hK K ho hb
      try simp only[Act.put,m1,m2,m3]
      refine Zbp _ rfl (by rfl) (fun K hK=>?_)
      refine ZcV elTb encT (.tmp 46) (.tmp 50) rfl rfl rfl Sb.out (Tc.out.kept Qa.out) Oe.out Qa.out.size Zb.out ?_
      intro v4 w4 ho hb
      have Pa:Hid (Below W.heap.size W w4):=Qa.out.trans hb
      obtain⟨a5,c5,rfl,hcap,hnil,Qe⟩:=ho.lies encT
      generalize Fh:([]++l.take j++[t]++l.drop j).length=n5
      have H5:Hid (TbsC w0 (B+2) w4 a5 n5 c5):=⟨⟨_,Fh.symm,Vj.out,Le.out,Qe⟩,Fh ▸ hcap,hnil⟩
      have Tw:=hid Fh
      have Sf:=hid Qe
      refine hK.out _ _ (fun _=>Pa.out) ?_
      clear hK K ho hb hcap hnil Qe Fh
      try simp only[Act.put,m1,m2,m3]
      refine zk (Pa.out) Ca (.pointer (some ⟨w.heap.size,0,none⟩)) ?_
      refine Zbp _ rfl (by rfl) (fun K hK=>?_)
      refine Zfb 115 (by kernel_rfl) _ _ rfl rfl (Ba.out.kept Pa.out) 0 (by decide) (.slice a5 n5 c5) rfl rfl rfl rfl ⟨a5,n5,c5,fa,fn,fc,da,dn,dc,qa,qn,qc⟩ rfl ⟨H5.out,((Ba.out.kept Pa.out).ok.mono (by omega)).f,((Ba.out.kept Pa.out).ok.mono (by omega)).d,((Ba.out.kept Pa.out).ok.mono (by omega)).q⟩ ?_
      intro w6 hst hot
      have Ic:=hid hst
      have Bj:=hid (TbsL.put Sf.out (Ba.out.kept Pa.out).box (Zbc _ _ _ _ _ _ _ _ _ _ _ _) hot)
      refine hK.out _ _ (fun e=>absurd rfl e) ?_
      clear hK K hst hot
      try simp only[Act.put,m1,m2,m3]
      refine ZdG ?_
      have Ba:=Ic
      go_wp2_with (first|((with_reducible refine Zah 118 ?_);refine LB Ba.out.box ?_)|((with_reducible refine Zaf 118 ?_);refine Zao rfl _ _ rfl rfl Ba.out _ rfl rfl Ba.out.ok ?_;intro w9 hR hotr;have HR:=hid hR;have Na:=hid hotr;clear hR hotr)|fail)
      (try simp only[Exit.inBlock,Exit.then]);refine rb2 HR.out.box ?_
      exact⟨_,_,rfl,HR.out.ok.mono (by omega),iff_of_true rfl Ul.out,(fun _=>⟨by rw[Xj.out];exact Tw.out.symm,by rw[Xj.out];exact TbsL.put Bj.out Ba.out.res (Zbc _ _ _ _ _ _ _ _ _ _ _ _) Na.out,rfl,rfl,rfl,rfl,rfl,rfl⟩),HR.out.below⟩
    · have Xj:Hid (insT l t=[]++l.take j++[t]++l.drop j):=HJ.out.trans (insT_end (by omega))
      have hd:decide ((j:Int)<(l.length:Int))=false:=by simpa using hjl
      go_upto_region 5 with fail
      go_quiet (fail)
      go_upto_region 7 with fail
      refine Zan (fun W hW=>?_)
      have Kb:Hid (Below V1.heap.size V1 W):=by rw[hW];repeat(first|exact HR.out|refine Zad ?_ _)
      clear hW
      have Ba:=hid (Ba.out.kept Kb.out)
      have Td:=hid (Td.out.kept Kb.out)
      have qq:=Ba.out.q
      obtain⟨q0,q1,q2,q3⟩:=qq
      have hlc:=Ba.out.ok.t.cap
      dsimp only at hlc
      have hcu:=fun w=>Za4 elTb ta l.length tc j (by omega) w
      obtain⟨A,hcf,hA1,hA2⟩:=Za5 elTb ta l.length tc j hj
      have Vh:=hid (HL.out.kept Ba.out.below)
      have Kc:=hid (Vh.out.take j)
      have Tc:=hid (ZaV Vh.out hlc hA2)
      have Pd:Hid (j=(l.take j).length):=by show _=_;simp;omega
      have Oe:Hid (l.length - j=(l.drop j).length):=by show _=_;simp
      have Nb:Hid (([]:List Tb).length+(l.take j).length<=1000000000):=by show _<=_;simp;omega
      have Mb:Hid (([]++l.take j).length+[t].length<=1000000000):=by show _<=_;simp;omega
      have Zb:Hid (([]++l.take j++[t]).length+(l.drop j).length<=1000000000):=by show _<=_;simp;omega
      have Vj:Hid (([]++l.take j++[t]++l.drop j).length<=B+2):=by show _<=_;simp;omega
      have Le:Hid (∀ t2∈[]++l.take j++[t]++l.drop j,FdsAt w0 t2.fa t2.fn):=fun t2 ht=>by
       simp only[List.nil_append,List.mem_append,List.mem_singleton]at ht
       rcases ht with(ht|ht)|ht
       · exact Ma.out t2 (List.mem_of_mem_take ht)
       · rw[ht];exact Vf.out
       · exact Ma.out t2 (List.mem_of_mem_drop ht)
      have Vc:Hid (Own Tb.cells 4 32 (W.alloc (.cells #[] 32)) W.heap.size (.slice (some ⟨W.heap.size,0,none⟩) 0 0) []):=Own.lit (Nat.le_refl _)
      have Ra:Hid (Below W.heap.size W (W.alloc (.cells #[] 32))):=Zab _
      have qq:=(Ba.out.kept Ra.out).q
      obtain⟨q0,q1,q2,q3⟩:=qq
      clear hA1 hA2 hlc
      go_upto_region 8 with(first|(at_builtin;refine Zaw elTb encT rfl (.tmp 37) (.tmp 41) rfl rfl rfl Vc.out (Kc.out.kept Ra.out) Pd.out Ra.out.size Nb.out ?_;intro v2 w2 ho hb;have Fb:=hid ho;have Ia:Hid (Below W.heap.size W w2):=Ra.out.trans hb;clear ho hb)|fail)
      refine Zbd (S:=fun w'=>Below W.heap.size W w') 10 (.free 0 (.free 1 (.free 4 (.free 5 (.free 6 (.free 7 (.one 2 (.one 3 (.one 8 (.free 9 (.one 10 .done))))))))))) (by kernel_rfl) (by kernel_rfl) (fun _ _ _ _ _ h=>h) (by kernel_rfl) (by kernel_rfl) (ZD Ia.out) (fun hSS=>?_)
      have Ca:=fun wq (hSw:(fun w'=>Below W.heap.size W w') wq)=>(Ba.out.kept hSw).q
      refine zk (hSS) Ca (v2) ?_
      refine ZdF (hSS) _ rfl (by rfl) 32 _ rfl (w.heap.size+1) 0 t.cells rfl (fun w hS j v hj=>by rw[Nat.zero_add];exact(Td.out.kept hS).cell j v (by rw[List.getElem?_toArray];exact hj)) _ underlying32 rfl (by kernel_rfl) ?_
      intro v1 Eh
      subst Eh
      try simp only[Act.put,m1,m2,m3]
      refine zk (hSS) Ca (.pointer (some ⟨w.heap.size,0,none⟩)) ?_
      refine zk (hSS) Ca (.slice ta l.length tc) ?_
      refine zk (hSS) Ca (.int .i64 j) ?_
      refine zk (hSS) Ca (.slice A (l.length - j) (tc - j)) ?_
      refine Zbp _ rfl (by rfl) (fun K hK=>?_)
      refine Zef elTb (by decide) _ rfl t.cells rfl rfl ?_
      refine hK.out _ _ (fun _=>ZA (ZD Ia.out) _) ?_
      clear hK K
      try simp only[Act.put,m1,m2,m3]
      refine Zbp _ rfl (by rfl) (fun K hK=>?_)
      refine ZcV (v:=v2) (l:=[]++l.take j) (m:=[t]) (n:=1) (c:=1) (ao:=some ⟨w2.drew.heap.size,0,none⟩) (B:=W.heap.size) elTb encT (.tmp 43) (.tmp 45) (by rfl) (by rfl) (by rfl) ((Fb.out.kept (ZD (ZR _))).kept (Zab _)) (Zav t _ encT) rfl (Nat.le_trans (ZD Ia.out).size (Zab _).size) Mb.out ?_
      intro v3 w3 ho hb
      have Sb:=hid ho
      have Qa:Hid (Below W.heap.size W w3):=(ZA (ZD Ia.out) _).trans hb
      refine hK.out _ _ (fun _=>Qa.out) ?_
      clear hK K ho hb
      try simp only[Act.put,m1,m2,m3]
      refine Zbp _ rfl (by rfl) (fun K hK=>?_)
      refine ZcV elTb encT (.tmp 46) (.tmp 50) rfl rfl rfl Sb.out (Tc.out.kept Qa.out) Oe.out Qa.out.size Zb.out ?_
      intro v4 w4 ho hb
      have Pa:Hid (Below W.heap.size W w4):=Qa.out.trans hb
      obtain⟨a5,c5,rfl,hcap,hnil,Qe⟩:=ho.lies encT
      generalize Fh:([]++l.take j++[t]++l.drop j).length=n5
      have H5:Hid (TbsC w0 (B+2) w4 a5 n5 c5):=⟨⟨_,Fh.symm,Vj.out,Le.out,Qe⟩,Fh ▸ hcap,hnil⟩
      have Tw:=hid Fh
      have Sf:=hid Qe
      refine hK.out _ _ (fun _=>Pa.out) ?_
      clear hK K ho hb hcap hnil Qe Fh
      try simp only[Act.put,m1,m2,m3]
      refine zk (Pa.out) Ca (.pointer (some ⟨w.heap.size,0,none⟩)) ?_
      refine Zbp _ rfl (by rfl) (fun K hK=>?_)
      refine Zfb 115 (by kernel_rfl) _ _ rfl rfl (Ba.out.kept Pa.out) 0 (by decide) (.slice a5 n5 c5) rfl rfl rfl rfl ⟨a5,n5,c5,fa,fn,fc,da,dn,dc,qa,qn,qc⟩ rfl ⟨H5.out,((Ba.out.kept Pa.out).ok.mono (by omega)).f,((Ba.out.kept Pa.out).ok.mono (by omega)).d,((Ba.out.kept Pa.out).ok.mono (by omega)).q⟩ ?_
      intro w6 hst hot
      have Ic:=hid hst
      have Bj:=hid (TbsL.put Sf.out (Ba.out.kept Pa.out).box (Zbc _ _ _ _ _ _ _ _ _ _ _ _) hot)
      refine hK.out _ _ (fun e=>absurd rfl e) ?_
      clear hK K hst hot
      try simp only[Act.put,m1,m2,m3]
      refine ZdG ?_
      have Ba:=Ic
      go_wp2_with (first|((with_reducible refine Zah 118 ?_);refine LB Ba.out.box ?_)|((with_reducible refine Zaf 118 ?_);refine Zao rfl _ _ rfl rfl Ba.out _ rfl rfl Ba.out.ok ?_;intro w9 hR hotr;have HR:=hid hR;have Na:=hid hotr;clear hR hotr)|fail)
      (try simp only[Exit.inBlock,Exit.then]);refine rb2 HR.out.box ?_
      exact⟨_,_,rfl,HR.out.ok.mono (by omega),iff_of_true rfl Ul.out,(fun _=>⟨by rw[Xj.out];exact Tw.out.symm,by rw[Xj.out];exact TbsL.put Bj.out Ba.out.res (Zbc _ _ _ _ _ _ _ _ _ _ _ _) Na.out,rfl,rfl,rfl,rfl,rfl,rfl⟩),HR.out.below⟩
def okT (t:Tb->Bool)(T:List Tb)(j:Nat):Prop:=∀ x,T[j]?=some x->t x=true/\∀ y k,j=k+1->T[k]?=some y->Op.bytesLess x.m.toList y.m.toList=false/\(x.m.toList==y.m.toList)=false
theorem okT_zero {t:Tb->Bool}{T:List Tb}{x:Tb}(hx:T[0]?=some x):okT t T 0↔t x=true :=
 ⟨fun h=>(h x hx).1,fun h y hy=>by rw[hx]at hy;injection hy with hy;subst hy;exact⟨h,fun _ _ e=>(by omega)⟩⟩
theorem okT_succ {t:Tb->Bool}{T:List Tb}{x y:Tb}{j:Nat}(hx:T[j+1]?=some x)(hy:T[j]?=some y):okT t T (j+1)↔(t x=true/\Op.bytesLess x.m.toList y.m.toList=false/\(x.m.toList==y.m.toList)=false) :=
 ⟨fun h=>let ⟨a,d⟩:=h x hx;⟨a,d y j rfl hy⟩,fun h z hz=>by
  rw[hx]at hz;injection hz with hz;subst hz
  refine⟨h.1,fun v k e hv=>?_⟩
  obtain rfl:k=j:=by omega
  rw[hy]at hv;injection hv with hv;subst hv
  exact h.2⟩
theorem tables_det (w0:World)(T:List Tb)(hl:T.length<=1000)(htok:∀ t∈T,FdsAt w0 t.fa t.fn):∃ z:Bool,∀ (c_ta:Option Addr) (c_tc:Nat) (c_fa:Option Addr) (c_fn:Nat) (c_fc:Nat) (c_da:Option Addr) (c_dn:Nat) (c_dc:Nat) (c_qa:Option Addr) (c_qn:Nat) (c_qc:Nat) (w:World),Below w0.heap.size w0 w->Zac Tb.cells 4 w c_ta T->Calls prog 169 #[.agg #[.slice c_ta T.length c_tc,.slice c_fa c_fn c_fc,.slice c_da c_dn c_dc,.slice c_qa c_qn c_qc]] w (RetZ z w):=by
 obtain⟨t,ht⟩:=ZbY (D:=fun x:Tb=>x∈T) (fun x h=>table_det x.m x.e x.fa x.fn x.fc x.p w0 (htok x h))
 obtain⟨R,hR⟩:=Zcs (∀ j,j<T.length->okT t T j)
 have Jc:=hid ht
 have Lh:=hid hR
 refine⟨R,fun c_ta c_tc c_fa c_fn c_fc c_da c_dn c_dc c_qa c_qn c_qc w Oa h1=>?_⟩
 have H1:=hid h1
 have Ja:=hid Oa
 clear ht hR h1 htok Oa
 go_enter func169,ntmps169
 go_upto_region 1 with fail
 refine gen1 (fun V B0 Aa=>?_)
 have HS:=hs1 B0
 simp only[Cl,Nat.reduceAdd]at HS
 have KK:=HS.out V (ZR V)
 have Ga:Hid (Below w0.heap.size w0 V):=Ja.out.trans (Aa.out.mono Ja.out.size)
 go_wp2_with fail
 go_loopw [3] (fun v wr=>∃ i:Nat,i<=T.length/\v=.int .i64 i/\Hid (∀ j,j<i->okT t T j)/\Hid (Below V.heap.size V wr)) (fun v _=>T.length - (intOf v).toNat)
 case atStart=>exact⟨0,by omega,rfl,hid (fun j hj=>by omega),ZR V⟩
 case round =>
  obtain⟨i,hi,rfl,HI,HR⟩:=hrel
  rename World=>wr
  have KK:=HS.out _ HR.out
  by_cases hlt:i<T.length
  · obtain⟨x,hx⟩:∃ x,T[i]?=some x:=⟨T[i],List.getElem?_eq_getElem hlt⟩
    have Qd:Hid (¬ okT t T i->false=R):=fun h=>all_bad Lh.out hlt h
    obtain⟨b1,o1,rfl,Da⟩:=(H1.out.kept (ZT Aa.out HR.out)).some (by omega)
    have HC:Hid (∀ j v,(Tb.cells x)[j]?=some v->wr.cell? ⟨b1,o1+i*4+j,none⟩=some v):=fun j v hj=>Da i x hx j v hj
    have Ee:=hid Da
    have Od:=hid hx
    have HX:=hid (Jc.out x (List.mem_of_getElem? hx))
    clear Da hx
    go_upto_region 7 with(first|((with_reducible refine Zah 32 ?_);refine LV b1 (o1+i*4) (Tb.cells x) HC.out ?_)|(go_at_call 188;refine(HX.out _ (Ga.out.trans (Below.mono HR.out Ga.out.size))).mono ?_;rintro e w' ⟨r,rfl,Ea,Fa,hb⟩;have Ke:Hid (Below V.heap.size V w'):=ZT HR.out hb;have hbw:=hid hb;clear hb;have KK:=HS.out _ Ke.out;rcases retz Ea Fa with⟨hq,rfl⟩|⟨hq,Ik⟩<;>clear Ea Fa)|fail)
    all_goals first
     |(go_ret;exact RetZ.of (fun h=>absurd (h.symm.trans (Qd.out (fun e=>by have:=(e x Od.out).1;rw[hq]at this;cases this)).symm) (by decide)) (fun _=>by assumption) (ZT Aa.out (by repeat(first|exact ZR _|exact ZH (by assumption)|refine ZA ?_ _|refine ZD ?_|refine ZN ?_ _|refine Zad ?_ _))))
     |skip
    all_goals
     cases i with
     |zero =>
      have Le:Hid (okT t T 0):=(okT_zero Od.out).2 hq
      go_quiet (fail)
      go_wp2_with fail
      all_goals(go_roundw;(case rel=>exact⟨1,by omega,by go_num,hid (Za9 HI.out Le.out),hid (by repeat(first|exact ZR _|exact ZH (by assumption)|refine ZA ?_ _|refine ZD ?_|refine ZN ?_ _|refine Zad ?_ _))⟩);(case measure=>simp[intOf];omega))
     |succ k =>
      obtain⟨y,hy⟩:∃ y,T[k]?=some y:=⟨T[k],List.getElem?_eq_getElem (by omega)⟩
      have Ma:=hid (okT_succ (t:=t) Od.out hy)
      have c0:=Zaa (Tb.cell Ee.out Od.out).1 (ZT (ZR _) hbw.out)
      have d0:=Zaa (Tb.cell Ee.out hy).1 hbw.out
      clear hy
      have Ip:IntKind.i64.wrap (((k+1:Nat):Int) - 1)=(k:Int):=by rw[show(((k+1:Nat):Int) - 1)=(k:Int) by omega];exact IntWalk.i64_in _ (by omega)
      have Fr:decide ((0:Int)<((k+1:Nat):Int))=true:=by simp
      go_quiet (fail)
      go_wp2_with fail
      all_goals first
       |(go_ret;exact RetZ.of (fun h=>absurd (h.symm.trans (Qd.out (by rw[Ma.out];simp_all<;>grind)).symm) (by decide)) (fun _=>by first|decide|assumption) (ZT Aa.out (by repeat(first|exact ZR _|exact ZH (by assumption)|refine ZA ?_ _|refine ZD ?_|refine ZN ?_ _|refine Zad ?_ _))))
       |(go_roundw;(case rel=>exact⟨k+1+1,by omega,by go_num,hid (Za9 HI.out (Ma.out.2 (by simp_all))),hid (by repeat(first|exact ZR _|exact ZH (by assumption)|refine ZA ?_ _|refine ZD ?_|refine ZN ?_ _|refine Zad ?_ _))⟩);(case measure=>simp[intOf];omega))
  · have HT:=hid (all_end Lh.out HI.out (by omega))
    go_wp2_with fail
    go_ret
    exact RetZ.of (fun _=>rfl) (fun h=>absurd (h.symm.trans HT.out.symm) (by decide)) (ZT Aa.out HR.out)
end Go.Proofs.YtfnpfkgmacaboaaGreat
