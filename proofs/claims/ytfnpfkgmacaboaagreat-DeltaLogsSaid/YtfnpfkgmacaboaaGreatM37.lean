/- Texts joined by a program. -/
import Derived.Test.YtfnpfkgmacaboaaGreatM36
namespace Go.Proofs.YtfnpfkgmacaboaaGreat
open Lib (hid)
open Go.ChangeShapes Go.WideShapes Go.ChangeAt Go.RowKit
set_option linter.unusedVariables false
set_option linter.unusedSimpArgs false
set_option maxRecDepth 100000
set_option maxHeartbeats 4000000
theorem operation_det (w0:World)(F:List Ft)(hfl:F.length<=100000)(hfok:∀ f∈F,f.Ok w0)(s_tfa:Option Addr)(s_tfn:Nat)(hfd:FdsAt w0 s_tfa s_tfn)(s_e:ByteArray)(x_k:Int)(x_o:ByteArray)(x_m:ByteArray)(x_t:ByteArray)(x_vk:Int)(x_vn:Int)(x_vs:ByteArray)(x_ua:Option Addr)(x_un:Nat)(x_uc:Nat)(x_p:Int)(x_wk:Int)(x_wz:Int)(x_xa:Option Addr)(x_xn:Nat)(x_xc:Nat)(hxu:ZaH w0 x_ua x_un)(hk:1<=x_k/\x_k<=9)(ts:List Ta)(hn:ts.length=arity x_k):∃ (z:Bool) (t:Ta),∀ (s_cta:Option Addr) (s_ctn:Nat) (s_ctc:Nat) (s_cfa:Option Addr) (s_cfc:Nat) (s_cda:Option Addr) (s_cdn:Nat) (s_cdc:Nat) (s_cqa:Option Addr) (s_cqn:Nat) (s_cqc:Nat) (s_tm:ByteArray) (s_te:ByteArray) (s_tfc:Nat) (s_tp:Int) (la:Option Addr) (lc:Nat) (w:World),Below w0.heap.size w0 w->Zac Ft.cells 18 w s_cfa F->TysX w0 w la ts->Calls Tryz.prog 215 #[.agg #[.slice s_cta s_ctn s_ctc,.slice s_cfa F.length s_cfc,.slice s_cda s_cdn s_cdc,.slice s_cqa s_cqn s_cqc,.string s_e,.string s_tm,.string s_te,.slice s_tfa s_tfn s_tfc,.int .i64 s_tp],.agg #[.int .i64 x_k,.string x_o,.string x_m,.string x_t,.int .i64 x_vk,.int .i64 x_vn,.string x_vs,.slice x_ua x_un x_uc,.int .i64 x_p,.int .i64 x_wk,.int .i64 x_wz,.slice x_xa x_xn x_xc],.slice la ts.length lc] w (TyR z t w0 w):=by
 obtain⟨xus,rfl,hxus⟩:=hxu.is
 obtain⟨g0,Ih⟩:∃ g:Ta,g=ts.getD 0 Ta.zero:=⟨_,rfl⟩
 obtain⟨g1,He⟩:∃ g:Ta,g=ts.getD 1 Ta.zero:=⟨_,rfl⟩
 obtain⟨g2,Ye⟩:∃ g:Ta,g=ts.getD 2 Ta.zero:=⟨_,rfl⟩
 obtain⟨zf,tf,p1⟩:=sfield_det w0 s_tfa s_tfn x_m hfd
 obtain⟨z3,t3,p2⟩:=Zeo w0 F hfl hfok x_m s_e
 obtain⟨z4,t4,p3⟩:=Zeo w0 F hfl hfok x_m g0.o
 obtain⟨z5,t5,p4⟩:=overAll_det w0 x_o g0.k g0.us g0.o g1.k
 obtain⟨z7,t7,p5⟩:=binary_det w0 x_o g0.k g0.us g0.o g1.k g1.us g1.o
 obtain⟨b8,p6⟩:=both_det g1.k g1.o g2.k g2.o g1.us g2.us
 obtain⟨b9,p7⟩:=both_det g0.k g0.o g1.k g1.o g0.us g1.us
 have HF:=hid p1
 have H3:=hid p2
 have H4:=hid p3
 have H5:=hid p4
 have H7:=hid p5
 have H8:=hid p6
 have H9:=hid p7
 have HXU:=hid hxus
 clear p1 p2 p3 p4 p5 p6 p7 hxus hfd hfok
 obtain⟨z,hz⟩:∃ z:Bool,z=(if x_k=1 then(true)else if x_k=2 then(zf)else if x_k=3 then(z3)else if x_k=4 then((g0.k==5)&&z4)else if x_k=5 then(z5)else if x_k=6 then(!(((x_o.toList==([45]:List UInt8))&&!((g0.k==2)||(g0.k==3)))||((x_o.toList==([110,111,116]:List UInt8))&&!(g0.k==1))))else if x_k=7 then(z7)else if x_k=8 then((g0.k==1)&&b8)else if x_k=9 then(b9)else false):=⟨_,rfl⟩
 obtain⟨t,ht⟩:∃ t:Ta,t=(if x_k=1 then(⟨x_vk,xus,x_m⟩)else if x_k=2 then(tf)else if x_k=3 then(t3)else if x_k=4 then((if (g0.k==5)=true then t4 else Ta.zero))else if x_k=5 then(t5)else if x_k=6 then((if z=true then(if (x_o.toList==([45]:List UInt8))=true then g0 else⟨1,[],⟨#[]⟩⟩)else Ta.zero))else if x_k=7 then(t7)else if x_k=8 then((if z=true then g2 else Ta.zero))else if x_k=9 then((if z=true then g1 else Ta.zero))else Ta.zero):=⟨_,rfl⟩
 have Vd:=hid hz
 have Hc:=hid ht
 clear hz ht
 refine⟨z,t,fun s_cta s_ctn s_ctc s_cfa s_cfc s_cda s_cdn s_cdc s_cqa s_cqn s_cqc s_tm s_te s_tfc s_tp la lc w Oa hft hty=>?_⟩
 have HT:=hid hty
 have Be:=hid hft
 have Ja:=hid Oa
 clear hty hft Oa
 go_enter Tryz.func215,Tryz.ntmps215
 go_upto_region 1 with fail
 refine gen3 (fun V B0 B1 B2 Aa=>?_)
 have HW:Hid (Below V.heap.size V V):=ZR V
 have HS:=hs2 B0 B1
 simp only[Cl,Nat.reduceAdd]at HS
 have KK:=HS.out V (ZR V)
 have Ag:Hid (∀ w',Bx w V (w.heap.size+1+1) w'->w'.cell? ⟨w.heap.size,0,none⟩=some (.slice s_cta s_ctn s_ctc)/\w'.cell? ⟨w.heap.size,1,none⟩=some (.slice s_cfa F.length s_cfc)/\w'.cell? ⟨w.heap.size,2,none⟩=some (.slice s_cda s_cdn s_cdc)/\w'.cell? ⟨w.heap.size,3,none⟩=some (.slice s_cqa s_cqn s_cqc)/\w'.cell? ⟨w.heap.size,4,none⟩=some (.string s_e)/\w'.cell? ⟨w.heap.size,5,none⟩=some (.string s_tm)/\w'.cell? ⟨w.heap.size,6,none⟩=some (.string s_te)/\w'.cell? ⟨w.heap.size,7,none⟩=some (.slice s_tfa s_tfn s_tfc)/\w'.cell? ⟨w.heap.size,8,none⟩=some (.int .i64 s_tp)/\w'.cell? ⟨w.heap.size+1,0,none⟩=some (.int .i64 x_k)/\w'.cell? ⟨w.heap.size+1,1,none⟩=some (.string x_o)/\w'.cell? ⟨w.heap.size+1,2,none⟩=some (.string x_m)/\w'.cell? ⟨w.heap.size+1,3,none⟩=some (.string x_t)/\w'.cell? ⟨w.heap.size+1,4,none⟩=some (.int .i64 x_vk)/\w'.cell? ⟨w.heap.size+1,5,none⟩=some (.int .i64 x_vn)/\w'.cell? ⟨w.heap.size+1,6,none⟩=some (.string x_vs)/\w'.cell? ⟨w.heap.size+1,7,none⟩=some (.slice x_ua xus.length x_uc)/\w'.cell? ⟨w.heap.size+1,8,none⟩=some (.int .i64 x_p)/\w'.cell? ⟨w.heap.size+1,9,none⟩=some (.int .i64 x_wk)/\w'.cell? ⟨w.heap.size+1,10,none⟩=some (.int .i64 x_wz)/\w'.cell? ⟨w.heap.size+1,11,none⟩=some (.slice x_xa x_xn x_xc)):=fun w' h=>⟨(h.box B0.out (by omega)).cell 0 _ rfl,(h.box B0.out (by omega)).cell 1 _ rfl,(h.box B0.out (by omega)).cell 2 _ rfl,(h.box B0.out (by omega)).cell 3 _ rfl,(h.box B0.out (by omega)).cell 4 _ rfl,(h.box B0.out (by omega)).cell 5 _ rfl,(h.box B0.out (by omega)).cell 6 _ rfl,(h.box B0.out (by omega)).cell 7 _ rfl,(h.box B0.out (by omega)).cell 8 _ rfl,(h.box B1.out (by omega)).cell 0 _ rfl,(h.box B1.out (by omega)).cell 1 _ rfl,(h.box B1.out (by omega)).cell 2 _ rfl,(h.box B1.out (by omega)).cell 3 _ rfl,(h.box B1.out (by omega)).cell 4 _ rfl,(h.box B1.out (by omega)).cell 5 _ rfl,(h.box B1.out (by omega)).cell 6 _ rfl,(h.box B1.out (by omega)).cell 7 _ rfl,(h.box B1.out (by omega)).cell 8 _ rfl,(h.box B1.out (by omega)).cell 9 _ rfl,(h.box B1.out (by omega)).cell 10 _ rfl,(h.box B1.out (by omega)).cell 11 _ rfl⟩
 have Ga:Hid (Below w0.heap.size w0 V):=Ja.out.trans (Aa.out.mono Ja.out.size)
 have Bf:Hid (Zac Ft.cells 18 V s_cfa F):=Be.out.kept Aa.out
 have hkk:x_k=1∨x_k=2∨x_k=3∨x_k=4∨x_k=5∨x_k=6∨x_k=7∨x_k=8∨x_k=9:=by omega
 rcases hkk with hq|hq|hq|hq|hq|hq|hq|hq|hq
 · subst hq
   have HZ:Hid (z=(true)):=Vd.out
   have Jc:Hid (t=(⟨x_vk,xus,x_m⟩)):=Hc.out
   have Km:ts.length=0:=hn
   obtain rfl:ts=[]:=List.eq_nil_of_length_eq_zero Km
   clear hn hk Vd Hc
   go_wp2_with (first|((with_reducible refine Zaq 35 ?_);refine Zae rfl 35 #[] rfl _ (fun w=>ZaX w) ?_;intro v hv)|((with_reducible refine Zaf 35 ?_);refine SB (B2.out.kept bt) w (ZT Aa.out bt) ?_;intro w9 hby hyb hot;have HR:=hid hby;have Ka:=hid hyb;have Na:=hid hot;clear hby hyb hot;have Ub:=hid (UnX.putq (w0:=w0) Na.out (B2.out.kept bt) (by decide));have Ce:Hid (∀ ua uc us,UnX w0 V ua uc us->UnX w0 w9 ua uc us):=fun _ _ _ hu=>Ub.out _ _ _ (hu.kept bt))|fail)
   all_goals
    ((try simp only[Exit.inBlock,Exit.then]);refine rb2 HR.out ?_;exact TyR.good HZ.out Jc.out rfl (Ce.out _ _ _ (Or.inl HXU.out)) Ka.out)
 · subst hq
   have HZ:Hid (z=(zf)):=Vd.out
   have Jc:Hid (t=(tf)):=Hc.out
   have Km:ts.length=0:=hn
   obtain rfl:ts=[]:=List.eq_nil_of_length_eq_zero Km
   clear hn hk Vd Hc
   go_wp2_with (first|(go_at_call 224;refine(HF.out _ _ _ _ _ _ _ _ _ _ _ _ _ _ _ _ _ _ (Ga.out.trans (Below.mono bt Ga.out.size))).mono ?_;rintro e w5 ⟨a5,c5,n5,rfl,Ea,Fa,Ed,hb⟩;have Jd:=hid Ed;have Jb:=hid Ea;have Dc:=hid Fa;have Db:Hid (Below V.heap.size V w5):=ZT bt hb;clear hb Ed Ea Fa)|((with_reducible refine Zaq 35 ?_);refine Zae rfl 35 #[] rfl _ (fun w=>ZaX w) ?_;intro v hv)|((with_reducible refine Zaf 35 ?_);refine SB (B2.out.kept bt) w (ZT Aa.out bt) ?_;intro w9 hby hyb hot;have HR:=hid hby;have Ka:=hid hyb;have Na:=hid hot;clear hby hyb hot;have Ub:=hid (UnX.putq (w0:=w0) Na.out (B2.out.kept bt) (by decide));have Ce:Hid (∀ ua uc us,UnX w0 V ua uc us->UnX w0 w9 ua uc us):=fun _ _ _ hu=>Ub.out _ _ _ (hu.kept bt))|fail)
   all_goals
    ((try simp only[Exit.inBlock,Exit.then]);refine rb2 HR.out ?_;rw[HZ.out,Jc.out];exact⟨a5,c5,n5,rfl,Jb.out,Dc.out,Ub.out _ _ _ Jd.out,Ka.out⟩)
 · subst hq
   have HZ:Hid (z=(z3)):=Vd.out
   have Jc:Hid (t=(t3)):=Hc.out
   have Km:ts.length=0:=hn
   obtain rfl:ts=[]:=List.eq_nil_of_length_eq_zero Km
   clear hn hk Vd Hc
   go_wp2_with (first|(go_at_call 225;refine(H3.out _ _ _ _ _ _ _ _ _ _ _ _ _ _ _ _ _ _ _ (Ga.out.trans (Below.mono bt Ga.out.size)) (Bf.out.kept bt)).mono ?_;rintro e w5 ⟨a5,c5,n5,rfl,Ea,Fa,Ed,hb⟩;have Jd:=hid Ed;have Jb:=hid Ea;have Dc:=hid Fa;have Db:Hid (Below V.heap.size V w5):=ZT bt hb;clear hb Ed Ea Fa)|((with_reducible refine Zaq 35 ?_);refine Zae rfl 35 #[] rfl _ (fun w=>ZaX w) ?_;intro v hv)|((with_reducible refine Zaf 35 ?_);refine SB (B2.out.kept bt) w (ZT Aa.out bt) ?_;intro w9 hby hyb hot;have HR:=hid hby;have Ka:=hid hyb;have Na:=hid hot;clear hby hyb hot;have Ub:=hid (UnX.putq (w0:=w0) Na.out (B2.out.kept bt) (by decide));have Ce:Hid (∀ ua uc us,UnX w0 V ua uc us->UnX w0 w9 ua uc us):=fun _ _ _ hu=>Ub.out _ _ _ (hu.kept bt))|fail)
   all_goals
    ((try simp only[Exit.inBlock,Exit.then]);refine rb2 HR.out ?_;rw[HZ.out,Jc.out];exact⟨a5,c5,n5,rfl,Jb.out,Dc.out,Ub.out _ _ _ Jd.out,Ka.out⟩)
 · subst hq
   have HZ:Hid (z=((g0.k==5)&&z4)):=Vd.out
   have Jc:Hid (t=((if (g0.k==5)=true then t4 else Ta.zero))):=Hc.out
   have Yd:ts.length=1:=hn
   obtain⟨A0,hts⟩:∃ A0,ts=[A0]:=by
    match ts,Yd with
    |[y0],_=>exact⟨y0,rfl⟩
   subst hts
   obtain rfl:g0=A0:=Ih
   obtain⟨rs,hrl,hrs,hun⟩:=HT.out
   have Yf:rs.length=1:=hrl
   obtain⟨t0,rfl⟩:∃ t0,rs=[t0]:=by
    match rs,Yf with
    |[y0],_=>exact⟨y0,rfl⟩
   obtain⟨b1,o1,rfl,hr⟩:=hrs.some (by simp)
   have Vg:=hun 0 _ _ rfl rfl
   obtain⟨k0,ua0,un0,uc0,oo0⟩:=t0
   dsimp only at Vg
   obtain⟨e1,e2,e3,Ec⟩:=Vg
   subst e1 e2 e3
   have Il:Hid (UnX w0 V ua0 uc0 g0.us):=Ec.kept Aa.out
   clear Ec
   have HC:Hid (∀ w',Below V.heap.size V w'->w'.cell? ⟨b1,o1,none⟩=some (.int .i64 g0.k)/\w'.cell? ⟨b1,o1+1,none⟩=some (.slice ua0 g0.us.length uc0)/\w'.cell? ⟨b1,o1+2,none⟩=some (.string g0.o)):=fun w' h=>⟨Zaa (Zaa (by simpa using hr 0 _ rfl 0 _ rfl) Aa.out) h,Zaa (Zaa (by simpa using hr 0 _ rfl 1 _ rfl) Aa.out) h,Zaa (Zaa (by simpa using hr 0 _ rfl 2 _ rfl) Aa.out) h⟩
   have Tg:Hid (∀ w',Bx w V (w.heap.size+1+1) w'->w'.cell? ⟨b1,o1,none⟩=some (.int .i64 g0.k)/\w'.cell? ⟨b1,o1+1,none⟩=some (.slice ua0 g0.us.length uc0)/\w'.cell? ⟨b1,o1+2,none⟩=some (.string g0.o)):=fun w' h=>⟨Zaa (by simpa using hr 0 _ rfl 0 _ rfl) h.old,Zaa (by simpa using hr 0 _ rfl 1 _ rfl) h.old,Zaa (by simpa using hr 0 _ rfl 2 _ rfl) h.old⟩
   clear hr hrs hun hrl Yf
   obtain⟨c0,c1,c2⟩:=HC.out V (ZR V)
   clear hn hk Vd Hc
   go_upto_region 11 with(first|((with_reducible refine Zaq 35 ?_);refine Zae rfl 35 #[] rfl _ (fun w=>ZaX w) ?_;intro v hv)|((with_reducible refine Zaf 35 ?_);refine SB (B2.out.kept bt) w (ZT Aa.out bt) ?_;intro w9 hby hyb hot;have HR:=hid hby;have Ka:=hid hyb;have Na:=hid hot;clear hby hyb hot;have Ub:=hid (UnX.putq (w0:=w0) Na.out (B2.out.kept bt) (by decide));have Ce:Hid (∀ ua uc us,UnX w0 V ua uc us->UnX w0 w9 ua uc us):=fun _ _ _ hu=>Ub.out _ _ _ (hu.kept bt))|fail)
   all_goals first
    |((try simp only[Exit.inBlock,Exit.then]);refine rb2 HR.out ?_;exact TyR.bad (by rw[HZ.out];simp_all) (by rw[Jc.out];simp_all) (by decide) Ka.out)
    |skip
   have HZ:Hid (z=z4):=by show _=_;rw[HZ.out];simp_all
   have Jc:Hid (t=t4):=by show _=_;rw[Jc.out];simp_all
   refine Zbg (S:=fun w'=>Bx w V (w.heap.size+1+1) w') [true,true,true,true,true,true,true,false,true,true,false,true] (by kernel_rfl) (by kernel_rfl) (fun _ _ _ _ _ h=>h) (by kernel_rfl) rfl (Bx.of Aa.out (ZD (ZR V))) ?_
   have Ca:=fun wq (hSw:(fun w'=>Bx w V (w.heap.size+1+1) w') wq)=>And.intro (Ag.out wq hSw) (Tg.out wq hSw)
   refine mk Ca (.agg #[.slice s_cta s_ctn s_ctc,.slice s_cfa F.length s_cfc,.slice s_cda s_cdn s_cdc,.slice s_cqa s_cqn s_cqc,.string s_e,.string s_tm,.string s_te,.slice s_tfa s_tfn s_tfc,.int .i64 s_tp]) ?_
   refine mk Ca (.pointer (some ⟨w.heap.size+1,2,none⟩)) ?_
   refine mk Ca (.string x_m) ?_
   refine mk Ca (.slice (some ⟨b1,o1,none⟩) 1 lc) ?_
   refine mk Ca (.pointer (some ⟨b1,o1,none⟩)) ?_
   refine mk Ca (.pointer (some ⟨b1,o1+2,none⟩)) ?_
   refine mk Ca (.string g0.o) ?_
   refine Zbm (by rfl) (fun K hK=>?_)
   go_wp2_with (go_at_call 225;refine(H4.out _ _ _ _ _ _ _ _ _ _ _ _ _ _ _ _ _ _ _ (Ga.out.trans (Below.mono bt Ga.out.size)) (Bf.out.kept bt)).mono ?_;rintro e w5 ⟨a5,c5,n5,rfl,Ea,Fa,Ed,hb⟩;have Jd:=hid Ed;have Jb:=hid Ea;have Dc:=hid Fa;have Db:Hid (Below V.heap.size V w5):=ZT bt hb;clear hb Ed Ea Fa)
   refine hk hK (Bx.of Aa.out Db.out) ?_
   clear hK K
   refine mk Ca (.agg #[.int .i64 t4.k,.slice a5 t4.us.length c5,.string t4.o]) ?_
   refine mk Ca (.int .i64 n5) ?_
   refine Zbm (by rfl) (fun K hK=>?_)
   refine Zfa 35 _ _ rfl rfl (w.heap.size+1+1) 35 _ _ rfl rfl (B2.out.kept Db.out) (by kernel_rfl) (by rfl) (by rfl) (Bx.of Aa.out Db.out) (by omega) ?_
   intro w9 hby hbx hot
   have HR:=hid hby
   have Ka:Hid (Below w.heap.size w w9):=hbx.old
   have Ub:=hid (UnX.putq (w0:=w0) hot (B2.out.kept Db.out) (by decide))
   refine hk hK hbx ?_
   clear hK K hby hbx hot
   refine mk Ca (.int .i64 n5) ?_
   refine Zbv ?_
   go_wp2_with fail
   ((try simp only[Exit.inBlock,Exit.then]);refine rb2 HR.out ?_;rw[HZ.out,Jc.out];exact⟨a5,c5,n5,rfl,Jb.out,Dc.out,Ub.out _ _ _ Jd.out,Ka.out⟩)
 · subst hq
   have HZ:Hid (z=(z5)):=Vd.out
   have Jc:Hid (t=(t5)):=Hc.out
   have Pe:ts.length=2:=hn
   obtain⟨A0,A1,hts⟩:∃ A0 A1,ts=[A0,A1]:=by
    match ts,Pe with
    |[y0,y1],_=>exact⟨y0,y1,rfl⟩
   subst hts
   obtain rfl:g0=A0:=Ih
   obtain rfl:g1=A1:=He
   obtain⟨rs,hrl,hrs,hun⟩:=HT.out
   have Nd:rs.length=2:=hrl
   obtain⟨t0,t1,rfl⟩:∃ t0 t1,rs=[t0,t1]:=by
    match rs,Nd with
    |[y0,y1],_=>exact⟨y0,y1,rfl⟩
   obtain⟨b1,o1,rfl,hr⟩:=hrs.some (by simp)
   have Vg:=hun 0 _ _ rfl rfl
   obtain⟨k0,ua0,un0,uc0,oo0⟩:=t0
   dsimp only at Vg
   obtain⟨e1,e2,e3,Ec⟩:=Vg
   subst e1 e2 e3
   have Il:Hid (UnX w0 V ua0 uc0 g0.us):=Ec.kept Aa.out
   clear Ec
   have Lj:=hun 1 _ _ rfl rfl
   obtain⟨k1,ua1,un1,uc1,oo1⟩:=t1
   dsimp only at Lj
   obtain⟨e1,e2,e3,Ff⟩:=Lj
   subst e1 e2 e3
   have Bo:Hid (UnX w0 V ua1 uc1 g1.us):=Ff.kept Aa.out
   clear Ff
   have HC:Hid (∀ w',Below V.heap.size V w'->w'.cell? ⟨b1,o1,none⟩=some (.int .i64 g0.k)/\w'.cell? ⟨b1,o1+1,none⟩=some (.slice ua0 g0.us.length uc0)/\w'.cell? ⟨b1,o1+2,none⟩=some (.string g0.o)/\w'.cell? ⟨b1,o1+3,none⟩=some (.int .i64 g1.k)/\w'.cell? ⟨b1,o1+4,none⟩=some (.slice ua1 g1.us.length uc1)/\w'.cell? ⟨b1,o1+5,none⟩=some (.string g1.o)):=fun w' h=>⟨Zaa (Zaa (by simpa using hr 0 _ rfl 0 _ rfl) Aa.out) h,Zaa (Zaa (by simpa using hr 0 _ rfl 1 _ rfl) Aa.out) h,Zaa (Zaa (by simpa using hr 0 _ rfl 2 _ rfl) Aa.out) h,Zaa (Zaa (by simpa using hr 1 _ rfl 0 _ rfl) Aa.out) h,Zaa (Zaa (by simpa using hr 1 _ rfl 1 _ rfl) Aa.out) h,Zaa (Zaa (by simpa using hr 1 _ rfl 2 _ rfl) Aa.out) h⟩
   have Tg:Hid (∀ w',Bx w V (w.heap.size+1+1) w'->w'.cell? ⟨b1,o1,none⟩=some (.int .i64 g0.k)/\w'.cell? ⟨b1,o1+1,none⟩=some (.slice ua0 g0.us.length uc0)/\w'.cell? ⟨b1,o1+2,none⟩=some (.string g0.o)/\w'.cell? ⟨b1,o1+3,none⟩=some (.int .i64 g1.k)/\w'.cell? ⟨b1,o1+4,none⟩=some (.slice ua1 g1.us.length uc1)/\w'.cell? ⟨b1,o1+5,none⟩=some (.string g1.o)):=fun w' h=>⟨Zaa (by simpa using hr 0 _ rfl 0 _ rfl) h.old,Zaa (by simpa using hr 0 _ rfl 1 _ rfl) h.old,Zaa (by simpa using hr 0 _ rfl 2 _ rfl) h.old,Zaa (by simpa using hr 1 _ rfl 0 _ rfl) h.old,Zaa (by simpa using hr 1 _ rfl 1 _ rfl) h.old,Zaa (by simpa using hr 1 _ rfl 2 _ rfl) h.old⟩
   clear hr hrs hun hrl Nd
   obtain⟨c0,c1,c2,c3,c4,c5⟩:=HC.out V (ZR V)
   clear hn hk Vd Hc
   go_upto_region 13 with fail
   refine Zbg (S:=fun w'=>Bx w V (w.heap.size+1+1) w') [true,true,true,true,true,true,true,false,true,true,false,true] (by kernel_rfl) (by kernel_rfl) (fun _ _ _ _ _ h=>h) (by kernel_rfl) rfl (Bx.of Aa.out (ZD (ZR V))) ?_
   have Ca:=fun wq (hSw:(fun w'=>Bx w V (w.heap.size+1+1) w') wq)=>And.intro (Ag.out wq hSw) (Tg.out wq hSw)
   refine mk Ca (.agg #[.int .i64 5,.string x_o,.string x_m,.string x_t,.int .i64 x_vk,.int .i64 x_vn,.string x_vs,.slice x_ua xus.length x_uc,.int .i64 x_p,.int .i64 x_wk,.int .i64 x_wz,.slice x_xa x_xn x_xc]) ?_
   refine mk Ca (.slice (some ⟨b1,o1,none⟩) 2 lc) ?_
   refine mk Ca (.pointer (some ⟨b1,o1,none⟩)) ?_
   refine mk Ca (.agg #[.int .i64 g0.k,.slice ua0 g0.us.length uc0,.string g0.o]) ?_
   refine mk Ca (.slice (some ⟨b1,o1,none⟩) 2 lc) ?_
   refine mk Ca (.pointer (some ⟨b1,o1+3,none⟩)) ?_
   refine mk Ca (.agg #[.int .i64 g1.k,.slice ua1 g1.us.length uc1,.string g1.o]) ?_
   refine Zbm (by rfl) (fun K hK=>?_)
   go_wp2_with (go_at_call 226;refine(H5.out _ _ _ _ _ _ _ _ _ _ _ _ _ _ _ _ _ _ _ _ _ _ (Ga.out.trans (Below.mono bt Ga.out.size)) (Il.out.kept bt)).mono ?_;rintro e w5 ⟨a5,c5,n5,rfl,Ea,Fa,Ed,hb⟩;have Jd:=hid Ed;have Jb:=hid Ea;have Dc:=hid Fa;have Db:Hid (Below V.heap.size V w5):=ZT bt hb;clear hb Ed Ea Fa)
   refine hk hK (Bx.of Aa.out Db.out) ?_
   clear hK K
   refine mk Ca (.agg #[.int .i64 t5.k,.slice a5 t5.us.length c5,.string t5.o]) ?_
   refine mk Ca (.int .i64 n5) ?_
   refine Zbm (by rfl) (fun K hK=>?_)
   refine Zfa 35 _ _ rfl rfl (w.heap.size+1+1) 35 _ _ rfl rfl (B2.out.kept Db.out) (by kernel_rfl) (by rfl) (by rfl) (Bx.of Aa.out Db.out) (by omega) ?_
   intro w9 hby hbx hot
   have HR:=hid hby
   have Ka:Hid (Below w.heap.size w w9):=hbx.old
   have Ub:=hid (UnX.putq (w0:=w0) hot (B2.out.kept Db.out) (by decide))
   refine hk hK hbx ?_
   clear hK K hby hbx hot
   refine mk Ca (.int .i64 n5) ?_
   refine Zbv ?_
   go_wp2_with fail
   ((try simp only[Exit.inBlock,Exit.then]);refine rb2 HR.out ?_;rw[HZ.out,Jc.out];exact⟨a5,c5,n5,rfl,Jb.out,Dc.out,Ub.out _ _ _ Jd.out,Ka.out⟩)
 · subst hq
   have HZ:Hid (z=(!(((x_o.toList==([45]:List UInt8))&&!((g0.k==2)||(g0.k==3)))||((x_o.toList==([110,111,116]:List UInt8))&&!(g0.k==1))))):=Vd.out
   have Jc:Hid (t=((if z=true then(if (x_o.toList==([45]:List UInt8))=true then g0 else⟨1,[],⟨#[]⟩⟩)else Ta.zero))):=Hc.out
   have Yd:ts.length=1:=hn
   obtain⟨A0,hts⟩:∃ A0,ts=[A0]:=by
    match ts,Yd with
    |[y0],_=>exact⟨y0,rfl⟩
   subst hts
   obtain rfl:g0=A0:=Ih
   obtain⟨rs,hrl,hrs,hun⟩:=HT.out
   have Yf:rs.length=1:=hrl
   obtain⟨t0,rfl⟩:∃ t0,rs=[t0]:=by
    match rs,Yf with
    |[y0],_=>exact⟨y0,rfl⟩
   obtain⟨b1,o1,rfl,hr⟩:=hrs.some (by simp)
   have Vg:=hun 0 _ _ rfl rfl
   obtain⟨k0,ua0,un0,uc0,oo0⟩:=t0
   dsimp only at Vg
   obtain⟨e1,e2,e3,Ec⟩:=Vg
   subst e1 e2 e3
   have Il:Hid (UnX w0 V ua0 uc0 g0.us):=Ec.kept Aa.out
   clear Ec
   have HC:Hid (∀ w',Below V.heap.size V w'->w'.cell? ⟨b1,o1,none⟩=some (.int .i64 g0.k)/\w'.cell? ⟨b1,o1+1,none⟩=some (.slice ua0 g0.us.length uc0)/\w'.cell? ⟨b1,o1+2,none⟩=some (.string g0.o)):=fun w' h=>⟨Zaa (Zaa (by simpa using hr 0 _ rfl 0 _ rfl) Aa.out) h,Zaa (Zaa (by simpa using hr 0 _ rfl 1 _ rfl) Aa.out) h,Zaa (Zaa (by simpa using hr 0 _ rfl 2 _ rfl) Aa.out) h⟩
   have Tg:Hid (∀ w',Bx w V (w.heap.size+1+1) w'->w'.cell? ⟨b1,o1,none⟩=some (.int .i64 g0.k)/\w'.cell? ⟨b1,o1+1,none⟩=some (.slice ua0 g0.us.length uc0)/\w'.cell? ⟨b1,o1+2,none⟩=some (.string g0.o)):=fun w' h=>⟨Zaa (by simpa using hr 0 _ rfl 0 _ rfl) h.old,Zaa (by simpa using hr 0 _ rfl 1 _ rfl) h.old,Zaa (by simpa using hr 0 _ rfl 2 _ rfl) h.old⟩
   clear hr hrs hun hrl Yf
   obtain⟨c0,c1,c2⟩:=HC.out V (ZR V)
   clear hn hk Vd Hc
   go_upto_if 93 with(first|(go_at_call 199;refine(ZdU _ _ _ _ _ _).mono ?_;rintro e w' ⟨rfl,hb⟩;have HW:Hid (Below V.heap.size V w'):=ZT bt hb;clear hb;have KK:=HS.out _ HW.out;have TQ:=HC.out _ HW.out;obtain⟨c0,c1,c2⟩:=TQ)|fail)
   all_goals
    go_wp2_with (first|((with_reducible refine Zaq 35 ?_);refine Zae rfl 35 #[] rfl _ (fun w=>ZaX w) ?_;intro v hv)|((with_reducible refine Zaf 35 ?_);refine SB (B2.out.kept bt) w (ZT Aa.out bt) ?_;intro w9 hby hyb hot;have HR:=hid hby;have Ka:=hid hyb;have Na:=hid hot;clear hby hyb hot;have Ub:=hid (UnX.putq (w0:=w0) Na.out (B2.out.kept bt) (by decide));have Ce:Hid (∀ ua uc us,UnX w0 V ua uc us->UnX w0 w9 ua uc us):=fun _ _ _ hu=>Ub.out _ _ _ (hu.kept bt))|fail)
   all_goals
    ((try simp only[Exit.inBlock,Exit.then]);refine rb2 HR.out ?_;first|exact TyR.bad (by rw[HZ.out];simp_all<;>grind) (by rw[Jc.out,HZ.out];simp_all<;>grind) (by decide) Ka.out|exact TyR.kind (by rw[HZ.out];simp_all<;>grind) (by rw[Jc.out,HZ.out];simp_all<;>grind) Ka.out|exact TyR.good (by rw[HZ.out];simp_all<;>grind) (by rw[Jc.out,HZ.out];simp_all<;>grind) rfl (Ce.out _ _ _ Il.out) Ka.out)
 · subst hq
   have HZ:Hid (z=(z7)):=Vd.out
   have Jc:Hid (t=(t7)):=Hc.out
   have Pe:ts.length=2:=hn
   obtain⟨A0,A1,hts⟩:∃ A0 A1,ts=[A0,A1]:=by
    match ts,Pe with
    |[y0,y1],_=>exact⟨y0,y1,rfl⟩
   subst hts
   obtain rfl:g0=A0:=Ih
   obtain rfl:g1=A1:=He
   obtain⟨rs,hrl,hrs,hun⟩:=HT.out
   have Nd:rs.length=2:=hrl
   obtain⟨t0,t1,rfl⟩:∃ t0 t1,rs=[t0,t1]:=by
    match rs,Nd with
    |[y0,y1],_=>exact⟨y0,y1,rfl⟩
   obtain⟨b1,o1,rfl,hr⟩:=hrs.some (by simp)
   have Vg:=hun 0 _ _ rfl rfl
   obtain⟨k0,ua0,un0,uc0,oo0⟩:=t0
   dsimp only at Vg
   obtain⟨e1,e2,e3,Ec⟩:=Vg
   subst e1 e2 e3
   have Il:Hid (UnX w0 V ua0 uc0 g0.us):=Ec.kept Aa.out
   clear Ec
   have Lj:=hun 1 _ _ rfl rfl
   obtain⟨k1,ua1,un1,uc1,oo1⟩:=t1
   dsimp only at Lj
   obtain⟨e1,e2,e3,Ff⟩:=Lj
   subst e1 e2 e3
   have Bo:Hid (UnX w0 V ua1 uc1 g1.us):=Ff.kept Aa.out
   clear Ff
   have HC:Hid (∀ w',Below V.heap.size V w'->w'.cell? ⟨b1,o1,none⟩=some (.int .i64 g0.k)/\w'.cell? ⟨b1,o1+1,none⟩=some (.slice ua0 g0.us.length uc0)/\w'.cell? ⟨b1,o1+2,none⟩=some (.string g0.o)/\w'.cell? ⟨b1,o1+3,none⟩=some (.int .i64 g1.k)/\w'.cell? ⟨b1,o1+4,none⟩=some (.slice ua1 g1.us.length uc1)/\w'.cell? ⟨b1,o1+5,none⟩=some (.string g1.o)):=fun w' h=>⟨Zaa (Zaa (by simpa using hr 0 _ rfl 0 _ rfl) Aa.out) h,Zaa (Zaa (by simpa using hr 0 _ rfl 1 _ rfl) Aa.out) h,Zaa (Zaa (by simpa using hr 0 _ rfl 2 _ rfl) Aa.out) h,Zaa (Zaa (by simpa using hr 1 _ rfl 0 _ rfl) Aa.out) h,Zaa (Zaa (by simpa using hr 1 _ rfl 1 _ rfl) Aa.out) h,Zaa (Zaa (by simpa using hr 1 _ rfl 2 _ rfl) Aa.out) h⟩
   have Tg:Hid (∀ w',Bx w V (w.heap.size+1+1) w'->w'.cell? ⟨b1,o1,none⟩=some (.int .i64 g0.k)/\w'.cell? ⟨b1,o1+1,none⟩=some (.slice ua0 g0.us.length uc0)/\w'.cell? ⟨b1,o1+2,none⟩=some (.string g0.o)/\w'.cell? ⟨b1,o1+3,none⟩=some (.int .i64 g1.k)/\w'.cell? ⟨b1,o1+4,none⟩=some (.slice ua1 g1.us.length uc1)/\w'.cell? ⟨b1,o1+5,none⟩=some (.string g1.o)):=fun w' h=>⟨Zaa (by simpa using hr 0 _ rfl 0 _ rfl) h.old,Zaa (by simpa using hr 0 _ rfl 1 _ rfl) h.old,Zaa (by simpa using hr 0 _ rfl 2 _ rfl) h.old,Zaa (by simpa using hr 1 _ rfl 0 _ rfl) h.old,Zaa (by simpa using hr 1 _ rfl 1 _ rfl) h.old,Zaa (by simpa using hr 1 _ rfl 2 _ rfl) h.old⟩
   clear hr hrs hun hrl Nd
   obtain⟨c0,c1,c2,c3,c4,c5⟩:=HC.out V (ZR V)
   clear hn hk Vd Hc
   go_upto_region 21 with fail
   refine Zbg (S:=fun w'=>Bx w V (w.heap.size+1+1) w') [true,true,true,true,true,true,true,true,false,true,true,false,true] (by kernel_rfl) (by kernel_rfl) (fun _ _ _ _ _ h=>h) (by kernel_rfl) rfl (Bx.of Aa.out (ZD (ZR V))) ?_
   have Ca:=fun wq (hSw:(fun w'=>Bx w V (w.heap.size+1+1) w') wq)=>And.intro (Ag.out wq hSw) (Tg.out wq hSw)
   refine mk Ca (.pointer (some ⟨w.heap.size+1,1,none⟩)) ?_
   refine mk Ca (.string x_o) ?_
   refine mk Ca (.slice (some ⟨b1,o1,none⟩) 2 lc) ?_
   refine mk Ca (.pointer (some ⟨b1,o1,none⟩)) ?_
   refine mk Ca (.agg #[.int .i64 g0.k,.slice ua0 g0.us.length uc0,.string g0.o]) ?_
   refine mk Ca (.slice (some ⟨b1,o1,none⟩) 2 lc) ?_
   refine mk Ca (.pointer (some ⟨b1,o1+3,none⟩)) ?_
   refine mk Ca (.agg #[.int .i64 g1.k,.slice ua1 g1.us.length uc1,.string g1.o]) ?_
   refine Zbm (by rfl) (fun K hK=>?_)
   go_wp2_with (go_at_call 227;refine(H7.out _ _ _ _ _ (Ga.out.trans (Below.mono bt Ga.out.size)) (Il.out.kept bt) (Bo.out.kept bt)).mono ?_;rintro e w5 ⟨a5,c5,n5,rfl,Ea,Fa,Ed,hb⟩;have Jd:=hid Ed;have Jb:=hid Ea;have Dc:=hid Fa;have Db:Hid (Below V.heap.size V w5):=ZT bt hb;clear hb Ed Ea Fa)
   refine hk hK (Bx.of Aa.out Db.out) ?_
   clear hK K
   refine mk Ca (.agg #[.int .i64 t7.k,.slice a5 t7.us.length c5,.string t7.o]) ?_
   refine mk Ca (.int .i64 n5) ?_
   refine Zbm (by rfl) (fun K hK=>?_)
   refine Zfa 35 _ _ rfl rfl (w.heap.size+1+1) 35 _ _ rfl rfl (B2.out.kept Db.out) (by kernel_rfl) (by rfl) (by rfl) (Bx.of Aa.out Db.out) (by omega) ?_
   intro w9 hby hbx hot
   have HR:=hid hby
   have Ka:Hid (Below w.heap.size w w9):=hbx.old
   have Ub:=hid (UnX.putq (w0:=w0) hot (B2.out.kept Db.out) (by decide))
   refine hk hK hbx ?_
   clear hK K hby hbx hot
   refine mk Ca (.int .i64 n5) ?_
   refine Zbv ?_
   go_wp2_with fail
   ((try simp only[Exit.inBlock,Exit.then]);refine rb2 HR.out ?_;rw[HZ.out,Jc.out];exact⟨a5,c5,n5,rfl,Jb.out,Dc.out,Ub.out _ _ _ Jd.out,Ka.out⟩)
 · subst hq
   have HZ:Hid (z=((g0.k==1)&&b8)):=Vd.out
   have Jc:Hid (t=((if z=true then g2 else Ta.zero))):=Hc.out
   have Un:ts.length=3:=hn
   obtain⟨A0,A1,A2,hts⟩:∃ A0 A1 A2,ts=[A0,A1,A2]:=by
    match ts,Un with
    |[y0,y1,y2],_=>exact⟨y0,y1,y2,rfl⟩
   subst hts
   obtain rfl:g0=A0:=Ih
   obtain rfl:g1=A1:=He
   obtain rfl:g2=A2:=Ye
   obtain⟨rs,hrl,hrs,hun⟩:=HT.out
   have Mg:rs.length=3:=hrl
   obtain⟨t0,t1,t2,rfl⟩:∃ t0 t1 t2,rs=[t0,t1,t2]:=by
    match rs,Mg with
    |[y0,y1,y2],_=>exact⟨y0,y1,y2,rfl⟩
   obtain⟨b1,o1,rfl,hr⟩:=hrs.some (by simp)
   have Vg:=hun 0 _ _ rfl rfl
   obtain⟨k0,ua0,un0,uc0,oo0⟩:=t0
   dsimp only at Vg
   obtain⟨e1,e2,e3,Ec⟩:=Vg
   subst e1 e2 e3
   have Il:Hid (UnX w0 V ua0 uc0 g0.us):=Ec.kept Aa.out
   clear Ec
   have Lj:=hun 1 _ _ rfl rfl
   obtain⟨k1,ua1,un1,uc1,oo1⟩:=t1
   dsimp only at Lj
   obtain⟨e1,e2,e3,Ff⟩:=Lj
   subst e1 e2 e3
   have Bo:Hid (UnX w0 V ua1 uc1 g1.us):=Ff.kept Aa.out
   clear Ff
   have Xf:=hun 2 _ _ rfl rfl
   obtain⟨k2,ua2,un2,uc2,oo2⟩:=t2
   dsimp only at Xf
   obtain⟨e1,e2,e3,Eg⟩:=Xf
   subst e1 e2 e3
   have HU2:Hid (UnX w0 V ua2 uc2 g2.us):=Eg.kept Aa.out
   clear Eg
   have HC:Hid (∀ w',Below V.heap.size V w'->w'.cell? ⟨b1,o1,none⟩=some (.int .i64 g0.k)/\w'.cell? ⟨b1,o1+1,none⟩=some (.slice ua0 g0.us.length uc0)/\w'.cell? ⟨b1,o1+2,none⟩=some (.string g0.o)/\w'.cell? ⟨b1,o1+3,none⟩=some (.int .i64 g1.k)/\w'.cell? ⟨b1,o1+4,none⟩=some (.slice ua1 g1.us.length uc1)/\w'.cell? ⟨b1,o1+5,none⟩=some (.string g1.o)/\w'.cell? ⟨b1,o1+6,none⟩=some (.int .i64 g2.k)/\w'.cell? ⟨b1,o1+7,none⟩=some (.slice ua2 g2.us.length uc2)/\w'.cell? ⟨b1,o1+8,none⟩=some (.string g2.o)):=fun w' h=>⟨Zaa (Zaa (by simpa using hr 0 _ rfl 0 _ rfl) Aa.out) h,Zaa (Zaa (by simpa using hr 0 _ rfl 1 _ rfl) Aa.out) h,Zaa (Zaa (by simpa using hr 0 _ rfl 2 _ rfl) Aa.out) h,Zaa (Zaa (by simpa using hr 1 _ rfl 0 _ rfl) Aa.out) h,Zaa (Zaa (by simpa using hr 1 _ rfl 1 _ rfl) Aa.out) h,Zaa (Zaa (by simpa using hr 1 _ rfl 2 _ rfl) Aa.out) h,Zaa (Zaa (by simpa using hr 2 _ rfl 0 _ rfl) Aa.out) h,Zaa (Zaa (by simpa using hr 2 _ rfl 1 _ rfl) Aa.out) h,Zaa (Zaa (by simpa using hr 2 _ rfl 2 _ rfl) Aa.out) h⟩
   have Tg:Hid (∀ w',Bx w V (w.heap.size+1+1) w'->w'.cell? ⟨b1,o1,none⟩=some (.int .i64 g0.k)/\w'.cell? ⟨b1,o1+1,none⟩=some (.slice ua0 g0.us.length uc0)/\w'.cell? ⟨b1,o1+2,none⟩=some (.string g0.o)/\w'.cell? ⟨b1,o1+3,none⟩=some (.int .i64 g1.k)/\w'.cell? ⟨b1,o1+4,none⟩=some (.slice ua1 g1.us.length uc1)/\w'.cell? ⟨b1,o1+5,none⟩=some (.string g1.o)/\w'.cell? ⟨b1,o1+6,none⟩=some (.int .i64 g2.k)/\w'.cell? ⟨b1,o1+7,none⟩=some (.slice ua2 g2.us.length uc2)/\w'.cell? ⟨b1,o1+8,none⟩=some (.string g2.o)):=fun w' h=>⟨Zaa (by simpa using hr 0 _ rfl 0 _ rfl) h.old,Zaa (by simpa using hr 0 _ rfl 1 _ rfl) h.old,Zaa (by simpa using hr 0 _ rfl 2 _ rfl) h.old,Zaa (by simpa using hr 1 _ rfl 0 _ rfl) h.old,Zaa (by simpa using hr 1 _ rfl 1 _ rfl) h.old,Zaa (by simpa using hr 1 _ rfl 2 _ rfl) h.old,Zaa (by simpa using hr 2 _ rfl 0 _ rfl) h.old,Zaa (by simpa using hr 2 _ rfl 1 _ rfl) h.old,Zaa (by simpa using hr 2 _ rfl 2 _ rfl) h.old⟩
   clear hr hrs hun hrl Mg
   obtain⟨c0,c1,c2,c3,c4,c5,c6,c7,c8⟩:=HC.out V (ZR V)
   clear hn hk Vd Hc
   go_upto_region 26 with(first|((with_reducible refine Zaq 35 ?_);refine Zae rfl 35 #[] rfl _ (fun w=>ZaX w) ?_;intro v hv)|((with_reducible refine Zaf 35 ?_);refine SB (B2.out.kept bt) w (ZT Aa.out bt) ?_;intro w9 hby hyb hot;have HR:=hid hby;have Ka:=hid hyb;have Na:=hid hot;clear hby hyb hot;have Ub:=hid (UnX.putq (w0:=w0) Na.out (B2.out.kept bt) (by decide));have Ce:Hid (∀ ua uc us,UnX w0 V ua uc us->UnX w0 w9 ua uc us):=fun _ _ _ hu=>Ub.out _ _ _ (hu.kept bt))|fail)
   all_goals first
    |((try simp only[Exit.inBlock,Exit.then]);refine rb2 HR.out ?_;exact TyR.bad (by rw[HZ.out];simp_all) (by rw[Jc.out,HZ.out];simp_all) (by decide) Ka.out)
    |skip
   refine Zbg (S:=fun w'=>Bx w V (w.heap.size+1+1) w') [true,true,true,true,true,true,true,true,true,false,true] (by kernel_rfl) (by kernel_rfl) (fun _ _ _ _ _ h=>h) (by kernel_rfl) rfl (Bx.of Aa.out (ZD (ZR V))) ?_
   have Ca:=fun wq (hSw:(fun w'=>Bx w V (w.heap.size+1+1) w') wq)=>And.intro (Ag.out wq hSw) (Tg.out wq hSw)
   refine mk Ca (.slice (some ⟨b1,o1,none⟩) 3 lc) ?_
   refine mk Ca (.int .i64 2) ?_
   refine mk Ca (.int .i64 1) ?_
   refine mk Ca (.pointer (some ⟨b1,o1+3,none⟩)) ?_
   refine mk Ca (.agg #[.int .i64 g1.k,.slice ua1 g1.us.length uc1,.string g1.o]) ?_
   refine mk Ca (.slice (some ⟨b1,o1,none⟩) 3 lc) ?_
   refine mk Ca (.int .i64 2) ?_
   refine mk Ca (.pointer (some ⟨b1,o1+6,none⟩)) ?_
   refine mk Ca (.agg #[.int .i64 g2.k,.slice ua2 g2.us.length uc2,.string g2.o]) ?_
   refine Zbm (by rfl) (fun K hK=>?_)
   go_wp2_with (go_at_call 192;refine(H8.out _ _ _ _ _ ((Bo.out.kept bt).is (Ga.out.trans (Below.mono bt Ga.out.size))) ((HU2.out.kept bt).is (Ga.out.trans (Below.mono bt Ga.out.size)))).mono ?_;rintro e w5 ⟨n5,rfl,Ea,Fa,hb⟩;have Jb:=hid Ea;have Dc:=hid Fa;have Db:Hid (Below V.heap.size V w5):=ZT bt hb;clear hb Ea Fa)
   refine hk hK (Bx.of Aa.out Db.out) ?_
   clear hK K
   refine mk Ca (.int .i64 n5) ?_
   refine Zbv ?_
   have KK:=HS.out _ Db.out
   have TQ:=HC.out _ Db.out
   obtain⟨c0,c1,c2,c3,c4,c5,c6,c7,c8⟩:=TQ
   rcases retz Jb.out Dc.out with⟨hbz,rfl⟩|⟨hbz,Fh⟩
   all_goals
    go_wp2_with (first|((with_reducible refine Zaq 35 ?_);refine Zae rfl 35 #[] rfl _ (fun w=>ZaX w) ?_;intro v hv)|((with_reducible refine Zaf 35 ?_);refine SB (B2.out.kept bt) w (ZT Aa.out bt) ?_;intro w9 hby hyb hot;have HR:=hid hby;have Ka:=hid hyb;have Na:=hid hot;clear hby hyb hot;have Ub:=hid (UnX.putq (w0:=w0) Na.out (B2.out.kept bt) (by decide));have Ce:Hid (∀ ua uc us,UnX w0 V ua uc us->UnX w0 w9 ua uc us):=fun _ _ _ hu=>Ub.out _ _ _ (hu.kept bt))|fail)
   all_goals
    ((try simp only[Exit.inBlock,Exit.then]);refine rb2 HR.out ?_;first|exact TyR.bad (by rw[HZ.out];simp_all) (by rw[Jc.out,HZ.out];simp_all) Fh Ka.out|exact TyR.good (by rw[HZ.out];simp_all) (by rw[Jc.out,HZ.out];simp_all) rfl (Ce.out _ _ _ HU2.out) Ka.out)
 · subst hq
   have HZ:Hid (z=(b9)):=Vd.out
   have Jc:Hid (t=((if z=true then g1 else Ta.zero))):=Hc.out
   have Pe:ts.length=2:=hn
   obtain⟨A0,A1,hts⟩:∃ A0 A1,ts=[A0,A1]:=by
    match ts,Pe with
    |[y0,y1],_=>exact⟨y0,y1,rfl⟩
   subst hts
   obtain rfl:g0=A0:=Ih
   obtain rfl:g1=A1:=He
   obtain⟨rs,hrl,hrs,hun⟩:=HT.out
   have Nd:rs.length=2:=hrl
   obtain⟨t0,t1,rfl⟩:∃ t0 t1,rs=[t0,t1]:=by
    match rs,Nd with
    |[y0,y1],_=>exact⟨y0,y1,rfl⟩
   obtain⟨b1,o1,rfl,hr⟩:=hrs.some (by simp)
   have Vg:=hun 0 _ _ rfl rfl
   obtain⟨k0,ua0,un0,uc0,oo0⟩:=t0
   dsimp only at Vg
   obtain⟨e1,e2,e3,Ec⟩:=Vg
   subst e1 e2 e3
   have Il:Hid (UnX w0 V ua0 uc0 g0.us):=Ec.kept Aa.out
   clear Ec
   have Lj:=hun 1 _ _ rfl rfl
   obtain⟨k1,ua1,un1,uc1,oo1⟩:=t1
   dsimp only at Lj
   obtain⟨e1,e2,e3,Ff⟩:=Lj
   subst e1 e2 e3
   have Bo:Hid (UnX w0 V ua1 uc1 g1.us):=Ff.kept Aa.out
   clear Ff
   have HC:Hid (∀ w',Below V.heap.size V w'->w'.cell? ⟨b1,o1,none⟩=some (.int .i64 g0.k)/\w'.cell? ⟨b1,o1+1,none⟩=some (.slice ua0 g0.us.length uc0)/\w'.cell? ⟨b1,o1+2,none⟩=some (.string g0.o)/\w'.cell? ⟨b1,o1+3,none⟩=some (.int .i64 g1.k)/\w'.cell? ⟨b1,o1+4,none⟩=some (.slice ua1 g1.us.length uc1)/\w'.cell? ⟨b1,o1+5,none⟩=some (.string g1.o)):=fun w' h=>⟨Zaa (Zaa (by simpa using hr 0 _ rfl 0 _ rfl) Aa.out) h,Zaa (Zaa (by simpa using hr 0 _ rfl 1 _ rfl) Aa.out) h,Zaa (Zaa (by simpa using hr 0 _ rfl 2 _ rfl) Aa.out) h,Zaa (Zaa (by simpa using hr 1 _ rfl 0 _ rfl) Aa.out) h,Zaa (Zaa (by simpa using hr 1 _ rfl 1 _ rfl) Aa.out) h,Zaa (Zaa (by simpa using hr 1 _ rfl 2 _ rfl) Aa.out) h⟩
   have Tg:Hid (∀ w',Bx w V (w.heap.size+1+1) w'->w'.cell? ⟨b1,o1,none⟩=some (.int .i64 g0.k)/\w'.cell? ⟨b1,o1+1,none⟩=some (.slice ua0 g0.us.length uc0)/\w'.cell? ⟨b1,o1+2,none⟩=some (.string g0.o)/\w'.cell? ⟨b1,o1+3,none⟩=some (.int .i64 g1.k)/\w'.cell? ⟨b1,o1+4,none⟩=some (.slice ua1 g1.us.length uc1)/\w'.cell? ⟨b1,o1+5,none⟩=some (.string g1.o)):=fun w' h=>⟨Zaa (by simpa using hr 0 _ rfl 0 _ rfl) h.old,Zaa (by simpa using hr 0 _ rfl 1 _ rfl) h.old,Zaa (by simpa using hr 0 _ rfl 2 _ rfl) h.old,Zaa (by simpa using hr 1 _ rfl 0 _ rfl) h.old,Zaa (by simpa using hr 1 _ rfl 1 _ rfl) h.old,Zaa (by simpa using hr 1 _ rfl 2 _ rfl) h.old⟩
   clear hr hrs hun hrl Nd
   obtain⟨c0,c1,c2,c3,c4,c5⟩:=HC.out V (ZR V)
   clear hn hk Vd Hc
   go_upto_region 26 with(first|((with_reducible refine Zaq 35 ?_);refine Zae rfl 35 #[] rfl _ (fun w=>ZaX w) ?_;intro v hv)|((with_reducible refine Zaf 35 ?_);refine SB (B2.out.kept bt) w (ZT Aa.out bt) ?_;intro w9 hby hyb hot;have HR:=hid hby;have Ka:=hid hyb;have Na:=hid hot;clear hby hyb hot;have Ub:=hid (UnX.putq (w0:=w0) Na.out (B2.out.kept bt) (by decide));have Ce:Hid (∀ ua uc us,UnX w0 V ua uc us->UnX w0 w9 ua uc us):=fun _ _ _ hu=>Ub.out _ _ _ (hu.kept bt))|fail)
   all_goals first
    |((try simp only[Exit.inBlock,Exit.then]);refine rb2 HR.out ?_;exact TyR.bad (by rw[HZ.out];simp_all) (by rw[Jc.out,HZ.out];simp_all) (by decide) Ka.out)
    |skip
   refine Zbg (S:=fun w'=>Bx w V (w.heap.size+1+1) w') [true,true,true,true,true,true,true,true,true,false,true] (by kernel_rfl) (by kernel_rfl) (fun _ _ _ _ _ h=>h) (by kernel_rfl) rfl (Bx.of Aa.out (ZD (ZR V))) ?_
   have Ca:=fun wq (hSw:(fun w'=>Bx w V (w.heap.size+1+1) w') wq)=>And.intro (Ag.out wq hSw) (Tg.out wq hSw)
   refine mk Ca (.slice (some ⟨b1,o1,none⟩) 2 lc) ?_
   refine mk Ca (.int .i64 1) ?_
   refine mk Ca (.int .i64 0) ?_
   refine mk Ca (.pointer (some ⟨b1,o1,none⟩)) ?_
   refine mk Ca (.agg #[.int .i64 g0.k,.slice ua0 g0.us.length uc0,.string g0.o]) ?_
   refine mk Ca (.slice (some ⟨b1,o1,none⟩) 2 lc) ?_
   refine mk Ca (.int .i64 1) ?_
   refine mk Ca (.pointer (some ⟨b1,o1+3,none⟩)) ?_
   refine mk Ca (.agg #[.int .i64 g1.k,.slice ua1 g1.us.length uc1,.string g1.o]) ?_
   refine Zbm (by rfl) (fun K hK=>?_)
   go_wp2_with (go_at_call 192;refine(H9.out _ _ _ _ _ ((Il.out.kept bt).is (Ga.out.trans (Below.mono bt Ga.out.size))) ((Bo.out.kept bt).is (Ga.out.trans (Below.mono bt Ga.out.size)))).mono ?_;rintro e w5 ⟨n5,rfl,Ea,Fa,hb⟩;have Jb:=hid Ea;have Dc:=hid Fa;have Db:Hid (Below V.heap.size V w5):=ZT bt hb;clear hb Ea Fa)
   refine hk hK (Bx.of Aa.out Db.out) ?_
   clear hK K
   refine mk Ca (.int .i64 n5) ?_
   refine Zbv ?_
   have KK:=HS.out _ Db.out
   have TQ:=HC.out _ Db.out
   obtain⟨c0,c1,c2,c3,c4,c5⟩:=TQ
   rcases retz Jb.out Dc.out with⟨hbz,rfl⟩|⟨hbz,Fh⟩
   all_goals
    go_wp2_with (first|((with_reducible refine Zaq 35 ?_);refine Zae rfl 35 #[] rfl _ (fun w=>ZaX w) ?_;intro v hv)|((with_reducible refine Zaf 35 ?_);refine SB (B2.out.kept bt) w (ZT Aa.out bt) ?_;intro w9 hby hyb hot;have HR:=hid hby;have Ka:=hid hyb;have Na:=hid hot;clear hby hyb hot;have Ub:=hid (UnX.putq (w0:=w0) Na.out (B2.out.kept bt) (by decide));have Ce:Hid (∀ ua uc us,UnX w0 V ua uc us->UnX w0 w9 ua uc us):=fun _ _ _ hu=>Ub.out _ _ _ (hu.kept bt))|fail)
   all_goals
    ((try simp only[Exit.inBlock,Exit.then]);refine rb2 HR.out ?_;first|exact TyR.bad (by rw[HZ.out];simp_all) (by rw[Jc.out,HZ.out];simp_all) Fh Ka.out|exact TyR.good (by rw[HZ.out];simp_all) (by rw[Jc.out,HZ.out];simp_all) rfl (Ce.out _ _ _ Bo.out) Ka.out)
end Go.Proofs.YtfnpfkgmacaboaaGreat
