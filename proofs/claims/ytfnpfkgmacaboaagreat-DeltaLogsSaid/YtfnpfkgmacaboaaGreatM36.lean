/- Texts joined by a program. -/
import Derived.Test.YtfnpfkgmacaboaaGreatM33
namespace Go.Proofs.YtfnpfkgmacaboaaGreat
open Go.Proofs.Tryz
open Lib (hid)
open Go.ChangeShapes Go.WideShapes Go.ChangeAt Go.RowKit
set_option linter.unusedVariables false
set_option linter.unusedSimpArgs false
set_option maxRecDepth 100000
set_option maxHeartbeats 4000000
theorem enforce_any (c:Ct)(nm:ByteArray)(w w0:World)(Oa:Below w0.heap.size w0 w)(B:Nat)(hB:B<=1000)(h:c.Ok w0 B w):Calls prog 166 #[c.val,.string nm] w (CatSame c w0 (B+2) w):=by
 obtain⟨ta,tn,tc,fa,fn,fc,da,dn,dc,qa,qn,qc⟩:=c
 have hB2:B<=100000:=by omega
 dsimp only[Ct.val]
 go_enter func166,ntmps166
 go_upto_region 1 with fail
 refine Zan (fun V hV=>?_)
 have Ba:Hid (Cs w0 w B w.heap.size (w.heap.size+1) ⟨ta,tn,tc,fa,fn,fc,da,dn,dc,qa,qn,qc⟩ V):=by
  have hb:Below w.heap.size w V:=by rw[hV];exact bt
  exact⟨by rw[hV];exact ZcH ..,by rw[hV];exact ZcG ..,h.kept hb,hb,Oa,Nat.le_refl _,by omega,by omega⟩
 clear hV h
 have qq:=Ba.out.q
 obtain⟨q0,q1,q2,q3⟩:=qq
 go_upto_region 4 with(first|(go_at_call 183;refine(Zcp _ _ _ _ B hB2 _ (Ba.out.ok.d.lies.at Ba.out.wz)).mono ?_;intro e w5 hp;obtain⟨hp,hb⟩:=hp.two;have Ba:=hid (Ba.out.kept hb);clear hb;have qq:=Ba.out.q;obtain⟨q0,q1,q2,q3⟩:=qq;(rcases hp with rfl|⟨k5,Rd,rfl⟩))|((with_reducible refine Zaq 118 ?_);refine Zae rfl 118 #[] rfl Ct.zero.cells (fun w=>Zcg w) ?_;intro v hv;obtain rfl:=hv.out)|((with_reducible refine Zaf 118 ?_);refine Zao rfl _ _ rfl rfl Ba.out Ct.zero rfl rfl (Ct.zero_ok _ B _) ?_;intro w9 hR hotr;have HR:=hid hR;have Na:=hid hotr;clear hR hotr)|fail)
 · (try simp only[Exit.inBlock,Exit.then]);refine rb2 HR.out.box ?_
   exact⟨_,_,rfl,HR.out.ok.mono (by omega),(fun e=>by first|exact⟨rfl,rfl,rfl⟩|cases e|(exfalso;omega)),HR.out.below⟩
 obtain⟨x1,b1,o1,rfl,hx,hc⟩:=Ba.out.ok.d.elem Rd
 have Ra:=hid hx
 have Zn:=hid hc
 clear hx hc
 have qq:=Ba.out.q
 obtain⟨q0,q1,q2,q3⟩:=qq
 go_upto_region 7 with(first|((with_reducible refine Zah 44 ?_);refine LV b1 (o1+k5*18) (Ft.cells x1) (Zn.out _ (ZR _)) ?_)|((with_reducible refine ZaK 44 ?_);refine ZaA rfl rfl 44 _ _ rfl rfl rfl (Ft.cells x1) rfl rfl (by kernel_rfl) (by rfl) ?_;intro g7 w8 hbx Re hb;have Uv:w.heap.size+1<g7:=(by(have:=Ba.out.res.lt;omega));have Ha:=hid hbx;clear Re hbx;have Ba:=hid (Ba.out.kept hb);clear hb;have qq:=Ba.out.q;obtain⟨q0,q1,q2,q3⟩:=qq)|(go_at_call 186;refine(ZbW _ _ _ k5 Rd w0 _ (by omega) _ Ba.out.ok.d).mono ?_;rintro e w5 ⟨a5,n5,c5,rfl,h5,hb⟩;have H5:=hid h5;clear h5;have Ba:=hid (Ba.out.kept hb);have Ha:=hid (Ha.out.kept hb);clear hb;have qq:=Ba.out.q;obtain⟨q0,q1,q2,q3⟩:=qq)|((with_reducible refine Zaf 116 ?_);refine Zbo rfl 116 (by kernel_rfl) _ _ rfl rfl Ba.out 2 (by decide) (.slice a5 n5 c5) rfl rfl rfl rfl ⟨ta,tn,tc,fa,fn,fc,a5,n5,c5,qa,qn,qc⟩ rfl ⟨Ba.out.ok.t,Ba.out.ok.f,H5.out,Ba.out.ok.q⟩ ?_;intro w6 hst hot;have Ba:=hid hst;have Ha:=hid (Ha.out.aside hot (by omega));clear hst hot;have qq:=Ba.out.q;obtain⟨q0,q1,q2,q3⟩:=qq)|(go_at_call 183;refine(Zcp _ _ _ _ B hB2 _ (Ba.out.ok.f.lies.at Ba.out.wz)).mono ?_;intro e w5 hp;obtain⟨hp,hb⟩:=hp.two;have Ba:=hid (Ba.out.kept hb);have Ha:=hid (Ha.out.kept hb);clear hb;have qq:=Ba.out.q;obtain⟨q0,q1,q2,q3⟩:=qq;(rcases hp with rfl|⟨k8,Ci,rfl⟩))|fail)
 · go_wp2_with (first|((with_reducible refine Zah 44 ?_);refine LB (L:=(Ft.cells x1)) Ha.out ?_)|(go_at_call 185;refine(ZbQ _ _ _ x1 w0 _ (by omega) _ Ba.out.ok.f Ra.out).mono ?_;rintro e w5 ⟨a10,n10,c10,rfl,h5,hb⟩;have Gu:=hid h5;clear h5;have Ba:=hid (Ba.out.kept hb);have Ha:=hid (Ha.out.kept hb);clear hb;have qq:=Ba.out.q;obtain⟨q0,q1,q2,q3⟩:=qq)|((with_reducible refine Zaf 116 ?_);refine Zbo rfl 116 (by kernel_rfl) _ _ rfl rfl Ba.out 1 (by decide) (.slice a10 n10 c10) rfl rfl rfl rfl ⟨ta,tn,tc,a10,n10,c10,a5,n5,c5,qa,qn,qc⟩ rfl ⟨(Ba.out.ok.mono (Nat.le_succ _)).t,Gu.out,(Ba.out.ok.mono (Nat.le_succ _)).d,(Ba.out.ok.mono (Nat.le_succ _)).q⟩ ?_;intro w6 hst hot;have Ba:=hid hst;have Ha:=hid (Ha.out.aside hot (by omega));clear hst hot;have qq:=Ba.out.q;obtain⟨q0,q1,q2,q3⟩:=qq)|((with_reducible refine Zah 118 ?_);refine LB Ba.out.box ?_)|((with_reducible refine Zaf 118 ?_);refine Zao rfl _ _ rfl rfl Ba.out _ rfl rfl Ba.out.ok ?_;intro w9 hR hotr;have HR:=hid hR;have Na:=hid hotr;clear hR hotr)|fail)
   (try simp only[Exit.inBlock,Exit.then]);refine rb2 HR.out.box ?_
   exact⟨_,_,rfl,HR.out.ok.mono (by omega),(fun e=>by first|exact⟨rfl,rfl,rfl⟩|cases e|(exfalso;omega)),HR.out.below⟩
 · obtain⟨x2,b2,o2,rfl,hx,hc⟩:=Ba.out.ok.f.elem Ci
   have Ia:=hid hx
   have Oj:=hid hc
   clear hx hc
   have qq:=Ba.out.q
   obtain⟨q0,q1,q2,q3⟩:=qq
   go_upto_region 8 with fail
   refine Zbd (S:=fun w'=>Below w5.heap.size w5 w') 9 (.free 0 (.free 1 (.free 2 (.free 3 (.free 4 (.free 5 (.free 6 (.one 7 (.free 8 (.one 9 .done)))))))))) (by kernel_rfl) (by kernel_rfl) (fun _ _ _ _ _ h=>h) (by kernel_rfl) (by kernel_rfl) (ZD (ZR _)) (fun hSS=>?_)
   have Ca:=fun wq (hSw:(fun w'=>Below w5.heap.size w5 w') wq)=>(Ba.out.kept hSw).q
   refine zk (hSS) Ca (.pointer (some ⟨w.heap.size,3,none⟩)) ?_
   refine zk (hSS) Ca (.slice qa qn qc) ?_
   refine zk (hSS) Ca (.pointer (some ⟨w.heap.size,1,none⟩)) ?_
   refine zk (hSS) Ca (.slice (some ⟨b2,o2,none⟩) fn fc) ?_
   refine zk (hSS) Ca (.int .i64 k8) ?_
   refine zk (hSS) Ca (.pointer (some ⟨b2,o2+k8*18,none⟩)) ?_
   refine ZdF (hSS) _ rfl (by rfl) 44 _ rfl b2 (o2+k8*18) (Ft.cells x2) rfl (fun w hS=>Oj.out w hS) _ underlying44 rfl (by kernel_rfl) ?_
   intro v6 Lv
   subst Lv
   try simp only[Act.put,m1,m2,m3]
   refine Zbp _ rfl (by rfl) (fun K hK=>?_)
   go_wp2_with (go_at_call 185;refine(ZbQ _ _ _ x2 w0 _ (by omega) _ (Ba.out.kept (ZD (ZR _))).ok.q Ia.out).mono ?_;rintro e w8 ⟨a8,n8,c8,rfl,h5,hb⟩;have H8:=hid h5;have Ve:Hid (Below w5.heap.size w5 w8):=ZT (ZD (ZR _)) hb;clear h5 hb)
   refine hK.out _ _ (fun _=>Ve.out) ?_
   clear hK K
   try simp only[Act.put,m1,m2,m3]
   refine zk (Ve.out) Ca (.pointer (some ⟨w.heap.size,3,none⟩)) ?_
   refine Zbp _ rfl (by rfl) (fun K hK=>?_)
   refine Zfb 116 (by kernel_rfl) _ _ rfl rfl (Ba.out.kept Ve.out) 3 (by decide) (.slice a8 n8 c8) rfl rfl rfl rfl ⟨ta,tn,tc,some ⟨b2,o2,none⟩,fn,fc,a5,n5,c5,a8,n8,c8⟩ rfl ⟨((Ba.out.kept Ve.out).ok.mono (Nat.le_succ _)).t,((Ba.out.kept Ve.out).ok.mono (Nat.le_succ _)).f,((Ba.out.kept Ve.out).ok.mono (Nat.le_succ _)).d,H8.out⟩ ?_
   intro w6 hst hot
   have Ba:=hid hst
   have Ha:=hid ((Ha.out.kept Ve.out).aside hot (by omega))
   refine hK.out _ _ (fun e=>absurd rfl e) ?_
   clear hK K hst hot
   have qq:=Ba.out.q
   obtain⟨q0,q1,q2,q3⟩:=qq
   try simp only[Act.put,m1,m2,m3]
   refine ZdG ?_
   go_wp2_with (first|(go_at_call 186;refine(ZbW _ _ _ k8 Ci w0 _ (by omega) _ Ba.out.ok.f).mono ?_;rintro e w5 ⟨a9,n9,c9,rfl,h5,hb⟩;have H9:=hid h5;clear h5;have Ba:=hid (Ba.out.kept hb);have Ha:=hid (Ha.out.kept hb);clear hb;have qq:=Ba.out.q;obtain⟨q0,q1,q2,q3⟩:=qq)|((with_reducible refine Zaf 116 ?_);refine Zbo rfl 116 (by kernel_rfl) _ _ rfl rfl Ba.out 1 (by decide) (.slice a9 n9 c9) rfl rfl rfl rfl ⟨ta,tn,tc,a9,n9,c9,a5,n5,c5,a8,n8,c8⟩ rfl ⟨Ba.out.ok.t,H9.out,Ba.out.ok.d,Ba.out.ok.q⟩ ?_;intro w6 hst hot;have Ba:=hid hst;have Ha:=hid (Ha.out.aside hot (by omega));clear hst hot;have qq:=Ba.out.q;obtain⟨q0,q1,q2,q3⟩:=qq)|((with_reducible refine Zah 44 ?_);refine LB (L:=(Ft.cells x1)) Ha.out ?_)|(go_at_call 185;refine(ZbQ _ _ _ x1 w0 _ (by omega) _ Ba.out.ok.f Ra.out).mono ?_;rintro e w5 ⟨a10,n10,c10,rfl,h5,hb⟩;have Gu:=hid h5;clear h5;have Ba:=hid (Ba.out.kept hb);have Ha:=hid (Ha.out.kept hb);clear hb;have qq:=Ba.out.q;obtain⟨q0,q1,q2,q3⟩:=qq)|((with_reducible refine Zaf 116 ?_);refine Zbo rfl 116 (by kernel_rfl) _ _ rfl rfl Ba.out 1 (by decide) (.slice a10 n10 c10) rfl rfl rfl rfl ⟨ta,tn,tc,a10,n10,c10,a5,n5,c5,a8,n8,c8⟩ rfl ⟨(Ba.out.ok.mono (Nat.le_succ _)).t,Gu.out,(Ba.out.ok.mono (Nat.le_succ _)).d,(Ba.out.ok.mono (Nat.le_succ _)).q⟩ ?_;intro w6 hst hot;have Ba:=hid hst;have Ha:=hid (Ha.out.aside hot (by omega));clear hst hot;have qq:=Ba.out.q;obtain⟨q0,q1,q2,q3⟩:=qq)|((with_reducible refine Zah 118 ?_);refine LB Ba.out.box ?_)|((with_reducible refine Zaf 118 ?_);refine Zao rfl _ _ rfl rfl Ba.out _ rfl rfl Ba.out.ok ?_;intro w9 hR hotr;have HR:=hid hR;have Na:=hid hotr;clear hR hotr)|fail)
   (try simp only[Exit.inBlock,Exit.then]);refine rb2 HR.out.box ?_
   exact⟨_,_,rfl,HR.out.ok.mono (by omega),(fun e=>by first|exact⟨rfl,rfl,rfl⟩|cases e|(exfalso;omega)),HR.out.below⟩
theorem rollback_any (c:Ct)(nm:ByteArray)(w w0:World)(Oa:Below w0.heap.size w0 w)(B:Nat)(hB:B<=1000)(h:c.Ok w0 B w):Calls prog 167 #[c.val,.string nm] w (CatSame c w0 (B+2) w):=by
 obtain⟨ta,tn,tc,fa,fn,fc,da,dn,dc,qa,qn,qc⟩:=c
 have hB2:B<=100000:=by omega
 dsimp only[Ct.val]
 go_enter func167,ntmps167
 go_upto_region 1 with fail
 refine Zan (fun V hV=>?_)
 have Ba:Hid (Cs w0 w B w.heap.size (w.heap.size+1) ⟨ta,tn,tc,fa,fn,fc,da,dn,dc,qa,qn,qc⟩ V):=by
  have hb:Below w.heap.size w V:=by rw[hV];exact bt
  exact⟨by rw[hV];exact ZcH ..,by rw[hV];exact ZcG ..,h.kept hb,hb,Oa,Nat.le_refl _,by omega,by omega⟩
 clear hV h
 have qq:=Ba.out.q
 obtain⟨q0,q1,q2,q3⟩:=qq
 go_upto_region 4 with(first|(go_at_call 183;refine(Zcp _ _ _ _ B hB2 _ (Ba.out.ok.f.lies.at Ba.out.wz)).mono ?_;intro e w5 hp;obtain⟨hp,hb⟩:=hp.two;have Ba:=hid (Ba.out.kept hb);clear hb;have qq:=Ba.out.q;obtain⟨q0,q1,q2,q3⟩:=qq;(rcases hp with rfl|⟨k5,Rd,rfl⟩))|((with_reducible refine Zaq 118 ?_);refine Zae rfl 118 #[] rfl Ct.zero.cells (fun w=>Zcg w) ?_;intro v hv;obtain rfl:=hv.out)|((with_reducible refine Zaf 118 ?_);refine Zao rfl _ _ rfl rfl Ba.out Ct.zero rfl rfl (Ct.zero_ok _ B _) ?_;intro w9 hR hotr;have HR:=hid hR;have Na:=hid hotr;clear hR hotr)|fail)
 · (try simp only[Exit.inBlock,Exit.then]);refine rb2 HR.out.box ?_
   exact⟨_,_,rfl,HR.out.ok.mono (by omega),(fun e=>by first|exact⟨rfl,rfl,rfl⟩|cases e|(exfalso;omega)),HR.out.below⟩
 go_upto_region 7 with(first|(go_at_call 187;refine(last_any _ _ _ _ B hB2 _ (Ba.out.ok.q.lies.at Ba.out.wz)).mono ?_;intro e w5 hp;obtain⟨hp,hb⟩:=hp.two;have Ba:=hid (Ba.out.kept hb);clear hb;have qq:=Ba.out.q;obtain⟨q0,q1,q2,q3⟩:=qq;(rcases hp with rfl|⟨k6,hk6,rfl⟩))|(go_at_call 183;refine(Zcp _ _ _ _ B hB2 _ (Ba.out.ok.d.lies.at Ba.out.wz)).mono ?_;intro e w5 hp;obtain⟨hp,hb⟩:=hp.two;have Ba:=hid (Ba.out.kept hb);clear hb;have qq:=Ba.out.q;obtain⟨q0,q1,q2,q3⟩:=qq;(rcases hp with rfl|⟨kd,hkd,rfl⟩))|((with_reducible refine Zaq 118 ?_);refine Zae rfl 118 #[] rfl Ct.zero.cells (fun w=>Zcg w) ?_;intro v hv;obtain rfl:=hv.out)|((with_reducible refine Zaf 118 ?_);refine Zao rfl _ _ rfl rfl Ba.out Ct.zero rfl rfl (Ct.zero_ok _ B _) ?_;intro w9 hR hotr;have HR:=hid hR;have Na:=hid hotr;clear hR hotr)|fail)
 all_goals first
  |((try simp only[Exit.inBlock,Exit.then]);refine rb2 HR.out.box ?_;exact⟨_,_,rfl,HR.out.ok.mono (by omega),(fun e=>by first|exact⟨rfl,rfl,rfl⟩|cases e|(exfalso;omega)),HR.out.below⟩)
  |skip
 obtain⟨x1,b1,o1,rfl,hx,hc⟩:=Ba.out.ok.q.elem hk6
 have Ra:=hid hx
 have Zn:=hid hc
 clear hx hc
 have qq:=Ba.out.q
 obtain⟨q0,q1,q2,q3⟩:=qq
 go_upto_region 8 with(first|((with_reducible refine Zah 44 ?_);refine LV b1 (o1+k6*18) (Ft.cells x1) (Zn.out _ (ZR _)) ?_)|((with_reducible refine ZaK 44 ?_);refine ZaA rfl rfl 44 _ _ rfl rfl rfl (Ft.cells x1) rfl rfl (by kernel_rfl) (by rfl) ?_;intro g7 w8 hbx Re hb;have Uv:w.heap.size+1<g7:=(by(have:=Ba.out.res.lt;omega));have Ha:=hid hbx;clear Re hbx;have Ba:=hid (Ba.out.kept hb);clear hb;have qq:=Ba.out.q;obtain⟨q0,q1,q2,q3⟩:=qq)|fail)
 obtain⟨x2,b2,o2,rfl,hx,hc⟩:=Ba.out.ok.f.elem Rd
 have Ia:=hid hx
 have Oj:=hid hc
 clear hx hc
 have qq:=Ba.out.q
 obtain⟨q0,q1,q2,q3⟩:=qq
 refine Zbd (S:=fun w'=>Below w8.heap.size w8 w') 9 (.free 0 (.free 1 (.free 2 (.free 3 (.free 4 (.free 5 (.free 6 (.one 7 (.free 8 (.one 9 .done)))))))))) (by kernel_rfl) (by kernel_rfl) (fun _ _ _ _ _ h=>h) (by kernel_rfl) (by kernel_rfl) (ZD (ZR _)) (fun hSS=>?_)
 have Ca:=fun wq (hSw:(fun w'=>Below w8.heap.size w8 w') wq)=>(Ba.out.kept hSw).q
 refine zk (hSS) Ca (.pointer (some ⟨w.heap.size,2,none⟩)) ?_
 refine zk (hSS) Ca (.slice da dn dc) ?_
 refine zk (hSS) Ca (.pointer (some ⟨w.heap.size,1,none⟩)) ?_
 refine zk (hSS) Ca (.slice (some ⟨b2,o2,none⟩) fn fc) ?_
 refine zk (hSS) Ca (.int .i64 k5) ?_
 refine zk (hSS) Ca (.pointer (some ⟨b2,o2+k5*18,none⟩)) ?_
 refine ZdF (hSS) _ rfl (by rfl) 44 _ rfl b2 (o2+k5*18) (Ft.cells x2) rfl (fun w hS=>Oj.out w hS) _ underlying44 rfl (by kernel_rfl) ?_
 intro v6 Lv
 subst Lv
 try simp only[Act.put,m1,m2,m3]
 refine Zbp _ rfl (by rfl) (fun K hK=>?_)
 go_wp2_with (go_at_call 185;refine(ZbQ _ _ _ x2 w0 _ (by omega) _ (Ba.out.kept (ZD (ZR _))).ok.d Ia.out).mono ?_;rintro e w12 ⟨a12,n12,c12,rfl,h5,hb⟩;have H12:=hid h5;have Ve:Hid (Below w8.heap.size w8 w12):=ZT (ZD (ZR _)) hb;clear h5 hb)
 refine hK.out _ _ (fun _=>Ve.out) ?_
 clear hK K
 try simp only[Act.put,m1,m2,m3]
 refine zk (Ve.out) Ca (.pointer (some ⟨w.heap.size,2,none⟩)) ?_
 refine Zbp _ rfl (by rfl) (fun K hK=>?_)
 refine Zfb 116 (by kernel_rfl) _ _ rfl rfl (Ba.out.kept Ve.out) 2 (by decide) (.slice a12 n12 c12) rfl rfl rfl rfl ⟨ta,tn,tc,some ⟨b2,o2,none⟩,fn,fc,a12,n12,c12,some ⟨b1,o1,none⟩,qn,qc⟩ rfl ⟨((Ba.out.kept Ve.out).ok.mono (Nat.le_succ _)).t,((Ba.out.kept Ve.out).ok.mono (Nat.le_succ _)).f,H12.out,((Ba.out.kept Ve.out).ok.mono (Nat.le_succ _)).q⟩ ?_
 intro w6 hst hot
 have Ba:=hid hst
 have Ha:=hid ((Ha.out.kept Ve.out).aside hot (by omega))
 refine hK.out _ _ (fun e=>absurd rfl e) ?_
 clear hK K hst hot
 have qq:=Ba.out.q
 obtain⟨q0,q1,q2,q3⟩:=qq
 try simp only[Act.put,m1,m2,m3]
 refine ZdG ?_
 go_upto_region 9 with fail
 refine Zbd (S:=fun w'=>Below w6.heap.size w6 w') 7 (.free 0 (.free 1 (.free 2 (.free 4 (.one 3 (.one 5 (.free 6 (.one 7 .done)))))))) (by kernel_rfl) (by kernel_rfl) (fun _ _ _ _ _ h=>h) (by kernel_rfl) (by kernel_rfl) (ZD (ZR _)) (fun hSS=>?_)
 have Ca:=fun wq (hSw:(fun w'=>Below w6.heap.size w6 w') wq)=>(Ba.out.kept hSw).q
 refine zk (hSS) Ca (.pointer (some ⟨w.heap.size,1,none⟩)) ?_
 refine zk (hSS) Ca (.slice (some ⟨b2,o2,none⟩) fn fc) ?_
 refine zk (hSS) Ca (.int .i64 k5) ?_
 refine ZdF (hSS) _ rfl (by rfl) 44 _ rfl g7 0 (Ft.cells x1) rfl (fun w hS j v hj=>by rw[Nat.zero_add];exact(Ha.out.kept hS).cell j v (by rw[List.getElem?_toArray];exact hj)) _ underlying44 rfl (by kernel_rfl) ?_
 intro v4 hv4
 subst hv4
 try simp only[Act.put,m1,m2,m3]
 refine Zbp _ rfl (by rfl) (fun K hK=>?_)
 go_wp2_with (go_at_call 186;refine(ZbW _ _ _ k5 Rd w0 _ (by omega) _ (Ba.out.kept (ZD (ZR _))).ok.f).mono ?_;rintro e w9 ⟨a9,n9,c9,rfl,h5,hb⟩;have H9:=hid h5;have Eb:Hid (Below w6.heap.size w6 w9):=ZT (ZD (ZR _)) hb;clear h5 hb)
 refine hK.out _ _ (fun _=>Eb.out) ?_
 clear hK K
 try simp only[Act.put,m1,m2,m3]
 refine Zbp _ rfl (by rfl) (fun K hK=>?_)
 go_wp2_with (go_at_call 185;refine(ZbQ _ _ _ x1 w0 _ (by omega) _ H9.out Ra.out).mono ?_;rintro e w10 ⟨a10,n10,c10,rfl,h5,hb⟩;have Gu:=hid h5;have De:Hid (Below w6.heap.size w6 w10):=ZT Eb.out hb;clear h5 hb)
 refine hK.out _ _ (fun _=>De.out) ?_
 clear hK K
 try simp only[Act.put,m1,m2,m3]
 refine zk (De.out) Ca (.pointer (some ⟨w.heap.size,1,none⟩)) ?_
 refine Zbp _ rfl (by rfl) (fun K hK=>?_)
 refine Zfb 116 (by kernel_rfl) _ _ rfl rfl (Ba.out.kept De.out) 1 (by decide) (.slice a10 n10 c10) rfl rfl rfl rfl ⟨ta,tn,tc,a10,n10,c10,a12,n12,c12,some ⟨b1,o1,none⟩,qn,qc⟩ rfl ⟨((Ba.out.kept De.out).ok.mono (Nat.le_succ _)).t,Gu.out,((Ba.out.kept De.out).ok.mono (Nat.le_succ _)).d,((Ba.out.kept De.out).ok.mono (Nat.le_succ _)).q⟩ ?_
 intro w6 hst hot
 have Ba:=hid hst
 have Ha:=hid ((Ha.out.kept De.out).aside hot (by omega))
 refine hK.out _ _ (fun e=>absurd rfl e) ?_
 clear hK K hst hot
 have qq:=Ba.out.q
 obtain⟨q0,q1,q2,q3⟩:=qq
 try simp only[Act.put,m1,m2,m3]
 refine ZdG ?_
 go_wp2_with (first|(go_at_call 186;refine(ZbW _ _ _ k6 hk6 w0 _ (by omega) _ Ba.out.ok.q).mono ?_;rintro e w5 ⟨a11,n11,c11,rfl,h5,hb⟩;have H11:=hid h5;clear h5;have Ba:=hid (Ba.out.kept hb);have Ha:=hid (Ha.out.kept hb);clear hb;have qq:=Ba.out.q;obtain⟨q0,q1,q2,q3⟩:=qq)|((with_reducible refine Zaf 116 ?_);refine Zbo rfl 116 (by kernel_rfl) _ _ rfl rfl Ba.out 3 (by decide) (.slice a11 n11 c11) rfl rfl rfl rfl ⟨ta,tn,tc,a10,n10,c10,a12,n12,c12,a11,n11,c11⟩ rfl ⟨Ba.out.ok.t,Ba.out.ok.f,Ba.out.ok.d,H11.out⟩ ?_;intro w6 hst hot;have Ba:=hid hst;have Ha:=hid (Ha.out.aside hot (by omega));clear hst hot;have qq:=Ba.out.q;obtain⟨q0,q1,q2,q3⟩:=qq)|((with_reducible refine Zah 118 ?_);refine LB Ba.out.box ?_)|((with_reducible refine Zaf 118 ?_);refine Zao rfl _ _ rfl rfl Ba.out _ rfl rfl Ba.out.ok ?_;intro w9 hR hotr;have HR:=hid hR;have Na:=hid hotr;clear hR hotr)|fail)
 (try simp only[Exit.inBlock,Exit.then]);refine rb2 HR.out.box ?_
 exact⟨_,_,rfl,HR.out.ok.mono (by omega),(fun e=>by first|exact⟨rfl,rfl,rfl⟩|cases e|(exfalso;omega)),HR.out.below⟩
theorem boxN4_0 (w:World)(c0:Array Value)(t0:TypeId)(c1:Array Value)(t1:TypeId)(c2:Array Value)(t2:TypeId)(c3:Array Value)(t3:TypeId):Box ((((w.alloc (.cells c0 t0)).alloc (.cells c1 t1)).alloc (.cells c2 t2)).alloc (.cells c3 t3)) w.heap.size c0 t0:=(Zc4 w c0 t0 c1 t1 c2 t2).kept (Zab _)
theorem boxN4_1 (w:World)(c0:Array Value)(t0:TypeId)(c1:Array Value)(t1:TypeId)(c2:Array Value)(t2:TypeId)(c3:Array Value)(t3:TypeId):Box ((((w.alloc (.cells c0 t0)).alloc (.cells c1 t1)).alloc (.cells c2 t2)).alloc (.cells c3 t3)) (w.heap.size+1) c1 t1:=(Zc3 w c0 t0 c1 t1 c2 t2).kept (Zab _)
theorem boxN4_2 (w:World)(c0:Array Value)(t0:TypeId)(c1:Array Value)(t1:TypeId)(c2:Array Value)(t2:TypeId)(c3:Array Value)(t3:TypeId):Box ((((w.alloc (.cells c0 t0)).alloc (.cells c1 t1)).alloc (.cells c2 t2)).alloc (.cells c3 t3)) (w.heap.size+1+1) c2 t2:=(Zc2 w c0 t0 c1 t1 c2 t2).kept (Zab _)
theorem boxN4_3 (w:World)(c0:Array Value)(t0:TypeId)(c1:Array Value)(t1:TypeId)(c2:Array Value)(t2:TypeId)(c3:Array Value)(t3:TypeId):Box ((((w.alloc (.cells c0 t0)).alloc (.cells c1 t1)).alloc (.cells c2 t2)).alloc (.cells c3 t3)) (w.heap.size+1+1+1) c3 t3:=by
 have:=Box.new (((w.alloc (.cells c0 t0)).alloc (.cells c1 t1)).alloc (.cells c2 t2)) c3 t3
 simpa using this
theorem gen4 {P:Program}{c:Code}{Q:Exit->Act->World->Prop}{a:Act}{w:World}{c0 c1 c2 c3:Array Value}{t0 t1 t2 t3:TypeId}(h:∀ V,Hid (Box V w.heap.size c0 t0)->Hid (Box V (w.heap.size+1) c1 t1)->Hid (Box V (w.heap.size+1+1) c2 t2)->Hid (Box V (w.heap.size+1+1+1) c3 t3)->Hid (Below w.heap.size w V)->c.wp P Q a V):c.wp P Q a ((((w.alloc (.cells c0 t0)).alloc (.cells c1 t1)).alloc (.cells c2 t2)).alloc (.cells c3 t3)):=h _ (boxN4_0 ..) (boxN4_1 ..) (boxN4_2 ..) (boxN4_3 ..) (ZA (ZA (ZA (ZA (ZR _) _) _) _) _)
theorem ZaX (w:World):(Instr.build 35 (#[]:Array (Nat × Value))).run prog w=.ok (.agg #[.int .i64 0,.slice none 0 0,.string ⟨#[]⟩]) w:=by
 simp[Instr.build,Tryz.zeroValue35,underlying35,Program.fieldsOf,Instr.fill,go_sem]
theorem build44 (w:World):(Instr.build 44 (#[]:Array (Nat × Value))).run prog w=.ok (.agg #[.string ⟨#[]⟩,.string ⟨#[]⟩,.int .i64 0,.slice none 0 0,.string ⟨#[]⟩,.int .i64 0,.string ⟨#[]⟩,.string ⟨#[]⟩,.string ⟨#[]⟩,.int .i64 0,.int .i64 0,.string ⟨#[]⟩,.slice none 0 0,.int .i64 0,.int .i64 0,.int .i64 0,.slice none 0 0,.int .i64 0]) w:=by
 simp[Instr.build,Tryz.zeroValue44,underlying44,Program.fieldsOf,Instr.fill,go_sem]
theorem build242 (w:World):(Instr.build 242 (#[]:Array (Nat × Value))).run prog w=.ok (.agg #[.slice none 0 0,.slice none 0 0,.slice none 0 0,.slice none 0 0,.string ⟨#[]⟩,.string ⟨#[]⟩,.string ⟨#[]⟩,.slice none 0 0,.int .i64 0]) w:=by
 simp[Instr.build,Tryz.zeroValue242,underlying242,Program.fieldsOf,Instr.fill,go_sem]
theorem first_of {α β γ:Type}(l:List α)(p:α->Bool)(g:α->β × γ)(d:β × γ):∃ (z:β) (t:γ),(∀ (i:Nat) (x:α),l[i]?=some x->(∀ (j:Nat) (y:α),j<i->l[j]?=some y->p y=false)->p x=true->z=(g x).1/\t=(g x).2)/\((∀ (j:Nat) (y:α),l[j]?=some y->p y=false)->z=d.1/\t=d.2):=by
 by_cases h:∃ (i:Nat) (x:α),l[i]?=some x/\(∀ (j:Nat) (y:α),j<i->l[j]?=some y->p y=false)/\p x=true
 · obtain⟨i,x,h1,h2,h3⟩:=h
   refine⟨(g x).1,(g x).2,fun j y hy hj hp=>?_,fun hn=>by rw[hn i x h1]at h3;cases h3⟩
   have hij:j=i:=by
    rcases Nat.lt_trichotomy j i with e|e|e
    · have:=h2 j y e hy;rw[hp]at this;cases this
    · exact e
    · have:=hj i x e h1;rw[h3]at this;cases this
   subst hij
   rw[h1]at hy
   injection hy with hy
   subst hy
   exact⟨rfl,rfl⟩
 · exact⟨d.1,d.2,fun i x h1 h2 h3=>(h ⟨i,x,h1,h2,h3⟩).elim,fun _=>⟨rfl,rfl⟩⟩
theorem fd_units (w0:World)(fs:List Fd)(h:∀ f∈fs,ZaH w0 f.ua f.un):∃ u:Fd->List FID,∀ f,f∈fs->f.un=(u f).length/\UnIs w0 f.ua (u f):=ZbY (D:=fun f=>f∈fs) (fun f hf=>(h f hf).is)
theorem sfield_det (w0:World)(s_tfa:Option Addr)(s_tfn:Nat)(nm:ByteArray)(ha:FdsAt w0 s_tfa s_tfn):∃ (z:Bool) (t:Ta),∀ (s_cta:Option Addr) (s_ctn:Nat) (s_ctc:Nat) (s_cfa:Option Addr) (s_cfn:Nat) (s_cfc:Nat) (s_cda:Option Addr) (s_cdn:Nat) (s_cdc:Nat) (s_cqa:Option Addr) (s_cqn:Nat) (s_cqc:Nat) (s_e:ByteArray) (s_tm:ByteArray) (s_te:ByteArray) (s_tfc:Nat) (s_tp:Int) (w:World),Below w0.heap.size w0 w->Calls prog 224 #[.agg #[.slice s_cta s_ctn s_ctc,.slice s_cfa s_cfn s_cfc,.slice s_cda s_cdn s_cdc,.slice s_cqa s_cqn s_cqc,.string s_e,.string s_tm,.string s_te,.slice s_tfa s_tfn s_tfc,.int .i64 s_tp],.string nm] w (TyR z t w0 w):=by
 obtain⟨fs,rfl,hfl,hfu,hf⟩:=ha
 obtain⟨u,hu⟩:=fd_units w0 fs hfu
 obtain⟨z,t,Ea,Fa⟩:∃ (z:Bool) (t:Ta),(∀ (i:Nat) (f:Fd),fs[i]?=some f->(∀ (j:Nat) (g:Fd),j<i->fs[j]?=some g->(g.m.toList==nm.toList)=false)->(f.m.toList==nm.toList)=true->z=true/\t=⟨f.k,u f,f.o⟩)/\((∀ (j:Nat) (g:Fd),fs[j]?=some g->(g.m.toList==nm.toList)=false)->z=false/\t=Ta.zero) :=
  first_of fs (fun f=>f.m.toList==nm.toList) (fun f=>(true,(⟨f.k,u f,f.o⟩:Ta))) (false,Ta.zero)
 have HU:=hid hu
 have Jb:=hid Ea
 have Dc:=hid Fa
 clear hu Ea Fa hfu
 refine⟨z,t,fun s_cta s_ctn s_ctc s_cfa s_cfn s_cfc s_cda s_cdn s_cdc s_cqa s_cqn s_cqc s_e s_tm s_te s_tfc s_tp w Oa=>?_⟩
 have Yj:=hid hf
 have Ja:=hid Oa
 clear hf
 go_enter func224,ntmps224
 go_upto_region 1 with fail
 refine gen2 (fun V B0 B1 Aa=>?_)
 have HW:Hid (Below V.heap.size V V):=ZR V
 have HS:=hs1 B0
 simp only[Cl,Nat.reduceAdd]at HS
 have KK:=HS.out V (ZR V)
 go_wp2_with fail
 go_loop [6] (fun v=>∃ i:Nat,i<=fs.length/\v=.int .i64 i/\Hid (∀ (j:Nat) (g:Fd),j<i->fs[j]?=some g->(g.m.toList==nm.toList)=false)) (fun v=>fs.length - (intOf v).toNat)
 case atStart=>exact⟨0,by omega,rfl,hid (fun j g hj=>by omega)⟩
 case round =>
  obtain⟨i,hi,rfl,HI⟩:=hrel
  by_cases hlt:i<fs.length
  · obtain⟨f,hf⟩:∃ f,fs[i]?=some f:=⟨fs[i],List.getElem?_eq_getElem hlt⟩
    obtain⟨b1,o1,rfl,Da⟩:=(Yj.out.kept (Ja.out.trans (Aa.out.mono Ja.out.size))).some (by omega)
    obtain⟨c0,c1,c2,c3⟩:=Fd.cell Da hf
    have HF:=hid (HU.out f (List.mem_of_getElem? hf))
    have HG:Hid ((f.m.toList==nm.toList)=true->z=true/\t=⟨f.k,u f,f.o⟩):=Jb.out i f hf HI.out
    have HN:Hid ((f.m.toList==nm.toList)=false->∀ (j:Nat) (g:Fd),j<i+1->fs[j]?=some g->(g.m.toList==nm.toList)=false):=fun e j g hj hg=>by
     by_cases ej:j=i
     · subst ej;rw[hf]at hg;injection hg with hg;subst hg;exact e
     · exact HI.out j g (by omega) hg
    clear Da hf
    go_wp2_with (first|((with_reducible refine Zaf 35 ?_);refine SB (B1.out.kept bt) w (ZT Aa.out bt) ?_;intro w9 hby hyb hot;have HR:=hid hby;have Ka:=hid hyb;have Na:=hid hot;clear hby hyb hot)|fail)
    all_goals first
     |(go_round;(case rel=>exact⟨i+1,by omega,by go_num,hid (HN.out (by simp_all))⟩);(case measure=>simp[intOf];omega))
     |((try simp only[Exit.inBlock,Exit.then]);refine rb2 HR.out ?_;exact TyR.good (HG.out (by simp_all)).1 (HG.out (by simp_all)).2 HF.out.1 (Or.inl HF.out.2) Ka.out)
  · have HE:Hid (z=false/\t=Ta.zero):=Dc.out (fun j g hg=>HI.out j g (by have:=(List.getElem?_eq_some_iff.1 hg).1;omega) hg)
    go_wp2_with (first|((with_reducible refine Zaq 35 ?_);refine Zae rfl 35 #[] rfl _ (fun w=>ZaX w) ?_;intro v hv)|((with_reducible refine Zaf 35 ?_);refine SB (B1.out.kept bt) w (ZT Aa.out bt) ?_;intro w9 hby hyb hot;have HR:=hid hby;have Ka:=hid hyb;have Na:=hid hot;clear hby hyb hot)|fail)
    (try simp only[Exit.inBlock,Exit.then]);refine rb2 HR.out ?_
    exact TyR.bad HE.out.1 HE.out.2 (by decide) Ka.out
theorem ft_units (w0:World)(F:List Ft)(h:∀ f∈F,f.Ok w0):∃ u:Ft->List FID,∀ f,f∈F->f.tun=(u f).length/\UnIs w0 f.tua (u f):=ZbY (D:=fun f=>f∈F) (fun f hf=>(h f hf).1.is)
theorem Zeo (w0:World)(F:List Ft)(hl:F.length<=100000)(hok:∀ f∈F,f.Ok w0)(nm en:ByteArray):∃ (z:Bool) (t:Ta),∀ (s_cta:Option Addr) (s_ctn:Nat) (s_ctc:Nat) (s_cfa:Option Addr) (s_cfc:Nat) (s_cda:Option Addr) (s_cdn:Nat) (s_cdc:Nat) (s_cqa:Option Addr) (s_cqn:Nat) (s_cqc:Nat) (s_e:ByteArray) (s_tm:ByteArray) (s_te:ByteArray) (s_tfa:Option Addr) (s_tfn:Nat) (s_tfc:Nat) (s_tp:Int) (w:World),Below w0.heap.size w0 w->Zac Ft.cells 18 w s_cfa F->Calls prog 225 #[.agg #[.slice s_cta s_ctn s_ctc,.slice s_cfa F.length s_cfc,.slice s_cda s_cdn s_cdc,.slice s_cqa s_cqn s_cqc,.string s_e,.string s_tm,.string s_te,.slice s_tfa s_tfn s_tfc,.int .i64 s_tp],.string nm,.string en] w (TyR z t w0 w):=by
 obtain⟨u,hu⟩:=ft_units w0 F hok
 obtain⟨z,t,Ea,Fa⟩:∃ (z:Bool) (t:Ta),(∀ (i:Nat) (f:Ft),F[i]?=some f->(∀ (j:Nat) (g:Ft),j<i->F[j]?=some g->(g.m.toList==nm.toList)=false)->(f.m.toList==nm.toList)=true->z=(if (f.e.toList==en.toList)=true then(true,(⟨f.tk,u f,f.tof⟩:Ta))else(false,Ta.zero)).1/\t=(if (f.e.toList==en.toList)=true then(true,(⟨f.tk,u f,f.tof⟩:Ta))else(false,Ta.zero)).2)/\((∀ (j:Nat) (g:Ft),F[j]?=some g->(g.m.toList==nm.toList)=false)->z=false/\t=Ta.zero) :=
  first_of F (fun f=>f.m.toList==nm.toList) (fun f=>if (f.e.toList==en.toList)=true then(true,(⟨f.tk,u f,f.tof⟩:Ta))else(false,Ta.zero)) (false,Ta.zero)
 have HU:=hid hu
 have Jb:=hid Ea
 have Dc:=hid Fa
 clear hu Ea Fa hok
 refine⟨z,t,fun s_cta s_ctn s_ctc s_cfa s_cfc s_cda s_cdn s_cdc s_cqa s_cqn s_cqc s_e s_tm s_te s_tfa s_tfn s_tfc s_tp w Oa h1=>?_⟩
 have H1:=hid h1
 clear h1
 go_enter func225,ntmps225
 go_upto_region 1 with fail
 refine gen2 (fun V B0 B1 Aa=>?_)
 have HW:Hid (Below V.heap.size V V):=ZR V
 have HS:Hid (∀ w',Below V.heap.size V w'->w'.cell? ⟨w.heap.size,0,none⟩=some (.slice s_cta s_ctn s_ctc)/\w'.cell? ⟨w.heap.size,1,none⟩=some (.slice s_cfa F.length s_cfc)/\w'.cell? ⟨w.heap.size,2,none⟩=some (.slice s_cda s_cdn s_cdc)/\w'.cell? ⟨w.heap.size,3,none⟩=some (.slice s_cqa s_cqn s_cqc)/\w'.cell? ⟨w.heap.size,4,none⟩=some (.string s_e)/\w'.cell? ⟨w.heap.size,5,none⟩=some (.string s_tm)/\w'.cell? ⟨w.heap.size,6,none⟩=some (.string s_te)/\w'.cell? ⟨w.heap.size,7,none⟩=some (.slice s_tfa s_tfn s_tfc)/\w'.cell? ⟨w.heap.size,8,none⟩=some (.int .i64 s_tp)):=fun w' h=>⟨(B0.out.kept h).cell 0 _ rfl,(B0.out.kept h).cell 1 _ rfl,(B0.out.kept h).cell 2 _ rfl,(B0.out.kept h).cell 3 _ rfl,(B0.out.kept h).cell 4 _ rfl,(B0.out.kept h).cell 5 _ rfl,(B0.out.kept h).cell 6 _ rfl,(B0.out.kept h).cell 7 _ rfl,(B0.out.kept h).cell 8 _ rfl⟩
 obtain⟨Xa,Va,Ua,Rb,Vb,Dd,Cd,Bd,Ad⟩:=HS.out V (ZR V)
 go_wp2_with fail
 go_loopw [8] (fun v wr=>∃ i:Nat,i<=F.length/\v=.int .i64 i/\Hid (∀ (j:Nat) (g:Ft),j<i->F[j]?=some g->(g.m.toList==nm.toList)=false)/\Hid (Below V.heap.size V wr)) (fun v _=>F.length - (intOf v).toNat)
 case atStart=>exact⟨0,by omega,rfl,hid (fun j g hj=>by omega),HW⟩
 case round =>
  clear HW
  obtain⟨i,hi,rfl,HI,HW⟩:=hrel
  obtain⟨Xa,Va,Ua,Rb,Vb,Dd,Cd,Bd,Ad⟩:=HS.out _ HW.out
  by_cases hlt:i<F.length
  · obtain⟨x,hx⟩:∃ x,F[i]?=some x:=⟨F[i],List.getElem?_eq_getElem hlt⟩
    obtain⟨b1,o1,rfl,Da⟩:=(H1.out.kept (ZT Aa.out HW.out)).some (by omega)
    have HC:Hid (∀ j v,(Ft.cells x)[j]?=some v->wr.cell? ⟨b1,o1+i*18+j,none⟩=some v):=fun j v hj=>Da i x hx j v hj
    have HX:=hid (HU.out x (List.mem_of_getElem? hx))
    have Hn:Hid ((x.m.toList==nm.toList)=true->(x.e.toList==en.toList)=true->z=true/\t=⟨x.tk,u x,x.tof⟩):=fun e e2=>by have:=Jb.out i x hx HI.out e;rw[if_pos e2]at this;exact this
    have Ej:Hid ((x.m.toList==nm.toList)=true->(x.e.toList==en.toList)=false->z=false/\t=Ta.zero):=fun e e2=>by have:=Jb.out i x hx HI.out e;rw[if_neg (by rw[e2];decide)]at this;exact this
    have HN:Hid ((x.m.toList==nm.toList)=false->∀ (j:Nat) (g:Ft),j<i+1->F[j]?=some g->(g.m.toList==nm.toList)=false):=fun e j g hj hg=>by
     by_cases ej:j=i
     · subst ej;rw[hx]at hg;injection hg with hg;subst hg;exact e
     · exact HI.out j g (by omega) hg
    clear Da hx
    go_wp2_with (first|((with_reducible refine Zah 44 ?_);refine Za1 rfl 44 _ rfl b1 (o1+i*18) (Ft.cells x) rfl HC.out _ underlying44 rfl (by kernel_rfl) ?_;intro v hv)|((with_reducible refine ZaK 44 ?_);refine Zbe rfl rfl 44 _ _ rfl rfl rfl (Ft.cells x) rfl (by assumption:Hid (_=_)).out (by kernel_rfl) (by rfl) V bt ?_;intro w8 hbx hbe hbl;have Za:=hid hbx;have Lf:Hid (Below V.heap.size V w8):=hbe;have f0:w8.cell? ⟨_,0,none⟩=some (.string x.m):=hbx.cell 0 _ rfl;have f1:w8.cell? ⟨_,1,none⟩=some (.string x.e):=hbx.cell 1 _ rfl;have f2:w8.cell? ⟨_,2,none⟩=some (.int .i64 x.tk):=hbx.cell 2 _ rfl;have f3:w8.cell? ⟨_,3,none⟩=some (.slice x.tua x.tun x.tuc):=hbx.cell 3 _ rfl;have f4:w8.cell? ⟨_,4,none⟩=some (.string x.tof):=hbx.cell 4 _ rfl;clear hbx hbe hbl)|((with_reducible refine Zaq 35 ?_);refine Zae rfl 35 #[] rfl _ (fun w=>ZaX w) ?_;intro v hv)|((with_reducible refine Zaf 35 ?_);refine SB (B1.out.kept bt) w (ZT Aa.out bt) ?_;intro w9 hby hyb hot;have HR:=hid hby;have Ka:=hid hyb;have Na:=hid hot;clear hby hyb hot)|fail)
    all_goals first
     |(go_roundw;(case rel=>exact⟨i+1,by omega,by go_num,hid (HN.out (by simp_all)),Lf⟩);(case measure=>simp[intOf];omega))
     |((try simp only[Exit.inBlock,Exit.then]);refine rb2 HR.out ?_;first|exact TyR.bad (Ej.out (by simp_all) (by simp_all)).1 (Ej.out (by simp_all) (by simp_all)).2 (by decide) Ka.out|exact TyR.good (Hn.out (by simp_all) (by simp_all)).1 (Hn.out (by simp_all) (by simp_all)).2 HX.out.1 (Or.inl HX.out.2) Ka.out)
  · have HE:Hid (z=false/\t=Ta.zero):=Dc.out (fun j g hg=>HI.out j g (by have:=(List.getElem?_eq_some_iff.1 hg).1;omega) hg)
    go_wp2_with (first|((with_reducible refine Zaq 35 ?_);refine Zae rfl 35 #[] rfl _ (fun w=>ZaX w) ?_;intro v hv)|((with_reducible refine Zaf 35 ?_);refine SB (B1.out.kept bt) w (ZT Aa.out bt) ?_;intro w9 hby hyb hot;have HR:=hid hby;have Ka:=hid hyb;have Na:=hid hot;clear hby hyb hot)|fail)
    (try simp only[Exit.inBlock,Exit.then]);refine rb2 HR.out ?_
    exact TyR.bad HE.out.1 HE.out.2 (by decide) Ka.out
def zeroE0:Ex:=⟨0,⟨#[]⟩,⟨#[]⟩,⟨#[]⟩,0,0,⟨#[]⟩,none,0,0,0,0,0,none,0,0⟩
def zeroFt:Ft:=⟨⟨#[]⟩,⟨#[]⟩,0,none,0,0,⟨#[]⟩,zeroE0,0⟩
theorem zeroFt_ok (w:World):zeroFt.Ok w:=⟨ZaH.nil _ _,1,ZaH.nil _ _,by decide,[],[],rfl,by decide,Zac.nil _ _,rfl,by decide,fun i y d h=>(by cases h)⟩
def FindR (f:Ft)(b:Bool)(w:World)(e:Ending)(w':World):Prop:=e=.returned (.tuple #[.agg f.cells.toArray,.bool b])/\Below w.heap.size w w'
theorem FindR.of {f g:Ft}{b c:Bool}{w w':World}(h1:f=g)(h2:b=c)(h:Below w.heap.size w w'):FindR f b w (.returned (.tuple #[.agg g.cells.toArray,.bool c])) w':=⟨by rw[h1,h2],h⟩
theorem find_det (w0:World)(F:List Ft)(hl:F.length<=100000)(hok:∀ f∈F,f.Ok w0)(s:ByteArray):∃ (f:Ft) (b:Bool),f.Ok w0/\∀ (a:Option Addr) (c:Nat) (w:World),Zac Ft.cells 18 w a F->Calls prog 228 #[.slice a F.length c,.string s] w (FindR f b w):=by
 obtain⟨f,b,Ea,Fa⟩:∃ (z:Ft) (t:Bool),(∀ (i:Nat) (f:Ft),F[i]?=some f->(∀ (j:Nat) (g:Ft),j<i->F[j]?=some g->(g.m.toList==s.toList)=false)->(f.m.toList==s.toList)=true->z=f/\t=true)/\((∀ (j:Nat) (g:Ft),F[j]?=some g->(g.m.toList==s.toList)=false)->z=zeroFt/\t=false) :=
  first_of F (fun f=>f.m.toList==s.toList) (fun f=>(f,true)) (zeroFt,false)
 have hfok:f.Ok w0:=by
  by_cases h:∃ (i:Nat) (x:Ft),F[i]?=some x/\(∀ (j:Nat) (g:Ft),j<i->F[j]?=some g->(g.m.toList==s.toList)=false)/\(x.m.toList==s.toList)=true
  · obtain⟨i,x,h1,h2,h3⟩:=h
    rw[(Ea i x h1 h2 h3).1]
    exact hok x (List.mem_of_getElem? h1)
  · rw[(Fa (fun j=>?_)).1]
    · exact zeroFt_ok _
    · induction j using Nat.strongRecOn with
      |_ j ih =>
       intro g hg
       cases hc:(g.m.toList==s.toList)with
       |false=>rfl
       |true=>exact(h ⟨j,g,hg,fun k y hk hy=>ih k hk y hy,hc⟩).elim
 have Jb:=hid Ea
 have Dc:=hid Fa
 clear Ea Fa
 refine⟨f,b,hfok,fun a c w h1=>?_⟩
 have H1:=hid h1
 clear h1 hok hfok
 go_enter func228,ntmps228
 go_upto_region 1 with fail
 refine gen1 (fun V B0 Aa=>?_)
 have HW:Hid (Below V.heap.size V V):=ZR V
 go_wp2_with fail
 go_loop [6] (fun v=>∃ i:Nat,i<=F.length/\v=.int .i64 i/\Hid (∀ (j:Nat) (g:Ft),j<i->F[j]?=some g->(g.m.toList==s.toList)=false)) (fun v=>F.length - (intOf v).toNat)
 case atStart=>exact⟨0,by omega,rfl,hid (fun j g hj=>by omega)⟩
 case round =>
  obtain⟨i,hi,rfl,HI⟩:=hrel
  by_cases hlt:i<F.length
  · obtain⟨x,hx⟩:∃ x,F[i]?=some x:=⟨F[i],List.getElem?_eq_getElem hlt⟩
    obtain⟨b1,o1,rfl,Da⟩:=(H1.out.kept Aa.out).some (by omega)
    have c0:=Ft.name Da hx
    have HC:Hid (∀ j v,(Ft.cells x)[j]?=some v->V.cell? ⟨b1,o1+i*18+j,none⟩=some v):=fun j v hj=>Da i x hx j v hj
    have HG:Hid ((x.m.toList==s.toList)=true->f=x/\b=true):=Jb.out i x hx HI.out
    have HN:Hid ((x.m.toList==s.toList)=false->∀ (j:Nat) (g:Ft),j<i+1->F[j]?=some g->(g.m.toList==s.toList)=false):=fun e j g hj hg=>by
     by_cases ej:j=i
     · subst ej;rw[hx]at hg;injection hg with hg;subst hg;exact e
     · exact HI.out j g (by omega) hg
    clear Da hx
    go_wp2_with (first|((with_reducible refine Zah 44 ?_);refine Za1 rfl 44 _ rfl b1 (o1+i*18) (Ft.cells x) rfl HC.out _ underlying44 rfl (by kernel_rfl) ?_;intro v hv)|((with_reducible refine Zaf 44 ?_);refine SB (B0.out.kept bt) w (ZT Aa.out bt) ?_;intro w9 hby hyb hot;have HR:=hid hby;have Ka:=hid hyb;have Na:=hid hot;clear hby hyb hot)|fail)
    all_goals first
     |(go_round;(case rel=>exact⟨i+1,by omega,by go_num,hid (HN.out (by simp_all))⟩);(case measure=>simp[intOf];omega))
     |((try simp only[Exit.inBlock,Exit.then]);refine rb2 HR.out ?_;exact FindR.of (HG.out (by simp_all)).1 (HG.out (by simp_all)).2 Ka.out)
  · have HE:Hid (f=zeroFt/\b=false):=Dc.out (fun j g hg=>HI.out j g (by have:=(List.getElem?_eq_some_iff.1 hg).1;omega) hg)
    go_wp2_with (first|((with_reducible refine Zaq 44 ?_);refine Zae rfl 44 #[] rfl _ (fun w=>build44 w) ?_;intro v hv)|((with_reducible refine Zaf 44 ?_);refine SB (B0.out.kept bt) w (ZT Aa.out bt) ?_;intro w9 hby hyb hot;have HR:=hid hby;have Ka:=hid hyb;have Na:=hid hot;clear hby hyb hot)|fail)
    (try simp only[Exit.inBlock,Exit.then]);refine rb2 HR.out ?_
    exact FindR.of HE.out.1 HE.out.2 Ka.out
def findT (l:List Tb)(nm:ByteArray):Option Tb:=l.find? (fun t=>decide (t.m=nm))
theorem findT_at {nm:ByteArray}:∀ (l:List Tb) (i:Nat) (x:Tb),l[i]?=some x->(∀ j t,j<i->l[j]?=some t->t.m≠nm)->x.m=nm->findT l nm=some x
 |[],i,x,h,_,_=>by simp at h
 |y :: l,0,x,h,_,hm=>by
  simp at h
  subst h
  simp[findT,hm]
 |y :: l,i+1,x,h,hj,hm=>by
  have h0:=hj 0 y (by omega) rfl
  have:=findT_at l i x (by simpa using h) (fun j t hlt ht=>hj (j+1) t (by omega) (by simpa using ht)) hm
  unfold findT at this ⊢
  rw[List.find?_cons,decide_eq_false h0]
  exact this
theorem findT_none {nm:ByteArray}{l:List Tb}(h:∀ j t,j<l.length->l[j]?=some t->t.m≠nm):findT l nm=none:=by
 unfold findT
 rw[List.find?_eq_none]
 intro t ht
 obtain⟨i,hi,rfl⟩:=List.mem_iff_getElem.1 ht
 simpa using h i _ hi (List.getElem?_eq_getElem hi)
theorem byteq {a b:ByteArray}(h:(a.toList==b.toList)=true):a=b:=Zby (by simpa using h)
theorem byteq_ne {a b:ByteArray}(h:(a.toList==b.toList)=false):a≠b:=fun e=>by subst e;simp at h
theorem ZdX (w0:World)(F:List Ft)(hl:F.length<=100000)(hok:∀ f∈F,f.Ok w0)(nm:ByteArray):∃ (f:Ft) (b:Bool),f.Ok w0/\∀ (c_ta:Option Addr) (c_tn:Nat) (c_tc:Nat) (c_fa:Option Addr) (c_fc:Nat) (c_da:Option Addr) (c_dn:Nat) (c_dc:Nat) (c_qa:Option Addr) (c_qn:Nat) (c_qc:Nat) (w:World),Zac Ft.cells 18 w c_fa F->Calls prog 217 #[.agg #[.slice c_ta c_tn c_tc,.slice c_fa F.length c_fc,.slice c_da c_dn c_dc,.slice c_qa c_qn c_qc],.string nm] w (FindR f b w):=by
 obtain⟨f,b,hfo,hf⟩:=find_det w0 F hl hok nm
 have HF:=hid hf
 refine⟨f,b,hfo,fun c_ta c_tn c_tc c_fa c_fc c_da c_dn c_dc c_qa c_qn c_qc w h=>?_⟩
 have H:=hid h
 clear h hf hok hfo
 go_enter func217,ntmps217
 go_upto_region 1 with fail
 refine gen2 (fun V B0 B1 Aa=>?_)
 have HW:Hid (Below V.heap.size V V):=ZR V
 have HS:=hs1 B0
 simp only[Cl,Nat.reduceAdd]at HS
 have KK:=HS.out V (ZR V)
 go_wp2_with (first|(go_at_call 228;refine(HF.out _ _ _ ((H.out.kept Aa.out).kept bt)).mono ?_;rintro e w' ⟨rfl,hb⟩;have HW:Hid (Below V.heap.size V w'):=ZT bt hb;clear hb)|((with_reducible refine Zaf 44 ?_);refine SB (B1.out.kept bt) w (ZT Aa.out bt) ?_;intro w9 hby hyb hot;have HR:=hid hby;have Ka:=hid hyb;have Na:=hid hot;clear hby hyb hot)|fail)
 (try simp only[Exit.inBlock,Exit.then]);refine rb2 HR.out ?_
 exact FindR.of rfl rfl Ka.out
def InR (fo:Option Tb)(se:ByteArray)(s_cta:Option Addr)(s_ctn s_ctc:Nat)(s_cfa:Option Addr)(s_cfn s_cfc:Nat)(s_cda:Option Addr)(s_cdn s_cdc:Nat)(s_cqa:Option Addr)(s_cqn s_cqc:Nat)(w:World)(e:Ending)(w':World):Prop:=(∃ k:Int,k≠0/\e=.returned (.tuple #[.agg #[.slice none 0 0,.slice none 0 0,.slice none 0 0,.slice none 0 0,.string ⟨#[]⟩,.string ⟨#[]⟩,.string ⟨#[]⟩,.slice none 0 0,.int .i64 0],.int .i64 k])/\(∀ t,fo=some t->(t.e.toList==se.toList)=false)/\Below w.heap.size w w') ∨
 ∃ (t:Tb),e=.returned (.tuple #[.agg #[.slice s_cta s_ctn s_ctc,.slice s_cfa s_cfn s_cfc,.slice s_cda s_cdn s_cdc,.slice s_cqa s_cqn s_cqc,.string ⟨#[]⟩,.string t.m,.string t.e,.slice t.fa t.fn t.fc,.int .i64 t.p],.int .i64 0])/\fo=some t/\(t.e.toList==se.toList)=true/\Below w.heap.size w w'
theorem within_is (s_cta:Option Addr)(s_ctn:Nat)(s_ctc:Nat)(s_cfa:Option Addr)(s_cfn:Nat)(s_cfc:Nat)(s_cda:Option Addr)(s_cdn:Nat)(s_cdc:Nat)(s_cqa:Option Addr)(s_cqn:Nat)(s_cqc:Nat)(s_e:ByteArray)(s_tm:ByteArray)(s_te:ByteArray)(s_tfa:Option Addr)(s_tfn:Nat)(s_tfc:Nat)(s_tp:Int)(nm:ByteArray)(w:World)(l:List Tb)(hn:s_ctn=l.length)(hl:l.length<=100000)(h1:Zac Tb.cells 4 w s_cta l):Calls prog 214 #[.agg #[.slice s_cta s_ctn s_ctc,.slice s_cfa s_cfn s_cfc,.slice s_cda s_cdn s_cdc,.slice s_cqa s_cqn s_cqc,.string s_e,.string s_tm,.string s_te,.slice s_tfa s_tfn s_tfc,.int .i64 s_tp],.string nm] w (InR (findT l nm) s_e s_cta s_ctn s_ctc s_cfa s_cfn s_cfc s_cda s_cdn s_cdc s_cqa s_cqn s_cqc w):=by
 subst hn
 have H1:=hid h1
 clear h1
 obtain⟨fo,hfo⟩:∃ fo,fo=findT l nm:=⟨_,rfl⟩
 rw[<-hfo]
 have Vf:=hid hfo
 clear hfo
 go_enter func214,ntmps214
 go_upto_region 1 with fail
 refine gen2 (fun V B0 B1 Aa=>?_)
 have HW:Hid (Below V.heap.size V V):=ZR V
 have HS:Hid (∀ w',Below V.heap.size V w'->w'.cell? ⟨w.heap.size,0,none⟩=some (.slice s_cta l.length s_ctc)/\w'.cell? ⟨w.heap.size,1,none⟩=some (.slice s_cfa s_cfn s_cfc)/\w'.cell? ⟨w.heap.size,2,none⟩=some (.slice s_cda s_cdn s_cdc)/\w'.cell? ⟨w.heap.size,3,none⟩=some (.slice s_cqa s_cqn s_cqc)/\w'.cell? ⟨w.heap.size,4,none⟩=some (.string s_e)/\w'.cell? ⟨w.heap.size,5,none⟩=some (.string s_tm)/\w'.cell? ⟨w.heap.size,6,none⟩=some (.string s_te)/\w'.cell? ⟨w.heap.size,7,none⟩=some (.slice s_tfa s_tfn s_tfc)/\w'.cell? ⟨w.heap.size,8,none⟩=some (.int .i64 s_tp)):=fun w' h=>⟨(B0.out.kept h).cell 0 _ rfl,(B0.out.kept h).cell 1 _ rfl,(B0.out.kept h).cell 2 _ rfl,(B0.out.kept h).cell 3 _ rfl,(B0.out.kept h).cell 4 _ rfl,(B0.out.kept h).cell 5 _ rfl,(B0.out.kept h).cell 6 _ rfl,(B0.out.kept h).cell 7 _ rfl,(B0.out.kept h).cell 8 _ rfl⟩
 obtain⟨Xa,Va,Ua,Rb,Vb,Dd,Cd,Bd,Ad⟩:=HS.out V (ZR V)
 go_wp2_with fail
 go_loopw [6] (fun v wr=>∃ i:Nat,i<=l.length/\v=.int .i64 i/\Hid (∀ (j:Nat) (t:Tb),j<i->l[j]?=some t->t.m≠nm)/\Hid (Below V.heap.size V wr)) (fun v _=>l.length - (intOf v).toNat)
 case atStart=>exact⟨0,by omega,rfl,hid (fun j g hj=>by omega),HW⟩
 case round =>
  clear HW
  obtain⟨i,hi,rfl,HI,HW⟩:=hrel
  obtain⟨Xa,Va,Ua,Rb,Vb,Dd,Cd,Bd,Ad⟩:=HS.out _ HW.out
  by_cases hlt:i<l.length
  · obtain⟨x,hx⟩:∃ x,l[i]?=some x:=⟨l[i],List.getElem?_eq_getElem hlt⟩
    obtain⟨b1,o1,rfl,Da⟩:=(H1.out.kept (ZT Aa.out HW.out)).some (by omega)
    have HC:Hid (∀ j v,(Tb.cells x)[j]?=some v->wr.cell? ⟨b1,o1+i*4+j,none⟩=some v):=fun j v hj=>Da i x hx j v hj
    have HG:Hid ((x.m.toList==nm.toList)=true->fo=some x):=fun e=>Vf.out.trans (findT_at l i x hx HI.out (byteq e))
    have HN:Hid ((x.m.toList==nm.toList)=false->∀ (j:Nat) (t:Tb),j<i+1->l[j]?=some t->t.m≠nm):=fun e j g hj hg=>by
     by_cases ej:j=i
     · subst ej;rw[hx]at hg;injection hg with hg;subst hg;exact byteq_ne e
     · exact HI.out j g (by omega) hg
    clear Da hx
    go_wp2_with (first|((with_reducible refine Zah 32 ?_);refine Za1 rfl 32 _ rfl b1 (o1+i*4) (Tb.cells x) rfl HC.out _ underlying32 rfl (by kernel_rfl) ?_;intro v hv)|((with_reducible refine ZaK 32 ?_);refine Zbe rfl rfl 32 _ _ rfl rfl rfl (Tb.cells x) rfl (by assumption:Hid (_=_)).out (by kernel_rfl) (by rfl) V bt ?_;intro w8 hbx hbe hbl;have Za:=hid hbx;have Lf:Hid (Below V.heap.size V w8):=hbe;have KK:=HS.out _ hbe;obtain⟨Xa,Va,Ua,Rb,Vb,Dd,Cd,Bd,Ad⟩:=KK;have f0:w8.cell? ⟨_,0,none⟩=some (.string x.m):=hbx.cell 0 _ rfl;have f1:w8.cell? ⟨_,1,none⟩=some (.string x.e):=hbx.cell 1 _ rfl;have f2:w8.cell? ⟨_,2,none⟩=some (.slice x.fa x.fn x.fc):=hbx.cell 2 _ rfl;have f3:w8.cell? ⟨_,3,none⟩=some (.int .i64 x.p):=hbx.cell 3 _ rfl;clear hbx hbe hbl)|((with_reducible refine Zaq 242 ?_);refine Zae rfl 242 #[] rfl _ (fun w=>build242 w) ?_;intro v hv)|((with_reducible refine Zaf 242 ?_);refine SB (B1.out.kept bt) w (ZT Aa.out bt) ?_;intro w9 hby hyb hot;have HR:=hid hby;have Ka:=hid hyb;have Na:=hid hot;clear hby hyb hot)|fail)
    all_goals first
     |(go_roundw;(case rel=>exact⟨i+1,by omega,by go_num,hid (HN.out (by simp_all)),Lf⟩);(case measure=>simp[intOf];omega))
     |((try simp only[Exit.inBlock,Exit.then]);refine rb2 HR.out ?_;first|exact Or.inl ⟨_,by decide,rfl,(fun t ht=>by rw[HG.out (by simp_all)]at ht;injection ht with ht;subst ht;simp_all),Ka.out⟩|exact Or.inr ⟨x,rfl,HG.out (by simp_all),(by simp_all),Ka.out⟩)
  · have HE:Hid (fo=none):=Vf.out.trans (findT_none (fun j t hj ht=>HI.out j t (by omega) ht))
    go_wp2_with (first|((with_reducible refine Zaq 242 ?_);refine Zae rfl 242 #[] rfl _ (fun w=>build242 w) ?_;intro v hv)|((with_reducible refine Zaf 242 ?_);refine SB (B1.out.kept bt) w (ZT Aa.out bt) ?_;intro w9 hby hyb hot;have HR:=hid hby;have Ka:=hid hyb;have Na:=hid hot;clear hby hyb hot)|fail)
    (try simp only[Exit.inBlock,Exit.then]);refine rb2 HR.out ?_
    exact Or.inl ⟨_,by decide,rfl,(fun t ht=>by rw[HE.out]at ht;cases ht),Ka.out⟩
theorem overAll_det (w0:World)(x_o:ByteArray)(a_k:Int)(us:List FID)(a_o:ByteArray)(c_k:Int):∃ (z:Bool) (t:Ta),∀ (x_k:Int) (x_m:ByteArray) (x_t:ByteArray) (x_vk:Int) (x_vn:Int) (x_vs:ByteArray) (x_ua:Option Addr) (x_un:Nat) (x_uc:Nat) (x_p:Int) (x_wk:Int) (x_wz:Int) (x_xa:Option Addr) (x_xn:Nat) (x_xc:Nat) (a_ua:Option Addr) (a_uc:Nat) (c_ua:Option Addr) (c_un:Nat) (c_uc:Nat) (c_o:ByteArray) (w:World),Below w0.heap.size w0 w->UnX w0 w a_ua a_uc us->Calls prog 226 #[.agg #[.int .i64 x_k,.string x_o,.string x_m,.string x_t,.int .i64 x_vk,.int .i64 x_vn,.string x_vs,.slice x_ua x_un x_uc,.int .i64 x_p,.int .i64 x_wk,.int .i64 x_wz,.slice x_xa x_xn x_xc],.agg #[.int .i64 a_k,.slice a_ua us.length a_uc,.string a_o],.agg #[.int .i64 c_k,.slice c_ua c_un c_uc,.string c_o]] w (TyR z t w0 w):=by
 obtain⟨q1,Fg⟩:∃ q,isOne x_o [⟨#[115,117,109]⟩,⟨#[109,101,97,110]⟩,⟨#[113,117,97,110,116,105,108,101]⟩,⟨#[100,101,99,97,121]⟩]=q:=⟨_,rfl⟩
 have Vc:Hid (∀ a c w,Zfo w a [⟨#[115,117,109]⟩,⟨#[109,101,97,110]⟩,⟨#[113,117,97,110,116,105,108,101]⟩,⟨#[100,101,99,97,121]⟩]->Calls prog 222 #[.string x_o,.slice a (List.length ([⟨#[115,117,109]⟩,⟨#[109,101,97,110]⟩,⟨#[113,117,97,110,116,105,108,101]⟩,⟨#[100,101,99,97,121]⟩]:List ByteArray)) c] w (RetB q1 w)):=by rw[<-Fg];exact fun a c w h=>one_is _ _ a c w (by decide) h
 clear Fg
 obtain⟨q2,Ob⟩:∃ q,isOne x_o [⟨#[109,105,110]⟩,⟨#[109,97,120]⟩]=q:=⟨_,rfl⟩
 have Fb:Hid (∀ a c w,Zfo w a [⟨#[109,105,110]⟩,⟨#[109,97,120]⟩]->Calls prog 222 #[.string x_o,.slice a (List.length ([⟨#[109,105,110]⟩,⟨#[109,97,120]⟩]:List ByteArray)) c] w (RetB q2 w)):=by rw[<-Ob];exact fun a c w h=>one_is _ _ a c w (by decide) h
 clear Ob
 obtain⟨c1,Bl⟩:∃ q,(c_k==1)=q:=⟨_,rfl⟩
 obtain⟨nb,hnb⟩:∃ q,((a_k==2)||(a_k==3))=q:=⟨_,rfl⟩
 obtain⟨k4,Zk⟩:∃ q,(a_k==4)=q:=⟨_,rfl⟩
 obtain⟨o1,ho1⟩:∃ q,(x_o.toList==([99,111,117,110,116]:List UInt8))=q:=⟨_,rfl⟩
 obtain⟨o2,ho2⟩:∃ q,(x_o.toList==([100,105,115,116,105,110,99,116]:List UInt8))=q:=⟨_,rfl⟩
 obtain⟨o3,Pq⟩:∃ q,(x_o.toList==([109,101,97,110]:List UInt8))=q:=⟨_,rfl⟩
 obtain⟨o4,ho4⟩:∃ q,(x_o.toList==([100,101,99,97,121]:List UInt8))=q:=⟨_,rfl⟩
 obtain⟨Q,hQ⟩:∃ Q,Q=((q1&&!nb)||(q2&&(!nb&&!k4))):=⟨_,rfl⟩
 obtain⟨z,hz⟩:∃ z,z=(c1&&!Q):=⟨_,rfl⟩
 obtain⟨t,ht⟩:∃ t,t=(if z=false then Ta.zero else if o1=true∨o2=true then⟨2,[],⟨#[]⟩⟩else if o3=true∨o4=true then⟨3,us,⟨#[]⟩⟩else⟨a_k,us,a_o⟩):=⟨_,rfl⟩
 have HQ:=hid hQ
 have HZ:=hid hz
 have HT:=hid ht
 clear hQ hz ht
 refine⟨z,t,fun x_k x_m x_t x_vk x_vn x_vs x_ua x_un x_uc x_p x_wk x_wz x_xa x_xn x_xc a_ua a_uc c_ua c_un c_uc c_o w Oa ha=>?_⟩
 have Ny:=hid ha
 clear ha
 go_enter func226,ntmps226
 go_upto_region 1 with fail
 refine gen4 (fun V B0 B1 B2 B3 Aa=>?_)
 have HW:Hid (Below V.heap.size V V):=ZR V
 have HS:Hid (∀ w',Below V.heap.size V w'->w'.cell? ⟨w.heap.size,0,none⟩=some (.int .i64 x_k)/\w'.cell? ⟨w.heap.size,1,none⟩=some (.string x_o)/\w'.cell? ⟨w.heap.size,2,none⟩=some (.string x_m)/\w'.cell? ⟨w.heap.size,3,none⟩=some (.string x_t)/\w'.cell? ⟨w.heap.size,4,none⟩=some (.int .i64 x_vk)/\w'.cell? ⟨w.heap.size,5,none⟩=some (.int .i64 x_vn)/\w'.cell? ⟨w.heap.size,6,none⟩=some (.string x_vs)/\w'.cell? ⟨w.heap.size,7,none⟩=some (.slice x_ua x_un x_uc)/\w'.cell? ⟨w.heap.size,8,none⟩=some (.int .i64 x_p)/\w'.cell? ⟨w.heap.size,9,none⟩=some (.int .i64 x_wk)/\w'.cell? ⟨w.heap.size,10,none⟩=some (.int .i64 x_wz)/\w'.cell? ⟨w.heap.size,11,none⟩=some (.slice x_xa x_xn x_xc)/\w'.cell? ⟨w.heap.size+1,0,none⟩=some (.int .i64 a_k)/\w'.cell? ⟨w.heap.size+1,1,none⟩=some (.slice a_ua us.length a_uc)/\w'.cell? ⟨w.heap.size+1,2,none⟩=some (.string a_o)/\w'.cell? ⟨w.heap.size+1+1,0,none⟩=some (.int .i64 c_k)/\w'.cell? ⟨w.heap.size+1+1,1,none⟩=some (.slice c_ua c_un c_uc)/\w'.cell? ⟨w.heap.size+1+1,2,none⟩=some (.string c_o)):=fun w' h=>⟨(B0.out.kept h).cell 0 _ rfl,(B0.out.kept h).cell 1 _ rfl,(B0.out.kept h).cell 2 _ rfl,(B0.out.kept h).cell 3 _ rfl,(B0.out.kept h).cell 4 _ rfl,(B0.out.kept h).cell 5 _ rfl,(B0.out.kept h).cell 6 _ rfl,(B0.out.kept h).cell 7 _ rfl,(B0.out.kept h).cell 8 _ rfl,(B0.out.kept h).cell 9 _ rfl,(B0.out.kept h).cell 10 _ rfl,(B0.out.kept h).cell 11 _ rfl,(B1.out.kept h).cell 0 _ rfl,(B1.out.kept h).cell 1 _ rfl,(B1.out.kept h).cell 2 _ rfl,(B2.out.kept h).cell 0 _ rfl,(B2.out.kept h).cell 1 _ rfl,(B2.out.kept h).cell 2 _ rfl⟩
 obtain⟨Xa,Va,Ua,Rb,Vb,Dd,Cd,Bd,Ad,Te,Rc,Qc,Oc,Nc,Mc,Tk,Sk,Rk⟩:=HS.out V (ZR V)
 have HA:Hid (UnX w0 V a_ua a_uc us):=Ny.out.kept Aa.out
 go_upto_region 3 with(first|((with_reducible refine Zaq 35 ?_);refine Zae rfl 35 #[] rfl _ (fun w=>ZaX w) ?_;intro v hv)|((with_reducible refine Zaf 35 ?_);refine SB (B3.out.kept bt) w (ZT Aa.out bt) ?_;intro w9 hby hyb hot;have HR:=hid hby;have Ka:=hid hyb;have Na:=hid hot;clear hby hyb hot;have Ub:=hid (UnX.putq (w0:=w0) Na.out (B3.out.kept bt) (by decide));have Ce:Hid (∀ ua uc us,UnX w0 V ua uc us->UnX w0 w9 ua uc us):=fun _ _ _ hu=>Ub.out _ _ _ (hu.kept bt))|fail)
 all_goals first
  |((try simp only[Exit.inBlock,Exit.then]);refine rb2 HR.out ?_;first|exact TyR.bad (by rw[HZ.out];simp_all<;>grind) (by rw[HT.out,HZ.out];simp_all<;>grind) (by decide) Ka.out|exact TyR.kind (by rw[HZ.out];simp_all<;>grind) (by rw[HT.out,HZ.out];simp_all<;>grind) Ka.out|exact TyR.good (by rw[HZ.out];simp_all<;>grind) (by rw[HT.out,HZ.out];simp_all<;>grind) rfl (Ce.out _ _ _ HA.out) Ka.out)
  |skip
 all_goals
  go_upto_region 4 with(first|(go_at_call 222;refine(Vc.out _ _ _ (Zcl [⟨#[115,117,109]⟩,⟨#[109,101,97,110]⟩,⟨#[113,117,97,110,116,105,108,101]⟩,⟨#[100,101,99,97,121]⟩] _)).mono ?_;rintro e w' ⟨rfl,hb⟩;have HW:Hid (Below V.heap.size V w'):=ZT bt hb;clear hb;have KK:=HS.out _ HW.out;obtain⟨Xa,Va,Ua,Rb,Vb,Dd,Cd,Bd,Ad,Te,Rc,Qc,Oc,Nc,Mc,Tk,Sk,Rk⟩:=KK;cases q1)|fail)
 all_goals
  go_upto_region 5 with(first|(go_at_call 222;refine(Fb.out _ _ _ (Zcl [⟨#[109,105,110]⟩,⟨#[109,97,120]⟩] _)).mono ?_;rintro e w' ⟨rfl,hb⟩;have HW:Hid (Below V.heap.size V w'):=ZT bt hb;clear hb;have KK:=HS.out _ HW.out;obtain⟨Xa,Va,Ua,Rb,Vb,Dd,Cd,Bd,Ad,Te,Rc,Qc,Oc,Nc,Mc,Tk,Sk,Rk⟩:=KK;cases q2)|fail)
 all_goals
  go_cut [40] (fun v wx=>v=.bool Q/\Hid (Below V.heap.size V wx))
  case first =>
   go_wp2_with (first|(go_at_call 199;refine(ZdU _ _ _ _ _ _).mono ?_;rintro e w' ⟨rfl,hb⟩;have HW:Hid (Below V.heap.size V w'):=ZT bt hb;clear hb;have KK:=HS.out _ HW.out;obtain⟨Xa,Va,Ua,Rb,Vb,Dd,Cd,Bd,Ad,Te,Rc,Qc,Oc,Nc,Mc,Tk,Sk,Rk⟩:=KK)|fail)
   all_goals
    go_meet
    case rel=>exact⟨by rw[HQ.out];simp_all<;>grind,bt⟩
  case rest =>
   clear HW HQ
   obtain⟨rfl,HW⟩:=hcut
   obtain⟨Xa,Va,Ua,Rb,Vb,Dd,Cd,Bd,Ad,Te,Rc,Qc,Oc,Nc,Mc,Tk,Sk,Rk⟩:=HS.out _ HW.out
   cases Q
   all_goals
    go_wp2_with (first|((with_reducible refine Zaq 35 ?_);refine Zae rfl 35 #[] rfl _ (fun w=>ZaX w) ?_;intro v hv)|((with_reducible refine Zaf 35 ?_);refine SB (B3.out.kept bt) w (ZT Aa.out bt) ?_;intro w9 hby hyb hot;have HR:=hid hby;have Ka:=hid hyb;have Na:=hid hot;clear hby hyb hot;have Ub:=hid (UnX.putq (w0:=w0) Na.out (B3.out.kept bt) (by decide));have Ce:Hid (∀ ua uc us,UnX w0 V ua uc us->UnX w0 w9 ua uc us):=fun _ _ _ hu=>Ub.out _ _ _ (hu.kept bt))|fail)
   all_goals
    ((try simp only[Exit.inBlock,Exit.then]);refine rb2 HR.out ?_;first|exact TyR.bad (by rw[HZ.out];simp_all<;>grind) (by rw[HT.out,HZ.out];simp_all<;>grind) (by decide) Ka.out|exact TyR.kind (by rw[HZ.out];simp_all<;>grind) (by rw[HT.out,HZ.out];simp_all<;>grind) Ka.out|exact TyR.good (by rw[HZ.out];simp_all<;>grind) (by rw[HT.out,HZ.out];simp_all<;>grind) rfl (Ce.out _ _ _ HA.out) Ka.out)
def TwoX (z:Bool)(L:List FID)(w0 w:World)(e:Ending)(w':World):Prop:=∃ ua uc k,e=.returned (.tuple #[.slice ua L.length uc,.int .i64 k])/\(z=true->k=0)/\(z=false->k≠0)/\UnX w0 w' ua uc L/\Below w.heap.size w w'
theorem TwoR.x {z:Bool}{L:List FID}{w0 w:World}{e:Ending}{w':World}(hw:Below w0.heap.size w0 w)(hl:L.length<=4)(h:TwoR z L w e w'):TwoX z L w0 w e w':=by
 obtain⟨v,k,rfl,h1,h2,h3,h4⟩:=h
 obtain⟨a,c,rfl,-,-⟩:=h3.is (by omega)
 exact⟨a,c,k,rfl,h1,h2,Or.inr ⟨h3.mono hw.size,hl⟩,h4⟩
def binZ (c:Nat)(a1 b1 nb f4 rs ru z1 z2:Bool):Bool:=match c with
 |0=>a1&&b1
 |1=>if nb=true then ru else rs
 |2=>if nb=true then ru else f4
 |3=>nb&&z1
 |4=>nb&&z2
 |_=>nb&&ru
def binT (c:Nat)(kk:Int)(us L1 L2:List FID):Ta:=match c with
 |0=>⟨1,[],⟨#[]⟩⟩
 |1=>⟨1,[],⟨#[]⟩⟩
 |2=>⟨1,[],⟨#[]⟩⟩
 |3=>⟨kk,L1,⟨#[]⟩⟩
 |4=>⟨3,L2,⟨#[]⟩⟩
 |_=>⟨kk,us,⟨#[]⟩⟩
theorem binary_det (w0:World)(op:ByteArray)(a_k:Int)(us:List FID)(a_o:ByteArray)(b_k:Int)(vs:List FID)(b_o:ByteArray):∃ (z:Bool) (t:Ta),∀ (a_ua:Option Addr) (a_uc:Nat) (b_ua:Option Addr) (b_uc:Nat) (w:World),Below w0.heap.size w0 w->UnX w0 w a_ua a_uc us->UnX w0 w b_ua b_uc vs->Calls prog 227 #[.string op,.agg #[.int .i64 a_k,.slice a_ua us.length a_uc,.string a_o],.agg #[.int .i64 b_k,.slice b_ua vs.length b_uc,.string b_o]] w (TyR z t w0 w):=by
 obtain⟨ru,h1⟩:=ZdM us vs
 obtain⟨rs,h2⟩:=sameType_det a_k a_o b_k b_o us vs
 obtain⟨z1,L1,Yf,-,h3⟩:=times_det us vs
 obtain⟨z2,L2,Nd,-,h4⟩:=over_det us vs
 have Hru:=hid h1
 have Hrs:=hid h2
 have HTI:Hid (∀ a b c d w,Below w0.heap.size w0 w->UnX w0 w a c us->UnX w0 w b d vs->Calls prog 232 #[.slice a us.length c,.slice b vs.length d] w (TwoX z1 L1 w0 w)):=fun a b c d w hw ha hb=>(h3 a b c d w (ha.is hw) (hb.is hw)).mono fun _ _ h=>h.x hw Yf
 have Ll:Hid (∀ a b c d w,Below w0.heap.size w0 w->UnX w0 w a c us->UnX w0 w b d vs->Calls prog 233 #[.slice a us.length c,.slice b vs.length d] w (TwoX z2 L2 w0 w)):=fun a b c d w hw ha hb=>(h4 a b c d w (ha.is hw) (hb.is hw)).mono fun _ _ h=>h.x hw Nd
 obtain⟨nb,hnb⟩:∃ q,q=(((a_k==2)||(a_k==3))&&((b_k==2)||(b_k==3))):=⟨_,rfl⟩
 obtain⟨k2,Ng⟩:∃ q,q=((a_k==2)&&(b_k==2)):=⟨_,rfl⟩
 obtain⟨kk,hkk⟩:∃ q:Int,q=(if k2=true then 2 else 3):=⟨_,rfl⟩
 obtain⟨cd,hcd⟩:∃ q:Nat,q=(if op.toList=([97,110,100]:List UInt8)then 0 else if op.toList=([111,114]:List UInt8)then 0 else if op.toList=([61,61]:List UInt8)then 1 else if op.toList=([33,61]:List UInt8)then 1 else if op.toList=([60]:List UInt8)then 2 else if op.toList=([60,61]:List UInt8)then 2 else if op.toList=([42]:List UInt8)then 3 else if op.toList=([47]:List UInt8)then 4 else 5):=⟨_,rfl⟩
 obtain⟨z,hz⟩:∃ z,z=binZ cd (a_k==1) (b_k==1) nb ((a_k==4)&&(b_k==4)) rs ru z1 z2:=⟨_,rfl⟩
 obtain⟨t,ht⟩:∃ t,t=(if z=true then binT cd kk us L1 L2 else Ta.zero):=⟨_,rfl⟩
 have Aj:=hid hnb
 have So:=hid Ng
 have Zs:=hid hkk
 have Bg:=hid hcd
 have Vd:=hid hz
 have Hc:=hid ht
 clear h1 h2 h3 h4 Yf Nd hnb Ng hkk hcd hz ht
 refine⟨z,t,fun a_ua a_uc b_ua b_uc w Oa ha hb=>?_⟩
 have Ny:=hid ha
 have Lc:=hid hb
 have Ja:=hid Oa
 clear ha hb Oa
 go_enter func227,ntmps227
 go_upto_region 2 with fail
 refine gen4 (fun V B0 B1 B2 B3 Aa=>?_)
 have HW:Hid (Below V.heap.size V V):=ZR V
 have HS:Hid (∀ w',Below V.heap.size V w'->w'.cell? ⟨w.heap.size,0,none⟩=some (.int .i64 a_k)/\w'.cell? ⟨w.heap.size,1,none⟩=some (.slice a_ua us.length a_uc)/\w'.cell? ⟨w.heap.size,2,none⟩=some (.string a_o)/\w'.cell? ⟨w.heap.size+1,0,none⟩=some (.int .i64 b_k)/\w'.cell? ⟨w.heap.size+1,1,none⟩=some (.slice b_ua vs.length b_uc)/\w'.cell? ⟨w.heap.size+1,2,none⟩=some (.string b_o)):=fun w' h=>⟨(B0.out.kept h).cell 0 _ rfl,(B0.out.kept h).cell 1 _ rfl,(B0.out.kept h).cell 2 _ rfl,(B1.out.kept h).cell 0 _ rfl,(B1.out.kept h).cell 1 _ rfl,(B1.out.kept h).cell 2 _ rfl⟩
 obtain⟨Xa,Va,Ua,Oc,Nc,Mc⟩:=HS.out V (ZR V)
 have HA:Hid (UnX w0 V a_ua a_uc us):=Ny.out.kept Aa.out
 have HB:Hid (UnX w0 V b_ua b_uc vs):=Lc.out.kept Aa.out
 have Ga:Hid (Below w0.heap.size w0 V):=Ja.out.trans (Aa.out.mono Ja.out.size)
 go_cut [9] (fun v wx=>v=.bool nb/\Hid (Below V.heap.size V wx))
 case first =>
  go_wp2_with (first|(go_at_call 199;refine(ZdU _ _ _ _ _ _).mono ?_;rintro e w' ⟨rfl,hb⟩;have HW:Hid (Below V.heap.size V w'):=ZT bt hb;clear hb;have KK:=HS.out _ HW.out;obtain⟨Xa,Va,Ua,Oc,Nc,Mc⟩:=KK)|fail)
  all_goals
   go_meet
   case rel=>exact⟨by rw[Aj.out]<;>simp_all,bt⟩
 case rest =>
  clear HW
  obtain⟨rfl,HW⟩:=hcut
  rename World=>w4
  obtain⟨Xa,Va,Ua,Oc,Nc,Mc⟩:=HS.out _ HW.out
  go_upto_region 4 with fail
  go_cut [28] (fun v wx=>v=.bool k2/\Hid (Below V.heap.size V wx))
  case first =>
   have ea:(a_k==2)=true∨(a_k==2)=false:=by cases (a_k==2)<;>simp
   rcases ea with ea|ea
   all_goals
    go_wp2_with fail
    go_meet
    case rel=>exact⟨by rw[So.out]<;>simp_all,bt⟩
  case rest =>
   clear HW
   obtain⟨rfl,HW⟩:=hcut
   rename World=>w5
   obtain⟨Xa,Va,Ua,Oc,Nc,Mc⟩:=HS.out _ HW.out
   go_upto_if 28 with fail
   go_cut [10] (fun v wx=>v=.int .i64 kk/\Hid (Below V.heap.size V wx))
   case first =>
    cases k2
    all_goals
     go_wp2_with fail
     go_meet
     case rel=>exact⟨by rw[Zs.out];try rfl,bt⟩
   case rest =>
    clear HW
    obtain⟨rfl,HW⟩:=hcut
    rename World=>w6
    obtain⟨Xa,Va,Ua,Oc,Nc,Mc⟩:=HS.out _ HW.out
    clear Aj So Zs
    have hop:(op.toList=([97,110,100]:List UInt8)∨op.toList=([111,114]:List UInt8))∨(op.toList=([61,61]:List UInt8)∨op.toList=([33,61]:List UInt8))∨(op.toList=([60]:List UInt8)∨op.toList=([60,61]:List UInt8))∨op.toList=([42]:List UInt8)∨op.toList=([47]:List UInt8)∨(op.toList≠([97,110,100]:List UInt8)/\op.toList≠([111,114]:List UInt8)/\op.toList≠([61,61]:List UInt8)/\op.toList≠([33,61]:List UInt8)/\op.toList≠([60]:List UInt8)/\op.toList≠([60,61]:List UInt8)/\op.toList≠([42]:List UInt8)/\op.toList≠([47]:List UInt8)):=by
     by_cases h0:op.toList=([97,110,100]:List UInt8)
     · exact Or.inl (Or.inl h0)
     by_cases h1:op.toList=([111,114]:List UInt8)
     · exact Or.inl (Or.inr (h1))
     by_cases h2:op.toList=([61,61]:List UInt8)
     · exact Or.inr (Or.inl (Or.inl h2))
     by_cases h3:op.toList=([33,61]:List UInt8)
     · exact Or.inr (Or.inl (Or.inr (h3)))
     by_cases h4:op.toList=([60]:List UInt8)
     · exact Or.inr (Or.inr (Or.inl (Or.inl h4)))
     by_cases h5:op.toList=([60,61]:List UInt8)
     · exact Or.inr (Or.inr (Or.inl (Or.inr (h5))))
     by_cases h6:op.toList=([42]:List UInt8)
     · exact Or.inr (Or.inr (Or.inr (Or.inl (h6))))
     by_cases h7:op.toList=([47]:List UInt8)
     · exact Or.inr (Or.inr (Or.inr (Or.inr (Or.inl (h7)))))
     exact Or.inr (Or.inr (Or.inr (Or.inr (Or.inr (⟨h0,h1,h2,h3,h4,h5,h6,h7⟩)))))
    rcases hop with h|h|h|h|h|h
    · rcases h with h|h
      all_goals
       have hc:cd=0:=by rw[Bg.out];simp[h]
       have HZ:Hid (z=((a_k==1)&&(b_k==1))):=by show _=_;rw[Vd.out,hc];rfl
       have HT:Hid (t=(if z=true then(⟨1,[],⟨#[]⟩⟩:Ta)else Ta.zero)):=by show _=_;rw[Hc.out,hc];rfl
       clear hc Vd Hc Bg
       go_wp2_with (first|((with_reducible refine Zaq 35 ?_);refine Zae rfl 35 #[] rfl _ (fun w=>ZaX w) ?_;intro v hv)|((with_reducible refine Zaf 35 ?_);refine SB (B2.out.kept bt) w (ZT Aa.out bt) ?_;intro w9 hby hyb hot;have HR:=hid hby;have Ka:=hid hyb;have Na:=hid hot;clear hby hyb hot;have Ub:=hid (UnX.putq (w0:=w0) Na.out (B2.out.kept bt) (by decide));have Ce:Hid (∀ ua uc us,UnX w0 V ua uc us->UnX w0 w9 ua uc us):=fun _ _ _ hu=>Ub.out _ _ _ (hu.kept bt))|((with_reducible refine Zah 35 ?_);refine Za6 rfl 35 (.tmp 8) rfl (w.heap.size+1+1+1) [.int .i64 1,.slice none 0 0,.string ⟨#[]⟩] 35 rfl (B3.out.kept bt) _ underlying35 rfl (by kernel_rfl) ?_;intro v hv;obtain rfl:=hv.out)|fail)
       all_goals
        ((try simp only[Exit.inBlock,Exit.then]);refine rb2 HR.out ?_;first|exact TyR.bad (by rw[HZ.out];simp_all) (by rw[HT.out,HZ.out];simp_all) (by first|decide|assumption) Ka.out|exact TyR.kind (by rw[HZ.out];simp_all) (by rw[HT.out,HZ.out];simp_all) Ka.out|exact TyR.good (by rw[HZ.out];simp_all) (by rw[HT.out,HZ.out];simp_all) rfl (Ub.out _ _ _ Jd.out) Ka.out|exact TyR.good (by rw[HZ.out];simp_all) (by rw[HT.out,HZ.out];simp_all) rfl (Ce.out _ _ _ HA.out) Ka.out)
    · rcases h with h|h
      all_goals
       have hc:cd=1:=by rw[Bg.out];simp[h]
       have HZ:Hid (z=(if nb=true then ru else rs)):=by show _=_;rw[Vd.out,hc];rfl
       have HT:Hid (t=(if z=true then(⟨1,[],⟨#[]⟩⟩:Ta)else Ta.zero)):=by show _=_;rw[Hc.out,hc];rfl
       clear hc Vd Hc Bg
       go_wp2_with (first|(go_at_call 231;refine(Hrs.out _ _ _ _ _ ((HA.out.kept bt).is (Ga.out.trans (Below.mono bt Ga.out.size))) ((HB.out.kept bt).is (Ga.out.trans (Below.mono bt Ga.out.size)))).mono ?_;rintro e w' ⟨rfl,hb⟩;have HW:Hid (Below V.heap.size V w'):=ZT bt hb;clear hb;have KK:=HS.out _ HW.out;obtain⟨Xa,Va,Ua,Oc,Nc,Mc⟩:=KK;try cases rs)|(go_at_call 205;refine(Hru.out _ _ _ _ _ ((HA.out.kept bt).is (Ga.out.trans (Below.mono bt Ga.out.size))) ((HB.out.kept bt).is (Ga.out.trans (Below.mono bt Ga.out.size)))).mono ?_;rintro e w' ⟨rfl,hb⟩;have HW:Hid (Below V.heap.size V w'):=ZT bt hb;clear hb;have KK:=HS.out _ HW.out;obtain⟨Xa,Va,Ua,Oc,Nc,Mc⟩:=KK;try cases ru)|((with_reducible refine Zaq 35 ?_);refine Zae rfl 35 #[] rfl _ (fun w=>ZaX w) ?_;intro v hv)|((with_reducible refine Zaf 35 ?_);refine SB (B2.out.kept bt) w (ZT Aa.out bt) ?_;intro w9 hby hyb hot;have HR:=hid hby;have Ka:=hid hyb;have Na:=hid hot;clear hby hyb hot;have Ub:=hid (UnX.putq (w0:=w0) Na.out (B2.out.kept bt) (by decide));have Ce:Hid (∀ ua uc us,UnX w0 V ua uc us->UnX w0 w9 ua uc us):=fun _ _ _ hu=>Ub.out _ _ _ (hu.kept bt))|((with_reducible refine Zah 35 ?_);refine Za6 rfl 35 (.tmp 8) rfl (w.heap.size+1+1+1) [.int .i64 1,.slice none 0 0,.string ⟨#[]⟩] 35 rfl (B3.out.kept bt) _ underlying35 rfl (by kernel_rfl) ?_;intro v hv;obtain rfl:=hv.out)|fail)
       all_goals
        ((try simp only[Exit.inBlock,Exit.then]);refine rb2 HR.out ?_;first|exact TyR.bad (by rw[HZ.out];simp_all) (by rw[HT.out,HZ.out];simp_all) (by first|decide|assumption) Ka.out|exact TyR.kind (by rw[HZ.out];simp_all) (by rw[HT.out,HZ.out];simp_all) Ka.out|exact TyR.good (by rw[HZ.out];simp_all) (by rw[HT.out,HZ.out];simp_all) rfl (Ub.out _ _ _ Jd.out) Ka.out|exact TyR.good (by rw[HZ.out];simp_all) (by rw[HT.out,HZ.out];simp_all) rfl (Ce.out _ _ _ HA.out) Ka.out)
    · rcases h with h|h
      all_goals
       have hc:cd=2:=by rw[Bg.out];simp[h]
       have HZ:Hid (z=(if nb=true then ru else((a_k==4)&&(b_k==4)))):=by show _=_;rw[Vd.out,hc];rfl
       have HT:Hid (t=(if z=true then(⟨1,[],⟨#[]⟩⟩:Ta)else Ta.zero)):=by show _=_;rw[Hc.out,hc];rfl
       clear hc Vd Hc Bg
       go_wp2_with (first|(go_at_call 231;refine(Hrs.out _ _ _ _ _ ((HA.out.kept bt).is (Ga.out.trans (Below.mono bt Ga.out.size))) ((HB.out.kept bt).is (Ga.out.trans (Below.mono bt Ga.out.size)))).mono ?_;rintro e w' ⟨rfl,hb⟩;have HW:Hid (Below V.heap.size V w'):=ZT bt hb;clear hb;have KK:=HS.out _ HW.out;obtain⟨Xa,Va,Ua,Oc,Nc,Mc⟩:=KK;try cases rs)|(go_at_call 205;refine(Hru.out _ _ _ _ _ ((HA.out.kept bt).is (Ga.out.trans (Below.mono bt Ga.out.size))) ((HB.out.kept bt).is (Ga.out.trans (Below.mono bt Ga.out.size)))).mono ?_;rintro e w' ⟨rfl,hb⟩;have HW:Hid (Below V.heap.size V w'):=ZT bt hb;clear hb;have KK:=HS.out _ HW.out;obtain⟨Xa,Va,Ua,Oc,Nc,Mc⟩:=KK;try cases ru)|((with_reducible refine Zaq 35 ?_);refine Zae rfl 35 #[] rfl _ (fun w=>ZaX w) ?_;intro v hv)|((with_reducible refine Zaf 35 ?_);refine SB (B2.out.kept bt) w (ZT Aa.out bt) ?_;intro w9 hby hyb hot;have HR:=hid hby;have Ka:=hid hyb;have Na:=hid hot;clear hby hyb hot;have Ub:=hid (UnX.putq (w0:=w0) Na.out (B2.out.kept bt) (by decide));have Ce:Hid (∀ ua uc us,UnX w0 V ua uc us->UnX w0 w9 ua uc us):=fun _ _ _ hu=>Ub.out _ _ _ (hu.kept bt))|((with_reducible refine Zah 35 ?_);refine Za6 rfl 35 (.tmp 8) rfl (w.heap.size+1+1+1) [.int .i64 1,.slice none 0 0,.string ⟨#[]⟩] 35 rfl (B3.out.kept bt) _ underlying35 rfl (by kernel_rfl) ?_;intro v hv;obtain rfl:=hv.out)|fail)
       all_goals
        ((try simp only[Exit.inBlock,Exit.then]);refine rb2 HR.out ?_;first|exact TyR.bad (by rw[HZ.out];simp_all) (by rw[HT.out,HZ.out];simp_all) (by first|decide|assumption) Ka.out|exact TyR.kind (by rw[HZ.out];simp_all) (by rw[HT.out,HZ.out];simp_all) Ka.out|exact TyR.good (by rw[HZ.out];simp_all) (by rw[HT.out,HZ.out];simp_all) rfl (Ub.out _ _ _ Jd.out) Ka.out|exact TyR.good (by rw[HZ.out];simp_all) (by rw[HT.out,HZ.out];simp_all) rfl (Ce.out _ _ _ HA.out) Ka.out)
    · have hc:cd=3:=by rw[Bg.out];simp[h]
      have HZ:Hid (z=(nb&&z1)):=by show _=_;rw[Vd.out,hc];rfl
      have HT:Hid (t=(if z=true then(⟨kk,L1,⟨#[]⟩⟩:Ta)else Ta.zero)):=by show _=_;rw[Hc.out,hc];rfl
      clear hc Vd Hc Bg
      go_wp2_with (first|(go_at_call 232;refine(HTI.out _ _ _ _ _ (Ga.out.trans (Below.mono bt Ga.out.size)) (HA.out.kept bt) (HB.out.kept bt)).mono ?_;rintro e w5 ⟨a5,c5,k5,rfl,Ea,Fa,Ed,hb⟩;have Jd:=hid Ed;have Db:Hid (Below V.heap.size V w5):=ZT bt hb;clear hb Ed;have KK:=HS.out _ Db.out;obtain⟨Xa,Va,Ua,Oc,Nc,Mc⟩:=KK;rcases retz Ea Fa with⟨hzz,rfl⟩|⟨hzz,Rd⟩<;>clear Ea Fa)|((with_reducible refine Zaq 35 ?_);refine Zae rfl 35 #[] rfl _ (fun w=>ZaX w) ?_;intro v hv)|((with_reducible refine Zaf 35 ?_);refine SB (B2.out.kept bt) w (ZT Aa.out bt) ?_;intro w9 hby hyb hot;have HR:=hid hby;have Ka:=hid hyb;have Na:=hid hot;clear hby hyb hot;have Ub:=hid (UnX.putq (w0:=w0) Na.out (B2.out.kept bt) (by decide));have Ce:Hid (∀ ua uc us,UnX w0 V ua uc us->UnX w0 w9 ua uc us):=fun _ _ _ hu=>Ub.out _ _ _ (hu.kept bt))|((with_reducible refine Zah 35 ?_);refine Za6 rfl 35 (.tmp 8) rfl (w.heap.size+1+1+1) [.int .i64 1,.slice none 0 0,.string ⟨#[]⟩] 35 rfl (B3.out.kept bt) _ underlying35 rfl (by kernel_rfl) ?_;intro v hv;obtain rfl:=hv.out)|fail)
      all_goals
       ((try simp only[Exit.inBlock,Exit.then]);refine rb2 HR.out ?_;first|exact TyR.bad (by rw[HZ.out];simp_all) (by rw[HT.out,HZ.out];simp_all) (by first|decide|assumption) Ka.out|exact TyR.kind (by rw[HZ.out];simp_all) (by rw[HT.out,HZ.out];simp_all) Ka.out|exact TyR.good (by rw[HZ.out];simp_all) (by rw[HT.out,HZ.out];simp_all) rfl (Ub.out _ _ _ Jd.out) Ka.out|exact TyR.good (by rw[HZ.out];simp_all) (by rw[HT.out,HZ.out];simp_all) rfl (Ce.out _ _ _ HA.out) Ka.out)
    · have hc:cd=4:=by rw[Bg.out];simp[h]
      have HZ:Hid (z=(nb&&z2)):=by show _=_;rw[Vd.out,hc];rfl
      have HT:Hid (t=(if z=true then(⟨3,L2,⟨#[]⟩⟩:Ta)else Ta.zero)):=by show _=_;rw[Hc.out,hc];rfl
      clear hc Vd Hc Bg
      go_wp2_with (first|(go_at_call 233;refine(Ll.out _ _ _ _ _ (Ga.out.trans (Below.mono bt Ga.out.size)) (HA.out.kept bt) (HB.out.kept bt)).mono ?_;rintro e w5 ⟨a5,c5,k5,rfl,Ea,Fa,Ed,hb⟩;have Jd:=hid Ed;have Db:Hid (Below V.heap.size V w5):=ZT bt hb;clear hb Ed;have KK:=HS.out _ Db.out;obtain⟨Xa,Va,Ua,Oc,Nc,Mc⟩:=KK;rcases retz Ea Fa with⟨hzz,rfl⟩|⟨hzz,Rd⟩<;>clear Ea Fa)|((with_reducible refine Zaq 35 ?_);refine Zae rfl 35 #[] rfl _ (fun w=>ZaX w) ?_;intro v hv)|((with_reducible refine Zaf 35 ?_);refine SB (B2.out.kept bt) w (ZT Aa.out bt) ?_;intro w9 hby hyb hot;have HR:=hid hby;have Ka:=hid hyb;have Na:=hid hot;clear hby hyb hot;have Ub:=hid (UnX.putq (w0:=w0) Na.out (B2.out.kept bt) (by decide));have Ce:Hid (∀ ua uc us,UnX w0 V ua uc us->UnX w0 w9 ua uc us):=fun _ _ _ hu=>Ub.out _ _ _ (hu.kept bt))|((with_reducible refine Zah 35 ?_);refine Za6 rfl 35 (.tmp 8) rfl (w.heap.size+1+1+1) [.int .i64 1,.slice none 0 0,.string ⟨#[]⟩] 35 rfl (B3.out.kept bt) _ underlying35 rfl (by kernel_rfl) ?_;intro v hv;obtain rfl:=hv.out)|fail)
      all_goals
       ((try simp only[Exit.inBlock,Exit.then]);refine rb2 HR.out ?_;first|exact TyR.bad (by rw[HZ.out];simp_all) (by rw[HT.out,HZ.out];simp_all) (by first|decide|assumption) Ka.out|exact TyR.kind (by rw[HZ.out];simp_all) (by rw[HT.out,HZ.out];simp_all) Ka.out|exact TyR.good (by rw[HZ.out];simp_all) (by rw[HT.out,HZ.out];simp_all) rfl (Ub.out _ _ _ Jd.out) Ka.out|exact TyR.good (by rw[HZ.out];simp_all) (by rw[HT.out,HZ.out];simp_all) rfl (Ce.out _ _ _ HA.out) Ka.out)
    · have hc:cd=5:=by rw[Bg.out];simp[h]
      have HZ:Hid (z=(nb&&ru)):=by show _=_;rw[Vd.out,hc];rfl
      have HT:Hid (t=(if z=true then(⟨kk,us,⟨#[]⟩⟩:Ta)else Ta.zero)):=by show _=_;rw[Hc.out,hc];rfl
      have e0:(op.toList==([97,110,100]:List UInt8))=false:=beq_eq_false_iff_ne.2 h.1
      have e1:(op.toList==([111,114]:List UInt8))=false:=beq_eq_false_iff_ne.2 h.2.1
      have e2:(op.toList==([61,61]:List UInt8))=false:=beq_eq_false_iff_ne.2 h.2.2.1
      have e3:(op.toList==([33,61]:List UInt8))=false:=beq_eq_false_iff_ne.2 h.2.2.2.1
      have e4:(op.toList==([60]:List UInt8))=false:=beq_eq_false_iff_ne.2 h.2.2.2.2.1
      have e5:(op.toList==([60,61]:List UInt8))=false:=beq_eq_false_iff_ne.2 h.2.2.2.2.2.1
      have e6:(op.toList==([42]:List UInt8))=false:=beq_eq_false_iff_ne.2 h.2.2.2.2.2.2.1
      have e7:(op.toList==([47]:List UInt8))=false:=beq_eq_false_iff_ne.2 h.2.2.2.2.2.2.2
      clear h
      clear hc Vd Hc Bg
      go_wp2_with (first|(go_at_call 205;refine(Hru.out _ _ _ _ _ ((HA.out.kept bt).is (Ga.out.trans (Below.mono bt Ga.out.size))) ((HB.out.kept bt).is (Ga.out.trans (Below.mono bt Ga.out.size)))).mono ?_;rintro e w' ⟨rfl,hb⟩;have HW:Hid (Below V.heap.size V w'):=ZT bt hb;clear hb;have KK:=HS.out _ HW.out;obtain⟨Xa,Va,Ua,Oc,Nc,Mc⟩:=KK;try cases ru)|((with_reducible refine Zaq 35 ?_);refine Zae rfl 35 #[] rfl _ (fun w=>ZaX w) ?_;intro v hv)|((with_reducible refine Zaf 35 ?_);refine SB (B2.out.kept bt) w (ZT Aa.out bt) ?_;intro w9 hby hyb hot;have HR:=hid hby;have Ka:=hid hyb;have Na:=hid hot;clear hby hyb hot;have Ub:=hid (UnX.putq (w0:=w0) Na.out (B2.out.kept bt) (by decide));have Ce:Hid (∀ ua uc us,UnX w0 V ua uc us->UnX w0 w9 ua uc us):=fun _ _ _ hu=>Ub.out _ _ _ (hu.kept bt))|((with_reducible refine Zah 35 ?_);refine Za6 rfl 35 (.tmp 8) rfl (w.heap.size+1+1+1) [.int .i64 1,.slice none 0 0,.string ⟨#[]⟩] 35 rfl (B3.out.kept bt) _ underlying35 rfl (by kernel_rfl) ?_;intro v hv;obtain rfl:=hv.out)|fail)
      all_goals
       ((try simp only[Exit.inBlock,Exit.then]);refine rb2 HR.out ?_;first|exact TyR.bad (by rw[HZ.out];simp_all) (by rw[HT.out,HZ.out];simp_all) (by first|decide|assumption) Ka.out|exact TyR.kind (by rw[HZ.out];simp_all) (by rw[HT.out,HZ.out];simp_all) Ka.out|exact TyR.good (by rw[HZ.out];simp_all) (by rw[HT.out,HZ.out];simp_all) rfl (Ub.out _ _ _ Jd.out) Ka.out|exact TyR.good (by rw[HZ.out];simp_all) (by rw[HT.out,HZ.out];simp_all) rfl (Ce.out _ _ _ HA.out) Ka.out)
end Go.Proofs.YtfnpfkgmacaboaaGreat
