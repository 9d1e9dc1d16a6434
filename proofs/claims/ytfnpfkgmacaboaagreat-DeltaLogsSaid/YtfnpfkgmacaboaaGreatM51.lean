/- Texts joined by a program. -/
import Derived.Test.YtfnpfkgmacaboaaGreatM34
import Derived.Test.YtfnpfkgmacaboaaGreatM46
import Derived.Test.YtfnpfkgmacaboaaGreatM50
namespace Go.Proofs.YtfnpfkgmacaboaaGreat
open Lib (hid)
open Go.ChangeShapes Go.WideShapes Go.ChangeAt Go.RowKit
set_option linter.unusedVariables false
set_option linter.unusedSimpArgs false
set_option maxRecDepth 100000
set_option maxHeartbeats 4000000
open Go.Maps
theorem next_len {l:List En}{x:En}{w:World}(h:LogOk (l++[x]) w)(hb:∀ y∈l++[x],OkF y.base){ds:List Dl}(hd:ds.map Dl.kn=consK ((nextL l x).map Dl.kn)):ds.length<=200:=by
 have h1:ds.length=(ds.map Dl.kn).length:=by simp
 rw[hd]at h1
 have h2:=consK_len ((nextL l x).map Dl.kn)
 have h3:=effL_len hb h.seqs 1099511627776
 have h4:=effL_len (l:=l) (fun y hy=>hb y (List.mem_append_left _ hy)) (fun y hy=>h.seqs y (List.mem_append_left _ hy)) 1099511627776
 have h5:=h.1
 have h6:(nextL l x).length=(effL l 1099511627776).length+(effL (l++[x]) 1099511627776).length:=by
  unfold nextL betD
  rw[List.length_append,List.length_map,List.length_map]
  try omega
 simp at h2 h3 h4 h5
 omega
theorem from_len2 {l:List En}(h5:l.length<=60)(hb:∀ y∈l,OkF y.base)(hs:∀ y∈l,y.kind=1->1<=y.seq){ds:List Dl}(hd:ds.map Dl.kn=consK (fromK l)):ds.length<=7200:=by
 have h1:ds.length=(ds.map Dl.kn).length:=by simp
 rw[hd]at h1
 have h2:=consK_len (fromK l)
 have h3:=(frS_len (effL_len hb hs) l.length).1
 have h4:(fromK l).length=(frS l l.length).1.length:=by simp[fromK,fromL]
 have h6:l.length*(2*l.length)<=60*(2*60):=Nat.mul_le_mul h5 (by omega)
 omega
theorem TabRun.pre {w:World}{l:List En}{x:En}:∀ {n:Nat} {T:List Tb},TabRun w (l++[x]) n T->n<=l.length->TabRun w l n T
 |_,_,.zero,_=>.zero
 |_,_,.succ (i:=n) (x:=y) h hx ho hs hk,hn=>by
  have Eg:l[n]?=some y:=by rw[<-hx,List.getElem?_append_left (by omega)]
  refine .succ (h.pre (by omega)) Eg ⟨?_,ho.2⟩ hs hk
  obtain⟨h1,h2,h3,h4,h5⟩:=ho.1
  exact⟨h1,h2,h3,h4,fun p z hp hz=>h5 p z hp (by rw[List.getElem?_append_left (by omega)];exact hz)⟩
theorem TabRun.pre_at {w:World}{l:List En}{n:Nat}{T:List Tb}(h:TabRun w l n T):∀ j,j<=n->∃ T1,TabRun w l j T1:=fun j hj=>by
 by_cases e:j=n
 · subst e;exact⟨T,h⟩
 · obtain⟨x,T1,T2,h1,-⟩:=h.at_ j (by omega)
   exact⟨T1,h1⟩
def EraAll (l:List En)(w:World):Prop:=∀ (a:Option Addr) (c:Nat) (w':World),l.length<=c->Below w.heap.size w w'->Zac En.cells 40 w' a l->Calls Tryz.prog 70 #[.slice a l.length c] w' (Zej l w')
theorem LogOk.era {l:List En}{w:World}(h:LogOk l w)(hs:∀ e∈l,e.Seen w):EraAll l w:=by
 obtain⟨h1,h2,T,hT⟩:=h
 exact fun a c w' hc hb hl=>Zer l a c h1 hc w' w hb hl (fun e he=>(hs e he).cg (h2 e he)) T hT
theorem LogOk.eraPre {l:List En}{x:En}{w:World}(h:LogOk (l++[x]) w)(hs:∀ e∈l++[x],e.Seen w):EraAll l w:=by
 obtain⟨h1,h2,T,hT⟩:=h
 obtain⟨T1,h3⟩:=hT.pre_at l.length (by simp)
 exact fun a c w' hc hb hl=>Zer l a c (by simp at h1;omega) hc w' w hb hl (fun e he=>(hs e (List.mem_append_left _ he)).cg (h2 e (List.mem_append_left _ he))) T1 (h3.pre (Nat.le_refl _))
set_option maxHeartbeats 8000000 in
theorem llogs_any (l:List En)(ao:Option Addr)(c:Nat)(x:En)(hl:(l.length+1)*528<=140737488355328)(hlc:l.length<=c)(hsp:∀ a,ao=some a->a.spot=none)(w:World)(h:Zac En.cells 40 w ao l)(hs:∀ e∈l,e.Seen w)(hx:x.Seen w) :
 Calls Tryz.prog 3 #[.slice ao l.length c,.agg x.cells.toArray] w fun e w'=>e=.returned (.bool true)/\Below w.heap.size w w':=by
 have H1:=hid h
 obtain⟨L,hL⟩:∃ L,L=l++[x]:=⟨_,rfl⟩
 have Nh:=hid hL
 have Iw:=hid hs
 have HS:Hid (∀ e∈L,e.Seen w):=by
  intro e he
  rw[hL]at he
  rcases List.mem_append.1 he with he|he
  · exact hs e he
  · simp at he;rw[he];exact hx
 have Yb:Hid (l.length+1=L.length):=by show _=_;rw[hL];simp
 have Hj:Hid (∀ w',Below w.heap.size w w'->Calls Tryz.prog 11 #[.slice ao l.length c,.agg x.cells.toArray] w' (fun e w2=>∃ a2 c2,e=.returned (.slice a2 L.length c2)/\Zac En.cells 40 w2 a2 L/\Below w'.heap.size w' w2)):=fun w' hb=>(behind_any l ao c hl x w' (h.kept hb)).mono (by
  rintro e w2 ⟨a,c2,rfl,-,-,h2,Sd⟩
  rw[Yb.out]
  exact⟨a,c2,rfl,hL ▸ h2,Sd⟩)
 have HL:Hid (L.length<=140737488355328):=by show _<=_;rw[<-Yb.out];omega
 have Ym:=hid hsp
 clear h hs hl hx hsp hL
 go_enter Tryz.func3,Tryz.ntmps3
 go_upto_region 1 with(first|(refine ZaO rfl 48 (.tmp 1) rfl x.cells rfl ?_)|fail)
 refine Zan (fun W hW=>?_)
 have Za:Hid (Box W w.heap.size x.cells.toArray 48):=by rw[hW];exact Zb4 ..
 have Aa:Hid (Below w.heap.size w W):=by rw[hW];exact Zab _
 clear hW
 try simp only[Act.put,m1,m2,m3]
 go_upto_region 3 with(first|(go_at_call 9;refine(example_any _).mono ?_;rintro e w1 ⟨rfl,hb⟩;have Jh:Hid (Below w.heap.size w w1):=ZT Aa.out hb;have Sh:Hid (∀ w',Below w1.heap.size w1 w'->∀ j v,x.cells[j]?=some v->w'.cell? ⟨w.heap.size,0+j,none⟩=some v):=(fun w' hb' j v hj=>by rw[Nat.zero_add];exact((Za.out.kept hb).kept hb').cell j v (by rw[List.getElem?_toArray];exact hj));clear hb)|fail)
 go_upto_region 5 with(first
  |(refine Zal rfl 48 _ rfl w.heap.size 0 x.cells rfl (Sh.out _ (Below.refl _ _)) _ Tryz.underlying48 rfl (by kernel_rfl) ?_)
  |(go_at_call 11;refine(Hj.out _ Jh.out).mono ?_;rintro e w2 ⟨a2,c2,rfl,h2,hb⟩;have H2:=hid h2;have Gl:=hid hb;have Wb:Hid (Below w.heap.size w w2):=ZT Jh.out hb;have Zi:Hid (True):=trivial;clear h2 hb)
  |(go_at_call 10;(with_reducible refine(lvalid_any L _ _ HL.out _ H2.out (fun e he=>(HS.out e he).kept Wb.out)).mono ?_);rintro e w3 ⟨b,rfl,hq,hb⟩;have HQ:=hid hq;have Pc:=hid hb;have Yg:Hid (Below w.heap.size w w3):=ZT Wb.out hb;clear hq hb;cases b)
  |(go_at_call 10;(with_reducible refine(lvalid_any l _ _ (by have:=HL.out;have:=Yb.out;omega) _ (H1.out.kept Yg.out) (fun e he=>(Iw.out e he).kept Yg.out)).mono ?_);rintro e w4 ⟨b,rfl,hq,hb⟩;have HQ4:=hid hq;have Es:=hid hb;have Vm:Hid (Below w.heap.size w w4):=ZT Yg.out hb;clear hq hb;cases b)
  |(go_at_call 13;have Ma:Hid (LogOk l w3):=HQ4.out (by first|rfl|trivial);have Wl:Hid (EnsAt w3 ao l):=Ma.out.ens (H1.out.kept Yg.out) (fun e he=>(Iw.out e he).kept Yg.out);have Ak:Hid (EraAll l w3):=Ma.out.era (fun e he=>(Iw.out e he).kept Yg.out);have Nb:Hid (l.length<=60):=Ma.out.1;have HEQ:Hid (∀ ds es:List Dl,ds.map Dl.kn=consK ((fromL l).map Dl.kn)->es.map Dl.kn=consK ((frK l l.length).1.map Dl.kn)->ds.map Dl.kn=es.map Dl.kn):=(fun ds es h1 h2=>by rw[h1,h2];exact(frK_cons Wl.out.bases l.length).symm);have Yj:Hid (∀ ds:List Dl,ds.map Dl.kn=consK ((fromL l).map Dl.kn)->ds.length<=7200):=(fun ds h1=>from_len2 Ma.out.1 Wl.out.bases Ma.out.seqs h1);refine(ZeK l _ _ (by have:=Nb.out;omega) _ (Wl.out.kept Es.out)).mono ?_;rintro e z1 ⟨v,d1,rfl,hsl,hk,hb⟩;obtain⟨a1,c1,rfl,-,Yd,hd⟩:=hsl;have Ck:=hid hd;have Oh:=hid hk;have Jb:Hid (Below w3.heap.size w3 z1):=ZT Es.out hb;clear hd hk hb Yd)
  |(go_at_call 14;refine(from_any20 l _ _ (by have:=Nb.out;omega) _ (Wl.out.kept Jb.out) (fun w9 Mk=>Ak.out _ _ _ hlc (ZT Jb.out Mk) (Wl.out.1.kept (ZT Jb.out Mk)))).mono ?_;rintro e z3 ⟨v,d3,rfl,hsl,hk,hb⟩;obtain⟨a3,c3,rfl,-,Un,hd⟩:=hsl;have Ev:=hid hd;have Rl:=hid hk;have Ck:=hid (Ck.out.kept hb);have Fl:Hid (Below w3.heap.size w3 z3):=ZT Jb.out hb;clear hd hk hb Un)
  |(go_at_call 12;refine(ZeE d1 d3 _ _ _ _ (by have:=Yj.out _ Oh.out;omega) _ Ck.out Ev.out).mono ?_;rintro e z4 ⟨rfl,hb⟩;have Nk:Hid (Below w3.heap.size w3 z4):=ZT Fl.out hb;rw[decide_eq_true (show d1.map Dl.kn=d3.map Dl.kn from HEQ.out _ _ Oh.out Rl.out)];clear hb)
  |fail)
 all_goals first
  |(go_ret;first|exact⟨rfl,Vm.out⟩|exact⟨rfl,Yg.out.trans (Nk.out.mono Yg.out.size)⟩)
  |skip
 have Ma:Hid (LogOk L w2):=HQ.out (by first|rfl|trivial)
 have Wl:Hid (EnsAt w2 a2 L):=Ma.out.ens H2.out (fun e he=>(HS.out e he).kept Wb.out)
 have Xl:Hid (EnsAt w2 ao l/\x.Ok w2):=⟨⟨H1.out.kept Wb.out,fun e he=>Wl.out.2 e (by rw[Nh.out];exact List.mem_append_left _ he)⟩,Wl.out.2 x (by rw[Nh.out];simp)⟩
 have Nb:Hid (L.length<=60/\l.length<=60):=by have:=Ma.out.1;have:=Yb.out;exact⟨by omega,by omega⟩
 have Wr:Hid (∀ w',Below w3.heap.size w3 w'->∀ j v,x.cells[j]?=some v->w'.cell? ⟨w.heap.size,0+j,none⟩=some v):=fun w' hb=>Sh.out w' ((Gl.out.trans (Pc.out.mono Gl.out.size)).trans (hb.mono (Gl.out.trans (Pc.out.mono Gl.out.size)).size))
 have Wd:Hid (LogOk (l++[x]) w2):=Nh.out ▸ Ma.out
 have Ag:Hid (∀ e∈l++[x],e.Seen w2):=fun e he=>(HS.out e (by rw[Nh.out];exact he)).kept Wb.out
 have On:Hid ((∀ y∈l,y.kind=1->1<=y.seq)/\(∀ y∈l,OkF y.base)/\(∀ y∈l++[x],OkF y.base)):=by
  refine⟨fun y hy=>Ma.out.seqs y (by rw[Nh.out];exact List.mem_append_left _ hy),fun y hy=>Xl.out.1.bases y hy,fun y hy=>Wl.out.bases y (by rw[Nh.out];exact hy)⟩
 have Ak:Hid (EraAll l w2/\EraAll (l++[x]) w2):=⟨Wd.out.eraPre Ag.out,Wd.out.era Ag.out⟩
 have Wx:Hid (∀ ds es:List Dl,ds.map Dl.kn=consK ((fromL l).map Dl.kn)->es.map Dl.kn=consK ((frK l l.length).1.map Dl.kn)->ds.map Dl.kn=es.map Dl.kn):=fun ds es h1 h2=>by rw[h1,h2];exact(frK_cons On.out.2.1 l.length).symm
 have Vx:Hid (∀ ds es:List Dl,ds.map Dl.kn=consK ((nextL l x).map Dl.kn)->es.map Dl.kn=consK ((ZcW l x).map Dl.kn)->ds.map Dl.kn=es.map Dl.kn):=fun ds es h1 h2=>by rw[h1,h2];exact(nextB20_cons On.out.2.2).symm
 have Yj:Hid (∀ ds:List Dl,ds.map Dl.kn=consK ((fromL l).map Dl.kn)->ds.length<=7200):=fun ds h1=>from_len2 Nb.out.2 On.out.2.1 On.out.1 h1
 have Ol:Hid (∀ ds:List Dl,ds.map Dl.kn=consK ((nextL l x).map Dl.kn)->ds.length<=200):=fun ds h1=>next_len Wd.out On.out.2.2 h1
 clear HQ Ma Wd Ag
 refine wrt (S:=fun w'=>Below w3.heap.size w3 w') (.free 0 (.free 2 (.one 1 (.one 3 (.one 4 (.free 5 (.free 6 (.free 7 (.free 9 (.free 10 (.one 8 (.one 11 (.one 12 (.free 13 (.free 14 .done))))))))))))))) (ZD (ZR w3)) ?_
 refine tk0 (.slice ao l.length c) ?_
 refine tk0 (.slice ao l.length c) ?_
 refine t1 fun K hK=>?_
 go_wp2_with (go_at_call 13;refine(ZeK l _ _ (by have:=Nb.out.2;omega) _ (Xl.out.1.kept (Pc.out.trans (((ZD (ZR w3))).mono Pc.out.size)))).mono ?_;rintro e z1 ⟨v,d1,rfl,hsl,hk,hb⟩;obtain⟨a1,c1,rfl,-,Yd,hd⟩:=hsl;have Ck:=hid hd;have We:=hid Yd;have Oh:=hid hk;have Jb:Hid (Below w3.heap.size w3 z1):=ZT (ZD (ZR w3)) hb;clear hd hk hb Yd)
 refine hk hK Jb.out ?_
 clear hK K
 refine t1 fun K hK=>?_
 go_wp2_with (go_at_call 14;refine(from_any20 l _ _ (by have:=Nb.out.2;omega) _ (Xl.out.1.kept (Pc.out.trans ((Jb.out).mono Pc.out.size))) (fun w9 Mk=>Ak.out.1 _ _ _ hlc (ZT Pc.out (ZT Jb.out Mk)) (Xl.out.1.1.kept (ZT Pc.out (ZT Jb.out Mk))))).mono ?_;rintro e z3 ⟨v,d3,rfl,hsl,hk,hb⟩;obtain⟨a3,c3,rfl,-,Un,hd⟩:=hsl;have Ev:=hid hd;have Cn:=hid Un;have Rl:=hid hk;have Fl:Hid (Below w3.heap.size w3 z3):=ZT Jb.out hb;have Ck:=hid (Ck.out.kept hb);clear hd hk hb Un)
 refine hk hK Fl.out ?_
 clear hK K
 refine t1 fun K hK=>?_
 go_wp2_with (go_at_call 12;refine(ZeE d1 d3 _ _ _ _ ((by have:=Yj.out _ Oh.out;omega)) _ Ck.out Ev.out).mono ?_;rintro e z4 ⟨rfl,hb⟩;have Nk:Hid (Below w3.heap.size w3 z4):=ZT Fl.out hb;rw[decide_eq_true (show d1.map Dl.kn=d3.map Dl.kn from Wx.out _ _ Oh.out Rl.out)];clear hb)
 refine hk hK Nk.out ?_
 clear hK K
 refine tk0 (.bool true) ?_
 refine tk0 (.slice ao l.length c) ?_
 refine tl w.heap.size 0 x.cells (fun w hS=>Wr.out w hS) ?_
 refine tk0 (.slice ao l.length c) ?_
 refine tl w.heap.size 0 x.cells (fun w hS=>Wr.out w hS) ?_
 refine t1 fun K hK=>?_
 go_wp2_with (go_at_call 15;refine(next_any l _ _ x (by have:=Nb.out.2;omega) Ym.out _ (Xl.out.1.kept (Pc.out.trans ((Nk.out).mono Pc.out.size))) (Xl.out.2.kept (Pc.out.trans ((Nk.out).mono Pc.out.size)))).mono ?_;rintro e z8 ⟨v,d8,rfl,hsl,hk,hb⟩;obtain⟨a8,c8,rfl,-,hn8,hd⟩:=hsl;have Zx:=hid hd;have HN8:=hid hn8;have Dn:=hid hk;have Yn:Hid (Below w3.heap.size w3 z8):=ZT Nk.out hb;clear hd hk hb hn8)
 refine hk hK Yn.out ?_
 clear hK K
 refine t1 fun K hK=>?_
 go_wp2_with (go_at_call 16;refine(next_any20 l _ _ x (by have:=Nb.out.2;omega) _ (Xl.out.1.kept (Pc.out.trans ((Yn.out).mono Pc.out.size))) (Xl.out.2.kept (Pc.out.trans ((Yn.out).mono Pc.out.size))) (fun w9 Mk=>Ak.out.1 _ _ _ hlc (ZT Pc.out (ZT Yn.out Mk)) (Xl.out.1.1.kept (ZT Pc.out (ZT Yn.out Mk)))) (fun a9 k9 w9 hk9 Mk Vq=>Ak.out.2 _ _ _ hk9 (ZT Pc.out (ZT Yn.out Mk)) Vq)).mono ?_;rintro e z11 ⟨v,d11,rfl,hsl,hk,hb⟩;obtain⟨a11,c11,rfl,-,Qq,hd⟩:=hsl;have Bp:=hid hd;have HN11:=hid Qq;have Kx:=hid hk;have Rr:Hid (Below w3.heap.size w3 z11):=ZT Yn.out hb;have Zx:=hid (Zx.out.kept hb);clear hd hk hb Qq)
 refine hk hK Rr.out ?_
 clear hK K
 refine t1 fun K hK=>?_
 go_wp2_with (go_at_call 12;refine(ZeE d8 d11 _ _ _ _ ((by have:=Ol.out _ Dn.out;omega)) _ Zx.out Bp.out).mono ?_;rintro e z12 ⟨rfl,hb⟩;have Qr:Hid (Below w3.heap.size w3 z12):=ZT Rr.out hb;rw[decide_eq_true (show d8.map Dl.kn=d11.map Dl.kn from Vx.out _ _ Dn.out Kx.out)];clear hb)
 refine hk hK Qr.out ?_
 clear hK K
 refine tk0 (.bool true) ?_
 refine tk0 (.bool true) ?_
 refine ZaP ?_
 go_wp2_with fail
 go_ret
 exact⟨rfl,Yg.out.trans (Qr.out.mono Yg.out.size)⟩
end Go.Proofs.YtfnpfkgmacaboaaGreat
