/- Texts joined by a program. -/
import Derived.Test.YtfnpfkgmacaboaaGreatM45
namespace Go.Proofs.YtfnpfkgmacaboaaGreat
open Go.Proofs.Tryz
open Lib (hid)
open Go.ChangeShapes Go.WideShapes Go.ChangeAt Go.RowKit
set_option linter.unusedVariables false
set_option linter.unusedSimpArgs false
set_option maxRecDepth 100000
set_option maxHeartbeats 4000000
theorem nofact_any (f_is:ByteArray)(f_iq:Int)(f_k:Int)(f_r:Int)(f_t:ByteArray)(f_y:ByteArray)(f_e:Int)(f_fa:Option Addr)(f_fn:Nat)(f_fc:Nat)(w:World):Calls prog 135 #[.agg #[.string f_is,.int .i64 f_iq,.int .i64 f_k,.int .i64 f_r,.string f_t,.string f_y,.int .i64 f_e,.slice f_fa f_fn f_fc]] w (GotB w):=by
 go_enter func135,ntmps135
 go_upto_region 1 with fail
 refine gen1 (fun V B0 Aa=>?_)
 have HS:=hs1 B0
 simp only[Cl,Nat.reduceAdd]at HS
 have KK:=HS.out V (ZR V)
 have hg:=fun op a b w=>Zdk 24 (by kernel_rfl) op a b #[.string f_is,.int .i64 f_iq] #[.string ⟨#[]⟩,.int .i64 0] w
 have he:=fun w=>eql36 (f_is,f_iq) (⟨#[]⟩,0) w
 cases hyx:eqF (f_is,f_iq) (⟨#[]⟩,0)
 all_goals
  rw[hyx]at he
  go_wp2_with fail
 all_goals
  go_ret
  exact⟨_,rfl,ZT Aa.out (ZR _)⟩
theorem nochange_any (x:Cg)(w w0:World)(Oa:Below w0.heap.size w0 w)(hx:x.Ok w0):Calls prog 136 #[.agg x.cells.toArray] w (GotB w):=by
 obtain⟨ht,hu,n,hn⟩:=hx
 cases n with
 |zero=>exact hn.elim
 |succ n =>
 obtain⟨us,hl,hus⟩:=hu.is
 obtain⟨rt,h5⟩:=ZdN x.t.m x.t.e x.t.fa x.t.fn x.t.fc x.t.p ⟨#[]⟩ ⟨#[]⟩ none 0 0 0 w0 ht (FdsAt.nil _ _)
 obtain⟨rf,h6⟩:=ZcS x.f.m x.f.e x.f.tk x.f.tua x.f.tuc x.f.tof x.f.b.k x.f.b.o x.f.b.m x.f.b.t x.f.b.vk x.f.b.vn x.f.b.vs x.f.b.ua x.f.b.un x.f.b.uc x.f.b.p x.f.b.wk x.f.b.wz x.f.b.xa x.f.b.xn x.f.b.xc x.f.r
  ⟨#[]⟩ ⟨#[]⟩ 0 none 0 ⟨#[]⟩ 0 ⟨#[]⟩ ⟨#[]⟩ ⟨#[]⟩ 0 0 ⟨#[]⟩ none 0 0 0 0 0 none 0 0 0 us [] w0 (n+1) hn.at ⟨ZaH.nil _ _,by decide,[],rfl,by decide,Zac.nil _ _,fun y hy=>(by cases hy)⟩
 rw[<-hl]at h6
 have HT:=hid h5
 have HX:=hid (fun(w1:World) (hb:Below w0.heap.size w0 w1)=>h6 w1 hb (hus.kept hb) (UnIs.nil _ _))
 have Ja:=hid Oa
 clear ht hu hn Oa h5 h6 hus
 go_enter func136,ntmps136
 go_upto_region 1 with(first|(refine ZaO rfl 46 (.tmp 0) rfl x.cells rfl ?_)|fail)
 refine Zan (fun V hV=>?_)
 have Za:Hid (Box V w.heap.size x.cells.toArray 46):=by rw[hV];exact Zb4 ..
 have Aa:Hid (Below w.heap.size w V):=by rw[hV];exact Zab _
 clear hV
 have Ga:Hid (Below w0.heap.size w0 V):=Ja.out.trans (Aa.out.mono Ja.out.size)
 go_wp2_with (first|((with_reducible refine Zah 32 ?_);refine LV w.heap.size 1 (Tb.cells x.t) (fun j v hj=>Za.out.cell (1+j) v (ZaU (k:=1) (m:=4) hj rfl)) ?_)|((with_reducible refine Zah 44 ?_);refine LV w.heap.size 5 (Ft.cells x.f) (fun j v hj=>Za.out.cell (5+j) v (ZaU (k:=5) (m:=18) hj rfl)) ?_)|((with_reducible refine Zaq 32 ?_);refine Zae rfl 32 #[] rfl zeroT.cells (fun w=>build32 w) ?_;intro v hv;obtain rfl:=hv.out)|((with_reducible refine Zaq 44 ?_);refine Zae rfl 44 #[] rfl zeroFt.cells (fun w=>build44 w) ?_;intro v hv;obtain rfl:=hv.out)|(go_at_call 157;refine(HT.out _ Ga.out).mono ?_;rintro e w' ⟨rfl,hb⟩;have HW:Hid (Below V.heap.size V w'):=hb;have Za:=hid (Za.out.kept hb);clear hb;have x0:=Za.out.cell 0 (.int .i64 x.k) rfl;have x23:=Za.out.cell 23 (.string x.m) rfl;cases rt)|(go_at_call 158;refine(HX.out _ (Ga.out.trans (HW.out.mono Ga.out.size))).mono ?_;rintro e w' ⟨rfl,hb⟩;have HW:Hid (Below V.heap.size V w'):=ZT HW.out hb;have Za:=hid (Za.out.kept hb);clear hb;have x0:=Za.out.cell 0 (.int .i64 x.k) rfl;have x23:=Za.out.cell 23 (.string x.m) rfl;cases rf)|fail)
 all_goals
  go_ret
  exact⟨_,rfl,ZT Aa.out HW.out⟩
theorem erasure_any (x_k:Int)(x_e:ByteArray)(x_y:ByteArray)(x_is:ByteArray)(x_iq:Int)(w:World)(hy:x_y.size<=140737488355328):Calls prog 96 #[.agg #[.int .i64 x_k,.string x_e,.string x_y,.string x_is,.int .i64 x_iq]] w (GotB w):=by
 have HY:=hid hy
 clear hy
 go_enter func96,ntmps96
 go_upto_region 1 with fail
 refine gen1 (fun V B0 Aa=>?_)
 have HS:=hs1 B0
 simp only[Cl,Nat.reduceAdd]at HS
 have KK:=HS.out V (ZR V)
 have hg:=fun op a b w=>Zdk 24 (by kernel_rfl) op a b #[.string x_is,.int .i64 x_iq] #[.string ⟨#[]⟩,.int .i64 0] w
 have he:=fun w=>eql36 (x_is,x_iq) (⟨#[]⟩,0) w
 cases hyx:eqF (x_is,x_iq) (⟨#[]⟩,0)
 all_goals
  rw[hyx]at he
  go_wp2_with (first|(go_at_call 140;refine(name_any _ _).mono ?_;rintro e w' ⟨b,rfl,hb⟩;have HW:Hid (Below V.heap.size V w'):=ZT bt hb;clear hb;have KK:=HS.out _ HW.out;cases b)|(go_at_call 141;refine(key15_any _ HY.out _).mono ?_;rintro e w' ⟨b,rfl,hb⟩;have HW:Hid (Below V.heap.size V w'):=ZT bt hb;clear hb;have KK:=HS.out _ HW.out;cases b)|fail)
 all_goals
  go_ret
  exact⟨_,rfl,ZT Aa.out bt⟩
theorem ZdE (l:List En)(ao:Option Addr)(c at_:Nat)(hl:l.length<=140737488355328)(hat:at_<l.length)(w:World)(h:Zac En.cells 40 w ao l):Calls prog 95 #[.slice ao l.length c,.int .i64 at_] w (GotB w):=by
 have H1:=hid h
 obtain⟨x,hx⟩:∃ x,l[at_]?=some x:=⟨l[at_],List.getElem?_eq_getElem hat⟩
 have Od:=hid hx
 clear h hx
 go_enter func95,ntmps95
 go_wp2_with fail
 go_loopw [5] (fun v wr=>∃ i:Nat,i<=at_/\v=.int .i64 i/\Hid (Below w.heap.size w wr)) (fun v _=>at_ - (intOf v).toNat)
 case atStart=>exact⟨0,by omega,rfl,ZR w⟩
 case round =>
  obtain⟨i,hi,rfl,HB⟩:=hrel
  rename World=>wr
  by_cases hlt:i<at_
  · obtain⟨y,hy⟩:∃ y,l[i]?=some y:=⟨l[i],List.getElem?_eq_getElem (by omega)⟩
    obtain⟨b1,o1,rfl,Da⟩:=(H1.out.kept HB.out).some (by omega)
    have c2:wr.cell? ⟨b1,o1+i*40+2,none⟩=some (.int .i64 y.kind):=Da i y hy 2 _ rfl
    have c3:wr.cell? ⟨b1,o1+i*40+3,none⟩=some (.string y.src):=Da i y hy 3 _ rfl
    have c4:wr.cell? ⟨b1,o1+i*40+4,none⟩=some (.int .i64 y.seq):=Da i y hy 4 _ rfl
    have d3:wr.cell? ⟨b1,o1+at_*40+3,none⟩=some (.string x.src):=Da at_ x Od.out 3 _ rfl
    have d4:wr.cell? ⟨b1,o1+at_*40+4,none⟩=some (.int .i64 x.seq):=Da at_ x Od.out 4 _ rfl
    clear Da hy
    have hg:=fun op a b w=>Zdk 24 (by kernel_rfl) op a b #[.string y.src,.int .i64 y.seq] #[.string x.src,.int .i64 x.seq] w
    have he:=fun w=>eql36 (y.src,y.seq) (x.src,x.seq) w
    cases hk:(y.kind==1)
    all_goals cases hyx:eqF (y.src,y.seq) (x.src,x.seq)
    all_goals
     rw[hyx]at he
     go_wp2_with fail
     go_quiet (fail)
     go_wp2_with fail
     first
      |(go_ret;exact⟨_,rfl,Zad HB.out _⟩)
      |(go_roundw;(case rel=>exact⟨i+1,by omega,by go_num,Zad HB.out _⟩);(case measure=>simp[intOf];omega))
  · go_wp2_with fail
    go_ret
    exact⟨_,rfl,HB.out⟩
theorem eql24 (d:Nat)(x y:FID)(w:World):(Op.equalIn (d+1+1) 24 (fidV x) (fidV y)).run prog w=.ok (eqF x y) w:=by
 have u3:=underlying3
 have u9:=underlying9
 have a3:=Tryz.isAgg3
 have z3:=Tryz.sizeOf3
 have a9:=Tryz.isAgg9
 have z9:=Tryz.sizeOf9
 have hS:prog.underlying 24=some (.struct (prog.fieldsOf 24)):=by kernel_rfl
 have hp:prog.stoodInHeld 24=false:=by kernel_rfl
 rw[run_equalIn_agg w (d+1) 24 _ _ hS hp]
 simp only[Program.fieldsOf,underlying24]
 go_simp
 unfold eqF
 by_cases h1:x.1.toList=y.1.toList<;>by_cases h2:x.2=y.2<;>simp[h1,h2]
theorem eql29 (k:Int)(a b:ByteArray)(x:FID):∃ q:Bool,∀ w,(binOp .eql 29 (.agg #[.int .i64 k,.string a,.string b,.string x.1,.int .i64 x.2]) (.agg #[.int .i64 0,.string ⟨#[]⟩,.string ⟨#[]⟩,.string ⟨#[]⟩,.int .i64 0])).run prog w=.ok (.bool q) w:=by
 have u3:=underlying3
 have u9:=underlying9
 have a3:=Tryz.isAgg3
 have z3:=Tryz.sizeOf3
 have a9:=Tryz.isAgg9
 have z9:=Tryz.sizeOf9
 have a24:=Tryz.isAgg24
 have z24:=Tryz.sizeOf24
 have hS:prog.underlying 29=some (.struct (prog.fieldsOf 29)):=by kernel_rfl
 have hp:prog.stoodInHeld 29=false:=by kernel_rfl
 have Ku:∀ w,(Op.equalIn 9999 24 (.agg #[.string x.1,.int .i64 x.2]) (.agg #[.string ⟨#[]⟩,.int .i64 0])).run prog w=.ok (eqF x (⟨#[]⟩,0)) w:=fun w=>eql24 9997 x (⟨#[]⟩,0) w
 refine⟨decide (k=0)&&decide (a.toList=[])&&decide (b.toList=[])&&eqF x (⟨#[]⟩,0),fun w=>?_⟩
 rw[run_eql_struct,show(10000:Nat)=9999+1 from rfl,run_equalIn_agg w 9999 29 _ _ hS hp]
 simp only[Program.fieldsOf,underlying29]
 clear hS hp
 generalize eqF x (⟨#[]⟩,0)=q at *
 by_cases h1:k=0<;>by_cases h2:a.toList=[]<;>by_cases h3:b.toList=[]<;>cases q<;>simp[Op.eqFields,run_equalIn_int,run_equalIn_string,u3,u9,a3,z3,a9,z9,a24,z24,Ku,h1,h2,h3,Result.andThen,go_sem]
theorem eform_any (e:En)(w w0:World)(Oa:Below w0.heap.size w0 w)(hx:e.cg.Ok w0):Calls prog 93 #[.agg e.cells.toArray] w (GotP (fun b=>b=true->e.kind=1∨e.kind=2∨e.kind=3) w):=by
 have Gj:=hid hx
 have Ja:=hid Oa
 clear hx Oa
 go_enter func93,ntmps93
 go_upto_region 1 with(first|(refine ZaO rfl 48 (.tmp 0) rfl e.cells rfl ?_)|fail)
 refine Zan (fun V hV=>?_)
 have Sg:Hid (Box V w.heap.size e.cells.toArray 48):=by rw[hV];exact Zb4 ..
 have Aa:Hid (Below w.heap.size w V):=by rw[hV];exact Zab _
 clear hV
 have Ga:Hid (Below w0.heap.size w0 V):=Ja.out.trans (Aa.out.mono Ja.out.size)
 obtain⟨q5,Wk⟩:=eql29 e.ek e.een e.eky (e.esr,e.esq)
 have hg:=fun op a b w=>Zdk 29 (by kernel_rfl) op a b #[.int .i64 e.ek,.string e.een,.string e.eky,.string e.esr,.int .i64 e.esq] #[.int .i64 0,.string ⟨#[]⟩,.string ⟨#[]⟩,.string ⟨#[]⟩,.int .i64 0] w
 have m0:=Sg.out.cell 11 (.int .i64 e.ek) rfl
 have hk:e.kind=1∨e.kind=2∨e.kind=3∨(e.kind≠1/\e.kind≠2/\e.kind≠3):=by omega
 cases q5
 all_goals
  go_upto_region 3 with(first|((with_reducible refine Zah 27 ?_);refine LV w.heap.size 3 (En.fct e) (fun j v hj=>Sg.out.cell (3+j) v (ZaU (k:=3) (m:=8) hj rfl)) ?_)|((with_reducible refine Zah 46 ?_);refine LV w.heap.size 16 (Cg.cells e.cg) (fun j v hj=>Sg.out.cell (16+j) v (ZaU (k:=16) (m:=24) hj rfl)) ?_)|(go_at_call 135;refine(nofact_any _ _ _ _ _ _ _ _ _ _ _).mono ?_;rintro ee w' ⟨b,rfl,hb⟩;have HW:Hid (Below V.heap.size V w'):=hb;have Sg:=hid (Sg.out.kept hb);clear hb;have k2:=Sg.out.cell 2 (.int .i64 e.kind) rfl;cases b)|(go_at_call 136;refine(nochange_any e.cg _ w0 (Ga.out.trans (HW.out.mono Ga.out.size)) Gj.out).mono ?_;rintro ee w' ⟨b,rfl,hb⟩;have HW:Hid (Below V.heap.size V w'):=ZT HW.out hb;have Sg:=hid (Sg.out.kept hb);clear hb;have k2:=Sg.out.cell 2 (.int .i64 e.kind) rfl;cases b)|fail)
 all_goals
  rename World=>w5
  have Db:Hid (Below w.heap.size w w5):=ZT Aa.out HW.out
  have m1:=Sg.out.cell 11 (.int .i64 e.ek) rfl
  have m2:=Sg.out.cell 12 (.string e.een) rfl
  have m3:=Sg.out.cell 13 (.string e.eky) rfl
  have m4:=Sg.out.cell 14 (.string e.esr) rfl
  have m5:=Sg.out.cell 15 (.int .i64 e.esq) rfl
  rcases hk with hk|hk|hk|⟨Qh,Ng,Jf⟩
 all_goals
  first|have e1:(e.kind==1)=true:=beq_iff_eq.2 (by omega)|have e1:(e.kind==1)=false:=beq_eq_false_iff_ne.2 (by omega)
  first|have e2:(e.kind==2)=true:=beq_iff_eq.2 (by omega)|have e2:(e.kind==2)=false:=beq_eq_false_iff_ne.2 (by omega)
  first|have e3:(e.kind==3)=true:=beq_iff_eq.2 (by omega)|have e3:(e.kind==3)=false:=beq_eq_false_iff_ne.2 (by omega)
  go_wp2_with fail
  go_ret
  refine⟨_,rfl,fun h=>?_,Db.out⟩
  first|omega|cases h
theorem key5_any (s:ByteArray)(w:World)(hs:s.size<=140737488355328):Calls prog 159 #[.string s] w (GotB w):=let ⟨r,h⟩:=key5_det s hs;(h w).mono fun _ _ q=>⟨r,q.1,q.2⟩
theorem formed_any (e:En)(w:World)(hy:e.ky.size<=140737488355328):Calls prog 137 #[.agg e.fct.toArray] w (GotP (fun b=>b=true->1<=e.seq/\(e.fk=1∨e.fk=2∨e.fk=3)) w):=by
 have Ro:=hid hy
 clear hy
 go_enter func137,ntmps137
 go_upto_region 1 with(first|(refine ZaO rfl 27 (.tmp 0) rfl e.fct rfl ?_)|fail)
 refine Zan (fun V hV=>?_)
 have Ha:Hid (Box V w.heap.size e.fct.toArray 27):=by rw[hV];exact Zb4 ..
 have Aa:Hid (Below w.heap.size w V):=by rw[hV];exact Zab _
 clear hV
 have HW:Hid (Below V.heap.size V V):=ZR V
 have f0:=Ha.out.cell 0 (.string e.src) rfl
 have f1:=Ha.out.cell 1 (.int .i64 e.seq) rfl
 have f2:=Ha.out.cell 2 (.int .i64 e.fk) rfl
 have f3:=Ha.out.cell 3 (.int .i64 e.ref) rfl
 have f4:=Ha.out.cell 4 (.string e.tb) rfl
 have f5:=Ha.out.cell 5 (.string e.ky) rfl
 have f6:=Ha.out.cell 6 (.int .i64 e.ev) rfl
 have f7:=Ha.out.cell 7 (.slice e.fa e.vs.length e.fc) rfl
 have hk:e.fk=1∨e.fk=2∨e.fk=3∨(e.fk≠1/\e.fk≠2/\e.fk≠3):=by omega
 cases h1:decide (e.seq<1)
 all_goals cases h2:decide ((1099511627776:Int)<e.seq)
 all_goals
  have Ck:=hid h1
  rcases hk with hk|hk|hk|⟨Qh,Ng,Jf⟩
 all_goals
  first|have e1:(e.fk==1)=true:=beq_iff_eq.2 (by omega)|have e1:(e.fk==1)=false:=beq_eq_false_iff_ne.2 (by omega)
  first|have e2:(e.fk==2)=true:=beq_iff_eq.2 (by omega)|have e2:(e.fk==2)=false:=beq_eq_false_iff_ne.2 (by omega)
  first|have e3:(e.fk==3)=true:=beq_iff_eq.2 (by omega)|have e3:(e.fk==3)=false:=beq_eq_false_iff_ne.2 (by omega)
  go_wp2_with (first|(go_at_call 140;refine(name_any _ _).mono ?_;rintro ee w' ⟨b,rfl,hb⟩;have HW:Hid (Below V.heap.size V w'):=ZT HW.out hb;have Ha:=hid (Ha.out.kept hb);clear hb;have f0:=Ha.out.cell 0 (.string e.src) rfl;have f1:=Ha.out.cell 1 (.int .i64 e.seq) rfl;have f2:=Ha.out.cell 2 (.int .i64 e.fk) rfl;have f3:=Ha.out.cell 3 (.int .i64 e.ref) rfl;have f4:=Ha.out.cell 4 (.string e.tb) rfl;have f5:=Ha.out.cell 5 (.string e.ky) rfl;have f6:=Ha.out.cell 6 (.int .i64 e.ev) rfl;have f7:=Ha.out.cell 7 (.slice e.fa e.vs.length e.fc) rfl;cases b)|(go_at_call 159;refine(key5_any _ _ Ro.out).mono ?_;rintro ee w' ⟨b,rfl,hb⟩;have HW:Hid (Below V.heap.size V w'):=ZT HW.out hb;have Ha:=hid (Ha.out.kept hb);clear hb;have f0:=Ha.out.cell 0 (.string e.src) rfl;have f1:=Ha.out.cell 1 (.int .i64 e.seq) rfl;have f2:=Ha.out.cell 2 (.int .i64 e.fk) rfl;have f3:=Ha.out.cell 3 (.int .i64 e.ref) rfl;have f4:=Ha.out.cell 4 (.string e.tb) rfl;have f5:=Ha.out.cell 5 (.string e.ky) rfl;have f6:=Ha.out.cell 6 (.int .i64 e.ev) rfl;have f7:=Ha.out.cell 7 (.slice e.fa e.vs.length e.fc) rfl;cases b)|fail)
 all_goals
  go_ret
  refine⟨_,rfl,fun h=>?_,ZT Aa.out HW.out⟩
  first
   |(exfalso;cases h;done)
   |(have:=of_decide_eq_false Ck.out;exact⟨by omega,by omega⟩)
def FactPost (l:List Tb)(e:En)(w:World)(q:Ending)(w':World):Prop:=∃ k:Int,q=.returned (.int .i64 k)/\(k=0->1<=e.seq/\(e.fk=1∨e.fk=2∨e.fk=3)/\(e.fk≠3->∃ t,findT l e.tb=some t))/\Below w.heap.size w w'
theorem check13_any (c:Ct)(e:En)(l:List Tb)(w w0:World)(hn:c.tn=l.length)(hll:l.length<=100000)(hok:∀ t∈l,FdsAt w0 t.fa t.fn)(h:Zac Tb.cells 4 w c.ta l)(Oa:Below w0.heap.size w0 w)(he:e.Seen w0):Calls prog 94 #[c.val,.agg e.fct.toArray] w (FactPost l e w):=by
 obtain⟨ta,tn,tc,fa,fn,fc,da,dn,dc,qa,qn,qc⟩:=c
 dsimp only[Ct.val]at *
 subst hn
 have HL:=hid h
 have Ma:=hid hok
 have Yb:=hid hll
 have Ja:=hid Oa
 have Ti:=hid he
 have Ro:Hid (e.ky.size<=140737488355328):=he.str.2.2.1
 clear h hok hll Oa he
 go_enter func94,ntmps94
 go_upto_region 1 with(first|(refine ZaO rfl 27 (.tmp 1) rfl e.fct rfl ?_)|fail)
 refine Zan (fun V hV=>?_)
 have Df:Hid (Box V w.heap.size (Ct.cells ⟨ta,l.length,tc,fa,fn,fc,da,dn,dc,qa,qn,qc⟩).toArray 118):=by rw[hV];exact ZcH ..
 have Ha:Hid (Box V (w.heap.size+1) e.fct.toArray 27):=by rw[hV];exact ZcG ..
 have Aa:Hid (Below w.heap.size w V):=by rw[hV];exact bt
 clear hV
 have HW:Hid (Below V.heap.size V V):=ZR V
 go_upto_region 3 with(first|((with_reducible refine Zah 27 ?_);refine LB (L:=(En.fct e)) Ha.out ?_)|(go_at_call 137;refine(formed_any e _ Ro.out).mono ?_;rintro ee w' ⟨b,rfl,hq,hb⟩;have HF:=hid hq;have HW:Hid (Below V.heap.size V w'):=hb;have Ha:=hid (Ha.out.kept hb);have Df:=hid (Df.out.kept hb);clear hb;have f0:=Ha.out.cell 0 (.string e.src) rfl;have f1:=Ha.out.cell 1 (.int .i64 e.seq) rfl;have f2:=Ha.out.cell 2 (.int .i64 e.fk) rfl;have f3:=Ha.out.cell 3 (.int .i64 e.ref) rfl;have f4:=Ha.out.cell 4 (.string e.tb) rfl;have f5:=Ha.out.cell 5 (.string e.ky) rfl;have f6:=Ha.out.cell 6 (.int .i64 e.ev) rfl;have f7:=Ha.out.cell 7 (.slice e.fa e.vs.length e.fc) rfl;clear hq;cases b)|fail)
 all_goals first
  |(go_ret;exact⟨_,rfl,fun h=>absurd h (by decide),ZT Aa.out HW.out⟩)
  |skip
 by_cases Jf:e.fk=3
 · have e3:(e.fk==3)=true:=beq_iff_eq.2 Jf
   have Rl:=hid Jf
   clear Jf
   go_wp2_with fail
   go_ret
   exact⟨_,rfl,fun h=>⟨(HF.out (by first|rfl|trivial)).1,(HF.out (by first|rfl|trivial)).2,fun h=>absurd Rl.out h⟩,ZT Aa.out HW.out⟩
 · have e3:(e.fk==3)=false:=beq_eq_false_iff_ne.2 Jf
   go_upto_region 8 with(first|((with_reducible refine Zah 118 ?_);refine LB (L:=(Ct.cells ⟨ta,l.length,tc,fa,fn,fc,da,dn,dc,qa,qn,qc⟩)) Df.out ?_)|(go_at_call 138;refine(Zdo ⟨ta,l.length,tc,fa,fn,fc,da,dn,dc,qa,qn,qc⟩ _ _ w0 l rfl Yb.out Ma.out (HL.out.kept (ZT Aa.out HW.out))).mono ?_;rintro ee w' ⟨t5,b5,rfl,Hp,Mj,hb⟩;have Ya:=hid Hp;have Ul:=hid Mj;clear Hp Mj;have HW:Hid (Below V.heap.size V w'):=ZT HW.out hb;have Ha:=hid (Ha.out.kept hb);have Df:=hid (Df.out.kept hb);clear hb;have f0:=Ha.out.cell 0 (.string e.src) rfl;have f1:=Ha.out.cell 1 (.int .i64 e.seq) rfl;have f2:=Ha.out.cell 2 (.int .i64 e.fk) rfl;have f3:=Ha.out.cell 3 (.int .i64 e.ref) rfl;have f4:=Ha.out.cell 4 (.string e.tb) rfl;have f5:=Ha.out.cell 5 (.string e.ky) rfl;have f6:=Ha.out.cell 6 (.int .i64 e.ev) rfl;have f7:=Ha.out.cell 7 (.slice e.fa e.vs.length e.fc) rfl;cases b5)|((with_reducible refine ZaK 32 ?_);refine ZaA rfl rfl 32 _ _ rfl rfl rfl (Tb.cells t5) rfl rfl (by kernel_rfl) (by rfl) ?_;intro g7 w' hbx Re hb;have Td:=hid hbx;clear Re hbx;have HW:Hid (Below V.heap.size V w'):=ZT HW.out hb;have Ha:=hid (Ha.out.kept hb);have Df:=hid (Df.out.kept hb);clear hb;have f0:=Ha.out.cell 0 (.string e.src) rfl;have f1:=Ha.out.cell 1 (.int .i64 e.seq) rfl;have f2:=Ha.out.cell 2 (.int .i64 e.fk) rfl;have f3:=Ha.out.cell 3 (.int .i64 e.ref) rfl;have f4:=Ha.out.cell 4 (.string e.tb) rfl;have f5:=Ha.out.cell 5 (.string e.ky) rfl;have f6:=Ha.out.cell 6 (.int .i64 e.ev) rfl;have f7:=Ha.out.cell 7 (.slice e.fa e.vs.length e.fc) rfl;have t2:=Td.out.cell 2 (.slice t5.fa t5.fn t5.fc) rfl)|fail)
   all_goals first
    |(go_ret;exact⟨_,rfl,fun h=>absurd h (by decide),ZT Aa.out HW.out⟩)
    |skip
   have Tt:Hid (1<=e.seq/\(e.fk=1∨e.fk=2∨e.fk=3)/\(e.fk≠3->∃ t,findT l e.tb=some t)):=⟨(HF.out (by first|rfl|trivial)).1,(HF.out (by first|rfl|trivial)).2,fun _=>⟨t5,by simpa using Ul.out⟩⟩
   clear Jf
   obtain⟨fs,hfn,hfl,hfu,hfs⟩:=Ya.out
   have Jn:=hid hfs
   have Co:=hid hfn
   clear hfs hfu
   rw[hfn]at t2
   by_cases hlen:e.vs.length=fs.length
   · have hlv:=Ti.out.len
     go_wp2_with fail
     go_loopw [7] (fun v wr=>∃ i:Nat,i<=e.vs.length/\v=.int .i64 i/\Hid (Below w'.heap.size w' wr)) (fun v _=>e.vs.length - (intOf v).toNat)
     case atStart=>exact⟨0,by omega,rfl,ZR w'⟩
     case round =>
      obtain⟨i,hi,rfl,HR⟩:=hrel
      rename World=>wr
      have f7:=(Ha.out.kept HR.out).cell 7 (.slice e.fa e.vs.length e.fc) rfl
      have Zr:Hid (Below w.heap.size w wr):=ZT Aa.out (ZT HW.out HR.out)
      by_cases hlt:i<e.vs.length
      · obtain⟨x,hx⟩:∃ x,e.vs[i]?=some x:=⟨e.vs[i],List.getElem?_eq_getElem hlt⟩
        obtain⟨f,hf⟩:∃ f,fs[i]?=some f:=⟨fs[i]'(by omega),List.getElem?_eq_getElem (by omega)⟩
        obtain⟨b1,o1,hfa,Da⟩:=(Ti.out.lies.kept (Ja.out.trans (Zr.out.mono Ja.out.size))).some (by omega)
        obtain⟨b2,o2,hta,Bb⟩:=(Jn.out.kept (Ja.out.trans (Zr.out.mono Ja.out.size))).some (by omega)
        have Yo:=hid hfa
        have HTA:=hid hta
        have Sh:Hid (∀ j v,(valC x)[j]?=some v->wr.cell? ⟨b1,o1+i*3+j,none⟩=some v):=fun j v hj=>Da i x hx j v hj
        have Tf:Hid (∀ j v,([.int .i64 f.k,.slice f.ua f.un f.uc,.string f.o]:List Value)[j]?=some v->wr.cell? ⟨b2,o2+i*4+1+j,none⟩=some v):=fun j v hj=>by
         rw[Nat.add_assoc,Nat.add_assoc,<-Nat.add_assoc o2,Nat.add_comm 1 j]
         exact Bb i f hf (j+1) v (by simpa [Fd.cells]using hj)
        have Vr:Hid (x.2.2.size<=140737488355328):=(Ti.out.val x (List.mem_of_getElem? hx)).1
        clear Da Bb hx hf hfa hta
        go_upto_region 13 with fail
        refine wrt (S:=fun w'=>Below wr.heap.size wr w') (.free 0 (.free 1 (.free 2 (.free 3 (.free 4 (.free 5 (.free 6 (.free 7 (.free 8 (.free 9 (.free 10 (.one 11 (.free 12 .done))))))))))))) (ZD (ZR _)) ?_
        have Ca:=fun wq (hSw:(fun w'=>Below wr.heap.size wr w') wq)=>And.intro ((Ha.out.kept (ZT HR.out hSw)).cell 7 (.slice (some ⟨b1,o1,none⟩) e.vs.length e.fc) (by rw[<-Yo.out];rfl)) ((Td.out.kept (ZT HR.out hSw)).cell 2 (.slice (some ⟨b2,o2,none⟩) fs.length t5.fc) (by rw[<-HTA.out,<-Co.out];rfl))
        refine tk Ca (.pointer (some ⟨w.heap.size+1,7,none⟩)) ?_
        refine tk Ca (.slice (some ⟨b1,o1,none⟩) e.vs.length e.fc) ?_
        refine tk Ca (.int .i64 i) ?_
        refine tk Ca (.pointer (some ⟨b1,o1+i*3,none⟩)) ?_
        refine tl b1 (o1+i*3) (valC x) (fun w hS j v hj=>Zaa (Sh.out j v hj) hS) ?_
        refine tk Ca (.pointer (some ⟨g7,2,none⟩)) ?_
        refine tk Ca (.slice (some ⟨b2,o2,none⟩) fs.length t5.fc) ?_
        refine tk Ca (.int .i64 i) ?_
        refine tk Ca (.pointer (some ⟨b2,o2+i*4,none⟩)) ?_
        refine tk Ca (.pointer (some ⟨b2,o2+i*4+1,none⟩)) ?_
        refine tr_load _ rfl (by rfl) 35 _ rfl b2 (o2+i*4+1) [.int .i64 f.k,.slice f.ua f.un f.uc,.string f.o] rfl (fun w hS j v hj=>Zaa (Tf.out j v hj) hS) _ underlying35 rfl (by kernel_rfl) ?_
        intro v10 Mv
        subst Mv
        try simp only[Act.put,m1,m2,m3]
        refine t1 fun K hK=>?_
        go_wp2_with (go_at_call 139;refine(has_any _ _ _ _ _ _ _ _ _ Vr.out).mono ?_;rintro ee w6 ⟨b6,rfl,hb⟩;have Kd:Hid (Below wr.heap.size wr w6):=ZT (ZD (ZR _)) hb;clear hb)
        refine hk hK Kd.out ?_
        clear hK K
        refine tk Ca (.bool (!b6)) ?_
        refine ZaP ?_
        cases b6
        all_goals
         go_wp2_with fail
        all_goals first
         |(go_ret;exact⟨_,rfl,fun h=>absurd h (by decide),Zr.out.trans (Kd.out.mono Zr.out.size)⟩)
         |(go_roundw;(case rel=>exact⟨i+1,by omega,by go_num,ZT HR.out Kd.out⟩);(case measure=>simp[intOf];omega))
      · go_wp2_with fail
        go_ret
        exact⟨_,rfl,fun _=>Tt.out,Zr.out⟩
   · go_wp2_with fail
     go_ret
     exact⟨_,rfl,fun h=>absurd h (by decide),ZT Aa.out HW.out⟩
def Zfq (w0:World)(x:Cg):Prop:=∀ w,Below w0.heap.size w0 w->Calls prog 142 #[.agg x.cells.toArray] w (RetB true w)
def TabZ (w0:World)(L:List Tb)(tz:Bool):Prop:=∀ (c_ta:Option Addr) (c_tc:Nat) (c_fa:Option Addr) (c_fn:Nat) (c_fc:Nat) (c_da:Option Addr) (c_dn:Nat) (c_dc:Nat) (c_qa:Option Addr) (c_qn:Nat) (c_qc:Nat) (w:World),Below w0.heap.size w0 w->Zac Tb.cells 4 w c_ta L->Calls prog 169 #[.agg #[.slice c_ta L.length c_tc,.slice c_fa c_fn c_fc,.slice c_da c_dn c_dc,.slice c_qa c_qn c_qc]] w (RetZ tz w)
def CkZ (w0:World)(T:List Tb)(F D Q:List Ft)(z:Bool):Prop:=∀ (L:List Tb) (tz:Bool) (c_ta:Option Addr) (c_tc:Nat) (c_fa:Option Addr) (c_fc:Nat) (c_da:Option Addr) (c_dc:Nat) (c_qa:Option Addr) (c_qc:Nat) (w:World),L.length<=1000->TabZ w0 L tz->(L=T∨z=true/\Sub T L)->Below w0.heap.size w0 w->Zac Tb.cells 4 w c_ta L->Zac Ft.cells 18 w c_fa F->Zac Ft.cells 18 w c_da D->Zac Ft.cells 18 w c_qa Q->Calls prog 144 #[.agg #[.slice c_ta L.length c_tc,.slice c_fa F.length c_fc,.slice c_da D.length c_dc,.slice c_qa Q.length c_qc]] w (RetZ (decide (L.length<=16)&&(tz&&z)) w)
theorem ck_det (w0:World)(F D Q:List Ft)(hF:F.length<=1000)(hD:D.length<=1000)(hQ:Q.length<=1000)(hFok:∀ f∈F,f.Ok w0)(hDok:∀ f∈D,f.Ok w0)(hQok:∀ f∈Q,f.Ok w0)(T:List Tb)(htok:∀ t∈T,FdsAt w0 t.fa t.fn):∃ z:Bool,(F=[]->D=[]->Q=[]->z=true)/\CkZ w0 T F D Q z:=by
 obtain⟨z,-,h1,h2⟩:=ccheck_det w0 F D Q hF hD hQ hFok hDok hQok T htok
 exact⟨z,h1,h2⟩
theorem tab_det (w0:World)(T:List Tb)(hl:T.length<=1000)(htok:∀ t∈T,FdsAt w0 t.fa t.fn):∃ z:Bool,TabZ w0 T z:=tables_det w0 T hl htok
theorem Zdq {t:Tb}{nm:ByteArray}(hne:t.m≠nm):∀ l:List Tb,findT (insT l t) nm=findT l nm
 |[]=>by unfold findT insT;rw[List.find?_cons,decide_eq_false hne]
 |x :: l=>by
  have ih:=Zdq hne l
  unfold insT
  split
  · unfold findT at ih ⊢
    rw[List.find?_cons,List.find?_cons,ih]
  · unfold findT
    rw[List.find?_cons,decide_eq_false hne]
theorem findT_ins {l:List Tb}{t:Tb}(h:findT l t.m=none):Sub l (insT l t):=by
 intro nm u hu
 rw[Zdq (fun e=>by rw[e,hu]at h;cases h)]
 exact hu
structure CatL (w:World) (c:Ct) (T:List Tb) (F D Q:List Ft):Prop where
 tn:c.tn=T.length
 t:Zac Tb.cells 4 w c.ta T
 fn:c.fn=F.length
 f:Zac Ft.cells 18 w c.fa F
 dn:c.dn=D.length
 d:Zac Ft.cells 18 w c.da D
 qn:c.qn=Q.length
 q:Zac Ft.cells 18 w c.qa Q
theorem CatL.kept {w w':World}{c:Ct}{T:List Tb}{F D Q:List Ft}(h:CatL w c T F D Q)(hb:Below w.heap.size w w'):CatL w' c T F D Q:=⟨h.tn,h.t.kept hb,h.fn,h.f.kept hb,h.dn,h.d.kept hb,h.qn,h.q.kept hb⟩
theorem Ct.Ok.lists {w0 w:World}{B:Nat}{c:Ct}(h:c.Ok w0 B w):∃ F D Q,c.fn=F.length/\Zac Ft.cells 18 w c.fa F/\c.dn=D.length/\Zac Ft.cells 18 w c.da D/\c.qn=Q.length/\Zac Ft.cells 18 w c.qa Q/\F.length<=B/\D.length<=B/\Q.length<=B/\(∀ f∈F,f.Ok w0)/\(∀ f∈D,f.Ok w0)/\(∀ f∈Q,f.Ok w0):=by
 obtain⟨F,h1,h2,h3,h4⟩:=h.f.lies
 obtain⟨D,g1,g2,g3,g4⟩:=h.d.lies
 obtain⟨Q,k1,k2,k3,k4⟩:=h.q.lies
 exact⟨F,D,Q,h1,h4,g1,g4,k1,k4,h2,g2,k2,h3,g3,k3⟩
theorem prop_at (w0:World)(x:Cg)(hx:x.Ok w0):∃ r:Bool,(∀ w,Below w0.heap.size w0 w->Calls prog 142 #[.agg x.cells.toArray] w (RetB r w))/\(r=true↔Zfq w0 x):=by
 by_cases hp:Zfq w0 x
 · exact⟨true,hp,iff_of_true rfl hp⟩
 · obtain⟨k,t,f,m⟩:=x
   obtain⟨n,hn⟩:=hx.f.2
   obtain⟨r,hr⟩:=proper_det k t.m t.e t.fa t.fn t.fc t.p f.m f.e f.tk f.tua f.tun f.tuc f.tof f.b.k f.b.o f.b.m f.b.t f.b.vk f.b.vn f.b.vs f.b.ua f.b.un f.b.uc f.b.p f.b.wk f.b.wz f.b.xa f.b.xn f.b.xc f.r m w0 n hx.t hx.f.1 hn.at
   cases r with
   |true=>exact(hp hr).elim
   |false=>exact⟨false,hr,iff_of_false (by decide) hp⟩
theorem CkZ.more {w0:World}{T L:List Tb}{F D Q:List Ft}(h:CkZ w0 T F D Q true)(hs:Sub T L):CkZ w0 L F D Q true:=by
 intro K tz a1 a2 a3 a4 a5 a6 a7 a8 w h1 h2 h3 h4 h5 h6 h7 h8
 refine h K tz a1 a2 a3 a4 a5 a6 a7 a8 w h1 h2 (Or.inr ⟨rfl,?_⟩) h4 h5 h6 h7 h8
 rcases h3 with rfl|⟨-,h3⟩
 · exact hs
 · exact fun nm t ht=>h3 nm t (hs nm t ht)
def Good (w0 w:World)(l:List Tb)(x:Cg)(c:Ct):Prop:=x.k=1/\Zfq w0 x/\findT l x.t.m=none/\TabZ w0 (insT l x.t) true/\(insT l x.t).length<=16/\∃ F D Q,CatL w c l F D Q/\CkZ w0 l F D Q true
def Zb7 (w0 w:World)(c:Ct)(l:List Tb):Prop:=∃ F D Q,CatL w c l F D Q/\TabZ w0 l true/\l.length<=16/\CkZ w0 l F D Q true
theorem ck_at (c c2:Ct)(x:Cg)(l:List Tb)(w w5 w0:World)(Oa:Below w0.heap.size w0 w)(hb:Below w.heap.size w w5)(B:Nat)(hB:B<=1000)(h2:c2.Ok w0 B w5)(hok:∀ t∈l,FdsAt w0 t.fa t.fn)(hx:x.Ok w0)(hq:TabQ l x w5 c2 0)(h1:x.k=1->c2.fa=c.fa/\c2.fn=c.fn/\c2.da=c.da/\c2.dn=c.dn/\c2.qa=c.qa/\c2.qn=c.qn):∃ z:Bool,Calls prog 144 #[c2.val] w5 (RetZ z w5)/\(z=true->∃ l2,Zc7 l x l2/\Zb7 w0 w5 c2 l2)/\(Good w0 w l x c->z=true):=by
 obtain⟨l2,e1,e2,e3⟩:=hq rfl
 have Nd:l2.length<=1000:=by
  obtain⟨lx,g1,g2,-⟩:=h2.t.lies
  omega
 have hw5:Below w0.heap.size w0 w5:=Oa.trans (hb.mono Oa.size)
 by_cases hg:Good w0 w l x c
 · obtain⟨hk,hp,hf,ht,hlen,F,D,Q,hc,hck⟩:=hg
   have hl:l2=insT l x.t:=(e3.1 hk).2
   obtain⟨a1,a2,a3,a4,a5,a6⟩:=h1 hk
   have hcl:CatL w5 c2 l2 F D Q:=⟨e1,e2,a2.trans hc.fn,a1 ▸ hc.f.kept hb,a4.trans hc.dn,a3 ▸ hc.d.kept hb,a6.trans hc.qn,a5 ▸ hc.q.kept hb⟩
   have hsub:Sub l l2:=by rw[hl];exact findT_ins hf
   refine⟨true,?_,fun _=>⟨l2,e3,F,D,Q,hcl,by rw[hl];exact ht,by rw[hl];exact hlen,hck.more hsub⟩,fun _=>rfl⟩
   have Hd:=hck l2 true c2.ta c2.tc c2.fa c2.fc c2.da c2.dc c2.qa c2.qc w5 Nd (by rw[hl];exact ht) (Or.inr ⟨rfl,hsub⟩) hw5 hcl.t hcl.f hcl.d hcl.q
   have hd:(decide (l2.length<=16)&&(true&&true))=true:=by rw[hl];simpa using hlen
   rw[hd]at Hd
   unfold Ct.val
   rw[hcl.tn,hcl.fn,hcl.dn,hcl.qn]
   exact Hd
 · obtain⟨F,D,Q,f1,f2,f3,f4,f5,f6,f7,f8,f9,g1,g2,g3⟩:=h2.lists
   have htok:∀ t∈l2,FdsAt w0 t.fa t.fn:=fun t ht=>by
    by_cases hk:x.k=1
    · obtain⟨i,hi⟩:=Zdf x.t l
      rw[(e3.1 hk).2,hi]at ht
      simp only[List.mem_append,List.mem_singleton]at ht
      rcases ht with(ht|ht)|ht
      · exact hok t (List.mem_of_mem_take ht)
      · rw[ht];exact hx.t
      · exact hok t (List.mem_of_mem_drop ht)
    · rw[e3.2 hk]at ht
      exact hok t ht
   obtain⟨tz,htz⟩:=tab_det w0 l2 Nd htok
   obtain⟨z,-,hz⟩:=ck_det w0 F D Q (by omega) (by omega) (by omega) g1 g2 g3 l2 htok
   refine⟨decide (l2.length<=16)&&(tz&&z),?_,fun h=>?_,fun h=>(hg h).elim⟩
   · have Hd:=hz l2 tz c2.ta c2.tc c2.fa c2.fc c2.da c2.dc c2.qa c2.qc w5 Nd htz (Or.inl rfl) hw5 e2 f2 f4 f6
     unfold Ct.val
     rw[e1,f1,f3,f5]
     exact Hd
   · simp only[Bool.and_eq_true,decide_eq_true_eq]at h
     obtain⟨h1,rfl,rfl⟩:=h
     exact⟨l2,e3,F,D,Q,⟨e1,e2,f1,f2,f3,f4,f5,f6⟩,htz,h1,hz⟩
def AppQ (l:List Tb)(x:Cg)(w0 w:World)(c2:Ct):Prop:=Zfq w0 x/\∃ l2,Zc7 l x l2/\Zb7 w0 w c2 l2
theorem Zb7.kept {w0 w w':World}{c:Ct}{l:List Tb}(h:Zb7 w0 w c l)(hb:Below w.heap.size w w'):Zb7 w0 w' c l:=let ⟨F,D,Q,h1,h2⟩:=h;⟨F,D,Q,h1.kept hb,h2⟩
theorem FtsL.put {W W':World}{a:Option Addr}{l:List Ft}{g:Nat}{cs:Array Value}{t:TypeId}(h:Zac Ft.cells 18 W a l)(hg:Box W g cs t)(hcs:NoStr cs)(hot:∀ k,k≠g->W'.heap[k]?=W.heap[k]?):Zac Ft.cells 18 W' a l:=by
 rcases h with h1|⟨b,off,rfl,hr⟩
 · exact Or.inl h1
 · cases l with
   |nil=>exact Or.inl rfl
   |cons x l=>exact Or.inr ⟨b,off,rfl,hr.same (hot b (ZeB hg hcs (s:=x.m) (hr 0 x rfl 0 _ rfl)))⟩
theorem Zb7.put {w0 w w':World}{c:Ct}{l:List Tb}{g:Nat}{cs:Array Value}{t:TypeId}(h:Zb7 w0 w c l)(hg:Box w g cs t)(hcs:NoStr cs)(hot:∀ k,k≠g->w'.heap[k]?=w.heap[k]?):Zb7 w0 w' c l:=let ⟨F,D,Q,h1,h2⟩:=h;⟨F,D,Q,⟨h1.tn,TbsL.put h1.t hg hcs hot,h1.fn,FtsL.put h1.f hg hcs hot,h1.dn,FtsL.put h1.d hg hcs hot,h1.qn,FtsL.put h1.q hg hcs hot⟩,h2⟩
def CatIn (w0 w:World)(c:Ct)(l:List Tb):Prop:=∃ F D Q,CatL w c l F D Q/\CkZ w0 l F D Q true
theorem CatIn.zero (w0 w:World):CatIn w0 w Ct.zero []:=by
 obtain⟨z,h1,h2⟩:=ck_det w0 [] [] [] (by simp) (by simp) (by simp) (fun f hf=>by cases hf) (fun f hf=>by cases hf) (fun f hf=>by cases hf) [] (fun t ht=>by cases ht)
 obtain rfl:=h1 rfl rfl rfl
 exact⟨[],[],[],⟨rfl,Zac.nil _ _,rfl,Zac.nil _ _,rfl,Zac.nil _ _,rfl,Zac.nil _ _⟩,h2⟩
theorem CatIn.kept {w0 w w':World}{c:Ct}{l:List Tb}(h:CatIn w0 w c l)(hb:Below w.heap.size w w'):CatIn w0 w' c l:=let ⟨F,D,Q,h1,h2⟩:=h;⟨F,D,Q,h1.kept hb,h2⟩
theorem Zb7.cat {w0 w:World}{c:Ct}{l:List Tb}(h:Zb7 w0 w c l):CatIn w0 w c l:=let ⟨F,D,Q,h1,_,_,h2⟩:=h;⟨F,D,Q,h1,h2⟩
def AppPost (l:List Tb)(x:Cg)(c:Ct)(w0:World)(B:Nat)(w:World)(e:Ending)(w':World):Prop:=∃ (c2:Ct) (k:Int),e=.returned (.tuple #[c2.val,.int .i64 k])/\c2.Ok w0 B w'/\(k=0->AppQ l x w0 w' c2)/\(Good w0 w l x c->k=0)/\Below w.heap.size w w'
theorem apply_det (c:Ct)(x:Cg)(w w0:World)(Oa:Below w0.heap.size w0 w)(B:Nat)(hB:B<=990)(h:c.Ok w0 B w)(l:List Tb)(hn:c.tn=l.length)(hlies:Zac Tb.cells 4 w c.ta l)(hok:∀ t∈l,FdsAt w0 t.fa t.fn)(hx:x.Ok w0):Calls prog 97 #[c.val,.agg x.cells.toArray] w (AppPost l x c w0 (B+2) w):=by
 obtain⟨ta,tn,tc,fa,fn,fc,da,dn,dc,qa,qn,qc⟩:=c
 have hB2:B<=100000:=by omega
 dsimp only[Ct.val]
 dsimp only at hn hlies
 subst hn
 have Ja:=hid Oa
 obtain⟨rp,hrp,hrpi⟩:=prop_at w0 x hx
 have HRP:=hid hrp
 have Jo:Hid (rp=true->Zfq w0 x):=hrpi.1
 have Ka:Hid (Zfq w0 x->rp=true):=hrpi.2
 clear hrp hrpi
 have Ma:=hid hok
 have HL:=hid hlies
 have Mu:=hid hx.t
 have Rp:=hid hx.f
 clear hok hlies hx
 go_enter func97,ntmps97
 go_upto_region 1 with fail
 refine Zan (fun V hV=>?_)
 have Ba:Hid (Cs w0 w B w.heap.size (w.heap.size+1+1) ⟨ta,l.length,tc,fa,fn,fc,da,dn,dc,qa,qn,qc⟩ V):=by
  have hb:Below w.heap.size w V:=by rw[hV];exact bt
  exact⟨by rw[hV];exact Zc4 ..,by rw[hV];exact Zc2 ..,h.kept hb,hb,Oa,Nat.le_refl _,by omega,by omega⟩
 have Za:Hid (Box V (w.heap.size+1) x.cells.toArray 46):=by rw[hV];exact Zc3 ..
 have x0:=Za.out.cell 0 (.int .i64 x.k) rfl
 clear hV h
 have qq:=Ba.out.q
 obtain⟨q0,q1,q2,q3⟩:=qq
 go_wp2_with (first|((with_reducible refine Zah 46 ?_);refine LB (L:=(Cg.cells x)) Za.out ?_)|(go_at_call 142;refine(HRP.out _ Ba.out.wz).mono ?_;rintro e w5 ⟨rfl,hb⟩;have Ba:=hid (Ba.out.kept hb);have Za:=hid (Za.out.kept hb);clear hb;have qq:=Ba.out.q;obtain⟨q0,q1,q2,q3⟩:=qq;cases rp)|(go_at_call 143;refine(changed_any ⟨ta,l.length,tc,fa,fn,fc,da,dn,dc,qa,qn,qc⟩ x _ w0 Ba.out.wz B (by omega) Ba.out.ok l rfl (HL.out.kept Ba.out.below) Ma.out ⟨Mu.out,Rp.out⟩).mono ?_;rintro e w5 ⟨c2,k2,rfl,Hd,Ob,Qh,hb⟩;have Uc:=hid Hd;have Zc:=hid Ob;have Oh:=hid Qh;clear Hd Ob Qh;have Ba:=hid (Ba.out.kept hb);have Za:=hid (Za.out.kept hb);clear hb;have qq:=Ba.out.q;obtain⟨q0,q1,q2,q3⟩:=qq;rcases ZcA k2 with rfl|Uf)|((with_reducible refine ZaK 118 ?_);refine ZaA rfl rfl 118 _ _ rfl rfl rfl (Ct.cells c2) rfl rfl (by kernel_rfl) (by rfl) ?_;intro g7 w8 hbx Re hb;have Se:=hid hbx;clear Re hbx;have Uc:=hid (Uc.out.kept hb);have Zc:=hid (Zc.out.kept hb);have Ba:=hid (Ba.out.kept hb);have Za:=hid (Za.out.kept hb);clear hb;have qq:=Ba.out.q;obtain⟨q0,q1,q2,q3⟩:=qq)|(go_at_call 144;obtain⟨z,hcall,hA,hG⟩:=ck_at ⟨ta,l.length,tc,fa,fn,fc,da,dn,dc,qa,qn,qc⟩ c2 x l w _ w0 Ja.out Ba.out.below (B+2) (by omega) Uc.out Ma.out ⟨Mu.out,Rp.out⟩ Zc.out (fun h=>(Oh.out h).2 (by first|rfl|trivial));refine hcall.mono ?_;rintro e w5 ⟨r,rfl,Ea,Fa,hb⟩;have HA:Hid (z=true->∃ l2,Zc7 l x l2/\Zb7 w0 w5 c2 l2):=hid (fun h=>let ⟨l2,q1,q2⟩:=hA h;⟨l2,q1,q2.kept hb⟩);have HG:=hid hG;have Jb:=hid Ea;have Dc:=hid Fa;clear hcall hA hG Ea Fa;have Se:=hid (Se.out.kept hb);have Uc:=hid (Uc.out.kept hb);have Zc:=hid (Zc.out.kept hb);have Ba:=hid (Ba.out.kept hb);have Za:=hid (Za.out.kept hb);clear hb;have qq:=Ba.out.q;obtain⟨q0,q1,q2,q3⟩:=qq;rcases ZcA r with rfl|Ik)|((with_reducible refine Zaf 118 ?_);refine Zao rfl _ _ rfl rfl Ba.out c2 rfl rfl Uc.out ?_;intro w9 hR hotr;have HR:=hid hR;have Na:=hid hotr;clear hR hotr)|((with_reducible refine Zaq 118 ?_);refine Zae rfl 118 #[] rfl Ct.zero.cells (fun w=>Zcg w) ?_;intro v hv;obtain rfl:=hv.out)|((with_reducible refine Zaf 118 ?_);refine Zao rfl _ _ rfl rfl Ba.out Ct.zero rfl rfl (Ct.zero_ok _ B _) ?_;intro w9 hR hotr;have HR:=hid hR;have Na:=hid hotr;clear hR hotr)|((with_reducible refine Zah 118 ?_);refine LB (L:=(Ct.cells c2)) Se.out ?_)|((with_reducible refine Zah 118 ?_);refine LB Ba.out.box ?_)|fail)
 all_goals
  (try simp only[Exit.inBlock,Exit.then]);refine rb2 HR.out.box ?_
  first
   |exact⟨c2,_,rfl,HR.out.ok,(fun h0=>⟨Jo.out (by first|rfl|trivial),let ⟨l2,q1,q2⟩:=HA.out (by cases z with|true=>rfl|false=>(have hz:=Dc.out;simp at hz));⟨l2,q1,q2.put Ba.out.res (Zbc _ _ _ _ _ _ _ _ _ _ _ _) Na.out⟩⟩),fun _=>rfl,HR.out.below⟩
   |exact⟨Ct.zero,_,rfl,HR.out.ok.mono (by omega),(fun h0=>absurd h0 (by first|decide|assumption)),(fun hg=>by first|(have hz:=Ka.out hg.2.1;simp at hz;done)|exact(Uf (((Oh.out hg.1).1).2 hg.2.2.1)).elim|exact(Ik (Jb.out (HG.out hg))).elim),HR.out.below⟩
def OrdAt (l:List En)(i:Nat)(x:En):Prop:=1<=x.no/\x.no<=1099511627776/\0<=x.tick/\x.tick<=1099511627776/\∀ p y,i=p+1->l[p]?=some y->y.no<x.no/\y.tick<=x.tick
def EntOk (T:List Tb)(l:List En)(i:Nat)(x:En):Prop:=OrdAt l i x/\(x.kind=1∨x.kind=2∨x.kind=3)/\(x.kind=1->1<=x.seq/\(x.fk=1∨x.fk=2∨x.fk=3)/\(x.fk≠3->∃ t,findT T x.tb=some t))
def Zc6 (T:List Tb)(x:En)(T2:List Tb):Prop:=(x.kind=3->Zc7 T x.cg T2)/\(x.kind≠3->T2=T)
def StepOk (w0:World)(x:En)(T2:List Tb):Prop:=x.kind=3->Zfq w0 x.cg/\TabZ w0 T2 true/\T2.length<=16
def OneQ (T:List Tb)(l:List En)(i:Nat)(x:En)(w0 w:World)(c2:Ct)(k:Int):Prop:=k=0->EntOk T l i x/\∃ T2,c2.tn=T2.length/\Zac Tb.cells 4 w c2.ta T2/\Zc6 T x T2/\StepOk w0 x T2
def OnePost (T:List Tb)(l:List En)(i:Nat)(x:En)(w0:World)(B:Nat)(w:World)(e:Ending)(w':World):Prop:=∃ (c2:Ct) (k:Int),e=.returned (.tuple #[c2.val,.int .i64 k])/\c2.Ok w0 B w'/\OneQ T l i x w0 w' c2 k/\Below w.heap.size w w'
theorem one_any15 (l:List En)(ao:Option Addr)(cl i:Nat)(hi:i<l.length)(hll:l.length<=140737488355328)(x:En)(hx:l[i]?=some x)(c:Ct)(w w0:World)(Oa:Below w0.heap.size w0 w)(h1:Zac En.cells 40 w0 ao l)(hs:x.Seen w0)(hg:x.cg.Ok w0)(B:Nat)(hB:B<=990)(h:c.Ok w0 B w)(T:List Tb)(hn:c.tn=T.length)(hT:Zac Tb.cells 4 w c.ta T)(hokT:∀ t∈T,FdsAt w0 t.fa t.fn) :
 Calls prog 69 #[.slice ao l.length cl,.int .i64 i,c.val] w (OnePost T l i x w0 (B+2) w):=by
 obtain⟨ta,tn,tc,fa,fn,fc,da,dn,dc,qa,qn,qc⟩:=c
 dsimp only[Ct.val]at *
 subst hn
 have hB2:B<=100000:=by omega
 have hTB:T.length<=100000:=by
  obtain⟨⟨l2,e1,e2,-⟩,-,-⟩:=h.t
  dsimp only at e1
  omega
 have HT:=hid hT
 have Vs:=hid hokT
 have H1:=hid h1
 have HI:=hid hi
 have Yb:=hid hll
 have Od:=hid hx
 have Vr:=hid hs
 have Nu:=hid hg
 clear hT hokT h1 hx hs hg
 go_enter func69,ntmps69
 go_upto_region 1 with fail
 refine Zan (fun V hV=>?_)
 have Ba:Hid (Cs w0 w B w.heap.size (w.heap.size+1) ⟨ta,T.length,tc,fa,fn,fc,da,dn,dc,qa,qn,qc⟩ V):=by
  have hb:Below w.heap.size w V:=by rw[hV];exact bt
  exact⟨by rw[hV];exact ZcH ..,by rw[hV];exact ZcG ..,h.kept hb,hb,Oa,Nat.le_refl _,by omega,by omega⟩
 clear hV h
 obtain⟨b1,o1,rfl,Da⟩:=(H1.out.kept Ba.out.wz).some (by omega)
 have Ee:=hid Da
 have Sh:Hid (∀ j v,(En.cells x)[j]?=some v->V.cell? ⟨b1,o1+i*40+j,none⟩=some v):=fun j v hj=>Ee.out i x Od.out j v hj
 clear Da
 go_upto_region 2 with(first|((with_reducible refine Zah 48 ?_);refine LV b1 (o1+i*40) (En.cells x) Sh.out ?_)|((with_reducible refine ZaK 48 ?_);refine ZaA rfl rfl 48 _ _ rfl rfl rfl (En.cells x) rfl rfl (by kernel_rfl) (by rfl) ?_;intro g8 W hbx Uv hb;have Za:=hid hbx;have HVW:=hid hb;clear Uv hbx;have Ba:=hid (Ba.out.kept hb);clear hb;have qq:=Ba.out.q;obtain⟨q0,q1,q2,q3⟩:=qq)|fail)
 have Kb:=hid (Ee.out.kept HVW.out)
 have k0:=Za.out.cell 0 (.int .i64 x.no) rfl
 have k1:=Za.out.cell 1 (.int .i64 x.tick) rfl
 clear hi hll
 try simp only[Act.put,m1,m2,m3]
 go_cut [57] (fun v wx=>∃ b:Bool,v=.bool b/\(b=false->OrdAt l i x)/\Hid (Below W.heap.size W wx))
 case first =>
  cases h1:decide (x.no<1)with
  |true =>
   go_quiet (fail)
   go_wp2_with fail
   go_meet
   case rel=>exact⟨_,rfl,(fun h=>(by cases h)),hid (by repeat(first|exact ZR W|refine Zad ?_ _))⟩
  |false =>
  cases h2:decide ((1099511627776:Int)<x.no)with
  |true =>
   go_quiet (fail)
   go_wp2_with fail
   go_meet
   case rel=>exact⟨_,rfl,(fun h=>(by cases h)),hid (by repeat(first|exact ZR W|refine Zad ?_ _))⟩
  |false =>
  cases h3:decide (x.tick<0)with
  |true =>
   go_quiet (fail)
   go_wp2_with fail
   go_meet
   case rel=>exact⟨_,rfl,(fun h=>(by cases h)),hid (by repeat(first|exact ZR W|refine Zad ?_ _))⟩
  |false =>
  cases h4:decide ((1099511627776:Int)<x.tick)with
  |true =>
   go_quiet (fail)
   go_wp2_with fail
   go_meet
   case rel=>exact⟨_,rfl,(fun h=>(by cases h)),hid (by repeat(first|exact ZR W|refine Zad ?_ _))⟩
  |false =>
  have a1:=of_decide_eq_false h1
  have a2:=of_decide_eq_false h2
  have a3:=of_decide_eq_false h3
  have a4:=of_decide_eq_false h4
  have HA:Hid (1<=x.no/\x.no<=1099511627776/\0<=x.tick/\x.tick<=1099511627776):=⟨by omega,by omega,by omega,by omega⟩
  clear a1 a2 a3 a4
  cases i with
  |zero =>
   go_quiet (fail)
   go_wp2_with fail
   go_meet
   case rel=>exact⟨_,rfl,(fun h=>⟨HA.out.1,HA.out.2.1,HA.out.2.2.1,HA.out.2.2.2,fun p y hp=>by omega⟩),hid (by repeat(first|exact ZR W|refine Zad ?_ _))⟩
  |succ k =>
   have hki:=HI.out
   have hll:=Yb.out
   obtain⟨y,hy⟩:∃ y,l[k]?=some y:=⟨l[k]'(by omega),List.getElem?_eq_getElem _⟩
   have HY:=hid hy
   have y0:W.cell? ⟨b1,o1+k*40,none⟩=some (.int .i64 y.no):=Kb.out k y hy 0 _ rfl
   have y1:W.cell? ⟨b1,o1+k*40+1,none⟩=some (.int .i64 y.tick):=Kb.out k y hy 1 _ rfl
   clear hy
   have Ip:IntKind.i64.wrap (((k+1:Nat):Int) - 1)=(k:Int):=by rw[show(((k+1:Nat):Int) - 1)=(k:Int) by omega];exact IntWalk.i64_in _ (by omega)
   have Fr:decide ((0:Int)<((k+1:Nat):Int))=true:=by simp
   cases h5:decide (x.no<=y.no)with
   |true =>
    go_quiet (fail)
    go_wp2_with fail
    go_meet
    case rel=>exact⟨_,rfl,(fun h=>(by cases h)),hid (by repeat(first|exact ZR W|refine Zad ?_ _))⟩
   |false =>
   cases h6:decide (x.tick<y.tick)with
   |true =>
    go_quiet (fail)
    go_wp2_with fail
    go_meet
    case rel=>exact⟨_,rfl,(fun h=>(by cases h)),hid (by repeat(first|exact ZR W|refine Zad ?_ _))⟩
   |false =>
   have a5:=of_decide_eq_false h5
   have a6:=of_decide_eq_false h6
   have Dg:Hid (y.no<x.no/\y.tick<=x.tick):=⟨by omega,by omega⟩
   clear a5 a6
   go_quiet (fail)
   go_wp2_with fail
   go_meet
   case rel=>exact⟨_,rfl,(fun h=>⟨HA.out.1,HA.out.2.1,HA.out.2.2.1,HA.out.2.2.2,fun p z hp hz=>by
    obtain rfl:k=p:=by omega
    rw[HY.out]at hz
    injection hz with hz
    subst hz
    exact Dg.out⟩),hid (by repeat(first|exact ZR W|refine Zad ?_ _))⟩
 case rest =>
  obtain⟨bo,rfl,hord,Wc⟩:=hcut
  rename World=>wc
  have Ts:Hid (bo=false->OrdAt l i x):=hord
  have Ba:=hid (Ba.out.kept Wc.out)
  have Za:=hid (Za.out.kept Wc.out)
  clear hord
  have x2:=Za.out.cell 2 (.int .i64 x.kind) rfl
  have qq:=Ba.out.q
  obtain⟨q0,q1,q2,q3⟩:=qq
  cases bo with
  |true =>
   go_wp2_with (first|((with_reducible refine Zah 118 ?_);refine LB Ba.out.box ?_)|((with_reducible refine Zaf 118 ?_);refine Zao rfl _ _ rfl rfl Ba.out _ rfl rfl Ba.out.ok ?_;intro w9 hR hotr;have HR:=hid hR;have Na:=hid hotr;clear hR hotr)|fail)
   (try simp only[Exit.inBlock,Exit.then]);refine rb2 HR.out.box ?_
   exact⟨_,_,rfl,HR.out.ok.mono (by omega),(fun h0=>absurd h0 (by first|decide|assumption)),HR.out.below⟩
  |false =>
   have Lo:Hid (OrdAt l i x):=Ts.out rfl
   clear Ts
   go_upto_region 6 with(first|((with_reducible refine Zah 48 ?_);refine LB (L:=(En.cells x)) Za.out ?_)|(go_at_call 93;refine(eform_any x _ w0 Ba.out.wz Nu.out).mono ?_;rintro ee w' ⟨b,rfl,hq,hb⟩;have HFQ:=hid hq;clear hq;have Ba:=hid (Ba.out.kept hb);have Za:=hid (Za.out.kept hb);clear hb;have x2:=Za.out.cell 2 (.int .i64 x.kind) rfl;have qq:=Ba.out.q;obtain⟨q0,q1,q2,q3⟩:=qq;cases b)|((with_reducible refine Zah 118 ?_);refine LB Ba.out.box ?_)|((with_reducible refine Zaf 118 ?_);refine Zao rfl _ _ rfl rfl Ba.out _ rfl rfl Ba.out.ok ?_;intro w9 hR hotr;have HR:=hid hR;have Na:=hid hotr;clear hR hotr)|fail)
   all_goals first
    |((try simp only[Exit.inBlock,Exit.then]);refine rb2 HR.out.box ?_;exact⟨_,_,rfl,HR.out.ok.mono (by omega),(fun h0=>absurd h0 (by first|decide|assumption)),HR.out.below⟩)
    |skip
   have HK:Hid (x.kind=1∨x.kind=2∨x.kind=3):=HFQ.out (by first|rfl|trivial)
   rcases HK.out with hk|hk|hk
   · have e1:(x.kind==1)=true:=beq_iff_eq.2 hk
     have Wj:=hid hk
     clear hk
     go_wp2_with (first|((with_reducible refine Zah 118 ?_);refine LB Ba.out.box ?_)|((with_reducible refine Zah 27 ?_);refine LV g8 3 (En.fct x) (fun j v hj=>Za.out.cell (3+j) v (ZaU (k:=3) (m:=8) hj rfl)) ?_)|(go_at_call 94;refine(check13_any ⟨ta,T.length,tc,fa,fn,fc,da,dn,dc,qa,qn,qc⟩ x T _ w0 rfl (by omega) Vs.out (HT.out.kept Ba.out.below) Ba.out.wz Vr.out).mono ?_;rintro ee w' ⟨k,rfl,hq,hb⟩;have HKQ:=hid hq;clear hq;have Ba:=hid (Ba.out.kept hb);have Za:=hid (Za.out.kept hb);clear hb;have x2:=Za.out.cell 2 (.int .i64 x.kind) rfl;have qq:=Ba.out.q;obtain⟨q0,q1,q2,q3⟩:=qq;rcases ZcA k with rfl|Uf)|(go_at_call 95;refine(ZdE l _ _ i Yb.out HI.out _ (H1.out.kept Ba.out.wz)).mono ?_;rintro ee w' ⟨b,rfl,hb⟩;have Ba:=hid (Ba.out.kept hb);have Za:=hid (Za.out.kept hb);clear hb;have x2:=Za.out.cell 2 (.int .i64 x.kind) rfl;have qq:=Ba.out.q;obtain⟨q0,q1,q2,q3⟩:=qq;cases b)|((with_reducible refine Zaf 118 ?_);refine Zao rfl _ _ rfl rfl Ba.out _ rfl rfl Ba.out.ok ?_;intro w9 hR hotr;have HR:=hid hR;have Na:=hid hotr;clear hR hotr)|fail)
     all_goals
      (try simp only[Exit.inBlock,Exit.then]);refine rb2 HR.out.box ?_
      first
       |exact⟨_,_,rfl,HR.out.ok.mono (by omega),(fun h0=>absurd h0 (by first|decide|assumption)),HR.out.below⟩
       |(have hk:=Wj.out;exact⟨_,_,rfl,HR.out.ok.mono (by omega),(fun h0=>⟨⟨Lo.out,HK.out,fun _=>HKQ.out (by first|rfl|trivial)⟩,T,rfl,TbsL.put (HT.out.kept Ba.out.below) Ba.out.res (Zbc _ _ _ _ _ _ _ _ _ _ _ _) Na.out,⟨(fun h=>absurd h (by omega)),fun _=>rfl⟩,fun h=>absurd h (by omega)⟩),HR.out.below⟩)
   · have e1:(x.kind==1)=false:=beq_eq_false_iff_ne.2 (by omega)
     have e2:(x.kind==2)=true:=beq_iff_eq.2 hk
     have Wj:=hid hk
     clear hk
     go_wp2_with (first|((with_reducible refine Zah 118 ?_);refine LB Ba.out.box ?_)|((with_reducible refine Zah 29 ?_);refine Za1 rfl 29 _ rfl g8 11 [.int .i64 x.ek,.string x.een,.string x.eky,.string x.esr,.int .i64 x.esq] rfl (fun j v hj=>Za.out.cell (11+j) v (ZaU (k:=11) (m:=5) hj rfl)) _ underlying29 rfl (by kernel_rfl) ?_;intro v hv;obtain rfl:=hv.out)|(go_at_call 96;refine(erasure_any _ _ _ _ _ _ Vr.out.str.2.2.2.2.1).mono ?_;rintro ee w' ⟨b,rfl,hb⟩;have Ba:=hid (Ba.out.kept hb);have Za:=hid (Za.out.kept hb);clear hb;have x2:=Za.out.cell 2 (.int .i64 x.kind) rfl;have qq:=Ba.out.q;obtain⟨q0,q1,q2,q3⟩:=qq;cases b)|((with_reducible refine Zaf 118 ?_);refine Zao rfl _ _ rfl rfl Ba.out _ rfl rfl Ba.out.ok ?_;intro w9 hR hotr;have HR:=hid hR;have Na:=hid hotr;clear hR hotr)|fail)
     all_goals
      (try simp only[Exit.inBlock,Exit.then]);refine rb2 HR.out.box ?_
      first
       |exact⟨_,_,rfl,HR.out.ok.mono (by omega),(fun h0=>absurd h0 (by first|decide|assumption)),HR.out.below⟩
       |(have hk:=Wj.out;exact⟨_,_,rfl,HR.out.ok.mono (by omega),(fun h0=>⟨⟨Lo.out,HK.out,fun h=>absurd h (by omega)⟩,T,rfl,TbsL.put (HT.out.kept Ba.out.below) Ba.out.res (Zbc _ _ _ _ _ _ _ _ _ _ _ _) Na.out,⟨(fun h=>absurd h (by omega)),fun _=>rfl⟩,fun h=>absurd h (by omega)⟩),HR.out.below⟩)
   · have e1:(x.kind==1)=false:=beq_eq_false_iff_ne.2 (by omega)
     have e2:(x.kind==2)=false:=beq_eq_false_iff_ne.2 (by omega)
     have Wj:=hid hk
     clear hk
     go_wp2_with (first|((with_reducible refine Zah 118 ?_);refine LB Ba.out.box ?_)|((with_reducible refine Zah 46 ?_);refine LV g8 16 (Cg.cells x.cg) (fun j v hj=>Za.out.cell (16+j) v (ZaU (k:=16) (m:=24) hj rfl)) ?_)|(go_at_call 97;refine(apply_det ⟨ta,T.length,tc,fa,fn,fc,da,dn,dc,qa,qn,qc⟩ x.cg _ w0 Ba.out.wz B hB Ba.out.ok T rfl (HT.out.kept Ba.out.below) Vs.out Nu.out).mono ?_;rintro ee w' ⟨c2,k2,rfl,Hd,Ob,-,hb⟩;have Uc:=hid Hd;have Zc:=hid Ob;clear Hd Ob;have Ba:=hid (Ba.out.kept hb);have Za:=hid (Za.out.kept hb);clear hb;have x2:=Za.out.cell 2 (.int .i64 x.kind) rfl;have qq:=Ba.out.q;obtain⟨q0,q1,q2,q3⟩:=qq)|((with_reducible refine Zaf 118 ?_);refine Zao rfl _ _ rfl rfl Ba.out c2 rfl rfl Uc.out ?_;intro w9 hR hotr;have HR:=hid hR;have Na:=hid hotr;clear hR hotr)|fail)
     (try simp only[Exit.inBlock,Exit.then]);refine rb2 HR.out.box ?_
     refine⟨c2,k2,rfl,HR.out.ok,fun h0=>?_,HR.out.below⟩
     have hk:=Wj.out
     obtain⟨hp,T2,h4,F,D,Q,hc,ht,hlen,-⟩:=Zc.out h0
     exact⟨⟨Lo.out,HK.out,fun h=>absurd h (by omega)⟩,T2,hc.tn,TbsL.put hc.t Ba.out.res (Zbc _ _ _ _ _ _ _ _ _ _ _ _) Na.out,⟨fun _=>h4,fun h=>absurd hk h⟩,fun _=>⟨hp,ht,hlen⟩⟩
inductive TabRun (w:World) (l:List En):Nat->List Tb->Prop
 |zero:TabRun w l 0 []
 |succ {i:Nat} {T T2:List Tb} {x:En}:TabRun w l i T->l[i]?=some x->EntOk T l i x->Zc6 T x T2->StepOk w x T2->TabRun w l (i+1) T2
theorem Zc7.fds {w:World}{T T2:List Tb}{x:Cg}(h:Zc7 T x T2)(hT:∀ t∈T,FdsAt w t.fa t.fn)(hx:FdsAt w x.t.fa x.t.fn):∀ t∈T2,FdsAt w t.fa t.fn:=by
 by_cases hk:x.k=1
 · obtain⟨-,rfl⟩:=h.1 hk
   obtain⟨i,hi⟩:=Zdf x.t T
   rw[hi]
   intro t ht
   simp only[List.mem_append,List.mem_singleton]at ht
   rcases ht with(ht|ht)|ht
   · exact hT t (List.mem_of_mem_take ht)
   · rw[ht];exact hx
   · exact hT t (List.mem_of_mem_drop ht)
 · rw[h.2 hk];exact hT
theorem Zc6.fds {w:World}{T T2:List Tb}{x:En}(h:Zc6 T x T2)(hT:∀ t∈T,FdsAt w t.fa t.fn)(hx:x.cg.Ok w):∀ t∈T2,FdsAt w t.fa t.fn:=by
 by_cases hk:x.kind=3
 · exact(h.1 hk).fds hT hx.t
 · rw[h.2 hk];exact hT
theorem check15_any (l:List En)(ao:Option Addr)(c:Nat)(hl:l.length<=60)(w w0:World)(Oa:Below w0.heap.size w0 w)(h:Zac En.cells 40 w0 ao l)(hs:∀ e∈l,e.Seen w0)(hg:∀ e∈l,e.cg.Ok w0) :
 Calls prog 38 #[.slice ao l.length c] w (GotN (fun k=>k=0->∃ T,TabRun w0 l l.length T) w):=by
 have Ja:=hid Oa
 have H1:=hid h
 have Rf:=hid hs
 have Gj:=hid hg
 clear h hs hg Oa
 go_enter func38,ntmps38
 go_upto_region 4 with fail
 refine Zan (fun V hV=>?_)
 have Aa:Hid (Below w.heap.size w V):=by rw[hV];exact Zab _
 have Df:Hid (Box V w.heap.size (Ct.cells Ct.zero).toArray 118):=by rw[hV];exact Box.new _ _ _
 clear hV
 obtain⟨g3,Gg⟩:∃ g,w.heap.size=g:=⟨_,rfl⟩
 have Ii:Hid (w.heap.size<=g3):=by show _<=_;omega
 rw[Gg]at Df
 go_wp2_with fail
 rw[Gg]
 go_loopw [4] (fun v wr=>∃ (i:Nat) (ct:Ct) (T:List Tb),i<=l.length/\v=.int .i64 i/\Hid (ct.Ok w0 (2*i) wr)/\Hid (ct.tn=T.length)/\Hid (Zac Tb.cells 4 wr ct.ta T)/\Hid (∀ t∈T,FdsAt w0 t.fa t.fn)/\Hid (Box wr g3 (Ct.cells ct).toArray 118)/\Hid (Below w.heap.size w wr)/\Hid (TabRun w0 l i T)) (fun v _=>l.length - (intOf v).toNat)
 case atStart=>exact⟨0,Ct.zero,[],by omega,rfl,Ct.zero_ok _ _ _,rfl,Zac.nil _ _,fun t ht=>(by cases ht),Df,Aa,TabRun.zero⟩
 case round =>
  clear Df
  obtain⟨i,ct,T,hi,rfl,Xi,Co,Pd,Mf,Df,Kb,Ah⟩:=hrel
  rename World=>wr
  by_cases hlt:i<l.length
  · obtain⟨x,hx⟩:∃ x,l[i]?=some x:=⟨l[i],List.getElem?_eq_getElem hlt⟩
    have Od:=hid hx
    clear hx
    go_wp2_with (first|((with_reducible refine Zah 118 ?_);refine LB (L:=(Ct.cells ct)) Df.out ?_)|(go_at_call 69;refine(one_any15 l _ _ i hlt (by omega) x Od.out ct _ w0 (Ja.out.trans (Kb.out.mono Ja.out.size)) H1.out (Rf.out x (List.mem_of_getElem? Od.out)) (Gj.out x (List.mem_of_getElem? Od.out)) (2*i) (by omega) Xi.out T Co.out Pd.out Mf.out).mono ?_;rintro ee w5 ⟨c2,k2,rfl,Hd,Ob,hb⟩;have Uc:=hid Hd;have Zc:=hid Ob;have Df:=hid (Df.out.kept hb);have Ps:Hid (Below w.heap.size w w5):=Kb.out.trans (hb.mono Kb.out.size);clear Hd Ob hb;rcases ZcA k2 with rfl|Uf)|((with_reducible refine ZaK 118 ?_);refine ZaA rfl rfl 118 _ _ rfl rfl rfl (Ct.cells c2) rfl rfl (by kernel_rfl) (by rfl) ?_;intro g7 w8 hbx Re hb;have Se:=hid hbx;have HNE:Hid (g7≠g3):=(fun e=>by(have:=Df.out.lt;rw[e]at Re;omega));have Uc:=hid (Uc.out.kept hb);have Zc:Hid (OneQ T l i x w0 w8 c2 _):=hid (fun h0=>let ⟨q1,T2,q2,q3,q4⟩:=Zc.out h0;⟨q1,T2,q2,q3.kept hb,q4⟩);have Df:=hid (Df.out.kept hb);have Ns:Hid (Below w.heap.size w w8):=Ps.out.trans (hb.mono Ps.out.size);clear Re hbx hb)|((with_reducible refine Zah 118 ?_);refine LB (L:=(Ct.cells c2)) Se.out ?_)|((with_reducible refine Zaf 118 ?_);refine ZaE rfl 118 _ _ rfl rfl g3 118 _ (Ct.cells c2) rfl rfl Df.out (by kernel_rfl) rfl rfl w Ns.out Ii.out ?_;intro w9 hby hyb hot;have Fy:=hid hby;have Kw:Hid (Below w.heap.size w w9):=hyb;have Hy:=hid (Uc.out.put Df.out (Zbc _ _ _ _ _ _ _ _ _ _ _ _) hot);have HQ9:Hid (OneQ T l i x w0 w9 c2 _):=hid (fun h0=>let ⟨q1,T2,q2,q3,q4⟩:=Zc.out h0;⟨q1,T2,q2,TbsL.put q3 Df.out (Zbc _ _ _ _ _ _ _ _ _ _ _ _) hot,q4⟩);clear hby hyb hot)|fail)
    all_goals first
     |(go_ret;exact⟨_,rfl,fun h0=>absurd h0 Uf,Ns.out⟩)
     |skip
    obtain⟨hok,T2,Ob,Xk,Kp⟩:=HQ9.out rfl
    have Eo:=hid Ob
    have Rj:=hid Xk
    have Qu:Hid (∀ t∈T2,FdsAt w0 t.fa t.fn):=Kp.1.fds Mf.out (Gj.out x (List.mem_of_getElem? Od.out))
    have Nf:Hid (TabRun w0 l (i+1) T2):=TabRun.succ Ah.out Od.out hok Kp.1 Kp.2
    clear Ob Xk Kp hok
    go_roundw
    case rel=>exact⟨i+1,c2,T2,by omega,by go_num,Hy,Eo,Rj,Qu,Fy,Kw,Nf⟩
    case measure=>simp[intOf];omega
  · obtain rfl:i=l.length:=by omega
    go_wp2_with fail
    go_ret
    exact⟨_,rfl,fun _=>⟨T,Ah.out⟩,Kb.out⟩
theorem En.Few.kept {w w':World}{e:En}(h:e.Few w)(hb:Below w.heap.size w w'):e.Few w':={ h with ft:=h.ft.kept hb }
def LogOk (l:List En)(w:World):Prop:=l.length<=60/\(∀ e∈l,e.Few w)/\∃ T,TabRun w l l.length T
theorem lvalid_any (l:List En)(ao:Option Addr)(c:Nat)(hl:l.length<=140737488355328)(w:World)(h:Zac En.cells 40 w ao l)(hs:∀ e∈l,e.Seen w):Calls prog 10 #[.slice ao l.length c] w (GotP (fun b=>b=true->LogOk l w) w):=by
 have H1:=hid h
 have Rf:=hid hs
 have HL:=hid hl
 clear h hs hl
 go_enter func10,ntmps10
 go_wp2_with (first|(go_at_call 37;refine(fewentries_any l _ _ _ HL.out H1.out Rf.out).mono ?_;rintro ee w1 ⟨b,rfl,hq,hb⟩;have HQ:=hid hq;have Jh:Hid (Below w.heap.size w w1):=hb;clear hq hb;cases b)|(go_at_call 38;refine(check15_any l _ _ (HQ.out (by first|rfl|trivial)).1 _ w Jh.out H1.out Rf.out (fun e he=>(Rf.out e he).cg ((HQ.out (by first|rfl|trivial)).2 e he))).mono ?_;rintro ee w2 ⟨k,rfl,hq,hb⟩;have HK:=hid hq;have Wb:Hid (Below w.heap.size w w2):=ZT Jh.out hb;clear hq hb;rcases ZcA k with rfl|Uf)|fail)
 all_goals go_ret
 all_goals first
  |exact⟨_,rfl,fun h=>absurd h (by decide),Jh.out⟩
  |exact⟨_,rfl,fun h=>⟨(HQ.out (by first|rfl|trivial)).1,(HQ.out (by first|rfl|trivial)).2,HK.out (by first|rfl|trivial)⟩,Wb.out⟩
  |exact⟨_,rfl,fun h=>(by simp at h;exact absurd h Uf),Wb.out⟩
open Go.Maps
theorem findT_put {t:Tb}:∀ {l:List Tb},findT l t.m=none->findT (insT l t) t.m=some t
 |[],_=>by unfold findT insT;rw[List.find?_cons,decide_eq_true rfl]
 |x :: l,h=>by
  unfold findT at h
  rw[List.find?_cons]at h
  unfold insT
  cases hx:decide (x.m=t.m)with
  |true=>rw[hx]at h;cases h
  |false =>
   rw[hx]at h
   split
   · unfold findT
     rw[List.find?_cons,hx]
     exact findT_put (l:=l) h
   · unfold findT
     rw[List.find?_cons,decide_eq_true rfl]
def Abt (p:List En)(T:List Tb)(a b:ByteArray)(k:FID):Prop:=∃ y∈p,y.kind=1/\y.fk≠3/\y.base=k/\y.ky=b/\∃ t,findT T y.tb=some t/\t.e=a
structure EraInv (p:List En) (T:List Tb):Prop where
 kinds:∀ nm,(erS p).kinds nm=(findT T nm).map Tb.e
 known:∀ y∈p,y.kind=1->y.fk≠3->∃ t,findT T y.tb=some t
 about:∀ (who:Who) (k:FID),k∈(erS p).about who↔Abt p T who.1 who.2 k
theorem EraInv.step {p:List En}{T T2:List Tb}{x:En}(h:EraInv p T)(hk:x.kind=1->x.fk≠3->∃ t,findT T x.tb=some t)(hs:Zc6 T x T2):EraInv (p++[x]) T2:=by
 have hsame:¬ (x.kind=3/\x.ck=1)->T2=T:=fun h3=>by
  by_cases h:x.kind=3
  · exact(hs.1 h).2 (fun q=>h3 ⟨h,q⟩)
  · exact hs.2 h
 have hsub:Sub T T2:=by
  by_cases h3:x.kind=3/\x.ck=1
  · obtain⟨f,rfl⟩:=(hs.1 h3.1).1 h3.2
    exact findT_ins f
  · rw[hsame h3];exact fun _ _ h=>h
 have hold:∀ y∈p,y.kind=1->y.fk≠3->∀ e,(∃ t,findT T2 y.tb=some t/\t.e=e)↔∃ t,findT T y.tb=some t/\t.e=e:=by
  intro y hy h1 h2 e
  obtain⟨t0,ht⟩:=h.known y hy h1 h2
  rw[ht,hsub _ _ ht]
 have hsnoc:∀ (who:Who) k,Abt (p++[x]) T2 who.1 who.2 k↔k∈(erS p).about who∨(x.kind=1/\x.fk≠3/\x.base=k/\x.ky=who.2/\∃ t,findT T2 x.tb=some t/\t.e=who.1):=by
  intro who k
  rw[h.about]
  constructor
  · rintro ⟨y,hy,h1,h2,h3,h4,h5⟩
    rcases List.mem_append.1 hy with hy|hy
    · exact Or.inl ⟨y,hy,h1,h2,h3,h4,(hold y hy h1 h2 _).1 h5⟩
    · rw[List.mem_singleton]at hy
      subst hy
      exact Or.inr ⟨h1,h2,h3,h4,h5⟩
  · rintro (⟨y,hy,h1,h2,h3,h4,h5⟩|h5)
    · exact⟨y,List.mem_append_left _ hy,h1,h2,h3,h4,(hold y hy h1 h2 _).2 h5⟩
    · exact⟨x,by simp,h5⟩
 refine⟨fun nm=>?_,fun y hy h1 h2=>?_,fun who k=>?_⟩
 · rw[ZeL]
   unfold stepR
   by_cases h3:x.kind=3/\x.ck=1
   · rw[if_pos h3]
     obtain⟨f,rfl⟩:=(hs.1 h3.1).1 h3.2
     show(if nm=x.tn then some x.te else(erS p).kinds nm)=_
     by_cases e:nm=x.tn
     · rw[if_pos e,e]
       have:=findT_put f
       rw[show findT (insT T x.cg.t) x.tn=some x.cg.t from this]
       rfl
     · rw[if_neg e,h.kinds,Zdq (fun q=>e q.symm)]
   · rw[if_neg h3,hsame h3,<-h.kinds]
     split
     · rfl
     · split
       · rfl
       · split<;>rfl
 · rcases List.mem_append.1 hy with hy|hy
   · obtain⟨t,ht⟩:=h.known y hy h1 h2
     exact⟨t,hsub _ _ ht⟩
   · rw[List.mem_singleton]at hy
     subst hy
     obtain⟨t,ht⟩:=hk h1 h2
     exact⟨t,hsub _ _ ht⟩
 · rw[hsnoc,ZeL]
   unfold stepR
   by_cases h3:x.kind=3/\x.ck=1
   · rw[if_pos h3]
     exact⟨Or.inl,fun q=>q.elim id (fun q=>by have:=h3.1;have:=q.1;omega)⟩
   · rw[if_neg h3]
     by_cases h1:x.kind=1/\x.fk≠3
     · rw[if_pos h1]
       show k∈(if who=whoF (erS p) x then(erS p).about who++[x.base]else(erS p).about who)↔_
       obtain⟨t,ht⟩:=hk h1.1 h1.2
       have hw:whoF (erS p) x=(t.e,x.ky):=by unfold whoF;rw[h.kinds,ht];rfl
       rw[hw]
       by_cases e:who=(t.e,x.ky)
       · rw[if_pos e,List.mem_append,List.mem_singleton]
         exact or_congr Iff.rfl ⟨fun q=>⟨h1.1,h1.2,q.symm,by rw[e],t,hsub _ _ ht,by rw[e]⟩,fun q=>q.2.2.1.symm⟩
       · rw[if_neg e]
         refine⟨Or.inl,fun q=>q.elim id (fun q=>?_)⟩
         obtain⟨-,-,-,q1,t2,q2,q3⟩:=q
         rw[hsub _ _ ht]at q2
         injection q2 with q2
         subst q2
         exact absurd (Prod.ext q3.symm q1.symm) e
     · rw[if_neg h1]
       refine Iff.trans (?_:_↔k∈(erS p).about who) ⟨Or.inl,fun q=>q.elim id (fun q=>absurd ⟨q.1,q.2.1⟩ h1)⟩
       split
       · exact Iff.rfl
       · split<;>exact Iff.rfl
theorem TabRun.era {w:World}{l:List En}:∀ {n:Nat} {T:List Tb},TabRun w l n T->EraInv (l.take n) T
 |_,_,.zero=>⟨fun nm=>rfl,fun y hy=>(by cases hy),fun who k=>⟨fun h=>(by cases h),fun⟨y,hy,_⟩=>(by cases hy)⟩⟩
 |_,_,.succ h hx ho hs _=>by
  rw[Zar hx]
  exact h.era.step (fun h1 h2=>(ho.2.2 h1).2.2 h2) hs
def Zeu (p:List En)(m:List FID):Prop:=SortI m/\∀ k,k∈m↔erF p k=true
theorem erF_snoc (p:List En)(x:En)(k:FID):erF (p++[x]) k=(stepR (erS p) x).ids k:=by unfold erF;rw[ZeL]
theorem erasOf_nil:Zeu [] []:=⟨List.Pairwise.nil,fun k=>⟨fun h=>(by cases h),fun h=>(by cases h)⟩⟩
theorem erasOf_skip {p:List En}{m:List FID}{x:En}(h:Zeu p m)(hk:x.kind≠2):Zeu (p++[x]) m:=by
 refine⟨h.1,fun k=>?_⟩
 rw[h.2,erF_snoc]
 unfold stepR
 split
 · exact Iff.rfl
 · split
   · exact Iff.rfl
   · rw[if_neg (fun q=>hk q.1)]
     first|exact Iff.rfl|(rw[if_neg hk])
theorem erasOf_one {p:List En}{m m2:List FID}{x:En}(h:Zeu p m)(hk:x.kind=2)(he:x.ek=2)(h1:SortI m2)(h2:∀ k,k∈m2↔k∈m∨k=(x.esr,x.esq)):Zeu (p++[x]) m2:=by
 refine⟨h1,fun k=>?_⟩
 rw[h2,h.2,erF_snoc]
 unfold stepR
 rw[if_neg (fun q=>by omega),if_neg (fun q=>by omega),if_pos ⟨hk,he⟩]
 show _↔(eqF k (x.esr,x.esq)||(erS p).ids k)=true
 rw[Bool.or_eq_true,ZaW]
 exact Or.comm
theorem erasOf_all {p:List En}{T:List Tb}{m m2:List FID}{x:En}(h:Zeu p m)(hT:EraInv p T)(hk:x.kind=2)(he:x.ek≠2)(h1:SortI m2)(h2:∀ k,k∈m2↔k∈m∨Abt p T x.een x.eky k):Zeu (p++[x]) m2:=by
 refine⟨h1,fun k=>?_⟩
 rw[h2,h.2,erF_snoc]
 unfold stepR
 rw[if_neg (fun q=>by omega),if_neg (fun q=>by omega),if_neg (fun q=>he q.2),if_pos hk]
 show _↔(memF ((erS p).about (x.een,x.eky)) k||(erS p).ids k)=true
 rw[Bool.or_eq_true,ZeG,hT.about]
 exact Or.comm
theorem nodup_len {α:Type}:∀ (A B:List α),A.Nodup->(∀ x∈A,x∈B)->A.length<=B.length
 |[],_,_,_=>by simp
 |a :: A,B,hn,hs=>by
  obtain⟨s,t,rfl⟩:=List.append_of_mem (hs a (by simp))
  rw[List.nodup_cons]at hn
  have:=nodup_len A (s++t) hn.2 (fun x hx=>by
   have h:=hs x (by simp[hx])
   simp only[List.mem_append,List.mem_cons]at h ⊢
   rcases h with h|h|h
   · exact Or.inl h
   · subst h;exact absurd hx hn.1
   · exact Or.inr h)
  simp at this ⊢
  omega
theorem putK_len {κ:Type}(c:κ->κ->Int)(x:κ × Int):∀ (l:List (κ × Int)),(putK c l x).length<=l.length+1
 |[]=>by unfold putK;split<;>simp
 |y :: r=>by
  have:=putK_len c x r
  unfold putK
  split
  · simp;omega
  · split
    · split<;>simp
    · split<;>simp<;>omega
theorem consK_len (L:List (DK × Int)):(consK L).length<=L.length:=by
 have key:∀ (L F:List (DK × Int)),(L.foldl (putK cmpD) F).length<=F.length+L.length:=by
  intro L
  induction L with
  |nil=>intro F;simp
  |cons x L ih =>
   intro F
   have h1:=ih (putK cmpD F x)
   have h2:=putK_len cmpD x F
   simp only[List.foldl_cons,List.length_cons]
   omega
 have:=key L []
 simpa [consK]using this
theorem effL_len {l:List En}(hl:∀ x∈l,OkF x.base)(hs:∀ x∈l,x.kind=1->1<=x.seq)(t:Int):(effL l t).length<=l.length:=by
 have he:=effL_ex (t:=t) hl
 have hn:((effL l t).map (fun r=>((r.src,r.seq):FID))).Nodup:=by
  unfold List.Nodup
  rw[List.pairwise_map]
  refine he.rise.imp_of_mem (fun {a b} ha hb h e=>?_)
  have h1:=he.mem a ha
  have h2:=he.mem b hb
  rw[e,h2]at h1
  injection h1 with h1
  rw[h1,ZaN.refl]at h
  omega
 have:=nodup_len _ (l.map En.base) hn (fun k hk=>by
  obtain⟨r,hr,rfl⟩:=List.mem_map.1 hk
  obtain⟨e,h1,-,-,h4,-⟩:=eff_entry hl hs hr
  exact List.mem_map.2 ⟨e,h1,h4⟩)
 simpa using this
theorem frS_len {l:List En}{N:Nat}(h:∀ t,(effL l t).length<=N):∀ i,(frS l i).1.length<=i*(2*N)/\(frS l i).2.length<=N
 |0=>by simp[frS]
 |i+1=>by
  obtain⟨h1,h2⟩:=frS_len h i
  have h3:=h (ZbM l i)
  rw[Zce]
  unfold Zb0
  have e:(i+1)*(2*N)=i*(2*N)+2*N:=by rw[Nat.add_mul,Nat.one_mul]
  split
  · exact⟨by omega,h2⟩
  · refine⟨?_,h3⟩
    simp only[betD,List.length_append,List.length_map]
    omega
theorem TabRun.ent {w:World}{l:List En}:∀ {n:Nat} {T:List Tb},TabRun w l n T->∀ i x,i<n->l[i]?=some x->∃ T,EntOk T l i x
 |_,_,.zero,i,_,hi,_=>absurd hi (by omega)
 |_,_,.succ (i:=n) (T:=T) h hx ho hs _,i,x,hi,hix=>by
  by_cases e:i=n
  · subst e
    rw[hx]at hix
    injection hix with hix
    subst hix
    exact⟨T,ho⟩
  · exact h.ent i x (by omega) hix
theorem LogOk.ent {l:List En}{w:World}(h:LogOk l w){x:En}(hx:x∈l):∃ T i,l[i]?=some x/\EntOk T l i x:=by
 obtain⟨-,-,T,hT⟩:=h
 obtain⟨i,hi,rfl⟩:=List.mem_iff_getElem.1 hx
 obtain⟨T2,h2⟩:=hT.ent i _ hi (List.getElem?_eq_getElem hi)
 exact⟨T2,i,List.getElem?_eq_getElem hi,h2⟩
theorem LogOk.next {l:List En}{w:World}(h:LogOk l w)(p:Nat)(x y:En)(hx:l[p]?=some x)(hy:l[p+1]?=some y):x.no<y.no/\x.tick<=y.tick:=by
 obtain⟨-,-,T,hT⟩:=h
 obtain⟨T2,⟨-,-,-,-,h5⟩,-⟩:=hT.ent (p+1) y (List.getElem?_eq_some_iff.1 hy).1 hy
 exact h5 p x rfl hx
theorem LogOk.seqs {l:List En}{w:World}(h:LogOk l w):∀ x∈l,x.kind=1->1<=x.seq:=fun x hx hk=>by
 obtain⟨T,i,-,-,-,h3⟩:=h.ent hx
 exact(h3 hk).1
theorem LogOk.max {l:List En}{w:World}(h:LogOk l w):∀ x∈l,x.tick<=1099511627776:=fun x hx=>by
 obtain⟨T,i,-,⟨-,-,-,h4,-⟩,-⟩:=h.ent hx
 exact h4
theorem LogOk.ens {l:List En}{w:World}{ao:Option Addr}(h:LogOk l w)(hl:Zac En.cells 40 w ao l)(hs:∀ e∈l,e.Seen w):EnsAt w ao l:=⟨hl,fun e he=>(hs e he).ok (h.2.1 e he)⟩
theorem EnsAt.bases {l:List En}{w:World}{ao:Option Addr}(h:EnsAt w ao l):∀ x∈l,OkF x.base:=fun x hx=>(h.2 x hx).base
theorem TabRun.det {w:World}{l:List En}:∀ {n:Nat} {T T2:List Tb},TabRun w l n T->TabRun w l n T2->T=T2
 |_,_,_,.zero,.zero=>rfl
 |_,_,_,.succ (x:=x) h hx _ hs _,.succ h2 Eg _ hs2 _=>by
  obtain rfl:=h.det h2
  rw[hx]at Eg
  injection Eg with Eg
  subst Eg
  by_cases h3:x.kind=3
  · by_cases h1:x.cg.k=1
    · rw[((hs.1 h3).1 h1).2,((hs2.1 h3).1 h1).2]
    · rw[(hs.1 h3).2 h1,(hs2.1 h3).2 h1]
  · rw[hs.2 h3,hs2.2 h3]
theorem TabRun.at_ {w:World}{l:List En}:∀ {n:Nat} {T:List Tb},TabRun w l n T->∀ j,j<n->∃ x T1 T2,TabRun w l j T1/\l[j]?=some x/\EntOk T1 l j x/\Zc6 T1 x T2/\StepOk w x T2
 |_,_,.zero,j,hj=>absurd hj (by omega)
 |_,_,.succ (i:=n) h hx ho hs hk,j,hj=>by
  by_cases e:j=n
  · subst e
    exact⟨_,_,_,h,hx,ho,hs,hk⟩
  · exact h.at_ j (by omega)
theorem TabRun.fds {w:World}{l:List En}(hg:∀ e∈l,e.cg.Ok w):∀ {n:Nat} {T:List Tb},TabRun w l n T->∀ t∈T,FdsAt w t.fa t.fn
 |_,_,.zero=>fun t ht=>(by cases ht)
 |_,_,.succ h hx _ hs _=>hs.fds (h.fds hg) (hg _ (List.mem_of_getElem? hx))
theorem TabRun.len {w:World}{l:List En}:∀ {n:Nat} {T:List Tb},TabRun w l n T->T.length<=n
 |_,_,.zero=>Nat.le_refl _
 |_,_,.succ (T:=T) (x:=x) h _ _ hs _=>by
  have hl:=h.len
  by_cases h3:x.kind=3
  · by_cases h1:x.cg.k=1
    · obtain⟨i,hi⟩:=Zdf x.cg.t T
      rw[((hs.1 h3).1 h1).2,hi]
      simp
      omega
    · rw[(hs.1 h3).2 h1];omega
  · rw[hs.2 h3];omega
def StepPost (T1 T2:List Tb)(w0:World)(B:Nat)(w:World)(e:Ending)(w':World):Prop:=∃ (c2:Ct) (k:Int),e=.returned (.tuple #[c2.val,.int .i64 k])/\c2.Ok w0 B w'/\(k=0->CatIn w0 w' c2 T2)/\(k≠0->T2=T1)/\Below w.heap.size w w'
theorem apply_again (ct:Ct)(x:En)(w w0:World)(Oa:Below w0.heap.size w0 w)(B:Nat)(hB:B<=990)(h:ct.Ok w0 B w)(T1 T2:List Tb)(hc:CatIn w0 w ct T1)(hok:∀ t∈T1,FdsAt w0 t.fa t.fn)(hx:x.cg.Ok w0)(h3:x.kind=3)(hs:Zc6 T1 x T2)(ho:StepOk w0 x T2) :
 Calls prog 97 #[ct.val,.agg x.cg.cells.toArray] w (StepPost T1 T2 w0 (B+2) w):=by
 obtain⟨F,D,Q,hl,hz⟩:=hc
 refine(apply_det ct x.cg w w0 Oa B (by omega) h T1 hl.tn hl.t hok hx).mono ?_
 rintro e w' ⟨c2,k,rfl,h2,hq,hg,hb⟩
 refine⟨c2,k,rfl,h2,fun h0=>?_,fun h0=>?_,hb⟩
 · obtain⟨-,l2,hn,hi⟩:=hq h0
   have e:l2=T2:=by
    by_cases h1:x.cg.k=1
    · rw[(hn.1 h1).2,((hs.1 h3).1 h1).2]
    · rw[hn.2 h1,(hs.1 h3).2 h1]
   exact e ▸ hi.cat
 · by_cases h1:x.cg.k=1
   · have e:=(hs.1 h3).1 h1
     exact absurd (hg ⟨h1,(ho h3).1,e.1,by rw[<-e.2];exact(ho h3).2.1,by rw[<-e.2];exact(ho h3).2.2,F,D,Q,hl,hz⟩) h0
   · exact(hs.1 h3).2 h1
theorem CatIn.put {w0 w w':World}{c:Ct}{l:List Tb}{g:Nat}{cs:Array Value}{t:TypeId}(h:CatIn w0 w c l)(hg:Box w g cs t)(hcs:NoStr cs)(hot:∀ k,k≠g->w'.heap[k]?=w.heap[k]?):CatIn w0 w' c l:=let ⟨F,D,Q,h1,h2⟩:=h;⟨F,D,Q,⟨h1.tn,TbsL.put h1.t hg hcs hot,h1.fn,FtsL.put h1.f hg hcs hot,h1.dn,FtsL.put h1.d hg hcs hot,h1.qn,FtsL.put h1.q hg hcs hot⟩,h2⟩
def AtPost (T:List Tb)(w0:World)(B:Nat)(w:World)(e:Ending)(w':World):Prop:=∃ c2:Ct,e=.returned c2.val/\c2.Ok w0 B w'/\CatIn w0 w' c2 T/\Below w.heap.size w w'
set_option maxHeartbeats 8000000 in
theorem at_any14 (l:List En)(ao:Option Addr)(n c:Nat)(hn:n<=l.length)(hl:l.length<=60)(w w0:World)(Oa:Below w0.heap.size w0 w)(h:Zac En.cells 40 w ao l)(hg:∀ e∈l,e.cg.Ok w0)(T:List Tb)(hT:TabRun w0 l n T) :
 Calls prog 99 #[.slice ao n c,.int .i64 1099511627776] w (AtPost T w0 130 w):=by
 have H1:=hid h
 have Gj:=hid hg
 have Ja:=hid Oa
 have Pu:=hid hT
 have HN:=hid hn
 clear h hg Oa hT
 go_enter func99,ntmps99
 go_upto_region 1 with fail
 refine gen1 (fun V Su Aa=>?_)
 go_upto_region 2 with(first|((with_reducible refine Zaq 118 ?_);refine Zae rfl 118 #[] rfl Ct.zero.cells (fun w=>Zcg w) ?_;intro v hv;obtain rfl:=hv.out)|((with_reducible refine ZaK 118 ?_);refine ZaA rfl rfl 118 _ _ rfl rfl rfl (Ct.cells Ct.zero) rfl rfl (by kernel_rfl) (by rfl) ?_;intro g3 w3 hbx Gg hb;have Df:=hid hbx;have Ii:=hid Gg;have Ib:=hid hb;clear hbx Gg hb)|fail)
 have HGW:Hid (w.heap.size<=g3):=by have h1:=Ii.out;have h2:=Aa.out.size;have h3:=Su.out.lt;show _<=_;omega
 have Ls:Hid (Cs w0 w 0 g3 w.heap.size Ct.zero w3):=⟨Df.out,Su.out.kept Ib.out,Ct.zero_ok _ _ _,ZT Aa.out Ib.out,Ja.out,HGW.out,Nat.le_refl _,(by have h1:=Ii.out;have h3:=Su.out.lt;omega)⟩
 clear Df Su
 go_wp2_with fail
 go_loopw [6] (fun v wr=>∃ (i:Nat) (ct:Ct) (T1:List Tb),i<=n/\v=.int .i64 i/\Hid (Cs w0 w (2*i) g3 w.heap.size ct wr)/\Hid (CatIn w0 wr ct T1)/\Hid (TabRun w0 l i T1)) (fun v _=>n - (intOf v).toNat)
 case atStart=>exact⟨0,Ct.zero,[],by omega,rfl,Ls,CatIn.zero _ _,TabRun.zero⟩
 case round =>
  clear Ls
  obtain⟨i,ct,T1,hi,rfl,Ba,Fv,Ah⟩:=hrel
  rename World=>wr
  by_cases hlt:i<n
  · obtain⟨x,T1',T2,hr,hx,ho,hs,hk⟩:=Pu.out.at_ i hlt
    obtain rfl:=hr.det Ah.out
    have Od:=hid hx
    have Nu:=hid (Gj.out x (List.mem_of_getElem? hx))
    have Nf:Hid (TabRun w0 l (i+1) T2):=TabRun.succ hr hx ho hs hk
    have Sx:Hid (∀ t∈T1',FdsAt w0 t.fa t.fn):=hr.fds Gj.out
    obtain⟨b1,o1,rfl,Da⟩:=(H1.out.kept Ba.out.below).some (by omega)
    have n2:wr.cell? ⟨b1,o1+i*40+2,none⟩=some (.int .i64 x.kind):=Da i x hx 2 _ rfl
    have n1:wr.cell? ⟨b1,o1+i*40+1,none⟩=some (.int .i64 x.tick):=Da i x hx 1 _ rfl
    have Sh:Hid (∀ w',Below wr.heap.size wr w'->∀ j v,(Cg.cells x.cg)[j]?=some v->w'.cell? ⟨b1,o1+i*40+16+j,none⟩=some v):=fun w' hb j v hj=>Zaa (Zec Da hx 16 24 (En.cells_cg x) j v hj) hb
    have htick:¬ (1099511627776:Int)<x.tick:=by have:=ho.1.2.2.2.1;omega
    have d2:decide ((1099511627776:Int)<x.tick)=false:=decide_eq_false htick
    have HO:=hid ho
    have Ym:Hid (Zc6 T1' x T2):=hs
    have HSK:Hid (StepOk w0 x T2):=hk
    clear hr hx ho hs hk Da htick
    by_cases Jf:x.kind=3
    · have e3:(x.kind != 3)=false:=by rw[Jf];rfl
      have Ly:Hid (∀ w',Below wr.heap.size wr w'->Calls prog 97 #[.agg (Ct.cells ct).toArray,.agg (Cg.cells x.cg).toArray] w' (StepPost T1' T2 w0 (2*i+2) w')):=fun w' hb=>apply_again ct x w' w0 (Ba.out.wz.trans (hb.mono Ba.out.wz.size)) (2*i) (by omega) (Ba.out.ok.kept hb) T1' T2 (Fv.out.kept hb) Sx.out Nu.out Jf Ym.out HSK.out
      unfold StepPost at Ly
      have Tg:Hid (∀ w',Below wr.heap.size wr w'->∀ j v,(Ct.cells ct)[j]?=some v->w'.cell? ⟨g3,0+j,none⟩=some v):=fun w' hb j v hj=>by rw[Nat.zero_add];exact(Ba.out.box.kept hb).cell j v (by rw[List.getElem?_toArray];exact hj)
      clear Jf
      go_upto_region 6 with fail
      refine wrt (S:=fun w'=>Below wr.heap.size wr w') (.free 0 (.free 1 (.free 2 (.free 3 (.free 4 (.free 5 (.two 6 (.free 7 (.free 8 (.free 9 (.one 10 (.one 11 (.free 12 .done)))))) 10 (.one 6 (.free 7 (.free 8 (.free 9 (.one 11 (.free 12 .done))))))))))))) (ZD (ZR wr)) ?_
      refine tl g3 0 (Ct.cells ct) (fun w hS=>Tg.out w hS) ?_
      refine tk0 (.slice (some ⟨b1,o1,none⟩) n c) ?_
      refine tk0 (.int .i64 i) ?_
      refine tk0 (.pointer (some ⟨b1,o1+i*40,none⟩)) ?_
      refine tk0 (.pointer (some ⟨b1,o1+i*40+16,none⟩)) ?_
      refine tl b1 (o1+i*40+16) (Cg.cells x.cg) (fun w hS=>Sh.out w hS) ?_
      refine ZeX ?p1 ?q1
      case' p1 =>
       refine t1 fun K hK=>?_
       go_wp2_with (go_at_call 97;(with_reducible refine(Ly.out _ bt).mono ?_);rintro e w5 ⟨c2,k2,rfl,h2,h3,h4,hb⟩;have Uc:=hid h2;have Pk:=hid h3;have Fx:=hid h4;have Db:Hid (Below wr.heap.size wr w5):=ZT bt hb;clear h2 h3 h4 hb)
       refine hk hK Db.out ?_
       clear hK K
       refine tk0 (.tuple #[c2.val,.int .i64 k2]) ?_
       refine tk0 (c2.val) ?_
       refine tk0 (.int .i64 k2) ?_
       refine t1 fun K hK=>?_
       refine Zed 118 rfl [.slice none 0 0,.slice none 0 0,.slice none 0 0,.slice none 0 0] (by kernel_rfl) ?_
       intro w9 hnb hbe
       have HN:=hid hnb
       have Uc:=hid (Uc.out.kept hbe)
       have Pk:Hid (k2=0->CatIn w0 w9 c2 T2):=fun h0=>(Pk.out h0).kept hbe
       have Zf:Hid (Below wr.heap.size wr w9):=ZT bt hbe
       refine hk hK Zf.out ?_
       clear hK K hnb hbe
       refine t1 fun K hK=>?_
       have Ab:=HN
       refine Zcn 118 _ _ rfl rfl _ 118 _ (Ct.cells c2) rfl rfl Ab.out (by kernel_rfl) (by rfl) (by rfl) wr bt (by first|exact Db.out.size|exact Nat.le_refl _) ?_
       intro w10 Ud Pb hot
       have Se:=hid Ud
       have Uc:=hid (Uc.out.put Ab.out (Zbc _ _ _ _ _ _ _ _ _ _ _ _) hot)
       have Pk:Hid (k2=0->CatIn w0 w10 c2 T2):=fun h0=>(Pk.out h0).put Ab.out (Zbc _ _ _ _ _ _ _ _ _ _ _ _) hot
       have Xb:Hid (Below wr.heap.size wr w10):=Pb
       refine hk hK Xb.out ?_
       clear hK K Ud Pb hot
       refine tk0 (.int .i64 k2) ?_
       refine ZaP ?_
      case' q1 =>
       refine t1 fun K hK=>?_
       refine Zed 118 rfl [.slice none 0 0,.slice none 0 0,.slice none 0 0,.slice none 0 0] (by kernel_rfl) ?_
       intro w9 hnb hbe
       have HN:=hid hnb
       have Zf:Hid (Below wr.heap.size wr w9):=ZT bt hbe
       refine hk hK Zf.out ?_
       clear hK K hnb hbe
       refine t1 fun K hK=>?_
       go_wp2_with (go_at_call 97;(with_reducible refine(Ly.out _ bt).mono ?_);rintro e w5 ⟨c2,k2,rfl,h2,h3,h4,hb⟩;have Uc:=hid h2;have Pk:=hid h3;have Fx:=hid h4;have hKB:=hid hb;have Db:Hid (Below wr.heap.size wr w5):=ZT bt hb;clear h2 h3 h4 hb)
       refine hk hK Db.out ?_
       clear hK K
       refine tk0 (.tuple #[c2.val,.int .i64 k2]) ?_
       refine tk0 (c2.val) ?_
       refine tk0 (.int .i64 k2) ?_
       refine t1 fun K hK=>?_
       have Ab:=hid (HN.out.kept hKB.out)
       refine Zcn 118 _ _ rfl rfl _ 118 _ (Ct.cells c2) rfl rfl Ab.out (by kernel_rfl) (by rfl) (by rfl) wr bt (by first|exact Db.out.size|exact Nat.le_refl _) ?_
       intro w10 Ud Pb hot
       have Se:=hid Ud
       have Uc:=hid (Uc.out.put Ab.out (Zbc _ _ _ _ _ _ _ _ _ _ _ _) hot)
       have Pk:Hid (k2=0->CatIn w0 w10 c2 T2):=fun h0=>(Pk.out h0).put Ab.out (Zbc _ _ _ _ _ _ _ _ _ _ _ _) hot
       have Xb:Hid (Below wr.heap.size wr w10):=Pb
       refine hk hK Xb.out ?_
       clear hK K Ud Pb hot
       refine tk0 (.int .i64 k2) ?_
       refine ZaP ?_
      all_goals
       have Ic:=hid (Ba.out.kept Xb.out)
       have Ds:=hid Ic.out.below
       have Cp:=hid Ic.out.box
       rcases ZcA k2 with rfl|Uf
       · go_wp2_with (first|((with_reducible refine Zah 118 ?_);refine LB (L:=(Ct.cells c2)) Se.out ?_)|((with_reducible refine Zaf 118 ?_);refine ZaE rfl 118 _ _ rfl rfl g3 118 _ (Ct.cells c2) rfl rfl Cp.out (by kernel_rfl) rfl rfl w Ds.out HGW.out ?_;intro w9 hby hyb hot;have Hy:Hid (Cs w0 w (2*i+2) g3 w.heap.size c2 w9):=⟨hby,Ic.out.res.aside hot Ic.out.ne,Uc.out.put Cp.out (Zbc _ _ _ _ _ _ _ _ _ _ _ _) hot,hyb,Ic.out.old,Ic.out.hg,Ic.out.hr,Ic.out.ne⟩;have HI9:Hid (CatIn w0 w9 c2 T2):=(Pk.out (by first|rfl|assumption)).put Cp.out (Zbc _ _ _ _ _ _ _ _ _ _ _ _) hot;clear hby hyb hot)|fail)
         go_roundw
         case rel=>exact⟨i+1,c2,T2,by omega,by go_num,Hy,HI9,Nf⟩
         case measure=>simp[intOf];omega
       · have h00:(k2==0)=false:=beq_eq_false_iff_ne.2 Uf
         go_wp2_with fail
         go_roundw
         case rel=>exact⟨i+1,ct,T1',by omega,by go_num,⟨Ic.out.box,Ic.out.res,Ic.out.ok.mono (by omega),Ic.out.below,Ic.out.old,Ic.out.hg,Ic.out.hr,Ic.out.ne⟩,Fv.out.kept Xb.out,by first|exact(Fx.out Uf) ▸ Nf.out|exact hid ((Fx.out Uf) ▸ Nf.out)⟩
         case measure=>simp[intOf];omega
    · have e3:(x.kind != 3)=true:=bne_iff_ne.2 Jf
      have hTT:T2=T1':=Ym.out.2 Jf
      clear Jf
      go_wp2_with fail
      go_roundw
      case rel=>exact⟨i+1,ct,T1',by omega,by go_num,⟨Ba.out.box,Ba.out.res,Ba.out.ok.mono (by omega),Ba.out.below,Ba.out.old,Ba.out.hg,Ba.out.hr,Ba.out.ne⟩,Fv,by first|exact hTT ▸ Nf.out|exact hid (hTT ▸ Nf.out)⟩
      case measure=>simp[intOf];omega
  · obtain rfl:i=n:=by omega
    obtain rfl:=Pu.out.det Ah.out
    go_wp2_with (first|((with_reducible refine Zah 118 ?_);refine LB Ba.out.box ?_)|((with_reducible refine Zaf 118 ?_);refine Zao rfl _ _ rfl rfl Ba.out _ rfl rfl Ba.out.ok ?_;intro w9 hR hotr;have HR:=hid hR;have Na:=hid hotr;clear hR hotr)|fail)
    (try simp only[Exit.inBlock,Exit.then]);refine rb1 HR.out.box ?_
    exact⟨ct,rfl,HR.out.ok.mono (by have:=HN.out;omega),Fv.out.put Ba.out.res (Zbc _ _ _ _ _ _ _ _ _ _ _ _) Na.out,HR.out.below⟩
def AbtOf (p:List En)(T:List Tb)(a b:ByteArray)(m m2:List FID):Prop:=SortI m2/\(∀ k,k∈m2↔k∈m∨Abt p T a b k)/\m2.length<=m.length+p.length
theorem abtOf_nil {T:List Tb}{a b:ByteArray}{m:List FID}(h:SortI m):AbtOf [] T a b m m:=⟨h,fun k=>⟨Or.inl,fun q=>q.elim id (fun⟨y,hy,_⟩=>by cases hy)⟩,by simp⟩
theorem abt_snoc {p:List En}{x:En}{T:List Tb}{a b:ByteArray}{k:FID}:Abt (p++[x]) T a b k↔Abt p T a b k∨(x.kind=1/\x.fk≠3/\x.base=k/\x.ky=b/\∃ t,findT T x.tb=some t/\t.e=a):=by
 constructor
 · rintro ⟨y,hy,h⟩
   rcases List.mem_append.1 hy with hy|hy
   · exact Or.inl ⟨y,hy,h⟩
   · rw[List.mem_singleton]at hy
     subst hy
     exact Or.inr h
 · rintro (⟨y,hy,h⟩|h)
   · exact⟨y,List.mem_append_left _ hy,h⟩
   · exact⟨x,by simp,h⟩
theorem Zct {p:List En}{x:En}{T:List Tb}{a b:ByteArray}{m m2:List FID}(h:AbtOf p T a b m m2)(hn:¬ (x.kind=1/\x.fk≠3/\x.ky=b/\∃ t,findT T x.tb=some t/\t.e=a)):AbtOf (p++[x]) T a b m m2:=by
 refine⟨h.1,fun k=>?_,by have:=h.2.2;simp;omega⟩
 rw[h.2.1,abt_snoc,<-or_assoc]
 exact⟨Or.inl,fun q=>q.elim id (fun q=>absurd ⟨q.1,q.2.1,q.2.2.2.1,q.2.2.2.2⟩ hn)⟩
theorem abtOf_snoc {p:List En}{x:En}{T:List Tb}{a b:ByteArray}{m m2 m3:List FID}(h:AbtOf p T a b m m2)(hn:x.kind=1/\x.fk≠3/\x.ky=b/\∃ t,findT T x.tb=some t/\t.e=a)(h1:SortI m3)(h2:∀ k,k∈m3↔k∈m2∨k=x.base)(h3:m3.length<=m2.length+1):AbtOf (p++[x]) T a b m m3:=by
 refine⟨h1,fun k=>?_,by have:=h.2.2;simp;omega⟩
 rw[h2,h.2.1,abt_snoc,<-or_assoc]
 exact or_congr Iff.rfl ⟨fun q=>⟨hn.1,hn.2.1,q.symm,hn.2.2⟩,fun q=>q.2.2.1.symm⟩
def AboutPost (p:List En)(T:List Tb)(a b:ByteArray)(m:List FID)(w:World)(e:Ending)(w':World):Prop:=∃ (m2:List FID) (a2:Option Addr) (c2:Nat),e=.returned (.slice a2 m2.length c2)/\m2.length<=c2/\(a2=none->c2=0)/\Zac fidC 2 w' a2 m2/\AbtOf p T a b m m2/\Below w.heap.size w w'
set_option maxHeartbeats 8000000 in
theorem about_any (l:List En)(ao:Option Addr)(n c:Nat)(hn:n<=l.length)(hl:l.length<=50000)(ct:Ct)(T:List Tb)(hTn:ct.tn=T.length)(hTl:T.length<=100000)(ek esq:Int)(een eky esr:ByteArray)(m:List FID)(ma:Option Addr)(mc:Nat)(hm:m.length<=50000)(hms:SortI m)(hmc:m.length<=mc)(hac:ma=none->mc=0)(w w0:World)(hok:∀ t∈T,FdsAt w0 t.fa t.fn)(hT:Zac Tb.cells 4 w ct.ta T)(h:Zac En.cells 40 w ao l)(hM:Zac fidC 2 w ma m) :
 Calls prog 98 #[.slice ao n c,ct.val,.agg #[.int .i64 ek,.string een,.string eky,.string esr,.int .i64 esq],.slice ma m.length mc] w (AboutPost (l.take n) T een eky m w):=by
 obtain⟨ta,tn,tc,fa,fn,fc,da,dn,dc,qa,qn,qc⟩:=ct
 dsimp only[Ct.val]at *
 subst hTn
 have H1:=hid h
 have Hc:=hid hT
 have Ma:=hid hok
 have Pd:=hid hTl
 have HM0:=hid hM
 have HMS:=hid hms
 have HN:=hid hn
 clear h hT hok hM hms
 go_enter func98,ntmps98
 go_upto_region 1 with fail
 refine Zan (fun V hV=>?_)
 have B0:Hid (Box V w.heap.size (Ct.cells ⟨ta,T.length,tc,fa,fn,fc,da,dn,dc,qa,qn,qc⟩).toArray 118):=by rw[hV];exact ZcH ..
 have B1:Hid (Box V (w.heap.size+1) #[.int .i64 ek,.string een,.string eky,.string esr,.int .i64 esq] 29):=by rw[hV];exact ZcG ..
 have Aa:Hid (Below w.heap.size w V):=by rw[hV];exact bt
 clear hV
 have HT:Hid (Zac Tb.cells 4 V ta T):=Hc.out.kept Aa.out
 go_wp2_with fail
 go_loopw [3,9] (fun u v wr=>∃ (i:Nat) (m2:List FID) (a2:Option Addr) (c2:Nat),i<=n/\v=.int .i64 i/\u=.slice a2 m2.length c2/\m2.length<=c2/\(a2=none->c2=0)/\Hid (Zac fidC 2 wr a2 m2)/\Hid (AbtOf (l.take i) T een eky m m2)/\Hid (Below V.heap.size V wr)) (fun _ v _=>n - (intOf v).toNat)
 case atStart=>exact⟨0,m,ma,mc,by omega,rfl,rfl,hmc,hac,HM0.out.kept Aa.out,(abtOf_nil HMS.out),Below.refl _ _⟩
 case round =>
  clear hmc hac
  obtain⟨i,m2,a2,c2,hi,rfl,rfl,hmc,hac,HM,Me,HR⟩:=hrel
  rename World=>wr
  by_cases hlt:i<n
  · obtain⟨x,hx⟩:∃ x,l[i]?=some x:=⟨l[i]'(by omega),List.getElem?_eq_getElem _⟩
    obtain⟨b1,o1,rfl,Da⟩:=Zat (H1.out.kept (ZT Aa.out HR.out)) hx
    have n2:wr.cell? ⟨b1,o1+i*40+2,none⟩=some (.int .i64 x.kind):=Da i x hx 2 _ rfl
    have Tf:Hid (∀ j v,(En.fct x)[j]?=some v->wr.cell? ⟨b1,o1+i*40+3+j,none⟩=some v):=fun j v hj=>Zec Da hx 3 8 (En.cells_fct x) j v hj
    have Mf:Hid (l.take (i+1)=l.take i++[x]):=Zar hx
    have hml:m2.length<=100000:=by have h1:=Me.out.2.2;have h2:=HN.out;simp at h1;omega
    have Bh:Hid (∀ w2,Below wr.heap.size wr w2->Calls prog 71 #[.slice a2 m2.length c2,fidV (baseF x.src x.seq x.fk x.ref)] w2 (Zdx m2 (baseF x.src x.seq x.fk x.ref) w2)):=fun w2 hb=>Ze5 m2 a2 c2 _ hml Me.out.1 w2 (HM.out.kept hb) hmc hac
    unfold Zdx at Bh
    clear Da hx
    go_upto_region 5 with(first|((with_reducible refine Zah 27 ?_);refine LV b1 (o1+i*40+3) (En.fct x) Tf.out ?_)|((with_reducible refine ZaK 27 ?_);refine ZaA rfl rfl 27 _ _ rfl rfl rfl (En.fct x) rfl rfl (by kernel_rfl) (by rfl) ?_;intro g7 w7 hbx Re hb;have Ha:=hid hbx;have Pg:=hid hb;have f2:=Ha.out.cell 2 (.int .i64 x.fk) rfl;have f4:=Ha.out.cell 4 (.string x.tb) rfl;have f5:=Ha.out.cell 5 (.string x.ky) rfl;have n2:=Zaa n2 hb;have j2:=(B1.out.kept (ZT HR.out hb)).cell 2 (.string eky) rfl;have j1:=(B1.out.kept (ZT HR.out hb)).cell 1 (.string een) rfl;have Gy:=hid (B0.out.kept (ZT HR.out hb));clear Re hbx hb)|fail)
    by_cases h1:x.kind=1
    · have d1:(x.kind != 1)=false:=by rw[h1];rfl
      by_cases h3:x.fk=3
      · have d3:(x.fk==3)=true:=by rw[h3];rfl
        have Rl:=hid h3
        clear h1 h3
        go_wp2_with fail
        go_roundw
        case rel=>exact⟨i+1,m2,a2,c2,by omega,by go_num,rfl,hmc,hac,HM.out.kept Pg.out,by rw[Mf.out];exact Zct Me.out (fun q=>q.2.1 Rl.out),ZT HR.out Pg.out⟩
        case measure=>simp[intOf];omega
      · have d3:(x.fk==3)=false:=beq_eq_false_iff_ne.2 h3
        by_cases hy:x.ky=eky
        · have dy:(x.ky.toList==eky.toList)=true:=by rw[hy];simp
          have Oh:Hid (x.kind=1/\x.fk≠3/\x.ky=eky):=⟨h1,h3,hy⟩
          clear h1 h3 hy
          go_upto_region 7 with(first|((with_reducible refine Zah 118 ?_);refine LB (L:=(Ct.cells ⟨ta,T.length,tc,fa,fn,fc,da,dn,dc,qa,qn,qc⟩)) Gy.out ?_)|(go_at_call 138;refine(Zdo ⟨ta,T.length,tc,fa,fn,fc,da,dn,dc,qa,qn,qc⟩ _ _ w0 T rfl Pd.out Ma.out (HT.out.kept (ZT HR.out Pg.out))).mono ?_;rintro ee w8 ⟨t5,b5,rfl,Hp,Mj,hb⟩;have Ul:=hid Mj;have Hl:=hid (ZT Pg.out hb);have Ha:=hid (Ha.out.kept hb);clear Hp Mj hb)|((with_reducible refine ZaK 32 ?_);refine ZaA rfl rfl 32 _ _ rfl rfl rfl (Tb.cells t5) rfl rfl (by kernel_rfl) (by rfl) ?_;intro g9 w9 hbx hg9 hb;have Td:=hid hbx;have Up:=hid (ZT Hl.out hb);have Ha:=hid (Ha.out.kept hb);have t1:=Td.out.cell 1 (.string t5.e) rfl;have j1:=(B1.out.kept (ZT HR.out Up.out)).cell 1 (.string een) rfl;clear hg9 hbx hb)|fail)
          cases b5
          · have Oo:Hid (¬ ∃ t,findT T x.tb=some t/\t.e=een):=fun⟨t,q,_⟩=>by rw[Ul.out]at q;cases q
            go_wp2_with fail
            go_roundw
            case rel=>exact⟨i+1,m2,a2,c2,by omega,by go_num,rfl,hmc,hac,HM.out.kept Up.out,by rw[Mf.out];exact Zct Me.out (fun q=>Oo.out q.2.2.2),ZT HR.out Up.out⟩
            case measure=>simp[intOf];omega
          · have Bf:Hid (findT T x.tb=some t5):=Ul.out
            by_cases he:t5.e=een
            · have de:(t5.e.toList==een.toList)=true:=by rw[he];simp
              have Aw:Hid (x.kind=1/\x.fk≠3/\x.ky=eky/\∃ t,findT T x.tb=some t/\t.e=een):=⟨Oh.out.1,Oh.out.2.1,Oh.out.2.2,t5,Bf.out,he⟩
              clear he
              go_wp2_with (first|((with_reducible refine Zah 27 ?_);refine LB (L:=(En.fct x)) Ha.out ?_)|(go_at_call 23;refine(Ze4 x.src x.tb x.ky x.seq x.fk x.ref x.ev x.fa x.vs.length x.fc _).mono ?_;rintro e w2 ⟨rfl,hb⟩;have La:=hid (ZT Up.out hb);clear hb)|(go_at_call 71;(with_reducible refine(Bh.out _ La.out).mono ?_);rintro e w3 ⟨m3,a3,c3,rfl,q1,q2,q3,q4,q5,q6,hb⟩;have Mh:=hid q3;have Eb:=hid q4;have Zi:=hid q5;have Zb:=hid q6;have Ib:=hid (ZT La.out hb);clear q3 q4 q5 q6 hb)|fail)
              go_roundw
              case rel=>exact⟨i+1,m3,a3,c3,by omega,by go_num,rfl,q1,q2,Mh,by rw[Mf.out];exact abtOf_snoc Me.out Aw.out Eb.out Zi.out Zb.out,ZT HR.out Ib.out⟩
              case measure=>simp[intOf];omega
            · have de:(t5.e.toList==een.toList)=false:=by
                cases q:(t5.e.toList==een.toList)with
                |false=>rfl
                |true=>exact absurd (Zby (eq_of_beq q)) he
              have Oo:Hid (¬ ∃ t,findT T x.tb=some t/\t.e=een):=fun⟨t,q,r⟩=>by rw[Bf.out]at q;injection q with q;subst q;exact he r
              clear he
              go_wp2_with fail
              go_roundw
              case rel=>exact⟨i+1,m2,a2,c2,by omega,by go_num,rfl,hmc,hac,HM.out.kept Up.out,by rw[Mf.out];exact Zct Me.out (fun q=>Oo.out q.2.2.2),ZT HR.out Up.out⟩
              case measure=>simp[intOf];omega
        · have dy:(x.ky.toList==eky.toList)=false:=by
            cases q:(x.ky.toList==eky.toList)with
            |false=>rfl
            |true=>exact absurd (Zby (eq_of_beq q)) hy
          have HNY:=hid hy
          clear h1 h3 hy
          go_wp2_with fail
          go_roundw
          case rel=>exact⟨i+1,m2,a2,c2,by omega,by go_num,rfl,hmc,hac,HM.out.kept Pg.out,by rw[Mf.out];exact Zct Me.out (fun q=>HNY.out q.2.2.1),ZT HR.out Pg.out⟩
          case measure=>simp[intOf];omega
    · have d1:(x.kind != 1)=true:=bne_iff_ne.2 h1
      have We:=hid h1
      clear h1
      go_wp2_with fail
      go_roundw
      case rel=>exact⟨i+1,m2,a2,c2,by omega,by go_num,rfl,hmc,hac,HM.out.kept Pg.out,by rw[Mf.out];exact Zct Me.out (fun q=>We.out q.1),ZT HR.out Pg.out⟩
      case measure=>simp[intOf];omega
  · obtain rfl:i=n:=by omega
    go_wp2_with fail
    go_ret
    exact⟨m2,a2,c2,rfl,hmc,hac,HM.out,Me.out,ZT Aa.out HR.out⟩
set_option maxHeartbeats 8000000 in
theorem Zer (l:List En)(ao:Option Addr)(c:Nat)(hl:l.length<=60)(hlc:l.length<=c)(w w0:World)(Oa:Below w0.heap.size w0 w)(h:Zac En.cells 40 w ao l)(hg:∀ e∈l,e.cg.Ok w0)(T:List Tb)(hT:TabRun w0 l l.length T) :
 Calls prog 70 #[.slice ao l.length c] w (Zej l w):=by
 have H1:=hid h
 have Gj:=hid hg
 have Ja:=hid Oa
 have Pu:=hid hT
 clear h hg Oa hT
 go_enter func70,ntmps70
 go_wp2_with fail
 go_loopw [3,4] (fun u v wr=>∃ (i:Nat) (m:List FID) (a:Option Addr) (cm:Nat),i<=l.length/\v=.int .i64 i/\u=.slice a m.length cm/\m.length<=cm/\(a=none->cm=0)/\Hid (Zac fidC 2 wr a m)/\Hid (Zeu (l.take i) m)/\Hid (m.length<=i*61)/\Hid (Below w.heap.size w wr)) (fun _ v _=>l.length - (intOf v).toNat)
 case atStart=>exact⟨0,[],none,0,by omega,rfl,rfl,by simp,fun _=>rfl,Zac.nil _ _,erasOf_nil,(by show _<=_;simp),Below.refl _ _⟩
 case round =>
  obtain⟨i,m,a,cm,hi,rfl,rfl,hmc,hac,HM,Me,Qo,HR⟩:=hrel
  rename World=>wr
  by_cases hlt:i<l.length
  · obtain⟨x,T1,T2,hr,hx,ho,hs,hk⟩:=Pu.out.at_ i hlt
    have Ah:=hid hr
    have Zo:Hid (EraInv (l.take i) T1):=hr.era
    have Sx:Hid (∀ t∈T1,FdsAt w0 t.fa t.fn):=hr.fds Gj.out
    obtain⟨b1,o1,rfl,Da⟩:=Zat (H1.out.kept HR.out) hx
    have n2:wr.cell? ⟨b1,o1+i*40+2,none⟩=some (.int .i64 x.kind):=Da i x hx 2 _ rfl
    have Bk:Hid (∀ j v,([.int .i64 x.ek,.string x.een,.string x.eky,.string x.esr,.int .i64 x.esq]:List Value)[j]?=some v->wr.cell? ⟨b1,o1+i*40+11+j,none⟩=some v):=fun j v hj=>Zec Da hx 11 5 rfl j v hj
    have Mf:Hid (l.take (i+1)=l.take i++[x]):=Zar hx
    have hml:m.length<=3660:=by have:=Qo.out;omega
    have Bh:Hid (∀ w2,Below wr.heap.size wr w2->Calls prog 71 #[.slice a m.length cm,.agg #[.string x.esr,.int .i64 x.esq]] w2 (Zdx m (x.esr,x.esq) w2)):=fun w2 hb=>Ze5 m a cm (x.esr,x.esq) (by omega) Me.out.1 w2 (HM.out.kept hb) hmc hac
    unfold Zdx at Bh
    clear hr hx ho hs hk Da
    go_upto_region 6 with(first|((with_reducible refine Zah 29 ?_);refine Za1 rfl 29 _ rfl b1 (o1+i*40+11) [.int .i64 x.ek,.string x.een,.string x.eky,.string x.esr,.int .i64 x.esq] rfl Bk.out _ underlying29 rfl (by kernel_rfl) ?_;intro v hv;obtain rfl:=hv.out)|((with_reducible refine ZaK 29 ?_);refine ZaA rfl rfl 29 _ _ rfl rfl rfl [.int .i64 x.ek,.string x.een,.string x.eky,.string x.esr,.int .i64 x.esq] rfl rfl (by kernel_rfl) (by rfl) ?_;intro g7 w7 hbx Re hb;have Sg:=hid hbx;have Pg:=hid hb;have f0:=Sg.out.cell 0 (.int .i64 x.ek) rfl;have n2:=Zaa n2 hb;clear Re hbx hb)|fail)
    by_cases h2:x.kind=2
    · have d2:(x.kind != 2)=false:=by rw[h2];rfl
      by_cases he:x.ek=2
      · have de:(x.ek==2)=true:=by rw[he];rfl
        have Wj:Hid (x.kind=2/\x.ek=2):=⟨h2,he⟩
        clear h2 he
        go_wp2_with (first|((with_reducible refine Zah 24 ?_);refine Za1 rfl 24 _ rfl g7 3 [.string x.esr,.int .i64 x.esq] rfl (fun j v hj=>Sg.out.cell (3+j) v (ZaU (k:=3) (m:=2) hj rfl)) _ underlying24 rfl (by kernel_rfl) ?_;intro v hv;obtain rfl:=hv.out)|(go_at_call 71;(with_reducible refine(Bh.out _ Pg.out).mono ?_);rintro e w3 ⟨mm3,a3,c3,rfl,q1,q2,q3,q4,q5,q6,hb⟩;have Mh:=hid q3;have Eb:=hid q4;have Zi:=hid q5;have Zb:=hid q6;have Ib:=hid (ZT Pg.out hb);clear q3 q4 q5 q6 hb)|fail)
        go_roundw
        case rel=>exact⟨i+1,mm3,a3,c3,by omega,by go_num,rfl,q1,q2,Mh,by rw[Mf.out];exact erasOf_one Me.out Wj.out.1 Wj.out.2 Eb.out Zi.out,(by have h1:=Zb.out;have h2:=Qo.out;show _<=_;omega),ZT HR.out Ib.out⟩
        case measure=>simp[intOf];omega
      · have de:(x.ek==2)=false:=beq_eq_false_iff_ne.2 he
        have Wj:Hid (x.kind=2/\x.ek≠2):=⟨h2,he⟩
        clear h2 he
        have hcu:=fun w=>Za4 elE (some ⟨b1,o1,none⟩) l.length c i (by omega) w
        have Cu:Hid (∀ w2,Below w7.heap.size w7 w2->Calls prog 99 #[.slice (some ⟨b1,o1,none⟩) i c,.int .i64 1099511627776] w2 (AtPost T1 w0 130 w2)):=fun w2 hb=>at_any14 l _ i c (by omega) hl w2 w0 (Ja.out.trans ((ZT HR.out (ZT Pg.out hb)).mono Ja.out.size)) (H1.out.kept (ZT HR.out (ZT Pg.out hb))) Gj.out T1 Ah.out
        unfold AtPost at Cu
        go_upto_region 9 with fail
        refine wrt (S:=fun w'=>Below w7.heap.size w7 w') (.free 0 (.free 1 (.free 2 (.free 3 (.free 4 (.free 5 (.free 7 (.free 8 (.one 6 (.one 9 (.free 10 .done))))))))))) (ZD (ZR w7)) ?_
        refine tk0 (.slice (some ⟨b1,o1,none⟩) l.length c) ?_
        refine tk0 (.int .i64 i) ?_
        refine tk0 (.slice (some ⟨b1,o1,none⟩) i c) ?_
        refine tk0 (.slice (some ⟨b1,o1,none⟩) l.length c) ?_
        refine tk0 (.int .i64 i) ?_
        refine tk0 (.slice (some ⟨b1,o1,none⟩) i c) ?_
        refine tr_load _ rfl (by rfl) 29 _ rfl g7 0 [.int .i64 x.ek,.string x.een,.string x.eky,.string x.esr,.int .i64 x.esq] rfl (fun w hS j v hj=>by rw[Nat.zero_add];exact(Sg.out.kept hS).cell j v (by rw[List.getElem?_toArray];exact hj)) _ underlying29 rfl (by kernel_rfl) ?_
        intro v7 hv7
        subst hv7
        try simp only[Act.put,m1,m2,m3]
        refine tk0 (.slice a m.length cm) ?_
        refine t1 fun K hK=>?_
        go_wp2_with (go_at_call 99;(with_reducible refine(Cu.out _ (ZD (ZR _))).mono ?_);rintro e w5 ⟨ct,rfl,h2,h3,hb⟩;have Pk:=hid h3;have Ya:Hid (Below w7.heap.size w7 w5):=ZT (ZD (ZR _)) hb;clear h2 h3 hb)
        refine hK.out _ _ Ya.out (fun hHeld=>?_)
        clear hK K
        have Xt:Hid (ct.tn=T1.length/\Zac Tb.cells 4 w5 ct.ta T1):=let ⟨F,D,Q,hl,_⟩:=Pk.out;⟨hl.tn,hl.t⟩
        try simp only[Act.put,m1,m2,m3]
        refine t1 fun K hK=>?_
        go_wp2_with (go_at_call 98;refine(about_any l _ i _ (by omega) (by omega) ct T1 Xt.out.1 (by have:=Ah.out.len;omega) x.ek x.esq x.een x.eky x.esr m _ _ (by omega) Me.out.1 hmc hac _ w0 Sx.out Xt.out.2 (H1.out.kept (ZT HR.out (ZT Pg.out Ya.out))) (HM.out.kept (ZT Pg.out Ya.out))).mono ?_;rintro e w6 ⟨mm3,a3,c3,rfl,q1,q2,q3,q4,hb⟩;have Mh:=hid q3;have Qk:=hid q4;have Sc:Hid (Below w7.heap.size w7 w6):=ZT Ya.out hb;clear q3 q4 hb)
        refine hk hK Sc.out ?_
        clear hK K
        refine tk0 (.slice a3 mm3.length c3) ?_
        refine ZaP ?_
        go_wp2_with fail
        go_roundw
        case rel=>exact⟨i+1,mm3,a3,c3,by omega,by go_num,rfl,q1,q2,Mh,by rw[Mf.out];exact erasOf_all Me.out Zo.out Wj.out.1 Wj.out.2 Qk.out.1 Qk.out.2.1,(by have h1:=Qk.out.2.2;have h2:=Qo.out;simp at h1;show _<=_;omega),ZT HR.out (ZT Pg.out Sc.out)⟩
        case measure=>simp[intOf];omega
    · have d2:(x.kind != 2)=true:=bne_iff_ne.2 h2
      have So:=hid h2
      clear h2
      go_wp2_with fail
      go_roundw
      case rel=>exact⟨i+1,m,a,cm,by omega,by go_num,rfl,hmc,hac,HM.out.kept Pg.out,by rw[Mf.out];exact erasOf_skip Me.out So.out,(by have h2:=Qo.out;show _<=_;omega),ZT HR.out Pg.out⟩
      case measure=>simp[intOf];omega
  · obtain rfl:i=l.length:=by omega
    rw[List.take_length]at Me
    go_wp2_with fail
    go_ret
    refine⟨m,a,cm,rfl,by have:=Qo.out;omega,HM.out,fun k=>?_,HR.out⟩
    have h1:=(ZeG (l:=m) (x:=k)).trans (Me.out.2 k)
    cases hA:memF m k<;>cases hB:erF l k<;>simp_all
end Go.Proofs.YtfnpfkgmacaboaaGreat
