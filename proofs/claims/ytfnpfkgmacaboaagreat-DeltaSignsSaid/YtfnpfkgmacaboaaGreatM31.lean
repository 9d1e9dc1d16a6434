/- Texts joined by a program. -/
import Derived.Test.YtfnpfkgmacaboaaGreatM28
namespace Go.Proofs.YtfnpfkgmacaboaaGreat
open Go.Proofs.Tryz
open Lib (hid)
open Go.ChangeShapes Go.WideShapes Go.ChangeAt Go.RowKit
set_option linter.unusedVariables false
set_option linter.unusedSimpArgs false
set_option maxRecDepth 100000
set_option maxHeartbeats 4000000
theorem boxN4_0 (w:World)(c0:Array Value)(t0:TypeId)(c1:Array Value)(t1:TypeId)(c2:Array Value)(t2:TypeId)(c3:Array Value)(t3:TypeId):Box ((((w.alloc (.cells c0 t0)).alloc (.cells c1 t1)).alloc (.cells c2 t2)).alloc (.cells c3 t3)) w.heap.size c0 t0:=(Zdh w c0 t0 c1 t1 c2 t2).kept (Zab _)
theorem boxN4_1 (w:World)(c0:Array Value)(t0:TypeId)(c1:Array Value)(t1:TypeId)(c2:Array Value)(t2:TypeId)(c3:Array Value)(t3:TypeId):Box ((((w.alloc (.cells c0 t0)).alloc (.cells c1 t1)).alloc (.cells c2 t2)).alloc (.cells c3 t3)) (w.heap.size+1) c1 t1:=(Zdg w c0 t0 c1 t1 c2 t2).kept (Zab _)
theorem boxN4_2 (w:World)(c0:Array Value)(t0:TypeId)(c1:Array Value)(t1:TypeId)(c2:Array Value)(t2:TypeId)(c3:Array Value)(t3:TypeId):Box ((((w.alloc (.cells c0 t0)).alloc (.cells c1 t1)).alloc (.cells c2 t2)).alloc (.cells c3 t3)) (w.heap.size+1+1) c2 t2:=(Zdf w c0 t0 c1 t1 c2 t2).kept (Zab _)
theorem boxN4_3 (w:World)(c0:Array Value)(t0:TypeId)(c1:Array Value)(t1:TypeId)(c2:Array Value)(t2:TypeId)(c3:Array Value)(t3:TypeId):Box ((((w.alloc (.cells c0 t0)).alloc (.cells c1 t1)).alloc (.cells c2 t2)).alloc (.cells c3 t3)) (w.heap.size+1+1+1) c3 t3:=by
 have:=Box.new (((w.alloc (.cells c0 t0)).alloc (.cells c1 t1)).alloc (.cells c2 t2)) c3 t3
 simpa using this
theorem ZaV (w:World):(Instr.build 35 (#[]:Array (Nat × Value))).run prog w=.ok (.agg #[.int .i64 0,.slice none 0 0,.string ⟨#[]⟩]) w:=by
 simp[Instr.build,Tryz.zeroValue35,underlying35,Program.fieldsOf,Instr.fill,go_sem]
theorem build44 (w:World):(Instr.build 44 (#[]:Array (Nat × Value))).run prog w=.ok (.agg #[.string ⟨#[]⟩,.string ⟨#[]⟩,.int .i64 0,.slice none 0 0,.string ⟨#[]⟩,.int .i64 0,.string ⟨#[]⟩,.string ⟨#[]⟩,.string ⟨#[]⟩,.int .i64 0,.int .i64 0,.string ⟨#[]⟩,.slice none 0 0,.int .i64 0,.int .i64 0,.int .i64 0,.slice none 0 0,.int .i64 0]) w:=by
 simp[Instr.build,Tryz.zeroValue44,underlying44,Program.fieldsOf,Instr.fill,go_sem]
theorem build242 (w:World):(Instr.build 242 (#[]:Array (Nat × Value))).run prog w=.ok (.agg #[.slice none 0 0,.slice none 0 0,.slice none 0 0,.slice none 0 0,.string ⟨#[]⟩,.string ⟨#[]⟩,.string ⟨#[]⟩,.slice none 0 0,.int .i64 0]) w:=by
 simp[Instr.build,Tryz.zeroValue242,underlying242,Program.fieldsOf,Instr.fill,go_sem]
theorem sfield_any (s_cta:Option Addr)(s_ctn:Nat)(s_ctc:Nat)(s_cfa:Option Addr)(s_cfn:Nat)(s_cfc:Nat)(s_cda:Option Addr)(s_cdn:Nat)(s_cdc:Nat)(s_cqa:Option Addr)(s_cqn:Nat)(s_cqc:Nat)(s_e:ByteArray)(s_tm:ByteArray)(s_te:ByteArray)(s_tfa:Option Addr)(s_tfn:Nat)(s_tfc:Nat)(s_tp:Int)(nm:ByteArray)(w:World)(w0:World)(hw0:Below w0.heap.size w0 w)(ha:FdsAt w0 s_tfa s_tfn):Calls prog 224 #[.agg #[.slice s_cta s_ctn s_ctc,.slice s_cfa s_cfn s_cfc,.slice s_cda s_cdn s_cdc,.slice s_cqa s_cqn s_cqc,.string s_e,.string s_tm,.string s_te,.slice s_tfa s_tfn s_tfc,.int .i64 s_tp],.string nm] w (Zaz w0 w):=by
 obtain⟨fs,rfl,hfl,hfu,hf⟩:=ha
 have HFL:=hid hf
 have HFU:=hid hfu
 have HW0:=hid hw0
 clear hf hfu
 go_enter func224,ntmps224
 go_upto_region 1 with fail
 refine Zam (fun V hV=>?_)
 have B0:Hid (Box V w.heap.size #[.slice s_cta s_ctn s_ctc,.slice s_cfa s_cfn s_cfc,.slice s_cda s_cdn s_cdc,.slice s_cqa s_cqn s_cqc,.string s_e,.string s_tm,.string s_te,.slice s_tfa fs.length s_tfc,.int .i64 s_tp] 242):=by rw[hV];exact Za4 _ _ _ _ _
 have B1:Hid (Box V (w.heap.size+1) #[.int .i64 0,.slice none 0 0,.string ⟨#[]⟩] 35):=by rw[hV];exact Za3 _ _ _ _ _
 have HBV:Hid (Below w.heap.size w V):=by rw[hV];exact(by repeat first|exact ZR _|refine ZA ?_ _)
 clear hV
 have HW:Hid (Below V.heap.size V V):=ZR V
 have HS:Hid (∀ w',Below V.heap.size V w'->w'.cell? ⟨w.heap.size,0,none⟩=some (.slice s_cta s_ctn s_ctc)/\w'.cell? ⟨w.heap.size,1,none⟩=some (.slice s_cfa s_cfn s_cfc)/\w'.cell? ⟨w.heap.size,2,none⟩=some (.slice s_cda s_cdn s_cdc)/\w'.cell? ⟨w.heap.size,3,none⟩=some (.slice s_cqa s_cqn s_cqc)/\w'.cell? ⟨w.heap.size,4,none⟩=some (.string s_e)/\w'.cell? ⟨w.heap.size,5,none⟩=some (.string s_tm)/\w'.cell? ⟨w.heap.size,6,none⟩=some (.string s_te)/\w'.cell? ⟨w.heap.size,7,none⟩=some (.slice s_tfa fs.length s_tfc)/\w'.cell? ⟨w.heap.size,8,none⟩=some (.int .i64 s_tp)):=fun w' h=>⟨(B0.out.kept h).cell 0 _ rfl,(B0.out.kept h).cell 1 _ rfl,(B0.out.kept h).cell 2 _ rfl,(B0.out.kept h).cell 3 _ rfl,(B0.out.kept h).cell 4 _ rfl,(B0.out.kept h).cell 5 _ rfl,(B0.out.kept h).cell 6 _ rfl,(B0.out.kept h).cell 7 _ rfl,(B0.out.kept h).cell 8 _ rfl⟩
 obtain⟨k0_0,k0_1,k0_2,k0_3,k0_4,k0_5,k0_6,k0_7,k0_8⟩:=HS.out V (ZR V)
 go_wp2_with fail
 go_loop [6] (fun v=>∃ i:Nat,i<=fs.length/\v=.int .i64 i) (fun v=>fs.length - (intOf v).toNat)
 case atStart=>exact⟨0,by omega,rfl⟩
 case round =>
  obtain⟨i,hi,rfl⟩:=hrel
  by_cases hlt:i<fs.length
  · obtain⟨f,hf⟩:∃ f,fs[i]?=some f:=⟨fs[i],List.getElem?_eq_getElem hlt⟩
    obtain⟨b1,o1,rfl,hr1⟩:=(HFL.out.kept (HW0.out.trans (HBV.out.mono HW0.out.size))).some (by omega)
    obtain⟨c0,c1,c2,c3⟩:=Fd.cell hr1 hf
    have HF:Hid (Zao w0 f.ua f.un):=HFU.out f (List.mem_of_getElem? hf)
    clear hr1 hf
    go_wp2_with (first|((with_reducible refine Zal 35 ?_);refine Zai rfl _ _ _ rfl rfl (w.heap.size+1) 35 _ _ rfl (by first|exact(by assumption:Hid (_=_)).out|rfl) (B1.out.kept (by repeat first|exact ZR _|exact ZH (by assumption)|refine ZA ?_ _|refine ZD ?_|refine ZN ?_ _)) (by kernel_rfl) (by rfl) (by rfl) w (ZT HBV.out (by repeat first|exact ZR _|exact ZH (by assumption)|refine ZA ?_ _|refine ZD ?_|refine ZN ?_ _)) (by omega) ?_;intro w9 hby hyb hot;have HR:=hid hby;have HRB:=hid hyb;have HOT:=hid hot;clear hby hyb hot)|fail)
    all_goals first
     |(go_round;(case rel=>exact⟨i+1,by omega,by go_num⟩);(case measure=>simp[intOf];omega))
     |((try simp only[Exit.inBlock,Exit.then]);refine bodyPost_ret (Zad rfl rfl HR.out underlying35 rfl (by kernel_rfl)) rfl ?_;exact⟨⟨f.k,f.ua,f.un,f.uc,f.o⟩,0,rfl,Or.inl HF.out,HRB.out⟩)
  · go_wp2_with (first|((with_reducible refine Zaw 35 ?_);refine Zah rfl 35 #[] rfl _ (fun w=>ZaV w) ?_;intro v hv)|((with_reducible refine Zal 35 ?_);refine Zai rfl _ _ _ rfl rfl (w.heap.size+1) 35 _ _ rfl (by first|exact(by assumption:Hid (_=_)).out|rfl) (B1.out.kept (by repeat first|exact ZR _|exact ZH (by assumption)|refine ZA ?_ _|refine ZD ?_|refine ZN ?_ _)) (by kernel_rfl) (by rfl) (by rfl) w (ZT HBV.out (by repeat first|exact ZR _|exact ZH (by assumption)|refine ZA ?_ _|refine ZD ?_|refine ZN ?_ _)) (by omega) ?_;intro w9 hby hyb hot;have HR:=hid hby;have HRB:=hid hyb;have HOT:=hid hot;clear hby hyb hot)|fail)
    (try simp only[Exit.inBlock,Exit.then]);refine bodyPost_ret (Zad rfl rfl HR.out underlying35 rfl (by kernel_rfl)) rfl ?_
    exact Zaz.zero _ HRB.out
theorem ZeB (s_cta:Option Addr)(s_ctn:Nat)(s_ctc:Nat)(s_cfa:Option Addr)(s_cfn:Nat)(s_cfc:Nat)(s_cda:Option Addr)(s_cdn:Nat)(s_cdc:Nat)(s_cqa:Option Addr)(s_cqn:Nat)(s_cqc:Nat)(s_e:ByteArray)(s_tm:ByteArray)(s_te:ByteArray)(s_tfa:Option Addr)(s_tfn:Nat)(s_tfc:Nat)(s_tp:Int)(nm:ByteArray)(en:ByteArray)(w:World)(w0:World)(hw0:Below w0.heap.size w0 w)(B:Nat)(hB:B<=100000)(h:FtsW w0 B w s_cfa s_cfn):Calls prog 225 #[.agg #[.slice s_cta s_ctn s_ctc,.slice s_cfa s_cfn s_cfc,.slice s_cda s_cdn s_cdc,.slice s_cqa s_cqn s_cqc,.string s_e,.string s_tm,.string s_te,.slice s_tfa s_tfn s_tfc,.int .i64 s_tp],.string nm,.string en] w (Zaz w0 w):=by
 obtain⟨l,rfl,hl,hok,h1⟩:=h
 have H1:=hid h1
 have HOK:=hid hok
 clear h1 hok
 go_enter func225,ntmps225
 go_upto_region 1 with fail
 refine Zam (fun V hV=>?_)
 have B0:Hid (Box V w.heap.size #[.slice s_cta s_ctn s_ctc,.slice s_cfa l.length s_cfc,.slice s_cda s_cdn s_cdc,.slice s_cqa s_cqn s_cqc,.string s_e,.string s_tm,.string s_te,.slice s_tfa s_tfn s_tfc,.int .i64 s_tp] 242):=by rw[hV];exact Za4 _ _ _ _ _
 have B1:Hid (Box V (w.heap.size+1) #[.int .i64 0,.slice none 0 0,.string ⟨#[]⟩] 35):=by rw[hV];exact Za3 _ _ _ _ _
 have HBV:Hid (Below w.heap.size w V):=by rw[hV];exact(by repeat first|exact ZR _|refine ZA ?_ _)
 clear hV
 have HW:Hid (Below V.heap.size V V):=ZR V
 have HS:Hid (∀ w',Below V.heap.size V w'->w'.cell? ⟨w.heap.size,0,none⟩=some (.slice s_cta s_ctn s_ctc)/\w'.cell? ⟨w.heap.size,1,none⟩=some (.slice s_cfa l.length s_cfc)/\w'.cell? ⟨w.heap.size,2,none⟩=some (.slice s_cda s_cdn s_cdc)/\w'.cell? ⟨w.heap.size,3,none⟩=some (.slice s_cqa s_cqn s_cqc)/\w'.cell? ⟨w.heap.size,4,none⟩=some (.string s_e)/\w'.cell? ⟨w.heap.size,5,none⟩=some (.string s_tm)/\w'.cell? ⟨w.heap.size,6,none⟩=some (.string s_te)/\w'.cell? ⟨w.heap.size,7,none⟩=some (.slice s_tfa s_tfn s_tfc)/\w'.cell? ⟨w.heap.size,8,none⟩=some (.int .i64 s_tp)):=fun w' h=>⟨(B0.out.kept h).cell 0 _ rfl,(B0.out.kept h).cell 1 _ rfl,(B0.out.kept h).cell 2 _ rfl,(B0.out.kept h).cell 3 _ rfl,(B0.out.kept h).cell 4 _ rfl,(B0.out.kept h).cell 5 _ rfl,(B0.out.kept h).cell 6 _ rfl,(B0.out.kept h).cell 7 _ rfl,(B0.out.kept h).cell 8 _ rfl⟩
 obtain⟨k0_0,k0_1,k0_2,k0_3,k0_4,k0_5,k0_6,k0_7,k0_8⟩:=HS.out V (ZR V)
 go_wp2_with fail
 go_loopw [8] (fun v wr=>∃ i:Nat,i<=l.length/\v=.int .i64 i/\Hid (Below V.heap.size V wr)) (fun v _=>l.length - (intOf v).toNat)
 case atStart=>exact⟨0,by omega,rfl,HW⟩
 case round =>
  clear HW
  obtain⟨i,hi,rfl,HW⟩:=hrel
  obtain⟨k0_0,k0_1,k0_2,k0_3,k0_4,k0_5,k0_6,k0_7,k0_8⟩:=HS.out _ HW.out
  by_cases hlt:i<l.length
  · obtain⟨x,hx⟩:∃ x,l[i]?=some x:=⟨l[i],List.getElem?_eq_getElem hlt⟩
    obtain⟨b1,o1,rfl,hr1⟩:=(H1.out.kept (ZT HBV.out HW.out)).some (by omega)
    have HC:Hid (∀ j v,(Ft.cells x)[j]?=some v->wr.cell? ⟨b1,o1+i*18+j,none⟩=some v):=fun j v hj=>hr1 i x hx j v hj
    have HX:Hid (Zao w0 x.tua x.tun):=(HOK.out x (List.mem_of_getElem? hx)).1
    clear hr1 hx
    go_wp2_with (first|((with_reducible refine Zaq 44 ?_);refine Zas rfl 44 _ rfl b1 (o1+i*18) (Ft.cells x) rfl HC.out _ underlying44 rfl (by kernel_rfl) ?_;intro v hv)|((with_reducible refine Zbf 44 ?_);refine Zbl rfl rfl 44 _ _ rfl rfl rfl (Ft.cells x) rfl (by assumption:Hid (_=_)).out (by kernel_rfl) (by rfl) V (by repeat first|exact ZR _|exact ZH (by assumption)|refine ZA ?_ _|refine ZD ?_|refine ZN ?_ _) ?_;intro w8 hbx hbe hbl;have HXB:=hid hbx;have HW8:Hid (Below V.heap.size V w8):=hbe;have f0:w8.cell? ⟨_,0,none⟩=some (.string x.m):=hbx.cell 0 _ rfl;have f1:w8.cell? ⟨_,1,none⟩=some (.string x.e):=hbx.cell 1 _ rfl;have f2:w8.cell? ⟨_,2,none⟩=some (.int .i64 x.tk):=hbx.cell 2 _ rfl;have f3:w8.cell? ⟨_,3,none⟩=some (.slice x.tua x.tun x.tuc):=hbx.cell 3 _ rfl;have f4:w8.cell? ⟨_,4,none⟩=some (.string x.tof):=hbx.cell 4 _ rfl;clear hbx hbe hbl)|((with_reducible refine Zaw 35 ?_);refine Zah rfl 35 #[] rfl _ (fun w=>ZaV w) ?_;intro v hv)|((with_reducible refine Zal 35 ?_);refine Zai rfl _ _ _ rfl rfl (w.heap.size+1) 35 _ _ rfl (by first|exact(by assumption:Hid (_=_)).out|rfl) (B1.out.kept (by repeat first|exact ZR _|exact ZH (by assumption)|refine ZA ?_ _|refine ZD ?_|refine ZN ?_ _)) (by kernel_rfl) (by rfl) (by rfl) w (ZT HBV.out (by repeat first|exact ZR _|exact ZH (by assumption)|refine ZA ?_ _|refine ZD ?_|refine ZN ?_ _)) (by omega) ?_;intro w9 hby hyb hot;have HR:=hid hby;have HRB:=hid hyb;have HOT:=hid hot;clear hby hyb hot)|fail)
    all_goals first
     |(go_roundw;(case rel=>exact⟨i+1,by omega,by go_num,HW8⟩);(case measure=>simp[intOf];omega))
     |((try simp only[Exit.inBlock,Exit.then]);refine bodyPost_ret (Zad rfl rfl HR.out underlying35 rfl (by kernel_rfl)) rfl ?_;first|exact Zaz.zero _ HRB.out|exact⟨⟨x.tk,x.tua,x.tun,x.tuc,x.tof⟩,0,rfl,Or.inl HX.out,HRB.out⟩)
  · go_wp2_with (first|((with_reducible refine Zaw 35 ?_);refine Zah rfl 35 #[] rfl _ (fun w=>ZaV w) ?_;intro v hv)|((with_reducible refine Zal 35 ?_);refine Zai rfl _ _ _ rfl rfl (w.heap.size+1) 35 _ _ rfl (by first|exact(by assumption:Hid (_=_)).out|rfl) (B1.out.kept (by repeat first|exact ZR _|exact ZH (by assumption)|refine ZA ?_ _|refine ZD ?_|refine ZN ?_ _)) (by kernel_rfl) (by rfl) (by rfl) w (ZT HBV.out (by repeat first|exact ZR _|exact ZH (by assumption)|refine ZA ?_ _|refine ZD ?_|refine ZN ?_ _)) (by omega) ?_;intro w9 hby hyb hot;have HR:=hid hby;have HRB:=hid hyb;have HOT:=hid hot;clear hby hyb hot)|fail)
    (try simp only[Exit.inBlock,Exit.then]);refine bodyPost_ret (Zad rfl rfl HR.out underlying35 rfl (by kernel_rfl)) rfl ?_
    exact Zaz.zero _ HRB.out
def zeroE0:Ex:=⟨0,⟨#[]⟩,⟨#[]⟩,⟨#[]⟩,0,0,⟨#[]⟩,none,0,0,0,0,0,none,0,0⟩
def zeroFt:Ft:=⟨⟨#[]⟩,⟨#[]⟩,0,none,0,0,⟨#[]⟩,zeroE0,0⟩
theorem zeroFt_ok (w:World):zeroFt.Ok w:=⟨Zao.nil _ _,1,Zao.nil _ _,by decide,[],[],rfl,by decide,Zaf.nil _ _,rfl,by decide,fun i y d h=>(by cases h)⟩
def FindPost (w0 w:World)(e:Ending)(w':World):Prop:=∃ (f:Ft) (b:Bool),e=.returned (.tuple #[.agg f.cells.toArray,.bool b])/\f.Ok w0/\Below w.heap.size w w'
theorem find_any (a:Option Addr)(n c:Nat)(s:ByteArray)(w0:World)(B:Nat)(hB:B<=100000)(w:World)(h:FtsW w0 B w a n):Calls prog 228 #[.slice a n c,.string s] w (FindPost w0 w):=by
 obtain⟨l,rfl,hl,hok,h1⟩:=h
 have H1:=hid h1
 have HOK:=hid hok
 clear h1 hok
 go_enter func228,ntmps228
 go_upto_region 1 with fail
 refine Zam (fun V hV=>?_)
 have B0:Hid (Box V w.heap.size #[.string ⟨#[]⟩,.string ⟨#[]⟩,.int .i64 0,.slice none 0 0,.string ⟨#[]⟩,.int .i64 0,.string ⟨#[]⟩,.string ⟨#[]⟩,.string ⟨#[]⟩,.int .i64 0,.int .i64 0,.string ⟨#[]⟩,.slice none 0 0,.int .i64 0,.int .i64 0,.int .i64 0,.slice none 0 0,.int .i64 0] 44):=by rw[hV];exact ZaE _ _ _
 have HBV:Hid (Below w.heap.size w V):=by rw[hV];exact(by repeat first|exact ZR _|refine ZA ?_ _)
 clear hV
 have HW:Hid (Below V.heap.size V V):=ZR V
 go_wp2_with fail
 go_loop [6] (fun v=>∃ i:Nat,i<=l.length/\v=.int .i64 i) (fun v=>l.length - (intOf v).toNat)
 case atStart=>exact⟨0,by omega,rfl⟩
 case round =>
  obtain⟨i,hi,rfl⟩:=hrel
  by_cases hlt:i<l.length
  · obtain⟨x,hx⟩:∃ x,l[i]?=some x:=⟨l[i],List.getElem?_eq_getElem hlt⟩
    obtain⟨b1,o1,rfl,hr1⟩:=(H1.out.kept HBV.out).some (by omega)
    have c0:=Ft.name hr1 hx
    have HC:Hid (∀ j v,(Ft.cells x)[j]?=some v->V.cell? ⟨b1,o1+i*18+j,none⟩=some v):=fun j v hj=>hr1 i x hx j v hj
    have HX:Hid (x.Ok w0):=HOK.out x (List.mem_of_getElem? hx)
    clear hr1 hx
    go_wp2_with (first|((with_reducible refine Zaq 44 ?_);refine Zas rfl 44 _ rfl b1 (o1+i*18) (Ft.cells x) rfl HC.out _ underlying44 rfl (by kernel_rfl) ?_;intro v hv)|((with_reducible refine Zal 44 ?_);refine Zai rfl _ _ _ rfl rfl (w.heap.size) 44 _ _ rfl (by first|exact(by assumption:Hid (_=_)).out|rfl) (B0.out.kept (by repeat first|exact ZR _|exact ZH (by assumption)|refine ZA ?_ _|refine ZD ?_|refine ZN ?_ _)) (by kernel_rfl) (by rfl) (by rfl) w (ZT HBV.out (by repeat first|exact ZR _|exact ZH (by assumption)|refine ZA ?_ _|refine ZD ?_|refine ZN ?_ _)) (by omega) ?_;intro w9 hby hyb hot;have HR:=hid hby;have HRB:=hid hyb;have HOT:=hid hot;clear hby hyb hot)|fail)
    all_goals first
     |(go_round;(case rel=>exact⟨i+1,by omega,by go_num⟩);(case measure=>simp[intOf];omega))
     |((try simp only[Exit.inBlock,Exit.then]);refine bodyPost_ret (Zad rfl rfl HR.out underlying44 rfl (by kernel_rfl)) rfl ?_;exact⟨x,true,rfl,HX.out,HRB.out⟩)
  · go_wp2_with (first|((with_reducible refine Zaw 44 ?_);refine Zah rfl 44 #[] rfl _ (fun w=>build44 w) ?_;intro v hv)|((with_reducible refine Zal 44 ?_);refine Zai rfl _ _ _ rfl rfl (w.heap.size) 44 _ _ rfl (by first|exact(by assumption:Hid (_=_)).out|rfl) (B0.out.kept (by repeat first|exact ZR _|exact ZH (by assumption)|refine ZA ?_ _|refine ZD ?_|refine ZN ?_ _)) (by kernel_rfl) (by rfl) (by rfl) w (ZT HBV.out (by repeat first|exact ZR _|exact ZH (by assumption)|refine ZA ?_ _|refine ZD ?_|refine ZN ?_ _)) (by omega) ?_;intro w9 hby hyb hot;have HR:=hid hby;have HRB:=hid hyb;have HOT:=hid hot;clear hby hyb hot)|fail)
    (try simp only[Exit.inBlock,Exit.then]);refine bodyPost_ret (Zad rfl rfl HR.out underlying44 rfl (by kernel_rfl)) rfl ?_
    exact⟨zeroFt,false,rfl,zeroFt_ok _,HRB.out⟩
theorem ZcM (c_ta:Option Addr)(c_tn:Nat)(c_tc:Nat)(c_fa:Option Addr)(c_fn:Nat)(c_fc:Nat)(c_da:Option Addr)(c_dn:Nat)(c_dc:Nat)(c_qa:Option Addr)(c_qn:Nat)(c_qc:Nat)(nm:ByteArray)(w:World)(w0:World)(B:Nat)(hB:B<=100000)(h:CatW w0 B w c_ta c_tn c_fa c_fn c_da c_dn c_qa c_qn):Calls prog 217 #[.agg #[.slice c_ta c_tn c_tc,.slice c_fa c_fn c_fc,.slice c_da c_dn c_dc,.slice c_qa c_qn c_qc],.string nm] w (FindPost w0 w):=by
 have H:=hid h
 clear h
 go_enter func217,ntmps217
 go_upto_region 1 with fail
 refine Zam (fun V hV=>?_)
 have B0:Hid (Box V w.heap.size #[.slice c_ta c_tn c_tc,.slice c_fa c_fn c_fc,.slice c_da c_dn c_dc,.slice c_qa c_qn c_qc] 118):=by rw[hV];exact Za4 _ _ _ _ _
 have B1:Hid (Box V (w.heap.size+1) #[.string ⟨#[]⟩,.string ⟨#[]⟩,.int .i64 0,.slice none 0 0,.string ⟨#[]⟩,.int .i64 0,.string ⟨#[]⟩,.string ⟨#[]⟩,.string ⟨#[]⟩,.int .i64 0,.int .i64 0,.string ⟨#[]⟩,.slice none 0 0,.int .i64 0,.int .i64 0,.int .i64 0,.slice none 0 0,.int .i64 0] 44):=by rw[hV];exact Za3 _ _ _ _ _
 have HBV:Hid (Below w.heap.size w V):=by rw[hV];exact(by repeat first|exact ZR _|refine ZA ?_ _)
 clear hV
 have HW:Hid (Below V.heap.size V V):=ZR V
 have HS:Hid (∀ w',Below V.heap.size V w'->w'.cell? ⟨w.heap.size,0,none⟩=some (.slice c_ta c_tn c_tc)/\w'.cell? ⟨w.heap.size,1,none⟩=some (.slice c_fa c_fn c_fc)/\w'.cell? ⟨w.heap.size,2,none⟩=some (.slice c_da c_dn c_dc)/\w'.cell? ⟨w.heap.size,3,none⟩=some (.slice c_qa c_qn c_qc)):=fun w' h=>⟨(B0.out.kept h).cell 0 _ rfl,(B0.out.kept h).cell 1 _ rfl,(B0.out.kept h).cell 2 _ rfl,(B0.out.kept h).cell 3 _ rfl⟩
 obtain⟨k0_0,k0_1,k0_2,k0_3⟩:=HS.out V (ZR V)
 go_wp2_with (first|(go_at_call 228;refine(find_any _ _ _ _ w0 B hB _ ((H.out.f.kept HBV.out).kept (by repeat first|exact ZR _|exact ZH (by assumption)|refine ZA ?_ _|refine ZD ?_|refine ZN ?_ _))).mono ?_;rintro e w' ⟨f,b,rfl,hf,hb⟩;have HF:=hid hf;have HW:Hid (Below V.heap.size V w'):=ZT (by repeat first|exact ZR _|exact ZH (by assumption)|refine ZA ?_ _|refine ZD ?_|refine ZN ?_ _) hb;clear hf hb)|((with_reducible refine Zal 44 ?_);refine Zai rfl _ _ _ rfl rfl (w.heap.size+1) 44 _ _ rfl (by first|exact(by assumption:Hid (_=_)).out|rfl) (B1.out.kept (by repeat first|exact ZR _|exact ZH (by assumption)|refine ZA ?_ _|refine ZD ?_|refine ZN ?_ _)) (by kernel_rfl) (by rfl) (by rfl) w (ZT HBV.out (by repeat first|exact ZR _|exact ZH (by assumption)|refine ZA ?_ _|refine ZD ?_|refine ZN ?_ _)) (by omega) ?_;intro w9 hby hyb hot;have HR:=hid hby;have HRB:=hid hyb;have HOT:=hid hot;clear hby hyb hot)|fail)
 (try simp only[Exit.inBlock,Exit.then]);refine bodyPost_ret (Zad rfl rfl HR.out underlying44 rfl (by kernel_rfl)) rfl ?_
 exact⟨f,b,rfl,HF.out,HRB.out⟩
def InPost (s_cta:Option Addr)(s_ctn s_ctc:Nat)(s_cfa:Option Addr)(s_cfn s_cfc:Nat)(s_cda:Option Addr)(s_cdn s_cdc:Nat)(s_cqa:Option Addr)(s_cqn s_cqc:Nat)(w0 w:World)(e:Ending)(w':World):Prop:=(∃ k:Int,k≠0/\e=.returned (.tuple #[.agg #[.slice none 0 0,.slice none 0 0,.slice none 0 0,.slice none 0 0,.string ⟨#[]⟩,.string ⟨#[]⟩,.string ⟨#[]⟩,.slice none 0 0,.int .i64 0],.int .i64 k])/\Below w.heap.size w w') ∨
 ∃ (t:Tb),e=.returned (.tuple #[.agg #[.slice s_cta s_ctn s_ctc,.slice s_cfa s_cfn s_cfc,.slice s_cda s_cdn s_cdc,.slice s_cqa s_cqn s_cqc,.string ⟨#[]⟩,.string t.m,.string t.e,.slice t.fa t.fn t.fc,.int .i64 t.p],.int .i64 0])/\FdsAt w0 t.fa t.fn/\Below w.heap.size w w'
theorem within_any (s_cta:Option Addr)(s_ctn:Nat)(s_ctc:Nat)(s_cfa:Option Addr)(s_cfn:Nat)(s_cfc:Nat)(s_cda:Option Addr)(s_cdn:Nat)(s_cdc:Nat)(s_cqa:Option Addr)(s_cqn:Nat)(s_cqc:Nat)(s_e:ByteArray)(s_tm:ByteArray)(s_te:ByteArray)(s_tfa:Option Addr)(s_tfn:Nat)(s_tfc:Nat)(s_tp:Int)(nm:ByteArray)(w:World)(w0:World)(hw0:Below w0.heap.size w0 w)(B:Nat)(hB:B<=100000)(h:TbsW w0 B w s_cta s_ctn):Calls prog 214 #[.agg #[.slice s_cta s_ctn s_ctc,.slice s_cfa s_cfn s_cfc,.slice s_cda s_cdn s_cdc,.slice s_cqa s_cqn s_cqc,.string s_e,.string s_tm,.string s_te,.slice s_tfa s_tfn s_tfc,.int .i64 s_tp],.string nm] w (InPost s_cta s_ctn s_ctc s_cfa s_cfn s_cfc s_cda s_cdn s_cdc s_cqa s_cqn s_cqc w0 w):=by
 obtain⟨l,rfl,hl,hok,h1⟩:=h
 have H1:=hid h1
 have HOK:=hid hok
 clear h1 hok
 go_enter func214,ntmps214
 go_upto_region 1 with fail
 refine Zam (fun V hV=>?_)
 have B0:Hid (Box V w.heap.size #[.slice s_cta l.length s_ctc,.slice s_cfa s_cfn s_cfc,.slice s_cda s_cdn s_cdc,.slice s_cqa s_cqn s_cqc,.string s_e,.string s_tm,.string s_te,.slice s_tfa s_tfn s_tfc,.int .i64 s_tp] 242):=by rw[hV];exact Za4 _ _ _ _ _
 have B1:Hid (Box V (w.heap.size+1) #[.slice none 0 0,.slice none 0 0,.slice none 0 0,.slice none 0 0,.string ⟨#[]⟩,.string ⟨#[]⟩,.string ⟨#[]⟩,.slice none 0 0,.int .i64 0] 242):=by rw[hV];exact Za3 _ _ _ _ _
 have HBV:Hid (Below w.heap.size w V):=by rw[hV];exact(by repeat first|exact ZR _|refine ZA ?_ _)
 clear hV
 have HW:Hid (Below V.heap.size V V):=ZR V
 have HS:Hid (∀ w',Below V.heap.size V w'->w'.cell? ⟨w.heap.size,0,none⟩=some (.slice s_cta l.length s_ctc)/\w'.cell? ⟨w.heap.size,1,none⟩=some (.slice s_cfa s_cfn s_cfc)/\w'.cell? ⟨w.heap.size,2,none⟩=some (.slice s_cda s_cdn s_cdc)/\w'.cell? ⟨w.heap.size,3,none⟩=some (.slice s_cqa s_cqn s_cqc)/\w'.cell? ⟨w.heap.size,4,none⟩=some (.string s_e)/\w'.cell? ⟨w.heap.size,5,none⟩=some (.string s_tm)/\w'.cell? ⟨w.heap.size,6,none⟩=some (.string s_te)/\w'.cell? ⟨w.heap.size,7,none⟩=some (.slice s_tfa s_tfn s_tfc)/\w'.cell? ⟨w.heap.size,8,none⟩=some (.int .i64 s_tp)):=fun w' h=>⟨(B0.out.kept h).cell 0 _ rfl,(B0.out.kept h).cell 1 _ rfl,(B0.out.kept h).cell 2 _ rfl,(B0.out.kept h).cell 3 _ rfl,(B0.out.kept h).cell 4 _ rfl,(B0.out.kept h).cell 5 _ rfl,(B0.out.kept h).cell 6 _ rfl,(B0.out.kept h).cell 7 _ rfl,(B0.out.kept h).cell 8 _ rfl⟩
 obtain⟨k0_0,k0_1,k0_2,k0_3,k0_4,k0_5,k0_6,k0_7,k0_8⟩:=HS.out V (ZR V)
 go_wp2_with fail
 go_loopw [6] (fun v wr=>∃ i:Nat,i<=l.length/\v=.int .i64 i/\Hid (Below V.heap.size V wr)) (fun v _=>l.length - (intOf v).toNat)
 case atStart=>exact⟨0,by omega,rfl,HW⟩
 case round =>
  clear HW
  obtain⟨i,hi,rfl,HW⟩:=hrel
  obtain⟨k0_0,k0_1,k0_2,k0_3,k0_4,k0_5,k0_6,k0_7,k0_8⟩:=HS.out _ HW.out
  by_cases hlt:i<l.length
  · obtain⟨x,hx⟩:∃ x,l[i]?=some x:=⟨l[i],List.getElem?_eq_getElem hlt⟩
    obtain⟨b1,o1,rfl,hr1⟩:=(H1.out.kept (ZT HBV.out HW.out)).some (by omega)
    have HC:Hid (∀ j v,(Tb.cells x)[j]?=some v->wr.cell? ⟨b1,o1+i*4+j,none⟩=some v):=fun j v hj=>hr1 i x hx j v hj
    have HX:Hid (FdsAt w0 x.fa x.fn):=HOK.out x (List.mem_of_getElem? hx)
    clear hr1 hx
    go_wp2_with (first|((with_reducible refine Zaq 32 ?_);refine Zas rfl 32 _ rfl b1 (o1+i*4) (Tb.cells x) rfl HC.out _ underlying32 rfl (by kernel_rfl) ?_;intro v hv)|((with_reducible refine Zbf 32 ?_);refine Zbl rfl rfl 32 _ _ rfl rfl rfl (Tb.cells x) rfl (by assumption:Hid (_=_)).out (by kernel_rfl) (by rfl) V (by repeat first|exact ZR _|exact ZH (by assumption)|refine ZA ?_ _|refine ZD ?_|refine ZN ?_ _) ?_;intro w8 hbx hbe hbl;have HXB:=hid hbx;have HW8:Hid (Below V.heap.size V w8):=hbe;have KK:=HS.out _ hbe;obtain⟨k0_0,k0_1,k0_2,k0_3,k0_4,k0_5,k0_6,k0_7,k0_8⟩:=KK;have f0:w8.cell? ⟨_,0,none⟩=some (.string x.m):=hbx.cell 0 _ rfl;have f1:w8.cell? ⟨_,1,none⟩=some (.string x.e):=hbx.cell 1 _ rfl;have f2:w8.cell? ⟨_,2,none⟩=some (.slice x.fa x.fn x.fc):=hbx.cell 2 _ rfl;have f3:w8.cell? ⟨_,3,none⟩=some (.int .i64 x.p):=hbx.cell 3 _ rfl;clear hbx hbe hbl)|((with_reducible refine Zaw 242 ?_);refine Zah rfl 242 #[] rfl _ (fun w=>build242 w) ?_;intro v hv)|((with_reducible refine Zal 242 ?_);refine Zai rfl _ _ _ rfl rfl (w.heap.size+1) 242 _ _ rfl (by first|exact(by assumption:Hid (_=_)).out|rfl) (B1.out.kept (by repeat first|exact ZR _|exact ZH (by assumption)|refine ZA ?_ _|refine ZD ?_|refine ZN ?_ _)) (by kernel_rfl) (by rfl) (by rfl) w (ZT HBV.out (by repeat first|exact ZR _|exact ZH (by assumption)|refine ZA ?_ _|refine ZD ?_|refine ZN ?_ _)) (by omega) ?_;intro w9 hby hyb hot;have HR:=hid hby;have HRB:=hid hyb;have HOT:=hid hot;clear hby hyb hot)|fail)
    all_goals first
     |(go_roundw;(case rel=>exact⟨i+1,by omega,by go_num,HW8⟩);(case measure=>simp[intOf];omega))
     |((try simp only[Exit.inBlock,Exit.then]);refine bodyPost_ret (Zad rfl rfl HR.out underlying242 rfl (by kernel_rfl)) rfl ?_;first|exact Or.inl ⟨_,by decide,rfl,HRB.out⟩|exact Or.inr ⟨x,rfl,HX.out,HRB.out⟩)
  · go_wp2_with (first|((with_reducible refine Zaw 242 ?_);refine Zah rfl 242 #[] rfl _ (fun w=>build242 w) ?_;intro v hv)|((with_reducible refine Zal 242 ?_);refine Zai rfl _ _ _ rfl rfl (w.heap.size+1) 242 _ _ rfl (by first|exact(by assumption:Hid (_=_)).out|rfl) (B1.out.kept (by repeat first|exact ZR _|exact ZH (by assumption)|refine ZA ?_ _|refine ZD ?_|refine ZN ?_ _)) (by kernel_rfl) (by rfl) (by rfl) w (ZT HBV.out (by repeat first|exact ZR _|exact ZH (by assumption)|refine ZA ?_ _|refine ZD ?_|refine ZN ?_ _)) (by omega) ?_;intro w9 hby hyb hot;have HR:=hid hby;have HRB:=hid hyb;have HOT:=hid hot;clear hby hyb hot)|fail)
    (try simp only[Exit.inBlock,Exit.then]);refine bodyPost_ret (Zad rfl rfl HR.out underlying242 rfl (by kernel_rfl)) rfl ?_
    exact Or.inl ⟨_,by decide,rfl,HRB.out⟩
theorem overAll_any (x_k:Int)(x_o:ByteArray)(x_m:ByteArray)(x_t:ByteArray)(x_vk:Int)(x_vn:Int)(x_vs:ByteArray)(x_ua:Option Addr)(x_un:Nat)(x_uc:Nat)(x_p:Int)(x_wk:Int)(x_wz:Int)(x_xa:Option Addr)(x_xn:Nat)(x_xc:Nat)(a_k:Int)(a_ua:Option Addr)(a_un:Nat)(a_uc:Nat)(a_o:ByteArray)(c_k:Int)(c_ua:Option Addr)(c_un:Nat)(c_uc:Nat)(c_o:ByteArray)(w:World)(w0:World)(hw0:Below w0.heap.size w0 w)(ha:UnW w0 w a_ua a_un a_uc):Calls prog 226 #[.agg #[.int .i64 x_k,.string x_o,.string x_m,.string x_t,.int .i64 x_vk,.int .i64 x_vn,.string x_vs,.slice x_ua x_un x_uc,.int .i64 x_p,.int .i64 x_wk,.int .i64 x_wz,.slice x_xa x_xn x_xc],.agg #[.int .i64 a_k,.slice a_ua a_un a_uc,.string a_o],.agg #[.int .i64 c_k,.slice c_ua c_un c_uc,.string c_o]] w (Zaz w0 w):=by
 have HA0:=hid ha
 clear ha
 go_enter func226,ntmps226
 go_upto_region 1 with fail
 refine Zam (fun V hV=>?_)
 have B0:Hid (Box V w.heap.size #[.int .i64 x_k,.string x_o,.string x_m,.string x_t,.int .i64 x_vk,.int .i64 x_vn,.string x_vs,.slice x_ua x_un x_uc,.int .i64 x_p,.int .i64 x_wk,.int .i64 x_wz,.slice x_xa x_xn x_xc] 42):=by rw[hV];exact boxN4_0 _ _ _ _ _ _ _ _ _
 have B1:Hid (Box V (w.heap.size+1) #[.int .i64 a_k,.slice a_ua a_un a_uc,.string a_o] 35):=by rw[hV];exact boxN4_1 _ _ _ _ _ _ _ _ _
 have B2:Hid (Box V (w.heap.size+1+1) #[.int .i64 c_k,.slice c_ua c_un c_uc,.string c_o] 35):=by rw[hV];exact boxN4_2 _ _ _ _ _ _ _ _ _
 have B3:Hid (Box V (w.heap.size+1+1+1) #[.int .i64 0,.slice none 0 0,.string ⟨#[]⟩] 35):=by rw[hV];exact boxN4_3 _ _ _ _ _ _ _ _ _
 have HBV:Hid (Below w.heap.size w V):=by rw[hV];exact(by repeat first|exact ZR _|refine ZA ?_ _)
 clear hV
 have HW:Hid (Below V.heap.size V V):=ZR V
 have HS:Hid (∀ w',Below V.heap.size V w'->w'.cell? ⟨w.heap.size,0,none⟩=some (.int .i64 x_k)/\w'.cell? ⟨w.heap.size,1,none⟩=some (.string x_o)/\w'.cell? ⟨w.heap.size,2,none⟩=some (.string x_m)/\w'.cell? ⟨w.heap.size,3,none⟩=some (.string x_t)/\w'.cell? ⟨w.heap.size,4,none⟩=some (.int .i64 x_vk)/\w'.cell? ⟨w.heap.size,5,none⟩=some (.int .i64 x_vn)/\w'.cell? ⟨w.heap.size,6,none⟩=some (.string x_vs)/\w'.cell? ⟨w.heap.size,7,none⟩=some (.slice x_ua x_un x_uc)/\w'.cell? ⟨w.heap.size,8,none⟩=some (.int .i64 x_p)/\w'.cell? ⟨w.heap.size,9,none⟩=some (.int .i64 x_wk)/\w'.cell? ⟨w.heap.size,10,none⟩=some (.int .i64 x_wz)/\w'.cell? ⟨w.heap.size,11,none⟩=some (.slice x_xa x_xn x_xc)/\w'.cell? ⟨w.heap.size+1,0,none⟩=some (.int .i64 a_k)/\w'.cell? ⟨w.heap.size+1,1,none⟩=some (.slice a_ua a_un a_uc)/\w'.cell? ⟨w.heap.size+1,2,none⟩=some (.string a_o)/\w'.cell? ⟨w.heap.size+1+1,0,none⟩=some (.int .i64 c_k)/\w'.cell? ⟨w.heap.size+1+1,1,none⟩=some (.slice c_ua c_un c_uc)/\w'.cell? ⟨w.heap.size+1+1,2,none⟩=some (.string c_o)):=fun w' h=>⟨(B0.out.kept h).cell 0 _ rfl,(B0.out.kept h).cell 1 _ rfl,(B0.out.kept h).cell 2 _ rfl,(B0.out.kept h).cell 3 _ rfl,(B0.out.kept h).cell 4 _ rfl,(B0.out.kept h).cell 5 _ rfl,(B0.out.kept h).cell 6 _ rfl,(B0.out.kept h).cell 7 _ rfl,(B0.out.kept h).cell 8 _ rfl,(B0.out.kept h).cell 9 _ rfl,(B0.out.kept h).cell 10 _ rfl,(B0.out.kept h).cell 11 _ rfl,(B1.out.kept h).cell 0 _ rfl,(B1.out.kept h).cell 1 _ rfl,(B1.out.kept h).cell 2 _ rfl,(B2.out.kept h).cell 0 _ rfl,(B2.out.kept h).cell 1 _ rfl,(B2.out.kept h).cell 2 _ rfl⟩
 obtain⟨k0_0,k0_1,k0_2,k0_3,k0_4,k0_5,k0_6,k0_7,k0_8,k0_9,k0_10,k0_11,k1_0,k1_1,k1_2,k2_0,k2_1,k2_2⟩:=HS.out V (ZR V)
 have HA:Hid (UnW w0 V a_ua a_un a_uc):=HA0.out.kept HBV.out
 go_upto_region 3 with(first|((with_reducible refine Zaw 35 ?_);refine Zah rfl 35 #[] rfl _ (fun w=>ZaV w) ?_;intro v hv)|((with_reducible refine Zal 35 ?_);refine Zai rfl _ _ _ rfl rfl (w.heap.size+1+1+1) 35 _ _ rfl (by first|exact(by assumption:Hid (_=_)).out|rfl) (B3.out.kept (by repeat first|exact ZR _|exact ZH (by assumption)|refine ZA ?_ _|refine ZD ?_|refine ZN ?_ _)) (by kernel_rfl) (by rfl) (by rfl) w (ZT HBV.out (by repeat first|exact ZR _|exact ZH (by assumption)|refine ZA ?_ _|refine ZD ?_|refine ZN ?_ _)) (by omega) ?_;intro w9 hby hyb hot;have HR:=hid hby;have HRB:=hid hyb;have HOT:=hid hot;clear hby hyb hot;have HUQ:=hid (UnW.putq (w0:=w0) HOT.out (B3.out.kept (by repeat first|exact ZR _|exact ZH (by assumption)|refine ZA ?_ _|refine ZD ?_|refine ZN ?_ _)) (by decide));have HUP:Hid (∀ ua un uc,UnW w0 V ua un uc->UnW w0 w9 ua un uc):=fun _ _ _ hu=>HUQ.out _ _ _ (hu.kept (by repeat first|exact ZR _|exact ZH (by assumption)|refine ZA ?_ _|refine ZD ?_|refine ZN ?_ _)))|fail)
 all_goals first
  |((try simp only[Exit.inBlock,Exit.then]);refine bodyPost_ret (Zad rfl rfl HR.out underlying35 rfl (by kernel_rfl)) rfl ?_;first|exact Zaz.zero _ HRB.out|exact Zaz.kind _ _ HRB.out|exact⟨⟨_,a_ua,a_un,a_uc,_⟩,_,rfl,HUP.out _ _ _ HA.out,HRB.out⟩)
  |skip
 all_goals
  go_upto_region 4 with(first|(go_at_call 222;refine(Zfo _ _ _ _ _ (ZdZ [⟨#[115,117,109]⟩,⟨#[109,101,97,110]⟩,⟨#[113,117,97,110,116,105,108,101]⟩,⟨#[100,101,99,97,121]⟩] _ (by decide))).mono ?_;rintro e w' ⟨b,rfl,hb⟩;have HW:Hid (Below V.heap.size V w'):=ZT (by repeat first|exact ZR _|exact ZH (by assumption)|refine ZA ?_ _|refine ZD ?_|refine ZN ?_ _) hb;clear hb;have KK:=HS.out _ HW.out;obtain⟨k0_0,k0_1,k0_2,k0_3,k0_4,k0_5,k0_6,k0_7,k0_8,k0_9,k0_10,k0_11,k1_0,k1_1,k1_2,k2_0,k2_1,k2_2⟩:=KK;cases b)|fail)
 all_goals
  go_upto_region 5 with(first|(go_at_call 222;refine(Zfo _ _ _ _ _ (ZdZ [⟨#[109,105,110]⟩,⟨#[109,97,120]⟩] _ (by decide))).mono ?_;rintro e w' ⟨b,rfl,hb⟩;have HW:Hid (Below V.heap.size V w'):=ZT (by repeat first|exact ZR _|exact ZH (by assumption)|refine ZA ?_ _|refine ZD ?_|refine ZN ?_ _) hb;clear hb;have KK:=HS.out _ HW.out;obtain⟨k0_0,k0_1,k0_2,k0_3,k0_4,k0_5,k0_6,k0_7,k0_8,k0_9,k0_10,k0_11,k1_0,k1_1,k1_2,k2_0,k2_1,k2_2⟩:=KK;cases b)|fail)
 all_goals
  go_cut [40] (fun v wx=>∃ q:Bool,v=.bool q/\Hid (Below V.heap.size V wx))
  case first =>
   go_wp2_with (first|(go_at_call 199;refine(Zdo _ _ _ _ _ _).mono ?_;rintro e w' ⟨b,rfl,hb⟩;have HW:Hid (Below V.heap.size V w'):=ZT (by repeat first|exact ZR _|exact ZH (by assumption)|refine ZA ?_ _|refine ZD ?_|refine ZN ?_ _) hb;clear hb;have KK:=HS.out _ HW.out;obtain⟨k0_0,k0_1,k0_2,k0_3,k0_4,k0_5,k0_6,k0_7,k0_8,k0_9,k0_10,k0_11,k1_0,k1_1,k1_2,k2_0,k2_1,k2_2⟩:=KK;cases b)|fail)
   all_goals
    go_meet
    case rel=>exact⟨_,rfl,(by repeat first|exact ZR _|exact ZH (by assumption)|refine ZA ?_ _|refine ZD ?_|refine ZN ?_ _)⟩
  case rest =>
   clear HW
   obtain⟨q,rfl,HW⟩:=hcut
   obtain⟨k0_0,k0_1,k0_2,k0_3,k0_4,k0_5,k0_6,k0_7,k0_8,k0_9,k0_10,k0_11,k1_0,k1_1,k1_2,k2_0,k2_1,k2_2⟩:=HS.out _ HW.out
   go_wp2_with (first|((with_reducible refine Zaw 35 ?_);refine Zah rfl 35 #[] rfl _ (fun w=>ZaV w) ?_;intro v hv)|((with_reducible refine Zal 35 ?_);refine Zai rfl _ _ _ rfl rfl (w.heap.size+1+1+1) 35 _ _ rfl (by first|exact(by assumption:Hid (_=_)).out|rfl) (B3.out.kept (by repeat first|exact ZR _|exact ZH (by assumption)|refine ZA ?_ _|refine ZD ?_|refine ZN ?_ _)) (by kernel_rfl) (by rfl) (by rfl) w (ZT HBV.out (by repeat first|exact ZR _|exact ZH (by assumption)|refine ZA ?_ _|refine ZD ?_|refine ZN ?_ _)) (by omega) ?_;intro w9 hby hyb hot;have HR:=hid hby;have HRB:=hid hyb;have HOT:=hid hot;clear hby hyb hot;have HUQ:=hid (UnW.putq (w0:=w0) HOT.out (B3.out.kept (by repeat first|exact ZR _|exact ZH (by assumption)|refine ZA ?_ _|refine ZD ?_|refine ZN ?_ _)) (by decide));have HUP:Hid (∀ ua un uc,UnW w0 V ua un uc->UnW w0 w9 ua un uc):=fun _ _ _ hu=>HUQ.out _ _ _ (hu.kept (by repeat first|exact ZR _|exact ZH (by assumption)|refine ZA ?_ _|refine ZD ?_|refine ZN ?_ _)))|fail)
   all_goals
    ((try simp only[Exit.inBlock,Exit.then]);refine bodyPost_ret (Zad rfl rfl HR.out underlying35 rfl (by kernel_rfl)) rfl ?_;first|exact Zaz.zero _ HRB.out|exact Zaz.kind _ _ HRB.out|exact⟨⟨_,a_ua,a_un,a_uc,_⟩,_,rfl,HUP.out _ _ _ HA.out,HRB.out⟩)
def TwoW (w0 w:World)(e:Ending)(w':World):Prop:=∃ ua un uc k,e=.returned (.tuple #[.slice ua un uc,.int .i64 k])/\UnW w0 w' ua un uc/\Below w.heap.size w w'
theorem Zey.w {w0 w:World}{e:Ending}{w':World}(hw:Below w0.heap.size w0 w)(h:Zey w e w'):TwoW w0 w e w':=by
 obtain⟨v,l,k,rfl,h1,h2,h3⟩:=h
 obtain⟨a,c,rfl,-,-⟩:=h1.unit (by omega)
 exact⟨a,l.length,c,k,rfl,Or.inr ⟨l,h1.mono hw.size,h2⟩,h3⟩
theorem times_w (a b:Option Addr)(n c m d:Nat)(w0 w:World)(hw:Below w0.heap.size w0 w)(h:UnW w0 w a n c)(h':UnW w0 w b m d):Calls prog 232 #[.slice a n c,.slice b m d] w (TwoW w0 w):=(times_any a b n c m d w (h.unit hw) (h'.unit hw)).mono fun _ _ h=>h.w hw
theorem over_w (a b:Option Addr)(n c m d:Nat)(w0 w:World)(hw:Below w0.heap.size w0 w)(h:UnW w0 w a n c)(h':UnW w0 w b m d):Calls prog 233 #[.slice a n c,.slice b m d] w (TwoW w0 w):=(over_any a b n c m d w (h.unit hw) (h'.unit hw)).mono fun _ _ h=>h.w hw
theorem binary_any (op:ByteArray)(a_k:Int)(a_ua:Option Addr)(a_un:Nat)(a_uc:Nat)(a_o:ByteArray)(b_k:Int)(b_ua:Option Addr)(b_un:Nat)(b_uc:Nat)(b_o:ByteArray)(w:World)(w0:World)(hw0:Below w0.heap.size w0 w)(ha:UnW w0 w a_ua a_un a_uc)(hb:UnW w0 w b_ua b_un b_uc):Calls prog 227 #[.string op,.agg #[.int .i64 a_k,.slice a_ua a_un a_uc,.string a_o],.agg #[.int .i64 b_k,.slice b_ua b_un b_uc,.string b_o]] w (Zaz w0 w):=by
 have HA0:=hid ha
 have HB0:=hid hb
 have HW0:=hid hw0
 clear ha hb hw0
 go_enter func227,ntmps227
 go_upto_region 2 with fail
 refine Zam (fun V hV=>?_)
 have B0:Hid (Box V w.heap.size #[.int .i64 a_k,.slice a_ua a_un a_uc,.string a_o] 35):=by rw[hV];exact boxN4_0 _ _ _ _ _ _ _ _ _
 have B1:Hid (Box V (w.heap.size+1) #[.int .i64 b_k,.slice b_ua b_un b_uc,.string b_o] 35):=by rw[hV];exact boxN4_1 _ _ _ _ _ _ _ _ _
 have B2:Hid (Box V (w.heap.size+1+1) #[.int .i64 0,.slice none 0 0,.string ⟨#[]⟩] 35):=by rw[hV];exact boxN4_2 _ _ _ _ _ _ _ _ _
 have B3:Hid (Box V (w.heap.size+1+1+1) #[.int .i64 1,.slice none 0 0,.string ⟨#[]⟩] 35):=by rw[hV];exact boxN4_3 _ _ _ _ _ _ _ _ _
 have HBV:Hid (Below w.heap.size w V):=by rw[hV];exact(by repeat first|exact ZR _|refine ZA ?_ _)
 clear hV
 have HW:Hid (Below V.heap.size V V):=ZR V
 have HS:Hid (∀ w',Below V.heap.size V w'->w'.cell? ⟨w.heap.size,0,none⟩=some (.int .i64 a_k)/\w'.cell? ⟨w.heap.size,1,none⟩=some (.slice a_ua a_un a_uc)/\w'.cell? ⟨w.heap.size,2,none⟩=some (.string a_o)/\w'.cell? ⟨w.heap.size+1,0,none⟩=some (.int .i64 b_k)/\w'.cell? ⟨w.heap.size+1,1,none⟩=some (.slice b_ua b_un b_uc)/\w'.cell? ⟨w.heap.size+1,2,none⟩=some (.string b_o)):=fun w' h=>⟨(B0.out.kept h).cell 0 _ rfl,(B0.out.kept h).cell 1 _ rfl,(B0.out.kept h).cell 2 _ rfl,(B1.out.kept h).cell 0 _ rfl,(B1.out.kept h).cell 1 _ rfl,(B1.out.kept h).cell 2 _ rfl⟩
 obtain⟨k0_0,k0_1,k0_2,k1_0,k1_1,k1_2⟩:=HS.out V (ZR V)
 have HA:Hid (UnW w0 V a_ua a_un a_uc):=HA0.out.kept HBV.out
 have HB:Hid (UnW w0 V b_ua b_un b_uc):=HB0.out.kept HBV.out
 have HWV:Hid (Below w0.heap.size w0 V):=HW0.out.trans (HBV.out.mono HW0.out.size)
 go_cut [9] (fun v wx=>∃ q:Bool,v=.bool q/\Hid (Below V.heap.size V wx))
 case first =>
  go_wp2_with (first|(go_at_call 199;refine(Zdo _ _ _ _ _ _).mono ?_;rintro e w' ⟨b,rfl,hb⟩;have HW:Hid (Below V.heap.size V w'):=ZT (by repeat first|exact ZR _|exact ZH (by assumption)|refine ZA ?_ _|refine ZD ?_|refine ZN ?_ _) hb;clear hb;have KK:=HS.out _ HW.out;obtain⟨k0_0,k0_1,k0_2,k1_0,k1_1,k1_2⟩:=KK;cases b)|fail)
  all_goals
   go_meet
   case rel=>exact⟨_,rfl,(by repeat first|exact ZR _|exact ZH (by assumption)|refine ZA ?_ _|refine ZD ?_|refine ZN ?_ _)⟩
 case rest =>
  clear HW
  obtain⟨q,rfl,HW⟩:=hcut
  rename World=>w4
  obtain⟨k0_0,k0_1,k0_2,k1_0,k1_1,k1_2⟩:=HS.out _ HW.out
  go_upto_region 4 with fail
  go_cut [28] (fun v wx=>∃ q:Bool,v=.bool q/\Hid (Below V.heap.size V wx))
  case first =>
   have ea:(a_k==2)=true∨(a_k==2)=false:=by cases (a_k==2)<;>simp
   rcases ea with ea|ea
   all_goals
    go_wp2_with fail
    go_meet
    case rel=>exact⟨_,rfl,(by repeat first|exact ZR _|exact ZH (by assumption)|refine ZA ?_ _|refine ZD ?_|refine ZN ?_ _)⟩
  case rest =>
   clear HW
   obtain⟨q2,rfl,HW⟩:=hcut
   rename World=>w5
   obtain⟨k0_0,k0_1,k0_2,k1_0,k1_1,k1_2⟩:=HS.out _ HW.out
   go_upto_if 28 with fail
   go_cut [10] (fun v wx=>∃ kk:Int,v=.int .i64 kk/\Hid (Below V.heap.size V wx))
   case first =>
    cases q2
    all_goals
     go_wp2_with fail
     go_meet
     case rel=>exact⟨_,rfl,(by repeat first|exact ZR _|exact ZH (by assumption)|refine ZA ?_ _|refine ZD ?_|refine ZN ?_ _)⟩
   case rest =>
    clear HW
    obtain⟨kk,rfl,HW⟩:=hcut
    rename World=>w6
    obtain⟨k0_0,k0_1,k0_2,k1_0,k1_1,k1_2⟩:=HS.out _ HW.out
    have hop:op.toList=([97,110,100]:List UInt8)∨op.toList=([111,114]:List UInt8)∨op.toList=([61,61]:List UInt8)∨op.toList=([33,61]:List UInt8)∨op.toList=([60]:List UInt8)∨op.toList=([60,61]:List UInt8)∨op.toList=([42]:List UInt8)∨op.toList=([47]:List UInt8)∨(op.toList≠([97,110,100]:List UInt8)/\op.toList≠([111,114]:List UInt8)/\op.toList≠([61,61]:List UInt8)/\op.toList≠([33,61]:List UInt8)/\op.toList≠([60]:List UInt8)/\op.toList≠([60,61]:List UInt8)/\op.toList≠([42]:List UInt8)/\op.toList≠([47]:List UInt8)):=by
     by_cases h0:op.toList=([97,110,100]:List UInt8)
     · exact Or.inl h0
     by_cases h1:op.toList=([111,114]:List UInt8)
     · exact Or.inr (Or.inl h1)
     by_cases h2:op.toList=([61,61]:List UInt8)
     · exact Or.inr (Or.inr (Or.inl h2))
     by_cases h3:op.toList=([33,61]:List UInt8)
     · exact Or.inr (Or.inr (Or.inr (Or.inl h3)))
     by_cases h4:op.toList=([60]:List UInt8)
     · exact Or.inr (Or.inr (Or.inr (Or.inr (Or.inl h4))))
     by_cases h5:op.toList=([60,61]:List UInt8)
     · exact Or.inr (Or.inr (Or.inr (Or.inr (Or.inr (Or.inl h5)))))
     by_cases h6:op.toList=([42]:List UInt8)
     · exact Or.inr (Or.inr (Or.inr (Or.inr (Or.inr (Or.inr (Or.inl h6))))))
     by_cases h7:op.toList=([47]:List UInt8)
     · exact Or.inr (Or.inr (Or.inr (Or.inr (Or.inr (Or.inr (Or.inr (Or.inl h7)))))))
     exact Or.inr (Or.inr (Or.inr (Or.inr (Or.inr (Or.inr (Or.inr (Or.inr (⟨h0,h1,h2,h3,h4,h5,h6,h7⟩))))))))
    rcases hop with h|h|h|h|h|h|h|h|h
    · have e0:(op.toList==([97,110,100]:List UInt8))=true:=by rw[h];rfl
      have e1:(op.toList==([111,114]:List UInt8))=false:=by rw[h];rfl
      have e2:(op.toList==([61,61]:List UInt8))=false:=by rw[h];rfl
      have e3:(op.toList==([33,61]:List UInt8))=false:=by rw[h];rfl
      have e4:(op.toList==([60]:List UInt8))=false:=by rw[h];rfl
      have e5:(op.toList==([60,61]:List UInt8))=false:=by rw[h];rfl
      have e6:(op.toList==([42]:List UInt8))=false:=by rw[h];rfl
      have e7:(op.toList==([47]:List UInt8))=false:=by rw[h];rfl
      clear h
      go_wp2_with (first|((with_reducible refine Zaw 35 ?_);refine Zah rfl 35 #[] rfl _ (fun w=>ZaV w) ?_;intro v hv)|((with_reducible refine Zal 35 ?_);refine Zai rfl _ _ _ rfl rfl (w.heap.size+1+1) 35 _ _ rfl (by first|exact(by assumption:Hid (_=_)).out|rfl) (B2.out.kept (by repeat first|exact ZR _|exact ZH (by assumption)|refine ZA ?_ _|refine ZD ?_|refine ZN ?_ _)) (by kernel_rfl) (by rfl) (by rfl) w (ZT HBV.out (by repeat first|exact ZR _|exact ZH (by assumption)|refine ZA ?_ _|refine ZD ?_|refine ZN ?_ _)) (by omega) ?_;intro w9 hby hyb hot;have HR:=hid hby;have HRB:=hid hyb;have HOT:=hid hot;clear hby hyb hot;have HUQ:=hid (UnW.putq (w0:=w0) HOT.out (B2.out.kept (by repeat first|exact ZR _|exact ZH (by assumption)|refine ZA ?_ _|refine ZD ?_|refine ZN ?_ _)) (by decide));have HUP:Hid (∀ ua un uc,UnW w0 V ua un uc->UnW w0 w9 ua un uc):=fun _ _ _ hu=>HUQ.out _ _ _ (hu.kept (by repeat first|exact ZR _|exact ZH (by assumption)|refine ZA ?_ _|refine ZD ?_|refine ZN ?_ _)))|((with_reducible refine Zaq 35 ?_);refine Zaj rfl 35 (.tmp 8) rfl (w.heap.size+1+1+1) [.int .i64 1,.slice none 0 0,.string ⟨#[]⟩] 35 rfl (B3.out.kept (by repeat first|exact ZR _|exact ZH (by assumption)|refine ZA ?_ _|refine ZD ?_|refine ZN ?_ _)) _ underlying35 rfl (by kernel_rfl) ?_;intro v hv;obtain rfl:=hv.out)|fail)
      all_goals
       ((try simp only[Exit.inBlock,Exit.then]);refine bodyPost_ret (Zad rfl rfl HR.out underlying35 rfl (by kernel_rfl)) rfl ?_;first|exact Zaz.zero _ HRB.out|exact Zaz.kind _ _ HRB.out|exact⟨⟨_,_,_,_,_⟩,_,rfl,HUQ.out _ _ _ HV5.out,HRB.out⟩|exact⟨⟨_,a_ua,a_un,a_uc,_⟩,_,rfl,HUP.out _ _ _ HA.out,HRB.out⟩)
    · have e0:(op.toList==([97,110,100]:List UInt8))=false:=by rw[h];rfl
      have e1:(op.toList==([111,114]:List UInt8))=true:=by rw[h];rfl
      have e2:(op.toList==([61,61]:List UInt8))=false:=by rw[h];rfl
      have e3:(op.toList==([33,61]:List UInt8))=false:=by rw[h];rfl
      have e4:(op.toList==([60]:List UInt8))=false:=by rw[h];rfl
      have e5:(op.toList==([60,61]:List UInt8))=false:=by rw[h];rfl
      have e6:(op.toList==([42]:List UInt8))=false:=by rw[h];rfl
      have e7:(op.toList==([47]:List UInt8))=false:=by rw[h];rfl
      clear h
      go_wp2_with (first|((with_reducible refine Zaw 35 ?_);refine Zah rfl 35 #[] rfl _ (fun w=>ZaV w) ?_;intro v hv)|((with_reducible refine Zal 35 ?_);refine Zai rfl _ _ _ rfl rfl (w.heap.size+1+1) 35 _ _ rfl (by first|exact(by assumption:Hid (_=_)).out|rfl) (B2.out.kept (by repeat first|exact ZR _|exact ZH (by assumption)|refine ZA ?_ _|refine ZD ?_|refine ZN ?_ _)) (by kernel_rfl) (by rfl) (by rfl) w (ZT HBV.out (by repeat first|exact ZR _|exact ZH (by assumption)|refine ZA ?_ _|refine ZD ?_|refine ZN ?_ _)) (by omega) ?_;intro w9 hby hyb hot;have HR:=hid hby;have HRB:=hid hyb;have HOT:=hid hot;clear hby hyb hot;have HUQ:=hid (UnW.putq (w0:=w0) HOT.out (B2.out.kept (by repeat first|exact ZR _|exact ZH (by assumption)|refine ZA ?_ _|refine ZD ?_|refine ZN ?_ _)) (by decide));have HUP:Hid (∀ ua un uc,UnW w0 V ua un uc->UnW w0 w9 ua un uc):=fun _ _ _ hu=>HUQ.out _ _ _ (hu.kept (by repeat first|exact ZR _|exact ZH (by assumption)|refine ZA ?_ _|refine ZD ?_|refine ZN ?_ _)))|((with_reducible refine Zaq 35 ?_);refine Zaj rfl 35 (.tmp 8) rfl (w.heap.size+1+1+1) [.int .i64 1,.slice none 0 0,.string ⟨#[]⟩] 35 rfl (B3.out.kept (by repeat first|exact ZR _|exact ZH (by assumption)|refine ZA ?_ _|refine ZD ?_|refine ZN ?_ _)) _ underlying35 rfl (by kernel_rfl) ?_;intro v hv;obtain rfl:=hv.out)|fail)
      all_goals
       ((try simp only[Exit.inBlock,Exit.then]);refine bodyPost_ret (Zad rfl rfl HR.out underlying35 rfl (by kernel_rfl)) rfl ?_;first|exact Zaz.zero _ HRB.out|exact Zaz.kind _ _ HRB.out|exact⟨⟨_,_,_,_,_⟩,_,rfl,HUQ.out _ _ _ HV5.out,HRB.out⟩|exact⟨⟨_,a_ua,a_un,a_uc,_⟩,_,rfl,HUP.out _ _ _ HA.out,HRB.out⟩)
    · have e0:(op.toList==([97,110,100]:List UInt8))=false:=by rw[h];rfl
      have e1:(op.toList==([111,114]:List UInt8))=false:=by rw[h];rfl
      have e2:(op.toList==([61,61]:List UInt8))=true:=by rw[h];rfl
      have e3:(op.toList==([33,61]:List UInt8))=false:=by rw[h];rfl
      have e4:(op.toList==([60]:List UInt8))=false:=by rw[h];rfl
      have e5:(op.toList==([60,61]:List UInt8))=false:=by rw[h];rfl
      have e6:(op.toList==([42]:List UInt8))=false:=by rw[h];rfl
      have e7:(op.toList==([47]:List UInt8))=false:=by rw[h];rfl
      clear h
      go_wp2_with (first|(go_at_call 231;refine(Zcj _ _ _ _ _ _ _ _ _ _ _ ((HA.out.kept (by repeat first|exact ZR _|exact ZH (by assumption)|refine ZA ?_ _|refine ZD ?_|refine ZN ?_ _)).unit (HWV.out.trans (Below.mono (by repeat first|exact ZR _|exact ZH (by assumption)|refine ZA ?_ _|refine ZD ?_|refine ZN ?_ _) HWV.out.size))) ((HB.out.kept (by repeat first|exact ZR _|exact ZH (by assumption)|refine ZA ?_ _|refine ZD ?_|refine ZN ?_ _)).unit (HWV.out.trans (Below.mono (by repeat first|exact ZR _|exact ZH (by assumption)|refine ZA ?_ _|refine ZD ?_|refine ZN ?_ _) HWV.out.size)))).mono ?_;rintro e w' ⟨b,rfl,hb⟩;have HW:Hid (Below V.heap.size V w'):=ZT (by repeat first|exact ZR _|exact ZH (by assumption)|refine ZA ?_ _|refine ZD ?_|refine ZN ?_ _) hb;clear hb;have KK:=HS.out _ HW.out;obtain⟨k0_0,k0_1,k0_2,k1_0,k1_1,k1_2⟩:=KK;cases b)|(go_at_call 205;refine(ZbP _ _ _ _ _ _ _ ((HA.out.kept (by repeat first|exact ZR _|exact ZH (by assumption)|refine ZA ?_ _|refine ZD ?_|refine ZN ?_ _)).unit (HWV.out.trans (Below.mono (by repeat first|exact ZR _|exact ZH (by assumption)|refine ZA ?_ _|refine ZD ?_|refine ZN ?_ _) HWV.out.size))) ((HB.out.kept (by repeat first|exact ZR _|exact ZH (by assumption)|refine ZA ?_ _|refine ZD ?_|refine ZN ?_ _)).unit (HWV.out.trans (Below.mono (by repeat first|exact ZR _|exact ZH (by assumption)|refine ZA ?_ _|refine ZD ?_|refine ZN ?_ _) HWV.out.size)))).mono ?_;rintro e w' ⟨b,rfl,hb⟩;have HW:Hid (Below V.heap.size V w'):=ZT (by repeat first|exact ZR _|exact ZH (by assumption)|refine ZA ?_ _|refine ZD ?_|refine ZN ?_ _) hb;clear hb;have KK:=HS.out _ HW.out;obtain⟨k0_0,k0_1,k0_2,k1_0,k1_1,k1_2⟩:=KK;cases b)|((with_reducible refine Zaw 35 ?_);refine Zah rfl 35 #[] rfl _ (fun w=>ZaV w) ?_;intro v hv)|((with_reducible refine Zal 35 ?_);refine Zai rfl _ _ _ rfl rfl (w.heap.size+1+1) 35 _ _ rfl (by first|exact(by assumption:Hid (_=_)).out|rfl) (B2.out.kept (by repeat first|exact ZR _|exact ZH (by assumption)|refine ZA ?_ _|refine ZD ?_|refine ZN ?_ _)) (by kernel_rfl) (by rfl) (by rfl) w (ZT HBV.out (by repeat first|exact ZR _|exact ZH (by assumption)|refine ZA ?_ _|refine ZD ?_|refine ZN ?_ _)) (by omega) ?_;intro w9 hby hyb hot;have HR:=hid hby;have HRB:=hid hyb;have HOT:=hid hot;clear hby hyb hot;have HUQ:=hid (UnW.putq (w0:=w0) HOT.out (B2.out.kept (by repeat first|exact ZR _|exact ZH (by assumption)|refine ZA ?_ _|refine ZD ?_|refine ZN ?_ _)) (by decide));have HUP:Hid (∀ ua un uc,UnW w0 V ua un uc->UnW w0 w9 ua un uc):=fun _ _ _ hu=>HUQ.out _ _ _ (hu.kept (by repeat first|exact ZR _|exact ZH (by assumption)|refine ZA ?_ _|refine ZD ?_|refine ZN ?_ _)))|((with_reducible refine Zaq 35 ?_);refine Zaj rfl 35 (.tmp 8) rfl (w.heap.size+1+1+1) [.int .i64 1,.slice none 0 0,.string ⟨#[]⟩] 35 rfl (B3.out.kept (by repeat first|exact ZR _|exact ZH (by assumption)|refine ZA ?_ _|refine ZD ?_|refine ZN ?_ _)) _ underlying35 rfl (by kernel_rfl) ?_;intro v hv;obtain rfl:=hv.out)|fail)
      all_goals
       ((try simp only[Exit.inBlock,Exit.then]);refine bodyPost_ret (Zad rfl rfl HR.out underlying35 rfl (by kernel_rfl)) rfl ?_;first|exact Zaz.zero _ HRB.out|exact Zaz.kind _ _ HRB.out|exact⟨⟨_,_,_,_,_⟩,_,rfl,HUQ.out _ _ _ HV5.out,HRB.out⟩|exact⟨⟨_,a_ua,a_un,a_uc,_⟩,_,rfl,HUP.out _ _ _ HA.out,HRB.out⟩)
    · have e0:(op.toList==([97,110,100]:List UInt8))=false:=by rw[h];rfl
      have e1:(op.toList==([111,114]:List UInt8))=false:=by rw[h];rfl
      have e2:(op.toList==([61,61]:List UInt8))=false:=by rw[h];rfl
      have e3:(op.toList==([33,61]:List UInt8))=true:=by rw[h];rfl
      have e4:(op.toList==([60]:List UInt8))=false:=by rw[h];rfl
      have e5:(op.toList==([60,61]:List UInt8))=false:=by rw[h];rfl
      have e6:(op.toList==([42]:List UInt8))=false:=by rw[h];rfl
      have e7:(op.toList==([47]:List UInt8))=false:=by rw[h];rfl
      clear h
      go_wp2_with (first|(go_at_call 231;refine(Zcj _ _ _ _ _ _ _ _ _ _ _ ((HA.out.kept (by repeat first|exact ZR _|exact ZH (by assumption)|refine ZA ?_ _|refine ZD ?_|refine ZN ?_ _)).unit (HWV.out.trans (Below.mono (by repeat first|exact ZR _|exact ZH (by assumption)|refine ZA ?_ _|refine ZD ?_|refine ZN ?_ _) HWV.out.size))) ((HB.out.kept (by repeat first|exact ZR _|exact ZH (by assumption)|refine ZA ?_ _|refine ZD ?_|refine ZN ?_ _)).unit (HWV.out.trans (Below.mono (by repeat first|exact ZR _|exact ZH (by assumption)|refine ZA ?_ _|refine ZD ?_|refine ZN ?_ _) HWV.out.size)))).mono ?_;rintro e w' ⟨b,rfl,hb⟩;have HW:Hid (Below V.heap.size V w'):=ZT (by repeat first|exact ZR _|exact ZH (by assumption)|refine ZA ?_ _|refine ZD ?_|refine ZN ?_ _) hb;clear hb;have KK:=HS.out _ HW.out;obtain⟨k0_0,k0_1,k0_2,k1_0,k1_1,k1_2⟩:=KK;cases b)|(go_at_call 205;refine(ZbP _ _ _ _ _ _ _ ((HA.out.kept (by repeat first|exact ZR _|exact ZH (by assumption)|refine ZA ?_ _|refine ZD ?_|refine ZN ?_ _)).unit (HWV.out.trans (Below.mono (by repeat first|exact ZR _|exact ZH (by assumption)|refine ZA ?_ _|refine ZD ?_|refine ZN ?_ _) HWV.out.size))) ((HB.out.kept (by repeat first|exact ZR _|exact ZH (by assumption)|refine ZA ?_ _|refine ZD ?_|refine ZN ?_ _)).unit (HWV.out.trans (Below.mono (by repeat first|exact ZR _|exact ZH (by assumption)|refine ZA ?_ _|refine ZD ?_|refine ZN ?_ _) HWV.out.size)))).mono ?_;rintro e w' ⟨b,rfl,hb⟩;have HW:Hid (Below V.heap.size V w'):=ZT (by repeat first|exact ZR _|exact ZH (by assumption)|refine ZA ?_ _|refine ZD ?_|refine ZN ?_ _) hb;clear hb;have KK:=HS.out _ HW.out;obtain⟨k0_0,k0_1,k0_2,k1_0,k1_1,k1_2⟩:=KK;cases b)|((with_reducible refine Zaw 35 ?_);refine Zah rfl 35 #[] rfl _ (fun w=>ZaV w) ?_;intro v hv)|((with_reducible refine Zal 35 ?_);refine Zai rfl _ _ _ rfl rfl (w.heap.size+1+1) 35 _ _ rfl (by first|exact(by assumption:Hid (_=_)).out|rfl) (B2.out.kept (by repeat first|exact ZR _|exact ZH (by assumption)|refine ZA ?_ _|refine ZD ?_|refine ZN ?_ _)) (by kernel_rfl) (by rfl) (by rfl) w (ZT HBV.out (by repeat first|exact ZR _|exact ZH (by assumption)|refine ZA ?_ _|refine ZD ?_|refine ZN ?_ _)) (by omega) ?_;intro w9 hby hyb hot;have HR:=hid hby;have HRB:=hid hyb;have HOT:=hid hot;clear hby hyb hot;have HUQ:=hid (UnW.putq (w0:=w0) HOT.out (B2.out.kept (by repeat first|exact ZR _|exact ZH (by assumption)|refine ZA ?_ _|refine ZD ?_|refine ZN ?_ _)) (by decide));have HUP:Hid (∀ ua un uc,UnW w0 V ua un uc->UnW w0 w9 ua un uc):=fun _ _ _ hu=>HUQ.out _ _ _ (hu.kept (by repeat first|exact ZR _|exact ZH (by assumption)|refine ZA ?_ _|refine ZD ?_|refine ZN ?_ _)))|((with_reducible refine Zaq 35 ?_);refine Zaj rfl 35 (.tmp 8) rfl (w.heap.size+1+1+1) [.int .i64 1,.slice none 0 0,.string ⟨#[]⟩] 35 rfl (B3.out.kept (by repeat first|exact ZR _|exact ZH (by assumption)|refine ZA ?_ _|refine ZD ?_|refine ZN ?_ _)) _ underlying35 rfl (by kernel_rfl) ?_;intro v hv;obtain rfl:=hv.out)|fail)
      all_goals
       ((try simp only[Exit.inBlock,Exit.then]);refine bodyPost_ret (Zad rfl rfl HR.out underlying35 rfl (by kernel_rfl)) rfl ?_;first|exact Zaz.zero _ HRB.out|exact Zaz.kind _ _ HRB.out|exact⟨⟨_,_,_,_,_⟩,_,rfl,HUQ.out _ _ _ HV5.out,HRB.out⟩|exact⟨⟨_,a_ua,a_un,a_uc,_⟩,_,rfl,HUP.out _ _ _ HA.out,HRB.out⟩)
    · have e0:(op.toList==([97,110,100]:List UInt8))=false:=by rw[h];rfl
      have e1:(op.toList==([111,114]:List UInt8))=false:=by rw[h];rfl
      have e2:(op.toList==([61,61]:List UInt8))=false:=by rw[h];rfl
      have e3:(op.toList==([33,61]:List UInt8))=false:=by rw[h];rfl
      have e4:(op.toList==([60]:List UInt8))=true:=by rw[h];rfl
      have e5:(op.toList==([60,61]:List UInt8))=false:=by rw[h];rfl
      have e6:(op.toList==([42]:List UInt8))=false:=by rw[h];rfl
      have e7:(op.toList==([47]:List UInt8))=false:=by rw[h];rfl
      clear h
      go_wp2_with (first|(go_at_call 231;refine(Zcj _ _ _ _ _ _ _ _ _ _ _ ((HA.out.kept (by repeat first|exact ZR _|exact ZH (by assumption)|refine ZA ?_ _|refine ZD ?_|refine ZN ?_ _)).unit (HWV.out.trans (Below.mono (by repeat first|exact ZR _|exact ZH (by assumption)|refine ZA ?_ _|refine ZD ?_|refine ZN ?_ _) HWV.out.size))) ((HB.out.kept (by repeat first|exact ZR _|exact ZH (by assumption)|refine ZA ?_ _|refine ZD ?_|refine ZN ?_ _)).unit (HWV.out.trans (Below.mono (by repeat first|exact ZR _|exact ZH (by assumption)|refine ZA ?_ _|refine ZD ?_|refine ZN ?_ _) HWV.out.size)))).mono ?_;rintro e w' ⟨b,rfl,hb⟩;have HW:Hid (Below V.heap.size V w'):=ZT (by repeat first|exact ZR _|exact ZH (by assumption)|refine ZA ?_ _|refine ZD ?_|refine ZN ?_ _) hb;clear hb;have KK:=HS.out _ HW.out;obtain⟨k0_0,k0_1,k0_2,k1_0,k1_1,k1_2⟩:=KK;cases b)|(go_at_call 205;refine(ZbP _ _ _ _ _ _ _ ((HA.out.kept (by repeat first|exact ZR _|exact ZH (by assumption)|refine ZA ?_ _|refine ZD ?_|refine ZN ?_ _)).unit (HWV.out.trans (Below.mono (by repeat first|exact ZR _|exact ZH (by assumption)|refine ZA ?_ _|refine ZD ?_|refine ZN ?_ _) HWV.out.size))) ((HB.out.kept (by repeat first|exact ZR _|exact ZH (by assumption)|refine ZA ?_ _|refine ZD ?_|refine ZN ?_ _)).unit (HWV.out.trans (Below.mono (by repeat first|exact ZR _|exact ZH (by assumption)|refine ZA ?_ _|refine ZD ?_|refine ZN ?_ _) HWV.out.size)))).mono ?_;rintro e w' ⟨b,rfl,hb⟩;have HW:Hid (Below V.heap.size V w'):=ZT (by repeat first|exact ZR _|exact ZH (by assumption)|refine ZA ?_ _|refine ZD ?_|refine ZN ?_ _) hb;clear hb;have KK:=HS.out _ HW.out;obtain⟨k0_0,k0_1,k0_2,k1_0,k1_1,k1_2⟩:=KK;cases b)|((with_reducible refine Zaw 35 ?_);refine Zah rfl 35 #[] rfl _ (fun w=>ZaV w) ?_;intro v hv)|((with_reducible refine Zal 35 ?_);refine Zai rfl _ _ _ rfl rfl (w.heap.size+1+1) 35 _ _ rfl (by first|exact(by assumption:Hid (_=_)).out|rfl) (B2.out.kept (by repeat first|exact ZR _|exact ZH (by assumption)|refine ZA ?_ _|refine ZD ?_|refine ZN ?_ _)) (by kernel_rfl) (by rfl) (by rfl) w (ZT HBV.out (by repeat first|exact ZR _|exact ZH (by assumption)|refine ZA ?_ _|refine ZD ?_|refine ZN ?_ _)) (by omega) ?_;intro w9 hby hyb hot;have HR:=hid hby;have HRB:=hid hyb;have HOT:=hid hot;clear hby hyb hot;have HUQ:=hid (UnW.putq (w0:=w0) HOT.out (B2.out.kept (by repeat first|exact ZR _|exact ZH (by assumption)|refine ZA ?_ _|refine ZD ?_|refine ZN ?_ _)) (by decide));have HUP:Hid (∀ ua un uc,UnW w0 V ua un uc->UnW w0 w9 ua un uc):=fun _ _ _ hu=>HUQ.out _ _ _ (hu.kept (by repeat first|exact ZR _|exact ZH (by assumption)|refine ZA ?_ _|refine ZD ?_|refine ZN ?_ _)))|((with_reducible refine Zaq 35 ?_);refine Zaj rfl 35 (.tmp 8) rfl (w.heap.size+1+1+1) [.int .i64 1,.slice none 0 0,.string ⟨#[]⟩] 35 rfl (B3.out.kept (by repeat first|exact ZR _|exact ZH (by assumption)|refine ZA ?_ _|refine ZD ?_|refine ZN ?_ _)) _ underlying35 rfl (by kernel_rfl) ?_;intro v hv;obtain rfl:=hv.out)|fail)
      all_goals
       ((try simp only[Exit.inBlock,Exit.then]);refine bodyPost_ret (Zad rfl rfl HR.out underlying35 rfl (by kernel_rfl)) rfl ?_;first|exact Zaz.zero _ HRB.out|exact Zaz.kind _ _ HRB.out|exact⟨⟨_,_,_,_,_⟩,_,rfl,HUQ.out _ _ _ HV5.out,HRB.out⟩|exact⟨⟨_,a_ua,a_un,a_uc,_⟩,_,rfl,HUP.out _ _ _ HA.out,HRB.out⟩)
    · have e0:(op.toList==([97,110,100]:List UInt8))=false:=by rw[h];rfl
      have e1:(op.toList==([111,114]:List UInt8))=false:=by rw[h];rfl
      have e2:(op.toList==([61,61]:List UInt8))=false:=by rw[h];rfl
      have e3:(op.toList==([33,61]:List UInt8))=false:=by rw[h];rfl
      have e4:(op.toList==([60]:List UInt8))=false:=by rw[h];rfl
      have e5:(op.toList==([60,61]:List UInt8))=true:=by rw[h];rfl
      have e6:(op.toList==([42]:List UInt8))=false:=by rw[h];rfl
      have e7:(op.toList==([47]:List UInt8))=false:=by rw[h];rfl
      clear h
      go_wp2_with (first|(go_at_call 231;refine(Zcj _ _ _ _ _ _ _ _ _ _ _ ((HA.out.kept (by repeat first|exact ZR _|exact ZH (by assumption)|refine ZA ?_ _|refine ZD ?_|refine ZN ?_ _)).unit (HWV.out.trans (Below.mono (by repeat first|exact ZR _|exact ZH (by assumption)|refine ZA ?_ _|refine ZD ?_|refine ZN ?_ _) HWV.out.size))) ((HB.out.kept (by repeat first|exact ZR _|exact ZH (by assumption)|refine ZA ?_ _|refine ZD ?_|refine ZN ?_ _)).unit (HWV.out.trans (Below.mono (by repeat first|exact ZR _|exact ZH (by assumption)|refine ZA ?_ _|refine ZD ?_|refine ZN ?_ _) HWV.out.size)))).mono ?_;rintro e w' ⟨b,rfl,hb⟩;have HW:Hid (Below V.heap.size V w'):=ZT (by repeat first|exact ZR _|exact ZH (by assumption)|refine ZA ?_ _|refine ZD ?_|refine ZN ?_ _) hb;clear hb;have KK:=HS.out _ HW.out;obtain⟨k0_0,k0_1,k0_2,k1_0,k1_1,k1_2⟩:=KK;cases b)|(go_at_call 205;refine(ZbP _ _ _ _ _ _ _ ((HA.out.kept (by repeat first|exact ZR _|exact ZH (by assumption)|refine ZA ?_ _|refine ZD ?_|refine ZN ?_ _)).unit (HWV.out.trans (Below.mono (by repeat first|exact ZR _|exact ZH (by assumption)|refine ZA ?_ _|refine ZD ?_|refine ZN ?_ _) HWV.out.size))) ((HB.out.kept (by repeat first|exact ZR _|exact ZH (by assumption)|refine ZA ?_ _|refine ZD ?_|refine ZN ?_ _)).unit (HWV.out.trans (Below.mono (by repeat first|exact ZR _|exact ZH (by assumption)|refine ZA ?_ _|refine ZD ?_|refine ZN ?_ _) HWV.out.size)))).mono ?_;rintro e w' ⟨b,rfl,hb⟩;have HW:Hid (Below V.heap.size V w'):=ZT (by repeat first|exact ZR _|exact ZH (by assumption)|refine ZA ?_ _|refine ZD ?_|refine ZN ?_ _) hb;clear hb;have KK:=HS.out _ HW.out;obtain⟨k0_0,k0_1,k0_2,k1_0,k1_1,k1_2⟩:=KK;cases b)|((with_reducible refine Zaw 35 ?_);refine Zah rfl 35 #[] rfl _ (fun w=>ZaV w) ?_;intro v hv)|((with_reducible refine Zal 35 ?_);refine Zai rfl _ _ _ rfl rfl (w.heap.size+1+1) 35 _ _ rfl (by first|exact(by assumption:Hid (_=_)).out|rfl) (B2.out.kept (by repeat first|exact ZR _|exact ZH (by assumption)|refine ZA ?_ _|refine ZD ?_|refine ZN ?_ _)) (by kernel_rfl) (by rfl) (by rfl) w (ZT HBV.out (by repeat first|exact ZR _|exact ZH (by assumption)|refine ZA ?_ _|refine ZD ?_|refine ZN ?_ _)) (by omega) ?_;intro w9 hby hyb hot;have HR:=hid hby;have HRB:=hid hyb;have HOT:=hid hot;clear hby hyb hot;have HUQ:=hid (UnW.putq (w0:=w0) HOT.out (B2.out.kept (by repeat first|exact ZR _|exact ZH (by assumption)|refine ZA ?_ _|refine ZD ?_|refine ZN ?_ _)) (by decide));have HUP:Hid (∀ ua un uc,UnW w0 V ua un uc->UnW w0 w9 ua un uc):=fun _ _ _ hu=>HUQ.out _ _ _ (hu.kept (by repeat first|exact ZR _|exact ZH (by assumption)|refine ZA ?_ _|refine ZD ?_|refine ZN ?_ _)))|((with_reducible refine Zaq 35 ?_);refine Zaj rfl 35 (.tmp 8) rfl (w.heap.size+1+1+1) [.int .i64 1,.slice none 0 0,.string ⟨#[]⟩] 35 rfl (B3.out.kept (by repeat first|exact ZR _|exact ZH (by assumption)|refine ZA ?_ _|refine ZD ?_|refine ZN ?_ _)) _ underlying35 rfl (by kernel_rfl) ?_;intro v hv;obtain rfl:=hv.out)|fail)
      all_goals
       ((try simp only[Exit.inBlock,Exit.then]);refine bodyPost_ret (Zad rfl rfl HR.out underlying35 rfl (by kernel_rfl)) rfl ?_;first|exact Zaz.zero _ HRB.out|exact Zaz.kind _ _ HRB.out|exact⟨⟨_,_,_,_,_⟩,_,rfl,HUQ.out _ _ _ HV5.out,HRB.out⟩|exact⟨⟨_,a_ua,a_un,a_uc,_⟩,_,rfl,HUP.out _ _ _ HA.out,HRB.out⟩)
    · have e0:(op.toList==([97,110,100]:List UInt8))=false:=by rw[h];rfl
      have e1:(op.toList==([111,114]:List UInt8))=false:=by rw[h];rfl
      have e2:(op.toList==([61,61]:List UInt8))=false:=by rw[h];rfl
      have e3:(op.toList==([33,61]:List UInt8))=false:=by rw[h];rfl
      have e4:(op.toList==([60]:List UInt8))=false:=by rw[h];rfl
      have e5:(op.toList==([60,61]:List UInt8))=false:=by rw[h];rfl
      have e6:(op.toList==([42]:List UInt8))=true:=by rw[h];rfl
      have e7:(op.toList==([47]:List UInt8))=false:=by rw[h];rfl
      clear h
      go_wp2_with (first|(go_at_call 232;refine(times_w _ _ _ _ _ _ w0 _ (HWV.out.trans (Below.mono (by repeat first|exact ZR _|exact ZH (by assumption)|refine ZA ?_ _|refine ZD ?_|refine ZN ?_ _) HWV.out.size)) (HA.out.kept (by repeat first|exact ZR _|exact ZH (by assumption)|refine ZA ?_ _|refine ZD ?_|refine ZN ?_ _)) (HB.out.kept (by repeat first|exact ZR _|exact ZH (by assumption)|refine ZA ?_ _|refine ZD ?_|refine ZN ?_ _))).mono ?_;rintro e w5 ⟨a5,n5,c5,k5,rfl,hv5,hb⟩;have HV5:=hid hv5;have HW5:Hid (Below V.heap.size V w5):=ZT (by repeat first|exact ZR _|exact ZH (by assumption)|refine ZA ?_ _|refine ZD ?_|refine ZN ?_ _) hb;clear hb hv5;have KK:=HS.out _ HW5.out;obtain⟨k0_0,k0_1,k0_2,k1_0,k1_1,k1_2⟩:=KK)|((with_reducible refine Zaw 35 ?_);refine Zah rfl 35 #[] rfl _ (fun w=>ZaV w) ?_;intro v hv)|((with_reducible refine Zal 35 ?_);refine Zai rfl _ _ _ rfl rfl (w.heap.size+1+1) 35 _ _ rfl (by first|exact(by assumption:Hid (_=_)).out|rfl) (B2.out.kept (by repeat first|exact ZR _|exact ZH (by assumption)|refine ZA ?_ _|refine ZD ?_|refine ZN ?_ _)) (by kernel_rfl) (by rfl) (by rfl) w (ZT HBV.out (by repeat first|exact ZR _|exact ZH (by assumption)|refine ZA ?_ _|refine ZD ?_|refine ZN ?_ _)) (by omega) ?_;intro w9 hby hyb hot;have HR:=hid hby;have HRB:=hid hyb;have HOT:=hid hot;clear hby hyb hot;have HUQ:=hid (UnW.putq (w0:=w0) HOT.out (B2.out.kept (by repeat first|exact ZR _|exact ZH (by assumption)|refine ZA ?_ _|refine ZD ?_|refine ZN ?_ _)) (by decide));have HUP:Hid (∀ ua un uc,UnW w0 V ua un uc->UnW w0 w9 ua un uc):=fun _ _ _ hu=>HUQ.out _ _ _ (hu.kept (by repeat first|exact ZR _|exact ZH (by assumption)|refine ZA ?_ _|refine ZD ?_|refine ZN ?_ _)))|((with_reducible refine Zaq 35 ?_);refine Zaj rfl 35 (.tmp 8) rfl (w.heap.size+1+1+1) [.int .i64 1,.slice none 0 0,.string ⟨#[]⟩] 35 rfl (B3.out.kept (by repeat first|exact ZR _|exact ZH (by assumption)|refine ZA ?_ _|refine ZD ?_|refine ZN ?_ _)) _ underlying35 rfl (by kernel_rfl) ?_;intro v hv;obtain rfl:=hv.out)|fail)
      all_goals
       ((try simp only[Exit.inBlock,Exit.then]);refine bodyPost_ret (Zad rfl rfl HR.out underlying35 rfl (by kernel_rfl)) rfl ?_;first|exact Zaz.zero _ HRB.out|exact Zaz.kind _ _ HRB.out|exact⟨⟨_,_,_,_,_⟩,_,rfl,HUQ.out _ _ _ HV5.out,HRB.out⟩|exact⟨⟨_,a_ua,a_un,a_uc,_⟩,_,rfl,HUP.out _ _ _ HA.out,HRB.out⟩)
    · have e0:(op.toList==([97,110,100]:List UInt8))=false:=by rw[h];rfl
      have e1:(op.toList==([111,114]:List UInt8))=false:=by rw[h];rfl
      have e2:(op.toList==([61,61]:List UInt8))=false:=by rw[h];rfl
      have e3:(op.toList==([33,61]:List UInt8))=false:=by rw[h];rfl
      have e4:(op.toList==([60]:List UInt8))=false:=by rw[h];rfl
      have e5:(op.toList==([60,61]:List UInt8))=false:=by rw[h];rfl
      have e6:(op.toList==([42]:List UInt8))=false:=by rw[h];rfl
      have e7:(op.toList==([47]:List UInt8))=true:=by rw[h];rfl
      clear h
      go_wp2_with (first|(go_at_call 233;refine(over_w _ _ _ _ _ _ w0 _ (HWV.out.trans (Below.mono (by repeat first|exact ZR _|exact ZH (by assumption)|refine ZA ?_ _|refine ZD ?_|refine ZN ?_ _) HWV.out.size)) (HA.out.kept (by repeat first|exact ZR _|exact ZH (by assumption)|refine ZA ?_ _|refine ZD ?_|refine ZN ?_ _)) (HB.out.kept (by repeat first|exact ZR _|exact ZH (by assumption)|refine ZA ?_ _|refine ZD ?_|refine ZN ?_ _))).mono ?_;rintro e w5 ⟨a5,n5,c5,k5,rfl,hv5,hb⟩;have HV5:=hid hv5;have HW5:Hid (Below V.heap.size V w5):=ZT (by repeat first|exact ZR _|exact ZH (by assumption)|refine ZA ?_ _|refine ZD ?_|refine ZN ?_ _) hb;clear hb hv5;have KK:=HS.out _ HW5.out;obtain⟨k0_0,k0_1,k0_2,k1_0,k1_1,k1_2⟩:=KK)|((with_reducible refine Zaw 35 ?_);refine Zah rfl 35 #[] rfl _ (fun w=>ZaV w) ?_;intro v hv)|((with_reducible refine Zal 35 ?_);refine Zai rfl _ _ _ rfl rfl (w.heap.size+1+1) 35 _ _ rfl (by first|exact(by assumption:Hid (_=_)).out|rfl) (B2.out.kept (by repeat first|exact ZR _|exact ZH (by assumption)|refine ZA ?_ _|refine ZD ?_|refine ZN ?_ _)) (by kernel_rfl) (by rfl) (by rfl) w (ZT HBV.out (by repeat first|exact ZR _|exact ZH (by assumption)|refine ZA ?_ _|refine ZD ?_|refine ZN ?_ _)) (by omega) ?_;intro w9 hby hyb hot;have HR:=hid hby;have HRB:=hid hyb;have HOT:=hid hot;clear hby hyb hot;have HUQ:=hid (UnW.putq (w0:=w0) HOT.out (B2.out.kept (by repeat first|exact ZR _|exact ZH (by assumption)|refine ZA ?_ _|refine ZD ?_|refine ZN ?_ _)) (by decide));have HUP:Hid (∀ ua un uc,UnW w0 V ua un uc->UnW w0 w9 ua un uc):=fun _ _ _ hu=>HUQ.out _ _ _ (hu.kept (by repeat first|exact ZR _|exact ZH (by assumption)|refine ZA ?_ _|refine ZD ?_|refine ZN ?_ _)))|((with_reducible refine Zaq 35 ?_);refine Zaj rfl 35 (.tmp 8) rfl (w.heap.size+1+1+1) [.int .i64 1,.slice none 0 0,.string ⟨#[]⟩] 35 rfl (B3.out.kept (by repeat first|exact ZR _|exact ZH (by assumption)|refine ZA ?_ _|refine ZD ?_|refine ZN ?_ _)) _ underlying35 rfl (by kernel_rfl) ?_;intro v hv;obtain rfl:=hv.out)|fail)
      all_goals
       ((try simp only[Exit.inBlock,Exit.then]);refine bodyPost_ret (Zad rfl rfl HR.out underlying35 rfl (by kernel_rfl)) rfl ?_;first|exact Zaz.zero _ HRB.out|exact Zaz.kind _ _ HRB.out|exact⟨⟨_,_,_,_,_⟩,_,rfl,HUQ.out _ _ _ HV5.out,HRB.out⟩|exact⟨⟨_,a_ua,a_un,a_uc,_⟩,_,rfl,HUP.out _ _ _ HA.out,HRB.out⟩)
    · have e0:(op.toList==([97,110,100]:List UInt8))=false:=beq_eq_false_iff_ne.2 h.1
      have e1:(op.toList==([111,114]:List UInt8))=false:=beq_eq_false_iff_ne.2 h.2.1
      have e2:(op.toList==([61,61]:List UInt8))=false:=beq_eq_false_iff_ne.2 h.2.2.1
      have e3:(op.toList==([33,61]:List UInt8))=false:=beq_eq_false_iff_ne.2 h.2.2.2.1
      have e4:(op.toList==([60]:List UInt8))=false:=beq_eq_false_iff_ne.2 h.2.2.2.2.1
      have e5:(op.toList==([60,61]:List UInt8))=false:=beq_eq_false_iff_ne.2 h.2.2.2.2.2.1
      have e6:(op.toList==([42]:List UInt8))=false:=beq_eq_false_iff_ne.2 h.2.2.2.2.2.2.1
      have e7:(op.toList==([47]:List UInt8))=false:=beq_eq_false_iff_ne.2 h.2.2.2.2.2.2.2
      clear h
      go_wp2_with (first|(go_at_call 205;refine(ZbP _ _ _ _ _ _ _ ((HA.out.kept (by repeat first|exact ZR _|exact ZH (by assumption)|refine ZA ?_ _|refine ZD ?_|refine ZN ?_ _)).unit (HWV.out.trans (Below.mono (by repeat first|exact ZR _|exact ZH (by assumption)|refine ZA ?_ _|refine ZD ?_|refine ZN ?_ _) HWV.out.size))) ((HB.out.kept (by repeat first|exact ZR _|exact ZH (by assumption)|refine ZA ?_ _|refine ZD ?_|refine ZN ?_ _)).unit (HWV.out.trans (Below.mono (by repeat first|exact ZR _|exact ZH (by assumption)|refine ZA ?_ _|refine ZD ?_|refine ZN ?_ _) HWV.out.size)))).mono ?_;rintro e w' ⟨b,rfl,hb⟩;have HW:Hid (Below V.heap.size V w'):=ZT (by repeat first|exact ZR _|exact ZH (by assumption)|refine ZA ?_ _|refine ZD ?_|refine ZN ?_ _) hb;clear hb;have KK:=HS.out _ HW.out;obtain⟨k0_0,k0_1,k0_2,k1_0,k1_1,k1_2⟩:=KK;cases b)|((with_reducible refine Zaw 35 ?_);refine Zah rfl 35 #[] rfl _ (fun w=>ZaV w) ?_;intro v hv)|((with_reducible refine Zal 35 ?_);refine Zai rfl _ _ _ rfl rfl (w.heap.size+1+1) 35 _ _ rfl (by first|exact(by assumption:Hid (_=_)).out|rfl) (B2.out.kept (by repeat first|exact ZR _|exact ZH (by assumption)|refine ZA ?_ _|refine ZD ?_|refine ZN ?_ _)) (by kernel_rfl) (by rfl) (by rfl) w (ZT HBV.out (by repeat first|exact ZR _|exact ZH (by assumption)|refine ZA ?_ _|refine ZD ?_|refine ZN ?_ _)) (by omega) ?_;intro w9 hby hyb hot;have HR:=hid hby;have HRB:=hid hyb;have HOT:=hid hot;clear hby hyb hot;have HUQ:=hid (UnW.putq (w0:=w0) HOT.out (B2.out.kept (by repeat first|exact ZR _|exact ZH (by assumption)|refine ZA ?_ _|refine ZD ?_|refine ZN ?_ _)) (by decide));have HUP:Hid (∀ ua un uc,UnW w0 V ua un uc->UnW w0 w9 ua un uc):=fun _ _ _ hu=>HUQ.out _ _ _ (hu.kept (by repeat first|exact ZR _|exact ZH (by assumption)|refine ZA ?_ _|refine ZD ?_|refine ZN ?_ _)))|((with_reducible refine Zaq 35 ?_);refine Zaj rfl 35 (.tmp 8) rfl (w.heap.size+1+1+1) [.int .i64 1,.slice none 0 0,.string ⟨#[]⟩] 35 rfl (B3.out.kept (by repeat first|exact ZR _|exact ZH (by assumption)|refine ZA ?_ _|refine ZD ?_|refine ZN ?_ _)) _ underlying35 rfl (by kernel_rfl) ?_;intro v hv;obtain rfl:=hv.out)|fail)
      all_goals
       ((try simp only[Exit.inBlock,Exit.then]);refine bodyPost_ret (Zad rfl rfl HR.out underlying35 rfl (by kernel_rfl)) rfl ?_;first|exact Zaz.zero _ HRB.out|exact Zaz.kind _ _ HRB.out|exact⟨⟨_,_,_,_,_⟩,_,rfl,HUQ.out _ _ _ HV5.out,HRB.out⟩|exact⟨⟨_,a_ua,a_un,a_uc,_⟩,_,rfl,HUP.out _ _ _ HA.out,HRB.out⟩)
end Go.Proofs.YtfnpfkgmacaboaaGreat
