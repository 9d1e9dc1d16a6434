/-
  Proves that asoflaw20.DeltaEffective returns true for every input and leaves its arguments as they were: the differences of a valid log, summed up to a tick, are the rows that are effective at it. No condition.
-/
import Derived.Test.YtfnpfkgmacaboaaGreatM38
import Derived.Test.YtfnpfkgmacaboaaGreatM42
import Derived.Test.YtfnpfkgmacaboaaGreatM45
namespace Go.Proofs.YtfnpfkgmacaboaaGreat
open Go.Proofs.Tryz
open Lib (hid)
open Go.ChangeShapes Go.WideShapes Go.ChangeAt Go.RowKit
set_option linter.unusedVariables false
set_option linter.unusedSimpArgs false
set_option maxRecDepth 100000
set_option maxHeartbeats 4000000
set_option maxHeartbeats 8000000 in
theorem leff_any (l:List En)(ao:Option Addr)(c:Nat)(t:Int)(hl:l.length<=140737488355328)(w:World)(h:Zaf En.cells 40 w ao l)(hs:∀ e∈l,e.Seen w) :
 Calls prog 4 #[.slice ao l.length c,.int .i64 t] w fun e w'=>e=.returned (.bool true)/\Below w.heap.size w w':=by
 have H1:=hid h
 have HS:=hid hs
 have HL:=hid hl
 clear h hs hl
 go_enter func4,ntmps4
 go_upto_region 5 with(first|(go_at_call 9;refine(Zfu _).mono ?_;rintro e w1 ⟨rfl,hb⟩;have HW1:Hid (Below w.heap.size w w1):=hb;clear hb)|(go_at_call 10;refine(lvalid_any l _ _ HL.out _ (H1.out.kept HW1.out) (fun e he=>(HS.out e he).kept HW1.out)).mono ?_;rintro e w2 ⟨b,rfl,hq,hb⟩;have HQ:=hid hq;have HW12:Hid (Below w1.heap.size w1 w2):=hb;clear hq hb;cases b)|fail)
 all_goals first
  |(go_ret;exact⟨rfl,ZT HW1.out HW12.out⟩)
  |skip
 have HOK:Hid (LogOk l w1):=HQ.out (by first|rfl|trivial)
 have HEN:Hid (EnsAt w1 ao l):=HOK.out.ens (H1.out.kept HW1.out) (fun e he=>(HS.out e he).kept HW1.out)
 have HL1:Hid (l.length<=1000):=by have:=HOK.out.1;show _<=_;omega
 go_wp2_with (first
  |(go_at_call 13;refine(Zdq l _ _ HL1.out _ (HEN.out.kept HW12.out)).mono ?_;rintro e w3 ⟨v,ds,rfl,hsl,hk,hb⟩;obtain⟨a3,c3,rfl,-,-,hd⟩:=hsl;have HDS:=hid hd;have HDK:Hid (ds.map Dl.kn=consK (fromK l)):=hk;have HDL:=hid (from_len HOK.out HEN.out hk);have HW3:=hid (ZT HW12.out hb);clear hd hk hb)
  |(go_at_call 18;refine(fat_any ds _ _ (by have:=HDL.out;omega) t _ HDS.out).mono ?_;rintro e w4 ⟨v,rows,rfl,hown,hlen,hat,hb⟩;obtain⟨a4,c4,rfl,-,-,hr⟩:=hown.lies;have HR4:=hid hr;have HAT:=hid hat;have HLR:=hid hlen;have HW4:=hid (ZT HW3.out hb);clear hown hr hat hlen hb)
  |(go_at_call 19;refine(Zds l _ _ t (by have:=HL1.out;omega) _ (HEN.out.kept HW4.out)).mono ?_;rintro e w5 ⟨v,rfl,hs5,-,hl5,-,hb⟩;obtain⟨a5,c5,rfl,-,-,hr5⟩:=hs5;have HR5:=hid hr5;have HR45:=hid (HR4.out.kept hb);have HW5:=hid (ZT HW4.out hb);clear hr5 hl5 hb)
  |(go_at_call 17;refine(ZdD rows (effL l t) _ _ _ _ (by have:=HLR.out;have:=HDL.out;omega) _ HR45.out HR5.out (Zd9 HOK.out.order HEN.out.bases (by have:=HAT.out;rw[HDK.out]at this;exact this))).mono ?_;rintro e w6 ⟨rfl,hb⟩;have HW6:=hid (ZT HW5.out hb);clear hb)
  |fail)
 go_ret
 exact⟨rfl,ZT HW1.out HW6.out⟩
open Go.Joins Go.Deep
set_option maxRecDepth 100000 in
open Go.ChangeMaps (open_string)
theorem Zdb (os:Os)(started:os.Started)(H:Type)(enc:TypeId × Value->H) :
 ReturnsInHanded {} Tryz.checked os 4 .any (Rows.deltaEffectiveSpec.pre6 enc prog Tryz.f4 Rows.deltaEffectiveRow.domain false) (Rows.deltaEffectiveSpec.post enc prog Tryz.f4 false true false false):=by
 refine returnsInHanded_of_change_sized (C:=Tryz.checked) own started (by kernel_rfl) func4
  (ChangeSpec.witness6 (enc:=enc) (C:=Tryz.checked) false ⟨#[],#[.slice none 0 0,.int .i64 0],[]⟩ 8 (by kernel_rfl) (by kernel_rfl) (by kernel_rfl) (by kernel_rfl)) ?_
 intro W base args ds gs before hval0 hW hcnd hsz0 _
 have hval:∀ (j:Nat) t v,Tryz.f4.params[j]?=some t->args[j]?=some v->Value.okWide prog W .any base t v:=hval0
 have hsz:(DataW.weightsEach prog (Tryz.f4.params.toList++Rows.deltaEffectiveSpec.plain.varTypes prog) (ds++gs)).all (·<=reachBytes)=true:=hsz0
 have hW':=hW
 obtain⟨p,q,hA0,hV,rfl,hfz,hnd⟩:=hW
 have hA:DataW.TrodAll enc prog W 0 (fun _=>true) true Tryz.f4.params.toList args.toList ds p:=hA0
 have hA1:=hA
 rw[Tryz.params4]at hA hval hsz
 obtain⟨v0,vs0,d0,ds0,p0,q0,hargs,rfl,rfl,h0,r0⟩:=trodAll_cons hA
 obtain⟨v1,vs1,d1,ds1,p1,q1,rfl,rfl,rfl,h1,r1⟩:=trodAll_cons r0
 obtain⟨rfl,rfl,rfl⟩:=trodAll_nil r1
 obtain rfl:args=#[v0,v1]:=by cases args;simp_all
 obtain⟨rfl,rfl⟩:=trodVars_none hV
 have hmem:=fun(j:Nat) (t:TypeId) (d:DataW H) (h1:_) (h2:_) (m:Nat) (hm:m∈d.weights prog t)=>of_decide_eq_true (List.all_eq_true.1 hsz m (DataW.weights_mem_each (j:=j) (t:=t) (d:=d) h1 h2 m hm))
 obtain⟨ao0,cap0,l0,rfl,hb0,hl0,hs0,hn0,hp0⟩:=open_ens (hval 0 22 v0 rfl rfl) h0 (hmem 0 22 d0 rfl rfl)
 obtain⟨a1,rfl,rfl,rfl,w1⟩:=open_int underlying3 (hval 1 3 v1 rfl rfl) h1
 clear hA0 hval0 hmem
 simp only[List.append_nil]at hW'
 refine(leff_any l0 ao0 cap0 a1 hb0 W hl0 hs0).mono fun e W' ⟨he,hg⟩=>?_
 subst he
 refine⟨_,rfl,post_kept (pa:=(p0++(([]:List MemPlace)++([]:List MemPlace)))) (pv:=[]) hW' (fun _ _ _=>(trodAll_cons_mk (shut_bool underlying4 _) trodAll_mk0)) ?_ rfl (by simp) hg⟩
 exact ZcZ laidOut hg (by kernel_rfl) hA1 (fun x hx=>hW'.lt x (by simpa using hx))
theorem ZdH:Rows.deltaEffectiveRow.holds Tryz.pinned (OpenSpec.ofChange Rows.deltaEffectiveSpec) :=
 OpenClaim.holds_of_wide 4 Tryz.f4 rfl rfl rfl rfl rfl rfl rfl ⟨rfl,rfl,rfl,rfl,rfl⟩ rfl rfl rfl rfl rfl (by kernel_rfl) func4 (by kernel_rfl)
  (of_decide_eq_true (by kernel_rfl)) (by unfold Func.isWrapper;first|(rw[if_pos (by decide +kernel)];kernel_rfl)|(rw[if_neg (by decide +kernel)];exact⟨rfl,rfl⟩))
  (fun os started H enc _=>Zdb os started H enc)
theorem deltaEffective_holds:Rows.DeltaEffectiveSaid:=ZdH
#print axioms deltaEffective_holds
end Go.Proofs.YtfnpfkgmacaboaaGreat
