/-
  Proves that asoflaw20.DeltaNext returns true for every input and leaves its arguments as they were: one entry more in a valid log, and the differences that it makes, read forward or purged. No condition.
-/
import Derived.Test.YtfnpfkgmacaboaaGreatM42
import Derived.Test.YtfnpfkgmacaboaaGreatM46
import Derived.Test.YtfnpfkgmacaboaaGreatM47
import Derived.Test.YtfnpfkgmacaboaaGreatM48
namespace Go.Proofs.YtfnpfkgmacaboaaGreat
open Go.Proofs.Tryz
open Lib (hid)
open Go.ChangeShapes Go.WideShapes Go.ChangeAt Go.RowKit
set_option linter.unusedVariables false
set_option linter.unusedSimpArgs false
set_option maxRecDepth 100000
set_option maxHeartbeats 4000000
open Go.Maps
theorem next_len {l:List En}{x:En}{w:World}(h:LogOk (l++[x]) w)(hb:∀ y∈l++[x],OkF y.base){ds:List Dl}(hd:ds.map Dl.kn=consK ((nextL l x).map Dl.kn)):ds.length<=200:=by
 have h1:ds.length=(ds.map Dl.kn).length:=by simp
 rw[hd]at h1
 have h2:=Zfy ((nextL l x).map Dl.kn)
 have h3:=ZeR hb h.seqs 1099511627776
 have h4:=ZeR (l:=l) (fun y hy=>hb y (List.mem_append_left _ hy)) (fun y hy=>h.seqs y (List.mem_append_left _ hy)) 1099511627776
 have h5:=h.1
 have h6:(nextL l x).length=(effL l 1099511627776).length+(effL (l++[x]) 1099511627776).length:=by
  unfold nextL betD
  rw[List.length_append,List.length_map,List.length_map]
  try omega
 simp at h2 h3 h4 h5
 omega
theorem Zfs {l:List En}(h5:l.length<=60)(hb:∀ y∈l,OkF y.base)(hs:∀ y∈l,y.kind=1->1<=y.seq){ds:List Dl}(hd:ds.map Dl.kn=consK (fromK l)):ds.length<=7200:=by
 have h1:ds.length=(ds.map Dl.kn).length:=by simp
 rw[hd]at h1
 have h2:=Zfy (fromK l)
 have h3:=(frS_len (ZeR hb hs) l.length).1
 have h4:(fromK l).length=(frS l l.length).1.length:=by simp[fromK,fromL]
 have h6:l.length*(2*l.length)<=60*(2*60):=Nat.mul_le_mul h5 (by omega)
 omega
set_option maxHeartbeats 8000000 in
theorem lnext_any (l:List En)(ao:Option Addr)(c:Nat)(x:En)(t:Int)(hl:(l.length+1)*528<=140737488355328)(hsp:∀ a,ao=some a->a.spot=none)(w:World)(h:Zaf En.cells 40 w ao l)(hs:∀ e∈l,e.Seen w)(hx:x.Seen w) :
 Calls prog 5 #[.slice ao l.length c,.agg x.cells.toArray,.int .i64 t] w fun e w'=>e=.returned (.bool true)/\Below w.heap.size w w':=by
 have H1:=hid h
 obtain⟨L,hL⟩:∃ L,L=l++[x]:=⟨_,rfl⟩
 have HLE:=hid hL
 have HS:Hid (∀ e∈L,e.Seen w):=by
  intro e he
  rw[hL]at he
  rcases List.mem_append.1 he with he|he
  · exact hs e he
  · simp at he;rw[he];exact hx
 have HLL:Hid (l.length+1=L.length):=by show _=_;rw[hL];simp
 have HBE:Hid (∀ w',Below w.heap.size w w'->Calls prog 11 #[.slice ao l.length c,.agg x.cells.toArray] w' (fun e w2=>∃ a2 c2,e=.returned (.slice a2 L.length c2)/\Zaf En.cells 40 w2 a2 L/\Below w'.heap.size w' w2)):=fun w' hb=>(behind_any l ao c hl x w' (h.kept hb)).mono (by
  rintro e w2 ⟨a,c2,rfl,-,-,h2,hb2⟩
  rw[HLL.out]
  exact⟨a,c2,rfl,hL ▸ h2,hb2⟩)
 have HL:Hid (L.length<=140737488355328):=by show _<=_;rw[<-HLL.out];omega
 have HSP:=hid hsp
 clear h hs hl hx hsp hL
 go_enter func5,ntmps5
 go_upto_region 1 with(first|(refine Za9 rfl 48 (.tmp 1) rfl x.cells rfl ?_)|fail)
 refine Zam (fun W hW=>?_)
 have HXB:Hid (Box W w.heap.size x.cells.toArray 48):=by rw[hW];exact ZaE _ _ _
 have HBV:Hid (Below w.heap.size w W):=by rw[hW];exact Zab _
 clear hW
 try simp only[Act.put,m1,m2,m3]
 go_upto_region 3 with(first|(go_at_call 9;refine(Zfu _).mono ?_;rintro e w1 ⟨rfl,hb⟩;have HW1:Hid (Below w.heap.size w w1):=ZT HBV.out hb;have HXC:Hid (∀ w',Below w1.heap.size w1 w'->∀ j v,x.cells[j]?=some v->w'.cell? ⟨w.heap.size,0+j,none⟩=some v):=(fun w' hb' j v hj=>by rw[Nat.zero_add];exact((HXB.out.kept hb).kept hb').cell j v (by rw[List.getElem?_toArray];exact hj));clear hb)|fail)
 go_upto_region 4 with(first
  |(refine Zat rfl 48 (.tmp 4) rfl w.heap.size 0 x.cells rfl (HXC.out _ (Below.refl _ _)) _ underlying48 rfl (by kernel_rfl) ?_)
  |(go_at_call 11;refine(HBE.out _ HW1.out).mono ?_;rintro e w2 ⟨a2,c2,rfl,h2,hb⟩;have H2:=hid h2;have HW12:=hid hb;have HW2:Hid (Below w.heap.size w w2):=ZT HW1.out hb;clear h2 hb)
  |fail)
 go_upto_region 6 with(first
  |(go_at_call 10;refine(lvalid_any L _ _ HL.out _ H2.out (fun e he=>(HS.out e he).kept HW2.out)).mono ?_;rintro e w3 ⟨b,rfl,hq,hb⟩;have HQ:=hid hq;have HW23:=hid hb;have HW3:Hid (Below w.heap.size w w3):=ZT HW2.out hb;clear hq hb;cases b)
  |fail)
 all_goals first
  |(go_ret;exact⟨rfl,HW3.out⟩)
  |skip
 have HOK:Hid (LogOk L w2):=HQ.out (by first|rfl|trivial)
 have HEN:Hid (EnsAt w2 a2 L):=HOK.out.ens H2.out (fun e he=>(HS.out e he).kept HW2.out)
 have HE1:Hid (EnsAt w2 ao l/\x.Ok w2):=⟨⟨H1.out.kept HW2.out,fun e he=>HEN.out.2 e (by rw[HLE.out];exact List.mem_append_left _ he)⟩,HEN.out.2 x (by rw[HLE.out];simp)⟩
 have HL1:Hid (L.length<=60/\l.length<=60):=by have:=HOK.out.1;have:=HLL.out;exact⟨by omega,by omega⟩
 have HXC3:Hid (∀ w',Below w3.heap.size w3 w'->∀ j v,x.cells[j]?=some v->w'.cell? ⟨w.heap.size,0+j,none⟩=some v):=fun w' hb=>HXC.out w' ((HW12.out.trans (HW23.out.mono HW12.out.size)).trans (hb.mono (HW12.out.trans (HW23.out.mono HW12.out.size)).size))
 have HBA:Hid ((∀ y∈l,y.kind=1->1<=y.seq)/\(∀ y∈l,OkF y.base)/\(∀ y∈l++[x],OkF y.base)):=by
  refine⟨fun y hy=>HOK.out.seqs y (by rw[HLE.out];exact List.mem_append_left _ hy),fun y hy=>HE1.out.1.bases y hy,fun y hy=>HEN.out.bases y (by rw[HLE.out];exact hy)⟩
 refine ZaI (S:=fun w'=>Below w3.heap.size w3 w') (.free 0 (.free 2 (.free 3 (.one 1 (.one 4 (.one 5 (.free 6 .done))))))) (by kernel_rfl) (by kernel_rfl) (fun _ _ _ _ _ h=>h) (by kernel_rfl) (by kernel_rfl) ((ZD (ZR _))) ?_
 refine Zac _ (.slice ao l.length c) rfl (by rfl) (by intro wq hSw;skip;go_simp) ?_
 try simp only[Act.put,m1,m2,m3]
 refine Zac _ (.slice ao l.length c) rfl (by rfl) (by intro wq hSw;skip;go_simp) ?_
 try simp only[Act.put,m1,m2,m3]
 refine ZbV _ rfl (by rfl) 48 _ rfl w.heap.size 0 x.cells rfl HXC3.out _ underlying48 rfl (by kernel_rfl) ?_
 intro v3 hv3
 subst hv3
 try simp only[Act.put,m1,m2,m3]
 refine ZaN _ rfl (by rfl) (fun K hK=>?_)
 go_wp2_with (go_at_call 13;refine(Zdq l _ _ (by have:=HL1.out.2;omega) _ (HE1.out.1.kept (ZT HW23.out (ZD (ZR _))))).mono ?_;rintro e w4 ⟨v,ds,rfl,hsl,hk,hb⟩;obtain⟨a4,c4,rfl,-,hn4,hd⟩:=hsl;have HD4:=hid hd;have HK4:Hid (ds.map Dl.kn=consK (fromK l)):=hk;have HN4:=hid hn4;have HW4:Hid (Below w3.heap.size w3 w4):=ZT (ZD (ZR _)) hb;clear hd hk hb hn4)
 refine hK.out _ _ HW4.out (fun hHeld=>?_)
 clear hK K
 have HDL4:Hid (ds.length<=7200):=Zfs HL1.out.2 HBA.out.2.1 HBA.out.1 HK4.out
 try simp only[Act.put,m1,m2,m3]
 refine ZaN _ rfl (by rfl) (fun K hK=>?_)
 go_wp2_with (go_at_call 15;refine(next_any l _ _ x (by have:=HL1.out.2;omega) HSP.out _ (HE1.out.1.kept (ZT HW23.out HW4.out)) (HE1.out.2.kept (ZT HW23.out HW4.out))).mono ?_;rintro e w5 ⟨v,es,rfl,hsl,hk,hb⟩;obtain⟨a5,c5,rfl,-,hn5,hd⟩:=hsl;have HD5:=hid hd;have HK5:Hid (es.map Dl.kn=consK (nextK l x)):=hk;have HN5:=hid hn5;have HW45:=hid hb;have HW5:Hid (Below w3.heap.size w3 w5):=ZT HW4.out hb;clear hd hk hb hn5)
 refine hK.out _ _ HW5.out (fun hHeld=>?_)
 clear hK K
 have HDL5:Hid (es.length<=200):=next_len (HLE.out ▸ HOK.out) HBA.out.2.2 HK5.out
 try simp only[Act.put,m1,m2,m3]
 refine ZaN _ rfl (by rfl) (fun K hK=>?_)
 go_wp2_with (go_at_call 20;refine(fadd_any ds es a4 a5 c4 c5 (by have:=HDL4.out;omega) (by have:=HDL5.out;omega) HN4.out HN5.out _ (HD4.out.kept HW45.out) HD5.out).mono ?_;rintro e w6 ⟨v,ss,rfl,hsl,hlen,hk,hb⟩;obtain⟨a6,c6,rfl,-,-,hd⟩:=hsl;have HD6:=hid hd;have HK6:Hid (ss.map Dl.kn=consK (ds.map Dl.kn++es.map Dl.kn)):=hk;have HDL6:=hid hlen;have HW6:Hid (Below w3.heap.size w3 w6):=ZT HW5.out hb;clear hd hk hb hlen)
 refine hK.out _ _ HW6.out (fun hHeld=>?_)
 clear hK K
 try simp only[Act.put,m1,m2,m3]
 refine Zac _ (.slice a6 ss.length c6) rfl (by rfl) (by intro wq hSw;skip;go_simp) ?_
 try simp only[Act.put,m1,m2,m3]
 refine Zbb ?_
 have HK6b:Hid (ss.map Dl.kn=consK (consK (fromK l)++consK (nextK l x))):=by have:=HK6.out;rw[HK4.out,HK5.out]at this;exact this
 have HDL6b:Hid (ss.length<=7600):=by have h1:=HDL6.out;have h2:=HDL4.out;have h3:=HDL5.out;show _<=_;omega
 clear HK6 HDL6 HDL4 HDL5 HD4 HD5 HK4 HK5 HN4 HN5 HW4 HW45 HW5
 go_upto_region 8 with(first|(go_at_call 13;refine(Zdq L _ _ (by have:=HL1.out.1;omega) _ (HEN.out.kept (ZT HW23.out HW6.out))).mono ?_;rintro e w7 ⟨v,fs,rfl,hsl,hk,hb⟩;obtain⟨a7,c7,rfl,-,hn7,hd⟩:=hsl;have HD7:=hid hd;have HK7:Hid (fs.map Dl.kn=consK (fromK L)):=hk;have HW67:=hid hb;have HW7:Hid (Below w3.heap.size w3 w7):=ZT HW6.out hb;clear hd hk hb hn7)|fail)
 have HDL7:Hid (fs.length<=7200):=Zfs HL1.out.1 HEN.out.bases HOK.out.seqs HK7.out
 have k1:=HXC3.out _ HW7.out 1 (.int .i64 x.tick) rfl
 have k2:=HXC3.out _ HW7.out 2 (.int .i64 x.kind) rfl
 simp only[Nat.zero_add]at k1 k2
 have HOR:Hid (Order (l++[x])):=HLE.out ▸ HOK.out.order
 have HMX:Hid (∀ y∈l++[x],y.tick<=1099511627776):=fun y hy=>HOK.out.max y (by rw[HLE.out];exact hy)
 by_cases hk:x.kind=2
 · have hne:(x.kind != 2)=false:=by rw[hk];rfl
   have HKD:=hid hk
   clear hk
   go_upto_region 11 with fail
   have HM:Hid (x.tick<=max t x.tick):=Int.le_max_right _ _
   generalize max t x.tick=m at *
   go_upto_region 12 with(first|(go_at_call 18;refine(fat_any ss _ _ (by have:=HDL6b.out;omega) _ _ (HD6.out.kept HW67.out)).mono ?_;rintro e w8 ⟨v,r8,rfl,hown,hlen,hat,hb⟩;obtain⟨a8,c8,rfl,-,-,hr⟩:=hown.lies;have HR8:=hid hr;have HAT8:=hid hat;have HLR:=hid hlen;have HW78:=hid hb;have HW8:=hid (ZT HW7.out hb);clear hown hr hat hlen hb)|fail)
   have HK8:Hid (r8.map Rw.key=(effL L m).map Rw.key):=by
    show _=_
    rw[HLE.out]
    exact law_late HOR.out HMX.out HBA.out.2.2 HM.out (by have:=HAT8.out;rw[HK6b.out]at this;exact this)
   have HLR8:Hid (r8.length<=140737488355328):=by have h1:=HLR.out;have h2:=HDL6b.out;show _<=_;omega
   clear HAT8 HLR HK6b
   go_wp2_with (first
    |(go_at_call 13;refine(Zdq l _ _ (by have:=HL1.out.2;omega) _ (HE1.out.1.kept (ZT HW23.out HW8.out))).mono ?_;rintro e w9 ⟨v,ds,rfl,hsl,hk,hb⟩;obtain⟨a9,c9,rfl,-,hn9,hd⟩:=hsl;have HD9:=hid hd;have HK9:Hid (ds.map Dl.kn=consK (fromK l)):=hk;have HW89:=hid hb;have HW9:=hid (ZT HW8.out hb);have HDL9:Hid (ds.length<=7200):=Zfs HL1.out.2 HBA.out.2.1 HBA.out.1 hk;clear hd hk hb hn9)
    |(go_at_call 22;refine(ids_any L _ _ (by have:=HL1.out.1;omega) _ (HEN.out.kept (ZT HW23.out HW9.out))).mono ?_;rintro e w10 ⟨v,ids,rfl,hsl,hmem,hlen,hb⟩;obtain⟨a10,c10,rfl,hi⟩:=hsl;have HI10:=hid hi;have HME:=hid hmem;have HLI:=hid hlen;have HW910:=hid hb;have HW10:=hid (ZT HW9.out hb);clear hi hmem hlen hb)
    |(go_at_call 21;refine(fpurge_any ds _ _ (by have:=HDL9.out;omega) ids _ _ (by have h1:=HLI.out;have h2:=HL1.out.1;omega) _ (HD9.out.kept HW910.out) HI10.out).mono ?_;rintro e w11 ⟨v,rfl,hown,hb⟩;obtain⟨a11,c11,rfl,-,-,hd⟩:=hown.lies;have HD11:=hid hd;have HW11:=hid (ZT HW10.out hb);have HW811:=hid (ZT (ZT HW89.out HW910.out) hb);have HW711:=hid (ZT HW78.out (ZT (ZT HW89.out HW910.out) hb));clear hown hd hb)
    |(go_at_call 12;refine(same_any fs (ZbR ds ids) _ _ _ _ (by have:=HDL7.out;omega) _ (HD7.out.kept HW711.out) HD11.out).mono ?_;rintro e w12 ⟨rfl,hb⟩;have HW12b:=hid (ZT HW11.out hb);have HW712:=hid (ZT HW711.out hb);have HW812:=hid (ZT HW811.out hb);rw[decide_eq_true (show fs.map Dl.kn=(ZbR ds ids).map Dl.kn by rw[purgeD_kn,HK7.out,HK9.out,HME.out,HLE.out];exact law_erase HOR.out HBA.out.2.1 HKD.out)];clear hb)
    |(go_at_call 18;refine(fat_any fs _ _ (by have:=HDL7.out;omega) _ _ (HD7.out.kept HW712.out)).mono ?_;rintro e w13 ⟨v,r13,rfl,hown,hlen,hat,hb⟩;obtain⟨a13,c13,rfl,-,-,hr⟩:=hown.lies;have HR13:=hid hr;have HK13:Hid (r13.map Rw.key=(effL L m).map Rw.key):=Zd9 HOK.out.order HEN.out.bases (by rw[HK7.out]at hat;exact hat);have HW13:=hid (ZT HW12b.out hb);have HW813:=hid (ZT HW812.out hb);clear hown hr hat hlen hb)
    |(go_at_call 17;(with_reducible refine(ZdD r8 r13 _ _ _ _ HLR8.out _ (HR8.out.kept HW813.out) HR13.out (HK8.out.trans HK13.out.symm)).mono ?_);rintro e w14 ⟨rfl,hb⟩;have HW14:=hid (ZT HW13.out hb);have HW814:=hid (ZT HW813.out hb);clear hb)
    |(go_at_call 19;refine(Zds L _ _ m (by have:=HL1.out.1;omega) _ (HEN.out.kept (ZT HW23.out HW14.out))).mono ?_;rintro e w15 ⟨v,rfl,hs5,-,hl5,-,hb⟩;obtain⟨a15,c15,rfl,-,-,hr5⟩:=hs5;have HR15:=hid hr5;have HW15:=hid (ZT HW14.out hb);have HW815:=hid (ZT HW814.out hb);clear hr5 hl5 hb)
    |(go_at_call 17;(with_reducible refine(ZdD r8 (effL L m) _ _ _ _ HLR8.out _ (HR8.out.kept HW815.out) HR15.out HK8.out).mono ?_);rintro e w16 ⟨rfl,hb⟩;have HW16:=hid (ZT HW15.out hb);clear hb)
    |fail)
   go_ret
   exact⟨rfl,ZT HW3.out HW16.out⟩
 · have hne:(x.kind != 2)=true:=by simpa using hk
   have HSM:Hid (ss.map Dl.kn=fs.map Dl.kn):=by show _=_;rw[HK6b.out,HK7.out,HLE.out];exact law_next HOR.out HMX.out hk
   clear hk
   go_wp2_with (first|(go_at_call 12;refine(same_any ss fs _ _ _ _ (by have:=HDL6b.out;omega) _ (HD6.out.kept HW67.out) HD7.out).mono ?_;rintro e w8 ⟨rfl,hb⟩;have HW8:=hid (ZT HW7.out hb);rw[decide_eq_true HSM.out];clear hb)|fail)
   go_ret
   exact⟨rfl,ZT HW3.out HW8.out⟩
open Go.Joins Go.Deep
set_option maxRecDepth 100000 in
open Go.ChangeMaps (open_string)
theorem ZeI (os:Os)(started:os.Started)(H:Type)(enc:TypeId × Value->H) :
 ReturnsInHanded {} Tryz.checked os 5 .any (Rows.deltaNextSpec.pre6 enc prog Tryz.f5 Rows.deltaNextRow.domain false) (Rows.deltaNextSpec.post enc prog Tryz.f5 false true false false):=by
 refine returnsInHanded_of_change_sized (C:=Tryz.checked) own started (by kernel_rfl) func5
  (ChangeSpec.witness6 (enc:=enc) (C:=Tryz.checked) false ⟨#[],#[.slice none 0 0,.agg #[.int .i64 0,.int .i64 0,.int .i64 0,.string ⟨#[]⟩,.int .i64 0,.int .i64 0,.int .i64 0,.string ⟨#[]⟩,.string ⟨#[]⟩,.int .i64 0,.slice none 0 0,.int .i64 0,.string ⟨#[]⟩,.string ⟨#[]⟩,.string ⟨#[]⟩,.int .i64 0,.int .i64 0,.string ⟨#[]⟩,.string ⟨#[]⟩,.slice none 0 0,.int .i64 0,.string ⟨#[]⟩,.string ⟨#[]⟩,.int .i64 0,.slice none 0 0,.string ⟨#[]⟩,.int .i64 0,.string ⟨#[]⟩,.string ⟨#[]⟩,.string ⟨#[]⟩,.int .i64 0,.int .i64 0,.string ⟨#[]⟩,.slice none 0 0,.int .i64 0,.int .i64 0,.int .i64 0,.slice none 0 0,.int .i64 0,.string ⟨#[]⟩],.int .i64 0],[]⟩ 8 (by kernel_rfl) (by kernel_rfl) (by kernel_rfl) (by kernel_rfl)) ?_
 intro W base args ds gs before hval0 hW hcnd hsz0 _
 have hval:∀ (j:Nat) t v,Tryz.f5.params[j]?=some t->args[j]?=some v->Value.okWide prog W .any base t v:=hval0
 have hsz:(DataW.weightsEach prog (Tryz.f5.params.toList++Rows.deltaNextSpec.plain.varTypes prog) (ds++gs)).all (·<=reachBytes)=true:=hsz0
 have hW':=hW
 obtain⟨p,q,hA0,hV,rfl,hfz,hnd⟩:=hW
 have hA:DataW.TrodAll enc prog W 0 (fun _=>true) true Tryz.f5.params.toList args.toList ds p:=hA0
 have hA1:=hA
 rw[Tryz.params5]at hA hval hsz
 obtain⟨v0,vs0,d0,ds0,p0,q0,hargs,rfl,rfl,h0,r0⟩:=trodAll_cons hA
 obtain⟨v1,vs1,d1,ds1,p1,q1,rfl,rfl,rfl,h1,r1⟩:=trodAll_cons r0
 obtain⟨v2,vs2,d2,ds2,p2,q2,rfl,rfl,rfl,h2,r2⟩:=trodAll_cons r1
 obtain⟨rfl,rfl,rfl⟩:=trodAll_nil r2
 obtain rfl:args=#[v0,v1,v2]:=by cases args;simp_all
 obtain⟨rfl,rfl⟩:=trodVars_none hV
 have hmem:=fun(j:Nat) (t:TypeId) (d:DataW H) (h1:_) (h2:_) (m:Nat) (hm:m∈d.weights prog t)=>of_decide_eq_true (List.all_eq_true.1 hsz m (DataW.weights_mem_each (j:=j) (t:=t) (d:=d) h1 h2 m hm))
 obtain⟨ao0,cap0,l0,rfl,hb0,hl0,hs0,hn0,hp0⟩:=open_ensB (hval 0 22 v0 rfl rfl) h0 (hmem 0 22 d0 rfl rfl)
 obtain⟨x1,rfl,hs1⟩:=open_enV (hval 1 48 v1 rfl rfl) h1 (hmem 1 48 d1 rfl rfl)
 obtain⟨a2,rfl,rfl,rfl,w2⟩:=open_int underlying3 (hval 2 3 v2 rfl rfl) h2
 clear hA0 hval0 hmem
 simp only[List.append_nil]at hW'
 refine(lnext_any l0 ao0 cap0 x1 a2 (by omega) hp0 W hl0 hs0 hs1).mono fun e W' ⟨he,hg⟩=>?_
 subst he
 refine⟨_,rfl,post_kept (pa:=(p0++(p1++(([]:List MemPlace)++([]:List MemPlace))))) (pv:=[]) hW' (fun _ _ _=>(trodAll_cons_mk (shut_bool underlying4 _) trodAll_mk0)) ?_ rfl (by simp) hg⟩
 exact ZcZ laidOut hg (by kernel_rfl) hA1 (fun x hx=>hW'.lt x (by simpa using hx))
theorem deltaNext_over:Rows.deltaNextRow.holds Tryz.pinned (OpenSpec.ofChange Rows.deltaNextSpec) :=
 OpenClaim.holds_of_wide 5 Tryz.f5 rfl rfl rfl rfl rfl rfl rfl ⟨rfl,rfl,rfl,rfl,rfl⟩ rfl rfl rfl rfl rfl (by kernel_rfl) func5 (by kernel_rfl)
  (of_decide_eq_true (by kernel_rfl)) (by unfold Func.isWrapper;first|(rw[if_pos (by decide +kernel)];kernel_rfl)|(rw[if_neg (by decide +kernel)];exact⟨rfl,rfl⟩))
  (fun os started H enc _=>ZeI os started H enc)
theorem deltaNext_holds:Rows.DeltaNextSaid:=deltaNext_over
#print axioms deltaNext_holds
end Go.Proofs.YtfnpfkgmacaboaaGreat
