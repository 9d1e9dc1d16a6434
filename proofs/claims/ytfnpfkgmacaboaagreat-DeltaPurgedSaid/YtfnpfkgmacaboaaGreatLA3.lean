/-
  asoflaw20.DeltaPurged, walked.
-/
import Derived.Test.YtfnpfkgmacaboaaGreatKZ
import Derived.Test.YtfnpfkgmacaboaaGreatM38
import Derived.Test.YtfnpfkgmacaboaaGreatM47
import Derived.Test.YtfnpfkgmacaboaaGreatM42
import Derived.Test.YtfnpfkgmacaboaaGreatM37
namespace Go.Proofs.YtfnpfkgmacaboaaGreat
open Go.ChangeShapes Go.WideShapes Go.ChangeAt Go.RowKit
set_option linter.unusedVariables false
set_option linter.unusedSimpArgs false
set_option maxRecDepth 100000
set_option maxHeartbeats 4000000
open Go.Maps
theorem keepR_keys {g:FID->Bool}{a b:List Rw}(h:a.map Rw.key=b.map Rw.key):(keepR g a).map Rw.key=(keepR g b).map Rw.key:=by
 have key:∀ l:List Rw,(keepR g l).map Rw.key=(l.map Rw.key).filter (fun k=>!g k.2.1):=fun l=>by
  unfold keepR
  rw[List.filter_map]
  rfl
 rw[key,key,h]
theorem keepR_snoc (g:FID->Bool)(l:List Rw)(x:Rw):keepR g (l++[x])=keepR g l++(if g (x.src,x.seq)=true then []else [x]):=by
 unfold keepR
 rw[List.filter_append]
 congr 1
 by_cases h:g (x.src,x.seq)=true<;>simp[h]
theorem keepR_len (g:FID->Bool)(l:List Rw):(keepR g l).length<=l.length:=List.length_filter_le _ _
theorem purgeD_len (l:List Dl)(ids:List FID):(ZbR l ids).length<=l.length:=List.length_filter_le _ _
theorem from_len3 {l:List En}(h5:l.length<=60)(hb:∀ y∈l,OkF y.base)(hs:∀ y∈l,y.kind=1->1<=y.seq){ds:List Dl}(hd:ds.map Dl.kn=consK (fromK l)):ds.length<=7200:=by
 have h1:ds.length=(ds.map Dl.kn).length:=by simp
 rw[hd]at h1
 have h2:=Zfy (fromK l)
 have h3:=(frS_len (ZeR hb hs) l.length).1
 have h4:(fromK l).length=(frS l l.length).1.length:=by simp[fromK,fromL]
 have h6:l.length*(2*l.length)<=60*(2*60):=Nat.mul_le_mul h5 (by omega)
 omega
theorem LogOk.kept {l:List En}{w w':World}(h:LogOk l w)(hb:Below w.heap.size w w'):LogOk l w':=⟨h.1,fun e he=>(h.2.1 e he).kept hb,h.2.2⟩
set_option maxHeartbeats 8000000 in
theorem lpurged_any (l:List En)(ao:Option Addr)(c:Nat)(ids:List FID)(a1:Option Addr)(c1:Nat)(t:Int)(hl:l.length<=140737488355328)(hi:ids.length<=140737488355328)(w:World)(h:Zaf En.cells 40 w ao l)(hs:∀ e∈l,e.Seen w)(hf:Zaf fidC 2 w a1 ids) :
 Calls Tryz.prog 7 #[.slice ao l.length c,.slice a1 ids.length c1,.int .i64 t] w fun e w'=>e=.returned (.bool true)/\Below w.heap.size w w':=by
 have H1:=Lib.hid h
 have HS:=Lib.hid hs
 have HL:=Lib.hid hl
 have HI:=Lib.hid hi
 have HF:=Lib.hid hf
 clear h hs hl hi hf
 go_enter Tryz.func7,Tryz.ntmps7
 go_upto_region 5 with(first|(go_at_call 9;refine(Zfu _).mono ?_;rintro e w1 ⟨rfl,hb⟩;have HW1:Hid (Below w.heap.size w w1):=hb;clear hb)|(go_at_call 10;refine(lvalid_any l _ _ HL.out _ (H1.out.kept HW1.out) (fun e he=>(HS.out e he).kept HW1.out)).mono ?_;rintro e w2 ⟨b,rfl,hq,hb⟩;have HQ:=Lib.hid hq;have HW12:=Lib.hid hb;have HW2:Hid (Below w.heap.size w w2):=ZT HW1.out hb;clear hq hb;cases b)|fail)
 all_goals first
  |(go_ret;exact⟨rfl,HW2.out⟩)
  |skip
 have HOK:Hid (LogOk l w2):=(HQ.out (by first|rfl|trivial)).kept HW12.out
 have HEN:Hid (EnsAt w2 ao l):=HOK.out.ens (H1.out.kept HW2.out) (fun e he=>(HS.out e he).kept HW2.out)
 have HL1:Hid (l.length<=60):=HOK.out.1
 have HI1:Hid (ids.length<=60):=by show _<=_;omega
 have HBA:Hid (∀ y∈l,OkF y.base):=HEN.out.bases
 have HOR:Hid (Order l):=HOK.out.order
 go_upto_region 6 with(first|(go_at_call 13;refine(Zdq l _ _ (by have:=HL1.out;omega) _ HEN.out).mono ?_;rintro e w3 ⟨v,ds,rfl,hsl,hk,hb⟩;obtain⟨a3,c3,rfl,-,-,hd⟩:=hsl;have HDS:=Lib.hid hd;have HDK:Hid (ds.map Dl.kn=consK (fromK l)):=hk;have HDL:Hid (ds.length<=7200):=from_len3 HL1.out HBA.out HOK.out.seqs hk;have HW3:=Lib.hid (ZT HW2.out hb);have HW23:=Lib.hid hb;clear hd hk hb)|fail)
 go_upto_region 8 with(first
  |(go_at_call 28;refine(purge_any l _ _ (by have:=HL1.out;omega) _ (HEN.out.kept HW23.out)).mono ?_;rintro e w4 ⟨a4,c4,rfl,-,hp,hb⟩;have HP4:=Lib.hid hp;have HW34:=Lib.hid hb;have HW4:=Lib.hid (ZT HW3.out hb);clear hp hb)
  |(go_at_call 13;refine(Zdq (Zdx l) _ _ (by rw[purgeL_len];have:=HL1.out;omega) _ HP4.out).mono ?_;rintro e w5 ⟨v,fs,rfl,hsl,hk,hb⟩;obtain⟨a5,c5,rfl,-,-,hd⟩:=hsl;have HD5:=Lib.hid hd;have HK5:Hid (fs.map Dl.kn=consK (fromK (Zdx l))):=hk;have HW35:=Lib.hid (ZT HW34.out hb);have HW5:=Lib.hid (ZT HW4.out hb);have HSA:Hid (fs.map Dl.kn=ds.map Dl.kn):=(by(show _=_;rw[HK5.out,HDK.out];exact law_purged HOR.out));have HFL:Hid (fs.length<=7200):=(by(have h1:=congrArg List.length HSA.out;simp at h1;have h2:=HDL.out;show _<=_;omega));clear hd hk hb)
  |(go_at_call 12;(with_reducible refine(same_any fs ds _ _ _ _ (by have:=HFL.out;omega) _ HD5.out (HDS.out.kept HW35.out)).mono ?_);rintro e w6 ⟨rfl,hb⟩;rw[decide_eq_true HSA.out];have HW36:=Lib.hid (ZT HW35.out hb);have HW6:=Lib.hid (ZT HW5.out hb);clear hb)
  |(go_at_call 22;refine(ids_any l _ _ (by have:=HL1.out;omega) _ (HEN.out.kept (ZT HW23.out HW36.out))).mono ?_;rintro e w7 ⟨v,gone,rfl,hsl,hmem,hlen,hb⟩;obtain⟨a7,c7,rfl,hi⟩:=hsl;have HI7:=Lib.hid hi;have HME:=Lib.hid hmem;have HLG:=Lib.hid hlen;have HW37:=Lib.hid (ZT HW36.out hb);have HW7:=Lib.hid (ZT HW6.out hb);clear hi hmem hlen hb)
  |(go_at_call 21;refine(fpurge_any ds _ _ (by have:=HDL.out;omega) gone _ _ (by have h1:=HLG.out;have h2:=HL1.out;omega) _ (HDS.out.kept HW37.out) HI7.out).mono ?_;rintro e w8 ⟨v,rfl,hown,hb⟩;obtain⟨a8,c8,rfl,-,-,hd⟩:=hown.lies;have HD8:=Lib.hid hd;have HW38:=Lib.hid (ZT HW37.out hb);have HW8:=Lib.hid (ZT HW7.out hb);have HSB:Hid ((ZbR ds gone).map Dl.kn=ds.map Dl.kn):=(by(show _=_;rw[purgeD_kn,HME.out,HDK.out];exact law_none HOR.out HBA.out));have HPL:Hid ((ZbR ds gone).length<=7200):=Nat.le_trans (purgeD_len _ _) HDL.out;clear hown hd hb)
  |(go_at_call 12;(with_reducible refine(same_any (ZbR ds gone) ds _ _ _ _ (by have:=HPL.out;omega) _ HD8.out (HDS.out.kept HW38.out)).mono ?_);rintro e w9 ⟨rfl,hb⟩;rw[decide_eq_true HSB.out];have HW39:=Lib.hid (ZT HW38.out hb);have HW9:=Lib.hid (ZT HW8.out hb);clear hb)
  |fail)
 clear HD5 HK5 HSA HFL HP4 HI7 HME HLG HD8 HSB HPL HW34 HW35 HW36 HW37 HW38 HW4 HW5 HW6 HW7 HW8
 go_upto_region 10 with(first|(go_at_call 18;refine(fat_any ds _ _ (by have:=HDL.out;omega) t _ (HDS.out.kept HW39.out)).mono ?_;rintro e w10 ⟨v,rs,rfl,hown,hlen,hat,hb⟩;obtain⟨a10,c10,rfl,-,-,hr⟩:=hown.lies;have HR10:=Lib.hid hr;have HLR:=Lib.hid hlen;have HRK:Hid (rs.map Rw.key=(effL l t).map Rw.key):=Zd9 HOR.out HBA.out (by rw[HDK.out]at hat;exact hat);have HW310:=Lib.hid (ZT HW39.out hb);have HW10:=Lib.hid (ZT HW9.out hb);clear hown hr hat hlen hb)|fail)
 go_wp2_with fail
 go_loopw [8,10] (fun v j wr=>∃ (i:Nat) (v0:Value),v0=v/\i<=rs.length/\j=.int .i64 i/\Hid (Own Rw.cells 8 68 wr w10.heap.size v (keepR (memF ids) (rs.take i)))/\Hid (Below w10.heap.size w10 wr)) (fun _ j _=>rs.length - (intOf j).toNat)
 case atStart=>exact⟨0,_,rfl,by omega,rfl,Own.nil _ _,Below.refl _ _⟩
 case round =>
  obtain⟨i,v0,rfl,hi,rfl,HOw,HB⟩:=hrel
  have hrl:rs.length<=7200:=Nat.le_trans HLR.out HDL.out
  by_cases hlt:i<rs.length
  · obtain⟨x,hx⟩:∃ x,rs[i]?=some x:=⟨rs[i],List.getElem?_eq_getElem _⟩
    obtain⟨b,off,rfl,hrow⟩:=ZaT (HR10.out.1.kept HB.out) hx
    obtain⟨y0,y1,y2,y3,y4,y5,y6,y7⟩:=Rw.cell hrow hx
    have HF2:Hid (keepR (memF ids) (rs.take (i+1))=keepR (memF ids) (rs.take i)++(if memF ids (x.src,x.seq)=true then []else [x])):=by show _=_;rw[ZaO hx,keepR_snoc]
    have HLn:Hid ((keepR (memF ids) (rs.take i)).length<=10000):=by
     have h1:=keepR_len (memF ids) (rs.take i)
     have h2:=HLR.out
     have h3:=HDL.out
     simp at h1
     show _<=_
     omega
    generalize keepR (memF ids) (rs.take i)=r at *
    have HRW:Hid (∀ w',Below wr.heap.size wr w'->(∀ j v,(Rw.cells x)[j]?=some v->w'.cell? ⟨b,off+i*8+j,none⟩=some v)):=fun w' hb j v hj=>Zaa (hrow i x hx j v hj) hb
    clear hrow hx
    go_upto_region 14 with(first|(go_at_call 29;refine(inids_any ids _ _ (by have:=HI1.out;omega) (x.src,x.seq) _ (HF.out.kept (ZT HW10.out HB.out))).mono ?_;rintro e w11 ⟨rfl,hb⟩;have HB11:=Lib.hid hb;clear hb;cases hm:memF ids (x.src,x.seq))|fail)
    · rw[hm,if_neg (by simp)]at HF2
      have HO11:Hid (Own Rw.cells 8 68 w11 w10.heap.size v0 r):=HOw.out.kept HB11.out
      have HB10:Hid (Below w10.heap.size w10 w11):=ZT HB.out HB11.out
      have HRC:=HRW.out w11 HB11.out
      have HLa:Hid (r.length+[x].length<=1000000000):=by show _<=_;have:=HLn.out;simp;omega
      go_wp2_with (first
       |((with_reducible refine Zaq 68 ?_);refine Zas rfl 68 _ rfl b (off+i*8) (Rw.cells x) rfl HRC _ Tryz.underlying68 rfl (by kernel_rfl) ?_;intro v hv;obtain rfl:=hv.out)
       |(refine wpList_plain rfl fun K hK=>?_;refine op_litQ elR encR (by decide) _ rfl x rfl ?_;intro g4 u4 hl hg4 hg4s hb;have HN4:=Lib.hid hl;have HB4:=Lib.hid hb;refine hK _ _ ?_;clear hK K hl hb)
       |(at_builtin;refine Zay elR encR rfl (.tmp 55) (.tmp 60) rfl rfl rfl (HO11.out.kept HB4.out) (Or.inr ⟨g4,0,rfl,HN4.out⟩) rfl (fun e=>by cases e) (ZT HB10.out HB4.out).size HLa.out ?_;intro v5 w5 ho hb;have HO5:=Lib.hid ho;have HX5:=Lib.hid ((ZT HB10.out HB4.out).trans hb);clear ho hb)
       |fail)
      go_roundw
      case rel=>exact⟨i+1,_,rfl,by omega,by go_num,by rw[HF2.out];exact HO5.out,HX5.out⟩
      case measure=>simp[intOf];omega
    · rw[hm,if_pos rfl,List.append_nil]at HF2
      have HO11:Hid (Own Rw.cells 8 68 w11 w10.heap.size v0 r):=HOw.out.kept HB11.out
      have HB10:Hid (Below w10.heap.size w10 w11):=ZT HB.out HB11.out
      go_wp2_with fail
      go_roundw
      case rel=>exact⟨i+1,_,rfl,by omega,by go_num,by rw[HF2.out];exact HO11.out,HB10.out⟩
      case measure=>simp[intOf];omega
  · obtain rfl:i=rs.length:=by omega
    rw[List.take_length]at HOw
    obtain⟨aw,cw,rfl,-,-,hw⟩:=HOw.out.lies encR
    have HWN:Hid (Zbs wr aw (keepR (memF ids) rs)):=⟨hw,fun r hr=>(HR10.out.2 r (List.mem_filter.1 hr).1).kept HB.out⟩
    clear hw HOw
    have HW3r:Hid (Below w3.heap.size w3 wr):=ZT HW310.out HB.out
    have HWr:Hid (Below w.heap.size w wr):=ZT HW10.out HB.out
    go_wp2_with (first
     |(go_at_call 21;refine(fpurge_any ds _ _ (by have:=HDL.out;omega) ids _ _ (by have h1:=HI1.out;omega) _ (HDS.out.kept HW3r.out) (HF.out.kept HWr.out)).mono ?_;rintro e w11 ⟨v,rfl,hown,hb⟩;obtain⟨a11,c11,rfl,-,-,hd⟩:=hown.lies;have HD11:=Lib.hid hd;have HB11:=Lib.hid hb;clear hown hd hb)
     |(go_at_call 18;refine(fat_any (ZbR ds ids) _ _ (by have:=HDL.out;have:=purgeD_len ds ids;omega) t _ HD11.out).mono ?_;rintro e w12 ⟨v,qs,rfl,hown,hlen,hat,hb⟩;obtain⟨a12,c12,rfl,-,-,hr⟩:=hown.lies;have HR12:=Lib.hid hr;have HLQ:Hid (qs.length<=7200):=(by(have h1:=HDL.out;have h2:=purgeD_len ds ids;show _<=_;omega));have HQK:Hid (qs.map Rw.key=(keepR (memF ids) rs).map Rw.key):=(by(rw[purgeD_kn,HDK.out]at hat;exact(law_cut HOR.out HBA.out ids hat).trans (keepR_keys HRK.out).symm));have HB12:=Lib.hid (ZT HB11.out hb);clear hown hr hat hlen hb)
     |(go_at_call 30;(with_reducible refine(samerows_any qs (keepR (memF ids) rs) _ _ _ _ (by have:=HLQ.out;omega) _ HR12.out (HWN.out.kept HB12.out)).mono ?_);rintro e w13 ⟨rfl,hb⟩;rw[decide_eq_true HQK.out];have HB13:=Lib.hid (ZT HB12.out hb);clear hb)
     |fail)
    go_ret
    exact⟨rfl,ZT HWr.out HB13.out⟩
end Go.Proofs.YtfnpfkgmacaboaaGreat
