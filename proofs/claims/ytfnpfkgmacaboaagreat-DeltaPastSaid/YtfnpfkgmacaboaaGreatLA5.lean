/-
  asoflaw20.DeltaPast, walked.
-/
import Derived.Test.YtfnpfkgmacaboaaGreatKP2
import Derived.Test.YtfnpfkgmacaboaaGreatM38
import Derived.Test.YtfnpfkgmacaboaaGreatM42
import Derived.Test.YtfnpfkgmacaboaaGreatM37
namespace Go.Proofs.YtfnpfkgmacaboaaGreat
open Go.ChangeShapes Go.WideShapes Go.ChangeAt Go.RowKit
set_option linter.unusedVariables false
set_option linter.unusedSimpArgs false
set_option maxRecDepth 100000
set_option maxHeartbeats 4000000
open Go.Maps
def befD (t:Int)(l:List Dl):List Dl:=l.filter (fun d=>decide (d.tick<t))
theorem befD_snoc (t:Int)(l:List Dl)(x:Dl):befD t (l++[x])=befD t l++(if x.tick<t then [x]else []):=by
 unfold befD
 rw[List.filter_append]
 congr 1
 by_cases h:x.tick<t<;>simp[h]
theorem befD_len (t:Int)(l:List Dl):(befD t l).length<=l.length:=List.length_filter_le _ _
theorem befD_kn (t:Int)(l:List Dl):(befD t l).map Dl.kn=beforeK t (l.map Dl.kn):=by
 unfold befD beforeK
 rw[List.filter_map]
 rfl
theorem LogOk.min {l:List En}{w:World}(h:LogOk l w):∀ x∈l,0<=x.tick:=fun x hx=>by
 obtain⟨T,i,-,⟨-,-,h3,-,-⟩,-⟩:=h.ent hx
 exact h3
theorem nos_cut {l:List En}(h:l.Pairwise (fun x y=>x.no<y.no)){i:Nat}{x:En}(hx:l[i]?=some x)(j:Nat)(y:En)(hy:l[j]?=some y):j<i+1↔y.no<=x.no:=by
 obtain⟨hi,rfl⟩:=List.getElem?_eq_some_iff.1 hx
 obtain⟨hj,rfl⟩:=List.getElem?_eq_some_iff.1 hy
 rw[List.pairwise_iff_getElem]at h
 refine⟨fun q=>?_,fun q=>?_⟩
 · by_cases e:j=i
   · subst e;exact Int.le_refl _
   · have:=h j i hj hi (by omega);omega
 · refine Classical.byContradiction fun e=>?_
   have:=h i j hi hj (by omega)
   omega
theorem purge_seqs {l:List En}(h:∀ x∈l,x.kind=1->1<=x.seq):∀ y∈Zdx l,y.kind=1->1<=y.seq:=by
 intro y hy
 obtain⟨x,hx,rfl⟩:=List.mem_map.1 hy
 unfold puX
 split
 · intro h;exact absurd h (by show ¬ (2:Int)=1;decide)
 · exact h x hx
theorem from_len3 {l:List En}(h5:l.length<=60)(hb:∀ y∈l,OkF y.base)(hs:∀ y∈l,y.kind=1->1<=y.seq){ds:List Dl}(hd:ds.map Dl.kn=consK (fromK l)):ds.length<=7200:=by
 have h1:ds.length=(ds.map Dl.kn).length:=by simp
 rw[hd]at h1
 have h2:=Zfy (fromK l)
 have h3:=(frS_len (ZeR hb hs) l.length).1
 have h4:(fromK l).length=(frS l l.length).1.length:=by simp[fromK,fromL]
 have h6:l.length*(2*l.length)<=60*(2*60):=Nat.mul_le_mul h5 (by omega)
 omega
theorem LogOk.kept {l:List En}{w w':World}(h:LogOk l w)(hb:Below w.heap.size w w'):LogOk l w':=⟨h.1,fun e he=>(h.2.1 e he).kept hb,h.2.2⟩
set_option maxHeartbeats 8000000 in
theorem lpast_any (l:List En)(ao:Option Addr)(c:Nat)(n:Int)(hl:l.length<=140737488355328)(w:World)(h:Zaf En.cells 40 w ao l)(hs:∀ e∈l,e.Seen w) :
 Calls Tryz.prog 8 #[.slice ao l.length c,.int .i64 n] w fun e w'=>e=.returned (.bool true)/\Below w.heap.size w w':=by
 have H1:=Lib.hid h
 have HS:=Lib.hid hs
 have HL:=Lib.hid hl
 clear h hs hl
 go_enter Tryz.func8,Tryz.ntmps8
 go_upto_region 5 with(first|(go_at_call 9;refine(Zfu _).mono ?_;rintro e w1 ⟨rfl,hb⟩;have HW1:Hid (Below w.heap.size w w1):=hb;clear hb)|(go_at_call 10;refine(lvalid_any l _ _ HL.out _ (H1.out.kept HW1.out) (fun e he=>(HS.out e he).kept HW1.out)).mono ?_;rintro e w2 ⟨b,rfl,hq,hb⟩;have HQ:=Lib.hid hq;have HW12:=Lib.hid hb;have HW2:Hid (Below w.heap.size w w2):=ZT HW1.out hb;clear hq hb;cases b)|fail)
 all_goals first
  |(go_ret;exact⟨rfl,HW2.out⟩)
  |skip
 obtain⟨i,rfl⟩:∃ i:Nat,n=(i:Int):=⟨n.toNat,by omega⟩
 have hi:i<l.length:=by omega
 have HOK:Hid (LogOk l w2):=(HQ.out (by first|rfl|trivial)).kept HW12.out
 have HEN:Hid (EnsAt w2 ao l):=HOK.out.ens (H1.out.kept HW2.out) (fun e he=>(HS.out e he).kept HW2.out)
 have HL1:Hid (l.length<=60):=HOK.out.1
 have HBA:Hid (∀ y∈l,OkF y.base):=HEN.out.bases
 have HOR:Hid (Order l):=HOK.out.order
 obtain⟨x,hx⟩:∃ x,l[i]?=some x:=⟨l[i],List.getElem?_eq_getElem hi⟩
 have HX:=Lib.hid hx
 have HTK:Hid (0<=x.tick/\x.tick<=1099511627776):=⟨HOK.out.min x (List.mem_of_getElem? hx),HOK.out.max x (List.mem_of_getElem? hx)⟩
 have HNO:=Lib.hid (nos_cut HOK.out.nos hx)
 obtain⟨b,off,rfl,hrow⟩:=ZaT HEN.out.1 hx
 have k0:w2.cell? ⟨b,off+i*40,none⟩=some (.int .i64 x.no):=hrow i x hx 0 _ rfl
 have k1:w2.cell? ⟨b,off+i*40+1,none⟩=some (.int .i64 x.tick):=hrow i x hx 1 _ rfl
 clear hrow hx
 go_upto_region 8 with(first
  |(go_at_call 31;refine(upto_any l _ _ (i+1) x.no (by have:=HL1.out;omega) (by omega) HNO.out _ HEN.out).mono ?_;rintro e w3 ⟨a3,c3,m,hm,rfl,he,hb⟩;have HM:=Lib.hid hm;have HE3:=Lib.hid he;have HW23:=Lib.hid hb;clear hm he hb)
  |(go_at_call 13;(with_reducible refine(Zdq m _ _ (by have h1:=HL1.out;have h2:=congrArg List.length HM.out;simp[purgeL_len]at h2;omega) _ HE3.out).mono ?_);rintro e w4 ⟨v,es,rfl,hsl,hk,hb⟩;obtain⟨a4,c4,rfl,-,-,hd⟩:=hsl;have HD4:=Lib.hid hd;have HK4:Hid (es.map Dl.kn=consK (fromK m)):=hk;have HW24:=Lib.hid (ZT HW23.out hb);have HDL4:Hid (es.length<=7200):=from_len3 (by have h1:=HL1.out;have h2:=congrArg List.length HM.out;simp[purgeL_len]at h2;omega) (fun y hy=>purge_okF HBA.out y (List.mem_of_mem_take (HM.out ▸ hy))) (fun y hy=>purge_seqs HOK.out.seqs y (List.mem_of_mem_take (HM.out ▸ hy))) hk;clear hd hk hb)
  |(go_at_call 13;refine(Zdq l _ _ (by have:=HL1.out;omega) _ (HEN.out.kept HW24.out)).mono ?_;rintro e w5 ⟨v,ds,rfl,hsl,hk,hb⟩;obtain⟨a5,c5,rfl,-,-,hd⟩:=hsl;have HD5:=Lib.hid hd;have HK5:Hid (ds.map Dl.kn=consK (fromK l)):=hk;have HD45:=Lib.hid (HD4.out.kept hb);have HW25:=Lib.hid (ZT HW24.out hb);have HDL5:Hid (ds.length<=7200):=from_len3 HL1.out HBA.out HOK.out.seqs hk;clear hd hk hb)
  |fail)
 have HWW5:Hid (Below w.heap.size w w5):=ZT HW2.out HW25.out
 clear k0 k1 HD4 HE3 HW23 HW24 HW25
 obtain⟨tk,htk⟩:∃ t,x.tick=t:=⟨_,rfl⟩
 have HTT:=Lib.hid htk
 rw[htk]
 rw[htk]at HTK
 clear htk
 go_wp2_with fail
 go_loopw [8,10] (fun v j wr=>∃ (i:Nat) (v0:Value),v0=v/\i<=es.length/\j=.int .i64 i/\Hid (Own Dl.cells 10 70 wr w5.heap.size v (befD tk (es.take i)))/\Hid (Below w5.heap.size w5 wr)) (fun _ j _=>es.length - (intOf j).toNat)
 case atStart=>exact⟨0,_,rfl,by omega,rfl,Own.nil _ _,Below.refl _ _⟩
 case round =>
  obtain⟨q,v0,rfl,hq,rfl,HOw,HB⟩:=hrel
  rename World=>wr
  have hel:=HDL4.out
  by_cases hlt:q<es.length
  · obtain⟨x,hx⟩:∃ x,es[q]?=some x:=⟨es[q],List.getElem?_eq_getElem hlt⟩
    obtain⟨b,off,rfl,hrow⟩:=ZaT (HD45.out.1.kept HB.out) hx
    have k1:wr.cell? ⟨b,off+q*10+8,none⟩=some (.int .i64 x.tick):=hrow q x hx 8 _ rfl
    have HF2:Hid (befD tk (es.take (q+1))=befD tk (es.take q)++(if x.tick<tk then [x]else [])):=by show _=_;rw[ZaO hx,befD_snoc]
    have HLn:Hid ((befD tk (es.take q)).length<=10000):=by
     have h1:=befD_len tk (es.take q)
     have h2:=HDL4.out
     simp at h1
     show _<=_
     omega
    have HRC:Hid (∀ j v,(Dl.cells x)[j]?=some v->wr.cell? ⟨b,off+q*10+j,none⟩=some v):=fun j v hj=>hrow q x hx j v hj
    generalize befD tk (es.take q)=r at *
    clear hrow hx
    by_cases ht:x.tick<tk
    · rw[if_pos ht]at HF2
      have HLa:Hid (r.length+[x].length<=1000000000):=by show _<=_;have:=HLn.out;simp;omega
      go_wp2_with (first
       |((with_reducible refine Zaq 70 ?_);refine Zas rfl 70 _ rfl b (off+q*10) (Dl.cells x) rfl HRC.out _ Tryz.underlying70 rfl (by kernel_rfl) ?_;intro v hv;obtain rfl:=hv.out)
       |(refine wpList_plain rfl fun K hK=>?_;refine op_litQ elD encD (by decide) _ rfl x rfl ?_;intro g4 u4 hl hg4 hg4s hb;have HN4:=Lib.hid hl;have HB4:=Lib.hid hb;refine hK _ _ ?_;clear hK K hl hb)
       |(at_builtin;refine Zay elD encD rfl (.tmp 55) (.tmp 60) rfl rfl rfl (HOw.out.kept HB4.out) (Or.inr ⟨g4,0,rfl,HN4.out⟩) rfl (fun e=>by cases e) (ZT HB.out HB4.out).size HLa.out ?_;intro v5 w7 ho hb;have HO5:=Lib.hid ho;have HX5:=Lib.hid ((ZT HB.out HB4.out).trans hb);clear ho hb)
       |fail)
      go_roundw
      case rel=>exact⟨q+1,_,rfl,by omega,by go_num,by rw[HF2.out];exact HO5.out,HX5.out⟩
      case measure=>simp[intOf];omega
    · rw[if_neg ht,List.append_nil]at HF2
      go_wp2_with fail
      go_roundw
      case rel=>exact⟨q+1,_,rfl,by omega,by go_num,by rw[HF2.out];exact HOw.out,HB.out⟩
      case measure=>simp[intOf];omega
  · obtain rfl:q=es.length:=by omega
    rw[List.take_length]at HOw
    obtain⟨aw,cw,rfl,-,-,hw⟩:=HOw.out.lies encD
    have HA6:Hid (DlsAt wr aw (befD tk es)):=⟨hw,fun r hr=>(HD45.out.2 r (List.mem_filter.1 hr).1).kept HB.out⟩
    have HD46:=Lib.hid (HD45.out.kept HB.out)
    have HD56:=Lib.hid (HD5.out.kept HB.out)
    have HWW6:Hid (Below w.heap.size w wr):=ZT HWW5.out HB.out
    clear hw HOw HB HD45 HD5 HWW5
    rename World=>w6
    go_wp2_with fail
    go_loopw [9,11] (fun v j wr=>∃ (i:Nat) (v0:Value),v0=v/\i<=ds.length/\j=.int .i64 i/\Hid (Own Dl.cells 10 70 wr w6.heap.size v (befD tk (ds.take i)))/\Hid (Below w6.heap.size w6 wr)) (fun _ j _=>ds.length - (intOf j).toNat)
    case atStart=>exact⟨0,_,rfl,by omega,rfl,Own.nil _ _,Below.refl _ _⟩
    case round =>
     obtain⟨q,v0,rfl,hq,rfl,HOw,HB⟩:=hrel
     rename World=>wr
     have hel:=HDL5.out
     by_cases hlt:q<ds.length
     · obtain⟨x,hx⟩:∃ x,ds[q]?=some x:=⟨ds[q],List.getElem?_eq_getElem hlt⟩
       obtain⟨b,off,rfl,hrow⟩:=ZaT (HD56.out.1.kept HB.out) hx
       have k1:wr.cell? ⟨b,off+q*10+8,none⟩=some (.int .i64 x.tick):=hrow q x hx 8 _ rfl
       have HF2:Hid (befD tk (ds.take (q+1))=befD tk (ds.take q)++(if x.tick<tk then [x]else [])):=by show _=_;rw[ZaO hx,befD_snoc]
       have HLn:Hid ((befD tk (ds.take q)).length<=10000):=by
        have h1:=befD_len tk (ds.take q)
        have h2:=HDL5.out
        simp at h1
        show _<=_
        omega
       have HRC:Hid (∀ j v,(Dl.cells x)[j]?=some v->wr.cell? ⟨b,off+q*10+j,none⟩=some v):=fun j v hj=>hrow q x hx j v hj
       generalize befD tk (ds.take q)=r at *
       clear hrow hx
       by_cases ht:x.tick<tk
       · rw[if_pos ht]at HF2
         have HLa:Hid (r.length+[x].length<=1000000000):=by show _<=_;have:=HLn.out;simp;omega
         go_wp2_with (first
          |((with_reducible refine Zaq 70 ?_);refine Zas rfl 70 _ rfl b (off+q*10) (Dl.cells x) rfl HRC.out _ Tryz.underlying70 rfl (by kernel_rfl) ?_;intro v hv;obtain rfl:=hv.out)
          |(refine wpList_plain rfl fun K hK=>?_;refine op_litQ elD encD (by decide) _ rfl x rfl ?_;intro g4 u4 hl hg4 hg4s hb;have HN4:=Lib.hid hl;have HB4:=Lib.hid hb;refine hK _ _ ?_;clear hK K hl hb)
          |(at_builtin;refine Zay elD encD rfl (.tmp 75) (.tmp 80) rfl rfl rfl (HOw.out.kept HB4.out) (Or.inr ⟨g4,0,rfl,HN4.out⟩) rfl (fun e=>by cases e) (ZT HB.out HB4.out).size HLa.out ?_;intro v5 w7 ho hb;have HO5:=Lib.hid ho;have HX5:=Lib.hid ((ZT HB.out HB4.out).trans hb);clear ho hb)
          |fail)
         go_roundw
         case rel=>exact⟨q+1,_,rfl,by omega,by go_num,by rw[HF2.out];exact HO5.out,HX5.out⟩
         case measure=>simp[intOf];omega
       · rw[if_neg ht,List.append_nil]at HF2
         go_wp2_with fail
         go_roundw
         case rel=>exact⟨q+1,_,rfl,by omega,by go_num,by rw[HF2.out];exact HOw.out,HB.out⟩
         case measure=>simp[intOf];omega
     · obtain rfl:q=ds.length:=by omega
       rw[List.take_length]at HOw
       obtain⟨ax,cx,rfl,-,-,hx⟩:=HOw.out.lies encD
       have HA7:Hid (DlsAt wr ax (befD tk ds)):=⟨hx,fun r hr=>(HD56.out.2 r (List.mem_filter.1 hr).1).kept HB.out⟩
       have HEQ:Hid ((befD tk es).map Dl.kn=(befD tk ds).map Dl.kn):=by show _=_;rw[befD_kn,befD_kn,HK4.out,HK5.out,HM.out,<-HTT.out];exact law_past HOR.out HX.out
       have HBL:Hid ((befD tk es).length<=7200):=Nat.le_trans (befD_len _ _) HDL4.out
       have HWW7:Hid (Below w.heap.size w wr):=ZT HWW6.out HB.out
       clear hx HOw
       have hw1:IntKind.i64.wrap (tk - 1)=tk - 1:=IntWalk.i64_in _ (by have:=HTK.out;omega)
       have hw2:wrap64 (tk - 1)=tk - 1:=by rw[wrap64_is];exact hw1
       go_wp2_with (first
        |(go_at_call 12;refine(same_any (befD tk es) (befD tk ds) _ _ _ _ (by have:=HBL.out;omega) _ (HA6.out.kept HB.out) HA7.out).mono ?_;rintro e w8 ⟨rfl,hb⟩;rw[decide_eq_true HEQ.out];have HB8:=Lib.hid (ZT HB.out hb);have HWW8:=Lib.hid (ZT HWW7.out hb);clear hb)
        |(go_at_call 18;(with_reducible refine(fat_any es _ _ (by have:=HDL4.out;omega) _ _ (HD46.out.kept HB8.out)).mono ?_);rintro e w9 ⟨v,r1,rfl,hown,hlen,hat,hb⟩;obtain⟨a9,c9,rfl,-,-,hr⟩:=hown.lies;have HR9:=Lib.hid hr;have HL9:=Lib.hid hlen;have HAT9:=Lib.hid hat;have HB9:=Lib.hid (ZT HB8.out hb);have HWW9:=Lib.hid (ZT HWW8.out hb);clear hown hr hat hlen hb)
        |(go_at_call 18;(with_reducible refine(fat_any ds _ _ (by have:=HDL5.out;omega) _ _ (HD56.out.kept HB9.out)).mono ?_);rintro e w10 ⟨v,r2,rfl,hown,hlen,hat,hb⟩;obtain⟨a10,c10,rfl,-,-,hr⟩:=hown.lies;have HR10:=Lib.hid hr;have HAT10:=Lib.hid hat;have HR910:=Lib.hid (HR9.out.kept hb);have HWW10:=Lib.hid (ZT HWW9.out hb);clear hown hr hat hlen hb)
        |(go_at_call 30;refine(samerows_any r1 r2 _ _ _ _ (by have h1:=HL9.out;have h2:=HDL4.out;omega) _ HR910.out HR10.out).mono ?_;rintro e w11 ⟨rfl,hb⟩;rw[decide_eq_true (show r1.map Rw.key=r2.map Rw.key by(have h1:=HAT9.out;have h2:=HAT10.out;rw[HK4.out,HM.out]at h1;rw[HK5.out]at h2;rw[Zd9 (HOR.out.purge.take _) (fun y hy=>purge_okF HBA.out y (List.mem_of_mem_take hy)) h1,Zd9 HOR.out HBA.out h2,effL_upto HOR.out HX.out (by rw[HTT.out];omega)]))];have HWW11:=Lib.hid (ZT HWW10.out hb);clear hb)
        |fail)
       go_ret
       exact⟨rfl,HWW11.out⟩
end Go.Proofs.YtfnpfkgmacaboaaGreat
