/- Texts joined by a program. -/
import Derived.Lib.ConvBytes
import Derived.Lib.SmallJoins
import Derived.Laws.IdiomStrings
import Derived.Test.YtfnpfkgmacaboaaGreatM03
namespace Go.Proofs.YtfnpfkgmacaboaaGreat
open Go.Proofs.Tryz
open Lib (hid)
open Go.ChangeShapes Go.WideShapes Go.ChangeAt Go.RowKit
set_option linter.unusedVariables false
set_option linter.unusedSimpArgs false
set_option maxRecDepth 100000
set_option maxHeartbeats 4000000
theorem Zd5 (w:World)(e:TypeId)(s:ByteArray):Below w.heap.size w (Lib.bytesWorld w e s):=Joins.below_bytesWorld _ w e s (Nat.le_refl _)
def nameB (s:ByteArray):Bool:=decide (0<s.size)&&(decide (s.size<=24)&&(decide (wordN (Za0 s) s.size=s.size)&&!isOne s kwL))
theorem bytes_is (w:World)(e:TypeId)(s:ByteArray):BytesIs (Lib.bytesWorld w e s) (some ⟨w.heap.size,0,none⟩) s.size (Za0 s):=⟨_,_,rfl,fun i hi=>by rw[Nat.zero_add];exact Lib.bytesWorld_cell w e s i hi⟩
theorem ZN {w w1:World}(h:Below w.heap.size w w1)(n:Nat):Below w.heap.size w (w1.drewN n):=Zad h n
theorem ZbJ (s:ByteArray)(w:World):Calls prog 140 #[.string s] w fun e w'=>e=.returned (.bool (nameB s))/\Below w.heap.size w w':=by
 have hcv:=Lib.run_convert_string_bytes (P:=prog) w 9 142 5 s (u:=.string) underlying9 underlying142 underlying5
 obtain⟨B,hB⟩:∃ B,B=nameB s:=⟨_,rfl⟩
 rw[<-hB]
 have HB:=hid hB
 clear hB
 go_enter func140,ntmps140
 by_cases he:s=⟨#[]⟩
 · have HQ:Hid (B=false):=by show _=_;rw[HB.out,he];rfl
   clear HB
   subst he
   go_wp2_with fail
   all_goals
    go_ret
    rw[HQ.out]
    exact⟨rfl,ZR _⟩
 · have h0:0<s.size:=by
     rcases Nat.eq_zero_or_pos s.size with h|h
     · exact absurd (Zby (by rw[ByteArray.toList_eq,ByteArray.toList_eq];exact List.eq_nil_of_length_eq_zero (by rw[Array.length_toList];exact h))) he
     · exact h
   have hem:s.toList.isEmpty=false:=by
    cases h:s.toList with
    |nil=>exact absurd (Zby (by rw[h,ByteArray.toList_eq])) he
    |cons a l=>rfl
   by_cases Ku:s.size<=24
   · have h47:s.size<=140737488355328:=by omega
     have An:Hid (B=(decide (wordN (Za0 s) s.size=s.size)&&!isOne s kwL)):=by show _=_;rw[HB.out];unfold nameB;rw[decide_eq_true h0,decide_eq_true Ku];rfl
     clear HB
     by_cases hn:wordN (Za0 s) s.size=s.size
     · have CA:Hid (∀ w1,Calls prog 161 #[.slice (some ⟨w1.heap.size,0,none⟩) s.size (grownCap w1 s.size 0 5),.int .i64 0] (Lib.bytesWorld w1 5 s) fun e w'=>e=.returned (.int .i64 (s.size:Nat))/\Below (Lib.bytesWorld w1 5 s).heap.size (Lib.bytesWorld w1 5 s) w'):=by
         intro w1
         have:=asword_is _ _ (grownCap w1 s.size 0 5) _ _ (bytes_is w1 5 s) h0 h47
         rw[hn]at this
         exact this
       have HQ:Hid (B=!isOne s kwL):=by show _=_;rw[An.out,decide_eq_true hn];rfl
       clear An hn
       cases hk:isOne s kwL
       all_goals
        have CK:Hid (∀ w,Calls prog 162 #[.string s] w fun e w'=>e=.returned (.bool (isOne s kwL))/\Below w.heap.size w w'):=fun w=>keyword_is s w
        rw[hk]at CK HQ
        clear hk
        go_wp2_with (first|(go_at_call 161;refine(CA.out _).mono ?_;rintro e w' ⟨rfl,hb⟩;have HW:Hid (Below w.heap.size w w'):=ZT (by repeat(first|exact ZR _|exact ZH (by assumption)|refine ZA ?_ _|refine ZD ?_|refine ZN ?_ _|exact Zd5 _ _ _)) hb;clear hb)|(go_at_call 162;refine(CK.out _).mono ?_;rintro e w' ⟨rfl,hb⟩;have HW:Hid (Below w.heap.size w w'):=ZT (by repeat(first|exact ZR _|exact ZH (by assumption)|refine ZA ?_ _|refine ZD ?_|refine ZN ?_ _|exact Zd5 _ _ _)) hb;clear hb)|fail)
        go_ret
        rw[HQ.out]
        exact⟨rfl,(by repeat(first|exact ZR _|exact ZH (by assumption)|refine ZA ?_ _|refine ZD ?_|refine ZN ?_ _|exact Zd5 _ _ _))⟩
     · obtain⟨N,hN⟩:∃ N,N=wordN (Za0 s) s.size:=⟨_,rfl⟩
       have CA:Hid (∀ w1,Calls prog 161 #[.slice (some ⟨w1.heap.size,0,none⟩) s.size (grownCap w1 s.size 0 5),.int .i64 0] (Lib.bytesWorld w1 5 s) fun e w'=>e=.returned (.int .i64 (N:Nat))/\Below (Lib.bytesWorld w1 5 s).heap.size (Lib.bytesWorld w1 5 s) w'):=by
        intro w1
        have:=asword_is _ _ (grownCap w1 s.size 0 5) _ _ (bytes_is w1 5 s) h0 h47
        rw[<-hN]at this
        exact this
       have hne:((N:Int)==(s.size:Int))=false:=beq_eq_false_iff_ne.2 (by omega)
       have HQ:Hid (B=false):=by show _=_;rw[An.out,decide_eq_false hn];rfl
       clear An hn hN
       go_wp2_with (first|(go_at_call 161;refine(CA.out _).mono ?_;rintro e w' ⟨rfl,hb⟩;have HW:Hid (Below w.heap.size w w'):=ZT (by repeat(first|exact ZR _|exact ZH (by assumption)|refine ZA ?_ _|refine ZD ?_|refine ZN ?_ _|exact Zd5 _ _ _)) hb;clear hb)|fail)
       go_ret
       rw[HQ.out]
       exact⟨rfl,(by repeat(first|exact ZR _|exact ZH (by assumption)|refine ZA ?_ _|refine ZD ?_|refine ZN ?_ _|exact Zd5 _ _ _))⟩
   · have HQ:Hid (B=false):=by show _=_;rw[HB.out];unfold nameB;rw[decide_eq_true h0,decide_eq_false Ku];rfl
     clear HB
     go_wp2_with fail
     all_goals
      go_ret
      rw[HQ.out]
      exact⟨rfl,ZR _⟩
def winB (k z:Int):Bool:=if k=1 then decide (z=0)else decide (1<k)&&(decide (k<=4)&&(decide (1<=z)&&decide (z<=1099511627776)))
theorem window_is (k z:Int)(w:World):Calls prog 230 #[.agg #[.int .i64 k,.int .i64 z]] w fun e w'=>e=.returned (.bool (winB k z))/\Below w.heap.size w w':=by
 by_cases h1:k=1
 · subst h1
   by_cases h2:z=0
   · subst h2
     go_enter func230,ntmps230
     go_wp2_with fail
     go_ret
     exact⟨rfl,ZA (ZR w) _⟩
   · have e2:(z==0)=false:=beq_eq_false_iff_ne.2 h2
     go_enter func230,ntmps230
     go_wp2_with fail
     go_ret
     exact⟨by simp[winB,h2],ZA (ZR w) _⟩
 · have e1:(k==1)=false:=beq_eq_false_iff_ne.2 h1
   by_cases h2:1<k<;>by_cases h3:k<=4<;>by_cases h4:1<=z<;>by_cases h5:z<=1099511627776
   all_goals first
    |(exfalso;omega)
    |(go_enter func230,ntmps230;go_wp2_with fail;go_ret;exact⟨by simp[winB,h1,h2,h3,h4,h5],ZA (ZR w) _⟩)
theorem name_any (s:ByteArray)(w:World):Calls prog 140 #[.string s] w (GotB w):=(ZbJ s w).mono fun _ _ h=>⟨_,h.1,h.2⟩
theorem key5_det (s:ByteArray)(hs:s.size<=140737488355328):∃ r:Bool,∀ (w:World),Calls prog 159 #[.string s] w (RetB r w):=by
 obtain⟨r,hr⟩:=ZdS s 33 hs
 have Hr:=hid hr
 clear hr
 obtain⟨e0,Pm⟩:∃ q,s.toList.isEmpty=q:=⟨_,rfl⟩
 obtain⟨e1,Og⟩:∃ q,decide ((s.size:Int)<=32)=q:=⟨_,rfl⟩
 obtain⟨R,hR⟩:∃ R:Bool,R=(!e0&&(e1&&r)):=⟨_,rfl⟩
 have HR:=hid hR
 clear hR
 refine⟨R,fun w=>?_⟩
 go_enter func159,ntmps159
 have Aa:Hid (Below w.heap.size w w):=ZR w
 go_wp2_with (first|(go_at_call 179;refine(Hr.out _).mono ?_;rintro e w' ⟨rfl,hb⟩;have HW:Hid (Below w.heap.size w w'):=ZT bt hb;clear hb)|fail)
 all_goals
  go_ret
  exact RetB.of (by have hR:=HR.out;simp_all) (ZT Aa.out bt)
theorem text5_det (s:ByteArray)(hs:s.size<=140737488355328):∃ r:Bool,∀ (w:World),Calls prog 198 #[.string s] w (RetB r w):=by
 obtain⟨r,hr⟩:=ZdS s 32 hs
 have Hr:=hid hr
 clear hr
 obtain⟨e1,Og⟩:∃ q,decide ((s.size:Int)<=64)=q:=⟨_,rfl⟩
 obtain⟨R,hR⟩:∃ R:Bool,R=(e1&&r):=⟨_,rfl⟩
 have HR:=hid hR
 clear hR
 refine⟨R,fun w=>?_⟩
 go_enter func198,ntmps198
 have Aa:Hid (Below w.heap.size w w):=ZR w
 go_wp2_with (first|(go_at_call 179;refine(Hr.out _).mono ?_;rintro e w' ⟨rfl,hb⟩;have HW:Hid (Below w.heap.size w w'):=ZT bt hb;clear hb)|fail)
 all_goals
  go_ret
  exact RetB.of (by have hR:=HR.out;simp_all) (ZT Aa.out bt)
def RetZ (z:Bool)(w:World)(e:Ending)(w':World):Prop:=∃ n:Int,e=.returned (.int .i64 n)/\(z=true->n=0)/\(z=false->n≠0)/\Below w.heap.size w w'
theorem RetZ.of {n:Int}{z:Bool}{w w':World}(h1:z=true->n=0)(h2:z=false->n≠0)(hb:Below w.heap.size w w'):RetZ z w (.returned (.int .i64 n)) w':=⟨n,rfl,h1,h2,hb⟩
theorem RetZ.got {z:Bool}{w w':World}{e:Ending}(h:RetZ z w e w'):GotI w e w':=let ⟨n,h1,_,_,h2⟩:=h;⟨n,h1,h2⟩
theorem vcheck_det (v_k:Int)(v_n:Int)(v_s:ByteArray)(hs:v_s.size<=140737488355328):∃ r:Bool,∀ (w:World),Calls prog 180 #[.agg #[.int .i64 v_k,.int .i64 v_n,.string v_s]] w (RetZ r w):=by
 obtain⟨r1,h1⟩:=fields_det v_k v_n v_s
 have Yv:=hid h1
 clear h1
 obtain⟨r2,h2⟩:=inRange_det v_n
 have Xv:=hid h2
 clear h2
 obtain⟨r3,h3⟩:=text5_det v_s hs
 have Pr:=hid h3
 clear h3
 obtain⟨r4,h4⟩:=key5_det v_s hs
 have Hr4:=hid h4
 clear h4
 obtain⟨e4,Vv⟩:∃ q,(v_k==4)=q:=⟨_,rfl⟩
 obtain⟨e5,Lk⟩:∃ q,(v_k==5)=q:=⟨_,rfl⟩
 obtain⟨l4,Gh⟩:∃ q,decide (64<(v_s.size:Int))=q:=⟨_,rfl⟩
 obtain⟨l5,Qe⟩:∃ q,decide (32<(v_s.size:Int))=q:=⟨_,rfl⟩
 obtain⟨R,hR⟩:∃ R:Bool,R=(r1&&(r2&&(!(e4&&l4)&&(!(e5&&l5)&&(!(e4&&!r3)&&!(e5&&!r4)))))):=⟨_,rfl⟩
 have HR:=hid hR
 clear hR
 refine⟨R,fun w=>?_⟩
 go_enter func180,ntmps180
 go_upto_region 1 with fail
 refine gen1 (fun V B0 Aa=>?_)
 have HS:=hs1 B0
 simp only[Cl,Nat.reduceAdd]at HS
 have KK:=HS.out V (ZR V)
 go_wp2_with (first|(go_at_call 196;refine(Yv.out _).mono ?_;rintro e w' ⟨rfl,hb⟩;have HW:Hid (Below V.heap.size V w'):=ZT bt hb;clear hb;have KK:=HS.out _ HW.out;try cases r1)|(go_at_call 197;refine(Xv.out _).mono ?_;rintro e w' ⟨rfl,hb⟩;have HW:Hid (Below V.heap.size V w'):=ZT bt hb;clear hb;have KK:=HS.out _ HW.out;try cases r2)|(go_at_call 198;refine(Pr.out _).mono ?_;rintro e w' ⟨rfl,hb⟩;have HW:Hid (Below V.heap.size V w'):=ZT bt hb;clear hb;have KK:=HS.out _ HW.out;try cases r3)|(go_at_call 159;refine(Hr4.out _).mono ?_;rintro e w' ⟨rfl,hb⟩;have HW:Hid (Below V.heap.size V w'):=ZT bt hb;clear hb;have KK:=HS.out _ HW.out;try cases r4)|fail)
 all_goals
  go_ret
  exact RetZ.of (by have hR:=HR.out;simp_all<;>grind) (by have hR:=HR.out;simp_all<;>grind) (ZT Aa.out bt)
theorem sameType_det (a_k:Int)(a_o:ByteArray)(b_k:Int)(b_o:ByteArray)(us vs:List FID):∃ r:Bool,∀ (a_ua:Option Addr) (a_uc:Nat) (b_ua:Option Addr) (b_uc:Nat) (w:World),UnIs w a_ua us->UnIs w b_ua vs->Calls prog 231 #[.agg #[.int .i64 a_k,.slice a_ua us.length a_uc,.string a_o],.agg #[.int .i64 b_k,.slice b_ua vs.length b_uc,.string b_o]] w (RetB r w):=by
 obtain⟨r,hr⟩:=ZdM us vs
 have Hr:=hid hr
 clear hr
 obtain⟨e1,Og⟩:∃ q,(a_k==b_k)=q:=⟨_,rfl⟩
 obtain⟨e2,Yc⟩:∃ q,(a_o.toList==b_o.toList)=q:=⟨_,rfl⟩
 obtain⟨R,hR⟩:∃ R:Bool,R=(e1&&(r&&e2)):=⟨_,rfl⟩
 have HR:=hid hR
 clear hR
 refine⟨R,fun a_ua a_uc b_ua b_uc w h0 h1=>?_⟩
 have HA:=hid h0
 have HB:=hid h1
 clear h0 h1
 go_enter func231,ntmps231
 go_upto_region 1 with fail
 refine gen2 (fun V B0 B1 Aa=>?_)
 have HS:=hs2 B0 B1
 simp only[Cl,Nat.reduceAdd]at HS
 have KK:=HS.out V (ZR V)
 have Qf:Hid (∀ w',Below V.heap.size V w'->UnIs w' a_ua us):=fun w' h=>(HA.out.kept Aa.out).kept h
 have Zg:Hid (∀ w',Below V.heap.size V w'->UnIs w' b_ua vs):=fun w' h=>(HB.out.kept Aa.out).kept h
 go_wp2_with (first|(go_at_call 205;refine(Hr.out _ _ _ _ _ (Qf.out _ bt) (Zg.out _ bt)).mono ?_;rintro e w' ⟨rfl,hb⟩;have HW:Hid (Below V.heap.size V w'):=ZT bt hb;clear hb;have KK:=HS.out _ HW.out;cases r)|fail)
 all_goals
  go_ret
  exact RetB.of (by have hR:=HR.out;simp_all) (ZT Aa.out bt)
theorem both_det (a_k:Int)(a_o:ByteArray)(b_k:Int)(b_o:ByteArray)(us vs:List FID):∃ r:Bool,∀ (a_ua:Option Addr) (a_uc:Nat) (b_ua:Option Addr) (b_uc:Nat) (w:World),UnIs w a_ua us->UnIs w b_ua vs->Calls prog 192 #[.agg #[.int .i64 a_k,.slice a_ua us.length a_uc,.string a_o],.agg #[.int .i64 b_k,.slice b_ua vs.length b_uc,.string b_o]] w (RetZ r w):=by
 obtain⟨r,hr⟩:=ZdM us vs
 have Hr:=hid hr
 clear hr
 obtain⟨e1,Og⟩:∃ q,(a_k==b_k)=q:=⟨_,rfl⟩
 obtain⟨e2,Yc⟩:∃ q,(a_o.toList==b_o.toList)=q:=⟨_,rfl⟩
 obtain⟨R,hR⟩:∃ R:Bool,R=(e1&&(e2&&r)):=⟨_,rfl⟩
 have HR:=hid hR
 clear hR
 refine⟨R,fun a_ua a_uc b_ua b_uc w h0 h1=>?_⟩
 have HA:=hid h0
 have HB:=hid h1
 clear h0 h1
 go_enter func192,ntmps192
 go_upto_region 1 with fail
 refine gen2 (fun V B0 B1 Aa=>?_)
 have HS:=hs2 B0 B1
 simp only[Cl,Nat.reduceAdd]at HS
 have KK:=HS.out V (ZR V)
 have Qf:Hid (∀ w',Below V.heap.size V w'->UnIs w' a_ua us):=fun w' h=>(HA.out.kept Aa.out).kept h
 have Zg:Hid (∀ w',Below V.heap.size V w'->UnIs w' b_ua vs):=fun w' h=>(HB.out.kept Aa.out).kept h
 go_wp2_with (first|(go_at_call 205;refine(Hr.out _ _ _ _ _ (Qf.out _ bt) (Zg.out _ bt)).mono ?_;rintro e w' ⟨rfl,hb⟩;have HW:Hid (Below V.heap.size V w'):=ZT bt hb;clear hb;have KK:=HS.out _ HW.out;cases r)|fail)
 all_goals
  go_ret
  exact RetZ.of (by have hR:=HR.out;simp_all<;>grind) (by have hR:=HR.out;simp_all<;>grind) (ZT Aa.out bt)
theorem vcheck_any (v_k:Int)(v_n:Int)(v_s:ByteArray)(w:World)(hs:v_s.size<=140737488355328):Calls prog 180 #[.agg #[.int .i64 v_k,.int .i64 v_n,.string v_s]] w (GotI w) :=
 let ⟨_,h⟩:=vcheck_det v_k v_n v_s hs;(h w).mono fun _ _ h=>h.got
theorem valid_any (v_k:Int)(v_n:Int)(v_s:ByteArray)(w:World)(hs:v_s.size<=140737488355328):Calls prog 160 #[.agg #[.int .i64 v_k,.int .i64 v_n,.string v_s]] w (GotB w):=by
 go_enter func160,ntmps160
 go_upto_region 1 with fail
 refine gen1 (fun V B0 Aa=>?_)
 have HS:=hs1 B0
 simp only[Cl,Nat.reduceAdd]at HS
 have KK:=HS.out V (ZR V)
 go_wp2_with (first|(go_at_call 180;refine(vcheck_any _ _ _ _ hs).mono ?_;rintro e w' ⟨n,rfl,hb⟩;have HW:Hid (Below V.heap.size V w'):=ZT bt hb;clear hb;have KK:=HS.out _ HW.out)|fail)
 all_goals
  go_ret
  exact⟨_,rfl,ZT Aa.out bt⟩
theorem has_any (v_k:Int)(v_n:Int)(v_s:ByteArray)(t_k:Int)(t_ua:Option Addr)(t_un:Nat)(t_uc:Nat)(t_o:ByteArray)(w:World)(hs:v_s.size<=140737488355328):Calls prog 139 #[.agg #[.int .i64 v_k,.int .i64 v_n,.string v_s],.agg #[.int .i64 t_k,.slice t_ua t_un t_uc,.string t_o]] w (GotB w):=by
 go_enter func139,ntmps139
 go_upto_region 1 with fail
 refine gen2 (fun V B0 B1 Aa=>?_)
 have HS:=hs2 B0 B1
 simp only[Cl,Nat.reduceAdd]at HS
 have KK:=HS.out V (ZR V)
 go_wp2_with (first|(go_at_call 160;refine(valid_any _ _ _ _ hs).mono ?_;rintro e w' ⟨b,rfl,hb⟩;have HW:Hid (Below V.heap.size V w'):=ZT bt hb;clear hb;have KK:=HS.out _ HW.out;cases b)|fail)
 all_goals
  go_ret
  exact⟨_,rfl,ZT Aa.out bt⟩
theorem key15_any (s:ByteArray)(hs:s.size<=140737488355328)(w:World):Calls prog 141 #[.string s] w (GotB w):=by
 go_enter func141,ntmps141
 go_wp2_with fail
 go_loop [3] (fun v=>∃ i:Nat,i<=s.size/\v=.int .i64 i) (fun v=>s.size - (intOf v).toNat)
 case atStart=>exact⟨0,by omega,rfl⟩
 case round =>
  obtain⟨i,hi,rfl⟩:=hrel
  by_cases hlt:i<s.size
  · go_wp2_with fail
    all_goals first
     |(go_ret;exact⟨_,rfl,ZR _⟩)
     |(go_round;(case rel=>exact⟨i+1,by omega,by go_num⟩);(case measure=>simp[intOf];omega))
  · go_wp2_with fail
    all_goals
     go_ret
     exact⟨_,rfl,ZR _⟩
theorem word7_det (s:ByteArray)(hs:s.size<=140737488355328):∃ r:Bool,∀ w:World,Calls prog 209 #[.string s] w (RetB r w):=by
 obtain⟨R1,hR1⟩:=Zcs (∀ j,j<s.size->(97<=Za0 s j/\Za0 s j<=122)∨(48<=Za0 s j/\Za0 s j<=57)∨Za0 s j=95)
 obtain⟨R,hR⟩:=Zcs (1<=s.size/\s.size<=24/\97<=Za0 s 0/\Za0 s 0<=122/\R1=true)
 have Ee:=hid hR1
 have HR:=hid hR
 clear hR1 hR
 refine⟨R,fun w=>?_⟩
 go_enter func209,ntmps209
 by_cases h1:1<=s.size
 · have Lc:Hid (Za0 s 0=((s[0]'h1).toNat:Int)):=Zfl s h1
   go_wp2_with fail
   all_goals first
    |(go_ret;exact RetB.of (Zdd (fun h=>by have hq:=HR.out.1 h;have hb:=Lc.out;omega)) (ZR _))
    |skip
   all_goals
    have HF:Hid (R1=true->R=true):=fun h=>HR.out.2 ⟨h1,by omega,by have hb:=Lc.out;omega,by have hb:=Lc.out;omega,h⟩
    have HG:Hid (R=true->R1=true):=fun h=>(HR.out.1 h).2.2.2.2
    clear HR Lc
    go_loop [3] (fun v=>∃ i:Nat,i<=s.size/\v=.int .i64 i/\Hid (∀ j,j<i->(97<=Za0 s j/\Za0 s j<=122)∨(48<=Za0 s j/\Za0 s j<=57)∨Za0 s j=95)) (fun v=>s.size - (intOf v).toNat)
    case atStart=>exact⟨0,by omega,rfl,hid (fun j hj=>by omega)⟩
    case round =>
     obtain⟨i,hi,rfl,HI⟩:=hrel
     by_cases hlt:i<s.size
     · have Cm:Hid (Za0 s i=((s[i]'hlt).toNat:Int)):=Zfl s hlt
       go_wp2_with fail
       all_goals first
        |(go_ret;exact RetB.of (Zdd (fun h=>by have hq:=Ee.out.1 (HG.out h) i hlt;rw[Cm.out]at hq;simp_all<;>omega)) (ZR _))
        |(go_round;(case rel=>exact⟨i+1,by omega,by go_num,hid (Za9 HI.out (by rw[Cm.out];simp_all<;>omega))⟩);(case measure=>simp[intOf];omega))
     · go_wp2_with fail
       go_ret
       exact RetB.of (HF.out (Ee.out.2 (fun j hj=>HI.out j (by omega)))).symm (ZR _)
 · go_wp2_with fail
   all_goals
    go_ret
    exact RetB.of (Zdd (fun h=>by have hq:=HR.out.1 h;omega)) (ZR _)
def okU (wd:ByteArray->Bool)(fr:Int->Bool)(us:List FID)(j:Nat):Prop:=∀ x,us[j]?=some x->wd x.1=true/\(x.2==0)=false/\fr x.2=false/\∀ y k,j=k+1->us[k]?=some y->Op.bytesLess x.1.toList y.1.toList=false/\(x.1.toList==y.1.toList)=false
theorem okU_zero {wd:ByteArray->Bool}{fr:Int->Bool}{us:List FID}{x:FID}(hx:us[0]?=some x):okU wd fr us 0↔(wd x.1=true/\(x.2==0)=false/\fr x.2=false) :=
 ⟨fun h=>let ⟨a,b,c,_⟩:=h x hx;⟨a,b,c⟩,fun h y hy=>by rw[hx]at hy;injection hy with hy;subst hy;exact⟨h.1,h.2.1,h.2.2,fun _ _ e=>(by omega)⟩⟩
theorem okU_succ {wd:ByteArray->Bool}{fr:Int->Bool}{us:List FID}{x y:FID}{j:Nat}(hx:us[j+1]?=some x)(hy:us[j]?=some y):okU wd fr us (j+1)↔(wd x.1=true/\(x.2==0)=false/\fr x.2=false/\Op.bytesLess x.1.toList y.1.toList=false/\(x.1.toList==y.1.toList)=false) :=
 ⟨fun h=>let ⟨a,b,c,d⟩:=h x hx;⟨a,b,c,d y j rfl hy⟩,fun h z hz=>by
  rw[hx]at hz;injection hz with hz;subst hz
  refine⟨h.1,h.2.1,h.2.2.1,fun v k e hv=>?_⟩
  obtain rfl:k=j:=by omega
  rw[hy]at hv;injection hv with hv;subst hv
  exact h.2.2.2⟩
theorem Zck (us:List FID):∃ r:Bool,(r=true->us.length<=4)/\∀ (a:Option Addr) (c:Nat) (w:World),UnIs w a us->Calls prog 200 #[.slice a us.length c] w (RetZ r w):=by
 obtain⟨wd,hwd⟩:=ZbY (D:=fun s:ByteArray=>s.size<=140737488355328) (fun s hs=>word7_det s hs)
 obtain⟨fr,hfr⟩:=pick far_det
 have Ou:=hid hwd
 have Bv:=hid hfr
 clear hwd hfr
 generalize hn:us.length=n at *
 have HN:=hid hn
 clear hn
 obtain⟨R,hR⟩:=Zcs (n<=4/\∀ j,j<n->okU wd fr us j)
 have HR:=hid hR
 clear hR
 refine⟨R,fun h=>(HR.out.1 h).1,fun a c w h=>?_⟩
 obtain⟨hu,hs,h1⟩:=h
 have H:=hid h1
 have HS:=hid hs
 clear h1 hs
 rw[HN.out]at hu
 go_enter func200,ntmps200
 by_cases h4:n<=4
 · have Io:Hid (∀ j,j<n->¬ okU wd fr us j->false=R):=fun j hj hb=>Zdd (fun e=>hb ((HR.out.1 e).2 j hj))
   have Jw:Hid ((∀ j,j<n->okU wd fr us j)->R=true):=fun h=>HR.out.2 ⟨h4,h⟩
   clear HR
   go_wp2_with fail
   go_loopw [3] (fun v wr=>∃ i:Nat,i<=n/\v=.int .i64 i/\Hid (∀ j,j<i->okU wd fr us j)/\Hid (Below w.heap.size w wr)) (fun v _=>n - (intOf v).toNat)
   case atStart=>exact⟨0,by omega,rfl,hid (fun j hj=>by omega),ZR w⟩
   case round =>
    obtain⟨i,hi,rfl,HI,hB⟩:=hrel
    by_cases hlt:i<n
    · obtain⟨x,hx⟩:∃ x,us[i]?=some x:=⟨us[i]'(by have:=HN.out;omega),List.getElem?_eq_getElem _⟩
      have Qd:=hid (Io.out i hlt)
      obtain⟨b1,o1,rfl,Da⟩:=H.out.some (by have:=HN.out;omega)
      obtain⟨c0,c1⟩:=Za2 Da hx
      have hxs:=(HS.out x (List.mem_of_getElem? hx)).1
      cases i with
      |zero =>
       simp only[Nat.zero_mul,Nat.add_zero]at c0 c1
       have HC:Hid (∀ w',Below w.heap.size w w'->w'.cell? ⟨b1,o1,none⟩=some (.string x.1)/\w'.cell? ⟨b1,o1+1,none⟩=some (.int .i64 x.2)):=fun w' hw=>⟨Zaa c0 hw,Zaa c1 hw⟩
       clear c0 c1
       have Ma:=hid (okU_zero (wd:=wd) (fr:=fr) hx)
       obtain⟨c0,c1⟩:=HC.out _ hB.out
       clear Da hx
       go_wp2_with (first|(go_at_call 209;refine((Ou.out _ hxs) _).mono ?_;rintro e w' ⟨rfl,hb⟩;have HW:Hid (Below w.heap.size w w'):=ZT bt hb;clear hb;have KK:=HC.out _ HW.out;obtain⟨c0,c1⟩:=KK)|(go_at_call 210;refine((Bv.out _) _).mono ?_;rintro e w' ⟨rfl,hb⟩;have HW:Hid (Below w.heap.size w w'):=ZT bt hb;clear hb;have KK:=HC.out _ HW.out;obtain⟨c0,c1⟩:=KK)|fail)
       all_goals first
        |(go_ret;exact RetZ.of (fun h=>absurd (h.symm.trans (Qd.out (by rw[Ma.out];simp_all)).symm) (by decide)) (fun _=>by decide) bt)
        |skip
       all_goals
        have Le:Hid (okU wd fr us 0):=Ma.out.2 (by simp_all)
        go_quiet (fail)
        go_wp2_with fail
        go_roundw
        case rel=>exact⟨1,by omega,by go_num,hid (Za9 HI.out Le.out),Zad bt _⟩
        case measure=>simp[intOf];omega
      |succ j =>
       have HC:Hid (∀ w',Below w.heap.size w w'->w'.cell? ⟨b1,o1+(j+1)*2,none⟩=some (.string x.1)/\w'.cell? ⟨b1,o1+(j+1)*2+1,none⟩=some (.int .i64 x.2)):=fun w' hw=>⟨Zaa c0 hw,Zaa c1 hw⟩
       clear c0 c1
       obtain⟨c0,c1⟩:=HC.out _ hB.out
       obtain⟨y,hy⟩:∃ y,us[j]?=some y:=⟨us[j]'(by have:=HN.out;omega),List.getElem?_eq_getElem _⟩
       have Ma:=hid (okU_succ (wd:=wd) (fr:=fr) hx hy)
       obtain⟨d0,d1⟩:=Za2 Da hy
       have HD:Hid (∀ w',Below w.heap.size w w'->w'.cell? ⟨b1,o1+j*2,none⟩=some (.string y.1)):=fun w' hw=>Zaa d0 hw
       have Ip:IntKind.i64.wrap (((j+1:Nat):Int) - 1)=(j:Int):=by rw[show((j+1:Nat):Int) - 1=(j:Int) by omega];exact IntWalk.i64_in _ (by omega)
       clear Da hx hy d0 d1
       go_wp2_with (first|(go_at_call 209;refine((Ou.out _ hxs) _).mono ?_;rintro e w' ⟨rfl,hb⟩;have HW:Hid (Below w.heap.size w w'):=ZT bt hb;clear hb;have KK:=HC.out _ HW.out;obtain⟨c0,c1⟩:=KK)|(go_at_call 210;refine((Bv.out _) _).mono ?_;rintro e w' ⟨rfl,hb⟩;have HW:Hid (Below w.heap.size w w'):=ZT bt hb;clear hb;have KK:=HC.out _ HW.out;obtain⟨c0,c1⟩:=KK)|fail)
       all_goals first
        |(go_ret;exact RetZ.of (fun h=>absurd (h.symm.trans (Qd.out (by rw[Ma.out];simp_all)).symm) (by decide)) (fun _=>by decide) bt)
        |skip
       all_goals
        have d0:=HD.out _ HW.out
        go_quiet (fail)
        go_wp2_with fail
        all_goals first
         |(go_ret;exact RetZ.of (fun h=>absurd (h.symm.trans (Qd.out (by rw[Ma.out];simp_all<;>grind)).symm) (by decide)) (fun _=>by decide) (Zad bt _))
         |(go_roundw;(case rel=>exact⟨j+1+1,by omega,by go_num,hid (Za9 HI.out (Ma.out.2 (by simp_all))),Zad bt _⟩);(case measure=>simp[intOf];omega))
    · have HT:=hid (Jw.out (fun j hj=>HI.out j (by omega)))
      go_wp2_with fail
      go_ret
      exact RetZ.of (fun _=>rfl) (fun h=>absurd (h.symm.trans HT.out) (by decide)) hB.out
 · go_wp2_with fail
   go_ret
   exact RetZ.of (fun h=>absurd (HR.out.1 h).1 h4) (fun _=>by decide) (ZR w)
theorem retz {z:Bool}{n:Int}(h1:z=true->n=0)(h2:z=false->n≠0):(z=true/\n=0)∨(z=false/\n≠0):=by
 cases z with
 |true=>exact Or.inl ⟨rfl,h1 rfl⟩
 |false=>exact Or.inr ⟨rfl,h2 rfl⟩
theorem ZcA (n:Int):n=0∨n≠0:=by omega
theorem ZdU (a_k:Int)(a_ua:Option Addr)(a_un a_uc:Nat)(a_o:ByteArray)(w:World):Calls prog 199 #[.agg #[.int .i64 a_k,.slice a_ua a_un a_uc,.string a_o]] w (RetB ((a_k==2)||(a_k==3)) w):=by
 obtain⟨e2,Yc⟩:∃ q,(a_k==2)=q:=⟨_,rfl⟩
 obtain⟨e3,Di⟩:∃ q,(a_k==3)=q:=⟨_,rfl⟩
 obtain⟨R,hR⟩:∃ R,R=((a_k==2)||(a_k==3)):=⟨_,rfl⟩
 rw[<-hR]
 have HR:=hid hR
 clear hR
 go_enter func199,ntmps199
 go_upto_region 1 with fail
 refine gen1 (fun V B0 Aa=>?_)
 have HS:=hs1 B0
 simp only[Cl,Nat.reduceAdd]at HS
 have KK:=HS.out V (ZR V)
 go_wp2_with fail
 all_goals
  go_ret
  exact RetB.of (by have hR:=HR.out;simp_all) (ZT Aa.out bt)
theorem ZeA (t_k:Int)(t_o:ByteArray)(us:List FID):∃ r:Bool,∀ (t_ua:Option Addr) (t_uc:Nat) (w:World),UnIs w t_ua us->Calls prog 189 #[.agg #[.int .i64 t_k,.slice t_ua us.length t_uc,.string t_o]] w (RetZ r w):=by
 obtain⟨ru,-,huc⟩:=Zck us
 have HUC:=hid huc
 obtain⟨qn,hqn⟩:∃ q,nameB t_o=q:=⟨_,rfl⟩
 have Po:Hid (∀ w,Calls prog 140 #[.string t_o] w (RetB qn w)):=by rw[<-hqn];exact fun w=>ZbJ _ w
 obtain⟨R1,hR1⟩:=Zcs (∀ j,j<us.length->∀ x,us[j]?=some x->nameB x.1=true)
 have Ee:=hid hR1
 clear hR1 hqn huc
 generalize hn:us.length=n at *
 have HN:=hid hn
 clear hn
 obtain⟨lo,hlo⟩:∃ q,decide (t_k<1)=q:=⟨_,rfl⟩
 obtain⟨hi,hhi⟩:∃ q,decide (5<t_k)=q:=⟨_,rfl⟩
 obtain⟨e5,Lk⟩:∃ q,(t_k==5)=q:=⟨_,rfl⟩
 obtain⟨os,hos⟩:∃ q,t_o.toList.isEmpty=q:=⟨_,rfl⟩
 obtain⟨un,hun⟩:∃ q,decide ((0:Int)<(n:Int))=q:=⟨_,rfl⟩
 obtain⟨R,hR⟩:∃ R,R=(!lo&&(!hi&&(!(e5&&!qn)&&(!(!e5&&!os)&&(!(!((t_k==2)||(t_k==3))&&un)&&(ru&&R1)))))):=⟨_,rfl⟩
 have HR:=hid hR
 clear hR
 refine⟨R,fun t_ua t_uc w h=>?_⟩
 have H:=hid h
 obtain⟨hu,hs,h1⟩:=h
 have Cj:=hid h1
 clear hs h1
 rw[HN.out]at hu
 go_enter func189,ntmps189
 go_upto_region 1 with fail
 refine gen1 (fun V B0 Aa=>?_)
 have HS:=hs1 B0
 simp only[Cl,Nat.reduceAdd]at HS
 have KK:=HS.out V (ZR V)
 have HU:Hid (∀ w',Below V.heap.size V w'->UnIs w' t_ua us):=fun w' h=>(H.out.kept Aa.out).kept h
 go_wp2_with (first|(go_at_call 140;refine(Po.out _).mono ?_;rintro e w' ⟨rfl,hb⟩;have HW:Hid (Below V.heap.size V w'):=ZT bt hb;clear hb;have KK:=HS.out _ HW.out;try cases qn)|(go_at_call 199;refine(ZdU _ _ _ _ _ _).mono ?_;rintro e w' ⟨rfl,hb⟩;have HW:Hid (Below V.heap.size V w'):=ZT bt hb;clear hb;have KK:=HS.out _ HW.out)|(go_at_call 200;refine(HUC.out _ _ _ (HU.out _ bt)).mono ?_;rintro e w' ⟨c0,rfl,Ea,Fa,hb⟩;have HW:Hid (Below V.heap.size V w'):=ZT bt hb;clear hb;have KK:=HS.out _ HW.out;rcases retz Ea Fa with⟨hru,rfl⟩|⟨hru,Wn⟩<;>clear Ea Fa)|fail)
 all_goals first
  |(go_ret;exact RetZ.of (by have hR:=HR.out;simp_all<;>grind) (by have hR:=HR.out;simp_all<;>grind) (ZT Aa.out bt))
  |skip
 all_goals
  have Lh:Hid (R=R1):=by show _=_;have hR:=HR.out;simp_all<;>grind
  clear HR
  have HL:Hid (Zac fidC 2 V t_ua us):=Cj.out.kept Aa.out
  have Lc:Hid (Below V.heap.size V w'):=HW
  go_loopw [3] (fun v wr=>∃ i:Nat,i<=n/\v=.int .i64 i/\Hid (∀ j,j<i->∀ x,us[j]?=some x->nameB x.1=true)/\Hid (Below V.heap.size V wr)) (fun v _=>n - (intOf v).toNat)
  case atStart=>exact⟨0,by omega,rfl,hid (fun j hj=>by omega),Lc⟩
  case round =>
   obtain⟨i,hi,rfl,HI,hB⟩:=hrel
   have KK:=HS.out _ hB.out
   by_cases hlt:i<n
   · first|(exfalso;simp at hun;omega)|skip
     all_goals
      obtain⟨x,hx⟩:∃ x,us[i]?=some x:=⟨us[i]'(by have:=HN.out;omega),List.getElem?_eq_getElem _⟩
      obtain⟨b1,o1,rfl,Da⟩:=HL.out.some (by have:=HN.out;omega)
      obtain⟨c0,c1⟩:=Za2 Da hx
      have HC:Hid (∀ w',Below V.heap.size V w'->w'.cell? ⟨b1,o1+i*2,none⟩=some (.string x.1)):=fun w' hw=>Zaa c0 hw
      have cx:=HC.out _ hB.out
      obtain⟨q2,Ob⟩:∃ q,nameB x.1=q:=⟨_,rfl⟩
      have Ab:Hid (∀ w,Calls prog 140 #[.string x.1] w (RetB q2 w)):=by rw[<-Ob];exact fun w=>ZbJ _ w
      have Qd:Hid (q2=false->false=R):=fun e=>Lh.out ▸ Zdd (fun h=>by have:=Ee.out.1 h i (by have:=HN.out;omega) x hx;rw[Ob,e]at this;cases this)
      have Nx:Hid (q2=true->∀ j,j<i+1->∀ x,us[j]?=some x->nameB x.1=true):=fun e=>Za9 HI.out (fun z hz=>by rw[hx]at hz;injection hz with hz;subst hz;rw[Ob,e])
      clear c0 c1 hx Da Ob
      go_wp2_with (first|(go_at_call 140;refine(Ab.out _).mono ?_;rintro e w' ⟨rfl,hb⟩;have HW:Hid (Below V.heap.size V w'):=ZT bt hb;clear hb;have KK:=HS.out _ HW.out;have cx:=HC.out _ HW.out;cases q2)|fail)
      all_goals first
       |(go_ret;exact RetZ.of (fun h=>absurd (h.symm.trans (Qd.out (by first|rfl|trivial)).symm) (by decide)) (fun _=>by decide) (ZT Aa.out bt))
       |(go_roundw;(case rel=>exact⟨i+1,by omega,by go_num,hid (Nx.out (by first|rfl|trivial)),bt⟩);(case measure=>simp[intOf];omega))
   · have HT:Hid (R=true):=Lh.out.trans (Ee.out.2 (fun j hj=>HI.out j (by have:=HN.out;omega)))
     go_wp2_with fail
     go_ret
     exact RetZ.of (fun _=>rfl) (fun h=>absurd (h.symm.trans HT.out) (by decide)) (ZT Aa.out hB.out)
structure Fd where
 m:ByteArray
 k:Int
 ua:Option Addr
 un:Nat
 uc:Nat
 o:ByteArray
def Fd.cells (f:Fd):List Value:=[.string f.m,.int .i64 f.k,.slice f.ua f.un f.uc,.string f.o]
theorem Fd.cell {w:World}{b off:Nat}{l:List Fd}(h:Lies Fd.cells 4 w b off l){i:Nat}{v:Fd}(hv:l[i]?=some v) :
 w.cell? ⟨b,off+i*4,none⟩=some (.string v.m)/\w.cell? ⟨b,off+i*4+1,none⟩=some (.int .i64 v.k)/\w.cell? ⟨b,off+i*4+2,none⟩=some (.slice v.ua v.un v.uc)/\w.cell? ⟨b,off+i*4+3,none⟩=some (.string v.o) :=
 ⟨h i v hv 0 _ rfl,h i v hv 1 _ rfl,h i v hv 2 _ rfl,h i v hv 3 _ rfl⟩
def FdsAt (w:World)(a:Option Addr)(n:Nat):Prop:=∃ l:List Fd,n=l.length/\l.length<=140737488355328/\(∀ f∈l,ZaH w f.ua f.un)/\Zac Fd.cells 4 w a l
theorem FdsAt.kept {w w':World}{a:Option Addr}{n:Nat}(h:FdsAt w a n)(hb:Below w.heap.size w w'):FdsAt w' a n :=
 let ⟨l,h1,h2,h3,h4⟩:=h;⟨l,h1,h2,fun f hf=>(h3 f hf).kept hb,h4.kept hb⟩
theorem FdsAt.nil (w:World)(a:Option Addr):FdsAt w a 0:=⟨[],rfl,by decide,fun f hf=>(by cases hf),Zac.nil _ _⟩
structure Ex where
 k:Int
 o:ByteArray
 m:ByteArray
 t:ByteArray
 vk:Int
 vn:Int
 vs:ByteArray
 ua:Option Addr
 un:Nat
 uc:Nat
 p:Int
 wk:Int
 wz:Int
 xa:Option Addr
 xn:Nat
 xc:Nat
def Ex.cells (x:Ex):List Value:=[.int .i64 x.k,.string x.o,.string x.m,.string x.t,.int .i64 x.vk,.int .i64 x.vn,.string x.vs,.slice x.ua x.un x.uc,.int .i64 x.p,.int .i64 x.wk,.int .i64 x.wz,.slice x.xa x.xn x.xc]
abbrev Ex.val (x:Ex):Value:=.agg #[.int .i64 x.k,.string x.o,.string x.m,.string x.t,.int .i64 x.vk,.int .i64 x.vn,.string x.vs,.slice x.ua x.un x.uc,.int .i64 x.p,.int .i64 x.wk,.int .i64 x.wz,.slice x.xa x.xn x.xc]
theorem Ex.cell {w:World}{b off:Nat}{l:List Ex}(h:Lies Ex.cells 12 w b off l){i:Nat}{v:Ex}(hv:l[i]?=some v) :
 w.cell? ⟨b,off+i*12,none⟩=some (.int .i64 v.k)/\w.cell? ⟨b,off+i*12+1,none⟩=some (.string v.o)/\w.cell? ⟨b,off+i*12+2,none⟩=some (.string v.m)/\w.cell? ⟨b,off+i*12+3,none⟩=some (.string v.t) /\
 w.cell? ⟨b,off+i*12+4,none⟩=some (.int .i64 v.vk)/\w.cell? ⟨b,off+i*12+5,none⟩=some (.int .i64 v.vn)/\w.cell? ⟨b,off+i*12+6,none⟩=some (.string v.vs)/\w.cell? ⟨b,off+i*12+7,none⟩=some (.slice v.ua v.un v.uc) /\
 w.cell? ⟨b,off+i*12+8,none⟩=some (.int .i64 v.p)/\w.cell? ⟨b,off+i*12+9,none⟩=some (.int .i64 v.wk)/\w.cell? ⟨b,off+i*12+10,none⟩=some (.int .i64 v.wz)/\w.cell? ⟨b,off+i*12+11,none⟩=some (.slice v.xa v.xn v.xc) :=
 ⟨h i v hv 0 _ rfl,h i v hv 1 _ rfl,h i v hv 2 _ rfl,h i v hv 3 _ rfl,h i v hv 4 _ rfl,h i v hv 5 _ rfl,h i v hv 6 _ rfl,h i v hv 7 _ rfl,h i v hv 8 _ rfl,h i v hv 9 _ rfl,h i v hv 10 _ rfl,h i v hv 11 _ rfl⟩
def ExAt:Nat->World->Ex->Prop
 |0,_,_=>False
 |n+1,w,x=>ZaH w x.ua x.un/\x.vs.size<=140737488355328/\∃ xs:List Ex,x.xn=xs.length/\xs.length<=140737488355328/\Zac Ex.cells 12 w x.xa xs/\∀ y∈xs,ExAt n w y
theorem ExAt.kept {w w':World}(hb:Below w.heap.size w w'):∀ {n:Nat} {x:Ex},ExAt n w x->ExAt n w' x
 |0,_,h=>h.elim
 |n+1,x,⟨h1,h2,xs,h3,h4,h5,h6⟩=>⟨h1.kept hb,h2,xs,h3,h4,h5.kept hb,fun y hy=>(h6 y hy).kept hb⟩
theorem ExAt.unit {n:Nat}{w:World}{x:Ex}(h:ExAt n w x):ZaH w x.ua x.un:=by cases n with
 |zero=>exact h.elim
 |succ n=>exact h.1
def ExNd:Nat->Nat->World->Ex->Prop
 |0,_,_,_=>False
 |n+1,c,w,x=>ZaH w x.ua x.un/\x.vs.size<=140737488355328/\∃ (xs:List Ex) (cs:List Nat),x.xn=xs.length/\xs.length<=10/\Zac Ex.cells 12 w x.xa xs/\cs.length=xs.length/\cs.sum+1<=c/\∀ (i:Nat) (y:Ex) (d:Nat),xs[i]?=some y->cs[i]?=some d->ExNd n d w y
theorem ExNd.kept {w w':World}(hb:Below w.heap.size w w'):∀ {n c:Nat} {x:Ex},ExNd n c w x->ExNd n c w' x
 |0,_,_,h=>h.elim
 |n+1,c,x,⟨h1,h2,xs,cs,h3,h4,h5,h6,h7,h8⟩=>⟨h1.kept hb,h2,xs,cs,h3,h4,h5.kept hb,h6,h7,fun i y d hy hd=>(h8 i y d hy hd).kept hb⟩
theorem ExNd.at {w:World}:∀ {n c:Nat} {x:Ex},ExNd n c w x->ExAt n w x
 |0,_,_,h=>h.elim
 |n+1,c,x,⟨h1,h2,xs,cs,h3,h4,h5,h6,h7,h8⟩=>⟨h1,h2,xs,h3,by omega,h5,fun y hy=>by
  obtain⟨i,hi,rfl⟩:=List.mem_iff_getElem.1 hy
  exact(h8 i _ _ (List.getElem?_eq_getElem hi) (List.getElem?_eq_getElem (by omega))).at⟩
def arity (k:Int):Nat:=if k=4∨k=6 then 1 else if k=5∨k=7∨k=9 then 2 else if k=8 then 3 else 0
def Shaped:Nat->World->Ex->Prop
 |0,_,_=>False
 |n+1,w,x=>(1<=x.k/\x.k<=9)/\x.xn=arity x.k/\∃ xs:List Ex,x.xn=xs.length/\Zac Ex.cells 12 w x.xa xs/\∀ y∈xs,Shaped n w y
theorem Shaped.kept {w w':World}(hb:Below w.heap.size w w'):∀ {n:Nat} {x:Ex},Shaped n w x->Shaped n w' x
 |0,_,h=>h.elim
 |n+1,x,⟨h1,h2,xs,h3,h5,h6⟩=>⟨h1,h2,xs,h3,h5.kept hb,fun y hy=>(h6 y hy).kept hb⟩
theorem Ex.cells_inj {x y:Ex}(h:x.cells=y.cells):x=y:=by
 cases x;cases y
 simp[Ex.cells]at h
 simp_all
theorem lies_same {w:World}{a:Option Addr}:∀ {l m:List Ex},l.length=m.length->Zac Ex.cells 12 w a l->Zac Ex.cells 12 w a m->l=m:=by
 intro l m hl h1 h2
 rcases h1 with rfl|⟨b,o,rfl,h1⟩
 · cases m with
   |nil=>rfl
   |cons x m=>simp at hl
 rcases h2 with rfl|⟨b2,o2,e,h2⟩
 · cases l with
   |nil=>rfl
   |cons x m=>simp at hl
 injection e with e
 injection e with e1 e2
 subst e1 e2
 refine List.ext_getElem hl (fun i hi hj=>?_)
 apply Ex.cells_inj
 refine List.ext_getElem (by rfl) (fun j hj1 Mp=>?_)
 have k1:=h1 i _ (List.getElem?_eq_getElem hi) j _ (List.getElem?_eq_getElem hj1)
 have k2:=h2 i _ (List.getElem?_eq_getElem hj) j _ (List.getElem?_eq_getElem Mp)
 rw[k1]at k2
 injection k2
def aggL:List ByteArray:=[⟨#[99,111,117,110,116]⟩,⟨#[115,117,109]⟩,⟨#[109,101,97,110]⟩,⟨#[109,105,110]⟩,⟨#[109,97,120]⟩,⟨#[102,105,114,115,116]⟩,⟨#[108,97,115,116]⟩,⟨#[100,105,115,116,105,110,99,116]⟩,⟨#[113,117,97,110,116,105,108,101]⟩,⟨#[100,101,99,97,121]⟩]
def opsL:List ByteArray:=[⟨#[43]⟩,⟨#[45]⟩,⟨#[42]⟩,⟨#[47]⟩,⟨#[61,61]⟩,⟨#[33,61]⟩,⟨#[60]⟩,⟨#[60,61]⟩,⟨#[97,110,100]⟩,⟨#[111,114]⟩]
theorem aggs_any (w:World):Calls prog 229 #[] w fun e w'=>∃ a c,e=.returned (.slice a 10 c)/\Zfo w' a aggL/\Below w.heap.size w w':=by
 go_enter func229,ntmps229
 go_wp2_with fail
 go_ret
 exact⟨_,_,rfl,Zcl aggL w,ZA (ZR w) _⟩
theorem opers_any (w:World):Calls prog 223 #[] w fun e w'=>∃ a c,e=.returned (.slice a 10 c)/\Zfo w' a opsL/\Below w.heap.size w w':=by
 go_enter func223,ntmps223
 go_wp2_with fail
 go_ret
 exact⟨_,_,rfl,Zcl opsL w,ZA (ZR w) _⟩
def trueX:Ex:=⟨1,⟨#[]⟩,⟨#[]⟩,⟨#[]⟩,1,1,⟨#[]⟩,none,0,0,0,0,0,none,0,0⟩
theorem true_any (w:World):Calls prog 213 #[] w fun e w'=>e=.returned trueX.val/\Below w.heap.size w w':=by
 go_enter func213,ntmps213
 go_wp2_with fail
 refine bodyPost_ret (v:=trueX.val) (by simp[results,Tryz.results213,go_sem,trueX]) rfl ⟨rfl,ZA (ZR w) _⟩
theorem literal_det (x_k:Int)(x_o:ByteArray)(x_m:ByteArray)(x_t:ByteArray)(x_vk:Int)(x_vn:Int)(x_vs:ByteArray)(x_ua:Option Addr)(x_uc:Nat)(x_p:Int)(x_wk:Int)(x_wz:Int)(x_xa:Option Addr)(x_xn:Nat)(x_xc:Nat)(us:List FID)(hs:x_vs.size<=140737488355328):∃ r:Bool,∀ (w:World),UnIs w x_ua us->Calls prog 220 #[.agg #[.int .i64 x_k,.string x_o,.string x_m,.string x_t,.int .i64 x_vk,.int .i64 x_vn,.string x_vs,.slice x_ua us.length x_uc,.int .i64 x_p,.int .i64 x_wk,.int .i64 x_wz,.slice x_xa x_xn x_xc]] w (RetB r w):=by
 obtain⟨rv,hv⟩:=vcheck_det x_vk x_vn x_vs hs
 have Hrv:=hid hv
 clear hv
 obtain⟨rt,ht⟩:=ZeA x_vk x_m us
 have Hrt:=hid ht
 clear ht
 obtain⟨rf,hf⟩:=ZdW x_k x_o x_m x_t x_vk x_vn x_vs x_ua x_uc x_p x_wk x_wz x_xa x_xn x_xc 1 ⟨#[]⟩ x_m ⟨#[]⟩ x_vk x_vn x_vs x_ua x_uc 0 0 0 none 0 0 us us
 have Hrf:=hid hf
 clear hf
 obtain⟨ng,hng⟩:∃ q,decide (x_vn<0)=q:=⟨_,rfl⟩
 obtain⟨R,hR⟩:∃ R:Bool,R=(rv&&(!ng&&(rt&&rf))):=⟨_,rfl⟩
 have HR:=hid hR
 clear hR
 refine⟨R,fun w h0=>?_⟩
 have HA:=hid h0
 clear h0
 go_enter func220,ntmps220
 go_upto_region 1 with fail
 refine gen1 (fun V B0 Aa=>?_)
 have HS:=hs1 B0
 simp only[Cl,Nat.reduceAdd]at HS
 have KK:=HS.out V (ZR V)
 have HU:Hid (∀ w',Below V.heap.size V w'->UnIs w' x_ua us):=fun w' h=>(HA.out.kept Aa.out).kept h
 go_wp2_with (first|(go_at_call 180;refine(Hrv.out _).mono ?_;rintro e w' ⟨n1,rfl,Ea,Fa,hb⟩;have HW:Hid (Below V.heap.size V w'):=ZT bt hb;clear hb;have KK:=HS.out _ HW.out;rcases retz Ea Fa with⟨Eh,rfl⟩|⟨Eh,n10⟩<;>clear Ea Fa)|(go_at_call 189;refine(Hrt.out _ _ _ (HU.out _ bt)).mono ?_;rintro e w' ⟨n2,rfl,Ea,Fa,hb⟩;have HW:Hid (Below V.heap.size V w'):=ZT bt hb;clear hb;have KK:=HS.out _ HW.out;rcases retz Ea Fa with⟨Gm,rfl⟩|⟨Gm,n20⟩<;>clear Ea Fa)|(go_at_call 219;refine(Hrf.out _ (HU.out _ bt) (HU.out _ bt)).mono ?_;rintro e w' ⟨rfl,hb⟩;have HW:Hid (Below V.heap.size V w'):=ZT bt hb;clear hb;have KK:=HS.out _ HW.out;cases rf)|fail)
 all_goals
  go_ret
  exact RetB.of (by have hR:=HR.out;simp_all<;>grind) (ZT Aa.out bt)
theorem size_det (w0:World):∀ (n:Nat) (x:Ex),ExAt n w0 x->∃ r:Int,∀ w,Below w0.heap.size w0 w->Calls prog 201 #[x.val] w (RetI r w)
 |0,_,h=>h.elim
 |n+1,⟨x_k,x_o,x_m,x_t,x_vk,x_vn,x_vs,x_ua,x_un,x_uc,x_p,x_wk,x_wz,x_xa,x_xn,x_xc⟩,h=>by
  obtain⟨-,-,xs,hxn,hxl,hl,hy⟩:=h
  obtain⟨f,hf⟩:=ZbY (D:=fun y=>y∈xs) (fun y h=>size_det w0 n y (hy y h))
  obtain⟨R,hR⟩:∃ R,R=xs.foldl (fun s y=>wrap64 (s+f y)) 1:=⟨_,rfl⟩
  have HF:=hid hf
  have HR:=hid hR
  clear hf hR hy
  refine⟨R,fun w hw=>?_⟩
  dsimp only at hxn hl
  subst hxn
  have HL:=hid (hl.kept hw)
  have Ja:=hid hw
  clear hl hw
  dsimp only[Ex.val]
  go_enter func201,ntmps201
  go_upto_region 1 with fail
  refine gen1 (fun V B0 Aa=>?_)
  have HS:=hs1 B0
  simp only[Cl,Nat.reduceAdd]at HS
  have KK:=HS.out V (ZR V)
  generalize hn:xs.length=xn at *
  have HN:=hid hn
  clear hn
  have Ga:Hid (Below w0.heap.size w0 V):=Ja.out.trans (Aa.out.mono Ja.out.size)
  go_wp2_with fail
  go_loopw [3,4] (fun u v wr=>∃ (i:Nat) (s:Int),u=.int .i64 s/\i<=xn/\v=.int .i64 i/\Hid (R=(xs.drop i).foldl (fun s y=>wrap64 (s+f y)) s)/\Hid (Below V.heap.size V wr)) (fun _ v _=>xn - (intOf v).toNat)
  case atStart=>exact⟨0,_,rfl,by omega,rfl,HR,ZR V⟩
  case round =>
   obtain⟨i,s,rfl,hi,rfl,HI,hB⟩:=hrel
   have KK:=HS.out _ hB.out
   by_cases hlt:i<xn
   · obtain⟨y,hy⟩:∃ y,xs[i]?=some y:=⟨xs[i]'(by have:=HN.out;omega),List.getElem?_eq_getElem _⟩
     obtain⟨b1,o1,rfl,Da⟩:=((HL.out.kept Aa.out).kept hB.out).some (by have:=HN.out;omega)
     obtain⟨c0,c1,c2,c3,c4,c5,c6,c7,c8,c9,c10,c11⟩:=Ex.cell Da hy
     have Nj:=hid (List.mem_of_getElem? hy)
     have HQ:Hid (R=(xs.drop (i+1)).foldl (fun s y=>wrap64 (s+f y)) ((fun s y=>wrap64 (s+f y)) s y)):=by
      show _=_
      rw[HI.out,ZaD hy]
      rfl
     clear Da hy HI
     go_wp2_with (first|(go_at_call 201;refine(HF.out y Nj.out _ (Ga.out.trans (Below.mono bt Ga.out.size))).mono ?_;rintro e w' ⟨rfl,hb⟩;have HW:Hid (Below V.heap.size V w'):=ZT bt hb;clear hb;have KK:=HS.out _ HW.out)|fail)
     go_roundw
     case rel=>exact⟨i+1,_,rfl,by omega,by go_num,HQ,bt⟩
     case measure=>simp[intOf];omega
   · have HT:Hid (R=s):=by show _=_;rw[HI.out,List.drop_of_length_le (by have:=HN.out;omega)];rfl
     clear HI
     go_wp2_with fail
     go_ret
     exact RetI.of (by rw[HT.out]) (ZT Aa.out hB.out)
theorem depth_det (w0:World):∀ (n:Nat) (x:Ex),ExAt n w0 x->∃ r:Int,∀ w,Below w0.heap.size w0 w->Calls prog 202 #[x.val] w (RetI r w)
 |0,_,h=>h.elim
 |n+1,⟨x_k,x_o,x_m,x_t,x_vk,x_vn,x_vs,x_ua,x_un,x_uc,x_p,x_wk,x_wz,x_xa,x_xn,x_xc⟩,h=>by
  obtain⟨-,-,xs,hxn,hxl,hl,hy⟩:=h
  obtain⟨f,hf⟩:=ZbY (D:=fun y=>y∈xs) (fun y h=>depth_det w0 n y (hy y h))
  obtain⟨R,hR⟩:∃ R,R=xs.foldl (fun s y=>max s (f y)) 0:=⟨_,rfl⟩
  have HF:=hid hf
  have HR:=hid hR
  clear hf hR hy
  refine⟨wrap64 (R+1),fun w hw=>?_⟩
  dsimp only at hxn hl
  subst hxn
  have HL:=hid (hl.kept hw)
  have Ja:=hid hw
  clear hl hw
  dsimp only[Ex.val]
  go_enter func202,ntmps202
  go_upto_region 1 with fail
  refine gen1 (fun V B0 Aa=>?_)
  have HS:=hs1 B0
  simp only[Cl,Nat.reduceAdd]at HS
  have KK:=HS.out V (ZR V)
  generalize hn:xs.length=xn at *
  have HN:=hid hn
  clear hn
  have Ga:Hid (Below w0.heap.size w0 V):=Ja.out.trans (Aa.out.mono Ja.out.size)
  go_wp2_with fail
  go_loopw [3,4] (fun u v wr=>∃ (i:Nat) (s:Int),u=.int .i64 s/\i<=xn/\v=.int .i64 i/\Hid (R=(xs.drop i).foldl (fun s y=>max s (f y)) s)/\Hid (Below V.heap.size V wr)) (fun _ v _=>xn - (intOf v).toNat)
  case atStart=>exact⟨0,_,rfl,by omega,rfl,HR,ZR V⟩
  case round =>
   obtain⟨i,s,rfl,hi,rfl,HI,hB⟩:=hrel
   have KK:=HS.out _ hB.out
   by_cases hlt:i<xn
   · obtain⟨y,hy⟩:∃ y,xs[i]?=some y:=⟨xs[i]'(by have:=HN.out;omega),List.getElem?_eq_getElem _⟩
     obtain⟨b1,o1,rfl,Da⟩:=((HL.out.kept Aa.out).kept hB.out).some (by have:=HN.out;omega)
     obtain⟨c0,c1,c2,c3,c4,c5,c6,c7,c8,c9,c10,c11⟩:=Ex.cell Da hy
     have Nj:=hid (List.mem_of_getElem? hy)
     have HQ:Hid (R=(xs.drop (i+1)).foldl (fun s y=>max s (f y)) ((fun s y=>max s (f y)) s y)):=by
      show _=_
      rw[HI.out,ZaD hy]
      rfl
     clear Da hy HI
     go_wp2_with (first|(go_at_call 202;refine(HF.out y Nj.out _ (Ga.out.trans (Below.mono bt Ga.out.size))).mono ?_;rintro e w' ⟨rfl,hb⟩;have HW:Hid (Below V.heap.size V w'):=ZT bt hb;clear hb;have KK:=HS.out _ HW.out)|fail)
     go_roundw
     case rel=>exact⟨i+1,_,rfl,by omega,by go_num,HQ,bt⟩
     case measure=>simp[intOf];omega
   · have HT:Hid (R=s):=by show _=_;rw[HI.out,List.drop_of_length_le (by have:=HN.out;omega)];rfl
     clear HI
     go_wp2_with fail
     go_ret
     exact RetI.of (by rw[HT.out]) (ZT Aa.out hB.out)
end Go.Proofs.YtfnpfkgmacaboaaGreat
