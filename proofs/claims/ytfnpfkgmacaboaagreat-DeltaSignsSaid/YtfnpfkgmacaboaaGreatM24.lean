/- Texts joined by a program. -/
import Derived.Test.YtfnpfkgmacaboaaGreatM11
import Derived.Test.YtfnpfkgmacaboaaGreatM23
namespace Go.Proofs.YtfnpfkgmacaboaaGreat
open Lib (hid)
open Go.ChangeShapes Go.WideShapes Go.ChangeAt Go.RowKit
set_option linter.unusedVariables false
set_option linter.unusedSimpArgs false
set_option maxRecDepth 100000
set_option maxHeartbeats 4000000
open Go.Proofs.YtfnpfkgmacaboaaGreatEx (whi wlo Zc5 refAdd_any Zd4 norm Zfx Zcc upq_ge absI upq)
def WideAt (g:Nat)(w:World)(a:Int):Prop:=Box w g #[.int .i64 (whi a),.int .u64 (wlo a)] 273
def ExpPost (w:World)(e:Ending)(w':World):Prop:=∃ (n:Int) (b:Bool),e=.returned (.tuple #[.int .i64 n,.bool b])/\I64 n/\Below w.heap.size w w'
theorem divRes_one (N:Int):∃ q o,Zfx N 1=.tuple #[.int .i64 q,.bool o]/\I64 q:=by
 unfold Zfx
 rw[if_neg (by decide)]
 have h0:0<=upq (absI N) (absI 1):=by
  have h1:=upq_ge (absI N) (absI 1)
  have h2:absI 1=1:=rfl
  have h3:0<=absI N:=by unfold absI;split<;>omega
  rw[h2]at h1 ⊢
  rw[Int.ediv_one]at h1
  omega
 generalize upq (absI N) (absI 1)=n at *
 unfold Zcc
 split
 · exact⟨_,_,rfl,by unfold I64;omega⟩
 · refine⟨_,_,rfl,?_⟩
   unfold I64
   split<;>omega
theorem exponent_any (a:Option Addr)(n c:Nat)(s:ByteArray)(w:World)(h:Zao w a n):Calls Tryz.prog 237 #[.slice a n c,.string s] w (ExpPost w):=by
 obtain⟨us,rfl,hu,hs,h1⟩:=h
 have H:=hid h1
 have HSZ:=hid hs
 clear h1 hs
 go_enter Tryz.func237,Tryz.ntmps237
 go_upto_region 2 with(first|(go_at_call 238;refine(Zc5 0 _ (by decide) (by decide)).mono ?_;rintro e w' ⟨rfl,hb⟩;have HW0:Hid (Below w.heap.size w w'):=hb;clear hb)|(refine Zbh rfl rfl 273 (.tmp 6) (.tmp 10) rfl rfl rfl [.int .i64 (whi 0),.int .u64 (wlo 0)] rfl rfl (by kernel_rfl) (List.all_eq_true.1 (by rfl)) ?_)|fail)
 refine Zam (fun V hV=>?_)
 obtain⟨g,hg⟩:∃ g,g=w'.heap.size:=⟨_,rfl⟩
 have B0:Hid (WideAt g V 0):=by rw[hV,hg];exact ZaE _ _ _
 have HBV:Hid (Below w.heap.size w V):=by rw[hV];exact ZA HW0.out _
 have HG:Hid (w.heap.size<=g):=by rw[hg];exact HW0.out.size
 have HGV:Hid (g<V.heap.size):=by show _<_;rw[hV,hg];simp
 clear hV
 rw[<-hg]
 clear hg HW0
 go_wp2_with fail
 go_loopw [7] (fun v wr=>∃ (i:Nat) (x:Int),i<=us.length/\v=.int .i64 i/\Hid (WideAt g wr x)/\Hid (Below w.heap.size w wr)) (fun v _=>us.length - (intOf v).toNat)
 case atStart=>exact⟨0,0,by omega,rfl,B0,HBV⟩
 case round =>
  obtain⟨i,x,hi,rfl,HX,hB⟩:=hrel
  have x0:=HX.out.cell 0 _ rfl
  have x1:=HX.out.cell 1 _ rfl
  by_cases hlt:i<us.length
  · obtain⟨f,hf⟩:∃ f,us[i]?=some f:=⟨us[i],List.getElem?_eq_getElem hlt⟩
    obtain⟨b1,o1,rfl,hr1⟩:=(H.out.kept hB.out).some (by omega)
    obtain⟨c0,c1⟩:=Zbj hr1 hf
    have HI:=hid (HSZ.out f (List.mem_of_getElem? hf)).2
    clear hr1 hf
    have hq:putC #[.int .i64 (whi x),.int .u64 (wlo x)] 0 [.int .i64 (whi (x+f.2)),.int .u64 (wlo (x+f.2))]=#[.int .i64 (whi (x+f.2)),.int .u64 (wlo (x+f.2))]:=by simp only[putC,List.setIfInBounds_toArray,List.set_cons_zero,List.set_cons_succ]
    have HQ:=hid hq
    clear hq
    go_wp2_with fail
    all_goals first
     |(go_roundw;(case rel=>exact⟨i+1,x,by omega,by go_num,HX,hB⟩);(case measure=>simp[intOf];omega))
     |skip
    all_goals
     have y0:∀ d os,(Go.Sort.grow (redrawn wr d) os).cell? ⟨g,0,none⟩=some (.int .i64 (whi x)):=fun d os=>cell_regrown x0 d os
     have y1:∀ d os,(Go.Sort.grow (redrawn wr d) os).cell? ⟨g,1,none⟩=some (.int .u64 (wlo x)):=fun d os=>cell_regrown x1 d os
     have z1:∀ d os,(Go.Sort.grow (redrawn wr d) os).cell? ⟨b1,o1+i*2+1,none⟩=some (.int .i64 f.2):=fun d os=>cell_regrown c1 d os
     have D0:=hid (fun d os=>Calls.regrown_of (Zc5 f.2 (Go.Sort.grow (redrawn wr d) os) HI.out.1 (by have:=HI.out.2;omega)))
     refine ZbX 7 (by kernel_rfl) (by kernel_rfl) ?_
     simp only[List.take_succ_cons,List.take_zero,List.drop_succ_cons,List.drop_zero]
     repeat(go_big_quiet_step (first|with_reducible exact D0.out _ _))
     refine wpQuiet_nil ?_
     intro _ hw'
     obtain⟨p,hw''⟩:=hw'
     subst hw''
     have HZ:Hid (Below wr.heap.size wr (Go.Sort.grow (redrawn wr p.d) p.os)):=below_regrown wr p.d p.os
     generalize Go.Sort.grow (redrawn wr p.d) p.os=V2 at *
     clear y0 y1 z1 D0
     go_wp2_with (first
      |(go_at_call 239;refine(refAdd_any x f.2 _).mono ?_;rintro e w3 ⟨rfl,hb⟩;have HW3:Hid (Below wr.heap.size wr w3):=ZT HZ.out hb;have HX3:Hid (WideAt g w3 x):=HX.out.kept HW3.out;clear hb)
      |(refine Zb5 rfl 273 (.tmp 6) (.tmp 31) rfl rfl g 0 273 #[.int .i64 (whi x),.int .u64 (wlo x)] [.int .i64 (whi (x+f.2)),.int .u64 (wlo (x+f.2))] rfl rfl HX3.out (by kernel_rfl) (Nat.le_of_ble_eq_true rfl) (by rfl) w (ZT hB.out HW3.out) HG.out ?_;rw[HQ.out];intro w4 hby hyb;have HY:Hid (Below w.heap.size w w4):=hyb;have BY:Hid (WideAt g w4 (x+f.2)):=hby;clear hyb hby)
      |fail)
     go_roundw
     case rel=>exact⟨i+1,x+f.2,by omega,by go_num,BY,HY⟩
     case measure=>simp[intOf];omega
  · go_wp2_with (first|(go_at_call 240;refine(Zd4 x 1 (by decide) (by decide) _).mono ?_;obtain⟨q,o,hqo,hq64⟩:=divRes_one (norm x);have HQ64:=hid hq64;clear hq64;rw[hqo];rintro e w' ⟨rfl,hb⟩;have HW:Hid (Below w.heap.size w w'):=ZT hB.out hb;clear hb;cases o)|(go_at_call 210;refine(far_any _ _).mono ?_;rintro e w9 ⟨b,rfl,hb⟩;have HW9:Hid (Below w.heap.size w w9):=ZT HW.out hb;clear hb;cases b)|fail)
    all_goals
     go_ret2
     exact⟨_,_,rfl,(by first|exact HQ64.out|(unfold I64;omega)),(by first|exact HW9.out|exact HW.out)⟩
def OwnS (w:World)(B:Nat)(v:Value)(l:List ByteArray):Prop:=Own (fun s:ByteArray=>[Value.string s]) 1 9 w B v l/\∀ s∈l,s.size<=140737488355328
theorem OwnS.kept {w w':World}{B:Nat}{v:Value}{l:List ByteArray}(h:OwnS w B v l)(hb:Below w.heap.size w w'):OwnS w' B v l:=⟨h.1.kept hb,h.2⟩
theorem OwnS.mono {w:World}{B B':Nat}{v:Value}{l:List ByteArray}(h:OwnS w B v l)(hB:B'<=B):OwnS w B' v l:=⟨h.1.mono hB,h.2⟩
theorem OwnS.nil (w:World)(B:Nat):OwnS w B (.slice none 0 0) []:=⟨Own.nil w B,fun d hd=>by cases hd⟩
theorem elS:El Tryz.prog 9 210 1 16:=⟨Tryz.underlying210,by kernel_rfl,by decide,by decide⟩
theorem encS:Enc (fun s:ByteArray=>[Value.string s]) 1:=⟨fun _=>rfl,fun x v hv=>by simp at hv;subst hv;rfl⟩
theorem names_any (a:Option Addr)(n c:Nat)(hn:n<=100000000)(w:World)(h:Zao w a n):Calls Tryz.prog 236 #[.slice a n c] w fun e w'=>∃ v l,e=.returned v/\OwnS w' w.heap.size v l/\l.length<=n/\Below w.heap.size w w':=by
 obtain⟨us,rfl,hu,hs,h1⟩:=h
 have H:=hid h1
 have HSZ:=hid hs
 clear h1 hs
 go_enter Tryz.func236,Tryz.ntmps236
 go_wp2_with fail
 go_loopw [3,4] (fun v jj wr=>∃ (i:Nat) (l:List ByteArray) (v0:Value),v0=v/\i<=us.length/\jj=.int .i64 i/\Hid (OwnS wr w.heap.size v l/\l.length<=i)/\Hid (Below w.heap.size w wr)) (fun _ jj _=>us.length - (intOf jj).toNat)
 case atStart=>exact⟨0,[],_,rfl,by omega,rfl,⟨OwnS.nil _ _,by simp⟩,Below.refl _ _⟩
 case round =>
  obtain⟨i,l,v0,hv0,hi,rfl,hO,hB⟩:=hrel
  obtain⟨hO1,hli⟩:=hO.out
  obtain⟨ao,cp,hv1,hlc,hcn,-⟩:=hO1.1.lies encS
  rw[hv1]at hv0 hO1 hO
  first|subst hv1|skip
  first|subst hv0|skip
  have HO:=hid hO1
  have HCN:=hid hcn
  clear hO hO1 hcn
  by_cases hlt:i<us.length
  · obtain⟨f,hf⟩:∃ f,us[i]?=some f:=⟨us[i],List.getElem?_eq_getElem hlt⟩
    have HF:=hid hf
    obtain⟨b1,o1,rfl,hr1⟩:=(H.out.kept hB.out).some (by omega)
    have HFC:Hid (∀ w',Below w.heap.size w w'->w'.cell? ⟨b1,o1+i*2,none⟩=some (.string f.1)):=by
     intro w' hb
     obtain⟨b',o',he,hr⟩:=(H.out.kept hb).some (by omega)
     injection he with he;injection he with e1 e2 e3;subst e1 e2
     exact(Zbj hr HF.out).1
    have HFS:Hid (f.1.size<=140737488355328):=(HSZ.out f (List.mem_of_getElem? hf)).1
    clear hr1 hf
    go_wp2_with fail
    go_loopw [5] (fun v wr=>∃ j:Nat,j<=l.length/\v=.int .i64 j/\Hid (OwnS wr w.heap.size (.slice ao l.length cp) l)/\Hid (Below w.heap.size w wr)) (fun v _=>l.length - (intOf v).toNat)
    case atStart=>exact⟨0,by omega,rfl,HO,hB⟩
    case round =>
     clear HO hB
     obtain⟨j,hj,rfl,HO,hB⟩:=hrel
     have c0:=HFC.out _ hB.out
     by_cases hjl:j<l.length
     · obtain⟨s,hs⟩:∃ s,l[j]?=some s:=⟨l[j],List.getElem?_eq_getElem hjl⟩
       obtain⟨a2,c2,hv2,-,-,hr⟩:=HO.out.1.lies encS
       injection hv2 with e1 e2 e3
       subst e1 e3
       obtain⟨b2,o2,rfl,hr2⟩:=hr.some (by omega)
       have d0:=Zbt hr2 hs
       have HD0:Hid (∀ w',Below wr.heap.size wr w'->w'.cell? ⟨b2,o2+j,none⟩=some (.string s)):=fun w' hb=>Zaa d0 hb
       clear hr hr2 hs
       have hd:decide ((j:Int)<(l.length:Int))=true:=by simpa using hjl
       go_upto_region 6 with fail
       go_quiet (fail)
       go_wp2_with fail
       all_goals first
        |(go_roundw;(case rel=>exact⟨j+1,by omega,by go_num,HO.out.kept (Zag (Below.refl _ _) _),Zag hB.out _⟩);(case measure=>simp[intOf];omega))
        |skip
       all_goals
        have c0:=HFC.out _ (Zag hB.out nq)
        have d0:=HD0.out _ (Zag (Below.refl _ _) nq)
        go_quiet (fail)
        go_upto_region 9 with fail
        all_goals first
         |(refine⟨⟨i+1,l,_,rfl,by omega,by go_num,⟨HO.out.kept (by repeat(first|exact Below.refl _ _|refine Zag ?_ _)),by omega⟩,(by repeat(first|exact hB.out|refine Zag ?_ _))⟩,?_⟩;(simp[intOf];omega))
         |skip
        all_goals
         refine Zam (fun V hV=>?_)
         have HOV:Hid (OwnS V w.heap.size (.slice (some ⟨b2,o2,none⟩) l.length cp) l):=by rw[hV];exact HO.out.kept (by repeat(first|exact Below.refl _ _|refine Zag ?_ _))
         have HBV:Hid (Below w.heap.size w V):=by rw[hV];repeat(first|exact hB.out|refine Zag ?_ _)
         clear hV
         have hcu:=fun w=>ZbY elS (some ⟨b2,o2,none⟩) l.length cp j (by omega) w
         obtain⟨A,hcf,hA1,hA2⟩:=ZbZ elS (some ⟨b2,o2,none⟩) l.length cp j hj
         have HLI:Hid (Zaf (fun s:ByteArray=>[Value.string s]) 1 V (some ⟨b2,o2,none⟩) l):=by
          obtain⟨a2,c2,hv2,-,-,hr⟩:=HOV.out.1.lies encS
          injection hv2 with e1 e2 e3
          subst e1
          exact hr
         have HLT:=hid (HLI.out.take j)
         have HLD:=hid (ZbH HLI.out hlc hA2)
         have HTL:Hid (j=(l.take j).length):=by show _=_;simp;omega
         have HDL:Hid (l.length - j=(l.drop j).length):=by show _=_;simp
         have HL1:Hid (([]:List ByteArray).length+(l.take j).length<=1000000000):=by show _<=_;simp;omega
         have HL2:Hid (([]++l.take j).length+[f.1].length<=1000000000):=by show _<=_;simp;omega
         have HL3:Hid (([]++l.take j++[f.1]).length+(l.drop j).length<=1000000000):=by show _<=_;simp;omega
         have HCD:Hid (A=none->cp - j=0):=fun e=>by have:=HCN.out (hA1 e);omega
         clear hA1 hA2
         have HO1:Hid (Own (fun s:ByteArray=>[Value.string s]) 1 9 V V.heap.size (.slice none 0 0) []):=Own.nil _ _
         go_wp2_with (at_builtin;first|(refine Zay elS encS rfl (.tmp 47) (.tmp 50) rfl rfl rfl HO1.out HLT.out HTL.out HCN.out (Nat.le_refl _) HL1.out ?_;intro v1 w1 ho hb;have HO2:=hid ho;have HX2:=hid hb;have c0:=HFC.out _ (HBV.out.trans (hb.mono HBV.out.size));clear ho hb)|(refine Zay elS encS rfl (.tmp 52) (.tmp 58) rfl rfl rfl (HO2.out.kept (Zab _)) (ZaG _ _ encS) rfl (fun e=>by cases e) (Nat.le_trans HX2.out.size (Zab _).size) HL2.out ?_;intro v2 w2 ho hb;have HO3:=hid ho;have HX3:Hid (Below V.heap.size V w2):=hid ((HX2.out.alloc HX2.out.size _).trans hb);clear ho hb)|(refine Zay elS encS rfl (.tmp 60) (.tmp 63) rfl rfl rfl HO3.out (HLD.out.kept HX3.out) HDL.out HCD.out HX3.out.size HL3.out ?_;intro v3 w3 ho hb;have HO4:=hid ho;have HX4:=hid (HX3.out.trans hb);clear ho hb))
         go_roundw
         case rel =>
          refine⟨i+1,[]++l.take j++[f.1]++l.drop j,_,rfl,by omega,by go_num,⟨⟨HO4.out.mono HBV.out.size,fun s hs=>?_⟩,?_⟩,HBV.out.trans (HX4.out.mono HBV.out.size)⟩
          · simp only[List.nil_append,List.mem_append,List.mem_singleton]at hs
            rcases hs with(hs|hs)|hs
            · exact HOV.out.2 s (List.mem_of_mem_take hs)
            · rw[hs];exact HFS.out
            · exact HOV.out.2 s (List.mem_of_mem_drop hs)
          · simp;omega
         case measure=>simp[intOf];omega
     · have hd:decide ((j:Int)<(l.length:Int))=false:=by simpa using hjl
       go_upto_region 6 with fail
       go_quiet (fail)
       go_wp2_with fail
       have c0:=HFC.out _ (Zag hB.out nq)
       go_quiet (fail)
       go_upto_region 9 with fail
       refine Zam (fun V hV=>?_)
       have HOV:Hid (OwnS V w.heap.size (.slice ao l.length cp) l):=by rw[hV];exact HO.out.kept (by repeat(first|exact Below.refl _ _|refine Zag ?_ _))
       have HBV:Hid (Below w.heap.size w V):=by rw[hV];repeat(first|exact hB.out|refine Zag ?_ _)
       clear hV
       have hcu:=fun w=>ZbY elS ao l.length cp j (by omega) w
       obtain⟨A,hcf,hA1,hA2⟩:=ZbZ elS ao l.length cp j hj
       have HLI:Hid (Zaf (fun s:ByteArray=>[Value.string s]) 1 V ao l):=by
        obtain⟨a2,c2,hv2,-,-,hr⟩:=HOV.out.1.lies encS
        injection hv2 with e1 e2 e3
        subst e1
        exact hr
       have HLT:=hid (HLI.out.take j)
       have HLD:=hid (ZbH HLI.out hlc hA2)
       have HTL:Hid (j=(l.take j).length):=by show _=_;simp;omega
       have HDL:Hid (l.length - j=(l.drop j).length):=by show _=_;simp
       have HL1:Hid (([]:List ByteArray).length+(l.take j).length<=1000000000):=by show _<=_;simp;omega
       have HL2:Hid (([]++l.take j).length+[f.1].length<=1000000000):=by show _<=_;simp;omega
       have HL3:Hid (([]++l.take j++[f.1]).length+(l.drop j).length<=1000000000):=by show _<=_;simp;omega
       have HCD:Hid (A=none->cp - j=0):=fun e=>by have:=HCN.out (hA1 e);omega
       clear hA1 hA2
       have HO1:Hid (Own (fun s:ByteArray=>[Value.string s]) 1 9 V V.heap.size (.slice none 0 0) []):=Own.nil _ _
       go_wp2_with (at_builtin;first|(refine Zay elS encS rfl (.tmp 47) (.tmp 50) rfl rfl rfl HO1.out HLT.out HTL.out HCN.out (Nat.le_refl _) HL1.out ?_;intro v1 w1 ho hb;have HO2:=hid ho;have HX2:=hid hb;have c0:=HFC.out _ (HBV.out.trans (hb.mono HBV.out.size));clear ho hb)|(refine Zay elS encS rfl (.tmp 52) (.tmp 58) rfl rfl rfl (HO2.out.kept (Zab _)) (ZaG _ _ encS) rfl (fun e=>by cases e) (Nat.le_trans HX2.out.size (Zab _).size) HL2.out ?_;intro v2 w2 ho hb;have HO3:=hid ho;have HX3:Hid (Below V.heap.size V w2):=hid ((HX2.out.alloc HX2.out.size _).trans hb);clear ho hb)|(refine Zay elS encS rfl (.tmp 60) (.tmp 63) rfl rfl rfl HO3.out (HLD.out.kept HX3.out) HDL.out HCD.out HX3.out.size HL3.out ?_;intro v3 w3 ho hb;have HO4:=hid ho;have HX4:=hid (HX3.out.trans hb);clear ho hb))
       go_roundw
       case rel =>
        refine⟨i+1,[]++l.take j++[f.1]++l.drop j,_,rfl,by omega,by go_num,⟨⟨HO4.out.mono HBV.out.size,fun s hs=>?_⟩,?_⟩,HBV.out.trans (HX4.out.mono HBV.out.size)⟩
        · simp only[List.nil_append,List.mem_append,List.mem_singleton]at hs
          rcases hs with(hs|hs)|hs
          · exact HOV.out.2 s (List.mem_of_mem_take hs)
          · rw[hs];exact HFS.out
          · exact HOV.out.2 s (List.mem_of_mem_drop hs)
        · simp;omega
       case measure=>simp[intOf];omega
  · go_wp2_with fail
    go_ret
    exact⟨_,l,rfl,HO.out,by omega,hB.out⟩
end Go.Proofs.YtfnpfkgmacaboaaGreat
