/- Texts joined by a program. -/
import Derived.Test.YtfnpfkgmacaboaaGreatM14
import Derived.Test.YtfnpfkgmacaboaaGreatM24
namespace Go.Proofs.YtfnpfkgmacaboaaGreat
open Lib (hid)
open Go.ChangeShapes Go.WideShapes Go.ChangeAt Go.RowKit
set_option linter.unusedVariables false
set_option linter.unusedSimpArgs false
set_option maxRecDepth 100000
set_option maxHeartbeats 4000000
open Go.Proofs.YtfnpfkgmacaboaaGreatEx (whi wlo ZcT refAdd_any ZdQ norm Zfh Zb2 upq_ge absI upq)
def WideAt (g:Nat)(w:World)(a:Int):Prop:=Box w g #[.int .i64 (whi a),.int .u64 (wlo a)] 273
theorem divRes_one (N:Int):∃ q o,Zfh N 1=.tuple #[.int .i64 q,.bool o]/\I64 q:=by
 unfold Zfh
 rw[if_neg (by decide)]
 have h0:0<=upq (absI N) (absI 1):=by
  have h1:=upq_ge (absI N) (absI 1)
  have h2:absI 1=1:=rfl
  have h3:0<=absI N:=by unfold absI;split<;>omega
  rw[h2]at h1 ⊢
  rw[Int.ediv_one]at h1
  omega
 generalize upq (absI N) (absI 1)=n at *
 unfold Zb2
 split
 · exact⟨_,_,rfl,by unfold I64;omega⟩
 · refine⟨_,_,rfl,?_⟩
   unfold I64
   split<;>omega
theorem exponent_det (us:List FID)(s:ByteArray):∃ (x:Int) (b:Bool),I64 x/\∀ (a:Option Addr) (c:Nat) (w:World),UnIs w a us->Calls Tryz.prog 237 #[.slice a us.length c,.string s] w fun e w'=>e=.returned (.tuple #[.int .i64 x,.bool b])/\Below w.heap.size w w':=by
 obtain⟨X,hX⟩:∃ X,X=us.foldl (fun x f=>if (f.1.toList==s.toList)=true then x+f.2 else x) 0:=⟨_,rfl⟩
 obtain⟨q,o,hqo,Jq⟩:=divRes_one (norm X)
 obtain⟨fr,hfr⟩:=far_det q
 obtain⟨rb,hrb⟩:∃ rb,rb=(o&&!fr):=⟨_,rfl⟩
 obtain⟨rx,hrx⟩:∃ rx:Int,rx=(if rb=true then q else 0):=⟨_,rfl⟩
 refine⟨rx,rb,by rw[hrx];split;exact Jq;(unfold I64;omega),fun a c w h=>?_⟩
 have HXE:=hid hX
 have Tu:=hid hqo
 have Bv:=hid hfr
 have Ka:=hid hrb
 have Th:=hid hrx
 clear hX hqo hfr hrb hrx Jq
 obtain⟨hu,hs,h1⟩:=h
 have H:=hid h1
 have Qg:=hid hs
 clear h1 hs
 go_enter Tryz.func237,Tryz.ntmps237
 go_upto_region 2 with(first|(go_at_call 238;refine(ZcT 0 _ (by decide) (by decide)).mono ?_;rintro e w' ⟨rfl,hb⟩;have Ja:Hid (Below w.heap.size w w'):=hb;clear hb)|(refine Zba rfl rfl 273 (.tmp 6) (.tmp 10) rfl rfl rfl [.int .i64 (whi 0),.int .u64 (wlo 0)] rfl rfl (by kernel_rfl) (List.all_eq_true.1 (by rfl)) ?_)|fail)
 refine Zan (fun V hV=>?_)
 obtain⟨g,hg⟩:∃ g,g=w'.heap.size:=⟨_,rfl⟩
 have B0:Hid (WideAt g V 0):=by rw[hV,hg];exact Zb4 ..
 have Aa:Hid (Below w.heap.size w V):=by rw[hV];exact ZA Ja.out _
 have HG:Hid (w.heap.size<=g):=by rw[hg];exact Ja.out.size
 have Gi:Hid (g<V.heap.size):=by show _<_;rw[hV,hg];simp
 clear hV
 rw[<-hg]
 clear hg Ja
 go_wp2_with fail
 go_loopw [7] (fun v wr=>∃ (i:Nat) (x:Int),i<=us.length/\v=.int .i64 i/\Hid (WideAt g wr x)/\Hid (X=(us.drop i).foldl (fun x f=>if (f.1.toList==s.toList)=true then x+f.2 else x) x)/\Hid (Below w.heap.size w wr)) (fun v _=>us.length - (intOf v).toNat)
 case atStart=>exact⟨0,0,by omega,rfl,B0,HXE,Aa⟩
 case round =>
  obtain⟨i,x,hi,rfl,HX,Fn,hB⟩:=hrel
  have x0:=HX.out.cell 0 _ rfl
  have x1:=HX.out.cell 1 _ rfl
  by_cases hlt:i<us.length
  · obtain⟨f,hf⟩:∃ f,us[i]?=some f:=⟨us[i],List.getElem?_eq_getElem hlt⟩
    obtain⟨b1,o1,rfl,Da⟩:=(H.out.kept hB.out).some (by omega)
    obtain⟨c0,c1⟩:=Za2 Da hf
    have HI:=hid (Qg.out f (List.mem_of_getElem? hf)).2
    have We:Hid ((f.1.toList==s.toList)=true->X=(us.drop (i+1)).foldl (fun x f=>if (f.1.toList==s.toList)=true then x+f.2 else x) (x+f.2)):=fun e=>by rw[Fn.out,ZaD hf,List.foldl_cons,if_pos e]
    have Ab:Hid ((f.1.toList==s.toList)=false->X=(us.drop (i+1)).foldl (fun x f=>if (f.1.toList==s.toList)=true then x+f.2 else x) x):=fun e=>by rw[Fn.out,ZaD hf,List.foldl_cons,if_neg (by rw[e];decide)]
    clear Da hf Fn
    have hq:putC #[.int .i64 (whi x),.int .u64 (wlo x)] 0 [.int .i64 (whi (x+f.2)),.int .u64 (wlo (x+f.2))]=#[.int .i64 (whi (x+f.2)),.int .u64 (wlo (x+f.2))]:=by simp only[putC,List.setIfInBounds_toArray,List.set_cons_zero,List.set_cons_succ]
    have HQ:=hid hq
    clear hq
    go_wp2_with fail
    all_goals first
     |(go_roundw;(case rel=>exact⟨i+1,x,by omega,by go_num,HX,Ab.out (by simp_all),hB⟩);(case measure=>simp[intOf];omega))
     |skip
    all_goals
     have Cn:=hid (We.out (by simp_all))
     have y0:∀ d os,(Go.Sort.grow (redrawn wr d) os).cell? ⟨g,0,none⟩=some (.int .i64 (whi x)):=fun d os=>cell_regrown x0 d os
     have y1:∀ d os,(Go.Sort.grow (redrawn wr d) os).cell? ⟨g,1,none⟩=some (.int .u64 (wlo x)):=fun d os=>cell_regrown x1 d os
     have z1:∀ d os,(Go.Sort.grow (redrawn wr d) os).cell? ⟨b1,o1+i*2+1,none⟩=some (.int .i64 f.2):=fun d os=>cell_regrown c1 d os
     have D0:=hid (fun d os=>Calls.regrown_of (ZcT f.2 (Go.Sort.grow (redrawn wr d) os) HI.out.1 (by have:=HI.out.2;omega)))
     refine ZbL 7 (by kernel_rfl) (by kernel_rfl) ?_
     simp only[List.take_succ_cons,List.take_zero,List.drop_succ_cons,List.drop_zero]
     repeat(go_big_quiet_step (first|with_reducible exact D0.out _ _))
     refine wpQuiet_nil ?_
     intro _ hw'
     obtain⟨p,hw''⟩:=hw'
     subst hw''
     have HZ:Hid (Below wr.heap.size wr (Go.Sort.grow (redrawn wr p.d) p.os)):=below_regrown wr p.d p.os
     generalize Go.Sort.grow (redrawn wr p.d) p.os=V2 at *
     clear y0 y1 z1 D0
     go_wp2_with (first
      |(go_at_call 239;refine(refAdd_any x f.2 _).mono ?_;rintro e w3 ⟨rfl,hb⟩;have Yg:Hid (Below wr.heap.size wr w3):=ZT HZ.out hb;have Qa:Hid (WideAt g w3 x):=HX.out.kept Yg.out;clear hb)
      |(refine ZbT rfl 273 (.tmp 6) (.tmp 31) rfl rfl g 0 273 #[.int .i64 (whi x),.int .u64 (wlo x)] [.int .i64 (whi (x+f.2)),.int .u64 (wlo (x+f.2))] rfl rfl Qa.out (by kernel_rfl) (Nat.le_of_ble_eq_true rfl) (by rfl) w (ZT hB.out Yg.out) HG.out ?_;rw[HQ.out];intro w4 hby hyb;have HY:Hid (Below w.heap.size w w4):=hyb;have BY:Hid (WideAt g w4 (x+f.2)):=hby;clear hyb hby)
      |fail)
     go_roundw
     case rel=>exact⟨i+1,x+f.2,by omega,by go_num,BY,Cn,HY⟩
     case measure=>simp[intOf];omega
  · obtain rfl:X=x:=by rw[Fn.out,List.drop_of_length_le (by omega)];rfl
    clear Fn HXE
    go_wp2_with (first|(go_at_call 240;refine(ZdQ X 1 (by decide) (by decide) _).mono ?_;rw[Tu.out];rintro e w' ⟨rfl,hb⟩;have HW:Hid (Below w.heap.size w w'):=ZT hB.out hb;clear hb;cases o)|(go_at_call 210;refine(Bv.out _).mono ?_;rintro e w9 ⟨rfl,hb⟩;have Zf:Hid (Below w.heap.size w w9):=ZT HW.out hb;clear hb;cases fr)|fail)
    all_goals
     go_ret2
     exact⟨by rw[Th.out,Ka.out];rfl,(by first|exact Zf.out|exact HW.out)⟩
end Go.Proofs.YtfnpfkgmacaboaaGreat
