/- Texts joined by a program. -/
import Derived.Test.YtfnpfkgmacaboaaGreatM14
namespace Go.Proofs.YtfnpfkgmacaboaaGreat
open Lib (hid)
open Go.ChangeShapes Go.WideShapes Go.ChangeAt Go.RowKit
set_option linter.unusedVariables false
set_option linter.unusedSimpArgs false
set_option maxRecDepth 100000
set_option maxHeartbeats 4000000
def FewX (n:Nat)(x:Ex)(m:Int)(w0 w:World)(e:Ending)(w':World):Prop:=∃ r:Int,e=.returned (.int .i64 r)/\(0<=r->1<=m/\r<m/\∃ c:Nat,(c:Int)=m - r/\ExNd n c w0 x)/\Below w.heap.size w w'
theorem fewx_any:∀ (n:Nat) (x:Ex) (m:Int) (w w0:World),Below w0.heap.size w0 w->m<=1000->ExAt n w0 x->Calls Tryz.prog 134 #[x.val,.int .i64 m] w (FewX n x m w0 w)
 |0,_,_,_,_,_,_,h=>h.elim
 |n+1,⟨x_k,x_o,x_m,x_t,x_vk,x_vn,x_vs,x_ua,x_un,x_uc,x_p,x_wk,x_wz,x_xa,x_xn,x_xc⟩,m,w,w0,Oa,hm,h=>by
  have ih:=hid (fewx_any n)
  obtain⟨hu,hvs,xs,hxn,hxl,hl,hy⟩:=h
  have HU:=hid hu
  obtain⟨us,hun,hul,hus,Nd⟩:=hu
  dsimp only at hxn hl hun Nd hvs HU
  subst hxn hun
  have HL:=hid hl
  have Mb:=hid Nd
  have HYS:=hid hy
  have HVS:=hid hvs
  have Ja:=hid Oa
  have HM:=hid hm
  clear hl Nd hy hus hvs Oa
  dsimp only[Ex.val]
  go_enter Tryz.func134,Tryz.ntmps134
  go_upto_region 1 with fail
  refine Zan (fun V hV=>?_)
  have B0:Hid (Box V w.heap.size #[.int .i64 x_k,.string x_o,.string x_m,.string x_t,.int .i64 x_vk,.int .i64 x_vn,.string x_vs,.slice x_ua us.length x_uc,.int .i64 x_p,.int .i64 x_wk,.int .i64 x_wz,.slice x_xa xs.length x_xc] 42):=by rw[hV];exact Zb4 _ _ _
  have Aa:Hid (Below w.heap.size w V):=by rw[hV];exact(by repeat first|exact ZR _|refine ZA ?_ _)
  clear hV
  have HS:Hid (∀ w',Below V.heap.size V w'->w'.cell? ⟨w.heap.size,0,none⟩=some (.int .i64 x_k)/\w'.cell? ⟨w.heap.size,1,none⟩=some (.string x_o)/\w'.cell? ⟨w.heap.size,2,none⟩=some (.string x_m)/\w'.cell? ⟨w.heap.size,3,none⟩=some (.string x_t)/\w'.cell? ⟨w.heap.size,4,none⟩=some (.int .i64 x_vk)/\w'.cell? ⟨w.heap.size,5,none⟩=some (.int .i64 x_vn)/\w'.cell? ⟨w.heap.size,6,none⟩=some (.string x_vs)/\w'.cell? ⟨w.heap.size,7,none⟩=some (.slice x_ua us.length x_uc)/\w'.cell? ⟨w.heap.size,8,none⟩=some (.int .i64 x_p)/\w'.cell? ⟨w.heap.size,9,none⟩=some (.int .i64 x_wk)/\w'.cell? ⟨w.heap.size,10,none⟩=some (.int .i64 x_wz)/\w'.cell? ⟨w.heap.size,11,none⟩=some (.slice x_xa xs.length x_xc)):=fun w' h=>⟨(B0.out.kept h).cell 0 _ rfl,(B0.out.kept h).cell 1 _ rfl,(B0.out.kept h).cell 2 _ rfl,(B0.out.kept h).cell 3 _ rfl,(B0.out.kept h).cell 4 _ rfl,(B0.out.kept h).cell 5 _ rfl,(B0.out.kept h).cell 6 _ rfl,(B0.out.kept h).cell 7 _ rfl,(B0.out.kept h).cell 8 _ rfl,(B0.out.kept h).cell 9 _ rfl,(B0.out.kept h).cell 10 _ rfl,(B0.out.kept h).cell 11 _ rfl⟩
  obtain⟨Xa,Va,Ua,Rb,Vb,Dd,Cd,Bd,Ad,Te,Rc,Qc⟩:=HS.out V (ZR V)
  by_cases Sq:m<1
  · go_wp2_with fail
    go_ret
    exact⟨_,rfl,fun h=>absurd h (by decide),ZT Aa.out (ZR _)⟩
  · have Ip:IntKind.i64.wrap (m - 1)=m - 1:=IntWalk.i64_in _ (by omega)
    have Sv:decide (m<1)=false:=by simpa using Sq
    cases h3:decide ((300:Int)<wrap64 (wrap64 (wrap64 ((x_o.size:Int)+(x_m.size:Int))+(x_t.size:Int))+(x_vs.size:Int)))with
    |true =>
     go_wp2_with fail
     go_ret
     exact⟨_,rfl,fun h=>absurd h (by decide),ZT Aa.out (ZR _)⟩
    |false =>
    cases h4:decide ((10:Int)<(us.length:Int))with
    |true =>
     go_wp2_with fail
     go_ret
     exact⟨_,rfl,fun h=>absurd h (by decide),ZT Aa.out (ZR _)⟩
    |false =>
    cases h5:decide ((10:Int)<(xs.length:Int))with
    |true =>
     go_wp2_with fail
     go_ret
     exact⟨_,rfl,fun h=>absurd h (by decide),ZT Aa.out (ZR _)⟩
    |false =>
    have Kv:xs.length<=10:=by have:=of_decide_eq_false h5;omega
    go_wp2_with fail
    go_loop [5] (fun v=>∃ i:Nat,i<=us.length/\v=.int .i64 i) (fun v=>us.length - (intOf v).toNat)
    case atStart=>exact⟨0,by omega,rfl⟩
    case round =>
     obtain⟨i,hi,rfl⟩:=hrel
     by_cases hlt:i<us.length
     · obtain⟨f,hf⟩:∃ f,us[i]?=some f:=⟨us[i],List.getElem?_eq_getElem hlt⟩
       obtain⟨b1,o1,rfl,Da⟩:=(Mb.out.kept (Ja.out.trans (Aa.out.mono Ja.out.size))).some (by omega)
       have c0:V.cell? ⟨b1,o1+i*2,none⟩=some (.string f.1):=Da i f hf 0 _ rfl
       clear Da hf
       go_wp2_with fail
       all_goals first
        |(go_ret;exact⟨_,rfl,fun h=>absurd h (by decide),ZT Aa.out (ZR _)⟩)
        |(go_round;(case rel=>exact⟨i+1,by omega,by go_num⟩);(case measure=>simp[intOf];omega))
     · go_wp2_with fail
       go_loopw [1,6] (fun u v wr=>∃ (i:Nat) (s:Int),u=.int .i64 s/\i<=xs.length/\v=.int .i64 i/\s<m/\Hid (0<=s->∃ cs:List Nat,cs.length=i/\(cs.sum:Int)=m - 1 - s/\∀ (k:Nat) (y:Ex) (d:Nat),k<i->xs[k]?=some y->cs[k]?=some d->ExNd n d w0 y)/\Hid (Below V.heap.size V wr)) (fun _ v _=>xs.length - (intOf v).toNat)
       case atStart=>exact⟨0,m - 1,by go_num,by omega,rfl,by omega,fun _=>⟨[],rfl,by simp,fun k y d hk=>absurd hk (by omega)⟩,ZR V⟩
       case round =>
        clear hlt hi
        obtain⟨i,s,rfl,hi,rfl,hsm,HC,hB⟩:=hrel
        rename World=>wr
        have KK:=HS.out _ hB.out
        obtain⟨Xa,Va,Ua,Rb,Vb,Dd,Cd,Bd,Ad,Te,Rc,Qc⟩:=KK
        by_cases hlt:i<xs.length
        · obtain⟨y,hy⟩:∃ y,xs[i]?=some y:=⟨xs[i],List.getElem?_eq_getElem hlt⟩
          obtain⟨b1,o1,rfl,Da⟩:=(HL.out.kept (Ja.out.trans ((ZT Aa.out hB.out).mono Ja.out.size))).some (by omega)
          have Sh:Hid (∀ j v,(Ex.cells y)[j]?=some v->wr.cell? ⟨b1,o1+i*12+j,none⟩=some v):=fun j v hj=>Da i y hy j v hj
          have HY:=hid (HYS.out y (List.mem_of_getElem? hy))
          have HYI:=hid hy
          clear Da hy
          by_cases Im:0<=s
          · go_wp2_with (first|((with_reducible refine Zah 42 ?_);refine Za1 rfl 42 _ rfl b1 (o1+i*12) (Ex.cells y) rfl Sh.out _ Tryz.underlying42 rfl (by kernel_rfl) ?_;intro v hv;obtain rfl:=hv.out)|(go_at_call 134;refine(ih.out y s _ w0 (Ja.out.trans ((ZT Aa.out hB.out).mono Ja.out.size)) (by have:=HM.out;omega) HY.out).mono ?_;rintro e w' ⟨r,rfl,hr,hb⟩;have HR:=hid hr;have HW:Hid (Below V.heap.size V w'):=ZT hB.out hb;clear hb hr)|fail)
            go_roundw
            case rel =>
             refine⟨i+1,r,rfl,by omega,by go_num,?_,fun Ik=>?_,HW⟩
             · by_cases h:r<0
               · omega
               · have:=(HR.out (by omega)).2.1;omega
             · obtain⟨h1,h2,c,hc,hnd⟩:=HR.out Ik
               obtain⟨cs,g1,g2,g3⟩:=HC.out Im
               refine⟨cs++[c],by simp[g1],by simp;omega,fun k z d hk hz hd=>?_⟩
               by_cases e:k<i
               · rw[List.getElem?_append_left (by omega)]at hd
                 exact g3 k z d e hz hd
               · obtain rfl:k=i:=by omega
                 rw[HYI.out]at hz
                 injection hz with hz
                 subst hz
                 rw[List.getElem?_append_right (by omega),g1,Nat.sub_self]at hd
                 injection hd with hd
                 subst hd
                 exact hnd
            case measure=>simp[intOf];omega
          · have hs1:decide (0<=s)=false:=by simpa using Im
            go_wp2_with fail
            go_ret
            exact⟨_,rfl,fun h=>absurd h (by omega),ZT Aa.out hB.out⟩
        · go_wp2_with fail
          go_ret
          refine⟨s,rfl,fun h0=>?_,ZT Aa.out hB.out⟩
          obtain⟨cs,g1,g2,g3⟩:=HC.out h0
          refine⟨by omega,hsm,cs.sum+1,by simp;omega,HU.out,HVS.out,xs,cs,rfl,Kv,HL.out,by omega,Nat.le_refl _,fun k z d hz hd=>g3 k z d ?_ hz hd⟩
          have:=(List.getElem?_eq_some_iff.1 hz).1
          omega
end Go.Proofs.YtfnpfkgmacaboaaGreat
