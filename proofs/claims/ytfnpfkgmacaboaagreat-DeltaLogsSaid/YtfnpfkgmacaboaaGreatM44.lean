/- Texts joined by a program. -/
import Derived.Laws.MakeOwn
import Derived.Test.YtfnpfkgmacaboaaGreatM26
import Derived.Test.YtfnpfkgmacaboaaGreatM42
namespace Go.Proofs.YtfnpfkgmacaboaaGreat
open Lib (hid)
open Go.ChangeShapes Go.WideShapes Go.ChangeAt Go.RowKit
set_option linter.unusedVariables false
set_option linter.unusedSimpArgs false
set_option maxRecDepth 100000
set_option maxHeartbeats 4000000
section
variable {ops:Array Oper} {rest:List Oper} {o:Oper} {a:Act} {w:World} {Q:Exit->Act->World->Prop}
theorem wpList_mkI (hgd:o.guard=none)(x y:Operand)(ho:o.op=.makeSlice 101 x y)(n:Nat)(hx:a.eval x=.int .i64 (n:Int))(hy:a.eval y=.int .i64 (n:Int))(hn:n<=100000)
 (h:∀ w1,Own nC 1 3 w1 w.heap.size (.slice (some ⟨w.heap.size,0,none⟩) n n) (List.replicate n 0)->Below w.heap.size w w1->wpList Tryz.prog ops Q rest (a.put o.dst (.slice (some ⟨w.heap.size,0,none⟩) n n)) w1):wpList Tryz.prog ops Q (o :: rest) a w:=by
 obtain⟨i,z,hi,hz,hs,hb,-⟩:=elI.parts
 have Xc:z.cells=#[.int .i64 0]:=by
  have:(Tryz.prog.info? 3).map (fun i=>i.zero.map (fun z=>z.cells))=some (some #[.int .i64 0]):=by kernel_rfl
  rw[hi]at this
  simp[hz]at this
  exact this
 have hr:=run_make (P:=Tryz.prog) w 101 3 i z Tryz.underlying101 hi hz .i64 .i64 n n (by omega) (Int.le_refl _) (by rw[hb];omega) (by omega)
 simp only[Int.toNat_natCast]at hr
 refine wpList_plain hgd fun K hK=>?_
 unfold Oper.wp execOp
 simp only[ho,hx,hy]
 rw[Sem.run_bind,hr]
 refine hK _ _ (h _ ?_ (Zab _))
 have:=World.ownsRow_lit (e:=3) (size:=1) w (madeCells z.cells (n*i.size)) n (Nat.le_refl _) (by unfold maxLen;omega) (by rw[size_madeCells,hs])
 have e:(madeCells z.cells (n*i.size)).toList=encs nC (List.replicate n 0):=by
  rw[Xc,hs,Nat.mul_one,toList_madeCells_one]
  unfold encs
  rw[List.flatMap_replicate]
  simp[nC]
 unfold Own
 rw[List.length_replicate,<-e]
 exact this
theorem Zdn {P:Program}(hgd:o.guard=none)(x y:Operand)(ho:o.op=.store 3 x y)(hd:o.dst=none)(hi:(P.info? 3).map (·.size)=some 1)(g i n c B:Nat)(D:List Int)(u v:Int)(hx:a.eval x=.pointer (some ⟨g,i,none⟩))(hy:a.eval y=.int .i64 v)
 (hO:Own nC 1 3 w B (.slice (some ⟨g,0,none⟩) n c) D) (hu:D[i]?=some u) (w0:World) (hB0:Below w0.heap.size w0 w) (Oa:w0.heap.size<=B)
 (h:∀ w',Own nC 1 3 w' B (.slice (some ⟨g,0,none⟩) n c) (D.set i v)->Below w0.heap.size w0 w'->wpList P ops Q rest a w'):wpList P ops Q (o :: rest) a w:=by
 have hlt:=(List.getElem?_eq_some_iff.1 hu).1
 obtain⟨g',he,He,Ye,Gg⟩:=hO.setAt encI u v i 0 (.int .i64 v) hu (by decide) rfl
 injection he with he
 injection he with he
 subst he
 rcases hO.2 with⟨-,h0⟩|⟨g2,cap,cur,h1,h2,h3,h4,h5,h6,h7⟩
 · omega
 injection h1 with h1 h1n h1c
 injection h1 with h1
 injection h1 with h1
 subst h1
 refine wpList_plain hgd fun K hK=>Ze9 3 x y ho hd g i 3 cur (.int .i64 v) hx hy rfl rfl h3 hi (by simp at h6;omega) w0 hB0 (by omega) (fun w' hb hbe hot=>hK _ _ (h w' ?_ hbe))
 have e:w'.heap[g]?=(w.setCell ⟨g,i*1+0,none⟩ (.int .i64 v)).heap[g]?:=by
  rw[setCell_eq_setRow w g (i*1+0) cur 3 (0,0) (.int .i64 v) h3,Nat.mul_one,Nat.add_zero]
  exact(show w'.heap[g]?=_ from hb).trans (Box.setRow h3 _).symm
 exact Own.same Gg (fun k hk=>by injection hk with hk;rw[<-hk];exact e)
end
def StepsPost (R:List (List Int))(t:Int)(w:World)(e:Ending)(w':World):Prop:=∃ (a:Option Addr) (c:Nat) (D:List Int),e=.returned (.slice a R.length c)/\Zb6 R t D/\Zac nC 1 w' a D/\Below w.heap.size w w'
def memD (w:World)(g n:Nat):Nat:=((List.range n).map (fun i=>match w.cell? ⟨g,i,none⟩with|some (.int _ x)=>x.toNat|_=>0)).sum
theorem memD_own {w:World}{B g n c:Nat}{D:List Int}(h:Own nC 1 3 w B (.slice (some ⟨g,0,none⟩) n c) D):memD w g n=sumD D:=by
 obtain⟨a,c',he,-,-,hl⟩:=h.lies encI
 injection he with e1 e2 e3
 subst e1 e2
 unfold memD sumD
 congr 1
 refine List.ext_getElem (by simp) (fun i h1 h2=>?_)
 have hi:i<D.length:=by simpa using h2
 obtain⟨b,o,he,hr⟩:=hl.some (by omega)
 injection he with he
 injection he with e1 e2
 subst e1 e2
 have:=Zco (f:=fun x:Int=>.int .i64 x) (fun _=>rfl) hr (List.getElem?_eq_getElem hi)
 simp only[Nat.zero_add]at this
 simp[this]
theorem fill_step {n i:Nat}(hi:i<n):((List.replicate i (1000:Int))++List.replicate (n - i) 0).set i 1000=List.replicate (i+1) 1000++List.replicate (n - (i+1)) 0:=by
 rw[List.set_append_right _ _ (by simp)]
 simp only[List.length_replicate,Nat.sub_self]
 rw[show n - i=(n - (i+1))+1 by omega,List.replicate_succ,List.set_cons_zero,List.replicate_succ']
 simp
theorem own_cell {w:World}{B g n c:Nat}{D:List Int}(h:Own nC 1 3 w B (.slice (some ⟨g,0,none⟩) n c) D){i:Nat}{x:Int}(hx:D[i]?=some x):w.cell? ⟨g,i,none⟩=some (.int .i64 x):=by
 obtain⟨a,c',he,-,-,hl⟩:=h.lies encI
 injection he with e1 e2 e3
 subst e1 e2
 have hi:=(List.getElem?_eq_some_iff.1 hx).1
 obtain⟨b,o,he,hr⟩:=hl.some (by omega)
 injection he with he
 injection he with e1 e2
 subst e1 e2
 have:=Zco (f:=fun x:Int=>.int .i64 x) (fun _=>rfl) hr hx
 simpa using this
theorem Zdy.next {R:List (List Int)}{t:Int}{D:List Int}{i:Nat}{r:List Int}(h:Zdy R t D i)(hr:R[i]?=some r)(h2:∀ x y j,D[i]?=some x->j<r.length->r[j]?=some y->FixAt t D x y):Zdy R t D (i+1):=by
 intro j x s hj hx hs y hy
 by_cases e:j=i
 · subst e
   rw[hr]at hs
   injection hs with hs
   subst hs
   obtain⟨q,hq,rfl⟩:=List.mem_iff_getElem.1 hy
   exact h2 x _ q hx hq (List.getElem?_eq_getElem hq)
 · exact h j x s (by omega) hx hs y hy
theorem steps_any (R:List (List Int))(a:Option Addr)(c:Nat)(t:Int)(hR:R.length<=1000)(w:World)(h:GrR w R a):Calls Tryz.prog 194 #[.slice a R.length c,.int .i64 t] w (StepsPost R t w):=by
 have H:=hid h
 clear h
 go_enter Tryz.func194,Tryz.ntmps194
 go_upto_region 2 with(first|(refine wpList_mkI rfl _ _ rfl R.length rfl rfl (by omega) ?_;intro w1 ho hb;have HO:=hid ho;have HW:=hid hb;clear ho hb)|fail)
 go_wp2_with fail
 go_loopw [6] (fun v wr=>∃ i:Nat,i<=R.length/\v=.int .i64 i/\Hid (Own nC 1 3 wr w.heap.size (.slice (some ⟨w.heap.size,0,none⟩) R.length R.length) (List.replicate i 1000++List.replicate (R.length - i) 0))/\Hid (Below w.heap.size w wr)) (fun v _=>R.length - (intOf v).toNat)
 case atStart=>exact⟨0,by omega,rfl,by simpa using HO,HW⟩
 case round =>
  clear HO HW
  obtain⟨i,hi,rfl,HO,HW⟩:=hrel
  by_cases hlt:i<R.length
  · have HX:Hid ((List.replicate i (1000:Int)++List.replicate (R.length - i) 0)[i]?=some 0):=by
      show _=_
      rw[List.getElem?_append_right (by simp)]
      simp[List.getElem?_replicate]
      omega
    have hfs:=fill_step hlt
    go_wp2_with (first|(refine Zdn rfl _ _ rfl rfl (by kernel_rfl) w.heap.size i R.length R.length w.heap.size _ 0 1000 rfl rfl HO.out HX.out w HW.out (Nat.le_refl _) ?_;intro w5 ho hb;have Fb:=hid ho;have Wb:=hid hb;clear ho hb)|fail)
    go_roundw
    case rel=>exact⟨i+1,by omega,by go_num,by rw[<-hfs];exact Fb,Wb⟩
    case measure=>simp[intOf];omega
  · obtain rfl:i=R.length:=by omega
    have Fn:Hid (StepI R t (List.replicate R.length 1000++List.replicate (R.length - R.length) 0)):=by
     show StepI _ _ _
     simp only[Nat.sub_self,List.replicate_zero,List.append_nil]
     exact StepI.start R t
    generalize List.replicate R.length (1000:Int)++List.replicate (R.length - R.length) 0=D0 at *
    go_wp2_with fail
    go_loopw [7] (fun v wr=>∃ (b:Bool) (D:List Int),v=.bool b/\Hid (Own nC 1 3 wr w.heap.size (.slice (some ⟨w.heap.size,0,none⟩) R.length R.length) D)/\Hid (StepI R t D)/\Hid (b=false->Zdy R t D R.length)/\Hid (Below w.heap.size w wr)) (fun v wr=>2*memD wr w.heap.size R.length+(match v with|.bool true=>1|_=>0))
    case atStart=>exact⟨true,D0,rfl,HO,Fn,(fun e=>by cases e),HW⟩
    case round =>
     clear HO HW Fn
     obtain⟨b,D,rfl,HO,HI,HF,HW⟩:=hrel
     cases b
     · have Bq:=hid (HF.out rfl)
       clear HF
       go_wp2_with fail
       go_ret
       obtain⟨a',c',he,-,-,hl⟩:=HO.out.lies encI
       injection he with e1 e2 e3
       subst e1
       exact⟨_,_,D,rfl,⟨HI.out,Bq.out⟩,hl,HW.out⟩
     · rename World=>wr
       have HMD:Hid (memD wr w.heap.size R.length=sumD D):=memD_own HO.out
       go_wp2_with fail
       go_loopw [7,8] (fun v jj w2=>∃ (b2:Bool) (D2:List Int) (i:Nat),v=.bool b2/\jj=.int .i64 i/\i<=R.length/\Hid (Own nC 1 3 w2 w.heap.size (.slice (some ⟨w.heap.size,0,none⟩) R.length R.length) D2)/\Hid (StepI R t D2)/\Hid (b2=false->D2=D/\Zdy R t D i)/\Hid (b2=true->sumD D2<sumD D)/\Hid (Below w.heap.size w w2)) (fun _ jj _=>R.length - (intOf jj).toNat)
       case atStart=>exact⟨false,D,0,rfl,rfl,by omega,HO,HI,(fun _=>⟨rfl,fun i x r hi=>by omega⟩),(fun e=>by cases e),HW⟩
       case round =>
        clear HO HW HI HF
        obtain⟨b2,D2,i,rfl,rfl,hi,HO,HI,HF,HS,HW⟩:=hrel
        by_cases hir:i<R.length
        · obtain⟨r,hr⟩:∃ r,R[i]?=some r:=⟨R[i],List.getElem?_eq_getElem hir⟩
          obtain⟨hrl,hrx⟩:=H.out.ok r (List.mem_of_getElem? hr)
          obtain⟨br,orr,ar,cr,rfl,hc,hl⟩:=H.out.row hr
          have Kb:Hid (∀ w',Below w.heap.size w w'->w'.cell? ⟨br,orr+i,none⟩=some (.slice ar r.length cr)/\Zac nC 1 w' ar r):=fun w' hb=>⟨Zaa hc hb,hl.kept hb⟩
          have Th:=hid hrx
          have Lh:=hid hr
          clear hc hl hrx hr
          go_wp2_with fail
          go_loopw [7,9] (fun v jj w3=>∃ (b3:Bool) (D3:List Int) (k:Nat),v=.bool b3/\jj=.int .i64 k/\k<=r.length/\Hid (Own nC 1 3 w3 w.heap.size (.slice (some ⟨w.heap.size,0,none⟩) R.length R.length) D3)/\Hid (StepI R t D3)/\Hid (b3=false->D3=D/\Zdy R t D i/\∀ x y j,D[i]?=some x->j<k->r[j]?=some y->FixAt t D x y)/\Hid (b3=true->sumD D3<sumD D)/\Hid (Below w.heap.size w w3)) (fun _ jj _=>r.length - (intOf jj).toNat)
          case atStart=>exact⟨b2,D2,0,rfl,rfl,by omega,HO,HI,(fun e=>⟨(HF.out e).1,(HF.out e).2,fun x y j _ hj=>by omega⟩),HS,HW⟩
          case round =>
           clear HO HW HI HF HS
           obtain⟨b3,D3,k,rfl,rfl,hk,HO,HI,HF,HS,HW⟩:=hrel
           have d0:=(Kb.out _ HW.out).1
           by_cases hkr:k<r.length
           · obtain⟨y,hy⟩:∃ y,r[k]?=some y:=⟨r[k],List.getElem?_eq_getElem hkr⟩
             have hyx:=Th.out y (List.mem_of_getElem? hy)
             obtain⟨b2',o2',rfl,Bb⟩:=(Kb.out _ HW.out).2.some (by omega)
             have d1:=Zco (f:=fun x:Int=>.int .i64 x) (fun _=>rfl) Bb hy
             have hDl:=HI.out.len
             obtain⟨z,hz⟩:∃ z,D3[y.toNat]?=some z:=⟨D3[y.toNat]'(by omega),List.getElem?_eq_getElem _⟩
             obtain⟨x,hx⟩:∃ x,D3[i]?=some x:=⟨D3[i]'(by omega),List.getElem?_eq_getElem _⟩
             have d2:=own_cell HO.out hz
             have d3:=own_cell HO.out hx
             have Ea:=HI.out.low _ z hz
             have Ff:=HI.out.low _ x hx
             have HX:=hid hx
             have HZ:=hid hz
             have HY:=hid hy
             clear Bb hy hz hx hDl
             have hle:sumD D3<=sumD D:=by
              cases b3
              · rw[(HF.out rfl).1];exact Nat.le_refl _
              · exact Nat.le_of_lt (HS.out rfl)
             obtain⟨Hq,Gp⟩:=hyx
             by_cases Ij:y=t
             all_goals
              have hyt:=hid Ij
             · have e1:(y==t)=true:=by simpa using Ij
               clear Ij
               by_cases hn:1<x
               · have e2:decide ((1:Int)<x)=true:=by simpa using hn
                 have HP:=hid (HI.out.put HX.out Lh.out (List.mem_of_getElem? HY.out) hn (Or.inl ⟨hyt.out,rfl⟩))
                 have Gw:Hid (sumD (D3.set i (1))<sumD D):=by
                  show _<_
                  have:=sumD_put HX.out hn (by omega)
                  omega
                 go_wp2_with (first|(refine Zdn rfl _ _ rfl rfl (by kernel_rfl) w.heap.size i R.length R.length w.heap.size _ x 1 rfl rfl HO.out HX.out w HW.out (Nat.le_refl _) ?_;intro w5 ho hb;have Fb:=hid ho;have Wb:=hid hb;clear ho hb)|fail)
                 go_roundw
                 case rel=>exact⟨true,_,k+1,rfl,by go_num,by omega,Fb,HP,(fun e=>by cases e),(fun _=>Gw.out),Wb⟩
                 case measure=>simp[intOf];omega
               · have e2:decide ((1:Int)<x)=false:=by simpa using hn
                 go_wp2_with fail
                 go_roundw
                 case rel =>
                  refine⟨b3,D3,k+1,rfl,by go_num,by omega,HO,HI,(fun e=>⟨(HF.out e).1,(HF.out e).2.1,fun x' y' j hx' hj hy'=>?_⟩),HS,HW⟩
                  by_cases ej:j=k
                  · subst ej
                    obtain rfl:y=y':=by have:=HY.out;rw[hy']at this;injection this with this;exact this.symm
                    obtain rfl:x=x':=by have:=HX.out;rw[(HF.out e).1,hx']at this;injection this with this;exact this.symm
                    exact⟨fun _=>by omega,fun q=>absurd hyt.out q⟩
                  · exact(HF.out e).2.2 x' y' j hx' (by omega) hy'
                 case measure=>simp[intOf];omega
             · have e1:(y==t)=false:=by simpa using Ij
               clear Ij
               have ws:IntKind.i64.wrap (z+1)=z+1:=IntWalk.i64_in _ (by omega)
               by_cases hn:z+1<x
               · have e2:decide ((z+1:Int)<x)=true:=by simpa using hn
                 have HP:=hid (HI.out.put HX.out Lh.out (List.mem_of_getElem? HY.out) hn (Or.inr ⟨hyt.out,z,HZ.out,rfl⟩))
                 have Gw:Hid (sumD (D3.set i (z+1))<sumD D):=by
                  show _<_
                  have:=sumD_put HX.out hn (by omega)
                  omega
                 go_wp2_with (first|(refine Zdn rfl _ _ rfl rfl (by kernel_rfl) w.heap.size i R.length R.length w.heap.size _ x (z+1) rfl rfl HO.out HX.out w HW.out (Nat.le_refl _) ?_;intro w5 ho hb;have Fb:=hid ho;have Wb:=hid hb;clear ho hb)|fail)
                 go_roundw
                 case rel=>exact⟨true,_,k+1,rfl,by go_num,by omega,Fb,HP,(fun e=>by cases e),(fun _=>Gw.out),Wb⟩
                 case measure=>simp[intOf];omega
               · have e2:decide ((z+1:Int)<x)=false:=by simpa using hn
                 go_wp2_with fail
                 go_roundw
                 case rel =>
                  refine⟨b3,D3,k+1,rfl,by go_num,by omega,HO,HI,(fun e=>⟨(HF.out e).1,(HF.out e).2.1,fun x' y' j hx' hj hy'=>?_⟩),HS,HW⟩
                  by_cases ej:j=k
                  · subst ej
                    obtain rfl:y=y':=by have:=HY.out;rw[hy']at this;injection this with this;exact this.symm
                    obtain rfl:x=x':=by have:=HX.out;rw[(HF.out e).1,hx']at this;injection this with this;exact this.symm
                    exact⟨fun q=>absurd q hyt.out,fun _ u hu=>by have:=HZ.out;rw[(HF.out e).1,hu]at this;injection this with this;omega⟩
                  · exact(HF.out e).2.2 x' y' j hx' (by omega) hy'
                 case measure=>simp[intOf];omega
           · go_wp2_with fail
             go_roundw
             case rel=>exact⟨b3,D3,i+1,rfl,by go_num,by omega,HO,HI,(fun e=>⟨(HF.out e).1,(HF.out e).2.1.next Lh.out (fun x y j hx hj hy=>(HF.out e).2.2 x y j hx (by omega) hy)⟩),HS,HW⟩
             case measure=>simp[intOf];omega
        · obtain rfl:i=R.length:=by omega
          rename World=>w2
          have Vw:Hid (memD w2 w.heap.size R.length=sumD D2):=memD_own HO.out
          go_wp2_with fail
          go_roundw
          case rel=>exact⟨b2,D2,rfl,HO,HI,(fun e=>by have:=HF.out e;rw[this.1];exact this.2),HW⟩
          case measure =>
           have h1:=HMD.out
           have h2:=Vw.out
           cases b2
           · have:=(HF.out rfl).1
             subst this
             simp[h1,h2]
           · have:=HS.out rfl
             simp[h1,h2]
             omega
end Go.Proofs.YtfnpfkgmacaboaaGreat
