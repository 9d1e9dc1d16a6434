/- Texts joined by a program. -/
import Derived.Test.YtfnpfkgmacaboaaGreatM36
namespace Go.Proofs.YtfnpfkgmacaboaaGreat
open Lib (hid)
open Go.ChangeShapes Go.WideShapes Go.ChangeAt Go.RowKit
set_option linter.unusedVariables false
set_option linter.unusedSimpArgs false
set_option maxRecDepth 100000
set_option maxHeartbeats 4000000
section
variable {P:Program} {α:Type} {enc:α->List Value} {k bytes:Nat} {e t:TypeId} {w:World} {B:Nat} {o:Oper} {a:Act} {K:Act->World->Prop} {Q:Exit->Act->World->Prop}
theorem op_lit0 (E:El P e t k bytes)(ho:o.op=.buildSlice t 0 #[])(hrun:(Instr.buildSlice t 0 #[]).run P w=.ok (.slice (some ⟨w.heap.size,0,none⟩) 0 0) (w.alloc (.cells #[] e)))(hB:B<=w.heap.size)
 (h:∀ g w',Own enc k e w' B (.slice (some ⟨g,0,none⟩) 0 0) []->g=w.heap.size->g<w'.heap.size->Below w.heap.size w w'->K (a.put o.dst (.slice (some ⟨g,0,none⟩) 0 0)) w'):o.wp P a w K Q:=by
 unfold Oper.wp execOp
 simp only[ho]
 have:((#[]:Array (Nat × Operand)).map fun(i,x)=>(i,a.eval x))=#[]:=by simp
 rw[this,Sem.run_bind,hrun]
 exact h _ _ (Own.lit hB) rfl (by simp) (Zab _)
theorem lies_lit (y:α)(w:World)(hE:Enc enc k):Lies enc k (w.alloc (.cells (enc y).toArray e)) w.heap.size 0 [y]:=by
 rcases ZaG y w hE (e:=e)with h|⟨b,off,he,h⟩
 · cases h
 · cases he;exact h
theorem Zet (E:El P e t k bytes)(hE:Enc enc k)(s x:Operand){v:Value}{l m:List α}{ao:Option Addr}{n c:Nat}
 (ho:o.op=.call { callee:=.builtin .append,args:=#[s,x],argTypes:=#[t,t] }) (hs:a.eval s=v) (hx:a.eval x=.slice ao n c)
 (hO:Own enc k e w B v l) (hS:Zaf enc k w ao m) (hn:n=m.length) (hB:B<=w.heap.size) (hb0:0<bytes) (hl:(l.length+m.length)*bytes<=140737488355328)
 (h:∀ v' w1,Own enc k e w1 B v' (l++m)->Below B w w1->(∀ q,q<w.heap.size->v.ownBlock≠some q->w1.heap[q]?=w.heap[q]?)->K (a.put o.dst v') w1):o.wp P a w K Q:=by
 obtain⟨i,z,hi,hz0,hz1,hz2,hz3⟩:=E.parts
 have hpos:=E.pos
 have hfew:=E.few
 subst hn
 cases ao with
 |none =>
  have hk:m=[]:=by
   rcases hS with h|⟨_,_,h,_⟩
   · exact h
   · cases h
  subst hk
  have hrun:=Zce (P:=P) (w:=w) B t o.type e i k E.und hi v _ _ c hO
  have hx':a.eval x=.slice none 0 c:=hx
  unfold Oper.wp
  simp[execOp,ho,resolve,invoke,builtin,hs,hx',hrun,Result.andThen]
  exact h v w (by rw[List.append_nil];exact hO) (Below.refl _ _) (fun _ _ _=>rfl)
 |some ad =>
  have hcells:∀ j v,(encs enc m)[j]?=some v->w.cell? (ad.add j)=some v:=by
   intro j u hj
   rcases hS with rfl|⟨b,off,he,hr⟩
   · simp[encs]at hj
   · injection he with he;subst he
     rw[ZbM];exact hr.cells hE.len hpos j u hj
  have hbytes:=hl
  have hlm:l.length+m.length<=140737488355328:=Nat.le_trans (Nat.le_mul_of_pos_right _ hb0) hl
  refine wp_append_own w s x t ho B e i z k bytes E.und hi hz0 hz1 hz2 hz3 hpos v _ _ hs hO ad m.length c (encs enc m) hx (Zbc hE.len m) hcells (ZbI hE.one m) (by unfold maxLen;omega) hbytes hB ?_
  intro v' w1 hown hgr _
  refine h v' w1 ?_ ((Below.refl _ _).grown hgr hB (fun g hg=>(hO.lt g hg).1)) (fun q hq hne=>hgr.block q hq (Ne.symm hne))
  unfold Own
  rw[Zbd,List.length_append];exact hown
theorem op_litN (E:El P e t k bytes)(hE:Enc enc k)(hk:k<=1000)(x:Operand)(ho:o.op=.buildSlice t 1 #[(0,x)])(y:α)(hx:a.eval x=.agg (enc y).toArray)
 (h:∀ g w',Lies enc k w' g 0 [y]->g=w.heap.size->g<w'.heap.size->Below w.heap.size w w'->K (a.put o.dst (.slice (some ⟨g,0,none⟩) 1 1)) w'):o.wp P a w K Q :=
 Zfm E hk x ho (enc y) (hE.len y) hx (h _ _ (lies_lit y w hE) rfl (by simp) (Zab _))
end
def BehindPost (l:List En)(x:En)(w:World)(e:Ending)(w':World):Prop:=∃ (a:Option Addr) (c:Nat),e=.returned (.slice a (l.length+1) c)/\l.length+1<=c/\(a=none->c=0)/\Zaf En.cells 40 w' a (l++[x])/\Below w.heap.size w w'
theorem behind_any (l:List En)(ao:Option Addr)(c:Nat)(hl:(l.length+1)*528<=140737488355328)(x:En)(w:World)(h:Zaf En.cells 40 w ao l):Calls Tryz.prog 11 #[.slice ao l.length c,.agg x.cells.toArray] w (BehindPost l x w):=by
 have HL0:=hid h
 clear h
 have HL1:Hid ((([]:List En).length+l.length)*528<=140737488355328):=by show _<=_;simp;omega
 have HL2:Hid ((([]++l).length+[x].length)*528<=140737488355328):=by show _<=_;simpa using hl
 go_enter Tryz.func11,Tryz.ntmps11
 go_upto_region 1 with(first|(refine Za9 rfl 48 (.tmp 1) rfl x.cells rfl ?_)|fail)
 refine Zam (fun W hW=>?_)
 have HXB:Hid (Box W w.heap.size x.cells.toArray 48):=by rw[hW];exact ZaE _ _ _
 have HBV:Hid (Below w.heap.size w W):=by rw[hW];exact Zab _
 clear hW
 have HL:Hid (Zaf En.cells 40 W ao l):=HL0.out.kept HBV.out
 try simp only[Act.put,m1,m2,m3]
 refine ZaI (S:=fun w'=>Below W.heap.size W w') (.free 1 (.free 3 (.two 0 (.two 2 (.one 4 (.one 5 (.free 6 .done))) 4 (.one 2 (.one 5 (.free 6 .done)))) 4 (.one 0 (.one 2 (.one 5 (.free 6 .done))))))) (by kernel_rfl) (by kernel_rfl) (fun _ _ _ _ _ h=>h) (by kernel_rfl) (by kernel_rfl) (ZD (ZR W)) ?_
 refine Zac _ (.slice ao l.length c) rfl (by rfl) (by intro wq hSw;skip;go_simp) ?_
 try simp only[Act.put,m1,m2,m3]
 refine ZbV _ rfl (by rfl) 48 _ rfl w.heap.size 0 x.cells rfl (fun w hS j v hj=>by rw[Nat.zero_add];exact(HXB.out.kept hS).cell j v (by rw[List.getElem?_toArray];exact hj)) _ Tryz.underlying48 rfl (by kernel_rfl) ?_
 intro v3 hv3
 subst hv3
 try simp only[Act.put,m1,m2,m3]
 refine tr_two ?_ ?_
 · skip
   refine ZaN _ rfl (by rfl) (fun K hK=>?_)
   refine op_lit0 (enc:=En.cells) (B:=W.heap.size) elE rfl (by go_simp) ((ZD (ZR W))).size ?_
   intro g0 u0 ho hg0 hg0s hb
   have HO0:=hid ho
   clear ho
   have HX0:Hid (Below W.heap.size W u0):=((ZD (ZR W))).trans (hb.mono ((ZD (ZR W))).size)
   have HB0:=hid hb
   refine hK.out _ _ HX0.out (fun hHeld=>?_)
   clear hK K hb
   try simp only[Act.put,m1,m2,m3]
   refine tr_two ?_ ?_
   · skip
     refine ZaN _ rfl (by rfl) (fun K hK=>?_)
     refine Zet (B:=W.heap.size) elE encE (.tmp 5) (.tmp 6) (by rfl) (by rfl) (by rfl) HO0.out (HL.out.kept HX0.out) rfl (HX0.out).size (by decide) HL1.out ?_
     intro v2 u2 ho hb0 hot
     have HO2:=hid ho
     clear ho hot
     have HX2:Hid (Below W.heap.size W u2):=(HX0.out).trans hb0
     refine hK.out _ _ HX2.out (fun hHeld=>?_)
     clear hK K hb0
     try simp only[Act.put,m1,m2,m3]
     refine ZaN _ rfl (by rfl) (fun K hK=>?_)
     refine op_litN elE encE (by decide) _ rfl x rfl ?_
     intro g4 u4 hl hg4 hg4s hb
     have HN4:=hid hl
     clear hl
     have HX4:Hid (Below W.heap.size W u4):=(HX2.out).trans (hb.mono (HX2.out).size)
     have HB4:=hid hb
     refine hK.out _ _ HX4.out (fun hHeld=>?_)
     clear hK K hb
     try simp only[Act.put,m1,m2,m3]
     refine ZaN _ rfl (by rfl) (fun K hK=>?_)
     refine Zet (B:=W.heap.size) (m:=[x]) (n:=1) (c:=1) (ao:=some ⟨g4,0,none⟩) elE encE (.tmp 7) (.tmp 9) (by rfl) (by rfl) (by rfl) (HO2.out.kept HB4.out) (Or.inr ⟨g4,0,rfl,HN4.out⟩) rfl (HX4.out).size (by decide) HL2.out ?_
     intro v5 u5 ho hb0 _
     have HO5:=hid ho
     have HX5:Hid (Below W.heap.size W u5):=(HX4.out).trans hb0
     refine hK.out _ _ HX5.out (fun hHeld=>?_)
     clear hK K ho hb0
     try simp only[Act.put,m1,m2,m3]
     refine Zac _ (v5) rfl (by rfl) (by intro wq hSw;skip;go_simp) ?_
     try simp only[Act.put,m1,m2,m3]
     refine Zbb ?_
     obtain⟨a5,c5,rfl,h5a,h5b,h5⟩:=HO5.out.lies encE
     have h5l:(([]++l)++[x]).length=l.length+1:=by simp
     rw[List.nil_append]at h5l h5 h5a
     rw[List.nil_append,h5l]
     go_wp2_with fail
     go_ret
     exact⟨a5,c5,rfl,by rw[h5l]at h5a;exact h5a,h5b,h5,ZT HBV.out HX5.out⟩
   · skip
     refine ZaN _ rfl (by rfl) (fun K hK=>?_)
     refine op_litN elE encE (by decide) _ rfl x rfl ?_
     intro g4 u4 hl hg4 hg4s hb
     have HN4:=hid hl
     clear hl
     have HX4:Hid (Below W.heap.size W u4):=(HX0.out).trans (hb.mono (HX0.out).size)
     have HB4:=hid hb
     refine hK.out _ _ HX4.out (fun hHeld=>?_)
     clear hK K hb
     try simp only[Act.put,m1,m2,m3]
     refine ZaN _ rfl (by rfl) (fun K hK=>?_)
     refine Zet (B:=W.heap.size) elE encE (.tmp 5) (.tmp 6) (by rfl) (by rfl) (by rfl) (HO0.out.kept HB4.out) (HL.out.kept HX4.out) rfl (HX4.out).size (by decide) HL1.out ?_
     intro v2 u2 ho hb0 hot
     have HO2:=hid ho
     have HN4:Hid (Lies En.cells 40 u2 g4 0 [x]):=HN4.out.same (hot g4 (by omega) (by simp[Value.ownBlock];omega))
     clear ho hot
     have HX2:Hid (Below W.heap.size W u2):=(HX4.out).trans hb0
     refine hK.out _ _ HX2.out (fun hHeld=>?_)
     clear hK K hb0
     try simp only[Act.put,m1,m2,m3]
     refine ZaN _ rfl (by rfl) (fun K hK=>?_)
     refine Zet (B:=W.heap.size) (m:=[x]) (n:=1) (c:=1) (ao:=some ⟨g4,0,none⟩) elE encE (.tmp 7) (.tmp 9) (by rfl) (by rfl) (by rfl) HO2.out (Or.inr ⟨g4,0,rfl,HN4.out⟩) rfl (HX2.out).size (by decide) HL2.out ?_
     intro v5 u5 ho hb0 _
     have HO5:=hid ho
     have HX5:Hid (Below W.heap.size W u5):=(HX2.out).trans hb0
     refine hK.out _ _ HX5.out (fun hHeld=>?_)
     clear hK K ho hb0
     try simp only[Act.put,m1,m2,m3]
     refine Zac _ (v5) rfl (by rfl) (by intro wq hSw;skip;go_simp) ?_
     try simp only[Act.put,m1,m2,m3]
     refine Zbb ?_
     obtain⟨a5,c5,rfl,h5a,h5b,h5⟩:=HO5.out.lies encE
     have h5l:(([]++l)++[x]).length=l.length+1:=by simp
     rw[List.nil_append]at h5l h5 h5a
     rw[List.nil_append,h5l]
     go_wp2_with fail
     go_ret
     exact⟨a5,c5,rfl,by rw[h5l]at h5a;exact h5a,h5b,h5,ZT HBV.out HX5.out⟩
 · skip
   refine ZaN _ rfl (by rfl) (fun K hK=>?_)
   refine op_litN elE encE (by decide) _ rfl x rfl ?_
   intro g4 u4 hl hg4 hg4s hb
   have HN4:=hid hl
   clear hl
   have HX4:Hid (Below W.heap.size W u4):=((ZD (ZR W))).trans (hb.mono ((ZD (ZR W))).size)
   have HB4:=hid hb
   refine hK.out _ _ HX4.out (fun hHeld=>?_)
   clear hK K hb
   try simp only[Act.put,m1,m2,m3]
   refine ZaN _ rfl (by rfl) (fun K hK=>?_)
   refine op_lit0 (enc:=En.cells) (B:=W.heap.size) elE rfl (by go_simp) (HX4.out).size ?_
   intro g0 u0 ho hg0 hg0s hb
   have HO0:=hid ho
   clear ho
   have HX0:Hid (Below W.heap.size W u0):=(HX4.out).trans (hb.mono (HX4.out).size)
   have HB0:=hid hb
   refine hK.out _ _ HX0.out (fun hHeld=>?_)
   clear hK K hb
   try simp only[Act.put,m1,m2,m3]
   refine ZaN _ rfl (by rfl) (fun K hK=>?_)
   refine Zet (B:=W.heap.size) elE encE (.tmp 5) (.tmp 6) (by rfl) (by rfl) (by rfl) HO0.out (HL.out.kept HX0.out) rfl (HX0.out).size (by decide) HL1.out ?_
   intro v2 u2 ho hb0 hot
   have HO2:=hid ho
   have HN4:Hid (Lies En.cells 40 u2 g4 0 [x]):=(HN4.out.kept HB0.out).same (hot g4 (by have:=HB0.out.size;omega) (by simp[Value.ownBlock];omega))
   clear ho hot
   have HX2:Hid (Below W.heap.size W u2):=(HX0.out).trans hb0
   refine hK.out _ _ HX2.out (fun hHeld=>?_)
   clear hK K hb0
   try simp only[Act.put,m1,m2,m3]
   refine ZaN _ rfl (by rfl) (fun K hK=>?_)
   refine Zet (B:=W.heap.size) (m:=[x]) (n:=1) (c:=1) (ao:=some ⟨g4,0,none⟩) elE encE (.tmp 7) (.tmp 9) (by rfl) (by rfl) (by rfl) HO2.out (Or.inr ⟨g4,0,rfl,HN4.out⟩) rfl (HX2.out).size (by decide) HL2.out ?_
   intro v5 u5 ho hb0 _
   have HO5:=hid ho
   have HX5:Hid (Below W.heap.size W u5):=(HX2.out).trans hb0
   refine hK.out _ _ HX5.out (fun hHeld=>?_)
   clear hK K ho hb0
   try simp only[Act.put,m1,m2,m3]
   refine Zac _ (v5) rfl (by rfl) (by intro wq hSw;skip;go_simp) ?_
   try simp only[Act.put,m1,m2,m3]
   refine Zbb ?_
   obtain⟨a5,c5,rfl,h5a,h5b,h5⟩:=HO5.out.lies encE
   have h5l:(([]++l)++[x]).length=l.length+1:=by simp
   rw[List.nil_append]at h5l h5 h5a
   rw[List.nil_append,h5l]
   go_wp2_with fail
   go_ret
   exact⟨a5,c5,rfl,by rw[h5l]at h5a;exact h5a,h5b,h5,ZT HBV.out HX5.out⟩
end Go.Proofs.YtfnpfkgmacaboaaGreat
