/- Texts joined by a program. -/
import Derived.Great.FillDense
import Derived.Test.YtfnpfkgmacaboaaGreatM27
namespace Go.Proofs.YtfnpfkgmacaboaaGreat
open Go.Proofs.Tryz
open Lib (hid)
open Go.ChangeShapes Go.WideShapes Go.ChangeAt Go.RowKit Go.Maps
set_option linter.unusedVariables false
set_option linter.unusedSimpArgs false
theorem build_one {P:Program}{e t:TypeId}{k bytes:Nat}(E:El P e t k bytes)(hk:k<=1000)(L:List Value)(hL:L.length=k)(w:World) :
 (Instr.buildSlice t 1 #[(0,.agg L.toArray)]).run P w=.ok (.slice (some ⟨w.heap.size,0,none⟩) 1 1) (w.alloc (.cells L.toArray e)):=by
 obtain⟨i,z,hi,hz,hs,-,hzs⟩:=E.parts
 have hpos:=E.pos
 refine run_buildSlice w t e 1 _ _ i z E.und hi hz (by rw[hs];omega) (by rw[hs];omega) ?_
 rw[hs]
 have:=Great.fill_whole hpos [Value.agg L.toArray] ((Array.range (1*k)).map (z.cells[· % z.cells.size]!)) (fun v hv=>by simp at hv;subst hv;simp[Value.cells,hL]) (by simp)
 simpa [Value.cells]using this
section
variable {P:Program} {ops:Array Oper} {rest:List Oper} {o:Oper} {a:Act} {w:World} {Q:Exit->Act->World->Prop}
theorem ZaO (hg:o.guard=none)(ty:TypeId)(x:Operand)(ho:o.op=.box ty x)(L:List Value)(hx:a.eval x=.agg L.toArray)
 (h:wpList P ops Q rest (a.put o.dst (.pointer (some ⟨w.heap.size,0,none⟩))) (w.alloc (.cells L.toArray ty))):wpList P ops Q (o :: rest) a w:=by
 refine wpList_plain hg fun K hK=>?_
 have e:(execOp a.eval o).run P w=.ok (.value (.pointer (some ⟨w.heap.size,0,none⟩))) (w.alloc (.cells L.toArray ty)):=by
  unfold execOp
  simp only[ho]
  rw[hx]
  simp[Instr.box,newVar,newRow,Value.cells,go_sem]
 unfold Oper.wp
 rw[e]
 exact hK _ _ h
end
structure NxW (V:World) (l:List En) (x:En) (l1 l3 l4 l5:Bool) (v10:Value) (gs:Nat) (v13 v14:Value) (w:World):Prop where
 below:Below V.heap.size V w
 old:l1=true->l4=false->Own En.cells 40 48 w V.heap.size v10 l
 new:l3=true->l4=false->V.heap.size<=gs/\Box w gs x.cells.toArray 48
 app:l4=true->∃ a c,v13=.slice a (l.length+1) c/\EnsAt w a (l++[x])
 eff:l5=true->SlR w v14 (effL (l++[x]) 1099511627776)/\(effL (l++[x]) 1099511627776).length<=l.length+1
 c5:l5=true->l4=true
section
variable {V w w':World} {l:List En} {x:En} {l1 l3 l4 l5:Bool} {v10 v13 v14:Value} {gs:Nat}
theorem NxW.kept (h:NxW V l x l1 l3 l4 l5 v10 gs v13 v14 w)(hb:Below w.heap.size w w'):NxW V l x l1 l3 l4 l5 v10 gs v13 v14 w' :=
 ⟨h.below.trans (hb.mono h.below.size),fun h1 h2=>(h.old h1 h2).kept hb,fun h1 h2=>⟨(h.new h1 h2).1,(h.new h1 h2).2.kept hb⟩,fun h1=>let ⟨a,c,h2,h3⟩:=h.app h1;⟨a,c,h2,h3.kept hb⟩,fun h1=>⟨(h.eff h1).1.kept hb,(h.eff h1).2⟩,h.c5⟩
end
section
variable {Q:Exit->Act->World->Prop} {A:Act} {V:World} {l:List En} {x:En} {g:Nat} {ao:Option Addr} {c:Nat}
set_option maxHeartbeats 4000000 in
set_option maxRecDepth 100000 in
theorem next_region {id:Nat}{o0 o1 o2 o3 o4 o5 o6:Oper}
 (p0:o0.op=.move (.tmp 0)/\o0.dst=some 9/\o0.guard=none)
 (p1:o1.op=.call { callee:=.value (.func 43),args:=#[.tmp 9],argTypes:=#[22] }/\o1.dst=some 10/\o1.guard=none)
 (p2:o2.op=.load 48 (.tmp 3)/\o2.dst=some 11/\o2.guard=none)
 (p3:o3.op=.buildSlice 22 1 #[(0,.tmp 11)]/\o3.dst=some 12/\o3.guard=none)
 (p4:o4.op=.call { callee:=.builtin .append,args:=#[.tmp 10,.tmp 12],argTypes:=#[22,22] }/\o4.dst=some 13/\o4.guard=none)
 (p5:o5.op=.call { callee:=.value (.func 19),args:=#[.tmp 13,.const (.int .i64 1099511627776)],argTypes:=#[22,3] }/\o5.dst=some 14/\o5.guard=none)
 (p6:o6.op=.assign (.tmp 14)/\o6.dst=some 6/\o6.guard=none)
 (q1:waits o1 0=true) (q3:waits o3 2=true) (q4:waits o4 1=true/\waits o4 3=true) (q5:waits o5 4=true) (q6:waits o6 5=true)
 (hs:ZcQ .any #[o0,o1,o2,o3,o4,o5,o6]=true)
 (hA0:A.eval (.tmp 0)=.slice ao l.length c) (hA3:A.eval (.tmp 3)=.pointer (some ⟨g,0,none⟩)) (hsz:15<=A.tmps.size)
 (hl:l.length<=1000) (hsp:∀ a,ao=some a->a.spot=none) (hE:EnsAt V ao l) (hg:Box V g x.cells.toArray 48) (hx:x.Ok V)
 (hQ:∀ v10 gs v13 v14 w',SlR w' v14 (effL (l++[x]) 1099511627776)->(effL (l++[x]) 1099511627776).length<=l.length+1->Below V.heap.size V w' ->
  Q .normal (((((((A.put (some 9) (.slice ao l.length c)).put (some 10) v10).put (some 11) x.val).put (some 12) (.slice (some ⟨gs,0,none⟩) 1 1)).put (some 13) v13).put (some 14) v14).put (some 6) v14) w') :
 (Code.region id #[o0,o1,o2,o3,o4,o5,o6] true).wp prog Q A V:=by
 have hw:∀ {o:Oper} {ops:Array Oper} {t:Array Value},o.guard=none->Region.wanted o (yielded ops t)=true:=fun hgd=>by simp[Region.wanted,hgd]
 have z9:9<A.tmps.size:=by omega
 have z10:10<A.tmps.size:=by omega
 have z11:11<A.tmps.size:=by omega
 have z12:12<A.tmps.size:=by omega
 have z13:13<A.tmps.size:=by omega
 have z14:14<A.tmps.size:=by omega
 obtain⟨F,hF⟩:∃ F:Array Bool->Value->Nat->Value->Value->Act,F=fun L v10 gs v13 v14=>putIf (L.getD 6 false) 6 v14 (putIf (L.getD 5 false) 14 v14 (putIf (L.getD 4 false) 13 v13 (putIf (L.getD 3 false) 12 (.slice (some ⟨gs,0,none⟩) 1 1) (putIf (L.getD 2 false) 11 x.val (putIf (L.getD 1 false) 10 v10 (putIf (L.getD 0 false) 9 (.slice ao l.length c) A)))))):=⟨_,rfl⟩
 refine ZcK (l:=[o0,o1,o2,o3,o4,o5,o6]) (by kernel_rfl) hs (fun L a w=>L.size=7/\(L.getD 6 false=true->L.getD 5 false=true)/\∃ v10 gs v13 v14,a=F L v10 gs v13 v14/\NxW V l x (L.getD 1 false) (L.getD 3 false) (L.getD 4 false) (L.getD 5 false) v10 gs v13 v14 w) ?_ ?_ ?_
 · have hz:∀ k,(Array.replicate 7 false).getD k false=false:=fun k=>getD_replicate_false 7 k
   refine⟨by simp,(fun e=>by rw[show(Array.replicate [o0,o1,o2,o3,o4,o5,o6].length false)=Array.replicate 7 false from rfl,hz]at e;cases e),undef,0,undef,undef,?_,?_⟩
   · rw[hF]
     show A=putIf ((Array.replicate 7 false).getD 6 false) _ _ _
     simp only[List.length_cons,List.length_nil,Nat.reduceAdd,Nat.zero_add,hz,Zau]
   · show NxW V l x ((Array.replicate 7 false).getD 1 false) ((Array.replicate 7 false).getD 3 false) ((Array.replicate 7 false).getD 4 false) ((Array.replicate 7 false).getD 5 false) undef 0 undef undef V.drew
     simp only[hz]
     exact⟨(Below.refl _ V).drew,fun e=>(by cases e),fun e=>(by cases e),fun e=>(by cases e),fun e=>(by cases e),fun e=>(by cases e)⟩
 · refine⟨?_,?_,?_,?_,?_,?_,?_,trivial⟩
   · rintro L a w hsz' ⟨hL,Ni,v10,gs,v13,v14,rfl,W⟩ hn haf
     rw[if_pos (hw p0.2.2)]
     have hn':=ZaM hn
     refine Zbb (v:=.slice ao l.length c) (w':=w) (by unfold execOp;rw[p0.1,hF];simp[Zam,hA0]) ⟨by simp[hL],(by simpa [Zax]using Ni),v10,gs,v13,v14,?_,by simpa [Zax]using W⟩
     rw[p0.2.1,hF]
     simp[ZaL,hn',Zau,Zaj,Zax,ZaB,hL]
   · rintro L a w hsz' ⟨hL,Ni,v10,gs,v13,v14,rfl,W⟩ hn haf
     rw[if_pos (hw p1.2.2)]
     have hn':=ZaM hn
     have f0:=Zaz q1 haf
     have he:(F L v10 gs v13 v14).eval (.tmp 9)=.slice ao l.length c:=by rw[hF];simp[Zam,f0,Zaj,Zas,ZaC,z9]
     have hcall:(execOp (F L v10 gs v13 v14).eval o1).run prog w=.ok (.enter 43 #[.slice ao l.length c]) w:=by
      unfold execOp
      have hfn:(F L v10 gs v13 v14).eval (.func 43)=.func (.func 43) #[] #[]:=rfl
      have hen:=Go.Proofs.enters_of func43 (by kernel_rfl) rfl #[.slice ao l.length c] w
      have Yc:(F L v10 gs v13 v14).tmps[9]?.getD undef=.slice ao l.length c:=by simpa [Act.eval]using he
      simp[p1.1,resolve,invoke,hfn,Yc,go_sem,hen]
     unfold Oper.wp
     rw[hcall]
     refine(cloneE_any l ao c (by omega) hsp w (hE.1.kept (W.below))).mono ?_
     rintro e w' ⟨u,rfl,ho,hb⟩
     have W':=W.kept hb
     refine⟨by simp[hL],(by simpa [Zax]using Ni),u,gs,v13,v14,?_,?_⟩
     · rw[p1.2.1,hF]
       simp[ZaL,hn',Zau,Zaj,Zax,ZaB,hL]
     · refine⟨W'.below,fun _ h2=>ho.mono W.below.size,?_,?_,?_,?_⟩
       · simpa [Zax]using W'.new
       · simpa [Zax]using W'.app
       · simpa [Zax]using W'.eff
       · simpa [Zax]using W'.c5
   · rintro L a w hsz' ⟨hL,Ni,v10,gs,v13,v14,rfl,W⟩ hn haf
     rw[if_pos (hw p2.2.2)]
     have hn':=ZaM hn
     have hbx:Box w g x.cells.toArray 48:=hg.kept W.below
     refine Zbb (v:=x.val) (w':=w) (Zcw 48 (.tmp 3) p2.1 g 0 x.cells (by rw[hF];simp[Zam,hA3]) (fun j v hv=>by rw[Nat.zero_add];exact hbx.cell j v (by simpa using hv)) _ underlying48 rfl (by kernel_rfl)) ⟨by simp[hL],(by simpa [Zax]using Ni),v10,gs,v13,v14,?_,by simpa [Zax]using W⟩
     rw[p2.2.1,hF]
     simp[ZaL,hn',Zau,Zaj,Zax,ZaB,hL]
   · rintro L a w hsz' ⟨hL,Ni,v10,gs,v13,v14,rfl,W⟩ hn haf
     rw[if_pos (hw p3.2.2)]
     have hn':=ZaM hn
     have f2:=Zaz q3 haf
     have he:(F L v10 gs v13 v14).eval (.tmp 11)=.agg x.cells.toArray:=by rw[hF];simp[Zam,f2,Zaj,Zas,ZaC,z11]
     have hbo:=build_one elE (by decide) x.cells rfl w
     have W':=W.kept (Zab (w:=w) (.cells x.cells.toArray 48))
     refine Zbb (v:=.slice (some ⟨w.heap.size,0,none⟩) 1 1) (w':=w.alloc (.cells x.cells.toArray 48)) (by unfold execOp;simp[p3.1,he,hbo,Result.andThen]) ⟨by simp[hL],(by simpa [Zax]using Ni),v10,w.heap.size,v13,v14,?_,?_⟩
     · rw[p3.2.1,hF]
       simp[ZaL,hn',Zau,Zaj,Zax,ZaB,hL]
     · refine⟨W'.below,?_,fun _ _=>⟨W.below.size,Box.new _ _ _⟩,?_,?_,?_⟩
       · simpa [Zax]using W'.old
       · simpa [Zax]using W'.app
       · simpa [Zax]using W'.eff
       · simpa [Zax]using W'.c5
   · rintro L a w hsz' ⟨hL,Ni,v10,gs,v13,v14,rfl,W⟩ hn haf
     rw[if_pos (hw p4.2.2)]
     have hn':=ZaM hn
     have f1:=Zaz q4.1 haf
     have f3:=Zaz q4.2 haf
     have e4:L.getD 4 false=false:=hn'
     have he:(F L v10 gs v13 v14).eval (.tmp 10)=v10:=by rw[hF];simp[Zam,f1,Zaj,Zas,ZaC,z10]
     have Yc:(F L v10 gs v13 v14).eval (.tmp 12)=.slice (some ⟨gs,0,none⟩) 1 1:=by rw[hF];simp[Zam,f3,Zaj,Zas,ZaC,z12]
     obtain⟨ii,z,hi,hz,hs',hby,hzs⟩:=elE.parts
     have hold:=W.old f1 e4
     obtain⟨Yd,Pe⟩:=W.new f3 e4
     obtain⟨v1,w1,hrun,hown,hgr,-,hblk⟩:=run_append_own_at (P:=prog) w V.heap.size 22 o4.type 48 ii z 40 528 underlying22 hi hz hs' hby hzs (by decide) v10 l.length (encs En.cells l) hold ⟨gs,0,none⟩ 1 1 x.cells rfl
      (fun j u hu=>by rw[ZbE,Nat.zero_add];exact Pe.cell j u (by simpa using hu)) x.cells_one (by unfold maxLen;omega) (by omega) W.below.size
     have Cb:Below V.heap.size V w1:=W.below.grown hgr W.below.size (fun k e=>(hold.lt k e).1)
     have ho1:Own En.cells 40 48 w1 V.heap.size v1 (l++[x]):=by
      unfold Own
      rw[Za8,Zd0,List.length_append]
      exact hown
     obtain⟨a1,c1,Eh,-,-,hlies⟩:=ho1.lies encE
     refine Zbb (v:=v1) (w':=w1) (by unfold execOp;simp[p4.1,resolve,invoke,builtin,he,Yc,hrun,Result.andThen]) ⟨by simp[hL],(by simpa [Zax]using Ni),v10,gs,v1,v14,?_,?_⟩
     · rw[p4.2.1,hF]
       simp[ZaL,hn',Zau,Zaj,Zax,ZaB,hL]
     · have h5:L.getD 5 false=false:=by
         cases e:L.getD 5 false with
         |false=>rfl
         |true=>have:=W.c5 e;rw[e4]at this;cases this
       refine⟨Cb,fun _ e=>?_,fun _ e=>?_,fun _=>⟨a1,c1,by rw[Eh,List.length_append];rfl,hlies,fun y hy=>?_⟩,fun e=>?_,fun _=>by simp[ZaB,hL]⟩
       · simp[ZaB,hL]at e
       · simp[ZaB,hL]at e
       · rcases List.mem_append.1 hy with hy|hy
         · exact(hE.2 y hy).kept Cb
         · simp at hy;rw[hy];exact hx.kept Cb
       · rw[Zax (by decide),h5]at e;cases e
   · rintro L a w hsz' ⟨hL,Ni,v10,gs,v13,v14,rfl,W⟩ hn haf
     rw[if_pos (hw p5.2.2)]
     have hn':=ZaM hn
     have f4:=Zaz q5 haf
     have h6:L.getD 6 false=false:=by
      cases e:L.getD 6 false with
      |false=>rfl
      |true=>have:=Ni e;rw[hn']at this;cases this
     obtain⟨a3,c3,rfl,hE3⟩:=W.app f4
     have he:(F L v10 gs (.slice a3 (l.length+1) c3) v14).eval (.tmp 13)=.slice a3 (l.length+1) c3:=by rw[hF];simp[Zam,f4,Zaj,Zas,ZaC,z13]
     have hcall:(execOp (F L v10 gs (.slice a3 (l.length+1) c3) v14).eval o5).run prog w=.ok (.enter 19 #[.slice a3 (l.length+1) c3,.int .i64 1099511627776]) w:=by
      unfold execOp
      have hfn:(F L v10 gs (.slice a3 (l.length+1) c3) v14).eval (.func 19)=.func (.func 19) #[] #[]:=rfl
      have hen:=Go.Proofs.enters_of func19 (by kernel_rfl) rfl #[.slice a3 (l.length+1) c3,.int .i64 1099511627776] w
      have Yc:(F L v10 gs (.slice a3 (l.length+1) c3) v14).tmps[13]?.getD undef=.slice a3 (l.length+1) c3:=by simpa [Act.eval]using he
      simp[p5.1,resolve,invoke,hfn,Yc,go_sem,hen]
     unfold Oper.wp
     rw[hcall]
     have hcl:=ZeN (l++[x]) a3 c3 1099511627776 (by simp;omega) w hE3
     rw[List.length_append]at hcl
     refine hcl.mono ?_
     rintro e w' ⟨u,rfl,h1,-,h2,-,hb⟩
     have W':=W.kept hb
     refine⟨by simp[hL],(fun _=>by rw[ZaB (by omega)]),v10,gs,.slice a3 (l.length+1) c3,u,?_,?_⟩
     · rw[p5.2.1,hF]
       simp only[Zax (n:=5) (m:=6) (by decide),h6,Zau]
       simp[ZaL,hn',Zau,Zaj,Zax,ZaB,hL]
     · refine⟨W'.below,?_,?_,?_,fun _=>⟨h1,by simpa using h2⟩,fun _=>by simpa [Zax]using f4⟩
       · simpa [Zax]using W'.old
       · simpa [Zax]using W'.new
       · simpa [Zax]using W'.app
   · rintro L a w hsz' ⟨hL,Ni,v10,gs,v13,v14,rfl,W⟩ hn haf
     rw[if_pos (hw p6.2.2)]
     have hn':=ZaM hn
     have f5:=Zaz q6 haf
     have he:(F L v10 gs v13 v14).eval (.tmp 14)=v14:=by rw[hF];simp[Zam,f5,Zaj,Zas,ZaC,z14]
     refine Zbb (v:=v14) (w':=w) (by unfold execOp;simp only[p6.1,he];rfl) ⟨by simp[hL],(fun _=>by rw[Zax (by decide)];exact f5),v10,gs,v13,v14,?_,by simpa [Zax]using W⟩
     rw[p6.2.1,hF]
     simp[ZaL,hn',Zau,Zaj,Zax,ZaB,hL]
 · rintro L a w ⟨hL,Ni,v10,gs,v13,v14,rfl,W⟩ hall
   have hall':∀ k,k<7->L.getD k false=true:=fun k hk=>getD_up (by omega) (hall k hk)
   have e:F L v10 gs v13 v14=(((((((A.put (some 9) (.slice ao l.length c)).put (some 10) v10).put (some 11) x.val).put (some 12) (.slice (some ⟨gs,0,none⟩) 1 1)).put (some 13) v13).put (some 14) v14).put (some 6) v14):=by
    rw[hF]
    simp only[hall' 0 (by omega),hall' 1 (by omega),hall' 2 (by omega),hall' 3 (by omega),hall' 4 (by omega),hall' 5 (by omega),hall' 6 (by omega),Zaj]
   rw[e]
   exact hQ v10 gs v13 v14 w (W.eff (hall' 5 (by omega))).1 (W.eff (hall' 5 (by omega))).2 W.below
end
noncomputable def nextL (l:List En)(x:En):List Dl:=betD (effL l 1099511627776) (effL (l++[x]) 1099511627776) x.tick
set_option maxHeartbeats 4000000 in
set_option maxRecDepth 100000 in
theorem next_any (l:List En)(ao:Option Addr)(c:Nat)(x:En)(hl:l.length<=1000)(hsp:∀ a,ao=some a->a.spot=none)(w:World)(hE:EnsAt w ao l)(hx:x.Ok w) :
 Calls prog 15 #[.slice ao l.length c,x.val] w fun e w'=>∃ v ds,e=.returned v/\SlD w' v ds/\ds.map Dl.kn=consK ((nextL l x).map Dl.kn)/\Below w.heap.size w w':=by
 have H:=hid hE
 have HX:=hid hx
 have Ym:=hid hsp
 clear hE hx hsp
 have H0:=hid (ZeN l ao c 1099511627776 (by omega) (w.alloc (.cells x.cells.toArray 48)) (H.out.kept (Zab _)))
 go_enter func15,ntmps15
 go_upto_region 2 with(first
  |(refine ZaO rfl 48 (.tmp 1) rfl x.cells rfl ?_)
  |(go_at_call 19;(with_reducible refine H0.out.mono ?_);rintro e w1 ⟨v1,rfl,hs1,-,Yf,-,Cb⟩;obtain⟨a1,c1,rfl,-,-,Da⟩:=hs1;have Ee:=hid Da;have Nb:=hid Yf;have Qb:=hid Cb;clear Da Yf Cb))
 have HBw:Hid (Below w.heap.size w w1):=((Below.refl _ w).alloc (Nat.le_refl _) _).trans (Qb.out.mono (by simp))
 have HG:Hid (Box w1 w.heap.size x.cells.toArray 48):=(Box.new w _ _).kept Qb.out
 refine wp_genA (fun A V hA hV=>?_)
 subst hV
 have hA0:A.eval (.tmp 0)=.slice ao l.length c:=by rw[hA];rfl
 have hA3:A.eval (.tmp 3)=.pointer (some ⟨w.heap.size,0,none⟩):=by rw[hA];rfl
 have hAs:15<=A.tmps.size:=by rw[hA];simp
 refine next_region (by exact⟨rfl,rfl,rfl⟩) (by exact⟨rfl,rfl,rfl⟩) (by exact⟨rfl,rfl,rfl⟩) (by exact⟨rfl,rfl,rfl⟩) (by exact⟨rfl,rfl,rfl⟩) (by exact⟨rfl,rfl,rfl⟩) (by exact⟨rfl,rfl,rfl⟩)
  (by kernel_rfl) (by kernel_rfl) ⟨by kernel_rfl,by kernel_rfl⟩ (by kernel_rfl) (by kernel_rfl) (by kernel_rfl)
  hA0 hA3 hAs hl Ym.out (H.out.kept HBw.out) HG.out (HX.out.kept HBw.out) ?_
 intro v10 gs v13 v14 w2 hs2 Nd Sd
 obtain⟨a2,c2,rfl,-,-,Bb⟩:=hs2
 have Ke:=hid Bb
 have Mb:=hid Nd
 have La:=hid Sd
 have k1:=(HG.out.kept La.out).cell 1 (.int .i64 x.tick) rfl
 have Yb:Hid ((effL l 1099511627776).length<=1000/\(effL (l++[x]) 1099511627776).length<=1001):=⟨Nat.le_trans Nb.out hl,Nat.le_trans Mb.out (by omega)⟩
 have Yh:=hid (Zdv (effL l 1099511627776) (effL (l++[x]) 1099511627776) a1 a2 c1 c2 x.tick HX.out.ints.2.1 (by have:=Yb.out.1;omega) (by have:=Yb.out.2;omega) w2 (Ee.out.kept La.out) Ke.out)
 have Tc:Hid ((nextL l x).length<=10000000):=by
  unfold nextL betD
  show _<=_
  rw[List.length_append,List.length_map,List.length_map]
  have:=Yb.out
  omega
 subst hA
 clear Bb Nd Sd hA0 hA3 hAs hl
 generalize (effL l 1099511627776).length=n1 at *
 generalize (effL (l++[x]) 1099511627776).length=n2 at *
 go_wp2_with (first
  |(go_at_call 39;(with_reducible refine Yh.out.mono ?_);rintro e w3 ⟨v3,rfl,Pq,Ue⟩;replace Pq:OwnD w3 w2.heap.size v3 (nextL l x):=Pq;obtain⟨a3,c3,rfl,-,-,Rh⟩:=Pq.lies;have Ev:=hid Rh;have Ib:=hid Ue;have Xi:=hid (ZcZ (nextL l x) a3 c3 Tc.out w3 Rh);clear Pq Ue Rh)
  |(go_at_call 32;(with_reducible refine Xi.out.mono ?_);rintro e w5 ⟨v5,ds,rfl,Hm,-,Rd,Qm⟩;have De:=hid Hm;have Et:=hid Rd;have Xe:=hid Qm;clear Hm Rd Qm))
 go_ret
 exact⟨_,ds,rfl,De.out,Et.out,((HBw.out.trans (La.out.mono HBw.out.size)).trans (Ib.out.mono (Nat.le_trans HBw.out.size La.out.size))).trans (Xe.out.mono (Nat.le_trans (Nat.le_trans HBw.out.size La.out.size) Ib.out.size))⟩
theorem encVal:Enc valC 3:=⟨fun _=>rfl,fun x v hv=>by simp[valC]at hv;rcases hv with h|h|h<;>subst h<;>rfl⟩
set_option maxHeartbeats 2000000 in
set_option maxRecDepth 100000 in
theorem at_any (src tb ky:ByteArray)(seq ev no tk t k:Int)(fa:Option Addr)(n c:Nat)(w:World) :
 Calls prog 33 #[.agg #[.string src,.int .i64 seq,.string tb,.string ky,.int .i64 ev,.slice fa n c,.int .i64 no,.int .i64 tk],.int .i64 t,.int .i64 k] w fun e w' =>
  e=.returned (.agg #[.string src,.int .i64 seq,.string tb,.string ky,.int .i64 ev,.slice fa n c,.int .i64 no,.int .i64 tk,.int .i64 t,.int .i64 k])/\Below w.heap.size w w':=by
 go_enter func33,ntmps33
 go_wp2_with fail
 refine bodyPost_ret (v:=.agg #[.string src,.int .i64 seq,.string tb,.string ky,.int .i64 ev,.slice fa n c,.int .i64 no,.int .i64 tk,.int .i64 t,.int .i64 k]) (by simp[results,Tryz.results33,go_sem]) rfl ⟨rfl,Zak _ _⟩
set_option maxHeartbeats 2000000 in
set_option maxRecDepth 100000 in
theorem said_any (no tick:Int)(hno:-1000<=no/\no<=1000)(w:World) :
 Calls prog 35 #[.int .i64 no,.int .i64 tick] w fun e w'=>∃ fa,Zac valC 3 w' fa [(2,no - 2,⟨#[]⟩)] /\
  e=.returned (.agg #[.string ⟨#[115]⟩,.int .i64 1,.string ⟨#[116]⟩,.string ⟨#[117]⟩,.int .i64 3,.slice fa 1 1,.int .i64 no,.int .i64 tick])/\Below w.heap.size w w':=by
 go_enter func35,ntmps35
 go_wp2_with fail
 refine bodyPost_ret (v:=.agg #[.string ⟨#[115]⟩,.int .i64 1,.string ⟨#[116]⟩,.string ⟨#[117]⟩,.int .i64 3,.slice (some ⟨w.heap.size+1,0,none⟩) 1 1,.int .i64 no,.int .i64 tick]) (by simp[results,Tryz.results35,go_sem]) rfl ⟨some ⟨w.heap.size+1,0,none⟩,?_,rfl,Zak _ _⟩
 have:=Zav (enc:=valC) (k:=3) (e:=37) ((2,no - 2,⟨#[]⟩):Val) (w.alloc (.cells #[.string ⟨#[115]⟩,.int .i64 1,.string ⟨#[116]⟩,.string ⟨#[117]⟩,.int .i64 3,.slice (some ⟨w.heap.size+1,0,none⟩) 1 1,.int .i64 no,.int .i64 tick] 68)) encVal
 simp only[World.size_alloc]at this
 exact this
abbrev intC (t:Int):List Value:=[.int .i64 t]
def sc0 (a:Option Addr):En:={ zeroE with no:=1,kind:=3,ck:=1,tn:=⟨#[116]⟩,te:=⟨#[117,115,101,114]⟩,ol:=fun i=>if i=0 then(a,1,1)else(none,0,0) }
def scE (a:Option Addr)(i:Nat)(t:Int):En :=
 if i=2 then { zeroE with no:=4,tick:=t,kind:=1,src:=⟨#[115]⟩,seq:=3,fk:=3,ref:=1 }
 else { zeroE with no:=i+2,tick:=t,kind:=1,src:=⟨#[115]⟩,seq:=i+1,fk:=i+1,ref:=if i=0 then 0 else 1,tb:=⟨#[116]⟩,ky:=⟨#[117]⟩,ev:=3,fa:=a,fc:=1,vs:=[(2,i,⟨#[]⟩)] }
def scA (a0:Option Addr)(ts:List (Int × Option Addr)):List En:=sc0 a0 :: ts.zipIdx.map (fun p=>scE p.1.2 p.2 p.1.1)
theorem scA_snoc (a0:Option Addr)(ts:List (Int × Option Addr))(t:Int)(a:Option Addr):scA a0 (ts++[(t,a)])=scA a0 ts++[scE a ts.length t]:=by
 unfold scA
 rw[List.zipIdx_append,List.map_append]
 simp
theorem ZdK {P:Program}{α:Type}{enc:α->List Value}{k bytes:Nat}{e t:TypeId}{w:World}{B:Nat}{v:Value}{l m:List α}{ops:Array Oper}{o:Oper}{a:Act}{K:Act->World->Prop}{Q:Exit->Act->World->Prop}{ad:Addr}{n c:Nat}{R:Prop}(E:El P e t k bytes)(hE:Enc enc k)(hgd:o.guard=none)(s x:Operand)
 (ho:o.op=.call { callee:=.builtin .append,args:=#[s,x],argTypes:=#[t,t] }) (hs:a.eval s=v) (hx:a.eval x=.slice (some ad) n c)
 (hO:Own enc k e w B v l) (hS:Zac enc k w (some ad) m) (hm:m≠[]) (hn:n=m.length) (hB:B<=w.heap.size) (hl:l.length+m.length<=1000000000)
 (h:∀ v' w1,Own enc k e w1 B v' (l++m)->w.grownBy w1 v.ownBlock->(v'.ownBlock=v.ownBlock∨v'.ownBlock=some w.heap.size)->K (a.put o.dst v') w1) :
 if Region.wanted o (yielded ops a.tmps)=true then Oper.wp P o a w K Q else R:=by
 have hw:Region.wanted o (yielded ops a.tmps)=true:=by simp[Region.wanted,hgd]
 rw[if_pos hw]
 obtain⟨i,z,hi,Xc,Ea,Fa,Ef⟩:=E.parts
 have hpos:=E.pos
 have hfew:=E.few
 subst hn
 have hcells:∀ j v,(encs enc m)[j]?=some v->w.cell? (ad.add j)=some v:=by
  intro j u hj
  rcases hS with h|⟨b,off,he,hr⟩
  · exact absurd h hm
  · injection he with he;subst he
    rw[ZbE];exact hr.cells hE.len hpos j u hj
 have hbytes:(l.length+m.length)*bytes<=140737488355328:=Nat.le_trans (Nat.mul_le_mul hl hfew) (by decide)
 obtain⟨v',w1,hrun,hown,hgr,-,hblk⟩:=run_append_own_at (P:=P) w B t o.type e i z k bytes E.und hi Xc Ea Fa Ef hpos v _ _ hO ad m.length c (encs enc m) (Za7 hE.len m) hcells (ZbB hE.one m) (by unfold maxLen;omega) hbytes hB
 unfold Oper.wp
 simp[execOp,ho,resolve,invoke,builtin,hs,hx,hrun,Result.andThen]
 refine h v' w1 ?_ hgr hblk
 unfold Own
 rw[Za8,List.length_append];exact hown
def Flds (w:World)(ts:List (Int × Option Addr)):Prop:=∀ (j:Nat) (p:Int × Option Addr),ts[j]?=some p->∃ g,p.2=some ⟨g,0,none⟩/\Box w g #[.int .i64 2,.int .i64 (j:Int),.string ⟨#[]⟩] 37
theorem Flds.kept {w w':World}{ts:List (Int × Option Addr)}(h:Flds w ts)(hb:Below w.heap.size w w'):Flds w' ts:=fun j p hp=>let ⟨g,h1,h2⟩:=h j p hp;⟨g,h1,h2.kept hb⟩
theorem Flds.grown {w w':World}{ts:List (Int × Option Addr)}(h:Flds w ts){B:Nat}{v:Value}{l:List En}(ho:Own En.cells 40 48 w B v l)(hg:w.grownBy w' v.ownBlock):Flds w' ts:=fun j p hp=>by
 obtain⟨g,h1,h2⟩:=h j p hp
 exact⟨g,h1,(hg.block g h2.lt (fun e=>ho.ne_box h2 (by decide) e.symm)).trans h2⟩
theorem Flds.snoc {w:World}{ts:List (Int × Option Addr)}(h:Flds w ts){t:Int}{g:Nat}(hg:Box w g #[.int .i64 2,.int .i64 (ts.length:Int),.string ⟨#[]⟩] 37):Flds w (ts++[(t,some ⟨g,0,none⟩)]):=by
 intro j p hp
 rcases Nat.lt_trichotomy j ts.length with q|q|q
 · rw[List.getElem?_append_left q]at hp;exact h j p hp
 · subst q
   rw[List.getElem?_append_right (Nat.le_refl _),Nat.sub_self]at hp
   injection hp with hp
   subst hp
   exact⟨g,rfl,hg⟩
 · rw[List.getElem?_append_right (by omega),List.getElem?_eq_none (by simp;omega)]at hp;cases hp
theorem sz0:(⟨#[]⟩:ByteArray).size<=1048576:=by decide
theorem szs:(⟨#[115]⟩:ByteArray).size<=1048576:=by decide
theorem szt:(⟨#[116]⟩:ByteArray).size<=1048576:=by decide
theorem szu:(⟨#[117]⟩:ByteArray).size<=1048576:=by decide
theorem szuser:(⟨#[117,115,101,114]⟩:ByteArray).size<=1048576:=by decide
theorem sc0_ok (a:Option Addr)(w:World):(sc0 a).Ok w :=
 ⟨Or.inl rfl,Nat.zero_le _,fun v hv=>(by cases hv),fun v hv=>(by cases hv),sz0,sz0,sz0,sz0,sz0,sz0,szt,szuser,by unfold I64 sc0 zeroE;simp⟩
theorem scE_ok (a:Option Addr)(i:Nat)(t:Int)(w:World)(hi:i<=1000)(ht:I64 t)(h:Zac valC 3 w a [(2,(i:Int),⟨#[]⟩)]):(scE a i t).Ok w:=by
 unfold scE
 have Ju:I64 ((i:Int)+2)/\I64 ((i:Int)+1)/\I64 (i:Int):=by unfold I64;omega
 have i0:I64 0:=by unfold I64;omega
 have i1:I64 1:=by unfold I64;omega
 have i3:I64 3:=by unfold I64;omega
 split
 · exact⟨Or.inl rfl,Nat.zero_le _,fun v hv=>(by cases hv),fun v hv=>(by cases hv),szs,sz0,sz0,sz0,sz0,sz0,sz0,sz0,(by unfold I64;omega:I64 4),ht,i1,i3,i3,i1,i0,i0,i0,i0⟩
 · refine⟨h,by show 1<=_;omega,fun v hv=>?_,fun v hv=>?_,szs,szt,szu,sz0,sz0,sz0,sz0,sz0,Ju.1,ht,i1,Ju.2.1,Ju.2.1,?_,i3,i0,i0,i0⟩
   · simp at hv;subst hv;exact sz0
   · simp at hv;subst hv;exact⟨by unfold I64;omega,Ju.2.2⟩
   · show I64 (if i=0 then 0 else 1)
     split
     · exact i0
     · exact i1
theorem scA_ok {w:World}{a0:Option Addr}{ts:List (Int × Option Addr)}(h:Flds w ts)(hl:ts.length<=1000)(ht:∀ t∈ts.map Prod.fst,I64 t):∀ e∈scA a0 ts,e.Ok w:=by
 intro e he
 rcases List.mem_cons.1 he with rfl|he
 · exact sc0_ok a0 w
 · obtain⟨⟨p,j⟩,hp,rfl⟩:=List.mem_map.1 he
   have hj:=List.mk_mem_zipIdx_iff_getElem?.1 hp
   obtain⟨g,h1,h2⟩:=h j p hj
   refine scE_ok _ _ _ w ?_ (ht _ (List.mem_map.2 ⟨p,List.mem_of_getElem? hj,rfl⟩)) ?_
   · have:=(List.getElem?_eq_some_iff.1 hj).1;omega
   · rw[h1]
     exact Or.inr ⟨g,0,rfl,Lies.of_cells encVal.len (fun k v hv=>by rw[Zd0]at hv;rw[Nat.zero_add];exact h2.cell k v (by simpa [valC]using hv))⟩
set_option maxHeartbeats 8000000 in
set_option maxRecDepth 100000 in
theorem Zd9 (ticks:List Int)(at0:Option Addr)(c0:Nat)(hn:ticks.length<=3)(w:World)(h:Zac intC 1 w at0 ticks)(hi:∀ t∈ticks,I64 t) :
 Calls prog 36 #[.slice at0 ticks.length c0] w fun e w'=>∃ a c a0 ts,e=.returned (.slice a (scA a0 ts).length c)/\ts.map Prod.fst=ticks/\EnsAt w' a (scA a0 ts)/\(∀ q,a=some q->q.spot=none)/\Below w.heap.size w w':=by
 have H:=hid h
 have HI:=hid hi
 have Bm:∀ b off,at0=some ⟨b,off,none⟩->∀ {i t},ticks[i]?=some t->b<w.heap.size:=fun b off e {i t} hi=>by
  obtain⟨b',off',e',hr⟩:=Zat h hi
  rw[e]at e'
  injection e' with e'
  injection e' with e1
  rw[e1]
  exact Zfk (hr i t hi 0 _ rfl)
 clear h hi
 go_enter func36,ntmps36
 go_wp2_with fail
 refine Zan (fun X0 hX0=>?_)
 have Uh:Hid (Own En.cells 40 48 X0 w.heap.size (.slice (some ⟨w.heap.size+2,0,none⟩) 1 1) (scA (some ⟨w.heap.size,0,none⟩) [])):=by
  have hb:w.heap.size<=((w.alloc (.cells #[.string ⟨#[110]⟩,.int .i64 2,.slice none 0 0,.string ⟨#[]⟩] 113)).alloc (.cells #[.string ⟨#[116]⟩,.string ⟨#[117,115,101,114]⟩,.slice (some ⟨w.heap.size,0,none⟩) 1 1,.int .i64 0] 32)).heap.size:=by simp;omega
  have:=World.ownsRow_lit (base:=w.heap.size) (e:=48) (size:=40) ((w.alloc (.cells #[.string ⟨#[110]⟩,.int .i64 2,.slice none 0 0,.string ⟨#[]⟩] 113)).alloc (.cells #[.string ⟨#[116]⟩,.string ⟨#[117,115,101,114]⟩,.slice (some ⟨w.heap.size,0,none⟩) 1 1,.int .i64 0] 32)) (encs En.cells (scA (some ⟨w.heap.size,0,none⟩) [])).toArray 1 hb (by unfold maxLen;omega) rfl
  rw[hX0]
  simp only[World.size_alloc]at this
  exact this
 have Lc:Hid (Below w.heap.size w X0):=by rw[hX0];exact(Zak _ _).alloc (by simp;omega) _
 clear hX0
 go_loopw [4,5] (fun v jj wr=>∃ (i:Nat) (ts:List (Int × Option Addr)) (a0:Option Addr) (v0:Value),v0=v/\i<=ticks.length/\jj=.int .i64 i/\ts.map Prod.fst=ticks.take i/\Hid (Own En.cells 40 48 wr w.heap.size v (scA a0 ts))/\Hid (Flds wr ts)/\Hid (Below w.heap.size w wr)) (fun _ jj _=>ticks.length - (intOf jj).toNat)
 case atStart=>exact⟨0,[],_,_,rfl,by omega,rfl,rfl,Uh,fun j p hp=>by simp at hp,Lc⟩
 case round =>
  obtain⟨i,ts,a0,v0,rfl,hi,rfl,hts,HO,HK,HB⟩:=hrel
  by_cases hlt:i<ticks.length
  · obtain⟨t,ht⟩:∃ t,ticks[i]?=some t:=⟨ticks[i],List.getElem?_eq_getElem hlt⟩
    obtain⟨b,off,rfl,hrow⟩:=Zat (H.out.kept HB.out) ht
    have Ig:=hid hrow
    have Wc:Hid (b<w.heap.size):=Bm b off rfl ht
    have Kc:Hid (ts.length=i):=by show _=_;have:=congrArg List.length hts;simp at this;omega
    have Wh:Hid ((scA a0 ts).length+1<=1000000000):=by show _<=_;have:=Kc.out;simp[scA];omega
    have Tv:i=0∨i=1∨i=2:=by omega
    have HT:=hid ht
    clear ht hi hrow
    rcases Tv with rfl|rfl|rfl
    · go_upto_region 11 with fail
      refine Zan (fun X hX=>?_)
      have Gb:Hid (Below wr.heap.size wr X):=by rw[hX];exact Zak _ _
      have Ib:Hid (Box X wr.heap.size #[.int .i64 2,.int .i64 0,.string ⟨#[]⟩] 37):=by rw[hX];exact(Box.new wr _ _).kept (Zab _)
      have Sa:Hid (Box X (wr.heap.size+1) #[.string ⟨#[115]⟩,.int .i64 1,.int .i64 1,.int .i64 0,.string ⟨#[116]⟩,.string ⟨#[117]⟩,.int .i64 3,.slice (some ⟨wr.heap.size,0,none⟩) 1 1] 27):=by rw[hX];show Box _ _ _ _;have:=Box.new (wr.alloc (.cells #[.int .i64 2,.int .i64 0,.string ⟨#[]⟩] 37)) #[.string ⟨#[115]⟩,.int .i64 1,.int .i64 1,.int .i64 0,.string ⟨#[116]⟩,.string ⟨#[117]⟩,.int .i64 3,.slice (some ⟨wr.heap.size,0,none⟩) 1 1] 27;simpa using this
      have Wm:Hid (X.cell? ⟨b,off,none⟩=some (.int .i64 t)):=by have:=Zaa (Ig.out 0 t HT.out 0 _ rfl) Gb.out;show _=_;simpa using this
      clear hX
      have HS:Hid (∀ w',Below X.heap.size X w'->w'.cell? ⟨wr.heap.size+1,0,none⟩=some (.string ⟨#[115]⟩)/\w'.cell? ⟨wr.heap.size+1,1,none⟩=some (.int .i64 1)/\w'.cell? ⟨wr.heap.size+1,2,none⟩=some (.int .i64 1)/\w'.cell? ⟨wr.heap.size+1,3,none⟩=some (.int .i64 0)/\w'.cell? ⟨wr.heap.size+1,4,none⟩=some (.string ⟨#[116]⟩)/\w'.cell? ⟨wr.heap.size+1,5,none⟩=some (.string ⟨#[117]⟩)/\w'.cell? ⟨wr.heap.size+1,6,none⟩=some (.int .i64 3)/\w'.cell? ⟨wr.heap.size+1,7,none⟩=some (.slice (some ⟨wr.heap.size,0,none⟩) 1 1)/\w'.cell? ⟨b,off,none⟩=some (.int .i64 t)):=fun w' hb=>⟨(Sa.out.kept hb).cell 0 _ rfl,(Sa.out.kept hb).cell 1 _ rfl,(Sa.out.kept hb).cell 2 _ rfl,(Sa.out.kept hb).cell 3 _ rfl,(Sa.out.kept hb).cell 4 _ rfl,(Sa.out.kept hb).cell 5 _ rfl,(Sa.out.kept hb).cell 6 _ rfl,(Sa.out.kept hb).cell 7 _ rfl,Zaa Wm.out hb⟩
      have Wd:Hid (∀ w',Below X.heap.size X w'->Own En.cells 40 48 w' w.heap.size v0 (scA a0 ts)):=fun w' hb=>(HO.out.kept Gb.out).kept hb
      have Ho:Hid (Zac En.cells 40 (X.drew.alloc (.cells (scE (some ⟨wr.heap.size,0,none⟩) 0 t).cells.toArray 48)) (some ⟨X.heap.size,0,none⟩) [scE (some ⟨wr.heap.size,0,none⟩) 0 t]):=Zav (scE (some ⟨wr.heap.size,0,none⟩) 0 t) X.drew encE
      have Lb:Hid (Below X.heap.size X (X.drew.alloc (.cells (scE (some ⟨wr.heap.size,0,none⟩) 0 t).cells.toArray 48))):=((Below.refl _ X).drew).alloc (Nat.le_refl _) _
      have Qg:Hid (w.heap.size<=(X.drew.alloc (.cells (scE (some ⟨wr.heap.size,0,none⟩) 0 t).cells.toArray 48)).heap.size):=Nat.le_trans HB.out.size (Nat.le_trans Gb.out.size Lb.out.size)
      have Wp:Hid (∀ w',(X.drew.alloc (.cells (scE (some ⟨wr.heap.size,0,none⟩) 0 t).cells.toArray 48)).grownBy w' v0.ownBlock->w'.cell? ⟨wr.heap.size+1,0,none⟩=some (.string ⟨#[115]⟩)/\w'.cell? ⟨wr.heap.size+1,1,none⟩=some (.int .i64 1)/\w'.cell? ⟨wr.heap.size+1,2,none⟩=some (.int .i64 1)/\w'.cell? ⟨wr.heap.size+1,3,none⟩=some (.int .i64 0)/\w'.cell? ⟨wr.heap.size+1,4,none⟩=some (.string ⟨#[116]⟩)/\w'.cell? ⟨wr.heap.size+1,5,none⟩=some (.string ⟨#[117]⟩)/\w'.cell? ⟨wr.heap.size+1,6,none⟩=some (.int .i64 3)/\w'.cell? ⟨wr.heap.size+1,7,none⟩=some (.slice (some ⟨wr.heap.size,0,none⟩) 1 1)/\w'.cell? ⟨b,off,none⟩=some (.int .i64 t)):=fun w' hg=>by
       have Zd:Box w' (wr.heap.size+1) #[.string ⟨#[115]⟩,.int .i64 1,.int .i64 1,.int .i64 0,.string ⟨#[116]⟩,.string ⟨#[117]⟩,.int .i64 3,.slice (some ⟨wr.heap.size,0,none⟩) 1 1] 27:=(hg.block _ (Sa.out.kept Lb.out).lt (fun e=>(Wd.out _ Lb.out).ne_box (Sa.out.kept Lb.out) (by decide) e.symm)).trans (Sa.out.kept Lb.out)
       have htc:=Zaa Wm.out Lb.out
       refine⟨Zd.cell 0 _ rfl,Zd.cell 1 _ rfl,Zd.cell 2 _ rfl,Zd.cell 3 _ rfl,Zd.cell 4 _ rfl,Zd.cell 5 _ rfl,Zd.cell 6 _ rfl,Zd.cell 7 _ rfl,?_⟩
       have hbw:b<w.heap.size:=Wc.out
       have hblk:=hg.block b (Nat.lt_of_lt_of_le hbw Qg.out) (fun e=>by have:=((Wd.out _ Lb.out).lt b e.symm).1;omega)
       simp only[World.cell?,hblk]at htc ⊢
       exact htc
      go_region_held3 (fun w'=>w'.cell? ⟨wr.heap.size+1,0,none⟩=some (.string ⟨#[115]⟩)/\w'.cell? ⟨wr.heap.size+1,1,none⟩=some (.int .i64 1)/\w'.cell? ⟨wr.heap.size+1,2,none⟩=some (.int .i64 1)/\w'.cell? ⟨wr.heap.size+1,3,none⟩=some (.int .i64 0)/\w'.cell? ⟨wr.heap.size+1,4,none⟩=some (.string ⟨#[116]⟩)/\w'.cell? ⟨wr.heap.size+1,5,none⟩=some (.string ⟨#[117]⟩)/\w'.cell? ⟨wr.heap.size+1,6,none⟩=some (.int .i64 3)/\w'.cell? ⟨wr.heap.size+1,7,none⟩=some (.slice (some ⟨wr.heap.size,0,none⟩) 1 1)/\w'.cell? ⟨b,off,none⟩=some (.int .i64 t))
       (first|exact HS.out _ ((Below.refl _ _).drew)|exact HS.out _ Lb.out|exact Wp.out _ Hi.out)
       (first|(refine ZdK elE encE rfl (.tmp 40) (.tmp 49) rfl rfl rfl (Wd.out _ Lb.out) Ho.out (by simp) rfl Qg.out Wh.out ?_;intro v9 w9 ho hg hv;have Mo:=hid ho;have Hi:=hid hg;clear ho hg hv))
      go_wp2_with fail
      go_roundw
      case rel=>exact⟨1,ts++[(t,some ⟨wr.heap.size,0,none⟩)],a0,_,rfl,by omega,rfl,by rw[List.map_append,hts,Zar HT.out];rfl,by rw[scA_snoc,Kc.out];exact Mo,Flds.grown (Flds.snoc ((HK.out.kept Gb.out).kept Lb.out) (by rw[Kc.out];exact Ib.out.kept Lb.out)) (Wd.out _ Lb.out) Hi.out,(HB.out.trans ((Gb.out.trans (Lb.out.mono Gb.out.size)).mono HB.out.size)).grown Hi.out (Nat.le_trans HB.out.size (Nat.le_trans Gb.out.size Lb.out.size)) (fun k e=>((Wd.out _ Lb.out).lt k e).1)⟩
      case measure=>simp[intOf];omega
    · go_upto_region 11 with fail
      refine Zan (fun X hX=>?_)
      have Gb:Hid (Below wr.heap.size wr X):=by rw[hX];exact Zak _ _
      have Ib:Hid (Box X wr.heap.size #[.int .i64 2,.int .i64 1,.string ⟨#[]⟩] 37):=by rw[hX];exact(Box.new wr _ _).kept (Zab _)
      have Sa:Hid (Box X (wr.heap.size+1) #[.string ⟨#[115]⟩,.int .i64 2,.int .i64 2,.int .i64 1,.string ⟨#[116]⟩,.string ⟨#[117]⟩,.int .i64 3,.slice (some ⟨wr.heap.size,0,none⟩) 1 1] 27):=by rw[hX];show Box _ _ _ _;have:=Box.new (wr.alloc (.cells #[.int .i64 2,.int .i64 1,.string ⟨#[]⟩] 37)) #[.string ⟨#[115]⟩,.int .i64 2,.int .i64 2,.int .i64 1,.string ⟨#[116]⟩,.string ⟨#[117]⟩,.int .i64 3,.slice (some ⟨wr.heap.size,0,none⟩) 1 1] 27;simpa using this
      have Wm:Hid (X.cell? ⟨b,off+1,none⟩=some (.int .i64 t)):=by have:=Zaa (Ig.out 1 t HT.out 0 _ rfl) Gb.out;show _=_;simpa using this
      clear hX
      have HS:Hid (∀ w',Below X.heap.size X w'->w'.cell? ⟨wr.heap.size+1,0,none⟩=some (.string ⟨#[115]⟩)/\w'.cell? ⟨wr.heap.size+1,1,none⟩=some (.int .i64 2)/\w'.cell? ⟨wr.heap.size+1,2,none⟩=some (.int .i64 2)/\w'.cell? ⟨wr.heap.size+1,3,none⟩=some (.int .i64 1)/\w'.cell? ⟨wr.heap.size+1,4,none⟩=some (.string ⟨#[116]⟩)/\w'.cell? ⟨wr.heap.size+1,5,none⟩=some (.string ⟨#[117]⟩)/\w'.cell? ⟨wr.heap.size+1,6,none⟩=some (.int .i64 3)/\w'.cell? ⟨wr.heap.size+1,7,none⟩=some (.slice (some ⟨wr.heap.size,0,none⟩) 1 1)/\w'.cell? ⟨b,off+1,none⟩=some (.int .i64 t)):=fun w' hb=>⟨(Sa.out.kept hb).cell 0 _ rfl,(Sa.out.kept hb).cell 1 _ rfl,(Sa.out.kept hb).cell 2 _ rfl,(Sa.out.kept hb).cell 3 _ rfl,(Sa.out.kept hb).cell 4 _ rfl,(Sa.out.kept hb).cell 5 _ rfl,(Sa.out.kept hb).cell 6 _ rfl,(Sa.out.kept hb).cell 7 _ rfl,Zaa Wm.out hb⟩
      have Wd:Hid (∀ w',Below X.heap.size X w'->Own En.cells 40 48 w' w.heap.size v0 (scA a0 ts)):=fun w' hb=>(HO.out.kept Gb.out).kept hb
      have Ho:Hid (Zac En.cells 40 (X.drew.alloc (.cells (scE (some ⟨wr.heap.size,0,none⟩) 1 t).cells.toArray 48)) (some ⟨X.heap.size,0,none⟩) [scE (some ⟨wr.heap.size,0,none⟩) 1 t]):=Zav (scE (some ⟨wr.heap.size,0,none⟩) 1 t) X.drew encE
      have Lb:Hid (Below X.heap.size X (X.drew.alloc (.cells (scE (some ⟨wr.heap.size,0,none⟩) 1 t).cells.toArray 48))):=((Below.refl _ X).drew).alloc (Nat.le_refl _) _
      have Qg:Hid (w.heap.size<=(X.drew.alloc (.cells (scE (some ⟨wr.heap.size,0,none⟩) 1 t).cells.toArray 48)).heap.size):=Nat.le_trans HB.out.size (Nat.le_trans Gb.out.size Lb.out.size)
      have Wp:Hid (∀ w',(X.drew.alloc (.cells (scE (some ⟨wr.heap.size,0,none⟩) 1 t).cells.toArray 48)).grownBy w' v0.ownBlock->w'.cell? ⟨wr.heap.size+1,0,none⟩=some (.string ⟨#[115]⟩)/\w'.cell? ⟨wr.heap.size+1,1,none⟩=some (.int .i64 2)/\w'.cell? ⟨wr.heap.size+1,2,none⟩=some (.int .i64 2)/\w'.cell? ⟨wr.heap.size+1,3,none⟩=some (.int .i64 1)/\w'.cell? ⟨wr.heap.size+1,4,none⟩=some (.string ⟨#[116]⟩)/\w'.cell? ⟨wr.heap.size+1,5,none⟩=some (.string ⟨#[117]⟩)/\w'.cell? ⟨wr.heap.size+1,6,none⟩=some (.int .i64 3)/\w'.cell? ⟨wr.heap.size+1,7,none⟩=some (.slice (some ⟨wr.heap.size,0,none⟩) 1 1)/\w'.cell? ⟨b,off+1,none⟩=some (.int .i64 t)):=fun w' hg=>by
       have Zd:Box w' (wr.heap.size+1) #[.string ⟨#[115]⟩,.int .i64 2,.int .i64 2,.int .i64 1,.string ⟨#[116]⟩,.string ⟨#[117]⟩,.int .i64 3,.slice (some ⟨wr.heap.size,0,none⟩) 1 1] 27:=(hg.block _ (Sa.out.kept Lb.out).lt (fun e=>(Wd.out _ Lb.out).ne_box (Sa.out.kept Lb.out) (by decide) e.symm)).trans (Sa.out.kept Lb.out)
       have htc:=Zaa Wm.out Lb.out
       refine⟨Zd.cell 0 _ rfl,Zd.cell 1 _ rfl,Zd.cell 2 _ rfl,Zd.cell 3 _ rfl,Zd.cell 4 _ rfl,Zd.cell 5 _ rfl,Zd.cell 6 _ rfl,Zd.cell 7 _ rfl,?_⟩
       have hbw:b<w.heap.size:=Wc.out
       have hblk:=hg.block b (Nat.lt_of_lt_of_le hbw Qg.out) (fun e=>by have:=((Wd.out _ Lb.out).lt b e.symm).1;omega)
       simp only[World.cell?,hblk]at htc ⊢
       exact htc
      go_region_held3 (fun w'=>w'.cell? ⟨wr.heap.size+1,0,none⟩=some (.string ⟨#[115]⟩)/\w'.cell? ⟨wr.heap.size+1,1,none⟩=some (.int .i64 2)/\w'.cell? ⟨wr.heap.size+1,2,none⟩=some (.int .i64 2)/\w'.cell? ⟨wr.heap.size+1,3,none⟩=some (.int .i64 1)/\w'.cell? ⟨wr.heap.size+1,4,none⟩=some (.string ⟨#[116]⟩)/\w'.cell? ⟨wr.heap.size+1,5,none⟩=some (.string ⟨#[117]⟩)/\w'.cell? ⟨wr.heap.size+1,6,none⟩=some (.int .i64 3)/\w'.cell? ⟨wr.heap.size+1,7,none⟩=some (.slice (some ⟨wr.heap.size,0,none⟩) 1 1)/\w'.cell? ⟨b,off+1,none⟩=some (.int .i64 t))
       (first|exact HS.out _ ((Below.refl _ _).drew)|exact HS.out _ Lb.out|exact Wp.out _ Hi.out)
       (first|(refine ZdK elE encE rfl (.tmp 40) (.tmp 49) rfl rfl rfl (Wd.out _ Lb.out) Ho.out (by simp) rfl Qg.out Wh.out ?_;intro v9 w9 ho hg hv;have Mo:=hid ho;have Hi:=hid hg;clear ho hg hv))
      go_wp2_with fail
      go_roundw
      case rel=>exact⟨2,ts++[(t,some ⟨wr.heap.size,0,none⟩)],a0,_,rfl,by omega,rfl,by rw[List.map_append,hts,Zar HT.out];rfl,by rw[scA_snoc,Kc.out];exact Mo,Flds.grown (Flds.snoc ((HK.out.kept Gb.out).kept Lb.out) (by rw[Kc.out];exact Ib.out.kept Lb.out)) (Wd.out _ Lb.out) Hi.out,(HB.out.trans ((Gb.out.trans (Lb.out.mono Gb.out.size)).mono HB.out.size)).grown Hi.out (Nat.le_trans HB.out.size (Nat.le_trans Gb.out.size Lb.out.size)) (fun k e=>((Wd.out _ Lb.out).lt k e).1)⟩
      case measure=>simp[intOf];omega
    · go_upto_region 11 with fail
      refine Zan (fun X hX=>?_)
      have Gb:Hid (Below wr.heap.size wr X):=by rw[hX];exact Zak _ _
      have Ib:Hid (Box X wr.heap.size #[.int .i64 2,.int .i64 2,.string ⟨#[]⟩] 37):=by rw[hX];exact(Box.new wr _ _).kept (Zab _)
      have Sa:Hid (Box X (wr.heap.size+1) #[.string ⟨#[115]⟩,.int .i64 3,.int .i64 3,.int .i64 1,.string ⟨#[]⟩,.string ⟨#[]⟩,.int .i64 0,.slice none 0 0] 27):=by rw[hX];show Box _ _ _ _;have:=Box.new (wr.alloc (.cells #[.int .i64 2,.int .i64 2,.string ⟨#[]⟩] 37)) #[.string ⟨#[115]⟩,.int .i64 3,.int .i64 3,.int .i64 1,.string ⟨#[]⟩,.string ⟨#[]⟩,.int .i64 0,.slice none 0 0] 27;simpa using this
      have Wm:Hid (X.cell? ⟨b,off+2,none⟩=some (.int .i64 t)):=by have:=Zaa (Ig.out 2 t HT.out 0 _ rfl) Gb.out;show _=_;simpa using this
      clear hX
      have HS:Hid (∀ w',Below X.heap.size X w'->w'.cell? ⟨wr.heap.size+1,0,none⟩=some (.string ⟨#[115]⟩)/\w'.cell? ⟨wr.heap.size+1,1,none⟩=some (.int .i64 3)/\w'.cell? ⟨wr.heap.size+1,2,none⟩=some (.int .i64 3)/\w'.cell? ⟨wr.heap.size+1,3,none⟩=some (.int .i64 1)/\w'.cell? ⟨wr.heap.size+1,4,none⟩=some (.string ⟨#[]⟩)/\w'.cell? ⟨wr.heap.size+1,5,none⟩=some (.string ⟨#[]⟩)/\w'.cell? ⟨wr.heap.size+1,6,none⟩=some (.int .i64 0)/\w'.cell? ⟨wr.heap.size+1,7,none⟩=some (.slice none 0 0)/\w'.cell? ⟨b,off+2,none⟩=some (.int .i64 t)):=fun w' hb=>⟨(Sa.out.kept hb).cell 0 _ rfl,(Sa.out.kept hb).cell 1 _ rfl,(Sa.out.kept hb).cell 2 _ rfl,(Sa.out.kept hb).cell 3 _ rfl,(Sa.out.kept hb).cell 4 _ rfl,(Sa.out.kept hb).cell 5 _ rfl,(Sa.out.kept hb).cell 6 _ rfl,(Sa.out.kept hb).cell 7 _ rfl,Zaa Wm.out hb⟩
      have Wd:Hid (∀ w',Below X.heap.size X w'->Own En.cells 40 48 w' w.heap.size v0 (scA a0 ts)):=fun w' hb=>(HO.out.kept Gb.out).kept hb
      have Ho:Hid (Zac En.cells 40 (X.drew.alloc (.cells (scE (some ⟨wr.heap.size,0,none⟩) 2 t).cells.toArray 48)) (some ⟨X.heap.size,0,none⟩) [scE (some ⟨wr.heap.size,0,none⟩) 2 t]):=Zav (scE (some ⟨wr.heap.size,0,none⟩) 2 t) X.drew encE
      have Lb:Hid (Below X.heap.size X (X.drew.alloc (.cells (scE (some ⟨wr.heap.size,0,none⟩) 2 t).cells.toArray 48))):=((Below.refl _ X).drew).alloc (Nat.le_refl _) _
      have Qg:Hid (w.heap.size<=(X.drew.alloc (.cells (scE (some ⟨wr.heap.size,0,none⟩) 2 t).cells.toArray 48)).heap.size):=Nat.le_trans HB.out.size (Nat.le_trans Gb.out.size Lb.out.size)
      have Wp:Hid (∀ w',(X.drew.alloc (.cells (scE (some ⟨wr.heap.size,0,none⟩) 2 t).cells.toArray 48)).grownBy w' v0.ownBlock->w'.cell? ⟨wr.heap.size+1,0,none⟩=some (.string ⟨#[115]⟩)/\w'.cell? ⟨wr.heap.size+1,1,none⟩=some (.int .i64 3)/\w'.cell? ⟨wr.heap.size+1,2,none⟩=some (.int .i64 3)/\w'.cell? ⟨wr.heap.size+1,3,none⟩=some (.int .i64 1)/\w'.cell? ⟨wr.heap.size+1,4,none⟩=some (.string ⟨#[]⟩)/\w'.cell? ⟨wr.heap.size+1,5,none⟩=some (.string ⟨#[]⟩)/\w'.cell? ⟨wr.heap.size+1,6,none⟩=some (.int .i64 0)/\w'.cell? ⟨wr.heap.size+1,7,none⟩=some (.slice none 0 0)/\w'.cell? ⟨b,off+2,none⟩=some (.int .i64 t)):=fun w' hg=>by
       have Zd:Box w' (wr.heap.size+1) #[.string ⟨#[115]⟩,.int .i64 3,.int .i64 3,.int .i64 1,.string ⟨#[]⟩,.string ⟨#[]⟩,.int .i64 0,.slice none 0 0] 27:=(hg.block _ (Sa.out.kept Lb.out).lt (fun e=>(Wd.out _ Lb.out).ne_box (Sa.out.kept Lb.out) (by decide) e.symm)).trans (Sa.out.kept Lb.out)
       have htc:=Zaa Wm.out Lb.out
       refine⟨Zd.cell 0 _ rfl,Zd.cell 1 _ rfl,Zd.cell 2 _ rfl,Zd.cell 3 _ rfl,Zd.cell 4 _ rfl,Zd.cell 5 _ rfl,Zd.cell 6 _ rfl,Zd.cell 7 _ rfl,?_⟩
       have hbw:b<w.heap.size:=Wc.out
       have hblk:=hg.block b (Nat.lt_of_lt_of_le hbw Qg.out) (fun e=>by have:=((Wd.out _ Lb.out).lt b e.symm).1;omega)
       simp only[World.cell?,hblk]at htc ⊢
       exact htc
      go_region_held3 (fun w'=>w'.cell? ⟨wr.heap.size+1,0,none⟩=some (.string ⟨#[115]⟩)/\w'.cell? ⟨wr.heap.size+1,1,none⟩=some (.int .i64 3)/\w'.cell? ⟨wr.heap.size+1,2,none⟩=some (.int .i64 3)/\w'.cell? ⟨wr.heap.size+1,3,none⟩=some (.int .i64 1)/\w'.cell? ⟨wr.heap.size+1,4,none⟩=some (.string ⟨#[]⟩)/\w'.cell? ⟨wr.heap.size+1,5,none⟩=some (.string ⟨#[]⟩)/\w'.cell? ⟨wr.heap.size+1,6,none⟩=some (.int .i64 0)/\w'.cell? ⟨wr.heap.size+1,7,none⟩=some (.slice none 0 0)/\w'.cell? ⟨b,off+2,none⟩=some (.int .i64 t))
       (first|exact HS.out _ ((Below.refl _ _).drew)|exact HS.out _ Lb.out|exact Wp.out _ Hi.out)
       (first|(refine ZdK elE encE rfl (.tmp 40) (.tmp 49) rfl rfl rfl (Wd.out _ Lb.out) Ho.out (by simp) rfl Qg.out Wh.out ?_;intro v9 w9 ho hg hv;have Mo:=hid ho;have Hi:=hid hg;clear ho hg hv))
      go_wp2_with fail
      go_roundw
      case rel=>exact⟨3,ts++[(t,some ⟨wr.heap.size,0,none⟩)],a0,_,rfl,by omega,rfl,by rw[List.map_append,hts,Zar HT.out];rfl,by rw[scA_snoc,Kc.out];exact Mo,Flds.grown (Flds.snoc ((HK.out.kept Gb.out).kept Lb.out) (by rw[Kc.out];exact Ib.out.kept Lb.out)) (Wd.out _ Lb.out) Hi.out,(HB.out.trans ((Gb.out.trans (Lb.out.mono Gb.out.size)).mono HB.out.size)).grown Hi.out (Nat.le_trans HB.out.size (Nat.le_trans Gb.out.size Lb.out.size)) (fun k e=>((Wd.out _ Lb.out).lt k e).1)⟩
      case measure=>simp[intOf];omega
  · obtain rfl:i=ticks.length:=by omega
    rw[List.take_length]at hts
    have Kc:Hid (ts.length=ticks.length):=by show _=_;have:=congrArg List.length hts;simpa using this
    have Ma:Hid (∀ e∈scA a0 ts,e.Ok wr):=scA_ok HK.out (by have:=Kc.out;omega) (by rw[hts];exact HI.out)
    have Jl:=hid hts
    obtain⟨a,c,rfl,-,-,hl⟩:=HO.out.lies encE
    have HL:=hid hl
    have Ym:Hid (∀ q,a=some q->q.spot=none):=by
     intro q hq
     rcases hl with h|⟨b,off,h,-⟩
     · cases h
     · rw[h]at hq;injection hq with hq;rw[<-hq]
    clear hl hts
    go_wp2_with fail
    go_ret
    exact⟨a,c,a0,ts,rfl,Jl.out,⟨HL.out,Ma.out⟩,Ym.out,HB.out⟩
end Go.Proofs.YtfnpfkgmacaboaaGreat
