/- Texts joined by a program. -/
import Derived.Test.YtfnpfkgmacaboaaGreatM31
import Derived.Test.YtfnpfkgmacaboaaGreatM32
namespace Go.Proofs.YtfnpfkgmacaboaaGreat
open Go.Proofs.Tryz
open Lib (hid)
open Go.ChangeShapes Go.WideShapes Go.ChangeAt Go.RowKit
set_option linter.unusedVariables false
set_option linter.unusedSimpArgs false
set_option maxRecDepth 100000
set_option maxHeartbeats 4000000
theorem Zcg (w:World):(Instr.build 118 (#[]:Array (Nat × Value))).run prog w=.ok (.agg #[.slice none 0 0,.slice none 0 0,.slice none 0 0,.slice none 0 0]) w:=by
 simp[Instr.build,Tryz.zeroValue118,underlying118,Program.fieldsOf,Instr.fill,go_sem]
theorem build32 (w:World):(Instr.build 32 (#[]:Array (Nat × Value))).run prog w=.ok (.agg #[.string ⟨#[]⟩,.string ⟨#[]⟩,.slice none 0 0,.int .i64 0]) w:=by
 simp[Instr.build,Tryz.zeroValue32,underlying32,Program.fieldsOf,Instr.fill,go_sem]
structure TbsC (w0:World) (B:Nat) (w:World) (a:Option Addr) (n c:Nat):Prop where
 lies:TbsW w0 B w a n
 cap:n<=c
 zero:a=none->c=0
theorem TbsC.kept {w0:World}{B:Nat}{w w':World}{a:Option Addr}{n c:Nat}(h:TbsC w0 B w a n c)(hb:Below w.heap.size w w'):TbsC w0 B w' a n c:=⟨h.lies.kept hb,h.cap,h.zero⟩
theorem TbsC.nil (w0:World)(B:Nat)(w:World):TbsC w0 B w none 0 0:=⟨TbsW.nil _ _ _ _,Nat.le_refl _,fun _=>rfl⟩
theorem TbsC.own {w0 w:World}{B C:Nat}{v:Value}{l:List Tb}(h:Own Tb.cells 4 32 w B v l)(hl:l.length<=C)(hok:∀ t∈l,FdsAt w0 t.fa t.fn):∃ a c,v=.slice a l.length c/\TbsC w0 C w a l.length c :=
 let ⟨a,c,h1,h2,h3,h4⟩:=h.lies encT;⟨a,c,h1,⟨l,rfl,hl,hok,h4⟩,h2,h3⟩
theorem TbsC.mono {w0:World}{B C:Nat}{w:World}{a:Option Addr}{n c:Nat}(h:TbsC w0 B w a n c)(hB:B<=C):TbsC w0 C w a n c:=⟨let ⟨l,h1,h2,h3⟩:=h.lies;⟨l,h1,by omega,h3⟩,h.cap,h.zero⟩
theorem FtsC.mono {w0:World}{B C:Nat}{w:World}{a:Option Addr}{n c:Nat}(h:FtsC w0 B w a n c)(hB:B<=C):FtsC w0 C w a n c:=⟨let ⟨l,h1,h2,h3⟩:=h.lies;⟨l,h1,by omega,h3⟩,h.cap,h.zero⟩
def NoStr (cs:Array Value):Prop:=∀ v∈cs.toList,∀ s,v≠.string s
theorem ZeB {w:World}{g:Nat}{cs:Array Value}{t:TypeId}(hg:Box w g cs t)(hcs:NoStr cs){b off:Nat}{s:ByteArray}(h:w.cell? ⟨b,off,none⟩=some (.string s)):b≠g:=by
 intro e
 subst e
 simp only[World.cell?,show w.heap[b]?=_ from hg]at h
 have hm:(.string s:Value)∈cs.toList:=by
  have h2:cs[off]?=some (.string s):=by simpa using h
  obtain⟨hi,he⟩:=Array.getElem?_eq_some_iff.1 h2
  rw[<-he]
  exact Array.getElem_mem_toList hi
 exact hcs _ hm s rfl
theorem FtsC.put {w0:World}{B:Nat}{w w':World}{a:Option Addr}{n c g:Nat}{cs:Array Value}{t:TypeId}(h:FtsC w0 B w a n c)(hg:Box w g cs t)(hcs:NoStr cs)(hot:∀ k,k≠g->w'.heap[k]?=w.heap[k]?):FtsC w0 B w' a n c:=by
 obtain⟨⟨l,rfl,hl,hok,h1⟩,h2,h3⟩:=h
 refine⟨⟨l,rfl,hl,hok,?_⟩,h2,h3⟩
 rcases h1 with h1|⟨b,off,rfl,hr⟩
 · exact Or.inl h1
 · cases l with
   |nil=>exact Or.inl rfl
   |cons x l =>
    have hb:b≠g:=ZeB hg hcs (s:=x.m) (hr 0 x rfl 0 _ rfl)
    exact Or.inr ⟨b,off,rfl,hr.same (hot b hb)⟩
theorem TbsC.put {w0:World}{B:Nat}{w w':World}{a:Option Addr}{n c g:Nat}{cs:Array Value}{t:TypeId}(h:TbsC w0 B w a n c)(hg:Box w g cs t)(hcs:NoStr cs)(hot:∀ k,k≠g->w'.heap[k]?=w.heap[k]?):TbsC w0 B w' a n c:=by
 obtain⟨⟨l,rfl,hl,hok,h1⟩,h2,h3⟩:=h
 refine⟨⟨l,rfl,hl,hok,?_⟩,h2,h3⟩
 rcases h1 with h1|⟨b,off,rfl,hr⟩
 · exact Or.inl h1
 · cases l with
   |nil=>exact Or.inl rfl
   |cons x l =>
    have hb:b≠g:=ZeB hg hcs (s:=x.m) (hr 0 x rfl 0 _ rfl)
    exact Or.inr ⟨b,off,rfl,hr.same (hot b hb)⟩
theorem Zbc (a b c d:Option Addr)(x1 x2 y1 y2 z1 z2 u1 u2:Nat):NoStr #[.slice a x1 x2,.slice b y1 y2,.slice c z1 z2,.slice d u1 u2]:=by
 intro v hv s e
 subst e
 simp at hv
structure Ct where
 ta:Option Addr
 tn:Nat
 tc:Nat
 fa:Option Addr
 fn:Nat
 fc:Nat
 da:Option Addr
 dn:Nat
 dc:Nat
 qa:Option Addr
 qn:Nat
 qc:Nat
abbrev Ct.val (c:Ct):Value:=.agg #[.slice c.ta c.tn c.tc,.slice c.fa c.fn c.fc,.slice c.da c.dn c.dc,.slice c.qa c.qn c.qc]
structure Ct.Ok (w0:World) (B:Nat) (w:World) (c:Ct):Prop where
 t:TbsC w0 B w c.ta c.tn c.tc
 f:FtsC w0 B w c.fa c.fn c.fc
 d:FtsC w0 B w c.da c.dn c.dc
 q:FtsC w0 B w c.qa c.qn c.qc
theorem Ct.Ok.kept {w0:World}{B:Nat}{w w':World}{c:Ct}(h:c.Ok w0 B w)(hb:Below w.heap.size w w'):c.Ok w0 B w':=⟨h.t.kept hb,h.f.kept hb,h.d.kept hb,h.q.kept hb⟩
theorem Ct.Ok.mono {w0:World}{B C:Nat}{w:World}{c:Ct}(h:c.Ok w0 B w)(hB:B<=C):c.Ok w0 C w:=⟨h.t.mono hB,h.f.mono hB,h.d.mono hB,h.q.mono hB⟩
theorem Ct.Ok.put {w0:World}{B:Nat}{w w':World}{c:Ct}{g:Nat}{cs:Array Value}{t:TypeId}(h:c.Ok w0 B w)(hg:Box w g cs t)(hcs:NoStr cs)(hot:∀ k,k≠g->w'.heap[k]?=w.heap[k]?):c.Ok w0 B w':=⟨h.t.put hg hcs hot,h.f.put hg hcs hot,h.d.put hg hcs hot,h.q.put hg hcs hot⟩
theorem Ct.Ok.w {w0:World}{B:Nat}{w:World}{c:Ct}(h:c.Ok w0 B w):CatW w0 B w c.ta c.tn c.fa c.fn c.da c.dn c.qa c.qn:=⟨h.t.lies,h.f.lies,h.d.lies,h.q.lies⟩
def Ct.zero:Ct:=⟨none,0,0,none,0,0,none,0,0,none,0,0⟩
theorem Ct.zero_ok (w0:World)(B:Nat)(w:World):Ct.zero.Ok w0 B w:=⟨TbsC.nil _ _ _,FtsC.nil _ _ _,FtsC.nil _ _ _,FtsC.nil _ _ _⟩
def Ct.cells (c:Ct):List Value:=[.slice c.ta c.tn c.tc,.slice c.fa c.fn c.fc,.slice c.da c.dn c.dc,.slice c.qa c.qn c.qc]
structure Cs (w0 w:World) (B g r:Nat) (c:Ct) (W:World):Prop where
 box:Box W g c.cells.toArray 118
 res:Box W r #[.slice none 0 0,.slice none 0 0,.slice none 0 0,.slice none 0 0] 118
 ok:c.Ok w0 B W
 below:Below w.heap.size w W
 old:Below w0.heap.size w0 w
 hg:w.heap.size<=g
 hr:w.heap.size<=r
 ne:r≠g
section
variable {w0 w W W':World} {B B' g r:Nat} {c c':Ct}
theorem Cs.kept (h:Cs w0 w B g r c W)(hb:Below W.heap.size W W'):Cs w0 w B g r c W':=⟨h.box.kept hb,h.res.kept hb,h.ok.kept hb,ZT h.below hb,h.old,h.hg,h.hr,h.ne⟩
theorem Cs.wz (h:Cs w0 w B g r c W):Below w0.heap.size w0 W:=h.old.trans (h.below.mono h.old.size)
theorem Cs.q {ta:Option Addr}{tn tc:Nat}{fa:Option Addr}{fn fc:Nat}{da:Option Addr}{dn dc:Nat}{qa:Option Addr}{qn qc:Nat}(h:Cs w0 w B g r ⟨ta,tn,tc,fa,fn,fc,da,dn,dc,qa,qn,qc⟩ W) :
 W.cell? ⟨g,0,none⟩=some (.slice ta tn tc)/\W.cell? ⟨g,1,none⟩=some (.slice fa fn fc)/\W.cell? ⟨g,2,none⟩=some (.slice da dn dc)/\W.cell? ⟨g,3,none⟩=some (.slice qa qn qc) :=
 ⟨h.box.cell 0 _ rfl,h.box.cell 1 _ rfl,h.box.cell 2 _ rfl,h.box.cell 3 _ rfl⟩
theorem Cs.set {j:Nat}{v:Value}(h:Cs w0 w B g r c W)(hb:Box W' g (c.cells.toArray.setIfInBounds j v) 118)(hc:c.cells.toArray.setIfInBounds j v=c'.cells.toArray)(hbe:Below w.heap.size w W')(hot:∀ k,k≠g->W'.heap[k]?=W.heap[k]?)(hok:c'.Ok w0 B' W):Cs w0 w B' g r c' W' :=
 ⟨hc ▸ hb,(hot r h.ne).trans h.res,hok.put h.box (Zbc _ _ _ _ _ _ _ _ _ _ _ _) hot,hbe,h.old,h.hg,h.hr,h.ne⟩
structure Rs (w0 w:World) (B r:Nat) (c:Ct) (W:World):Prop where
 box:Box W r c.cells.toArray 118
 ok:c.Ok w0 B W
 below:Below w.heap.size w W
end
section
variable {w0 w W W':World} {B B' g r:Nat} {c c':Ct} {o:Oper} {a:Act} {K:Act->World->Prop} {Q:Exit->Act->World->Prop} {ops:Array Oper} {rest:List Oper}
theorem Zfb (ty:TypeId)(hty:(prog.info? ty).map (·.size)=some 1)(x y:Operand)(ho:o.op=.store ty x y)(hd:o.dst=none)(h:Cs w0 w B g r c W)(j:Nat)(hj:j<4)(v:Value)(hv:v.cells=#[v])(h1:v.oneCell'=true)
 (hx:a.eval x=.pointer (some ⟨g,j,none⟩)) (hy:a.eval y=v) (c':Ct) (hc:c.cells.toArray.setIfInBounds j v=c'.cells.toArray) (hok:c'.Ok w0 B' W)
 (hk:∀ W',Cs w0 w B' g r c' W'->(∀ k,k≠g->W'.heap[k]?=W.heap[k]?)->K a W'):o.wp prog a W K Q :=
 Ze9 ty x y ho hd g j 118 _ v hx hy hv h1 h.box hty hj w h.below h.hg (fun W' hb hbe hot=>hk W' (h.set hb hc hbe hot hok) hot)
theorem Zbo (hgd:o.guard=none)(ty:TypeId)(hty:(prog.info? ty).map (·.size)=some 1)(x y:Operand)(ho:o.op=.store ty x y)(hd:o.dst=none)(h:Cs w0 w B g r c W)(j:Nat)(hj:j<4)(v:Value)(hv:v.cells=#[v])(h1:v.oneCell'=true)
 (hx:a.eval x=.pointer (some ⟨g,j,none⟩)) (hy:a.eval y=v) (c':Ct) (hc:c.cells.toArray.setIfInBounds j v=c'.cells.toArray) (hok:c'.Ok w0 B' W)
 (hk:∀ W',Cs w0 w B' g r c' W'->(∀ k,k≠g->W'.heap[k]?=W.heap[k]?)->wpList prog ops Q rest a W'):wpList prog ops Q (o :: rest) a W :=
 ZdA hgd ty x y ho hd g j 118 _ v hx hy hv h1 h.box hty hj w h.below h.hg (fun W' hb hbe hot=>hk W' (h.set hb hc hbe hot hok) hot)
theorem Zao (hgd:o.guard=none)(x y:Operand)(ho:o.op=.store 118 x y)(hd:o.dst=none)(h:Cs w0 w B g r c W)(c':Ct)(hx:a.eval x=.pointer (some ⟨r,0,none⟩))(hy:a.eval y=.agg c'.cells.toArray)(hok:c'.Ok w0 B' W)
 (hk:∀ W',Rs w0 w B' r c' W'->(∀ k,k≠r->W'.heap[k]?=W.heap[k]?)->wpList prog ops Q rest a W'):wpList prog ops Q (o :: rest) a W :=
 ZaE hgd 118 x y ho hd r 118 _ c'.cells hx hy h.res (by kernel_rfl) rfl rfl w h.below h.hr (fun W' hb hbe hot=>hk W' ⟨hb,hok.put h.res (Zbc _ _ _ _ _ _ _ _ _ _ _ _) hot,hbe⟩ hot)
end
def CatSame (c:Ct)(w0:World)(B:Nat)(w:World)(e:Ending)(w':World):Prop:=∃ (c2:Ct) (k:Int),e=.returned (.tuple #[c2.val,.int .i64 k])/\c2.Ok w0 B w'/\(k=0->c2.ta=c.ta/\c2.tn=c.tn/\c2.tc=c.tc)/\Below w.heap.size w w'
def IdxTwo (n:Nat)(w:World)(e:Ending)(w':World):Prop:=(e=.returned (.int .i64 (-1))∨∃ k:Nat,k<n/\e=.returned (.int .i64 k))/\Below w.heap.size w w'
theorem IdxPost.two {n:Nat}{w w':World}{e:Ending}(h:IdxPost n w e w'):IdxTwo n w e w':=by
 obtain⟨k,rfl,h1,h2,hb⟩:=h
 refine⟨?_,hb⟩
 by_cases h:k<0
 · left
   obtain rfl:k=-1:=by omega
   rfl
 · right
   exact⟨k.toNat,by omega,by rw[Int.toNat_of_nonneg (by omega)]⟩
theorem Box.aside {W W':World}{g b:Nat}{cs:Array Value}{t:TypeId}(h:Box W g cs t)(hot:∀ k,k≠b->W'.heap[k]?=W.heap[k]?)(hne:g≠b):Box W' g cs t:=(hot g hne).trans h
theorem FtsC.elem {w0 W:World}{B:Nat}{a:Option Addr}{n cp k:Nat}(h:FtsC w0 B W a n cp)(hk:k<n):∃ (x:Ft) (b o:Nat),a=some ⟨b,o,none⟩/\x.Ok w0/\∀ W',Below W.heap.size W W'->∀ j v,x.cells[j]?=some v->W'.cell? ⟨b,o+k*18+j,none⟩=some v:=by
 obtain⟨⟨l,rfl,hl,hok,h1⟩,-,-⟩:=h
 obtain⟨b,o,rfl,hr⟩:=h1.some (by omega)
 exact⟨l[k],b,o,rfl,hok _ (List.getElem_mem hk),fun W' hb j v hj=>Zaa (hr k _ (List.getElem?_eq_getElem hk) j v hj) hb⟩
theorem ZaA {P:Program}{ops:Array Oper}{rest:List Oper}{a:Act}{W:World}{Q:Exit->Act->World->Prop}{o1 o2:Oper}(He:o1.guard=none)(Ye:o2.guard=none)(ty:TypeId)(x y:Operand)(h1:o1.op=.alloc ty)(h2:o2.op=.store ty x y)(hd:o2.dst=none)(L:List Value)
 (hx:(a.put o1.dst (.pointer (some ⟨W.heap.size,0,none⟩))).eval x=.pointer (some ⟨W.heap.size,0,none⟩)) (hy:(a.put o1.dst (.pointer (some ⟨W.heap.size,0,none⟩))).eval y=.agg L.toArray)
 (hi:(P.info? ty).map (fun i=>(i.zero.map (fun z=>z.cells.size),i.size))=some (some L.length,L.length)) (hone:(L.all (·.oneCell'))=true)
 (h:∀ g w',Box w' g L.toArray ty->W.heap.size=g->Below W.heap.size W w'->wpList P ops Q rest (a.put o1.dst (.pointer (some ⟨g,0,none⟩))) w'):wpList P ops Q (o1 :: o2 :: rest) a W :=
 Zbe He Ye ty x y h1 h2 hd L hx hy hi hone W (Below.refl _ _) (fun w' hb _ hbl=>h _ w' hb rfl hbl)
theorem drop_any (c:Ct)(nm:ByteArray)(w w0:World)(Oa:Below w0.heap.size w0 w)(B:Nat)(hB:B<=1000)(h:c.Ok w0 B w):Calls prog 168 #[c.val,.string nm] w (CatSame c w0 (B+2) w):=by
 obtain⟨ta,tn,tc,fa,fn,fc,da,dn,dc,qa,qn,qc⟩:=c
 have hB2:B<=100000:=by omega
 dsimp only[Ct.val]
 go_enter func168,ntmps168
 go_upto_region 1 with fail
 refine Zan (fun V hV=>?_)
 have Ba:Hid (Cs w0 w B w.heap.size (w.heap.size+1) ⟨ta,tn,tc,fa,fn,fc,da,dn,dc,qa,qn,qc⟩ V):=by
  have hb:Below w.heap.size w V:=by rw[hV];exact bt
  exact⟨by rw[hV];exact ZcH ..,by rw[hV];exact ZcG ..,h.kept hb,hb,Oa,Nat.le_refl _,by omega,by omega⟩
 clear hV h
 have qq:=Ba.out.q
 obtain⟨q0,q1,q2,q3⟩:=qq
 go_wp2_with (first|(go_at_call 183;refine(Zcp _ _ _ _ B hB2 _ (Ba.out.ok.d.lies.at Ba.out.wz)).mono ?_;intro e w5 hp;obtain⟨hp,hb⟩:=hp.two;have Ba:=hid (Ba.out.kept hb);clear hb;have qq:=Ba.out.q;obtain⟨q0,q1,q2,q3⟩:=qq;(rcases hp with rfl|⟨k5,Rd,rfl⟩))|(go_at_call 186;refine(ZbW _ _ _ k5 Rd w0 _ (by omega) _ Ba.out.ok.d).mono ?_;rintro e w5 ⟨a5,n5,c5,rfl,h5,hb⟩;have H5:=hid h5;clear h5;have Ba:=hid (Ba.out.kept hb);clear hb;have qq:=Ba.out.q;obtain⟨q0,q1,q2,q3⟩:=qq)|((with_reducible refine Zaf 116 ?_);refine Zbo rfl 116 (by kernel_rfl) _ _ rfl rfl Ba.out 2 (by decide) (.slice a5 n5 c5) rfl rfl rfl rfl ⟨ta,tn,tc,fa,fn,fc,a5,n5,c5,qa,qn,qc⟩ rfl ⟨Ba.out.ok.t,Ba.out.ok.f,H5.out,Ba.out.ok.q⟩ ?_;intro w6 hst hot;have Ba:=hid hst;clear hst hot;have qq:=Ba.out.q;obtain⟨q0,q1,q2,q3⟩:=qq)|((with_reducible refine Zaq 118 ?_);refine Zae rfl 118 #[] rfl Ct.zero.cells (fun w=>Zcg w) ?_;intro v hv;obtain rfl:=hv.out)|((with_reducible refine Zaf 118 ?_);refine Zao rfl _ _ rfl rfl Ba.out Ct.zero rfl rfl (Ct.zero_ok _ B _) ?_;intro w9 hR hotr;have HR:=hid hR;have Na:=hid hotr;clear hR hotr)|((with_reducible refine Zah 118 ?_);refine LB Ba.out.box ?_)|((with_reducible refine Zaf 118 ?_);refine Zao rfl _ _ rfl rfl Ba.out _ rfl rfl Ba.out.ok ?_;intro w9 hR hotr;have HR:=hid hR;have Na:=hid hotr;clear hR hotr)|fail)
 all_goals
  (try simp only[Exit.inBlock,Exit.then]);refine rb2 HR.out.box ?_
  exact⟨_,_,rfl,HR.out.ok.mono (by omega),(fun e=>by first|exact⟨rfl,rfl,rfl⟩|cases e|(exfalso;omega)),HR.out.below⟩
open Go.Maps
theorem neq24 (x y:FID)(w:World):(binOp .neq 24 (fidV x) (fidV y)).run prog w=.ok (.bool (!eqF x y)) w:=by
 have u3:=underlying3
 have u9:=underlying9
 have a3:=Tryz.isAgg3
 have z3:=Tryz.sizeOf3
 have a9:=Tryz.isAgg9
 have z9:=Tryz.sizeOf9
 have hS:prog.underlying 24=some (.struct (prog.fieldsOf 24)):=by kernel_rfl
 have hp:prog.stoodInHeld 24=false:=by kernel_rfl
 rw[run_neq_struct]
 rw[show(10000:Nat)=9999+1 from rfl,run_equalIn_agg w 9999 24 _ _ hS hp]
 simp only[Program.fieldsOf,underlying24]
 go_simp
 unfold eqF
 by_cases h1:x.1.toList=y.1.toList<;>by_cases h2:x.2=y.2<;>simp[h1,h2]
def opB (l:List En)(t:Int)(id:FID):Bs:=(Zbj (untl l t) id).getD zeroB
theorem opB_snoc (l:List En)(t:Int)(id:FID)(x:En):opB (l++[x]) t id=if x.kind=1/\x.tick<=t/\eqF x.base id=true then nextB (opB l t id) x else opB l t id:=by
 unfold opB
 rw[untl_snoc]
 by_cases h2:x.tick<=t
 · rw[if_pos h2,Zdw]
   unfold stepB
   by_cases h1:x.kind=1
   · rw[if_pos h1]
     by_cases h3:eqF x.base id=true
     · have h4:eqF id x.base=true:=ZaW.2 (ZaW.1 h3).symm
       rw[if_pos h4,if_pos ⟨h1,h2,h3⟩]
       rfl
     · have h4:¬ eqF id x.base=true:=fun e=>h3 (ZaW.2 (ZaW.1 e).symm)
       rw[if_neg h4,if_neg (fun q=>h3 q.2.2)]
   · rw[if_neg h1,if_neg (fun q=>h1 q.1)]
 · rw[if_neg h2,List.append_nil,if_neg (fun q=>h2 q.2.1)]
def OpPost (l:List En)(t:Int)(id:FID)(w:World)(e:Ending)(w':World):Prop:=e=.returned (.tuple #[.agg (opB l t id).2.cells.toArray,.bool (opB l t id).1])/\Below w.heap.size w w'
set_option maxHeartbeats 8000000 in
theorem Ze8 (l:List En)(ao:Option Addr)(c:Nat)(id:FID)(t:Int)(hl:l.length<=100000)(w:World)(h:Zac En.cells 40 w ao l) :
 Calls prog 100 #[.slice ao l.length c,fidV id,.int .i64 t] w (OpPost l t id w):=by
 have H:=hid h
 clear h
 go_enter func100,ntmps100
 go_upto_region 2 with fail
 refine Zan (fun V hV=>?_)
 have B0:Hid (Box V w.heap.size #[.string id.1,.int .i64 id.2] 24):=by rw[hV];exact Zc4 ..
 have B1:Hid (Box V (w.heap.size+1) (En.cells zeroE).toArray 48):=by rw[hV];exact Zc3 ..
 have B2:Hid (Box V (w.heap.size+2) (En.cells zeroE).toArray 48):=by rw[hV];exact Zc2 ..
 have Aa:Hid (Below w.heap.size w V):=by rw[hV];exact bt
 have HSV:Hid (w.heap.size+2<V.heap.size):=B2.out.lt
 clear hV
 go_wp2_with fail
 go_loopw [9,10] (fun u v wr=>∃ i:Nat,i<=l.length/\v=.int .i64 i/\u=.bool (opB (l.take i) t id).1/\Hid (Box wr w.heap.size #[.string id.1,.int .i64 id.2] 24)/\Hid (Box wr (w.heap.size+1) (En.cells zeroE).toArray 48)/\Hid (Box wr (w.heap.size+2) (En.cells (opB (l.take i) t id).2).toArray 48)/\Hid (Below w.heap.size w wr)) (fun _ v _=>l.length - (intOf v).toNat)
 case atStart=>exact⟨0,by omega,rfl,rfl,B0,B1,B2,Aa⟩
 case round =>
  clear B0 B1 B2
  obtain⟨i,hi,rfl,rfl,B0,B1,B2,HR⟩:=hrel
  rename World=>wr
  by_cases hlt:i<l.length
  · obtain⟨x,hx⟩:∃ x,l[i]?=some x:=⟨l[i],List.getElem?_eq_getElem hlt⟩
    obtain⟨b2,o2,rfl,Ph⟩:=Zat (H.out.kept HR.out) hx
    have Bk:Hid (∀ w',Below wr.heap.size wr w'->∀ j v,x.cells[j]?=some v->w'.cell? ⟨b2,o2+i*40+j,none⟩=some v):=fun w' hb j v hj=>Zaa (Ph i x hx j v hj) hb
    have Tf:Hid (∀ j v,([.string x.src,.int .i64 x.seq,.int .i64 x.fk,.int .i64 x.ref,.string x.tb,.string x.ky,.int .i64 x.ev,.slice x.fa x.vs.length x.fc]:List Value)[j]?=some v->wr.cell? ⟨b2,o2+i*40+3+j,none⟩=some v):=fun j v hj=>by
     have hj8:j<8:=(List.getElem?_eq_some_iff.1 hj).1
     rw[Nat.add_assoc]
     refine Bk.out wr (ZR wr) (3+j) v ?_
     match j,hj with
     |0,hj=>exact hj
     |1,hj=>exact hj
     |2,hj=>exact hj
     |3,hj=>exact hj
     |4,hj=>exact hj
     |5,hj=>exact hj
     |6,hj=>exact hj
     |7,hj=>exact hj
    have Rf:Hid (opB (l.take (i+1)) t id=if x.kind=1/\x.tick<=t/\eqF x.base id=true then nextB (opB (l.take i) t id) x else opB (l.take i) t id):=by show _=_;rw[Zar hx,opB_snoc]
    clear Ph hx
    generalize opB (l.take i) t id=bs at *
    obtain⟨ass,la⟩:=bs
    dsimp only at B2
    go_upto_region 7 with(first
     |(refine Zal rfl 27 (.tmp 21) rfl b2 (o2+i*40+3) [.string x.src,.int .i64 x.seq,.int .i64 x.fk,.int .i64 x.ref,.string x.tb,.string x.ky,.int .i64 x.ev,.slice x.fa x.vs.length x.fc] rfl Tf.out _ underlying27 rfl (by kernel_rfl) ?_)
     |((with_reducible refine ZaK 27 ?_);refine ZaA rfl rfl 27 _ _ rfl rfl rfl [.string x.src,.int .i64 x.seq,.int .i64 x.fk,.int .i64 x.ref,.string x.tb,.string x.ky,.int .i64 x.ev,.slice x.fa x.vs.length x.fc] rfl rfl (by kernel_rfl) (by rfl) ?_;intro g7 w8 hbx Re hb;have Se:=hid hbx;have Sa:=hid hb;clear Re hbx hb)
     |fail)
    have n1:=Bk.out w8 Sa.out 1 (.int .i64 x.tick) rfl
    have n2:=Bk.out w8 Sa.out 2 (.int .i64 x.kind) rfl
    have r0:=fun d os=>cell_regrown (w:=w8) n1 d os
    have r1:=fun d os=>cell_regrown (w:=w8) n2 d os
    have r2:=fun d os=>cell_regrown (w:=w8) (Se.out.cell 0 (.string x.src) rfl) d os
    have r3:=fun d os=>cell_regrown (w:=w8) (Se.out.cell 1 (.int .i64 x.seq) rfl) d os
    have r4:=fun d os=>cell_regrown (w:=w8) (Se.out.cell 2 (.int .i64 x.fk) rfl) d os
    have r5:=fun d os=>cell_regrown (w:=w8) (Se.out.cell 3 (.int .i64 x.ref) rfl) d os
    have r6:=fun d os=>cell_regrown (w:=w8) (Se.out.cell 4 (.string x.tb) rfl) d os
    have r7:=fun d os=>cell_regrown (w:=w8) (Se.out.cell 5 (.string x.ky) rfl) d os
    have r8:=fun d os=>cell_regrown (w:=w8) (Se.out.cell 6 (.int .i64 x.ev) rfl) d os
    have r9:=fun d os=>cell_regrown (w:=w8) (Se.out.cell 7 (.slice x.fa x.vs.length x.fc) rfl) d os
    have r10:=fun d os=>cell_regrown (w:=w8) ((B0.out.kept Sa.out).cell 0 (.string id.1) rfl) d os
    have r11:=fun d os=>cell_regrown (w:=w8) ((B0.out.kept Sa.out).cell 1 (.int .i64 id.2) rfl) d os
    have Ch:=hid (fun d os=>Calls.regrown_of (Ze4 x.src x.tb x.ky x.seq x.fk x.ref x.ev x.fa x.vs.length x.fc (Go.Sort.grow (redrawn w8 d) os)))
    have Kk:∀ op a b w,(eqGuard op 24 a b (.agg #[.string (baseF x.src x.seq x.fk x.ref).1,.int .i64 (baseF x.src x.seq x.fk x.ref).2]) (.agg #[.string id.1,.int .i64 id.2])).run prog w=.ok () w:=fun op a b w=>Zff op a b x.base id w
    have Lk:∀ w,(binOp .neq 24 (.agg #[.string (baseF x.src x.seq x.fk x.ref).1,.int .i64 (baseF x.src x.seq x.fk x.ref).2]) (.agg #[.string id.1,.int .i64 id.2])).run prog w=.ok (.bool (!eqF x.base id)) w:=neq24 x.base id
    by_cases h1:x.kind=1
    · have d1:(x.kind != 1)=false:=by simp[h1]
      by_cases h2:x.tick<=t
      · have d2:decide (t<x.tick)=false:=decide_eq_false (by omega)
        cases hq:eqF x.base id
        · rw[hq]at Lk
          rw[if_neg (fun q=>by rw[hq]at q;cases q.2.2)]at Rf
          clear h1 h2
          try simp only[Act.put,m1,m2,m3]
          refine wp_region_quiet_below (by kernel_rfl) (by kernel_rfl) ?_
          repeat(go_big_quiet_step (first|with_reducible exact Ch.out _ _))
          refine wpQuiet_nil ?_
          intro _ hw'
          obtain⟨p9,hw''⟩:=hw'
          subst hw''
          have Ie:=below_regrown w8 p9.d p9.os
          clear Ch r0 r1 r2 r3 r4 r5 r6 r7 r8 r9 r10 r11
          generalize Go.Sort.grow (redrawn w8 p9.d) p9.os=V2 at *
          have La:Hid (Below w8.heap.size w8 V2):=Ie
          clear Ie
          go_wp2_with fail
          go_roundw
          case rel=>exact⟨i+1,by omega,by go_num,by rw[Rf.out],(B0.out.kept Sa.out).kept La.out,(B1.out.kept Sa.out).kept La.out,by rw[Rf.out];exact(B2.out.kept Sa.out).kept La.out,ZT HR.out (ZT Sa.out La.out)⟩
          case measure=>simp[intOf];omega
        · rw[hq]at Lk
          rw[if_pos ⟨h1,h2,hq⟩]at Rf
          clear h1 h2
          try simp only[Act.put,m1,m2,m3]
          refine wp_region_quiet_below (by kernel_rfl) (by kernel_rfl) ?_
          repeat(go_big_quiet_step (first|with_reducible exact Ch.out _ _))
          refine wpQuiet_nil ?_
          intro _ hw'
          obtain⟨p9,hw''⟩:=hw'
          subst hw''
          have Ie:=below_regrown w8 p9.d p9.os
          clear Ch r0 r1 r2 r3 r4 r5 r6 r7 r8 r9 r10 r11
          generalize Go.Sort.grow (redrawn w8 p9.d) p9.os=V2 at *
          have La:Hid (Below w8.heap.size w8 V2):=Ie
          clear Ie
          have Wb:Hid (Below w.heap.size w V2):=ZT HR.out (ZT Sa.out La.out)
          have k2:=(Se.out.kept La.out).cell 2 (.int .i64 x.fk) rfl
          have k1:=(Se.out.kept La.out).cell 1 (.int .i64 x.seq) rfl
          have Mb:Hid (Box V2 (w.heap.size+2) (En.cells la).toArray 48):=(B2.out.kept Sa.out).kept La.out
          have k4:=Mb.out.cell 4 (.int .i64 la.seq) rfl
          have Sh:=Bk.out V2 (ZT Sa.out La.out)
          have Oj:Hid (∀ j v,x.cells[j]?=some v->V2.cell? ⟨b2,o2+i*40+j,none⟩=some v):=Sh
          clear Sh
          by_cases h5:la.seq<x.seq
          · have d5:decide (la.seq<x.seq)=true:=decide_eq_true h5
            have Fi:Hid (nextB (ass,la) x=(ass||x.fk==1,x)):=by show(_,_)=_;rw[if_pos h5]
            clear h5
            cases ass
            all_goals
             go_wp2_with (first
              |(refine Zal rfl 48 (.tmp 60) rfl b2 (o2+i*40) x.cells rfl Oj.out _ underlying48 rfl (by kernel_rfl) ?_)
              |((with_reducible refine Zaf 48 ?_);refine ZaE rfl 48 _ _ rfl rfl (w.heap.size+2) 48 _ (En.cells x) rfl rfl Mb.out (by kernel_rfl) rfl (by rfl) w Wb.out (by omega) ?_;intro w9 hby hyb hot;have HY:=hid hby;have Oi:=hid hyb;have Na:=hid hot;clear hby hyb hot)
              |fail)
             go_roundw
             case rel=>exact⟨i+1,by omega,by go_num,by rw[Rf.out,Fi.out];rfl,((B0.out.kept Sa.out).kept La.out).aside Na.out (by omega),((B1.out.kept Sa.out).kept La.out).aside Na.out (by omega),by rw[Rf.out,Fi.out];exact HY.out,Oi.out⟩
             case measure=>simp[intOf];omega
          · have d5:decide (la.seq<x.seq)=false:=decide_eq_false h5
            have Fi:Hid (nextB (ass,la) x=(ass||x.fk==1,la)):=by show(_,_)=_;rw[if_neg h5]
            clear h5
            cases ass
            all_goals
             go_wp2_with fail
             go_roundw
             case rel=>exact⟨i+1,by omega,by go_num,by rw[Rf.out,Fi.out];rfl,(B0.out.kept Sa.out).kept La.out,(B1.out.kept Sa.out).kept La.out,by rw[Rf.out,Fi.out];exact Mb.out,Wb.out⟩
             case measure=>simp[intOf];omega
      · have d2:decide (t<x.tick)=true:=decide_eq_true (by omega)
        rw[if_neg (fun q=>h2 q.2.1)]at Rf
        clear h1 h2
        try simp only[Act.put,m1,m2,m3]
        refine wp_region_quiet_below (by kernel_rfl) (by kernel_rfl) ?_
        repeat(go_big_quiet_step (first|with_reducible exact Ch.out _ _))
        refine wpQuiet_nil ?_
        intro _ hw'
        obtain⟨p9,hw''⟩:=hw'
        subst hw''
        have Ie:=below_regrown w8 p9.d p9.os
        clear Ch r0 r1 r2 r3 r4 r5 r6 r7 r8 r9 r10 r11
        generalize Go.Sort.grow (redrawn w8 p9.d) p9.os=V2 at *
        have La:Hid (Below w8.heap.size w8 V2):=Ie
        clear Ie
        go_wp2_with fail
        go_roundw
        case rel=>exact⟨i+1,by omega,by go_num,by rw[Rf.out],(B0.out.kept Sa.out).kept La.out,(B1.out.kept Sa.out).kept La.out,by rw[Rf.out];exact(B2.out.kept Sa.out).kept La.out,ZT HR.out (ZT Sa.out La.out)⟩
        case measure=>simp[intOf];omega
    · have d1:(x.kind != 1)=true:=by simpa using h1
      rw[if_neg (fun q=>h1 q.1)]at Rf
      clear h1
      try simp only[Act.put,m1,m2,m3]
      refine wp_region_quiet_below (by kernel_rfl) (by kernel_rfl) ?_
      repeat(go_big_quiet_step (first|with_reducible exact Ch.out _ _))
      refine wpQuiet_nil ?_
      intro _ hw'
      obtain⟨p9,hw''⟩:=hw'
      subst hw''
      have Ie:=below_regrown w8 p9.d p9.os
      clear Ch r0 r1 r2 r3 r4 r5 r6 r7 r8 r9 r10 r11
      generalize Go.Sort.grow (redrawn w8 p9.d) p9.os=V2 at *
      have La:Hid (Below w8.heap.size w8 V2):=Ie
      clear Ie
      go_wp2_with fail
      go_roundw
      case rel=>exact⟨i+1,by omega,by go_num,by rw[Rf.out],(B0.out.kept Sa.out).kept La.out,(B1.out.kept Sa.out).kept La.out,by rw[Rf.out];exact(B2.out.kept Sa.out).kept La.out,ZT HR.out (ZT Sa.out La.out)⟩
      case measure=>simp[intOf];omega
  · obtain rfl:i=l.length:=by omega
    rw[List.take_length]at B2 ⊢
    have HP:Hid (∀ w',Below w.heap.size w w'->OpPost l t id w (.returned (.tuple #[.agg (opB l t id).2.cells.toArray,.bool (opB l t id).1])) w'):=fun w' hb=>⟨rfl,hb⟩
    generalize (opB l t id).1=ab at *
    generalize (opB l t id).2=lb at *
    go_wp2_with (first
     |((with_reducible refine Zah 48 ?_);refine LB (L:=(En.cells lb)) B2.out ?_)
     |((with_reducible refine Zaf 48 ?_);refine ZaE rfl 48 _ _ rfl rfl (w.heap.size+1) 48 _ (En.cells lb) rfl rfl B1.out (by kernel_rfl) rfl (by rfl) w HR.out (by omega) ?_;intro w9 hby hyb hot;have HY:=hid hby;have Oi:=hid hyb;clear hby hyb hot)
     |fail)
    (try simp only[Exit.inBlock,Exit.then]);refine rb2 HY.out ?_
    exact HP.out _ Oi.out
set_option maxHeartbeats 4000000 in
theorem row15_any (x:En)(id:FID)(w:World) :
 Calls prog 101 #[.agg x.cells.toArray,fidV id] w fun e w'=>e=.returned (x.row id).val/\Below w.heap.size w w':=by
 go_enter func101,ntmps101
 go_upto_region 1 with(first|(refine ZaO rfl 48 (.tmp 0) rfl x.cells rfl ?_)|fail)
 refine Zan (fun V hV=>?_)
 have B0:Hid (Box V w.heap.size x.cells.toArray 48):=by rw[hV];exact Zc4 ..
 have B1:Hid (Box V (w.heap.size+1) #[.string id.1,.int .i64 id.2] 24):=by rw[hV];exact Zc3 ..
 have B2:Hid (Box V (w.heap.size+2) (Rw.cells rw0).toArray 68):=by rw[hV];exact Zc2 ..
 have Aa:Hid (Below w.heap.size w V):=by rw[hV];exact bt
 clear hV
 have k0:=B0.out.cell 0 (.int .i64 x.no) rfl
 have k1:=B0.out.cell 1 (.int .i64 x.tick) rfl
 have k7:=B0.out.cell 7 (.string x.tb) rfl
 have k8:=B0.out.cell 8 (.string x.ky) rfl
 have k9:=B0.out.cell 9 (.int .i64 x.ev) rfl
 have k10:=B0.out.cell 10 (.slice x.fa x.vs.length x.fc) rfl
 have j0:=B1.out.cell 0 (.string id.1) rfl
 have j1:=B1.out.cell 1 (.int .i64 id.2) rfl
 go_wp2_with (first|((with_reducible refine Zaf 68 ?_);refine ZaE rfl 68 _ _ rfl rfl (w.heap.size+2) 68 _ (Rw.cells (x.row id)) rfl rfl B2.out (by kernel_rfl) rfl (by rfl) w Aa.out (by omega) ?_;intro w9 hby hyb hot;have HY:=hid hby;have Oi:=hid hyb;clear hby hyb hot)|fail)
 (try simp only[Exit.inBlock,Exit.then]);refine rb1 HY.out ?_
 exact⟨rfl,Oi.out⟩
def findO (l:List En)(ids:List FID)(id:FID)(t:Int):Option Rw:=if (opB l t id).1=true/\(opB l t id).2.fk≠3/\memF ids id=false then some ((opB l t id).2.row id)else none
def FindO (o:Option Rw)(w:World)(e:Ending)(w':World):Prop:=e=.returned (.tuple #[(o.getD rw0).val,.bool o.isSome])/\Below w.heap.size w w'
theorem build68 (w:World):(Instr.build 68 (#[]:Array (Nat × Value))).run prog w=.ok (.agg (Rw.cells rw0).toArray) w:=by
 simp[Instr.build,Tryz.zeroValue68,underlying68,Program.fieldsOf,Instr.fill,go_sem]
 rfl
set_option maxHeartbeats 8000000 in
theorem find72_any (l:List En)(ao:Option Addr)(c:Nat)(ids:List FID)(a1:Option Addr)(c1:Nat)(id:FID)(t:Int)(hl:l.length<=100000)(hi:ids.length<=4611686018427387904)(w:World)(h:Zac En.cells 40 w ao l)(hf:Zac fidC 2 w a1 ids) :
 Calls prog 72 #[.slice ao l.length c,.slice a1 ids.length c1,fidV id,.int .i64 t] w (FindO (findO l ids id t) w):=by
 have H:=hid h
 have HF:=hid hf
 clear h hf
 go_enter func72,ntmps72
 go_upto_region 1 with fail
 refine Zan (fun V hV=>?_)
 have B0:Hid (Box V w.heap.size #[.string id.1,.int .i64 id.2] 24):=by rw[hV];exact ZcH ..
 have B1:Hid (Box V (w.heap.size+1) (Rw.cells rw0).toArray 68):=by rw[hV];exact ZcG ..
 have Aa:Hid (Below w.heap.size w V):=by rw[hV];exact bt
 clear hV
 have j0:=B0.out.cell 0 (.string id.1) rfl
 have j1:=B0.out.cell 1 (.int .i64 id.2) rfl
 have HO:Hid (∀ o e w',o=findO l ids id t->e=.returned (.tuple #[(o.getD rw0).val,.bool o.isSome])->Below w.heap.size w w'->FindO (findO l ids id t) w e w'):=fun o e w' h1 h2 h3=>⟨by rw[h2,h1],h3⟩
 have Vf:Hid (findO l ids id t=if (opB l t id).1=true/\(opB l t id).2.fk≠3/\memF ids id=false then some ((opB l t id).2.row id)else none):=rfl
 have Us:Hid (∀ w',Below w.heap.size w w'->Calls prog 100 #[.slice ao l.length c,fidV id,.int .i64 t] w' (OpPost l t id w')):=fun w' hb=>Ze8 l ao c id t hl w' (H.out.kept hb)
 unfold OpPost at Us
 generalize findO l ids id t=fo at *
 generalize opB l t id=bs at *
 obtain⟨ass,la⟩:=bs
 dsimp only at Us Vf
 go_upto_region 2 with(first
  |(go_at_call 100;(with_reducible refine(Us.out _ Aa.out).mono ?_);rintro ee w1 ⟨rfl,hb⟩;have Qb:=hid hb;clear hb)
  |((with_reducible refine ZaK 48 ?_);refine ZaA rfl rfl 48 _ _ rfl rfl rfl (En.cells la) rfl rfl (by kernel_rfl) (by rfl) ?_;intro g7 w8 hbx Re hb;have Se:=hid hbx;have Sa:=hid (ZT Qb.out hb);clear Re hbx hb)
  |fail)
 have Lf:Hid (Below w.heap.size w w8):=ZT Aa.out Sa.out
 have i0:=(B0.out.kept Sa.out).cell 0 (.string id.1) rfl
 have i1:=(B0.out.kept Sa.out).cell 1 (.int .i64 id.2) rfl
 have k5:=Se.out.cell 5 (.int .i64 la.fk) rfl
 have Dm:=hid (B1.out.kept Sa.out)
 cases ass
 · go_upto_region 3 with fail
   have Gb:=hid (Dm.out)
   have Wc:=hid (Lf.out)
   go_wp2_with (first|((with_reducible refine Zaq 68 ?_);refine Zae rfl 68 #[] rfl (Rw.cells rw0) (fun w=>build68 w) ?_;intro v hv;obtain rfl:=hv.out)|((with_reducible refine Zaf 68 ?_);refine ZaE rfl 68 _ _ rfl rfl (w.heap.size+1) 68 _ (Rw.cells rw0) rfl rfl Gb.out (by kernel_rfl) rfl (by rfl) w Wc.out (by omega) ?_;intro w9 hby hyb hot;have HY:=hid hby;have Oi:=hid hyb;clear hby hyb hot)|fail)
   (try simp only[Exit.inBlock,Exit.then]);refine rb2 HY.out ?_
   exact HO.out none _ _ (Vf.out.trans (by simp)).symm rfl Oi.out
 · by_cases hk:la.fk=3
   · go_upto_region 3 with fail
     have Gb:=hid (Dm.out)
     have Wc:=hid (Lf.out)
     go_wp2_with (first|((with_reducible refine Zaq 68 ?_);refine Zae rfl 68 #[] rfl (Rw.cells rw0) (fun w=>build68 w) ?_;intro v hv;obtain rfl:=hv.out)|((with_reducible refine Zaf 68 ?_);refine ZaE rfl 68 _ _ rfl rfl (w.heap.size+1) 68 _ (Rw.cells rw0) rfl rfl Gb.out (by kernel_rfl) rfl (by rfl) w Wc.out (by omega) ?_;intro w9 hby hyb hot;have HY:=hid hby;have Oi:=hid hyb;clear hby hyb hot)|fail)
     (try simp only[Exit.inBlock,Exit.then]);refine rb2 HY.out ?_
     exact HO.out none _ _ (Vf.out.trans (by simp[hk])).symm rfl Oi.out
   · have hk':(la.fk==3)=false:=by simpa using hk
     cases hm:memF ids id
     · go_wp2_with (first
         |(go_at_call 29;refine(inids_any ids _ _ hi id _ (HF.out.kept Lf.out)).mono ?_;rintro e w11 ⟨rfl,hb⟩;rw[hm];have Gk:=hid hb;have Bp:=hid (Se.out.kept hb);have i2:=((B0.out.kept Sa.out).kept hb).cell 0 (.string id.1) rfl;have i3:=((B0.out.kept Sa.out).kept hb).cell 1 (.int .i64 id.2) rfl;clear hb)
         |((with_reducible refine Zah 48 ?_);refine LB (L:=(En.cells la)) Bp.out ?_)
         |(go_at_call 101;refine(row15_any la id _).mono ?_;rintro e w12 ⟨rfl,hb⟩;have Gb:=hid ((Dm.out.kept Gk.out).kept hb);have Wc:=hid (ZT Lf.out (ZT Gk.out hb));clear hb)
         |((with_reducible refine Zaf 68 ?_);refine ZaE rfl 68 _ _ rfl rfl (w.heap.size+1) 68 _ (Rw.cells (la.row id)) rfl rfl Gb.out (by kernel_rfl) rfl (by rfl) w Wc.out (by omega) ?_;intro w9 hby hyb hot;have HY:=hid hby;have Oi:=hid hyb;clear hby hyb hot)
         |fail)
       (try simp only[Exit.inBlock,Exit.then]);refine rb2 HY.out ?_
       exact HO.out (some _) _ _ (Vf.out.trans (by simp[hk,hm];rfl)).symm rfl Oi.out
     · go_upto_region 3 with(first|(go_at_call 29;refine(inids_any ids _ _ hi id _ (HF.out.kept Lf.out)).mono ?_;rintro e w11 ⟨rfl,hb⟩;rw[hm];have Gk:=hid hb;clear hb)|fail)
       have Gb:=hid (Dm.out.kept Gk.out)
       have Wc:=hid (ZT Lf.out Gk.out)
       go_wp2_with (first|((with_reducible refine Zaq 68 ?_);refine Zae rfl 68 #[] rfl (Rw.cells rw0) (fun w=>build68 w) ?_;intro v hv;obtain rfl:=hv.out)|((with_reducible refine Zaf 68 ?_);refine ZaE rfl 68 _ _ rfl rfl (w.heap.size+1) 68 _ (Rw.cells rw0) rfl rfl Gb.out (by kernel_rfl) rfl (by rfl) w Wc.out (by omega) ?_;intro w9 hby hyb hot;have HY:=hid hby;have Oi:=hid hyb;clear hby hyb hot)|fail)
       (try simp only[Exit.inBlock,Exit.then]);refine rb2 HY.out ?_
       exact HO.out none _ _ (Vf.out.trans (by simp[hm])).symm rfl Oi.out
theorem ins_row {l:List Rw}{r:Rw}{j:Nat}(hs:RiseE l)(hlo:∀ y∈l.take j,cmpE y.ek r.ek<0)(hhi:∀ y∈l.drop j,cmpE r.ek y.ek<0) :
 RiseE (l.take j++[r]++l.drop j)/\(∀ x,x∈l.take j++[r]++l.drop j↔x∈l∨x=r)/\(l.take j++[r]++l.drop j).length<=l.length+1:=by
 have e:=List.take_append_drop j l
 have hs2:=hs
 unfold RiseE at hs2
 rw[<-e]at hs2
 obtain⟨h1,h2,h3⟩:=List.pairwise_append.1 hs2
 refine⟨?_,fun x=>?_,by simp;omega⟩
 · unfold RiseE
   rw[List.append_assoc,List.pairwise_append]
   refine⟨h1,List.pairwise_cons.2 ⟨hhi,h2⟩,fun a ha b hb=>?_⟩
   rcases List.mem_cons.1 hb with hb|hb
   · rw[hb];exact hlo a ha
   · exact h3 a ha b hb
 · have hx:x∈l↔x∈l.take j∨x∈l.drop j:=by rw[<-List.mem_append,e]
   rw[hx]
   simp only[List.mem_append,List.mem_singleton]
   constructor
   · rintro ((h|h)|h)
     · exact Or.inl (Or.inl h)
     · exact Or.inr h
     · exact Or.inl (Or.inr h)
   · rintro ((h|h)|h)
     · exact Or.inl (Or.inl h)
     · exact Or.inr h
     · exact Or.inl (Or.inr h)
theorem ahead_row {l:List Rw}{r x:Rw}{p:Nat}(hs:RiseE l)(hx:l[p]?=some x)(h1:cmpE x.ek r.ek<0):∀ y∈l.take (p+1),cmpE y.ek r.ek<0:=by
 intro y hy
 obtain⟨hp,e⟩:=List.getElem?_eq_some_iff.1 hx
 rw[Zar hx]at hy
 rcases List.mem_append.1 hy with hy|hy
 · obtain⟨q,hq,e2⟩:=List.mem_iff_getElem.1 hy
   have Ob:q<p:=by simp at hq;omega
   rw[List.getElem_take]at e2
   rw[<-e2]
   exact ZaN.trans _ _ _ ((List.pairwise_iff_getElem.1 hs) q p (by omega) hp Ob) (by rw[e];exact h1)
 · simp at hy;rw[hy];exact h1
def RowPost (l:List Rw)(r:Rw)(w:World)(e:Ending)(w':World):Prop:=∃ (m:List Rw) (a2:Option Addr) (c2:Nat),e=.returned (.slice a2 m.length c2)/\m.length<=c2/\(a2=none->c2=0)/\ZaY w' a2 m/\RiseE m/\(∀ x,x∈m↔x∈l∨x=r)/\m.length<=l.length+1/\(∀ g,(Value.slice a2 m.length c2).ownBlock=some g->w.heap.size<=g)/\Below w.heap.size w w'
set_option maxHeartbeats 8000000 in
theorem putrow_any (l:List Rw)(a:Option Addr)(c:Nat)(r:Rw)(hl:l.length<=100000)(hs:RiseE l)(hne:∀ y∈l,y.ek≠r.ek)(w:World)(h:ZaY w a l)(hr:r.Ok w)(hlc:l.length<=c)(hcn:a=none->c=0) :
 Calls prog 73 #[.slice a l.length c,r.val] w (RowPost l r w):=by
 have H0:=hid h
 have HS:=hid hs
 have HNE:=hid hne
 have Ui:=hid hr
 have Yp:=hid hlc
 clear h hs hcn hne hr
 dsimp only[Rw.val]
 go_enter func73,ntmps73
 go_upto_region 1 with fail
 refine Zan (fun V hV=>?_)
 have B0:Hid (Box V w.heap.size (Rw.cells r).toArray 68):=by rw[hV];exact Box.new _ _ _
 have Aa:Hid (Below w.heap.size w V):=by rw[hV];exact Zab _
 clear hV
 have H:Hid (ZaY V a l):=H0.out.kept Aa.out
 go_wp2_with fail
 go_loopw [5] (fun v wr=>∃ j:Nat,j<=l.length/\v=.int .i64 j/\Hid (∀ y∈l.drop j,cmpE r.ek y.ek<0)/\Hid (Below V.heap.size V wr)) (fun v _=>(intOf v).toNat)
 case atStart=>exact⟨l.length,by omega,rfl,(fun y hy=>by simp at hy),ZR V⟩
 case round =>
  obtain⟨j,hj,rfl,Uo,HR⟩:=hrel
  rename World=>wr
  by_cases Li:j=0
  · have Ql:Hid (∀ y∈l.take j,cmpE y.ek r.ek<0):=fun y hy=>by rw[Li]at hy;simp at hy
    have Mq:decide ((0:Int)<(j:Int))=false:=decide_eq_false (by omega)
    have Sn:decide (0<j)=false:=decide_eq_false (by omega)
    clear Li
    go_upto_region 2 with fail
    go_quiet (fail)
    go_upto_region 4 with fail
    refine Zan (fun W hW=>?_)
    have Kb:Hid (Below V.heap.size V W):=by rw[hW];repeat(first|exact HR.out|refine Zad ?_ _)
    clear hW
    have hcu:=fun w=>Za4 elR (a) l.length c j (by omega) w
    obtain⟨A,hcf,hA1,hA2⟩:=Za5 elR (a) l.length c j hj
    have Kc:=hid (H.out.1.take j)
    have Tc:=hid (ZaV H.out.1 Yp.out hA2)
    have Pd:Hid (j=(l.take j).length):=by show _=_;simp;omega
    have Oe:Hid (l.length - j=(l.drop j).length):=by show _=_;simp
    have Nb:Hid (([]:List Rw).length+(l.take j).length<=1000000000):=by show _<=_;simp;omega
    have Mb:Hid (([]++l.take j).length+[r].length<=1000000000):=by show _<=_;simp;omega
    have Zb:Hid (([]++l.take j++[r]).length+(l.drop j).length<=1000000000):=by show _<=_;simp;omega
    have Vc:Hid (Own Rw.cells 8 68 (W.alloc (.cells #[] 68)) V.heap.size (.slice (some ⟨W.heap.size,0,none⟩) 0 0) []):=Own.lit Kb.out.size
    have Ra:Hid (Below V.heap.size V (W.alloc (.cells #[] 68))):=Kb.out.alloc Kb.out.size _
    clear hA1 hA2
    go_wp2_with (first
     |(at_builtin;refine Zaw elR encR rfl (.tmp 23) (.tmp 26) rfl rfl rfl Vc.out (Kc.out.kept Ra.out) Pd.out Ra.out.size Nb.out ?_;intro v2 w2 ho hb;have Fb:=hid ho;have Ia:Hid (Below V.heap.size V w2):=Ra.out.trans hb;have Gb:=hid (B0.out.kept Ia.out);clear ho hb)
     |((with_reducible refine Zah 68 ?_);refine LB (L:=(Rw.cells r)) Gb.out ?_)
     |(refine wpList_plain rfl fun K hK=>?_;refine op_litQ elR encR (by decide) _ rfl r rfl ?_;intro g4 u4 Gh Hh hg4s hb;have Fe:=hid Gh;have Ac:=hid hb;refine hK _ _ ?_;clear hK K Gh hb)
     |(at_builtin;refine Zai elR encR rfl (.tmp 28) (.tmp 30) rfl rfl rfl (Fb.out.kept Ac.out) (Or.inr ⟨g4,0,rfl,Fe.out⟩) rfl (fun e=>by cases e) (ZT Ia.out Ac.out).size Mb.out ?_;intro v3 w3 ho hb;have Sb:=hid ho;have Qa:=hid ((ZT Ia.out Ac.out).trans hb);clear ho hb)
     |(at_builtin;refine Zaw elR encR rfl (.tmp 32) (.tmp 35) rfl rfl rfl Sb.out (Tc.out.kept Qa.out) Oe.out Qa.out.size Zb.out ?_;intro v4 w4 ho hb;have Ld:=hid ho;have Pa:Hid (Below V.heap.size V w4):=Qa.out.trans hb;clear ho hb)
     |fail)
    go_ret
    obtain⟨a5,c5,e5,h5a,h5b,h5⟩:=Ld.out.lies encR
    have hm:=ins_row HS.out Ql.out Uo.out
    rw[List.nil_append]at e5 h5a h5
    exact⟨_,a5,c5,by rw[e5];rfl,h5a,h5b,⟨h5,fun y hy=>((hm.2.1 y).1 hy).elim (fun h=>(H.out.2 y h).kept Pa.out) (fun e=>e ▸ (Ui.out.kept Aa.out).kept Pa.out)⟩,hm.1,hm.2.1,hm.2.2,(fun g hg=>Nat.le_trans Aa.out.size (Ld.out.lt g (e5 ▸ hg)).1),ZT Aa.out Pa.out⟩
  · obtain⟨p,hjp⟩:∃ p,j=p+1:=⟨j - 1,by omega⟩
    obtain⟨x,hx⟩:∃ x,l[p]?=some x:=⟨l[p]'(by omega),List.getElem?_eq_getElem _⟩
    obtain⟨b1,o1,rfl,Da⟩:=Zat (H.out.1.kept HR.out) hx
    have Od:=hid hx
    obtain⟨y0,y1,y2,y3,y4,y5,y6,y7⟩:=Rw.cell Da hx
    have Gb:=hid (B0.out.kept HR.out)
    have r0:=fun d os=>cell_regrown (w:=wr) y0 d os
    have r1:=fun d os=>cell_regrown (w:=wr) y1 d os
    have r2:=fun d os=>cell_regrown (w:=wr) y2 d os
    have r3:=fun d os=>cell_regrown (w:=wr) y3 d os
    have r4:=fun d os=>cell_regrown (w:=wr) y4 d os
    have r5:=fun d os=>cell_regrown (w:=wr) y5 d os
    have r6:=fun d os=>cell_regrown (w:=wr) y6 d os
    have r7:=fun d os=>cell_regrown (w:=wr) y7 d os
    have r8:=fun d os=>cell_regrown (w:=wr) (by have h:=Gb.out.cell 0 (.string r.src) rfl;exact h) d os
    have r9:=fun d os=>cell_regrown (w:=wr) (by have h:=Gb.out.cell 1 (.int .i64 r.seq) rfl;exact h) d os
    have r10:=fun d os=>cell_regrown (w:=wr) (by have h:=Gb.out.cell 2 (.string r.tb) rfl;exact h) d os
    have r11:=fun d os=>cell_regrown (w:=wr) (by have h:=Gb.out.cell 3 (.string r.ky) rfl;exact h) d os
    have r12:=fun d os=>cell_regrown (w:=wr) (by have h:=Gb.out.cell 4 (.int .i64 r.ev) rfl;exact h) d os
    have r13:=fun d os=>cell_regrown (w:=wr) (by have h:=Gb.out.cell 5 (.slice r.fa r.vs.length r.fc) rfl;exact h) d os
    have r14:=fun d os=>cell_regrown (w:=wr) (by have h:=Gb.out.cell 6 (.int .i64 r.no) rfl;exact h) d os
    have r15:=fun d os=>cell_regrown (w:=wr) (by have h:=Gb.out.cell 7 (.int .i64 r.tk) rfl;exact h) d os
    clear Da hx y0 y1 y2 y3 y4 y5 y6 y7 Gb
    obtain⟨z,hz⟩:∃ z,cmpE x.ek r.ek=z:=⟨_,rfl⟩
    have HZ:=hid hz
    have HZN:Hid (z≠0):=fun e=>HNE.out x (List.mem_of_getElem? Od.out) ((ZaN.zero _ _).1 (hz.trans e))
    have Jy:Hid (∀ w',Calls prog 27 #[x.val,r.val] w' fun e w2=>e=.returned (.int .i64 z)/\Below w'.heap.size w' w2):=fun w'=>by
     have h:=rrow_any x.src r.src x.tb r.tb x.ky r.ky x.seq r.seq x.ev r.ev x.no r.no x.tk r.tk x.fa r.fa x.vs.length x.fc r.vs.length r.fc w'
     rw[show orI (cmpI x.ev r.ev) (orI (cmpS x.src r.src) (cmpI x.seq r.seq))=z from hz]at h
     exact h
    clear hz
    have Zl:=hid (fun d os=>Calls.regrown_of (Jy.out (Go.Sort.grow (redrawn wr d) os)))
    have hp1:IntKind.i64.wrap ((j:Int) - 1)=p:=by rw[show(j:Int) - 1=p by omega];exact IntWalk.i64_in _ (by omega)
    have Mq:decide ((0:Int)<(j:Int))=true:=decide_eq_true (by omega)
    have Sn:decide (0<j)=true:=decide_eq_true (by omega)
    have Gt:=hid hjp
    have Mp:0<j:=by omega
    have hp4:(j:Int) - 1=(p:Int):=by omega
    clear hjp
    by_cases hzn:0<z
    · have d1:decide (0<z)=true:=decide_eq_true hzn
      have Mx:Hid (∀ y∈l.drop p,cmpE r.ek y.ek<0):=fun y hy=>by
       obtain⟨hp,e⟩:=List.getElem?_eq_some_iff.1 Od.out
       rw[List.drop_eq_getElem_cons hp,e]at hy
       rcases List.mem_cons.1 hy with hy|hy
       · rw[hy];exact(ZaN.turn _ _).2 (by rw[HZ.out];exact hzn)
       · exact Uo.out y (by rw[Gt.out];exact hy)
      go_upto_region 2 with fail
      try simp only[Act.put,m1,m2,m3]
      refine wp_region_quiet_below (by kernel_rfl) (by kernel_rfl) ?_
      repeat(go_big_quiet_step (first|with_reducible exact Zl.out _ _))
      refine wpQuiet_nil ?_
      intro _ hw'
      obtain⟨p9,hw''⟩:=hw'
      subst hw''
      have Ie:=below_regrown wr p9.d p9.os
      clear r0 r1 r2 r3 r4 r5 r6 r7 r8 r9 r10 r11 r12 r13 r14 r15 Zl
      generalize Go.Sort.grow (redrawn wr p9.d) p9.os=V2 at *
      have La:Hid (Below V.heap.size V V2):=ZT HR.out Ie
      have Wc:Hid (Below wr.heap.size wr V2):=Ie
      clear Ie
      go_wp2_with fail
      go_roundw
      case rel=>exact⟨p,by have:=Gt.out;omega,by have:=Gt.out;go_num,Mx,La⟩
      case measure=>have:=Gt.out;simp[intOf]<;>omega
    · have d1:decide (0<z)=false:=decide_eq_false hzn
      have Ql:Hid (∀ y∈l.take j,cmpE y.ek r.ek<0):=by rw[Gt.out];exact ahead_row HS.out Od.out (by rw[HZ.out];have:=HZN.out;omega)
      go_upto_region 2 with fail
      try simp only[Act.put,m1,m2,m3]
      refine wp_region_quiet_below (by kernel_rfl) (by kernel_rfl) ?_
      repeat(go_big_quiet_step (first|with_reducible exact Zl.out _ _))
      refine wpQuiet_nil ?_
      intro _ hw'
      obtain⟨p9,hw''⟩:=hw'
      subst hw''
      have Ie:=below_regrown wr p9.d p9.os
      clear r0 r1 r2 r3 r4 r5 r6 r7 r8 r9 r10 r11 r12 r13 r14 r15 Zl
      generalize Go.Sort.grow (redrawn wr p9.d) p9.os=V2 at *
      have La:Hid (Below V.heap.size V V2):=ZT HR.out Ie
      have Wc:Hid (Below wr.heap.size wr V2):=Ie
      clear Ie
      go_upto_region 4 with fail
      refine Zan (fun W hW=>?_)
      have Kb:Hid (Below V.heap.size V W):=by rw[hW];repeat(first|exact La.out|exact HR.out|refine Zad ?_ _)
      clear hW
      have hcu:=fun w=>Za4 elR (some ⟨b1,o1,none⟩) l.length c j (by omega) w
      obtain⟨A,hcf,hA1,hA2⟩:=Za5 elR (some ⟨b1,o1,none⟩) l.length c j hj
      have Kc:=hid (H.out.1.take j)
      have Tc:=hid (ZaV H.out.1 Yp.out hA2)
      have Pd:Hid (j=(l.take j).length):=by show _=_;simp;omega
      have Oe:Hid (l.length - j=(l.drop j).length):=by show _=_;simp
      have Nb:Hid (([]:List Rw).length+(l.take j).length<=1000000000):=by show _<=_;simp;omega
      have Mb:Hid (([]++l.take j).length+[r].length<=1000000000):=by show _<=_;simp;omega
      have Zb:Hid (([]++l.take j++[r]).length+(l.drop j).length<=1000000000):=by show _<=_;simp;omega
      have Vc:Hid (Own Rw.cells 8 68 (W.alloc (.cells #[] 68)) V.heap.size (.slice (some ⟨W.heap.size,0,none⟩) 0 0) []):=Own.lit Kb.out.size
      have Ra:Hid (Below V.heap.size V (W.alloc (.cells #[] 68))):=Kb.out.alloc Kb.out.size _
      clear hA1 hA2
      go_wp2_with (first
       |(at_builtin;refine Zaw elR encR rfl (.tmp 23) (.tmp 26) rfl rfl rfl Vc.out (Kc.out.kept Ra.out) Pd.out Ra.out.size Nb.out ?_;intro v2 w2 ho hb;have Fb:=hid ho;have Ia:Hid (Below V.heap.size V w2):=Ra.out.trans hb;have Gb:=hid (B0.out.kept Ia.out);clear ho hb)
       |((with_reducible refine Zah 68 ?_);refine LB (L:=(Rw.cells r)) Gb.out ?_)
       |(refine wpList_plain rfl fun K hK=>?_;refine op_litQ elR encR (by decide) _ rfl r rfl ?_;intro g4 u4 Gh Hh hg4s hb;have Fe:=hid Gh;have Ac:=hid hb;refine hK _ _ ?_;clear hK K Gh hb)
       |(at_builtin;refine Zai elR encR rfl (.tmp 28) (.tmp 30) rfl rfl rfl (Fb.out.kept Ac.out) (Or.inr ⟨g4,0,rfl,Fe.out⟩) rfl (fun e=>by cases e) (ZT Ia.out Ac.out).size Mb.out ?_;intro v3 w3 ho hb;have Sb:=hid ho;have Qa:=hid ((ZT Ia.out Ac.out).trans hb);clear ho hb)
       |(at_builtin;refine Zaw elR encR rfl (.tmp 32) (.tmp 35) rfl rfl rfl Sb.out (Tc.out.kept Qa.out) Oe.out Qa.out.size Zb.out ?_;intro v4 w4 ho hb;have Ld:=hid ho;have Pa:Hid (Below V.heap.size V w4):=Qa.out.trans hb;clear ho hb)
       |fail)
      go_ret
      obtain⟨a5,c5,e5,h5a,h5b,h5⟩:=Ld.out.lies encR
      have hm:=ins_row HS.out Ql.out Uo.out
      rw[List.nil_append]at e5 h5a h5
      exact⟨_,a5,c5,by rw[e5];rfl,h5a,h5b,⟨h5,fun y hy=>((hm.2.1 y).1 hy).elim (fun h=>(H.out.2 y h).kept Pa.out) (fun e=>e ▸ (Ui.out.kept Aa.out).kept Pa.out)⟩,hm.1,hm.2.1,hm.2.2,(fun g hg=>Nat.le_trans Aa.out.size (Ld.out.lt g (e5 ▸ hg)).1),ZT Aa.out Pa.out⟩
theorem findO_eff {l:List En}{ids:List FID}(h:∀ k,memF ids k=erF l k)(t:Int)(id:FID):findO l ids id t=effF l t id:=by
 unfold findO effF opB
 rw[h]
 cases Zbj (untl l t) id with
 |none=>exact if_neg (fun q=>by cases q.1)
 |some b=>rfl
theorem eff_key {l:List En}{t:Int}{k:FID}{r:Rw}(h:effF l t k=some r):(∃ x∈l,x.kind=1/\x.base=k)/\(r.src,r.seq)=k:=by
 refine⟨?_,Zcf h⟩
 unfold effF at h
 split at h
 · rename_i b hb
   rcases Zeh (untl l t) _ k b hb with⟨x,hx,h1⟩|h2
   · exact⟨x,(Zb9 hx).1,h1⟩
   · cases h2
 · cases h
def IdsOf (l:List En)(m:List FID):Prop:=SortI m/\(∀ k,k∈m↔∃ x∈l,x.kind=1/\x.base=k)/\m.length<=l.length
def Zej (l:List En)(w:World)(e:Ending)(w':World):Prop:=∃ (ids:List FID) (a:Option Addr) (c:Nat),e=.returned (.slice a ids.length c)/\ids.length<=4611686018427387904/\Zac fidC 2 w' a ids/\(∀ k,memF ids k=erF l k)/\Below w.heap.size w w'
def Zfr (l:List En)(t:Int)(w:World)(e:Ending)(w':World):Prop:=∃ (m:List Rw) (a:Option Addr) (c:Nat),e=.returned (.slice a m.length c)/\m.length<=c/\(a=none->c=0)/\ZaY w' a m/\EffIs l t m/\m.length<=l.length/\(∀ g,(Value.slice a m.length c).ownBlock=some g->w.heap.size<=g)/\Below w.heap.size w w'
theorem idsOf_snoc {l:List En}{m m2:List FID}{x:En}(h:IdsOf l m)(hk:x.kind=1)(h1:SortI m2)(h2:∀ k,k∈m2↔k∈m∨k=x.base)(h3:m2.length<=m.length+1):IdsOf (l++[x]) m2:=by
 refine⟨h1,fun k=>?_,by have:=h.2.2;simp;omega⟩
 rw[h2,h.2.1]
 constructor
 · rintro (⟨y,hy,q⟩|rfl)
   · exact⟨y,List.mem_append_left _ hy,q⟩
   · exact⟨x,by simp,hk,rfl⟩
 · rintro ⟨y,hy,q⟩
   rcases List.mem_append.1 hy with hy|hy
   · exact Or.inl ⟨y,hy,q⟩
   · simp at hy;rw[hy]at q;exact Or.inr q.2.symm
theorem idsOf_skip {l:List En}{m:List FID}{x:En}(h:IdsOf l m)(hk:x.kind≠1):IdsOf (l++[x]) m:=by
 refine⟨h.1,fun k=>?_,by have:=h.2.2;simp;omega⟩
 rw[h.2.1]
 constructor
 · rintro ⟨y,hy,q⟩;exact⟨y,List.mem_append_left _ hy,q⟩
 · rintro ⟨y,hy,q⟩
   rcases List.mem_append.1 hy with hy|hy
   · exact⟨y,hy,q⟩
   · simp at hy;rw[hy]at q;exact absurd q.1 hk
def Zet (l:List En)(t:Int)(ks:List FID)(q:List Rw):Prop:=RiseE q/\(∀ r,r∈q↔∃ k∈ks,effF l t k=some r)/\q.length<=ks.length
theorem rowsOf_nil (l:List En)(t:Int):Zet l t [] []:=⟨List.Pairwise.nil,fun r=>by simp,by simp⟩
theorem rowsOf_skip {l:List En}{t:Int}{ks:List FID}{q:List Rw}{k:FID}(h:Zet l t ks q)(hk:effF l t k=none):Zet l t (ks++[k]) q:=by
 refine⟨h.1,fun r=>?_,by have:=h.2.2;simp;omega⟩
 rw[h.2.1]
 constructor
 · rintro ⟨y,hy,e⟩;exact⟨y,List.mem_append_left _ hy,e⟩
 · rintro ⟨y,hy,e⟩
   rcases List.mem_append.1 hy with hy|hy
   · exact⟨y,hy,e⟩
   · simp at hy;rw[hy,hk]at e;cases e
theorem rowsOf_snoc {l:List En}{t:Int}{ks:List FID}{q q2:List Rw}{k:FID}{r0:Rw}(h:Zet l t ks q)(hk:effF l t k=some r0)(h1:RiseE q2)(h2:∀ r,r∈q2↔r∈q∨r=r0)(h3:q2.length<=q.length+1):Zet l t (ks++[k]) q2:=by
 refine⟨h1,fun r=>?_,by have:=h.2.2;simp;omega⟩
 rw[h2,h.2.1]
 constructor
 · rintro (⟨y,hy,e⟩|rfl)
   · exact⟨y,List.mem_append_left _ hy,e⟩
   · exact⟨k,by simp,hk⟩
 · rintro ⟨y,hy,e⟩
   rcases List.mem_append.1 hy with hy|hy
   · exact Or.inl ⟨y,hy,e⟩
   · simp at hy;rw[hy,hk]at e;injection e with e;exact Or.inr e.symm
theorem rowsOf_new {l:List En}{t:Int}{m:List FID}{q:List Rw}{j:Nat}{k:FID}{r0:Rw}(hs:SortI m)(hj:m[j]?=some k)(h:Zet l t (m.take j) q)(hk:effF l t k=some r0):∀ y∈q,y.ek≠r0.ek:=by
 intro y hy e
 obtain⟨k2,Ng,e2⟩:=(h.2.1 y).1 hy
 have f1:=Zcf e2
 have f2:=Zcf hk
 have f3:k2=k:=by
  rw[<-f1,<-f2]
  unfold Rw.ek at e
  injection e with _ e
 obtain⟨hjl,rfl⟩:=List.getElem?_eq_some_iff.1 hj
 obtain⟨p,hp,e3⟩:=List.mem_iff_getElem.1 Ng
 have hpj:p<j:=by simp at hp;omega
 rw[List.getElem_take]at e3
 have:=(List.pairwise_iff_getElem.1 hs) p j (by omega) hjl hpj
 rw[e3,f3,Zb3.refl]at this
 omega
theorem rowsOf_done {l:List En}{t:Int}{m:List FID}{q:List Rw}(hm:IdsOf l m)(h:Zet l t m q):EffIs l t q:=by
 refine⟨h.1,fun r hr=>?_,fun k r e=>(h.2.1 r).2 ⟨k,(hm.2.1 k).2 (eff_key e).1,e⟩⟩
 obtain⟨k,hk,e⟩:=(h.2.1 r).1 hr
 rw[Zcf e];exact e
set_option maxHeartbeats 8000000 in
theorem Zb1 (l:List En)(ao:Option Addr)(c:Nat)(t:Int)(hl:l.length<=100000)(w:World)(h:EnsAt w ao l)
 (Tm:∀ w',Below w.heap.size w w'->Calls prog 70 #[.slice ao l.length c] w' (Zej l w')) :
 Calls prog 40 #[.slice ao l.length c,.int .i64 t] w (Zfr l t w):=by
 have H:=hid h
 have Fu:=hid Tm
 clear h Tm
 go_enter func40,ntmps40
 go_wp2_with (first
  |(go_at_call 70;(with_reducible refine(Fu.out _ (by first|exact Below.refl _ _|exact Zab _|exact ZR _)).mono ?_);rintro e w1 ⟨ids,a1,c1,rfl,hi,hf,he,hb⟩;have HI:=hid hi;have HF:=hid hf;have HE:=hid he;have Jh:Hid (Below w.heap.size w w1):=hb;clear hi hf he hb)
  |fail)
 go_loopw [6,7] (fun u v wr=>∃ (i:Nat) (m:List FID) (a:Option Addr) (cm:Nat),i<=l.length/\v=.int .i64 i/\u=.slice a m.length cm/\m.length<=cm/\(a=none->cm=0)/\Hid (Zac fidC 2 wr a m)/\Hid (IdsOf (l.take i) m)/\Hid (Below w1.heap.size w1 wr)) (fun _ v _=>l.length - (intOf v).toNat)
 case atStart=>exact⟨0,[],none,0,by omega,rfl,rfl,by simp,fun _=>rfl,Zac.nil _ _,⟨List.Pairwise.nil,fun k=>by simp,by simp⟩,Below.refl _ _⟩
 case round =>
  obtain⟨i,m,a,cm,hi,rfl,rfl,hmc,hac,HM,Me,HR⟩:=hrel
  rename World=>wr
  by_cases hlt:i<l.length
  · obtain⟨x,hx⟩:∃ x,l[i]?=some x:=⟨l[i],List.getElem?_eq_getElem hlt⟩
    obtain⟨b2,o2,rfl,Ph⟩:=Zat (H.out.1.kept (ZT Jh.out HR.out)) hx
    have Bk:Hid (∀ w',Below wr.heap.size wr w'->∀ j v,x.cells[j]?=some v->w'.cell? ⟨b2,o2+i*40+j,none⟩=some v):=fun w' hb j v hj=>Zaa (Ph i x hx j v hj) hb
    have Tf:Hid (∀ j v,([.string x.src,.int .i64 x.seq,.int .i64 x.fk,.int .i64 x.ref,.string x.tb,.string x.ky,.int .i64 x.ev,.slice x.fa x.vs.length x.fc]:List Value)[j]?=some v->wr.cell? ⟨b2,o2+i*40+3+j,none⟩=some v):=fun j v hj=>by
     have hj8:j<8:=(List.getElem?_eq_some_iff.1 hj).1
     rw[Nat.add_assoc]
     refine Bk.out wr (ZR wr) (3+j) v ?_
     match j,hj with
     |0,hj=>exact hj
     |1,hj=>exact hj
     |2,hj=>exact hj
     |3,hj=>exact hj
     |4,hj=>exact hj
     |5,hj=>exact hj
     |6,hj=>exact hj
     |7,hj=>exact hj
    have n2:=Bk.out wr (ZR wr) 2 (.int .i64 x.kind) rfl
    have Mf:Hid (l.take (i+1)=l.take i++[x]):=Zar hx
    have hml:m.length<=100000:=by have h1:=Me.out.2.2;simp at h1;omega
    clear Ph hx
    by_cases h1:x.kind=1
    · have d1:(x.kind==1)=true:=by simp[h1]
      have Bh:Hid (∀ w2,Below wr.heap.size wr w2->Calls prog 71 #[.slice a m.length cm,fidV (baseF x.src x.seq x.fk x.ref)] w2 (Zdx m (baseF x.src x.seq x.fk x.ref) w2)):=fun w2 hb=>Ze5 m a cm _ hml Me.out.1 w2 (HM.out.kept hb) hmc hac
      unfold Zdx at Bh
      go_wp2_with (first
       |((with_reducible refine Zah 27 ?_);refine Za1 rfl 27 _ rfl b2 (o2+i*40+3) [.string x.src,.int .i64 x.seq,.int .i64 x.fk,.int .i64 x.ref,.string x.tb,.string x.ky,.int .i64 x.ev,.slice x.fa x.vs.length x.fc] rfl Tf.out _ underlying27 rfl (by kernel_rfl) ?_;intro v hv;obtain rfl:=hv.out)
       |(go_at_call 23;(with_reducible refine(Ze4 x.src x.tb x.ky x.seq x.fk x.ref x.ev x.fa x.vs.length x.fc _).mono ?_);rintro e w2 ⟨rfl,hb⟩;have La:=hid hb;clear hb)
       |(go_at_call 71;(with_reducible refine(Bh.out _ La.out).mono ?_);rintro e w3 ⟨m3,a3,c3,rfl,q1,q2,q3,q4,q5,q6,hb⟩;have Mh:=hid q3;have Eb:=hid q4;have Zi:=hid q5;have Zb:=hid q6;have Ib:=hid (ZT La.out hb);clear q3 q4 q5 q6 hb)
       |fail)
      go_roundw
      case rel=>exact⟨i+1,m3,a3,c3,by omega,by go_num,rfl,q1,q2,Mh,by rw[Mf.out];exact idsOf_snoc Me.out h1 Eb.out Zi.out Zb.out,ZT HR.out Ib.out⟩
      case measure=>simp[intOf];omega
    · have d1:(x.kind==1)=false:=by simp[h1]
      go_wp2_with fail
      go_roundw
      case rel=>exact⟨i+1,m,a,cm,by omega,by go_num,rfl,hmc,hac,HM,by rw[Mf.out];exact idsOf_skip Me.out h1,HR⟩
      case measure=>simp[intOf];omega
  · obtain rfl:i=l.length:=by omega
    rw[List.take_length]at Me
    have hml:m.length<=l.length:=by have h1:=Me.out.2.2;simpa using h1
    have HWr:Hid (Below w.heap.size w wr):=ZT Jh.out HR.out
    have Zt:Hid (∀ k w2,Below wr.heap.size wr w2->Calls prog 72 #[.slice ao l.length c,.slice a1 ids.length c1,fidV k,.int .i64 t] w2 (FindO (effF l t k) w2)):=fun k w2 hb=>by
     have h:=find72_any l ao c ids a1 c1 k t hl HI.out w2 (H.out.1.kept (ZT HWr.out hb)) (HF.out.kept (ZT HR.out hb))
     rw[findO_eff HE.out]at h
     exact h
    unfold FindO at Zt
    go_wp2_with fail
    go_loopw [8,9] (fun u v ws=>∃ (j:Nat) (q:List Rw) (a8:Option Addr) (c8:Nat),j<=m.length/\v=.int .i64 j/\u=.slice a8 q.length c8/\q.length<=c8/\(a8=none->c8=0)/\Hid (∀ g,(Value.slice a8 q.length c8).ownBlock=some g->w.heap.size<=g)/\Hid (ZaY ws a8 q)/\Hid (Zet l t (m.take j) q)/\Hid (Below wr.heap.size wr ws)) (fun _ v _=>m.length - (intOf v).toNat)
    case atStart=>exact⟨0,[],none,0,by omega,rfl,rfl,by simp,fun _=>rfl,(fun g hg=>by cases hg),⟨Zac.nil _ _,fun r hr=>by cases hr⟩,rowsOf_nil l t,Below.refl _ _⟩
    case round =>
     obtain⟨j,q,a8,c8,hj,rfl,rfl,hqc,hqn,Tu,HQ,Ui,HS⟩:=hrel
     rename World=>ws
     by_cases Wg:j<m.length
     · obtain⟨k,hk⟩:∃ k,m[j]?=some k:=⟨m[j],List.getElem?_eq_getElem Wg⟩
       obtain⟨b3,o3,rfl,hr4⟩:=Zat (HM.out.kept HS.out) hk
       obtain⟨y0,y1⟩:=Za2 hr4 hk
       have Mf:Hid (m.take (j+1)=m.take j++[k]):=Zar hk
       have HK:=hid hk
       have HKO:Hid (OkF k):=by
        obtain⟨x,hx,-,hb⟩:=(Me.out.2.1 k).1 (List.mem_of_getElem? hk)
        rw[<-hb];exact(H.out.2 x hx).base
       have Ey:=hid (Zt.out k)
       have HQL:Hid (q.length<=100000):=by have h1:=Ui.out.2.2;simp at h1;show _<=_;omega
       clear hk hr4
       obtain⟨fo,hfo⟩:∃ fo,effF l t k=fo:=⟨_,rfl⟩
       have Vf:=hid hfo
       rw[hfo]at Ey
       clear hfo
       cases fo
       · go_wp2_with (first
           |(go_at_call 72;(with_reducible refine(Ey.out _ HS.out).mono ?_);rintro e w4 ⟨rfl,hb⟩;have Ac:=hid hb;clear hb)
           |((with_reducible refine ZaK 68 ?_);refine ZaA rfl rfl 68 _ _ rfl rfl rfl (Rw.cells rw0) rfl rfl (by kernel_rfl) (by rfl) ?_;intro g7 w8 hbx Re hb;have Sa:=hid (ZT Ac.out hb);clear Re hbx hb)
           |fail)
         go_roundw
         case rel=>exact⟨j+1,q,a8,c8,by omega,by go_num,rfl,hqc,hqn,Tu,HQ.out.kept Sa.out,by rw[Mf.out];exact rowsOf_skip Ui.out Vf.out,ZT HS.out Sa.out⟩
         case measure=>simp[intOf];omega
       · rename_i r
         go_wp2_with (first
          |(go_at_call 72;(with_reducible refine(Ey.out _ HS.out).mono ?_);rintro e w4 ⟨rfl,hb⟩;have Ac:=hid hb;clear hb)
          |((with_reducible refine ZaK 68 ?_);refine ZaA rfl rfl 68 _ _ rfl rfl rfl (Rw.cells r) rfl rfl (by kernel_rfl) (by rfl) ?_;intro g7 w8 hbx Re hb;have Se:=hid hbx;have Sa:=hid (ZT Ac.out hb);have Yt:Hid (Calls prog 73 #[.slice a8 q.length c8,r.val] w8 (RowPost q r w8)):=putrow_any q a8 c8 r HQL.out Ui.out.1 (rowsOf_new Me.out.1 HK.out Ui.out Vf.out) w8 (HQ.out.kept Sa.out) (effF_ok (fun x hx=>(H.out.2 x hx).kept (ZT HWr.out (ZT HS.out Sa.out))) HKO.out Vf.out) hqc hqn;unfold RowPost at Yt;clear Re hbx hb)
          |((with_reducible refine Zah 68 ?_);refine LB (L:=(Rw.cells r)) Se.out ?_)
          |(go_at_call 73;refine Yt.out.mono ?_;rintro e w9 ⟨m3,a3,c3,rfl,q1,q2,q3,q4,q5,q6,q7,hb⟩;have Mh:=hid q3;have Eb:=hid q4;have Zi:=hid q5;have Zb:=hid q6;have Lg:=hid (ZT Sa.out hb);have Mw:Hid (∀ g,(Value.slice a3 m3.length c3).ownBlock=some g->w.heap.size<=g):=fun g hg=>Nat.le_trans (ZT HWr.out (ZT HS.out Sa.out)).size (q7 g hg);clear q3 q4 q5 q6 q7 hb)
          |fail)
         go_roundw
         case rel=>exact⟨j+1,m3,a3,c3,by omega,by go_num,rfl,q1,q2,Mw,Mh,by rw[Mf.out];exact rowsOf_snoc Ui.out Vf.out Eb.out Zi.out Zb.out,ZT HS.out Lg.out⟩
         case measure=>simp[intOf];omega
     · obtain rfl:j=m.length:=by omega
       rw[List.take_length]at Ui
       go_wp2_with fail
       go_ret
       exact⟨q,a8,c8,rfl,hqc,hqn,HQ.out,rowsOf_done Me.out Ui.out,by have:=Ui.out.2.2;omega,Tu.out,ZT HWr.out HS.out⟩
def offR (b l:List Rw):List Rw:=l.filter (fun r=>!memR b r.key)
theorem offR_snoc (b l:List Rw)(x:Rw):offR b (l++[x])=offR b l++(if memR b x.key=true then []else [x]):=by
 unfold offR
 rw[List.filter_append]
 cases h:memR b x.key<;>simp[h]
theorem ZdT (b l:List Rw):(offR b l).length<=l.length:=List.length_filter_le _ _
def betK (a b:List Rw)(t:Int):List Dl:=(offR b a).map (fun r=>⟨r,t,-1⟩)++(offR a b).map (fun r=>⟨r,t,1⟩)
set_option maxHeartbeats 8000000 in
theorem Zd6 (l k:List Rw)(a1 a2:Option Addr)(c1 c2:Nat)(t:Int)(ht:I64 t)(hl:l.length<=10000000)(hk:k.length<=10000000)(w:World)(h1:ZaY w a1 l)(h2:ZaY w a2 k) :
 Calls prog 41 #[.slice a1 l.length c1,.slice a2 k.length c2,.int .i64 t] w fun e w'=>∃ v,e=.returned v/\OwnD w' w.heap.size v (betK l k t)/\Below w.heap.size w w':=by
 have H1:=hid h1
 have H2:=hid h2
 have HT:=hid ht
 have HI1:Hid (∀ x:Rw,x.Ok w->∀ w',Below w.heap.size w w'->Calls prog 74 #[.slice a1 l.length c1,x.val] w' fun e w2=>e=.returned (.bool (memR l x.key))/\Below w'.heap.size w' w2):=fun x hx w' hb=>in_any l a1 c1 (by omega) x w' (H1.out.kept hb) (hx.kept hb)
 have HI2:Hid (∀ x:Rw,x.Ok w->∀ w',Below w.heap.size w w'->Calls prog 74 #[.slice a2 k.length c2,x.val] w' fun e w2=>e=.returned (.bool (memR k x.key))/\Below w'.heap.size w' w2):=fun x hx w' hb=>in_any k a2 c2 (by omega) x w' (H2.out.kept hb) (hx.kept hb)
 clear h1 h2 ht
 go_enter func41,ntmps41
 go_wp2_with fail
 go_loopw [7,8] (fun v jj wr=>∃ (i:Nat) (v0:Value),v0=v/\i<=l.length/\jj=.int .i64 i/\Hid (Own Dl.cells 10 70 wr w.heap.size v ((offR k (l.take i)).map (fun r=>(⟨r,t,-1⟩:Dl))))/\Hid (Below w.heap.size w wr)) (fun _ jj _=>l.length - (intOf jj).toNat)
 case atStart=>exact⟨0,_,rfl,by omega,rfl,Own.nil _ _,Below.refl _ _⟩
 case round =>
  obtain⟨i,v0,rfl,hi,rfl,HR,HB⟩:=hrel
  rename World=>wr
  by_cases hlt:i<l.length
  · obtain⟨x,hx⟩:∃ x,l[i]?=some x:=⟨l[i],List.getElem?_eq_getElem _⟩
    obtain⟨b,off,rfl,hrow⟩:=Zat (H1.out.1.kept HB.out) hx
    have Kb:Hid (∀ w',Below wr.heap.size wr w'->(∀ j v,(Rw.cells x)[j]?=some v->w'.cell? ⟨b,off+i*8+j,none⟩=some v)):=fun w' hb j v hj=>Zaa (hrow i x hx j v hj) hb
    have HC:Hid (∀ w',Below w.heap.size w w'->Calls prog 74 #[.slice a2 k.length c2,.agg (Rw.cells x).toArray] w' fun e w2=>e=.returned (.bool (memR k x.key))/\Below w'.heap.size w' w2):=(HI2.out x (H1.out.2 x (List.mem_of_getElem? hx)))
    have HF:Hid ((offR k (l.take (i+1))).map (fun r=>(⟨r,t,-1⟩:Dl))=((offR k (l.take i)).map (fun r=>(⟨r,t,-1⟩:Dl)))++(if memR k x.key=true then []else [(⟨x,t,-1⟩:Dl)])):=by show _=_;rw[Zar hx,offR_snoc,List.map_append];cases memR k x.key<;>simp
    have HLn:Hid (((offR k (l.take i)).map (fun r=>(⟨r,t,-1⟩:Dl))).length<=20000000):=by
     have h1:=ZdT k (l.take i)
     show _<=_
     simp at h1 ⊢
     omega
    have Th:=Kb.out wr (ZR wr)
    generalize (offR k (l.take i)).map (fun r=>(⟨r,t,-1⟩:Dl))=r at *
    clear hrow hx
    cases hm:memR k x.key
    · rw[hm]at HC
      rw[hm,if_neg (by simp)]at HF
      have HLa:Hid (r.length+[(⟨x,t,-1⟩:Dl)].length<=1000000000):=by show _<=_;have:=HLn.out;simp;omega
      go_upto_region 6 with(first
       |((with_reducible refine Zah 68 ?_);refine LV b (off+i*8) (Rw.cells x) Th ?_)
       |(go_at_call 74;(with_reducible refine(HC.out _ HB.out).mono ?_);rintro e w3 ⟨rfl,hb⟩;have Ib:=hid hb;have Md:=hid (Kb.out w3 hb);clear hb)
       |fail)
      have c0:=Md.out 0 _ rfl
      have c1':=Md.out 1 _ rfl
      have c2':=Md.out 2 _ rfl
      have c3:=Md.out 3 _ rfl
      have c4:=Md.out 4 _ rfl
      have c5:=Md.out 5 _ rfl
      have c6:=Md.out 6 _ rfl
      have c7:=Md.out 7 _ rfl
      simp only[Nat.add_zero]at c0
      clear Th
      have Qa:Hid (Below w.heap.size w w3):=ZT HB.out Ib.out
      have Sc:Hid (Below w.heap.size w (w3.alloc (.cells (Dl.cells (⟨x,t,-1⟩:Dl)).toArray 70))):=Qa.out.alloc Qa.out.size _
      have Of:Hid (Own Dl.cells 10 70 (w3.alloc (.cells (Dl.cells (⟨x,t,-1⟩:Dl)).toArray 70)) w.heap.size v0 r):=(HR.out.kept Ib.out).kept (Zab _)
      have Kd:Hid (Zac Dl.cells 10 (w3.alloc (.cells (Dl.cells (⟨x,t,-1⟩:Dl)).toArray 70)) (some ⟨w3.heap.size,0,none⟩) [(⟨x,t,-1⟩:Dl)]):=Zav _ _ encD
      go_wp2_with (at_builtin;refine Zai elD encD rfl (.tmp 23) (.tmp 30) rfl rfl rfl Of.out Kd.out rfl (fun e=>by cases e) Sc.out.size HLa.out ?_;intro v5 w5 ho hb;have Bc:=hid ho;have Ya:=hid (Sc.out.trans hb);clear ho hb)
      go_roundw
      case rel=>exact⟨i+1,_,rfl,by omega,by go_num,by rw[HF.out];exact Bc.out,Ya.out⟩
      case measure=>simp[intOf];omega
    · rw[hm]at HC
      rw[hm,if_pos rfl,List.append_nil]at HF
      go_wp2_with (first
       |((with_reducible refine Zah 68 ?_);refine LV b (off+i*8) (Rw.cells x) Th ?_)
       |(go_at_call 74;(with_reducible refine(HC.out _ HB.out).mono ?_);rintro e w3 ⟨rfl,hb⟩;have Ib:=hid hb;clear hb)
       |fail)
      go_roundw
      case rel=>exact⟨i+1,_,rfl,by omega,by go_num,by rw[HF.out];exact HR.out.kept Ib.out,ZT HB.out Ib.out⟩
      case measure=>simp[intOf];omega
  · obtain rfl:i=l.length:=by omega
    rw[List.take_length]at HR
    obtain⟨m,hm⟩:∃ m,m=(offR k l).map (fun r=>(⟨r,t,-1⟩:Dl)):=⟨_,rfl⟩
    have HM:=hid hm
    rw[<-hm]at HR
    have HMl:Hid (m.length<=10000000):=by show _<=_;rw[hm,List.length_map];have:=ZdT k l;omega
    clear hm
    generalize l.length=nl at *
    go_wp2_with fail
    go_loopw [7,9] (fun v jj wr=>∃ (i:Nat) (v0:Value),v0=v/\i<=k.length/\jj=.int .i64 i/\Hid (Own Dl.cells 10 70 wr w.heap.size v (m++(offR l (k.take i)).map (fun r=>(⟨r,t,1⟩:Dl))))/\Hid (Below w.heap.size w wr)) (fun _ jj _=>k.length - (intOf jj).toNat)
    case atStart=>exact⟨0,_,rfl,by omega,rfl,(by show Own _ _ _ _ _ _ (m++[]);rw[List.append_nil];exact HR.out),HB⟩
    case round =>
     obtain⟨i,v0,rfl,hi,rfl,HR,HB⟩:=hrel
     rename World=>wr
     by_cases hlt:i<k.length
     · obtain⟨x,hx⟩:∃ x,k[i]?=some x:=⟨k[i],List.getElem?_eq_getElem _⟩
       obtain⟨b,off,rfl,hrow⟩:=Zat (H2.out.1.kept HB.out) hx
       have Kb:Hid (∀ w',Below wr.heap.size wr w'->(∀ j v,(Rw.cells x)[j]?=some v->w'.cell? ⟨b,off+i*8+j,none⟩=some v)):=fun w' hb j v hj=>Zaa (hrow i x hx j v hj) hb
       have HC:Hid (∀ w',Below w.heap.size w w'->Calls prog 74 #[.slice a1 nl c1,.agg (Rw.cells x).toArray] w' fun e w2=>e=.returned (.bool (memR l x.key))/\Below w'.heap.size w' w2):=(HI1.out x (H2.out.2 x (List.mem_of_getElem? hx)))
       have HF:Hid (m++(offR l (k.take (i+1))).map (fun r=>(⟨r,t,1⟩:Dl))=(m++(offR l (k.take i)).map (fun r=>(⟨r,t,1⟩:Dl)))++(if memR l x.key=true then []else [(⟨x,t,1⟩:Dl)])):=by show _=_;rw[Zar hx,offR_snoc,List.map_append,List.append_assoc];cases memR l x.key<;>simp
       have HLn:Hid ((m++(offR l (k.take i)).map (fun r=>(⟨r,t,1⟩:Dl))).length<=20000000):=by
        have h1:=ZdT l (k.take i)
        have h2:=HMl.out
        show _<=_
        simp at h1 ⊢
        omega
       have Th:=Kb.out wr (ZR wr)
       generalize m++(offR l (k.take i)).map (fun r=>(⟨r,t,1⟩:Dl))=r at *
       clear hrow hx
       cases hm:memR l x.key
       · rw[hm]at HC
         rw[hm,if_neg (by simp)]at HF
         have HLa:Hid (r.length+[(⟨x,t,1⟩:Dl)].length<=1000000000):=by show _<=_;have:=HLn.out;simp;omega
         go_upto_region 11 with(first
          |((with_reducible refine Zah 68 ?_);refine LV b (off+i*8) (Rw.cells x) Th ?_)
          |(go_at_call 74;(with_reducible refine(HC.out _ HB.out).mono ?_);rintro e w3 ⟨rfl,hb⟩;have Ib:=hid hb;have Md:=hid (Kb.out w3 hb);clear hb)
          |fail)
         have c0:=Md.out 0 _ rfl
         have c1':=Md.out 1 _ rfl
         have c2':=Md.out 2 _ rfl
         have c3:=Md.out 3 _ rfl
         have c4:=Md.out 4 _ rfl
         have c5:=Md.out 5 _ rfl
         have c6:=Md.out 6 _ rfl
         have c7:=Md.out 7 _ rfl
         simp only[Nat.add_zero]at c0
         clear Th
         have Qa:Hid (Below w.heap.size w w3):=ZT HB.out Ib.out
         have Sc:Hid (Below w.heap.size w (w3.alloc (.cells (Dl.cells (⟨x,t,1⟩:Dl)).toArray 70))):=Qa.out.alloc Qa.out.size _
         have Of:Hid (Own Dl.cells 10 70 (w3.alloc (.cells (Dl.cells (⟨x,t,1⟩:Dl)).toArray 70)) w.heap.size v0 r):=(HR.out.kept Ib.out).kept (Zab _)
         have Kd:Hid (Zac Dl.cells 10 (w3.alloc (.cells (Dl.cells (⟨x,t,1⟩:Dl)).toArray 70)) (some ⟨w3.heap.size,0,none⟩) [(⟨x,t,1⟩:Dl)]):=Zav _ _ encD
         go_wp2_with (at_builtin;refine Zai elD encD rfl (.tmp 45) (.tmp 52) rfl rfl rfl Of.out Kd.out rfl (fun e=>by cases e) Sc.out.size HLa.out ?_;intro v5 w5 ho hb;have Bc:=hid ho;have Ya:=hid (Sc.out.trans hb);clear ho hb)
         go_roundw
         case rel=>exact⟨i+1,_,rfl,by omega,by go_num,by rw[HF.out];exact Bc.out,Ya.out⟩
         case measure=>simp[intOf];omega
       · rw[hm]at HC
         rw[hm,if_pos rfl,List.append_nil]at HF
         go_wp2_with (first
          |((with_reducible refine Zah 68 ?_);refine LV b (off+i*8) (Rw.cells x) Th ?_)
          |(go_at_call 74;(with_reducible refine(HC.out _ HB.out).mono ?_);rintro e w3 ⟨rfl,hb⟩;have Ib:=hid hb;clear hb)
          |fail)
         go_roundw
         case rel=>exact⟨i+1,_,rfl,by omega,by go_num,by rw[HF.out];exact HR.out.kept Ib.out,ZT HB.out Ib.out⟩
         case measure=>simp[intOf];omega
     · obtain rfl:i=k.length:=by omega
       rw[List.take_length]at HR
       go_wp2_with fail
       go_ret
       refine⟨_,rfl,⟨by unfold betK;rw[<-HM.out];exact HR.out,fun d hd=>?_⟩,HB.out⟩
       rcases List.mem_append.1 hd with hd|hd<;>obtain⟨y,hy,rfl⟩:=List.mem_map.1 hd
       · exact⟨(H1.out.2 y (List.mem_filter.1 hy).1).kept HB.out,HT.out,Zbw _ (by simp)⟩
       · exact⟨(H2.out.2 y (List.mem_filter.1 hy).1).kept HB.out,HT.out,Zbw _ (by simp)⟩
end Go.Proofs.YtfnpfkgmacaboaaGreat
