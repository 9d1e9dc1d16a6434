/- Texts joined by a program. -/
import Derived.Laws.OwnMore
import Derived.Laws.AppendOwnNone
import Derived.Lib.SliceRun
import Derived.WalkSpells
import Derived.Maps.AppendAt
import Derived.RegionTactic
import Derived.Deep.QuietTactic
import Derived.Laws.StructEq
import Derived.Shelf.SlicesE.Kit
import Derived.Lib.ConvBytes
import Derived.Lib.SmallJoins
import Derived.Laws.IdiomStrings
import Derived.Test.YtfnpfkgmacaboaaGreatM03
namespace Go.Proofs.YtfnpfkgmacaboaaGreat
open Go.Proofs.Tryz
open Lib (hid)
open Go.ChangeShapes Go.WideShapes Go.ChangeAt Go.RowKit
set_option linter.unusedVariables false
set_option linter.unusedSimpArgs false
section
variable {P:Program} {α:Type} {enc:α->List Value} {k bytes:Nat} {e t:TypeId} {w w':World} {B:Nat} {v:Value} {l m:List α}
structure El (P:Program) (e t:TypeId) (k bytes:Nat):Prop where
 und:P.underlying t=some (.slice e)
 info:(P.info? e).map (fun i=>(i.zero.map (fun z=>z.cells.size),i.size,i.bytes))=some (some k,k,bytes)
 pos:0<k
 few:bytes<=100000
theorem El.parts (E:El P e t k bytes):∃ i z,P.info? e=some i/\i.zero=some z/\i.size=k/\i.bytes=bytes/\z.cells.size=k:=by
 have h:=E.info
 cases hi:P.info? e with
 |none=>rw[hi]at h;simp at h
 |some i =>
  rw[hi]at h
  simp at h
  obtain⟨⟨z,h1,h2⟩,h3,h4⟩:=h
  exact⟨i,z,rfl,h1,h3,h4,h2⟩
theorem El.size (E:El P e t k bytes):(P.info? e).map (·.size)=some k:=by
 obtain⟨i,z,h1,-,h3,-⟩:=E.parts
 rw[h1];simp[h3]
structure Enc (enc:α->List Value) (k:Nat):Prop where
 len:∀ x,(enc x).length=k
 one:∀ x,∀ v∈enc x,v.oneCell'=true
def Own (enc:α->List Value)(k:Nat)(e:TypeId)(w:World)(B:Nat)(v:Value)(l:List α):Prop:=w.ownsRow B e k v l.length (encs enc l)
theorem ownsRow_kept {size n:Nat}{xs:List Value}(h:w.ownsRow B e size v n xs)(hb:Below w.heap.size w w'):w'.ownsRow B e size v n xs:=by
 refine⟨h.1,?_⟩
 rcases h.2 with h|⟨g,cap,cur,h1,h2,h3,h4⟩
 · exact Or.inl h
 · exact Or.inr ⟨g,cap,cur,h1,h2,(hb.block g (Array.getElem?_eq_some_iff.1 h3).1).trans h3,h4⟩
theorem Own.kept (h:Own enc k e w B v l)(hb:Below w.heap.size w w'):Own enc k e w' B v l:=ownsRow_kept h hb
theorem Own.mono {B':Nat}(h:Own enc k e w B v l)(hB:B'<=B):Own enc k e w B' v l:=by
 refine⟨h.1,?_⟩
 rcases h.2 with h|⟨g,cap,cur,h1,h2,h3⟩
 · exact Or.inl h
 · exact Or.inr ⟨g,cap,cur,h1,by omega,h3⟩
theorem Own.nil (w:World)(B:Nat):Own enc k e w B (.slice none 0 0) []:=⟨by simp[encs],Or.inl ⟨rfl,rfl⟩⟩
theorem Own.lit {W:World}(hB:B<=W.heap.size):Own enc k e (W.alloc (.cells #[] e)) B (.slice (some ⟨W.heap.size,0,none⟩) 0 0) []:=World.ownsRow_lit W #[] 0 hB (by unfold maxLen;omega) (by simp)
theorem Own.lt (h:Own enc k e w B v l):∀ g,v.ownBlock=some g->B<=g/\g<w.heap.size:=by
 intro g hg
 rcases h.2 with⟨rfl,-⟩|⟨g',cap,cur,rfl,h2,h3,-⟩
 · cases hg
 · injection hg with hg;subst hg;exact⟨h2,(Array.getElem?_eq_some_iff.1 h3).1⟩
theorem Own.lies (hE:Enc enc k)(h:Own enc k e w B v l):∃ ao c,v=.slice ao l.length c/\l.length<=c/\(ao=none->c=0)/\Zaf enc k w ao l:=by
 rcases h.2 with⟨rfl,h0⟩|⟨g,cap,cur,h1,h2,h3,h4,h5,h6,h7⟩
 · exact⟨none,0,by rw[h0],by omega,fun _=>rfl,Or.inl (List.eq_nil_of_length_eq_zero h0)⟩
 · refine⟨_,cap,h1,h4,(fun e=>by cases e),Or.inr ⟨g,0,rfl,Lies.of_cells hE.len ?_⟩⟩
   intro j u hj
   rw[Nat.zero_add,cell_of_row w g _ cur e _ h3]
   rw[<-h7,List.getElem?_take]at hj
   split at hj
   · simpa using hj
   · cases hj
theorem ZbM (b o j:Nat):(⟨b,o,none⟩:Addr).add j=⟨b,o+j,none⟩:=by simp[Addr.add]
theorem Zay {ops:Array Oper} {rest:List Oper} {o:Oper} {a:Act} {Q:Exit->Act->World->Prop} {ao:Option Addr} {n c:Nat} (E:El P e t k bytes) (hE:Enc enc k) (hgd:o.guard=none) (s x:Operand)
 (ho:o.op=.call { callee:=.builtin .append,args:=#[s,x],argTypes:=#[t,t] }) (hs:a.eval s=v) (hx:a.eval x=.slice ao n c)
 (hO:Own enc k e w B v l) (hS:Zaf enc k w ao m) (hn:n=m.length) (hc:ao=none->c=0) (hB:B<=w.heap.size) (hl:l.length+m.length<=1000000000)
 (h:∀ v' w1,Own enc k e w1 B v' (l++m)->Below B w w1->wpList P ops Q rest (a.put o.dst v') w1) :
 wpList P ops Q (o :: rest) a w:=by
 obtain⟨i,z,hi,hz0,hz1,hz2,hz3⟩:=E.parts
 have hpos:=E.pos
 have hfew:=E.few
 subst hn
 cases ao with
 |none =>
  have hk:m=[]:=by
   rcases hS with h|⟨_,_,h,_⟩
   · exact h
   · cases h
  subst hk
  have h0:=hc rfl
  subst h0
  refine wpList_append_own_none hgd s x t ho B e i k E.und hi v _ _ hs hO hx ?_
  exact h v w (by rw[List.append_nil];exact hO) (Below.refl _ _)
 |some ad =>
  have hcells:∀ j v,(encs enc m)[j]?=some v->w.cell? (ad.add j)=some v:=by
   intro j u hj
   rcases hS with rfl|⟨b,off,he,hr⟩
   · simp[encs]at hj
   · injection he with he;subst he
     rw[ZbM];exact hr.cells hE.len hpos j u hj
  have hbytes:(l.length+m.length)*bytes<=140737488355328:=Nat.le_trans (Nat.mul_le_mul hl hfew) (by decide)
  refine wpList_append_own _ hgd s x t ho B e i z k bytes E.und hi hz0 hz1 hz2 hz3 hpos v _ _ hs hO ad m.length c (encs enc m) hx (Zbc hE.len m) hcells (ZbI hE.one m) (by unfold maxLen;omega) hbytes hB ?_
  intro v' w1 hown hgr _
  refine h v' w1 ?_ ((Below.refl _ _).grown hgr hB (fun g hg=>(hO.lt g hg).1))
  unfold Own
  rw[Zbd,List.length_append];exact hown
theorem ZaG (x:α)(W:World)(hE:Enc enc k):Zaf enc k (W.alloc (.cells (enc x).toArray e)) (some ⟨W.heap.size,0,none⟩) [x] :=
 Or.inr ⟨_,_,rfl,Lies.of_cells hE.len (fun j v hj=>by
  rw[Zec]at hj
  rw[Nat.zero_add]
  exact(Box.new W (enc x).toArray e).cell j v (by simpa using hj))⟩
theorem Lies.take {b off:Nat}(h:Lies enc k w b off l)(n:Nat):Lies enc k w b off (l.take n):=by
 intro i x hx
 have hi:i<n:=by
  have:=(List.getElem?_eq_some_iff.1 hx).1
  simp at this;omega
 rw[List.getElem?_take_of_lt hi]at hx
 exact h i x hx
theorem Lies.drop {b off:Nat}(h:Lies enc k w b off l)(n:Nat):Lies enc k w b (off+n*k) (l.drop n):=by
 intro i x hx j v hv
 rw[List.getElem?_drop]at hx
 have:=h _ x hx j v hv
 rwa [show off+n*k+i*k=off+(n+i)*k by rw[Nat.add_mul];omega]
theorem Zaf.take {ao:Option Addr}(h:Zaf enc k w ao l)(i:Nat):Zaf enc k w ao (l.take i):=by
 rcases h with rfl|⟨b,off,rfl,h⟩
 · exact Or.inl (by simp)
 · exact Or.inr ⟨b,off,rfl,h.take i⟩
theorem run_size {size:Nat}(hs:(P.info? e).map (·.size)=some size)(w:World):(sizeOf e).run P w=.ok size w:=by
 cases hq:P.info? e with
 |none=>simp[hq]at hs
 |some i=>simp[hq]at hs;simp[sizeOf,typeInfo,hq,hs]
theorem ZbZ (E:El P e t k bytes)(A:Option Addr)(n c lo:Nat)(h:lo<=n) :
 ∃ A',(∀ w,(Instr.slice t (.slice A n c) (some (.int .i64 (lo:Int))) none none).run P w=.ok (.slice A' (n - lo) (c - lo)) w)/\(A'=none->A=none)/\∀ b off,A=some ⟨b,off,none⟩->lo<c->A'=some ⟨b,off+lo*k,none⟩:=by
 have ht:=E.und
 have he:P.elem t=e:=by simp[Program.elem,ht]
 refine⟨if c=lo then A else A.map (·.add (lo*k)),fun w=>?_,?_,?_⟩
 · rw[run_slice_l (P:=P) w t A n c (by rw[he];exact ht) .i64 lo (by omega) (by omega),he,run_size E.size]
   simp[sliced,Result.andThen]
 · split<;>simp
 · intro b off ha hc
   rw[if_neg (by omega),ha]
   simp[Addr.add]
theorem ZbY (E:El P e t k bytes)(A:Option Addr)(n c hi:Nat)(h:hi<=c)(w:World) :
 (Instr.slice t (.slice A n c) none (some (.int .i64 (hi:Int))) none).run P w=.ok (.slice A hi c) w:=by
 have ht:=E.und
 have he:P.elem t=e:=by simp[Program.elem,ht]
 rw[run_slice_h (P:=P) w t A n c (by rw[he];exact ht) .i64 hi (by omega) (by omega),he,run_size E.size]
 cases A with
 |none=>simp[sliced,Result.andThen]
 |some a=>simp[sliced,Result.andThen,Addr.add]
theorem ZbH {A A':Option Addr}{c i:Nat}(h:Zaf enc k w A l)(hlc:l.length<=c)(hA:∀ b off,A=some ⟨b,off,none⟩->i<c->A'=some ⟨b,off+i*k,none⟩):Zaf enc k w A' (l.drop i):=by
 by_cases hd:i<l.length
 · obtain⟨b',off',he,hr⟩:=h.some (by omega)
   exact Or.inr ⟨b',off'+i*k,hA b' off' he (by omega),hr.drop i⟩
 · exact Or.inl (List.drop_eq_nil_of_le (by omega))
end
theorem elD:El prog 70 53 10 120:=⟨underlying53,by kernel_rfl,by decide,by decide⟩
theorem elR:El prog 68 58 8 104:=⟨underlying58,by kernel_rfl,by decide,by decide⟩
theorem encD:Enc Dl.cells 10:=⟨fun _=>rfl,Dl.cells_one⟩
theorem encR:Enc Rw.cells 8:=⟨fun _=>rfl,Rw.cells_one⟩
end Go.Proofs.YtfnpfkgmacaboaaGreat
namespace Go.Proofs.YtfnpfkgmacaboaaGreat
open Go.Proofs.Tryz
open Lib (hid)
open Go.ChangeShapes Go.WideShapes Go.ChangeAt Go.RowKit
set_option linter.unusedVariables false
set_option linter.unusedSimpArgs false
theorem below_box2 {w:World}(c1 c2:Array Value)(t1 t2:TypeId):Below w.heap.size w ((w.alloc (.cells c1 t1)).alloc (.cells c2 t2)):=Zax _ _
end Go.Proofs.YtfnpfkgmacaboaaGreat
namespace Go.Proofs.YtfnpfkgmacaboaaGreat
open Go.Proofs.Tryz
open Lib (hid)
open Go.ChangeShapes Go.WideShapes Go.ChangeAt Go.RowKit
set_option linter.unusedVariables false
set_option linter.unusedSimpArgs false
theorem Box.put {w:World}{g:Nat}{cs:Array Value}{t:TypeId}(h:Box w g cs t)(j:Nat)(v:Value):Box (w.setCell ⟨g,j,none⟩ v) g (cs.setIfInBounds j v) t:=by
 obtain⟨hlt,hk⟩:=Array.getElem?_eq_some_iff.1 h
 show(w.heap.modify g _)[g]?=_
 rw[Array.getElem?_eq_getElem (by rw[Array.size_modify];exact hlt),Array.getElem_modify_self,hk]
 simp
theorem Zag {B:Nat}{a w:World}(h:Below B a w)(n:Nat):Below B a (w.drewN n):=⟨h.os,h.tape,h.output,h.size,h.block⟩
theorem Own.far {α:Type}{enc:α->List Value}{k:Nat}{e:TypeId}{w:World}{B:Nat}{v:Value}{l:List α}{p:Addr}{x:Value}(h:Own enc k e w B v l)(hp:p.block<B):Own enc k e (w.setCell p x) B v l:=by
 refine⟨h.1,?_⟩
 rcases h.2 with h|⟨g,cap,cur,h1,h2,h3,h4⟩
 · exact Or.inl h
 · exact Or.inr ⟨g,cap,cur,h1,h2,(Below.heap_setCell w p x g (by omega)).trans h3,h4⟩
theorem Box.at10 {w:World}{g:Nat}{t:TypeId}{a0 a1 a2 a3 a4 a5 a6 a7 a8 a9:Value}(h:Box w g #[a0,a1,a2,a3,a4,a5,a6,a7,a8,a9] t):w.cell? ⟨g,0,none⟩=some a0/\w.cell? ⟨g,1,none⟩=some a1/\w.cell? ⟨g,2,none⟩=some a2/\w.cell? ⟨g,3,none⟩=some a3/\w.cell? ⟨g,4,none⟩=some a4/\w.cell? ⟨g,5,none⟩=some a5/\w.cell? ⟨g,6,none⟩=some a6/\w.cell? ⟨g,7,none⟩=some a7/\w.cell? ⟨g,8,none⟩=some a8/\w.cell? ⟨g,9,none⟩=some a9 :=
 ⟨h.cell 0 _ rfl,h.cell 1 _ rfl,h.cell 2 _ rfl,h.cell 3 _ rfl,h.cell 4 _ rfl,h.cell 5 _ rfl,h.cell 6 _ rfl,h.cell 7 _ rfl,h.cell 8 _ rfl,h.cell 9 _ rfl⟩
theorem wrap64_is (n:Int):wrap64 n=IntKind.i64.wrap n:=by
 unfold wrap64 IntKind.wrap
 simp[IntKind.signed,IntKind.bits]
 split<;>omega
theorem gen_exit {R:Exit->Act->World->Prop}{x:Exit}{a:Act}{w:World}(h:∀ W,W=w->R x a W):R x a w:=h w rfl
def Dl.withN (x:Dl)(n:Int):Dl:={ x with n:=n }
def OwnD (w:World)(B:Nat)(v:Value)(l:List Dl):Prop:=Own Dl.cells 10 70 w B v l/\∀ d∈l,d.Ok w
theorem I64.wrap (n:Int):I64 (IntKind.i64.wrap n):=by
 unfold I64 IntKind.wrap
 simp[IntKind.signed,IntKind.bits]
 split<;>omega
end Go.Proofs.YtfnpfkgmacaboaaGreat
namespace Go.Proofs.YtfnpfkgmacaboaaGreat
open Go.Proofs.Tryz
open Lib (hid)
open Go.ChangeShapes Go.WideShapes Go.ChangeAt Go.RowKit
set_option linter.unusedVariables false
set_option linter.unusedSimpArgs false
end Go.Proofs.YtfnpfkgmacaboaaGreat
namespace Go.Proofs.YtfnpfkgmacaboaaGreat
open Go.Proofs.Tryz
open Lib (hid)
open Go.ChangeShapes Go.WideShapes Go.ChangeAt Go.RowKit
set_option linter.unusedVariables false
set_option linter.unusedSimpArgs false
instance decRK:DecidableEq RK:=fun a b=>if h:cmpR a b=0 then .isTrue ((Zbe.zero a b).1 h)else .isFalse (fun e=>h ((Zbe.zero a b).2 e))
instance decDK:DecidableEq DK:=fun a b=>if h:cmpD a b=0 then .isTrue ((ZaW.zero a b).1 h)else .isFalse (fun e=>h ((ZaW.zero a b).2 e))
def consK (d:List (DK × Int)):List (DK × Int):=d.foldl (putK cmpD) []
theorem ZaO {α:Type}{l:List α}{i:Nat}{x:α}(h:l[i]?=some x):l.take (i+1)=l.take i++[x]:=by
 rw[List.take_add_one,h];rfl
theorem OwnD.kept {w w':World}{B:Nat}{v:Value}{l:List Dl}(h:OwnD w B v l)(hb:Below w.heap.size w w'):OwnD w' B v l:=⟨h.1.kept hb,fun d hd=>(h.2 d hd).kept hb⟩
theorem OwnD.mono {w:World}{B B':Nat}{v:Value}{l:List Dl}(h:OwnD w B v l)(hB:B'<=B):OwnD w B' v l:=⟨h.1.mono hB,h.2⟩
theorem OwnD.nil (w:World)(B:Nat):OwnD w B (.slice none 0 0) []:=⟨Own.nil w B,fun d hd=>by cases hd⟩
theorem OwnD.lies {w:World}{B:Nat}{v:Value}{l:List Dl}(h:OwnD w B v l):∃ ao c,v=.slice ao l.length c/\l.length<=c/\(ao=none->c=0)/\DlsAt w ao l:=by
 obtain⟨ao,c,h1,h2,h3,h4⟩:=h.1.lies encD
 exact⟨ao,c,h1,h2,h3,h4,h.2⟩
theorem keepB {B:Nat}{w0 w w1:World}(hB:B<=w0.heap.size)(h:Below B w0 w)(hb:Below w.heap.size w w1):Below B w0 w1:=h.trans (hb.mono (Nat.le_trans hB h.size))
end Go.Proofs.YtfnpfkgmacaboaaGreat
namespace Go.Proofs.YtfnpfkgmacaboaaGreat
open Go.Proofs.Tryz
open Lib (hid)
open Go.ChangeShapes Go.WideShapes Go.ChangeAt Go.RowKit
set_option linter.unusedVariables false
set_option linter.unusedSimpArgs false
def Dl.neg (d:Dl):Dl:=d.withN (IntKind.i64.wrap (-d.n))
theorem Dl.Ok.neg {w:World}{d:Dl}(h:d.Ok w):d.neg.Ok w:={ h with n:=I64.wrap _ }
end Go.Proofs.YtfnpfkgmacaboaaGreat
namespace Go.Proofs.YtfnpfkgmacaboaaGreat
open Go.Proofs.Tryz
open Lib (hid)
open Go.ChangeShapes Go.WideShapes Go.ChangeAt Go.RowKit
set_option linter.unusedVariables false
set_option linter.unusedSimpArgs false
abbrev FID:=ByteArray × Int
def fidC (x:FID):List Value:=[.string x.1,.int .i64 x.2]
abbrev fidV (x:FID):Value:=.agg #[.string x.1,.int .i64 x.2]
theorem Zbj {w:World}{b off:Nat}{l:List FID}(h:Lies fidC 2 w b off l){i:Nat}{v:FID}(hv:l[i]?=some v) :
 w.cell? ⟨b,off+i*2,none⟩=some (.string v.1)/\w.cell? ⟨b,off+i*2+1,none⟩=some (.int .i64 v.2):=⟨h i v hv 0 _ rfl,h i v hv 1 _ rfl⟩
theorem guard36 (op:BinOp)(a b:Operand)(x y:FID)(w:World):(eqGuard op 24 a b (fidV x) (fidV y)).run prog w=.ok () w:=run_eqGuard_agg w op 24 a b _ _ (by kernel_rfl)
def eqF (x y:FID):Bool:=x.1.toList==y.1.toList&&x.2==y.2
theorem Zba {x y:FID}:eqF x y=true↔x=y:=by
 unfold eqF
 rw[Bool.and_eq_true,beq_iff_eq,beq_iff_eq,Prod.ext_iff]
 exact⟨fun h=>⟨Zcd h.1,h.2⟩,fun h=>⟨by rw[h.1],h.2⟩⟩
theorem eql36 (x y:FID)(w:World):(binOp .eql 24 (fidV x) (fidV y)).run prog w=.ok (.bool (eqF x y)) w:=by
 have u3:=underlying3
 have u9:=underlying9
 have a3:=Tryz.isAgg3
 have z3:=Tryz.sizeOf3
 have a9:=Tryz.isAgg9
 have z9:=Tryz.sizeOf9
 have hS:prog.underlying 24=some (.struct (prog.fieldsOf 24)):=by kernel_rfl
 have hp:prog.stoodInHeld 24=false:=by kernel_rfl
 rw[run_eql_struct,show(10000:Nat)=9999+1 from rfl,run_equalIn_agg w 9999 24 _ _ hS hp]
 simp only[Program.fieldsOf,underlying24]
 go_simp
 unfold eqF
 by_cases h1:x.1.toList=y.1.toList<;>by_cases h2:x.2=y.2<;>simp[h1,h2]
def memF (l:List FID)(x:FID):Bool:=l.any (fun y=>eqF y x)
theorem ZcH {l:List FID}{x:FID}:memF l x=true↔x∈l:=by
 unfold memF
 rw[List.any_eq_true]
 exact⟨fun⟨y,h1,h2⟩=>Zba.1 h2 ▸ h1,fun h=>⟨x,h,Zba.2 rfl⟩⟩
set_option maxHeartbeats 2000000 in
set_option maxRecDepth 100000 in
theorem inids_any (l:List FID)(ao:Option Addr)(cap:Nat)(hl:l.length<=4611686018427387904)(x:FID)(w:World)(h:Zaf fidC 2 w ao l) :
 Calls prog 29 #[.slice ao l.length cap,fidV x] w fun e w'=>e=.returned (.bool (memF l x))/\Below w.heap.size w w':=by
 have H:=hid h
 clear h
 go_enter func29,ntmps29
 go_wp2_with fail
 refine Zam (fun W hW=>?_)
 have HW:Hid (Below w.heap.size w W):=by rw[hW];exact Zab _
 have HT:Hid (Box W w.heap.size #[.string x.1,.int .i64 x.2] 24):=by rw[hW];exact Box.new _ _ _
 clear hW
 go_loopw [5] (fun v wr=>∃ i:Nat,i<=l.length/\v=.int .i64 i/\Hid (memF (l.take i) x=false)/\Below W.heap.size W wr) (fun v _=>l.length - (intOf v).toNat)
 case atStart=>exact⟨0,by omega,rfl,hid rfl,Below.refl _ _⟩
 case round =>
  obtain⟨i,hi,rfl,HN,hB⟩:=hrel
  have HB:=hid hB
  clear hB
  by_cases hlt:i<l.length
  · obtain⟨y,hy⟩:∃ y,l[i]?=some y:=⟨l[i],List.getElem?_eq_getElem hlt⟩
    obtain⟨b,off,rfl,hrow⟩:=((H.out.kept HW.out).kept HB.out).some (by omega)
    obtain⟨c0,c1⟩:=Zbj hrow hy
    have t0:=(HT.out.kept HB.out).cell 0 _ rfl
    have t1:=(HT.out.kept HB.out).cell 1 _ rfl
    have HY:=hid hy
    clear hrow hy
    have ws1:IntKind.i64.wrap (i:Int)=(i:Int):=IntWalk.i64_in _ (by omega)
    have hg:=fun w=>guard36 .eql (.tmp 15) (.tmp 16) y x w
    have he:=fun w=>eql36 y x w
    cases hyx:eqF y x
    · rw[hyx]at he
      have HR:Hid (memF (l.take (i+1)) x=false):=by show _=_;rw[ZaO HY.out];unfold memF;rw[List.any_append];have:=HN.out;unfold memF at this;rw[this];simp[hyx]
      clear hyx
      go_wp2_with fail
      go_quiet (fail)
      go_wp2_with fail
      go_roundw
      case rel=>exact⟨i+1,by omega,by go_num,HR,Zag HB.out _⟩
      case measure=>simp[intOf];omega
    · rw[hyx]at he
      have HR:Hid (memF l x=true):=ZcH.2 (Zba.1 hyx ▸ List.mem_of_getElem? HY.out)
      clear hyx
      go_wp2_with fail
      go_quiet (fail)
      go_wp2_with fail
      go_ret
      exact⟨by rw[HR.out];rfl,HW.out.trans (Zag (HB.out.mono HW.out.size) _)⟩
  · obtain rfl:i=l.length:=by omega
    have HR:Hid (memF l x=false):=by have:=HN.out;rwa [List.take_length]at this
    go_wp2_with fail
    go_ret
    exact⟨by rw[HR.out];rfl,HW.out.trans (HB.out.mono HW.out.size)⟩
def ZbR (l:List Dl)(ids:List FID):List Dl:=l.filter (fun d=>!memF ids (d.r.src,d.r.seq))
theorem purgeD_snoc (l:List Dl)(ids:List FID)(x:Dl):ZbR (l++[x]) ids=ZbR l ids++(if memF ids (x.r.src,x.r.seq)then []else [x]):=by
 unfold ZbR
 rw[List.filter_append]
 cases h:memF ids (x.r.src,x.r.seq)<;>simp[h]
set_option maxRecDepth 100000
def GotB (w:World)(e:Ending)(w':World):Prop:=∃ b:Bool,e=.returned (.bool b)/\Below w.heap.size w w'
def GotI (w:World)(e:Ending)(w':World):Prop:=∃ n:Int,e=.returned (.int .i64 n)/\Below w.heap.size w w'
theorem ZR (w:World):Below w.heap.size w w:=Below.refl _ _
theorem ZH {w w1:World}(h:Hid (Below w.heap.size w w1)):Below w.heap.size w w1:=h.out
theorem ZA {w w1:World}(h:Below w.heap.size w w1)(o:Obj):Below w.heap.size w (w1.alloc o):=h.alloc h.size o
theorem ZD {w w1:World}(h:Below w.heap.size w w1):Below w.heap.size w w1.drew:=Below.drew h
theorem m1 {α : Type} {l : List α} {i : Nat} {a : α} : l.toArray.setIfInBounds i a = (l.set i a).toArray := List.setIfInBounds_toArray ..
theorem m2 {α : Type} {a b : α} {l : List α} : (a :: l).set 0 b = b :: l := List.set_cons_zero
theorem m3 {α : Type} {a b : α} {l : List α} {n : Nat} : (a :: l).set (n + 1) b = a :: l.set n b := List.set_cons_succ
theorem ZT {w w1 w2:World}(h:Below w.heap.size w w1)(hb:Below w1.heap.size w1 w2):Below w.heap.size w w2:=h.trans (hb.mono h.size)
def GotN (Q:Int->Prop)(w:World)(e:Ending)(w':World):Prop:=∃ n:Int,e=.returned (.int .i64 n)/\Q n/\Below w.heap.size w w'
def GotP (Q:Bool->Prop)(w:World)(e:Ending)(w':World):Prop:=∃ b:Bool,e=.returned (.bool b)/\Q b/\Below w.heap.size w w'
def Zao (w:World)(ua:Option Addr)(un:Nat):Prop:=∃ us:List FID,un=us.length/\us.length<=140737488355328/\(∀ f∈us,f.1.size<=140737488355328/\I64 f.2)/\Zaf fidC 2 w ua us
theorem Zao.kept {w w':World}{ua:Option Addr}{un:Nat}(h:Zao w ua un)(hb:Below w.heap.size w w'):Zao w' ua un:=let ⟨us,h1,h2,h4,h3⟩:=h;⟨us,h1,h2,h4,h3.kept hb⟩
theorem Zao.nil (w:World)(ua:Option Addr):Zao w ua 0:=⟨[],rfl,by decide,fun f hf=>(by cases hf),Zaf.nil _ _⟩
theorem ZcS (T:TypeId)(h:prog.eqGuardType prog.depth T=false)(op:BinOp)(a b:Operand)(xs ys:Array Value)(w:World):(eqGuard op T a b (.agg xs) (.agg ys)).run prog w=.ok () w:=run_eqGuard_agg w op T a b _ _ h
theorem eqFac (x y:FID):∃ b:Bool,(∀ w,(binOp .eql 198 (fidV x) (fidV y)).run prog w=.ok (.bool b) w)/\∀ w,(binOp .neq 198 (fidV x) (fidV y)).run prog w=.ok (.bool (!b)) w:=by
 have u3:=underlying3
 have u9:=underlying9
 have a3:=Tryz.isAgg3
 have z3:=Tryz.sizeOf3
 have a9:=Tryz.isAgg9
 have z9:=Tryz.sizeOf9
 have hS:prog.underlying 198=some (.struct (prog.fieldsOf 198)):=by kernel_rfl
 have hp:prog.stoodInHeld 198=false:=by kernel_rfl
 refine⟨eqF x y,fun w=>?_,fun w=>?_⟩
 all_goals
  first|rw[run_eql_struct]|rw[run_neq_struct]
  rw[show(10000:Nat)=9999+1 from rfl,run_equalIn_agg w 9999 198 _ _ hS hp]
  simp only[Program.fieldsOf,underlying198]
  go_simp
  unfold eqF
  by_cases h1:x.1.toList=y.1.toList<;>by_cases h2:x.2=y.2<;>simp[h1,h2]
theorem eqVal (x y:Val):∃ b:Bool,(∀ w,(binOp .eql 37 (.agg #[.int .i64 x.1,.int .i64 x.2.1,.string x.2.2]) (.agg #[.int .i64 y.1,.int .i64 y.2.1,.string y.2.2])).run prog w=.ok (.bool b) w) /\
 ∀ w,(binOp .neq 37 (.agg #[.int .i64 x.1,.int .i64 x.2.1,.string x.2.2]) (.agg #[.int .i64 y.1,.int .i64 y.2.1,.string y.2.2])).run prog w=.ok (.bool (!b)) w:=by
 have u3:=underlying3
 have u9:=underlying9
 have a3:=Tryz.isAgg3
 have z3:=Tryz.sizeOf3
 have a9:=Tryz.isAgg9
 have z9:=Tryz.sizeOf9
 have hS:prog.underlying 37=some (.struct (prog.fieldsOf 37)):=by kernel_rfl
 have hp:prog.stoodInHeld 37=false:=by kernel_rfl
 refine⟨(x.1==y.1&&x.2.1==y.2.1)&&x.2.2.toList==y.2.2.toList,fun w=>?_,fun w=>?_⟩
 all_goals
  first|rw[run_eql_struct]|rw[run_neq_struct]
  rw[show(10000:Nat)=9999+1 from rfl,run_equalIn_agg w 9999 37 _ _ hS hp]
  simp only[Program.fieldsOf,underlying37]
  go_simp
  by_cases h1:x.1=y.1<;>by_cases h2:x.2.1=y.2.1<;>by_cases h3:x.2.2.toList=y.2.2.toList<;>simp[h1,h2,h3]
theorem eqWin (x y:Int × Int):∃ b:Bool,(∀ w,(binOp .eql 39 (.agg #[.int .i64 x.1,.int .i64 x.2]) (.agg #[.int .i64 y.1,.int .i64 y.2])).run prog w=.ok (.bool b) w) /\
 ∀ w,(binOp .neq 39 (.agg #[.int .i64 x.1,.int .i64 x.2]) (.agg #[.int .i64 y.1,.int .i64 y.2])).run prog w=.ok (.bool (!b)) w:=by
 have u3:=underlying3
 have a3:=Tryz.isAgg3
 have z3:=Tryz.sizeOf3
 have hS:prog.underlying 39=some (.struct (prog.fieldsOf 39)):=by kernel_rfl
 have hp:prog.stoodInHeld 39=false:=by kernel_rfl
 refine⟨x.1==y.1&&x.2==y.2,fun w=>?_,fun w=>?_⟩
 all_goals
  first|rw[run_eql_struct]|rw[run_neq_struct]
  rw[show(10000:Nat)=9999+1 from rfl,run_equalIn_agg w 9999 39 _ _ hS hp]
  simp only[Program.fieldsOf,underlying39]
  go_simp
  by_cases h1:x.1=y.1<;>by_cases h2:x.2=y.2<;>simp[h1,h2]
theorem ZaE (w:World)(c0:Array Value)(t0:TypeId):Box (w.alloc (.cells c0 t0)) w.heap.size c0 t0:=Box.new _ _ _
theorem Za4 (w:World)(c0:Array Value)(t0:TypeId)(c1:Array Value)(t1:TypeId):Box ((w.alloc (.cells c0 t0)).alloc (.cells c1 t1)) w.heap.size c0 t0:=(Box.new w c0 t0).kept (Zab _)
theorem Za3 (w:World)(c0:Array Value)(t0:TypeId)(c1:Array Value)(t1:TypeId):Box ((w.alloc (.cells c0 t0)).alloc (.cells c1 t1)) (w.heap.size+1) c1 t1:=by
 have:=Box.new (w.alloc (.cells c0 t0)) c1 t1
 simpa using this
theorem Zdh (w:World)(c0:Array Value)(t0:TypeId)(c1:Array Value)(t1:TypeId)(c2:Array Value)(t2:TypeId):Box (((w.alloc (.cells c0 t0)).alloc (.cells c1 t1)).alloc (.cells c2 t2)) w.heap.size c0 t0:=(Za4 w c0 t0 c1 t1).kept (Zab _)
theorem Zdg (w:World)(c0:Array Value)(t0:TypeId)(c1:Array Value)(t1:TypeId)(c2:Array Value)(t2:TypeId):Box (((w.alloc (.cells c0 t0)).alloc (.cells c1 t1)).alloc (.cells c2 t2)) (w.heap.size+1) c1 t1:=(Za3 w c0 t0 c1 t1).kept (Zab _)
theorem Zdf (w:World)(c0:Array Value)(t0:TypeId)(c1:Array Value)(t1:TypeId)(c2:Array Value)(t2:TypeId):Box (((w.alloc (.cells c0 t0)).alloc (.cells c1 t1)).alloc (.cells c2 t2)) (w.heap.size+1+1) c2 t2:=by
 have:=Box.new ((w.alloc (.cells c0 t0)).alloc (.cells c1 t1)) c2 t2
 simpa using this
theorem ZbP (a b:Option Addr)(n m c d:Nat)(w:World)(ha:Zao w a n)(hb:Zao w b m):Calls prog 205 #[.slice a n c,.slice b m d] w (GotB w):=by
 obtain⟨us,rfl,hu,-,h1⟩:=ha
 obtain⟨vs,rfl,hv,-,h2⟩:=hb
 have H1:=hid h1
 have H2:=hid h2
 clear h1 h2
 go_enter func205,ntmps205
 by_cases hlen:us.length=vs.length
 · go_wp2_with fail
   go_loopw [5] (fun v wr=>∃ i:Nat,i<=us.length/\v=.int .i64 i/\Below w.heap.size w wr) (fun v _=>us.length - (intOf v).toNat)
   case atStart=>exact⟨0,by omega,rfl,Below.refl _ _⟩
   case round =>
    obtain⟨i,hi,rfl,hB⟩:=hrel
    by_cases hlt:i<us.length
    · obtain⟨x,hx⟩:∃ x,us[i]?=some x:=⟨us[i],List.getElem?_eq_getElem hlt⟩
      obtain⟨y,hy⟩:∃ y,vs[i]?=some y:=⟨vs[i]'(by omega),List.getElem?_eq_getElem (by omega)⟩
      obtain⟨b1,o1,rfl,hr1⟩:=(H1.out.kept hB).some (by omega)
      obtain⟨b2,o2,rfl,hr2⟩:=(H2.out.kept hB).some (by omega)
      obtain⟨c0,c1⟩:=Zbj hr1 hx
      obtain⟨d0,d1⟩:=Zbj hr2 hy
      obtain⟨e,he1,he2⟩:=eqFac x y
      have hg:=fun op a b w=>ZcS 198 (by kernel_rfl) op a b #[.string x.1,.int .i64 x.2] #[.string y.1,.int .i64 y.2] w
      have HB:=hid hB
      clear hr1 hr2 hx hy hB
      cases e
      all_goals
       go_wp2_with fail
       go_quiet (fail)
       go_wp2_with fail
       first
        |(go_ret;exact⟨_,rfl,Zag HB.out _⟩)
        |(go_roundw;(case rel=>exact⟨i+1,by omega,by go_num,Zag HB.out _⟩);(case measure=>simp[intOf];omega))
    · go_wp2_with fail
      go_ret
      exact⟨_,rfl,hB⟩
 · go_wp2_with fail
   go_ret
   exact⟨_,rfl,Below.refl _ _⟩
set_option maxHeartbeats 4000000
theorem ZcL (a_k:Int)(a_o:ByteArray)(a_m:ByteArray)(a_t:ByteArray)(a_vk:Int)(a_vn:Int)(a_vs:ByteArray)(a_ua:Option Addr)(a_un:Nat)(a_uc:Nat)(a_p:Int)(a_wk:Int)(a_wz:Int)(a_xa:Option Addr)(a_xn:Nat)(a_xc:Nat)(b_k:Int)(b_o:ByteArray)(b_m:ByteArray)(b_t:ByteArray)(b_vk:Int)(b_vn:Int)(b_vs:ByteArray)(b_ua:Option Addr)(b_un:Nat)(b_uc:Nat)(b_p:Int)(b_wk:Int)(b_wz:Int)(b_xa:Option Addr)(b_xn:Nat)(b_xc:Nat)(w:World)(ha:Zao w a_ua a_un)(hb:Zao w b_ua b_un):Calls prog 219 #[.agg #[.int .i64 a_k,.string a_o,.string a_m,.string a_t,.int .i64 a_vk,.int .i64 a_vn,.string a_vs,.slice a_ua a_un a_uc,.int .i64 a_p,.int .i64 a_wk,.int .i64 a_wz,.slice a_xa a_xn a_xc],.agg #[.int .i64 b_k,.string b_o,.string b_m,.string b_t,.int .i64 b_vk,.int .i64 b_vn,.string b_vs,.slice b_ua b_un b_uc,.int .i64 b_p,.int .i64 b_wk,.int .i64 b_wz,.slice b_xa b_xn b_xc]] w (GotB w):=by
 have HA:=hid ha
 have HB:=hid hb
 clear ha hb
 go_enter func219,ntmps219
 go_upto_region 1 with fail
 refine Zam (fun V hV=>?_)
 have B0:Hid (Box V w.heap.size #[.int .i64 a_k,.string a_o,.string a_m,.string a_t,.int .i64 a_vk,.int .i64 a_vn,.string a_vs,.slice a_ua a_un a_uc,.int .i64 a_p,.int .i64 a_wk,.int .i64 a_wz,.slice a_xa a_xn a_xc] 42):=by rw[hV];exact Za4 _ _ _ _ _
 have B1:Hid (Box V (w.heap.size+1) #[.int .i64 b_k,.string b_o,.string b_m,.string b_t,.int .i64 b_vk,.int .i64 b_vn,.string b_vs,.slice b_ua b_un b_uc,.int .i64 b_p,.int .i64 b_wk,.int .i64 b_wz,.slice b_xa b_xn b_xc] 42):=by rw[hV];exact Za3 _ _ _ _ _
 have HBV:Hid (Below w.heap.size w V):=by rw[hV];exact(by repeat first|exact ZR _|refine ZA ?_ _)
 clear hV
 have HS:Hid (∀ w',Below V.heap.size V w'->w'.cell? ⟨w.heap.size,0,none⟩=some (.int .i64 a_k)/\w'.cell? ⟨w.heap.size,1,none⟩=some (.string a_o)/\w'.cell? ⟨w.heap.size,2,none⟩=some (.string a_m)/\w'.cell? ⟨w.heap.size,3,none⟩=some (.string a_t)/\w'.cell? ⟨w.heap.size,4,none⟩=some (.int .i64 a_vk)/\w'.cell? ⟨w.heap.size,5,none⟩=some (.int .i64 a_vn)/\w'.cell? ⟨w.heap.size,6,none⟩=some (.string a_vs)/\w'.cell? ⟨w.heap.size,7,none⟩=some (.slice a_ua a_un a_uc)/\w'.cell? ⟨w.heap.size,8,none⟩=some (.int .i64 a_p)/\w'.cell? ⟨w.heap.size,9,none⟩=some (.int .i64 a_wk)/\w'.cell? ⟨w.heap.size,10,none⟩=some (.int .i64 a_wz)/\w'.cell? ⟨w.heap.size,11,none⟩=some (.slice a_xa a_xn a_xc)/\w'.cell? ⟨w.heap.size+1,0,none⟩=some (.int .i64 b_k)/\w'.cell? ⟨w.heap.size+1,1,none⟩=some (.string b_o)/\w'.cell? ⟨w.heap.size+1,2,none⟩=some (.string b_m)/\w'.cell? ⟨w.heap.size+1,3,none⟩=some (.string b_t)/\w'.cell? ⟨w.heap.size+1,4,none⟩=some (.int .i64 b_vk)/\w'.cell? ⟨w.heap.size+1,5,none⟩=some (.int .i64 b_vn)/\w'.cell? ⟨w.heap.size+1,6,none⟩=some (.string b_vs)/\w'.cell? ⟨w.heap.size+1,7,none⟩=some (.slice b_ua b_un b_uc)/\w'.cell? ⟨w.heap.size+1,8,none⟩=some (.int .i64 b_p)/\w'.cell? ⟨w.heap.size+1,9,none⟩=some (.int .i64 b_wk)/\w'.cell? ⟨w.heap.size+1,10,none⟩=some (.int .i64 b_wz)/\w'.cell? ⟨w.heap.size+1,11,none⟩=some (.slice b_xa b_xn b_xc)):=fun w' h=>⟨(B0.out.kept h).cell 0 _ rfl,(B0.out.kept h).cell 1 _ rfl,(B0.out.kept h).cell 2 _ rfl,(B0.out.kept h).cell 3 _ rfl,(B0.out.kept h).cell 4 _ rfl,(B0.out.kept h).cell 5 _ rfl,(B0.out.kept h).cell 6 _ rfl,(B0.out.kept h).cell 7 _ rfl,(B0.out.kept h).cell 8 _ rfl,(B0.out.kept h).cell 9 _ rfl,(B0.out.kept h).cell 10 _ rfl,(B0.out.kept h).cell 11 _ rfl,(B1.out.kept h).cell 0 _ rfl,(B1.out.kept h).cell 1 _ rfl,(B1.out.kept h).cell 2 _ rfl,(B1.out.kept h).cell 3 _ rfl,(B1.out.kept h).cell 4 _ rfl,(B1.out.kept h).cell 5 _ rfl,(B1.out.kept h).cell 6 _ rfl,(B1.out.kept h).cell 7 _ rfl,(B1.out.kept h).cell 8 _ rfl,(B1.out.kept h).cell 9 _ rfl,(B1.out.kept h).cell 10 _ rfl,(B1.out.kept h).cell 11 _ rfl⟩
 obtain⟨k0_0,k0_1,k0_2,k0_3,k0_4,k0_5,k0_6,k0_7,k0_8,k0_9,k0_10,k0_11,k1_0,k1_1,k1_2,k1_3,k1_4,k1_5,k1_6,k1_7,k1_8,k1_9,k1_10,k1_11⟩:=HS.out V (ZR V)
 have HUA:Hid (∀ w',Below V.heap.size V w'->Zao w' a_ua a_un):=fun w' h=>(HA.out.kept HBV.out).kept h
 have HUB:Hid (∀ w',Below V.heap.size V w'->Zao w' b_ua b_un):=fun w' h=>(HB.out.kept HBV.out).kept h
 obtain⟨ev,hv1,hv2⟩:=eqVal (a_vk,a_vn,a_vs) (b_vk,b_vn,b_vs)
 obtain⟨ew,hw1,hw2⟩:=eqWin (a_wk,a_wz) (b_wk,b_wz)
 have hg1:=fun op a b w=>ZcS 37 (by kernel_rfl) op a b #[.int .i64 a_vk,.int .i64 a_vn,.string a_vs] #[.int .i64 b_vk,.int .i64 b_vn,.string b_vs] w
 have hg2:=fun op a b w=>ZcS 39 (by kernel_rfl) op a b #[.int .i64 a_wk,.int .i64 a_wz] #[.int .i64 b_wk,.int .i64 b_wz] w
 go_wp2_with (first|(go_at_call 205;refine(ZbP _ _ _ _ _ _ _ (HUA.out _ (by repeat first|exact ZR _|exact ZH (by assumption)|refine ZA ?_ _|refine ZD ?_)) (HUB.out _ (by repeat first|exact ZR _|exact ZH (by assumption)|refine ZA ?_ _|refine ZD ?_))).mono ?_;rintro e w' ⟨b,rfl,hb⟩;have HW:Hid (Below V.heap.size V w'):=ZT (by repeat first|exact ZR _|exact ZH (by assumption)|refine ZA ?_ _|refine ZD ?_) hb;clear hb;have KK:=HS.out _ HW.out;obtain⟨k0_0,k0_1,k0_2,k0_3,k0_4,k0_5,k0_6,k0_7,k0_8,k0_9,k0_10,k0_11,k1_0,k1_1,k1_2,k1_3,k1_4,k1_5,k1_6,k1_7,k1_8,k1_9,k1_10,k1_11⟩:=KK;cases b)|fail)
 all_goals
  go_ret
  exact⟨_,rfl,ZT HBV.out (by repeat first|exact ZR _|exact ZH (by assumption)|refine ZA ?_ _|refine ZD ?_)⟩
theorem letter_any (c:Int)(w:World):Calls prog 181 #[.int .u8 c] w (GotB w):=by
 go_enter func181,ntmps181
 go_wp2_with fail
 all_goals
  go_ret
  exact⟨_,rfl,ZR _⟩
theorem digit_any (c:Int)(w:World):Calls prog 182 #[.int .u8 c] w (GotB w):=by
 go_enter func182,ntmps182
 go_wp2_with fail
 all_goals
  go_ret
  exact⟨_,rfl,ZR _⟩
theorem inRange_any (n:Int)(w:World):Calls prog 197 #[.int .i64 n] w (GotB w):=by
 go_enter func197,ntmps197
 have HBV:Hid (Below w.heap.size w w):=ZR w
 go_wp2_with fail
 all_goals
  go_ret
  exact⟨_,rfl,ZT HBV.out (by repeat first|exact ZR _|exact ZH (by assumption)|refine ZA ?_ _|refine ZD ?_)⟩
theorem far_any (n:Int)(w:World):Calls prog 210 #[.int .i64 n] w (GotB w):=by
 go_enter func210,ntmps210
 have HBV:Hid (Below w.heap.size w w):=ZR w
 go_wp2_with fail
 all_goals
  go_ret
  exact⟨_,rfl,ZT HBV.out (by repeat first|exact ZR _|exact ZH (by assumption)|refine ZA ?_ _|refine ZD ?_)⟩
theorem Zdo (a_k:Int)(a_ua:Option Addr)(a_un:Nat)(a_uc:Nat)(a_o:ByteArray)(w:World):Calls prog 199 #[.agg #[.int .i64 a_k,.slice a_ua a_un a_uc,.string a_o]] w (GotB w):=by
 go_enter func199,ntmps199
 go_upto_region 1 with fail
 refine Zam (fun V hV=>?_)
 have B0:Hid (Box V w.heap.size #[.int .i64 a_k,.slice a_ua a_un a_uc,.string a_o] 35):=by rw[hV];exact ZaE _ _ _
 have HBV:Hid (Below w.heap.size w V):=by rw[hV];exact(by repeat first|exact ZR _|refine ZA ?_ _)
 clear hV
 have HS:Hid (∀ w',Below V.heap.size V w'->w'.cell? ⟨w.heap.size,0,none⟩=some (.int .i64 a_k)/\w'.cell? ⟨w.heap.size,1,none⟩=some (.slice a_ua a_un a_uc)/\w'.cell? ⟨w.heap.size,2,none⟩=some (.string a_o)):=fun w' h=>⟨(B0.out.kept h).cell 0 _ rfl,(B0.out.kept h).cell 1 _ rfl,(B0.out.kept h).cell 2 _ rfl⟩
 obtain⟨k0_0,k0_1,k0_2⟩:=HS.out V (ZR V)
 go_wp2_with fail
 all_goals
  go_ret
  exact⟨_,rfl,ZT HBV.out (by repeat first|exact ZR _|exact ZH (by assumption)|refine ZA ?_ _|refine ZD ?_)⟩
theorem fields_any (a_k:Int)(a_n:Int)(a_s:ByteArray)(w:World):Calls prog 196 #[.agg #[.int .i64 a_k,.int .i64 a_n,.string a_s]] w (GotB w):=by
 go_enter func196,ntmps196
 go_upto_region 1 with fail
 refine Zam (fun V hV=>?_)
 have B0:Hid (Box V w.heap.size #[.int .i64 a_k,.int .i64 a_n,.string a_s] 37):=by rw[hV];exact ZaE _ _ _
 have HBV:Hid (Below w.heap.size w V):=by rw[hV];exact(by repeat first|exact ZR _|refine ZA ?_ _)
 clear hV
 have HS:Hid (∀ w',Below V.heap.size V w'->w'.cell? ⟨w.heap.size,0,none⟩=some (.int .i64 a_k)/\w'.cell? ⟨w.heap.size,1,none⟩=some (.int .i64 a_n)/\w'.cell? ⟨w.heap.size,2,none⟩=some (.string a_s)):=fun w' h=>⟨(B0.out.kept h).cell 0 _ rfl,(B0.out.kept h).cell 1 _ rfl,(B0.out.kept h).cell 2 _ rfl⟩
 obtain⟨k0_0,k0_1,k0_2⟩:=HS.out V (ZR V)
 go_wp2_with fail
 all_goals
  go_ret
  exact⟨_,rfl,ZT HBV.out (by repeat first|exact ZR _|exact ZH (by assumption)|refine ZA ?_ _|refine ZD ?_)⟩
def StrsAt (w:World)(a:Option Addr)(n:Nat):Prop:=∃ l:List ByteArray,n=l.length/\l.length<=140737488355328/\Zaf (fun s:ByteArray=>[Value.string s]) 1 w a l
theorem StrsAt.kept {w w':World}{a:Option Addr}{n:Nat}(h:StrsAt w a n)(hb:Below w.heap.size w w'):StrsAt w' a n:=let ⟨us,h1,h2,h3⟩:=h;⟨us,h1,h2,h3.kept hb⟩
theorem Zbt {w:World}{b off:Nat}{l:List ByteArray}(h:Lies (fun s:ByteArray=>[Value.string s]) 1 w b off l){i:Nat}{v:ByteArray}(hv:l[i]?=some v):w.cell? ⟨b,off+i,none⟩=some (.string v):=by
 have:=h i v hv 0 _ rfl
 simpa using this
theorem Zfo (s:ByteArray)(a:Option Addr)(n c:Nat)(w:World)(h:StrsAt w a n):Calls prog 222 #[.string s,.slice a n c] w (GotB w):=by
 obtain⟨l,rfl,hl,h1⟩:=h
 have H1:=hid h1
 clear h1
 go_enter func222,ntmps222
 go_wp2_with fail
 go_loopw [5] (fun v wr=>∃ i:Nat,i<=l.length/\v=.int .i64 i/\Below w.heap.size w wr) (fun v _=>l.length - (intOf v).toNat)
 case atStart=>exact⟨0,by omega,rfl,Below.refl _ _⟩
 case round =>
  obtain⟨i,hi,rfl,hB⟩:=hrel
  by_cases hlt:i<l.length
  · obtain⟨x,hx⟩:∃ x,l[i]?=some x:=⟨l[i],List.getElem?_eq_getElem hlt⟩
    obtain⟨b1,o1,rfl,hr1⟩:=(H1.out.kept hB).some (by omega)
    have c0:=Zbt hr1 hx
    have HB:=hid hB
    clear hr1 hx hB
    go_wp2_with fail
    all_goals first
     |(go_ret;exact⟨_,rfl,HB.out⟩)
     |(go_roundw;(case rel=>exact⟨i+1,by omega,by go_num,HB.out⟩);(case measure=>simp[intOf];omega))
  · go_wp2_with fail
    go_ret
    exact⟨_,rfl,hB⟩
theorem Zd5 (s:ByteArray)(lo:Int)(hs:s.size<=140737488355328)(w:World):Calls prog 179 #[.string s,.int .u8 lo] w (GotB w):=by
 go_enter func179,ntmps179
 go_wp2_with fail
 go_loop [5] (fun v=>∃ i:Nat,i<=s.size/\v=.int .i64 i) (fun v=>s.size - (intOf v).toNat)
 case atStart=>exact⟨0,by omega,rfl⟩
 case round =>
  obtain⟨i,hi,rfl⟩:=hrel
  by_cases hlt:i<s.size
  · go_wp2_with fail
    all_goals first
     |(go_ret;exact⟨_,rfl,ZR _⟩)
     |(go_round;(case rel=>exact⟨i+1,by omega,by go_num⟩);(case measure=>simp[intOf];omega))
  · go_wp2_with fail
    go_ret
    exact⟨_,rfl,ZR _⟩
def ZfF (w:World)(a:Option Addr)(n:Nat):Prop:=∃ b o,a=some ⟨b,o,none⟩/\∀ i,i<n->∃ x:Int,w.cell? ⟨b,o+i,none⟩=some (.int .u8 x)
theorem ZfF.kept {w w':World}{a:Option Addr}{n:Nat}(h:ZfF w a n)(hb:Below w.heap.size w w'):ZfF w' a n:=let ⟨b,o,h1,h2⟩:=h;⟨b,o,h1,fun i hi=>let ⟨x,hx⟩:=h2 i hi;⟨x,Zaa hx hb⟩⟩
theorem asword_any (a:Option Addr)(n c:Nat)(w:World)(h:ZfF w a n)(h0:0<n)(hn:n<=140737488355328):Calls prog 161 #[.slice a n c,.int .i64 0] w (GotI w):=by
 obtain⟨b,o,rfl,hb⟩:=h
 have H:=hid hb
 obtain⟨x0,hx0⟩:=hb 0 h0
 have HC:Hid (∀ w',Below w.heap.size w w'->w'.cell? ⟨b,o+0,none⟩=some (.int .u8 x0)):=fun w' hw=>Zaa hx0 hw
 have k0:=HC.out _ (ZR w)
 simp only[Nat.add_zero]at k0
 clear hb hx0
 go_enter func161,ntmps161
 go_wp2_with (first|(go_at_call 181;refine(letter_any _ _).mono ?_;rintro e w' ⟨b,rfl,hb⟩;have HW:Hid (Below w.heap.size w w'):=ZT (by repeat first|exact ZR _|exact ZH (by assumption)|refine ZA ?_ _|refine ZD ?_) hb;clear hb;have KK:=HC.out _ HW.out;cases b)|fail)
 all_goals first
  |(go_ret;exact⟨_,rfl,(by repeat first|exact ZR _|exact ZH (by assumption)|refine ZA ?_ _|refine ZD ?_)⟩)
  |skip
 have HB0:Hid (Below w.heap.size w w'):=HW
 clear HC k0 KK
 go_loopw [5] (fun v wr=>∃ i:Nat,1<=i/\i<=n/\v=.int .i64 i/\Hid (Below w.heap.size w wr)) (fun v _=>n - (intOf v).toNat)
 case atStart=>exact⟨1,by omega,by omega,rfl,HB0⟩
 case round =>
  obtain⟨i,hi0,hi,rfl,hB⟩:=hrel
  by_cases hlt:i<n
  · obtain⟨x,hx⟩:=H.out i hlt
    have HC:Hid (∀ w',Below w.heap.size w w'->w'.cell? ⟨b,o+i,none⟩=some (.int .u8 x)):=fun w' hw=>Zaa hx hw
    have KK:=HC.out _ hB.out
    clear hx
    go_wp2_with (first|(go_at_call 181;refine(letter_any _ _).mono ?_;rintro e w' ⟨b,rfl,hb⟩;have HW:Hid (Below w.heap.size w w'):=ZT (by repeat first|exact ZR _|exact ZH (by assumption)|refine ZA ?_ _|refine ZD ?_) hb;clear hb;have KK:=HC.out _ HW.out;cases b)|(go_at_call 182;refine(digit_any _ _).mono ?_;rintro e w' ⟨b,rfl,hb⟩;have HW:Hid (Below w.heap.size w w'):=ZT (by repeat first|exact ZR _|exact ZH (by assumption)|refine ZA ?_ _|refine ZD ?_) hb;clear hb;have KK:=HC.out _ HW.out;cases b)|fail)
    all_goals first
     |(go_ret;exact⟨_,rfl,(by repeat first|exact ZR _|exact ZH (by assumption)|refine ZA ?_ _|refine ZD ?_)⟩)
     |(go_roundw;(case rel=>exact⟨i+1,by omega,by omega,by go_num,(by repeat first|exact ZR _|exact ZH (by assumption)|refine ZA ?_ _|refine ZD ?_)⟩);(case measure=>simp[intOf];omega))
  · go_wp2_with fail
    go_ret
    exact⟨_,rfl,hB.out⟩
theorem keyword_any (s:ByteArray)(w:World):Calls prog 162 #[.string s] w (GotB w):=by
 go_enter func162,ntmps162
 go_wp2_with fail
 all_goals
  go_ret
  exact⟨_,rfl,ZR _⟩
theorem Zco (w:World)(e:TypeId)(s:ByteArray):Below w.heap.size w (Lib.bytesWorld w e s):=Joins.below_bytesWorld _ w e s (Nat.le_refl _)
theorem bytes_at (w:World)(e:TypeId)(s:ByteArray):ZfF (Lib.bytesWorld w e s) (some ⟨w.heap.size,0,none⟩) s.size:=⟨_,_,rfl,fun i hi=>⟨_,by rw[Nat.zero_add];exact Lib.bytesWorld_cell w e s i hi⟩⟩
theorem ZbF (s:ByteArray)(w:World):Calls prog 140 #[.string s] w (GotB w):=by
 have hcv:=Lib.run_convert_string_bytes (P:=prog) w 9 142 5 s (u:=.string) underlying9 underlying142 underlying5
 go_enter func140,ntmps140
 by_cases he:s=⟨#[]⟩
 · subst he
   go_wp2_with fail
   all_goals
    go_ret
    exact⟨_,rfl,ZR _⟩
 · have h0:0<s.size:=by
     rcases Nat.eq_zero_or_pos s.size with h|h
     · exact absurd (Zcd (by rw[ByteArray.toList_eq,ByteArray.toList_eq];exact List.eq_nil_of_length_eq_zero (by rw[Array.length_toList];exact h))) he
     · exact h
   by_cases h24:s.size<=24
   · have h47:s.size<=140737488355328:=by omega
     go_wp2_with (first|(go_at_call 161;refine(asword_any _ _ _ _ (bytes_at _ _ _) h0 h47).mono ?_;rintro e w' ⟨n,rfl,hb⟩;have HW:Hid (Below w.heap.size w w'):=ZT (by repeat(first|exact ZR _|exact ZH (by assumption)|refine ZA ?_ _|refine ZD ?_|exact Zco _ _ _)) hb;clear hb)|(go_at_call 162;refine(keyword_any _ _).mono ?_;rintro e w' ⟨b,rfl,hb⟩;have HW:Hid (Below w.heap.size w w'):=ZT (by repeat(first|exact ZR _|exact ZH (by assumption)|refine ZA ?_ _|refine ZD ?_|exact Zco _ _ _)) hb;clear hb;cases b)|fail)
     all_goals
      go_ret
      exact⟨_,rfl,(by repeat(first|exact ZR _|exact ZH (by assumption)|refine ZA ?_ _|refine ZD ?_|exact Zco _ _ _))⟩
   · go_wp2_with fail
     all_goals
      go_ret
      exact⟨_,rfl,ZR _⟩
theorem key5_any (s:ByteArray)(w:World)(hs:s.size<=140737488355328):Calls prog 159 #[.string s] w (GotB w):=by
 go_enter func159,ntmps159
 have HBV:Hid (Below w.heap.size w w):=ZR w
 go_wp2_with (first|(go_at_call 179;refine(Zd5 _ _ hs _).mono ?_;rintro e w' ⟨b,rfl,hb⟩;have HW:Hid (Below w.heap.size w w'):=ZT (by repeat first|exact ZR _|exact ZH (by assumption)|refine ZA ?_ _|refine ZD ?_) hb;clear hb;cases b)|fail)
 all_goals
  go_ret
  exact⟨_,rfl,ZT HBV.out (by repeat first|exact ZR _|exact ZH (by assumption)|refine ZA ?_ _|refine ZD ?_)⟩
theorem text5_any (s:ByteArray)(w:World)(hs:s.size<=140737488355328):Calls prog 198 #[.string s] w (GotB w):=by
 go_enter func198,ntmps198
 have HBV:Hid (Below w.heap.size w w):=ZR w
 go_wp2_with (first|(go_at_call 179;refine(Zd5 _ _ hs _).mono ?_;rintro e w' ⟨b,rfl,hb⟩;have HW:Hid (Below w.heap.size w w'):=ZT (by repeat first|exact ZR _|exact ZH (by assumption)|refine ZA ?_ _|refine ZD ?_) hb;clear hb;cases b)|fail)
 all_goals
  go_ret
  exact⟨_,rfl,ZT HBV.out (by repeat first|exact ZR _|exact ZH (by assumption)|refine ZA ?_ _|refine ZD ?_)⟩
theorem vcheck_any (v_k:Int)(v_n:Int)(v_s:ByteArray)(w:World)(hs:v_s.size<=140737488355328):Calls prog 180 #[.agg #[.int .i64 v_k,.int .i64 v_n,.string v_s]] w (GotI w):=by
 go_enter func180,ntmps180
 go_upto_region 1 with fail
 refine Zam (fun V hV=>?_)
 have B0:Hid (Box V w.heap.size #[.int .i64 v_k,.int .i64 v_n,.string v_s] 37):=by rw[hV];exact ZaE _ _ _
 have HBV:Hid (Below w.heap.size w V):=by rw[hV];exact(by repeat first|exact ZR _|refine ZA ?_ _)
 clear hV
 have HS:Hid (∀ w',Below V.heap.size V w'->w'.cell? ⟨w.heap.size,0,none⟩=some (.int .i64 v_k)/\w'.cell? ⟨w.heap.size,1,none⟩=some (.int .i64 v_n)/\w'.cell? ⟨w.heap.size,2,none⟩=some (.string v_s)):=fun w' h=>⟨(B0.out.kept h).cell 0 _ rfl,(B0.out.kept h).cell 1 _ rfl,(B0.out.kept h).cell 2 _ rfl⟩
 obtain⟨k0_0,k0_1,k0_2⟩:=HS.out V (ZR V)
 go_wp2_with (first|(go_at_call 196;refine(fields_any _ _ _ _).mono ?_;rintro e w' ⟨b,rfl,hb⟩;have HW:Hid (Below V.heap.size V w'):=ZT (by repeat first|exact ZR _|exact ZH (by assumption)|refine ZA ?_ _|refine ZD ?_) hb;clear hb;have KK:=HS.out _ HW.out;obtain⟨k0_0,k0_1,k0_2⟩:=KK;cases b)|(go_at_call 197;refine(inRange_any _ _).mono ?_;rintro e w' ⟨b,rfl,hb⟩;have HW:Hid (Below V.heap.size V w'):=ZT (by repeat first|exact ZR _|exact ZH (by assumption)|refine ZA ?_ _|refine ZD ?_) hb;clear hb;have KK:=HS.out _ HW.out;obtain⟨k0_0,k0_1,k0_2⟩:=KK;cases b)|(go_at_call 198;refine(text5_any _ _ hs).mono ?_;rintro e w' ⟨b,rfl,hb⟩;have HW:Hid (Below V.heap.size V w'):=ZT (by repeat first|exact ZR _|exact ZH (by assumption)|refine ZA ?_ _|refine ZD ?_) hb;clear hb;have KK:=HS.out _ HW.out;obtain⟨k0_0,k0_1,k0_2⟩:=KK;cases b)|(go_at_call 159;refine(key5_any _ _ hs).mono ?_;rintro e w' ⟨b,rfl,hb⟩;have HW:Hid (Below V.heap.size V w'):=ZT (by repeat first|exact ZR _|exact ZH (by assumption)|refine ZA ?_ _|refine ZD ?_) hb;clear hb;have KK:=HS.out _ HW.out;obtain⟨k0_0,k0_1,k0_2⟩:=KK;cases b)|fail)
 all_goals
  go_ret
  exact⟨_,rfl,ZT HBV.out (by repeat first|exact ZR _|exact ZH (by assumption)|refine ZA ?_ _|refine ZD ?_)⟩
theorem valid_any (v_k:Int)(v_n:Int)(v_s:ByteArray)(w:World)(hs:v_s.size<=140737488355328):Calls prog 160 #[.agg #[.int .i64 v_k,.int .i64 v_n,.string v_s]] w (GotB w):=by
 go_enter func160,ntmps160
 go_upto_region 1 with fail
 refine Zam (fun V hV=>?_)
 have B0:Hid (Box V w.heap.size #[.int .i64 v_k,.int .i64 v_n,.string v_s] 37):=by rw[hV];exact ZaE _ _ _
 have HBV:Hid (Below w.heap.size w V):=by rw[hV];exact(by repeat first|exact ZR _|refine ZA ?_ _)
 clear hV
 have HS:Hid (∀ w',Below V.heap.size V w'->w'.cell? ⟨w.heap.size,0,none⟩=some (.int .i64 v_k)/\w'.cell? ⟨w.heap.size,1,none⟩=some (.int .i64 v_n)/\w'.cell? ⟨w.heap.size,2,none⟩=some (.string v_s)):=fun w' h=>⟨(B0.out.kept h).cell 0 _ rfl,(B0.out.kept h).cell 1 _ rfl,(B0.out.kept h).cell 2 _ rfl⟩
 obtain⟨k0_0,k0_1,k0_2⟩:=HS.out V (ZR V)
 go_wp2_with (first|(go_at_call 180;refine(vcheck_any _ _ _ _ hs).mono ?_;rintro e w' ⟨n,rfl,hb⟩;have HW:Hid (Below V.heap.size V w'):=ZT (by repeat first|exact ZR _|exact ZH (by assumption)|refine ZA ?_ _|refine ZD ?_) hb;clear hb;have KK:=HS.out _ HW.out;obtain⟨k0_0,k0_1,k0_2⟩:=KK)|fail)
 all_goals
  go_ret
  exact⟨_,rfl,ZT HBV.out (by repeat first|exact ZR _|exact ZH (by assumption)|refine ZA ?_ _|refine ZD ?_)⟩
theorem has_any (v_k:Int)(v_n:Int)(v_s:ByteArray)(t_k:Int)(t_ua:Option Addr)(t_un:Nat)(t_uc:Nat)(t_o:ByteArray)(w:World)(hs:v_s.size<=140737488355328):Calls prog 139 #[.agg #[.int .i64 v_k,.int .i64 v_n,.string v_s],.agg #[.int .i64 t_k,.slice t_ua t_un t_uc,.string t_o]] w (GotB w):=by
 go_enter func139,ntmps139
 go_upto_region 1 with fail
 refine Zam (fun V hV=>?_)
 have B0:Hid (Box V w.heap.size #[.int .i64 v_k,.int .i64 v_n,.string v_s] 37):=by rw[hV];exact Za4 _ _ _ _ _
 have B1:Hid (Box V (w.heap.size+1) #[.int .i64 t_k,.slice t_ua t_un t_uc,.string t_o] 35):=by rw[hV];exact Za3 _ _ _ _ _
 have HBV:Hid (Below w.heap.size w V):=by rw[hV];exact(by repeat first|exact ZR _|refine ZA ?_ _)
 clear hV
 have HS:Hid (∀ w',Below V.heap.size V w'->w'.cell? ⟨w.heap.size,0,none⟩=some (.int .i64 v_k)/\w'.cell? ⟨w.heap.size,1,none⟩=some (.int .i64 v_n)/\w'.cell? ⟨w.heap.size,2,none⟩=some (.string v_s)/\w'.cell? ⟨w.heap.size+1,0,none⟩=some (.int .i64 t_k)/\w'.cell? ⟨w.heap.size+1,1,none⟩=some (.slice t_ua t_un t_uc)/\w'.cell? ⟨w.heap.size+1,2,none⟩=some (.string t_o)):=fun w' h=>⟨(B0.out.kept h).cell 0 _ rfl,(B0.out.kept h).cell 1 _ rfl,(B0.out.kept h).cell 2 _ rfl,(B1.out.kept h).cell 0 _ rfl,(B1.out.kept h).cell 1 _ rfl,(B1.out.kept h).cell 2 _ rfl⟩
 obtain⟨k0_0,k0_1,k0_2,k1_0,k1_1,k1_2⟩:=HS.out V (ZR V)
 go_wp2_with (first|(go_at_call 160;refine(valid_any _ _ _ _ hs).mono ?_;rintro e w' ⟨b,rfl,hb⟩;have HW:Hid (Below V.heap.size V w'):=ZT (by repeat first|exact ZR _|exact ZH (by assumption)|refine ZA ?_ _|refine ZD ?_) hb;clear hb;have KK:=HS.out _ HW.out;obtain⟨k0_0,k0_1,k0_2,k1_0,k1_1,k1_2⟩:=KK;cases b)|fail)
 all_goals
  go_ret
  exact⟨_,rfl,ZT HBV.out (by repeat first|exact ZR _|exact ZH (by assumption)|refine ZA ?_ _|refine ZD ?_)⟩
theorem Zcj (a_k:Int)(a_ua:Option Addr)(a_un:Nat)(a_uc:Nat)(a_o:ByteArray)(b_k:Int)(b_ua:Option Addr)(b_un:Nat)(b_uc:Nat)(b_o:ByteArray)(w:World)(ha:Zao w a_ua a_un)(hb:Zao w b_ua b_un):Calls prog 231 #[.agg #[.int .i64 a_k,.slice a_ua a_un a_uc,.string a_o],.agg #[.int .i64 b_k,.slice b_ua b_un b_uc,.string b_o]] w (GotB w):=by
 have HA:=hid ha
 have HB:=hid hb
 clear ha hb
 go_enter func231,ntmps231
 go_upto_region 1 with fail
 refine Zam (fun V hV=>?_)
 have B0:Hid (Box V w.heap.size #[.int .i64 a_k,.slice a_ua a_un a_uc,.string a_o] 35):=by rw[hV];exact Za4 _ _ _ _ _
 have B1:Hid (Box V (w.heap.size+1) #[.int .i64 b_k,.slice b_ua b_un b_uc,.string b_o] 35):=by rw[hV];exact Za3 _ _ _ _ _
 have HBV:Hid (Below w.heap.size w V):=by rw[hV];exact(by repeat first|exact ZR _|refine ZA ?_ _)
 clear hV
 have HS:Hid (∀ w',Below V.heap.size V w'->w'.cell? ⟨w.heap.size,0,none⟩=some (.int .i64 a_k)/\w'.cell? ⟨w.heap.size,1,none⟩=some (.slice a_ua a_un a_uc)/\w'.cell? ⟨w.heap.size,2,none⟩=some (.string a_o)/\w'.cell? ⟨w.heap.size+1,0,none⟩=some (.int .i64 b_k)/\w'.cell? ⟨w.heap.size+1,1,none⟩=some (.slice b_ua b_un b_uc)/\w'.cell? ⟨w.heap.size+1,2,none⟩=some (.string b_o)):=fun w' h=>⟨(B0.out.kept h).cell 0 _ rfl,(B0.out.kept h).cell 1 _ rfl,(B0.out.kept h).cell 2 _ rfl,(B1.out.kept h).cell 0 _ rfl,(B1.out.kept h).cell 1 _ rfl,(B1.out.kept h).cell 2 _ rfl⟩
 obtain⟨k0_0,k0_1,k0_2,k1_0,k1_1,k1_2⟩:=HS.out V (ZR V)
 have HUA:Hid (∀ w',Below V.heap.size V w'->Zao w' a_ua a_un):=fun w' h=>(HA.out.kept HBV.out).kept h
 have HUB:Hid (∀ w',Below V.heap.size V w'->Zao w' b_ua b_un):=fun w' h=>(HB.out.kept HBV.out).kept h
 go_wp2_with (first|(go_at_call 205;refine(ZbP _ _ _ _ _ _ _ (HUA.out _ (by repeat first|exact ZR _|exact ZH (by assumption)|refine ZA ?_ _|refine ZD ?_)) (HUB.out _ (by repeat first|exact ZR _|exact ZH (by assumption)|refine ZA ?_ _|refine ZD ?_))).mono ?_;rintro e w' ⟨b,rfl,hb⟩;have HW:Hid (Below V.heap.size V w'):=ZT (by repeat first|exact ZR _|exact ZH (by assumption)|refine ZA ?_ _|refine ZD ?_) hb;clear hb;have KK:=HS.out _ HW.out;obtain⟨k0_0,k0_1,k0_2,k1_0,k1_1,k1_2⟩:=KK;cases b)|fail)
 all_goals
  go_ret
  exact⟨_,rfl,ZT HBV.out (by repeat first|exact ZR _|exact ZH (by assumption)|refine ZA ?_ _|refine ZD ?_)⟩
theorem both_any (a_k:Int)(a_ua:Option Addr)(a_un:Nat)(a_uc:Nat)(a_o:ByteArray)(b_k:Int)(b_ua:Option Addr)(b_un:Nat)(b_uc:Nat)(b_o:ByteArray)(w:World)(ha:Zao w a_ua a_un)(hb:Zao w b_ua b_un):Calls prog 192 #[.agg #[.int .i64 a_k,.slice a_ua a_un a_uc,.string a_o],.agg #[.int .i64 b_k,.slice b_ua b_un b_uc,.string b_o]] w (GotI w):=by
 have HA:=hid ha
 have HB:=hid hb
 clear ha hb
 go_enter func192,ntmps192
 go_upto_region 1 with fail
 refine Zam (fun V hV=>?_)
 have B0:Hid (Box V w.heap.size #[.int .i64 a_k,.slice a_ua a_un a_uc,.string a_o] 35):=by rw[hV];exact Za4 _ _ _ _ _
 have B1:Hid (Box V (w.heap.size+1) #[.int .i64 b_k,.slice b_ua b_un b_uc,.string b_o] 35):=by rw[hV];exact Za3 _ _ _ _ _
 have HBV:Hid (Below w.heap.size w V):=by rw[hV];exact(by repeat first|exact ZR _|refine ZA ?_ _)
 clear hV
 have HS:Hid (∀ w',Below V.heap.size V w'->w'.cell? ⟨w.heap.size,0,none⟩=some (.int .i64 a_k)/\w'.cell? ⟨w.heap.size,1,none⟩=some (.slice a_ua a_un a_uc)/\w'.cell? ⟨w.heap.size,2,none⟩=some (.string a_o)/\w'.cell? ⟨w.heap.size+1,0,none⟩=some (.int .i64 b_k)/\w'.cell? ⟨w.heap.size+1,1,none⟩=some (.slice b_ua b_un b_uc)/\w'.cell? ⟨w.heap.size+1,2,none⟩=some (.string b_o)):=fun w' h=>⟨(B0.out.kept h).cell 0 _ rfl,(B0.out.kept h).cell 1 _ rfl,(B0.out.kept h).cell 2 _ rfl,(B1.out.kept h).cell 0 _ rfl,(B1.out.kept h).cell 1 _ rfl,(B1.out.kept h).cell 2 _ rfl⟩
 obtain⟨k0_0,k0_1,k0_2,k1_0,k1_1,k1_2⟩:=HS.out V (ZR V)
 have HUA:Hid (∀ w',Below V.heap.size V w'->Zao w' a_ua a_un):=fun w' h=>(HA.out.kept HBV.out).kept h
 have HUB:Hid (∀ w',Below V.heap.size V w'->Zao w' b_ua b_un):=fun w' h=>(HB.out.kept HBV.out).kept h
 go_wp2_with (first|(go_at_call 205;refine(ZbP _ _ _ _ _ _ _ (HUA.out _ (by repeat first|exact ZR _|exact ZH (by assumption)|refine ZA ?_ _|refine ZD ?_)) (HUB.out _ (by repeat first|exact ZR _|exact ZH (by assumption)|refine ZA ?_ _|refine ZD ?_))).mono ?_;rintro e w' ⟨b,rfl,hb⟩;have HW:Hid (Below V.heap.size V w'):=ZT (by repeat first|exact ZR _|exact ZH (by assumption)|refine ZA ?_ _|refine ZD ?_) hb;clear hb;have KK:=HS.out _ HW.out;obtain⟨k0_0,k0_1,k0_2,k1_0,k1_1,k1_2⟩:=KK;cases b)|fail)
 all_goals
  go_ret
  exact⟨_,rfl,ZT HBV.out (by repeat first|exact ZR _|exact ZH (by assumption)|refine ZA ?_ _|refine ZD ?_)⟩
theorem key15_any (s:ByteArray)(hs:s.size<=140737488355328)(w:World):Calls prog 141 #[.string s] w (GotB w):=by
 go_enter func141,ntmps141
 go_wp2_with fail
 go_loop [3] (fun v=>∃ i:Nat,i<=s.size/\v=.int .i64 i) (fun v=>s.size - (intOf v).toNat)
 case atStart=>exact⟨0,by omega,rfl⟩
 case round =>
  obtain⟨i,hi,rfl⟩:=hrel
  by_cases hlt:i<s.size
  · go_wp2_with fail
    all_goals first
     |(go_ret;exact⟨_,rfl,ZR _⟩)
     |(go_round;(case rel=>exact⟨i+1,by omega,by go_num⟩);(case measure=>simp[intOf];omega))
  · go_wp2_with fail
    all_goals
     go_ret
     exact⟨_,rfl,ZR _⟩
theorem Ze2 (s:ByteArray)(hs:s.size<=140737488355328)(w:World):Calls prog 209 #[.string s] w (GotB w):=by
 go_enter func209,ntmps209
 by_cases h1:1<=s.size
 · go_wp2_with fail
   all_goals first
    |(go_ret;exact⟨_,rfl,ZR _⟩)
    |skip
   go_loop [3] (fun v=>∃ i:Nat,i<=s.size/\v=.int .i64 i) (fun v=>s.size - (intOf v).toNat)
   case atStart=>exact⟨0,by omega,rfl⟩
   case round =>
    obtain⟨i,hi,rfl⟩:=hrel
    by_cases hlt:i<s.size
    · go_wp2_with fail
      all_goals first
       |(go_ret;exact⟨_,rfl,ZR _⟩)
       |(go_round;(case rel=>exact⟨i+1,by omega,by go_num⟩);(case measure=>simp[intOf];omega))
    · go_wp2_with fail
      go_ret
      exact⟨_,rfl,ZR _⟩
 · go_wp2_with fail
   all_goals
    go_ret
    exact⟨_,rfl,ZR _⟩
theorem Zcs (a:Option Addr)(n c:Nat)(w:World)(h:Zao w a n):Calls prog 200 #[.slice a n c] w (GotN (fun r=>r=0->n<=4) w):=by
 obtain⟨us,rfl,hu,hs,h1⟩:=h
 have H:=hid h1
 have HS:=hid hs
 clear h1 hs
 go_enter func200,ntmps200
 by_cases h4:us.length<=4
 · have HQ:∀ r:Int,r=0->us.length<=4:=fun _ _=>h4
   go_wp2_with fail
   go_loopw [3] (fun v wr=>∃ i:Nat,i<=us.length/\v=.int .i64 i/\Hid (Below w.heap.size w wr)) (fun v _=>us.length - (intOf v).toNat)
   case atStart=>exact⟨0,by omega,rfl,ZR w⟩
   case round =>
    obtain⟨i,hi,rfl,hB⟩:=hrel
    by_cases hlt:i<us.length
    · obtain⟨x,hx⟩:∃ x,us[i]?=some x:=⟨us[i],List.getElem?_eq_getElem hlt⟩
      obtain⟨b1,o1,rfl,hr1⟩:=H.out.some (by omega)
      obtain⟨c0,c1⟩:=Zbj hr1 hx
      have hxs:=(HS.out x (List.mem_of_getElem? hx)).1
      cases i with
      |zero =>
       simp only[Nat.zero_mul,Nat.add_zero]at c0 c1
       have HC:Hid (∀ w',Below w.heap.size w w'->w'.cell? ⟨b1,o1,none⟩=some (.string x.1)/\w'.cell? ⟨b1,o1+1,none⟩=some (.int .i64 x.2)):=fun w' hw=>⟨Zaa c0 hw,Zaa c1 hw⟩
       clear c0 c1
       obtain⟨c0,c1⟩:=HC.out _ hB.out
       clear hr1 hx
       go_wp2_with (first|(go_at_call 209;refine(Ze2 _ hxs _).mono ?_;rintro e w' ⟨b,rfl,hb⟩;have HW:Hid (Below w.heap.size w w'):=ZT (by repeat first|exact ZR _|exact ZH (by assumption)|refine ZA ?_ _|refine ZD ?_) hb;clear hb;have KK:=HC.out _ HW.out;obtain⟨c0,c1⟩:=KK;cases b)|(go_at_call 210;refine(far_any _ _).mono ?_;rintro e w' ⟨b,rfl,hb⟩;have HW:Hid (Below w.heap.size w w'):=ZT (by repeat first|exact ZR _|exact ZH (by assumption)|refine ZA ?_ _|refine ZD ?_) hb;clear hb;have KK:=HC.out _ HW.out;obtain⟨c0,c1⟩:=KK;cases b)|fail)
       all_goals first
        |(go_ret;exact⟨_,rfl,HQ _,(by repeat first|exact ZR _|exact ZH (by assumption)|refine ZA ?_ _|refine ZD ?_)⟩)
        |skip
       all_goals
        go_quiet (fail)
        go_wp2_with fail
        go_roundw
        case rel=>exact⟨1,by omega,by go_num,Zag (by repeat first|exact ZR _|exact ZH (by assumption)|refine ZA ?_ _|refine ZD ?_) _⟩
        case measure=>simp[intOf];omega
      |succ j =>
       have HC:Hid (∀ w',Below w.heap.size w w'->w'.cell? ⟨b1,o1+(j+1)*2,none⟩=some (.string x.1)/\w'.cell? ⟨b1,o1+(j+1)*2+1,none⟩=some (.int .i64 x.2)):=fun w' hw=>⟨Zaa c0 hw,Zaa c1 hw⟩
       clear c0 c1
       obtain⟨c0,c1⟩:=HC.out _ hB.out
       obtain⟨y,hy⟩:∃ y,us[j]?=some y:=⟨us[j],List.getElem?_eq_getElem (by omega)⟩
       obtain⟨d0,d1⟩:=Zbj hr1 hy
       have HD:Hid (∀ w',Below w.heap.size w w'->w'.cell? ⟨b1,o1+j*2,none⟩=some (.string y.1)):=fun w' hw=>Zaa d0 hw
       have hw1:IntKind.i64.wrap (((j+1:Nat):Int) - 1)=(j:Int):=by rw[show((j+1:Nat):Int) - 1=(j:Int) by omega];exact IntWalk.i64_in _ (by omega)
       clear hr1 hx hy d0 d1
       go_wp2_with (first|(go_at_call 209;refine(Ze2 _ hxs _).mono ?_;rintro e w' ⟨b,rfl,hb⟩;have HW:Hid (Below w.heap.size w w'):=ZT (by repeat first|exact ZR _|exact ZH (by assumption)|refine ZA ?_ _|refine ZD ?_) hb;clear hb;have KK:=HC.out _ HW.out;obtain⟨c0,c1⟩:=KK;cases b)|(go_at_call 210;refine(far_any _ _).mono ?_;rintro e w' ⟨b,rfl,hb⟩;have HW:Hid (Below w.heap.size w w'):=ZT (by repeat first|exact ZR _|exact ZH (by assumption)|refine ZA ?_ _|refine ZD ?_) hb;clear hb;have KK:=HC.out _ HW.out;obtain⟨c0,c1⟩:=KK;cases b)|fail)
       all_goals first
        |(go_ret;exact⟨_,rfl,HQ _,(by repeat first|exact ZR _|exact ZH (by assumption)|refine ZA ?_ _|refine ZD ?_)⟩)
        |skip
       all_goals
        have d0:=HD.out _ HW.out
        go_quiet (fail)
        go_wp2_with fail
        all_goals first
         |(go_ret;exact⟨_,rfl,HQ _,Zag (by repeat first|exact ZR _|exact ZH (by assumption)|refine ZA ?_ _|refine ZD ?_) _⟩)
         |(go_roundw;(case rel=>exact⟨j+1+1,by omega,by go_num,Zag (by repeat first|exact ZR _|exact ZH (by assumption)|refine ZA ?_ _|refine ZD ?_) _⟩);(case measure=>simp[intOf];omega))
    · go_wp2_with fail
      go_ret
      exact⟨_,rfl,HQ _,hB.out⟩
 · go_wp2_with fail
   go_ret
   exact⟨_,rfl,fun e=>(by cases e),ZR w⟩
theorem Za6 (n:Int):n=0∨n≠0:=by omega
theorem ZeK (t_k:Int)(t_ua:Option Addr)(t_un:Nat)(t_uc:Nat)(t_o:ByteArray)(w:World)(h:Zao w t_ua t_un):Calls prog 189 #[.agg #[.int .i64 t_k,.slice t_ua t_un t_uc,.string t_o]] w (GotI w):=by
 have H:=hid h
 obtain⟨us,rfl,hu,hs,h1⟩:=h
 have HL0:=hid h1
 clear hs h1
 all_goals
  go_enter func189,ntmps189
  go_upto_region 1 with fail
  refine Zam (fun V hV=>?_)
  have B0:Hid (Box V w.heap.size #[.int .i64 t_k,.slice t_ua us.length t_uc,.string t_o] 35):=by rw[hV];exact ZaE _ _ _
  have HBV:Hid (Below w.heap.size w V):=by rw[hV];exact(by repeat first|exact ZR _|refine ZA ?_ _)
  clear hV
  have HS:Hid (∀ w',Below V.heap.size V w'->w'.cell? ⟨w.heap.size,0,none⟩=some (.int .i64 t_k)/\w'.cell? ⟨w.heap.size,1,none⟩=some (.slice t_ua us.length t_uc)/\w'.cell? ⟨w.heap.size,2,none⟩=some (.string t_o)):=fun w' h=>⟨(B0.out.kept h).cell 0 _ rfl,(B0.out.kept h).cell 1 _ rfl,(B0.out.kept h).cell 2 _ rfl⟩
  obtain⟨k0_0,k0_1,k0_2⟩:=HS.out V (ZR V)
  have HU:Hid (∀ w',Below V.heap.size V w'->Zao w' t_ua us.length):=fun w' h=>(H.out.kept HBV.out).kept h
  go_wp2_with (first|(go_at_call 140;refine(ZbF _ _).mono ?_;rintro e w' ⟨b,rfl,hb⟩;have HW:Hid (Below V.heap.size V w'):=ZT (by repeat first|exact ZR _|exact ZH (by assumption)|refine ZA ?_ _|refine ZD ?_) hb;clear hb;have KK:=HS.out _ HW.out;obtain⟨k0_0,k0_1,k0_2⟩:=KK;cases b)|(go_at_call 199;refine(Zdo _ _ _ _ _ _).mono ?_;rintro e w' ⟨b,rfl,hb⟩;have HW:Hid (Below V.heap.size V w'):=ZT (by repeat first|exact ZR _|exact ZH (by assumption)|refine ZA ?_ _|refine ZD ?_) hb;clear hb;have KK:=HS.out _ HW.out;obtain⟨k0_0,k0_1,k0_2⟩:=KK;cases b)|(go_at_call 200;refine(Zcs _ _ _ _ (HU.out _ (by repeat first|exact ZR _|exact ZH (by assumption)|refine ZA ?_ _|refine ZD ?_))).mono ?_;rintro e w' ⟨n,rfl,-,hb⟩;have HW:Hid (Below V.heap.size V w'):=ZT (by repeat first|exact ZR _|exact ZH (by assumption)|refine ZA ?_ _|refine ZD ?_) hb;clear hb;have KK:=HS.out _ HW.out;obtain⟨k0_0,k0_1,k0_2⟩:=KK;rcases Za6 n with rfl|hn0)|fail)
  all_goals first
   |(go_ret;exact⟨_,rfl,ZT HBV.out (by repeat first|exact ZR _|exact ZH (by assumption)|refine ZA ?_ _|refine ZD ?_)⟩)
   |skip
  all_goals
   have HL:Hid (Zaf fidC 2 V t_ua us):=HL0.out.kept HBV.out
   have HB0:Hid (Below V.heap.size V w'):=HW
   go_loopw [3] (fun v wr=>∃ i:Nat,i<=us.length/\v=.int .i64 i/\Hid (Below V.heap.size V wr)) (fun v _=>us.length - (intOf v).toNat)
   case atStart=>exact⟨0,by omega,rfl,HB0⟩
   case round =>
    obtain⟨i,hi,rfl,hB⟩:=hrel
    have KK:=HS.out _ hB.out
    obtain⟨k0_0,k0_1,k0_2⟩:=KK
    by_cases hlt:i<us.length
    · try(exfalso;omega)
      all_goals
       obtain⟨x,hx⟩:∃ x,us[i]?=some x:=⟨us[i],List.getElem?_eq_getElem hlt⟩
       obtain⟨b1,o1,rfl,hr1⟩:=HL.out.some (by omega)
       obtain⟨c0,c1⟩:=Zbj hr1 hx
       have HC:Hid (∀ w',Below V.heap.size V w'->w'.cell? ⟨b1,o1+i*2,none⟩=some (.string x.1)):=fun w' hw=>Zaa c0 hw
       have cx:=HC.out _ hB.out
       clear c0 c1 hx hr1
       go_wp2_with (first|(go_at_call 140;refine(ZbF _ _).mono ?_;rintro e w' ⟨b,rfl,hb⟩;have HW:Hid (Below V.heap.size V w'):=ZT (by repeat first|exact ZR _|exact ZH (by assumption)|refine ZA ?_ _|refine ZD ?_) hb;clear hb;have KK:=HS.out _ HW.out;obtain⟨k0_0,k0_1,k0_2⟩:=KK;have cx:=HC.out _ HW.out;cases b)|fail)
       all_goals first
        |(go_ret;exact⟨_,rfl,ZT HBV.out (by repeat first|exact ZR _|exact ZH (by assumption)|refine ZA ?_ _|refine ZD ?_)⟩)
        |(go_roundw;(case rel=>exact⟨i+1,by omega,by go_num,(by repeat first|exact ZR _|exact ZH (by assumption)|refine ZA ?_ _|refine ZD ?_)⟩);(case measure=>simp[intOf];omega))
    · go_wp2_with fail
      go_ret
      exact⟨_,rfl,ZT HBV.out hB.out⟩
structure Fd where
 m:ByteArray
 k:Int
 ua:Option Addr
 un:Nat
 uc:Nat
 o:ByteArray
def Fd.cells (f:Fd):List Value:=[.string f.m,.int .i64 f.k,.slice f.ua f.un f.uc,.string f.o]
theorem Fd.cell {w:World}{b off:Nat}{l:List Fd}(h:Lies Fd.cells 4 w b off l){i:Nat}{v:Fd}(hv:l[i]?=some v) :
 w.cell? ⟨b,off+i*4,none⟩=some (.string v.m)/\w.cell? ⟨b,off+i*4+1,none⟩=some (.int .i64 v.k)/\w.cell? ⟨b,off+i*4+2,none⟩=some (.slice v.ua v.un v.uc)/\w.cell? ⟨b,off+i*4+3,none⟩=some (.string v.o) :=
 ⟨h i v hv 0 _ rfl,h i v hv 1 _ rfl,h i v hv 2 _ rfl,h i v hv 3 _ rfl⟩
def FdsAt (w:World)(a:Option Addr)(n:Nat):Prop:=∃ l:List Fd,n=l.length/\l.length<=140737488355328/\(∀ f∈l,Zao w f.ua f.un)/\Zaf Fd.cells 4 w a l
theorem FdsAt.kept {w w':World}{a:Option Addr}{n:Nat}(h:FdsAt w a n)(hb:Below w.heap.size w w'):FdsAt w' a n :=
 let ⟨l,h1,h2,h3,h4⟩:=h;⟨l,h1,h2,fun f hf=>(h3 f hf).kept hb,h4.kept hb⟩
theorem FdsAt.nil (w:World)(a:Option Addr):FdsAt w a 0:=⟨[],rfl,by decide,fun f hf=>(by cases hf),Zaf.nil _ _⟩
structure Ex where
 k:Int
 o:ByteArray
 m:ByteArray
 t:ByteArray
 vk:Int
 vn:Int
 vs:ByteArray
 ua:Option Addr
 un:Nat
 uc:Nat
 p:Int
 wk:Int
 wz:Int
 xa:Option Addr
 xn:Nat
 xc:Nat
def Ex.cells (x:Ex):List Value:=[.int .i64 x.k,.string x.o,.string x.m,.string x.t,.int .i64 x.vk,.int .i64 x.vn,.string x.vs,.slice x.ua x.un x.uc,.int .i64 x.p,.int .i64 x.wk,.int .i64 x.wz,.slice x.xa x.xn x.xc]
abbrev Ex.val (x:Ex):Value:=.agg #[.int .i64 x.k,.string x.o,.string x.m,.string x.t,.int .i64 x.vk,.int .i64 x.vn,.string x.vs,.slice x.ua x.un x.uc,.int .i64 x.p,.int .i64 x.wk,.int .i64 x.wz,.slice x.xa x.xn x.xc]
theorem Ex.cell {w:World}{b off:Nat}{l:List Ex}(h:Lies Ex.cells 12 w b off l){i:Nat}{v:Ex}(hv:l[i]?=some v) :
 w.cell? ⟨b,off+i*12,none⟩=some (.int .i64 v.k)/\w.cell? ⟨b,off+i*12+1,none⟩=some (.string v.o)/\w.cell? ⟨b,off+i*12+2,none⟩=some (.string v.m)/\w.cell? ⟨b,off+i*12+3,none⟩=some (.string v.t) /\
 w.cell? ⟨b,off+i*12+4,none⟩=some (.int .i64 v.vk)/\w.cell? ⟨b,off+i*12+5,none⟩=some (.int .i64 v.vn)/\w.cell? ⟨b,off+i*12+6,none⟩=some (.string v.vs)/\w.cell? ⟨b,off+i*12+7,none⟩=some (.slice v.ua v.un v.uc) /\
 w.cell? ⟨b,off+i*12+8,none⟩=some (.int .i64 v.p)/\w.cell? ⟨b,off+i*12+9,none⟩=some (.int .i64 v.wk)/\w.cell? ⟨b,off+i*12+10,none⟩=some (.int .i64 v.wz)/\w.cell? ⟨b,off+i*12+11,none⟩=some (.slice v.xa v.xn v.xc) :=
 ⟨h i v hv 0 _ rfl,h i v hv 1 _ rfl,h i v hv 2 _ rfl,h i v hv 3 _ rfl,h i v hv 4 _ rfl,h i v hv 5 _ rfl,h i v hv 6 _ rfl,h i v hv 7 _ rfl,h i v hv 8 _ rfl,h i v hv 9 _ rfl,h i v hv 10 _ rfl,h i v hv 11 _ rfl⟩
def ExAt:Nat->World->Ex->Prop
 |0,_,_=>False
 |n+1,w,x=>Zao w x.ua x.un/\x.vs.size<=140737488355328/\∃ xs:List Ex,x.xn=xs.length/\xs.length<=140737488355328/\Zaf Ex.cells 12 w x.xa xs/\∀ y∈xs,ExAt n w y
theorem ExAt.kept {w w':World}(hb:Below w.heap.size w w'):∀ {n:Nat} {x:Ex},ExAt n w x->ExAt n w' x
 |0,_,h=>h.elim
 |n+1,x,⟨h1,h2,xs,h3,h4,h5,h6⟩=>⟨h1.kept hb,h2,xs,h3,h4,h5.kept hb,fun y hy=>(h6 y hy).kept hb⟩
theorem ExAt.unit {n:Nat}{w:World}{x:Ex}(h:ExAt n w x):Zao w x.ua x.un:=by cases n with
 |zero=>exact h.elim
 |succ n=>exact h.1
def ExNd:Nat->Nat->World->Ex->Prop
 |0,_,_,_=>False
 |n+1,c,w,x=>Zao w x.ua x.un/\x.vs.size<=140737488355328/\∃ (xs:List Ex) (cs:List Nat),x.xn=xs.length/\xs.length<=10/\Zaf Ex.cells 12 w x.xa xs/\cs.length=xs.length/\cs.sum+1<=c/\∀ (i:Nat) (y:Ex) (d:Nat),xs[i]?=some y->cs[i]?=some d->ExNd n d w y
theorem ExNd.kept {w w':World}(hb:Below w.heap.size w w'):∀ {n c:Nat} {x:Ex},ExNd n c w x->ExNd n c w' x
 |0,_,_,h=>h.elim
 |n+1,c,x,⟨h1,h2,xs,cs,h3,h4,h5,h6,h7,h8⟩=>⟨h1.kept hb,h2,xs,cs,h3,h4,h5.kept hb,h6,h7,fun i y d hy hd=>(h8 i y d hy hd).kept hb⟩
theorem ExNd.at {w:World}:∀ {n c:Nat} {x:Ex},ExNd n c w x->ExAt n w x
 |0,_,_,h=>h.elim
 |n+1,c,x,⟨h1,h2,xs,cs,h3,h4,h5,h6,h7,h8⟩=>⟨h1,h2,xs,h3,by omega,h5,fun y hy=>by
  obtain⟨i,hi,rfl⟩:=List.mem_iff_getElem.1 hy
  exact(h8 i _ _ (List.getElem?_eq_getElem hi) (List.getElem?_eq_getElem (by omega))).at⟩
def arity (k:Int):Nat:=if k=4∨k=6 then 1 else if k=5∨k=7∨k=9 then 2 else if k=8 then 3 else 0
def Shaped:Nat->World->Ex->Prop
 |0,_,_=>False
 |n+1,w,x=>(1<=x.k/\x.k<=9)/\x.xn=arity x.k/\∃ xs:List Ex,x.xn=xs.length/\Zaf Ex.cells 12 w x.xa xs/\∀ y∈xs,Shaped n w y
theorem Shaped.kept {w w':World}(hb:Below w.heap.size w w'):∀ {n:Nat} {x:Ex},Shaped n w x->Shaped n w' x
 |0,_,h=>h.elim
 |n+1,x,⟨h1,h2,xs,h3,h5,h6⟩=>⟨h1,h2,xs,h3,h5.kept hb,fun y hy=>(h6 y hy).kept hb⟩
theorem Ex.cells_inj {x y:Ex}(h:x.cells=y.cells):x=y:=by
 cases x;cases y
 simp[Ex.cells]at h
 simp_all
theorem lies_same {w:World}{a:Option Addr}:∀ {l m:List Ex},l.length=m.length->Zaf Ex.cells 12 w a l->Zaf Ex.cells 12 w a m->l=m:=by
 intro l m hl h1 h2
 rcases h1 with rfl|⟨b,o,rfl,h1⟩
 · cases m with
   |nil=>rfl
   |cons x m=>simp at hl
 rcases h2 with rfl|⟨b2,o2,e,h2⟩
 · cases l with
   |nil=>rfl
   |cons x m=>simp at hl
 injection e with e
 injection e with e1 e2
 subst e1 e2
 refine List.ext_getElem hl (fun i hi hj=>?_)
 apply Ex.cells_inj
 refine List.ext_getElem (by rfl) (fun j hj1 hj2=>?_)
 have k1:=h1 i _ (List.getElem?_eq_getElem hi) j _ (List.getElem?_eq_getElem hj1)
 have k2:=h2 i _ (List.getElem?_eq_getElem hj) j _ (List.getElem?_eq_getElem hj2)
 rw[k1]at k2
 injection k2
def strE:ByteArray->List Value:=fun s=>[Value.string s]
theorem ZdZ (L:List ByteArray)(w:World)(hL:L.length<=1000):StrsAt (w.alloc (.cells (encs strE L).toArray 9)) (some ⟨w.heap.size,0,none⟩) L.length :=
 ⟨L,rfl,by omega,Or.inr ⟨_,0,rfl,Lies.of_cells (k:=1) (fun _=>rfl) (fun j v hj=>by rw[Nat.zero_add];exact(Box.new w (encs strE L).toArray 9).cell j v (by rw[List.getElem?_toArray];exact hj))⟩⟩
def StrsIs (w:World)(a:Option Addr)(L:List ByteArray):Prop:=Zaf strE 1 w a L
theorem strsIs_lit (L:List ByteArray)(w:World):StrsIs (w.alloc (.cells (encs strE L).toArray 9)) (some ⟨w.heap.size,0,none⟩) L :=
 Or.inr ⟨_,0,rfl,Lies.of_cells (k:=1) (fun _=>rfl) (fun j v hj=>by rw[Nat.zero_add];exact(Box.new w (encs strE L).toArray 9).cell j v (by rw[List.getElem?_toArray];exact hj))⟩
def aggL:List ByteArray:=[⟨#[99,111,117,110,116]⟩,⟨#[115,117,109]⟩,⟨#[109,101,97,110]⟩,⟨#[109,105,110]⟩,⟨#[109,97,120]⟩,⟨#[102,105,114,115,116]⟩,⟨#[108,97,115,116]⟩,⟨#[100,105,115,116,105,110,99,116]⟩,⟨#[113,117,97,110,116,105,108,101]⟩,⟨#[100,101,99,97,121]⟩]
def opsL:List ByteArray:=[⟨#[43]⟩,⟨#[45]⟩,⟨#[42]⟩,⟨#[47]⟩,⟨#[61,61]⟩,⟨#[33,61]⟩,⟨#[60]⟩,⟨#[60,61]⟩,⟨#[97,110,100]⟩,⟨#[111,114]⟩]
theorem aggs_any (w:World):Calls prog 229 #[] w fun e w'=>∃ a c,e=.returned (.slice a 10 c)/\StrsIs w' a aggL/\Below w.heap.size w w':=by
 go_enter func229,ntmps229
 go_wp2_with fail
 go_ret
 exact⟨_,_,rfl,strsIs_lit aggL w,ZA (ZR w) _⟩
theorem opers_any (w:World):Calls prog 223 #[] w fun e w'=>∃ a c,e=.returned (.slice a 10 c)/\StrsIs w' a opsL/\Below w.heap.size w w':=by
 go_enter func223,ntmps223
 go_wp2_with fail
 go_ret
 exact⟨_,_,rfl,strsIs_lit opsL w,ZA (ZR w) _⟩
def trueX:Ex:=⟨1,⟨#[]⟩,⟨#[]⟩,⟨#[]⟩,1,1,⟨#[]⟩,none,0,0,0,0,0,none,0,0⟩
theorem true_any (w:World):Calls prog 213 #[] w fun e w'=>e=.returned trueX.val/\Below w.heap.size w w':=by
 go_enter func213,ntmps213
 go_wp2_with fail
 refine bodyPost_ret (v:=trueX.val) (by simp[results,Tryz.results213,go_sem,trueX]) rfl ⟨rfl,ZA (ZR w) _⟩
def isOne (s:ByteArray)(L:List ByteArray):Bool:=L.any (fun x=>decide (x.toList=s.toList))
theorem one_is (s:ByteArray)(L:List ByteArray)(a:Option Addr)(c:Nat)(w:World)(hl:L.length<=1000)(h:StrsIs w a L):Calls prog 222 #[.string s,.slice a L.length c] w fun e w'=>e=.returned (.bool (isOne s L))/\Below w.heap.size w w':=by
 have H1:=hid h
 clear h
 obtain⟨B,hB0⟩:∃ B,B=isOne s L:=⟨_,rfl⟩
 rw[<-hB0]
 have HB0:=hid hB0
 clear hB0
 go_enter func222,ntmps222
 go_wp2_with fail
 go_loopw [5] (fun v wr=>∃ i:Nat,i<=L.length/\v=.int .i64 i/\Hid (B=isOne s (L.drop i))/\Below w.heap.size w wr) (fun v _=>L.length - (intOf v).toNat)
 case atStart=>exact⟨0,by omega,rfl,by rw[List.drop_zero];exact HB0,Below.refl _ _⟩
 case round =>
  obtain⟨i,hi,rfl,HI,hB⟩:=hrel
  by_cases hlt:i<L.length
  · obtain⟨x,hx⟩:∃ x,L[i]?=some x:=⟨L[i],List.getElem?_eq_getElem hlt⟩
    obtain⟨b1,o1,rfl,hr1⟩:=(H1.out.kept hB).some (by omega)
    have c0:=Zbt hr1 hx
    have HB:=hid hB
    have hd:L.drop i=x :: L.drop (i+1):=by
     rw[List.drop_eq_getElem_cons hlt]
     rw[List.getElem?_eq_getElem hlt]at hx
     injection hx with hx
     rw[hx]
    have HS:Hid (isOne s (L.drop i)=(decide (x.toList=s.toList)||isOne s (L.drop (i+1)))):=by show _=_;rw[hd];rfl
    clear hr1 hx hB hd
    by_cases he:x.toList=s.toList
    · have HQ:Hid (B=true):=by show _=_;rw[HI.out,HS.out,decide_eq_true he];rfl
      have he2:(x.toList==s.toList)=true:=by simpa using he
      clear he
      go_wp2_with fail
      go_ret
      rw[HQ.out]
      exact⟨rfl,HB.out⟩
    · have HQ:Hid (B=isOne s (L.drop (i+1))):=by show _=_;rw[HI.out,HS.out,decide_eq_false he];rfl
      have he2:(x.toList==s.toList)=false:=by simpa using he
      clear HI he
      go_wp2_with fail
      go_roundw
      case rel=>exact⟨i+1,by omega,by go_num,HQ,HB.out⟩
      case measure=>simp[intOf];omega
  · have HQ:Hid (B=false):=by show _=_;rw[HI.out,List.drop_of_length_le (by omega)];rfl
    clear HI
    go_wp2_with fail
    go_ret
    rw[HQ.out]
    exact⟨rfl,hB⟩
theorem ZdE (x_k:Int)(x_o:ByteArray)(x_m:ByteArray)(x_t:ByteArray)(x_vk:Int)(x_vn:Int)(x_vs:ByteArray)(x_ua:Option Addr)(x_un:Nat)(x_uc:Nat)(x_p:Int)(x_wk:Int)(x_wz:Int)(x_xa:Option Addr)(x_xn:Nat)(x_xc:Nat)(w:World)(hs:x_vs.size<=140737488355328)(h:Zao w x_ua x_un):Calls prog 220 #[.agg #[.int .i64 x_k,.string x_o,.string x_m,.string x_t,.int .i64 x_vk,.int .i64 x_vn,.string x_vs,.slice x_ua x_un x_uc,.int .i64 x_p,.int .i64 x_wk,.int .i64 x_wz,.slice x_xa x_xn x_xc]] w (GotB w):=by
 have H:=hid h
 clear h
 go_enter func220,ntmps220
 go_upto_region 1 with fail
 refine Zam (fun V hV=>?_)
 have B0:Hid (Box V w.heap.size #[.int .i64 x_k,.string x_o,.string x_m,.string x_t,.int .i64 x_vk,.int .i64 x_vn,.string x_vs,.slice x_ua x_un x_uc,.int .i64 x_p,.int .i64 x_wk,.int .i64 x_wz,.slice x_xa x_xn x_xc] 42):=by rw[hV];exact ZaE _ _ _
 have HBV:Hid (Below w.heap.size w V):=by rw[hV];exact(by repeat first|exact ZR _|refine ZA ?_ _)
 clear hV
 have HS:Hid (∀ w',Below V.heap.size V w'->w'.cell? ⟨w.heap.size,0,none⟩=some (.int .i64 x_k)/\w'.cell? ⟨w.heap.size,1,none⟩=some (.string x_o)/\w'.cell? ⟨w.heap.size,2,none⟩=some (.string x_m)/\w'.cell? ⟨w.heap.size,3,none⟩=some (.string x_t)/\w'.cell? ⟨w.heap.size,4,none⟩=some (.int .i64 x_vk)/\w'.cell? ⟨w.heap.size,5,none⟩=some (.int .i64 x_vn)/\w'.cell? ⟨w.heap.size,6,none⟩=some (.string x_vs)/\w'.cell? ⟨w.heap.size,7,none⟩=some (.slice x_ua x_un x_uc)/\w'.cell? ⟨w.heap.size,8,none⟩=some (.int .i64 x_p)/\w'.cell? ⟨w.heap.size,9,none⟩=some (.int .i64 x_wk)/\w'.cell? ⟨w.heap.size,10,none⟩=some (.int .i64 x_wz)/\w'.cell? ⟨w.heap.size,11,none⟩=some (.slice x_xa x_xn x_xc)):=fun w' h=>⟨(B0.out.kept h).cell 0 _ rfl,(B0.out.kept h).cell 1 _ rfl,(B0.out.kept h).cell 2 _ rfl,(B0.out.kept h).cell 3 _ rfl,(B0.out.kept h).cell 4 _ rfl,(B0.out.kept h).cell 5 _ rfl,(B0.out.kept h).cell 6 _ rfl,(B0.out.kept h).cell 7 _ rfl,(B0.out.kept h).cell 8 _ rfl,(B0.out.kept h).cell 9 _ rfl,(B0.out.kept h).cell 10 _ rfl,(B0.out.kept h).cell 11 _ rfl⟩
 obtain⟨k0_0,k0_1,k0_2,k0_3,k0_4,k0_5,k0_6,k0_7,k0_8,k0_9,k0_10,k0_11⟩:=HS.out V (ZR V)
 have HU:Hid (∀ w',Below V.heap.size V w'->Zao w' x_ua x_un):=fun w' h=>(H.out.kept HBV.out).kept h
 go_wp2_with (first|(go_at_call 180;refine(vcheck_any _ _ _ _ hs).mono ?_;rintro e w' ⟨n,rfl,hb⟩;have HW:Hid (Below V.heap.size V w'):=ZT (by repeat first|exact ZR _|exact ZH (by assumption)|refine ZA ?_ _|refine ZD ?_) hb;clear hb;have KK:=HS.out _ HW.out;obtain⟨k0_0,k0_1,k0_2,k0_3,k0_4,k0_5,k0_6,k0_7,k0_8,k0_9,k0_10,k0_11⟩:=KK;rcases Za6 n with rfl|hn0)|(go_at_call 189;refine(ZeK _ _ _ _ _ _ (HU.out _ (by repeat first|exact ZR _|exact ZH (by assumption)|refine ZA ?_ _|refine ZD ?_))).mono ?_;rintro e w' ⟨n,rfl,hb⟩;have HW:Hid (Below V.heap.size V w'):=ZT (by repeat first|exact ZR _|exact ZH (by assumption)|refine ZA ?_ _|refine ZD ?_) hb;clear hb;have KK:=HS.out _ HW.out;obtain⟨k0_0,k0_1,k0_2,k0_3,k0_4,k0_5,k0_6,k0_7,k0_8,k0_9,k0_10,k0_11⟩:=KK;rcases Za6 n with rfl|hn0)|(go_at_call 219;refine(ZcL _ _ _ _ _ _ _ _ _ _ _ _ _ _ _ _ _ _ _ _ _ _ _ _ _ _ _ _ _ _ _ _ _ (HU.out _ (by repeat first|exact ZR _|exact ZH (by assumption)|refine ZA ?_ _|refine ZD ?_)) (HU.out _ (by repeat first|exact ZR _|exact ZH (by assumption)|refine ZA ?_ _|refine ZD ?_))).mono ?_;rintro e w' ⟨b,rfl,hb⟩;have HW:Hid (Below V.heap.size V w'):=ZT (by repeat first|exact ZR _|exact ZH (by assumption)|refine ZA ?_ _|refine ZD ?_) hb;clear hb;have KK:=HS.out _ HW.out;obtain⟨k0_0,k0_1,k0_2,k0_3,k0_4,k0_5,k0_6,k0_7,k0_8,k0_9,k0_10,k0_11⟩:=KK;cases b)|fail)
 all_goals
  go_ret
  exact⟨_,rfl,ZT HBV.out (by repeat first|exact ZR _|exact ZH (by assumption)|refine ZA ?_ _|refine ZD ?_)⟩
def letB (c:Int):Bool:=decide (97<=c)&&decide (c<=122)
def digB (c:Int):Bool:=decide (48<=c)&&decide (c<=57)
theorem Zc7 (c:Int)(w:World):Calls prog 181 #[.int .u8 c] w fun e w'=>e=.returned (.bool (letB c))/\Below w.heap.size w w':=by
 by_cases h1:97<=c<;>by_cases h2:c<=122
 all_goals
  go_enter func181,ntmps181
  go_wp2_with fail
  go_ret
  exact⟨by simp[letB,h1,h2],ZR _⟩
theorem digit_is (c:Int)(w:World):Calls prog 182 #[.int .u8 c] w fun e w'=>e=.returned (.bool (digB c))/\Below w.heap.size w w':=by
 by_cases h1:48<=c<;>by_cases h2:c<=57
 all_goals
  go_enter func182,ntmps182
  go_wp2_with fail
  go_ret
  exact⟨by simp[digB,h1,h2],ZR _⟩
def spanW (f:Nat->Bool)(n:Nat):Nat->Nat->Nat
 |0,i=>i
 |k+1,i=>if i<n/\f i=true then spanW f n k (i+1)else i
def chB (c:Int):Bool:=letB c||digB c||(c==95)
def wordN (g:Nat->Int)(n:Nat):Nat:=if letB (g 0)then spanW (fun i=>chB (g i)) n n 1 else 0
def BytesIs (w:World)(a:Option Addr)(n:Nat)(g:Nat->Int):Prop:=∃ b o,a=some ⟨b,o,none⟩/\∀ i,i<n->w.cell? ⟨b,o+i,none⟩=some (.int .u8 (g i))
theorem span_stop {f:Nat->Bool}{n k i:Nat}(h:¬ (i<n/\f i=true)):spanW f n k i=i:=by
 cases k with
 |zero=>rfl
 |succ k=>simp only[spanW];rw[if_neg h]
theorem asword_is (a:Option Addr)(n c:Nat)(g:Nat->Int)(w:World)(h:BytesIs w a n g)(h0:0<n)(hn:n<=140737488355328) :
 Calls prog 161 #[.slice a n c,.int .i64 0] w fun e w'=>e=.returned (.int .i64 (wordN g n:Nat))/\Below w.heap.size w w':=by
 obtain⟨b,o,rfl,hb⟩:=h
 have H:=hid hb
 have hx0:=hb 0 h0
 have HC:Hid (∀ w',Below w.heap.size w w'->w'.cell? ⟨b,o+0,none⟩=some (.int .u8 (g 0))):=fun w' hw=>Zaa hx0 hw
 have k0:=HC.out _ (ZR w)
 simp only[Nat.add_zero]at k0
 obtain⟨T,hT⟩:∃ T,T=wordN g n:=⟨_,rfl⟩
 rw[<-hT]
 have HT:=hid hT
 clear hb hx0 hT
 go_enter func161,ntmps161
 cases hl:letB (g 0)
 · have CL:Hid (∀ w,Calls prog 181 #[.int .u8 (g 0)] w fun e w'=>e=.returned (.bool false)/\Below w.heap.size w w'):=by rw[<-hl];exact fun w=>Zc7 _ w
   have HT0:Hid (T=0):=by show _=_;rw[HT.out];unfold wordN;rw[hl];rfl
   clear HT hl
   go_wp2_with (first|(go_at_call 181;refine(CL.out _).mono ?_;rintro e w' ⟨rfl,hb⟩;have HW:Hid (Below w.heap.size w w'):=ZT (by repeat first|exact ZR _|exact ZH (by assumption)|refine ZA ?_ _|refine ZD ?_|refine ZN ?_ _) hb;clear hb;have KK:=HC.out _ HW.out)|fail)
   go_ret
   rw[HT0.out]
   exact⟨rfl,(by repeat first|exact ZR _|exact ZH (by assumption)|refine ZA ?_ _|refine ZD ?_|refine ZN ?_ _)⟩
 · have CL:Hid (∀ w,Calls prog 181 #[.int .u8 (g 0)] w fun e w'=>e=.returned (.bool true)/\Below w.heap.size w w'):=by rw[<-hl];exact fun w=>Zc7 _ w
   have HT0:Hid (T=spanW (fun i=>chB (g i)) n n 1):=by show _=_;rw[HT.out];unfold wordN;rw[hl];rfl
   clear HT hl
   go_wp2_with (first|(go_at_call 181;refine(CL.out _).mono ?_;rintro e w' ⟨rfl,hb⟩;have HW:Hid (Below w.heap.size w w'):=ZT (by repeat first|exact ZR _|exact ZH (by assumption)|refine ZA ?_ _|refine ZD ?_|refine ZN ?_ _) hb;clear hb;have KK:=HC.out _ HW.out)|fail)
   have HB0:Hid (Below w.heap.size w w'):=HW
   clear HC k0 KK CL
   go_loopw [5] (fun v wr=>∃ i:Nat,1<=i/\i<=n/\v=.int .i64 i/\Hid (T=spanW (fun i=>chB (g i)) n (n+1 - i) i)/\Hid (Below w.heap.size w wr)) (fun v _=>n - (intOf v).toNat)
   case atStart=>exact⟨1,by omega,by omega,rfl,HT0,HB0⟩
   case round =>
    obtain⟨i,hi0,hi,rfl,HI,hB⟩:=hrel
    by_cases hlt:i<n
    · have hx:=H.out i hlt
      have HC:Hid (∀ w',Below w.heap.size w w'->w'.cell? ⟨b,o+i,none⟩=some (.int .u8 (g i))):=fun w' hw=>Zaa hx hw
      have KK:=HC.out _ hB.out
      have HS:Hid (chB (g i)=true->T=spanW (fun i=>chB (g i)) n (n+1 - (i+1)) (i+1)):=fun hc=>by
       rw[HI.out,show n+1 - i=(n+1 - (i+1))+1 by omega]
       simp only[spanW]
       rw[if_pos ⟨hlt,hc⟩]
      have HN:Hid (chB (g i)=false->T=i):=fun hc=>by
       rw[HI.out]
       exact span_stop (fun h=>by rw[hc]at h;cases h.2)
      clear hx HI HT0
      generalize hgi:g i=x at *
      cases hl:letB x
      · cases hd:digB x
        · cases h5:(x==95)
          all_goals
           have CL:Hid (∀ w,Calls prog 181 #[.int .u8 x] w fun e w'=>e=.returned (.bool false)/\Below w.heap.size w w'):=by rw[<-hl];exact fun w=>Zc7 _ w
           have CD:Hid (∀ w,Calls prog 182 #[.int .u8 x] w fun e w'=>e=.returned (.bool false)/\Below w.heap.size w w'):=by rw[<-hd];exact fun w=>digit_is _ w
           have hcb:chB x=(x==95):=by unfold chB;rw[hl,hd];rfl
           have HS2:=fun h=>HS.out (hcb.trans h)
           have HN2:=fun h=>HN.out (hcb.trans h)
           have HS3:=hid HS2
           have HN3:=hid HN2
           have H5:=hid h5
           clear HS2 HN2 hcb HS HN hl hd hgi
           go_wp2_with (first|(go_at_call 181;refine(CL.out _).mono ?_;rintro e w' ⟨rfl,hb⟩;have HW:Hid (Below w.heap.size w w'):=ZT (by repeat first|exact ZR _|exact ZH (by assumption)|refine ZA ?_ _|refine ZD ?_|refine ZN ?_ _) hb;clear hb;have KK:=HC.out _ HW.out)|(go_at_call 182;refine(CD.out _).mono ?_;rintro e w' ⟨rfl,hb⟩;have HW:Hid (Below w.heap.size w w'):=ZT (by repeat first|exact ZR _|exact ZH (by assumption)|refine ZA ?_ _|refine ZD ?_|refine ZN ?_ _) hb;clear hb;have KK:=HC.out _ HW.out)|fail)
           first
            |(go_ret;rw[HN3.out H5.out];exact⟨rfl,(by repeat first|exact ZR _|exact ZH (by assumption)|refine ZA ?_ _|refine ZD ?_|refine ZN ?_ _)⟩)
            |(go_roundw;(case rel=>exact⟨i+1,by omega,by omega,by go_num,HS3.out H5.out,(by repeat first|exact ZR _|exact ZH (by assumption)|refine ZA ?_ _|refine ZD ?_|refine ZN ?_ _)⟩);(case measure=>simp[intOf];omega))
        · have CL:Hid (∀ w,Calls prog 181 #[.int .u8 x] w fun e w'=>e=.returned (.bool false)/\Below w.heap.size w w'):=by rw[<-hl];exact fun w=>Zc7 _ w
          have CD:Hid (∀ w,Calls prog 182 #[.int .u8 x] w fun e w'=>e=.returned (.bool true)/\Below w.heap.size w w'):=by rw[<-hd];exact fun w=>digit_is _ w
          have HS3:=hid (HS.out (by unfold chB;rw[hl,hd];rfl))
          clear HS HN hl hd hgi
          go_wp2_with (first|(go_at_call 181;refine(CL.out _).mono ?_;rintro e w' ⟨rfl,hb⟩;have HW:Hid (Below w.heap.size w w'):=ZT (by repeat first|exact ZR _|exact ZH (by assumption)|refine ZA ?_ _|refine ZD ?_|refine ZN ?_ _) hb;clear hb;have KK:=HC.out _ HW.out)|(go_at_call 182;refine(CD.out _).mono ?_;rintro e w' ⟨rfl,hb⟩;have HW:Hid (Below w.heap.size w w'):=ZT (by repeat first|exact ZR _|exact ZH (by assumption)|refine ZA ?_ _|refine ZD ?_|refine ZN ?_ _) hb;clear hb;have KK:=HC.out _ HW.out)|fail)
          go_roundw
          case rel=>exact⟨i+1,by omega,by omega,by go_num,HS3,(by repeat first|exact ZR _|exact ZH (by assumption)|refine ZA ?_ _|refine ZD ?_|refine ZN ?_ _)⟩
          case measure=>simp[intOf];omega
      · have CL:Hid (∀ w,Calls prog 181 #[.int .u8 x] w fun e w'=>e=.returned (.bool true)/\Below w.heap.size w w'):=by rw[<-hl];exact fun w=>Zc7 _ w
        have HS3:=hid (HS.out (by unfold chB;rw[hl];rfl))
        clear HS HN hl hgi
        go_wp2_with (first|(go_at_call 181;refine(CL.out _).mono ?_;rintro e w' ⟨rfl,hb⟩;have HW:Hid (Below w.heap.size w w'):=ZT (by repeat first|exact ZR _|exact ZH (by assumption)|refine ZA ?_ _|refine ZD ?_|refine ZN ?_ _) hb;clear hb;have KK:=HC.out _ HW.out)|fail)
        go_roundw
        case rel=>exact⟨i+1,by omega,by omega,by go_num,HS3,(by repeat first|exact ZR _|exact ZH (by assumption)|refine ZA ?_ _|refine ZD ?_|refine ZN ?_ _)⟩
        case measure=>simp[intOf];omega
    · have HN:Hid (T=i):=by show _=_;rw[HI.out];exact span_stop (fun h=>hlt h.1)
      clear HI HT0
      go_wp2_with fail
      go_ret
      rw[HN.out]
      exact⟨rfl,hB.out⟩
def kwL:List ByteArray:=[⟨#[116,97,98,108,101]⟩,⟨#[102,101,97,116,117,114,101]⟩,⟨#[111,102]⟩,⟨#[107,101,101,112]⟩,⟨#[98,111,111,108]⟩,⟨#[116,101,120,116]⟩,⟨#[107,101,121]⟩,⟨#[105,110,116]⟩,⟨#[100,101,99]⟩,⟨#[105,102]⟩,⟨#[116,104,101,110]⟩,⟨#[101,108,115,101]⟩,⟨#[100,101,102,97,117,108,116]⟩,⟨#[111,114]⟩,⟨#[97,110,100]⟩,⟨#[110,111,116]⟩,⟨#[116,114,117,101]⟩,⟨#[102,97,108,115,101]⟩,⟨#[110,117,108,108]⟩,⟨#[99,111,117,110,116]⟩,⟨#[115,117,109]⟩,⟨#[109,101,97,110]⟩,⟨#[109,105,110]⟩,⟨#[109,97,120]⟩,⟨#[102,105,114,115,116]⟩,⟨#[108,97,115,116]⟩,⟨#[100,105,115,116,105,110,99,116]⟩,⟨#[113,117,97,110,116,105,108,101]⟩,⟨#[100,101,99,97,121]⟩,⟨#[97,108,108]⟩,⟨#[115,108,105,100,105,110,103]⟩,⟨#[116,117,109,98,108,105,110,103]⟩,⟨#[115,101,115,115,105,111,110]⟩,⟨#[119,104,101,114,101]⟩]
theorem keyword_is (s:ByteArray)(w:World):Calls prog 162 #[.string s] w fun e w'=>e=.returned (.bool (isOne s kwL))/\Below w.heap.size w w':=by
 obtain⟨d⟩:=s
 go_enter func162,ntmps162
 generalize hB:isOne ⟨d⟩ kwL=B
 have HB:=hid hB
 clear hB
 go_wp2_with fail
 all_goals
  go_ret
  refine⟨?_,ZR _⟩
  have hB:=HB.out
  clear HB
  rw[<-hB]
  clear hB
  simp_all [isOne,kwL,ByteArray.toList_eq]
  all_goals
   repeat' apply And.intro
  all_goals
   intro h
   subst h
   simp_all
def byteOf (s:ByteArray)(i:Nat):Int:=((s.data.toList.getD i 0).toNat:Nat)
def nameB (s:ByteArray):Bool:=decide (0<s.size)&&(decide (s.size<=24)&&(decide (wordN (byteOf s) s.size=s.size)&&!isOne s kwL))
theorem bytes_is (w:World)(e:TypeId)(s:ByteArray):BytesIs (Lib.bytesWorld w e s) (some ⟨w.heap.size,0,none⟩) s.size (byteOf s):=⟨_,_,rfl,fun i hi=>by rw[Nat.zero_add];exact Lib.bytesWorld_cell w e s i hi⟩
theorem ZN {w w1:World}(h:Below w.heap.size w w1)(n:Nat):Below w.heap.size w (w1.drewN n):=Zag h n
theorem name_is (s:ByteArray)(w:World):Calls prog 140 #[.string s] w fun e w'=>e=.returned (.bool (nameB s))/\Below w.heap.size w w':=by
 have hcv:=Lib.run_convert_string_bytes (P:=prog) w 9 142 5 s (u:=.string) underlying9 underlying142 underlying5
 obtain⟨B,hB⟩:∃ B,B=nameB s:=⟨_,rfl⟩
 rw[<-hB]
 have HB:=hid hB
 clear hB
 go_enter func140,ntmps140
 by_cases he:s=⟨#[]⟩
 · have HQ:Hid (B=false):=by show _=_;rw[HB.out,he];rfl
   clear HB
   subst he
   go_wp2_with fail
   all_goals
    go_ret
    rw[HQ.out]
    exact⟨rfl,ZR _⟩
 · have h0:0<s.size:=by
     rcases Nat.eq_zero_or_pos s.size with h|h
     · exact absurd (Zcd (by rw[ByteArray.toList_eq,ByteArray.toList_eq];exact List.eq_nil_of_length_eq_zero (by rw[Array.length_toList];exact h))) he
     · exact h
   have hem:s.toList.isEmpty=false:=by
    cases h:s.toList with
    |nil=>exact absurd (Zcd (by rw[h,ByteArray.toList_eq])) he
    |cons a l=>rfl
   by_cases h24:s.size<=24
   · have h47:s.size<=140737488355328:=by omega
     have HQ0:Hid (B=(decide (wordN (byteOf s) s.size=s.size)&&!isOne s kwL)):=by show _=_;rw[HB.out];unfold nameB;rw[decide_eq_true h0,decide_eq_true h24];rfl
     clear HB
     by_cases hn:wordN (byteOf s) s.size=s.size
     · have CA:Hid (∀ w1,Calls prog 161 #[.slice (some ⟨w1.heap.size,0,none⟩) s.size (grownCap w1 s.size 0 5),.int .i64 0] (Lib.bytesWorld w1 5 s) fun e w'=>e=.returned (.int .i64 (s.size:Nat))/\Below (Lib.bytesWorld w1 5 s).heap.size (Lib.bytesWorld w1 5 s) w'):=by
         intro w1
         have:=asword_is _ _ (grownCap w1 s.size 0 5) _ _ (bytes_is w1 5 s) h0 h47
         rw[hn]at this
         exact this
       have HQ:Hid (B=!isOne s kwL):=by show _=_;rw[HQ0.out,decide_eq_true hn];rfl
       clear HQ0 hn
       cases hk:isOne s kwL
       all_goals
        have CK:Hid (∀ w,Calls prog 162 #[.string s] w fun e w'=>e=.returned (.bool (isOne s kwL))/\Below w.heap.size w w'):=fun w=>keyword_is s w
        rw[hk]at CK HQ
        clear hk
        go_wp2_with (first|(go_at_call 161;refine(CA.out _).mono ?_;rintro e w' ⟨rfl,hb⟩;have HW:Hid (Below w.heap.size w w'):=ZT (by repeat(first|exact ZR _|exact ZH (by assumption)|refine ZA ?_ _|refine ZD ?_|refine ZN ?_ _|exact Zco _ _ _)) hb;clear hb)|(go_at_call 162;refine(CK.out _).mono ?_;rintro e w' ⟨rfl,hb⟩;have HW:Hid (Below w.heap.size w w'):=ZT (by repeat(first|exact ZR _|exact ZH (by assumption)|refine ZA ?_ _|refine ZD ?_|refine ZN ?_ _|exact Zco _ _ _)) hb;clear hb)|fail)
        go_ret
        rw[HQ.out]
        exact⟨rfl,(by repeat(first|exact ZR _|exact ZH (by assumption)|refine ZA ?_ _|refine ZD ?_|refine ZN ?_ _|exact Zco _ _ _))⟩
     · obtain⟨N,hN⟩:∃ N,N=wordN (byteOf s) s.size:=⟨_,rfl⟩
       have CA:Hid (∀ w1,Calls prog 161 #[.slice (some ⟨w1.heap.size,0,none⟩) s.size (grownCap w1 s.size 0 5),.int .i64 0] (Lib.bytesWorld w1 5 s) fun e w'=>e=.returned (.int .i64 (N:Nat))/\Below (Lib.bytesWorld w1 5 s).heap.size (Lib.bytesWorld w1 5 s) w'):=by
        intro w1
        have:=asword_is _ _ (grownCap w1 s.size 0 5) _ _ (bytes_is w1 5 s) h0 h47
        rw[<-hN]at this
        exact this
       have hne:((N:Int)==(s.size:Int))=false:=beq_eq_false_iff_ne.2 (by omega)
       have HQ:Hid (B=false):=by show _=_;rw[HQ0.out,decide_eq_false hn];rfl
       clear HQ0 hn hN
       go_wp2_with (first|(go_at_call 161;refine(CA.out _).mono ?_;rintro e w' ⟨rfl,hb⟩;have HW:Hid (Below w.heap.size w w'):=ZT (by repeat(first|exact ZR _|exact ZH (by assumption)|refine ZA ?_ _|refine ZD ?_|refine ZN ?_ _|exact Zco _ _ _)) hb;clear hb)|fail)
       go_ret
       rw[HQ.out]
       exact⟨rfl,(by repeat(first|exact ZR _|exact ZH (by assumption)|refine ZA ?_ _|refine ZD ?_|refine ZN ?_ _|exact Zco _ _ _))⟩
   · have HQ:Hid (B=false):=by show _=_;rw[HB.out];unfold nameB;rw[decide_eq_true h0,decide_eq_false h24];rfl
     clear HB
     go_wp2_with fail
     all_goals
      go_ret
      rw[HQ.out]
      exact⟨rfl,ZR _⟩
def winB (k z:Int):Bool:=if k=1 then decide (z=0)else decide (1<k)&&(decide (k<=4)&&(decide (1<=z)&&decide (z<=1099511627776)))
theorem window_is (k z:Int)(w:World):Calls prog 230 #[.agg #[.int .i64 k,.int .i64 z]] w fun e w'=>e=.returned (.bool (winB k z))/\Below w.heap.size w w':=by
 by_cases h1:k=1
 · subst h1
   by_cases h2:z=0
   · subst h2
     go_enter func230,ntmps230
     go_wp2_with fail
     go_ret
     exact⟨rfl,ZA (ZR w) _⟩
   · have e2:(z==0)=false:=beq_eq_false_iff_ne.2 h2
     go_enter func230,ntmps230
     go_wp2_with fail
     go_ret
     exact⟨by simp[winB,h2],ZA (ZR w) _⟩
 · have e1:(k==1)=false:=beq_eq_false_iff_ne.2 h1
   by_cases h2:1<k<;>by_cases h3:k<=4<;>by_cases h4:1<=z<;>by_cases h5:z<=1099511627776
   all_goals first
    |(exfalso;omega)
    |(go_enter func230,ntmps230;go_wp2_with fail;go_ret;exact⟨by simp[winB,h1,h2,h3,h4,h5],ZA (ZR w) _⟩)
end Go.Proofs.YtfnpfkgmacaboaaGreat
