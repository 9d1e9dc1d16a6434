/- Texts joined by a program. -/
import Derived.Test.YtfnpfkgmacaboaaGreatM25
import Derived.Test.YtfnpfkgmacaboaaGreatM28
namespace Go.Proofs.YtfnpfkgmacaboaaGreat
open Go.Proofs.Tryz
open Lib (hid)
open Go.ChangeShapes Go.WideShapes Go.ChangeAt Go.RowKit
set_option linter.unusedVariables false
set_option linter.unusedSimpArgs false
set_option maxRecDepth 100000
set_option maxHeartbeats 4000000
theorem elV:El prog 198 33 2 24:=⟨underlying33,by kernel_rfl,by decide,by decide⟩
def OwnU (w:World)(B:Nat)(v:Value)(l:List FID):Prop:=Own fidC 2 198 w B v l/\∀ f∈l,f.1.size<=140737488355328/\I64 f.2
theorem OwnU.kept {w w':World}{B:Nat}{v:Value}{l:List FID}(h:OwnU w B v l)(hb:Below w.heap.size w w'):OwnU w' B v l:=⟨h.1.kept hb,h.2⟩
theorem OwnU.mono {w:World}{B B':Nat}{v:Value}{l:List FID}(h:OwnU w B v l)(hB:B'<=B):OwnU w B' v l:=⟨h.1.mono hB,h.2⟩
theorem OwnU.nil (w:World)(B:Nat):OwnU w B (.slice none 0 0) []:=⟨Own.nil w B,fun d hd=>by cases hd⟩
theorem OwnU.unit {w:World}{B:Nat}{v:Value}{l:List FID}(h:OwnU w B v l)(hl:l.length<=140737488355328):∃ ao c,v=.slice ao l.length c/\(ao=none->c=0)/\ZaH w ao l.length:=by
 obtain⟨ao,c,h1,-,h3,h4⟩:=h.1.lies Zbi
 exact⟨ao,c,h1,h3,l,rfl,hl,h.2,h4⟩
theorem OwnU.is {w:World}{B:Nat}{v:Value}{l:List FID}(h:OwnU w B v l)(hl:l.length<=140737488355328):∃ ao c,v=.slice ao l.length c/\(ao=none->c=0)/\UnIs w ao l:=by
 obtain⟨ao,c,h1,-,h3,h4⟩:=h.1.lies Zbi
 exact⟨ao,c,h1,h3,hl,h.2,h4⟩
def invU (us:List FID):List FID:=us.map (fun f=>(f.1,IntKind.i64.wrap (-f.2)))
theorem inverse_is (us:List FID)(hn:us.length<=100000000)(a:Option Addr)(c:Nat)(w:World)(h:UnIs w a us):Calls prog 235 #[.slice a us.length c] w fun e w'=>∃ v,e=.returned v/\OwnU w' w.heap.size v (invU us)/\Below w.heap.size w w':=by
 obtain⟨hu,hs,h1⟩:=h
 have H:=hid h1
 have Qg:=hid hs
 clear h1 hs
 go_enter func235,ntmps235
 go_wp2_with fail
 go_loopw [3,4] (fun v jj wr=>∃ (i:Nat) (l:List FID) (v0:Value),v0=v/\i<=us.length/\jj=.int .i64 i/\Hid (OwnU wr w.heap.size v l/\l.length=i)/\Hid (invU us=l++invU (us.drop i))/\Hid (Below w.heap.size w wr)) (fun _ jj _=>us.length - (intOf jj).toNat)
 case atStart=>exact⟨0,[],_,rfl,by omega,rfl,⟨OwnU.nil _ _,by simp⟩,hid rfl,Below.refl _ _⟩
 case round =>
  obtain⟨i,l,v0,rfl,hi,rfl,hO,HI,hB⟩:=hrel
  have HO:Hid (OwnU wr w.heap.size v0 l):=hO.out.1
  have Xh:Hid (l.length=i):=hO.out.2
  clear hO
  by_cases hlt:i<us.length
  · obtain⟨f,hf⟩:∃ f,us[i]?=some f:=⟨us[i],List.getElem?_eq_getElem hlt⟩
    obtain⟨b1,o1,rfl,Da⟩:=(H.out.kept hB.out).some (by omega)
    obtain⟨c0,c1⟩:=Za2 Da hf
    have Jn:Hid (f.1.size<=140737488355328):=(Qg.out f (List.mem_of_getElem? hf)).1
    have HF:=hid hf
    have HN:Hid (invU us=(l++[(f.1,IntKind.i64.wrap (-f.2))])++invU (us.drop (i+1))):=by show _=_;rw[HI.out,ZaD hf];simp[invU]
    clear Da hf HI
    have Mb:Hid (l.length+[(f.1,IntKind.i64.wrap (-f.2))].length<=1000000000):=by show _<=_;have:=Xh.out;simp;omega
    have Tf:Hid (∀ w',Below w.heap.size w w'->w'.cell? ⟨b1,o1+i*2,none⟩=some (.string f.1)/\w'.cell? ⟨b1,o1+i*2+1,none⟩=some (.int .i64 f.2)):=by
     intro w' hb
     obtain⟨b',o',he,hr⟩:=(H.out.kept hb).some (by omega)
     injection he with he;injection he with e1 e2 e3;subst e1 e2
     exact Za2 hr HF.out
    obtain⟨y,hy⟩:∃ y:FID,y=(f.1,IntKind.i64.wrap (-f.2)):=⟨_,rfl⟩
    have HY:=hid hy
    rw[<-hy]at Mb
    have Lb:Hid (Below w.heap.size w (wr.drew.alloc (.cells (fidC y).toArray 198))):=(hB.out.drew).alloc hB.out.size _
    have Wd:Hid (Own fidC 2 198 (wr.drew.alloc (.cells (fidC y).toArray 198)) w.heap.size v0 l):=HO.out.1.kept (((Below.refl _ wr).drew).alloc (Nat.le_refl _) _)
    have Ho:Hid (Zac fidC 2 (wr.drew.alloc (.cells (fidC y).toArray 198)) (some ⟨wr.heap.size,0,none⟩) [y]):=Zav y wr.drew Zbi
    subst hy
    clear c0 c1
    go_upto_region 5 with fail
    go_region_held3 (fun w'=>w'.cell? ⟨b1,o1+i*2,none⟩=some (.string f.1)/\w'.cell? ⟨b1,o1+i*2+1,none⟩=some (.int .i64 f.2))
     (first|exact Tf.out _ (hB.out.drew)|exact Tf.out _ Lb.out|exact Tf.out _ (Lb.out.grown Hi.out Lb.out.size (fun k e=>(Wd.out.lt k e).1)))
     (first|(refine ZdK elV Zbi rfl (.tmp 11) (.tmp 24) rfl rfl rfl Wd.out Ho.out (by simp) rfl Lb.out.size Mb.out ?_;intro v9 w9 ho hg hv;have Sb:=hid ho;have Hi:=hid hg;clear ho hg hv))
    have Qa:Hid (Below w.heap.size w w9):=Lb.out.grown Hi.out Lb.out.size (fun k e=>(Wd.out.lt k e).1)
    go_wp2_with fail
    go_roundw
    case rel =>
     refine⟨i+1,l++[(f.1,IntKind.i64.wrap (-f.2))],_,rfl,by omega,by go_num,⟨⟨Sb.out,fun s hs=>?_⟩,?_⟩,HN,Qa.out⟩
     · simp only[List.mem_append,List.mem_singleton]at hs
       rcases hs with hs|hs
       · exact HO.out.2 s hs
       · rw[hs];exact⟨Jn.out,I64.wrap _⟩
     · have:=Xh.out;simp;omega
    case measure=>simp[intOf];omega
  · go_wp2_with fail
    go_ret
    exact⟨_,rfl,(by rw[HI.out,List.drop_of_length_le (by omega)];simpa [invU]using HO.out),hB.out⟩
def accN (ex:ByteArray->Int × Bool):List ByteArray->List FID->Option (List FID)
 |[],l=>some l
 |s :: r,l=>if (ex s).2=true then accN ex r (if ((ex s).1==0)=true then l else l++[(s,(ex s).1)])else none
theorem accN_at {ex:ByteArray->Int × Bool}{N:List ByteArray}{i:Nat}{s:ByteArray}(l:List FID)(h:N[i]?=some s):accN ex (N.drop i) l=(if (ex s).2=true then accN ex (N.drop (i+1)) (if ((ex s).1==0)=true then l else l++[(s,(ex s).1)])else none):=by rw[ZaD h];rfl
def TwoR (z:Bool)(L:List FID)(w:World)(e:Ending)(w':World):Prop:=∃ v k,e=.returned (.tuple #[v,.int .i64 k])/\(z=true->k=0)/\(z=false->k≠0)/\OwnU w' w.heap.size v L/\Below w.heap.size w w'
theorem TwoR.bad {z:Bool}{L:List FID}{w w':World}{k:Int}(hz:z=true->False)(hL:z=false->L=[])(hk:k≠0)(hb:Below w.heap.size w w'):TwoR z L w (.returned (.tuple #[.slice none 0 0,.int .i64 k])) w':=by
 refine⟨_,_,rfl,fun h=>(hz h).elim,fun _=>hk,?_,hb⟩
 have:z=false:=by cases z with
  |true=>exact(hz rfl).elim
  |false=>rfl
 rw[hL this]
 exact OwnU.nil _ _
theorem normal_det (us:List FID)(hn:us.length<=100000000):∃ (z:Bool) (L:List FID),L.length<=4/\(z=false->L=[])/\∀ (a:Option Addr) (c:Nat) (w:World),UnIs w a us->Calls prog 234 #[.slice a us.length c] w (TwoR z L w):=by
 obtain⟨wd,hwd⟩:=ZbY (D:=fun s:ByteArray=>s.size<=140737488355328) (fun s hs=>word7_det s hs)
 obtain⟨NL,hnl,hnm⟩:=names_det us hn
 obtain⟨ex,hex⟩:=pick (P:=fun(s:ByteArray) (p:Int × Bool)=>I64 p.1/\∀ (a:Option Addr) (c:Nat) (w:World),UnIs w a us->Calls prog 237 #[.slice a us.length c,.string s] w fun e w'=>e=.returned (.tuple #[.int .i64 p.1,.bool p.2])/\Below w.heap.size w w') (fun s=>let ⟨x,b,h⟩:=exponent_det us s;⟨(x,b),h⟩)
 obtain⟨K,hK⟩:=Zcs (∀ j,j<us.length->∀ f,us[j]?=some f->wd f.1=true)
 obtain⟨z,L,Ea,Fa,Ef,hz4⟩:∃ (z:Bool) (L:List FID),(z=true->K=true/\accN ex NL []=some L)/\(z=false->L=[])/\L.length<=4/\(K=true->∀ l,accN ex NL []=some l->l.length<=4->z=true):=by
  by_cases h:K=true/\∃ l,accN ex NL []=some l/\l.length<=4
  · obtain⟨h1,l,h2,h3⟩:=h
    exact⟨true,l,fun _=>⟨h1,h2⟩,(fun e=>by cases e),h3,fun _ _ _ _=>rfl⟩
  · exact⟨false,[],(fun e=>by cases e),fun _=>rfl,by simp,fun h1 l h2 h3=>(h ⟨h1,l,h2,h3⟩).elim⟩
 have Ou:=hid hwd
 have Po:=hid hnm
 have Cf:=hid hex
 have HK:=hid hK
 have Jb:=hid Ea
 have Dc:=hid Fa
 have Nk:=hid hz4
 clear hwd hnm hex hK Ea hz4
 refine⟨z,L,Ef,Fa,fun a c w h=>?_⟩
 have Fl:=hid Ef
 clear Fa Ef
 have HU:=hid h
 obtain⟨hu,hs,h1⟩:=h
 have H:=hid h1
 have Qg:=hid hs
 clear h1 hs
 go_enter func234,ntmps234
 go_wp2_with fail
 go_loopw [4] (fun v wr=>∃ i:Nat,i<=us.length/\v=.int .i64 i/\Hid (∀ j,j<i->∀ f,us[j]?=some f->wd f.1=true)/\Hid (Below w.heap.size w wr)) (fun v _=>us.length - (intOf v).toNat)
 case atStart=>exact⟨0,by omega,rfl,hid (fun j hj=>by omega),Below.refl _ _⟩
 case round =>
  obtain⟨i,hi,rfl,HI,hB⟩:=hrel
  by_cases hlt:i<us.length
  · obtain⟨f,hf⟩:∃ f,us[i]?=some f:=⟨us[i],List.getElem?_eq_getElem hlt⟩
    obtain⟨b1,o1,rfl,Da⟩:=(H.out.kept hB.out).some (by omega)
    obtain⟨c0,c1⟩:=Za2 Da hf
    have hfs:f.1.size<=140737488355328:=(Qg.out f (List.mem_of_getElem? hf)).1
    obtain⟨r,HR,Ee,Ke⟩:∃ r,Hid (∀ w,Calls prog 209 #[.string f.1] w (RetB r w))/\Hid (r=false->z=true->False)/\Hid (r=true->∀ j,j<i+1->∀ f,us[j]?=some f->wd f.1=true) :=
     ⟨_,Ou.out _ hfs,hid (fun e h=>by have:=HK.out.1 (Jb.out h).1 i hlt f hf;rw[e]at this;cases this),hid (fun e=>Za9 HI.out (fun g hg=>by rw[hf]at hg;injection hg with hg;subst hg;exact e))⟩
    clear Da hf hfs
    go_wp2_with (first|(go_at_call 209;refine(HR.out _).mono ?_;rintro e w2 ⟨rfl,hb⟩;have HW:Hid (Below w.heap.size w w2):=ZT hB.out hb;clear hb;cases r)|fail)
    all_goals first
     |(go_ret2;exact TwoR.bad (Ee.out (by first|rfl|trivial)) Dc.out (by decide) HW.out)
     |(go_roundw;(case rel=>exact⟨i+1,by omega,by go_num,hid (Ke.out (by first|rfl|trivial)),HW⟩);(case measure=>simp[intOf];omega))
  · have HKT:Hid (K=true):=HK.out.2 (fun j hj=>HI.out j (by omega))
    go_wp2_with (first|(go_at_call 236;refine(Po.out _ _ _ (HU.out.kept hB.out)).mono ?_;rintro e w2 ⟨v2,rfl,ho,hb⟩;obtain⟨a2,c2,rfl,Fg,Ob,Xk⟩:=ho.1.lies encS;have Xu:=hid Xk;have Fo:=hid ho.2;have La:Hid (Below w.heap.size w w2):=ZT hB.out hb;clear ho hb Fg Ob Xk)|fail)
    go_loopw [7,8] (fun v jj wr=>∃ (i:Nat) (l:List FID) (v0:Value),v0=v/\i<=NL.length/\jj=.int .i64 i/\Hid (OwnU wr w2.heap.size v l/\l.length<=i)/\Hid (accN ex NL []=accN ex (NL.drop i) l)/\Hid (Below w2.heap.size w2 wr)) (fun _ jj _=>NL.length - (intOf jj).toNat)
    case atStart=>exact⟨0,[],_,rfl,by omega,rfl,⟨OwnU.nil _ _,by simp⟩,hid rfl,Below.refl _ _⟩
    case round =>
     clear hB
     obtain⟨i,l,v0,rfl,hi,rfl,hO,HA,hB⟩:=hrel
     have HO:Hid (OwnU wr w2.heap.size v0 l):=hO.out.1
     have Xh:Hid (l.length<=i):=hO.out.2
     have Wc:Hid (Below w.heap.size w wr):=ZT La.out hB.out
     clear hO
     by_cases Wg:i<NL.length
     · obtain⟨s,hs⟩:∃ s,NL[i]?=some s:=⟨NL[i],List.getElem?_eq_getElem Wg⟩
       have HS:=hid hs
       obtain⟨b2,o2,rfl,Bb⟩:=(Xu.out.kept hB.out).some (by omega)
       have c0:=Zbs Bb hs
       have HSC:Hid (∀ w',Below w2.heap.size w2 w'->w'.cell? ⟨b2,o2+i,none⟩=some (.string s)):=by
        intro w' hb
        obtain⟨b',o',he,hr⟩:=(Xu.out.kept hb).some (by omega)
        injection he with he;injection he with e1 e2 e3;subst e1 e2
        exact Zbs hr HS.out
       obtain⟨x,b,HX,HE,We,Ab,Cn⟩:∃ (x:Int) (b:Bool),Hid (I64 x)/\Hid (∀ (a:Option Addr) (c:Nat) (w:World),UnIs w a us->Calls prog 237 #[.slice a us.length c,.string s] w fun e w'=>e=.returned (.tuple #[.int .i64 x,.bool b])/\Below w.heap.size w w')/\Hid (b=false->z=true->False)/\Hid (b=true->(x==0)=true->accN ex NL []=accN ex (NL.drop (i+1)) l)/\Hid (b=true->(x==0)=false->accN ex NL []=accN ex (NL.drop (i+1)) (l++[(s,x)])) :=
        ⟨_,_,(Cf.out s).1,(Cf.out s).2,hid (fun e h=>by have h2:=(Jb.out h).2;rw[HA.out,accN_at l hs,if_neg (by rw[e];decide)]at h2;cases h2),hid (fun e e2=>by rw[HA.out,accN_at l hs,if_pos e,if_pos e2]),hid (fun e e2=>by rw[HA.out,accN_at l hs,if_pos e,if_neg (by rw[e2];decide)])⟩
       clear Bb hs HA
       have Ag:Hid (s.size<=140737488355328):=Fo.out s (List.mem_of_getElem? HS.out)
       go_wp2_with (first
        |(go_at_call 237;refine(HE.out _ _ _ (HU.out.kept Wc.out)).mono ?_;rintro e w3 ⟨rfl,hb⟩;have Ib:Hid (Below w2.heap.size w2 w3):=ZT hB.out hb;have Gb:Hid (Below w.heap.size w w3):=ZT Wc.out hb;have Sb:=hid (HO.out.kept hb);have c0:=HSC.out _ Ib.out;clear hb;cases b)
        |(at_builtin;refine Zai elV Zbi rfl (.tmp 46) (.tmp 53) rfl rfl rfl (Sb.out.1.kept (Zab _)) (Zav (s,x) _ Zbi) rfl (fun e=>by cases e) (Nat.le_trans Ib.out.size (Zab _).size) (by have:=Xh.out;simp;omega) ?_;intro v9 w9 ho hb;have Mo:=hid ho;have HX9:Hid (Below w2.heap.size w2 w9):=hid ((Ib.out.alloc Ib.out.size _).trans hb);clear ho hb)
        |fail)
       all_goals first
        |(go_ret2;exact TwoR.bad (We.out (by first|rfl|trivial)) Dc.out (by decide) Gb.out)
        |(go_roundw;(case rel=>(first|exact⟨i+1,l++[(s,x)],_,rfl,by omega,by go_num,⟨⟨Mo.out,fun q hq=>by(simp only[List.mem_append,List.mem_singleton]at hq;rcases hq with hq|hq;exact HO.out.2 q hq;rw[hq];exact⟨Ag.out,HX.out⟩)⟩,by have:=Xh.out;simp;omega⟩,Cn.out (by first|rfl|trivial) (by simp_all),HX9.out⟩|exact⟨i+1,l,_,rfl,by omega,by go_num,⟨Sb.out,by have:=Xh.out;omega⟩,Ab.out (by first|rfl|trivial) (by simp_all),Ib.out⟩));(case measure=>simp[intOf];omega))
     · have Dg:Hid (accN ex NL []=some l):=by show _=_;rw[HA.out,List.drop_of_length_le (by omega)];rfl
       clear HA
       have Cj:Hid (∃ aa cc,v0=.slice aa l.length cc):=by obtain⟨aa,cc,hv,-,-⟩:=HO.out.unit (by have:=Xh.out;omega);exact⟨aa,cc,hv⟩
       obtain⟨aa,cc,rfl⟩:=Cj.out
       by_cases h4:(4:Int)<(l.length:Int)
       · have HF:Hid (z=true->False):=fun h=>by
           have h2:=(Jb.out h).2
           rw[Dg.out]at h2
           injection h2 with h2
           have:=Fl.out
           rw[h2]at h4
           omega
         go_wp2_with fail
         go_ret2
         exact TwoR.bad HF.out Dc.out (by decide) Wc.out
       · have HT:Hid (z=true):=Nk.out HKT.out l Dg.out (by omega)
         have Yb:Hid (L=l):=by
          have h2:=(Jb.out HT.out).2
          rw[Dg.out]at h2
          injection h2 with h2
          exact h2.symm
         go_wp2_with fail
         go_ret2
         exact⟨_,_,rfl,fun _=>rfl,fun h=>absurd (h.symm.trans HT.out) (by decide),(by rw[Yb.out];exact HO.out.mono La.out.size),Wc.out⟩
theorem Zb5 {P:Program}{w:World}(base:Nat)(t ty e:TypeId)(i:TypeInfo)(size:Nat)(ht:P.underlying t=some (.slice e))(hi:P.info? e=some i)
 (v:Value) (n:Nat) (xs:List Value) (c:Nat) (hown:w.ownsRow base e size v n xs) :
 (Builtin.append_ #[t,t] ty #[v,.slice none 0 c]).run P w=.ok v w:=by
 rcases hown.2 with⟨rfl,rfl⟩|⟨g,cap,cur,rfl,_,_,hnc,_⟩
 · simp[Builtin.append_,run_underlying ht,sizeOf,typeInfo,hi,Builtin.lenOf,Builtin.firstCells]
 · simp[Builtin.append_,run_underlying ht,sizeOf,typeInfo,hi,Builtin.lenOf,Builtin.firstCells,hnc,storeCells]
theorem Zaw {P:Program}{α:Type}{enc:α->List Value}{k bytes:Nat}{e t:TypeId}{w:World}{B:Nat}{v:Value}{l m:List α}{ops:Array Oper}{rest:List Oper}{o:Oper}{a:Act}{Q:Exit->Act->World->Prop}{ao:Option Addr}{n c:Nat}(E:El P e t k bytes)(hE:Enc enc k)(hgd:o.guard=none)(s x:Operand)
 (ho:o.op=.call { callee:=.builtin .append,args:=#[s,x],argTypes:=#[t,t] }) (hs:a.eval s=v) (hx:a.eval x=.slice ao n c)
 (hO:Own enc k e w B v l) (hS:Zac enc k w ao m) (hn:n=m.length) (hB:B<=w.heap.size) (hl:l.length+m.length<=1000000000)
 (h:∀ v' w1,Own enc k e w1 B v' (l++m)->Below B w w1->wpList P ops Q rest (a.put o.dst v') w1) :
 wpList P ops Q (o :: rest) a w:=by
 cases ao with
 |none =>
  have hk:m=[]:=by
   rcases hS with h|⟨_,_,h,_⟩
   · exact h
   · cases h
  subst hk
  subst hn
  obtain⟨i,z,hi,-⟩:=E.parts
  refine wpList_plain hgd fun K hK=>?_
  have hrun:=Zb5 (P:=P) (w:=w) B t o.type e i k E.und hi v _ _ c hO
  have hx':a.eval x=.slice none 0 c:=hx
  unfold Oper.wp
  simp[execOp,ho,resolve,invoke,builtin,hs,hx',hrun,Result.andThen]
  exact hK _ _ (h v w (by rw[List.append_nil];exact hO) (Below.refl _ _))
 |some ad=>exact Zai E hE hgd s x ho hs hx hO hS hn (fun e=>by cases e) hB hl h
theorem times_det (us vs:List FID):∃ (z:Bool) (L:List FID),L.length<=4/\(z=false->L=[])/\∀ (a b:Option Addr) (c d:Nat) (w:World),UnIs w a us->UnIs w b vs->Calls prog 232 #[.slice a us.length c,.slice b vs.length d] w (TwoR z L w):=by
 obtain⟨r1,Yf,Da⟩:=Zck us
 obtain⟨r2,Nd,Bb⟩:=Zck vs
 obtain⟨z,L,Gh,hz,hN,hF⟩:∃ (z:Bool) (L:List FID),L.length<=4/\(z=false->L=[])/\(r1=true->r2=true->∀ (a:Option Addr) (c:Nat) (w:World),UnIs w a ([]++us++vs)->Calls prog 234 #[.slice a ([]++us++vs).length c] w (TwoR z L w))/\(r1=false∨r2=false->z=false):=by
  by_cases h:r1=true/\r2=true
  · obtain⟨z,L,h1,h2,h3⟩:=normal_det ([]++us++vs) (by have:=Yf h.1;have:=Nd h.2;simp;omega)
    exact⟨z,L,h1,h2,fun _ _=>h3,fun e=>by rcases e with e|e<;>simp[e]at h⟩
  · refine⟨false,[],by simp,fun _=>rfl,fun h1 h2=>(h ⟨h1,h2⟩).elim,fun _=>rfl⟩
 have Ee:=hid Da
 have Ke:=hid Bb
 have Nb:=hid Yf
 have Mb:=hid Nd
 have HN:=hid hN
 have HF:=hid hF
 have HZ:=hid hz
 refine⟨z,L,Gh,hz,fun a b c d w h h'=>?_⟩
 clear Da Bb Yf Nd hN hF hz
 have HU:=hid h
 have HV:=hid h'
 obtain⟨-,hs,h1⟩:=h
 obtain⟨-,hs',h1'⟩:=h'
 have HL:=hid h1
 have HM:=hid h1'
 have HS:=hid hs
 have HT:=hid hs'
 clear h1 h1' hs hs'
 go_enter func232,ntmps232
 go_upto_region 4 with(first
  |(go_at_call 200;refine(Ee.out _ _ _ HU.out).mono ?_;rintro e w1 ⟨k1,rfl,Ea,Fa,hb⟩;have Ra:Hid (Below w.heap.size w w1):=hb;clear hb;rcases retz Ea Fa with⟨Da,rfl⟩|⟨Da,Qh⟩<;>clear Ea Fa)
  |fail)
 all_goals first
  |(go_ret2;exact TwoR.bad (fun h=>absurd (h.symm.trans (HF.out (Or.inl Da))) (by decide)) HZ.out (by assumption) Ra.out)
  |skip
 go_upto_region 7 with(first
  |(go_at_call 200;refine(Ke.out _ _ _ (HV.out.kept Ra.out)).mono ?_;rintro e w2 ⟨k2,rfl,Ea,Fa,hb⟩;have Ia:Hid (Below w.heap.size w w2):=ZT Ra.out hb;clear hb;rcases retz Ea Fa with⟨Bb,rfl⟩|⟨Bb,Ng⟩<;>clear Ea Fa)
  |fail)
 all_goals first
  |(go_ret2;exact TwoR.bad (fun h=>absurd (h.symm.trans (HF.out (Or.inr Bb))) (by decide)) HZ.out (by assumption) Ia.out)
  |skip
 have hn4:=Nb.out Da
 have hm4:=Mb.out Bb
 have Ab:=hid (HN.out Da Bb)
 have Hk:Hid (([]:List FID).length+us.length<=1000000000):=by show _<=_;simp;omega
 have Dg:Hid (([]++us).length+vs.length<=1000000000):=by show _<=_;simp;omega
 have Eu:Hid (([]++us++vs).length<=100000000):=by show _<=_;simp;omega
 have Du:Hid (∀ f∈[]++us++vs,f.1.size<=140737488355328/\I64 f.2):=fun f hf=>by
  simp only[List.nil_append,List.mem_append]at hf
  rcases hf with hf|hf
  · exact HS.out f hf
  · exact HT.out f hf
 go_upto_region 9 with(first
  |(at_builtin;refine Zaw elV Zbi rfl (.tmp 18) (.tmp 19) rfl rfl rfl (Own.nil _ w.heap.size) (HL.out.kept Ia.out) rfl Ia.out.size Hk.out ?_;intro v3 w3 ho hb;have Sb:=hid ho;have Qa:Hid (Below w.heap.size w w3):=hid (Ia.out.trans hb);clear ho hb)
  |(at_builtin;refine Zaw elV Zbi rfl (.tmp 20) (.tmp 21) rfl rfl rfl Sb.out (HM.out.kept Qa.out) rfl Qa.out.size Dg.out ?_;intro v4 w4 ho hb;have Pa:Hid (Below w.heap.size w w4):=hid (Qa.out.trans hb);have Ld:=hid ho;clear ho hb)
  |fail)
 clear HN
 generalize []++us++vs=q at *
 obtain⟨a4,c4,rfl,-,hu4⟩:=(show OwnU w4 w.heap.size v4 q from⟨Ld.out,Du.out⟩).is (by have:=Eu.out;omega)
 have HU5:=hid hu4
 clear hu4
 go_wp2_with (first
  |(go_at_call 234;refine(Ab.out _ _ _ HU5.out).mono ?_;rintro e w5 ⟨v5,k5,rfl,Ea,Fa,hv,hb⟩;have Jd:=hid (hv.mono Pa.out.size);have Ya:Hid (Below w.heap.size w w5):=ZT Pa.out hb;have Jb:=hid Ea;have Dc:=hid Fa;clear hv hb Ea Fa)
  |fail)
 go_ret2
 first|exact⟨_,⟨_,rfl⟩,Jb.out,Dc.out,Jd.out,Ya.out⟩|exact⟨_,_,rfl,Jb.out,Dc.out,Jd.out,Ya.out⟩
theorem over_det (us vs:List FID):∃ (z:Bool) (L:List FID),L.length<=4/\(z=false->L=[])/\∀ (a b:Option Addr) (c d:Nat) (w:World),UnIs w a us->UnIs w b vs->Calls prog 233 #[.slice a us.length c,.slice b vs.length d] w (TwoR z L w):=by
 obtain⟨r1,-,Da⟩:=Zck us
 obtain⟨r2,Nd,Bb⟩:=Zck vs
 obtain⟨z,L,Gh,hz,hN,hF⟩:∃ (z:Bool) (L:List FID),L.length<=4/\(z=false->L=[])/\(r1=true->r2=true->∀ (a b:Option Addr) (c d:Nat) (w:World),UnIs w a us->UnIs w b (invU vs)->Calls prog 232 #[.slice a us.length c,.slice b (invU vs).length d] w (TwoR z L w))/\(r1=false∨r2=false->z=false):=by
  by_cases h:r1=true/\r2=true
  · obtain⟨z,L,h1,h2,h3⟩:=times_det us (invU vs)
    exact⟨z,L,h1,h2,fun _ _=>h3,fun e=>by rcases e with e|e<;>simp[e]at h⟩
  · refine⟨false,[],by simp,fun _=>rfl,fun h1 h2=>(h ⟨h1,h2⟩).elim,fun _=>rfl⟩
 have Ee:=hid Da
 have Ke:=hid Bb
 have Mb:=hid Nd
 have HN:=hid hN
 have HF:=hid hF
 have HZ:=hid hz
 refine⟨z,L,Gh,hz,fun a b c d w h h'=>?_⟩
 clear Da Bb Nd hN hF hz
 have HU:=hid h
 have HV:=hid h'
 clear h h'
 go_enter func233,ntmps233
 go_upto_region 4 with(first
  |(go_at_call 200;refine(Ee.out _ _ _ HU.out).mono ?_;rintro e w1 ⟨k1,rfl,Ea,Fa,hb⟩;have Ra:Hid (Below w.heap.size w w1):=hb;clear hb;rcases retz Ea Fa with⟨Da,rfl⟩|⟨Da,Qh⟩<;>clear Ea Fa)
  |fail)
 all_goals first
  |(go_ret2;exact TwoR.bad (fun h=>absurd (h.symm.trans (HF.out (Or.inl Da))) (by decide)) HZ.out (by assumption) Ra.out)
  |skip
 go_upto_region 7 with(first
  |(go_at_call 200;refine(Ke.out _ _ _ (HV.out.kept Ra.out)).mono ?_;rintro e w2 ⟨k2,rfl,Ea,Fa,hb⟩;have Ia:Hid (Below w.heap.size w w2):=ZT Ra.out hb;clear hb;rcases retz Ea Fa with⟨Bb,rfl⟩|⟨Bb,Ng⟩<;>clear Ea Fa)
  |fail)
 all_goals first
  |(go_ret2;exact TwoR.bad (fun h=>absurd (h.symm.trans (HF.out (Or.inr Bb))) (by decide)) HZ.out (by assumption) Ia.out)
  |skip
 have hm4:=Mb.out Bb
 have HM4:Hid (vs.length<=100000000):=by show _<=_;omega
 have Ab:=hid (HN.out Da Bb)
 go_upto_region 7 with fail
 go_wp2_with (first
  |(go_at_call 235;refine(inverse_is vs HM4.out b d _ (HV.out.kept Ia.out)).mono ?_;rintro e w3 ⟨v3,rfl,ho,hb⟩;have HO:=hid ho;have Wf:=hid hb;clear ho hb)
  |fail)
 have Qa:Hid (Below w.heap.size w w3):=ZT Ia.out Wf.out
 obtain⟨a3,c3,rfl,-,Uk⟩:=HO.out.is (by unfold invU;rw[List.length_map];omega)
 have HU3:=hid Uk
 clear Uk
 refine(Ab.out a a3 c c3 w3 (HU.out.kept Qa.out) HU3.out).mono ?_
 rintro e w5 ⟨v5,k5,rfl,Ea,Fa,hv,hb⟩
 have Jd:=hid (hv.mono Qa.out.size)
 have Ya:Hid (Below w.heap.size w w5):=ZT Qa.out hb
 have Jb:=hid Ea
 have Dc:=hid Fa
 clear hv hb Ea Fa
 go_wp2_with fail
 go_ret2
 first|exact⟨_,⟨_,rfl⟩,Jb.out,Dc.out,Jd.out,Ya.out⟩|exact⟨_,_,rfl,Jb.out,Dc.out,Jd.out,Ya.out⟩
structure Ty where
 k:Int
 ua:Option Addr
 un:Nat
 uc:Nat
 o:ByteArray
def Ty.cells (t:Ty):List Value:=[.int .i64 t.k,.slice t.ua t.un t.uc,.string t.o]
structure Ta where
 k:Int
 us:List FID
 o:ByteArray
def Ta.zero:Ta:=⟨0,[],⟨#[]⟩⟩
instance:Inhabited Ta:=⟨Ta.zero⟩
def UnX (w0 w:World)(ua:Option Addr)(uc:Nat)(us:List FID):Prop:=UnIs w0 ua us∨(OwnU w w0.heap.size (.slice ua us.length uc) us/\us.length<=4)
theorem UnX.nil (w0 w:World)(ua:Option Addr)(uc:Nat):UnX w0 w ua uc []:=Or.inl (UnIs.nil _ _)
theorem UnX.kept {w0 w w':World}{ua:Option Addr}{uc:Nat}{us:List FID}(h:UnX w0 w ua uc us)(hb:Below w.heap.size w w'):UnX w0 w' ua uc us:=by
 rcases h with h|⟨h,h2⟩
 · exact Or.inl h
 · exact Or.inr ⟨h.kept hb,h2⟩
theorem UnX.is {w0 w:World}{ua:Option Addr}{uc:Nat}{us:List FID}(h:UnX w0 w ua uc us)(hw:Below w0.heap.size w0 w):UnIs w ua us:=by
 rcases h with h|⟨h,h2⟩
 · exact h.kept hw
 · obtain⟨ao,c,he,-,h3⟩:=h.is (by omega)
   injection he with e1 e2 e3
   subst e1
   exact h3
theorem UnX.put {w0 w w':World}{ua:Option Addr}{uc g:Nat}{us:List FID}{cs:Array Value}{t:TypeId}(h:UnX w0 w ua uc us)(hg:Box w g cs t)(ht:t≠198)(ho:∀ k,k≠g->w'.heap[k]?=w.heap[k]?):UnX w0 w' ua uc us:=by
 rcases h with h|⟨h,h2⟩
 · exact Or.inl h
 · exact Or.inr ⟨⟨h.1.same (fun k hk=>ho k (fun e=>h.1.ne_box hg ht (by rw[hk,e]))),h.2⟩,h2⟩
theorem UnX.putq {w0 w w':World}{g:Nat}{cs:Array Value}{t:TypeId}(ho:∀ k,k≠g->w'.heap[k]?=w.heap[k]?)(hg:Box w g cs t)(ht:t≠198)(ua:Option Addr)(uc:Nat)(us:List FID)(h:UnX w0 w ua uc us):UnX w0 w' ua uc us:=h.put hg ht ho
def TyR (z:Bool)(t:Ta)(w0 w:World)(e:Ending)(w':World):Prop:=∃ (ua:Option Addr) (uc:Nat) (n:Int),e=.returned (.tuple #[.agg #[.int .i64 t.k,.slice ua t.us.length uc,.string t.o],.int .i64 n])/\(z=true->n=0)/\(z=false->n≠0)/\UnX w0 w' ua uc t.us/\Below w.heap.size w w'
theorem TyR.bad {z:Bool}{t:Ta}{w0 w w':World}{n:Int}(hz:z=false)(ht:t=Ta.zero)(hn:n≠0)(h:Below w.heap.size w w'):TyR z t w0 w (.returned (.tuple #[.agg #[.int .i64 0,.slice none 0 0,.string ⟨#[]⟩],.int .i64 n])) w':=by
 subst ht
 exact⟨none,0,n,rfl,fun e=>absurd (hz.symm.trans e) (by decide),fun _=>hn,UnX.nil _ _ _ _,h⟩
theorem TyR.good {z:Bool}{t:Ta}{k:Int}{us:List FID}{o:ByteArray}{m:Nat}{ua:Option Addr}{uc:Nat}{w0 w w':World}(hz:z=true)(ht:t=⟨k,us,o⟩)(hm:m=us.length)(hu:UnX w0 w' ua uc us)(h:Below w.heap.size w w'):TyR z t w0 w (.returned (.tuple #[.agg #[.int .i64 k,.slice ua m uc,.string o],.int .i64 0])) w':=by
 subst ht hm
 exact⟨ua,uc,0,rfl,fun _=>rfl,fun e=>absurd (e.symm.trans hz) (by decide),hu,h⟩
theorem TyR.kind {z:Bool}{t:Ta}{k:Int}{w0 w w':World}(hz:z=true)(ht:t=⟨k,[],⟨#[]⟩⟩)(h:Below w.heap.size w w'):TyR z t w0 w (.returned (.tuple #[.agg #[.int .i64 k,.slice none 0 0,.string ⟨#[]⟩],.int .i64 0])) w':=TyR.good hz ht rfl (UnX.nil _ _ _ _) h
def TbsW (w0:World)(B:Nat)(w:World)(a:Option Addr)(n:Nat):Prop:=∃ l:List Tb,n=l.length/\l.length<=B/\(∀ t∈l,FdsAt w0 t.fa t.fn)/\Zac Tb.cells 4 w a l
theorem TbsW.kept {w0:World}{B:Nat}{w w':World}{a:Option Addr}{n:Nat}(h:TbsW w0 B w a n)(hb:Below w.heap.size w w'):TbsW w0 B w' a n :=
 let ⟨l,h1,h2,h3,h4⟩:=h;⟨l,h1,h2,h3,h4.kept hb⟩
theorem TbsW.nil (w0:World)(B:Nat)(w:World)(a:Option Addr):TbsW w0 B w a 0:=⟨[],rfl,Nat.zero_le _,fun f hf=>(by cases hf),Zac.nil _ _⟩
def FtsW (w0:World)(B:Nat)(w:World)(a:Option Addr)(n:Nat):Prop:=∃ l:List Ft,n=l.length/\l.length<=B/\(∀ t∈l,t.Ok w0)/\Zac Ft.cells 18 w a l
theorem FtsW.kept {w0:World}{B:Nat}{w w':World}{a:Option Addr}{n:Nat}(h:FtsW w0 B w a n)(hb:Below w.heap.size w w'):FtsW w0 B w' a n :=
 let ⟨l,h1,h2,h3,h4⟩:=h;⟨l,h1,h2,h3,h4.kept hb⟩
theorem FtsW.nil (w0:World)(B:Nat)(w:World)(a:Option Addr):FtsW w0 B w a 0:=⟨[],rfl,Nat.zero_le _,fun f hf=>(by cases hf),Zac.nil _ _⟩
theorem FtsW.at {w0:World}{B:Nat}{w:World}{a:Option Addr}{n:Nat}(h:FtsW w0 B w a n)(hw:Below w0.heap.size w0 w):FtsAt B w a n :=
 let ⟨l,h1,h2,h3,h4⟩:=h;⟨l,h1,h2,fun t ht=>(h3 t ht).kept hw,h4⟩
structure CatW (w0:World) (B:Nat) (w:World) (ta:Option Addr) (tn:Nat) (fa:Option Addr) (fn:Nat) (da:Option Addr) (dn:Nat) (qa:Option Addr) (qn:Nat):Prop where
 t:TbsW w0 B w ta tn
 f:FtsW w0 B w fa fn
 d:FtsW w0 B w da dn
 q:FtsW w0 B w qa qn
theorem CatW.kept {w0:World}{B:Nat}{w w':World}{ta:Option Addr}{tn:Nat}{fa:Option Addr}{fn:Nat}{da:Option Addr}{dn:Nat}{qa:Option Addr}{qn:Nat}(h:CatW w0 B w ta tn fa fn da dn qa qn)(hb:Below w.heap.size w w'):CatW w0 B w' ta tn fa fn da dn qa qn :=
 ⟨h.t.kept hb,h.f.kept hb,h.d.kept hb,h.q.kept hb⟩
theorem CatW.mono {w0:World}{B B':Nat}{w:World}{ta:Option Addr}{tn:Nat}{fa:Option Addr}{fn:Nat}{da:Option Addr}{dn:Nat}{qa:Option Addr}{qn:Nat}(h:CatW w0 B w ta tn fa fn da dn qa qn)(hB:B<=B'):CatW w0 B' w ta tn fa fn da dn qa qn :=
 ⟨let ⟨l,h1,h2,h3⟩:=h.t;⟨l,h1,by omega,h3⟩,let ⟨l,h1,h2,h3⟩:=h.f;⟨l,h1,by omega,h3⟩,let ⟨l,h1,h2,h3⟩:=h.d;⟨l,h1,by omega,h3⟩,let ⟨l,h1,h2,h3⟩:=h.q;⟨l,h1,by omega,h3⟩⟩
structure Bx (w V:World) (g:Nat) (w':World):Prop where
 old:Below w.heap.size w w'
 size:V.heap.size<=w'.heap.size
 same:∀ k,k<V.heap.size->k≠g->w'.heap[k]?=V.heap[k]?
theorem Bx.of {w V w':World}{g:Nat}(hV:Below w.heap.size w V)(h:Below V.heap.size V w'):Bx w V g w':=⟨ZT hV h,h.size,fun k hk _=>h.block k hk⟩
theorem Bx.box {w V w':World}{g k:Nat}{cs:Array Value}{t:TypeId}(h:Bx w V g w')(hb:Box V k cs t)(hk:k≠g):Box w' k cs t:=(h.same k hb.lt hk).trans hb
theorem Zfa {P:Program}{o:Oper}{a:Act}{w w9 V:World}{K:Act->World->Prop}{Q:Exit->Act->World->Prop}(ty:TypeId)(x y:Operand)(ho:o.op=.store ty x y)(hd:o.dst=none)(g:Nat)(t:TypeId)(cur:Array Value)(L:List Value)
 (hx:a.eval x=.pointer (some ⟨g,0,none⟩)) (hy:a.eval y=.agg L.toArray) (hg:Box w g cur t) (hi:(P.info? ty).map (·.size)=some L.length) (hs:L.length=cur.size) (h1:(L.all (·.oneCell'))=true) (hB:Bx w9 V g w) (hBg:w9.heap.size<=g)
 (h:∀ w',Box w' g L.toArray t->Bx w9 V g w'->(∀ k,k≠g->w'.heap[k]?=w.heap[k]?)->K a w'):o.wp P a w K Q:=by
 unfold Oper.wp execOp
 simp only[ho,hx,hy,Instr.storeAt,Instr.sureAddr,Sem.run_bind,Sem.run_pure,Result.andThen_ok,Zbl w g 0 t ty cur L hg hi (by omega) (List.all_eq_true.1 h1)]
 show K (a.put o.dst undef) _
 rw[hd,putC_all cur L hs]
 have hot:∀ k,k≠g->(w.setRow g L.toArray).heap[k]?=w.heap[k]?:=fun k hk=>by first|exact setRow_other _ _ _ _ hk|exact setRow_other _ _ hk
 exact h _ (Box.setRow hg _) ⟨ZbH hB.old hBg _,by rw[setRow_size];exact hB.size,fun k hk hne=>(hot k hne).trans (hB.same k hk hne)⟩ hot
def TysX (w0 w:World)(a:Option Addr)(ts:List Ta):Prop:=∃ rs:List Ty,rs.length=ts.length/\Zac Ty.cells 3 w a rs/\∀ (i:Nat) (r:Ty) (t:Ta),rs[i]?=some r->ts[i]?=some t->r.k=t.k/\r.un=t.us.length/\r.o=t.o/\UnX w0 w r.ua r.uc t.us
section
variable {P:Program} {α:Type} {enc:α->List Value} {k bytes:Nat} {e t:TypeId} {w:World} {B:Nat} {v:Value} {l m:List α} {o:Oper} {a:Act} {K:Act->World->Prop} {Q:Exit->Act->World->Prop} {ao:Option Addr} {n c:Nat}
theorem ZcV (E:El P e t k bytes)(hE:Enc enc k)(s x:Operand)
 (ho:o.op=.call { callee:=.builtin .append,args:=#[s,x],argTypes:=#[t,t] }) (hs:a.eval s=v) (hx:a.eval x=.slice ao n c)
 (hO:Own enc k e w B v l) (hS:Zac enc k w ao m) (hn:n=m.length) (hB:B<=w.heap.size) (hl:l.length+m.length<=1000000000)
 (h:∀ v' w1,Own enc k e w1 B v' (l++m)->Below B w w1->K (a.put o.dst v') w1):o.wp P a w K Q:=by
 obtain⟨i,z,hi,Xc,Ea,Fa,Ef⟩:=E.parts
 have hpos:=E.pos
 have hfew:=E.few
 subst hn
 cases ao with
 |none =>
  have hk:m=[]:=by
   rcases hS with h|⟨_,_,h,_⟩
   · exact h
   · cases h
  subst hk
  have hrun:=Zb5 (P:=P) (w:=w) B t o.type e i k E.und hi v _ _ c hO
  have hx':a.eval x=.slice none 0 c:=hx
  unfold Oper.wp
  simp[execOp,ho,resolve,invoke,builtin,hs,hx',hrun,Result.andThen]
  exact h v w (by rw[List.append_nil];exact hO) (Below.refl _ _)
 |some ad =>
  have hcells:∀ j v,(encs enc m)[j]?=some v->w.cell? (ad.add j)=some v:=by
   intro j u hj
   rcases hS with rfl|⟨b,off,he,hr⟩
   · simp[encs]at hj
   · injection he with he;subst he
     rw[ZbE];exact hr.cells hE.len hpos j u hj
  have hbytes:(l.length+m.length)*bytes<=140737488355328:=Nat.le_trans (Nat.mul_le_mul hl hfew) (by decide)
  refine wp_append_own w s x t ho B e i z k bytes E.und hi Xc Ea Fa Ef hpos v _ _ hs hO ad m.length c (encs enc m) hx (Za7 hE.len m) hcells (ZbB hE.one m) (by unfold maxLen;omega) hbytes hB ?_
  intro v' w1 hown hgr _
  refine h v' w1 ?_ ((Below.refl _ _).grown hgr hB (fun g hg=>(hO.lt g hg).1))
  unfold Own
  rw[Za8,List.length_append];exact hown
theorem Zef (E:El P e t k bytes)(hk:k<=1000)(x:Operand)(ho:o.op=.buildSlice t 1 #[(0,x)])(L:List Value)(hL:L.length=k)(hx:a.eval x=.agg L.toArray)
 (h:K (a.put o.dst (.slice (some ⟨w.heap.size,0,none⟩) 1 1)) (w.alloc (.cells L.toArray e))):o.wp P a w K Q:=by
 unfold Oper.wp execOp
 simp only[ho]
 have:(#[((0:Nat),x)].map fun(i,x)=>(i,a.eval x))=#[(0,.agg L.toArray)]:=by simp[hx]
 rw[this,Sem.run_bind,build_one E hk L hL w]
 exact h
end
theorem elFt:El prog 44 116 18 248:=⟨underlying116,by kernel_rfl,by decide,by decide⟩
theorem elTb:El prog 32 115 4 64:=⟨underlying115,by kernel_rfl,by decide,by decide⟩
structure FtsC (w0:World) (B:Nat) (w:World) (a:Option Addr) (n c:Nat):Prop where
 lies:FtsW w0 B w a n
 cap:n<=c
 zero:a=none->c=0
theorem FtsC.kept {w0:World}{B:Nat}{w w':World}{a:Option Addr}{n c:Nat}(h:FtsC w0 B w a n c)(hb:Below w.heap.size w w'):FtsC w0 B w' a n c:=⟨h.lies.kept hb,h.cap,h.zero⟩
theorem FtsC.nil (w0:World)(B:Nat)(w:World):FtsC w0 B w none 0 0:=⟨FtsW.nil _ _ _ _,Nat.le_refl _,fun _=>rfl⟩
theorem FtsC.own {w0 w:World}{B C:Nat}{v:Value}{l:List Ft}(h:Own Ft.cells 18 44 w B v l)(hl:l.length<=C)(hok:∀ t∈l,t.Ok w0):∃ a c,v=.slice a l.length c/\FtsC w0 C w a l.length c :=
 let ⟨a,c,h1,h2,h3,h4⟩:=h.lies encFt;⟨a,c,h1,⟨l,rfl,hl,hok,h4⟩,h2,h3⟩
def FtsPost (w0:World)(C:Nat)(w:World)(e:Ending)(w':World):Prop:=∃ a n c,e=.returned (.slice a n c)/\FtsC w0 C w' a n c/\Below w.heap.size w w'
def VerR (l:List Ft)(w:World)(e:Ending)(w':World):Prop:=∃ a c,e=.returned (.slice a l.length c)/\Zac Ft.cells 18 w' a l/\Below w.heap.size w w'
theorem versions_is (c_ta:Option Addr)(c_tn:Nat)(c_tc:Nat)(c_fa:Option Addr)(c_fc:Nat)(c_da:Option Addr)(c_dc:Nat)(c_qa:Option Addr)(c_qc:Nat)(lf ld lq:List Ft)(hlf:lf.length<=100000)(hld:ld.length<=100000)(hlq:lq.length<=100000)(w:World)(hf:Zac Ft.cells 18 w c_fa lf)(hd:Zac Ft.cells 18 w c_da ld)(hq:Zac Ft.cells 18 w c_qa lq):Calls prog 170 #[.agg #[.slice c_ta c_tn c_tc,.slice c_fa lf.length c_fc,.slice c_da ld.length c_dc,.slice c_qa lq.length c_qc]] w (VerR (lf++ld++lq) w):=by
 have Rt:=hid hf
 have Wt:=hid hd
 have An:=hid hq
 clear hf hd hq
 go_enter func170,ntmps170
 go_upto_region 1 with fail
 refine gen1 (fun V B0 Aa=>?_)
 have HS:Hid (∀ w',Below V.heap.size V w'->w'.cell? ⟨w.heap.size,0,none⟩=some (.slice c_ta c_tn c_tc)/\w'.cell? ⟨w.heap.size,1,none⟩=some (.slice c_fa lf.length c_fc)/\w'.cell? ⟨w.heap.size,2,none⟩=some (.slice c_da ld.length c_dc)/\w'.cell? ⟨w.heap.size,3,none⟩=some (.slice c_qa lq.length c_qc)):=fun w' h=>⟨(B0.out.kept h).cell 0 _ rfl,(B0.out.kept h).cell 1 _ rfl,(B0.out.kept h).cell 2 _ rfl,(B0.out.kept h).cell 3 _ rfl⟩
 obtain⟨Xa,Va,Ua,Rb⟩:=HS.out V (ZR V)
 have HF:Hid (Zac Ft.cells 18 V c_fa lf):=Rt.out.kept Aa.out
 have HD:Hid (Zac Ft.cells 18 V c_da ld):=Wt.out.kept Aa.out
 have HQ:Hid (Zac Ft.cells 18 V c_qa lq):=An.out.kept Aa.out
 have Nb:Hid (([]:List Ft).length+lf.length<=1000000000):=by show _<=_;simp;omega
 have Mb:Hid (([]++lf).length+ld.length<=1000000000):=by show _<=_;simp;omega
 have Zb:Hid (([]++lf++ld).length+lq.length<=1000000000):=by show _<=_;simp;omega
 have Vc:Hid (Own Ft.cells 18 44 (V.alloc (.cells #[] 44)) V.heap.size (.slice (some ⟨V.heap.size,0,none⟩) 0 0) []):=Own.lit (Nat.le_refl _)
 have Ra:Hid (Below V.heap.size V (V.alloc (.cells #[] 44))):=Zab _
 obtain⟨m0,m1,m2,m3⟩:=HS.out _ Ra.out
 go_wp2_with (first|(at_builtin;refine Zaw elFt encFt rfl (.tmp 4) (.tmp 6) rfl rfl rfl Vc.out (HF.out.kept Ra.out) rfl Ra.out.size Nb.out ?_;intro v2 w2 ho hb;have Fb:=hid ho;have Ia:Hid (Below V.heap.size V w2):=hid (Ra.out.trans hb);clear ho hb;have KK:=HS.out _ Ia.out;obtain⟨Xa,Va,Ua,Rb⟩:=KK)|(at_builtin;refine Zaw elFt encFt rfl (.tmp 8) (.tmp 10) rfl rfl rfl Fb.out (HD.out.kept Ia.out) rfl Ia.out.size Mb.out ?_;intro v3 w3 ho hb;have Sb:=hid ho;have Qa:Hid (Below V.heap.size V w3):=hid (Ia.out.trans hb);clear ho hb;have KK:=HS.out _ Qa.out;obtain⟨Xa,Va,Ua,Rb⟩:=KK)|(at_builtin;refine Zaw elFt encFt rfl (.tmp 12) (.tmp 14) rfl rfl rfl Sb.out (HQ.out.kept Qa.out) rfl Qa.out.size Zb.out ?_;intro v4 w4 ho hb;have Ld:=hid ho;have Pa:Hid (Below V.heap.size V w4):=hid (Qa.out.trans hb);clear ho hb)|fail)
 obtain⟨a5,c5,rfl,-,-,h5⟩:=Ld.out.lies encFt
 go_ret
 exact⟨_,_,rfl,h5,ZT Aa.out Pa.out⟩
theorem ZbW (a:Option Addr)(n c k:Nat)(hk:k<n)(w0:World)(B:Nat)(hB:B<=100000)(w:World)(h:FtsC w0 B w a n c):Calls prog 186 #[.slice a n c,.int .i64 k] w (FtsPost w0 B w):=by
 obtain⟨⟨l,rfl,hl,hok,h1⟩,hlc,hcn⟩:=h
 have H:=hid h1
 have Ma:=hid hok
 have Fj:=hid hcn
 have hcu:=fun w=>Za4 elFt a l.length c k (by omega) w
 obtain⟨A,hcf,hA1,hA2⟩:=Za5 elFt a l.length c (k+1) hk
 have Kc:=hid (h1.take k)
 have Tc:=hid (ZaV h1 hlc hA2)
 have Pd:Hid (k=(l.take k).length):=by show _=_;simp;omega
 have Oe:Hid (l.length - (k+1)=(l.drop (k+1)).length):=by show _=_;simp
 have Nb:Hid (([]:List Ft).length+(l.take k).length<=1000000000):=by show _<=_;simp;omega
 have Mb:Hid (([]++l.take k).length+(l.drop (k+1)).length<=1000000000):=by show _<=_;simp;omega
 have Zb:Hid (([]++l.take k++l.drop (k+1)).length<=B):=by show _<=_;simp;omega
 have Le:Hid (∀ t∈[]++l.take k++l.drop (k+1),t.Ok w0):=fun t ht=>by
  simp only[List.nil_append,List.mem_append]at ht
  rcases ht with ht|ht
  · exact Ma.out t (List.mem_of_mem_take ht)
  · exact Ma.out t (List.mem_of_mem_drop ht)
 have Vc:Hid (Own Ft.cells 18 44 (w.alloc (.cells #[] 44)) w.heap.size (.slice (some ⟨w.heap.size,0,none⟩) 0 0) []):=Own.lit (Nat.le_refl _)
 have Ra:Hid (Below w.heap.size w (w.alloc (.cells #[] 44))):=Zab _
 have ws:IntKind.i64.wrap ((k:Int)+1)=(k:Int)+1:=IntWalk.i64_in _ (by omega)
 simp only[Int.natCast_add,Int.natCast_one]at hcf
 clear h1 hok hcn hA1 hA2
 go_enter func186,ntmps186
 go_wp2_with (first|(at_builtin;refine Zaw elFt encFt rfl (.tmp 6) (.tmp 9) rfl rfl rfl Vc.out (Kc.out.kept Ra.out) Pd.out Ra.out.size Nb.out ?_;intro v2 w2 ho hb;have Fb:=hid ho;have Ia:Hid (Below w.heap.size w w2):=Ra.out.trans hb;clear ho hb)|(at_builtin;refine Zaw elFt encFt rfl (.tmp 11) (.tmp 15) rfl rfl rfl Fb.out (Tc.out.kept Ia.out) Oe.out Ia.out.size Mb.out ?_;intro v3 w3 ho hb;have Sb:=hid ho;have Qa:Hid (Below w.heap.size w w3):=Ia.out.trans hb;clear ho hb)|fail)
 obtain⟨a5,c5,rfl,h5⟩:=FtsC.own Sb.out Zb.out Le.out
 go_ret
 exact⟨_,_,_,rfl,h5,Qa.out⟩
open Go.Maps
section
variable {P:Program} {α:Type} {enc:α->List Value} {k bytes:Nat} {e t:TypeId} {w:World} {o:Oper} {a:Act} {K:Act->World->Prop} {Q:Exit->Act->World->Prop}
theorem op_litQ (E:El P e t k bytes)(hE:Enc enc k)(hk:k<=1000)(x:Operand)(ho:o.op=.buildSlice t 1 #[(0,x)])(y:α)(hx:a.eval x=.agg (enc y).toArray)
 (h:∀ g w',Lies enc k w' g 0 [y]->g=w.heap.size->g<w'.heap.size->Below w.heap.size w w'->K (a.put o.dst (.slice (some ⟨g,0,none⟩) 1 1)) w'):o.wp P a w K Q :=
 Zef E hk x ho (enc y) (hE.len y) hx (h _ _ (by
  rcases Zav (e:=e) y w hE with h|⟨b,off,he,h⟩
  · cases h
  · cases he;exact h) rfl (by simp) (Zab _))
end
set_option maxHeartbeats 2000000 in
theorem Ze4 (src tb ky:ByteArray)(seq kind ref ev:Int)(fa:Option Addr)(n c:Nat)(w:World) :
 Calls prog 23 #[.agg #[.string src,.int .i64 seq,.int .i64 kind,.int .i64 ref,.string tb,.string ky,.int .i64 ev,.slice fa n c]] w fun e w'=>e=.returned (fidV (baseF src seq kind ref))/\Below w.heap.size w w':=by
 by_cases hk:kind=1
 · subst hk
   go_enter func23,ntmps23
   go_wp2_with fail
   refine bodyPost_ret (v:=fidV (src,seq)) (by simp[results,Tryz.results23,go_sem]) rfl ⟨rfl,?_⟩
   first|exact Zak _ _|exact(((Zak _ _).setCell (by simp) _).setCell (by simp) _)
 · have hb:baseF src seq kind ref=(src,ref):=if_neg hk
   rw[hb]
   go_enter func23,ntmps23
   go_wp2_with fail
   refine bodyPost_ret (v:=fidV (src,ref)) (by simp[results,Tryz.results23,go_sem]) rfl ⟨rfl,?_⟩
   first|exact Zak _ _|exact(((Zak _ _).setCell (by simp) _).setCell (by simp) _)
def rw0:Rw:=⟨⟨#[]⟩,0,⟨#[]⟩,⟨#[]⟩,0,none,0,0,0,[]⟩
end Go.Proofs.YtfnpfkgmacaboaaGreat
