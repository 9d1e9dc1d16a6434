/- Texts joined by a program. -/
import Derived.Test.YtfnpfkgmacaboaaGreatM13
import Derived.Test.YtfnpfkgmacaboaaGreatM24
import Derived.Test.YtfnpfkgmacaboaaGreatM27
namespace Go.Proofs.YtfnpfkgmacaboaaGreat
open Go.Proofs.Tryz
open Lib (hid)
open Go.ChangeShapes Go.WideShapes Go.ChangeAt Go.RowKit
set_option linter.unusedVariables false
set_option linter.unusedSimpArgs false
set_option maxRecDepth 100000
set_option maxHeartbeats 4000000
theorem elV:El prog 198 33 2 24:=⟨underlying33,by kernel_rfl,by decide,by decide⟩
def OwnU (w:World)(B:Nat)(v:Value)(l:List FID):Prop:=Own fidC 2 198 w B v l/\∀ f∈l,f.1.size<=140737488355328/\I64 f.2
theorem OwnU.kept {w w':World}{B:Nat}{v:Value}{l:List FID}(h:OwnU w B v l)(hb:Below w.heap.size w w'):OwnU w' B v l:=⟨h.1.kept hb,h.2⟩
theorem OwnU.mono {w:World}{B B':Nat}{v:Value}{l:List FID}(h:OwnU w B v l)(hB:B'<=B):OwnU w B' v l:=⟨h.1.mono hB,h.2⟩
theorem OwnU.nil (w:World)(B:Nat):OwnU w B (.slice none 0 0) []:=⟨Own.nil w B,fun d hd=>by cases hd⟩
theorem OwnU.unit {w:World}{B:Nat}{v:Value}{l:List FID}(h:OwnU w B v l)(hl:l.length<=140737488355328):∃ ao c,v=.slice ao l.length c/\(ao=none->c=0)/\Zao w ao l.length:=by
 obtain⟨ao,c,h1,-,h3,h4⟩:=h.1.lies Zcm
 exact⟨ao,c,h1,h3,l,rfl,hl,h.2,h4⟩
theorem inverse_any (a:Option Addr)(n c:Nat)(hn:n<=100000000)(w:World)(h:Zao w a n):Calls prog 235 #[.slice a n c] w fun e w'=>∃ v l,e=.returned v/\OwnU w' w.heap.size v l/\l.length=n/\Below w.heap.size w w':=by
 obtain⟨us,rfl,hu,hs,h1⟩:=h
 have H:=hid h1
 have HSZ:=hid hs
 clear h1 hs
 go_enter func235,ntmps235
 go_wp2_with fail
 go_loopw [3,4] (fun v jj wr=>∃ (i:Nat) (l:List FID) (v0:Value),v0=v/\i<=us.length/\jj=.int .i64 i/\Hid (OwnU wr w.heap.size v l/\l.length=i)/\Hid (Below w.heap.size w wr)) (fun _ jj _=>us.length - (intOf jj).toNat)
 case atStart=>exact⟨0,[],_,rfl,by omega,rfl,⟨OwnU.nil _ _,by simp⟩,Below.refl _ _⟩
 case round =>
  obtain⟨i,l,v0,rfl,hi,rfl,hO,hB⟩:=hrel
  have HO:Hid (OwnU wr w.heap.size v0 l):=hO.out.1
  have HLI:Hid (l.length=i):=hO.out.2
  clear hO
  by_cases hlt:i<us.length
  · obtain⟨f,hf⟩:∃ f,us[i]?=some f:=⟨us[i],List.getElem?_eq_getElem hlt⟩
    obtain⟨b1,o1,rfl,hr1⟩:=(H.out.kept hB.out).some (by omega)
    obtain⟨c0,c1⟩:=Zbj hr1 hf
    have HFS:Hid (f.1.size<=140737488355328):=(HSZ.out f (List.mem_of_getElem? hf)).1
    have HF:=hid hf
    clear hr1 hf
    have HL2:Hid (l.length+[(f.1,IntKind.i64.wrap (-f.2))].length<=1000000000):=by show _<=_;have:=HLI.out;simp;omega
    have HFC:Hid (∀ w',Below w.heap.size w w'->w'.cell? ⟨b1,o1+i*2,none⟩=some (.string f.1)/\w'.cell? ⟨b1,o1+i*2+1,none⟩=some (.int .i64 f.2)):=by
     intro w' hb
     obtain⟨b',o',he,hr⟩:=(H.out.kept hb).some (by omega)
     injection he with he;injection he with e1 e2 e3;subst e1 e2
     exact Zbj hr HF.out
    obtain⟨y,hy⟩:∃ y:FID,y=(f.1,IntKind.i64.wrap (-f.2)):=⟨_,rfl⟩
    have HY:=hid hy
    rw[<-hy]at HL2
    have HXA:Hid (Below w.heap.size w (wr.drew.alloc (.cells (fidC y).toArray 198))):=(hB.out.drew).alloc hB.out.size _
    have HOX:Hid (Own fidC 2 198 (wr.drew.alloc (.cells (fidC y).toArray 198)) w.heap.size v0 l):=HO.out.1.kept (((Below.refl _ wr).drew).alloc (Nat.le_refl _) _)
    have HSL:Hid (Zaf fidC 2 (wr.drew.alloc (.cells (fidC y).toArray 198)) (some ⟨wr.heap.size,0,none⟩) [y]):=ZaG y wr.drew Zcm
    subst hy
    clear c0 c1
    go_upto_region 5 with fail
    go_region_held3 (fun w'=>w'.cell? ⟨b1,o1+i*2,none⟩=some (.string f.1)/\w'.cell? ⟨b1,o1+i*2+1,none⟩=some (.int .i64 f.2))
     (first|exact HFC.out _ (hB.out.drew)|exact HFC.out _ HXA.out|exact HFC.out _ (HXA.out.grown HG9.out HXA.out.size (fun k e=>(HOX.out.lt k e).1)))
     (first|(refine Zd0 elV Zcm rfl (.tmp 11) (.tmp 24) rfl rfl rfl HOX.out HSL.out (by simp) rfl HXA.out.size HL2.out ?_;intro v9 w9 ho hg hv;have HO3:=hid ho;have HG9:=hid hg;clear ho hg hv))
    have HX3:Hid (Below w.heap.size w w9):=HXA.out.grown HG9.out HXA.out.size (fun k e=>(HOX.out.lt k e).1)
    go_wp2_with fail
    go_roundw
    case rel =>
     refine⟨i+1,l++[(f.1,IntKind.i64.wrap (-f.2))],_,rfl,by omega,by go_num,⟨⟨HO3.out,fun s hs=>?_⟩,?_⟩,HX3.out⟩
     · simp only[List.mem_append,List.mem_singleton]at hs
       rcases hs with hs|hs
       · exact HO.out.2 s hs
       · rw[hs];exact⟨HFS.out,I64.wrap _⟩
     · have:=HLI.out;simp;omega
    case measure=>simp[intOf];omega
  · go_wp2_with fail
    go_ret
    exact⟨_,l,rfl,HO.out,by have:=HLI.out;omega,hB.out⟩
theorem normal_any (a:Option Addr)(n c:Nat)(hn:n<=100000000)(w:World)(h:Zao w a n):Calls prog 234 #[.slice a n c] w fun e w'=>∃ v l k,e=.returned (.tuple #[v,.int .i64 k])/\OwnU w' w.heap.size v l/\l.length<=4/\Below w.heap.size w w':=by
 have HU:=hid h
 obtain⟨us,rfl,hu,hs,h1⟩:=h
 have H:=hid h1
 have HSZ:=hid hs
 clear h1 hs
 go_enter func234,ntmps234
 go_wp2_with fail
 go_loopw [4] (fun v wr=>∃ i:Nat,i<=us.length/\v=.int .i64 i/\Hid (Below w.heap.size w wr)) (fun v _=>us.length - (intOf v).toNat)
 case atStart=>exact⟨0,by omega,rfl,Below.refl _ _⟩
 case round =>
  obtain⟨i,hi,rfl,hB⟩:=hrel
  by_cases hlt:i<us.length
  · obtain⟨f,hf⟩:∃ f,us[i]?=some f:=⟨us[i],List.getElem?_eq_getElem hlt⟩
    obtain⟨b1,o1,rfl,hr1⟩:=(H.out.kept hB.out).some (by omega)
    obtain⟨c0,c1⟩:=Zbj hr1 hf
    have HFS:Hid (f.1.size<=140737488355328):=(HSZ.out f (List.mem_of_getElem? hf)).1
    clear hr1 hf
    go_wp2_with (first|(go_at_call 209;refine(Ze2 f.1 HFS.out _).mono ?_;rintro e w2 ⟨b,rfl,hb⟩;have HW:Hid (Below w.heap.size w w2):=ZT hB.out hb;clear hb;cases b)|fail)
    all_goals first
     |(go_ret2;exact⟨_,[],_,rfl,OwnU.nil _ _,by simp,HW.out⟩)
     |(go_roundw;(case rel=>exact⟨i+1,by omega,by go_num,HW⟩);(case measure=>simp[intOf];omega))
  · go_wp2_with (first|(go_at_call 236;refine(names_any _ _ _ hn _ (HU.out.kept hB.out)).mono ?_;rintro e w2 ⟨v2,l2,rfl,ho,hl2,hb⟩;obtain⟨a2,c2,rfl,hq1,hq2,hq3⟩:=ho.1.lies encS;have HLS:=hid hq3;have HL2:=hid hl2;have HSS:=hid ho.2;have HB2:Hid (Below w.heap.size w w2):=ZT hB.out hb;clear ho hl2 hb hq1 hq2 hq3)|fail)
    have hl2:=HL2.out
    go_loopw [7,8] (fun v jj wr=>∃ (i:Nat) (l:List FID) (v0:Value),v0=v/\i<=l2.length/\jj=.int .i64 i/\Hid (OwnU wr w2.heap.size v l/\l.length<=i)/\Hid (Below w2.heap.size w2 wr)) (fun _ jj _=>l2.length - (intOf jj).toNat)
    case atStart=>exact⟨0,[],_,rfl,by omega,rfl,⟨OwnU.nil _ _,by simp⟩,Below.refl _ _⟩
    case round =>
     clear hB
     obtain⟨i,l,v0,rfl,hi,rfl,hO,hB⟩:=hrel
     have HO:Hid (OwnU wr w2.heap.size v0 l):=hO.out.1
     have HLI:Hid (l.length<=i):=hO.out.2
     have HBW:Hid (Below w.heap.size w wr):=ZT HB2.out hB.out
     clear hO
     by_cases hlt2:i<l2.length
     · obtain⟨s,hs⟩:∃ s,l2[i]?=some s:=⟨l2[i],List.getElem?_eq_getElem hlt2⟩
       have HS:=hid hs
       obtain⟨b2,o2,rfl,hr2⟩:=(HLS.out.kept hB.out).some (by omega)
       have c0:=Zbt hr2 hs
       have HSC:Hid (∀ w',Below w2.heap.size w2 w'->w'.cell? ⟨b2,o2+i,none⟩=some (.string s)):=by
        intro w' hb
        obtain⟨b',o',he,hr⟩:=(HLS.out.kept hb).some (by omega)
        injection he with he;injection he with e1 e2 e3;subst e1 e2
        exact Zbt hr HS.out
       clear hr2 hs
       have HSX:Hid (s.size<=140737488355328):=HSS.out s (List.mem_of_getElem? HS.out)
       go_wp2_with (first
        |(go_at_call 237;refine(exponent_any _ _ _ s _ (HU.out.kept HBW.out)).mono ?_;rintro e w3 ⟨x,b,rfl,hx,hb⟩;have HX:=hid hx;have HB3:Hid (Below w2.heap.size w2 w3):=ZT hB.out hb;have HBX:Hid (Below w.heap.size w w3):=ZT HBW.out hb;have HO3:=hid (HO.out.kept hb);have c0:=HSC.out _ HB3.out;clear hx hb;cases b)
        |(at_builtin;refine Zay elV Zcm rfl (.tmp 46) (.tmp 53) rfl rfl rfl (HO3.out.1.kept (Zab _)) (ZaG (s,x) _ Zcm) rfl (fun e=>by cases e) (Nat.le_trans HB3.out.size (Zab _).size) (by have:=HLI.out;simp;omega) ?_;intro v9 w9 ho hb;have HO9:=hid ho;have HX9:Hid (Below w2.heap.size w2 w9):=hid ((HB3.out.alloc HB3.out.size _).trans hb);clear ho hb)
        |fail)
       all_goals first
        |(go_ret2;exact⟨_,[],_,rfl,OwnU.nil _ _,by simp,HBX.out⟩)
        |(go_roundw;(case rel=>(first|exact⟨i+1,l++[(s,x)],_,rfl,by omega,by go_num,⟨⟨HO9.out,fun q hq=>by(simp only[List.mem_append,List.mem_singleton]at hq;rcases hq with hq|hq;exact HO.out.2 q hq;rw[hq];exact⟨HSX.out,HX.out⟩)⟩,by have:=HLI.out;simp;omega⟩,HX9.out⟩|exact⟨i+1,l,_,rfl,by omega,by go_num,⟨HO3.out,by have:=HLI.out;omega⟩,HB3.out⟩));(case measure=>simp[intOf];omega))
     · obtain rfl:i=l2.length:=by omega
       have HL0:Hid (∃ aa cc,v0=.slice aa l.length cc):=by obtain⟨aa,cc,hv,-,-⟩:=HO.out.unit (by have:=HLI.out;omega);exact⟨aa,cc,hv⟩
       obtain⟨aa,cc,rfl⟩:=HL0.out
       by_cases h4:(4:Int)<(l.length:Int)
       · go_wp2_with fail
         go_ret2
         exact⟨_,[],_,rfl,OwnU.nil _ _,by simp,HBW.out⟩
       · go_wp2_with fail
         go_ret2
         exact⟨_,⟨_,rfl⟩,l,HO.out.mono HB2.out.size,by omega,HBW.out⟩
theorem Zce {P:Program}{w:World}(base:Nat)(t ty e:TypeId)(i:TypeInfo)(size:Nat)(ht:P.underlying t=some (.slice e))(hi:P.info? e=some i)
 (v:Value) (n:Nat) (xs:List Value) (c:Nat) (hown:w.ownsRow base e size v n xs) :
 (Builtin.append_ #[t,t] ty #[v,.slice none 0 c]).run P w=.ok v w:=by
 rcases hown.2 with⟨rfl,rfl⟩|⟨g,cap,cur,rfl,_,_,hnc,_⟩
 · simp[Builtin.append_,run_underlying ht,sizeOf,typeInfo,hi,Builtin.lenOf,Builtin.firstCells]
 · simp[Builtin.append_,run_underlying ht,sizeOf,typeInfo,hi,Builtin.lenOf,Builtin.firstCells,hnc,storeCells]
theorem Za2 {P:Program}{α:Type}{enc:α->List Value}{k bytes:Nat}{e t:TypeId}{w:World}{B:Nat}{v:Value}{l m:List α}{ops:Array Oper}{rest:List Oper}{o:Oper}{a:Act}{Q:Exit->Act->World->Prop}{ao:Option Addr}{n c:Nat}(E:El P e t k bytes)(hE:Enc enc k)(hgd:o.guard=none)(s x:Operand)
 (ho:o.op=.call { callee:=.builtin .append,args:=#[s,x],argTypes:=#[t,t] }) (hs:a.eval s=v) (hx:a.eval x=.slice ao n c)
 (hO:Own enc k e w B v l) (hS:Zaf enc k w ao m) (hn:n=m.length) (hB:B<=w.heap.size) (hl:l.length+m.length<=1000000000)
 (h:∀ v' w1,Own enc k e w1 B v' (l++m)->Below B w w1->wpList P ops Q rest (a.put o.dst v') w1) :
 wpList P ops Q (o :: rest) a w:=by
 cases ao with
 |none =>
  have hk:m=[]:=by
   rcases hS with h|⟨_,_,h,_⟩
   · exact h
   · cases h
  subst hk
  subst hn
  obtain⟨i,z,hi,-⟩:=E.parts
  refine wpList_plain hgd fun K hK=>?_
  have hrun:=Zce (P:=P) (w:=w) B t o.type e i k E.und hi v _ _ c hO
  have hx':a.eval x=.slice none 0 c:=hx
  unfold Oper.wp
  simp[execOp,ho,resolve,invoke,builtin,hs,hx',hrun,Result.andThen]
  exact hK _ _ (h v w (by rw[List.append_nil];exact hO) (Below.refl _ _))
 |some ad=>exact Zay E hE hgd s x ho hs hx hO hS hn (fun e=>by cases e) hB hl h
def Zey (w:World)(e:Ending)(w':World):Prop:=∃ v l k,e=.returned (.tuple #[v,.int .i64 k])/\OwnU w' w.heap.size v l/\l.length<=4/\Below w.heap.size w w'
theorem times_any (a b:Option Addr)(n c m d:Nat)(w:World)(h:Zao w a n)(h':Zao w b m):Calls prog 232 #[.slice a n c,.slice b m d] w (Zey w):=by
 have HU:=hid h
 have HV:=hid h'
 obtain⟨us,rfl,-,hs,h1⟩:=h
 obtain⟨vs,rfl,-,hs',h1'⟩:=h'
 have HL:=hid h1
 have HM:=hid h1'
 have HS:=hid hs
 have HT:=hid hs'
 clear h1 h1' hs hs'
 unfold Zey
 go_enter func232,ntmps232
 go_upto_region 4 with(first
  |(go_at_call 200;refine(Zcs a us.length c _ HU.out).mono ?_;rintro e w1 ⟨r,rfl,hr,hb⟩;have HX1:Hid (Below w.heap.size w w1):=hb;clear hb;(by_cases h2:r=0<;>first|(have hn4:=hr h2;subst h2;clear hr)|(have h2':(r != 0)=true:=by simpa using h2)))
  |fail)
 all_goals first
  |(go_ret2;exact⟨_,[],_,rfl,OwnU.nil _ _,by simp,HX1.out⟩)
  |skip
 go_upto_region 7 with(first
  |(go_at_call 200;refine(Zcs b vs.length d _ (HV.out.kept HX1.out)).mono ?_;rintro e w2 ⟨r,rfl,hr,hb⟩;have HX2:Hid (Below w.heap.size w w2):=ZT HX1.out hb;clear hb;(by_cases h2:r=0<;>first|(have hm4:=hr h2;subst h2;clear hr)|(have h2':(r != 0)=true:=by simpa using h2)))
  |fail)
 all_goals first
  |(go_ret2;exact⟨_,[],_,rfl,OwnU.nil _ _,by simp,HX2.out⟩)
  |skip
 have HA1:Hid (([]:List FID).length+us.length<=1000000000):=by show _<=_;simp;omega
 have HA2:Hid (([]++us).length+vs.length<=1000000000):=by show _<=_;simp;omega
 have HA3:Hid (([]++us++vs).length<=100000000):=by show _<=_;simp;omega
 have HA4:Hid (∀ f∈[]++us++vs,f.1.size<=140737488355328/\I64 f.2):=fun f hf=>by
  simp only[List.nil_append,List.mem_append]at hf
  rcases hf with hf|hf
  · exact HS.out f hf
  · exact HT.out f hf
 go_upto_region 9 with(first
  |(at_builtin;refine Za2 elV Zcm rfl (.tmp 18) (.tmp 19) rfl rfl rfl (Own.nil _ w.heap.size) (HL.out.kept HX2.out) rfl HX2.out.size HA1.out ?_;intro v3 w3 ho hb;have HO3:=hid ho;have HX3:Hid (Below w.heap.size w w3):=hid (HX2.out.trans hb);clear ho hb)
  |(at_builtin;refine Za2 elV Zcm rfl (.tmp 20) (.tmp 21) rfl rfl rfl HO3.out (HM.out.kept HX3.out) rfl HX3.out.size HA2.out ?_;intro v4 w4 ho hb;have HX4:Hid (Below w.heap.size w w4):=hid (HX3.out.trans hb);have HO4:=hid ho;clear ho hb)
  |fail)
 generalize []++us++vs=q at *
 obtain⟨a4,c4,rfl,-,hu4⟩:=(show OwnU w4 w.heap.size v4 q from⟨HO4.out,HA4.out⟩).unit (by have:=HA3.out;omega)
 have HU5:=hid hu4
 clear hu4
 go_wp2_with (first
  |(go_at_call 234;refine(normal_any _ _ _ HA3.out _ HU5.out).mono ?_;rintro e w5 ⟨v5,l5,k5,rfl,hv,hl5,hb⟩;have HV5:=hid (hv.mono HX4.out.size);have HX5:Hid (Below w.heap.size w w5):=ZT HX4.out hb;clear hv hb)
  |fail)
 go_ret2
 first|exact⟨_,⟨_,rfl⟩,l5,HV5.out,hl5,HX5.out⟩|exact⟨_,l5,_,rfl,HV5.out,hl5,HX5.out⟩
theorem over_any (a b:Option Addr)(n c m d:Nat)(w:World)(h:Zao w a n)(h':Zao w b m):Calls prog 233 #[.slice a n c,.slice b m d] w (Zey w):=by
 have HU:=hid h
 have HV:=hid h'
 clear h h'
 unfold Zey
 go_enter func233,ntmps233
 go_upto_region 4 with(first
  |(go_at_call 200;refine(Zcs a n c _ HU.out).mono ?_;rintro e w1 ⟨r,rfl,hr,hb⟩;have HX1:Hid (Below w.heap.size w w1):=hb;clear hb;(by_cases h2:r=0<;>first|(have hn4:=hr h2;subst h2;clear hr)|(have h2':(r != 0)=true:=by simpa using h2)))
  |fail)
 all_goals first
  |(go_ret2;exact⟨_,[],_,rfl,OwnU.nil _ _,by simp,HX1.out⟩)
  |skip
 go_upto_region 7 with(first
  |(go_at_call 200;refine(Zcs b m d _ (HV.out.kept HX1.out)).mono ?_;rintro e w2 ⟨r,rfl,hr,hb⟩;have HX2:Hid (Below w.heap.size w w2):=ZT HX1.out hb;clear hb;(by_cases h2:r=0<;>first|(have hm4:=hr h2;subst h2;clear hr)|(have h2':(r != 0)=true:=by simpa using h2)))
  |fail)
 all_goals first
  |(go_ret2;exact⟨_,[],_,rfl,OwnU.nil _ _,by simp,HX2.out⟩)
  |skip
 have HM4:Hid (m<=100000000):=by show _<=_;omega
 go_upto_region 7 with fail
 go_wp2_with (first
  |(go_at_call 235;refine(inverse_any b m d HM4.out _ (HV.out.kept HX2.out)).mono ?_;rintro e w3 ⟨v3,l3,rfl,ho,hl3,hb⟩;have HO:=hid ho;have HBB:=hid hb;have HL3:=hid hl3;clear ho hb hl3)
  |fail)
 have HX3:Hid (Below w.heap.size w w3):=ZT HX2.out HBB.out
 have hl3:=HL3.out
 obtain⟨a3,c3,rfl,-,hu3⟩:=HO.out.unit (by omega)
 have HU3:=hid hu3
 clear hu3
 refine(times_any a a3 n c l3.length c3 w3 (HU.out.kept HX3.out) HU3.out).mono ?_
 rintro e w5 ⟨v5,l5,k5,rfl,hv,hl5,hb⟩
 have HV5:=hid (hv.mono HX3.out.size)
 have HX5:Hid (Below w.heap.size w w5):=ZT HX3.out hb
 clear hv hb
 go_wp2_with fail
 go_ret2
 first|exact⟨_,⟨_,rfl⟩,l5,HV5.out,hl5,HX5.out⟩|exact⟨_,l5,_,rfl,HV5.out,hl5,HX5.out⟩
structure Ty where
 k:Int
 ua:Option Addr
 un:Nat
 uc:Nat
 o:ByteArray
def Ty.cells (t:Ty):List Value:=[.int .i64 t.k,.slice t.ua t.un t.uc,.string t.o]
def UnW (w0 w:World)(ua:Option Addr)(un uc:Nat):Prop:=Zao w0 ua un∨∃ us,OwnU w w0.heap.size (.slice ua un uc) us/\us.length<=4
theorem UnW.nil (w0 w:World)(ua:Option Addr)(uc:Nat):UnW w0 w ua 0 uc:=Or.inl (Zao.nil _ _)
theorem UnW.kept {w0 w w':World}{ua:Option Addr}{un uc:Nat}(h:UnW w0 w ua un uc)(hb:Below w.heap.size w w'):UnW w0 w' ua un uc:=by
 rcases h with h|⟨us,h,h2⟩
 · exact Or.inl h
 · exact Or.inr ⟨us,h.kept hb,h2⟩
theorem UnW.unit {w0 w:World}{ua:Option Addr}{un uc:Nat}(h:UnW w0 w ua un uc)(hw:Below w0.heap.size w0 w):Zao w ua un:=by
 rcases h with h|⟨us,h,h2⟩
 · exact h.kept hw
 · obtain⟨ao,c,he,-,h3⟩:=h.unit (by omega)
   injection he with e1 e2 e3
   subst e1 e2
   exact h3
theorem UnW.put {w0 w w':World}{ua:Option Addr}{un uc g:Nat}{cs:Array Value}{t:TypeId}(h:UnW w0 w ua un uc)(hg:Box w g cs t)(ht:t≠198)(ho:∀ k,k≠g->w'.heap[k]?=w.heap[k]?):UnW w0 w' ua un uc:=by
 rcases h with h|⟨us,h,h2⟩
 · exact Or.inl h
 · exact Or.inr ⟨us,⟨h.1.same (fun k hk=>ho k (fun e=>h.1.ne_box hg ht (by rw[hk,e]))),h.2⟩,h2⟩
theorem UnW.putq {w0 w w':World}{g:Nat}{cs:Array Value}{t:TypeId}(ho:∀ k,k≠g->w'.heap[k]?=w.heap[k]?)(hg:Box w g cs t)(ht:t≠198)(ua:Option Addr)(un uc:Nat)(h:UnW w0 w ua un uc):UnW w0 w' ua un uc:=h.put hg ht ho
theorem UnW.own {w0 w w1:World}{B:Nat}{v:Value}{us:List FID}{ua:Option Addr}{un uc:Nat}(h:OwnU w B v us)(hv:v=.slice ua un uc)(hl:us.length<=4)(hB:w0.heap.size<=B):UnW w0 w ua un uc :=
 Or.inr ⟨us,by rw[<-hv];exact h.mono hB,hl⟩
def Zaz (w0 w:World)(e:Ending)(w':World):Prop:=∃ (t:Ty) (k:Int),e=.returned (.tuple #[.agg #[.int .i64 t.k,.slice t.ua t.un t.uc,.string t.o],.int .i64 k])/\UnW w0 w' t.ua t.un t.uc/\Below w.heap.size w w'
theorem Zaz.zero {w0 w w':World}(k:Int)(h:Below w.heap.size w w'):Zaz w0 w (.returned (.tuple #[.agg #[.int .i64 0,.slice none 0 0,.string ⟨#[]⟩],.int .i64 k])) w':=⟨⟨0,none,0,0,⟨#[]⟩⟩,k,rfl,UnW.nil _ _ _ _,h⟩
theorem Zaz.kind {w0 w w':World}(k n:Int)(h:Below w.heap.size w w'):Zaz w0 w (.returned (.tuple #[.agg #[.int .i64 n,.slice none 0 0,.string ⟨#[]⟩],.int .i64 k])) w':=⟨⟨n,none,0,0,⟨#[]⟩⟩,k,rfl,UnW.nil _ _ _ _,h⟩
def TbsW (w0:World)(B:Nat)(w:World)(a:Option Addr)(n:Nat):Prop:=∃ l:List Tb,n=l.length/\l.length<=B/\(∀ t∈l,FdsAt w0 t.fa t.fn)/\Zaf Tb.cells 4 w a l
theorem TbsW.kept {w0:World}{B:Nat}{w w':World}{a:Option Addr}{n:Nat}(h:TbsW w0 B w a n)(hb:Below w.heap.size w w'):TbsW w0 B w' a n :=
 let ⟨l,h1,h2,h3,h4⟩:=h;⟨l,h1,h2,h3,h4.kept hb⟩
theorem TbsW.nil (w0:World)(B:Nat)(w:World)(a:Option Addr):TbsW w0 B w a 0:=⟨[],rfl,Nat.zero_le _,fun f hf=>(by cases hf),Zaf.nil _ _⟩
def FtsW (w0:World)(B:Nat)(w:World)(a:Option Addr)(n:Nat):Prop:=∃ l:List Ft,n=l.length/\l.length<=B/\(∀ t∈l,t.Ok w0)/\Zaf Ft.cells 18 w a l
theorem FtsW.kept {w0:World}{B:Nat}{w w':World}{a:Option Addr}{n:Nat}(h:FtsW w0 B w a n)(hb:Below w.heap.size w w'):FtsW w0 B w' a n :=
 let ⟨l,h1,h2,h3,h4⟩:=h;⟨l,h1,h2,h3,h4.kept hb⟩
theorem FtsW.nil (w0:World)(B:Nat)(w:World)(a:Option Addr):FtsW w0 B w a 0:=⟨[],rfl,Nat.zero_le _,fun f hf=>(by cases hf),Zaf.nil _ _⟩
theorem FtsW.at {w0:World}{B:Nat}{w:World}{a:Option Addr}{n:Nat}(h:FtsW w0 B w a n)(hw:Below w0.heap.size w0 w):FtsAt B w a n :=
 let ⟨l,h1,h2,h3,h4⟩:=h;⟨l,h1,h2,fun t ht=>(h3 t ht).kept hw,h4⟩
structure CatW (w0:World) (B:Nat) (w:World) (ta:Option Addr) (tn:Nat) (fa:Option Addr) (fn:Nat) (da:Option Addr) (dn:Nat) (qa:Option Addr) (qn:Nat):Prop where
 t:TbsW w0 B w ta tn
 f:FtsW w0 B w fa fn
 d:FtsW w0 B w da dn
 q:FtsW w0 B w qa qn
theorem CatW.kept {w0:World}{B:Nat}{w w':World}{ta:Option Addr}{tn:Nat}{fa:Option Addr}{fn:Nat}{da:Option Addr}{dn:Nat}{qa:Option Addr}{qn:Nat}(h:CatW w0 B w ta tn fa fn da dn qa qn)(hb:Below w.heap.size w w'):CatW w0 B w' ta tn fa fn da dn qa qn :=
 ⟨h.t.kept hb,h.f.kept hb,h.d.kept hb,h.q.kept hb⟩
theorem CatW.mono {w0:World}{B B':Nat}{w:World}{ta:Option Addr}{tn:Nat}{fa:Option Addr}{fn:Nat}{da:Option Addr}{dn:Nat}{qa:Option Addr}{qn:Nat}(h:CatW w0 B w ta tn fa fn da dn qa qn)(hB:B<=B'):CatW w0 B' w ta tn fa fn da dn qa qn :=
 ⟨let ⟨l,h1,h2,h3⟩:=h.t;⟨l,h1,by omega,h3⟩,let ⟨l,h1,h2,h3⟩:=h.f;⟨l,h1,by omega,h3⟩,let ⟨l,h1,h2,h3⟩:=h.d;⟨l,h1,by omega,h3⟩,let ⟨l,h1,h2,h3⟩:=h.q;⟨l,h1,by omega,h3⟩⟩
structure Bx (w V:World) (g:Nat) (w':World):Prop where
 old:Below w.heap.size w w'
 size:V.heap.size<=w'.heap.size
 same:∀ k,k<V.heap.size->k≠g->w'.heap[k]?=V.heap[k]?
theorem Bx.of {w V w':World}{g:Nat}(hV:Below w.heap.size w V)(h:Below V.heap.size V w'):Bx w V g w':=⟨ZT hV h,h.size,fun k hk _=>h.block k hk⟩
theorem Bx.box {w V w':World}{g k:Nat}{cs:Array Value}{t:TypeId}(h:Bx w V g w')(hb:Box V k cs t)(hk:k≠g):Box w' k cs t:=(h.same k hb.lt hk).trans hb
theorem Zfk {P:Program}{o:Oper}{a:Act}{w w9 V:World}{K:Act->World->Prop}{Q:Exit->Act->World->Prop}(ty:TypeId)(x y:Operand)(ho:o.op=.store ty x y)(hd:o.dst=none)(g:Nat)(t:TypeId)(cur:Array Value)(L:List Value)
 (hx:a.eval x=.pointer (some ⟨g,0,none⟩)) (hy:a.eval y=.agg L.toArray) (hg:Box w g cur t) (hi:(P.info? ty).map (·.size)=some L.length) (hs:L.length=cur.size) (h1:(L.all (·.oneCell'))=true) (hB:Bx w9 V g w) (hBg:w9.heap.size<=g)
 (h:∀ w',Box w' g L.toArray t->Bx w9 V g w'->(∀ k,k≠g->w'.heap[k]?=w.heap[k]?)->K a w'):o.wp P a w K Q:=by
 unfold Oper.wp execOp
 simp only[ho,hx,hy,Instr.storeAt,Instr.sureAddr,Sem.run_bind,Sem.run_pure,Result.andThen_ok,Zbw w g 0 t ty cur L hg hi (by omega) (List.all_eq_true.1 h1)]
 show K (a.put o.dst undef) _
 rw[hd,putC_all cur L hs]
 have hot:∀ k,k≠g->(w.setRow g L.toArray).heap[k]?=w.heap[k]?:=fun k hk=>by first|exact setRow_other _ _ _ _ hk|exact setRow_other _ _ hk
 exact h _ (Box.setRow hg _) ⟨ZbT hB.old hBg _,by rw[setRow_size];exact hB.size,fun k hk hne=>(hot k hne).trans (hB.same k hk hne)⟩ hot
def TysW (w0 w:World)(a:Option Addr)(n:Nat):Prop:=∃ ts:List Ty,n=ts.length/\Zaf Ty.cells 3 w a ts/\∀ t∈ts,UnW w0 w t.ua t.un t.uc
section
variable {P:Program} {α:Type} {enc:α->List Value} {k bytes:Nat} {e t:TypeId} {w:World} {B:Nat} {v:Value} {l m:List α} {o:Oper} {a:Act} {K:Act->World->Prop} {Q:Exit->Act->World->Prop} {ao:Option Addr} {n c:Nat}
theorem Zc6 (E:El P e t k bytes)(hE:Enc enc k)(s x:Operand)
 (ho:o.op=.call { callee:=.builtin .append,args:=#[s,x],argTypes:=#[t,t] }) (hs:a.eval s=v) (hx:a.eval x=.slice ao n c)
 (hO:Own enc k e w B v l) (hS:Zaf enc k w ao m) (hn:n=m.length) (hB:B<=w.heap.size) (hl:l.length+m.length<=1000000000)
 (h:∀ v' w1,Own enc k e w1 B v' (l++m)->Below B w w1->K (a.put o.dst v') w1):o.wp P a w K Q:=by
 obtain⟨i,z,hi,hz0,hz1,hz2,hz3⟩:=E.parts
 have hpos:=E.pos
 have hfew:=E.few
 subst hn
 cases ao with
 |none =>
  have hk:m=[]:=by
   rcases hS with h|⟨_,_,h,_⟩
   · exact h
   · cases h
  subst hk
  have hrun:=Zce (P:=P) (w:=w) B t o.type e i k E.und hi v _ _ c hO
  have hx':a.eval x=.slice none 0 c:=hx
  unfold Oper.wp
  simp[execOp,ho,resolve,invoke,builtin,hs,hx',hrun,Result.andThen]
  exact h v w (by rw[List.append_nil];exact hO) (Below.refl _ _)
 |some ad =>
  have hcells:∀ j v,(encs enc m)[j]?=some v->w.cell? (ad.add j)=some v:=by
   intro j u hj
   rcases hS with rfl|⟨b,off,he,hr⟩
   · simp[encs]at hj
   · injection he with he;subst he
     rw[ZbM];exact hr.cells hE.len hpos j u hj
  have hbytes:(l.length+m.length)*bytes<=140737488355328:=Nat.le_trans (Nat.mul_le_mul hl hfew) (by decide)
  refine wp_append_own w s x t ho B e i z k bytes E.und hi hz0 hz1 hz2 hz3 hpos v _ _ hs hO ad m.length c (encs enc m) hx (Zbc hE.len m) hcells (ZbI hE.one m) (by unfold maxLen;omega) hbytes hB ?_
  intro v' w1 hown hgr _
  refine h v' w1 ?_ ((Below.refl _ _).grown hgr hB (fun g hg=>(hO.lt g hg).1))
  unfold Own
  rw[Zbd,List.length_append];exact hown
theorem Zfm (E:El P e t k bytes)(hk:k<=1000)(x:Operand)(ho:o.op=.buildSlice t 1 #[(0,x)])(L:List Value)(hL:L.length=k)(hx:a.eval x=.agg L.toArray)
 (h:K (a.put o.dst (.slice (some ⟨w.heap.size,0,none⟩) 1 1)) (w.alloc (.cells L.toArray e))):o.wp P a w K Q:=by
 unfold Oper.wp execOp
 simp only[ho]
 have:(#[((0:Nat),x)].map fun(i,x)=>(i,a.eval x))=#[(0,.agg L.toArray)]:=by simp[hx]
 rw[this,Sem.run_bind,build_one E hk L hL w]
 exact h
end
theorem elFt:El prog 44 116 18 248:=⟨underlying116,by kernel_rfl,by decide,by decide⟩
theorem elTb:El prog 32 115 4 64:=⟨underlying115,by kernel_rfl,by decide,by decide⟩
structure FtsC (w0:World) (B:Nat) (w:World) (a:Option Addr) (n c:Nat):Prop where
 lies:FtsW w0 B w a n
 cap:n<=c
 zero:a=none->c=0
theorem FtsC.kept {w0:World}{B:Nat}{w w':World}{a:Option Addr}{n c:Nat}(h:FtsC w0 B w a n c)(hb:Below w.heap.size w w'):FtsC w0 B w' a n c:=⟨h.lies.kept hb,h.cap,h.zero⟩
theorem FtsC.nil (w0:World)(B:Nat)(w:World):FtsC w0 B w none 0 0:=⟨FtsW.nil _ _ _ _,Nat.le_refl _,fun _=>rfl⟩
theorem FtsC.own {w0 w:World}{B C:Nat}{v:Value}{l:List Ft}(h:Own Ft.cells 18 44 w B v l)(hl:l.length<=C)(hok:∀ t∈l,t.Ok w0):∃ a c,v=.slice a l.length c/\FtsC w0 C w a l.length c :=
 let ⟨a,c,h1,h2,h3,h4⟩:=h.lies encFt;⟨a,c,h1,⟨l,rfl,hl,hok,h4⟩,h2,h3⟩
def FtsPost (w0:World)(C:Nat)(w:World)(e:Ending)(w':World):Prop:=∃ a n c,e=.returned (.slice a n c)/\FtsC w0 C w' a n c/\Below w.heap.size w w'
theorem versions_any (c_ta:Option Addr)(c_tn:Nat)(c_tc:Nat)(c_fa:Option Addr)(c_fn:Nat)(c_fc:Nat)(c_da:Option Addr)(c_dn:Nat)(c_dc:Nat)(c_qa:Option Addr)(c_qn:Nat)(c_qc:Nat)(w:World)(w0:World)(B:Nat)(hB:B<=100000)(h:CatW w0 B w c_ta c_tn c_fa c_fn c_da c_dn c_qa c_qn):Calls prog 170 #[.agg #[.slice c_ta c_tn c_tc,.slice c_fa c_fn c_fc,.slice c_da c_dn c_dc,.slice c_qa c_qn c_qc]] w (FtsPost w0 (3*B) w):=by
 obtain⟨lf,rfl,hlf,hokf,hf⟩:=h.f
 obtain⟨ld,rfl,hld,hokd,hd⟩:=h.d
 obtain⟨lq,rfl,hlq,hokq,hq⟩:=h.q
 have HF0:=hid hf
 have HD0:=hid hd
 have HQ0:=hid hq
 have HOKF:=hid hokf
 have HOKD:=hid hokd
 have HOKQ:=hid hokq
 clear hf hd hq hokf hokd hokq h
 go_enter func170,ntmps170
 go_upto_region 1 with fail
 refine Zam (fun V hV=>?_)
 have B0:Hid (Box V w.heap.size #[.slice c_ta c_tn c_tc,.slice c_fa lf.length c_fc,.slice c_da ld.length c_dc,.slice c_qa lq.length c_qc] 118):=by rw[hV];exact ZaE _ _ _
 have HBV:Hid (Below w.heap.size w V):=by rw[hV];exact(by repeat first|exact ZR _|refine ZA ?_ _)
 clear hV
 have HS:Hid (∀ w',Below V.heap.size V w'->w'.cell? ⟨w.heap.size,0,none⟩=some (.slice c_ta c_tn c_tc)/\w'.cell? ⟨w.heap.size,1,none⟩=some (.slice c_fa lf.length c_fc)/\w'.cell? ⟨w.heap.size,2,none⟩=some (.slice c_da ld.length c_dc)/\w'.cell? ⟨w.heap.size,3,none⟩=some (.slice c_qa lq.length c_qc)):=fun w' h=>⟨(B0.out.kept h).cell 0 _ rfl,(B0.out.kept h).cell 1 _ rfl,(B0.out.kept h).cell 2 _ rfl,(B0.out.kept h).cell 3 _ rfl⟩
 obtain⟨k0_0,k0_1,k0_2,k0_3⟩:=HS.out V (ZR V)
 have HF:Hid (Zaf Ft.cells 18 V c_fa lf):=HF0.out.kept HBV.out
 have HD:Hid (Zaf Ft.cells 18 V c_da ld):=HD0.out.kept HBV.out
 have HQ:Hid (Zaf Ft.cells 18 V c_qa lq):=HQ0.out.kept HBV.out
 have HL1:Hid (([]:List Ft).length+lf.length<=1000000000):=by show _<=_;simp;omega
 have HL2:Hid (([]++lf).length+ld.length<=1000000000):=by show _<=_;simp;omega
 have HL3:Hid (([]++lf++ld).length+lq.length<=1000000000):=by show _<=_;simp;omega
 have HL4:Hid (([]++lf++ld++lq).length<=3*B):=by show _<=_;simp;omega
 have HOK:Hid (∀ t∈[]++lf++ld++lq,t.Ok w0):=fun t ht=>by
  simp only[List.nil_append,List.mem_append]at ht
  rcases ht with(ht|ht)|ht
  · exact HOKF.out t ht
  · exact HOKD.out t ht
  · exact HOKQ.out t ht
 have HO1:Hid (Own Ft.cells 18 44 (V.alloc (.cells #[] 44)) V.heap.size (.slice (some ⟨V.heap.size,0,none⟩) 0 0) []):=Own.lit (Nat.le_refl _)
 have HX1:Hid (Below V.heap.size V (V.alloc (.cells #[] 44))):=Zab _
 obtain⟨m0,m1,m2,m3⟩:=HS.out _ HX1.out
 go_wp2_with (first|(at_builtin;refine Za2 elFt encFt rfl (.tmp 4) (.tmp 6) rfl rfl rfl HO1.out (HF.out.kept HX1.out) rfl HX1.out.size HL1.out ?_;intro v2 w2 ho hb;have HO2:=hid ho;have HX2:Hid (Below V.heap.size V w2):=hid (HX1.out.trans hb);clear ho hb;have KK:=HS.out _ HX2.out;obtain⟨k0_0,k0_1,k0_2,k0_3⟩:=KK)|(at_builtin;refine Za2 elFt encFt rfl (.tmp 8) (.tmp 10) rfl rfl rfl HO2.out (HD.out.kept HX2.out) rfl HX2.out.size HL2.out ?_;intro v3 w3 ho hb;have HO3:=hid ho;have HX3:Hid (Below V.heap.size V w3):=hid (HX2.out.trans hb);clear ho hb;have KK:=HS.out _ HX3.out;obtain⟨k0_0,k0_1,k0_2,k0_3⟩:=KK)|(at_builtin;refine Za2 elFt encFt rfl (.tmp 12) (.tmp 14) rfl rfl rfl HO3.out (HQ.out.kept HX3.out) rfl HX3.out.size HL3.out ?_;intro v4 w4 ho hb;have HO4:=hid ho;have HX4:Hid (Below V.heap.size V w4):=hid (HX3.out.trans hb);clear ho hb)|fail)
 obtain⟨a5,c5,rfl,h5⟩:=FtsC.own HO4.out HL4.out HOK.out
 go_ret
 exact⟨_,_,_,rfl,h5,ZT HBV.out HX4.out⟩
theorem Zb8 (a:Option Addr)(n c k:Nat)(hk:k<n)(w0:World)(B:Nat)(hB:B<=100000)(w:World)(h:FtsC w0 B w a n c):Calls prog 186 #[.slice a n c,.int .i64 k] w (FtsPost w0 B w):=by
 obtain⟨⟨l,rfl,hl,hok,h1⟩,hlc,hcn⟩:=h
 have H:=hid h1
 have HOK:=hid hok
 have HCN:=hid hcn
 have hcu:=fun w=>ZbY elFt a l.length c k (by omega) w
 obtain⟨A,hcf,hA1,hA2⟩:=ZbZ elFt a l.length c (k+1) hk
 have HLT:=hid (h1.take k)
 have HLD:=hid (ZbH h1 hlc hA2)
 have HTL:Hid (k=(l.take k).length):=by show _=_;simp;omega
 have HDL:Hid (l.length - (k+1)=(l.drop (k+1)).length):=by show _=_;simp
 have HL1:Hid (([]:List Ft).length+(l.take k).length<=1000000000):=by show _<=_;simp;omega
 have HL2:Hid (([]++l.take k).length+(l.drop (k+1)).length<=1000000000):=by show _<=_;simp;omega
 have HL3:Hid (([]++l.take k++l.drop (k+1)).length<=B):=by show _<=_;simp;omega
 have HOK2:Hid (∀ t∈[]++l.take k++l.drop (k+1),t.Ok w0):=fun t ht=>by
  simp only[List.nil_append,List.mem_append]at ht
  rcases ht with ht|ht
  · exact HOK.out t (List.mem_of_mem_take ht)
  · exact HOK.out t (List.mem_of_mem_drop ht)
 have HO1:Hid (Own Ft.cells 18 44 (w.alloc (.cells #[] 44)) w.heap.size (.slice (some ⟨w.heap.size,0,none⟩) 0 0) []):=Own.lit (Nat.le_refl _)
 have HX1:Hid (Below w.heap.size w (w.alloc (.cells #[] 44))):=Zab _
 have ws:IntKind.i64.wrap ((k:Int)+1)=(k:Int)+1:=IntWalk.i64_in _ (by omega)
 simp only[Int.natCast_add,Int.natCast_one]at hcf
 clear h1 hok hcn hA1 hA2
 go_enter func186,ntmps186
 go_wp2_with (first|(at_builtin;refine Za2 elFt encFt rfl (.tmp 6) (.tmp 9) rfl rfl rfl HO1.out (HLT.out.kept HX1.out) HTL.out HX1.out.size HL1.out ?_;intro v2 w2 ho hb;have HO2:=hid ho;have HX2:Hid (Below w.heap.size w w2):=HX1.out.trans hb;clear ho hb)|(at_builtin;refine Za2 elFt encFt rfl (.tmp 11) (.tmp 15) rfl rfl rfl HO2.out (HLD.out.kept HX2.out) HDL.out HX2.out.size HL2.out ?_;intro v3 w3 ho hb;have HO3:=hid ho;have HX3:Hid (Below w.heap.size w w3):=HX2.out.trans hb;clear ho hb)|fail)
 obtain⟨a5,c5,rfl,h5⟩:=FtsC.own HO3.out HL3.out HOK2.out
 go_ret
 exact⟨_,_,_,rfl,h5,HX3.out⟩
end Go.Proofs.YtfnpfkgmacaboaaGreat
