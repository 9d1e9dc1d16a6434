/- Texts joined by a program. -/
import Derived.Deep.RegionLaw
import Derived.Lib.AppendStr
import Derived.Laws.BytesString
import Derived.DeepKeys5
import Derived.Test.YtfnpfkgmacaboaaGreatM05
namespace Go.Proofs.YtfnpfkgmacaboaaGreat
open Go.Proofs.Tryz
open Lib (hid)
open Go.ChangeShapes Go.WideShapes Go.ChangeAt Go.RowKit
set_option linter.unusedVariables false
set_option linter.unusedSimpArgs false
def OwnR (w:World)(B:Nat)(v:Value)(l:List Rw):Prop:=Own Rw.cells 8 68 w B v l/\∀ r∈l,r.Ok w
theorem OwnR.kept {w w':World}{B:Nat}{v:Value}{l:List Rw}(h:OwnR w B v l)(hb:Below w.heap.size w w'):OwnR w' B v l:=⟨h.1.kept hb,fun d hd=>(h.2 d hd).kept hb⟩
theorem OwnR.mono {w:World}{B B':Nat}{v:Value}{l:List Rw}(h:OwnR w B v l)(hB:B'<=B):OwnR w B' v l:=⟨h.1.mono hB,h.2⟩
theorem OwnR.nil (w:World)(B:Nat):OwnR w B (.slice none 0 0) []:=⟨Own.nil w B,fun d hd=>by cases hd⟩
theorem OwnR.lies {w:World}{B:Nat}{v:Value}{l:List Rw}(h:OwnR w B v l):∃ ao c,v=.slice ao l.length c/\l.length<=c/\(ao=none->c=0)/\ZaY w ao l:=by
 obtain⟨ao,c,h1,h2,h3,h4⟩:=h.1.lies encR
 exact⟨ao,c,h1,h2,h3,h4,h.2⟩
theorem Own.lit1 {α:Type}{enc:α->List Value}{k:Nat}{e:TypeId}{W:World}{B:Nat}(hE:Enc enc k)(hB:B<=W.heap.size)(x:α):Own enc k e (W.alloc (.cells (enc x).toArray e)) B (.slice (some ⟨W.heap.size,0,none⟩) 1 1) [x]:=by
 have:=World.ownsRow_lit (e:=e) (size:=k) W (enc x).toArray 1 hB (by unfold maxLen;omega) (by simp[hE.len])
 unfold Own
 rw[Zd0]
 simpa using this
def u8I (n:Int):List Value:=[.int .u8 n]
theorem encU:Enc u8I 1:=⟨fun _=>rfl,fun x v hv=>by simp[u8I]at hv;subst hv;rfl⟩
theorem elU:El prog 5 142 1 1:=⟨underlying142,by kernel_rfl,by decide,by decide⟩
theorem encs_u8 (l:List Int):encs u8I l=l.map (Value.int .u8):=by
 induction l with
 |nil=>rfl
 |cons x l ih=>simp only[encs,List.flatMap_cons,List.map_cons]at *;rw[ih];rfl
structure Bag (W wr:World) (v:Value) (ns:List Int) (g1 g2:Nat):Prop where
 own:Own u8I 1 5 wr W.heap.size v ns
 below:Below W.heap.size W wr
 far1:v.ownBlock≠some g1
 far2:v.ownBlock≠some g2
theorem Box.grow {w w':World}{g:Nat}{cs:Array Value}{t:TypeId}{row:Option Nat}(h:Box w g cs t)(hg:w.grownBy w' row)(hne:row≠some g):Box w' g cs t:=(hg.block g h.lt (fun e=>hne e.symm)).trans h
theorem wpList_byte {W wr:World}{v:Value}{ns:List Int}{g1 g2:Nat}{c1 c2:Array Value}{t1 t2:TypeId}{x:Int}{ops:Array Oper}{rest:List Oper}{o:Oper}{a:Act}{Q:Exit->Act->World->Prop}
 (hb:Bag W wr v ns g1 g2) (h1:Box wr g1 c1 t1) (h2:Box wr g2 c2 t2) (hgd:o.guard=none) (s y:Operand)
 (ho:o.op=.call { callee:=.builtin .append,args:=#[s,y],argTypes:=#[142,142] }) (hs:a.eval s=v) (hx:a.eval y=.slice (some ⟨wr.heap.size,0,none⟩) 1 1) (hl:ns.length<=2000000000000)
 (h:∀ v' w1,Bag W w1 v' (ns++[x]) g1 g2->Box w1 g1 c1 t1->Box w1 g2 c2 t2->wpList prog ops Q rest (a.put o.dst v') w1) :
 wpList prog ops Q (o :: rest) a (wr.alloc (.cells #[.int .u8 x] 5)):=by
 obtain⟨i,z,hi,Xc,Ea,Fa,Ef⟩:=elU.parts
 have hB:=hb.below.size
 have hown:=hb.own.kept (Zab (w:=wr) (.cells #[.int .u8 x] 5))
 refine wpList_append_own_at (w:=wr.alloc (.cells #[.int .u8 x] 5)) hgd s y 142 ho W.heap.size 5 i z 1 1 elU.und hi Xc Ea Fa Ef (by decide) v _ _ hs hown ⟨wr.heap.size,0,none⟩ 1 1 [.int .u8 x] hx rfl (cell_one_new _ _ _) (by simp[Value.oneCell']) (by unfold maxLen;omega) (by omega) (by simp;omega) ?_
 intro v' w1 hO hgr _ hloc
 have Qh:=h1.lt
 have Ng:=h2.lt
 refine h v' w1 ⟨?_,?_,?_,?_⟩ ((h1.kept (Zab _)).grow hgr hb.far1) ((h2.kept (Zab _)).grow hgr hb.far2)
 · unfold Own
   rw[Za8,List.length_append];exact hO
 · exact(hb.below.alloc hB _).grown hgr (by simp;omega) (fun g hg=>(hb.own.lt g hg).1)
 · rcases hloc with e|e
   · rw[e];exact hb.far1
   · rw[e];simp;omega
 · rcases hloc with e|e
   · rw[e];exact hb.far2
   · rw[e];simp;omega
theorem wpList_text {B:Nat}{w:World}{v:Value}{ns:List Int}{ops:Array Oper}{rest:List Oper}{o:Oper}{a:Act}{Q:Exit->Act->World->Prop}
 (hO:Own u8I 1 5 w B v ns) (hB:B<=w.heap.size) (hgd:o.guard=none) (s y:Operand)
 (ho:o.op=.call { callee:=.builtin .append,args:=#[s,y],argTypes:=#[142,9] }) (hs:a.eval s=v) (S:ByteArray) (hx:a.eval y=.string S) (hl:ns.length<=2000000000000) (hS:S.size<=2000000000000)
 (h:∀ v' w1,Own u8I 1 5 w1 B v' (ns++S.data.toList.map (fun b=>(b.toNat:Int)))->Below B w w1->wpList prog ops Q rest (a.put o.dst v') w1) :
 wpList prog ops Q (o :: rest) a w:=by
 have hi:∃ i,prog.info? 5=some i/\i.zero=some (.int .u8 0)/\i.size=1/\i.bytes=1:=by
  have e:(prog.info? 5).map (fun i=>(i.zero,i.size,i.bytes))=some (some (.int .u8 0),1,1):=by kernel_rfl
  cases hq:prog.info? 5 with
  |none=>rw[hq]at e;cases e
  |some i =>
   rw[hq]at e
   simp only[Option.map_some,Option.some.injEq,Prod.mk.injEq]at e
   exact⟨i,rfl,e.1,e.2.1,e.2.2⟩
 obtain⟨i,hi,hz,h1,h2⟩:=hi
 refine Lib.wpList_append_own_string (w:=w) hgd s y 142 9 ho B 5 i underlying142 underlying9 hi hz h1 h2 v _ _ hs hO S hx (by unfold maxLen;omega) (by omega) hB ?_
 intro v' w1 hO2 hgr _
 refine h v' w1 ?_ ((Below.refl _ _).grown hgr hB (fun g hg=>(hO.lt g hg).1))
 unfold Own
 rw[Za8,List.length_append,List.length_map,encs_u8 (S.data.toList.map _),List.map_map]
 exact hO2
def strOf (ns:List Int):ByteArray:=ns.foldl (fun r n=>r.push (UInt8.ofNat n.toNat)) ByteArray.empty
theorem run_strOf {w:World}{B:Nat}{v:Value}{ns:List Int}(h:Own u8I 1 5 w B v ns):(convert 142 9 v).run prog w=.ok (.string (strOf ns)) w:=by
 obtain⟨ao,c,rfl,h1,h2,h3⟩:=h.lies encU
 rw[run_convert_bytes_string w 142 9 5 ao _ c underlying142 underlying5 underlying9]
 cases ao with
 |none =>
  have hn:ns=[]:=by
   rcases h3 with h|⟨_,_,h,_⟩
   · exact h
   · cases h
  subst hn
  rfl
 |some a =>
  refine run_bytesToString w a _ c ns ?_
  rcases h3 with rfl|⟨b,off,he,hr⟩
  · exact run_loadCells_list (P:=prog) w a [] (by simp)
  · injection he with he
    subst he
    have:=run_loadCells_list (P:=prog) w ⟨b,off,none⟩ (ns.map (Value.int .u8)) (fun j u hj=>by rw[ZbE];exact hr.cells encU.len (by decide) j u (by rw[encs_u8];exact hj))
    simpa using this
def byteI (n:Int)(i:Nat):Int:=n / 2 ^ (8*i) % 256
def B8 (n:Int):List Int:=(List.range 8).map (byteI n)
def encV (v:Val):List Int:=B8 v.1++B8 v.2.1++B8 (v.2.2.size:Int)++v.2.2.data.toList.map (fun b=>(b.toNat:Int))
def encF (vs:List Val):List Int:=vs.flatMap encV
theorem Zbf (n:Int):(B8 n).length=8:=by simp[B8]
theorem Zdr (v:Val):(encV v).length=24+v.2.2.size:=by simp[encV,Zbf];omega
theorem encF_snoc {vs:List Val}{i:Nat}{v:Val}(h:vs[i]?=some v):encF (vs.take (i+1))=encF (vs.take i)++encV v:=by
 rw[Zar h];simp[encF]
theorem Zds:∀ (vs:List Val),(∀ v∈vs,v.2.2.size<=1048576)->(encF vs).length<=vs.length*1048600
 |[],_=>by simp[encF]
 |v :: vs,h=>by
  have e:encF (v :: vs)=encV v++encF vs:=by simp[encF]
  have h1:=h v (by simp)
  have h2:=Zds vs (fun u hu=>h u (by simp[hu]))
  rw[e,List.length_append,Zdr,List.length_cons,Nat.succ_mul]
  omega
theorem B8_inj {m n:Int}(hm:I64 m)(hn:I64 n)(h:B8 m=B8 n):m=n:=by
 have hb:∀ i,i<8->byteI m i=byteI n i:=fun i hi=>by
  have:=congrArg (fun l:List Int=>l[i]?) h
  simpa [B8,hi]using this
 have h0:=hb 0 (by omega);have h1:=hb 1 (by omega);have h2:=hb 2 (by omega);have h3:=hb 3 (by omega)
 have h4:=hb 4 (by omega);have h5:=hb 5 (by omega);have h6:=hb 6 (by omega);have h7:=hb 7 (by omega)
 unfold byteI at *
 obtain⟨a1,a2⟩:=hm
 obtain⟨b1,b2⟩:=hn
 simp only[show(2:Int) ^ (8*0)=1 from rfl,show(2:Int) ^ (8*1)=256 from rfl,show(2:Int) ^ (8*2)=65536 from rfl,show(2:Int) ^ (8*3)=16777216 from rfl,show(2:Int) ^ (8*4)=4294967296 from rfl,show(2:Int) ^ (8*5)=1099511627776 from rfl,show(2:Int) ^ (8*6)=281474976710656 from rfl,show(2:Int) ^ (8*7)=72057594037927936 from rfl]at *
 clear h hb
 omega
theorem encF_inj:∀ (vs us:List Val),(∀ v∈vs,I64 v.1/\I64 v.2.1/\v.2.2.size<=1048576)->(∀ v∈us,I64 v.1/\I64 v.2.1/\v.2.2.size<=1048576)->encF vs=encF us->vs=us
 |[],[],_,_,_=>rfl
 |[],u :: us,_,_,h=>by
  have:=congrArg List.length h
  simp[encF,Zdr]at this
  omega
 |v :: vs,[],_,_,h=>by
  have:=congrArg List.length h
  simp[encF,Zdr]at this
 |v :: vs,u :: us,h1,h2,h=>by
  obtain⟨p1,p2,p3⟩:=h1 v (by simp)
  obtain⟨q1,q2,q3⟩:=h2 u (by simp)
  have e1:encF (v :: vs)=B8 v.1++(B8 v.2.1++(B8 (v.2.2.size:Int)++(v.2.2.data.toList.map (fun b=>(b.toNat:Int))++encF vs))):=by simp[encF,encV]
  have e2:encF (u :: us)=B8 u.1++(B8 u.2.1++(B8 (u.2.2.size:Int)++(u.2.2.data.toList.map (fun b=>(b.toNat:Int))++encF us))):=by simp[encF,encV]
  rw[e1,e2]at h
  obtain⟨k1,h⟩:=List.append_inj h (by rw[Zbf,Zbf])
  obtain⟨k2,h⟩:=List.append_inj h (by rw[Zbf,Zbf])
  obtain⟨k3,h⟩:=List.append_inj h (by rw[Zbf,Zbf])
  have c1:=B8_inj p1 q1 k1
  have c2:=B8_inj p2 q2 k2
  have c3:=B8_inj (m:=v.2.2.size) (n:=u.2.2.size) ⟨by omega,by omega⟩ ⟨by omega,by omega⟩ k3
  obtain⟨k4,h⟩:=List.append_inj h (by simp;exact_mod_cast c3)
  have c4:v.2.2=u.2.2:=by
   have:v.2.2.data.toList=u.2.2.data.toList:=by
    exact(List.map_inj_right (f:=fun b:UInt8=>(b.toNat:Int)) (fun a b hab=>UInt8.toNat_inj.1 (by exact_mod_cast hab))).1 k4
   exact Zby (by rw[ByteArray.toList_eq,ByteArray.toList_eq];exact this)
  have:=encF_inj vs us (fun x hx=>h1 x (by simp[hx])) (fun x hx=>h2 x (by simp[hx])) h
  rw[this,show v=u from Prod.ext c1 (Prod.ext c2 c4)]
abbrev markV (r:Rw)(t:Int):Value:=.agg #[.string r.src,.int .i64 r.seq,.string r.tb,.string r.ky,.int .i64 r.ev,.int .i64 r.no,.int .i64 r.tk,.int .i64 t,.string (strOf (encF r.vs))]
theorem B8_snoc (n:Int)(i:Nat)(hi:i<8):(B8 n).take (i+1)=(B8 n).take i++[byteI n i]:=Zar (by simp[B8,hi])
set_option maxHeartbeats 8000000 in
set_option maxRecDepth 100000 in
theorem mark_any (r:Rw)(t:Int)(w:World)(hr:r.Ok w):Calls prog 61 #[r.val,.int .i64 t] w fun e w'=>e=.returned (markV r t)/\Below w.heap.size w w':=by
 have HR:=hid hr.lies
 have hlen:=hr.len
 have HS:=hid hr.str
 clear hr
 dsimp only[Rw.val,markV]
 generalize hvs:r.vs=vs at *
 clear hvs
 go_enter func61,ntmps61
 go_upto_region 2 with fail
 refine Zan (fun W hW=>?_)
 have HW:Hid (Below w.heap.size w W):=by rw[hW];exact Zak _ _
 have HT:Hid (Box W w.heap.size #[.string r.src,.int .i64 r.seq,.string r.tb,.string r.ky,.int .i64 r.ev,.slice r.fa vs.length r.fc,.int .i64 r.no,.int .i64 r.tk] 68):=by rw[hW];exact(Box.new w _ _).kept (Zab _)
 have HZ:Hid (w.heap.size+1<W.heap.size):=by show _<_;rw[hW];simp
 have HTr:Hid (Box W (w.heap.size+1) #[.string ⟨#[]⟩,.int .i64 0,.string ⟨#[]⟩,.string ⟨#[]⟩,.int .i64 0,.int .i64 0,.int .i64 0,.int .i64 0,.string ⟨#[]⟩] 106):=by
  rw[hW]
  show Box _ _ _ _
  have:=Box.new (w.alloc (.cells #[.string r.src,.int .i64 r.seq,.string r.tb,.string r.ky,.int .i64 r.ev,.slice r.fa vs.length r.fc,.int .i64 r.no,.int .i64 r.tk] 68)) #[.string ⟨#[]⟩,.int .i64 0,.string ⟨#[]⟩,.string ⟨#[]⟩,.int .i64 0,.int .i64 0,.int .i64 0,.int .i64 0,.string ⟨#[]⟩] 106
  simpa using this
 obtain⟨t0,t1,t2,t3,t4,t5,t6,t7⟩:=HT.out.at8
 clear hW
 go_wp2_with fail
 clear t0 t1 t2 t3 t4 t5 t6 t7
 go_loopw [5,14] (fun v j wr=>∃ (i:Nat) (v0:Value),v0=v/\i<=vs.length/\j=.int .i64 i/\Hid (Own u8I 1 5 wr W.heap.size v (encF (vs.take i)))/\Below W.heap.size W wr) (fun _ j _=>vs.length - (intOf j).toNat)
 case atStart=>exact⟨0,_,rfl,by omega,rfl,Own.nil _ _,Below.refl _ _⟩
 case round =>
  obtain⟨i,v0,rfl,hi,rfl,HO,hB⟩:=hrel
  have HB:=hid hB
  clear hB
  obtain⟨wo,hwo⟩:∃ wo,wo=wr:=⟨_,rfl⟩
  subst hwo
  by_cases hlt:i<vs.length
  · obtain⟨x,hx⟩:∃ x,vs[i]?=some x:=⟨vs[i],List.getElem?_eq_getElem hlt⟩
    obtain⟨b,off,hfa,hrow⟩:=Zat ((HR.out.kept HW.out).kept HB.out) hx
    obtain⟨c0,c1,c2⟩:=ZdD hrow hx
    have HX:=hid hx
    have HXs:Hid (x.2.2.size<=1048576):=HS.out x (List.mem_of_getElem? hx)
    have HEl:Hid ((encF (vs.take i)).length<=1100000000000):=by
     have h1:=Zds (vs.take i) (fun v hv=>HS.out v (List.mem_of_mem_take hv))
     have h2:(vs.take i).length<=1048576:=by simp;omega
     have h3:=Nat.mul_le_mul_right 1048600 h2
     show _<=_
     omega
    clear hrow hx
    obtain⟨x0,x1,x2⟩:=x
    simp only at c0 c1 c2
    rw[hfa]
    go_wp2_with fail
    refine Zan (fun X hX=>?_)
    have Hn:Hid (Box X wo.heap.size #[.int .i64 x0,.int .i64 x1,.string x2] 37):=by rw[hX];exact(Box.new wo _ _).kept (Zab _)
    have Ej:Hid (Box X (wo.heap.size+1) #[.int .i64 x0,.int .i64 x1,.int .i64 (x2.size:Int)] 3):=by
     rw[hX]
     show Box _ _ _ _
     have:=Box.new (wo.alloc (.cells #[.int .i64 x0,.int .i64 x1,.string x2] 37)) #[.int .i64 x0,.int .i64 x1,.int .i64 (x2.size:Int)] 3
     simpa using this
    have Gb:Hid (Below wo.heap.size wo X):=by rw[hX];exact Zak _ _
    have HBag:Hid (Bag W X v0 (encF (vs.take i)) wo.heap.size (wo.heap.size+1)):=by
     refine⟨HO.out.kept Gb.out,keepB (Nat.le_refl _) HB.out Gb.out,?_,?_⟩<;>(intro e;have:=(HO.out.lt _ e).2;omega)
    clear hX c0 c1 c2
    generalize wo.heap.size=g1 at *
    have HEq:Hid (encF (vs.take (i+1))=encF (vs.take i)++(([x0,x1,(x2.size:Int)].flatMap B8)++x2.data.toList.map (fun b=>(b.toNat:Int)))):=by
     show _=_
     rw[encF_snoc HX.out]
     simp[encV]
    generalize encF (vs.take i)=acc at *
    have HLc:Hid (∀ (j:Nat) (c:Int),[x0,x1,(x2.size:Int)][j]?=some c->#[Value.int .i64 x0,.int .i64 x1,.int .i64 (x2.size:Int)][j]?=some (.int .i64 c)):=by
     intro j c hc
     match j,hc with
     |0,hc=>cases hc;rfl
     |1,hc=>cases hc;rfl
     |2,hc=>cases hc;rfl
    have HLl:Hid ([x0,x1,(x2.size:Int)].length=3):=rfl
    generalize [x0,x1,(x2.size:Int)]=L at *
    generalize hC1:#[Value.int .i64 x0,.int .i64 x1,.string x2]=C1 at *
    have Dp:=hid hC1
    clear hC1
    generalize #[Value.int .i64 x0,.int .i64 x1,.int .i64 (x2.size:Int)]=C2 at *
    go_loopw [5,27] (fun v jj wr=>∃ (j:Nat) (v1:Value),v1=v/\j<=3/\jj=.int .i64 j/\Hid (Bag W wr v (acc++(L.take j).flatMap B8) g1 (g1+1))/\Hid (Box wr g1 C1 37)/\Hid (Box wr (g1+1) C2 3)) (fun _ jj _=>3 - (intOf jj).toNat)
    case atStart=>exact⟨0,_,rfl,by omega,rfl,by show Bag _ _ _ _ _ _;simpa using HBag.out,Hn,Ej⟩
    case round =>
     obtain⟨j,v1,rfl,hj,rfl,HBag2,Ot,Mt⟩:=hrel
     obtain⟨w2,Ji⟩:∃ w2,w2=wr:=⟨_,rfl⟩
     subst Ji
     by_cases hjl:j<3
     · obtain⟨c,hc⟩:∃ c,L[j]?=some c:=⟨L[j]'(by rw[HLl.out];exact hjl),List.getElem?_eq_getElem _⟩
       have hcell:=Mt.out.cell j _ (HLc.out j c hc)
       have HF:Hid (acc++(L.take (j+1)).flatMap B8=acc++(L.take j).flatMap B8++B8 c):=by show _=_;rw[Zar hc];simp
       have Dg:Hid ((acc++(L.take j).flatMap B8).length<=1200000000000):=by
        show _<=_
        have h1:=HEl.out
        have h2:((L.take j).flatMap B8).length<=24:=by
         have:∀ l:List Int,(l.flatMap B8).length=l.length*8:=by
          intro l
          induction l with
          |nil=>rfl
          |cons a l ih=>rw[List.flatMap_cons,List.length_append,ih,Zbf,List.length_cons];omega
         rw[this];simp;omega
        rw[List.length_append];omega
       clear hc
       generalize acc++(L.take j).flatMap B8=acc2 at *
       go_wp2_with fail
       rw[show decide ((j:Int)<3)=true from decide_eq_true (by omega)]
       go_loopw [5,31] (fun v jj wr=>∃ (q:Nat) (v2:Value),v2=v/\q<=8/\jj=.int .i64 q/\Hid (Bag W wr v (acc2++(B8 c).take q) g1 (g1+1))/\Hid (Box wr g1 C1 37)/\Hid (Box wr (g1+1) C2 3)) (fun _ jj _=>8 - (intOf jj).toNat)
       case atStart=>exact⟨0,_,rfl,by omega,rfl,by show Bag _ _ _ _ _ _;simpa using HBag2.out,Ot,Mt⟩
       case round =>
        obtain⟨q,v2,rfl,hq,rfl,HBag3,Nt,Lt⟩:=hrel
        by_cases hql:q<8
        · have HF3:Hid (acc2++(B8 c).take (q+1)=acc2++(B8 c).take q++[byteI c q]):=by show _=_;rw[B8_snoc c q hql,List.append_assoc]
          have Eu:Hid ((acc2++(B8 c).take q).length<=2000000000000):=by show _<=_;have:=Dg.out;rw[List.length_append];simp[Zbf];omega
          generalize acc2++(B8 c).take q=acc3 at *
          go_wp2_with (at_builtin;(refine wpList_byte HBag3.out Nt.out Lt.out rfl (.tmp 34) (.tmp 40) rfl rfl rfl Eu.out ?_);intro v3 w3 Ue h13 h23;have Ac:=hid Ue;have Qx:=hid h13;have Px:=hid h23;clear Ue h13 h23)
          go_roundw
          case rel=>exact⟨q+1,_,rfl,by omega,by go_num,by rw[HF3.out];exact Ac.out,Qx,Px⟩
          case measure=>simp[intOf];omega
        · obtain rfl:q=8:=by omega
          go_wp2_with fail
          go_roundw
          case rel=>exact⟨j+1,_,rfl,by omega,by go_num,by have:=HBag3.out;rw[List.take_of_length_le (by rw[Zbf];exact Nat.le_refl 8)]at this;rw[HF.out];exact this,Nt,Lt⟩
          case measure=>simp[intOf];omega
     · obtain rfl:j=3:=by omega
       have HFin:Hid (Bag W w2 v1 (acc++L.flatMap B8) g1 (g1+1)):=by have:=HBag2.out;rw[List.take_of_length_le (by rw[HLl.out];exact Nat.le_refl 3)]at this;exact this
       have HG12b:Hid (Box w2 g1 #[.int .i64 x0,.int .i64 x1,.string x2] 37):=by rw[Dp.out];exact Ot.out
       obtain⟨d0,d1,d2⟩:w2.cell? ⟨g1,0,none⟩=some (.int .i64 x0)/\w2.cell? ⟨g1,1,none⟩=some (.int .i64 x1)/\w2.cell? ⟨g1,2,none⟩=some (.string x2):=⟨HG12b.out.cell 0 _ rfl,HG12b.out.cell 1 _ rfl,HG12b.out.cell 2 _ rfl⟩
       have HLn:Hid ((acc++L.flatMap B8).length<=2000000000000):=by
        have:∀ l:List Int,(l.flatMap B8).length=l.length*8:=by
         intro l
         induction l with
         |nil=>rfl
         |cons a l ih=>rw[List.flatMap_cons,List.length_append,ih,Zbf,List.length_cons];omega
        show _<=_
        have h1:=HEl.out
        rw[List.length_append,this,HLl.out];omega
       have HSz:Hid (x2.size<=2000000000000):=by have:=HXs.out;show _<=_;omega
       have HBS:=hid HFin.out.below
       have HWs:Hid (W.heap.size<=w2.heap.size):=HFin.out.below.size
       have HEq2:Hid (encF (vs.take (i+1))=acc++L.flatMap B8++x2.data.toList.map (fun b=>(b.toNat:Int))):=by show _=_;rw[HEq.out,List.append_assoc]
       generalize acc++L.flatMap B8=acc4 at *
       have HOw:=hid HFin.out.own
       go_wp2_with (at_builtin;refine wpList_text HOw.out HWs.out rfl (.tmp 44) (.tmp 46) rfl rfl x2 rfl HLn.out HSz.out ?_;intro v5 w5 ho hb;have Bc:=hid ho;have Xe:=hid hb;clear ho hb)
       go_roundw
       case rel=>exact⟨i+1,_,rfl,by omega,by go_num,by rw[HEq2.out];exact Bc.out,HBS.out.trans Xe.out⟩
       case measure=>simp[intOf];omega
  · obtain rfl:i=vs.length:=by omega
    have HOf:Hid (Own u8I 1 5 wo W.heap.size v0 (encF vs)):=by have:=HO.out;rwa [List.take_length]at this
    have hconv:=run_strOf HOf.out
    obtain⟨t0,t1,t2,t3,t4,t5,t6,t7⟩:=(HT.out.kept HB.out).at8
    have HTf:=hid (HTr.out.kept HB.out)
    have f0:=HTf.out.free 0
    have f1:=HTf.out.free 1
    have f2:=HTf.out.free 2
    have f3:=HTf.out.free 3
    have f4:=HTf.out.free 4
    have f5:=HTf.out.free 5
    have f6:=HTf.out.free 6
    have f7:=HTf.out.free 7
    have f8:=HTf.out.free 8
    have k0:=HTf.out.cell 0 _ rfl
    have k1:=HTf.out.cell 1 _ rfl
    have k2:=HTf.out.cell 2 _ rfl
    have k3:=HTf.out.cell 3 _ rfl
    have k4:=HTf.out.cell 4 _ rfl
    have k5:=HTf.out.cell 5 _ rfl
    have k6:=HTf.out.cell 6 _ rfl
    have k7:=HTf.out.cell 7 _ rfl
    have k8:=HTf.out.cell 8 _ rfl
    go_wp2_with fail
    refine gen_exit (fun V5 h5=>?_)
    have Xe:Hid (Below w.heap.size w V5):=by rw[h5];exact((((((((((HW.out.trans (HB.out.mono HW.out.size)).setCell (by simp) _).setCell (by simp) _).setCell (by simp) _).setCell (by simp) _).setCell (by simp) _).setCell (by simp) _).setCell (by simp) _).setCell (by simp) _).setCell (by simp) _)
    have Si:Hid (Box V5 (w.heap.size+1) #[.string r.src,.int .i64 r.seq,.string r.tb,.string r.ky,.int .i64 r.ev,.int .i64 r.no,.int .i64 r.tk,.int .i64 t,.string (strOf (encF vs))] 106):=by rw[h5];exact(((((((((HTf.out.put 0 _).put 1 _).put 2 _).put 3 _).put 4 _).put 5 _).put 6 _).put 7 _).put 8 _)
    clear h5 f0 f1 f2 f3 f4 f5 f6 f7 f8 k0 k1 k2 k3 k4 k5 k6 k7 k8 t0 t1 t2 t3 t4 t5 t6 t7
    have k0:=Si.out.cell 0 _ rfl
    have k1:=Si.out.cell 1 _ rfl
    have k2:=Si.out.cell 2 _ rfl
    have k3:=Si.out.cell 3 _ rfl
    have k4:=Si.out.cell 4 _ rfl
    have k5:=Si.out.cell 5 _ rfl
    have k6:=Si.out.cell 6 _ rfl
    have k7:=Si.out.cell 7 _ rfl
    have k8:=Si.out.cell 8 _ rfl
    refine bodyPost_ret (v:=.agg #[.string r.src,.int .i64 r.seq,.string r.tb,.string r.ky,.int .i64 r.ev,.int .i64 r.no,.int .i64 r.tk,.int .i64 t,.string (strOf (encF vs))]) ?_ rfl ⟨rfl,Xe.out⟩
    simp[results,Tryz.results61,go_sem,k0,k1,k2,k3,k4,k5,k6,k7,k8]
open Go.Maps
theorem Tryz.laidOut:laidOutB prog=true:=by kernel_rfl
theorem wide75:(match prog.underlying 106 with|some (.array _ _)|some (.struct _)=>true|_=>false)=true:=by kernel_rfl
theorem wide36:(match prog.underlying 24 with|some (.array _ _)|some (.struct _)=>true|_=>false)=true:=by kernel_rfl
theorem row75:(106:TypeId)<prog.types.size:=of_decide_eq_true (by kernel_rfl)
theorem row36:(24:TypeId)<prog.types.size:=of_decide_eq_true (by kernel_rfl)
theorem at75:prog.keyTypeAt 3 106=true:=by kernel_rfl
theorem at36:prog.keyTypeAt 2 24=true:=by kernel_rfl
set_option maxRecDepth 100000 in
theorem law75:Keyed prog 106:=Keyed.of_law (deep_law_laid Tryz.laidOut (m:=3) (by omega) row75 at75 wide75)
set_option maxRecDepth 100000 in
theorem law36:Keyed prog 24:=Keyed.of_law (deep_law_laid Tryz.laidOut (m:=2) (by omega) row36 at36 wide36)
theorem depthT:prog.types.size+1=297+4:=by kernel_rfl
theorem cells75:prog.cellsOf 106=9:=by kernel_rfl
theorem cells36:prog.cellsOf 24=2:=by kernel_rfl
theorem cells9:prog.cellsOf 9=1:=by kernel_rfl
theorem cells3:prog.cellsOf 3=1:=by kernel_rfl
theorem keyLit_str (d:Nat)(s:ByteArray)(h:s.size<=maxLen):prog.keyLits (d+1) 9 [.string s]=some [.string s.data.toList]:=by
 simp[Program.keyLits,underlying9,h]
theorem keyLit_int (d:Nat)(n:Int)(h:I64 n):prog.keyLits (d+1) 3 [.int .i64 n]=some [.int .i64 n]:=by
 have hw:(Lit.int .i64 n).wf=true:=WalkArith.wf_i64 (by unfold I64 at h;omega)
 simp[Program.keyLits,underlying3,hw]
theorem keyLit_fid (d:Nat)(x:FID)(h:x.1.size<=maxLen)(h2:I64 x.2):prog.keyLits (d+2) 24 [.string x.1,.int .i64 x.2]=some [.string x.1.data.toList,.int .i64 x.2]:=by
 have hw:(Lit.int .i64 x.2).wf=true:=WalkArith.wf_i64 (by unfold I64 at h2;omega)
 simp[Program.keyLits,underlying24,underlying9,underlying3,cells36,cells9,cells3,h,hw]
theorem key36 (x:FID)(h:x.1.size<=maxLen)(h2:I64 x.2):keyOf prog 24 (fidV x)=some (.string (keyBytes [.string x.1.data.toList,.int .i64 x.2])):=by
 have hk:prog.keyType 24=true:=by kernel_rfl
 have hl:=keyLit_fid 299 x h h2
 unfold keyOf
 rw[underlying24,depthT]
 simp[hk,Value.formed,underlying24,cells36,Value.cells,hl]
structure OkF (x:FID):Prop where
 src:x.1.size<=1048576
 seq:I64 x.2
theorem OkF.max {x:FID}(h:OkF x):x.1.size<=maxLen:=Nat.le_trans h.src (by unfold maxLen;omega)
def keysF:Keyz prog 24 { x:FID // OkF x } where
 val:=fun x=>fidV x.1
 ok:=fun _=>True
 lit:=fun x=>.string (keyBytes [.string x.1.1.data.toList,.int .i64 x.1.2])
 of:=fun x _=>key36 x.1 x.2.max x.2.seq
 inj:=fun x y h=>by
  simp only[fidV,Value.agg.injEq,Array.mk.injEq,List.cons.injEq,Value.string.injEq,Value.int.injEq,and_true,true_and]at h
  exact Subtype.ext (Prod.ext h.1 h.2)
 law:=law36
abbrev markK (k:DK):Value:=.agg #[.string k.2.2.1.1,.int .i64 k.2.2.1.2,.string k.2.2.2.2.2.1,.string k.2.2.2.2.2.2.1,.int .i64 k.2.1,.int .i64 k.2.2.2.1,.int .i64 k.2.2.2.2.1,.int .i64 k.1,.string (strOf (encF k.2.2.2.2.2.2.2))]
structure OkM (k:DK):Prop where
 tick:I64 k.1
 ev:I64 k.2.1
 src:k.2.2.1.1.size<=1048576
 seq:I64 k.2.2.1.2
 no:I64 k.2.2.2.1
 tk:I64 k.2.2.2.2.1
 tb:k.2.2.2.2.2.1.size<=1048576
 ky:k.2.2.2.2.2.2.1.size<=1048576
 len:k.2.2.2.2.2.2.2.length<=1048576
 vals:∀ v∈k.2.2.2.2.2.2.2,I64 v.1/\I64 v.2.1/\v.2.2.size<=1048576
theorem strOf_fold (ns:List Int)(r:ByteArray):(ns.foldl (fun r n=>r.push (UInt8.ofNat n.toNat)) r).data.toList=r.data.toList++ns.map (fun n=>UInt8.ofNat n.toNat):=by
 induction ns generalizing r with
 |nil=>simp
 |cons n ns ih=>simp only[List.foldl_cons,List.map_cons];rw[ih];simp[ByteArray.push]
theorem strOf_list (ns:List Int):(strOf ns).data.toList=ns.map (fun n=>UInt8.ofNat n.toNat):=by
 unfold strOf;rw[strOf_fold];rfl
theorem strOf_size (ns:List Int):(strOf ns).size=ns.length:=by
 have:(strOf ns).data.toList.length=ns.length:=by rw[strOf_list];simp
 exact this
theorem encF_byte:∀ (vs:List Val),∀ n∈encF vs,0<=n/\n<256:=by
 intro vs n hn
 simp only[encF,List.mem_flatMap,encV,List.mem_append,List.mem_map]at hn
 have hb:∀ m,n∈B8 m->0<=n/\n<256:=by
  intro m hm
  simp only[B8,List.mem_map]at hm
  obtain⟨i,_,rfl⟩:=hm
  exact⟨Int.emod_nonneg _ (by decide),Int.emod_lt_of_pos _ (by decide)⟩
 obtain⟨v,_,((h|h)|h)|⟨b,_,rfl⟩⟩:=hn
 · exact hb _ h
 · exact hb _ h
 · exact hb _ h
 · have:=b.toNat_lt;omega
theorem strOf_inj {ns ms:List Int}(h1:∀ n∈ns,0<=n/\n<256)(h2:∀ n∈ms,0<=n/\n<256)(h:strOf ns=strOf ms):ns=ms:=by
 have e:=congrArg (fun s:ByteArray=>(s.data.toList.map (fun b=>(b.toNat:Int)))) h
 simp only[strOf_list,List.map_map]at e
 have key:∀ l:List Int,(∀ n∈l,0<=n/\n<256)->l.map ((fun b:UInt8=>(b.toNat:Int)) ∘ fun n:Int=>UInt8.ofNat n.toNat)=l:=by
  intro l hl
  conv=>rhs;rw[<-List.map_id l]
  refine List.map_congr_left (fun n hn=>?_)
  have:=hl n hn
  simp[UInt8.toNat_ofNat']
  omega
 rw[key ns h1,key ms h2]at e
 exact e
theorem OkM.fields {k:DK}(h:OkM k):(strOf (encF k.2.2.2.2.2.2.2)).size<=maxLen:=by
 rw[strOf_size]
 have h1:=Zds _ (fun v hv=>(h.vals v hv).2.2)
 have h2:=Nat.mul_le_mul_right 1048600 h.len
 unfold maxLen
 omega
theorem markK_inj {k k':DK}(h:OkM k)(h':OkM k')(e:markK k=markK k'):k=k':=by
 obtain⟨a,b,⟨c,d⟩,e1,f,g,i,j⟩:=k
 obtain⟨a',b',⟨c',d'⟩,e1',f',g',i',j'⟩:=k'
 simp only[markK,Value.agg.injEq,Array.mk.injEq,List.cons.injEq,Value.string.injEq,Value.int.injEq,and_true,true_and]at e
 obtain⟨p1,p2,p3,p4,p5,p6,p7,p8,p9⟩:=e
 have q:=encF_inj _ _ h.vals h'.vals (strOf_inj (encF_byte _) (encF_byte _) p9)
 simp only at q
 subst p1 p2 p3 p4 p5 p6 p7 p8 q
 rfl
set_option maxHeartbeats 2000000 in
set_option maxRecDepth 100000 in
theorem lits75 (a c d i:ByteArray)(b e f g h:Int)(ha:a.size<=maxLen)(hc:c.size<=maxLen)(hd:d.size<=maxLen)(hi:i.size<=maxLen)(hb:I64 b)(he:I64 e)(hf:I64 f)(hg:I64 g)(hh:I64 h) :
 prog.keyLits 301 106 [.string a,.int .i64 b,.string c,.string d,.int .i64 e,.int .i64 f,.int .i64 g,.int .i64 h,.string i]
  = some [.string a.data.toList,.int .i64 b,.string c.data.toList,.string d.data.toList,.int .i64 e,.int .i64 f,.int .i64 g,.int .i64 h,.string i.data.toList]:=by
 have e36:prog.keyLits 300 24 [.string a,.int .i64 b]=some [.string a.data.toList,.int .i64 b]:=keyLit_fid 298 (a,b) ha hb
 have e9:∀ s:ByteArray,s.size<=maxLen->prog.keyLits 300 9 [.string s]=some [.string s.data.toList]:=fun s hs=>keyLit_str 299 s hs
 have e3:∀ n:Int,I64 n->prog.keyLits 300 3 [.int .i64 n]=some [.int .i64 n]:=fun n hn=>keyLit_int 299 n hn
 have c9:=e9 c hc
 have d9:=e9 d hd
 have i9:=e9 i hi
 have e3':=e3 e he
 have f3:=e3 f hf
 have g3:=e3 g hg
 have h3:=e3 h hh
 clear e9 e3
 unfold Program.keyLits
 simp only[underlying106,cells75,cells36,cells9,cells3]
 simp
 simp only[cells36,cells9,cells3,List.take_succ_cons,List.take_zero,e36,c9,d9,i9,e3',f3,g3,h3,Option.bind_some,Function.comp]
 rfl
set_option maxHeartbeats 2000000 in
set_option maxRecDepth 100000 in
theorem key75v (a c d i:ByteArray)(b e f g h:Int)(ha:a.size<=maxLen)(hc:c.size<=maxLen)(hd:d.size<=maxLen)(hi:i.size<=maxLen)(hb:I64 b)(he:I64 e)(hf:I64 f)(hg:I64 g)(hh:I64 h) :
 keyOf prog 106 (.agg #[.string a,.int .i64 b,.string c,.string d,.int .i64 e,.int .i64 f,.int .i64 g,.int .i64 h,.string i])=some (.string (keyBytes [.string a.data.toList,.int .i64 b,.string c.data.toList,.string d.data.toList,.int .i64 e,.int .i64 f,.int .i64 g,.int .i64 h,.string i.data.toList])):=by
 have hk:prog.keyType 106=true:=by kernel_rfl
 have hl:=lits75 a c d i b e f g h ha hc hd hi hb he hf hg hh
 unfold keyOf
 rw[underlying106,depthT]
 simp[hk,Value.formed,underlying106,cells75,Value.cells,hl]
theorem key75 (k:DK)(h:OkM k):keyOf prog 106 (markK k)=some (.string (keyBytes [.string k.2.2.1.1.data.toList,.int .i64 k.2.2.1.2,.string k.2.2.2.2.2.1.data.toList,.string k.2.2.2.2.2.2.1.data.toList,.int .i64 k.2.1,.int .i64 k.2.2.2.1,.int .i64 k.2.2.2.2.1,.int .i64 k.1,.string (strOf (encF k.2.2.2.2.2.2.2)).data.toList])):=by
 have hm:∀ s:ByteArray,s.size<=1048576->s.size<=maxLen:=fun s hs=>Nat.le_trans hs (by unfold maxLen;omega)
 exact key75v _ _ _ _ _ _ _ _ _ (hm _ h.src) (hm _ h.tb) (hm _ h.ky) h.fields h.seq h.ev h.no h.tk h.tick
def keysM:Keyz prog 106 { k:DK // OkM k } where
 val:=fun k=>markK k.1
 ok:=fun _=>True
 lit:=fun k=>.string (keyBytes [.string k.1.2.2.1.1.data.toList,.int .i64 k.1.2.2.1.2,.string k.1.2.2.2.2.2.1.data.toList,.string k.1.2.2.2.2.2.2.1.data.toList,.int .i64 k.1.2.1,.int .i64 k.1.2.2.2.1,.int .i64 k.1.2.2.2.2.1,.int .i64 k.1.1,.string (strOf (encF k.1.2.2.2.2.2.2.2)).data.toList])
 of:=fun k _=>key75 k.1 k.2
 inj:=fun x y h=>Subtype.ext (markK_inj x.2 y.2 h)
 law:=law75
theorem Dl.Ok.mark {w:World}{d:Dl}(h:d.Ok w):OkM d.key :=
 ⟨h.tick,h.r.ints.2.1,h.r.src,h.r.ints.1,h.r.ints.2.2.1,h.r.ints.2.2.2,h.r.tb,h.r.ky,h.r.len,fun v hv=>⟨(h.r.val v hv).1,(h.r.val v hv).2,h.r.str v hv⟩⟩
end Go.Proofs.YtfnpfkgmacaboaaGreat
