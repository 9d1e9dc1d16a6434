/- Texts joined by a program. -/
import Derived.Test.YtfnpfkgmacaboaaGreatM35
import Derived.Test.YtfnpfkgmacaboaaGreatM39
import Derived.Test.YtfnpfkgmacaboaaGreatM43
import Derived.Test.YtfnpfkgmacaboaaGreatM44
namespace Go.Proofs.YtfnpfkgmacaboaaGreat
open Go.Proofs.Tryz
open Lib (hid)
open Go.ChangeShapes Go.WideShapes Go.ChangeAt Go.RowKit
set_option linter.unusedVariables false
set_option linter.unusedSimpArgs false
set_option maxRecDepth 100000
set_option maxHeartbeats 4000000
theorem cycle_low {R:List (List Int)}{t:Int}{D:List Int}(h:Zb6 R t D){i:Nat}(hi:i<R.length):∃ x,D[i]?=some x/\1<=x/\x<=1000:=by
 have:=h.1.len
 exact⟨D[i]'(by omega),List.getElem?_eq_getElem _,h.1.low i _ (List.getElem?_eq_getElem _)⟩
def BestIs (R:List (List Int))(best least:Int):Prop:=(best=-1/\least=1000)∨∃ b:Nat,best=b/\b<R.length/\1<=least/\least<1000/\∀ D,Zb6 R best D->D[b]?=some least
theorem BestIs.put {R:List (List Int)}{best least:Int}(h:BestIs R best least)(hR:∀ r∈R,∀ x∈r,0<=x/\x<(R.length:Int)){i:Nat}{x:Int}{D:List Int}(hi:i<R.length)(h1:1<=x)(hx:x<least)(hD:Zb6 R i D)(hd:D[i]?=some x):BestIs R i x:=by
 have:least<=1000:=by rcases h with⟨-,h⟩|⟨b,-,-,-,h,-⟩<;>omega
 exact Or.inr ⟨i,rfl,hi,h1,by omega,fun E hE=>by rw[<-steps_same hR hD hE];exact hd⟩
theorem ZcB {w:World}{a:Option Addr}{D:List Int}(hl:Zac nC 1 w a D){i:Nat}{x:Int}(hx:D[i]?=some x):∃ b o,a=some ⟨b,o,none⟩/\w.cell? ⟨b,o+i,none⟩=some (.int .i64 x):=by
 have hi:=(List.getElem?_eq_some_iff.1 hx).1
 obtain⟨b,o,rfl,hr⟩:=hl.some (by omega)
 exact⟨b,o,rfl,Zco (f:=fun x:Int=>.int .i64 x) (fun _=>rfl) hr hx⟩
def NoCyc (R:List (List Int))(n:Nat):Prop:=∀ j:Nat,j<n->∀ (D:List Int) (x:Int),Zb6 R j D->D[j]?=some x->1000<=x
theorem NoCyc.next {R:List (List Int)}{i:Nat}{D:List Int}{x:Int}(h:NoCyc R i)(hR:∀ r∈R,∀ x∈r,0<=x/\x<(R.length:Int))(hD:Zb6 R i D)(hx:D[i]?=some x)(hl:1000<=x):NoCyc R (i+1):=fun j hj E y hE hy=>by
 by_cases e:j=i
 · subst e
   rw[steps_same hR hE hD,hx]at hy
   injection hy with hy
   omega
 · exact h j (by omega) E y hE hy
def CycR (B:Bool)(w:World)(e:Ending)(w':World):Prop:=∃ (a:Option Addr) (n c:Nat),e=.returned (.slice a n c)/\(B=true->n=0)/\(B=false->0<n)/\n<=1000000/\Below w.heap.size w w'
theorem cycle_det (w0:World)(F:List Ft)(hfl:F.length<=1000)(hfok:∀ f∈F,f.Ok w0):∃ B:Bool,(F=[]->B=true)/\∀ (c_ta:Option Addr) (c_tn:Nat) (c_tc:Nat) (c_fa:Option Addr) (c_fc:Nat) (c_da:Option Addr) (c_dn:Nat) (c_dc:Nat) (c_qa:Option Addr) (c_qn:Nat) (c_qc:Nat) (w:World),Below w0.heap.size w0 w->Zac Ft.cells 18 w c_fa F->Calls prog 173 #[.agg #[.slice c_ta c_tn c_tc,.slice c_fa F.length c_fc,.slice c_da c_dn c_dc,.slice c_qa c_qn c_qc]] w (CycR B w):=by
 obtain⟨R,hrl,hgr⟩:=graph_det w0 F hfl hfok
 have hnl:=namesF_len F
 generalize Zeq F=NM at hrl hgr hnl
 obtain⟨B,hB⟩:=Zcs (NoCyc R R.length)
 refine⟨B,fun h=>hB.2 (fun j hj=>(by have h2:F.length=0:=(by rw[h];rfl);omega)),fun c_ta c_tn c_tc c_fa c_fc c_da c_dn c_dc c_qa c_qn c_qc w Oa hft=>?_⟩
 have HGR:=hid hgr
 have HB:=hid hB
 have Ol:=hid hrl
 have Ja:=hid Oa
 have Be:=hid hft
 have hm:R.length<=1000:=by omega
 clear hgr hB hrl Oa hft hfok hnl
 go_enter func173,ntmps173
 go_upto_region 1 with fail
 refine gen1 (fun V B0 Aa=>?_)
 have HS:=hs1 B0
 simp only[Cl,Nat.reduceAdd]at HS
 have KK:=HS.out V (ZR V)
 have Bf:Hid (Zac Ft.cells 18 V c_fa F):=Be.out.kept Aa.out
 have Ga:Hid (Below w0.heap.size w0 V):=Ja.out.trans (Aa.out.mono Ja.out.size)
 go_upto_region 2 with(first|(go_at_call 193;refine(HGR.out _ _ _ _ _ _ _ _ _ _ _ _ Ga.out Bf.out).mono ?_;rintro e w4 ⟨a3,c3,a4,c4,rfl,h3,h4,hb⟩;have Eu:=hid h3;have HG:=hid h4;have Vm:Hid (Below V.heap.size V w4):=ZT bt hb;clear h3 h4 hb)|fail)
 have hok:=HG.out.ok
 have Ma:Hid (∀ r∈R,∀ x∈r,0<=x/\x<(R.length:Int)):=fun r hr=>(hok r hr).2
 clear hok
 rw[<-Ol.out]
 go_wp2_with fail
 go_loopw [5,6,7] (fun u v jj wr=>∃ (i:Nat) (best least:Int),u=.int .i64 best/\v=.int .i64 least/\i<=R.length/\jj=.int .i64 i/\Hid (BestIs R best least)/\Hid (best=-1->NoCyc R i)/\Hid (Below w4.heap.size w4 wr)) (fun _ _ jj _=>R.length - (intOf jj).toNat)
 case atStart=>exact⟨0,-1,1000,rfl,rfl,by omega,rfl,Or.inl ⟨rfl,rfl⟩,hid (fun _ j hj=>by omega),ZR w4⟩
 case round =>
  obtain⟨i,best,least,rfl,rfl,hi,rfl,Hj,HNC,Ze⟩:=hrel
  by_cases hlt:i<R.length
  · go_wp2_with (first|((go_at_call 194;refine(steps_any R a4 c4 _ (by omega) _ (HG.out.kept Ze.out)).mono ?_;rintro e w5 ⟨a5,c5,D,rfl,hD,Qe,hb⟩;have HD:=hid hD;have Sf:=hid Qe;have Jg:Hid (Below w4.heap.size w4 w5):=ZT Ze.out hb;clear hb hD Qe);obtain⟨x,hx,Ff,Eg⟩:=cycle_low HD.out hlt;obtain⟨b5,o5,rfl,d0⟩:=ZcB Sf.out hx;have HX:=hid hx;clear hx)|fail)
    all_goals
     go_roundw
    all_goals first
     |(case rel=>exact⟨i+1,_,_,rfl,rfl,by omega,by go_num,Hj,hid (fun e=>(HNC.out e).next Ma.out HD.out HX.out (by rcases Hj.out with⟨h1,h2⟩|⟨b,h1,_⟩<;>omega)),Jg⟩)
     |(case rel=>exact⟨i+1,i,x,rfl,rfl,by omega,by go_num,Hj.out.put Ma.out hlt Ff (by omega) HD.out HX.out,hid (fun e=>by omega),Jg⟩)
     |(case measure=>simp[intOf];omega)
  · rcases Hj.out with⟨rfl,rfl⟩|⟨q0,rfl,Rn,Yf,Nd,hDD⟩
    · go_wp2_with fail
      go_ret
      exact⟨_,_,_,rfl,(fun _=>rfl),(fun e=>by have:=HB.out.2 (fun j hj=>HNC.out (by first|rfl|trivial) j (by omega));rw[this]at e;cases e),by omega,ZT Aa.out (ZT Vm.out Ze.out)⟩
    · have Vt:=hid hDD
      clear hDD Hj
      obtain⟨l3,Vn⟩:∃ l3,l3=NM:=⟨_,rfl⟩
      have h3:Zac (fun s:ByteArray=>[Value.string s]) 1 w4 a3 l3:=by rw[Vn];exact Eu.out.2.2
      have Mg:R.length=l3.length:=by rw[Vn,Ol.out]
      clear Vn
      have H3:=hid h3
      have Zb:=hid Mg
      clear h3 Mg
      go_upto_region 14 with(first|(go_at_call 194;refine(steps_any R a4 c4 _ (by omega) _ (HG.out.kept Ze.out)).mono ?_;rintro e w5 ⟨a5,c5,D,rfl,hD,Qe,hb⟩;have HD:=hid hD;have Sf:=hid Qe;have Jg:Hid (Below w4.heap.size w4 w5):=ZT Ze.out hb;clear hb hD Qe)|fail)
      have Ae:Hid (D[q0]?=some least):=Vt.out D HD.out
      have Ge:Hid (B=true->False):=fun e=>by have:=HB.out.1 e q0 Rn D least HD.out Ae.out;omega
      obtain⟨b5,o5,rfl,-⟩:=ZcB Sf.out Ae.out
      obtain⟨s0,Im⟩:∃ s0,l3[q0]?=some s0:=⟨l3[q0]'(by have:=Zb.out;omega),List.getElem?_eq_getElem _⟩
      obtain⟨b3,o3,rfl,Ph⟩:=H3.out.some (by have:=Zb.out;omega)
      have Md:=hid Ph
      have d0:w5.cell? ⟨b3,o3+q0,none⟩=some (.string s0):=Zaa (Zbs Ph Im) Jg.out
      clear Ph Im
      go_wp2_with fail
      have Uh:Hid (Own (fun s:ByteArray=>[Value.string s]) 1 9 (w5.alloc (.cells #[Value.string s0] 9)) w5.heap.size (.slice (some ⟨w5.heap.size,0,none⟩) 1 1) [s0]):=Own.lit1 encS (Nat.le_refl _) s0
      have HQ6:Hid (Below w4.heap.size w4 (w5.alloc (.cells #[Value.string s0] 9))):=Jg.out.alloc Jg.out.size _
      go_loopw [10,11,12] (fun u v jj wr=>∃ (q:Nat) (m:Int) (l:List ByteArray) (v0:Value),v0=u/\v=.int .i64 q/\jj=.int .i64 m/\q<R.length/\0<=m/\m<=998/\(l.length:Int)+m<=2000/\1<=l.length/\Hid (D[q]?=some (m+1))/\Hid (Own (fun s:ByteArray=>[Value.string s]) 1 9 wr w5.heap.size u l)/\Hid (Below w4.heap.size w4 wr)/\Hid (Below w5.heap.size w5 wr)) (fun _ _ jj _=>(intOf jj).toNat)
      case atStart=>exact⟨q0,least - 1,[s0],_,rfl,rfl,by go_num,Rn,by omega,by omega,by simp;omega,by simp,(by rw[show least - 1+1=least by omega];exact Ae),Uh,HQ6,Zab _⟩
      case round =>
       clear Uh HQ6 Ze
       obtain⟨q,m,l,v0,rfl,rfl,rfl,hq,hm0,Sq,hlm,hl1l,HXQ,HO,Ze,Ei⟩:=hrel
       rename World=>wr
       by_cases hm:0<m
       · obtain⟨r,hr⟩:∃ r,R[q]?=some r:=⟨R[q],List.getElem?_eq_getElem hq⟩
         obtain⟨y,hy,hDy⟩:=steps_next HD.out HXQ.out hr (by omega) (by omega)
         obtain⟨p,hp,hpy⟩:=List.mem_iff_getElem.1 hy
         have HP:Hid (D[(r[p]).toNat]?=some m):=by show _=_;rw[hpy,hDy];congr 1;omega
         obtain⟨br,orr,ar,cr,rfl,hc,hl⟩:=(HG.out.kept Ze.out).row hr
         obtain⟨b2,o2,rfl,Bb⟩:=hl.some (by omega)
         have Ke:=hid Bb
         have hrl:=(HG.out.ok r (List.mem_of_getElem? hr)).1
         have Th:Hid (∀ x∈r,0<=x/\x<(R.length:Int)):=Ma.out r (List.mem_of_getElem? hr)
         have Xd:=hid hc
         have Oe:Hid (D.length=R.length):=HD.out.1.len
         have Tc:Hid (Zac nC 1 wr (some ⟨b5,o5,none⟩) D):=Sf.out.kept Ei.out
         clear hr hy hDy hpy hc hl Bb
         go_wp2_with fail
         go_loop [13] (fun v=>∃ k:Nat,k<=p/\v=.int .i64 k) (fun v=>p - (intOf v).toNat)
         case atStart=>exact⟨0,by omega,rfl⟩
         case round =>
          obtain⟨k,hk,rfl⟩:=hrel
          have hkr:k<r.length:=by omega
          obtain⟨y2,Jj⟩:∃ y2,r[k]?=some y2:=⟨r[k],List.getElem?_eq_getElem hkr⟩
          obtain⟨Hq,Gp⟩:=Th.out y2 (List.mem_of_getElem? Jj)
          have hdl:=Oe.out
          obtain⟨z,hz⟩:∃ z,D[y2.toNat]?=some z:=⟨D[y2.toNat]'(by omega),List.getElem?_eq_getElem _⟩
          have d1:=Xd.out
          have d2:=Zco (f:=fun x:Int=>.int .i64 x) (fun _=>rfl) Ke.out Jj
          obtain⟨b5',o5',he,d3⟩:=ZcB Tc.out hz
          injection he with he
          injection he with e1 e2
          subst e1 e2
          obtain⟨s,hs⟩:∃ s,l3[y2.toNat]?=some s:=⟨l3[y2.toNat]'(by have:=Zb.out;omega),List.getElem?_eq_getElem _⟩
          have d4:wr.cell? ⟨b3,o3+y2.toNat,none⟩=some (.string s):=Zaa (Zbs Md.out hs) Ze.out
          have HZ:=hid hz
          have Pi:=hid Jj
          have HL:Hid (l.length+[s].length<=1000000000):=by show _<=_;simp;omega
          have hkp:k<p∨z=m:=by
           by_cases e:k<p
           · exact Or.inl e
           · right
             obtain rfl:k=p:=by omega
             have h1:=HP.out
             have h2:=Pi.out
             rw[List.getElem?_eq_getElem hkr]at h2
             injection h2 with h2
             rw[h2,HZ.out]at h1
             injection h1
          clear hz Jj hs
          by_cases hzm:z=m
          · have e1:(z != m)=false:=by simpa using hzm
            have HZM:Hid (D[y2.toNat]?=some (m - 1+1)):=by show _=_;rw[HZ.out,hzm];congr 1;omega
            clear hzm hkp
            go_wp2_with (first|(at_builtin;refine Zai elS encS rfl (.tmp 74) (.tmp 79) rfl rfl rfl (HO.out.kept (Zab _)) (Zav _ _ encS) rfl (fun e=>by cases e) (Nat.le_trans Ei.out.size (Zab _).size) HL.out ?_;intro v3 w3 ho hb;have Sb:=hid ho;have Vi:Hid (Below w5.heap.size w5 w3):=(Ei.out.alloc Ei.out.size _).trans hb;clear ho hb)|fail)
            go_roundw
            case rel=>exact⟨y2.toNat,m - 1,l++[s],_,rfl,by rw[Int.toNat_of_nonneg Hq],by go_num,by omega,by omega,by omega,by simp;omega,by simp,HZM,Sb,ZT Jg.out Vi.out,Vi⟩
            case measure=>simp[intOf];omega
          · have e1:(z != m)=true:=by simpa using hzm
            go_wp2_with fail
            go_round
            case rel=>exact⟨k+1,by omega,by go_num⟩
            case measure=>simp[intOf];omega
       · go_wp2_with fail
         obtain⟨a5',c5',rfl,h5⟩:=StrsX.own HO.out
         go_ret
         exact⟨_,_,_,rfl,(fun e=>(Ge.out e).elim),(fun _=>by omega),by omega,ZT Aa.out (ZT Vm.out Ze.out)⟩
theorem lies_at_of {w:World}{b o:Nat}{l:List Ft}(h:Zac Ft.cells 18 w (some ⟨b,o,none⟩) l)(hl:0<l.length):Lies Ft.cells 18 w b o l:=by
 obtain⟨b2,o2,e,h2⟩:=h.some hl
 injection e with e
 injection e with e1 e2
 subst e1 e2
 exact h2
theorem RetZ.bad {z:Bool}{n:Int}{w w':World}(h:z=true->False)(hn:n≠0)(hb:Below w.heap.size w w'):RetZ z w (.returned (.int .i64 n)) w':=RetZ.of (fun e=>(h e).elim) (fun _=>hn) hb
theorem RetZ.good {z:Bool}{w w':World}(h:z=true)(hb:Below w.heap.size w w'):RetZ z w (.returned (.int .i64 0)) w':=RetZ.of (fun _=>rfl) (fun e=>absurd (e.symm.trans h) (by decide)) hb
theorem own_ft (w0:World)(x:Ft)(h:x.Ok w0):∃ r:Bool,∀ w,Below w0.heap.size w0 w->Calls prog 171 #[.agg x.cells.toArray] w (RetZ r w):=by
 obtain⟨m,e,tk,tua,tun,tuc,tof,bx,rr⟩:=x
 obtain⟨h1,n,h2⟩:=h
 obtain⟨us,Kj,hus⟩:=h1.is
 dsimp only at Kj hus h2
 subst Kj
 obtain⟨r,-,hr⟩:=own_det agg_ok m e tk tua tuc tof bx.k bx.o bx.m bx.t bx.vk bx.vn bx.vs bx.ua bx.un bx.uc bx.p bx.wk bx.wz bx.xa bx.xn bx.xc rr us w0 n h2.at
 exact⟨r,fun w hw=>hr w hw (hus.kept hw)⟩
theorem feat_ft (w0:World)(F:List Ft)(hfl:F.length<=100000)(hfok:∀ f∈F,f.Ok w0)(T:List Tb)(htok:∀ t∈T,FdsAt w0 t.fa t.fn)(x:Ft)(h:x.Ok w0):∃ z:Bool,∀ (c_ta:Option Addr) (c_tc:Nat) (c_fa:Option Addr) (c_fc:Nat) (c_da:Option Addr) (c_dn:Nat) (c_dc:Nat) (c_qa:Option Addr) (c_qn:Nat) (c_qc:Nat) (L:List Tb) (w:World),Below w0.heap.size w0 w->Zac Ft.cells 18 w c_fa F->Zac Tb.cells 4 w c_ta L->L.length<=100000->(L=T∨z=true/\Sub T L)->Calls prog 172 #[.agg #[.slice c_ta L.length c_tc,.slice c_fa F.length c_fc,.slice c_da c_dn c_dc,.slice c_qa c_qn c_qc],.agg x.cells.toArray] w (RetZ z w):=by
 obtain⟨m,e,tk,tua,tun,tuc,tof,bx,rr⟩:=x
 obtain⟨h1,n,h2⟩:=h
 obtain⟨us,Kj,hus⟩:=h1.is
 dsimp only at Kj hus h2
 subst Kj
 obtain⟨r,hr⟩:=ZdY w0 F hfl hfok T htok n m e tk tua tuc tof bx.k bx.o bx.m bx.t bx.vk bx.vn bx.vs bx.ua bx.un bx.uc bx.p bx.wk bx.wz bx.xa bx.xn bx.xc rr us hus h2.at
 exact⟨r,hr⟩
def BadN (l:List Ft)(nf np i:Nat)(x:Ft):Prop:=(i≠0/\i≠nf/\i≠np)/\∃ k y,i=k+1/\l[k]?=some y/\(Op.bytesLess x.m.toList y.m.toList=true∨(i<np/\(x.m.toList==y.m.toList)=true))
def okV (ow:Ft->Bool)(l:List Ft)(nf np i:Nat):Prop:=∀ x,l[i]?=some x->ow x=true/\¬ BadN l nf np i x/\∀ k y,k<i->l[k]?=some y->(y.m.toList==x.m.toList)=true->y.r=x.r->False
theorem okV_at {ow:Ft->Bool}{l:List Ft}{nf np i:Nat}{x:Ft}(hx:l[i]?=some x):okV ow l nf np i↔(ow x=true/\¬ BadN l nf np i x/\∀ k y,k<i->l[k]?=some y->(y.m.toList==x.m.toList)=true->y.r=x.r->False) :=
 ⟨fun h=>h x hx,fun h y hy=>by rw[hx]at hy;injection hy with hy;subst hy;exact h⟩
theorem ccheck_det (w0:World)(F D Q:List Ft)(hF:F.length<=1000)(hD:D.length<=1000)(hQ:Q.length<=1000)(hFok:∀ f∈F,f.Ok w0)(hDok:∀ f∈D,f.Ok w0)(hQok:∀ f∈Q,f.Ok w0)(T:List Tb)(htok:∀ t∈T,FdsAt w0 t.fa t.fn):∃ z:Bool,(z=true->F.length<=32/\D.length<=32/\Q.length<=32)/\(F=[]->D=[]->Q=[]->z=true)/\∀ (L:List Tb) (tz:Bool) (c_ta:Option Addr) (c_tc:Nat) (c_fa:Option Addr) (c_fc:Nat) (c_da:Option Addr) (c_dc:Nat) (c_qa:Option Addr) (c_qc:Nat) (w:World),L.length<=1000->(∀ (c_ta:Option Addr) (c_tc:Nat) (c_fa:Option Addr) (c_fn:Nat) (c_fc:Nat) (c_da:Option Addr) (c_dn:Nat) (c_dc:Nat) (c_qa:Option Addr) (c_qn:Nat) (c_qc:Nat) (w:World),Below w0.heap.size w0 w->Zac Tb.cells 4 w c_ta L->Calls prog 169 #[.agg #[.slice c_ta L.length c_tc,.slice c_fa c_fn c_fc,.slice c_da c_dn c_dc,.slice c_qa c_qn c_qc]] w (RetZ tz w))->(L=T∨z=true/\Sub T L)->Below w0.heap.size w0 w->Zac Tb.cells 4 w c_ta L->Zac Ft.cells 18 w c_fa F->Zac Ft.cells 18 w c_da D->Zac Ft.cells 18 w c_qa Q->Calls prog 144 #[.agg #[.slice c_ta L.length c_tc,.slice c_fa F.length c_fc,.slice c_da D.length c_dc,.slice c_qa Q.length c_qc]] w (RetZ (decide (L.length<=16)&&(tz&&z)) w):=by
 obtain⟨l,hl⟩:∃ l,l=F++D++Q:=⟨_,rfl⟩
 have hlok:∀ x∈l,x.Ok w0:=fun x hx=>by
  rw[hl]at hx
  simp only[List.mem_append]at hx
  rcases hx with(hx|hx)|hx
  · exact hFok x hx
  · exact hDok x hx
  · exact hQok x hx
 obtain⟨ow,how⟩:=ZbY (D:=fun x:Ft=>x∈l) (fun x h=>own_ft w0 x (hlok x h))
 obtain⟨ft,hft⟩:=ZbY (D:=fun x:Ft=>x∈F) (fun x h=>feat_ft w0 F (by omega) hFok T htok x (hFok x h))
 obtain⟨cy,Gr,hcy⟩:=cycle_det w0 F hF hFok
 obtain⟨nf,hnf⟩:∃ nf,nf=F.length:=⟨_,rfl⟩
 obtain⟨np,hnp⟩:∃ np,np=F.length+D.length:=⟨_,rfl⟩
 obtain⟨z,hz⟩:=Zcs ((F.length<=32/\D.length<=32/\Q.length<=32)/\(∀ i,i<l.length->okV ow l nf np i)/\(∀ i,i<F.length->∀ x,F[i]?=some x->ft x=true)/\cy=true)
 refine⟨z,fun h=>(hz.1 h).1,fun h1 h2 h3=>hz.2 ⟨by subst h1 h2 h3;simp,fun i hi=>by subst h1 h2 h3;rw[hl]at hi;simp at hi,fun i hi=>by subst h1;simp at hi,Gr h1⟩,fun L tz c_ta c_tc c_fa c_fc c_da c_dc c_qa c_qc w hL htz hext Oa hlt hlf hld hlq=>?_⟩
 obtain⟨G,hG⟩:∃ G,G=(decide (L.length<=16)&&(tz&&z)):=⟨_,rfl⟩
 rw[<-hG]
 have hGi:G=true↔(L.length<=16/\tz=true/\z=true):=by rw[hG];simp
 have Hn:Hid (G=true->L.length<=16/\F.length<=32/\D.length<=32/\Q.length<=32):=fun h=>⟨(hGi.1 h).1,(hz.1 (hGi.1 h).2.2).1⟩
 have Ej:Hid (G=true->tz=true):=fun h=>(hGi.1 h).2.1
 have Ii:Hid (∀ i,i<l.length->¬ okV ow l nf np i->G=true->False):=fun i hi hb h=>hb ((hz.1 (hGi.1 h).2.2).2.1 i hi)
 have HG4:Hid (∀ i,i<F.length->∀ x,F[i]?=some x->ft x=false->G=true->False):=fun i hi x hx hb h=>by have:=(hz.1 (hGi.1 h).2.2).2.2.1 i hi x hx;rw[hb]at this;cases this
 have HG5:Hid (cy=false->G=true->False):=fun hb h=>by have:=(hz.1 (hGi.1 h).2.2).2.2.2;rw[hb]at this;cases this
 have Tl:Hid (L.length<=16->tz=true->(F.length<=32/\D.length<=32/\Q.length<=32)->(∀ i,i<l.length->okV ow l nf np i)->(∀ i,i<F.length->∀ x,F[i]?=some x->ft x=true)->cy=true->G=true):=fun h1 h2 h3 h4 h5 h6=>hGi.2 ⟨h1,h2,hz.2 ⟨h3,h4,h5,h6⟩⟩
 have Tx:Hid (∀ i,i<F.length->∀ x,F[i]?=some x->(L=T∨ft x=true/\Sub T L)):=fun i hi x hx=>by
  rcases hext with h|⟨h1,h2⟩
  · exact Or.inl h
  · exact Or.inr ⟨(hz.1 h1).2.2.1 i hi x hx,h2⟩
 have Ow:=hid how
 have Bf:=hid hft
 have Nn:=hid hcy
 have HTZ:=hid htz
 have Ja:=hid Oa
 have Xw:=hid hlt
 have Cx:=hid hlf
 have Dx:=hid hld
 have Yw:=hid hlq
 have HL:=hid hl
 have HNF:=hid hnf
 have Qw:=hid hnp
 have hF5:F.length<=100000:=by omega
 have hD5:D.length<=100000:=by omega
 have hQ5:Q.length<=100000:=by omega
 have HVE:Hid (∀ (c_ta:Option Addr) (c_tn:Nat) (c_tc:Nat) (c_fa:Option Addr) (c_fc:Nat) (c_da:Option Addr) (c_dc:Nat) (c_qa:Option Addr) (c_qc:Nat) (w:World),Zac Ft.cells 18 w c_fa F->Zac Ft.cells 18 w c_da D->Zac Ft.cells 18 w c_qa Q->Calls prog 170 #[.agg #[.slice c_ta c_tn c_tc,.slice c_fa F.length c_fc,.slice c_da D.length c_dc,.slice c_qa Q.length c_qc]] w (VerR l w)):=fun c_ta c_tn c_tc c_fa c_fc c_da c_dc c_qa c_qc w h1 h2 h3=>by rw[hl];exact versions_is c_ta c_tn c_tc c_fa c_fc c_da c_dc c_qa c_qc F D Q hF5 hD5 hQ5 w h1 h2 h3
 have Sf:Hid (L.length<=100000):=by show _<=_;omega
 have hln:l.length<=3000:=by rw[hl];simp;omega
 clear how hft hcy Gr htz hext Oa hlt hlf hld hlq hl hnf hnp hG hGi hz hlok hFok hDok hQok htok
 go_enter func144,ntmps144
 go_upto_region 1 with fail
 refine gen1 (fun V B0 Aa=>?_)
 have HS:=hs1 B0
 simp only[Cl,Nat.reduceAdd]at HS
 have KK:=HS.out V (ZR V)
 have Ga:Hid (Below w0.heap.size w0 V):=Ja.out.trans (Aa.out.mono Ja.out.size)
 have Kc:Hid (Zac Tb.cells 4 V c_ta L):=Xw.out.kept Aa.out
 have Zu:Hid (Zac Ft.cells 18 V c_fa F):=Cx.out.kept Aa.out
 have Tc:Hid (Zac Ft.cells 18 V c_da D):=Dx.out.kept Aa.out
 have HLQ:Hid (Zac Ft.cells 18 V c_qa Q):=Yw.out.kept Aa.out
 go_wp2_with (first|((with_reducible refine Zah 118 ?_);refine Za6 rfl 118 _ rfl _ _ 118 rfl (B0.out.kept (by repeat(first|exact ZR _|exact ZH (by assumption)|refine ZA ?_ _|refine ZD ?_|refine ZN ?_ _|refine Zad ?_ _))) _ underlying118 rfl (by kernel_rfl) ?_;intro v hv;obtain rfl:=hv.out)|(go_at_call 169;refine(HTZ.out _ _ _ _ _ _ _ _ _ _ _ _ Ga.out Kc.out).mono ?_;rintro e w1 ⟨r,rfl,Ea,Fa,hb⟩;have Jh:Hid (Below V.heap.size V w1):=hb;clear hb;have KK:=HS.out _ Jh.out;rcases retz Ea Fa with⟨htz,rfl⟩|⟨htz,Ik⟩<;>clear Ea Fa)|(go_at_call 170;refine(HVE.out _ _ _ _ _ _ _ _ _ _ (Zu.out.kept Jh.out) (Tc.out.kept Jh.out) (HLQ.out.kept Jh.out)).mono ?_;rintro e w2 ⟨a4,c4,rfl,h4,hb⟩;have HA:=hid h4;have Wb:Hid (Below V.heap.size V w2):=ZT Jh.out hb;clear hb h4;have KK:=HS.out _ Wb.out)|fail)
 all_goals first
  |(go_ret;exact RetZ.bad (fun h=>by have h1:=Hn.out h;have h2:=Ej.out h;first|omega|(rw[h2]at htz;cases htz)) (by first|decide|assumption) (ZT Aa.out (by repeat(first|exact ZR _|exact ZH (by assumption)|refine ZA ?_ _|refine ZD ?_|refine ZN ?_ _|refine Zad ?_ _))))
  |skip
 have Ys:Hid (L.length<=16/\F.length<=32/\D.length<=32/\Q.length<=32):=by show _/\_;omega
 have H1:=HA
 go_loopw [6] (fun v wr=>∃ i:Nat,i<=l.length/\v=.int .i64 i/\Hid (∀ j,j<i->okV ow l nf np j)/\Hid (Below w2.heap.size w2 wr)) (fun v _=>l.length - (intOf v).toNat)
 case atStart=>exact⟨0,by omega,rfl,hid (fun j hj=>by omega),ZR w2⟩
 case round =>
  obtain⟨i,hi,rfl,HI,HR⟩:=hrel
  rename World=>wr
  have KK:=HS.out _ (ZT Wb.out HR.out)
  by_cases hlt:i<l.length
  · obtain⟨x,hx⟩:∃ x,l[i]?=some x:=⟨l[i],List.getElem?_eq_getElem hlt⟩
    have Qd:=hid (Ii.out i hlt)
    have Ml:=hid (okV_at (ow:=ow) (nf:=nf) (np:=np) hx)
    obtain⟨b1,o1,rfl,Da⟩:=(H1.out.kept HR.out).some (by omega)
    have HC:Hid (∀ j v,(Ft.cells x)[j]?=some v->wr.cell? ⟨b1,o1+i*18+j,none⟩=some v):=fun j v hj=>Da i x hx j v hj
    have Od:=hid hx
    have HX:=hid (Ow.out x (List.mem_of_getElem? hx))
    clear Da hx
    go_upto_region 14 with(first|((with_reducible refine Zah 44 ?_);refine LV b1 (o1+i*18) (Ft.cells x) HC.out ?_)|(go_at_call 171;refine(HX.out _ (Ga.out.trans (Below.mono (ZT Wb.out HR.out) Ga.out.size))).mono ?_;rintro e w3 ⟨r,rfl,Ea,Fa,hb⟩;have Md:Hid (Below w2.heap.size w2 w3):=ZT HR.out hb;have hbw:=hid hb;clear hb;have Qi:Hid (Below V.heap.size V w3):=ZT Wb.out Md.out;have KK:=HS.out _ Qi.out;rcases retz Ea Fa with⟨how,rfl⟩|⟨how,Ik⟩<;>clear Ea Fa)|fail)
    all_goals first
     |(go_ret;exact RetZ.bad (Qd.out (fun h=>by have:=(Ml.out.1 h).1;rw[how]at this;cases this)) (by assumption) (ZT Aa.out (ZT Wb.out Md.out)))
     |skip
    have Nw:=hid how
    clear how
    obtain⟨fst,hfst⟩:∃ q:Bool,q=((i:Int)==0||(i:Int)==(F.length:Int)||(i:Int)==(F.length:Int)+(D.length:Int)):=⟨_,rfl⟩
    have Qt:=hid hfst
    have Wo:Hid (fst=true↔(i=0∨i=nf∨i=np)):=by
     show _↔_
     rw[hfst]
     simp only[Bool.or_eq_true,beq_iff_eq]
     have:=HNF.out
     have:=Qw.out
     omega
    clear hfst
    go_cut [6,7] (fun u v wx=>u=.int .i64 i/\v=.bool fst/\Hid (Below w2.heap.size w2 wx))
    case first =>
     go_wp2_with fail
     all_goals
      go_meet
      case rel=>exact⟨(by first|rfl|(congr 1;omega)),(by rw[Qt.out]<;>first|rfl|(simp_all;done)|(congr 1;symm;simp;omega)),Md⟩
    case rest =>
     obtain⟨rfl,rfl,Rg⟩:=hcut
     rename World=>w4
     have KK:=HS.out _ (ZT Wb.out Rg.out)
     go_upto_region 15 with fail
     obtain⟨b8,Zd⟩:=Zcs (BadN l nf np i x)
     have Sa:=hid Zd
     clear Zd
     go_cut [108] (fun v wx=>v=.bool b8/\Hid (Below w2.heap.size w2 wx))
     case first =>
      cases fst with
      |true =>
       have Lg:Hid (b8=false):=by
        have h:=Wo.out.1 (by first|rfl|trivial)
        cases hq:b8 with
        |false=>exact rfl
        |true=>have:=(Sa.out.1 hq).1;omega
       go_quiet (fail)
       go_wp2_with fail
       go_meet
       case rel=>exact⟨by rw[Lg.out],hid (by repeat(first|exact Rg.out|refine Zad ?_ _))⟩
      |false =>
       have hnn:¬ (i=0∨i=nf∨i=np):=fun h=>by have:=Wo.out.2 h;cases this
       obtain⟨k,rfl⟩:∃ k,i=k+1:=⟨i - 1,by omega⟩
       obtain⟨y,hy⟩:∃ y,l[k]?=some y:=⟨l[k],List.getElem?_eq_getElem (by omega)⟩
       have Vh:Hid (Lies Ft.cells 18 w4 b1 o1 l):=(lies_at_of (H1.out.kept Rg.out) (by omega))
       have c0:=Ft.name Vh.out Od.out
       have d0:=Ft.name Vh.out hy
       have Cm:Hid (b8=true↔(Op.bytesLess x.m.toList y.m.toList=true∨(k+1<np/\(x.m.toList==y.m.toList)=true))):=Sa.out.trans ⟨fun h=>by
        obtain⟨-,k2,y2,e,Jj,h⟩:=h
        obtain rfl:k2=k:=by omega
        rw[hy]at Jj;injection Jj with Jj;subst Jj
        exact h,fun h=>⟨by omega,k,y,rfl,hy,h⟩⟩
       clear hy hnn
       have Ip:IntKind.i64.wrap (((k+1:Nat):Int) - 1)=(k:Int):=by rw[show(((k+1:Nat):Int) - 1)=(k:Int) by omega];exact IntWalk.i64_in _ (by omega)
       cases hL9:Op.bytesLess x.m.toList y.m.toList with
       |true =>
        have Lg:Hid (b8=true):=Cm.out.2 (Or.inl hL9)
        go_quiet (fail)
        go_wp2_with fail
        go_meet
        case rel=>exact⟨by rw[Lg.out],hid (by repeat(first|exact Rg.out|refine Zad ?_ _))⟩
       |false =>
        cases hp:decide (((k+1:Nat):Int)<(F.length:Int)+(D.length:Int))with
        |true =>
         have Mq:decide ((k:Int)+1<(F.length:Int)+(D.length:Int))=true:=by simpa using hp
         have Sn:k+1<np:=by have:=of_decide_eq_true Mq;have:=Qw.out;omega
         obtain⟨q9,hq9⟩:∃ q,(x.m.toList==y.m.toList)=q:=⟨_,rfl⟩
         have Lg:Hid (b8=q9):=Bool.eq_iff_iff.2 (Cm.out.trans ⟨fun h=>by
          rcases h with h|h
          · rw[hL9]at h;cases h
          · exact hq9.symm.trans h.2,fun h=>Or.inr ⟨Sn,hq9.trans h⟩⟩)
         clear Sn
         go_quiet (fail)
         go_wp2_with fail
         go_meet
         case rel=>exact⟨by rw[Lg.out],hid (by repeat(first|exact Rg.out|refine Zad ?_ _))⟩
        |false =>
         have Mq:decide ((k:Int)+1<(F.length:Int)+(D.length:Int))=false:=by simpa using hp
         have Sn:¬ k+1<np:=by have:=of_decide_eq_false Mq;have:=Qw.out;omega
         have Lg:Hid (b8=false):=by
          have h:=Cm.out
          cases hq:b8 with
          |false=>exact rfl
          |true=>rcases h.1 hq with h|h;(rw[hL9]at h;cases h);exact absurd h.1 Sn
         clear Sn
         go_quiet (fail)
         go_wp2_with fail
         go_meet
         case rel=>exact⟨by rw[Lg.out],hid (by repeat(first|exact Rg.out|refine Zad ?_ _))⟩
     case rest =>
      obtain⟨rfl,Ei⟩:=hcut
      rename World=>w5
      cases b8 with
      |true =>
       have HF9:=hid (Qd.out (fun h=>(Ml.out.1 h).2.1 (Sa.out.1 (by first|rfl|trivial))))
       go_wp2_with fail
       go_ret
       exact RetZ.bad HF9.out (by decide) (ZT Aa.out (ZT Wb.out Ei.out))
      |false =>
       have Aj:Hid (¬ BadN l nf np i x):=fun h=>by have:=Sa.out.2 h;cases this
       clear Sa Wo Qt
       go_wp2_with fail
       go_loopw [8] (fun v wx=>∃ k:Nat,k<=i/\v=.int .i64 k/\Hid (∀ j,j<k->∀ y,l[j]?=some y->(y.m.toList==x.m.toList)=true->y.r=x.r->False)/\Hid (Below w2.heap.size w2 wx)) (fun v _=>i - (intOf v).toNat)
       case atStart=>exact⟨0,by omega,rfl,hid (fun j hj=>by omega),Ei⟩
       case round =>
        obtain⟨k,hk,rfl,HK,Vi⟩:=hrel
        rename World=>w6
        by_cases hki:k<i
        · obtain⟨y,hy⟩:∃ y,l[k]?=some y:=⟨l[k],List.getElem?_eq_getElem (by omega)⟩
          have Vh:Hid (Lies Ft.cells 18 w6 b1 o1 l):=(lies_at_of (H1.out.kept Vi.out) (by omega))
          have c0:=Ft.name Vh.out Od.out
          have d0:=Ft.name Vh.out hy
          have c17:w6.cell? ⟨b1,o1+i*18+17,none⟩=some (.int .i64 x.r):=Vh.out i x Od.out 17 _ rfl
          have d17:w6.cell? ⟨b1,o1+k*18+17,none⟩=some (.int .i64 y.r):=Vh.out k y hy 17 _ rfl
          have HY:=hid hy
          clear hy
          cases he:(y.m.toList==x.m.toList)
          all_goals
           have HE:=hid he
           go_wp2_with fail
           go_quiet (fail)
           go_wp2_with fail
           all_goals first
            |(go_ret;exact RetZ.bad (Qd.out (fun h=>(Ml.out.1 h).2.2 k y hki HY.out HE.out (by first|assumption|simp_all))) (by decide) (ZT Aa.out (ZT Wb.out (by repeat(first|exact Vi.out|refine Zad ?_ _)))))
            |(go_roundw;(case rel=>exact⟨k+1,by omega,by go_num,hid (Za9 HK.out (fun u hu e1 e2=>by rw[HY.out]at hu;injection hu with hu;subst hu;first|(rw[HE.out]at e1;cases e1;done)|exact absurd e2 (beq_eq_false_iff_ne.1 (by assumption)))),hid (by repeat(first|exact Vi.out|refine Zad ?_ _))⟩);(case measure=>simp[intOf];omega))
        · have Pw:Hid (okV ow l nf np i):=Ml.out.2 ⟨Nw.out,Aj.out,fun j y hj hy e1 e2=>HK.out j (by omega) y hy e1 e2⟩
          go_wp2_with fail
          go_roundw
          case rel=>exact⟨i+1,by omega,by go_num,hid (Za9 HI.out Pw.out),Vi⟩
          case measure=>simp[intOf];omega
  · have Fp:Hid (∀ i,i<l.length->okV ow l nf np i):=fun j hj=>HI.out j (by omega)
    clear HI
    go_wp2_with fail
    go_loopw [9] (fun v wx=>∃ k:Nat,k<=F.length/\v=.int .i64 k/\Hid (∀ j,j<k->∀ x,F[j]?=some x->ft x=true)/\Hid (Below w2.heap.size w2 wx)) (fun v _=>F.length - (intOf v).toNat)
    case atStart=>exact⟨0,by omega,rfl,hid (fun j hj=>by omega),HR⟩
    case round =>
     obtain⟨i,hi,rfl,HI,HR⟩:=hrel
     rename World=>wr
     have KK:=HS.out _ (ZT Wb.out HR.out)
     have Qi:Hid (Below V.heap.size V wr):=ZT Wb.out HR.out
     by_cases hlt:i<F.length
     · obtain⟨x,hx⟩:∃ x,F[i]?=some x:=⟨F[i],List.getElem?_eq_getElem hlt⟩
       have Cf:=hid (Tx.out i hlt x hx)
       have Aq:=hid (Bf.out x (List.mem_of_getElem? hx))
       have Ha:=hid (HG4.out i hlt x hx)
       have HFG:Hid (ft x=true->∀ j,j<i+1->∀ x,F[j]?=some x->ft x=true):=fun e=>Za9 HI.out (fun u hu=>by rw[hx]at hu;injection hu with hu;subst hu;exact e)
       obtain⟨b2,o2,rfl,Da⟩:=(Zu.out.kept Qi.out).some (by omega)
       have HC:Hid (∀ w',Below wr.heap.size wr w'->∀ j v,(Ft.cells x)[j]?=some v->w'.cell? ⟨b2,o2+i*18+j,none⟩=some v):=fun w' hb j v hj=>Zaa (Da i x hx j v hj) hb
       clear Da hx
       go_upto_region 25 with fail
       refine wrt (S:=fun w'=>Below wr.heap.size wr w') (.free 0 (.free 1 (.free 2 (.free 3 (.free 4 (.free 5 (.one 6 (.free 7 .done)))))))) (ZD (ZR _)) ?_
       refine tr_load _ rfl (by rfl) 118 _ rfl w.heap.size 0 [.slice c_ta L.length c_tc,.slice (some ⟨b2,o2,none⟩) F.length c_fc,.slice c_da D.length c_dc,.slice c_qa Q.length c_qc] rfl (fun w hS j v hj=>by rw[Nat.zero_add];exact(B0.out.kept (ZT Qi.out hS)).cell j v (by rw[List.getElem?_toArray];exact hj)) _ underlying118 rfl (by kernel_rfl) ?_
       intro v0 Hu
       subst Hu
       try simp only[Act.put,m1,m2,m3]
       have Ca:=fun wq (hSw:(fun w'=>Below wr.heap.size wr w') wq)=>HS.out _ (ZT Qi.out hSw)
       refine tk Ca (.pointer (some ⟨w.heap.size,1,none⟩)) ?_
       refine tk Ca (.slice (some ⟨b2,o2,none⟩) F.length c_fc) ?_
       refine tk Ca (.int .i64 i) ?_
       refine tk Ca (.pointer (some ⟨b2,o2+i*18,none⟩)) ?_
       refine tl b2 (o2+i*18) (Ft.cells x) (fun w hS=>HC.out w hS) ?_
       refine t1 fun K hK=>?_
       go_wp2_with (go_at_call 172;refine(Aq.out _ _ _ _ _ _ _ _ _ _ L _ (Ga.out.trans (Below.mono (ZT Qi.out (ZD (ZR _))) Ga.out.size)) (Zu.out.kept (ZT Qi.out (ZD (ZR _)))) (Kc.out.kept (ZT Qi.out (ZD (ZR _)))) Sf.out Cf.out).mono ?_;rintro e w' ⟨r,rfl,Ea,Fa,hb⟩;have Kd:Hid (Below wr.heap.size wr w'):=ZT (ZD (ZR _)) hb;have Jb:=hid Ea;have Dc:=hid Fa;clear hb Ea Fa)
       refine hk hK Kd.out ?_
       clear hK K
       refine tk Ca (.int .i64 r) ?_
       refine ZaP ?_
       rcases retz Jb.out Dc.out with⟨hfz,rfl⟩|⟨hfz,Ik⟩
       all_goals skip
       all_goals
        go_wp2_with fail
       all_goals first
        |(go_ret;exact RetZ.bad (Ha.out hfz) Ik (ZT Aa.out (ZT Qi.out Kd.out)))
        |(go_roundw;(case rel=>exact⟨i+1,by omega,by go_num,hid (HFG.out hfz),hid (ZT HR.out Kd.out)⟩);(case measure=>simp[intOf];omega))
     · have Yo:Hid (∀ j,j<F.length->∀ x,F[j]?=some x->ft x=true):=fun j hj=>HI.out j (by omega)
       go_wp2_with (first|((with_reducible refine Zah 118 ?_);refine Za6 rfl 118 _ rfl _ _ 118 rfl (B0.out.kept (by repeat(first|exact ZR _|exact ZH (by assumption)|refine ZA ?_ _|refine ZD ?_|refine ZN ?_ _|refine Zad ?_ _))) _ underlying118 rfl (by kernel_rfl) ?_;intro v hv;obtain rfl:=hv.out)|(go_at_call 173;refine(Nn.out _ _ _ _ _ _ _ _ _ _ _ _ (Ga.out.trans (Below.mono Qi.out Ga.out.size)) (Zu.out.kept Qi.out)).mono ?_;rintro e w' ⟨a9,n9,c9,rfl,Yd,Pe,Un,hb⟩;have Wp:Hid (Below wr.heap.size wr w'):=hb;have We:=hid Yd;have Ab:=hid Pe;clear hb Yd Pe;cases cy)|fail)
       all_goals first
        |(have hn9:=Ab.out (by first|rfl|trivial);exfalso;omega)
        |(have hn9:=We.out (by first|rfl|trivial);exfalso;omega)
        |(go_ret;exact RetZ.bad (HG5.out (by first|rfl|trivial)) (by decide) (ZT Aa.out (ZT Qi.out (by repeat(first|exact ZR _|exact ZH (by assumption)|refine ZA ?_ _|refine ZD ?_|refine ZN ?_ _|refine Zad ?_ _)))))
        |(go_ret;exact RetZ.good (Tl.out Ys.out.1 htz Ys.out.2 Fp.out Yo.out (by first|rfl|trivial)) (ZT Aa.out (ZT Qi.out (by repeat(first|exact ZR _|exact ZH (by assumption)|refine ZA ?_ _|refine ZD ?_|refine ZN ?_ _|refine Zad ?_ _)))))
structure Cg where
 k:Int
 t:Tb
 f:Ft
 m:ByteArray
def Cg.cells (x:Cg):List Value:=[.int .i64 x.k,.string x.t.m,.string x.t.e,.slice x.t.fa x.t.fn x.t.fc,.int .i64 x.t.p,.string x.f.m,.string x.f.e,.int .i64 x.f.tk,.slice x.f.tua x.f.tun x.f.tuc,.string x.f.tof,.int .i64 x.f.b.k,.string x.f.b.o,.string x.f.b.m,.string x.f.b.t,.int .i64 x.f.b.vk,.int .i64 x.f.b.vn,.string x.f.b.vs,.slice x.f.b.ua x.f.b.un x.f.b.uc,.int .i64 x.f.b.p,.int .i64 x.f.b.wk,.int .i64 x.f.b.wz,.slice x.f.b.xa x.f.b.xn x.f.b.xc,.int .i64 x.f.r,.string x.m]
structure Cg.Ok (w0:World) (x:Cg):Prop where
 t:FdsAt w0 x.t.fa x.t.fn
 f:x.f.Ok w0
def Zc7 (l:List Tb)(x:Cg)(l2:List Tb):Prop:=(x.k=1->findT l x.t.m=none/\l2=insT l x.t)/\(x.k≠1->l2=l)
def TabQ (l:List Tb)(x:Cg)(w:World)(c2:Ct)(k:Int):Prop:=k=0->∃ l2,c2.tn=l2.length/\Zac Tb.cells 4 w c2.ta l2/\Zc7 l x l2
theorem TabQ.kept {l:List Tb}{x:Cg}{w w':World}{c2:Ct}{k:Int}(h:TabQ l x w c2 k)(hb:Below w.heap.size w w'):TabQ l x w' c2 k:=fun h0=>let ⟨l2,e1,e2,e3⟩:=h h0;⟨l2,e1,e2.kept hb,e3⟩
def ChgPost (l:List Tb)(x:Cg)(c:Ct)(w0:World)(B:Nat)(w:World)(e:Ending)(w':World):Prop:=∃ (c2:Ct) (k:Int),e=.returned (.tuple #[c2.val,.int .i64 k])/\c2.Ok w0 B w'/\TabQ l x w' c2 k/\(x.k=1->(k=0↔findT l x.t.m=none)/\(k=0->c2.fa=c.fa/\c2.fn=c.fn/\c2.da=c.da/\c2.dn=c.dn/\c2.qa=c.qa/\c2.qn=c.qn))/\Below w.heap.size w w'
theorem changed_any (c:Ct)(x:Cg)(w w0:World)(Oa:Below w0.heap.size w0 w)(B:Nat)(hB:B<=1000)(h:c.Ok w0 B w)(l:List Tb)(hn:c.tn=l.length)(hlies:Zac Tb.cells 4 w c.ta l)(hok:∀ t∈l,FdsAt w0 t.fa t.fn)(hx:x.Ok w0):Calls prog 143 #[c.val,.agg x.cells.toArray] w (ChgPost l x c w0 (B+2) w):=by
 obtain⟨ta,tn,tc,fa,fn,fc,da,dn,dc,qa,qn,qc⟩:=c
 have hB2:B<=100000:=by omega
 dsimp only[Ct.val]
 dsimp only at hn hlies
 subst hn
 have Ma:=hid hok
 have HL:=hid hlies
 have Mu:=hid hx.t
 have Rp:=hid hx.f
 clear hok hlies hx
 go_enter func143,ntmps143
 go_upto_region 1 with fail
 refine Zan (fun V hV=>?_)
 have Ba:Hid (Cs w0 w B w.heap.size (w.heap.size+1+1) ⟨ta,l.length,tc,fa,fn,fc,da,dn,dc,qa,qn,qc⟩ V):=by
  have hb:Below w.heap.size w V:=by rw[hV];exact bt
  exact⟨by rw[hV];exact Zc4 ..,by rw[hV];exact Zc2 ..,h.kept hb,hb,Oa,Nat.le_refl _,by omega,by omega⟩
 have Za:Hid (Box V (w.heap.size+1) x.cells.toArray 46):=by rw[hV];exact Zc3 ..
 have x0:=Za.out.cell 0 (.int .i64 x.k) rfl
 have x23:=Za.out.cell 23 (.string x.m) rfl
 clear hV h
 have qq:=Ba.out.q
 obtain⟨q0,q1,q2,q3⟩:=qq
 have hk:x.k=1∨x.k=2∨x.k=3∨x.k=4∨(x.k≠1/\x.k≠2/\x.k≠3/\x.k≠4):=by omega
 have same:∀ {c2:Ct} {k2:Int} {w5 w9:World} {r:Nat},x.k≠1->(k2=0->c2.ta=ta/\c2.tn=l.length/\c2.tc=tc)->Zac Tb.cells 4 w9 ta l->k2=0->∃ l2,c2.tn=l2.length/\Zac Tb.cells 4 w9 c2.ta l2/\Zc7 l x l2:=by
  intro c2 k2 w5 w9 r hk h1 h2 h0
  obtain⟨e1,e2,-⟩:=h1 h0
  exact⟨l,e2,by rw[e1];exact h2,fun h=>absurd h hk,fun _=>rfl⟩
 rcases hk with hk|hk|hk|hk|⟨Qh,Ng,Jf,Zk⟩
 · have e1:(x.k==1)=true:=by rw[hk];rfl
   go_wp2_with (first|((with_reducible refine Zah 32 ?_);refine LV (w.heap.size+1) 1 (Tb.cells x.t) (fun j v hj=>Za.out.cell (1+j) v (ZaU (k:=1) (m:=4) hj rfl)) ?_)|(go_at_call 164;refine(tbl_any ⟨ta,l.length,tc,fa,fn,fc,da,dn,dc,qa,qn,qc⟩ x.t l _ w0 Ba.out.wz B hB Ba.out.ok rfl (HL.out.kept Ba.out.below) Ma.out Mu.out).mono ?_;rintro e w5 ⟨c2,k2,rfl,Hd,hif,Ob,hb⟩;have HIF:=hid hif;clear hif;have Uc:=hid Hd;have Zc:=hid Ob;clear Hd Ob;have Sf:=hid ((HL.out.kept Ba.out.below).kept hb);have Ba:=hid (Ba.out.kept hb);clear hb;have qq:=Ba.out.q;obtain⟨q0,q1,q2,q3⟩:=qq)|((with_reducible refine Zah 118 ?_);refine LB Ba.out.box ?_)|((with_reducible refine Zaf 118 ?_);refine Zao rfl _ _ rfl rfl Ba.out c2 rfl rfl Uc.out ?_;intro w9 hR hotr;have HR:=hid hR;have Na:=hid hotr;clear hR hotr)|fail)
   (try simp only[Exit.inBlock,Exit.then]);refine rb2 HR.out.box ?_
   refine⟨c2,k2,rfl,HR.out.ok,fun h0=>?_,fun _=>⟨HIF.out,fun h0=>(Zc.out h0).2.2⟩,HR.out.below⟩
   obtain⟨h2,h3,-⟩:=Zc.out h0
   exact⟨_,h2,TbsL.put h3 Ba.out.res (Zbc _ _ _ _ _ _ _ _ _ _ _ _) Na.out,fun _=>⟨HIF.out.1 h0,rfl⟩,fun h=>absurd hk h⟩
 · have e1:(x.k==1)=false:=by rw[hk];rfl
   have e2:(x.k==2)=true:=by rw[hk];rfl
   go_wp2_with (first|((with_reducible refine Zah 44 ?_);refine LV (w.heap.size+1) 5 (Ft.cells x.f) (fun j v hj=>Za.out.cell (5+j) v (ZaU (k:=5) (m:=18) hj rfl)) ?_)|(go_at_call 165;refine(publish_any ⟨ta,l.length,tc,fa,fn,fc,da,dn,dc,qa,qn,qc⟩ x.f _ w0 Ba.out.wz B hB Ba.out.ok Rp.out).mono ?_;rintro e w5 ⟨c2,k2,rfl,Hd,Ob,hb⟩;have Uc:=hid Hd;have Zc:=hid Ob;clear Hd Ob;have Sf:=hid ((HL.out.kept Ba.out.below).kept hb);have Ba:=hid (Ba.out.kept hb);clear hb;have qq:=Ba.out.q;obtain⟨q0,q1,q2,q3⟩:=qq)|((with_reducible refine Zah 118 ?_);refine LB Ba.out.box ?_)|((with_reducible refine Zaf 118 ?_);refine Zao rfl _ _ rfl rfl Ba.out c2 rfl rfl Uc.out ?_;intro w9 hR hotr;have HR:=hid hR;have Na:=hid hotr;clear hR hotr)|fail)
   (try simp only[Exit.inBlock,Exit.then]);refine rb2 HR.out.box ?_
   exact⟨c2,k2,rfl,HR.out.ok,same (w5:=w5) (r:=0) (by omega) Zc.out (TbsL.put Sf.out Ba.out.res (Zbc _ _ _ _ _ _ _ _ _ _ _ _) Na.out),(fun h=>absurd h (by omega)),HR.out.below⟩
 · have e1:(x.k==1)=false:=by rw[hk];rfl
   have e2:(x.k==2)=false:=by rw[hk];rfl
   have e3:(x.k==3)=true:=by rw[hk];rfl
   go_wp2_with (first|((with_reducible refine Zah 44 ?_);refine LV (w.heap.size+1) 5 (Ft.cells x.f) (fun j v hj=>Za.out.cell (5+j) v (ZaU (k:=5) (m:=18) hj rfl)) ?_)|(go_at_call 166;refine(enforce_any ⟨ta,l.length,tc,fa,fn,fc,da,dn,dc,qa,qn,qc⟩ _ _ w0 Ba.out.wz B hB Ba.out.ok).mono ?_;rintro e w5 ⟨c2,k2,rfl,Hd,Ob,hb⟩;have Uc:=hid Hd;have Zc:=hid Ob;clear Hd Ob;have Sf:=hid ((HL.out.kept Ba.out.below).kept hb);have Ba:=hid (Ba.out.kept hb);clear hb;have qq:=Ba.out.q;obtain⟨q0,q1,q2,q3⟩:=qq)|((with_reducible refine Zah 118 ?_);refine LB Ba.out.box ?_)|((with_reducible refine Zaf 118 ?_);refine Zao rfl _ _ rfl rfl Ba.out c2 rfl rfl Uc.out ?_;intro w9 hR hotr;have HR:=hid hR;have Na:=hid hotr;clear hR hotr)|fail)
   (try simp only[Exit.inBlock,Exit.then]);refine rb2 HR.out.box ?_
   exact⟨c2,k2,rfl,HR.out.ok,same (w5:=w5) (r:=0) (by omega) Zc.out (TbsL.put Sf.out Ba.out.res (Zbc _ _ _ _ _ _ _ _ _ _ _ _) Na.out),(fun h=>absurd h (by omega)),HR.out.below⟩
 · have e1:(x.k==1)=false:=by rw[hk];rfl
   have e2:(x.k==2)=false:=by rw[hk];rfl
   have e3:(x.k==3)=false:=by rw[hk];rfl
   have e4:(x.k==4)=true:=by rw[hk];rfl
   go_wp2_with (first|((with_reducible refine Zah 44 ?_);refine LV (w.heap.size+1) 5 (Ft.cells x.f) (fun j v hj=>Za.out.cell (5+j) v (ZaU (k:=5) (m:=18) hj rfl)) ?_)|(go_at_call 167;refine(rollback_any ⟨ta,l.length,tc,fa,fn,fc,da,dn,dc,qa,qn,qc⟩ _ _ w0 Ba.out.wz B hB Ba.out.ok).mono ?_;rintro e w5 ⟨c2,k2,rfl,Hd,Ob,hb⟩;have Uc:=hid Hd;have Zc:=hid Ob;clear Hd Ob;have Sf:=hid ((HL.out.kept Ba.out.below).kept hb);have Ba:=hid (Ba.out.kept hb);clear hb;have qq:=Ba.out.q;obtain⟨q0,q1,q2,q3⟩:=qq)|((with_reducible refine Zah 118 ?_);refine LB Ba.out.box ?_)|((with_reducible refine Zaf 118 ?_);refine Zao rfl _ _ rfl rfl Ba.out c2 rfl rfl Uc.out ?_;intro w9 hR hotr;have HR:=hid hR;have Na:=hid hotr;clear hR hotr)|fail)
   (try simp only[Exit.inBlock,Exit.then]);refine rb2 HR.out.box ?_
   exact⟨c2,k2,rfl,HR.out.ok,same (w5:=w5) (r:=0) (by omega) Zc.out (TbsL.put Sf.out Ba.out.res (Zbc _ _ _ _ _ _ _ _ _ _ _ _) Na.out),(fun h=>absurd h (by omega)),HR.out.below⟩
 · have e1:(x.k==1)=false:=beq_eq_false_iff_ne.2 Qh
   have e2:(x.k==2)=false:=beq_eq_false_iff_ne.2 Ng
   have e3:(x.k==3)=false:=beq_eq_false_iff_ne.2 Jf
   have e4:(x.k==4)=false:=beq_eq_false_iff_ne.2 Zk
   go_wp2_with (first|(go_at_call 168;refine(drop_any ⟨ta,l.length,tc,fa,fn,fc,da,dn,dc,qa,qn,qc⟩ _ _ w0 Ba.out.wz B hB Ba.out.ok).mono ?_;rintro e w5 ⟨c2,k2,rfl,Hd,Ob,hb⟩;have Uc:=hid Hd;have Zc:=hid Ob;clear Hd Ob;have Sf:=hid ((HL.out.kept Ba.out.below).kept hb);have Ba:=hid (Ba.out.kept hb);clear hb;have qq:=Ba.out.q;obtain⟨q0,q1,q2,q3⟩:=qq)|((with_reducible refine Zah 118 ?_);refine LB Ba.out.box ?_)|((with_reducible refine Zaf 118 ?_);refine Zao rfl _ _ rfl rfl Ba.out c2 rfl rfl Uc.out ?_;intro w9 hR hotr;have HR:=hid hR;have Na:=hid hotr;clear hR hotr)|fail)
   (try simp only[Exit.inBlock,Exit.then]);refine rb2 HR.out.box ?_
   exact⟨c2,k2,rfl,HR.out.ok,same (w5:=w5) (r:=0) Qh Zc.out (TbsL.put Sf.out Ba.out.res (Zbc _ _ _ _ _ _ _ _ _ _ _ _) Na.out),(fun h=>absurd h Qh),HR.out.below⟩
theorem Zfg (t_k:Int)(t_ua:Option Addr)(t_un:Nat)(t_uc:Nat)(t_o:ByteArray)(w:World)(h:ZaH w t_ua t_un):Calls prog 133 #[.agg #[.int .i64 t_k,.slice t_ua t_un t_uc,.string t_o]] w (GotB w):=by
 have HU:=hid h
 clear h
 go_enter func133,ntmps133
 go_upto_region 1 with fail
 refine gen1 (fun V B0 Aa=>?_)
 have HS:=hs1 B0
 simp only[Cl,Nat.reduceAdd]at HS
 have KK:=HS.out V (ZR V)
 go_wp2_with (first|(go_at_call 134;refine(fewx_any 1 ⟨0,⟨#[]⟩,t_o,⟨#[]⟩,0,0,⟨#[]⟩,t_ua,t_un,t_uc,0,0,0,none,0,0⟩ 1 _ _ (ZR _) (by decide) ⟨HU.out.kept Aa.out,(by show(0:Nat)<=140737488355328;decide),[],rfl,by decide,Zac.nil _ _,fun y hy=>(by cases hy)⟩).mono ?_;rintro e w' ⟨r,rfl,-,hb⟩;have HW:Hid (Below V.heap.size V w'):=hb;clear hb)|fail)
 go_ret
 exact⟨_,rfl,ZT Aa.out HW.out⟩
theorem fewtable_any (t_m:ByteArray)(t_e:ByteArray)(t_fa:Option Addr)(t_fn:Nat)(t_fc:Nat)(t_p:Int)(w:World)(h:FdsAt w t_fa t_fn)(hm:t_m.size<=140737488355328)(he:t_e.size<=140737488355328):Calls prog 91 #[.agg #[.string t_m,.string t_e,.slice t_fa t_fn t_fc,.int .i64 t_p]] w (GotP (fun b=>b=true->t_m.size+t_e.size<=200) w):=by
 obtain⟨fs,rfl,hfl,hfu,hf⟩:=h
 have Yj:=hid hf
 have Zp:=hid hfu
 clear hf hfu
 go_enter func91,ntmps91
 go_upto_region 1 with fail
 refine gen1 (fun V B0 Aa=>?_)
 have HS:=hs1 B0
 simp only[Cl,Nat.reduceAdd]at HS
 have KK:=HS.out V (ZR V)
 go_wp2_with fail
 go_loopw [3] (fun v wr=>∃ i:Nat,i<=fs.length/\v=.int .i64 i/\Hid (Below V.heap.size V wr)) (fun v _=>fs.length - (intOf v).toNat)
 case atStart=>exact⟨0,by omega,rfl,ZR V⟩
 case round =>
  obtain⟨i,hi,rfl,HB⟩:=hrel
  rename World=>wr
  have KK:=HS.out _ HB.out
  by_cases hlt:i<fs.length
  · obtain⟨f,hf⟩:∃ f,fs[i]?=some f:=⟨fs[i],List.getElem?_eq_getElem hlt⟩
    obtain⟨b1,o1,rfl,Da⟩:=(Yj.out.kept (ZT Aa.out HB.out)).some (by omega)
    obtain⟨c0,c1,c2,c3⟩:=Fd.cell Da hf
    have HU:=hid ((Zp.out f (List.mem_of_getElem? hf)).kept (ZT Aa.out HB.out))
    clear Da hf
    cases hn:decide ((100:Int)<(f.m.size:Int))with
    |true =>
     go_wp2_with fail
     go_ret
     exact⟨_,rfl,fun h=>(by cases h),ZT Aa.out HB.out⟩
    |false =>
     go_wp2_with (first|(go_at_call 133;refine(Zfg _ _ _ _ _ _ HU.out).mono ?_;rintro e w' ⟨b,rfl,hb⟩;have HW:Hid (Below V.heap.size V w'):=ZT HB.out hb;clear hb;have KK:=HS.out _ HW.out;cases b)|fail)
     all_goals first
      |(go_ret;exact⟨_,rfl,fun h=>(by cases h),ZT Aa.out HW.out⟩)
      |(go_roundw;(case rel=>exact⟨i+1,by omega,by go_num,HW⟩);(case measure=>simp[intOf];omega))
  · cases h12:decide ((fs.length:Int)<=12)with
    |false =>
     go_wp2_with fail
     go_ret
     exact⟨_,rfl,fun h=>(by cases h),ZT Aa.out HB.out⟩
    |true =>
     go_wp2_with fail
     go_ret
     exact⟨_,rfl,fun h=>by simp at h;omega,ZT Aa.out HB.out⟩
theorem ExNd.mono {w:World}:∀ {n c d:Nat} {x:Ex},ExNd n c w x->c<=d->ExNd n d w x
 |0,_,_,_,h,_=>h.elim
 |n+1,c,d,x,⟨h1,h2,xs,cs,h3,h4,h5,h6,h7,h8⟩,hcd=>⟨h1,h2,xs,cs,h3,h4,h5,h6,by omega,h8⟩
theorem fewfeature_any (f_m:ByteArray)(f_e:ByteArray)(f_tk:Int)(f_tua:Option Addr)(f_tun:Nat)(f_tuc:Nat)(f_to:ByteArray)(f_bk:Int)(f_bo:ByteArray)(f_bm:ByteArray)(f_bt:ByteArray)(f_bvk:Int)(f_bvn:Int)(f_bvs:ByteArray)(f_bua:Option Addr)(f_bun:Nat)(f_buc:Nat)(f_bp:Int)(f_bwk:Int)(f_bwz:Int)(f_bxa:Option Addr)(f_bxn:Nat)(f_bxc:Nat)(f_r:Int)(w:World)(w0:World)(Oa:Below w0.heap.size w0 w)(hu:ZaH w0 f_tua f_tun)(n:Nat)(hx:ExAt n w0 ⟨f_bk,f_bo,f_bm,f_bt,f_bvk,f_bvn,f_bvs,f_bua,f_bun,f_buc,f_bp,f_bwk,f_bwz,f_bxa,f_bxn,f_bxc⟩):Calls prog 92 #[.agg #[.string f_m,.string f_e,.int .i64 f_tk,.slice f_tua f_tun f_tuc,.string f_to,.int .i64 f_bk,.string f_bo,.string f_bm,.string f_bt,.int .i64 f_bvk,.int .i64 f_bvn,.string f_bvs,.slice f_bua f_bun f_buc,.int .i64 f_bp,.int .i64 f_bwk,.int .i64 f_bwz,.slice f_bxa f_bxn f_bxc,.int .i64 f_r]] w (GotP (fun b=>b=true->ExNd n 80 w0 ⟨f_bk,f_bo,f_bm,f_bt,f_bvk,f_bvn,f_bvs,f_bua,f_bun,f_buc,f_bp,f_bwk,f_bwz,f_bxa,f_bxn,f_bxc⟩) w):=by
 have HU:=hid hu
 have HX:=hid hx
 have Ja:=hid Oa
 clear hu hx Oa
 go_enter func92,ntmps92
 go_upto_region 1 with fail
 refine gen1 (fun V B0 Aa=>?_)
 have HS:=hs1 B0
 simp only[Cl,Nat.reduceAdd]at HS
 have KK:=HS.out V (ZR V)
 have Ga:Hid (Below w0.heap.size w0 V):=Ja.out.trans (Aa.out.mono Ja.out.size)
 cases hs:decide (wrap64 ((f_m.size:Int)+(f_e.size:Int))<=200)with
 |false =>
  go_wp2_with fail
  go_ret
  exact⟨_,rfl,fun h=>(by cases h),ZT Aa.out (ZR _)⟩
 |true =>
  go_wp2_with (first|(go_at_call 133;refine(Zfg _ _ _ _ _ _ (HU.out.kept Ga.out)).mono ?_;rintro e w' ⟨b,rfl,hb⟩;have HW:Hid (Below V.heap.size V w'):=hb;clear hb;have KK:=HS.out _ HW.out;cases b)|(go_at_call 134;refine(fewx_any n ⟨f_bk,f_bo,f_bm,f_bt,f_bvk,f_bvn,f_bvs,f_bua,f_bun,f_buc,f_bp,f_bwk,f_bwz,f_bxa,f_bxn,f_bxc⟩ 80 _ w0 (Ga.out.trans (HW.out.mono Ga.out.size)) (by decide) HX.out).mono ?_;rintro e w6 ⟨r,rfl,hr,hb⟩;have HR:=hid hr;have Qj:Hid (Below V.heap.size V w6):=ZT HW.out hb;clear hb hr)|fail)
  all_goals go_ret
  all_goals first
   |exact⟨_,rfl,fun h=>(by cases h),ZT Aa.out HW.out⟩
   |exact⟨_,rfl,fun h=>(by(have h0:0<=r:=(by simpa using h));(obtain⟨-,h2,c,hc,hnd⟩:=HR.out h0);exact hnd.mono (by omega)),ZT Aa.out Qj.out⟩
theorem few14_any (x:Cg)(w w0:World)(Oa:Below w0.heap.size w0 w)(ht:FdsAt w0 x.t.fa x.t.fn)(hu:ZaH w0 x.f.tua x.f.tun)(hx:∃ n,ExAt n w0 x.f.b)(hm:x.t.m.size<=140737488355328)(he:x.t.e.size<=140737488355328) :
 Calls prog 68 #[.agg x.cells.toArray] w (GotP (fun b=>b=true->x.t.m.size+x.t.e.size<=200/\x.f.Ok w0) w):=by
 obtain⟨n,hx⟩:=hx
 have HT:=hid ht
 have HU:=hid hu
 have HX:=hid hx
 have Ja:=hid Oa
 have HM:=hid hm
 have HE:=hid he
 clear ht hu hx Oa hm he
 go_enter func68,ntmps68
 go_upto_region 1 with(first|(refine ZaO rfl 46 (.tmp 0) rfl x.cells rfl ?_)|fail)
 refine Zan (fun V hV=>?_)
 have Za:Hid (Box V w.heap.size x.cells.toArray 46):=by rw[hV];exact Zb4 ..
 have Aa:Hid (Below w.heap.size w V):=by rw[hV];exact Zab _
 clear hV
 have Ga:Hid (Below w0.heap.size w0 V):=Ja.out.trans (Aa.out.mono Ja.out.size)
 go_wp2_with (first|((with_reducible refine Zah 32 ?_);refine LV w.heap.size 1 (Tb.cells x.t) (fun j v hj=>Za.out.cell (1+j) v (ZaU (k:=1) (m:=4) hj rfl)) ?_)|(go_at_call 91;refine(fewtable_any _ _ _ _ _ _ _ (HT.out.kept Ga.out) HM.out HE.out).mono ?_;rintro e w' ⟨b,rfl,Lr,hb⟩;have H91:=hid Lr;have HW:Hid (Below V.heap.size V w'):=hb;have Za:=hid (Za.out.kept hb);clear hb Lr;have x23:=Za.out.cell 23 (.string x.m) rfl;cases b)|((with_reducible refine Zah 44 ?_);refine ZcL (by rfl) 44 (.tmp 7) rfl w.heap.size 5 (Ft.cells x.f) rfl (fun j v hj=>Za.out.cell (5+j) v (ZaU (k:=5) (m:=18) hj rfl)) _ underlying44 rfl (by kernel_rfl) ?_)|(go_at_call 92;refine(fewfeature_any _ _ _ _ _ _ _ _ _ _ _ _ _ _ _ _ _ _ _ _ _ _ _ _ _ w0 (Ga.out.trans (HW.out.mono Ga.out.size)) HU.out n HX.out).mono ?_;rintro e w' ⟨b,rfl,Kr,hb⟩;have H92:=hid Kr;have HW:Hid (Below V.heap.size V w'):=ZT HW.out hb;have Za:=hid (Za.out.kept hb);clear hb Kr;have x23:=Za.out.cell 23 (.string x.m) rfl;cases b)|fail)
 all_goals go_ret
 all_goals first
  |exact⟨_,rfl,fun h=>(by cases h),ZT Aa.out HW.out⟩
  |exact⟨_,rfl,fun h=>⟨H91.out (by first|rfl|trivial),HU.out,n,H92.out (by first|rfl|trivial)⟩,ZT Aa.out HW.out⟩
def En.cg (e:En):Cg:=⟨e.ck,⟨e.tn,e.te,(e.ol 0).1,(e.ol 0).2.1,(e.ol 0).2.2,e.oi 0⟩,⟨e.os 0,e.os 1,e.oi 1,(e.ol 1).1,(e.ol 1).2.1,(e.ol 1).2.2,e.os 2,⟨e.oi 2,e.os 3,e.os 4,e.os 5,e.oi 3,e.oi 4,e.os 6,(e.ol 2).1,(e.ol 2).2.1,(e.ol 2).2.2,e.oi 5,e.oi 6,e.oi 7,(e.ol 3).1,(e.ol 3).2.1,(e.ol 3).2.2⟩,e.oi 8⟩,e.os 7⟩
theorem En.cells_cg (e:En):(e.cells.drop 16).take 24=e.cg.cells:=rfl
def En.fct (e:En):List Value:=[.string e.src,.int .i64 e.seq,.int .i64 e.fk,.int .i64 e.ref,.string e.tb,.string e.ky,.int .i64 e.ev,.slice e.fa e.vs.length e.fc]
theorem En.cells_fct (e:En):(e.cells.drop 3).take 8=e.fct:=rfl
theorem Zec {w:World}{b off:Nat}{l:List En}{i:Nat}{e:En}(h:Lies En.cells 40 w b off l)(he:l[i]?=some e)(k m:Nat){L:List Value}(hL:(e.cells.drop k).take m=L):∀ j v,L[j]?=some v->w.cell? ⟨b,off+i*40+k+j,none⟩=some v:=by
 intro j v hj
 rw[Nat.add_assoc]
 exact h i e he (k+j) v (by
  rw[<-hL,List.getElem?_take]at hj
  split at hj
  · rwa [List.getElem?_drop]at hj
  · cases hj)
structure En.Seen (w:World) (e:En):Prop where
 lies:Zac valC 3 w e.fa e.vs
 len:e.vs.length<=140737488355328
 val:∀ v∈e.vs,v.2.2.size<=140737488355328/\I64 v.1/\I64 v.2.1
 str:e.src.size<=140737488355328/\e.tb.size<=140737488355328/\e.ky.size<=140737488355328/\e.een.size<=140737488355328/\e.eky.size<=140737488355328/\e.esr.size<=140737488355328/\e.tn.size<=140737488355328/\e.te.size<=140737488355328
 ints:I64 e.no/\I64 e.tick/\I64 e.kind/\I64 e.seq/\I64 e.fk/\I64 e.ref/\I64 e.ev/\I64 e.ek/\I64 e.esq/\I64 e.ck
 tbl:FdsAt w e.cg.t.fa e.cg.t.fn
 fu:ZaH w e.cg.f.tua e.cg.f.tun
 fx:∃ n,ExAt n w e.cg.f.b
theorem En.Seen.kept {w w':World}{e:En}(h:e.Seen w)(hb:Below w.heap.size w w'):e.Seen w' :=
 { h with lies:=h.lies.kept hb,tbl:=h.tbl.kept hb,fu:=h.fu.kept hb,fx:=let ⟨n,hn⟩:=h.fx;⟨n,hn.kept hb⟩ }
structure En.Few (w:World) (e:En):Prop where
 len:e.vs.length<=12
 fct:e.src.size+e.tb.size+e.ky.size<=200
 era:e.een.size+e.eky.size+e.esr.size<=200
 tab:e.tn.size+e.te.size<=200
 ft:e.cg.f.Ok w
 val:∀ v∈e.vs,v.2.2.size<=200
theorem En.Seen.ok {w w0:World}{e:En}(h:e.Seen w)(hf:e.Few w0):e.Ok w:=by
 obtain⟨h1,h2,h3,h4,h5,h6⟩:=hf
 exact⟨h.lies,by omega,fun v hv=>Nat.le_trans (h6 v hv) (by decide),fun v hv=>(h.val v hv).2,by omega,by omega,by omega,by omega,by omega,by omega,by omega,by omega,h.ints⟩
theorem En.Seen.cg {w:World}{e:En}(h:e.Seen w)(hf:e.Few w):e.cg.Ok w:=⟨h.tbl,hf.ft⟩
theorem wrap_three {a b c:Nat}(ha:a<=140737488355328)(hb:b<=140737488355328)(hc:c<=140737488355328)(h:decide ((200:Int)<IntKind.i64.wrap (IntKind.i64.wrap ((a:Int)+(b:Int))+(c:Int)))=false):a+b+c<=200:=by
 have e1:IntKind.i64.wrap ((a:Int)+(b:Int))=(a:Int)+(b:Int):=IntWalk.i64_in _ (by omega)
 rw[e1,show IntKind.i64.wrap ((a:Int)+(b:Int)+(c:Int))=(a:Int)+(b:Int)+(c:Int) from IntWalk.i64_in _ (by omega)]at h
 have:=of_decide_eq_false h
 omega
theorem fewentries_any (l:List En)(ao:Option Addr)(c:Nat)(w:World)(hl:l.length<=140737488355328)(h:Zac En.cells 40 w ao l)(hs:∀ e∈l,e.Seen w) :
 Calls prog 37 #[.slice ao l.length c] w (GotP (fun b=>b=true->l.length<=60/\∀ e∈l,e.Few w) w):=by
 have H1:=hid h
 have Rf:=hid hs
 clear h hs
 go_enter func37,ntmps37
 go_wp2_with fail
 go_loopw [3] (fun v wr=>∃ i:Nat,i<=l.length/\v=.int .i64 i/\Hid (Below w.heap.size w wr)/\Hid (∀ j e,j<i->l[j]?=some e->e.Few w)) (fun v _=>l.length - (intOf v).toNat)
 case atStart=>exact⟨0,by omega,rfl,ZR w,fun j e hj=>absurd hj (by omega)⟩
 case round =>
  obtain⟨i,hi,rfl,HB,Pt⟩:=hrel
  rename World=>wr
  by_cases hlt:i<l.length
  · by_cases h61:i<61
    · obtain⟨e,he⟩:∃ e,l[i]?=some e:=⟨l[i],List.getElem?_eq_getElem hlt⟩
      obtain⟨b1,o1,rfl,Da⟩:=(H1.out.kept HB.out).some (by omega)
      have Tf:=hid (Zec Da he 3 8 (En.cells_fct e))
      have Ee:=hid Da
      have Zo:=hid he
      have Ti:=hid (Rf.out e (List.mem_of_getElem? he))
      clear Da he
      go_upto_region 5 with(first|((with_reducible refine Zah 27 ?_);refine LV b1 (o1+i*40+3) (En.fct e) Tf.out ?_)|((with_reducible refine ZaK 27 ?_);refine ZaA rfl rfl 27 _ _ rfl rfl rfl (En.fct e) rfl rfl (by kernel_rfl) (by rfl) ?_;intro g7 W hbx Re hb;have Ha:=hid hbx;have Kb:=hid hb;clear Re hbx hb)|fail)
      have Wc:Hid (Below w.heap.size w W):=HB.out.trans (Kb.out.mono HB.out.size)
      have Xp:=hid (Ee.out.kept Kb.out)
      have Gj:=hid (Zec Xp.out Zo.out 16 24 (En.cells_cg e))
      have HE:Hid (∀ w',Below W.heap.size W w'->w'.cell? ⟨b1,o1+i*40+12,none⟩=some (.string e.een)/\w'.cell? ⟨b1,o1+i*40+13,none⟩=some (.string e.eky)/\w'.cell? ⟨b1,o1+i*40+14,none⟩=some (.string e.esr)/\w'.cell? ⟨g7,0,none⟩=some (.string e.src)/\w'.cell? ⟨g7,4,none⟩=some (.string e.tb)/\w'.cell? ⟨g7,5,none⟩=some (.string e.ky)/\w'.cell? ⟨g7,7,none⟩=some (.slice e.fa e.vs.length e.fc)):=fun w' hb =>
       ⟨Zaa (Xp.out i e Zo.out 12 _ rfl) hb,Zaa (Xp.out i e Zo.out 13 _ rfl) hb,Zaa (Xp.out i e Zo.out 14 _ rfl) hb,(Ha.out.kept hb).cell 0 (.string e.src) rfl,(Ha.out.kept hb).cell 4 (.string e.tb) rfl,(Ha.out.kept hb).cell 5 (.string e.ky) rfl,(Ha.out.kept hb).cell 7 (.slice e.fa e.vs.length e.fc) rfl⟩
      refine wrt (S:=fun w'=>Below W.heap.size W w') (.free 0 (.free 1 (.free 2 (.free 3 (.free 4 (.one 5 (.free 6 (.free 7 (.free 8 (.free 9 (.free 10 (.free 11 (.free 12 (.free 13 (.free 14 (.free 15 (.free 16 (.free 17 (.free 18 (.free 19 (.free 20 (.free 21 (.free 22 (.free 23 (.free 24 (.free 25 (.free 26 (.free 27 (.free 28 (.free 29 (.free 30 (.free 31 (.free 32 (.free 33 (.free 34 (.free 35 (.free 36 (.free 37 (.free 38 (.free 39 (.free 40 (.free 41 (.free 42 (.free 43 (.free 44 (.free 45 (.free 46 (.free 47 (.free 48 (.free 49 (.free 50 (.free 51 (.free 52 (.free 53 (.free 54 .done))))))))))))))))))))))))))))))))))))))))))))))))))))))) (ZD (ZR W)) ?_
      have Ca:=fun wq (hSw:(fun w'=>Below W.heap.size W w') wq)=>HE.out wq hSw
      refine tk Ca (.slice (some ⟨b1,o1,none⟩) l.length c) ?_
      refine tk Ca (.int .i64 i) ?_
      refine tk Ca (.pointer (some ⟨b1,o1+i*40,none⟩)) ?_
      refine tk Ca (.pointer (some ⟨b1,o1+i*40+16,none⟩)) ?_
      refine tl b1 (o1+i*40+16) (Cg.cells e.cg) (fun w hS j v hj=>Zaa (Gj.out j v hj) hS) ?_
      refine t1 fun K hK=>?_
      go_wp2_with (go_at_call 68;refine(few14_any e.cg _ w (Wc.out.trans ((ZD (ZR _)).mono Wc.out.size)) Ti.out.tbl Ti.out.fu Ti.out.fx Ti.out.str.2.2.2.2.2.2.1 Ti.out.str.2.2.2.2.2.2.2).mono ?_;rintro ee w5 ⟨b5,rfl,Wk,hb⟩;have Jg:=hid Wk;have De:Hid (Below W.heap.size W w5):=ZT (ZD (ZR _)) hb;clear hb Wk)
      refine hk hK De.out ?_
      clear hK K
      cases b5
      · skip
        refine tk Ca (.bool true) ?_
        refine tk Ca (.bool true) ?_
        refine tro ?_
        refine tro ?_
        refine tro ?_
        refine tro ?_
        refine tk Ca (.bool true) ?_
        refine tk Ca (.bool true) ?_
        refine tro ?_
        refine tro ?_
        refine tro ?_
        refine tro ?_
        refine tro ?_
        refine tro ?_
        refine tro ?_
        refine tro ?_
        refine tro ?_
        refine tro ?_
        refine tro ?_
        refine tro ?_
        refine tro ?_
        refine tk Ca (.bool true) ?_
        refine tk Ca (.bool true) ?_
        refine tro ?_
        refine tro ?_
        refine tro ?_
        refine tro ?_
        refine tro ?_
        refine tro ?_
        refine tro ?_
        refine tro ?_
        refine tro ?_
        refine tro ?_
        refine tro ?_
        refine tro ?_
        refine tro ?_
        refine tro ?_
        refine tro ?_
        refine tro ?_
        refine tro ?_
        refine tro ?_
        refine tro ?_
        refine tro ?_
        refine tro ?_
        refine tro ?_
        refine tro ?_
        refine tro ?_
        refine tro ?_
        refine tk Ca (.bool true) ?_
        refine ZaP ?_
        go_wp2_with fail
        go_ret
        exact⟨_,rfl,fun h=>(by cases h),Wc.out.trans (De.out.mono Wc.out.size)⟩
      · skip
        refine tk Ca (.bool false) ?_
        refine tk Ca (.bool false) ?_
        refine tk Ca (.pointer (some ⟨g7,7,none⟩)) ?_
        refine tk Ca (.slice e.fa e.vs.length e.fc) ?_
        refine tk Ca (.int .i64 e.vs.length) ?_
        cases h12:decide ((12:Int)<(e.vs.length:Int))
        · skip
          refine tk Ca (.bool false) ?_
          refine tk Ca (.bool false) ?_
          refine tk Ca (.bool false) ?_
          refine tk Ca (.pointer (some ⟨g7,0,none⟩)) ?_
          refine tk Ca (.pointer (some ⟨g7,0,none⟩)) ?_
          refine tk Ca (.string e.src) ?_
          refine tk Ca (.int .i64 ((e.src.size:Int))) ?_
          refine tk Ca (.pointer (some ⟨g7,4,none⟩)) ?_
          refine tk Ca (.string e.tb) ?_
          refine tk Ca (.int .i64 ((e.tb.size:Int))) ?_
          refine tk Ca (.int .i64 (IntKind.i64.wrap ((e.src.size:Int)+(e.tb.size:Int)))) ?_
          refine tk Ca (.pointer (some ⟨g7,5,none⟩)) ?_
          refine tk Ca (.string e.ky) ?_
          refine tk Ca (.int .i64 ((e.ky.size:Int))) ?_
          refine tk Ca (.int .i64 (IntKind.i64.wrap (IntKind.i64.wrap ((e.src.size:Int)+(e.tb.size:Int))+(e.ky.size:Int)))) ?_
          cases hs1:decide ((200:Int)<IntKind.i64.wrap (IntKind.i64.wrap ((e.src.size:Int)+(e.tb.size:Int))+(e.ky.size:Int)))
          · skip
            refine tk Ca (.bool false) ?_
            refine tk Ca (.bool false) ?_
            refine tk Ca (.bool false) ?_
            refine tk Ca (.slice (some ⟨b1,o1,none⟩) l.length c) ?_
            refine tk Ca (.int .i64 i) ?_
            refine tk Ca (.pointer (some ⟨b1,o1+i*40,none⟩)) ?_
            refine tk Ca (.pointer (some ⟨b1,o1+i*40+11,none⟩)) ?_
            refine tk Ca (.pointer (some ⟨b1,o1+i*40+12,none⟩)) ?_
            refine tk Ca (.string e.een) ?_
            refine tk Ca (.int .i64 ((e.een.size:Int))) ?_
            refine tk Ca (.slice (some ⟨b1,o1,none⟩) l.length c) ?_
            refine tk Ca (.int .i64 i) ?_
            refine tk Ca (.pointer (some ⟨b1,o1+i*40,none⟩)) ?_
            refine tk Ca (.pointer (some ⟨b1,o1+i*40+11,none⟩)) ?_
            refine tk Ca (.pointer (some ⟨b1,o1+i*40+13,none⟩)) ?_
            refine tk Ca (.string e.eky) ?_
            refine tk Ca (.int .i64 ((e.eky.size:Int))) ?_
            refine tk Ca (.int .i64 (IntKind.i64.wrap ((e.een.size:Int)+(e.eky.size:Int)))) ?_
            refine tk Ca (.slice (some ⟨b1,o1,none⟩) l.length c) ?_
            refine tk Ca (.int .i64 i) ?_
            refine tk Ca (.pointer (some ⟨b1,o1+i*40,none⟩)) ?_
            refine tk Ca (.pointer (some ⟨b1,o1+i*40+11,none⟩)) ?_
            refine tk Ca (.pointer (some ⟨b1,o1+i*40+14,none⟩)) ?_
            refine tk Ca (.pointer (some ⟨b1,o1+i*40+14,none⟩)) ?_
            refine tk Ca (.string e.esr) ?_
            refine tk Ca (.int .i64 ((e.esr.size:Int))) ?_
            refine tk Ca (.int .i64 (IntKind.i64.wrap (IntKind.i64.wrap ((e.een.size:Int)+(e.eky.size:Int))+(e.esr.size:Int)))) ?_
            cases hs2:decide ((200:Int)<IntKind.i64.wrap (IntKind.i64.wrap ((e.een.size:Int)+(e.eky.size:Int))+(e.esr.size:Int)))
            · skip
              refine tk Ca (.bool false) ?_
              refine tk Ca (.bool false) ?_
              refine ZaP ?_
              have f7:=(HE.out _ De.out).2.2.2.2.2.2
              have Cy:=hid h12
              have hlen:=Ti.out.len
              have Db:Hid (Below w.heap.size w w5):=Wc.out.trans (De.out.mono Wc.out.size)
              have Jd:Hid (Zac valC 3 w5 e.fa e.vs):=Ti.out.lies.kept Db.out
              go_wp2_with fail
              go_loop [5] (fun v=>∃ k:Nat,k<=e.vs.length/\v=.int .i64 k/\Hid (∀ j x,j<k->e.vs[j]?=some x->x.2.2.size<=200)) (fun v=>e.vs.length - (intOf v).toNat)
              case atStart=>exact⟨0,by omega,rfl,fun j x hj=>absurd hj (by omega)⟩
              case round =>
               obtain⟨k,hk,rfl,HX⟩:=hrel
               by_cases hkl:k<e.vs.length
               · obtain⟨x,hx⟩:∃ x,e.vs[k]?=some x:=⟨e.vs[k],List.getElem?_eq_getElem hkl⟩
                 obtain⟨b2,o2,Yc,Bb⟩:=Jd.out.some (by omega)
                 rw[Yc]at f7
                 have x2:w5.cell? ⟨b2,o2+k*3+2,none⟩=some (.string x.2.2):=Bb k x hx 2 _ rfl
                 have Od:=hid hx
                 have Vr:Hid (x.2.2.size<=140737488355328):=(Ti.out.val x (List.mem_of_getElem? hx)).1
                 clear Bb hx
                 cases h2:decide ((200:Int)<(x.2.2.size:Int))with
                 |true =>
                  go_wp2_with fail
                  go_ret
                  exact⟨_,rfl,fun h=>(by cases h),Db.out⟩
                 |false =>
                  have Ay:=hid h2
                  go_wp2_with fail
                  go_round
                  case rel=>exact⟨k+1,by omega,by go_num,fun j y hj hy=>by
                   by_cases q:j=k
                   · subst q
                     rw[Od.out]at hy
                     injection hy with hy
                     subst hy
                     have h2':=of_decide_eq_false Ay.out
                     omega
                   · exact HX.out j y (by omega) hy⟩
                  case measure=>simp[intOf];omega
               · go_wp2_with fail
                 go_roundw
                 case rel=>exact⟨i+1,by omega,by go_num,Db,fun j y hj hy=>by
                  by_cases q:j=i
                  · subst q
                    rw[Zo.out]at hy
                    injection hy with hy
                    subst hy
                    obtain⟨Fg,Ob⟩:=Jg.out (by first|rfl|trivial)
                    obtain⟨s1,s2,s3,s4,s5,s6,-⟩:=Ti.out.str
                    have h12':=of_decide_eq_false Cy.out
                    exact⟨by omega,wrap_three s1 s2 s3 hs1,wrap_three s4 s5 s6 hs2,Fg,Ob,fun v hv=>by
                     obtain⟨p,hp,rfl⟩:=List.mem_iff_getElem.1 hv
                     exact HX.out p _ (by omega) (List.getElem?_eq_getElem hp)⟩
                  · exact Pt.out j y (by omega) hy⟩
                 case measure=>simp[intOf];omega
            · skip
              refine tk Ca (.bool true) ?_
              refine tk Ca (.bool true) ?_
              refine ZaP ?_
              go_wp2_with fail
              go_ret
              exact⟨_,rfl,fun h=>(by cases h),Wc.out.trans (De.out.mono Wc.out.size)⟩
          · skip
            refine tk Ca (.bool true) ?_
            refine tk Ca (.bool true) ?_
            refine tk Ca (.bool true) ?_
            refine tro ?_
            refine tro ?_
            refine tro ?_
            refine tro ?_
            refine tro ?_
            refine tro ?_
            refine tro ?_
            refine tro ?_
            refine tro ?_
            refine tro ?_
            refine tro ?_
            refine tro ?_
            refine tro ?_
            refine tro ?_
            refine tro ?_
            refine tro ?_
            refine tro ?_
            refine tro ?_
            refine tro ?_
            refine tro ?_
            refine tro ?_
            refine tro ?_
            refine tro ?_
            refine tro ?_
            refine tro ?_
            refine tk Ca (.bool true) ?_
            refine ZaP ?_
            go_wp2_with fail
            go_ret
            exact⟨_,rfl,fun h=>(by cases h),Wc.out.trans (De.out.mono Wc.out.size)⟩
        · skip
          refine tk Ca (.bool true) ?_
          refine tk Ca (.bool true) ?_
          refine tk Ca (.bool true) ?_
          refine tro ?_
          refine tro ?_
          refine tro ?_
          refine tro ?_
          refine tro ?_
          refine tro ?_
          refine tro ?_
          refine tro ?_
          refine tro ?_
          refine tro ?_
          refine tro ?_
          refine tro ?_
          refine tro ?_
          refine tk Ca (.bool true) ?_
          refine tk Ca (.bool true) ?_
          refine tro ?_
          refine tro ?_
          refine tro ?_
          refine tro ?_
          refine tro ?_
          refine tro ?_
          refine tro ?_
          refine tro ?_
          refine tro ?_
          refine tro ?_
          refine tro ?_
          refine tro ?_
          refine tro ?_
          refine tro ?_
          refine tro ?_
          refine tro ?_
          refine tro ?_
          refine tro ?_
          refine tro ?_
          refine tro ?_
          refine tro ?_
          refine tro ?_
          refine tro ?_
          refine tro ?_
          refine tro ?_
          refine tk Ca (.bool true) ?_
          refine ZaP ?_
          go_wp2_with fail
          go_ret
          exact⟨_,rfl,fun h=>(by cases h),Wc.out.trans (De.out.mono Wc.out.size)⟩
    · have h61':decide ((i:Int)<61)=false:=decide_eq_false (by omega)
      go_wp2_with fail
      go_ret
      exact⟨_,rfl,fun h=>by simp at h;omega,HB.out⟩
  · go_wp2_with fail
    go_ret
    exact⟨_,rfl,fun h=>⟨by simp at h;omega,fun e he=>by
     obtain⟨p,hp,rfl⟩:=List.mem_iff_getElem.1 he
     exact Pt.out p _ (by omega) (List.getElem?_eq_getElem hp)⟩,HB.out⟩
end Go.Proofs.YtfnpfkgmacaboaaGreat
