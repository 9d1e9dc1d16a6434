/-
  history.Upto of the program, and the library's IndexFunc and DeleteFunc at entries.
-/
import Derived.Test.YtfnpfkgmacaboaaGreatKZ
import Derived.Test.YtfnpfkgmacaboaaGreatM11
import Derived.Test.YtfnpfkgmacaboaaGreatM25
namespace Go.Proofs.YtfnpfkgmacaboaaGreat
open Go.ChangeShapes Go.WideShapes Go.ChangeAt Go.RowKit
set_option linter.unusedVariables false
set_option linter.unusedSimpArgs false
set_option maxRecDepth 100000
set_option maxHeartbeats 4000000
open Go.Maps
/-- The closure: is the entry's number greater? -/
theorem late_any (x:En)(g:Nat)(n:Int)(w:World)(hc:w.cell? ⟨g,0,none⟩=some (.int .i64 n)) :
 Calls Tryz.prog 60 #[.agg x.cells.toArray,.pointer (some ⟨g,0,none⟩)] w fun e w'=>e=.returned (.bool (decide (n<x.no)))/\Below w.heap.size w w':=by
 have HC:=Lib.hid hc
 clear hc
 go_enter Tryz.func60,Tryz.ntmps60
 go_upto_region 1 with(first|(refine Za9 rfl 48 (.tmp 0) rfl x.cells rfl ?_)|fail)
 refine Zam (fun W hW=>?_)
 have HXB:Hid (Box W w.heap.size x.cells.toArray 48):=by rw[hW];exact ZaE _ _ _
 have HBV:Hid (Below w.heap.size w W):=by rw[hW];exact Zab _
 clear hW
 have k0:=HXB.out.cell 0 (.int .i64 x.no) rfl
 have k1:=Zaa HC.out HBV.out
 go_wp2_with fail
 go_ret
 exact⟨rfl,HBV.out⟩
/-- The first entry with a greater number. -/
theorem findlate_any (l:List En)(ao:Option Addr)(c g k:Nat)(n:Int)(hl:l.length<=1000000)(hk:k<=l.length)(hlo:∀ i x,l[i]?=some x->(i<k↔x.no<=n))(w:World)(h:Zaf En.cells 40 w ao l)(hc:w.cell? ⟨g,0,none⟩=some (.int .i64 n)) :
 Calls Tryz.prog 85 #[.slice ao l.length c,.func (.func 60) #[] #[.pointer (some ⟨g,0,none⟩)]] w fun e w'=>e=.returned (.int .i64 (if k<l.length then(k:Int)else -1))/\Below w.heap.size w w':=by
 have H:=Lib.hid h
 have HC:=Lib.hid hc
 have HLO:=Lib.hid hlo
 clear h hc hlo
 go_enter Tryz.func85,Tryz.ntmps85
 go_wp2_with fail
 go_loopw [8] (fun j wr=>∃ i:Nat,i<=k/\j=.int .i64 i/\Hid (Below w.heap.size w wr)) (fun j _=>l.length - (intOf j).toNat)
 case atStart=>exact⟨0,by omega,rfl,ZR w⟩
 case round =>
  obtain⟨i,hi,rfl,HB⟩:=hrel
  rename World=>wr
  by_cases hlt:i<l.length
  · obtain⟨x,hx⟩:∃ x,l[i]?=some x:=⟨l[i],List.getElem?_eq_getElem hlt⟩
    obtain⟨b,off,rfl,hrow⟩:=ZaT (H.out.kept HB.out) hx
    have HCX:Hid (∀ j v,x.cells[j]?=some v->wr.cell? ⟨b,off+i*40+j,none⟩=some v):=fun j v hv=>hrow i x hx j v hv
    have HCC:Hid (wr.cell? ⟨g,0,none⟩=some (.int .i64 n)):=Zaa HC.out HB.out
    have HIK:Hid (i<k↔x.no<=n):=HLO.out i x hx
    clear hrow hx
    by_cases hik:i<k
    · have hd:decide (n<x.no)=false:=decide_eq_false (by have:=HIK.out.1 hik;omega)
      go_wp2_with (first
       |(refine Zat rfl 48 (.tmp 14) rfl b (off+i*40) x.cells rfl HCX.out _ Tryz.underlying48 rfl (by kernel_rfl) ?_)
       |(go_at_call 60;refine(late_any x g n _ HCC.out).mono ?_;rintro e w5 ⟨rfl,hb⟩;rw[hd];have HB5:=Lib.hid (ZT HB.out hb);clear hb)
       |fail)
      go_roundw
      case rel=>exact⟨i+1,by omega,by go_num,HB5⟩
      case measure=>simp[intOf];omega
    · obtain rfl:i=k:=by omega
      have hd:decide (n<x.no)=true:=decide_eq_true (by have:=HIK.out.2;omega)
      go_wp2_with (first
       |(refine Zat rfl 48 (.tmp 14) rfl b (off+i*40) x.cells rfl HCX.out _ Tryz.underlying48 rfl (by kernel_rfl) ?_)
       |(go_at_call 60;refine(late_any x g n _ HCC.out).mono ?_;rintro e w5 ⟨rfl,hb⟩;rw[hd];have HB5:=Lib.hid (ZT HB.out hb);clear hb)
       |fail)
      go_ret
      exact⟨rfl,HB5.out⟩
  · obtain rfl:i=l.length:=by omega
    obtain rfl:k=l.length:=by omega
    go_wp2_with fail
    go_ret
    exact⟨rfl,HB.out⟩
theorem putC_size:∀ (vs:List Value) (i:Nat) (cur:Array Value),(putC cur i vs).size=cur.size
 |[],_,_=>rfl
 |v :: vs,i,cur=>by
  show(putC (cur.setIfInBounds i v) (i+1) vs).size=_
  rw[putC_size vs];simp
theorem putC_lt:∀ (vs:List Value) (i:Nat) (cur:Array Value) (j:Nat),j<i->(putC cur i vs)[j]?=cur[j]?
 |[],_,_,_,_=>rfl
 |v :: vs,i,cur,j,h=>by
  show(putC (cur.setIfInBounds i v) (i+1) vs)[j]?=_
  rw[putC_lt vs (i+1) _ j (by omega),Array.getElem?_setIfInBounds_ne (by omega)]
theorem run_clear_row {P:Program}(w:World)(t e ty:TypeId)(L:List Value)(ht:P.underlying t=some (.slice e))(hz:(P.info? e).map (fun i=>i.zero.map (fun z=>z.cells))=some (some L.toArray))(h1:(L.all (·.oneCell'))=true)(hL:0<L.length)
 (g off n c:Nat) (hn:0<n) (cur:Array Value) (hg:w.heap[g]?=some (.cells cur e (0,0))) (hs:off+n*L.length<=cur.size) :
 (Builtin.clear_ #[t] ty #[.slice (some ⟨g,off,none⟩) n c]).run P w=.ok (.tuple #[]) (w.setRow g (putC cur off (Builtin.zeroCells L.toArray n).toList)):=by
 have hv:∃ z:Value,z.cells=L.toArray/\(zeroValue e).run P w=.ok z w:=by
  cases hq:P.info? e with
  |none=>rw[hq]at hz;simp at hz
  |some i =>
   rw[hq]at hz
   simp at hz
   obtain⟨z,h3,h4⟩:=hz
   exact⟨z,h4,by simp[zeroValue,typeInfo,hq,h3]⟩
 obtain⟨z,hzc,hrun⟩:=hv
 have hst:=ZbD (P:=P) g e (Builtin.zeroCells L.toArray n).toList off cur w hg (by simp[Builtin.zeroCells];exact hs) (fun v hv=>by
  simp only[Builtin.zeroCells,Array.toList_map,List.mem_map]at hv
  obtain⟨i,hi,rfl⟩:=hv
  have hlt:i % L.toArray.size<L.toArray.size:=Nat.mod_lt _ (by simpa using hL)
  rw[getElem!_pos L.toArray _ hlt]
  exact List.all_eq_true.1 h1 _ (by simp))
 rw[<-Nat.add_zero off,<-Zbu g off _ 0,Nat.add_zero]at hst
 obtain⟨m,rfl⟩:∃ m,n=m+1:=⟨n - 1,by omega⟩
 simp[Builtin.clear_,run_underlying ht,hrun,hzc,hst]
theorem Own.row {α:Type}{enc:α->List Value}{k:Nat}{e:TypeId}{w:World}{B c n:Nat}{a:Option Addr}{l:List α}(hE:Enc enc k)(h:Own enc k e w B (.slice a n c) l)(h0:0<l.length) :
 ∃ g cur,a=some ⟨g,0,none⟩/\B<=g/\g<w.heap.size/\w.heap[g]?=some (.cells cur e (0,0))/\n=l.length/\l.length<=c/\l.length*k<=cur.size/\Lies enc k w g 0 l:=by
 obtain⟨a2,c2,e2,hc2,-,hl⟩:=h.lies hE
 rcases h.2 with⟨-,h2⟩|⟨g,cap,cur,h1,h2,h3,h4,h5,h6,h7⟩
 · omega
 · injection h1 with h1 h1n h1c
   injection e2 with e2 _ _
   subst h1
   rcases hl with hl|⟨b,off,he,hl⟩
   · rw[hl]at h0;simp at h0
   · rw[<-e2]at he
     injection he with he
     injection he with hb hoff
     subst hb hoff
     refine⟨g,cur,rfl,h2,(Array.getElem?_eq_some_iff.1 h3).1,h3,h1n,by omega,?_,hl⟩
     have:=congrArg List.length h7
     rw[Zbc hE.len]at this
     simp at this
     omega
set_option maxHeartbeats 8000000 in
theorem del_any (l:List En)(a:Option Addr)(c g k B:Nat)(n:Int)(hl:l.length<=1000000)(hk:k<=l.length)(hlo:∀ i x,l[i]?=some x->(i<k↔x.no<=n))(w:World)(hO:Own En.cells 40 48 w B (.slice a l.length c) l)(hB:B<=w.heap.size)(hc:w.cell? ⟨g,0,none⟩=some (.int .i64 n)) :
 Calls Tryz.prog 59 #[.slice a l.length c,.func (.func 60) #[] #[.pointer (some ⟨g,0,none⟩)]] w fun e w'=>∃ m:List En,m=l.take k/\e=.returned (.slice a m.length c)/\Zaf En.cells 40 w' a m/\Below B w w':=by
 have HO:=Lib.hid hO
 have HC:=Lib.hid hc
 have HLO:=Lib.hid hlo
 have HI:=Lib.hid (findlate_any l a c g k n hl hk hlo w (hO.liesAt encE) hc)
 have HBW:=Lib.hid hB
 have HL:=Lib.hid hl
 clear hO hc hlo hB
 by_cases hkl:k<l.length
 · rw[if_pos hkl]at HI
   obtain⟨b,cur,rfl,hb1,hb2,hb3,-,hb4,hb5,hb6⟩:=HO.out.row encE (by omega)
   have HB1:=Lib.hid hb1
   have HB2:=Lib.hid hb2
   have HB3:=Lib.hid hb3
   have HB4:=Lib.hid hb4
   have HB5:=Lib.hid hb5
   have HB6:=Lib.hid hb6
   clear hb1 hb2 hb3 hb4 hb5 hb6 HO
   have hne:((k:Int)==-1)=false:=by simp
   go_enter Tryz.func59,Tryz.ntmps59
   go_wp2_with (first|(go_at_call 85;(with_reducible refine HI.out.mono ?_);rintro e w1 ⟨rfl,hb⟩;have HW1:=Lib.hid hb;clear hb)|fail)
   go_loopw [5,6] (fun s j wr=>∃ i:Nat,k+1<=i/\i<=l.length/\s=.int .i64 k/\j=.int .i64 i/\Hid (Below w.heap.size w wr)) (fun _ j _=>l.length - (intOf j).toNat)
   case atStart=>exact⟨k+1,by omega,by omega,rfl,by go_num,HW1⟩
   case round =>
    obtain⟨i,hi1,hi2,rfl,rfl,HB⟩:=hrel
    rename World=>wr
    by_cases hlt:i<l.length
    · obtain⟨x,hx⟩:∃ x,l[i]?=some x:=⟨l[i],List.getElem?_eq_getElem hlt⟩
      have HCX:Hid (∀ j v,x.cells[j]?=some v->wr.cell? ⟨b,i*40+j,none⟩=some v):=fun j v hv=>by have h:=Zaa (HB6.out i x hx j v hv) HB.out;rwa [Nat.zero_add]at h
      have hd:decide (n<x.no)=true:=decide_eq_true (by have:=HLO.out i x hx;omega)
      clear hx
      go_upto_region 8 with(first|(refine Zat rfl 48 (.tmp 24) rfl b (i*40) x.cells rfl HCX.out _ Tryz.underlying48 rfl (by kernel_rfl) ?_)|(refine Zbh rfl rfl 48 (.tmp 7) (.tmp 25) rfl rfl rfl x.cells rfl rfl (by kernel_rfl) x.cells_one ?_)|fail)
      refine Zam (fun V hV=>?_)
      have HGV:Hid (Box V wr.heap.size x.cells.toArray 48):=by rw[hV];exact Box.new _ _ _
      have HBV:Hid (Below w.heap.size w V):=by rw[hV];exact ZT HB.out (Zab _)
      clear hV
      have HXC:Hid (∀ j v,x.cells[j]?=some v->V.cell? ⟨wr.heap.size,0+j,none⟩=some v):=fun j v hv=>by rw[Nat.zero_add];exact HGV.out.cell j v (by rw[List.getElem?_toArray];exact hv)
      have HCC:Hid (V.cell? ⟨g,0,none⟩=some (.int .i64 n)):=Zaa HC.out HBV.out
      go_wp2_with (first
       |(refine Zat rfl 48 (.tmp 7) rfl wr.heap.size 0 x.cells rfl HXC.out _ Tryz.underlying48 rfl (by kernel_rfl) ?_)
       |(go_at_call 60;refine(late_any x g n _ HCC.out).mono ?_;rintro e w5 ⟨rfl,hb⟩;rw[hd];have HB5:=Lib.hid (ZT HBV.out hb);clear hb)
       |fail)
      go_roundw
      case rel=>exact⟨i+1,by omega,by omega,rfl,by go_num,HB5⟩
      case measure=>simp[intOf];omega
    · obtain rfl:i=l.length:=by omega
      obtain⟨A',hr1,-,hA⟩:=ZbZ elE (some ⟨b,0,none⟩) l.length c k (by omega)
      have hA2:=hA b 0 rfl (by have:=HB4.out;omega)
      rw[Nat.zero_add]at hA2
      subst hA2
      have hr2:=ZbY elE (some ⟨b,0,none⟩) l.length c k (by have:=HB4.out;omega)
      have hgr:wr.heap[b]?=some (.cells cur 48 (0,0)):=by rw[HB.out.block b HB2.out];exact HB3.out
      have hcl:=fun ty=>run_clear_row (P:=Tryz.prog) wr 22 48 ty zeroE.cells Tryz.underlying22 (by kernel_rfl) (by rfl) (by decide) b (k*40) (l.length - k) (c - k) (by omega) cur hgr (by(have h1:=HB5.out;show k*40+(l.length - k)*40<=_;omega))
      go_wp2_with fail
      go_ret
      refine⟨l.take k,rfl,by rw[List.length_take,Nat.min_eq_left hk];rfl,Or.inr ⟨b,0,rfl,?_⟩,(HB.out.mono HBW.out).trans (ZbT (Below.refl _ _) HB1.out _)⟩
      intro i x hx j v hv
      have hi:i<k:=by have:=(List.getElem?_eq_some_iff.1 hx).1;simp at this;omega
      rw[List.getElem?_take_of_lt hi]at hx
      have h1:=Zaa (HB6.out i x hx j v hv) HB.out
      have hj:j<40:=(List.getElem?_eq_some_iff.1 hv).1
      rw[cell_of_row wr b _ cur 48 _ hgr]at h1
      rw[cell_of_row _ b _ _ 48 _ (setRow_heap wr b cur _ 48 _ hgr),putC_lt _ _ _ _ (by omega)]
      exact h1
 · obtain rfl:k=l.length:=by omega
   rw[if_neg (by omega)]at HI
   have HLI:Hid (Zaf En.cells 40 w a l):=HO.out.liesAt encE
   have HO1:Hid (B<=w.heap.size):=HBW
   clear HO
   go_enter Tryz.func59,Tryz.ntmps59
   go_wp2_with (first|(go_at_call 85;(with_reducible refine HI.out.mono ?_);rintro e w1 ⟨rfl,hb⟩;have HW1:=Lib.hid hb;clear hb)|fail)
   go_ret
   exact⟨l,(List.take_length ..).symm,rfl,HLI.out.kept HW1.out,HW1.out.mono HBW.out⟩
theorem upto_any (l:List En)(ao:Option Addr)(c k:Nat)(n:Int)(hl:l.length<=100000)(hk:k<=l.length)(hlo:∀ i x,l[i]?=some x->(i<k↔x.no<=n))(w:World)(h:EnsAt w ao l) :
 Calls Tryz.prog 31 #[.slice ao l.length c,.int .i64 n] w fun e w'=>∃ (a2:Option Addr) (c2:Nat) (m:List En),m=(Zdx l).take k/\e=.returned (.slice a2 m.length c2)/\EnsAt w' a2 m/\Below w.heap.size w w':=by
 have H:=Lib.hid h
 have HLO:=Lib.hid hlo
 clear h hlo
 go_enter Tryz.func31,Tryz.ntmps31
 go_upto_region 1 with fail
 refine Zam (fun V hV=>?_)
 have HBX:Hid (Box V w.heap.size #[.int .i64 n] 3):=by rw[hV];exact Box.new _ _ _
 have HBV:Hid (Below w.heap.size w V):=by rw[hV];exact Zab _
 clear hV
 have HLO2:Hid (∀ i x,(Zdx l)[i]?=some x->(i<k↔x.no<=n)):=by
  intro i x hx
  unfold Zdx at hx
  rw[List.getElem?_map]at hx
  cases hy:l[i]? with
  |none=>rw[hy]at hx;cases hx
  |some y =>
   rw[hy]at hx
   injection hx with hx
   rw[<-hx,puX_no]
   exact HLO.out i y hy
 go_wp2_with (first
  |(go_at_call 28;refine(purge_any l _ _ hl _ (H.out.kept HBV.out)).mono ?_;rintro e w2 ⟨a2,c2,rfl,ho,he,hb⟩;have HO2:=Lib.hid ho;have HE2:=Lib.hid he;have HB2:=Lib.hid hb;have HC2:Hid (w2.cell? ⟨w.heap.size,0,none⟩=some (.int .i64 n)):=(HBX.out.kept hb).cell 0 _ rfl;clear ho he hb)
  |(go_at_call 59;refine(del_any (Zdx l) a2 c2 w.heap.size k V.heap.size n (by rw[purgeL_len];omega) (by rw[purgeL_len];exact hk) HLO2.out _ HO2.out HB2.out.size HC2.out).mono ?_;rintro e w3 ⟨m,hm,rfl,h3,hb⟩;have HL3:=Lib.hid h3;have HB3:=Lib.hid hb;have HM:=Lib.hid hm;clear h3 hb hm)
  |fail)
 go_ret
 have HW3:Below w.heap.size w w3:=ZT HBV.out (HB2.out.trans HB3.out)
 exact⟨a2,c2,m,HM.out,rfl,⟨HL3.out,fun e he=>by
  obtain⟨y,hy,rfl⟩:=List.mem_map.1 (List.mem_of_mem_take (HM.out ▸ he))
  exact((H.out.2 y hy).kept HW3).pu _⟩,HW3⟩
end Go.Proofs.YtfnpfkgmacaboaaGreat
