/- Texts joined by a program. -/
import Derived.Test.YtfnpfkgmacaboaaGreatM05
import Derived.Test.YtfnpfkgmacaboaaGreatM10
namespace Go.Proofs.YtfnpfkgmacaboaaGreat
open Go.Proofs.Tryz
open Lib (hid)
open Go.ChangeShapes Go.WideShapes Go.ChangeAt Go.RowKit
set_option linter.unusedVariables false
set_option linter.unusedSimpArgs false
set_option maxRecDepth 100000
set_option maxHeartbeats 4000000
theorem ZcW {P:Program}{ops:Array Oper}{rest:List Oper}{o:Oper}{Q:Exit->Act->World->Prop}{a:Act}{w:World}(hw:Region.wanted o (yielded ops a.tmps)=true)(ty:TypeId)(x:Operand)(ho:o.op=.load ty x)(b off:Nat)(L:List Value)(hx:a.eval x=.pointer (some ⟨b,off,none⟩))(hc:∀ j v,L[j]?=some v->w.cell? ⟨b,off+j,none⟩=some v)
 (d:TypeDesc) (hu:P.underlying ty=some d) (hd:(match d with|.struct _|.array _ _=>true|_=>false)=true) (hi:(P.info? ty).map (·.size)=some L.length)
 (h:wpList P ops Q rest (a.put o.dst (.agg L.toArray)) w):wpList P ops Q (o :: rest) a w:=by
 refine Go.wpList_step fun K hK=>?_
 rw[if_pos hw]
 unfold Oper.wp execOp
 simp only[ho,hx,Instr.loadAt,Instr.sureAddr,Sem.run_bind,Sem.run_pure,Result.andThen_ok,ZaM w b off ty L d hc hu hd hi]
 exact hK _ _ h
theorem Za8 {A:Array Value}{L:List Value}{k m j:Nat}{v:Value}(hj:L[j]?=some v)(h:(A.toList.drop k).take m=L):A[k+j]?=some v:=by
 rw[<-h]at hj
 rw[List.getElem?_take]at hj
 split at hj
 · rw[List.getElem?_drop]at hj
   rw[<-Array.getElem?_toList]
   exact hj
 · cases hj
theorem Zbr (a_k:Int)(a_tm:ByteArray)(a_te:ByteArray)(a_tfa:Option Addr)(a_tfn:Nat)(a_tfc:Nat)(a_tp:Int)(a_fm:ByteArray)(a_fe:ByteArray)(a_ftk:Int)(a_ftua:Option Addr)(a_ftun:Nat)(a_ftuc:Nat)(a_fto:ByteArray)(a_fbk:Int)(a_fbo:ByteArray)(a_fbm:ByteArray)(a_fbt:ByteArray)(a_fbvk:Int)(a_fbvn:Int)(a_fbvs:ByteArray)(a_fbua:Option Addr)(a_fbun:Nat)(a_fbuc:Nat)(a_fbp:Int)(a_fbwk:Int)(a_fbwz:Int)(a_fbxa:Option Addr)(a_fbxn:Nat)(a_fbxc:Nat)(a_fr:Int)(a_m:ByteArray)(b_k:Int)(b_tm:ByteArray)(b_te:ByteArray)(b_tfa:Option Addr)(b_tfn:Nat)(b_tfc:Nat)(b_tp:Int)(b_fm:ByteArray)(b_fe:ByteArray)(b_ftk:Int)(b_ftua:Option Addr)(b_ftun:Nat)(b_ftuc:Nat)(b_fto:ByteArray)(b_fbk:Int)(b_fbo:ByteArray)(b_fbm:ByteArray)(b_fbt:ByteArray)(b_fbvk:Int)(b_fbvn:Int)(b_fbvs:ByteArray)(b_fbua:Option Addr)(b_fbun:Nat)(b_fbuc:Nat)(b_fbp:Int)(b_fbwk:Int)(b_fbwz:Int)(b_fbxa:Option Addr)(b_fbxn:Nat)(b_fbxc:Nat)(b_fr:Int)(b_m:ByteArray)(w:World)(n:Nat)(h1a_:FdsAt w a_tfa a_tfn)(h2a_:Zao w a_ftua a_ftun)(h3a_:ExAt n w ⟨a_fbk,a_fbo,a_fbm,a_fbt,a_fbvk,a_fbvn,a_fbvs,a_fbua,a_fbun,a_fbuc,a_fbp,a_fbwk,a_fbwz,a_fbxa,a_fbxn,a_fbxc⟩)(h1b_:FdsAt w b_tfa b_tfn)(h2b_:Zao w b_ftua b_ftun)(h3b_:ExAt n w ⟨b_fbk,b_fbo,b_fbm,b_fbt,b_fbvk,b_fbvn,b_fbvs,b_fbua,b_fbun,b_fbuc,b_fbp,b_fbwk,b_fbwz,b_fbxa,b_fbxn,b_fbxc⟩):Calls prog 163 #[.agg #[.int .i64 a_k,.string a_tm,.string a_te,.slice a_tfa a_tfn a_tfc,.int .i64 a_tp,.string a_fm,.string a_fe,.int .i64 a_ftk,.slice a_ftua a_ftun a_ftuc,.string a_fto,.int .i64 a_fbk,.string a_fbo,.string a_fbm,.string a_fbt,.int .i64 a_fbvk,.int .i64 a_fbvn,.string a_fbvs,.slice a_fbua a_fbun a_fbuc,.int .i64 a_fbp,.int .i64 a_fbwk,.int .i64 a_fbwz,.slice a_fbxa a_fbxn a_fbxc,.int .i64 a_fr,.string a_m],.agg #[.int .i64 b_k,.string b_tm,.string b_te,.slice b_tfa b_tfn b_tfc,.int .i64 b_tp,.string b_fm,.string b_fe,.int .i64 b_ftk,.slice b_ftua b_ftun b_ftuc,.string b_fto,.int .i64 b_fbk,.string b_fbo,.string b_fbm,.string b_fbt,.int .i64 b_fbvk,.int .i64 b_fbvn,.string b_fbvs,.slice b_fbua b_fbun b_fbuc,.int .i64 b_fbp,.int .i64 b_fbwk,.int .i64 b_fbwz,.slice b_fbxa b_fbxn b_fbxc,.int .i64 b_fr,.string b_m]] w (GotB w):=by
 have H1a_:=hid h1a_
 have H2a_:=hid h2a_
 have H3a_:=hid h3a_
 clear h1a_ h2a_ h3a_
 have H1b_:=hid h1b_
 have H2b_:=hid h2b_
 have H3b_:=hid h3b_
 clear h1b_ h2b_ h3b_
 go_enter func163,ntmps163
 go_upto_region 1 with fail
 refine Zam (fun V hV=>?_)
 have B0:Hid (Box V w.heap.size #[.int .i64 a_k,.string a_tm,.string a_te,.slice a_tfa a_tfn a_tfc,.int .i64 a_tp,.string a_fm,.string a_fe,.int .i64 a_ftk,.slice a_ftua a_ftun a_ftuc,.string a_fto,.int .i64 a_fbk,.string a_fbo,.string a_fbm,.string a_fbt,.int .i64 a_fbvk,.int .i64 a_fbvn,.string a_fbvs,.slice a_fbua a_fbun a_fbuc,.int .i64 a_fbp,.int .i64 a_fbwk,.int .i64 a_fbwz,.slice a_fbxa a_fbxn a_fbxc,.int .i64 a_fr,.string a_m] 46):=by rw[hV];exact Za4 _ _ _ _ _
 have B1:Hid (Box V (w.heap.size+1) #[.int .i64 b_k,.string b_tm,.string b_te,.slice b_tfa b_tfn b_tfc,.int .i64 b_tp,.string b_fm,.string b_fe,.int .i64 b_ftk,.slice b_ftua b_ftun b_ftuc,.string b_fto,.int .i64 b_fbk,.string b_fbo,.string b_fbm,.string b_fbt,.int .i64 b_fbvk,.int .i64 b_fbvn,.string b_fbvs,.slice b_fbua b_fbun b_fbuc,.int .i64 b_fbp,.int .i64 b_fbwk,.int .i64 b_fbwz,.slice b_fbxa b_fbxn b_fbxc,.int .i64 b_fr,.string b_m] 46):=by rw[hV];exact Za3 _ _ _ _ _
 have HBV:Hid (Below w.heap.size w V):=by rw[hV];exact(by repeat first|exact ZR _|refine ZA ?_ _)
 clear hV
 have HS:Hid (∀ w',Below V.heap.size V w'->w'.cell? ⟨w.heap.size,0,none⟩=some (.int .i64 a_k)/\w'.cell? ⟨w.heap.size,1,none⟩=some (.string a_tm)/\w'.cell? ⟨w.heap.size,2,none⟩=some (.string a_te)/\w'.cell? ⟨w.heap.size,3,none⟩=some (.slice a_tfa a_tfn a_tfc)/\w'.cell? ⟨w.heap.size,4,none⟩=some (.int .i64 a_tp)/\w'.cell? ⟨w.heap.size,23,none⟩=some (.string a_m)/\w'.cell? ⟨w.heap.size+1,0,none⟩=some (.int .i64 b_k)/\w'.cell? ⟨w.heap.size+1,1,none⟩=some (.string b_tm)/\w'.cell? ⟨w.heap.size+1,2,none⟩=some (.string b_te)/\w'.cell? ⟨w.heap.size+1,3,none⟩=some (.slice b_tfa b_tfn b_tfc)/\w'.cell? ⟨w.heap.size+1,4,none⟩=some (.int .i64 b_tp)/\w'.cell? ⟨w.heap.size+1,23,none⟩=some (.string b_m)):=fun w' h=>⟨(B0.out.kept h).cell 0 _ rfl,(B0.out.kept h).cell 1 _ rfl,(B0.out.kept h).cell 2 _ rfl,(B0.out.kept h).cell 3 _ rfl,(B0.out.kept h).cell 4 _ rfl,(B0.out.kept h).cell 23 _ rfl,(B1.out.kept h).cell 0 _ rfl,(B1.out.kept h).cell 1 _ rfl,(B1.out.kept h).cell 2 _ rfl,(B1.out.kept h).cell 3 _ rfl,(B1.out.kept h).cell 4 _ rfl,(B1.out.kept h).cell 23 _ rfl⟩
 have HFA:Hid (∀ w',Below V.heap.size V w'->∀ (j:Nat) (v:Value),([.string a_fm,.string a_fe,.int .i64 a_ftk,.slice a_ftua a_ftun a_ftuc,.string a_fto,.int .i64 a_fbk,.string a_fbo,.string a_fbm,.string a_fbt,.int .i64 a_fbvk,.int .i64 a_fbvn,.string a_fbvs,.slice a_fbua a_fbun a_fbuc,.int .i64 a_fbp,.int .i64 a_fbwk,.int .i64 a_fbwz,.slice a_fbxa a_fbxn a_fbxc,.int .i64 a_fr]:List Value)[j]?=some v->w'.cell? ⟨w.heap.size,5+j,none⟩=some v):=fun w' h j v hj=>(B0.out.kept h).cell (5+j) v (Za8 (k:=5) (m:=18) hj rfl)
 have HFB:Hid (∀ w',Below V.heap.size V w'->∀ (j:Nat) (v:Value),([.string b_fm,.string b_fe,.int .i64 b_ftk,.slice b_ftua b_ftun b_ftuc,.string b_fto,.int .i64 b_fbk,.string b_fbo,.string b_fbm,.string b_fbt,.int .i64 b_fbvk,.int .i64 b_fbvn,.string b_fbvs,.slice b_fbua b_fbun b_fbuc,.int .i64 b_fbp,.int .i64 b_fbwk,.int .i64 b_fbwz,.slice b_fbxa b_fbxn b_fbxc,.int .i64 b_fr]:List Value)[j]?=some v->w'.cell? ⟨w.heap.size+1,5+j,none⟩=some v):=fun w' h j v hj=>(B1.out.kept h).cell (5+j) v (Za8 (k:=5) (m:=18) hj rfl)
 obtain⟨k0_0,k0_1,k0_2,k0_3,k0_4,k0_23,k1_0,k1_1,k1_2,k1_3,k1_4,k1_23⟩:=HS.out V (ZR V)
 have HTa_:Hid (∀ w',Below V.heap.size V w'->FdsAt w' a_tfa a_tfn):=fun w' h=>(H1a_.out.kept HBV.out).kept h
 have HUa_:Hid (∀ w',Below V.heap.size V w'->Zao w' a_ftua a_ftun):=fun w' h=>(H2a_.out.kept HBV.out).kept h
 have HXa_:Hid (∀ w',Below V.heap.size V w'->ExAt n w' ⟨a_fbk,a_fbo,a_fbm,a_fbt,a_fbvk,a_fbvn,a_fbvs,a_fbua,a_fbun,a_fbuc,a_fbp,a_fbwk,a_fbwz,a_fbxa,a_fbxn,a_fbxc⟩):=fun w' h=>(H3a_.out.kept HBV.out).kept h
 have HTb_:Hid (∀ w',Below V.heap.size V w'->FdsAt w' b_tfa b_tfn):=fun w' h=>(H1b_.out.kept HBV.out).kept h
 have HUb_:Hid (∀ w',Below V.heap.size V w'->Zao w' b_ftua b_ftun):=fun w' h=>(H2b_.out.kept HBV.out).kept h
 have HXb_:Hid (∀ w',Below V.heap.size V w'->ExAt n w' ⟨b_fbk,b_fbo,b_fbm,b_fbt,b_fbvk,b_fbvn,b_fbvs,b_fbua,b_fbun,b_fbuc,b_fbp,b_fbwk,b_fbwz,b_fbxa,b_fbxn,b_fbxc⟩):=fun w' h=>(H3b_.out.kept HBV.out).kept h
 go_wp2_with (first|(refine ZcW (by rfl) 44 (.tmp 25) rfl w.heap.size 5 [.string a_fm,.string a_fe,.int .i64 a_ftk,.slice a_ftua a_ftun a_ftuc,.string a_fto,.int .i64 a_fbk,.string a_fbo,.string a_fbm,.string a_fbt,.int .i64 a_fbvk,.int .i64 a_fbvn,.string a_fbvs,.slice a_fbua a_fbun a_fbuc,.int .i64 a_fbp,.int .i64 a_fbwk,.int .i64 a_fbwz,.slice a_fbxa a_fbxn a_fbxc,.int .i64 a_fr] rfl (fun j v hj=>HFA.out _ (by repeat first|exact ZR _|exact ZH (by assumption)|refine ZA ?_ _|refine ZD ?_|refine ZN ?_ _) j v hj) _ underlying44 rfl (by kernel_rfl) ?_)|(refine ZcW (by rfl) 44 (.tmp 27) rfl (w.heap.size+1) 5 [.string b_fm,.string b_fe,.int .i64 b_ftk,.slice b_ftua b_ftun b_ftuc,.string b_fto,.int .i64 b_fbk,.string b_fbo,.string b_fbm,.string b_fbt,.int .i64 b_fbvk,.int .i64 b_fbvn,.string b_fbvs,.slice b_fbua b_fbun b_fbuc,.int .i64 b_fbp,.int .i64 b_fbwk,.int .i64 b_fbwz,.slice b_fbxa b_fbxn b_fbxc,.int .i64 b_fr] rfl (fun j v hj=>HFB.out _ (by repeat first|exact ZR _|exact ZH (by assumption)|refine ZA ?_ _|refine ZD ?_|refine ZN ?_ _) j v hj) _ underlying44 rfl (by kernel_rfl) ?_)|(go_at_call 157;refine(Zd2 _ _ _ _ _ _ _ _ _ _ _ _ _ (HTa_.out _ (by repeat first|exact ZR _|exact ZH (by assumption)|refine ZA ?_ _|refine ZD ?_|refine ZN ?_ _)) (HTb_.out _ (by repeat first|exact ZR _|exact ZH (by assumption)|refine ZA ?_ _|refine ZD ?_|refine ZN ?_ _))).mono ?_;rintro e w' ⟨b,rfl,hb⟩;have HW:Hid (Below V.heap.size V w'):=ZT (by repeat first|exact ZR _|exact ZH (by assumption)|refine ZA ?_ _|refine ZD ?_|refine ZN ?_ _) hb;clear hb;have KK:=HS.out _ HW.out;obtain⟨k0_0,k0_1,k0_2,k0_3,k0_4,k0_23,k1_0,k1_1,k1_2,k1_3,k1_4,k1_23⟩:=KK;cases b)|(go_at_call 158;refine(Zc4 _ _ _ _ _ _ _ _ _ _ _ _ _ _ _ _ _ _ _ _ _ _ _ _ _ _ _ _ _ _ _ _ _ _ _ _ _ _ _ _ _ _ _ _ _ _ _ _ _ n (HUa_.out _ (by repeat first|exact ZR _|exact ZH (by assumption)|refine ZA ?_ _|refine ZD ?_|refine ZN ?_ _)) (HUb_.out _ (by repeat first|exact ZR _|exact ZH (by assumption)|refine ZA ?_ _|refine ZD ?_|refine ZN ?_ _)) (HXa_.out _ (by repeat first|exact ZR _|exact ZH (by assumption)|refine ZA ?_ _|refine ZD ?_|refine ZN ?_ _)) (HXb_.out _ (by repeat first|exact ZR _|exact ZH (by assumption)|refine ZA ?_ _|refine ZD ?_|refine ZN ?_ _))).mono ?_;rintro e w' ⟨b,rfl,hb⟩;have HW:Hid (Below V.heap.size V w'):=ZT (by repeat first|exact ZR _|exact ZH (by assumption)|refine ZA ?_ _|refine ZD ?_|refine ZN ?_ _) hb;clear hb;have KK:=HS.out _ HW.out;obtain⟨k0_0,k0_1,k0_2,k0_3,k0_4,k0_23,k1_0,k1_1,k1_2,k1_3,k1_4,k1_23⟩:=KK;cases b)|fail)
 all_goals
  go_ret
  exact⟨_,rfl,ZT HBV.out (by repeat first|exact ZR _|exact ZH (by assumption)|refine ZA ?_ _|refine ZD ?_|refine ZN ?_ _)⟩
theorem Zbu (g off:Nat):∀ (L:List Value) (i:Nat),storeCells ⟨g,off,none⟩ L i=storeCells ⟨g,0,none⟩ L (off+i)
 |[],i=>rfl
 |v :: L,i=>by
  unfold storeCells
  rw[Zbu g off L (i+1),ZbM,ZbM,Nat.zero_add,Nat.add_assoc]
theorem Zes {P:Program}(w:World)(g off:Nat)(t ty:TypeId)(cur:Array Value)(L:List Value)(hg:w.heap[g]?=some (.cells cur t (0,0)))(hi:(P.info? ty).map (·.size)=some L.length)
 (hs:off+L.length=cur.size) (h1:∀ v∈L,v.oneCell'=true):(storeVar ty ⟨g,off,none⟩ (.agg L.toArray)).run P w=.ok () (w.setRow g (cur.toList.take off++L).toArray):=by
 have:=run_storeCells_from (P:=P) g t L off cur w hg hs h1
 rw[<-Nat.add_zero off,<-Zbu g off L 0,Nat.add_zero]at this
 cases hq:P.info? ty with
 |none=>simp[hq]at hi
 |some i =>
  have hs:i.size=L.length:=by simp[hq]at hi;omega
  simp[storeVar,sizeOf,typeInfo,hq,Value.cells,hs,this]
section
variable {F:Fence} {n:Nat} {P:Program} {ops:Array Oper} {rest:List Oper} {o:Oper} {a:Act} {w:World} {Q:Exit->Act->World->Prop}
theorem ZdN (hgd:o.guard=none)(ty:TypeId)(x y:Operand)(ho:o.op=.store ty x y)(hd:o.dst=none)(g off:Nat)(t:TypeId)(cur:Array Value)(L:List Value)(hx:a.eval x=.pointer (some ⟨g,off,none⟩))(hy:a.eval y=.agg L.toArray)
 (hg:w.heap[g]?=some (.cells cur t (0,0))) (hi:(P.info? ty).map (·.size)=some L.length) (hs:off+L.length=cur.size) (h1:∀ v∈L,v.oneCell'=true)
 (h:wpListIn F n P ops Q rest a (w.setRow g (cur.toList.take off++L).toArray)):wpListIn F n P ops Q (o :: rest) a w:=by
 refine wpListIn_plain hgd fun K hK=>?_
 unfold Oper.wpIn
 refine⟨by simp[Oper.about,ho],?_⟩
 rw[Oper.semAt_plain F _ _ (by rw[ho];intro c hc';cases hc')]
 unfold execOp
 simp only[ho,hx,hy,Instr.storeAt,Instr.sureAddr,Sem.run_bind,Sem.run_pure,Result.andThen_ok,Zes w g off t ty cur L hg hi hs h1]
 refine hK _ _ ?_
 rw[hd]
 exact h
variable {kt:TypeId} {κ:Type} [DecidableEq κ] {Z:Keyz P kt κ} {b m cnt:Nat} {β:Type} {mkV:β->Value} {T:κ->Option β}
theorem wpListIn_look (hgd:o.guard=none)(mm x:Operand)(t:TypeId)(hop:o.op=Op.lookup t mm x false)(e:TypeId)(ht:P.underlying t=some (.map kt e)){z:Value}(hz:(zeroValue e).run P w=.ok z w)
 (hm:a.eval mm=.map (some b)) (h:Tab w Z b m (tabV T mkV)) (k:κ) (hx:a.eval x=Z.val k) (hk:Z.ok k) (v:Value) (hv:((T k).map mkV).getD z=v)
 (hK:wpListIn F n P ops Q rest (a.put o.dst v) w):wpListIn F n P ops Q (o :: rest) a w:=by
 refine wpListIn_plain hgd fun K' hK'=>?_
 have hrun:=h.look ht hz hk
 rw[show((tabV T mkV) k).getD z=v from hv]at hrun
 unfold Oper.wpIn
 refine⟨by simp[Oper.about,hop],?_⟩
 rw[Oper.semAt_plain F _ _ (by rw[hop];intro c hc';cases hc')]
 simp[execOp,hop,hm,hx,hrun,Result.andThen]
 exact hK' _ _ hK
theorem ZdO (hgd:o.guard=none)(mm x v:Operand)(t:TypeId)(hop:o.op=Op.mapUpdate t mm x v)(e:TypeId)(ht:P.underlying t=some (.map kt e))
 (hm:a.eval mm=.map (some b)) (h:Tab w Z b m (tabV T mkV)) (hn:m<maxLen) (k:κ) (hx:a.eval x=Z.val k) (hk:Z.ok k) (d:β) (hv:a.eval v=mkV d)
 (hK:∀ w',Tab w' Z b (m+1) (tabV (putF T k d) mkV)->w.grownBy w' (some b)->wpListIn F n P ops Q rest (a.put o.dst undef) w'):wpListIn F n P ops Q (o :: rest) a w:=by
 refine wpListIn_plain hgd fun K' hK'=>?_
 obtain⟨w',hrun,r1,r2⟩:=h.store ht hn hk (mkV d)
 rw[putT_tabV]at r1
 unfold Oper.wpIn
 refine⟨by simp[Oper.about,hop],?_⟩
 rw[Oper.semAt_plain F _ _ (by rw[hop];intro c hc';cases hc')]
 simp[execOp,hop,hm,hx,hv,hrun,Result.andThen]
 exact hK' _ _ (hK w' r1 r2)
end
theorem Box.setRow {w:World}{g:Nat}{cs:Array Value}{t:TypeId}(h:Box w g cs t)(new:Array Value):Box (w.setRow g new) g new t:=setRow_heap w g cs new t _ h
theorem Tab.setRow {P:Program}{kt:TypeId}{κ:Type} [DecidableEq κ] {Z:Keyz P kt κ}{w:World}{b m:Nat}{T:κ->Option Value}(h:Tab w Z b m T){g:Nat}(hg:b≠g)(new:Array Value):Tab (w.setRow g new) Z b m T :=
 h.grown (row:=some g) ⟨rfl,rfl,rfl,by simp,fun k hk hne=>by unfold World.setRow;simp only[Array.getElem?_modify];rw[if_neg (fun e=>hne (by rw[e]))]⟩ (fun e=>hg (by injection e))
def putC:Array Value->Nat->List Value->Array Value
 |cur,_,[]=>cur
 |cur,i,v :: vs=>putC (cur.setIfInBounds i v) (i+1) vs
theorem setRow_self (w:World)(g:Nat)(cur:Array Value)(t:TypeId)(hg:w.heap[g]?=some (.cells cur t (0,0))):w.setRow g cur=w:=by
 have hlt:g<w.heap.size:=(Array.getElem?_eq_some_iff.1 hg).1
 have hv:w.heap[g]=.cells cur t (0,0):=(Array.getElem?_eq_some_iff.1 hg).2
 unfold World.setRow
 cases w with
 |mk heap tape drawn os output =>
  congr 1
  apply Array.ext
  · simp
  · intro k h1 h2
    simp only[Array.getElem_modify]
    split
    · rename_i hk;subst hk;simp at hv;simp[hv]
    · rfl
theorem ZbD {P:Program}(g:Nat)(t:TypeId):∀ (vs:List Value) (i:Nat) (cur:Array Value) (w:World),w.heap[g]?=some (.cells cur t (0,0))->i+vs.length<=cur.size->(∀ v∈vs,v.oneCell'=true) ->
 (storeCells ⟨g,0,none⟩ vs i).run P w=.ok () (w.setRow g (putC cur i vs))
 |[],i,cur,w,hg,hl,_=>by
  show Result.ok () w=.ok () (w.setRow g cur)
  rw[setRow_self w g cur t hg]
 |v :: rest,i,cur,w,hg,hl,h1=>by
  have hi:i<cur.size:=by simp at hl;omega
  have hadd:(⟨g,0,none⟩:Addr).add i=⟨g,i,none⟩:=by unfold Addr.add;split<;>simp_all
  have hcell:w.cell? ⟨g,i,none⟩=some cur[i]:=by simp[World.cell?,hg,hi]
  have hfro:w.frozen? ⟨g,i,none⟩=false:=by simp[World.frozen?,hg]
  have hst:(store ((⟨g,0,none⟩:Addr).add i) v).run P w=.ok () (w.setRow g (cur.setIfInBounds i v)):=by
   rw[hadd,run_store P w _ v _ (h1 v (by simp)),hcell]
   simp[hfro,setCell_eq_setRow w g i cur t (0,0) v hg]
  have ih:=ZbD (P:=P) g t rest (i+1) (cur.setIfInBounds i v) (w.setRow g (cur.setIfInBounds i v)) (setRow_heap w g cur _ t _ hg) (by simp at hl ⊢;omega) (fun x hx=>h1 x (by simp[hx]))
  simp only[storeCells,Sem.run_bind,hst,Result.andThen_ok,ih,setRow_setRow,putC]
theorem Zbw {P:Program}(w:World)(g off:Nat)(t ty:TypeId)(cur:Array Value)(L:List Value)(hg:w.heap[g]?=some (.cells cur t (0,0)))(hi:(P.info? ty).map (·.size)=some L.length)
 (hs:off+L.length<=cur.size) (h1:∀ v∈L,v.oneCell'=true):(storeVar ty ⟨g,off,none⟩ (.agg L.toArray)).run P w=.ok () (w.setRow g (putC cur off L)):=by
 have:=ZbD (P:=P) g t L off cur w hg hs h1
 rw[<-Nat.add_zero off,<-Zbu g off L 0,Nat.add_zero]at this
 cases hq:P.info? ty with
 |none=>simp[hq]at hi
 |some i =>
  have hs:i.size=L.length:=by simp[hq]at hi;omega
  simp[storeVar,sizeOf,typeInfo,hq,Value.cells,hs,this]
theorem ZbT {B:Nat}{w w1:World}(h:Below B w w1){g:Nat}(hg:B<=g)(cs:Array Value):Below B w (w1.setRow g cs) :=
 ⟨h.os,h.tape,h.output,by rw[setRow_size];exact h.size,fun k hk=>by rw[setRow_other w1 g k cs (by omega)];exact h.block k hk⟩
theorem Zb5 {P:Program}{ops:Array Oper}{rest:List Oper}{o:Oper}{Q:Exit->Act->World->Prop}{a:Act}{w:World}(hgd:o.guard=none)(ty:TypeId)(x y:Operand)(ho:o.op=.store ty x y)(hd:o.dst=none)(g off:Nat)(t:TypeId)(cur:Array Value)(L:List Value)
 (hx:a.eval x=.pointer (some ⟨g,off,none⟩)) (hy:a.eval y=.agg L.toArray) (hg:Box w g cur t) (hi:(P.info? ty).map (·.size)=some L.length) (hs:off+L.length<=cur.size) (h1:(L.all (·.oneCell'))=true) (w0:World) (hB:Below w0.heap.size w0 w) (hBg:w0.heap.size<=g)
 (h:∀ w',Box w' g (putC cur off L) t->Below w0.heap.size w0 w'->wpList P ops Q rest a w'):wpList P ops Q (o :: rest) a w:=by
 refine wpList_plain hgd fun K hK=>?_
 unfold Oper.wp execOp
 simp only[ho,hx,hy,Instr.storeAt,Instr.sureAddr,Sem.run_bind,Sem.run_pure,Result.andThen_ok,Zbw w g off t ty cur L hg hi hs (List.all_eq_true.1 h1)]
 refine hK _ _ ?_
 rw[hd]
 exact h _ (Box.setRow hg _) (ZbT hB hBg _)
theorem ZeJ {n:Nat}{w w':World}{y:Ex}(h:ExAt n w y):ExAt n w' (⟨0,⟨#[]⟩,⟨#[]⟩,⟨#[]⟩,0,0,⟨#[]⟩,none,0,0,0,0,0,none,0,0⟩:Ex):=by
 cases n with
 |zero=>exact h.elim
 |succ n=>exact⟨Zao.nil _ _,by decide,[],rfl,by decide,Zaf.nil _ _,fun y hy=>(by cases hy)⟩
theorem proper_any (a_k:Int)(a_tm:ByteArray)(a_te:ByteArray)(a_tfa:Option Addr)(a_tfn:Nat)(a_tfc:Nat)(a_tp:Int)(a_fm:ByteArray)(a_fe:ByteArray)(a_ftk:Int)(a_ftua:Option Addr)(a_ftun:Nat)(a_ftuc:Nat)(a_fto:ByteArray)(a_fbk:Int)(a_fbo:ByteArray)(a_fbm:ByteArray)(a_fbt:ByteArray)(a_fbvk:Int)(a_fbvn:Int)(a_fbvs:ByteArray)(a_fbua:Option Addr)(a_fbun:Nat)(a_fbuc:Nat)(a_fbp:Int)(a_fbwk:Int)(a_fbwz:Int)(a_fbxa:Option Addr)(a_fbxn:Nat)(a_fbxc:Nat)(a_fr:Int)(a_m:ByteArray)(w:World)(n:Nat)(h1a_:FdsAt w a_tfa a_tfn)(h2a_:Zao w a_ftua a_ftun)(h3a_:ExAt n w ⟨a_fbk,a_fbo,a_fbm,a_fbt,a_fbvk,a_fbvn,a_fbvs,a_fbua,a_fbun,a_fbuc,a_fbp,a_fbwk,a_fbwz,a_fbxa,a_fbxn,a_fbxc⟩):Calls prog 142 #[.agg #[.int .i64 a_k,.string a_tm,.string a_te,.slice a_tfa a_tfn a_tfc,.int .i64 a_tp,.string a_fm,.string a_fe,.int .i64 a_ftk,.slice a_ftua a_ftun a_ftuc,.string a_fto,.int .i64 a_fbk,.string a_fbo,.string a_fbm,.string a_fbt,.int .i64 a_fbvk,.int .i64 a_fbvn,.string a_fbvs,.slice a_fbua a_fbun a_fbuc,.int .i64 a_fbp,.int .i64 a_fbwk,.int .i64 a_fbwz,.slice a_fbxa a_fbxn a_fbxc,.int .i64 a_fr,.string a_m]] w (GotB w):=by
 have H1a_:=hid h1a_
 have H2a_:=hid h2a_
 have H3a_:=hid h3a_
 clear h1a_ h2a_ h3a_
 go_enter func142,ntmps142
 go_upto_region 1 with fail
 refine Zam (fun V hV=>?_)
 have B0:Hid (Box V w.heap.size #[.int .i64 a_k,.string a_tm,.string a_te,.slice a_tfa a_tfn a_tfc,.int .i64 a_tp,.string a_fm,.string a_fe,.int .i64 a_ftk,.slice a_ftua a_ftun a_ftuc,.string a_fto,.int .i64 a_fbk,.string a_fbo,.string a_fbm,.string a_fbt,.int .i64 a_fbvk,.int .i64 a_fbvn,.string a_fbvs,.slice a_fbua a_fbun a_fbuc,.int .i64 a_fbp,.int .i64 a_fbwk,.int .i64 a_fbwz,.slice a_fbxa a_fbxn a_fbxc,.int .i64 a_fr,.string a_m] 46):=by rw[hV];exact ZaE _ _ _
 have HBV:Hid (Below w.heap.size w V):=by rw[hV];exact(by repeat first|exact ZR _|refine ZA ?_ _)
 clear hV
 have HS:Hid (∀ w',Below V.heap.size V w'->w'.cell? ⟨w.heap.size,0,none⟩=some (.int .i64 a_k)/\w'.cell? ⟨w.heap.size,1,none⟩=some (.string a_tm)/\w'.cell? ⟨w.heap.size,2,none⟩=some (.string a_te)/\w'.cell? ⟨w.heap.size,3,none⟩=some (.slice a_tfa a_tfn a_tfc)/\w'.cell? ⟨w.heap.size,4,none⟩=some (.int .i64 a_tp)/\w'.cell? ⟨w.heap.size,23,none⟩=some (.string a_m)):=fun w' h=>⟨(B0.out.kept h).cell 0 _ rfl,(B0.out.kept h).cell 1 _ rfl,(B0.out.kept h).cell 2 _ rfl,(B0.out.kept h).cell 3 _ rfl,(B0.out.kept h).cell 4 _ rfl,(B0.out.kept h).cell 23 _ rfl⟩
 have HFA:Hid (∀ w',Below V.heap.size V w'->∀ (j:Nat) (v:Value),([.string a_fm,.string a_fe,.int .i64 a_ftk,.slice a_ftua a_ftun a_ftuc,.string a_fto,.int .i64 a_fbk,.string a_fbo,.string a_fbm,.string a_fbt,.int .i64 a_fbvk,.int .i64 a_fbvn,.string a_fbvs,.slice a_fbua a_fbun a_fbuc,.int .i64 a_fbp,.int .i64 a_fbwk,.int .i64 a_fbwz,.slice a_fbxa a_fbxn a_fbxc,.int .i64 a_fr]:List Value)[j]?=some v->w'.cell? ⟨w.heap.size,5+j,none⟩=some v):=fun w' h j v hj=>(B0.out.kept h).cell (5+j) v (Za8 (k:=5) (m:=18) hj rfl)
 have HXX:Hid (∀ w',Below V.heap.size V w'->∀ (j:Nat) (v:Value),([.int .i64 a_k,.string a_tm,.string a_te,.slice a_tfa a_tfn a_tfc,.int .i64 a_tp,.string a_fm,.string a_fe,.int .i64 a_ftk,.slice a_ftua a_ftun a_ftuc,.string a_fto,.int .i64 a_fbk,.string a_fbo,.string a_fbm,.string a_fbt,.int .i64 a_fbvk,.int .i64 a_fbvn,.string a_fbvs,.slice a_fbua a_fbun a_fbuc,.int .i64 a_fbp,.int .i64 a_fbwk,.int .i64 a_fbwz,.slice a_fbxa a_fbxn a_fbxc,.int .i64 a_fr,.string a_m]:List Value)[j]?=some v->w'.cell? ⟨w.heap.size,0+j,none⟩=some v):=fun w' h j v hj=>(B0.out.kept h).cell (0+j) v (Za8 (k:=0) (m:=24) hj rfl)
 obtain⟨k0_0,k0_1,k0_2,k0_3,k0_4,k0_23⟩:=HS.out V (ZR V)
 have HTa_:Hid (∀ w',Below V.heap.size V w'->FdsAt w' a_tfa a_tfn):=fun w' h=>(H1a_.out.kept HBV.out).kept h
 have HUa_:Hid (∀ w',Below V.heap.size V w'->Zao w' a_ftua a_ftun):=fun w' h=>(H2a_.out.kept HBV.out).kept h
 have HXa_:Hid (∀ w',Below V.heap.size V w'->ExAt n w' ⟨a_fbk,a_fbo,a_fbm,a_fbt,a_fbvk,a_fbvn,a_fbvs,a_fbua,a_fbun,a_fbuc,a_fbp,a_fbwk,a_fbwz,a_fbxa,a_fbxn,a_fbxc⟩):=fun w' h=>(H3a_.out.kept HBV.out).kept h
 go_upto_region 2 with(first|(refine Zbh rfl rfl 46 (.tmp 3) (.tmp 6) rfl rfl rfl [.int .i64 a_k,.string ⟨#[]⟩,.string ⟨#[]⟩,.slice none 0 0,.int .i64 0,.string ⟨#[]⟩,.string ⟨#[]⟩,.int .i64 0,.slice none 0 0,.string ⟨#[]⟩,.int .i64 0,.string ⟨#[]⟩,.string ⟨#[]⟩,.string ⟨#[]⟩,.int .i64 0,.int .i64 0,.string ⟨#[]⟩,.slice none 0 0,.int .i64 0,.int .i64 0,.int .i64 0,.slice none 0 0,.int .i64 0,.string ⟨#[]⟩] rfl rfl (by kernel_rfl) (List.all_eq_true.1 (by rfl)) ?_)|fail)
 refine Zam (fun W hW=>?_)
 have BY0:Hid (Box W V.heap.size #[.int .i64 a_k,.string ⟨#[]⟩,.string ⟨#[]⟩,.slice none 0 0,.int .i64 0,.string ⟨#[]⟩,.string ⟨#[]⟩,.int .i64 0,.slice none 0 0,.string ⟨#[]⟩,.int .i64 0,.string ⟨#[]⟩,.string ⟨#[]⟩,.string ⟨#[]⟩,.int .i64 0,.int .i64 0,.string ⟨#[]⟩,.slice none 0 0,.int .i64 0,.int .i64 0,.int .i64 0,.slice none 0 0,.int .i64 0,.string ⟨#[]⟩] 46):=by rw[hW];exact ZaE _ _ _
 have HY:Hid (Below V.heap.size V W):=by rw[hW];exact(by repeat first|exact ZR _|refine ZA ?_ _)
 clear hW
 have KK:=HS.out _ HY.out
 obtain⟨k0_0,k0_1,k0_2,k0_3,k0_4,k0_23⟩:=KK
 have hkk:a_k=1∨a_k=2∨a_k=3∨a_k=4∨a_k=5∨(a_k<1∨5<a_k):=by omega
 rcases hkk with hk|hk|hk|hk|hk|hk
 all_goals
  first|have e1:(a_k==1)=true:=beq_iff_eq.2 (by omega)|have e1:(a_k==1)=false:=beq_eq_false_iff_ne.2 (by omega)
  first|have e2:(a_k==2)=true:=beq_iff_eq.2 (by omega)|have e2:(a_k==2)=false:=beq_eq_false_iff_ne.2 (by omega)
  first|have e3:(a_k==3)=true:=beq_iff_eq.2 (by omega)|have e3:(a_k==3)=false:=beq_eq_false_iff_ne.2 (by omega)
  first|have e4:(a_k==4)=true:=beq_iff_eq.2 (by omega)|have e4:(a_k==4)=false:=beq_eq_false_iff_ne.2 (by omega)
  first|have e5:(a_k==5)=true:=beq_iff_eq.2 (by omega)|have e5:(a_k==5)=false:=beq_eq_false_iff_ne.2 (by omega)
 · have hq:putC #[.int .i64 a_k,.string ⟨#[]⟩,.string ⟨#[]⟩,.slice none 0 0,.int .i64 0,.string ⟨#[]⟩,.string ⟨#[]⟩,.int .i64 0,.slice none 0 0,.string ⟨#[]⟩,.int .i64 0,.string ⟨#[]⟩,.string ⟨#[]⟩,.string ⟨#[]⟩,.int .i64 0,.int .i64 0,.string ⟨#[]⟩,.slice none 0 0,.int .i64 0,.int .i64 0,.int .i64 0,.slice none 0 0,.int .i64 0,.string ⟨#[]⟩] 1 [.string a_tm,.string a_te,.slice a_tfa a_tfn a_tfc,.int .i64 a_tp]=#[.int .i64 a_k,.string a_tm,.string a_te,.slice a_tfa a_tfn a_tfc,.int .i64 a_tp,.string ⟨#[]⟩,.string ⟨#[]⟩,.int .i64 0,.slice none 0 0,.string ⟨#[]⟩,.int .i64 0,.string ⟨#[]⟩,.string ⟨#[]⟩,.string ⟨#[]⟩,.int .i64 0,.int .i64 0,.string ⟨#[]⟩,.slice none 0 0,.int .i64 0,.int .i64 0,.int .i64 0,.slice none 0 0,.int .i64 0,.string ⟨#[]⟩]:=by simp only[putC,List.setIfInBounds_toArray,List.set_cons_zero,List.set_cons_succ]
   have HQ:=hid hq
   clear hq
   go_wp2_with (first|(refine Zb5 rfl 32 (.tmp 13) (.tmp 12) rfl rfl V.heap.size 1 46 #[.int .i64 a_k,.string ⟨#[]⟩,.string ⟨#[]⟩,.slice none 0 0,.int .i64 0,.string ⟨#[]⟩,.string ⟨#[]⟩,.int .i64 0,.slice none 0 0,.string ⟨#[]⟩,.int .i64 0,.string ⟨#[]⟩,.string ⟨#[]⟩,.string ⟨#[]⟩,.int .i64 0,.int .i64 0,.string ⟨#[]⟩,.slice none 0 0,.int .i64 0,.int .i64 0,.int .i64 0,.slice none 0 0,.int .i64 0,.string ⟨#[]⟩] [.string a_tm,.string a_te,.slice a_tfa a_tfn a_tfc,.int .i64 a_tp] rfl rfl BY0.out (by kernel_rfl) (Nat.le_of_ble_eq_true rfl) (by rfl) V HY.out (Nat.le_refl _) ?_;rw[HQ.out];intro w' hby hyb;have HY:=hid hyb;have BY:=hid hby;clear hyb hby)|(refine Zat rfl 46 (.tmp 1) rfl w.heap.size 0 [.int .i64 a_k,.string a_tm,.string a_te,.slice a_tfa a_tfn a_tfc,.int .i64 a_tp,.string a_fm,.string a_fe,.int .i64 a_ftk,.slice a_ftua a_ftun a_ftuc,.string a_fto,.int .i64 a_fbk,.string a_fbo,.string a_fbm,.string a_fbt,.int .i64 a_fbvk,.int .i64 a_fbvn,.string a_fbvs,.slice a_fbua a_fbun a_fbuc,.int .i64 a_fbp,.int .i64 a_fbwk,.int .i64 a_fbwz,.slice a_fbxa a_fbxn a_fbxc,.int .i64 a_fr,.string a_m] rfl (fun j v hj=>(HXX.out _ HY.out j v hj)) _ underlying46 rfl (by kernel_rfl) ?_)|(refine Zat rfl 46 (.tmp 3) rfl V.heap.size 0 [.int .i64 a_k,.string a_tm,.string a_te,.slice a_tfa a_tfn a_tfc,.int .i64 a_tp,.string ⟨#[]⟩,.string ⟨#[]⟩,.int .i64 0,.slice none 0 0,.string ⟨#[]⟩,.int .i64 0,.string ⟨#[]⟩,.string ⟨#[]⟩,.string ⟨#[]⟩,.int .i64 0,.int .i64 0,.string ⟨#[]⟩,.slice none 0 0,.int .i64 0,.int .i64 0,.int .i64 0,.slice none 0 0,.int .i64 0,.string ⟨#[]⟩] rfl (fun j v hj=>by rw[Nat.zero_add];exact BY.out.cell j v (by rw[List.getElem?_toArray];exact hj)) _ underlying46 rfl (by kernel_rfl) ?_)|(go_at_call 163;refine(Zbr _ _ _ _ _ _ _ _ _ _ _ _ _ _ _ _ _ _ _ _ _ _ _ _ _ _ _ _ _ _ _ _ _ _ _ _ _ _ _ _ _ _ _ _ _ _ _ _ _ _ _ _ _ _ _ _ _ _ _ _ _ _ _ _ _ n (HTa_.out _ HY.out) (HUa_.out _ HY.out) (HXa_.out _ HY.out) (HTa_.out _ HY.out) (Zao.nil _ _) (ZeJ (HXa_.out _ HY.out))).mono ?_;rintro e w9 ⟨b9,rfl,hb⟩;have HW:Hid (Below V.heap.size V w9):=ZT HY.out hb;clear hb)|fail)
   all_goals
    go_ret
    exact⟨_,rfl,ZT HBV.out HW.out⟩
 · have hq:putC #[.int .i64 a_k,.string ⟨#[]⟩,.string ⟨#[]⟩,.slice none 0 0,.int .i64 0,.string ⟨#[]⟩,.string ⟨#[]⟩,.int .i64 0,.slice none 0 0,.string ⟨#[]⟩,.int .i64 0,.string ⟨#[]⟩,.string ⟨#[]⟩,.string ⟨#[]⟩,.int .i64 0,.int .i64 0,.string ⟨#[]⟩,.slice none 0 0,.int .i64 0,.int .i64 0,.int .i64 0,.slice none 0 0,.int .i64 0,.string ⟨#[]⟩] 5 [.string a_fm,.string a_fe,.int .i64 a_ftk,.slice a_ftua a_ftun a_ftuc,.string a_fto,.int .i64 a_fbk,.string a_fbo,.string a_fbm,.string a_fbt,.int .i64 a_fbvk,.int .i64 a_fbvn,.string a_fbvs,.slice a_fbua a_fbun a_fbuc,.int .i64 a_fbp,.int .i64 a_fbwk,.int .i64 a_fbwz,.slice a_fbxa a_fbxn a_fbxc,.int .i64 a_fr]=#[.int .i64 a_k,.string ⟨#[]⟩,.string ⟨#[]⟩,.slice none 0 0,.int .i64 0,.string a_fm,.string a_fe,.int .i64 a_ftk,.slice a_ftua a_ftun a_ftuc,.string a_fto,.int .i64 a_fbk,.string a_fbo,.string a_fbm,.string a_fbt,.int .i64 a_fbvk,.int .i64 a_fbvn,.string a_fbvs,.slice a_fbua a_fbun a_fbuc,.int .i64 a_fbp,.int .i64 a_fbwk,.int .i64 a_fbwz,.slice a_fbxa a_fbxn a_fbxc,.int .i64 a_fr,.string ⟨#[]⟩]:=by simp only[putC,List.setIfInBounds_toArray,List.set_cons_zero,List.set_cons_succ]
   have HQ:=hid hq
   clear hq
   go_wp2_with (first|(refine Zat rfl 44 (.tmp 16) rfl w.heap.size 5 [.string a_fm,.string a_fe,.int .i64 a_ftk,.slice a_ftua a_ftun a_ftuc,.string a_fto,.int .i64 a_fbk,.string a_fbo,.string a_fbm,.string a_fbt,.int .i64 a_fbvk,.int .i64 a_fbvn,.string a_fbvs,.slice a_fbua a_fbun a_fbuc,.int .i64 a_fbp,.int .i64 a_fbwk,.int .i64 a_fbwz,.slice a_fbxa a_fbxn a_fbxc,.int .i64 a_fr] rfl (fun j v hj=>HFA.out _ HY.out j v hj) _ underlying44 rfl (by kernel_rfl) ?_)|(refine Zb5 rfl 44 (.tmp 18) (.tmp 17) rfl rfl V.heap.size 5 46 #[.int .i64 a_k,.string ⟨#[]⟩,.string ⟨#[]⟩,.slice none 0 0,.int .i64 0,.string ⟨#[]⟩,.string ⟨#[]⟩,.int .i64 0,.slice none 0 0,.string ⟨#[]⟩,.int .i64 0,.string ⟨#[]⟩,.string ⟨#[]⟩,.string ⟨#[]⟩,.int .i64 0,.int .i64 0,.string ⟨#[]⟩,.slice none 0 0,.int .i64 0,.int .i64 0,.int .i64 0,.slice none 0 0,.int .i64 0,.string ⟨#[]⟩] [.string a_fm,.string a_fe,.int .i64 a_ftk,.slice a_ftua a_ftun a_ftuc,.string a_fto,.int .i64 a_fbk,.string a_fbo,.string a_fbm,.string a_fbt,.int .i64 a_fbvk,.int .i64 a_fbvn,.string a_fbvs,.slice a_fbua a_fbun a_fbuc,.int .i64 a_fbp,.int .i64 a_fbwk,.int .i64 a_fbwz,.slice a_fbxa a_fbxn a_fbxc,.int .i64 a_fr] rfl rfl BY0.out (by kernel_rfl) (Nat.le_of_ble_eq_true rfl) (by rfl) V HY.out (Nat.le_refl _) ?_;rw[HQ.out];intro w' hby hyb;have HY:=hid hyb;have BY:=hid hby;clear hyb hby)|(refine Zat rfl 46 (.tmp 1) rfl w.heap.size 0 [.int .i64 a_k,.string a_tm,.string a_te,.slice a_tfa a_tfn a_tfc,.int .i64 a_tp,.string a_fm,.string a_fe,.int .i64 a_ftk,.slice a_ftua a_ftun a_ftuc,.string a_fto,.int .i64 a_fbk,.string a_fbo,.string a_fbm,.string a_fbt,.int .i64 a_fbvk,.int .i64 a_fbvn,.string a_fbvs,.slice a_fbua a_fbun a_fbuc,.int .i64 a_fbp,.int .i64 a_fbwk,.int .i64 a_fbwz,.slice a_fbxa a_fbxn a_fbxc,.int .i64 a_fr,.string a_m] rfl (fun j v hj=>(HXX.out _ HY.out j v hj)) _ underlying46 rfl (by kernel_rfl) ?_)|(refine Zat rfl 46 (.tmp 3) rfl V.heap.size 0 [.int .i64 a_k,.string ⟨#[]⟩,.string ⟨#[]⟩,.slice none 0 0,.int .i64 0,.string a_fm,.string a_fe,.int .i64 a_ftk,.slice a_ftua a_ftun a_ftuc,.string a_fto,.int .i64 a_fbk,.string a_fbo,.string a_fbm,.string a_fbt,.int .i64 a_fbvk,.int .i64 a_fbvn,.string a_fbvs,.slice a_fbua a_fbun a_fbuc,.int .i64 a_fbp,.int .i64 a_fbwk,.int .i64 a_fbwz,.slice a_fbxa a_fbxn a_fbxc,.int .i64 a_fr,.string ⟨#[]⟩] rfl (fun j v hj=>by rw[Nat.zero_add];exact BY.out.cell j v (by rw[List.getElem?_toArray];exact hj)) _ underlying46 rfl (by kernel_rfl) ?_)|(go_at_call 163;refine(Zbr _ _ _ _ _ _ _ _ _ _ _ _ _ _ _ _ _ _ _ _ _ _ _ _ _ _ _ _ _ _ _ _ _ _ _ _ _ _ _ _ _ _ _ _ _ _ _ _ _ _ _ _ _ _ _ _ _ _ _ _ _ _ _ _ _ n (HTa_.out _ HY.out) (HUa_.out _ HY.out) (HXa_.out _ HY.out) (FdsAt.nil _ _) (HUa_.out _ HY.out) (HXa_.out _ HY.out)).mono ?_;rintro e w9 ⟨b9,rfl,hb⟩;have HW:Hid (Below V.heap.size V w9):=ZT HY.out hb;clear hb)|fail)
   all_goals
    go_ret
    exact⟨_,rfl,ZT HBV.out HW.out⟩
 · have f23:=BY0.out.cell 23 _ rfl
   have z23:=BY0.out.free 23
   go_upto_region 12 with fail
   refine Zam (fun W3 hW3=>?_)
   have hq:(#[.int .i64 a_k,.string ⟨#[]⟩,.string ⟨#[]⟩,.slice none 0 0,.int .i64 0,.string ⟨#[]⟩,.string ⟨#[]⟩,.int .i64 0,.slice none 0 0,.string ⟨#[]⟩,.int .i64 0,.string ⟨#[]⟩,.string ⟨#[]⟩,.string ⟨#[]⟩,.int .i64 0,.int .i64 0,.string ⟨#[]⟩,.slice none 0 0,.int .i64 0,.int .i64 0,.int .i64 0,.slice none 0 0,.int .i64 0,.string ⟨#[]⟩]:Array Value).setIfInBounds 23 (.string a_m)=#[.int .i64 a_k,.string ⟨#[]⟩,.string ⟨#[]⟩,.slice none 0 0,.int .i64 0,.string ⟨#[]⟩,.string ⟨#[]⟩,.int .i64 0,.slice none 0 0,.string ⟨#[]⟩,.int .i64 0,.string ⟨#[]⟩,.string ⟨#[]⟩,.string ⟨#[]⟩,.int .i64 0,.int .i64 0,.string ⟨#[]⟩,.slice none 0 0,.int .i64 0,.int .i64 0,.int .i64 0,.slice none 0 0,.int .i64 0,.string a_m]:=by simp only[List.setIfInBounds_toArray,List.set_cons_zero,List.set_cons_succ]
   have BY:Hid (Box W3 V.heap.size #[.int .i64 a_k,.string ⟨#[]⟩,.string ⟨#[]⟩,.slice none 0 0,.int .i64 0,.string ⟨#[]⟩,.string ⟨#[]⟩,.int .i64 0,.slice none 0 0,.string ⟨#[]⟩,.int .i64 0,.string ⟨#[]⟩,.string ⟨#[]⟩,.string ⟨#[]⟩,.int .i64 0,.int .i64 0,.string ⟨#[]⟩,.slice none 0 0,.int .i64 0,.int .i64 0,.int .i64 0,.slice none 0 0,.int .i64 0,.string a_m] 46):=by rw[hW3,<-hq];exact BY0.out.put 23 _
   have HY2:Hid (Below V.heap.size V W3):=by rw[hW3];exact HY.out.setCell (Nat.le_refl _) _
   clear hW3 hq
   go_wp2_with (first|(refine Zat rfl 46 (.tmp 1) rfl w.heap.size 0 [.int .i64 a_k,.string a_tm,.string a_te,.slice a_tfa a_tfn a_tfc,.int .i64 a_tp,.string a_fm,.string a_fe,.int .i64 a_ftk,.slice a_ftua a_ftun a_ftuc,.string a_fto,.int .i64 a_fbk,.string a_fbo,.string a_fbm,.string a_fbt,.int .i64 a_fbvk,.int .i64 a_fbvn,.string a_fbvs,.slice a_fbua a_fbun a_fbuc,.int .i64 a_fbp,.int .i64 a_fbwk,.int .i64 a_fbwz,.slice a_fbxa a_fbxn a_fbxc,.int .i64 a_fr,.string a_m] rfl (fun j v hj=>(HXX.out _ HY2.out j v hj)) _ underlying46 rfl (by kernel_rfl) ?_)|(refine Zat rfl 46 (.tmp 3) rfl V.heap.size 0 [.int .i64 a_k,.string ⟨#[]⟩,.string ⟨#[]⟩,.slice none 0 0,.int .i64 0,.string ⟨#[]⟩,.string ⟨#[]⟩,.int .i64 0,.slice none 0 0,.string ⟨#[]⟩,.int .i64 0,.string ⟨#[]⟩,.string ⟨#[]⟩,.string ⟨#[]⟩,.int .i64 0,.int .i64 0,.string ⟨#[]⟩,.slice none 0 0,.int .i64 0,.int .i64 0,.int .i64 0,.slice none 0 0,.int .i64 0,.string a_m] rfl (fun j v hj=>by rw[Nat.zero_add];exact BY.out.cell j v (by rw[List.getElem?_toArray];exact hj)) _ underlying46 rfl (by kernel_rfl) ?_)|(go_at_call 163;refine(Zbr _ _ _ _ _ _ _ _ _ _ _ _ _ _ _ _ _ _ _ _ _ _ _ _ _ _ _ _ _ _ _ _ _ _ _ _ _ _ _ _ _ _ _ _ _ _ _ _ _ _ _ _ _ _ _ _ _ _ _ _ _ _ _ _ _ n (HTa_.out _ HY2.out) (HUa_.out _ HY2.out) (HXa_.out _ HY2.out) (FdsAt.nil _ _) (Zao.nil _ _) (ZeJ (HXa_.out _ HY2.out))).mono ?_;rintro e w9 ⟨b9,rfl,hb⟩;have HW:Hid (Below V.heap.size V w9):=ZT HY2.out hb;clear hb)|fail)
   all_goals
    go_ret
    exact⟨_,rfl,ZT HBV.out HW.out⟩
 · have f23:=BY0.out.cell 23 _ rfl
   have z23:=BY0.out.free 23
   go_upto_region 12 with fail
   refine Zam (fun W3 hW3=>?_)
   have hq:(#[.int .i64 a_k,.string ⟨#[]⟩,.string ⟨#[]⟩,.slice none 0 0,.int .i64 0,.string ⟨#[]⟩,.string ⟨#[]⟩,.int .i64 0,.slice none 0 0,.string ⟨#[]⟩,.int .i64 0,.string ⟨#[]⟩,.string ⟨#[]⟩,.string ⟨#[]⟩,.int .i64 0,.int .i64 0,.string ⟨#[]⟩,.slice none 0 0,.int .i64 0,.int .i64 0,.int .i64 0,.slice none 0 0,.int .i64 0,.string ⟨#[]⟩]:Array Value).setIfInBounds 23 (.string a_m)=#[.int .i64 a_k,.string ⟨#[]⟩,.string ⟨#[]⟩,.slice none 0 0,.int .i64 0,.string ⟨#[]⟩,.string ⟨#[]⟩,.int .i64 0,.slice none 0 0,.string ⟨#[]⟩,.int .i64 0,.string ⟨#[]⟩,.string ⟨#[]⟩,.string ⟨#[]⟩,.int .i64 0,.int .i64 0,.string ⟨#[]⟩,.slice none 0 0,.int .i64 0,.int .i64 0,.int .i64 0,.slice none 0 0,.int .i64 0,.string a_m]:=by simp only[List.setIfInBounds_toArray,List.set_cons_zero,List.set_cons_succ]
   have BY:Hid (Box W3 V.heap.size #[.int .i64 a_k,.string ⟨#[]⟩,.string ⟨#[]⟩,.slice none 0 0,.int .i64 0,.string ⟨#[]⟩,.string ⟨#[]⟩,.int .i64 0,.slice none 0 0,.string ⟨#[]⟩,.int .i64 0,.string ⟨#[]⟩,.string ⟨#[]⟩,.string ⟨#[]⟩,.int .i64 0,.int .i64 0,.string ⟨#[]⟩,.slice none 0 0,.int .i64 0,.int .i64 0,.int .i64 0,.slice none 0 0,.int .i64 0,.string a_m] 46):=by rw[hW3,<-hq];exact BY0.out.put 23 _
   have HY2:Hid (Below V.heap.size V W3):=by rw[hW3];exact HY.out.setCell (Nat.le_refl _) _
   clear hW3 hq
   go_wp2_with (first|(refine Zat rfl 46 (.tmp 1) rfl w.heap.size 0 [.int .i64 a_k,.string a_tm,.string a_te,.slice a_tfa a_tfn a_tfc,.int .i64 a_tp,.string a_fm,.string a_fe,.int .i64 a_ftk,.slice a_ftua a_ftun a_ftuc,.string a_fto,.int .i64 a_fbk,.string a_fbo,.string a_fbm,.string a_fbt,.int .i64 a_fbvk,.int .i64 a_fbvn,.string a_fbvs,.slice a_fbua a_fbun a_fbuc,.int .i64 a_fbp,.int .i64 a_fbwk,.int .i64 a_fbwz,.slice a_fbxa a_fbxn a_fbxc,.int .i64 a_fr,.string a_m] rfl (fun j v hj=>(HXX.out _ HY2.out j v hj)) _ underlying46 rfl (by kernel_rfl) ?_)|(refine Zat rfl 46 (.tmp 3) rfl V.heap.size 0 [.int .i64 a_k,.string ⟨#[]⟩,.string ⟨#[]⟩,.slice none 0 0,.int .i64 0,.string ⟨#[]⟩,.string ⟨#[]⟩,.int .i64 0,.slice none 0 0,.string ⟨#[]⟩,.int .i64 0,.string ⟨#[]⟩,.string ⟨#[]⟩,.string ⟨#[]⟩,.int .i64 0,.int .i64 0,.string ⟨#[]⟩,.slice none 0 0,.int .i64 0,.int .i64 0,.int .i64 0,.slice none 0 0,.int .i64 0,.string a_m] rfl (fun j v hj=>by rw[Nat.zero_add];exact BY.out.cell j v (by rw[List.getElem?_toArray];exact hj)) _ underlying46 rfl (by kernel_rfl) ?_)|(go_at_call 163;refine(Zbr _ _ _ _ _ _ _ _ _ _ _ _ _ _ _ _ _ _ _ _ _ _ _ _ _ _ _ _ _ _ _ _ _ _ _ _ _ _ _ _ _ _ _ _ _ _ _ _ _ _ _ _ _ _ _ _ _ _ _ _ _ _ _ _ _ n (HTa_.out _ HY2.out) (HUa_.out _ HY2.out) (HXa_.out _ HY2.out) (FdsAt.nil _ _) (Zao.nil _ _) (ZeJ (HXa_.out _ HY2.out))).mono ?_;rintro e w9 ⟨b9,rfl,hb⟩;have HW:Hid (Below V.heap.size V w9):=ZT HY2.out hb;clear hb)|fail)
   all_goals
    go_ret
    exact⟨_,rfl,ZT HBV.out HW.out⟩
 · have f23:=BY0.out.cell 23 _ rfl
   have z23:=BY0.out.free 23
   go_upto_region 12 with fail
   refine Zam (fun W3 hW3=>?_)
   have hq:(#[.int .i64 a_k,.string ⟨#[]⟩,.string ⟨#[]⟩,.slice none 0 0,.int .i64 0,.string ⟨#[]⟩,.string ⟨#[]⟩,.int .i64 0,.slice none 0 0,.string ⟨#[]⟩,.int .i64 0,.string ⟨#[]⟩,.string ⟨#[]⟩,.string ⟨#[]⟩,.int .i64 0,.int .i64 0,.string ⟨#[]⟩,.slice none 0 0,.int .i64 0,.int .i64 0,.int .i64 0,.slice none 0 0,.int .i64 0,.string ⟨#[]⟩]:Array Value).setIfInBounds 23 (.string a_m)=#[.int .i64 a_k,.string ⟨#[]⟩,.string ⟨#[]⟩,.slice none 0 0,.int .i64 0,.string ⟨#[]⟩,.string ⟨#[]⟩,.int .i64 0,.slice none 0 0,.string ⟨#[]⟩,.int .i64 0,.string ⟨#[]⟩,.string ⟨#[]⟩,.string ⟨#[]⟩,.int .i64 0,.int .i64 0,.string ⟨#[]⟩,.slice none 0 0,.int .i64 0,.int .i64 0,.int .i64 0,.slice none 0 0,.int .i64 0,.string a_m]:=by simp only[List.setIfInBounds_toArray,List.set_cons_zero,List.set_cons_succ]
   have BY:Hid (Box W3 V.heap.size #[.int .i64 a_k,.string ⟨#[]⟩,.string ⟨#[]⟩,.slice none 0 0,.int .i64 0,.string ⟨#[]⟩,.string ⟨#[]⟩,.int .i64 0,.slice none 0 0,.string ⟨#[]⟩,.int .i64 0,.string ⟨#[]⟩,.string ⟨#[]⟩,.string ⟨#[]⟩,.int .i64 0,.int .i64 0,.string ⟨#[]⟩,.slice none 0 0,.int .i64 0,.int .i64 0,.int .i64 0,.slice none 0 0,.int .i64 0,.string a_m] 46):=by rw[hW3,<-hq];exact BY0.out.put 23 _
   have HY2:Hid (Below V.heap.size V W3):=by rw[hW3];exact HY.out.setCell (Nat.le_refl _) _
   clear hW3 hq
   go_wp2_with (first|(refine Zat rfl 46 (.tmp 1) rfl w.heap.size 0 [.int .i64 a_k,.string a_tm,.string a_te,.slice a_tfa a_tfn a_tfc,.int .i64 a_tp,.string a_fm,.string a_fe,.int .i64 a_ftk,.slice a_ftua a_ftun a_ftuc,.string a_fto,.int .i64 a_fbk,.string a_fbo,.string a_fbm,.string a_fbt,.int .i64 a_fbvk,.int .i64 a_fbvn,.string a_fbvs,.slice a_fbua a_fbun a_fbuc,.int .i64 a_fbp,.int .i64 a_fbwk,.int .i64 a_fbwz,.slice a_fbxa a_fbxn a_fbxc,.int .i64 a_fr,.string a_m] rfl (fun j v hj=>(HXX.out _ HY2.out j v hj)) _ underlying46 rfl (by kernel_rfl) ?_)|(refine Zat rfl 46 (.tmp 3) rfl V.heap.size 0 [.int .i64 a_k,.string ⟨#[]⟩,.string ⟨#[]⟩,.slice none 0 0,.int .i64 0,.string ⟨#[]⟩,.string ⟨#[]⟩,.int .i64 0,.slice none 0 0,.string ⟨#[]⟩,.int .i64 0,.string ⟨#[]⟩,.string ⟨#[]⟩,.string ⟨#[]⟩,.int .i64 0,.int .i64 0,.string ⟨#[]⟩,.slice none 0 0,.int .i64 0,.int .i64 0,.int .i64 0,.slice none 0 0,.int .i64 0,.string a_m] rfl (fun j v hj=>by rw[Nat.zero_add];exact BY.out.cell j v (by rw[List.getElem?_toArray];exact hj)) _ underlying46 rfl (by kernel_rfl) ?_)|(go_at_call 163;refine(Zbr _ _ _ _ _ _ _ _ _ _ _ _ _ _ _ _ _ _ _ _ _ _ _ _ _ _ _ _ _ _ _ _ _ _ _ _ _ _ _ _ _ _ _ _ _ _ _ _ _ _ _ _ _ _ _ _ _ _ _ _ _ _ _ _ _ n (HTa_.out _ HY2.out) (HUa_.out _ HY2.out) (HXa_.out _ HY2.out) (FdsAt.nil _ _) (Zao.nil _ _) (ZeJ (HXa_.out _ HY2.out))).mono ?_;rintro e w9 ⟨b9,rfl,hb⟩;have HW:Hid (Below V.heap.size V w9):=ZT HY2.out hb;clear hb)|fail)
   all_goals
    go_ret
    exact⟨_,rfl,ZT HBV.out HW.out⟩
 · go_wp2_with fail
   go_ret
   exact⟨_,rfl,ZT HBV.out HY.out⟩
structure Tb where
 m:ByteArray
 e:ByteArray
 fa:Option Addr
 fn:Nat
 fc:Nat
 p:Int
def Tb.cells (t:Tb):List Value:=[.string t.m,.string t.e,.slice t.fa t.fn t.fc,.int .i64 t.p]
abbrev Tb.val (t:Tb):Value:=.agg #[.string t.m,.string t.e,.slice t.fa t.fn t.fc,.int .i64 t.p]
theorem encT:Enc Tb.cells 4:=⟨fun _=>rfl,fun x v hv=>by
 simp only[Tb.cells,List.mem_cons,List.not_mem_nil,or_false]at hv
 rcases hv with h|h|h|h<;>subst h<;>rfl⟩
theorem Tb.cell {w:World}{b off:Nat}{l:List Tb}(h:Lies Tb.cells 4 w b off l){i:Nat}{v:Tb}(hv:l[i]?=some v) :
 w.cell? ⟨b,off+i*4,none⟩=some (.string v.m)/\w.cell? ⟨b,off+i*4+1,none⟩=some (.string v.e)/\w.cell? ⟨b,off+i*4+2,none⟩=some (.slice v.fa v.fn v.fc)/\w.cell? ⟨b,off+i*4+3,none⟩=some (.int .i64 v.p) :=
 ⟨h i v hv 0 _ rfl,h i v hv 1 _ rfl,h i v hv 2 _ rfl,h i v hv 3 _ rfl⟩
def TbsAt (B:Nat)(w:World)(a:Option Addr)(n:Nat):Prop:=∃ l:List Tb,n=l.length/\l.length<=B/\(∀ t∈l,FdsAt w t.fa t.fn)/\Zaf Tb.cells 4 w a l
theorem TbsAt.kept {B:Nat}{w w':World}{a:Option Addr}{n:Nat}(h:TbsAt B w a n)(hb:Below w.heap.size w w'):TbsAt B w' a n :=
 let ⟨l,h1,h2,h3,h4⟩:=h;⟨l,h1,h2,fun f hf=>(h3 f hf).kept hb,h4.kept hb⟩
theorem TbsAt.nil (B:Nat)(w:World)(a:Option Addr):TbsAt B w a 0:=⟨[],rfl,Nat.zero_le _,fun f hf=>(by cases hf),Zaf.nil _ _⟩
structure Ft where
 m:ByteArray
 e:ByteArray
 tk:Int
 tua:Option Addr
 tun:Nat
 tuc:Nat
 tof:ByteArray
 b:Ex
 r:Int
def Ft.cells (f:Ft):List Value:=[.string f.m,.string f.e,.int .i64 f.tk,.slice f.tua f.tun f.tuc,.string f.tof,.int .i64 f.b.k,.string f.b.o,.string f.b.m,.string f.b.t,.int .i64 f.b.vk,.int .i64 f.b.vn,.string f.b.vs,.slice f.b.ua f.b.un f.b.uc,.int .i64 f.b.p,.int .i64 f.b.wk,.int .i64 f.b.wz,.slice f.b.xa f.b.xn f.b.xc,.int .i64 f.r]
abbrev Ft.val (f:Ft):Value:=.agg #[.string f.m,.string f.e,.int .i64 f.tk,.slice f.tua f.tun f.tuc,.string f.tof,.int .i64 f.b.k,.string f.b.o,.string f.b.m,.string f.b.t,.int .i64 f.b.vk,.int .i64 f.b.vn,.string f.b.vs,.slice f.b.ua f.b.un f.b.uc,.int .i64 f.b.p,.int .i64 f.b.wk,.int .i64 f.b.wz,.slice f.b.xa f.b.xn f.b.xc,.int .i64 f.r]
theorem encFt:Enc Ft.cells 18:=⟨fun _=>rfl,fun x v hv=>by
 simp only[Ft.cells,List.mem_cons,List.not_mem_nil,or_false]at hv
 rcases hv with h|h|h|h|h|h|h|h|h|h|h|h|h|h|h|h|h|h<;>subst h<;>rfl⟩
def Ft.Ok (w:World)(f:Ft):Prop:=Zao w f.tua f.tun/\∃ n,ExNd n 80 w f.b
theorem Ft.Ok.kept {w w':World}{f:Ft}(h:f.Ok w)(hb:Below w.heap.size w w'):f.Ok w':=⟨h.1.kept hb,let ⟨n,h2⟩:=h.2;⟨n,h2.kept hb⟩⟩
def FtsAt (B:Nat)(w:World)(a:Option Addr)(n:Nat):Prop:=∃ l:List Ft,n=l.length/\l.length<=B/\(∀ t∈l,t.Ok w)/\Zaf Ft.cells 18 w a l
theorem FtsAt.kept {B:Nat}{w w':World}{a:Option Addr}{n:Nat}(h:FtsAt B w a n)(hb:Below w.heap.size w w'):FtsAt B w' a n :=
 let ⟨l,h1,h2,h3,h4⟩:=h;⟨l,h1,h2,fun f hf=>(h3 f hf).kept hb,h4.kept hb⟩
theorem FtsAt.nil (B:Nat)(w:World)(a:Option Addr):FtsAt B w a 0:=⟨[],rfl,Nat.zero_le _,fun f hf=>(by cases hf),Zaf.nil _ _⟩
theorem Ft.name {w:World}{b off:Nat}{l:List Ft}(h:Lies Ft.cells 18 w b off l){i:Nat}{v:Ft}(hv:l[i]?=some v):w.cell? ⟨b,off+i*18,none⟩=some (.string v.m):=h i v hv 0 _ rfl
structure CatAt (B:Nat) (w:World) (ta:Option Addr) (tn:Nat) (fa:Option Addr) (fn:Nat) (da:Option Addr) (dn:Nat) (qa:Option Addr) (qn:Nat):Prop where
 t:TbsAt B w ta tn
 f:FtsAt B w fa fn
 d:FtsAt B w da dn
 q:FtsAt B w qa qn
theorem CatAt.kept {B:Nat}{w w':World}{ta:Option Addr}{tn:Nat}{fa:Option Addr}{fn:Nat}{da:Option Addr}{dn:Nat}{qa:Option Addr}{qn:Nat}(h:CatAt B w ta tn fa fn da dn qa qn)(hb:Below w.heap.size w w'):CatAt B w' ta tn fa fn da dn qa qn :=
 ⟨h.t.kept hb,h.f.kept hb,h.d.kept hb,h.q.kept hb⟩
def IdxPost (n:Nat)(w:World)(e:Ending)(w':World):Prop:=∃ k:Int,e=.returned (.int .i64 k)/\-1<=k/\k<n/\Below w.heap.size w w'
theorem Zcx (a:Option Addr)(n c:Nat)(s:ByteArray)(B:Nat)(hB:B<=100000)(w:World)(h:FtsAt B w a n):Calls prog 183 #[.slice a n c,.string s,.int .i64 0] w (IdxPost n w):=by
 obtain⟨l,rfl,hl,-,h1⟩:=h
 have H1:=hid h1
 clear h1
 go_enter func183,ntmps183
 go_wp2_with fail
 go_loopw [7] (fun v wr=>∃ i:Nat,i<=l.length/\v=.int .i64 i/\Below w.heap.size w wr) (fun v _=>l.length - (intOf v).toNat)
 case atStart=>exact⟨0,by omega,rfl,Below.refl _ _⟩
 case round =>
  obtain⟨i,hi,rfl,hb⟩:=hrel
  by_cases hlt:i<l.length
  · obtain⟨x,hx⟩:∃ x,l[i]?=some x:=⟨l[i],List.getElem?_eq_getElem hlt⟩
    obtain⟨b1,o1,rfl,hr1⟩:=(H1.out.kept hb).some (by omega)
    have c0:=Ft.name hr1 hx
    have HB:=hid hb
    clear hr1 hx hb
    go_wp2_with fail
    all_goals first
     |(go_ret;exact⟨_,rfl,by omega,by omega,HB.out⟩)
     |(go_roundw;(case rel=>exact⟨i+1,by omega,by go_num,HB.out⟩);(case measure=>simp[intOf];omega))
  · go_wp2_with fail
    go_ret
    exact⟨_,rfl,by omega,by omega,hb⟩
theorem last_any (a:Option Addr)(n c:Nat)(s:ByteArray)(B:Nat)(hB:B<=100000)(w:World)(h:FtsAt B w a n):Calls prog 187 #[.slice a n c,.string s] w (IdxPost n w):=by
 obtain⟨l,rfl,hl,-,h1⟩:=h
 have H1:=hid h1
 clear h1
 go_enter func187,ntmps187
 go_wp2_with fail
 go_loopw [5,6] (fun u v wr=>∃ (i:Nat) (k:Int),i<=l.length/\v=.int .i64 i/\u=.int .i64 k/\-1<=k/\k<l.length/\Below w.heap.size w wr) (fun _ v _=>l.length - (intOf v).toNat)
 case atStart=>exact⟨0,-1,by omega,rfl,rfl,by omega,by omega,Below.refl _ _⟩
 case round =>
  obtain⟨i,k,hi,rfl,rfl,hk1,hk2,hb⟩:=hrel
  by_cases hlt:i<l.length
  · obtain⟨x,hx⟩:∃ x,l[i]?=some x:=⟨l[i],List.getElem?_eq_getElem hlt⟩
    obtain⟨b1,o1,rfl,hr1⟩:=(H1.out.kept hb).some (by omega)
    have c0:=Ft.name hr1 hx
    have HB:=hid hb
    clear hr1 hx hb
    go_wp2_with fail
    all_goals first
     |(go_ret;exact⟨_,rfl,by omega,by omega,HB.out⟩)
     |(go_roundw;(case rel=>exact⟨i+1,_,by omega,by go_num,rfl,by omega,by omega,HB.out⟩);(case measure=>simp[intOf];omega))
  · go_wp2_with fail
    go_ret
    exact⟨_,rfl,hk1,hk2,hb⟩
section
variable {P:Program} {ops:Array Oper} {rest:List Oper} {a:Act} {w:World} {Q:Exit->Act->World->Prop} {d:Option Tmp} {ty:TypeId} {pos:String} {after:Array Edge} {g:Option (Nat × Bool)}
theorem Zaw (t:TypeId){parts:Array (Nat × Operand)}(h:wpList P ops Q (⟨d,.build t parts,ty,pos,after,g⟩ :: rest) a w):wpList P ops Q (⟨d,.build t parts,ty,pos,after,g⟩ :: rest) a w:=h
theorem Zal (t:TypeId){x y:Operand}(h:wpList P ops Q (⟨d,.store t x y,ty,pos,after,g⟩ :: rest) a w):wpList P ops Q (⟨d,.store t x y,ty,pos,after,g⟩ :: rest) a w:=h
theorem Zaq (t:TypeId){x:Operand}(h:wpList P ops Q (⟨d,.load t x,ty,pos,after,g⟩ :: rest) a w):wpList P ops Q (⟨d,.load t x,ty,pos,after,g⟩ :: rest) a w:=h
theorem Zbf (t:TypeId)(h:wpList P ops Q (⟨d,.alloc t,ty,pos,after,g⟩ :: rest) a w):wpList P ops Q (⟨d,.alloc t,ty,pos,after,g⟩ :: rest) a w:=h
end
theorem Zfg:∀ (vs:List Value) (cur:Array Value) (i:Nat),i+vs.length<=cur.size->(putC cur i vs).toList=cur.toList.take i++vs++cur.toList.drop (i+vs.length)
 |[],cur,i,_=>by simp[putC]
 |v :: vs,cur,i,h=>by
  have hi:i<cur.toList.length:=by simp at h ⊢;omega
  rw[putC,Zfg vs _ (i+1) (by simp at h ⊢;omega),Array.toList_setIfInBounds]
  simp only[List.length_cons]
  rw[List.take_set,List.drop_set,if_pos (by omega),List.take_succ_eq_append_getElem (by simpa using hi)]
  rw[List.set_append_right _ _ (by simp;omega),List.length_take,Nat.min_eq_left (by omega),Nat.sub_self]
  simp only[List.set_cons_zero,List.append_assoc,List.singleton_append,List.cons_append,List.nil_append]
  rw[show i+1+vs.length=i+(vs.length+1) by omega]
theorem putC_all (cur:Array Value)(L:List Value)(h:L.length=cur.size):putC cur 0 L=L.toArray:=by
 apply Array.ext'
 rw[Zfg L cur 0 (by omega)]
 simp[h]
section
variable {P:Program} {ops:Array Oper} {rest:List Oper} {o:Oper} {a:Act} {w:World} {Q:Exit->Act->World->Prop}
theorem Zas (hgd:o.guard=none)(ty:TypeId)(x:Operand)(ho:o.op=.load ty x)(b off:Nat)(L:List Value)(hx:a.eval x=.pointer (some ⟨b,off,none⟩))(hc:∀ j v,L[j]?=some v->w.cell? ⟨b,off+j,none⟩=some v)
 (d:TypeDesc) (hu:P.underlying ty=some d) (hd:(match d with|.struct _|.array _ _=>true|_=>false)=true) (hi:(P.info? ty).map (·.size)=some L.length)
 (h:∀ v,Hid (v=.agg L.toArray)->wpList P ops Q rest (a.put o.dst v) w):wpList P ops Q (o :: rest) a w :=
 Zat hgd ty x ho b off L hx hc d hu hd hi (h _ rfl)
theorem Zaj (hgd:o.guard=none)(ty:TypeId)(x:Operand)(ho:o.op=.load ty x)(g:Nat)(L:List Value)(t:TypeId)(hx:a.eval x=.pointer (some ⟨g,0,none⟩))(hB:Box w g L.toArray t)
 (d:TypeDesc) (hu:P.underlying ty=some d) (hd:(match d with|.struct _|.array _ _=>true|_=>false)=true) (hi:(P.info? ty).map (·.size)=some L.length)
 (h:∀ v,Hid (v=.agg L.toArray)->wpList P ops Q rest (a.put o.dst v) w):wpList P ops Q (o :: rest) a w :=
 Zas hgd ty x ho g 0 L hx (fun j v hj=>by rw[Nat.zero_add];exact hB.cell j v (by rw[List.getElem?_toArray];exact hj)) d hu hd hi h
theorem Zai (hgd:o.guard=none)(ty:TypeId)(x y:Operand)(ho:o.op=.store ty x y)(hd:o.dst=none)(g:Nat)(t:TypeId)(cur:Array Value)(L:List Value)
 (hx:a.eval x=.pointer (some ⟨g,0,none⟩)) (hy:a.eval y=.agg L.toArray) (hg:Box w g cur t) (hi:(P.info? ty).map (·.size)=some L.length) (hs:L.length=cur.size) (h1:(L.all (·.oneCell'))=true) (w0:World) (hB:Below w0.heap.size w0 w) (hBg:w0.heap.size<=g)
 (h:∀ w',Box w' g L.toArray t->Below w0.heap.size w0 w'->(∀ k,k≠g->w'.heap[k]?=w.heap[k]?)->wpList P ops Q rest a w'):wpList P ops Q (o :: rest) a w:=by
 refine wpList_plain hgd fun K hK=>?_
 unfold Oper.wp execOp
 simp only[ho,hx,hy,Instr.storeAt,Instr.sureAddr,Sem.run_bind,Sem.run_pure,Result.andThen_ok,Zbw w g 0 t ty cur L hg hi (by omega) (List.all_eq_true.1 h1)]
 refine hK _ _ ?_
 rw[hd,putC_all cur L hs]
 exact h _ (Box.setRow hg _) (ZbT hB hBg _) (fun k hk=>setRow_other _ _ _ _ hk)
theorem Zah (hgd:o.guard=none)(ty:TypeId)(parts:Array (Nat × Operand))(ho:o.op=.build ty parts)(L:List Value)
 (hr:∀ w,(Instr.build ty (parts.map fun(i,x)=>(i,a.eval x))).run P w=.ok (.agg L.toArray) w)
 (h:∀ v,Hid (v=.agg L.toArray)->wpList P ops Q rest (a.put o.dst v) w):wpList P ops Q (o :: rest) a w:=by
 refine wpList_plain hgd fun K hK=>?_
 unfold Oper.wp execOp
 simp only[ho]
 rw[Sem.run_bind,hr]
 exact hK _ _ (h _ rfl)
theorem wpList_newV (hgd:o.guard=none)(ty:TypeId)(ho:o.op=.alloc ty)(L:List Value)(hz:(P.info? ty).map (fun i=>i.zero.map (fun z=>z.cells))=some (some L.toArray))
 (w0:World) (hB:Below w0.heap.size w0 w) (h:∀ w',Box w' w.heap.size L.toArray ty->Below w0.heap.size w0 w'->w'.heap.size=w.heap.size+1->Below w.heap.size w w'->wpList P ops Q rest (a.put o.dst (.pointer (some ⟨w.heap.size,0,none⟩))) w'):wpList P ops Q (o :: rest) a w:=by
 obtain⟨i,hq,z,hzi,hzs⟩:∃ i,P.info? ty=some i/\∃ z,i.zero=some z/\z.cells=L.toArray:=by
  cases hq:P.info? ty with
  |none=>rw[hq]at hz;simp at hz
  |some i =>
   rw[hq]at hz
   simp at hz
   obtain⟨z,h3,h4⟩:=hz
   exact⟨i,rfl,z,h3,h4⟩
 refine wpList_plain hgd fun K hK=>?_
 unfold Oper.wp
 rw[Zbn ty ho _ i z hq hzi,hzs]
 exact hK _ _ (h _ (Box.new _ _ _) (hB.alloc hB.size _) (by simp) (Zab _))
theorem Zbl {o1 o2:Oper}(hg1:o1.guard=none)(hg2:o2.guard=none)(ty:TypeId)(x y:Operand)(h1:o1.op=.alloc ty)(h2:o2.op=.store ty x y)(hd:o2.dst=none)(L:List Value)
 (hx:(a.put o1.dst (.pointer (some ⟨w.heap.size,0,none⟩))).eval x=.pointer (some ⟨w.heap.size,0,none⟩)) (hy:(a.put o1.dst (.pointer (some ⟨w.heap.size,0,none⟩))).eval y=.agg L.toArray)
 (hi:(P.info? ty).map (fun i=>(i.zero.map (fun z=>z.cells.size),i.size))=some (some L.length,L.length)) (hone:(L.all (·.oneCell'))=true) (w0:World) (hB:Below w0.heap.size w0 w)
 (h:∀ w',Box w' w.heap.size L.toArray ty->Below w0.heap.size w0 w'->Below w.heap.size w w'->wpList P ops Q rest (a.put o1.dst (.pointer (some ⟨w.heap.size,0,none⟩))) w'):wpList P ops Q (o1 :: o2 :: rest) a w :=
 Zbh hg1 hg2 ty x y h1 h2 hd L hx hy hi (List.all_eq_true.1 hone) (h _ (Box.new _ _ _) (hB.alloc hB.size _) (Zab _))
end
section
variable {P:Program} {fn:Func} {tmps:Array Value} {w:World} {s u:Tmp} {ty:TypeId}
theorem results_box {t:TypeId}{g:Nat}{L:List Value}{d:TypeDesc}(h:fn.results=#[.cell s ty])(hs:tmps.getD s undef=.pointer (some ⟨g,0,none⟩))(hB:Box w g L.toArray t)
 (hu:P.underlying ty=some d) (hd:(match d with|.struct _|.array _ _=>true|_=>false)=true) (hi:(P.info? ty).map (·.size)=some L.length):(results fn tmps).run P w=.ok (.agg L.toArray) w:=by
 have hl:=ZaM (P:=P) w g 0 ty L d (fun j v hj=>by rw[Nat.zero_add];exact hB.cell j v (by rw[List.getElem?_toArray];exact hj)) hu hd hi
 have hs':tmps[s]?.getD undef=.pointer (some ⟨g,0,none⟩):=by simpa using hs
 simp[results,h,hs',asAddr,hl,Result.andThen]
theorem Zad {t:TypeId}{g:Nat}{L:List Value}{d:TypeDesc}(h:fn.results=#[.cell s ty,.tmp u])(hs:tmps.getD s undef=.pointer (some ⟨g,0,none⟩))(hB:Box w g L.toArray t)
 (hu:P.underlying ty=some d) (hd:(match d with|.struct _|.array _ _=>true|_=>false)=true) (hi:(P.info? ty).map (·.size)=some L.length):(results fn tmps).run P w=.ok (.tuple #[.agg L.toArray,tmps.getD u undef]) w:=by
 have hl:=ZaM (P:=P) w g 0 ty L d (fun j v hj=>by rw[Nat.zero_add];exact hB.cell j v (by rw[List.getElem?_toArray];exact hj)) hu hd hi
 have hs':tmps[s]?.getD undef=.pointer (some ⟨g,0,none⟩):=by simpa using hs
 simp[results,h,hs',asAddr,hl,Result.andThen]
end
def FewX (n:Nat)(x:Ex)(m:Int)(w0 w:World)(e:Ending)(w':World):Prop:=∃ r:Int,e=.returned (.int .i64 r)/\(0<=r->1<=m/\r<m/\∃ c:Nat,(c:Int)=m - r/\ExNd n c w0 x)/\Below w.heap.size w w'
theorem fewx_any:∀ (n:Nat) (x:Ex) (m:Int) (w w0:World),Below w0.heap.size w0 w->m<=1000->ExAt n w0 x->Calls prog 134 #[x.val,.int .i64 m] w (FewX n x m w0 w)
 |0,_,_,_,_,_,_,h=>h.elim
 |n+1,⟨x_k,x_o,x_m,x_t,x_vk,x_vn,x_vs,x_ua,x_un,x_uc,x_p,x_wk,x_wz,x_xa,x_xn,x_xc⟩,m,w,w0,hw0,hm,h=>by
  have ih:=hid (fewx_any n)
  obtain⟨hu,hvs,xs,hxn,hxl,hl,hy⟩:=h
  have HU:=hid hu
  obtain⟨us,hun,hul,hus,hl2⟩:=hu
  dsimp only at hxn hl hun hl2 hvs HU
  subst hxn hun
  have HL:=hid hl
  have HL2:=hid hl2
  have HYS:=hid hy
  have HVS:=hid hvs
  have HW0:=hid hw0
  have HM:=hid hm
  clear hl hl2 hy hus hvs hw0
  dsimp only[Ex.val]
  go_enter func134,ntmps134
  go_upto_region 1 with fail
  refine Zam (fun V hV=>?_)
  have B0:Hid (Box V w.heap.size #[.int .i64 x_k,.string x_o,.string x_m,.string x_t,.int .i64 x_vk,.int .i64 x_vn,.string x_vs,.slice x_ua us.length x_uc,.int .i64 x_p,.int .i64 x_wk,.int .i64 x_wz,.slice x_xa xs.length x_xc] 42):=by rw[hV];exact ZaE _ _ _
  have HBV:Hid (Below w.heap.size w V):=by rw[hV];exact(by repeat first|exact ZR _|refine ZA ?_ _)
  clear hV
  have HS:Hid (∀ w',Below V.heap.size V w'->w'.cell? ⟨w.heap.size,0,none⟩=some (.int .i64 x_k)/\w'.cell? ⟨w.heap.size,1,none⟩=some (.string x_o)/\w'.cell? ⟨w.heap.size,2,none⟩=some (.string x_m)/\w'.cell? ⟨w.heap.size,3,none⟩=some (.string x_t)/\w'.cell? ⟨w.heap.size,4,none⟩=some (.int .i64 x_vk)/\w'.cell? ⟨w.heap.size,5,none⟩=some (.int .i64 x_vn)/\w'.cell? ⟨w.heap.size,6,none⟩=some (.string x_vs)/\w'.cell? ⟨w.heap.size,7,none⟩=some (.slice x_ua us.length x_uc)/\w'.cell? ⟨w.heap.size,8,none⟩=some (.int .i64 x_p)/\w'.cell? ⟨w.heap.size,9,none⟩=some (.int .i64 x_wk)/\w'.cell? ⟨w.heap.size,10,none⟩=some (.int .i64 x_wz)/\w'.cell? ⟨w.heap.size,11,none⟩=some (.slice x_xa xs.length x_xc)):=fun w' h=>⟨(B0.out.kept h).cell 0 _ rfl,(B0.out.kept h).cell 1 _ rfl,(B0.out.kept h).cell 2 _ rfl,(B0.out.kept h).cell 3 _ rfl,(B0.out.kept h).cell 4 _ rfl,(B0.out.kept h).cell 5 _ rfl,(B0.out.kept h).cell 6 _ rfl,(B0.out.kept h).cell 7 _ rfl,(B0.out.kept h).cell 8 _ rfl,(B0.out.kept h).cell 9 _ rfl,(B0.out.kept h).cell 10 _ rfl,(B0.out.kept h).cell 11 _ rfl⟩
  obtain⟨k0_0,k0_1,k0_2,k0_3,k0_4,k0_5,k0_6,k0_7,k0_8,k0_9,k0_10,k0_11⟩:=HS.out V (ZR V)
  by_cases hm1:m<1
  · go_wp2_with fail
    go_ret
    exact⟨_,rfl,fun h=>absurd h (by decide),ZT HBV.out (ZR _)⟩
  · have hw1:IntKind.i64.wrap (m - 1)=m - 1:=IntWalk.i64_in _ (by omega)
    have hm2:decide (m<1)=false:=by simpa using hm1
    cases h3:decide ((300:Int)<wrap64 (wrap64 (wrap64 ((x_o.size:Int)+(x_m.size:Int))+(x_t.size:Int))+(x_vs.size:Int)))with
    |true =>
     go_wp2_with fail
     go_ret
     exact⟨_,rfl,fun h=>absurd h (by decide),ZT HBV.out (ZR _)⟩
    |false =>
    cases h4:decide ((10:Int)<(us.length:Int))with
    |true =>
     go_wp2_with fail
     go_ret
     exact⟨_,rfl,fun h=>absurd h (by decide),ZT HBV.out (ZR _)⟩
    |false =>
    cases h5:decide ((10:Int)<(xs.length:Int))with
    |true =>
     go_wp2_with fail
     go_ret
     exact⟨_,rfl,fun h=>absurd h (by decide),ZT HBV.out (ZR _)⟩
    |false =>
    have hx10:xs.length<=10:=by have:=of_decide_eq_false h5;omega
    go_wp2_with fail
    go_loop [5] (fun v=>∃ i:Nat,i<=us.length/\v=.int .i64 i) (fun v=>us.length - (intOf v).toNat)
    case atStart=>exact⟨0,by omega,rfl⟩
    case round =>
     obtain⟨i,hi,rfl⟩:=hrel
     by_cases hlt:i<us.length
     · obtain⟨f,hf⟩:∃ f,us[i]?=some f:=⟨us[i],List.getElem?_eq_getElem hlt⟩
       obtain⟨b1,o1,rfl,hr1⟩:=(HL2.out.kept (HW0.out.trans (HBV.out.mono HW0.out.size))).some (by omega)
       have c0:V.cell? ⟨b1,o1+i*2,none⟩=some (.string f.1):=hr1 i f hf 0 _ rfl
       clear hr1 hf
       go_wp2_with fail
       all_goals first
        |(go_ret;exact⟨_,rfl,fun h=>absurd h (by decide),ZT HBV.out (ZR _)⟩)
        |(go_round;(case rel=>exact⟨i+1,by omega,by go_num⟩);(case measure=>simp[intOf];omega))
     · go_wp2_with fail
       go_loopw [1,6] (fun u v wr=>∃ (i:Nat) (s:Int),u=.int .i64 s/\i<=xs.length/\v=.int .i64 i/\s<m/\Hid (0<=s->∃ cs:List Nat,cs.length=i/\(cs.sum:Int)=m - 1 - s/\∀ (k:Nat) (y:Ex) (d:Nat),k<i->xs[k]?=some y->cs[k]?=some d->ExNd n d w0 y)/\Hid (Below V.heap.size V wr)) (fun _ v _=>xs.length - (intOf v).toNat)
       case atStart=>exact⟨0,m - 1,by go_num,by omega,rfl,by omega,fun _=>⟨[],rfl,by simp,fun k y d hk=>absurd hk (by omega)⟩,ZR V⟩
       case round =>
        clear hlt hi
        obtain⟨i,s,rfl,hi,rfl,hsm,HC,hB⟩:=hrel
        rename World=>wr
        have KK:=HS.out _ hB.out
        obtain⟨k0_0,k0_1,k0_2,k0_3,k0_4,k0_5,k0_6,k0_7,k0_8,k0_9,k0_10,k0_11⟩:=KK
        by_cases hlt:i<xs.length
        · obtain⟨y,hy⟩:∃ y,xs[i]?=some y:=⟨xs[i],List.getElem?_eq_getElem hlt⟩
          obtain⟨b1,o1,rfl,hr1⟩:=(HL.out.kept (HW0.out.trans ((ZT HBV.out hB.out).mono HW0.out.size))).some (by omega)
          have HXC:Hid (∀ j v,(Ex.cells y)[j]?=some v->wr.cell? ⟨b1,o1+i*12+j,none⟩=some v):=fun j v hj=>hr1 i y hy j v hj
          have HY:=hid (HYS.out y (List.mem_of_getElem? hy))
          have HYI:=hid hy
          clear hr1 hy
          by_cases hs0:0<=s
          · go_wp2_with (first|((with_reducible refine Zaq 42 ?_);refine Zas rfl 42 _ rfl b1 (o1+i*12) (Ex.cells y) rfl HXC.out _ underlying42 rfl (by kernel_rfl) ?_;intro v hv;obtain rfl:=hv.out)|(go_at_call 134;refine(ih.out y s _ w0 (HW0.out.trans ((ZT HBV.out hB.out).mono HW0.out.size)) (by have:=HM.out;omega) HY.out).mono ?_;rintro e w' ⟨r,rfl,hr,hb⟩;have HR:=hid hr;have HW:Hid (Below V.heap.size V w'):=ZT hB.out hb;clear hb hr)|fail)
            go_roundw
            case rel =>
             refine⟨i+1,r,rfl,by omega,by go_num,?_,fun hr0=>?_,HW⟩
             · by_cases h:r<0
               · omega
               · have:=(HR.out (by omega)).2.1;omega
             · obtain⟨h1,h2,c,hc,hnd⟩:=HR.out hr0
               obtain⟨cs,g1,g2,g3⟩:=HC.out hs0
               refine⟨cs++[c],by simp[g1],by simp;omega,fun k z d hk hz hd=>?_⟩
               by_cases e:k<i
               · rw[List.getElem?_append_left (by omega)]at hd
                 exact g3 k z d e hz hd
               · obtain rfl:k=i:=by omega
                 rw[HYI.out]at hz
                 injection hz with hz
                 subst hz
                 rw[List.getElem?_append_right (by omega),g1,Nat.sub_self]at hd
                 injection hd with hd
                 subst hd
                 exact hnd
            case measure=>simp[intOf];omega
          · have hs1:decide (0<=s)=false:=by simpa using hs0
            go_wp2_with fail
            go_ret
            exact⟨_,rfl,fun h=>absurd h (by omega),ZT HBV.out hB.out⟩
        · go_wp2_with fail
          go_ret
          refine⟨s,rfl,fun h0=>?_,ZT HBV.out hB.out⟩
          obtain⟨cs,g1,g2,g3⟩:=HC.out h0
          refine⟨by omega,hsm,cs.sum+1,by simp;omega,HU.out,HVS.out,xs,cs,rfl,hx10,HL.out,by omega,Nat.le_refl _,fun k z d hz hd=>g3 k z d ?_ hz hd⟩
          have:=(List.getElem?_eq_some_iff.1 hz).1
          omega
end Go.Proofs.YtfnpfkgmacaboaaGreat
