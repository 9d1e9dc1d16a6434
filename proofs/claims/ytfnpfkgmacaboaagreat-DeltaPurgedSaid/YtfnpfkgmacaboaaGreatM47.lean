/- Texts joined by a program. -/
import Derived.Test.YtfnpfkgmacaboaaGreatM38
namespace Go.Proofs.YtfnpfkgmacaboaaGreat
open Go.Proofs.Tryz
open Lib (hid)
open Go.ChangeShapes Go.WideShapes Go.ChangeAt Go.RowKit
set_option linter.unusedVariables false
set_option linter.unusedSimpArgs false
set_option maxRecDepth 100000
set_option maxHeartbeats 4000000
end Go.Proofs.YtfnpfkgmacaboaaGreat
namespace Go.Proofs.YtfnpfkgmacaboaaGreat
open Go.Proofs.Tryz
open Lib (hid)
open Go.Shelf
def Tryz.sortF_ren:Go.Shelf.Ren:=⟨fun|6=>51|15=>79|14=>82|28=>112|29=>113|20=>114|21=>115|22=>116|23=>117|24=>118|25=>119|26=>120|27=>121|46=>150|47=>146|48=>147|49=>151|50=>152|57=>175|n=>n,fun|22=>64|24=>24|25=>97|3=>3|39=>135|0=>0|53=>166|55=>168|4=>4|46=>159|45=>158|50=>163|5=>5|9=>9|66=>187|70=>191|76=>212|77=>213|n=>n,fun|n=>n⟩
theorem Tryz.sortF:Go.Proofs.SlLaysF0.n6 prog Tryz.sortF_ren:={
 mixed:=by kernel_rfl
 f6:=⟨Tryz.f51.name,by decide,func51.trans (congrArg some (by kernel_rfl))⟩
 f14:=⟨Tryz.f82.name,by decide,func82.trans (congrArg some (by kernel_rfl))⟩
 f15:=func79.trans (congrArg some (by kernel_rfl))
 f20:=⟨Tryz.f114.name,by decide,func114.trans (congrArg some (by kernel_rfl))⟩
 f21:=⟨Tryz.f115.name,by decide,func115.trans (congrArg some (by kernel_rfl))⟩
 f22:=⟨Tryz.f116.name,by decide,func116.trans (congrArg some (by kernel_rfl))⟩
 f23:=⟨Tryz.f117.name,by decide,func117.trans (congrArg some (by kernel_rfl))⟩
 f24:=⟨Tryz.f118.name,by decide,func118.trans (congrArg some (by kernel_rfl))⟩
 f25:=⟨Tryz.f119.name,by decide,func119.trans (congrArg some (by kernel_rfl))⟩
 f26:=⟨Tryz.f120.name,by decide,func120.trans (congrArg some (by kernel_rfl))⟩
 f27:=⟨Tryz.f121.name,by decide,func121.trans (congrArg some (by kernel_rfl))⟩
 f28:=func112.trans (congrArg some (by kernel_rfl))
 f29:=func113.trans (congrArg some (by kernel_rfl))
 f46:=⟨Tryz.f150.name,by decide,func150.trans (congrArg some (by kernel_rfl))⟩
 f47:=func146.trans (congrArg some (by kernel_rfl))
 f48:=func147.trans (congrArg some (by kernel_rfl))
 f49:=⟨Tryz.f151.name,by decide,func151.trans (congrArg some (by kernel_rfl))⟩
 f50:=⟨Tryz.f152.name,by decide,func152.trans (congrArg some (by kernel_rfl))⟩
 f57:=⟨Tryz.f175.name,by decide,func175.trans (congrArg some (by kernel_rfl))⟩
 t0:=underlying0
 a0:=Tryz.isAgg0
 z0:=Tryz.sizeOf0
 v0:=Tryz.zeroValue0
 t3:=underlying3
 a3:=Tryz.isAgg3
 z3:=Tryz.sizeOf3
 v3:=Tryz.zeroValue3
 t4:=underlying4
 a4:=Tryz.isAgg4
 z4:=Tryz.sizeOf4
 v4:=Tryz.zeroValue4
 t5:=underlying5
 a5:=Tryz.isAgg5
 z5:=Tryz.sizeOf5
 v5:=Tryz.zeroValue5
 t9:=underlying9
 a9:=Tryz.isAgg9
 z9:=Tryz.sizeOf9
 v9:=Tryz.zeroValue9
 t22:=underlying64
 a22:=Tryz.isAgg64
 z22:=Tryz.sizeOf64
 v22:=Tryz.zeroValue64
 t25:=underlying97
 a25:=Tryz.isAgg97
 z25:=Tryz.sizeOf97
 v25:=Tryz.zeroValue97
 t39:=underlying135
 a39:=Tryz.isAgg135
 z39:=Tryz.sizeOf135
 v39:=Tryz.zeroValue135
 t45:=underlying158
 a45:=Tryz.isAgg158
 z45:=Tryz.sizeOf158
 v45:=Tryz.zeroValue158
 t46:=underlying159
 a46:=Tryz.isAgg159
 z46:=Tryz.sizeOf159
 v46:=Tryz.zeroValue159
 t50:=underlying163
 a50:=Tryz.isAgg163
 z50:=Tryz.sizeOf163
 v50:=Tryz.zeroValue163
 t53:=underlying166
 a53:=Tryz.isAgg166
 z53:=Tryz.sizeOf166
 v53:=Tryz.zeroValue166
 t55:=underlying168
 a55:=Tryz.isAgg168
 z55:=Tryz.sizeOf168
 v55:=Tryz.zeroValue168
 t66:=underlying187
 a66:=Tryz.isAgg187
 z66:=Tryz.sizeOf187
 v66:=Tryz.zeroValue187
 t70:=underlying191
 a70:=Tryz.isAgg191
 z70:=Tryz.sizeOf191
 v70:=Tryz.zeroValue191
 t76:=underlying212
 a76:=Tryz.isAgg212
 z76:=Tryz.sizeOf212
 v76:=Tryz.zeroValue212
 t77:=underlying213
 a77:=Tryz.isAgg213
 z77:=Tryz.sizeOf213
 v77:=Tryz.zeroValue213 }
theorem sortF_any (w0:World)(l:List FID)(w:World)(hB:Go.RowKit.Below w0.heap.size w0 w)(ao:Option Addr)(cap:Nat)(h:Own fidC 2 24 w w0.heap.size (.slice ao l.length cap) l)(hl:l.length<4611686018427387904) :
 Calls prog 51 #[.slice ao l.length cap,.func (.func 52) #[] #[]] w fun r w'=>r=.returned (.tuple #[])/\∃ p,l.Perm p/\p.Pairwise (fun x y=>¬ cmpID y x<0)/\Zaf fidC 2 w' ao p/\Go.RowKit.Below w0.heap.size w0 w' :=
 sort_gen Zcm Zek id (fun _=>True) Tryz.sortF Tryz.isAgg24 Tryz.sizeOf24 (by decide) 52 (Go.Proofs.enters_of func52 (by kernel_rfl) rfl) w0
  (fun x y _ _ w' hb=>fid_any x.1 y.1 x.2 y.2 w') l w hB ao cap h (fun _ _=>trivial) hl
end Go.Proofs.YtfnpfkgmacaboaaGreat
namespace Go.Proofs.YtfnpfkgmacaboaaGreat
open Go.Proofs.Tryz
open Lib (hid)
open Go.ChangeShapes Go.WideShapes Go.ChangeAt Go.RowKit
set_option linter.unusedVariables false
set_option linter.unusedSimpArgs false
set_option maxRecDepth 100000
set_option maxHeartbeats 4000000
open Go.Maps
structure TookI (l:List En) (left:{ k:FID // OkF k }->Bool) (xs:List FID):Prop where
 mem:∀ x∈xs,erF l x=true/\∃ h:OkF x,left ⟨x,h⟩=false
 out:∀ k:{ k:FID // OkF k },left k=false->erF l k.1=true->k.1∈xs
 nodup:xs.Nodup
theorem TookI.start (l:List En):TookI l (fun k=>(tabV (tabI (erS l)) Value.bool k).isSome) []:=by
 refine⟨fun r h=>(by cases h),fun k hl hr=>?_,List.Pairwise.nil⟩
 have e:(erS l).ids k.1=true:=hr
 simp[tabV,tabI,e]at hl
theorem TookI.take {l:List En}{left:{ k:FID // OkF k }->Bool}{xs:List FID}(h:TookI l left xs){k:{ k:FID // OkF k }}(hl:left k=true)(hr:erF l k.1=true):TookI l (fun x=>left x&&!decide (x=k)) (xs++[k.1]):=by
 refine⟨fun u hu=>?_,fun x hx hu=>?_,?_⟩
 · rcases List.mem_append.1 hu with hu|hu
   · obtain⟨h1,h2,h3⟩:=h.mem u hu
     exact⟨h1,h2,by rw[h3];rfl⟩
   · simp at hu
     subst hu
     exact⟨hr,k.2,by simp⟩
 · by_cases q:x=k
   · subst q;simp
   · exact List.mem_append_left _ (h.out x (by simpa [q]using hx) hu)
 · rw[List.nodup_append]
   refine⟨h.nodup,by simp,fun a ha b hb=>?_⟩
   simp at hb
   subst hb
   intro e
   obtain⟨-,h2,h3⟩:=h.mem a ha
   have:(⟨a,h2⟩:{ k:FID // OkF k })=k:=Subtype.ext e
   rw[this,hl]at h3
   cases h3
theorem snoc_ind {α:Type}{P:List α->Prop}(h0:P [])(h1:∀ l x,P l->P (l++[x]))(l:List α):P l:=by
 have:∀ n (l:List α),l.length=n->P l:=by
  intro n
  induction n with
  |zero=>intro l e;rw[List.eq_nil_of_length_eq_zero e];exact h0
  |succ n ih =>
   intro l e
   have hne:l≠[]:=by intro e2;subst e2;simp at e
   rw[<-List.dropLast_concat_getLast hne]
   exact h1 _ _ (ih _ (by rw[List.length_dropLast,e];rfl))
 exact this _ l rfl
theorem erS_mem (l:List En):(∀ k,erF l k=true->k∈l.flatMap (fun y=>[y.base,((y.esr,y.esq):FID)]))/\(∀ q,∀ k∈(erS l).about q,k∈l.flatMap (fun y=>[y.base,((y.esr,y.esq):FID)])):=by
 refine snoc_ind (P:=fun l=>(∀ k,erF l k=true->k∈l.flatMap (fun y=>[y.base,((y.esr,y.esq):FID)]))/\(∀ q,∀ k∈(erS l).about q,k∈l.flatMap (fun y=>[y.base,((y.esr,y.esq):FID)]))) ?_ ?_ l
 · exact⟨fun k h=>(by cases h),fun q k h=>(by cases h)⟩
 · intro l x ih
   unfold erF
   rw[erS_snoc]
   obtain⟨i1,i2⟩:=ih
   have up:∀ k,k∈l.flatMap (fun y=>[y.base,((y.esr,y.esq):FID)])->k∈(l++[x]).flatMap (fun y=>[y.base,((y.esr,y.esq):FID)]):=fun k h=>by
    rw[List.flatMap_append];exact List.mem_append_left _ h
   have lb:x.base∈(l++[x]).flatMap (fun y=>[y.base,((y.esr,y.esq):FID)]):=by simp
   have le:((x.esr,x.esq):FID)∈(l++[x]).flatMap (fun y=>[y.base,((y.esr,y.esq):FID)]):=by simp
   generalize (l++[x]).flatMap (fun y=>[y.base,((y.esr,y.esq):FID)])=L at *
   unfold stepR
   split
   · exact⟨fun k h=>up k (i1 k h),fun q k h=>up k (i2 q k h)⟩
   · split
     · refine⟨fun k h=>up k (i1 k h),fun q k h=>?_⟩
       dsimp only at h
       split at h
       · rcases List.mem_append.1 h with h|h
         · exact up k (i2 q k h)
         · simp at h;subst h;exact lb
       · exact up k (i2 q k h)
     · split
       · refine⟨fun k h=>?_,fun q k h=>up k (i2 q k h)⟩
         dsimp only at h
         rw[Bool.or_eq_true]at h
         rcases h with h|h
         · rw[Zba.1 h];exact le
         · exact up k (i1 k h)
       · split
         · refine⟨fun k h=>?_,fun q k h=>up k (i2 q k h)⟩
           dsimp only at h
           rw[Bool.or_eq_true]at h
           rcases h with h|h
           · exact up k (i2 _ k (ZcH.1 h))
           · exact up k (i1 k h)
         · exact⟨fun k h=>up k (i1 k h),fun q k h=>up k (i2 q k h)⟩
theorem TookI.few {l:List En}{left:{ k:FID // OkF k }->Bool}{xs:List FID}(h:TookI l left xs):xs.length<=2*l.length:=by
 refine Nat.le_trans (Zfp xs _ h.nodup (fun k hk=>(erS_mem l).1 k (h.mem k hk).1)) ?_
 clear h
 induction l with
 |nil=>simp
 |cons a l ih =>
  simp only[List.flatMap_cons,List.length_append,List.length_cons,List.length_nil]
  omega
theorem TookI.done {l:List En}{left:{ k:FID // OkF k }->Bool}{xs p:List FID}(h:TookI l left xs)(hd:∀ k,left k=false)(hl:∀ k∈l.flatMap (fun y=>[y.base,((y.esr,y.esq):FID)]),OkF k)(hp:xs.Perm p):memF p=erF l:=by
 funext k
 by_cases q:erF l k=true
 · rw[q];exact ZcH.2 (hp.mem_iff.1 (h.out ⟨k,hl k ((erS_mem l).1 k q)⟩ (hd _) q))
 · have:erF l k=false:=by simpa using q
   rw[this]
   cases e:memF p k
   · rfl
   · exact absurd (h.mem k (hp.mem_iff.2 (ZcH.1 e))).1 q
def SlI (w:World)(v:Value)(l:List FID):Prop:=∃ ao c,v=.slice ao l.length c/\Zaf fidC 2 w ao l
theorem ids_any (l:List En)(ao:Option Addr)(c:Nat)(hl:l.length<=100000)(w:World)(h:EnsAt w ao l) :
 Calls prog 22 #[.slice ao l.length c] w fun e w'=>∃ v ids,e=.returned v/\SlI w' v ids/\memF ids=erF l/\ids.length<=2*l.length/\Below w.heap.size w w':=by
 have H:=hid h
 clear h
 have HE:=hid (erased_any l ao c hl w H.out)
 go_enter func22,ntmps22
 go_wp2_with (first
  |(go_at_call 45;(with_reducible refine HE.out.mono ?_);rintro e w1 ⟨m,T,rfl,hE⟩;have HER:=hid hE;have HB1:=hid hE.below;clear hE)
  |(at_range;refine ZcV rfl (.tmp 5) 88 rfl 4 underlying88 rfl HER.out.ids ?_;intro w3 cnt0 hrg hgr hsz;have HRg:=hid hrg;have HGr:=hid hgr;have HSz:=hid hsz;clear hrg hgr hsz))
 go_frame
 have HB3:Hid (Below w.heap.size w w3):=HB1.out.grown HGr.out HB1.out.size (fun j hj=>by cases hj)
 have Hbr:Hid (w.heap.size<w3.heap.size/\w1.heap.size<w3.heap.size):=by have h1:=HSz.out;have h2:=HER.out.ids.lt;exact⟨by omega,by omega⟩
 have Hwr:Hid (w.heap.size<=w1.heap.size):=HB1.out.size
 generalize w1.heap.size=r at *
 clear HE HER HB1 HGr HSz
 go_loopw [2] (fun v wr=>∃ (xs:List FID) (left:{ k:FID // OkF k }->Bool) (cnt:Nat) (v0:Value),v0=v/\Hid (Own fidC 2 24 wr w3.heap.size v xs)/\Hid (Tabs wr keysF w.heap.size r m (tabV (tabI (erS l)) Value.bool) left cnt)/\Hid (TookI l left xs)/\Hid (Below w.heap.size w wr)/\Hid (w3.heap.size<=wr.heap.size)) (fun _ wr=>wr.rangeLeft w.heap.size r)
 case atStart=>exact⟨[],_,cnt0,_,rfl,Own.nil _ _,HRg,TookI.start l,HB3,Nat.le_refl _⟩
 case round =>
  obtain⟨xs,left,cnt,v0,rfl,HOw,HTs,HTk,HB,HS⟩:=hrel
  go_wp2_with (at_next;refine ZcU rfl (.tmp 6) rfl (fun k=>fidV k.1) (fun k=>rfl) rfl HTs.out ?_ ?_)
  · unfold ZeY
    intro hdone
    have HDone:=hid hdone
    clear hdone
    obtain⟨a2,c2,rfl,hx1,hx2,hx3⟩:=HOw.out.lies Zcm
    have HLx:Hid (xs.length<=2*l.length):=HTk.out.few
    have HSort:=hid (sortF_any w xs wr HB.out a2 c2 (HOw.out.mono (by have h2:=Hbr.out.1;omega)) (by have:=HLx.out;omega))
    clear hx1 hx2 hx3
    generalize hxl:xs.length=xl at *
    have HXL:=hid hxl
    clear hxl
    go_wp2_with (go_at_call 51;(with_reducible refine HSort.out.mono ?_);rintro e w5 ⟨rfl,p,hp,hr,hlies,hb⟩;have HP:=hid hp;have HLi:=hid hlies;have HB5:=hid hb;clear hp hr hlies hb)
    go_ret
    have hfin:=HTk.out.done (fun k=>HDone.out k trivial) (fun k hk=>by
     obtain⟨y,hy,hk⟩:=List.mem_flatMap.1 hk
     have ho:=H.out.2 y hy
     simp at hk
     rcases hk with rfl|rfl
     · exact ho.base
     · exact⟨ho.esr,ho.ints.2.2.2.2.2.2.2.2.1⟩) HP.out
    have hpl:p.length=xl:=by rw[<-HP.out.length_eq,HXL.out]
    exact⟨_,p,rfl,⟨a2,c2,by rw[hpl];rfl,HLi.out⟩,hfin,by rw[hpl];exact HLx.out,HB5.out⟩
  · unfold ZeX
    intro k d w4 cnt4 _ hlk hFk ht4 hlt4 hg4 hs4 hen
    have HEr:Hid (erF l k.1=true):=by
     show _=_
     unfold tabI at hFk
     split at hFk
     · assumption
     · cases hFk
    have HTk2:=hid (HTk.out.take hlk HEr.out)
    have HT4:=hid ht4
    have HLt:=hid hlt4
    have HZ4:=hid hs4
    have HO4:Hid (Own fidC 2 24 w4 w3.heap.size v0 xs):=HOw.out.grow hg4 Hbr.out.2
    have HB4:Hid (Below w.heap.size w w4):=HB.out.grown hg4 HB.out.size (fun j hj=>by injection hj with hj;subst hj;exact Hwr.out)
    have HLa:Hid (xs.length+[k.1].length<=1000000000):=by show _<=_;have:=HTk.out.few;simp;omega
    clear hlk hFk ht4 hlt4 hg4 hs4
    have HO6:Hid (Own fidC 2 24 ((w4.alloc (.cells #[.string k.1.1,.int .i64 k.1.2] 24)).alloc (.cells #[.string k.1.1,.int .i64 k.1.2] 24)) w3.heap.size v0 xs):=(HO4.out.kept (Zab _)).kept (Zab _)
    have HX6:Hid (w3.heap.size<=((w4.alloc (.cells #[.string k.1.1,.int .i64 k.1.2] 24)).alloc (.cells #[.string k.1.1,.int .i64 k.1.2] 24)).heap.size):=by have h1:=HZ4.out;have h2:=HS.out;show _<=_;simp;omega
    have HS6:Hid (Zaf fidC 2 ((w4.alloc (.cells #[.string k.1.1,.int .i64 k.1.2] 24)).alloc (.cells #[.string k.1.1,.int .i64 k.1.2] 24)) (some ⟨(w4.alloc (.cells #[.string k.1.1,.int .i64 k.1.2] 24)).heap.size,0,none⟩) [k.1]):=ZaG _ _ Zcm
    rw[show(w4.alloc (.cells #[.string k.1.1,.int .i64 k.1.2] 24)).heap.size=w4.heap.size+1 by simp]at HS6
    have HT6:Hid (Tabs ((w4.alloc (.cells #[.string k.1.1,.int .i64 k.1.2] 24)).alloc (.cells #[.string k.1.1,.int .i64 k.1.2] 24)) keysF w.heap.size r m (tabV (tabI (erS l)) Value.bool) (fun x=>left x&&!decide (x=k)) cnt4):=(HT4.out.kept (Zab _)).kept (Zab _)
    have HB6:Hid (Below w.heap.size w ((w4.alloc (.cells #[.string k.1.1,.int .i64 k.1.2] 24)).alloc (.cells #[.string k.1.1,.int .i64 k.1.2] 24))):=(HB4.out.alloc HB4.out.size _).alloc (by have:=HB4.out.size;simp;omega) _
    go_wp2_with (at_builtin;refine Zay elF Zcm rfl (.tmp 11) (.tmp 13) rfl rfl rfl HO6.out HS6.out rfl (fun e=>by cases e) HX6.out HLa.out ?_;intro v5 w5 ho hb;have HO5:=hid ho;have HX5:=hid hb;clear ho hb)
    go_roundw
    case rel=>exact⟨xs++[k.1],_,cnt4,_,rfl,HO5,HT6.out.below HX5.out Hbr.out.1 Hbr.out.2,HTk2,HB6.out.trans (HX5.out.mono (Nat.le_of_lt Hbr.out.1)),Nat.le_trans HX6.out HX5.out.size⟩
    case measure=>rw[(HT6.out.below HX5.out Hbr.out.1 Hbr.out.2).left_eq,HTs.out.left_eq];exact HLt.out
end Go.Proofs.YtfnpfkgmacaboaaGreat
