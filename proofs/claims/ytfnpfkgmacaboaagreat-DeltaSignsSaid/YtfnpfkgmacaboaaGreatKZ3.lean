/-
  asofref13.Base, asofref15.SameValues, history.Find.
-/
import Derived.Test.YtfnpfkgmacaboaaGreatM10
import Derived.Test.YtfnpfkgmacaboaaGreatM04
import Derived.Test.YtfnpfkgmacaboaaGreatM11
import Derived.Test.YtfnpfkgmacaboaaGreatM30
import Derived.Test.YtfnpfkgmacaboaaGreatM27
import Derived.Test.YtfnpfkgmacaboaaGreatM37
namespace Go.Proofs.YtfnpfkgmacaboaaGreat
open Go.ChangeShapes Go.WideShapes Go.ChangeAt Go.RowKit
set_option linter.unusedVariables false
set_option linter.unusedSimpArgs false
set_option maxRecDepth 100000
set_option maxHeartbeats 4000000
open Go.Maps
set_option maxHeartbeats 2000000 in
theorem rbase_any (src tb ky:ByteArray)(seq kind ref ev:Int)(fa:Option Addr)(n c:Nat)(w:World) :
 Calls Tryz.prog 23 #[.agg #[.string src,.int .i64 seq,.int .i64 kind,.int .i64 ref,.string tb,.string ky,.int .i64 ev,.slice fa n c]] w fun e w'=>e=.returned (fidV (baseF src seq kind ref))/\Below w.heap.size w w':=by
 by_cases hk:kind=1
 · subst hk
   go_enter Tryz.func23,Tryz.ntmps23
   go_wp2_with fail
   refine bodyPost_ret (v:=fidV (src,seq)) (by simp[results,Tryz.results23,go_sem]) rfl ⟨rfl,?_⟩
   first|exact Zax _ _|exact(((Zax _ _).setCell (by simp) _).setCell (by simp) _)
 · have hb:baseF src seq kind ref=(src,ref):=if_neg hk
   rw[hb]
   go_enter Tryz.func23,Tryz.ntmps23
   go_wp2_with fail
   refine bodyPost_ret (v:=fidV (src,ref)) (by simp[results,Tryz.results23,go_sem]) rfl ⟨rfl,?_⟩
   first|exact Zax _ _|exact(((Zax _ _).setCell (by simp) _).setCell (by simp) _)
/-- Are values equal? -/
def valQ (x y:Val):Bool:=x.1==y.1&&(x.2.1==y.2.1&&x.2.2.toList==y.2.2.toList)
theorem valQ_iff {x y:Val}:valQ x y=true↔x=y:=by
 unfold valQ
 rw[Bool.and_eq_true,Bool.and_eq_true,beq_iff_eq,beq_iff_eq,beq_iff_eq,Prod.ext_iff,Prod.ext_iff]
 exact⟨fun h=>⟨h.1,h.2.1,Zcd h.2.2⟩,fun h=>⟨h.1,h.2.1,by rw[h.2.2]⟩⟩
theorem val_neq (x y:Val)(w:World):(binOp .neq 37 (.agg #[.int .i64 x.1,.int .i64 x.2.1,.string x.2.2]) (.agg #[.int .i64 y.1,.int .i64 y.2.1,.string y.2.2])).run Tryz.prog w=.ok (.bool (!valQ x y)) w:=by
 have u3:=Tryz.underlying3
 have u9:=Tryz.underlying9
 have a3:=Tryz.isAgg3
 have z3:=Tryz.sizeOf3
 have a9:=Tryz.isAgg9
 have z9:=Tryz.sizeOf9
 have hS:Tryz.prog.underlying 37=some (.struct (Tryz.prog.fieldsOf 37)):=by kernel_rfl
 have hp:Tryz.prog.stoodInHeld 37=false:=by kernel_rfl
 rw[run_neq_struct]
 rw[show(10000:Nat)=9999+1 from rfl,run_equalIn_agg w 9999 37 _ _ hS hp]
 simp only[Program.fieldsOf,Tryz.underlying37]
 go_simp
 unfold valQ
 by_cases h1:x.1=y.1<;>by_cases h2:x.2.1=y.2.1<;>by_cases h3:x.2.2.toList=y.2.2.toList<;>simp[h1,h2,h3]
set_option maxHeartbeats 8000000 in
theorem samevals_any (l k:List Val)(a b:Option Addr)(c d:Nat)(hl:l.length<=140737488355328)(hk:k.length<=140737488355328)(w:World)(h1:Zaf valC 3 w a l)(h2:Zaf valC 3 w b k) :
 Calls Tryz.prog 24 #[.slice a l.length c,.slice b k.length d] w fun e w'=>e=.returned (.bool (decide (l=k)))/\Below w.heap.size w w':=by
 have H1:=Lib.hid h1
 have H2:=Lib.hid h2
 clear h1 h2
 by_cases hlen:l.length=k.length
 · obtain⟨n,hn⟩:∃ n,n=l.length:=⟨_,rfl⟩
   have HN1:Hid (n=l.length):=hn
   have HN2:Hid (n=k.length):=hn.trans hlen
   rw[<-hlen,<-hn]
   have hn2:n<=140737488355328:=by omega
   clear hlen hn hl hk
   go_enter Tryz.func24,Tryz.ntmps24
   go_wp2_with fail
   go_loopw [5] (fun v wr=>∃ i:Nat,i<=n/\v=.int .i64 i/\Hid (l.take i=k.take i)/\Hid (Below w.heap.size w wr)) (fun v _=>n - (intOf v).toNat)
   case atStart=>exact⟨0,by omega,rfl,Lib.hid (by simp),ZR w⟩
   case round =>
    obtain⟨i,hi,rfl,HT,HB⟩:=hrel
    rename World=>wr
    by_cases hlt:i<n
    · obtain⟨x,hx⟩:∃ x,l[i]?=some x:=⟨l[i]'(by rw[<-HN1.out];exact hlt),List.getElem?_eq_getElem _⟩
      obtain⟨y,hy⟩:∃ y,k[i]?=some y:=⟨k[i]'(by rw[<-HN2.out];exact hlt),List.getElem?_eq_getElem _⟩
      obtain⟨b1,o1,rfl,hr1⟩:=ZaT (H1.out.kept HB.out) hx
      obtain⟨b2,o2,rfl,hr2⟩:=ZaT (H2.out.kept HB.out) hy
      have c0:wr.cell? ⟨b1,o1+i*3,none⟩=some (.int .i64 x.1):=hr1 i x hx 0 _ rfl
      have c1:wr.cell? ⟨b1,o1+i*3+1,none⟩=some (.int .i64 x.2.1):=hr1 i x hx 1 _ rfl
      have c2:wr.cell? ⟨b1,o1+i*3+2,none⟩=some (.string x.2.2):=hr1 i x hx 2 _ rfl
      have d0:wr.cell? ⟨b2,o2+i*3,none⟩=some (.int .i64 y.1):=hr2 i y hy 0 _ rfl
      have d1:wr.cell? ⟨b2,o2+i*3+1,none⟩=some (.int .i64 y.2.1):=hr2 i y hy 1 _ rfl
      have d2:wr.cell? ⟨b2,o2+i*3+2,none⟩=some (.string y.2.2):=hr2 i y hy 2 _ rfl
      have HX:=Lib.hid hx
      have HY:=Lib.hid hy
      clear hr1 hr2 hx hy
      have hg:=fun op a b w=>ZcS 37 (by kernel_rfl) op a b #[.int .i64 x.1,.int .i64 x.2.1,.string x.2.2] #[.int .i64 y.1,.int .i64 y.2.1,.string y.2.2] w
      have he:=val_neq x y
      cases hq:valQ x y
      · rw[hq]at he
        have HR:Hid (decide (l=k)=false):=decide_eq_false (fun e=>by
         subst e
         have:=HX.out.symm.trans HY.out
         injection this with this
         rw[valQ_iff.2 this]at hq
         cases hq)
        go_wp2_with fail
        go_quiet (fail)
        go_wp2_with fail
        go_ret
        exact⟨by rw[HR.out];rfl,Zag HB.out _⟩
      · rw[hq]at he
        have HT2:Hid (l.take (i+1)=k.take (i+1)):=by show _=_;rw[ZaO HX.out,ZaO HY.out,HT.out,valQ_iff.1 hq]
        go_wp2_with fail
        go_quiet (fail)
        go_wp2_with fail
        go_roundw
        case rel=>exact⟨i+1,by omega,by go_num,HT2,Zag HB.out _⟩
        case measure=>simp[intOf];omega
    · obtain rfl:i=n:=by omega
      have HE:Hid (decide (l=k)=true):=decide_eq_true (by
       have h:=HT.out
       rw[HN1.out,List.take_length]at h
       have h2:l.length=k.length:=HN1.out.symm.trans HN2.out
       rw[h2,List.take_length]at h
       exact h)
      go_wp2_with fail
      go_ret
      exact⟨by rw[HE.out];rfl,HB.out⟩
 · have hd:decide (l=k)=false:=decide_eq_false (fun e=>hlen (by rw[e]))
   rw[hd]
   have hne:((l.length:Int) != (k.length:Int))=true:=by simp;omega
   go_enter Tryz.func24,Tryz.ntmps24
   go_wp2_with fail
   go_ret
   exact⟨rfl,ZR w⟩
def rw0:Rw:=⟨⟨#[]⟩,0,⟨#[]⟩,⟨#[]⟩,0,none,0,0,0,[]⟩
set_option maxHeartbeats 8000000 in
theorem find15_any (l:List En)(ao:Option Addr)(c:Nat)(hl:l.length<=100000)(r0:Rw)(id:FID)(hid:(r0.src,r0.seq)=id)(t:Int)(hr:r0∈effL l t)(w:World)(h:EnsAt w ao l) :
 Calls Tryz.prog 25 #[.slice ao l.length c,fidV id,.int .i64 t] w fun e w'=>e=.returned (.tuple #[r0.val,.bool true])/\Below w.heap.size w w':=by
 have H:=Lib.hid h
 have HR0:=Lib.hid hr
 clear h hr
 have HID:=Lib.hid hid.symm
 clear hid
 go_enter Tryz.func25,Tryz.ntmps25
 go_upto_region 1 with fail
 refine Zam (fun V hV=>?_)
 have HB0:Hid (Box V w.heap.size #[.string id.1,.int .i64 id.2] 24):=by rw[hV];exact Za4 _ _ _ _ _
 have HB1:Hid (Box V (w.heap.size+1) (Rw.cells rw0).toArray 68):=by rw[hV];exact Za3 _ _ _ _ _
 have HBV:Hid (Below w.heap.size w V):=by rw[hV];exact(by repeat(first|exact ZR _|refine ZA ?_ _))
 clear hV
 go_wp2_with (first|(go_at_call 19;refine(Zds l _ _ t hl _ (H.out.kept HBV.out)).mono ?_;rintro e w1 ⟨v,rfl,hs,he,hlen,-,hb⟩;obtain⟨a1,c1,rfl,-,-,hr⟩:=hs;have HR1:=Lib.hid hr;have HE1:=Lib.hid he;have HLE:Hid ((effL l t).length<=100000):=Nat.le_trans hlen hl;have HB1:=Lib.hid (HB1.out.kept hb);have HB0:=Lib.hid (HB0.out.kept hb);have HW1:=Lib.hid (ZT HBV.out hb);have HSZ:Hid (w.heap.size+1<w1.heap.size):=HB1.out.lt;clear hr he hlen hb)|fail)
 have HR2:Hid (∀ r∈effL l t,eqF (r.src,r.seq) id=true->r=r0):=fun r hr e=>by
  have h1:=HE1.out.mem r hr
  have h2:=HE1.out.mem r0 HR0.out
  rw[Zba.1 e,HID.out,h2]at h1
  injection h1 with h1
  exact h1.symm
 have HR3:Hid (∃ j:Nat,(effL l t)[j]?=some r0):=by
  obtain⟨j,hj,e⟩:=List.mem_iff_getElem.1 HR0.out
  exact⟨j,by rw[<-e];exact List.getElem?_eq_getElem hj⟩
 have HR4:Hid (eqF (r0.src,r0.seq) id=true):=by show _=_;rw[HID.out];exact Zba.2 rfl
 generalize effL l t=E at *
 clear HR0 HE1 HID
 go_loopw [14] (fun j wr=>∃ i:Nat,i<=E.length/\j=.int .i64 i/\Hid (∀ (q:Nat) r,q<i->E[q]?=some r->eqF (r.src,r.seq) id=false)/\Hid (Below w1.heap.size w1 wr)) (fun j _=>E.length - (intOf j).toNat)
 case atStart=>exact⟨0,by omega,rfl,(fun q r h=>absurd h (by omega)),ZR w1⟩
 case round =>
  obtain⟨i,hi,rfl,HN,HB⟩:=hrel
  rename World=>wr
  have hle:=HLE.out
  by_cases hlt:i<E.length
  · obtain⟨r,hr⟩:∃ r,E[i]?=some r:=⟨E[i],List.getElem?_eq_getElem hlt⟩
    obtain⟨b,off,rfl,hrow⟩:=ZaT (HR1.out.1.kept HB.out) hr
    have HRC:Hid (∀ j v,(Rw.cells r)[j]?=some v->wr.cell? ⟨b,off+i*8+j,none⟩=some v):=fun j v hj=>hrow i r hr j v hj
    have HRI:=Lib.hid hr
    clear hrow hr
    go_upto_region 4 with(first
     |((with_reducible refine Zaq 68 ?_);refine Zas rfl 68 _ rfl b (off+i*8) (Rw.cells r) rfl HRC.out _ Tryz.underlying68 rfl (by kernel_rfl) ?_;intro v hv;obtain rfl:=hv.out)
     |((with_reducible refine Zbf 68 ?_);refine Zbm rfl rfl 68 _ _ rfl rfl rfl (Rw.cells r) rfl rfl (by kernel_rfl) (by rfl) ?_;intro g7 w8 hbx hg7 hb;have HDB:=Lib.hid hbx;have HG7:=Lib.hid hg7;have HB8:=Lib.hid (ZT HB.out hb);clear hg7 hbx hb)
     |fail)
    have k0:=HDB.out.cell 0 (.string r.src) rfl
    have k1:=HDB.out.cell 1 (.int .i64 r.seq) rfl
    have j0:=(HB0.out.kept HB8.out).cell 0 (.string id.1) rfl
    have j1:=(HB0.out.kept HB8.out).cell 1 (.int .i64 id.2) rfl
    have hg:∀ op a b w,(eqGuard op 24 a b (.agg #[.string r.src,.int .i64 r.seq]) (.agg #[.string id.1,.int .i64 id.2])).run Tryz.prog w=.ok () w:=fun op a b w=>guard36 op a b (r.src,r.seq) id w
    have he:∀ w,(binOp .eql 24 (.agg #[.string r.src,.int .i64 r.seq]) (.agg #[.string id.1,.int .i64 id.2])).run Tryz.prog w=.ok (.bool (eqF (r.src,r.seq) id)) w:=eql36 (r.src,r.seq) id
    cases hq:eqF (r.src,r.seq) id
    · rw[hq]at he
      go_wp2_with fail
      go_roundw
      case rel=>exact⟨i+1,by omega,by go_num,(fun q s hq2 hs=>by
       by_cases e:q=i
       · subst e
         rw[HRI.out]at hs
         injection hs with hs
         rw[<-hs];exact hq
       · exact HN.out q s (by omega) hs),HB8⟩
      case measure=>simp[intOf];omega
    · rw[hq]at he
      have HRR:=Lib.hid (HR2.out r (List.mem_of_getElem? HRI.out) hq)
      go_wp2_with (first
       |((with_reducible refine Zaq 68 ?_);refine Zaj rfl 68 _ rfl g7 (Rw.cells r) 68 rfl HDB.out _ Tryz.underlying68 rfl (by kernel_rfl) ?_;intro v hv;obtain rfl:=hv.out)
       |((with_reducible refine Zal 68 ?_);refine Zai rfl 68 _ _ rfl rfl (w.heap.size+1) 68 _ (Rw.cells r) rfl rfl (HB1.out.kept HB8.out) (by kernel_rfl) rfl (by rfl) w (ZT HW1.out HB8.out) (by omega) ?_;intro w9 hby hyb hot;have HR:=Lib.hid hby;have HRB:=Lib.hid hyb;clear hby hyb hot)
       |fail)
      (try simp only[Exit.inBlock,Exit.then]);refine bodyPost_ret (Zad rfl rfl HR.out Tryz.underlying68 rfl (by kernel_rfl)) rfl ?_
      exact⟨by rw[HRR.out];rfl,HRB.out⟩
  · obtain rfl:i=E.length:=by omega
    obtain⟨j,hj⟩:=HR3.out
    have h1:=HN.out j r0 (List.getElem?_eq_some_iff.1 hj).1 hj
    rw[HR4.out]at h1
    cases h1
end Go.Proofs.YtfnpfkgmacaboaaGreat
