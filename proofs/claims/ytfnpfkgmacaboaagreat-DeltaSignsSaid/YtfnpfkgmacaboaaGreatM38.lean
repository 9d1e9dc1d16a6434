/- Texts joined by a program. -/
import Derived.Test.YtfnpfkgmacaboaaGreatM36
import Derived.Test.YtfnpfkgmacaboaaGreatM37
namespace Go.Proofs.YtfnpfkgmacaboaaGreat
open Go.Proofs.Tryz
open Lib (hid)
open Go.ChangeShapes Go.WideShapes Go.ChangeAt Go.RowKit
set_option linter.unusedVariables false
set_option linter.unusedSimpArgs false
set_option maxRecDepth 100000
set_option maxHeartbeats 4000000
theorem Zfp {α:Type}:∀ (A B:List α),A.Nodup->(∀ x∈A,x∈B)->A.length<=B.length
 |[],_,_,_=>by simp
 |a :: A,B,hn,hs=>by
  obtain⟨s,t,rfl⟩:=List.append_of_mem (hs a (by simp))
  rw[List.nodup_cons]at hn
  have:=Zfp A (s++t) hn.2 (fun x hx=>by
   have h:=hs x (by simp[hx])
   simp only[List.mem_append,List.mem_cons]at h ⊢
   rcases h with h|h|h
   · exact Or.inl h
   · subst h;exact absurd hx hn.1
   · exact Or.inr h)
  simp at this ⊢
  omega
theorem putK_len {κ:Type}(c:κ->κ->Int)(x:κ × Int):∀ (l:List (κ × Int)),(putK c l x).length<=l.length+1
 |[]=>by unfold putK;split<;>simp
 |y :: r=>by
  have:=putK_len c x r
  unfold putK
  split
  · simp;omega
  · split
    · split<;>simp
    · split<;>simp<;>omega
theorem Zfy (L:List (DK × Int)):(consK L).length<=L.length:=by
 have key:∀ (L F:List (DK × Int)),(L.foldl (putK cmpD) F).length<=F.length+L.length:=by
  intro L
  induction L with
  |nil=>intro F;simp
  |cons x L ih =>
   intro F
   have h1:=ih (putK cmpD F x)
   have h2:=putK_len cmpD x F
   simp only[List.foldl_cons,List.length_cons]
   omega
 have:=key L []
 simpa [consK]using this
theorem ZeR {l:List En}(hl:∀ x∈l,OkF x.base)(hs:∀ x∈l,x.kind=1->1<=x.seq)(t:Int):(effL l t).length<=l.length:=by
 have he:=Zfw (t:=t) hl
 have hn:((effL l t).map (fun r=>((r.src,r.seq):FID))).Nodup:=by
  unfold List.Nodup
  rw[List.pairwise_map]
  refine he.rise.imp_of_mem (fun {a b} ha hb h e=>?_)
  have h1:=he.mem a ha
  have h2:=he.mem b hb
  rw[e,h2]at h1
  injection h1 with h1
  rw[h1,Za7.refl]at h
  omega
 have:=Zfp _ (l.map En.base) hn (fun k hk=>by
  obtain⟨r,hr,rfl⟩:=List.mem_map.1 hk
  obtain⟨e,h1,-,-,h4,-⟩:=Zfv hl hs hr
  exact List.mem_map.2 ⟨e,h1,h4⟩)
 simpa using this
theorem frS_len {l:List En}{N:Nat}(h:∀ t,(effL l t).length<=N):∀ i,(frS l i).1.length<=i*(2*N)/\(frS l i).2.length<=N
 |0=>by simp[frS]
 |i+1=>by
  obtain⟨h1,h2⟩:=frS_len h i
  have h3:=h (Zc0 l i)
  rw[ZcK]
  unfold Zcl
  have e:(i+1)*(2*N)=i*(2*N)+2*N:=by rw[Nat.add_mul,Nat.one_mul]
  split
  · exact⟨by omega,h2⟩
  · refine⟨?_,h3⟩
    simp only[betD,List.length_append,List.length_map]
    omega
theorem TabRun.ent {l:List En}:∀ {n:Nat} {T:List Tb},TabRun l n T->∀ i x,i<n->l[i]?=some x->∃ T,EntOk T l i x
 |_,_,.zero,i,_,hi,_=>absurd hi (by omega)
 |_,_,.succ (i:=n) (T:=T) h hx ho hs,i,x,hi,hix=>by
  by_cases e:i=n
  · subst e
    rw[hx]at hix
    injection hix with hix
    subst hix
    exact⟨T,ho⟩
  · exact h.ent i x (by omega) hix
theorem LogOk.ent {l:List En}{w:World}(h:LogOk l w){x:En}(hx:x∈l):∃ T i,l[i]?=some x/\EntOk T l i x:=by
 obtain⟨-,-,T,hT⟩:=h
 obtain⟨i,hi,rfl⟩:=List.mem_iff_getElem.1 hx
 obtain⟨T2,h2⟩:=hT.ent i _ hi (List.getElem?_eq_getElem hi)
 exact⟨T2,i,List.getElem?_eq_getElem hi,h2⟩
theorem steps_pair {α:Type}{R:α->α->Prop}(htr:∀ a b c,R a b->R b c->R a c){l:List α}(h:∀ p x y,l[p]?=some x->l[p+1]?=some y->R x y):l.Pairwise R:=by
 have key:∀ (d p:Nat) (x y:α),l[p]?=some x->l[p+1+d]?=some y->R x y:=by
  intro d
  induction d with
  |zero=>intro p x y h1 h2;exact h p x y h1 h2
  |succ d ih =>
   intro p x y h1 h2
   have hl:=(List.getElem?_eq_some_iff.1 h2).1
   have hz:l[p+1+d]?=some (l[p+1+d]'(by omega)):=List.getElem?_eq_getElem _
   exact htr _ _ _ (ih p x _ h1 hz) (h (p+1+d) _ y hz (by rw[<-h2];congr 1))
 rw[List.pairwise_iff_getElem]
 intro i j hi hj hij
 exact key (j - (i+1)) i _ _ (List.getElem?_eq_getElem hi) (by rw[show i+1+(j - (i+1))=j by omega];exact List.getElem?_eq_getElem hj)
theorem LogOk.next {l:List En}{w:World}(h:LogOk l w)(p:Nat)(x y:En)(hx:l[p]?=some x)(hy:l[p+1]?=some y):x.no<y.no/\x.tick<=y.tick:=by
 obtain⟨-,-,T,hT⟩:=h
 obtain⟨T2,⟨-,-,-,-,h5⟩,-⟩:=hT.ent (p+1) y (List.getElem?_eq_some_iff.1 hy).1 hy
 exact h5 p x rfl hx
theorem LogOk.order {l:List En}{w:World}(h:LogOk l w):Order l:=steps_pair (R:=fun x y:En=>x.tick<=y.tick) (fun a b c h1 h2=>Int.le_trans h1 h2) (fun p x y hx hy=>(h.next p x y hx hy).2)
theorem LogOk.nos {l:List En}{w:World}(h:LogOk l w):l.Pairwise (fun x y=>x.no<y.no):=steps_pair (R:=fun x y:En=>x.no<y.no) (fun a b c h1 h2=>Int.lt_trans h1 h2) (fun p x y hx hy=>(h.next p x y hx hy).1)
theorem LogOk.seqs {l:List En}{w:World}(h:LogOk l w):∀ x∈l,x.kind=1->1<=x.seq:=fun x hx hk=>by
 obtain⟨T,i,-,-,-,h3⟩:=h.ent hx
 exact(h3 hk).1
theorem LogOk.max {l:List En}{w:World}(h:LogOk l w):∀ x∈l,x.tick<=1099511627776:=fun x hx=>by
 obtain⟨T,i,-,⟨-,-,-,h4,-⟩,-⟩:=h.ent hx
 exact h4
theorem LogOk.ens {l:List En}{w:World}{ao:Option Addr}(h:LogOk l w)(hl:Zaf En.cells 40 w ao l)(hs:∀ e∈l,e.Seen w):EnsAt w ao l:=⟨hl,fun e he=>(hs e he).ok (h.2.1 e he)⟩
theorem EnsAt.bases {l:List En}{w:World}{ao:Option Addr}(h:EnsAt w ao l):∀ x∈l,OkF x.base:=fun x hx=>(h.2 x hx).base
theorem from_len {l:List En}{w:World}{ao:Option Addr}(h:LogOk l w)(he:EnsAt w ao l){ds:List Dl}(hd:ds.map Dl.kn=consK (fromK l)):ds.length<=7200:=by
 have h1:ds.length=(ds.map Dl.kn).length:=by simp
 rw[hd]at h1
 have h2:=Zfy (fromK l)
 have h3:=(frS_len (ZeR he.bases h.seqs) l.length).1
 have h4:(fromK l).length=(frS l l.length).1.length:=by simp[fromK,fromL]
 have h5:=h.1
 have h6:l.length*(2*l.length)<=60*(2*60):=Nat.mul_le_mul h5 (by omega)
 omega
theorem val_ne_self (x:Val)(w:World):(binOp .neq 37 (.agg #[.int .i64 x.1,.int .i64 x.2.1,.string x.2.2]) (.agg #[.int .i64 x.1,.int .i64 x.2.1,.string x.2.2])).run prog w=.ok (.bool false) w:=by
 have u3:=underlying3
 have u9:=underlying9
 have a3:=Tryz.isAgg3
 have z3:=Tryz.sizeOf3
 have a9:=Tryz.isAgg9
 have z9:=Tryz.sizeOf9
 have hS:prog.underlying 37=some (.struct (prog.fieldsOf 37)):=by kernel_rfl
 have hp:prog.stoodInHeld 37=false:=by kernel_rfl
 rw[run_neq_struct]
 rw[show(10000:Nat)=9999+1 from rfl,run_equalIn_agg w 9999 37 _ _ hS hp]
 simp only[Program.fieldsOf,underlying37]
 go_simp
theorem fields13_true (vs:List Val)(a b:Option Addr)(c d:Nat)(hl:vs.length<=140737488355328)(w:World)(h1:Zaf valC 3 w a vs)(h2:Zaf valC 3 w b vs):Calls prog 76 #[.slice a vs.length c,.slice b vs.length d] w fun e w'=>e=.returned (.bool true)/\Below w.heap.size w w':=by
 have H1:=hid h1
 have H2:=hid h2
 clear h1 h2
 go_enter func76,ntmps76
 go_wp2_with fail
 go_loopw [5] (fun v wr=>∃ i:Nat,i<=vs.length/\v=.int .i64 i/\Hid (Below w.heap.size w wr)) (fun v _=>vs.length - (intOf v).toNat)
 case atStart=>exact⟨0,by omega,rfl,ZR w⟩
 case round =>
  obtain⟨i,hi,rfl,HB⟩:=hrel
  rename World=>wr
  by_cases hlt:i<vs.length
  · obtain⟨x,hx⟩:∃ x,vs[i]?=some x:=⟨vs[i],List.getElem?_eq_getElem hlt⟩
    obtain⟨b1,o1,rfl,hr1⟩:=(H1.out.kept HB.out).some (by omega)
    obtain⟨b2,o2,rfl,hr2⟩:=(H2.out.kept HB.out).some (by omega)
    have c0:wr.cell? ⟨b1,o1+i*3,none⟩=some (.int .i64 x.1):=hr1 i x hx 0 _ rfl
    have c1:wr.cell? ⟨b1,o1+i*3+1,none⟩=some (.int .i64 x.2.1):=hr1 i x hx 1 _ rfl
    have c2:wr.cell? ⟨b1,o1+i*3+2,none⟩=some (.string x.2.2):=hr1 i x hx 2 _ rfl
    have d0:wr.cell? ⟨b2,o2+i*3,none⟩=some (.int .i64 x.1):=hr2 i x hx 0 _ rfl
    have d1:wr.cell? ⟨b2,o2+i*3+1,none⟩=some (.int .i64 x.2.1):=hr2 i x hx 1 _ rfl
    have d2:wr.cell? ⟨b2,o2+i*3+2,none⟩=some (.string x.2.2):=hr2 i x hx 2 _ rfl
    clear hr1 hr2 hx
    have hg:=fun op a b w=>ZcS 37 (by kernel_rfl) op a b #[.int .i64 x.1,.int .i64 x.2.1,.string x.2.2] #[.int .i64 x.1,.int .i64 x.2.1,.string x.2.2] w
    have he:=val_ne_self x
    go_wp2_with fail
    go_quiet (fail)
    go_wp2_with fail
    go_roundw
    case rel=>exact⟨i+1,by omega,by go_num,Zag HB.out _⟩
    case measure=>simp[intOf];omega
  · go_wp2_with fail
    go_ret
    exact⟨rfl,HB.out⟩
theorem row13_true (r:Rw)(fa2:Option Addr)(fc2:Nat)(w:World)(hl:r.vs.length<=140737488355328)(h1:Zaf valC 3 w r.fa r.vs)(h2:Zaf valC 3 w fa2 r.vs):Calls prog 44 #[r.val,Rw.val {r with fa:=fa2,fc:=fc2}] w fun e w'=>e=.returned (.bool true)/\Below w.heap.size w w':=by
 have H1:=hid h1
 have H2:=hid h2
 have HL:=hid hl
 clear h1 h2 hl
 dsimp only[Rw.val]
 go_enter func44,ntmps44
 go_upto_region 1 with fail
 refine Zam (fun V hV=>?_)
 have B0:Hid (Box V w.heap.size r.cells.toArray 68):=by rw[hV];exact Za4 _ _ _ _ _
 have B1:Hid (Box V (w.heap.size+1) (Rw.cells {r with fa:=fa2,fc:=fc2}).toArray 68):=by rw[hV];exact Za3 _ _ _ _ _
 have HBV:Hid (Below w.heap.size w V):=by rw[hV];exact(by repeat first|exact ZR _|refine ZA ?_ _)
 clear hV
 have f0:=B0.out.cell 0 (.string r.src) rfl
 have f1:=B0.out.cell 1 (.int .i64 r.seq) rfl
 have f2:=B0.out.cell 2 (.string r.tb) rfl
 have f3:=B0.out.cell 3 (.string r.ky) rfl
 have f4:=B0.out.cell 4 (.int .i64 r.ev) rfl
 have f5:=B0.out.cell 5 (.slice r.fa r.vs.length r.fc) rfl
 have f6:=B0.out.cell 6 (.int .i64 r.no) rfl
 have f7:=B0.out.cell 7 (.int .i64 r.tk) rfl
 have g0:=B1.out.cell 0 (.string r.src) rfl
 have g1:=B1.out.cell 1 (.int .i64 r.seq) rfl
 have g2:=B1.out.cell 2 (.string r.tb) rfl
 have g3:=B1.out.cell 3 (.string r.ky) rfl
 have g4:=B1.out.cell 4 (.int .i64 r.ev) rfl
 have g5:=B1.out.cell 5 (.slice fa2 r.vs.length fc2) rfl
 have g6:=B1.out.cell 6 (.int .i64 r.no) rfl
 have g7:=B1.out.cell 7 (.int .i64 r.tk) rfl
 have hg:=fun op a b w=>ZcS 24 (by kernel_rfl) op a b #[.string r.src,.int .i64 r.seq] #[.string r.src,.int .i64 r.seq] w
 have he:∀ w,(binOp .eql 24 (fidV (r.src,r.seq)) (fidV (r.src,r.seq))).run prog w=.ok (.bool true) w:=fun w=>by rw[eql36,Zba.2 rfl]
 have b1:(r.tb.toList==r.tb.toList)=true:=by simp
 have b2:(r.ky.toList==r.ky.toList)=true:=by simp
 go_wp2_with (first|(go_at_call 76;refine(fields13_true r.vs _ _ _ _ HL.out _ (H1.out.kept HBV.out) (H2.out.kept HBV.out)).mono ?_;rintro e w' ⟨rfl,hb⟩;have f0:=(B0.out.kept hb).cell 0 (.string r.src) rfl;have f1:=(B0.out.kept hb).cell 1 (.int .i64 r.seq) rfl;have f2:=(B0.out.kept hb).cell 2 (.string r.tb) rfl;have f3:=(B0.out.kept hb).cell 3 (.string r.ky) rfl;have f4:=(B0.out.kept hb).cell 4 (.int .i64 r.ev) rfl;have f5:=(B0.out.kept hb).cell 5 (.slice r.fa r.vs.length r.fc) rfl;have f6:=(B0.out.kept hb).cell 6 (.int .i64 r.no) rfl;have f7:=(B0.out.kept hb).cell 7 (.int .i64 r.tk) rfl;have g0:=(B1.out.kept hb).cell 0 (.string r.src) rfl;have g1:=(B1.out.kept hb).cell 1 (.int .i64 r.seq) rfl;have g2:=(B1.out.kept hb).cell 2 (.string r.tb) rfl;have g3:=(B1.out.kept hb).cell 3 (.string r.ky) rfl;have g4:=(B1.out.kept hb).cell 4 (.int .i64 r.ev) rfl;have g5:=(B1.out.kept hb).cell 5 (.slice fa2 r.vs.length fc2) rfl;have g6:=(B1.out.kept hb).cell 6 (.int .i64 r.no) rfl;have g7:=(B1.out.kept hb).cell 7 (.int .i64 r.tk) rfl;have HW:Hid (Below V.heap.size V w'):=hb;clear hb)|fail)
 go_ret
 exact⟨rfl,ZT HBV.out HW.out⟩
theorem ZdD (l k:List Rw)(a1 a2:Option Addr)(c1 c2:Nat)(hl:l.length<=140737488355328)(w:World)(h1:Zbs w a1 l)(h2:Zbs w a2 k)(he:l.map Rw.key=k.map Rw.key) :
 Calls prog 17 #[.slice a1 l.length c1,.slice a2 k.length c2] w fun e w'=>e=.returned (.bool true)/\Below w.heap.size w w':=by
 have hlen:k.length=l.length:=by have:=congrArg List.length he;simp at this;omega
 have H1:=hid h1
 have H2:=hid h2
 have HE:=hid he
 have HKL:=hid hlen
 clear h1 h2 he
 rw[hlen]
 clear hlen
 go_enter func17,ntmps17
 go_wp2_with fail
 go_loopw [5] (fun v wr=>∃ i:Nat,i<=l.length/\v=.int .i64 i/\Hid (Below w.heap.size w wr)) (fun v _=>l.length - (intOf v).toNat)
 case atStart=>exact⟨0,by omega,rfl,ZR w⟩
 case round =>
  obtain⟨i,hi,rfl,HB⟩:=hrel
  rename World=>wr
  by_cases hlt:i<l.length
  · obtain⟨r,hr⟩:∃ r,l[i]?=some r:=⟨l[i],List.getElem?_eq_getElem hlt⟩
    obtain⟨s,hs⟩:∃ s,k[i]?=some s:=⟨k[i]'(by have:=HKL.out;omega),List.getElem?_eq_getElem _⟩
    have hk:r.key=s.key:=by
     have h:=congrArg (fun q:List RK=>q[i]?) HE.out
     simp only[List.getElem?_map,hr,hs,Option.map_some]at h
     injection h
    obtain⟨b1,o1,rfl,hr1⟩:=(H1.out.1.kept HB.out).some (by omega)
    obtain⟨b2,o2,rfl,hr2⟩:=(H2.out.1.kept HB.out).some (by have:=HKL.out;omega)
    have hrok:=H1.out.2 r (List.mem_of_getElem? hr)
    have hsok:=H2.out.2 s (List.mem_of_getElem? hs)
    have hcells:s.cells=Rw.cells {r with fa:=s.fa,fc:=s.fc}:=by
     unfold Rw.key at hk
     simp only[Prod.mk.injEq]at hk
     obtain⟨e1,⟨e2,e3⟩,e4,e5,e6,e7,e8⟩:=hk
     simp only[Rw.cells,e1,e2,e3,e4,e5,e6,e7,e8]
    have hvs:s.vs=r.vs:=by
     unfold Rw.key at hk
     simp only[Prod.mk.injEq]at hk
     exact hk.2.2.2.2.2.2.symm
    have HRC:Hid (∀ j v,(Rw.cells r)[j]?=some v->wr.cell? ⟨b1,o1+i*8+j,none⟩=some v):=fun j v hj=>hr1 i r hr j v hj
    have HSC:Hid (∀ j v,(Rw.cells {r with fa:=s.fa,fc:=s.fc})[j]?=some v->wr.cell? ⟨b2,o2+i*8+j,none⟩=some v):=fun j v hj=>hr2 i s hs j v (by rw[hcells];exact hj)
    have HVL:Hid (r.vs.length<=140737488355328):=Nat.le_trans hrok.len (by decide)
    have HLR:=hid hrok.lies
    have HLS:Hid (Zaf valC 3 w s.fa r.vs):=hvs ▸ hsok.lies
    clear hr1 hr2 hr hs hk hrok hsok hcells hvs
    go_upto_region 6 with fail
    refine ZaI (S:=fun w'=>Below wr.heap.size wr w') (.free 0 (.free 1 (.free 2 (.free 3 (.free 4 (.free 5 (.free 6 (.free 7 (.one 8 (.free 9 .done)))))))))) (by kernel_rfl) (by kernel_rfl) (fun _ _ _ _ _ h=>h) (by kernel_rfl) (by kernel_rfl) (ZD (ZR _)) ?_
    refine Zac _ (.slice (some ⟨b1,o1,none⟩) l.length c1) rfl (by rfl) (by intro wq hSw;skip;go_simp) ?_
    try simp only[Act.put,m1,m2,m3]
    refine Zac _ (.int .i64 i) rfl (by rfl) (by intro wq hSw;skip;go_simp) ?_
    try simp only[Act.put,m1,m2,m3]
    refine Zac _ (.pointer (some ⟨b1,o1+i*8,none⟩)) rfl (by rfl) (by intro wq hSw;skip;go_simp) ?_
    try simp only[Act.put,m1,m2,m3]
    refine ZbV _ rfl (by rfl) 68 _ rfl b1 (o1+i*8) (Rw.cells r) rfl (fun w hS j v hj=>Zaa (HRC.out j v hj) hS) _ underlying68 rfl (by kernel_rfl) ?_
    intro v3 hv3
    subst hv3
    try simp only[Act.put,m1,m2,m3]
    refine Zac _ (.slice (some ⟨b2,o2,none⟩) l.length c2) rfl (by rfl) (by intro wq hSw;skip;go_simp) ?_
    try simp only[Act.put,m1,m2,m3]
    refine Zac _ (.int .i64 i) rfl (by rfl) (by intro wq hSw;skip;go_simp) ?_
    try simp only[Act.put,m1,m2,m3]
    refine Zac _ (.pointer (some ⟨b2,o2+i*8,none⟩)) rfl (by rfl) (by intro wq hSw;skip;go_simp) ?_
    try simp only[Act.put,m1,m2,m3]
    refine ZbV _ rfl (by rfl) 68 _ rfl b2 (o2+i*8) (Rw.cells {r with fa:=s.fa,fc:=s.fc}) rfl (fun w hS j v hj=>Zaa (HSC.out j v hj) hS) _ underlying68 rfl (by kernel_rfl) ?_
    intro v7 hv7
    subst hv7
    try simp only[Act.put,m1,m2,m3]
    refine ZaN _ rfl (by rfl) (fun K hK=>?_)
    go_wp2_with (go_at_call 44;refine(row13_true r s.fa s.fc _ HVL.out (HLR.out.kept (ZT HB.out (ZD (ZR _)))) (HLS.out.kept (ZT HB.out (ZD (ZR _))))).mono ?_;rintro e w6 ⟨rfl,hb⟩;have HS6:Hid (Below wr.heap.size wr w6):=ZT (ZD (ZR _)) hb;clear hb)
    refine hK.out _ _ HS6.out (fun hHeld=>?_)
    clear hK K
    try simp only[Act.put,m1,m2,m3]
    refine Zac _ (.bool false) rfl (by rfl) (by intro wq hSw;skip;go_simp) ?_
    try simp only[Act.put,m1,m2,m3]
    refine Zbb ?_
    go_wp2_with fail
    go_roundw
    case rel=>exact⟨i+1,by omega,by go_num,ZT HB.out HS6.out⟩
    case measure=>simp[intOf];omega
  · go_wp2_with fail
    go_ret
    exact⟨rfl,HB.out⟩
end Go.Proofs.YtfnpfkgmacaboaaGreat
