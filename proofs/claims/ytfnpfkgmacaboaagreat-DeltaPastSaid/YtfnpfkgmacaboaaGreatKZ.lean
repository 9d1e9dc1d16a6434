/-
  history.Purge of the program: the entries of erased facts replaced.
-/
import Derived.Test.YtfnpfkgmacaboaaGreatM28
import Derived.Test.YtfnpfkgmacaboaaGreatM27
import Derived.Test.YtfnpfkgmacaboaaGreatM29
import Derived.Test.YtfnpfkgmacaboaaGreatM13
import Derived.Test.YtfnpfkgmacaboaaGreatM37
namespace Go.Proofs.YtfnpfkgmacaboaaGreat
open Go.ChangeShapes Go.WideShapes Go.ChangeAt Go.RowKit
set_option linter.unusedVariables false
set_option linter.unusedSimpArgs false
set_option maxRecDepth 100000
set_option maxHeartbeats 4000000
open Go.Maps
section
variable {P:Program} {α:Type} {enc:α->List Value} {k bytes:Nat} {e t:TypeId} {w:World} {o:Oper} {a:Act} {K:Act->World->Prop} {Q:Exit->Act->World->Prop}
/-- A literal of one element;the world behind it has a name. -/
theorem op_litQ (E:El P e t k bytes)(hE:Enc enc k)(hk:k<=1000)(x:Operand)(ho:o.op=.buildSlice t 1 #[(0,x)])(y:α)(hx:a.eval x=.agg (enc y).toArray)
 (h:∀ g w',Lies enc k w' g 0 [y]->g=w.heap.size->g<w'.heap.size->Below w.heap.size w w'->K (a.put o.dst (.slice (some ⟨g,0,none⟩) 1 1)) w'):o.wp P a w K Q :=
 Zfm E hk x ho (enc y) (hE.len y) hx (h _ _ (by
  rcases ZaG (e:=e) y w hE with h|⟨b,off,he,h⟩
  · cases h
  · cases he;exact h) rfl (by simp) (Zab _))
end
theorem purgeL_len (l:List En):(Zdx l).length=l.length:=by unfold Zdx;simp
theorem En.Ok.pu {w:World}{x:En}(h:x.Ok w)(g:FID->Bool):(puX g x).Ok w:=by
 unfold puX
 split
 · have hb:=h.base
   obtain⟨h1,h2,-⟩:=h.ints
   have z:I64 0:=by unfold I64;decide
   have n0:(0:Nat)<=1048576:=Nat.zero_le _
   have k2:I64 2:=by unfold I64;decide
   exact⟨Zaf.nil _ _,n0,(fun v hv=>by cases hv),(fun v hv=>by cases hv),n0,n0,n0,n0,n0,hb.src,n0,n0,⟨h1,h2,k2,z,z,z,z,k2,hb.seq,z⟩⟩
 · exact h
set_option maxHeartbeats 8000000 in
theorem purge_any (l:List En)(ao:Option Addr)(c:Nat)(hl:l.length<=100000)(w:World)(h:EnsAt w ao l) :
 Calls Tryz.prog 28 #[.slice ao l.length c] w fun e w'=>∃ a2 c2,e=.returned (.slice a2 (Zdx l).length c2)/\Own En.cells 40 48 w' w.heap.size (.slice a2 (Zdx l).length c2) (Zdx l)/\EnsAt w' a2 (Zdx l)/\Below w.heap.size w w':=by
 have H:=Lib.hid h
 clear h
 have HL:=Lib.hid hl
 have HE:=Lib.hid (erased_any l ao c hl w H.out)
 go_enter Tryz.func28,Tryz.ntmps28
 go_upto_region 2 with(first|(go_at_call 45;(with_reducible refine HE.out.mono ?_);rintro e w1 ⟨m,T,rfl,hE⟩;have HER:=Lib.hid hE.ids;have HB1:=Lib.hid hE.below;clear hE)|fail)
 go_wp2_with fail
 clear HE
 have HLT1:Hid (w.heap.size<w1.heap.size):=HER.out.lt
 go_loopw [2,10] (fun v j wr=>∃ (i:Nat) (v0:Value),v0=v/\i<=l.length/\j=.int .i64 i/\Hid (Own En.cells 40 48 wr w1.heap.size v ((l.take i).map (puX (erF l))))/\Hid (Tab wr keysF w.heap.size m (tabV (tabI (erS l)) Value.bool))/\Hid (Below w.heap.size w wr)/\Hid (w1.heap.size<=wr.heap.size)) (fun _ j _=>l.length - (intOf j).toNat)
 case atStart=>exact⟨0,_,rfl,by omega,rfl,Own.nil _ _,HER,HB1,Nat.le_refl _⟩
 case round =>
  obtain⟨i,v0,rfl,hi,rfl,HOw,HTG,HB,HS⟩:=hrel
  by_cases hlt:i<l.length
  · obtain⟨x,hx⟩:∃ x,l[i]?=some x:=⟨l[i],List.getElem?_eq_getElem hlt⟩
    obtain⟨b,off,rfl,hrow⟩:=ZaT (H.out.1.kept HB.out) hx
    have HC:Hid (∀ j v,x.cells[j]?=some v->wr.cell? ⟨b,off+i*40+j,none⟩=some v):=fun j v hv=>hrow i x hx j v hv
    have HXO:Hid (x.Ok w):=H.out.2 x (List.mem_of_getElem? hx)
    have HTK:Hid ((l.take (i+1)).map (puX (erF l))=(l.take i).map (puX (erF l))++[puX (erF l) x]):=by show _=_;rw[ZaO hx,List.map_append];rfl
    clear hrow hx
    go_upto_region 5 with(first|(refine Zat rfl 48 (.tmp 12) rfl b (off+i*40) x.cells rfl HC.out _ Tryz.underlying48 rfl (by kernel_rfl) ?_)|(refine Zbh rfl rfl 48 (.tmp 5) (.tmp 13) rfl rfl rfl x.cells rfl rfl (by kernel_rfl) x.cells_one ?_)|fail)
    refine Zam (fun V hV=>?_)
    have HGV:Hid (Box V wr.heap.size x.cells.toArray 48):=by rw[hV];exact Box.new _ _ _
    have HBV:Hid (Below wr.heap.size wr V):=by rw[hV];exact Zab _
    clear hV
    have k2:=HGV.out.cell 2 (.int .i64 x.kind) rfl
    have HC8:Hid (∀ w',Below V.heap.size V w'->∀ j v,([.string x.src,.int .i64 x.seq,.int .i64 x.fk,.int .i64 x.ref,.string x.tb,.string x.ky,.int .i64 x.ev,.slice x.fa x.vs.length x.fc]:List Value)[j]?=some v->w'.cell? ⟨wr.heap.size,3+j,none⟩=some v):=fun w' hb j v hv=>(HGV.out.kept hb).cell (3+j) v (by
     have:j<8:=(List.getElem?_eq_some_iff.1 hv).1
     rw[List.getElem?_toArray]
     match j,hv with
     |0,hv=>exact hv
     |1,hv=>exact hv
     |2,hv=>exact hv
     |3,hv=>exact hv
     |4,hv=>exact hv
     |5,hv=>exact hv
     |6,hv=>exact hv
     |7,hv=>exact hv)
    have HLK:Hid (((tabI (erS l) ⟨x.base,HXO.out.base⟩).map Value.bool).getD (.bool false)=.bool (erF l x.base)):=by
     show _=_
     unfold tabI erF
     cases (erS l).ids x.base<;>rfl
    have HTV:Hid (Tab V keysF w.heap.size m (tabV (tabI (erS l)) Value.bool)):=HTG.out.kept HBV.out
    by_cases h1:x.kind=1
    · have d1:(x.kind==1)=true:=by simpa using h1
      cases he:erF l x.base
      · rw[he]at HLK
        have HPX:Hid (puX (erF l) x=x):=by show _=_;unfold puX;rw[if_neg (fun q=>by rw[he]at q;cases q.2)]
        go_upto_region 7 with(first
        |(refine ZcW rfl 27 (.tmp 19) rfl wr.heap.size 3 [.string x.src,.int .i64 x.seq,.int .i64 x.fk,.int .i64 x.ref,.string x.tb,.string x.ky,.int .i64 x.ev,.slice x.fa x.vs.length x.fc] rfl (HC8.out _ (Below.refl _ _)) _ Tryz.underlying27 rfl (by kernel_rfl) ?_)
        |(go_at_call 58;refine(base_any _ _ _ _ _ _ _ _ _ _ _).mono ?_;rintro e w5 ⟨rfl,hb⟩;have HV5:=Lib.hid hb;have HT5:=Lib.hid (HTV.out.kept hb);have HG5:=Lib.hid (HGV.out.kept hb);have HW5:Hid (Below wr.heap.size wr w5):=ZT HBV.out hb;clear hb)
        |(refine ZeA rfl (.tmp 18) (.tmp 21) 88 rfl 4 Tryz.underlying88 (Tryz.zeroValue4 _) rfl HT5.out ⟨x.base,HXO.out.base⟩ rfl trivial _ HLK.out ?_)
        |fail)
        have HXC:Hid (∀ w',Below w5.heap.size w5 w'->∀ j v,(En.cells (x))[j]?=some v->w'.cell? ⟨wr.heap.size,0+j,none⟩=some v):=fun w' hb j v hv=>by rw[Nat.zero_add];exact(HG5.out.kept hb).cell j v (by rw[List.getElem?_toArray];exact hv)
        have HOV:Hid (Own En.cells 40 48 w5 w1.heap.size v0 ((l.take i).map (puX (erF l)))):=HOw.out.kept HW5.out
        have HLa:Hid (((l.take i).map (puX (erF l))).length+[x].length<=1000000000):=by show _<=_;have:=HL.out;simp;omega
        go_wp2_with (first
         |(refine Zat rfl 48 (.tmp 5) rfl wr.heap.size 0 (En.cells (x)) rfl (HXC.out _ (Below.refl _ _)) _ Tryz.underlying48 rfl (by kernel_rfl) ?_)
         |(refine wpList_plain rfl fun K hK=>?_;refine op_litQ elE encE (by decide) _ rfl (x) rfl ?_;intro g4 u4 hl hg4 hg4s hb;have HN4:=Lib.hid hl;have HB4:=Lib.hid hb;refine hK _ _ ?_;clear hK K hl hb)
         |(at_builtin;refine Zay elE encE rfl (.tmp 33) (.tmp 35) rfl rfl rfl (HOV.out.kept HB4.out) (Or.inr ⟨g4,0,rfl,HN4.out⟩) rfl (fun e=>by cases e) (by have h1:=HS.out;have h2:=HW5.out.size;have h3:=HB4.out.size;omega) HLa.out ?_;intro v5 w7 ho hb5;have HO5:=Lib.hid ho;have HX5:=Lib.hid hb5;clear ho hb5)
         |fail)
        go_roundw
        case rel=>exact⟨i+1,_,rfl,by omega,by have hl1:=HL.out;go_num,by rw[HTK.out,HPX.out];exact HO5.out,(HTG.out.kept (ZT HW5.out HB4.out)).blocks (HX5.out.block _ HLT1.out),(ZT HB.out (ZT HW5.out HB4.out)).trans (HX5.out.mono (Nat.le_of_lt HLT1.out)),by show _<=_;have h1:=HS.out;have h2:=HW5.out.size;have h3:=HB4.out.size;have h4:=HX5.out.size;omega⟩
        case measure=>have hl1:=HL.out;simp[intOf];omega
      · rw[he]at HLK
        have HPX:Hid (puX (erF l) x=puE x):=by show _=_;unfold puX;rw[if_pos ⟨h1,he⟩]
        go_upto_region 6 with(first
        |(refine ZcW rfl 27 (.tmp 19) rfl wr.heap.size 3 [.string x.src,.int .i64 x.seq,.int .i64 x.fk,.int .i64 x.ref,.string x.tb,.string x.ky,.int .i64 x.ev,.slice x.fa x.vs.length x.fc] rfl (HC8.out _ (Below.refl _ _)) _ Tryz.underlying27 rfl (by kernel_rfl) ?_)
        |(go_at_call 58;refine(base_any _ _ _ _ _ _ _ _ _ _ _).mono ?_;rintro e w5 ⟨rfl,hb⟩;have HV5:=Lib.hid hb;have HT5:=Lib.hid (HTV.out.kept hb);have HG5:=Lib.hid (HGV.out.kept hb);have HW5:Hid (Below wr.heap.size wr w5):=ZT HBV.out hb;clear hb)
        |(refine ZeA rfl (.tmp 18) (.tmp 21) 88 rfl 4 Tryz.underlying88 (Tryz.zeroValue4 _) rfl HT5.out ⟨x.base,HXO.out.base⟩ rfl trivial _ HLK.out ?_)
        |fail)
        refine Zbk (S:=fun w'=>Below w5.heap.size w5 w') 9 (.free 0 (.free 1 (.free 2 (.free 3 (.free 4 (.free 5 (.one 6 (.free 7 (.free 8 (.one 9 .done)))))))))) (by kernel_rfl) (by kernel_rfl) (fun _ _ _ _ _ h=>h) (by kernel_rfl) (by kernel_rfl) (ZD (ZR _)) (fun hSS=>?_)
        refine ZaD (hSS) _ (.pointer (some ⟨wr.heap.size,0,none⟩)) rfl (by rfl) (by intro wq hSw;have q0:=(HG5.out.kept hSw).cell 0 (.int .i64 x.no) rfl;have q1:=(HG5.out.kept hSw).cell 1 (.int .i64 x.tick) rfl;go_simp) ?_
        try simp only[Act.put,m1,m2,m3]
        refine ZaD (hSS) _ (.int .i64 x.no) rfl (by rfl) (by intro wq hSw;have q0:=(HG5.out.kept hSw).cell 0 (.int .i64 x.no) rfl;have q1:=(HG5.out.kept hSw).cell 1 (.int .i64 x.tick) rfl;go_simp) ?_
        try simp only[Act.put,m1,m2,m3]
        refine ZaD (hSS) _ (.pointer (some ⟨wr.heap.size,1,none⟩)) rfl (by rfl) (by intro wq hSw;have q0:=(HG5.out.kept hSw).cell 0 (.int .i64 x.no) rfl;have q1:=(HG5.out.kept hSw).cell 1 (.int .i64 x.tick) rfl;go_simp) ?_
        try simp only[Act.put,m1,m2,m3]
        refine ZaD (hSS) _ (.int .i64 x.tick) rfl (by rfl) (by intro wq hSw;have q0:=(HG5.out.kept hSw).cell 0 (.int .i64 x.no) rfl;have q1:=(HG5.out.kept hSw).cell 1 (.int .i64 x.tick) rfl;go_simp) ?_
        try simp only[Act.put,m1,m2,m3]
        refine ZaD (hSS) _ (.pointer (some ⟨wr.heap.size,3,none⟩)) rfl (by rfl) (by intro wq hSw;have q0:=(HG5.out.kept hSw).cell 0 (.int .i64 x.no) rfl;have q1:=(HG5.out.kept hSw).cell 1 (.int .i64 x.tick) rfl;go_simp) ?_
        try simp only[Act.put,m1,m2,m3]
        refine ZdR (hSS) _ rfl (by rfl) 27 _ rfl wr.heap.size 3 [.string x.src,.int .i64 x.seq,.int .i64 x.fk,.int .i64 x.ref,.string x.tb,.string x.ky,.int .i64 x.ev,.slice x.fa x.vs.length x.fc] rfl (fun w hS=>HC8.out w (ZT HV5.out hS)) _ Tryz.underlying27 rfl (by kernel_rfl) ?_
        intro v5 hv5
        subst hv5
        try simp only[Act.put,m1,m2,m3]
        refine ZbA _ rfl (by rfl) (fun K hK=>?_)
        go_wp2_with (go_at_call 58;refine(base_any _ _ _ _ _ _ _ _ _ _ _).mono ?_;rintro e w6 ⟨rfl,hb⟩;have HS6:Hid (Below w5.heap.size w5 w6):=ZT (ZD (ZR _)) hb;clear hb)
        refine hK.out _ _ (fun _=>HS6.out) ?_
        clear hK K
        try simp only[Act.put,m1,m2,m3]
        refine ZaD (HS6.out) _ (.agg #[.int .i64 2,.string ⟨#[]⟩,.string ⟨#[]⟩,.string (baseF x.src x.seq x.fk x.ref).1,.int .i64 (baseF x.src x.seq x.fk x.ref).2]) rfl (by rfl) (by intro wq hSw;have q0:=(HG5.out.kept hSw).cell 0 (.int .i64 x.no) rfl;have q1:=(HG5.out.kept hSw).cell 1 (.int .i64 x.tick) rfl;go_simp) ?_
        try simp only[Act.put,m1,m2,m3]
        refine ZaD (HS6.out) _ (.agg #[.int .i64 x.no,.int .i64 x.tick,.int .i64 2,.string ⟨#[]⟩,.int .i64 0,.int .i64 0,.int .i64 0,.string ⟨#[]⟩,.string ⟨#[]⟩,.int .i64 0,.slice none 0 0,.int .i64 2,.string ⟨#[]⟩,.string ⟨#[]⟩,.string (baseF x.src x.seq x.fk x.ref).1,.int .i64 (baseF x.src x.seq x.fk x.ref).2,.int .i64 0,.string ⟨#[]⟩,.string ⟨#[]⟩,.slice none 0 0,.int .i64 0,.string ⟨#[]⟩,.string ⟨#[]⟩,.int .i64 0,.slice none 0 0,.string ⟨#[]⟩,.int .i64 0,.string ⟨#[]⟩,.string ⟨#[]⟩,.string ⟨#[]⟩,.int .i64 0,.int .i64 0,.string ⟨#[]⟩,.slice none 0 0,.int .i64 0,.int .i64 0,.int .i64 0,.slice none 0 0,.int .i64 0,.string ⟨#[]⟩]) rfl (by rfl) (by intro wq hSw;have q0:=(HG5.out.kept hSw).cell 0 (.int .i64 x.no) rfl;have q1:=(HG5.out.kept hSw).cell 1 (.int .i64 x.tick) rfl;go_simp) ?_
        try simp only[Act.put,m1,m2,m3]
        refine ZbA _ rfl (by rfl) (fun K hK=>?_)
        refine Zd7 48 _ _ rfl rfl wr.heap.size 48 _ (puE x).cells rfl rfl (HG5.out.kept HS6.out) (by kernel_rfl) (by rfl) (by rfl) wr (ZT HBV.out (ZT HV5.out HS6.out)) (Nat.le_refl _) ?_
        intro w9 hby hyb hot
        have HG9:=Lib.hid hby
        have HW9:=Lib.hid hyb
        clear hby hyb hot
        refine hK.out _ _ (fun e=>absurd rfl e) ?_
        clear hK K
        try simp only[Act.put,m1,m2,m3]
        refine ZdS ?_
        skip
        go_upto_region 7 with fail
        have HXC:Hid (∀ w',Below w9.heap.size w9 w'->∀ j v,(En.cells (puE x))[j]?=some v->w'.cell? ⟨wr.heap.size,0+j,none⟩=some v):=fun w' hb j v hv=>by rw[Nat.zero_add];exact(HG9.out.kept hb).cell j v (by rw[List.getElem?_toArray];exact hv)
        have HOV:Hid (Own En.cells 40 48 w9 w1.heap.size v0 ((l.take i).map (puX (erF l)))):=HOw.out.kept HW9.out
        have HLa:Hid (((l.take i).map (puX (erF l))).length+[puE x].length<=1000000000):=by show _<=_;have:=HL.out;simp;omega
        go_wp2_with (first
         |(refine Zat rfl 48 (.tmp 5) rfl wr.heap.size 0 (En.cells (puE x)) rfl (HXC.out _ (Below.refl _ _)) _ Tryz.underlying48 rfl (by kernel_rfl) ?_)
         |(refine wpList_plain rfl fun K hK=>?_;refine op_litQ elE encE (by decide) _ rfl (puE x) rfl ?_;intro g4 u4 hl hg4 hg4s hb;have HN4:=Lib.hid hl;have HB4:=Lib.hid hb;refine hK _ _ ?_;clear hK K hl hb)
         |(at_builtin;refine Zay elE encE rfl (.tmp 33) (.tmp 35) rfl rfl rfl (HOV.out.kept HB4.out) (Or.inr ⟨g4,0,rfl,HN4.out⟩) rfl (fun e=>by cases e) (by have h1:=HS.out;have h2:=HW9.out.size;have h3:=HB4.out.size;omega) HLa.out ?_;intro v5 w7 ho hb5;have HO5:=Lib.hid ho;have HX5:=Lib.hid hb5;clear ho hb5)
         |fail)
        go_roundw
        case rel=>exact⟨i+1,_,rfl,by omega,by have hl1:=HL.out;go_num,by rw[HTK.out,HPX.out];exact HO5.out,(HTG.out.kept (ZT HW9.out HB4.out)).blocks (HX5.out.block _ HLT1.out),(ZT HB.out (ZT HW9.out HB4.out)).trans (HX5.out.mono (Nat.le_of_lt HLT1.out)),by show _<=_;have h1:=HS.out;have h2:=HW9.out.size;have h3:=HB4.out.size;have h4:=HX5.out.size;omega⟩
        case measure=>have hl1:=HL.out;simp[intOf];omega
    · have d1:(x.kind==1)=false:=by simpa using h1
      have HPX:Hid (puX (erF l) x=x):=by show _=_;unfold puX;rw[if_neg (fun q=>h1 q.1)]
      go_upto_region 7 with fail
      have HXC:Hid (∀ w',Below V.heap.size V w'->∀ j v,(En.cells (x))[j]?=some v->w'.cell? ⟨wr.heap.size,0+j,none⟩=some v):=fun w' hb j v hv=>by rw[Nat.zero_add];exact(HGV.out.kept hb).cell j v (by rw[List.getElem?_toArray];exact hv)
      have HOV:Hid (Own En.cells 40 48 V w1.heap.size v0 ((l.take i).map (puX (erF l)))):=HOw.out.kept HBV.out
      have HLa:Hid (((l.take i).map (puX (erF l))).length+[x].length<=1000000000):=by show _<=_;have:=HL.out;simp;omega
      go_wp2_with (first
       |(refine Zat rfl 48 (.tmp 5) rfl wr.heap.size 0 (En.cells (x)) rfl (HXC.out _ (Below.refl _ _)) _ Tryz.underlying48 rfl (by kernel_rfl) ?_)
       |(refine wpList_plain rfl fun K hK=>?_;refine op_litQ elE encE (by decide) _ rfl (x) rfl ?_;intro g4 u4 hl hg4 hg4s hb;have HN4:=Lib.hid hl;have HB4:=Lib.hid hb;refine hK _ _ ?_;clear hK K hl hb)
       |(at_builtin;refine Zay elE encE rfl (.tmp 33) (.tmp 35) rfl rfl rfl (HOV.out.kept HB4.out) (Or.inr ⟨g4,0,rfl,HN4.out⟩) rfl (fun e=>by cases e) (by have h1:=HS.out;have h2:=HBV.out.size;have h3:=HB4.out.size;omega) HLa.out ?_;intro v5 w7 ho hb5;have HO5:=Lib.hid ho;have HX5:=Lib.hid hb5;clear ho hb5)
       |fail)
      go_roundw
      case rel=>exact⟨i+1,_,rfl,by omega,by have hl1:=HL.out;go_num,by rw[HTK.out,HPX.out];exact HO5.out,(HTG.out.kept (ZT HBV.out HB4.out)).blocks (HX5.out.block _ HLT1.out),(ZT HB.out (ZT HBV.out HB4.out)).trans (HX5.out.mono (Nat.le_of_lt HLT1.out)),by show _<=_;have h1:=HS.out;have h2:=HBV.out.size;have h3:=HB4.out.size;have h4:=HX5.out.size;omega⟩
      case measure=>have hl1:=HL.out;simp[intOf];omega
  · obtain rfl:i=l.length:=by omega
    have HO:Hid (Own En.cells 40 48 wr w1.heap.size v0 (Zdx l)):=by have h:=HOw.out;rw[List.take_length]at h;exact h
    obtain⟨a2,c2,rfl,-,-,h5⟩:=HO.out.lies encE
    have HEN:Hid (EnsAt wr a2 (Zdx l)):=⟨h5,fun e he=>by
     obtain⟨y,hy,rfl⟩:=List.mem_map.1 he
     exact((H.out.2 y hy).kept HB.out).pu _⟩
    clear HOw h5
    go_wp2_with fail
    go_ret
    exact⟨a2,c2,rfl,HO.out.mono HB1.out.size,HEN.out,HB.out⟩
end Go.Proofs.YtfnpfkgmacaboaaGreat
