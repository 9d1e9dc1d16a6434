/- Texts joined by a program. -/
import Derived.Test.YtfnpfkgmacaboaaGreatM47
import Derived.Test.YtfnpfkgmacaboaaGreatM49
namespace Go.Proofs.YtfnpfkgmacaboaaGreat
open Lib (hid)
open Go.ChangeShapes Go.WideShapes Go.ChangeAt Go.RowKit Go.Maps
set_option linter.unusedVariables false
set_option linter.unusedSimpArgs false
theorem ZbC (L:List Dl)(W:World)(h:∀ d∈L,d.Ok (W.alloc (.cells (encs Dl.cells L).toArray 70))):DlsAt (W.alloc (.cells (encs Dl.cells L).toArray 70)) (some ⟨W.heap.size,0,none⟩) L :=
 ⟨Or.inr ⟨_,0,rfl,Lies.of_cells encD.len (fun j v hj=>by rw[Nat.zero_add];exact(Box.new W (encs Dl.cells L).toArray 70).cell j v (by simpa using hj))⟩,h⟩
theorem dls_lit2 (L:List Dl)(W:World)(g:Nat)(hg:W.heap.size=g)(h:∀ d∈L,d.Ok (W.alloc (.cells (encs Dl.cells L).toArray 70))):DlsAt (W.alloc (.cells (encs Dl.cells L).toArray 70)) (some ⟨g,0,none⟩) L:=by
 subst hg
 exact ZbC L W h
theorem ZbO (L:List Rw)(W:World)(h:∀ d∈L,d.Ok (W.alloc (.cells (encs Rw.cells L).toArray 68))):ZaY (W.alloc (.cells (encs Rw.cells L).toArray 68)) (some ⟨W.heap.size,0,none⟩) L :=
 ⟨Or.inr ⟨_,0,rfl,Lies.of_cells encR.len (fun j v hj=>by rw[Nat.zero_add];exact(Box.new W (encs Rw.cells L).toArray 68).cell j v (by simpa using hj))⟩,h⟩
def zr (ev:Int):Rw:=⟨⟨#[]⟩,0,⟨#[]⟩,⟨#[]⟩,ev,none,0,0,0,[]⟩
theorem Ze2 {w:World}{a:Option Addr}{l:List Rw}(h:ZaY w a l):ZaY w.drew a l:=⟨h.1.kept (Below.refl _ w).drew,fun r hr=>(h.2 r hr).kept (Below.refl _ w).drew⟩
theorem zr_ok (ev:Int)(h:I64 ev)(w:World):(zr ev).Ok w:=⟨Or.inl rfl,Nat.zero_le _,fun v hv=>(by cases hv),fun v hv=>(by cases hv),sz0,sz0,sz0,(by unfold I64;omega:I64 0),h,(by unfold I64;omega:I64 0),(by unfold I64;omega:I64 0)⟩
def ZbF (ev t n:Int):Dl:=⟨zr ev,t,n⟩
theorem ZdL (ev t n:Int)(h:I64 ev/\I64 t/\I64 n)(w:World):(ZbF ev t n).Ok w:=⟨zr_ok ev h.1 w,h.2.1,h.2.2⟩
theorem i64s (n:Int)(h:-1000<=n/\n<=1000):I64 n:=by unfold I64;omega
def exL1:List Dl:=[ZbF 4 2 1,ZbF 3 2 1,ZbF 4 2 (-1),ZbF 3 1 2]
def exM1:List Dl:=[ZbF 3 1 2,ZbF 3 2 1]
theorem exL1_ok (w:World):∀ d∈exL1,d.Ok w:=by
 intro d hd
 simp[exL1]at hd
 rcases hd with h|h|h|h<;>subst h<;>exact ZdL _ _ _ ⟨i64s _ (by omega),i64s _ (by omega),i64s _ (by omega)⟩ w
theorem exM1_ok (w:World):∀ d∈exM1,d.Ok w:=by
 intro d hd
 simp[exM1]at hd
 rcases hd with h|h<;>subst h<;>exact ZdL _ _ _ ⟨i64s _ (by omega),i64s _ (by omega),i64s _ (by omega)⟩ w
theorem ex1:consK (exL1.map Dl.kn)=exM1.map Dl.kn:=by decide +kernel
theorem cons_lit (L:List Dl)(n c:Nat)(hn:n=L.length)(hl:L.length<=1000)(a:Option Addr)(w:World)(h:DlsAt w a L) :
 Calls Tryz.prog 32 #[.slice a n c] w fun e w'=>∃ a' c' L',e=.returned (.slice a' L'.length c')/\DlsAt w' a' L'/\L'.length<=1000/\L'.map Dl.kn=consK (L.map Dl.kn)/\Below w.heap.size w w':=by
 subst hn
 refine(ZcZ L a c (by omega) w h).mono ?_
 rintro e w' ⟨v,l',rfl,⟨a',c',rfl,-,-,hd⟩,h1,h2,h3⟩
 exact⟨a',c',l',rfl,hd,by omega,h2,h3⟩
theorem ZcR (L K:List Dl)(n m c d:Nat)(hn:n=L.length)(hm:m=K.length)(hl:L.length<=1000)(a b:Option Addr)(w:World)(h:DlsAt w a L)(h2:DlsAt w b K)(he:L.map Dl.kn=K.map Dl.kn) :
 Calls Tryz.prog 12 #[.slice a n c,.slice b m d] w fun e w'=>e=.returned (.bool true)/\Below w.heap.size w w':=by
 subst hn hm
 refine(ZeE L K a b c d (by omega) w h h2).mono ?_
 rintro e w' ⟨rfl,hb⟩
 rw[decide_eq_true he]
 exact⟨rfl,hb⟩
def exD:List Dl:=[ZbF 3 1 2,ZbF 4 2 1,ZbF 3 3 (-2)]
theorem exD_ok (w:World):∀ d∈exD,d.Ok w:=by
 intro d hd
 simp[exD]at hd
 rcases hd with h|h|h<;>subst h<;>exact ZdL _ _ _ ⟨i64s _ (by omega),i64s _ (by omega),i64s _ (by omega)⟩ w
theorem rowsD_keysE (l:List Dl):(rowsD l).map Rw.key=((l.map Dl.kn).filter (fun x=>decide (0<x.2))).map (fun x=>x.1.2):=by
 unfold rowsD
 induction l with
 |nil=>rfl
 |cons d l ih =>
  simp only[List.map_cons,List.filter_cons]
  by_cases h:0<d.n
  · have h2:decide (0<d.kn.2)=true:=decide_eq_true h
    rw[if_pos (by simpa using h),h2]
    simp only[List.map_cons,if_true]
    rw[ih];rfl
  · have h2:decide (0<d.kn.2)=false:=decide_eq_false h
    rw[if_neg (by simpa using h),h2]
    exact ih
theorem at_lit (n c:Nat)(t:Int)(M:List Rw)(hn:n=exD.length)(hM:((consK ((atD exD t).map Dl.kn)).filter (fun x=>decide (0<x.2))).map (fun x=>x.1.2)=M.map Rw.key)(a:Option Addr)(w:World)(h:DlsAt w a exD) :
 Calls Tryz.prog 18 #[.slice a n c,.int .i64 t] w fun e w'=>∃ a' c' R,e=.returned (.slice a' R.length c')/\ZaY w' a' R/\R.length<=1000/\R.map Rw.key=M.map Rw.key/\Below w.heap.size w w':=by
 subst hn
 refine(fat_walk exD a c (by decide) t w h).mono ?_
 rintro e w' ⟨v,l3,rfl,h1,h2,h3,h4⟩
 obtain⟨a',c',rfl,-,-,hl⟩:=h3.1.lies encR
 refine⟨a',c',rowsD l3,rfl,⟨hl,h3.2⟩,?_,?_,h4⟩
 · have:=rowsD_len l3;have h5:exD.length=3:=rfl;omega
 · rw[rowsD_keysE,h2,hM]
theorem at_1:((consK ((atD exD 1).map Dl.kn)).filter (fun x=>decide (0<x.2))).map (fun x=>x.1.2)=[zr 3].map Rw.key:=by decide +kernel
theorem at_2:((consK ((atD exD 2).map Dl.kn)).filter (fun x=>decide (0<x.2))).map (fun x=>x.1.2)=[zr 3,zr 4].map Rw.key:=by decide +kernel
theorem at_3:((consK ((atD exD 3).map Dl.kn)).filter (fun x=>decide (0<x.2))).map (fun x=>x.1.2)=[zr 4].map Rw.key:=by decide +kernel
theorem Zdb (L K:List Rw)(n m c d:Nat)(hn:n=L.length)(hm:m=K.length)(hl:L.length<=1000)(a b:Option Addr)(w:World)(h:ZaY w a L)(h2:ZaY w b K)(he:L.map Rw.key=K.map Rw.key) :
 Calls Tryz.prog 30 #[.slice a n c,.slice b m d] w fun e w'=>e=.returned (.bool true)/\Below w.heap.size w w':=by
 subst hn hm
 refine(samerows_any L K a b c d (by omega) w h h2).mono ?_
 rintro e w' ⟨rfl,hb⟩
 rw[decide_eq_true he]
 exact⟨rfl,hb⟩
theorem Zdz (L:List Rw)(h:∀ r∈L,r=zr 3∨r=zr 4)(w:World):∀ r∈L,r.Ok w:=fun r hr=>by
 rcases h r hr with q|q<;>subst q<;>exact zr_ok _ (i64s _ (by omega)) w
def exA:List Dl:=[ZbF 3 1 1]
def exB:List Dl:=[ZbF 3 1 (-1)]
def exN:List Dl:=[ZbF 3 1 1,ZbF 4 1 (-3)]
def exN':List Dl:=[ZbF 3 1 (-1),ZbF 4 1 3]
theorem ZeC (L:List Dl)(h:∀ d∈L,∃ ev t n,d=ZbF ev t n/\(-1000<=ev/\ev<=1000)/\(-1000<=t/\t<=1000)/\(-1000<=n/\n<=1000))(w:World):∀ d∈L,d.Ok w:=fun d hd=>by
 obtain⟨ev,t,n,rfl,h1,h2,h3⟩:=h d hd
 exact ZdL _ _ _ ⟨i64s _ h1,i64s _ h2,i64s _ h3⟩ w
theorem exA_ok (w:World):∀ d∈exA,d.Ok w:=ZeC _ (fun d hd=>by simp[exA]at hd;subst hd;exact⟨_,_,_,rfl,by omega,by omega,by omega⟩) w
theorem exB_ok (w:World):∀ d∈exB,d.Ok w:=ZeC _ (fun d hd=>by simp[exB]at hd;subst hd;exact⟨_,_,_,rfl,by omega,by omega,by omega⟩) w
theorem exN_ok (w:World):∀ d∈exN,d.Ok w:=ZeC _ (fun d hd=>by simp[exN]at hd;rcases hd with h|h<;>subst h<;>exact⟨_,_,_,rfl,by omega,by omega,by omega⟩) w
theorem exN'_ok (w:World):∀ d∈exN',d.Ok w:=ZeC _ (fun d hd=>by simp[exN']at hd;rcases hd with h|h<;>subst h<;>exact⟨_,_,_,rfl,by omega,by omega,by omega⟩) w
theorem add_0:consK (exA.map Dl.kn++exB.map Dl.kn)=[]:=by decide +kernel
theorem add_lit (n m c d:Nat)(hn:n=exA.length)(hm:m=exB.length)(a b:Addr)(w:World)(h:DlsAt w (some a) exA)(h2:DlsAt w (some b) exB) :
 Calls Tryz.prog 20 #[.slice (some a) n c,.slice (some b) m d] w fun e w'=>∃ a' c',e=.returned (.slice a' 0 c')/\Below w.heap.size w w':=by
 subst hn hm
 refine(fadd_any exA exB (some a) (some b) c d (by decide) (by decide) (fun e=>by cases e) (fun e=>by cases e) w h h2).mono ?_
 rintro e w' ⟨v,l',rfl,⟨a',c',rfl,-,-,-⟩,-,h3,h4⟩
 rw[add_0]at h3
 have:l'=[]:=by cases l' with
  |nil=>rfl
  |cons x l=>cases h3
 subst this
 exact⟨a',c',rfl,h4⟩
theorem neg_lit (n c:Nat)(hn:n=exN.length)(a:Addr)(hsp:a.spot=none)(w:World)(h:DlsAt w (some a) exN) :
 Calls Tryz.prog 34 #[.slice (some a) n c] w fun e w'=>∃ a' c' L',e=.returned (.slice a' L'.length c')/\DlsAt w' a' L'/\L'.length<=1000/\L'.map Dl.kn=exN'.map Dl.kn/\Below w.heap.size w w':=by
 subst hn
 refine(fneg_any exN (some a) c (by decide) (fun q hq=>by injection hq with hq;rw[<-hq];exact hsp) w h).mono ?_
 rintro e w' ⟨v,rfl,ho,hb⟩
 obtain⟨a',c',rfl,-,-,hd⟩:=ho.lies
 exact⟨a',c',_,rfl,hd,by decide,by decide +kernel,hb⟩
theorem Ze3 {w:World}{f:Option Addr}(h:Zac valC 3 w f [(2,2 - 2,⟨#[]⟩)]):(row1 f).Ok w :=
 ⟨h,by show 1<=_;omega,fun v hv=>(by simp[row1]at hv;subst hv;exact sz0),fun v hv=>(by simp[row1]at hv;subst hv;exact⟨i64s 2 (by omega),i64s 0 (by omega)⟩),szs,szt,szu,i64s _ (by show -1000<=(1:Int)/\(1:Int)<=1000;omega),i64s _ (by show -1000<=(3:Int)/\(3:Int)<=1000;omega),i64s _ (by show -1000<=(2:Int)/\(2:Int)<=1000;omega),i64s _ (by show -1000<=(5:Int)/\(5:Int)<=1000;omega)⟩
theorem row2_ok {w:World}{f:Option Addr}(h:Zac valC 3 w f [(2,3 - 2,⟨#[]⟩)]):(row2 f).Ok w :=
 ⟨h,by show 1<=_;omega,fun v hv=>(by simp[row2]at hv;subst hv;exact sz0),fun v hv=>(by simp[row2]at hv;subst hv;exact⟨i64s 2 (by omega),i64s 1 (by omega)⟩),szs,szt,szu,i64s _ (by show -1000<=(1:Int)/\(1:Int)<=1000;omega),i64s _ (by show -1000<=(3:Int)/\(3:Int)<=1000;omega),i64s _ (by show -1000<=(3:Int)/\(3:Int)<=1000;omega),i64s _ (by show -1000<=(9:Int)/\(9:Int)<=1000;omega)⟩
theorem exX_ok {w:World}{f1 f2:Option Addr}(h1:Zac valC 3 w f1 [(2,2 - 2,⟨#[]⟩)])(h2:Zac valC 3 w f2 [(2,3 - 2,⟨#[]⟩)]):∀ d∈exX f1 f2,d.Ok w:=by
 intro d hd
 simp[exX]at hd
 rcases hd with h|h|h<;>subst h
 · exact⟨Ze3 h1,i64s 5 (by omega),i64s 1 (by omega)⟩
 · exact⟨Ze3 h1,i64s 9 (by omega),i64s (-1) (by omega)⟩
 · exact⟨row2_ok h2,i64s 9 (by omega),i64s 1 (by omega)⟩
theorem exY_ok {w:World}{f1 f2:Option Addr}(h1:Zac valC 3 w f1 [(2,2 - 2,⟨#[]⟩)])(h2:Zac valC 3 w f2 [(2,3 - 2,⟨#[]⟩)]):∀ d∈exY f1,d.Ok w:=by
 intro d hd
 simp[exY]at hd
 rcases hd with h|h<;>subst h
 · exact⟨Ze3 h1,i64s 5 (by omega),i64s 1 (by omega)⟩
 · exact⟨Ze3 h1,i64s 9 (by omega),i64s (-1) (by omega)⟩
theorem exZ_ok {w:World}{f1 f2:Option Addr}(h1:Zac valC 3 w f1 [(2,2 - 2,⟨#[]⟩)])(h2:Zac valC 3 w f2 [(2,3 - 2,⟨#[]⟩)]):∀ d∈exZ f1 f2,d.Ok w:=by
 intro d hd
 simp[exZ]at hd
 rcases hd with h|h<;>subst h
 · exact⟨Ze3 h1,i64s 9 (by omega),i64s (-1) (by omega)⟩
 · exact⟨row2_ok h2,i64s 9 (by omega),i64s 1 (by omega)⟩
theorem fid_lit (W:World):Zac fidC 2 (W.alloc (.cells (encs fidC [s1]).toArray 24)) (some ⟨W.heap.size,0,none⟩) [s1] :=
 Or.inr ⟨_,0,rfl,Lies.of_cells Zbi.len (fun j v hj=>by rw[Nat.zero_add];exact(Box.new W (encs fidC [s1]).toArray 24).cell j v (by rw[List.getElem?_toArray];exact hj))⟩
theorem purge_lit (L:List Dl)(hk:L.map Dl.kn=(exX none none).map Dl.kn)(a:Option Addr)(c n d:Nat)(w:World){b:Option Addr}(h:DlsAt w a L)(h2:Zac fidC 2 w b [s1]) :
 Calls Tryz.prog 21 #[.slice a L.length c,.slice b 1 d] w fun e w'=>∃ a' c',e=.returned (.slice a' 0 c')/\Below w.heap.size w w':=by
 have hl:L.length=3:=by have:=congrArg List.length hk;simpa [exX]using this
 refine(fpurge_any L a c (by omega) [s1] b d (by decide) w h h2).mono ?_
 rintro e w' ⟨v,rfl,ho,hb⟩
 have hp:Zcm L [s1]=[]:=by
  unfold Zcm
  rw[List.filter_eq_nil_iff]
  intro x hx
  have hm:x.kn∈(exX none none).map Dl.kn:=by rw[<-hk];exact List.mem_map.2 ⟨x,hx,rfl⟩
  have hs:(x.r.src,x.r.seq)=s1:=by
   have e:x.kn.1.2.2.1=(x.r.src,x.r.seq):=rfl
   rw[<-e]
   simp[exX]at hm
   rcases hm with q|q|q<;>rw[q]<;>rfl
  rw[hs]
  have:memF [s1] s1=true:=ZeG.2 (by simp)
  rw[this];decide
 rw[hp]at ho
 obtain⟨a',c',rfl,-,-,-⟩:=ho.lies
 exact⟨a',c',rfl,hb⟩
set_option maxHeartbeats 8000000 in
set_option maxRecDepth 100000 in
theorem example_any:ExampleYes:=by
 intro w
 have CAT:=hid at_any
 go_enter Tryz.func9,Tryz.ntmps9
 go_upto_region 2 with fail
 refine Zan (fun V hV=>?_)
 have Aa:Hid (Below w.heap.size w V):=by rw[hV];exact Zak _ _
 have B1:Hid (Box V w.heap.size (zr 3).cells.toArray 68):=by rw[hV];exact(Box.new w _ _).kept (Zab _)
 have B2:Hid (Box V (w.heap.size+1) (zr 4).cells.toArray 68):=by rw[hV];show Box _ _ _ _;have:=Box.new (w.alloc (.cells (zr 3).cells.toArray 68)) (zr 4).cells.toArray 68;simpa [Rw.cells,zr]using this
 clear hV
 have HS:Hid (∀ w',Below V.heap.size V w'->Below V.heap.size V w'/\w'.cell? ⟨w.heap.size,0,none⟩=some (.string ⟨#[]⟩)/\w'.cell? ⟨w.heap.size,1,none⟩=some (.int .i64 0)/\w'.cell? ⟨w.heap.size,2,none⟩=some (.string ⟨#[]⟩)/\w'.cell? ⟨w.heap.size,3,none⟩=some (.string ⟨#[]⟩)/\w'.cell? ⟨w.heap.size,4,none⟩=some (.int .i64 3)/\w'.cell? ⟨w.heap.size,5,none⟩=some (.slice none 0 0)/\w'.cell? ⟨w.heap.size,6,none⟩=some (.int .i64 0)/\w'.cell? ⟨w.heap.size,7,none⟩=some (.int .i64 0)/\w'.cell? ⟨w.heap.size+1,0,none⟩=some (.string ⟨#[]⟩)/\w'.cell? ⟨w.heap.size+1,1,none⟩=some (.int .i64 0)/\w'.cell? ⟨w.heap.size+1,2,none⟩=some (.string ⟨#[]⟩)/\w'.cell? ⟨w.heap.size+1,3,none⟩=some (.string ⟨#[]⟩)/\w'.cell? ⟨w.heap.size+1,4,none⟩=some (.int .i64 4)/\w'.cell? ⟨w.heap.size+1,5,none⟩=some (.slice none 0 0)/\w'.cell? ⟨w.heap.size+1,6,none⟩=some (.int .i64 0)/\w'.cell? ⟨w.heap.size+1,7,none⟩=some (.int .i64 0)):=fun w' hb=>⟨hb,(B1.out.kept hb).cell 0 _ rfl,(B1.out.kept hb).cell 1 _ rfl,(B1.out.kept hb).cell 2 _ rfl,(B1.out.kept hb).cell 3 _ rfl,(B1.out.kept hb).cell 4 _ rfl,(B1.out.kept hb).cell 5 _ rfl,(B1.out.kept hb).cell 6 _ rfl,(B1.out.kept hb).cell 7 _ rfl,(B2.out.kept hb).cell 0 _ rfl,(B2.out.kept hb).cell 1 _ rfl,(B2.out.kept hb).cell 2 _ rfl,(B2.out.kept hb).cell 3 _ rfl,(B2.out.kept hb).cell 4 _ rfl,(B2.out.kept hb).cell 5 _ rfl,(B2.out.kept hb).cell 6 _ rfl,(B2.out.kept hb).cell 7 _ rfl⟩
 go_region_held3 (fun w'=>Below V.heap.size V w'/\w'.cell? ⟨w.heap.size,0,none⟩=some (.string ⟨#[]⟩)/\w'.cell? ⟨w.heap.size,1,none⟩=some (.int .i64 0)/\w'.cell? ⟨w.heap.size,2,none⟩=some (.string ⟨#[]⟩)/\w'.cell? ⟨w.heap.size,3,none⟩=some (.string ⟨#[]⟩)/\w'.cell? ⟨w.heap.size,4,none⟩=some (.int .i64 3)/\w'.cell? ⟨w.heap.size,5,none⟩=some (.slice none 0 0)/\w'.cell? ⟨w.heap.size,6,none⟩=some (.int .i64 0)/\w'.cell? ⟨w.heap.size,7,none⟩=some (.int .i64 0)/\w'.cell? ⟨w.heap.size+1,0,none⟩=some (.string ⟨#[]⟩)/\w'.cell? ⟨w.heap.size+1,1,none⟩=some (.int .i64 0)/\w'.cell? ⟨w.heap.size+1,2,none⟩=some (.string ⟨#[]⟩)/\w'.cell? ⟨w.heap.size+1,3,none⟩=some (.string ⟨#[]⟩)/\w'.cell? ⟨w.heap.size+1,4,none⟩=some (.int .i64 4)/\w'.cell? ⟨w.heap.size+1,5,none⟩=some (.slice none 0 0)/\w'.cell? ⟨w.heap.size+1,6,none⟩=some (.int .i64 0)/\w'.cell? ⟨w.heap.size+1,7,none⟩=some (.int .i64 0))
  (first|exact HS.out _ ((Below.refl _ _).drew)|exact HS.out _ (keepB (Nat.le_refl _) (And.left (by assumption)) hb)|exact HS.out _ ((And.left (by assumption:Below V.heap.size V _/\_)).alloc (And.left (by assumption:Below V.heap.size V _/\_)).size _))
  (first
   |(go_at_call 33;(with_reducible refine(CAT.out _ _ _ _ _ _ _ _ _ _ _ _ _).mono ?_);rintro e w' ⟨rfl,hb⟩;(try have HD:=HD.kept hb))
   |(go_at_call 32;(refine(cons_lit exL1 4 4 rfl (by decide) _ _ (ZbC exL1 _ (exL1_ok _))).mono ?_);rintro e w' ⟨a5,c5,L5,rfl,HD,Qe,Rd,hb⟩)
   |(go_at_call 12;(refine(ZcR L5 exM1 _ _ _ _ rfl rfl Qe _ _ _ (HD.kept (Zab _)) (ZbC exM1 _ (exM1_ok _)) (by rw[Rd];exact ex1)).mono ?_);rintro e w' ⟨rfl,hb⟩))
 have HBc:Below V.heap.size V w':=And.left (by assumption)
 rename World=>V2
 have La:Hid (Below w.heap.size w V2):=Aa.out.trans (HBc.mono Aa.out.size)
 replace B1:=hid (B1.out.kept HBc)
 replace B2:=hid (B2.out.kept HBc)
 clear HS
 go_upto_region 4 with fail
 have HS:Hid (∀ w',Below V2.heap.size V2 w'->Below V2.heap.size V2 w'/\w'.cell? ⟨w.heap.size,0,none⟩=some (.string ⟨#[]⟩)/\w'.cell? ⟨w.heap.size,1,none⟩=some (.int .i64 0)/\w'.cell? ⟨w.heap.size,2,none⟩=some (.string ⟨#[]⟩)/\w'.cell? ⟨w.heap.size,3,none⟩=some (.string ⟨#[]⟩)/\w'.cell? ⟨w.heap.size,4,none⟩=some (.int .i64 3)/\w'.cell? ⟨w.heap.size,5,none⟩=some (.slice none 0 0)/\w'.cell? ⟨w.heap.size,6,none⟩=some (.int .i64 0)/\w'.cell? ⟨w.heap.size,7,none⟩=some (.int .i64 0)/\w'.cell? ⟨w.heap.size+1,0,none⟩=some (.string ⟨#[]⟩)/\w'.cell? ⟨w.heap.size+1,1,none⟩=some (.int .i64 0)/\w'.cell? ⟨w.heap.size+1,2,none⟩=some (.string ⟨#[]⟩)/\w'.cell? ⟨w.heap.size+1,3,none⟩=some (.string ⟨#[]⟩)/\w'.cell? ⟨w.heap.size+1,4,none⟩=some (.int .i64 4)/\w'.cell? ⟨w.heap.size+1,5,none⟩=some (.slice none 0 0)/\w'.cell? ⟨w.heap.size+1,6,none⟩=some (.int .i64 0)/\w'.cell? ⟨w.heap.size+1,7,none⟩=some (.int .i64 0)):=fun w' hb=>⟨hb,(B1.out.kept hb).cell 0 _ rfl,(B1.out.kept hb).cell 1 _ rfl,(B1.out.kept hb).cell 2 _ rfl,(B1.out.kept hb).cell 3 _ rfl,(B1.out.kept hb).cell 4 _ rfl,(B1.out.kept hb).cell 5 _ rfl,(B1.out.kept hb).cell 6 _ rfl,(B1.out.kept hb).cell 7 _ rfl,(B2.out.kept hb).cell 0 _ rfl,(B2.out.kept hb).cell 1 _ rfl,(B2.out.kept hb).cell 2 _ rfl,(B2.out.kept hb).cell 3 _ rfl,(B2.out.kept hb).cell 4 _ rfl,(B2.out.kept hb).cell 5 _ rfl,(B2.out.kept hb).cell 6 _ rfl,(B2.out.kept hb).cell 7 _ rfl⟩
 go_region_held3 (fun w'=>Below V2.heap.size V2 w'/\w'.cell? ⟨w.heap.size,0,none⟩=some (.string ⟨#[]⟩)/\w'.cell? ⟨w.heap.size,1,none⟩=some (.int .i64 0)/\w'.cell? ⟨w.heap.size,2,none⟩=some (.string ⟨#[]⟩)/\w'.cell? ⟨w.heap.size,3,none⟩=some (.string ⟨#[]⟩)/\w'.cell? ⟨w.heap.size,4,none⟩=some (.int .i64 3)/\w'.cell? ⟨w.heap.size,5,none⟩=some (.slice none 0 0)/\w'.cell? ⟨w.heap.size,6,none⟩=some (.int .i64 0)/\w'.cell? ⟨w.heap.size,7,none⟩=some (.int .i64 0)/\w'.cell? ⟨w.heap.size+1,0,none⟩=some (.string ⟨#[]⟩)/\w'.cell? ⟨w.heap.size+1,1,none⟩=some (.int .i64 0)/\w'.cell? ⟨w.heap.size+1,2,none⟩=some (.string ⟨#[]⟩)/\w'.cell? ⟨w.heap.size+1,3,none⟩=some (.string ⟨#[]⟩)/\w'.cell? ⟨w.heap.size+1,4,none⟩=some (.int .i64 4)/\w'.cell? ⟨w.heap.size+1,5,none⟩=some (.slice none 0 0)/\w'.cell? ⟨w.heap.size+1,6,none⟩=some (.int .i64 0)/\w'.cell? ⟨w.heap.size+1,7,none⟩=some (.int .i64 0))
  (first|exact HS.out _ ((Below.refl _ _).drew)|exact HS.out _ (keepB (Nat.le_refl _) (And.left (by assumption)) hb)|exact HS.out _ ((And.left (by assumption:Below V2.heap.size V2 _/\_)).alloc (And.left (by assumption:Below V2.heap.size V2 _/\_)).size _))
  (first
   |(go_at_call 33;(with_reducible refine(CAT.out _ _ _ _ _ _ _ _ _ _ _ _ _).mono ?_);rintro e w' ⟨rfl,hb⟩;(try have HD:=HD.kept hb)))
 go_upto_region 5 with fail
 rename World=>V3
 refine Zan (fun X hX=>?_)
 have HBd:Below V2.heap.size V2 X:=by rw[hX];exact And.left (by assumption)
 have Dv:Hid (DlsAt X (some ⟨V3.heap.size,0,none⟩) exD):=by rw[hX];exact ZbC exD V3 (exD_ok _)
 have Gb:Hid (Below w.heap.size w X):=La.out.trans (HBd.mono La.out.size)
 replace B1:=hid (B1.out.kept HBd)
 replace B2:=hid (B2.out.kept HBd)
 clear HS hX
 have HS:Hid (∀ w',Below X.heap.size X w'->Below X.heap.size X w'/\w'.cell? ⟨w.heap.size,0,none⟩=some (.string ⟨#[]⟩)/\w'.cell? ⟨w.heap.size,1,none⟩=some (.int .i64 0)/\w'.cell? ⟨w.heap.size,2,none⟩=some (.string ⟨#[]⟩)/\w'.cell? ⟨w.heap.size,3,none⟩=some (.string ⟨#[]⟩)/\w'.cell? ⟨w.heap.size,4,none⟩=some (.int .i64 3)/\w'.cell? ⟨w.heap.size,5,none⟩=some (.slice none 0 0)/\w'.cell? ⟨w.heap.size,6,none⟩=some (.int .i64 0)/\w'.cell? ⟨w.heap.size,7,none⟩=some (.int .i64 0)/\w'.cell? ⟨w.heap.size+1,0,none⟩=some (.string ⟨#[]⟩)/\w'.cell? ⟨w.heap.size+1,1,none⟩=some (.int .i64 0)/\w'.cell? ⟨w.heap.size+1,2,none⟩=some (.string ⟨#[]⟩)/\w'.cell? ⟨w.heap.size+1,3,none⟩=some (.string ⟨#[]⟩)/\w'.cell? ⟨w.heap.size+1,4,none⟩=some (.int .i64 4)/\w'.cell? ⟨w.heap.size+1,5,none⟩=some (.slice none 0 0)/\w'.cell? ⟨w.heap.size+1,6,none⟩=some (.int .i64 0)/\w'.cell? ⟨w.heap.size+1,7,none⟩=some (.int .i64 0)):=fun w' hb=>⟨hb,(B1.out.kept hb).cell 0 _ rfl,(B1.out.kept hb).cell 1 _ rfl,(B1.out.kept hb).cell 2 _ rfl,(B1.out.kept hb).cell 3 _ rfl,(B1.out.kept hb).cell 4 _ rfl,(B1.out.kept hb).cell 5 _ rfl,(B1.out.kept hb).cell 6 _ rfl,(B1.out.kept hb).cell 7 _ rfl,(B2.out.kept hb).cell 0 _ rfl,(B2.out.kept hb).cell 1 _ rfl,(B2.out.kept hb).cell 2 _ rfl,(B2.out.kept hb).cell 3 _ rfl,(B2.out.kept hb).cell 4 _ rfl,(B2.out.kept hb).cell 5 _ rfl,(B2.out.kept hb).cell 6 _ rfl,(B2.out.kept hb).cell 7 _ rfl⟩
 go_cut [57] (fun v wx=>v=.bool false/\Hid (Below X.heap.size X wx))
 case first =>
  go_region_held3 (fun w'=>Below X.heap.size X w'/\w'.cell? ⟨w.heap.size,0,none⟩=some (.string ⟨#[]⟩)/\w'.cell? ⟨w.heap.size,1,none⟩=some (.int .i64 0)/\w'.cell? ⟨w.heap.size,2,none⟩=some (.string ⟨#[]⟩)/\w'.cell? ⟨w.heap.size,3,none⟩=some (.string ⟨#[]⟩)/\w'.cell? ⟨w.heap.size,4,none⟩=some (.int .i64 3)/\w'.cell? ⟨w.heap.size,5,none⟩=some (.slice none 0 0)/\w'.cell? ⟨w.heap.size,6,none⟩=some (.int .i64 0)/\w'.cell? ⟨w.heap.size,7,none⟩=some (.int .i64 0)/\w'.cell? ⟨w.heap.size+1,0,none⟩=some (.string ⟨#[]⟩)/\w'.cell? ⟨w.heap.size+1,1,none⟩=some (.int .i64 0)/\w'.cell? ⟨w.heap.size+1,2,none⟩=some (.string ⟨#[]⟩)/\w'.cell? ⟨w.heap.size+1,3,none⟩=some (.string ⟨#[]⟩)/\w'.cell? ⟨w.heap.size+1,4,none⟩=some (.int .i64 4)/\w'.cell? ⟨w.heap.size+1,5,none⟩=some (.slice none 0 0)/\w'.cell? ⟨w.heap.size+1,6,none⟩=some (.int .i64 0)/\w'.cell? ⟨w.heap.size+1,7,none⟩=some (.int .i64 0))
   (first|exact HS.out _ ((Below.refl _ _).drew)|exact HS.out _ (keepB (Nat.le_refl _) (And.left (by assumption)) hb)|exact HS.out _ ((And.left (by assumption:Below X.heap.size X _/\_)).alloc (And.left (by assumption:Below X.heap.size X _/\_)).size _)|exact HS.out _ (((Below.refl _ _).drew).alloc (Nat.le_refl _) _))
   (first
   |(go_at_call 30;(refine(Zdb R63 [zr 4] _ _ _ _ rfl rfl Wq _ _ _ ?hr ?lit Zq).mono ?_);(case hr=>with_reducible exact Md.kept (Zab _));(case lit=>exact ZbO [zr 4] _ (Zdz _ (fun r hr=>by simp at hr;simp[hr]) _));rintro e w' ⟨rfl,hb⟩)
   |(go_at_call 30;(refine(Zdb R63 [zr 4] _ _ _ _ rfl rfl Wq _ _ _ ?hr ?lit Zq).mono ?_);(case hr=>with_reducible exact Md);(case lit=>first|exact(Ze2 (ZbO [zr 4] _ (Zdz _ (fun r hr=>by simp at hr;simp[hr]) _))).kept hb|exact(ZbO [zr 4] _ (Zdz _ (fun r hr=>by simp at hr;simp[hr]) _)).kept hb);rintro e w' ⟨rfl,hb⟩)
   |(go_at_call 30;(refine(Zdb R62 [zr 3,zr 4] _ _ _ _ rfl rfl Xq _ _ _ ?hr ?lit Ar).mono ?_);(case hr=>with_reducible exact Ke.kept (Zab _));(case lit=>exact ZbO [zr 3,zr 4] _ (Zdz _ (fun r hr=>by simpa using hr) _));rintro e w' ⟨rfl,hb⟩)
   |(go_at_call 30;(refine(Zdb R62 [zr 3,zr 4] _ _ _ _ rfl rfl Xq _ _ _ ?hr ?lit Ar).mono ?_);(case hr=>with_reducible exact Ke);(case lit=>first|exact(Ze2 (ZbO [zr 3,zr 4] _ (Zdz _ (fun r hr=>by simpa using hr) _))).kept hb|exact(ZbO [zr 3,zr 4] _ (Zdz _ (fun r hr=>by simpa using hr) _)).kept hb);rintro e w' ⟨rfl,hb⟩)
   |(go_at_call 30;(refine(Zdb R61 [zr 3] _ _ _ _ rfl rfl Yq _ _ _ ?hr ?lit Br).mono ?_);(case hr=>with_reducible exact Ee.kept (Zab _));(case lit=>exact ZbO [zr 3] _ (Zdz _ (fun r hr=>by simp at hr;simp[hr]) _));rintro e w' ⟨rfl,hb⟩)
   |(go_at_call 30;(refine(Zdb R61 [zr 3] _ _ _ _ rfl rfl Yq _ _ _ ?hr ?lit Br).mono ?_);(case hr=>with_reducible exact Ee);(case lit=>first|exact(Ze2 (ZbO [zr 3] _ (Zdz _ (fun r hr=>by simp at hr;simp[hr]) _))).kept hb|exact(ZbO [zr 3] _ (Zdz _ (fun r hr=>by simp at hr;simp[hr]) _)).kept hb);rintro e w' ⟨rfl,hb⟩)
   |(go_at_call 18;(with_reducible refine(at_lit 3 3 1 [zr 3] rfl at_1 _ _ (Dv.out.kept (And.left (by assumption)))).mono ?_);rintro e w' ⟨a61,c61,R61,rfl,Ee,Yq,Br,hb⟩)
   |(go_at_call 18;(with_reducible refine(at_lit 3 3 2 [zr 3,zr 4] rfl at_2 _ _ (Dv.out.kept (And.left (by assumption)))).mono ?_);rintro e w' ⟨a62,c62,R62,rfl,Ke,Xq,Ar,hb⟩)
   |(go_at_call 18;(with_reducible refine(at_lit 3 3 3 [zr 4] rfl at_3 _ _ (Dv.out.kept (And.left (by assumption)))).mono ?_);rintro e w' ⟨a63,c63,R63,rfl,Md,Wq,Zq,hb⟩)
)
  all_goals
   have HBe:Hid (Below X.heap.size X w'):=And.left (by assumption)
   go_wp2_with fail
   go_meet
   case rel=>exact⟨rfl,HBe⟩
 case rest =>
  obtain⟨rfl,HBe⟩:=hcut
  rename World=>wc
  have HBw:Hid (Below w.heap.size w wc):=Gb.out.trans (HBe.out.mono Gb.out.size)
  replace B1:=hid (B1.out.kept HBe.out)
  replace B2:=hid (B2.out.kept HBe.out)
  clear HS Dv Gb HBe La Aa
  go_upto_region 7 with fail
  have HS:Hid (∀ w',Below wc.heap.size wc w'->Below wc.heap.size wc w'/\w'.cell? ⟨w.heap.size,0,none⟩=some (.string ⟨#[]⟩)/\w'.cell? ⟨w.heap.size,1,none⟩=some (.int .i64 0)/\w'.cell? ⟨w.heap.size,2,none⟩=some (.string ⟨#[]⟩)/\w'.cell? ⟨w.heap.size,3,none⟩=some (.string ⟨#[]⟩)/\w'.cell? ⟨w.heap.size,4,none⟩=some (.int .i64 3)/\w'.cell? ⟨w.heap.size,5,none⟩=some (.slice none 0 0)/\w'.cell? ⟨w.heap.size,6,none⟩=some (.int .i64 0)/\w'.cell? ⟨w.heap.size,7,none⟩=some (.int .i64 0)/\w'.cell? ⟨w.heap.size+1,0,none⟩=some (.string ⟨#[]⟩)/\w'.cell? ⟨w.heap.size+1,1,none⟩=some (.int .i64 0)/\w'.cell? ⟨w.heap.size+1,2,none⟩=some (.string ⟨#[]⟩)/\w'.cell? ⟨w.heap.size+1,3,none⟩=some (.string ⟨#[]⟩)/\w'.cell? ⟨w.heap.size+1,4,none⟩=some (.int .i64 4)/\w'.cell? ⟨w.heap.size+1,5,none⟩=some (.slice none 0 0)/\w'.cell? ⟨w.heap.size+1,6,none⟩=some (.int .i64 0)/\w'.cell? ⟨w.heap.size+1,7,none⟩=some (.int .i64 0)):=fun w' hb=>⟨hb,(B1.out.kept hb).cell 0 _ rfl,(B1.out.kept hb).cell 1 _ rfl,(B1.out.kept hb).cell 2 _ rfl,(B1.out.kept hb).cell 3 _ rfl,(B1.out.kept hb).cell 4 _ rfl,(B1.out.kept hb).cell 5 _ rfl,(B1.out.kept hb).cell 6 _ rfl,(B1.out.kept hb).cell 7 _ rfl,(B2.out.kept hb).cell 0 _ rfl,(B2.out.kept hb).cell 1 _ rfl,(B2.out.kept hb).cell 2 _ rfl,(B2.out.kept hb).cell 3 _ rfl,(B2.out.kept hb).cell 4 _ rfl,(B2.out.kept hb).cell 5 _ rfl,(B2.out.kept hb).cell 6 _ rfl,(B2.out.kept hb).cell 7 _ rfl⟩
  go_cut [81] (fun v wx=>v=.bool false/\Hid (Below wc.heap.size wc wx))
  case first =>
   go_region_held3 (fun w'=>Below wc.heap.size wc w'/\w'.cell? ⟨w.heap.size,0,none⟩=some (.string ⟨#[]⟩)/\w'.cell? ⟨w.heap.size,1,none⟩=some (.int .i64 0)/\w'.cell? ⟨w.heap.size,2,none⟩=some (.string ⟨#[]⟩)/\w'.cell? ⟨w.heap.size,3,none⟩=some (.string ⟨#[]⟩)/\w'.cell? ⟨w.heap.size,4,none⟩=some (.int .i64 3)/\w'.cell? ⟨w.heap.size,5,none⟩=some (.slice none 0 0)/\w'.cell? ⟨w.heap.size,6,none⟩=some (.int .i64 0)/\w'.cell? ⟨w.heap.size,7,none⟩=some (.int .i64 0)/\w'.cell? ⟨w.heap.size+1,0,none⟩=some (.string ⟨#[]⟩)/\w'.cell? ⟨w.heap.size+1,1,none⟩=some (.int .i64 0)/\w'.cell? ⟨w.heap.size+1,2,none⟩=some (.string ⟨#[]⟩)/\w'.cell? ⟨w.heap.size+1,3,none⟩=some (.string ⟨#[]⟩)/\w'.cell? ⟨w.heap.size+1,4,none⟩=some (.int .i64 4)/\w'.cell? ⟨w.heap.size+1,5,none⟩=some (.slice none 0 0)/\w'.cell? ⟨w.heap.size+1,6,none⟩=some (.int .i64 0)/\w'.cell? ⟨w.heap.size+1,7,none⟩=some (.int .i64 0))
    (first|exact HS.out _ ((Below.refl _ _).drew)|exact HS.out _ (keepB (Nat.le_refl _) (And.left (by assumption)) hb)|exact HS.out _ ((And.left (by assumption:Below wc.heap.size wc _/\_)).alloc (And.left (by assumption:Below wc.heap.size wc _/\_)).size _)|exact HS.out _ (((Below.refl _ _).drew).alloc (Nat.le_refl _) _))
    (first
     |(go_at_call 12;(refine(ZcR L7 exN' _ _ _ _ rfl rfl hl7 _ _ _ ?hr ?lit Lp).mono ?_);(case hr=>with_reducible exact HD.kept (Zab _));(case lit=>exact ZbC exN' _ (exN'_ok _));rintro e w' ⟨rfl,hb⟩)
     |(go_at_call 34;(refine(neg_lit 2 2 rfl _ rfl _ (ZbC exN _ (exN_ok _))).mono ?_);rintro e w' ⟨a7,c7,L7,rfl,HD,hl7,Lp,hb⟩)
     |(go_at_call 20;((refine(add_lit 1 1 1 1 rfl rfl _ _ _ ?la ?lb).mono ?_);(case la=>first|exact((ZbC exA _ (exA_ok _)).kept (Zab _))|exact dls_lit2 exA _ _ (by simp) (exA_ok _)|exact((ZbC exA _ (exA_ok _)).kept hb).kept (Zab _));(case lb=>first|exact ZbC exB _ (exB_ok _)|exact dls_lit2 exB _ _ (by simp) (exB_ok _)|exact(ZbC exB _ (exB_ok _)).kept (Zab _));rintro e w' ⟨a8,c8,rfl,hb⟩))
     |(go_at_call 33;(with_reducible refine(CAT.out _ _ _ _ _ _ _ _ _ _ _ _ _).mono ?_);rintro e w' ⟨rfl,hb⟩;(try have HD:=HD.kept hb)))
   all_goals
    have HBe:Hid (Below wc.heap.size wc w'):=And.left (by assumption)
    go_wp2_with fail
    go_meet
    case rel=>exact⟨rfl,HBe⟩
  case rest =>
   obtain⟨rfl,HBe⟩:=hcut
   rename World=>wd
   have HBw2:Hid (Below w.heap.size w wd):=HBw.out.trans (HBe.out.mono HBw.out.size)
   clear HS B1 B2 HBe
   have HSA:=hid (fun w=>said_any 2 5 (by omega) w)
   have HSB:=hid (fun w=>said_any 3 9 (by omega) w)
   go_upto_region 10 with(first
    |(go_at_call 35;(with_reducible refine(HSA.out _).mono ?_);rintro e w' ⟨f1,Om,rfl,hb⟩;have Cq:=hid Om;have Lg:Hid (Below w.heap.size w w'):=HBw2.out.trans (hb.mono HBw2.out.size);clear Om hb)
    |(go_at_call 35;(with_reducible refine(HSB.out _).mono ?_);rintro e w9 ⟨f2,Dr,rfl,hb⟩;have Bq:=hid Dr;have HF1b:=hid (Cq.out.kept hb);have HB9b:Hid (Below w.heap.size w w9):=Lg.out.trans (hb.mono Lg.out.size);clear Dr hb))
   refine Zan (fun X9 hX9=>?_)
   have Ai:Hid (Below w.heap.size w X9):=by rw[hX9];exact(HB9b.out.alloc HB9b.out.size _).alloc (by have:=HB9b.out.size;simp;omega) _
   have Zf:Hid (Below w9.heap.size w9 X9):=by rw[hX9];exact Zak _ _
   have B4:Hid (Box X9 w9.heap.size #[.string ⟨#[115]⟩,.int .i64 1,.string ⟨#[116]⟩,.string ⟨#[117]⟩,.int .i64 3,.slice f1 1 1,.int .i64 2,.int .i64 5] 68):=by rw[hX9];exact(Box.new w9 _ _).kept (Zab _)
   have B5:Hid (Box X9 (w9.heap.size+1) #[.string ⟨#[115]⟩,.int .i64 1,.string ⟨#[116]⟩,.string ⟨#[117]⟩,.int .i64 3,.slice f2 1 1,.int .i64 3,.int .i64 9] 68):=by rw[hX9];show Box _ _ _ _;have:=Box.new (w9.alloc (.cells #[.string ⟨#[115]⟩,.int .i64 1,.string ⟨#[116]⟩,.string ⟨#[117]⟩,.int .i64 3,.slice f1 1 1,.int .i64 2,.int .i64 5] 68)) #[.string ⟨#[115]⟩,.int .i64 1,.string ⟨#[116]⟩,.string ⟨#[117]⟩,.int .i64 3,.slice f2 1 1,.int .i64 3,.int .i64 9] 68;simpa using this
   have Hn:=hid (HF1b.out.kept Zf.out)
   have Ej:=hid (Bq.out.kept Zf.out)
   clear hX9 HF1b Bq Cq Lg HB9b Zf HSA HSB HBw2 HBw
   go_upto_region 11 with(first
    |(go_at_call 36;(refine(script_two _ 2 _ (ZdI [5,9] _)).mono ?_);rintro e wa ⟨aa,ca,a0,a1,a2,rfl,hea,-,hba⟩;have Cv:=hid hea;have On:=hid hba;clear hea hba)
    |(go_at_call 13;(refine(from_two _ _ a0 a1 a2 _ Cv.out).mono ?_);rintro e wb ⟨vb,db,rfl,hsb,hkb,hbb⟩;obtain⟨ab,cb,rfl,-,-,hdb⟩:=hsb;have Se:=hid hdb;have Jx:=hid hkb;have Wf:=hid hbb;clear hdb hkb hbb))
   have HWb:Hid (Below X9.heap.size X9 wb):=((Below.refl _ X9).alloc (Nat.le_refl _) _).trans ((On.out.trans (Wf.out.mono On.out.size)).mono (by simp))
   go_upto_region 12 with(first
    |(go_at_call 36;(refine(script_three _ 3 _ (ZdI [5,9,9] _)).mono ?_);rintro e wc' ⟨ac,cc,b0,b1,b2,b3,rfl,hec,hbc⟩;have Bk:=hid hec;have HBC:=hid hbc;clear hec hbc)
    |(go_at_call 13;(refine(from_three _ _ b0 b1 b2 b3 _ Bk.out).mono ?_);rintro e wd' ⟨vd,dd,rfl,hsd,hkd,hbd⟩;obtain⟨ad,cd,rfl,-,-,hdd⟩:=hsd;have Vt:=hid hdd;have Bt:=hid hkd;have HBD:=hid hbd;clear hdd hkd hbd))
   have HWd:Hid (Below wb.heap.size wb wd'):=((Below.refl _ wb).alloc (Nat.le_refl _) _).trans ((HBC.out.trans (HBD.out.mono HBC.out.size)).mono (by simp))
   go_upto_region 13 with(first
    |(go_at_call 36;(with_reducible refine(script_one _ 1 _ ?lit).mono ?_);(case lit=>exact ZdI [5] _);rintro e we ⟨ae,ce,d0,d1,rfl,hee,hspe,hbe⟩;have HEE:=hid hee;have Fw:=hid hspe;have Hj:=hid hbe;clear hee hspe hbe)
    |(go_at_call 36;(with_reducible refine(script_two _ 2 _ ?lit).mono ?_);(case lit=>exact ZdI [5,9] _);rintro e wf ⟨af,cf,g0,g1,g2,rfl,hef,-,hbf⟩;obtain⟨bb,oo,rfl,hrow⟩:=Zat hef.1 (show(scA g0 [(5,g1),(9,g2)])[2]?=some (scE g2 1 9) from rfl);have Rp:Hid ((scE g2 1 9).Ok wf):=hef.2 _ (by simp[scA]);have HCF:Hid (∀ j v,(scE g2 1 9).cells[j]?=some v->wf.cell? ⟨bb,oo+2*40+j,none⟩=some v):=(fun j v hv=>hrow 2 _ rfl j v hv);have Ge:=hid hbf;have Dq:Hid (EnsAt wf ae (scA d0 [(5,d1)])):=(HEE.out.kept (Zab _)).kept hbf;clear hef hrow hbf)
    |(refine Zal rfl 48 (.tmp 94) rfl bb (oo+2*40) (scE g2 1 9).cells rfl HCF.out _ Tryz.underlying48 rfl (by kernel_rfl) ?_)
    |(go_at_call 15;(refine(next_two _ _ d0 d1 g2 Fw.out _ Dq.out Rp.out).mono ?_);rintro e wg ⟨vg,dg,rfl,hsg,hkg,hbg⟩;obtain⟨ag,cg,rfl,-,-,hdg⟩:=hsg;have HDG:=hid hdg;have HKG:=hid hkg;have Ky:=hid hbg;clear hdg hkg hbg))
   have HWe:Hid (Below wd'.heap.size wd' we):=((Below.refl _ wd').alloc (Nat.le_refl _) _).trans (Hj.out.mono (by simp))
   have HWf:Hid (Below we.heap.size we wg):=((Below.refl _ we).alloc (Nat.le_refl _) _).trans ((Ge.out.trans (Ky.out.mono Ge.out.size)).mono (by simp))
   have HWdg:Hid (Below wd'.heap.size wd' wg):=HWe.out.trans (HWf.out.mono HWe.out.size)
   have HWbg:Hid (Below wb.heap.size wb wg):=HWd.out.trans (HWdg.out.mono HWd.out.size)
   have HW9g:Hid (Below X9.heap.size X9 wg):=HWb.out.trans (HWbg.out.mono HWb.out.size)
   have HBg:Hid (Below w.heap.size w wg):=Ai.out.trans (HW9g.out.mono Ai.out.size)
   have DX:=hid (Se.out.kept HWbg.out)
   have DY:=hid (Vt.out.kept HWdg.out)
   have HGa:=hid (Hn.out.kept HW9g.out)
   have HGb:=hid (Ej.out.kept HW9g.out)
   replace B4:=hid (B4.out.kept HW9g.out)
   replace B5:=hid (B5.out.kept HW9g.out)
   have Ix:Hid (db.length<=1000):=by have:=congrArg List.length Jx.out;simp[exX]at this;show _<=_;omega
   have Hx:Hid (dd.length<=1000):=by have:=congrArg List.length Bt.out;simp[exY]at this;show _<=_;omega
   have Gx:Hid (dg.length<=1000):=by have:=congrArg List.length HKG.out;simp[exZ]at this;show _<=_;omega
   have HS:Hid (∀ w',Below wg.heap.size wg w'->Below wg.heap.size wg w'/\w'.cell? ⟨w9.heap.size,0,none⟩=some (.string ⟨#[115]⟩)/\w'.cell? ⟨w9.heap.size,1,none⟩=some (.int .i64 1)/\w'.cell? ⟨w9.heap.size,2,none⟩=some (.string ⟨#[116]⟩)/\w'.cell? ⟨w9.heap.size,3,none⟩=some (.string ⟨#[117]⟩)/\w'.cell? ⟨w9.heap.size,4,none⟩=some (.int .i64 3)/\w'.cell? ⟨w9.heap.size,5,none⟩=some (.slice f1 1 1)/\w'.cell? ⟨w9.heap.size,6,none⟩=some (.int .i64 2)/\w'.cell? ⟨w9.heap.size,7,none⟩=some (.int .i64 5)/\w'.cell? ⟨w9.heap.size+1,0,none⟩=some (.string ⟨#[115]⟩)/\w'.cell? ⟨w9.heap.size+1,1,none⟩=some (.int .i64 1)/\w'.cell? ⟨w9.heap.size+1,2,none⟩=some (.string ⟨#[116]⟩)/\w'.cell? ⟨w9.heap.size+1,3,none⟩=some (.string ⟨#[117]⟩)/\w'.cell? ⟨w9.heap.size+1,4,none⟩=some (.int .i64 3)/\w'.cell? ⟨w9.heap.size+1,5,none⟩=some (.slice f2 1 1)/\w'.cell? ⟨w9.heap.size+1,6,none⟩=some (.int .i64 3)/\w'.cell? ⟨w9.heap.size+1,7,none⟩=some (.int .i64 9)):=fun w' hb=>⟨hb,(B4.out.kept hb).cell 0 _ rfl,(B4.out.kept hb).cell 1 _ rfl,(B4.out.kept hb).cell 2 _ rfl,(B4.out.kept hb).cell 3 _ rfl,(B4.out.kept hb).cell 4 _ rfl,(B4.out.kept hb).cell 5 _ rfl,(B4.out.kept hb).cell 6 _ rfl,(B4.out.kept hb).cell 7 _ rfl,(B5.out.kept hb).cell 0 _ rfl,(B5.out.kept hb).cell 1 _ rfl,(B5.out.kept hb).cell 2 _ rfl,(B5.out.kept hb).cell 3 _ rfl,(B5.out.kept hb).cell 4 _ rfl,(B5.out.kept hb).cell 5 _ rfl,(B5.out.kept hb).cell 6 _ rfl,(B5.out.kept hb).cell 7 _ rfl⟩
   go_region_held3 (fun w'=>Below wg.heap.size wg w'/\w'.cell? ⟨w9.heap.size,0,none⟩=some (.string ⟨#[115]⟩)/\w'.cell? ⟨w9.heap.size,1,none⟩=some (.int .i64 1)/\w'.cell? ⟨w9.heap.size,2,none⟩=some (.string ⟨#[116]⟩)/\w'.cell? ⟨w9.heap.size,3,none⟩=some (.string ⟨#[117]⟩)/\w'.cell? ⟨w9.heap.size,4,none⟩=some (.int .i64 3)/\w'.cell? ⟨w9.heap.size,5,none⟩=some (.slice f1 1 1)/\w'.cell? ⟨w9.heap.size,6,none⟩=some (.int .i64 2)/\w'.cell? ⟨w9.heap.size,7,none⟩=some (.int .i64 5)/\w'.cell? ⟨w9.heap.size+1,0,none⟩=some (.string ⟨#[115]⟩)/\w'.cell? ⟨w9.heap.size+1,1,none⟩=some (.int .i64 1)/\w'.cell? ⟨w9.heap.size+1,2,none⟩=some (.string ⟨#[116]⟩)/\w'.cell? ⟨w9.heap.size+1,3,none⟩=some (.string ⟨#[117]⟩)/\w'.cell? ⟨w9.heap.size+1,4,none⟩=some (.int .i64 3)/\w'.cell? ⟨w9.heap.size+1,5,none⟩=some (.slice f2 1 1)/\w'.cell? ⟨w9.heap.size+1,6,none⟩=some (.int .i64 3)/\w'.cell? ⟨w9.heap.size+1,7,none⟩=some (.int .i64 9))
    (first|exact HS.out _ ((Below.refl _ _).drew)|exact HS.out _ (keepB (Nat.le_refl _) (And.left (by assumption)) hb)|exact HS.out _ ((And.left (by assumption:Below wg.heap.size wg _/\_)).alloc (And.left (by assumption:Below wg.heap.size wg _/\_)).size _)|exact HS.out _ (((Below.refl _ _).drew).alloc (Nat.le_refl _) _))
    (first
    |(go_at_call 12;(with_reducible refine(ZcR dg (exZ f1 f2) _ _ _ _ ?hn ?hm ?hl _ _ _ ?hr ?lit ?he).mono ?_);(case hn=>rfl);(case hm=>rfl);(case hl=>exact Gx.out);(case hr=>exact HDG.out.kept (And.left (by assumption)));(case lit=>exact ZbC (exZ f1 f2) _ (exZ_ok (HGa.out.kept (And.left (by assumption))) (HGb.out.kept (And.left (by assumption)))));(case he=>rw[HKG.out,<-exZ_kn f1 f2]);rintro e w' ⟨rfl,hb⟩)
    |(go_at_call 12;(with_reducible refine(ZcR dd (exY f1) _ _ _ _ ?hn ?hm ?hl _ _ _ ?hr ?lit ?he).mono ?_);(case hn=>rfl);(case hm=>rfl);(case hl=>exact Hx.out);(case hr=>exact DY.out.kept (And.left (by assumption)));(case lit=>exact ZbC (exY f1) _ (exY_ok (HGa.out.kept (And.left (by assumption))) (HGb.out.kept (And.left (by assumption)))));(case he=>rw[Bt.out,<-exY_kn f1]);rintro e w' ⟨rfl,hb⟩)
    |(go_at_call 12;(with_reducible refine(ZcR db (exX f1 f2) _ _ _ _ ?hn ?hm ?hl _ _ _ ?hr ?lit ?he).mono ?_);(case hn=>rfl);(case hm=>rfl);(case hl=>exact Ix.out);(case hr=>exact DX.out.kept (And.left (by assumption)));(case lit=>exact ZbC (exX f1 f2) _ (exX_ok (HGa.out.kept (And.left (by assumption))) (HGb.out.kept (And.left (by assumption)))));(case he=>rw[Jx.out,<-exX_kn f1 f2]);rintro e w' ⟨rfl,hb⟩)
    |(go_at_call 21;(refine(purge_lit db Jx.out _ _ 1 1 _ (DX.out.kept (And.left (by assumption))) (fid_lit _)).mono ?_);rintro e w' ⟨a17,c17,rfl,hb⟩)
    |(go_at_call 33;(with_reducible refine(CAT.out _ _ _ _ _ _ _ _ _ _ _ _ _).mono ?_);rintro e w' ⟨rfl,hb⟩;(try have HD:=HD.kept hb)))
   have HBz:Hid (Below wg.heap.size wg w'):=And.left (by assumption)
   go_wp2_with fail
   go_ret
   exact⟨rfl,HBg.out.trans (HBz.out.mono HBg.out.size)⟩
end Go.Proofs.YtfnpfkgmacaboaaGreat
