/- Texts joined by a program. -/
import Derived.Test.YtfnpfkgmacaboaaGreatM45
import Derived.Test.YtfnpfkgmacaboaaGreatM53
namespace Go.Proofs.YtfnpfkgmacaboaaGreat
open Go.Proofs.Tryz
open Go.ChangeShapes Go.WideShapes Go.ChangeAt Go.RowKit
set_option linter.unusedVariables false
set_option linter.unusedSimpArgs false
set_option maxRecDepth 100000
set_option maxHeartbeats 4000000
section
variable {H:Type} {enc:TypeId × Value->H}
abbrev ReadF (enc:TypeId × Value->H)(W:World)(n:Nat)(t:TypeId)(cs:List Value):Prop :=
 ∃ y:DataW H × List MemPlace,DataW.trod enc prog W 0 (fun _=>true) true n t cs=some y/\∀ m∈y.1.weights prog t,m<=reachBytes
theorem ReadF.read {W:World}{n:Nat}{t:TypeId}{cs:List Value}(h:ReadF enc W n t cs):Read enc W t cs:=let ⟨y,h1,h2⟩:=h;⟨n,y,h1,h2⟩
theorem readF_field {W:World}{n:Nat}{t:TypeId}{fs:Array Field}{cs:List Value}(ht:prog.underlying t=some (.struct fs))(h:ReadF enc W n t cs)(i:Nat)(f:Field)(hi:fs[i]?=some f)(ty o k:Nat)(h1:f.type=ty)(h2:f.offset=o)
 (h3:prog.cellsOf ty=k):∃ m,n=m+1/\ReadF enc W m ty ((cs.drop o).take k):=by
 subst h1 h2 h3
 obtain⟨y,h,hz⟩:=h
 obtain⟨xs,m,rfl,rfl,hl,hlen,hf⟩:=DataW.trod_struct ht h
 have hif:=(Array.getElem?_eq_some_iff.1 hi).1
 have hix:xs[i]?=some (xs[i]'(by omega)):=List.getElem?_eq_getElem _
 refine⟨m,rfl,xs[i]'(by omega),by rw[hf i f hi,hix],fun k hk=>hz k ?_⟩
 simp only[DataW.weights,ht]
 exact DataW.weights_mem_each (j:=i) (t:=f.type) (d:=(xs[i]'(by omega)).1) (by simp[hi]) (by rw[List.getElem?_map,hix];rfl) k hk
theorem readF_list {α:Type}{T E:TypeId}{k B n:Nat}{en:α->List Value}{Q:α->Prop}{W:World}(hT:prog.underlying T=some (.slice E))(hC:prog.cellsOf E=k)(hB:prog.bytesOf E=B)(hk:0<k)(hlen:∀ x,(en x).length=k)
 (hO:∀ m cs,n=m+1->ReadF enc W m E cs->∃ a:α,cs=en a/\Q a) {cs:List Value} (h:ReadF enc W n T cs) :
 ∃ (ao:Option Addr) (cap:Nat) (l:List α),cs=[.slice ao l.length cap]/\l.length<=cap/\l.length*B<=140737488351232/\Zac en k W ao l/\(∀ a∈l,Q a)/\(ao=none->cap=0):=by
 obtain⟨x,h,hz⟩:=h
 rcases DataW.trod_slice hT h with⟨rfl,hx⟩|⟨a,len,cap,elems,rest,m,rfl,rfl,rfl,-,hl,hm,hle,hel,hsp,-⟩
 · exact⟨none,0,[],rfl,Nat.le_refl _,by simp,Zac.nil _ _,fun _ h=>(by cases h),fun _=>rfl⟩
 have hrl:=(hsp rfl).1
 have hr:cap*B<=140737488351232:=by
  have:=hz ((len+(cap - len))*B) (by simp[DataW.weights,hT,hB,hle,hrl])
  simp only[reachBytes]at this
  rw[show len+(cap - len)=cap by omega]at this
  exact this
 have hel:∀ i,i<len->∃ y:α,Q y/\∀ j v,(en y)[j]?=some v->W.cell? (a.add (i*k+j))=some v:=by
  intro i hil
  have hi:=hel i hil
  have hix:elems[i]?=some (elems[i]'(by omega)):=List.getElem?_eq_getElem _
  rw[hix,Option.bind_eq_some_iff]at hi
  obtain⟨cs',hc,ht⟩:=hi
  rw[hC]at hc
  obtain⟨_,hcl,hat⟩:=World.cells?_some hc
  obtain⟨y,rfl,hQ⟩:=hO m cs' rfl ⟨_,ht,fun q hq=>hz q (by
   simp only[DataW.weights,hT]
   refine List.mem_cons_of_mem _ (List.mem_append_left _ (Zch (d:=(elems[i]'(by omega)).1) (List.mem_map.2 ⟨_,List.getElem_mem (by omega),rfl⟩) q hq)))⟩
  refine⟨y,hQ,fun j v hv=>?_⟩
  have hj:=(List.getElem?_eq_some_iff.1 hv).1
  have:=hat j (by rw[hlen]at hj;exact hj)
  rw[Go.Deep.add_add]at this
  rw[this,hv]
 rcases Nat.eq_zero_or_pos len with Xc|hpos
 · rw[Xc]
   exact⟨some a,cap,[],rfl,by simp,by simp,Zac.nil _ _,fun _ h=>(by cases h),fun h=>(by cases h)⟩
 obtain⟨y0,hQ0,Wn⟩:=hel 0 hpos
 have h0:=Wn 0 _ (List.getElem?_eq_getElem (by rw[hlen];exact hk))
 rw[Nat.zero_mul]at h0
 obtain⟨b,off,hab⟩:=Zes h0
 have hab':a=⟨b,off,none⟩:=by
  obtain⟨ab,ao,asp⟩:=a
  simp[Addr.add]at hab
  obtain⟨rfl,rfl,rfl⟩:=hab
  rfl
 subst hab'
 have hfun:∃ f:Nat->α,∀ i,i<len->Q (f i)/\∀ j v,(en (f i))[j]?=some v->W.cell? ⟨b,off+i*k+j,none⟩=some v:=by
  refine⟨fun i=>if h:i<len then Classical.choose (hel i h)else y0,?_⟩
  intro i hil
  simp only[dif_pos hil]
  refine⟨(Classical.choose_spec (hel i hil)).1,fun j v hv=>?_⟩
  have:=(Classical.choose_spec (hel i hil)).2 j v hv
  rw[addr_lit,<-Nat.add_assoc]at this
  exact this
 obtain⟨f,hf⟩:=hfun
 refine⟨some ⟨b,off,none⟩,cap,(List.range len).map f,by simp,by simp;exact hl,?_,Or.inr ⟨b,off,rfl,?_⟩,?_,fun h=>(by cases h)⟩
 · simp
   exact Nat.le_trans (Nat.mul_le_mul_right B hl) hr
 · intro i x hx j v hv
   rw[List.getElem?_map]at hx
   obtain⟨q,hq,rfl⟩:=Option.map_eq_some_iff.1 hx
   obtain⟨hjl,hje⟩:=List.getElem?_eq_some_iff.1 hq
   simp at hjl hje
   subst hje
   exact(hf i hjl).2 j v hv
 · intro x hx
   obtain⟨i,Jk,rfl⟩:=List.mem_map.1 hx
   exact(hf i (List.mem_range.1 Jk)).1
theorem cells_fac:prog.cellsOf 198=2:=by kernel_rfl
theorem cells_unit:prog.cellsOf 33=1:=by kernel_rfl
theorem cells_ty:prog.cellsOf 35=3:=by kernel_rfl
theorem cells_fd:prog.cellsOf 113=4:=by kernel_rfl
theorem cells_fds:prog.cellsOf 30=1:=by kernel_rfl
theorem cells_tb:prog.cellsOf 32=4:=by kernel_rfl
theorem cells_ex:prog.cellsOf 42=12:=by kernel_rfl
theorem cells_exs:prog.cellsOf 40=1:=by kernel_rfl
theorem cells_win:prog.cellsOf 39=2:=by kernel_rfl
theorem cells_ft:prog.cellsOf 44=18:=by kernel_rfl
theorem cells_cg:prog.cellsOf 46=24:=by kernel_rfl
theorem cells_fact:prog.cellsOf 27=8:=by kernel_rfl
theorem cells_era:prog.cellsOf 29=5:=by kernel_rfl
theorem cells_en:prog.cellsOf 48=40:=by kernel_rfl
theorem bytes_fac:prog.bytesOf 198=24:=by kernel_rfl
theorem bytes_fd:prog.bytesOf 113=64:=by kernel_rfl
theorem bytes_ex:prog.bytesOf 42=160:=by kernel_rfl
theorem bytes_en:prog.bytesOf 48=528:=by kernel_rfl
theorem read_fac {W:World}(cs:List Value)(h:Read enc W 198 cs):∃ v:FID,cs=fidC v/\v.1.size<=140737488351232/\I64 v.2:=by
 have hl:=(ZaI underlying198 h).1
 rw[cells_fac]at hl
 obtain⟨s,e0,i0⟩:=Zay underlying9 (Zag underlying198 h 0 _ rfl 9 0 1 rfl rfl ZaR)
 obtain⟨b,e1,i1⟩:=ZaT underlying3 (Zag underlying198 h 1 _ rfl 3 1 1 rfl rfl ZaJ)
 refine⟨(s,b),?_,i0,i1⟩
 have:=Zap e0
 rw[ZaG e1 (by omega)]at this
 exact this
theorem read_unit {W:World}(cs:List Value)(h:Read enc W 33 cs):∃ (ua:Option Addr) (un uc:Nat),cs=[.slice ua un uc]/\ZaH W ua un:=by
 obtain⟨ao,cap,l,rfl,-,hb,hl,hQ,-⟩:=ZdR (Q:=fun v:FID=>v.1.size<=140737488351232/\I64 v.2) underlying33 cells_fac bytes_fac (by decide) (fun _=>rfl) read_fac h
 exact⟨ao,l.length,cap,rfl,l,rfl,by omega,fun f hf=>⟨Nat.le_trans (hQ f hf).1 (by decide),(hQ f hf).2⟩,hl⟩
theorem read_ty {W:World}(cs:List Value)(h:Read enc W 35 cs):∃ (k:Int) (ua:Option Addr) (un uc:Nat) (s:ByteArray),cs=[.int .i64 k,.slice ua un uc,.string s]/\ZaH W ua un:=by
 have hl:=(ZaI underlying35 h).1
 rw[cells_ty]at hl
 obtain⟨k,e0,i0⟩:=ZaT underlying3 (Zag underlying35 h 0 _ rfl 3 0 1 rfl rfl ZaJ)
 obtain⟨ua,un,uc,e1,hu⟩:=read_unit _ (Zag underlying35 h 1 _ rfl 33 1 1 rfl rfl cells_unit)
 obtain⟨s,e2,i2⟩:=Zay underlying9 (Zag underlying35 h 2 _ rfl 9 2 1 rfl rfl ZaR)
 refine⟨k,ua,un,uc,s,?_,hu⟩
 have:=Zap e0
 rw[Zap e1,ZaG e2 (by omega)]at this
 exact this
theorem read_fd {W:World}(cs:List Value)(h:Read enc W 113 cs):∃ f:Fd,cs=f.cells/\ZaH W f.ua f.un:=by
 have hl:=(ZaI underlying113 h).1
 rw[cells_fd]at hl
 obtain⟨m,e0,i0⟩:=Zay underlying9 (Zag underlying113 h 0 _ rfl 9 0 1 rfl rfl ZaR)
 obtain⟨k,ua,un,uc,s,e1,hu⟩:=read_ty _ (Zag underlying113 h 1 _ rfl 35 1 3 rfl rfl cells_ty)
 refine⟨⟨m,k,ua,un,uc,s⟩,?_,hu⟩
 have:=Zap e0
 rw[ZaG e1 (by omega)]at this
 exact this
theorem read_fds {W:World}(cs:List Value)(h:Read enc W 30 cs):∃ (a:Option Addr) (n c:Nat),cs=[.slice a n c]/\FdsAt W a n:=by
 obtain⟨ao,cap,l,rfl,-,hb,hl,hQ,-⟩:=ZdR (Q:=fun f:Fd=>ZaH W f.ua f.un) underlying30 cells_fd bytes_fd (by decide) (fun _=>rfl) read_fd h
 exact⟨ao,l.length,cap,rfl,l,rfl,by omega,hQ,hl⟩
theorem read_tb {W:World}(cs:List Value)(h:Read enc W 32 cs):∃ t:Tb,cs=t.cells/\t.m.size<=140737488351232/\t.e.size<=140737488351232/\FdsAt W t.fa t.fn:=by
 have hl:=(ZaI underlying32 h).1
 rw[cells_tb]at hl
 obtain⟨m,e0,i0⟩:=Zay underlying9 (Zag underlying32 h 0 _ rfl 9 0 1 rfl rfl ZaR)
 obtain⟨e,e1,i1⟩:=Zay underlying9 (Zag underlying32 h 1 _ rfl 9 1 1 rfl rfl ZaR)
 obtain⟨a,n,c,e2,hf⟩:=read_fds _ (Zag underlying32 h 2 _ rfl 30 2 1 rfl rfl cells_fds)
 obtain⟨p,e3,i3⟩:=ZaT underlying3 (Zag underlying32 h 3 _ rfl 3 3 1 rfl rfl ZaJ)
 refine⟨⟨m,e,a,n,c,p⟩,?_,i0,i1,hf⟩
 have:=Zap e0
 rw[Zap e1,Zap e2,ZaG e3 (by omega)]at this
 exact this
theorem read_win {W:World}(cs:List Value)(h:Read enc W 39 cs):∃ (k z:Int),cs=[.int .i64 k,.int .i64 z]:=by
 have hl:=(ZaI underlying39 h).1
 rw[cells_win]at hl
 obtain⟨k,e0,i0⟩:=ZaT underlying3 (Zag underlying39 h 0 _ rfl 3 0 1 rfl rfl ZaJ)
 obtain⟨z,e1,i1⟩:=ZaT underlying3 (Zag underlying39 h 1 _ rfl 3 1 1 rfl rfl ZaJ)
 refine⟨k,z,?_⟩
 have:=Zap e0
 rw[ZaG e1 (by omega)]at this
 exact this
theorem ExAt.succ {w:World}:∀ {n:Nat} {x:Ex},ExAt n w x->ExAt (n+1) w x
 |0,_,h=>h.elim
 |n+1,x,⟨h1,h2,xs,h3,h4,h5,h6⟩=>⟨h1,h2,xs,h3,h4,h5,fun y hy=>(h6 y hy).succ⟩
theorem read_ex {W:World}:∀ (n:Nat) (cs:List Value),ReadF enc W n 42 cs->∃ x:Ex,cs=x.cells/\ExAt n W x:=by
 intro n
 induction n using Nat.strongRecOn with
 |ind n ih =>
 intro cs h
 have hl:=(ZaI underlying42 h.read).1
 rw[cells_ex]at hl
 have h':=h.read
 obtain⟨k,e0,-⟩:=ZaT underlying3 (Zag underlying42 h' 0 _ rfl 3 0 1 rfl rfl ZaJ)
 obtain⟨op,e1,-⟩:=Zay underlying9 (Zag underlying42 h' 1 _ rfl 9 1 1 rfl rfl ZaR)
 obtain⟨nm,e2,-⟩:=Zay underlying9 (Zag underlying42 h' 2 _ rfl 9 2 1 rfl rfl ZaR)
 obtain⟨tb,e3,-⟩:=Zay underlying9 (Zag underlying42 h' 3 _ rfl 9 3 1 rfl rfl ZaR)
 obtain⟨v,e4,i4⟩:=read_val _ (Zag underlying42 h' 4 _ rfl 37 4 3 rfl rfl Zfi)
 obtain⟨ua,un,uc,e5,hu⟩:=read_unit _ (Zag underlying42 h' 5 _ rfl 33 7 1 rfl rfl cells_unit)
 obtain⟨p,e6,-⟩:=ZaT underlying3 (Zag underlying42 h' 6 _ rfl 3 8 1 rfl rfl ZaJ)
 obtain⟨wk,wz,e7⟩:=read_win _ (Zag underlying42 h' 7 _ rfl 39 9 2 rfl rfl cells_win)
 obtain⟨m,rfl,h8⟩:=readF_field underlying42 h 8 _ rfl 40 11 1 rfl rfl cells_exs
 obtain⟨xa,xc,xs,e8,-,hb,hlx,hQ,-⟩:=readF_list (Q:=fun x:Ex=>ExAt m W x) underlying40 cells_ex bytes_ex (by decide) (fun _=>rfl) (fun q cs hq h=>by
  obtain⟨x,rfl,hx⟩:=ih q (by omega) cs h
  subst hq
  exact⟨x,rfl,hx.succ⟩) h8
 refine⟨⟨k,op,nm,tb,v.1,v.2.1,v.2.2,ua,un,uc,p,wk,wz,xa,xs.length,xc⟩,?_,hu,Nat.le_trans i4.1 (by decide),xs,rfl,by omega,hlx,hQ⟩
 have:=Zap e0
 rw[Zap e1,Zap e2,Zap e3,Zap e4,Zap e5,Zap e6,Zap e7,ZaG e8 (by omega)]at this
 exact this
theorem read_exx {W:World}(cs:List Value)(h:Read enc W 42 cs):∃ x:Ex,cs=x.cells/\∃ n,ExAt n W x:=by
 obtain⟨n,y,h1,h2⟩:=h
 obtain⟨x,rfl,hx⟩:=read_ex n cs ⟨y,h1,h2⟩
 exact⟨x,rfl,n,hx⟩
theorem read_ft {W:World}(cs:List Value)(h:Read enc W 44 cs):∃ f:Ft,cs=f.cells/\ZaH W f.tua f.tun/\∃ n,ExAt n W f.b:=by
 have hl:=(ZaI underlying44 h).1
 rw[cells_ft]at hl
 obtain⟨m,e0,i0⟩:=Zay underlying9 (Zag underlying44 h 0 _ rfl 9 0 1 rfl rfl ZaR)
 obtain⟨e,e1,i1⟩:=Zay underlying9 (Zag underlying44 h 1 _ rfl 9 1 1 rfl rfl ZaR)
 obtain⟨k,ua,un,uc,s,e2,hu⟩:=read_ty _ (Zag underlying44 h 2 _ rfl 35 2 3 rfl rfl cells_ty)
 obtain⟨x,e3,hx⟩:=read_exx _ (Zag underlying44 h 3 _ rfl 42 5 12 rfl rfl cells_ex)
 obtain⟨r,e4,i4⟩:=ZaT underlying3 (Zag underlying44 h 4 _ rfl 3 17 1 rfl rfl ZaJ)
 refine⟨⟨m,e,k,ua,un,uc,s,x,r⟩,?_,hu,hx⟩
 have:=Zap e0
 rw[Zap e1,Zap e2,Zap e3,ZaG e4 (by omega)]at this
 exact this
theorem read_cg {W:World}(cs:List Value)(h:Read enc W 46 cs):∃ x:Cg,cs=x.cells/\I64 x.k/\x.t.m.size<=140737488351232/\x.t.e.size<=140737488351232/\FdsAt W x.t.fa x.t.fn/\ZaH W x.f.tua x.f.tun/\∃ n,ExAt n W x.f.b:=by
 have hl:=(ZaI underlying46 h).1
 rw[cells_cg]at hl
 obtain⟨k,e0,i0⟩:=ZaT underlying3 (Zag underlying46 h 0 _ rfl 3 0 1 rfl rfl ZaJ)
 obtain⟨t,e1,i1,i2,ht⟩:=read_tb _ (Zag underlying46 h 1 _ rfl 32 1 4 rfl rfl cells_tb)
 obtain⟨f,e2,hu,hx⟩:=read_ft _ (Zag underlying46 h 2 _ rfl 44 5 18 rfl rfl cells_ft)
 obtain⟨m,e3,i3⟩:=Zay underlying9 (Zag underlying46 h 3 _ rfl 9 23 1 rfl rfl ZaR)
 refine⟨⟨k,t,f,m⟩,?_,i0,i1,i2,ht,hu,hx⟩
 have:=Zap e0
 rw[Zap e1,Zap e2,ZaG e3 (by omega)]at this
 exact this
def oi9 (a0 a1 a2 a3 a4 a5 a6 a7 a8:Int):Fin 9->Int:=fun i=>match i.val with|0=>a0|1=>a1|2=>a2|3=>a3|4=>a4|5=>a5|6=>a6|7=>a7|_=>a8
def os8 (a0 a1 a2 a3 a4 a5 a6 a7:ByteArray):Fin 8->ByteArray:=fun i=>match i.val with|0=>a0|1=>a1|2=>a2|3=>a3|4=>a4|5=>a5|6=>a6|_=>a7
def ol4 (a0 a1 a2 a3:Option Addr × Nat × Nat):Fin 4->Option Addr × Nat × Nat:=fun i=>match i.val with|0=>a0|1=>a1|2=>a2|_=>a3
theorem read_fact {W:World}(cs:List Value)(h:Read enc W 27 cs):∃ (id:FID) (k r:Int) (tb ky:ByteArray) (ev:Int) (fa:Option Addr) (fc:Nat) (vs:List Val),cs=[.string id.1,.int .i64 id.2,.int .i64 k,.int .i64 r,.string tb,.string ky,.int .i64 ev,.slice fa vs.length fc]/\FidSeen id/\I64 k/\I64 r/\tb.size<=140737488351232/\ky.size<=140737488351232/\I64 ev/\vs.length<=140737488351232/\Zac valC 3 W fa vs/\∀ v∈vs,v.Seen:=by
 have hl:=(ZaI underlying27 h).1
 rw[cells_fact]at hl
 obtain⟨id,e0,i0⟩:=read_fid _ (Zag underlying27 h 0 _ rfl 24 0 2 rfl rfl Zfj)
 obtain⟨k,e1,i1⟩:=ZaT underlying3 (Zag underlying27 h 1 _ rfl 3 2 1 rfl rfl ZaJ)
 obtain⟨r,e2,i2⟩:=ZaT underlying3 (Zag underlying27 h 2 _ rfl 3 3 1 rfl rfl ZaJ)
 obtain⟨tb,e3,i3⟩:=Zay underlying9 (Zag underlying27 h 3 _ rfl 9 4 1 rfl rfl ZaR)
 obtain⟨ky,e4,i4⟩:=Zay underlying9 (Zag underlying27 h 4 _ rfl 9 5 1 rfl rfl ZaR)
 obtain⟨ev,e5,i5⟩:=ZaT underlying3 (Zag underlying27 h 5 _ rfl 3 6 1 rfl rfl ZaJ)
 obtain⟨fa,fc,vs,e6,j1,j2,j3⟩:=read_vals _ (Zag underlying27 h 6 _ rfl 25 7 1 rfl rfl cells_vals)
 refine⟨id,k,r,tb,ky,ev,fa,fc,vs,?_,i0,i1,i2,i3,i4,i5,j1,j2,j3⟩
 have:=Zap e0
 rw[Zap e1,Zap e2,Zap e3,Zap e4,Zap e5,ZaG e6 (by omega)]at this
 exact this
theorem read_era {W:World}(cs:List Value)(h:Read enc W 29 cs):∃ (k:Int) (a b:ByteArray) (id:FID),cs=[.int .i64 k,.string a,.string b,.string id.1,.int .i64 id.2]/\I64 k/\a.size<=140737488351232/\b.size<=140737488351232/\FidSeen id:=by
 have hl:=(ZaI underlying29 h).1
 rw[cells_era]at hl
 obtain⟨k,e0,i0⟩:=ZaT underlying3 (Zag underlying29 h 0 _ rfl 3 0 1 rfl rfl ZaJ)
 obtain⟨a,e1,i1⟩:=Zay underlying9 (Zag underlying29 h 1 _ rfl 9 1 1 rfl rfl ZaR)
 obtain⟨b,e2,i2⟩:=Zay underlying9 (Zag underlying29 h 2 _ rfl 9 2 1 rfl rfl ZaR)
 obtain⟨id,e3,i3⟩:=read_fid _ (Zag underlying29 h 3 _ rfl 24 3 2 rfl rfl Zfj)
 refine⟨k,a,b,id,?_,i0,i1,i2,i3⟩
 have:=Zap e0
 rw[Zap e1,Zap e2,ZaG e3 (by omega)]at this
 exact this
theorem read_en {W:World}(cs:List Value)(h:Read enc W 48 cs):∃ e:En,cs=e.cells/\e.Seen W:=by
 have hl:=(ZaI underlying48 h).1
 rw[cells_en]at hl
 obtain⟨no,e0,i0⟩:=ZaT underlying3 (Zag underlying48 h 0 _ rfl 3 0 1 rfl rfl ZaJ)
 obtain⟨tk,e1,i1⟩:=ZaT underlying3 (Zag underlying48 h 1 _ rfl 3 1 1 rfl rfl ZaJ)
 obtain⟨kd,e2,i2⟩:=ZaT underlying3 (Zag underlying48 h 2 _ rfl 3 2 1 rfl rfl ZaJ)
 obtain⟨id,fk,rf,tb,ky,ev,fa,fc,vs,e3,f1,f2,f3,f4,f5,f6,f7,f8,f9⟩:=read_fact _ (Zag underlying48 h 3 _ rfl 27 3 8 rfl rfl cells_fact)
 obtain⟨ek,ea,eb,eid,e4,g1,g2,g3,g4⟩:=read_era _ (Zag underlying48 h 4 _ rfl 29 11 5 rfl rfl cells_era)
 obtain⟨x,e5,c1,c2,c3,c4,c5,c6⟩:=read_cg _ (Zag underlying48 h 5 _ rfl 46 16 24 rfl rfl cells_cg)
 refine⟨⟨no,tk,kd,id.1,id.2,fk,rf,tb,ky,ev,fa,fc,vs,ek,ea,eb,eid.1,eid.2,x.k,x.t.m,x.t.e,oi9 x.t.p x.f.tk x.f.b.k x.f.b.vk x.f.b.vn x.f.b.p x.f.b.wk x.f.b.wz x.f.r,os8 x.f.m x.f.e x.f.tof x.f.b.o x.f.b.m x.f.b.t x.f.b.vs x.m,ol4 (x.t.fa,x.t.fn,x.t.fc) (x.f.tua,x.f.tun,x.f.tuc) (x.f.b.ua,x.f.b.un,x.f.b.uc) (x.f.b.xa,x.f.b.xn,x.f.b.xc)⟩,?_,
  f8,by(show vs.length<=_;omega),fun v hv=>⟨Nat.le_trans (f9 v hv).1 (by decide),(f9 v hv).2⟩,⟨Nat.le_trans f1.1 (by decide),Nat.le_trans f4 (by decide),Nat.le_trans f5 (by decide),Nat.le_trans g2 (by decide),Nat.le_trans g3 (by decide),Nat.le_trans g4.1 (by decide),Nat.le_trans c2 (by decide),Nat.le_trans c3 (by decide)⟩,⟨i0,i1,i2,f1.2,f2,f3,f6,g1,g4.2,c1⟩,c4,c5,c6⟩
 have:=Zap e0
 rw[Zap e1,Zap e2,Zap e3,Zap e4,ZaG e5 (by omega)]at this
 exact this
theorem open_en {W:World}{b0:Nat}{v:Value}{d:DataW H}{p:List MemPlace}(hv:Value.okWide prog W .any b0 48 v)(h:DataW.Trod enc prog W 0 (fun _=>true) true 48 v d p)
 (hz:∀ n∈d.weights prog 48,n<=reachBytes):∃ e:En,v.cells.toList=e.cells/\e.Seen W:=by
 obtain⟨fuel,hf⟩:=h
 obtain⟨e,he,hs⟩:=read_en _ ⟨fuel,(d,p),hf,hz⟩
 exact⟨e,he,hs⟩
end
section
variable {H:Type} {enc:TypeId × Value->H}
theorem open_ensC {W:World}{b0:Nat}{v:Value}{d:DataW H}{p:List MemPlace}(hv:Value.okWide prog W .any b0 22 v)(h:DataW.Trod enc prog W 0 (fun _=>true) true 22 v d p)
 (hz:∀ n∈d.weights prog 22,n<=reachBytes) :
 ∃ (ao:Option Addr) (cap:Nat) (l:List En),v=.slice ao l.length cap/\l.length*528<=140737488351232/\Zac En.cells 40 W ao l/\(∀ d∈l,d.Seen W)/\l.length<=cap/\∀ a,ao=some a->a.spot=none:=by
 obtain⟨h1,h2⟩:=read_arg underlying22 hv h hz
 obtain⟨ao,cap,l,e,hlc,hb,hl,hQ,-⟩:=ZdR (Q:=fun d:En=>d.Seen W) underlying22 cells_en bytes_en (by decide) (fun _=>rfl) read_en h1
 injection e with e
 subst e
 exact⟨ao,cap,l,rfl,hb,hl,hQ,hlc,fun a ha=>h2 a _ _ (by rw[ha])⟩
theorem open_enV {W:World}{b0:Nat}{v:Value}{d:DataW H}{p:List MemPlace}(hv:Value.okWide prog W .any b0 48 v)(h:DataW.Trod enc prog W 0 (fun _=>true) true 48 v d p)
 (hz:∀ n∈d.weights prog 48,n<=reachBytes):∃ e:En,v=.agg e.cells.toArray/\e.Seen W:=by
 obtain⟨e,he,hs⟩:=open_en hv h hz
 refine⟨e,?_,hs⟩
 have hlen:v.cells.size=40:=by rw[<-Array.length_toList,he];rfl
 cases v
 case agg cs =>
  have he':cs.toList=e.cells:=he
  rw[<-he']
 all_goals exact absurd (show 1=40 from hlen) (by decide)
end
end Go.Proofs.YtfnpfkgmacaboaaGreat
