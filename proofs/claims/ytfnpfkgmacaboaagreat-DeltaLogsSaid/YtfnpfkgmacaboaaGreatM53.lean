/- Texts joined by a program. -/
import Derived.Deep.Slices
import Derived.SizedLaws
import Derived.Test.YtfnpfkgmacaboaaGreatM48
import Derived.Test.YtfnpfkgmacaboaaGreatM52
namespace Go.Proofs.YtfnpfkgmacaboaaGreat
open Go.Proofs.Tryz
open Go.ChangeShapes Go.WideShapes Go.ChangeAt Go.RowKit Go.Joins Go.Deep
set_option linter.unusedVariables false
set_option linter.unusedSimpArgs false
theorem own:ownKnob prog.godebug=none:=by kernel_rfl
set_option maxRecDepth 100000
theorem addr_lit (b off n:Nat):(⟨b,off,none⟩:Addr).add n=⟨b,off+n,none⟩:=by simp[Addr.add]
theorem Zes {w:World}{a:Addr}{v:Value}(h:w.cell? a=some v):∃ b off,a=⟨b,off,none⟩:=by
 obtain⟨b,off,s⟩:=a
 cases s with
 |none=>exact⟨b,off,rfl⟩
 |some x =>
  simp only[World.cell?]at h
  split at h<;>cases h
theorem okWide_spot {W:World}{b0:Nat}{t e:TypeId}{v:Value}(ht:prog.underlying t=some (.slice e))(hv:Value.okWide prog W .any b0 t v) :
 ∃ ao len cap,v=.slice ao len cap/\∀ a,ao=some a->a.spot=none:=by
 simp only[Value.okWide,ht,Cell.okWide]at hv
 cases v<;>simp_all [Cell.ok]
 rename_i ao len cap
 rintro a rfl
 simp_all [World.has]
section
variable {H:Type} {enc:TypeId × Value->H}
theorem Zch {P:Program}{e:TypeId}:∀ {l:List (DataW H)} {d:DataW H},d∈l->∀ n∈d.weights P e,n∈DataW.weightsAll P e l
 |[],_,h,_,_=>by cases h
 |x :: l,d,h,n,hn=>by
  rw[DataW.weightsAll,List.mem_append]
  rcases List.mem_cons.1 h with h|h
  · subst h;exact Or.inl hn
  · exact Or.inr (Zch h n hn)
abbrev Read (enc:TypeId × Value->H)(W:World)(t:TypeId)(cs:List Value):Prop :=
 ∃ (n:Nat) (y:DataW H × List MemPlace),DataW.trod enc prog W 0 (fun _=>true) true n t cs=some y/\∀ m∈y.1.weights prog t,m<=reachBytes
theorem ZaT {W:World}{t:TypeId}{cs:List Value}(ht:prog.underlying t=some (.int .i64))(h:Read enc W t cs):∃ n,cs=[.int .i64 n]/\I64 n:=by
 obtain⟨m,y,h,-⟩:=h
 obtain⟨n,rfl,-,hw⟩:=DataW.trod_int ht h
 have:=bounds_i64 hw
 exact⟨n,rfl,by unfold I64;omega⟩
theorem Zay {W:World}{t:TypeId}{cs:List Value}(ht:prog.underlying t=some .string)(h:Read enc W t cs):∃ s:ByteArray,cs=[.string s]/\s.size<=140737488351232:=by
 obtain⟨m,y,h,hz⟩:=h
 obtain⟨s,rfl,rfl,-⟩:=DataW.trod_string ht h
 refine⟨s,rfl,?_⟩
 have:=hz s.data.toList.length (by rw[DataW.weights];exact List.mem_singleton.2 rfl)
 simp only[reachBytes]at this
 have e:s.data.toList.length=s.size:=by rw[Array.length_toList];rfl
 omega
theorem ZaI {W:World}{t:TypeId}{fs:Array Field}{cs:List Value}(ht:prog.underlying t=some (.struct fs))(h:Read enc W t cs) :
 cs.length=prog.cellsOf t/\∀ (i:Nat) (f:Field),fs[i]?=some f->Read enc W f.type ((cs.drop f.offset).take (prog.cellsOf f.type)):=by
 obtain⟨m,y,h,hz⟩:=h
 obtain⟨xs,n,-,rfl,hl,hlen,hf⟩:=DataW.trod_struct ht h
 refine⟨hl,fun i f hi=>?_⟩
 have hif:=(Array.getElem?_eq_some_iff.1 hi).1
 have hix:xs[i]?=some (xs[i]'(by omega)):=List.getElem?_eq_getElem _
 refine⟨n,xs[i]'(by omega),by rw[hf i f hi,hix],fun k hk=>hz k ?_⟩
 simp only[DataW.weights,ht]
 exact DataW.weights_mem_each (j:=i) (t:=f.type) (d:=(xs[i]'(by omega)).1) (by simp[hi]) (by rw[List.getElem?_map,hix];rfl) k hk
theorem Zag {W:World}{t:TypeId}{fs:Array Field}{cs:List Value}(ht:prog.underlying t=some (.struct fs))(h:Read enc W t cs)(i:Nat)(f:Field)(hi:fs[i]?=some f)(ty o k:Nat)(h1:f.type=ty)(h2:f.offset=o)
 (h3:prog.cellsOf ty=k):Read enc W ty ((cs.drop o).take k):=by
 subst h1 h2 h3
 exact(ZaI ht h).2 i f hi
theorem Zap {cs p:List Value}{o k:Nat}(h:(cs.drop o).take k=p):cs.drop o=p++cs.drop (o+k):=by
 rw[<-h,<-List.drop_drop]
 exact(List.take_append_drop k (cs.drop o)).symm
theorem ZaG {cs p:List Value}{o k:Nat}(h:(cs.drop o).take k=p)(hl:cs.length<=o+k):cs.drop o=p:=by
 rw[Zap h,List.drop_eq_nil_of_le hl,List.append_nil]
theorem ZdR {α:Type}{T E:TypeId}{k B:Nat}{en:α->List Value}{Q:α->Prop}{W:World}(hT:prog.underlying T=some (.slice E))(hC:prog.cellsOf E=k)(hB:prog.bytesOf E=B)(hk:0<k)(hlen:∀ x,(en x).length=k)
 (hO:∀ cs,Read enc W E cs->∃ a:α,cs=en a/\Q a) {cs:List Value} (h:Read enc W T cs) :
 ∃ (ao:Option Addr) (cap:Nat) (l:List α),cs=[.slice ao l.length cap]/\l.length<=cap/\l.length*B<=140737488351232/\Zac en k W ao l/\(∀ a∈l,Q a)/\(ao=none->cap=0):=by
 obtain⟨fuel,x,h,hz⟩:=h
 rcases open_slice hT h with⟨rfl,hx⟩|⟨a,len,cap,m,n,D,Pl,rfl,-,hl,hm,hmm,rfl,hi⟩
 · exact⟨none,0,[],rfl,Nat.le_refl _,by simp,Zac.nil _ _,fun _ h=>(by cases h),fun _=>rfl⟩
 simp only[if_true]at hmm
 subst hmm
 have hr:m*B<=140737488351232:=by
  have:=hz ((len+(m - len))*B) (by simp[DataW.weights,hT,hB])
  simp only[reachBytes]at this
  rw[show len+(m - len)=m by omega]at this
  exact this
 have hel:∀ i,i<len->∃ y:α,Q y/\∀ j v,(en y)[j]?=some v->W.cell? (a.add (i*k+j))=some v:=by
  intro i hil
  obtain⟨cs',hc,ht⟩:=hi i (by omega)
  rw[hC]at hc
  obtain⟨_,hcl,hat⟩:=World.cells?_some hc
  obtain⟨y,rfl,hQ⟩:=hO cs' ⟨n,_,ht,fun q hq=>hz q (by
   simp only[DataW.weights,hT]
   refine List.mem_cons_of_mem _ (List.mem_append_left _ (Zch (d:=D i) (List.mem_map.2 ⟨i,List.mem_range.2 hil,rfl⟩) q hq)))⟩
  refine⟨y,hQ,fun j v hv=>?_⟩
  have hj:=(List.getElem?_eq_some_iff.1 hv).1
  have:=hat j (by rw[hlen]at hj;exact hj)
  rw[Go.Deep.add_add]at this
  rw[this,hv]
 rcases Nat.eq_zero_or_pos len with Xc|hpos
 · subst Xc
   exact⟨some a,m,[],rfl,by simp,by simp,Zac.nil _ _,fun _ h=>(by cases h),fun h=>(by cases h)⟩
 obtain⟨y0,hQ0,Wn⟩:=hel 0 hpos
 have h0:=Wn 0 _ (List.getElem?_eq_getElem (by rw[hlen];exact hk))
 rw[Nat.zero_mul]at h0
 obtain⟨b,off,hab⟩:=Zes h0
 have hab':a=⟨b,off,none⟩:=by
  obtain⟨ab,ao,asp⟩:=a
  simp[Addr.add]at hab
  obtain⟨rfl,rfl,rfl⟩:=hab
  rfl
 subst hab'
 have hfun:∃ f:Nat->α,∀ i,i<len->Q (f i)/\∀ j v,(en (f i))[j]?=some v->W.cell? ⟨b,off+i*k+j,none⟩=some v:=by
  refine⟨fun i=>if h:i<len then Classical.choose (hel i h)else y0,?_⟩
  intro i hil
  simp only[dif_pos hil]
  refine⟨(Classical.choose_spec (hel i hil)).1,fun j v hv=>?_⟩
  have:=(Classical.choose_spec (hel i hil)).2 j v hv
  rw[addr_lit,<-Nat.add_assoc]at this
  exact this
 obtain⟨f,hf⟩:=hfun
 refine⟨some ⟨b,off,none⟩,m,(List.range len).map f,by simp,by simp;exact hl,?_,Or.inr ⟨b,off,rfl,?_⟩,?_,fun h=>(by cases h)⟩
 · simp
   exact Nat.le_trans (Nat.mul_le_mul_right B hl) hr
 · intro i x hx j v hv
   rw[List.getElem?_map]at hx
   obtain⟨q,hq,rfl⟩:=Option.map_eq_some_iff.1 hx
   obtain⟨hjl,hje⟩:=List.getElem?_eq_some_iff.1 hq
   simp at hjl hje
   subst hje
   exact(hf i hjl).2 j v hv
 · intro x hx
   obtain⟨i,Jk,rfl⟩:=List.mem_map.1 hx
   exact(hf i (List.mem_range.1 Jk)).1
theorem Zfi:prog.cellsOf 37=3:=by kernel_rfl
theorem Zfj:prog.cellsOf 24=2:=by kernel_rfl
theorem ZaJ:prog.cellsOf 3=1:=by kernel_rfl
theorem ZaR:prog.cellsOf 9=1:=by kernel_rfl
theorem cells_vals:prog.cellsOf 25=1:=by kernel_rfl
theorem bytes_val:prog.bytesOf 37=32:=by kernel_rfl
def Val.Seen (v:Val):Prop:=v.2.2.size<=140737488351232/\I64 v.1/\I64 v.2.1
theorem read_val {W:World}(cs:List Value)(h:Read enc W 37 cs):∃ v:Val,cs=valC v/\v.Seen:=by
 have hl:=(ZaI underlying37 h).1
 rw[Zfi]at hl
 obtain⟨a,e0,i0⟩:=ZaT underlying3 (Zag underlying37 h 0 _ rfl 3 0 1 rfl rfl ZaJ)
 obtain⟨b,e1,i1⟩:=ZaT underlying3 (Zag underlying37 h 1 _ rfl 3 1 1 rfl rfl ZaJ)
 obtain⟨s,e2,i2⟩:=Zay underlying9 (Zag underlying37 h 2 _ rfl 9 2 1 rfl rfl ZaR)
 refine⟨(a,b,s),?_,i2,i0,i1⟩
 have:=Zap e0
 rw[Zap e1,ZaG e2 (by omega)]at this
 exact this
def FidSeen (x:FID):Prop:=x.1.size<=140737488351232/\I64 x.2
theorem read_fid {W:World}(cs:List Value)(h:Read enc W 24 cs):∃ v:FID,cs=fidC v/\FidSeen v:=by
 have hl:=(ZaI underlying24 h).1
 rw[Zfj]at hl
 obtain⟨s,e0,i0⟩:=Zay underlying9 (Zag underlying24 h 0 _ rfl 9 0 1 rfl rfl ZaR)
 obtain⟨b,e1,i1⟩:=ZaT underlying3 (Zag underlying24 h 1 _ rfl 3 1 1 rfl rfl ZaJ)
 refine⟨(s,b),?_,i0,i1⟩
 have:=Zap e0
 rw[ZaG e1 (by omega)]at this
 exact this
theorem read_vals {W:World}(cs:List Value)(h:Read enc W 25 cs):∃ (ao:Option Addr) (cap:Nat) (l:List Val),cs=[.slice ao l.length cap]/\l.length<=140737488351232/\Zac valC 3 W ao l/\∀ v∈l,v.Seen:=by
 obtain⟨ao,cap,l,rfl,-,hb,hl,hQ,-⟩:=ZdR (Q:=Val.Seen) underlying25 Zfi bytes_val (by decide) (fun _=>rfl) read_val h
 exact⟨ao,cap,l,rfl,by omega,hl,hQ⟩
theorem read_arg {W:World}{T E:TypeId}{b0:Nat}{v:Value}{d:DataW H}{p:List MemPlace}(hT:prog.underlying T=some (.slice E))(hv:Value.okWide prog W .any b0 T v)(h:DataW.Trod enc prog W 0 (fun _=>true) true T v d p)
 (hz:∀ n∈d.weights prog T,n<=reachBytes):Read enc W T [v]/\∀ a n c,v=.slice (some a) n c->a.spot=none:=by
 obtain⟨ao,len,cap,rfl,hs⟩:=okWide_spot hT hv
 obtain⟨fuel,hf⟩:=h
 refine⟨⟨fuel,(d,p),by simpa [Value.cells]using hf,hz⟩,?_⟩
 intro a n c e
 injection e with e1
 exact hs a e1
end
end Go.Proofs.YtfnpfkgmacaboaaGreat
