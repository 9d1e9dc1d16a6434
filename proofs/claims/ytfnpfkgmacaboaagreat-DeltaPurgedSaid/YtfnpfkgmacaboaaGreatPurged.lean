/-
  Proves that asoflaw20.DeltaPurged returns true for every input and leaves its arguments as they were: the purged log of a valid log has the same differences, none of an erased base, and taking more bases away takes just their rows. No condition.
-/
import Derived.Test.YtfnpfkgmacaboaaGreatLA3
import Derived.Test.YtfnpfkgmacaboaaGreatM45
import Derived.Test.YtfnpfkgmacaboaaGreatM43
namespace Go.Proofs.YtfnpfkgmacaboaaGreat
open Go.ChangeShapes Go.WideShapes Go.ChangeAt Go.RowKit Go.Joins Go.Deep
open Go.ChangeMaps (open_string)
set_option maxRecDepth 100000 in
theorem deltaPurged_lifted (os:Os)(started:os.Started)(H:Type)(enc:TypeId × Value->H) :
 ReturnsInHanded {} Tryz.checked os 7 .any (Rows.deltaPurgedSpec.pre6 enc Tryz.prog Tryz.f7 Rows.deltaPurgedRow.domain false) (Rows.deltaPurgedSpec.post enc Tryz.prog Tryz.f7 false true false false):=by
 refine returnsInHanded_of_change_sized (C:=Tryz.checked) own started (by kernel_rfl) Tryz.func7
  (ChangeSpec.witness6 (enc:=enc) (C:=Tryz.checked) false ⟨#[],#[.slice none 0 0,.slice none 0 0,.int .i64 0],[]⟩ 8 (by kernel_rfl) (by kernel_rfl) (by kernel_rfl) (by kernel_rfl)) ?_
 intro W base args ds gs before hval0 hW hcnd hsz0 _
 have hval:∀ (j:Nat) t v,Tryz.f7.params[j]?=some t->args[j]?=some v->Value.okWide Tryz.prog W .any base t v:=hval0
 have hsz:(DataW.weightsEach Tryz.prog (Tryz.f7.params.toList++Rows.deltaPurgedSpec.plain.varTypes Tryz.prog) (ds++gs)).all (·<=reachBytes)=true:=hsz0
 have hW':=hW
 obtain⟨p,q,hA0,hV,rfl,hfz,hnd⟩:=hW
 have hA:DataW.TrodAll enc Tryz.prog W 0 (fun _=>true) true Tryz.f7.params.toList args.toList ds p:=hA0
 have hA1:=hA
 rw[Tryz.params7]at hA hval hsz
 obtain⟨v0,vs0,d0,ds0,p0,q0,hargs,rfl,rfl,h0,r0⟩:=trodAll_cons hA
 obtain⟨v1,vs1,d1,ds1,p1,q1,rfl,rfl,rfl,h1,r1⟩:=trodAll_cons r0
 obtain⟨v2,vs2,d2,ds2,p2,q2,rfl,rfl,rfl,h2,r2⟩:=trodAll_cons r1
 obtain⟨rfl,rfl,rfl⟩:=trodAll_nil r2
 obtain rfl:args=#[v0,v1,v2]:=by cases args;simp_all
 obtain⟨rfl,rfl⟩:=trodVars_none hV
 have hmem:=fun(j:Nat) (t:TypeId) (d:DataW H) (h1:_) (h2:_) (m:Nat) (hm:m∈d.weights Tryz.prog t)=>of_decide_eq_true (List.all_eq_true.1 hsz m (DataW.weights_mem_each (j:=j) (t:=t) (d:=d) h1 h2 m hm))
 obtain⟨ao0,cap0,l0,rfl,hb0,hl0,hs0,hn0,hp0⟩:=open_ens (hval 0 22 v0 rfl rfl) h0 (hmem 0 22 d0 rfl rfl)
 obtain⟨ao1,cap1,l1,rfl,hb1,hl1,hs1⟩:=open_fids (hval 1 64 v1 rfl rfl) h1 (hmem 1 64 d1 rfl rfl)
 obtain⟨a2,rfl,rfl,rfl,w2⟩:=open_int Tryz.underlying3 (hval 2 3 v2 rfl rfl) h2
 clear hA0 hval0 hmem
 simp only[List.append_nil]at hW'
 refine(lpurged_any l0 ao0 cap0 l1 ao1 cap1 a2 hb0 hb1 W hl0 hs0 hl1).mono fun e W' ⟨he,hg⟩=>?_
 subst he
 refine⟨_,rfl,post_kept (pa:=(p0++(p1++(([]:List MemPlace)++([]:List MemPlace))))) (pv:=[]) hW' (fun _ _ _=>(trodAll_cons_mk (shut_bool Tryz.underlying4 _) trodAll_mk0)) ?_ rfl (by simp) hg⟩
 exact ZcZ laidOut hg (by kernel_rfl) hA1 (fun x hx=>hW'.lt x (by simpa using hx))
theorem deltaPurged_over:Rows.deltaPurgedRow.holds Tryz.pinned (OpenSpec.ofChange Rows.deltaPurgedSpec) :=
 OpenClaim.holds_of_wide 7 Tryz.f7 rfl rfl rfl rfl rfl rfl rfl ⟨rfl,rfl,rfl,rfl,rfl⟩ rfl rfl rfl rfl rfl (by kernel_rfl) Tryz.func7 (by kernel_rfl)
  (of_decide_eq_true (by kernel_rfl)) (by unfold Func.isWrapper;first|(rw[if_pos (by decide +kernel)];kernel_rfl)|(rw[if_neg (by decide +kernel)];exact⟨rfl,rfl⟩))
  (fun os started H enc _=>deltaPurged_lifted os started H enc)
/-- THE STATEMENT. -/
theorem deltaPurged_holds:Rows.DeltaPurgedSaid:=deltaPurged_over
#print axioms deltaPurged_holds
end Go.Proofs.YtfnpfkgmacaboaaGreat
