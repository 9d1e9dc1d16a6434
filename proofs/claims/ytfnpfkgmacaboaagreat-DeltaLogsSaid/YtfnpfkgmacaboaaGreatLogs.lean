/-
  DeltaLogs: for all logs and entries that are tested valid, From and Next agree with the reference; no condition.
-/
import Derived.Test.YtfnpfkgmacaboaaGreatM51
import Derived.Test.YtfnpfkgmacaboaaGreatM54
namespace Go.Proofs.YtfnpfkgmacaboaaGreat
open Go.Proofs.Tryz
open Go.ChangeShapes Go.WideShapes Go.ChangeAt Go.RowKit Go.Joins Go.Deep
open Go.ChangeMaps (open_string)
set_option maxRecDepth 100000 in
theorem Zez (os:Os)(started:os.Started)(H:Type)(enc:TypeId × Value->H) :
 ReturnsInHanded {} Tryz.checked os 3 .any (Rows.deltaLogsSpec.pre6 enc prog Tryz.f3 Rows.deltaLogsRow.domain false) (Rows.deltaLogsSpec.post enc prog Tryz.f3 false true false false):=by
 refine returnsInHanded_of_change_sized (C:=Tryz.checked) own started (by kernel_rfl) func3
  (ChangeSpec.witness6 (enc:=enc) (C:=Tryz.checked) false ⟨#[],#[.slice none 0 0,.agg #[.int .i64 0,.int .i64 0,.int .i64 0,.string ⟨#[]⟩,.int .i64 0,.int .i64 0,.int .i64 0,.string ⟨#[]⟩,.string ⟨#[]⟩,.int .i64 0,.slice none 0 0,.int .i64 0,.string ⟨#[]⟩,.string ⟨#[]⟩,.string ⟨#[]⟩,.int .i64 0,.int .i64 0,.string ⟨#[]⟩,.string ⟨#[]⟩,.slice none 0 0,.int .i64 0,.string ⟨#[]⟩,.string ⟨#[]⟩,.int .i64 0,.slice none 0 0,.string ⟨#[]⟩,.int .i64 0,.string ⟨#[]⟩,.string ⟨#[]⟩,.string ⟨#[]⟩,.int .i64 0,.int .i64 0,.string ⟨#[]⟩,.slice none 0 0,.int .i64 0,.int .i64 0,.int .i64 0,.slice none 0 0,.int .i64 0,.string ⟨#[]⟩]],[]⟩ 8 (by kernel_rfl) (by kernel_rfl) (by kernel_rfl) (by kernel_rfl)) ?_
 intro W base args ds gs before Fm hW hcnd Nv _
 have hval:∀ (j:Nat) t v,Tryz.f3.params[j]?=some t->args[j]?=some v->Value.okWide prog W .any base t v:=Fm
 have hsz:(DataW.weightsEach prog (Tryz.f3.params.toList++Rows.deltaLogsSpec.plain.varTypes prog) (ds++gs)).all (·<=reachBytes)=true:=Nv
 have hW':=hW
 obtain⟨p,q,hA0,hV,rfl,hfz,hnd⟩:=hW
 have hA:DataW.TrodAll enc prog W 0 (fun _=>true) true Tryz.f3.params.toList args.toList ds p:=hA0
 have hA1:=hA
 rw[Tryz.params3]at hA hval hsz
 obtain⟨v0,vs0,d0,ds0,p0,q0,hargs,rfl,rfl,h0,r0⟩:=trodAll_cons hA
 obtain⟨v1,vs1,d1,ds1,p1,q1,rfl,rfl,rfl,h1,r1⟩:=trodAll_cons r0
 obtain⟨rfl,rfl,rfl⟩:=trodAll_nil r1
 obtain rfl:args=#[v0,v1]:=by cases args;simp_all
 obtain⟨rfl,rfl⟩:=trodVars_none hV
 have hmem:=fun(j:Nat) (t:TypeId) (d:DataW H) (h1:_) (h2:_) (m:Nat) (hm:m∈d.weights prog t)=>of_decide_eq_true (List.all_eq_true.1 hsz m (DataW.weights_mem_each (j:=j) (t:=t) (d:=d) h1 h2 m hm))
 obtain⟨ao0,cap0,l0,rfl,Cc,hl0,Im,Km,hp0⟩:=open_ensC (hval 0 22 v0 rfl rfl) h0 (hmem 0 22 d0 rfl rfl)
 obtain⟨x1,rfl,hs1⟩:=open_enV (hval 1 48 v1 rfl rfl) h1 (hmem 1 48 d1 rfl rfl)
 clear hA0 Fm hmem
 simp only[List.append_nil]at hW'
 refine(llogs_any l0 ao0 cap0 x1 (by omega) Km hp0 W hl0 Im hs1).mono fun e W' ⟨he,hg⟩=>?_
 subst he
 refine⟨_,rfl,post_kept (pa:=(p0++(p1++([]:List MemPlace)))) (pv:=[]) hW' (fun _ _ _=>(trodAll_cons_mk (shut_bool underlying4 _) trodAll_mk0)) ?_ rfl (by simp) hg⟩
 exact Zen laidOut hg (by kernel_rfl) hA1 (fun x hx=>hW'.lt x (by simpa using hx))
theorem deltaLogs_over:Rows.deltaLogsRow.holds Tryz.pinned (OpenSpec.ofChange Rows.deltaLogsSpec) :=
 OpenClaim.holds_of_wide 3 Tryz.f3 rfl rfl rfl rfl rfl rfl rfl ⟨rfl,rfl,rfl,rfl,rfl⟩ rfl rfl rfl rfl rfl (by kernel_rfl) func3 (by kernel_rfl)
  (of_decide_eq_true (by kernel_rfl)) (by unfold Func.isWrapper;first|(rw[if_pos (by decide +kernel)];kernel_rfl)|(rw[if_neg (by decide +kernel)];exact⟨rfl,rfl⟩))
  (fun os started H enc _=>Zez os started H enc)
theorem deltaLogs_holds:Rows.DeltaLogsSaid:=deltaLogs_over
#print axioms deltaLogs_holds
end Go.Proofs.YtfnpfkgmacaboaaGreat
