/- Texts joined by a program. -/
import Derived.Test.YtfnpfkgmacaboaaGreatM35
namespace Go.Proofs.YtfnpfkgmacaboaaGreat
open Go.Proofs.Tryz
open Lib (hid)
open Go.ChangeShapes Go.WideShapes Go.ChangeAt Go.RowKit
set_option linter.unusedVariables false
set_option linter.unusedSimpArgs false
set_option maxRecDepth 100000
set_option maxHeartbeats 4000000
def En.cg (e:En):Cg:=⟨e.ck,⟨e.tn,e.te,(e.ol 0).1,(e.ol 0).2.1,(e.ol 0).2.2,e.oi 0⟩,⟨e.os 0,e.os 1,e.oi 1,(e.ol 1).1,(e.ol 1).2.1,(e.ol 1).2.2,e.os 2,⟨e.oi 2,e.os 3,e.os 4,e.os 5,e.oi 3,e.oi 4,e.os 6,(e.ol 2).1,(e.ol 2).2.1,(e.ol 2).2.2,e.oi 5,e.oi 6,e.oi 7,(e.ol 3).1,(e.ol 3).2.1,(e.ol 3).2.2⟩,e.oi 8⟩,e.os 7⟩
theorem En.cells_cg (e:En):(e.cells.drop 16).take 24=e.cg.cells:=rfl
def En.fct (e:En):List Value:=[.string e.src,.int .i64 e.seq,.int .i64 e.fk,.int .i64 e.ref,.string e.tb,.string e.ky,.int .i64 e.ev,.slice e.fa e.vs.length e.fc]
theorem En.cells_fct (e:En):(e.cells.drop 3).take 8=e.fct:=rfl
theorem part_at {w:World}{b off:Nat}{l:List En}{i:Nat}{e:En}(h:Lies En.cells 40 w b off l)(he:l[i]?=some e)(k m:Nat){L:List Value}(hL:(e.cells.drop k).take m=L):∀ j v,L[j]?=some v->w.cell? ⟨b,off+i*40+k+j,none⟩=some v:=by
 intro j v hj
 rw[Nat.add_assoc]
 exact h i e he (k+j) v (by
  rw[<-hL,List.getElem?_take]at hj
  split at hj
  · rwa [List.getElem?_drop]at hj
  · cases hj)
structure En.Seen (w:World) (e:En):Prop where
 lies:Zaf valC 3 w e.fa e.vs
 len:e.vs.length<=140737488355328
 val:∀ v∈e.vs,v.2.2.size<=140737488355328/\I64 v.1/\I64 v.2.1
 str:e.src.size<=140737488355328/\e.tb.size<=140737488355328/\e.ky.size<=140737488355328/\e.een.size<=140737488355328/\e.eky.size<=140737488355328/\e.esr.size<=140737488355328/\e.tn.size<=140737488355328/\e.te.size<=140737488355328
 ints:I64 e.no/\I64 e.tick/\I64 e.kind/\I64 e.seq/\I64 e.fk/\I64 e.ref/\I64 e.ev/\I64 e.ek/\I64 e.esq/\I64 e.ck
 tbl:FdsAt w e.cg.t.fa e.cg.t.fn
 fu:Zao w e.cg.f.tua e.cg.f.tun
 fx:∃ n,ExAt n w e.cg.f.b
theorem En.Seen.kept {w w':World}{e:En}(h:e.Seen w)(hb:Below w.heap.size w w'):e.Seen w' :=
 { h with lies:=h.lies.kept hb,tbl:=h.tbl.kept hb,fu:=h.fu.kept hb,fx:=let ⟨n,hn⟩:=h.fx;⟨n,hn.kept hb⟩ }
structure En.Few (w:World) (e:En):Prop where
 len:e.vs.length<=12
 fct:e.src.size+e.tb.size+e.ky.size<=200
 era:e.een.size+e.eky.size+e.esr.size<=200
 tab:e.tn.size+e.te.size<=200
 ft:e.cg.f.Ok w
 val:∀ v∈e.vs,v.2.2.size<=200
theorem En.Seen.ok {w w0:World}{e:En}(h:e.Seen w)(hf:e.Few w0):e.Ok w:=by
 obtain⟨h1,h2,h3,h4,h5,h6⟩:=hf
 exact⟨h.lies,by omega,fun v hv=>Nat.le_trans (h6 v hv) (by decide),fun v hv=>(h.val v hv).2,by omega,by omega,by omega,by omega,by omega,by omega,by omega,by omega,h.ints⟩
theorem En.Seen.cg {w:World}{e:En}(h:e.Seen w)(hf:e.Few w):e.cg.Ok w:=⟨h.tbl,hf.ft⟩
theorem wrap_three {a b c:Nat}(ha:a<=140737488355328)(hb:b<=140737488355328)(hc:c<=140737488355328)(h:decide ((200:Int)<IntKind.i64.wrap (IntKind.i64.wrap ((a:Int)+(b:Int))+(c:Int)))=false):a+b+c<=200:=by
 have e1:IntKind.i64.wrap ((a:Int)+(b:Int))=(a:Int)+(b:Int):=IntWalk.i64_in _ (by omega)
 rw[e1,show IntKind.i64.wrap ((a:Int)+(b:Int)+(c:Int))=(a:Int)+(b:Int)+(c:Int) from IntWalk.i64_in _ (by omega)]at h
 have:=of_decide_eq_false h
 omega
theorem fewentries_any (l:List En)(ao:Option Addr)(c:Nat)(w:World)(hl:l.length<=140737488355328)(h:Zaf En.cells 40 w ao l)(hs:∀ e∈l,e.Seen w) :
 Calls prog 37 #[.slice ao l.length c] w (GotP (fun b=>b=true->l.length<=60/\∀ e∈l,e.Few w) w):=by
 have H1:=hid h
 have HSN:=hid hs
 clear h hs
 go_enter func37,ntmps37
 go_wp2_with fail
 go_loopw [3] (fun v wr=>∃ i:Nat,i<=l.length/\v=.int .i64 i/\Hid (Below w.heap.size w wr)/\Hid (∀ j e,j<i->l[j]?=some e->e.Few w)) (fun v _=>l.length - (intOf v).toNat)
 case atStart=>exact⟨0,by omega,rfl,ZR w,fun j e hj=>absurd hj (by omega)⟩
 case round =>
  obtain⟨i,hi,rfl,HB,HFEW⟩:=hrel
  rename World=>wr
  by_cases hlt:i<l.length
  · by_cases h61:i<61
    · obtain⟨e,he⟩:∃ e,l[i]?=some e:=⟨l[i],List.getElem?_eq_getElem hlt⟩
      obtain⟨b1,o1,rfl,hr1⟩:=(H1.out.kept HB.out).some (by omega)
      have HFC:=hid (part_at hr1 he 3 8 (En.cells_fct e))
      have HR1:=hid hr1
      have HEI:=hid he
      have HSE:=hid (HSN.out e (List.mem_of_getElem? he))
      clear hr1 he
      go_upto_region 5 with(first|((with_reducible refine Zaq 27 ?_);refine Zas rfl 27 _ rfl b1 (o1+i*40+3) (En.fct e) rfl HFC.out _ underlying27 rfl (by kernel_rfl) ?_;intro v hv;obtain rfl:=hv.out)|((with_reducible refine Zbf 27 ?_);refine Zbm rfl rfl 27 _ _ rfl rfl rfl (En.fct e) rfl rfl (by kernel_rfl) (by rfl) ?_;intro g7 W hbx hg7 hb;have HFB:=hid hbx;have HRW:=hid hb;clear hg7 hbx hb)|fail)
      have HBW:Hid (Below w.heap.size w W):=HB.out.trans (HRW.out.mono HB.out.size)
      have HRL:=hid (HR1.out.kept HRW.out)
      have HCG:=hid (part_at HRL.out HEI.out 16 24 (En.cells_cg e))
      have HE:Hid (∀ w',Below W.heap.size W w'->w'.cell? ⟨b1,o1+i*40+12,none⟩=some (.string e.een)/\w'.cell? ⟨b1,o1+i*40+13,none⟩=some (.string e.eky)/\w'.cell? ⟨b1,o1+i*40+14,none⟩=some (.string e.esr)/\w'.cell? ⟨g7,0,none⟩=some (.string e.src)/\w'.cell? ⟨g7,4,none⟩=some (.string e.tb)/\w'.cell? ⟨g7,5,none⟩=some (.string e.ky)/\w'.cell? ⟨g7,7,none⟩=some (.slice e.fa e.vs.length e.fc)):=fun w' hb =>
       ⟨Zaa (HRL.out i e HEI.out 12 _ rfl) hb,Zaa (HRL.out i e HEI.out 13 _ rfl) hb,Zaa (HRL.out i e HEI.out 14 _ rfl) hb,(HFB.out.kept hb).cell 0 (.string e.src) rfl,(HFB.out.kept hb).cell 4 (.string e.tb) rfl,(HFB.out.kept hb).cell 5 (.string e.ky) rfl,(HFB.out.kept hb).cell 7 (.slice e.fa e.vs.length e.fc) rfl⟩
      refine ZaI (S:=fun w'=>Below W.heap.size W w') (.free 0 (.free 1 (.free 2 (.free 3 (.free 4 (.one 5 (.free 6 (.free 7 (.free 8 (.free 9 (.free 10 (.free 11 (.free 12 (.free 13 (.free 14 (.free 15 (.free 16 (.free 17 (.free 18 (.free 19 (.free 20 (.free 21 (.free 22 (.free 23 (.free 24 (.free 25 (.free 26 (.free 27 (.free 28 (.free 29 (.free 30 (.free 31 (.free 32 (.free 33 (.free 34 (.free 35 (.free 36 (.free 37 (.free 38 (.free 39 (.free 40 (.free 41 (.free 42 (.free 43 (.free 44 (.free 45 (.free 46 (.free 47 (.free 48 (.free 49 (.free 50 (.free 51 (.free 52 (.free 53 (.free 54 .done))))))))))))))))))))))))))))))))))))))))))))))))))))))) (by kernel_rfl) (by kernel_rfl) (fun _ _ _ _ _ h=>h) (by kernel_rfl) (by kernel_rfl) (ZD (ZR W)) ?_
      refine Zac _ (.slice (some ⟨b1,o1,none⟩) l.length c) rfl (by rfl) (by intro wq hSw;have KE:=HE.out wq hSw;obtain⟨e12,e13,e14,f0,f4,f5,f7⟩:=KE;go_simp) ?_
      try simp only[Act.put,m1,m2,m3]
      refine Zac _ (.int .i64 i) rfl (by rfl) (by intro wq hSw;have KE:=HE.out wq hSw;obtain⟨e12,e13,e14,f0,f4,f5,f7⟩:=KE;go_simp) ?_
      try simp only[Act.put,m1,m2,m3]
      refine Zac _ (.pointer (some ⟨b1,o1+i*40,none⟩)) rfl (by rfl) (by intro wq hSw;have KE:=HE.out wq hSw;obtain⟨e12,e13,e14,f0,f4,f5,f7⟩:=KE;go_simp) ?_
      try simp only[Act.put,m1,m2,m3]
      refine Zac _ (.pointer (some ⟨b1,o1+i*40+16,none⟩)) rfl (by rfl) (by intro wq hSw;have KE:=HE.out wq hSw;obtain⟨e12,e13,e14,f0,f4,f5,f7⟩:=KE;go_simp) ?_
      try simp only[Act.put,m1,m2,m3]
      refine ZbV _ rfl (by rfl) 46 _ rfl b1 (o1+i*40+16) (Cg.cells e.cg) rfl (fun w hS j v hj=>Zaa (HCG.out j v hj) hS) _ underlying46 rfl (by kernel_rfl) ?_
      intro v4 hv4
      subst hv4
      try simp only[Act.put,m1,m2,m3]
      refine ZaN _ rfl (by rfl) (fun K hK=>?_)
      go_wp2_with (go_at_call 68;refine(few14_any e.cg _ w (HBW.out.trans ((ZD (ZR _)).mono HBW.out.size)) HSE.out.tbl HSE.out.fu HSE.out.fx HSE.out.str.2.2.2.2.2.2.1 HSE.out.str.2.2.2.2.2.2.2).mono ?_;rintro ee w5 ⟨b5,rfl,hq5,hb⟩;have HQ5:=hid hq5;have HS5:Hid (Below W.heap.size W w5):=ZT (ZD (ZR _)) hb;clear hb hq5)
      refine hK.out _ _ HS5.out (fun hHeld=>?_)
      clear hK K
      try simp only[Act.put,m1,m2,m3]
      cases b5
      · skip
        refine Zac _ (.bool true) rfl (by rfl) (by intro wq hSw;have KE:=HE.out wq hSw;obtain⟨e12,e13,e14,f0,f4,f5,f7⟩:=KE;go_simp) ?_
        try simp only[Act.put,m1,m2,m3]
        refine Zac _ (.bool true) rfl (by rfl) (by intro wq hSw;have KE:=HE.out wq hSw;obtain⟨e12,e13,e14,f0,f4,f5,f7⟩:=KE;go_simp) ?_
        try simp only[Act.put,m1,m2,m3]
        refine Zan _ rfl (by rfl) ?_
        try simp only[Act.put,m1,m2,m3]
        refine Zan _ rfl (by rfl) ?_
        try simp only[Act.put,m1,m2,m3]
        refine Zan _ rfl (by rfl) ?_
        try simp only[Act.put,m1,m2,m3]
        refine Zan _ rfl (by rfl) ?_
        try simp only[Act.put,m1,m2,m3]
        refine Zac _ (.bool true) rfl (by rfl) (by intro wq hSw;have KE:=HE.out wq hSw;obtain⟨e12,e13,e14,f0,f4,f5,f7⟩:=KE;go_simp) ?_
        try simp only[Act.put,m1,m2,m3]
        refine Zac _ (.bool true) rfl (by rfl) (by intro wq hSw;have KE:=HE.out wq hSw;obtain⟨e12,e13,e14,f0,f4,f5,f7⟩:=KE;go_simp) ?_
        try simp only[Act.put,m1,m2,m3]
        refine Zan _ rfl (by rfl) ?_
        try simp only[Act.put,m1,m2,m3]
        refine Zan _ rfl (by rfl) ?_
        try simp only[Act.put,m1,m2,m3]
        refine Zan _ rfl (by rfl) ?_
        try simp only[Act.put,m1,m2,m3]
        refine Zan _ rfl (by rfl) ?_
        try simp only[Act.put,m1,m2,m3]
        refine Zan _ rfl (by rfl) ?_
        try simp only[Act.put,m1,m2,m3]
        refine Zan _ rfl (by rfl) ?_
        try simp only[Act.put,m1,m2,m3]
        refine Zan _ rfl (by rfl) ?_
        try simp only[Act.put,m1,m2,m3]
        refine Zan _ rfl (by rfl) ?_
        try simp only[Act.put,m1,m2,m3]
        refine Zan _ rfl (by rfl) ?_
        try simp only[Act.put,m1,m2,m3]
        refine Zan _ rfl (by rfl) ?_
        try simp only[Act.put,m1,m2,m3]
        refine Zan _ rfl (by rfl) ?_
        try simp only[Act.put,m1,m2,m3]
        refine Zan _ rfl (by rfl) ?_
        try simp only[Act.put,m1,m2,m3]
        refine Zan _ rfl (by rfl) ?_
        try simp only[Act.put,m1,m2,m3]
        refine Zac _ (.bool true) rfl (by rfl) (by intro wq hSw;have KE:=HE.out wq hSw;obtain⟨e12,e13,e14,f0,f4,f5,f7⟩:=KE;go_simp) ?_
        try simp only[Act.put,m1,m2,m3]
        refine Zac _ (.bool true) rfl (by rfl) (by intro wq hSw;have KE:=HE.out wq hSw;obtain⟨e12,e13,e14,f0,f4,f5,f7⟩:=KE;go_simp) ?_
        try simp only[Act.put,m1,m2,m3]
        refine Zan _ rfl (by rfl) ?_
        try simp only[Act.put,m1,m2,m3]
        refine Zan _ rfl (by rfl) ?_
        try simp only[Act.put,m1,m2,m3]
        refine Zan _ rfl (by rfl) ?_
        try simp only[Act.put,m1,m2,m3]
        refine Zan _ rfl (by rfl) ?_
        try simp only[Act.put,m1,m2,m3]
        refine Zan _ rfl (by rfl) ?_
        try simp only[Act.put,m1,m2,m3]
        refine Zan _ rfl (by rfl) ?_
        try simp only[Act.put,m1,m2,m3]
        refine Zan _ rfl (by rfl) ?_
        try simp only[Act.put,m1,m2,m3]
        refine Zan _ rfl (by rfl) ?_
        try simp only[Act.put,m1,m2,m3]
        refine Zan _ rfl (by rfl) ?_
        try simp only[Act.put,m1,m2,m3]
        refine Zan _ rfl (by rfl) ?_
        try simp only[Act.put,m1,m2,m3]
        refine Zan _ rfl (by rfl) ?_
        try simp only[Act.put,m1,m2,m3]
        refine Zan _ rfl (by rfl) ?_
        try simp only[Act.put,m1,m2,m3]
        refine Zan _ rfl (by rfl) ?_
        try simp only[Act.put,m1,m2,m3]
        refine Zan _ rfl (by rfl) ?_
        try simp only[Act.put,m1,m2,m3]
        refine Zan _ rfl (by rfl) ?_
        try simp only[Act.put,m1,m2,m3]
        refine Zan _ rfl (by rfl) ?_
        try simp only[Act.put,m1,m2,m3]
        refine Zan _ rfl (by rfl) ?_
        try simp only[Act.put,m1,m2,m3]
        refine Zan _ rfl (by rfl) ?_
        try simp only[Act.put,m1,m2,m3]
        refine Zan _ rfl (by rfl) ?_
        try simp only[Act.put,m1,m2,m3]
        refine Zan _ rfl (by rfl) ?_
        try simp only[Act.put,m1,m2,m3]
        refine Zan _ rfl (by rfl) ?_
        try simp only[Act.put,m1,m2,m3]
        refine Zan _ rfl (by rfl) ?_
        try simp only[Act.put,m1,m2,m3]
        refine Zan _ rfl (by rfl) ?_
        try simp only[Act.put,m1,m2,m3]
        refine Zan _ rfl (by rfl) ?_
        try simp only[Act.put,m1,m2,m3]
        refine Zan _ rfl (by rfl) ?_
        try simp only[Act.put,m1,m2,m3]
        refine Zac _ (.bool true) rfl (by rfl) (by intro wq hSw;have KE:=HE.out wq hSw;obtain⟨e12,e13,e14,f0,f4,f5,f7⟩:=KE;go_simp) ?_
        try simp only[Act.put,m1,m2,m3]
        refine Zbb ?_
        go_wp2_with fail
        go_ret
        exact⟨_,rfl,fun h=>(by cases h),HBW.out.trans (HS5.out.mono HBW.out.size)⟩
      · skip
        refine Zac _ (.bool false) rfl (by rfl) (by intro wq hSw;have KE:=HE.out wq hSw;obtain⟨e12,e13,e14,f0,f4,f5,f7⟩:=KE;go_simp) ?_
        try simp only[Act.put,m1,m2,m3]
        refine Zac _ (.bool false) rfl (by rfl) (by intro wq hSw;have KE:=HE.out wq hSw;obtain⟨e12,e13,e14,f0,f4,f5,f7⟩:=KE;go_simp) ?_
        try simp only[Act.put,m1,m2,m3]
        refine Zac _ (.pointer (some ⟨g7,7,none⟩)) rfl (by rfl) (by intro wq hSw;have KE:=HE.out wq hSw;obtain⟨e12,e13,e14,f0,f4,f5,f7⟩:=KE;go_simp) ?_
        try simp only[Act.put,m1,m2,m3]
        refine Zac _ (.slice e.fa e.vs.length e.fc) rfl (by rfl) (by intro wq hSw;have KE:=HE.out wq hSw;obtain⟨e12,e13,e14,f0,f4,f5,f7⟩:=KE;go_simp) ?_
        try simp only[Act.put,m1,m2,m3]
        refine Zac _ (.int .i64 e.vs.length) rfl (by rfl) (by intro wq hSw;have KE:=HE.out wq hSw;obtain⟨e12,e13,e14,f0,f4,f5,f7⟩:=KE;go_simp) ?_
        try simp only[Act.put,m1,m2,m3]
        cases h12:decide ((12:Int)<(e.vs.length:Int))
        · skip
          refine Zac _ (.bool false) rfl (by rfl) (by intro wq hSw;have KE:=HE.out wq hSw;obtain⟨e12,e13,e14,f0,f4,f5,f7⟩:=KE;go_simp) ?_
          try simp only[Act.put,m1,m2,m3]
          refine Zac _ (.bool false) rfl (by rfl) (by intro wq hSw;have KE:=HE.out wq hSw;obtain⟨e12,e13,e14,f0,f4,f5,f7⟩:=KE;go_simp) ?_
          try simp only[Act.put,m1,m2,m3]
          refine Zac _ (.bool false) rfl (by rfl) (by intro wq hSw;have KE:=HE.out wq hSw;obtain⟨e12,e13,e14,f0,f4,f5,f7⟩:=KE;go_simp) ?_
          try simp only[Act.put,m1,m2,m3]
          refine Zac _ (.pointer (some ⟨g7,0,none⟩)) rfl (by rfl) (by intro wq hSw;have KE:=HE.out wq hSw;obtain⟨e12,e13,e14,f0,f4,f5,f7⟩:=KE;go_simp) ?_
          try simp only[Act.put,m1,m2,m3]
          refine Zac _ (.pointer (some ⟨g7,0,none⟩)) rfl (by rfl) (by intro wq hSw;have KE:=HE.out wq hSw;obtain⟨e12,e13,e14,f0,f4,f5,f7⟩:=KE;go_simp) ?_
          try simp only[Act.put,m1,m2,m3]
          refine Zac _ (.string e.src) rfl (by rfl) (by intro wq hSw;have KE:=HE.out wq hSw;obtain⟨e12,e13,e14,f0,f4,f5,f7⟩:=KE;go_simp) ?_
          try simp only[Act.put,m1,m2,m3]
          refine Zac _ (.int .i64 ((e.src.size:Int))) rfl (by rfl) (by intro wq hSw;have KE:=HE.out wq hSw;obtain⟨e12,e13,e14,f0,f4,f5,f7⟩:=KE;go_simp) ?_
          try simp only[Act.put,m1,m2,m3]
          refine Zac _ (.pointer (some ⟨g7,4,none⟩)) rfl (by rfl) (by intro wq hSw;have KE:=HE.out wq hSw;obtain⟨e12,e13,e14,f0,f4,f5,f7⟩:=KE;go_simp) ?_
          try simp only[Act.put,m1,m2,m3]
          refine Zac _ (.string e.tb) rfl (by rfl) (by intro wq hSw;have KE:=HE.out wq hSw;obtain⟨e12,e13,e14,f0,f4,f5,f7⟩:=KE;go_simp) ?_
          try simp only[Act.put,m1,m2,m3]
          refine Zac _ (.int .i64 ((e.tb.size:Int))) rfl (by rfl) (by intro wq hSw;have KE:=HE.out wq hSw;obtain⟨e12,e13,e14,f0,f4,f5,f7⟩:=KE;go_simp) ?_
          try simp only[Act.put,m1,m2,m3]
          refine Zac _ (.int .i64 (IntKind.i64.wrap ((e.src.size:Int)+(e.tb.size:Int)))) rfl (by rfl) (by intro wq hSw;have KE:=HE.out wq hSw;obtain⟨e12,e13,e14,f0,f4,f5,f7⟩:=KE;go_simp) ?_
          try simp only[Act.put,m1,m2,m3]
          refine Zac _ (.pointer (some ⟨g7,5,none⟩)) rfl (by rfl) (by intro wq hSw;have KE:=HE.out wq hSw;obtain⟨e12,e13,e14,f0,f4,f5,f7⟩:=KE;go_simp) ?_
          try simp only[Act.put,m1,m2,m3]
          refine Zac _ (.string e.ky) rfl (by rfl) (by intro wq hSw;have KE:=HE.out wq hSw;obtain⟨e12,e13,e14,f0,f4,f5,f7⟩:=KE;go_simp) ?_
          try simp only[Act.put,m1,m2,m3]
          refine Zac _ (.int .i64 ((e.ky.size:Int))) rfl (by rfl) (by intro wq hSw;have KE:=HE.out wq hSw;obtain⟨e12,e13,e14,f0,f4,f5,f7⟩:=KE;go_simp) ?_
          try simp only[Act.put,m1,m2,m3]
          refine Zac _ (.int .i64 (IntKind.i64.wrap (IntKind.i64.wrap ((e.src.size:Int)+(e.tb.size:Int))+(e.ky.size:Int)))) rfl (by rfl) (by intro wq hSw;have KE:=HE.out wq hSw;obtain⟨e12,e13,e14,f0,f4,f5,f7⟩:=KE;go_simp) ?_
          try simp only[Act.put,m1,m2,m3]
          cases hs1:decide ((200:Int)<IntKind.i64.wrap (IntKind.i64.wrap ((e.src.size:Int)+(e.tb.size:Int))+(e.ky.size:Int)))
          · skip
            refine Zac _ (.bool false) rfl (by rfl) (by intro wq hSw;have KE:=HE.out wq hSw;obtain⟨e12,e13,e14,f0,f4,f5,f7⟩:=KE;go_simp) ?_
            try simp only[Act.put,m1,m2,m3]
            refine Zac _ (.bool false) rfl (by rfl) (by intro wq hSw;have KE:=HE.out wq hSw;obtain⟨e12,e13,e14,f0,f4,f5,f7⟩:=KE;go_simp) ?_
            try simp only[Act.put,m1,m2,m3]
            refine Zac _ (.bool false) rfl (by rfl) (by intro wq hSw;have KE:=HE.out wq hSw;obtain⟨e12,e13,e14,f0,f4,f5,f7⟩:=KE;go_simp) ?_
            try simp only[Act.put,m1,m2,m3]
            refine Zac _ (.slice (some ⟨b1,o1,none⟩) l.length c) rfl (by rfl) (by intro wq hSw;have KE:=HE.out wq hSw;obtain⟨e12,e13,e14,f0,f4,f5,f7⟩:=KE;go_simp) ?_
            try simp only[Act.put,m1,m2,m3]
            refine Zac _ (.int .i64 i) rfl (by rfl) (by intro wq hSw;have KE:=HE.out wq hSw;obtain⟨e12,e13,e14,f0,f4,f5,f7⟩:=KE;go_simp) ?_
            try simp only[Act.put,m1,m2,m3]
            refine Zac _ (.pointer (some ⟨b1,o1+i*40,none⟩)) rfl (by rfl) (by intro wq hSw;have KE:=HE.out wq hSw;obtain⟨e12,e13,e14,f0,f4,f5,f7⟩:=KE;go_simp) ?_
            try simp only[Act.put,m1,m2,m3]
            refine Zac _ (.pointer (some ⟨b1,o1+i*40+11,none⟩)) rfl (by rfl) (by intro wq hSw;have KE:=HE.out wq hSw;obtain⟨e12,e13,e14,f0,f4,f5,f7⟩:=KE;go_simp) ?_
            try simp only[Act.put,m1,m2,m3]
            refine Zac _ (.pointer (some ⟨b1,o1+i*40+12,none⟩)) rfl (by rfl) (by intro wq hSw;have KE:=HE.out wq hSw;obtain⟨e12,e13,e14,f0,f4,f5,f7⟩:=KE;go_simp) ?_
            try simp only[Act.put,m1,m2,m3]
            refine Zac _ (.string e.een) rfl (by rfl) (by intro wq hSw;have KE:=HE.out wq hSw;obtain⟨e12,e13,e14,f0,f4,f5,f7⟩:=KE;go_simp) ?_
            try simp only[Act.put,m1,m2,m3]
            refine Zac _ (.int .i64 ((e.een.size:Int))) rfl (by rfl) (by intro wq hSw;have KE:=HE.out wq hSw;obtain⟨e12,e13,e14,f0,f4,f5,f7⟩:=KE;go_simp) ?_
            try simp only[Act.put,m1,m2,m3]
            refine Zac _ (.slice (some ⟨b1,o1,none⟩) l.length c) rfl (by rfl) (by intro wq hSw;have KE:=HE.out wq hSw;obtain⟨e12,e13,e14,f0,f4,f5,f7⟩:=KE;go_simp) ?_
            try simp only[Act.put,m1,m2,m3]
            refine Zac _ (.int .i64 i) rfl (by rfl) (by intro wq hSw;have KE:=HE.out wq hSw;obtain⟨e12,e13,e14,f0,f4,f5,f7⟩:=KE;go_simp) ?_
            try simp only[Act.put,m1,m2,m3]
            refine Zac _ (.pointer (some ⟨b1,o1+i*40,none⟩)) rfl (by rfl) (by intro wq hSw;have KE:=HE.out wq hSw;obtain⟨e12,e13,e14,f0,f4,f5,f7⟩:=KE;go_simp) ?_
            try simp only[Act.put,m1,m2,m3]
            refine Zac _ (.pointer (some ⟨b1,o1+i*40+11,none⟩)) rfl (by rfl) (by intro wq hSw;have KE:=HE.out wq hSw;obtain⟨e12,e13,e14,f0,f4,f5,f7⟩:=KE;go_simp) ?_
            try simp only[Act.put,m1,m2,m3]
            refine Zac _ (.pointer (some ⟨b1,o1+i*40+13,none⟩)) rfl (by rfl) (by intro wq hSw;have KE:=HE.out wq hSw;obtain⟨e12,e13,e14,f0,f4,f5,f7⟩:=KE;go_simp) ?_
            try simp only[Act.put,m1,m2,m3]
            refine Zac _ (.string e.eky) rfl (by rfl) (by intro wq hSw;have KE:=HE.out wq hSw;obtain⟨e12,e13,e14,f0,f4,f5,f7⟩:=KE;go_simp) ?_
            try simp only[Act.put,m1,m2,m3]
            refine Zac _ (.int .i64 ((e.eky.size:Int))) rfl (by rfl) (by intro wq hSw;have KE:=HE.out wq hSw;obtain⟨e12,e13,e14,f0,f4,f5,f7⟩:=KE;go_simp) ?_
            try simp only[Act.put,m1,m2,m3]
            refine Zac _ (.int .i64 (IntKind.i64.wrap ((e.een.size:Int)+(e.eky.size:Int)))) rfl (by rfl) (by intro wq hSw;have KE:=HE.out wq hSw;obtain⟨e12,e13,e14,f0,f4,f5,f7⟩:=KE;go_simp) ?_
            try simp only[Act.put,m1,m2,m3]
            refine Zac _ (.slice (some ⟨b1,o1,none⟩) l.length c) rfl (by rfl) (by intro wq hSw;have KE:=HE.out wq hSw;obtain⟨e12,e13,e14,f0,f4,f5,f7⟩:=KE;go_simp) ?_
            try simp only[Act.put,m1,m2,m3]
            refine Zac _ (.int .i64 i) rfl (by rfl) (by intro wq hSw;have KE:=HE.out wq hSw;obtain⟨e12,e13,e14,f0,f4,f5,f7⟩:=KE;go_simp) ?_
            try simp only[Act.put,m1,m2,m3]
            refine Zac _ (.pointer (some ⟨b1,o1+i*40,none⟩)) rfl (by rfl) (by intro wq hSw;have KE:=HE.out wq hSw;obtain⟨e12,e13,e14,f0,f4,f5,f7⟩:=KE;go_simp) ?_
            try simp only[Act.put,m1,m2,m3]
            refine Zac _ (.pointer (some ⟨b1,o1+i*40+11,none⟩)) rfl (by rfl) (by intro wq hSw;have KE:=HE.out wq hSw;obtain⟨e12,e13,e14,f0,f4,f5,f7⟩:=KE;go_simp) ?_
            try simp only[Act.put,m1,m2,m3]
            refine Zac _ (.pointer (some ⟨b1,o1+i*40+14,none⟩)) rfl (by rfl) (by intro wq hSw;have KE:=HE.out wq hSw;obtain⟨e12,e13,e14,f0,f4,f5,f7⟩:=KE;go_simp) ?_
            try simp only[Act.put,m1,m2,m3]
            refine Zac _ (.pointer (some ⟨b1,o1+i*40+14,none⟩)) rfl (by rfl) (by intro wq hSw;have KE:=HE.out wq hSw;obtain⟨e12,e13,e14,f0,f4,f5,f7⟩:=KE;go_simp) ?_
            try simp only[Act.put,m1,m2,m3]
            refine Zac _ (.string e.esr) rfl (by rfl) (by intro wq hSw;have KE:=HE.out wq hSw;obtain⟨e12,e13,e14,f0,f4,f5,f7⟩:=KE;go_simp) ?_
            try simp only[Act.put,m1,m2,m3]
            refine Zac _ (.int .i64 ((e.esr.size:Int))) rfl (by rfl) (by intro wq hSw;have KE:=HE.out wq hSw;obtain⟨e12,e13,e14,f0,f4,f5,f7⟩:=KE;go_simp) ?_
            try simp only[Act.put,m1,m2,m3]
            refine Zac _ (.int .i64 (IntKind.i64.wrap (IntKind.i64.wrap ((e.een.size:Int)+(e.eky.size:Int))+(e.esr.size:Int)))) rfl (by rfl) (by intro wq hSw;have KE:=HE.out wq hSw;obtain⟨e12,e13,e14,f0,f4,f5,f7⟩:=KE;go_simp) ?_
            try simp only[Act.put,m1,m2,m3]
            cases hs2:decide ((200:Int)<IntKind.i64.wrap (IntKind.i64.wrap ((e.een.size:Int)+(e.eky.size:Int))+(e.esr.size:Int)))
            · skip
              refine Zac _ (.bool false) rfl (by rfl) (by intro wq hSw;have KE:=HE.out wq hSw;obtain⟨e12,e13,e14,f0,f4,f5,f7⟩:=KE;go_simp) ?_
              try simp only[Act.put,m1,m2,m3]
              refine Zac _ (.bool false) rfl (by rfl) (by intro wq hSw;have KE:=HE.out wq hSw;obtain⟨e12,e13,e14,f0,f4,f5,f7⟩:=KE;go_simp) ?_
              try simp only[Act.put,m1,m2,m3]
              refine Zbb ?_
              have f7:=(HE.out _ HS5.out).2.2.2.2.2.2
              have HD12:=hid h12
              have hlen:=HSE.out.len
              have HW5:Hid (Below w.heap.size w w5):=HBW.out.trans (HS5.out.mono HBW.out.size)
              have HV5:Hid (Zaf valC 3 w5 e.fa e.vs):=HSE.out.lies.kept HW5.out
              go_wp2_with fail
              go_loop [5] (fun v=>∃ k:Nat,k<=e.vs.length/\v=.int .i64 k/\Hid (∀ j x,j<k->e.vs[j]?=some x->x.2.2.size<=200)) (fun v=>e.vs.length - (intOf v).toNat)
              case atStart=>exact⟨0,by omega,rfl,fun j x hj=>absurd hj (by omega)⟩
              case round =>
               obtain⟨k,hk,rfl,HX⟩:=hrel
               by_cases hkl:k<e.vs.length
               · obtain⟨x,hx⟩:∃ x,e.vs[k]?=some x:=⟨e.vs[k],List.getElem?_eq_getElem hkl⟩
                 obtain⟨b2,o2,he2,hr2⟩:=HV5.out.some (by omega)
                 rw[he2]at f7
                 have x2:w5.cell? ⟨b2,o2+k*3+2,none⟩=some (.string x.2.2):=hr2 k x hx 2 _ rfl
                 have HXI:=hid hx
                 have HXS:Hid (x.2.2.size<=140737488355328):=(HSE.out.val x (List.mem_of_getElem? hx)).1
                 clear hr2 hx
                 cases h2:decide ((200:Int)<(x.2.2.size:Int))with
                 |true =>
                  go_wp2_with fail
                  go_ret
                  exact⟨_,rfl,fun h=>(by cases h),HW5.out⟩
                 |false =>
                  have HD2:=hid h2
                  go_wp2_with fail
                  go_round
                  case rel=>exact⟨k+1,by omega,by go_num,fun j y hj hy=>by
                   by_cases q:j=k
                   · subst q
                     rw[HXI.out]at hy
                     injection hy with hy
                     subst hy
                     have h2':=of_decide_eq_false HD2.out
                     omega
                   · exact HX.out j y (by omega) hy⟩
                  case measure=>simp[intOf];omega
               · go_wp2_with fail
                 go_roundw
                 case rel=>exact⟨i+1,by omega,by go_num,HW5,fun j y hj hy=>by
                  by_cases q:j=i
                  · subst q
                    rw[HEI.out]at hy
                    injection hy with hy
                    subst hy
                    obtain⟨hq1,hq2⟩:=HQ5.out (by first|rfl|trivial)
                    obtain⟨s1,s2,s3,s4,s5,s6,-⟩:=HSE.out.str
                    have h12':=of_decide_eq_false HD12.out
                    exact⟨by omega,wrap_three s1 s2 s3 hs1,wrap_three s4 s5 s6 hs2,hq1,hq2,fun v hv=>by
                     obtain⟨p,hp,rfl⟩:=List.mem_iff_getElem.1 hv
                     exact HX.out p _ (by omega) (List.getElem?_eq_getElem hp)⟩
                  · exact HFEW.out j y (by omega) hy⟩
                 case measure=>simp[intOf];omega
            · skip
              refine Zac _ (.bool true) rfl (by rfl) (by intro wq hSw;have KE:=HE.out wq hSw;obtain⟨e12,e13,e14,f0,f4,f5,f7⟩:=KE;go_simp) ?_
              try simp only[Act.put,m1,m2,m3]
              refine Zac _ (.bool true) rfl (by rfl) (by intro wq hSw;have KE:=HE.out wq hSw;obtain⟨e12,e13,e14,f0,f4,f5,f7⟩:=KE;go_simp) ?_
              try simp only[Act.put,m1,m2,m3]
              refine Zbb ?_
              go_wp2_with fail
              go_ret
              exact⟨_,rfl,fun h=>(by cases h),HBW.out.trans (HS5.out.mono HBW.out.size)⟩
          · skip
            refine Zac _ (.bool true) rfl (by rfl) (by intro wq hSw;have KE:=HE.out wq hSw;obtain⟨e12,e13,e14,f0,f4,f5,f7⟩:=KE;go_simp) ?_
            try simp only[Act.put,m1,m2,m3]
            refine Zac _ (.bool true) rfl (by rfl) (by intro wq hSw;have KE:=HE.out wq hSw;obtain⟨e12,e13,e14,f0,f4,f5,f7⟩:=KE;go_simp) ?_
            try simp only[Act.put,m1,m2,m3]
            refine Zac _ (.bool true) rfl (by rfl) (by intro wq hSw;have KE:=HE.out wq hSw;obtain⟨e12,e13,e14,f0,f4,f5,f7⟩:=KE;go_simp) ?_
            try simp only[Act.put,m1,m2,m3]
            refine Zan _ rfl (by rfl) ?_
            try simp only[Act.put,m1,m2,m3]
            refine Zan _ rfl (by rfl) ?_
            try simp only[Act.put,m1,m2,m3]
            refine Zan _ rfl (by rfl) ?_
            try simp only[Act.put,m1,m2,m3]
            refine Zan _ rfl (by rfl) ?_
            try simp only[Act.put,m1,m2,m3]
            refine Zan _ rfl (by rfl) ?_
            try simp only[Act.put,m1,m2,m3]
            refine Zan _ rfl (by rfl) ?_
            try simp only[Act.put,m1,m2,m3]
            refine Zan _ rfl (by rfl) ?_
            try simp only[Act.put,m1,m2,m3]
            refine Zan _ rfl (by rfl) ?_
            try simp only[Act.put,m1,m2,m3]
            refine Zan _ rfl (by rfl) ?_
            try simp only[Act.put,m1,m2,m3]
            refine Zan _ rfl (by rfl) ?_
            try simp only[Act.put,m1,m2,m3]
            refine Zan _ rfl (by rfl) ?_
            try simp only[Act.put,m1,m2,m3]
            refine Zan _ rfl (by rfl) ?_
            try simp only[Act.put,m1,m2,m3]
            refine Zan _ rfl (by rfl) ?_
            try simp only[Act.put,m1,m2,m3]
            refine Zan _ rfl (by rfl) ?_
            try simp only[Act.put,m1,m2,m3]
            refine Zan _ rfl (by rfl) ?_
            try simp only[Act.put,m1,m2,m3]
            refine Zan _ rfl (by rfl) ?_
            try simp only[Act.put,m1,m2,m3]
            refine Zan _ rfl (by rfl) ?_
            try simp only[Act.put,m1,m2,m3]
            refine Zan _ rfl (by rfl) ?_
            try simp only[Act.put,m1,m2,m3]
            refine Zan _ rfl (by rfl) ?_
            try simp only[Act.put,m1,m2,m3]
            refine Zan _ rfl (by rfl) ?_
            try simp only[Act.put,m1,m2,m3]
            refine Zan _ rfl (by rfl) ?_
            try simp only[Act.put,m1,m2,m3]
            refine Zan _ rfl (by rfl) ?_
            try simp only[Act.put,m1,m2,m3]
            refine Zan _ rfl (by rfl) ?_
            try simp only[Act.put,m1,m2,m3]
            refine Zan _ rfl (by rfl) ?_
            try simp only[Act.put,m1,m2,m3]
            refine Zan _ rfl (by rfl) ?_
            try simp only[Act.put,m1,m2,m3]
            refine Zac _ (.bool true) rfl (by rfl) (by intro wq hSw;have KE:=HE.out wq hSw;obtain⟨e12,e13,e14,f0,f4,f5,f7⟩:=KE;go_simp) ?_
            try simp only[Act.put,m1,m2,m3]
            refine Zbb ?_
            go_wp2_with fail
            go_ret
            exact⟨_,rfl,fun h=>(by cases h),HBW.out.trans (HS5.out.mono HBW.out.size)⟩
        · skip
          refine Zac _ (.bool true) rfl (by rfl) (by intro wq hSw;have KE:=HE.out wq hSw;obtain⟨e12,e13,e14,f0,f4,f5,f7⟩:=KE;go_simp) ?_
          try simp only[Act.put,m1,m2,m3]
          refine Zac _ (.bool true) rfl (by rfl) (by intro wq hSw;have KE:=HE.out wq hSw;obtain⟨e12,e13,e14,f0,f4,f5,f7⟩:=KE;go_simp) ?_
          try simp only[Act.put,m1,m2,m3]
          refine Zac _ (.bool true) rfl (by rfl) (by intro wq hSw;have KE:=HE.out wq hSw;obtain⟨e12,e13,e14,f0,f4,f5,f7⟩:=KE;go_simp) ?_
          try simp only[Act.put,m1,m2,m3]
          refine Zan _ rfl (by rfl) ?_
          try simp only[Act.put,m1,m2,m3]
          refine Zan _ rfl (by rfl) ?_
          try simp only[Act.put,m1,m2,m3]
          refine Zan _ rfl (by rfl) ?_
          try simp only[Act.put,m1,m2,m3]
          refine Zan _ rfl (by rfl) ?_
          try simp only[Act.put,m1,m2,m3]
          refine Zan _ rfl (by rfl) ?_
          try simp only[Act.put,m1,m2,m3]
          refine Zan _ rfl (by rfl) ?_
          try simp only[Act.put,m1,m2,m3]
          refine Zan _ rfl (by rfl) ?_
          try simp only[Act.put,m1,m2,m3]
          refine Zan _ rfl (by rfl) ?_
          try simp only[Act.put,m1,m2,m3]
          refine Zan _ rfl (by rfl) ?_
          try simp only[Act.put,m1,m2,m3]
          refine Zan _ rfl (by rfl) ?_
          try simp only[Act.put,m1,m2,m3]
          refine Zan _ rfl (by rfl) ?_
          try simp only[Act.put,m1,m2,m3]
          refine Zan _ rfl (by rfl) ?_
          try simp only[Act.put,m1,m2,m3]
          refine Zan _ rfl (by rfl) ?_
          try simp only[Act.put,m1,m2,m3]
          refine Zac _ (.bool true) rfl (by rfl) (by intro wq hSw;have KE:=HE.out wq hSw;obtain⟨e12,e13,e14,f0,f4,f5,f7⟩:=KE;go_simp) ?_
          try simp only[Act.put,m1,m2,m3]
          refine Zac _ (.bool true) rfl (by rfl) (by intro wq hSw;have KE:=HE.out wq hSw;obtain⟨e12,e13,e14,f0,f4,f5,f7⟩:=KE;go_simp) ?_
          try simp only[Act.put,m1,m2,m3]
          refine Zan _ rfl (by rfl) ?_
          try simp only[Act.put,m1,m2,m3]
          refine Zan _ rfl (by rfl) ?_
          try simp only[Act.put,m1,m2,m3]
          refine Zan _ rfl (by rfl) ?_
          try simp only[Act.put,m1,m2,m3]
          refine Zan _ rfl (by rfl) ?_
          try simp only[Act.put,m1,m2,m3]
          refine Zan _ rfl (by rfl) ?_
          try simp only[Act.put,m1,m2,m3]
          refine Zan _ rfl (by rfl) ?_
          try simp only[Act.put,m1,m2,m3]
          refine Zan _ rfl (by rfl) ?_
          try simp only[Act.put,m1,m2,m3]
          refine Zan _ rfl (by rfl) ?_
          try simp only[Act.put,m1,m2,m3]
          refine Zan _ rfl (by rfl) ?_
          try simp only[Act.put,m1,m2,m3]
          refine Zan _ rfl (by rfl) ?_
          try simp only[Act.put,m1,m2,m3]
          refine Zan _ rfl (by rfl) ?_
          try simp only[Act.put,m1,m2,m3]
          refine Zan _ rfl (by rfl) ?_
          try simp only[Act.put,m1,m2,m3]
          refine Zan _ rfl (by rfl) ?_
          try simp only[Act.put,m1,m2,m3]
          refine Zan _ rfl (by rfl) ?_
          try simp only[Act.put,m1,m2,m3]
          refine Zan _ rfl (by rfl) ?_
          try simp only[Act.put,m1,m2,m3]
          refine Zan _ rfl (by rfl) ?_
          try simp only[Act.put,m1,m2,m3]
          refine Zan _ rfl (by rfl) ?_
          try simp only[Act.put,m1,m2,m3]
          refine Zan _ rfl (by rfl) ?_
          try simp only[Act.put,m1,m2,m3]
          refine Zan _ rfl (by rfl) ?_
          try simp only[Act.put,m1,m2,m3]
          refine Zan _ rfl (by rfl) ?_
          try simp only[Act.put,m1,m2,m3]
          refine Zan _ rfl (by rfl) ?_
          try simp only[Act.put,m1,m2,m3]
          refine Zan _ rfl (by rfl) ?_
          try simp only[Act.put,m1,m2,m3]
          refine Zan _ rfl (by rfl) ?_
          try simp only[Act.put,m1,m2,m3]
          refine Zan _ rfl (by rfl) ?_
          try simp only[Act.put,m1,m2,m3]
          refine Zan _ rfl (by rfl) ?_
          try simp only[Act.put,m1,m2,m3]
          refine Zac _ (.bool true) rfl (by rfl) (by intro wq hSw;have KE:=HE.out wq hSw;obtain⟨e12,e13,e14,f0,f4,f5,f7⟩:=KE;go_simp) ?_
          try simp only[Act.put,m1,m2,m3]
          refine Zbb ?_
          go_wp2_with fail
          go_ret
          exact⟨_,rfl,fun h=>(by cases h),HBW.out.trans (HS5.out.mono HBW.out.size)⟩
    · have h61':decide ((i:Int)<61)=false:=decide_eq_false (by omega)
      go_wp2_with fail
      go_ret
      exact⟨_,rfl,fun h=>by simp at h;omega,HB.out⟩
  · go_wp2_with fail
    go_ret
    exact⟨_,rfl,fun h=>⟨by simp at h;omega,fun e he=>by
     obtain⟨p,hp,rfl⟩:=List.mem_iff_getElem.1 he
     exact HFEW.out p _ (by omega) (List.getElem?_eq_getElem hp)⟩,HB.out⟩
theorem nofact_any (f_is:ByteArray)(f_iq:Int)(f_k:Int)(f_r:Int)(f_t:ByteArray)(f_y:ByteArray)(f_e:Int)(f_fa:Option Addr)(f_fn:Nat)(f_fc:Nat)(w:World):Calls prog 135 #[.agg #[.string f_is,.int .i64 f_iq,.int .i64 f_k,.int .i64 f_r,.string f_t,.string f_y,.int .i64 f_e,.slice f_fa f_fn f_fc]] w (GotB w):=by
 go_enter func135,ntmps135
 go_upto_region 1 with fail
 refine Zam (fun V hV=>?_)
 have B0:Hid (Box V w.heap.size #[.string f_is,.int .i64 f_iq,.int .i64 f_k,.int .i64 f_r,.string f_t,.string f_y,.int .i64 f_e,.slice f_fa f_fn f_fc] 27):=by rw[hV];exact ZaE _ _ _
 have HBV:Hid (Below w.heap.size w V):=by rw[hV];exact(by repeat first|exact ZR _|refine ZA ?_ _)
 clear hV
 have HS:Hid (∀ w',Below V.heap.size V w'->w'.cell? ⟨w.heap.size,0,none⟩=some (.string f_is)/\w'.cell? ⟨w.heap.size,1,none⟩=some (.int .i64 f_iq)/\w'.cell? ⟨w.heap.size,2,none⟩=some (.int .i64 f_k)/\w'.cell? ⟨w.heap.size,3,none⟩=some (.int .i64 f_r)/\w'.cell? ⟨w.heap.size,4,none⟩=some (.string f_t)/\w'.cell? ⟨w.heap.size,5,none⟩=some (.string f_y)/\w'.cell? ⟨w.heap.size,6,none⟩=some (.int .i64 f_e)/\w'.cell? ⟨w.heap.size,7,none⟩=some (.slice f_fa f_fn f_fc)):=fun w' h=>⟨(B0.out.kept h).cell 0 _ rfl,(B0.out.kept h).cell 1 _ rfl,(B0.out.kept h).cell 2 _ rfl,(B0.out.kept h).cell 3 _ rfl,(B0.out.kept h).cell 4 _ rfl,(B0.out.kept h).cell 5 _ rfl,(B0.out.kept h).cell 6 _ rfl,(B0.out.kept h).cell 7 _ rfl⟩
 obtain⟨k0_0,k0_1,k0_2,k0_3,k0_4,k0_5,k0_6,k0_7⟩:=HS.out V (ZR V)
 have hg:=fun op a b w=>ZcS 24 (by kernel_rfl) op a b #[.string f_is,.int .i64 f_iq] #[.string ⟨#[]⟩,.int .i64 0] w
 have he:=fun w=>eql36 (f_is,f_iq) (⟨#[]⟩,0) w
 cases hyx:eqF (f_is,f_iq) (⟨#[]⟩,0)
 all_goals
  rw[hyx]at he
  go_wp2_with fail
 all_goals
  go_ret
  exact⟨_,rfl,ZT HBV.out (ZR _)⟩
theorem nochange_any (x:Cg)(w w0:World)(hw0:Below w0.heap.size w0 w)(hx:x.Ok w0):Calls prog 136 #[.agg x.cells.toArray] w (GotB w):=by
 obtain⟨ht,hu,n,hn⟩:=hx
 cases n with
 |zero=>exact hn.elim
 |succ n =>
 have HT:=hid ht
 have HU:=hid hu
 have HX:Hid (ExAt (n+1) w0 x.f.b):=hn.at
 have HW0:=hid hw0
 clear ht hu hn hw0
 go_enter func136,ntmps136
 go_upto_region 1 with(first|(refine Za9 rfl 46 (.tmp 0) rfl x.cells rfl ?_)|fail)
 refine Zam (fun V hV=>?_)
 have HXB:Hid (Box V w.heap.size x.cells.toArray 46):=by rw[hV];exact ZaE _ _ _
 have HBV:Hid (Below w.heap.size w V):=by rw[hV];exact Zab _
 clear hV
 have HWV:Hid (Below w0.heap.size w0 V):=HW0.out.trans (HBV.out.mono HW0.out.size)
 go_wp2_with (first|((with_reducible refine Zaq 32 ?_);refine Zas rfl 32 _ rfl w.heap.size 1 (Tb.cells x.t) rfl (fun j v hj=>HXB.out.cell (1+j) v (Za8 (k:=1) (m:=4) hj rfl)) _ underlying32 rfl (by kernel_rfl) ?_;intro v hv;obtain rfl:=hv.out)|((with_reducible refine Zaq 44 ?_);refine Zas rfl 44 _ rfl w.heap.size 5 (Ft.cells x.f) rfl (fun j v hj=>HXB.out.cell (5+j) v (Za8 (k:=5) (m:=18) hj rfl)) _ underlying44 rfl (by kernel_rfl) ?_;intro v hv;obtain rfl:=hv.out)|((with_reducible refine Zaw 32 ?_);refine Zah rfl 32 #[] rfl zeroT.cells (fun w=>build32 w) ?_;intro v hv;obtain rfl:=hv.out)|((with_reducible refine Zaw 44 ?_);refine Zah rfl 44 #[] rfl zeroFt.cells (fun w=>build44 w) ?_;intro v hv;obtain rfl:=hv.out)|(go_at_call 157;refine(Zd2 _ _ _ _ _ _ _ _ _ _ _ _ _ (HT.out.kept HWV.out) (FdsAt.nil _ _)).mono ?_;rintro e w' ⟨b,rfl,hb⟩;have HW:Hid (Below V.heap.size V w'):=hb;have HXB:=hid (HXB.out.kept hb);clear hb;have x0:=HXB.out.cell 0 (.int .i64 x.k) rfl;have x23:=HXB.out.cell 23 (.string x.m) rfl;cases b)|(go_at_call 158;refine(Zc4 _ _ _ _ _ _ _ _ _ _ _ _ _ _ _ _ _ _ _ _ _ _ _ _ _ _ _ _ _ _ _ _ _ _ _ _ _ _ _ _ _ _ _ _ _ _ _ _ _ (n+1) (HU.out.kept (HWV.out.trans (HW.out.mono HWV.out.size))) (Zao.nil _ _) (HX.out.kept (HWV.out.trans (HW.out.mono HWV.out.size))) ⟨Zao.nil _ _,by decide,[],rfl,by decide,Zaf.nil _ _,fun y hy=>(by cases hy)⟩).mono ?_;rintro e w' ⟨b,rfl,hb⟩;have HW:Hid (Below V.heap.size V w'):=ZT HW.out hb;have HXB:=hid (HXB.out.kept hb);clear hb;have x0:=HXB.out.cell 0 (.int .i64 x.k) rfl;have x23:=HXB.out.cell 23 (.string x.m) rfl;cases b)|fail)
 all_goals
  go_ret
  exact⟨_,rfl,ZT HBV.out HW.out⟩
theorem erasure_any (x_k:Int)(x_e:ByteArray)(x_y:ByteArray)(x_is:ByteArray)(x_iq:Int)(w:World)(hy:x_y.size<=140737488355328):Calls prog 96 #[.agg #[.int .i64 x_k,.string x_e,.string x_y,.string x_is,.int .i64 x_iq]] w (GotB w):=by
 have HY:=hid hy
 clear hy
 go_enter func96,ntmps96
 go_upto_region 1 with fail
 refine Zam (fun V hV=>?_)
 have B0:Hid (Box V w.heap.size #[.int .i64 x_k,.string x_e,.string x_y,.string x_is,.int .i64 x_iq] 29):=by rw[hV];exact ZaE _ _ _
 have HBV:Hid (Below w.heap.size w V):=by rw[hV];exact(by repeat first|exact ZR _|refine ZA ?_ _)
 clear hV
 have HS:Hid (∀ w',Below V.heap.size V w'->w'.cell? ⟨w.heap.size,0,none⟩=some (.int .i64 x_k)/\w'.cell? ⟨w.heap.size,1,none⟩=some (.string x_e)/\w'.cell? ⟨w.heap.size,2,none⟩=some (.string x_y)/\w'.cell? ⟨w.heap.size,3,none⟩=some (.string x_is)/\w'.cell? ⟨w.heap.size,4,none⟩=some (.int .i64 x_iq)):=fun w' h=>⟨(B0.out.kept h).cell 0 _ rfl,(B0.out.kept h).cell 1 _ rfl,(B0.out.kept h).cell 2 _ rfl,(B0.out.kept h).cell 3 _ rfl,(B0.out.kept h).cell 4 _ rfl⟩
 obtain⟨k0_0,k0_1,k0_2,k0_3,k0_4⟩:=HS.out V (ZR V)
 have hg:=fun op a b w=>ZcS 24 (by kernel_rfl) op a b #[.string x_is,.int .i64 x_iq] #[.string ⟨#[]⟩,.int .i64 0] w
 have he:=fun w=>eql36 (x_is,x_iq) (⟨#[]⟩,0) w
 cases hyx:eqF (x_is,x_iq) (⟨#[]⟩,0)
 all_goals
  rw[hyx]at he
  go_wp2_with (first|(go_at_call 140;refine(ZbF _ _).mono ?_;rintro e w' ⟨b,rfl,hb⟩;have HW:Hid (Below V.heap.size V w'):=ZT (by repeat first|exact ZR _|exact ZH (by assumption)|refine ZA ?_ _|refine ZD ?_|refine ZN ?_ _) hb;clear hb;have KK:=HS.out _ HW.out;obtain⟨k0_0,k0_1,k0_2,k0_3,k0_4⟩:=KK;cases b)|(go_at_call 141;refine(key15_any _ HY.out _).mono ?_;rintro e w' ⟨b,rfl,hb⟩;have HW:Hid (Below V.heap.size V w'):=ZT (by repeat first|exact ZR _|exact ZH (by assumption)|refine ZA ?_ _|refine ZD ?_|refine ZN ?_ _) hb;clear hb;have KK:=HS.out _ HW.out;obtain⟨k0_0,k0_1,k0_2,k0_3,k0_4⟩:=KK;cases b)|fail)
 all_goals
  go_ret
  exact⟨_,rfl,ZT HBV.out (by repeat first|exact ZR _|exact ZH (by assumption)|refine ZA ?_ _|refine ZD ?_|refine ZN ?_ _)⟩
theorem ZdQ (l:List En)(ao:Option Addr)(c at_:Nat)(hl:l.length<=140737488355328)(hat:at_<l.length)(w:World)(h:Zaf En.cells 40 w ao l):Calls prog 95 #[.slice ao l.length c,.int .i64 at_] w (GotB w):=by
 have H1:=hid h
 obtain⟨x,hx⟩:∃ x,l[at_]?=some x:=⟨l[at_],List.getElem?_eq_getElem hat⟩
 have HXI:=hid hx
 clear h hx
 go_enter func95,ntmps95
 go_wp2_with fail
 go_loopw [5] (fun v wr=>∃ i:Nat,i<=at_/\v=.int .i64 i/\Hid (Below w.heap.size w wr)) (fun v _=>at_ - (intOf v).toNat)
 case atStart=>exact⟨0,by omega,rfl,ZR w⟩
 case round =>
  obtain⟨i,hi,rfl,HB⟩:=hrel
  rename World=>wr
  by_cases hlt:i<at_
  · obtain⟨y,hy⟩:∃ y,l[i]?=some y:=⟨l[i],List.getElem?_eq_getElem (by omega)⟩
    obtain⟨b1,o1,rfl,hr1⟩:=(H1.out.kept HB.out).some (by omega)
    have c2:wr.cell? ⟨b1,o1+i*40+2,none⟩=some (.int .i64 y.kind):=hr1 i y hy 2 _ rfl
    have c3:wr.cell? ⟨b1,o1+i*40+3,none⟩=some (.string y.src):=hr1 i y hy 3 _ rfl
    have c4:wr.cell? ⟨b1,o1+i*40+4,none⟩=some (.int .i64 y.seq):=hr1 i y hy 4 _ rfl
    have d3:wr.cell? ⟨b1,o1+at_*40+3,none⟩=some (.string x.src):=hr1 at_ x HXI.out 3 _ rfl
    have d4:wr.cell? ⟨b1,o1+at_*40+4,none⟩=some (.int .i64 x.seq):=hr1 at_ x HXI.out 4 _ rfl
    clear hr1 hy
    have hg:=fun op a b w=>ZcS 24 (by kernel_rfl) op a b #[.string y.src,.int .i64 y.seq] #[.string x.src,.int .i64 x.seq] w
    have he:=fun w=>eql36 (y.src,y.seq) (x.src,x.seq) w
    cases hk:(y.kind==1)
    all_goals cases hyx:eqF (y.src,y.seq) (x.src,x.seq)
    all_goals
     rw[hyx]at he
     go_wp2_with fail
     go_quiet (fail)
     go_wp2_with fail
     first
      |(go_ret;exact⟨_,rfl,Zag HB.out _⟩)
      |(go_roundw;(case rel=>exact⟨i+1,by omega,by go_num,Zag HB.out _⟩);(case measure=>simp[intOf];omega))
  · go_wp2_with fail
    go_ret
    exact⟨_,rfl,HB.out⟩
theorem eql24 (d:Nat)(x y:FID)(w:World):(Op.equalIn (d+1+1) 24 (fidV x) (fidV y)).run prog w=.ok (eqF x y) w:=by
 have u3:=underlying3
 have u9:=underlying9
 have a3:=Tryz.isAgg3
 have z3:=Tryz.sizeOf3
 have a9:=Tryz.isAgg9
 have z9:=Tryz.sizeOf9
 have hS:prog.underlying 24=some (.struct (prog.fieldsOf 24)):=by kernel_rfl
 have hp:prog.stoodInHeld 24=false:=by kernel_rfl
 rw[run_equalIn_agg w (d+1) 24 _ _ hS hp]
 simp only[Program.fieldsOf,underlying24]
 go_simp
 unfold eqF
 by_cases h1:x.1.toList=y.1.toList<;>by_cases h2:x.2=y.2<;>simp[h1,h2]
theorem eql29 (k:Int)(a b:ByteArray)(x:FID):∃ q:Bool,∀ w,(binOp .eql 29 (.agg #[.int .i64 k,.string a,.string b,.string x.1,.int .i64 x.2]) (.agg #[.int .i64 0,.string ⟨#[]⟩,.string ⟨#[]⟩,.string ⟨#[]⟩,.int .i64 0])).run prog w=.ok (.bool q) w:=by
 have u3:=underlying3
 have u9:=underlying9
 have a3:=Tryz.isAgg3
 have z3:=Tryz.sizeOf3
 have a9:=Tryz.isAgg9
 have z9:=Tryz.sizeOf9
 have a24:=Tryz.isAgg24
 have z24:=Tryz.sizeOf24
 have hS:prog.underlying 29=some (.struct (prog.fieldsOf 29)):=by kernel_rfl
 have hp:prog.stoodInHeld 29=false:=by kernel_rfl
 have h24:∀ w,(Op.equalIn 9999 24 (.agg #[.string x.1,.int .i64 x.2]) (.agg #[.string ⟨#[]⟩,.int .i64 0])).run prog w=.ok (eqF x (⟨#[]⟩,0)) w:=fun w=>eql24 9997 x (⟨#[]⟩,0) w
 refine⟨decide (k=0)&&decide (a.toList=[])&&decide (b.toList=[])&&eqF x (⟨#[]⟩,0),fun w=>?_⟩
 rw[run_eql_struct,show(10000:Nat)=9999+1 from rfl,run_equalIn_agg w 9999 29 _ _ hS hp]
 simp only[Program.fieldsOf,underlying29]
 clear hS hp
 generalize eqF x (⟨#[]⟩,0)=q at *
 by_cases h1:k=0<;>by_cases h2:a.toList=[]<;>by_cases h3:b.toList=[]<;>cases q<;>simp[Op.eqFields,run_equalIn_int,run_equalIn_string,u3,u9,a3,z3,a9,z9,a24,z24,h24,h1,h2,h3,Result.andThen,go_sem]
theorem eform_any (e:En)(w w0:World)(hw0:Below w0.heap.size w0 w)(hx:e.cg.Ok w0):Calls prog 93 #[.agg e.cells.toArray] w (GotP (fun b=>b=true->e.kind=1∨e.kind=2∨e.kind=3) w):=by
 have HCG:=hid hx
 have HW0:=hid hw0
 clear hx hw0
 go_enter func93,ntmps93
 go_upto_region 1 with(first|(refine Za9 rfl 48 (.tmp 0) rfl e.cells rfl ?_)|fail)
 refine Zam (fun V hV=>?_)
 have HEB:Hid (Box V w.heap.size e.cells.toArray 48):=by rw[hV];exact ZaE _ _ _
 have HBV:Hid (Below w.heap.size w V):=by rw[hV];exact Zab _
 clear hV
 have HWV:Hid (Below w0.heap.size w0 V):=HW0.out.trans (HBV.out.mono HW0.out.size)
 obtain⟨q5,hq5⟩:=eql29 e.ek e.een e.eky (e.esr,e.esq)
 have hg:=fun op a b w=>ZcS 29 (by kernel_rfl) op a b #[.int .i64 e.ek,.string e.een,.string e.eky,.string e.esr,.int .i64 e.esq] #[.int .i64 0,.string ⟨#[]⟩,.string ⟨#[]⟩,.string ⟨#[]⟩,.int .i64 0] w
 have m0:=HEB.out.cell 11 (.int .i64 e.ek) rfl
 have hk:e.kind=1∨e.kind=2∨e.kind=3∨(e.kind≠1/\e.kind≠2/\e.kind≠3):=by omega
 cases q5
 all_goals
  go_upto_region 3 with(first|((with_reducible refine Zaq 27 ?_);refine Zas rfl 27 _ rfl w.heap.size 3 (En.fct e) rfl (fun j v hj=>HEB.out.cell (3+j) v (Za8 (k:=3) (m:=8) hj rfl)) _ underlying27 rfl (by kernel_rfl) ?_;intro v hv;obtain rfl:=hv.out)|((with_reducible refine Zaq 46 ?_);refine Zas rfl 46 _ rfl w.heap.size 16 (Cg.cells e.cg) rfl (fun j v hj=>HEB.out.cell (16+j) v (Za8 (k:=16) (m:=24) hj rfl)) _ underlying46 rfl (by kernel_rfl) ?_;intro v hv;obtain rfl:=hv.out)|(go_at_call 135;refine(nofact_any _ _ _ _ _ _ _ _ _ _ _).mono ?_;rintro ee w' ⟨b,rfl,hb⟩;have HW:Hid (Below V.heap.size V w'):=hb;have HEB:=hid (HEB.out.kept hb);clear hb;have k2:=HEB.out.cell 2 (.int .i64 e.kind) rfl;cases b)|(go_at_call 136;refine(nochange_any e.cg _ w0 (HWV.out.trans (HW.out.mono HWV.out.size)) HCG.out).mono ?_;rintro ee w' ⟨b,rfl,hb⟩;have HW:Hid (Below V.heap.size V w'):=ZT HW.out hb;have HEB:=hid (HEB.out.kept hb);clear hb;have k2:=HEB.out.cell 2 (.int .i64 e.kind) rfl;cases b)|fail)
 all_goals
  rename World=>w5
  have HW5:Hid (Below w.heap.size w w5):=ZT HBV.out HW.out
  have m1:=HEB.out.cell 11 (.int .i64 e.ek) rfl
  have m2:=HEB.out.cell 12 (.string e.een) rfl
  have m3:=HEB.out.cell 13 (.string e.eky) rfl
  have m4:=HEB.out.cell 14 (.string e.esr) rfl
  have m5:=HEB.out.cell 15 (.int .i64 e.esq) rfl
  rcases hk with hk|hk|hk|⟨hk1,hk2,hk3⟩
 all_goals
  first|have e1:(e.kind==1)=true:=beq_iff_eq.2 (by omega)|have e1:(e.kind==1)=false:=beq_eq_false_iff_ne.2 (by omega)
  first|have e2:(e.kind==2)=true:=beq_iff_eq.2 (by omega)|have e2:(e.kind==2)=false:=beq_eq_false_iff_ne.2 (by omega)
  first|have e3:(e.kind==3)=true:=beq_iff_eq.2 (by omega)|have e3:(e.kind==3)=false:=beq_eq_false_iff_ne.2 (by omega)
  go_wp2_with fail
  go_ret
  refine⟨_,rfl,fun h=>?_,HW5.out⟩
  first|omega|cases h
theorem formed_any (e:En)(w:World)(hy:e.ky.size<=140737488355328):Calls prog 137 #[.agg e.fct.toArray] w (GotP (fun b=>b=true->1<=e.seq/\(e.fk=1∨e.fk=2∨e.fk=3)) w):=by
 have HKY:=hid hy
 clear hy
 go_enter func137,ntmps137
 go_upto_region 1 with(first|(refine Za9 rfl 27 (.tmp 0) rfl e.fct rfl ?_)|fail)
 refine Zam (fun V hV=>?_)
 have HFB:Hid (Box V w.heap.size e.fct.toArray 27):=by rw[hV];exact ZaE _ _ _
 have HBV:Hid (Below w.heap.size w V):=by rw[hV];exact Zab _
 clear hV
 have HW:Hid (Below V.heap.size V V):=ZR V
 have f0:=HFB.out.cell 0 (.string e.src) rfl
 have f1:=HFB.out.cell 1 (.int .i64 e.seq) rfl
 have f2:=HFB.out.cell 2 (.int .i64 e.fk) rfl
 have f3:=HFB.out.cell 3 (.int .i64 e.ref) rfl
 have f4:=HFB.out.cell 4 (.string e.tb) rfl
 have f5:=HFB.out.cell 5 (.string e.ky) rfl
 have f6:=HFB.out.cell 6 (.int .i64 e.ev) rfl
 have f7:=HFB.out.cell 7 (.slice e.fa e.vs.length e.fc) rfl
 have hk:e.fk=1∨e.fk=2∨e.fk=3∨(e.fk≠1/\e.fk≠2/\e.fk≠3):=by omega
 cases h1:decide (e.seq<1)
 all_goals cases h2:decide ((1099511627776:Int)<e.seq)
 all_goals
  have HD1:=hid h1
  rcases hk with hk|hk|hk|⟨hk1,hk2,hk3⟩
 all_goals
  first|have e1:(e.fk==1)=true:=beq_iff_eq.2 (by omega)|have e1:(e.fk==1)=false:=beq_eq_false_iff_ne.2 (by omega)
  first|have e2:(e.fk==2)=true:=beq_iff_eq.2 (by omega)|have e2:(e.fk==2)=false:=beq_eq_false_iff_ne.2 (by omega)
  first|have e3:(e.fk==3)=true:=beq_iff_eq.2 (by omega)|have e3:(e.fk==3)=false:=beq_eq_false_iff_ne.2 (by omega)
  go_wp2_with (first|(go_at_call 140;refine(ZbF _ _).mono ?_;rintro ee w' ⟨b,rfl,hb⟩;have HW:Hid (Below V.heap.size V w'):=ZT HW.out hb;have HFB:=hid (HFB.out.kept hb);clear hb;have f0:=HFB.out.cell 0 (.string e.src) rfl;have f1:=HFB.out.cell 1 (.int .i64 e.seq) rfl;have f2:=HFB.out.cell 2 (.int .i64 e.fk) rfl;have f3:=HFB.out.cell 3 (.int .i64 e.ref) rfl;have f4:=HFB.out.cell 4 (.string e.tb) rfl;have f5:=HFB.out.cell 5 (.string e.ky) rfl;have f6:=HFB.out.cell 6 (.int .i64 e.ev) rfl;have f7:=HFB.out.cell 7 (.slice e.fa e.vs.length e.fc) rfl;cases b)|(go_at_call 159;refine(key5_any _ _ HKY.out).mono ?_;rintro ee w' ⟨b,rfl,hb⟩;have HW:Hid (Below V.heap.size V w'):=ZT HW.out hb;have HFB:=hid (HFB.out.kept hb);clear hb;have f0:=HFB.out.cell 0 (.string e.src) rfl;have f1:=HFB.out.cell 1 (.int .i64 e.seq) rfl;have f2:=HFB.out.cell 2 (.int .i64 e.fk) rfl;have f3:=HFB.out.cell 3 (.int .i64 e.ref) rfl;have f4:=HFB.out.cell 4 (.string e.tb) rfl;have f5:=HFB.out.cell 5 (.string e.ky) rfl;have f6:=HFB.out.cell 6 (.int .i64 e.ev) rfl;have f7:=HFB.out.cell 7 (.slice e.fa e.vs.length e.fc) rfl;cases b)|fail)
 all_goals
  go_ret
  refine⟨_,rfl,fun h=>?_,ZT HBV.out HW.out⟩
  first
   |(exfalso;cases h;done)
   |(have:=of_decide_eq_false HD1.out;exact⟨by omega,by omega⟩)
def FactPost (l:List Tb)(e:En)(w:World)(q:Ending)(w':World):Prop:=∃ k:Int,q=.returned (.int .i64 k)/\(k=0->1<=e.seq/\(e.fk=1∨e.fk=2∨e.fk=3)/\(e.fk≠3->∃ t,findT l e.tb=some t))/\Below w.heap.size w w'
theorem check13_any (c:Ct)(e:En)(l:List Tb)(w w0:World)(hn:c.tn=l.length)(hll:l.length<=100000)(hok:∀ t∈l,FdsAt w0 t.fa t.fn)(h:Zaf Tb.cells 4 w c.ta l)(hw0:Below w0.heap.size w0 w)(he:e.Seen w0):Calls prog 94 #[c.val,.agg e.fct.toArray] w (FactPost l e w):=by
 obtain⟨ta,tn,tc,fa,fn,fc,da,dn,dc,qa,qn,qc⟩:=c
 dsimp only[Ct.val]at *
 subst hn
 have HL:=hid h
 have HOK:=hid hok
 have HLL:=hid hll
 have HW0:=hid hw0
 have HSE:=hid he
 have HKY:Hid (e.ky.size<=140737488355328):=he.str.2.2.1
 clear h hok hll hw0 he
 go_enter func94,ntmps94
 go_upto_region 1 with(first|(refine Za9 rfl 27 (.tmp 1) rfl e.fct rfl ?_)|fail)
 refine Zam (fun V hV=>?_)
 have HCB:Hid (Box V w.heap.size (Ct.cells ⟨ta,l.length,tc,fa,fn,fc,da,dn,dc,qa,qn,qc⟩).toArray 118):=by rw[hV];exact Za4 _ _ _ _ _
 have HFB:Hid (Box V (w.heap.size+1) e.fct.toArray 27):=by rw[hV];exact Za3 _ _ _ _ _
 have HBV:Hid (Below w.heap.size w V):=by rw[hV];exact(by repeat first|exact ZR _|refine ZA ?_ _)
 clear hV
 have HW:Hid (Below V.heap.size V V):=ZR V
 go_upto_region 3 with(first|((with_reducible refine Zaq 27 ?_);refine Zaj rfl 27 _ rfl (w.heap.size+1) (En.fct e) 27 rfl HFB.out _ underlying27 rfl (by kernel_rfl) ?_;intro v hv;obtain rfl:=hv.out)|(go_at_call 137;refine(formed_any e _ HKY.out).mono ?_;rintro ee w' ⟨b,rfl,hq,hb⟩;have HF:=hid hq;have HW:Hid (Below V.heap.size V w'):=hb;have HFB:=hid (HFB.out.kept hb);have HCB:=hid (HCB.out.kept hb);clear hb;have f0:=HFB.out.cell 0 (.string e.src) rfl;have f1:=HFB.out.cell 1 (.int .i64 e.seq) rfl;have f2:=HFB.out.cell 2 (.int .i64 e.fk) rfl;have f3:=HFB.out.cell 3 (.int .i64 e.ref) rfl;have f4:=HFB.out.cell 4 (.string e.tb) rfl;have f5:=HFB.out.cell 5 (.string e.ky) rfl;have f6:=HFB.out.cell 6 (.int .i64 e.ev) rfl;have f7:=HFB.out.cell 7 (.slice e.fa e.vs.length e.fc) rfl;clear hq;cases b)|fail)
 all_goals first
  |(go_ret;exact⟨_,rfl,fun h=>absurd h (by decide),ZT HBV.out HW.out⟩)
  |skip
 by_cases hk3:e.fk=3
 · have e3:(e.fk==3)=true:=beq_iff_eq.2 hk3
   have HK3:=hid hk3
   clear hk3
   go_wp2_with fail
   go_ret
   exact⟨_,rfl,fun h=>⟨(HF.out (by first|rfl|trivial)).1,(HF.out (by first|rfl|trivial)).2,fun h=>absurd HK3.out h⟩,ZT HBV.out HW.out⟩
 · have e3:(e.fk==3)=false:=beq_eq_false_iff_ne.2 hk3
   go_upto_region 8 with(first|((with_reducible refine Zaq 118 ?_);refine Zaj rfl 118 _ rfl w.heap.size (Ct.cells ⟨ta,l.length,tc,fa,fn,fc,da,dn,dc,qa,qn,qc⟩) 118 rfl HCB.out _ underlying118 rfl (by kernel_rfl) ?_;intro v hv;obtain rfl:=hv.out)|(go_at_call 138;refine(Ze6 ⟨ta,l.length,tc,fa,fn,fc,da,dn,dc,qa,qn,qc⟩ _ _ w0 l rfl HLL.out HOK.out (HL.out.kept (ZT HBV.out HW.out))).mono ?_;rintro ee w' ⟨t5,b5,rfl,hx5,hf5,hb⟩;have HX5:=hid hx5;have HF5:=hid hf5;clear hx5 hf5;have HW:Hid (Below V.heap.size V w'):=ZT HW.out hb;have HFB:=hid (HFB.out.kept hb);have HCB:=hid (HCB.out.kept hb);clear hb;have f0:=HFB.out.cell 0 (.string e.src) rfl;have f1:=HFB.out.cell 1 (.int .i64 e.seq) rfl;have f2:=HFB.out.cell 2 (.int .i64 e.fk) rfl;have f3:=HFB.out.cell 3 (.int .i64 e.ref) rfl;have f4:=HFB.out.cell 4 (.string e.tb) rfl;have f5:=HFB.out.cell 5 (.string e.ky) rfl;have f6:=HFB.out.cell 6 (.int .i64 e.ev) rfl;have f7:=HFB.out.cell 7 (.slice e.fa e.vs.length e.fc) rfl;cases b5)|((with_reducible refine Zbf 32 ?_);refine Zbm rfl rfl 32 _ _ rfl rfl rfl (Tb.cells t5) rfl rfl (by kernel_rfl) (by rfl) ?_;intro g7 w' hbx hg7 hb;have HTB:=hid hbx;clear hg7 hbx;have HW:Hid (Below V.heap.size V w'):=ZT HW.out hb;have HFB:=hid (HFB.out.kept hb);have HCB:=hid (HCB.out.kept hb);clear hb;have f0:=HFB.out.cell 0 (.string e.src) rfl;have f1:=HFB.out.cell 1 (.int .i64 e.seq) rfl;have f2:=HFB.out.cell 2 (.int .i64 e.fk) rfl;have f3:=HFB.out.cell 3 (.int .i64 e.ref) rfl;have f4:=HFB.out.cell 4 (.string e.tb) rfl;have f5:=HFB.out.cell 5 (.string e.ky) rfl;have f6:=HFB.out.cell 6 (.int .i64 e.ev) rfl;have f7:=HFB.out.cell 7 (.slice e.fa e.vs.length e.fc) rfl;have t2:=HTB.out.cell 2 (.slice t5.fa t5.fn t5.fc) rfl)|fail)
   all_goals first
    |(go_ret;exact⟨_,rfl,fun h=>absurd h (by decide),ZT HBV.out HW.out⟩)
    |skip
   have HDONE:Hid (1<=e.seq/\(e.fk=1∨e.fk=2∨e.fk=3)/\(e.fk≠3->∃ t,findT l e.tb=some t)):=⟨(HF.out (by first|rfl|trivial)).1,(HF.out (by first|rfl|trivial)).2,fun _=>⟨t5,by simpa using HF5.out⟩⟩
   clear hk3
   obtain⟨fs,hfn,hfl,hfu,hfs⟩:=HX5.out
   have HFS:=hid hfs
   have HTN:=hid hfn
   clear hfs hfu
   rw[hfn]at t2
   by_cases hlen:e.vs.length=fs.length
   · have hlv:=HSE.out.len
     go_wp2_with fail
     go_loopw [7] (fun v wr=>∃ i:Nat,i<=e.vs.length/\v=.int .i64 i/\Hid (Below w'.heap.size w' wr)) (fun v _=>e.vs.length - (intOf v).toNat)
     case atStart=>exact⟨0,by omega,rfl,ZR w'⟩
     case round =>
      obtain⟨i,hi,rfl,HR⟩:=hrel
      rename World=>wr
      have f7:=(HFB.out.kept HR.out).cell 7 (.slice e.fa e.vs.length e.fc) rfl
      have HWR:Hid (Below w.heap.size w wr):=ZT HBV.out (ZT HW.out HR.out)
      by_cases hlt:i<e.vs.length
      · obtain⟨x,hx⟩:∃ x,e.vs[i]?=some x:=⟨e.vs[i],List.getElem?_eq_getElem hlt⟩
        obtain⟨f,hf⟩:∃ f,fs[i]?=some f:=⟨fs[i]'(by omega),List.getElem?_eq_getElem (by omega)⟩
        obtain⟨b1,o1,hfa,hr1⟩:=(HSE.out.lies.kept (HW0.out.trans (HWR.out.mono HW0.out.size))).some (by omega)
        obtain⟨b2,o2,hta,hr2⟩:=(HFS.out.kept (HW0.out.trans (HWR.out.mono HW0.out.size))).some (by omega)
        have HFA:=hid hfa
        have HTA:=hid hta
        have HXC:Hid (∀ j v,(valC x)[j]?=some v->wr.cell? ⟨b1,o1+i*3+j,none⟩=some v):=fun j v hj=>hr1 i x hx j v hj
        have HFC:Hid (∀ j v,([.int .i64 f.k,.slice f.ua f.un f.uc,.string f.o]:List Value)[j]?=some v->wr.cell? ⟨b2,o2+i*4+1+j,none⟩=some v):=fun j v hj=>by
         rw[Nat.add_assoc,Nat.add_assoc,<-Nat.add_assoc o2,Nat.add_comm 1 j]
         exact hr2 i f hf (j+1) v (by simpa [Fd.cells]using hj)
        have HXS:Hid (x.2.2.size<=140737488355328):=(HSE.out.val x (List.mem_of_getElem? hx)).1
        clear hr1 hr2 hx hf hfa hta
        go_upto_region 13 with fail
        refine ZaI (S:=fun w'=>Below wr.heap.size wr w') (.free 0 (.free 1 (.free 2 (.free 3 (.free 4 (.free 5 (.free 6 (.free 7 (.free 8 (.free 9 (.free 10 (.one 11 (.free 12 .done))))))))))))) (by kernel_rfl) (by kernel_rfl) (fun _ _ _ _ _ h=>h) (by kernel_rfl) (by kernel_rfl) (ZD (ZR _)) ?_
        refine Zac _ (.pointer (some ⟨w.heap.size+1,7,none⟩)) rfl (by rfl) (by intro wq hSw;have f7:=(HFB.out.kept (ZT HR.out hSw)).cell 7 (.slice (some ⟨b1,o1,none⟩) e.vs.length e.fc) (by rw[<-HFA.out];rfl);have t2:=(HTB.out.kept (ZT HR.out hSw)).cell 2 (.slice (some ⟨b2,o2,none⟩) fs.length t5.fc) (by rw[<-HTA.out,<-HTN.out];rfl);go_simp) ?_
        try simp only[Act.put,m1,m2,m3]
        refine Zac _ (.slice (some ⟨b1,o1,none⟩) e.vs.length e.fc) rfl (by rfl) (by intro wq hSw;have f7:=(HFB.out.kept (ZT HR.out hSw)).cell 7 (.slice (some ⟨b1,o1,none⟩) e.vs.length e.fc) (by rw[<-HFA.out];rfl);have t2:=(HTB.out.kept (ZT HR.out hSw)).cell 2 (.slice (some ⟨b2,o2,none⟩) fs.length t5.fc) (by rw[<-HTA.out,<-HTN.out];rfl);go_simp) ?_
        try simp only[Act.put,m1,m2,m3]
        refine Zac _ (.int .i64 i) rfl (by rfl) (by intro wq hSw;have f7:=(HFB.out.kept (ZT HR.out hSw)).cell 7 (.slice (some ⟨b1,o1,none⟩) e.vs.length e.fc) (by rw[<-HFA.out];rfl);have t2:=(HTB.out.kept (ZT HR.out hSw)).cell 2 (.slice (some ⟨b2,o2,none⟩) fs.length t5.fc) (by rw[<-HTA.out,<-HTN.out];rfl);go_simp) ?_
        try simp only[Act.put,m1,m2,m3]
        refine Zac _ (.pointer (some ⟨b1,o1+i*3,none⟩)) rfl (by rfl) (by intro wq hSw;have f7:=(HFB.out.kept (ZT HR.out hSw)).cell 7 (.slice (some ⟨b1,o1,none⟩) e.vs.length e.fc) (by rw[<-HFA.out];rfl);have t2:=(HTB.out.kept (ZT HR.out hSw)).cell 2 (.slice (some ⟨b2,o2,none⟩) fs.length t5.fc) (by rw[<-HTA.out,<-HTN.out];rfl);go_simp) ?_
        try simp only[Act.put,m1,m2,m3]
        refine ZbV _ rfl (by rfl) 37 _ rfl b1 (o1+i*3) (valC x) rfl (fun w hS j v hj=>Zaa (HXC.out j v hj) hS) _ underlying37 rfl (by kernel_rfl) ?_
        intro v4 hv4
        subst hv4
        try simp only[Act.put,m1,m2,m3]
        refine Zac _ (.pointer (some ⟨g7,2,none⟩)) rfl (by rfl) (by intro wq hSw;have f7:=(HFB.out.kept (ZT HR.out hSw)).cell 7 (.slice (some ⟨b1,o1,none⟩) e.vs.length e.fc) (by rw[<-HFA.out];rfl);have t2:=(HTB.out.kept (ZT HR.out hSw)).cell 2 (.slice (some ⟨b2,o2,none⟩) fs.length t5.fc) (by rw[<-HTA.out,<-HTN.out];rfl);go_simp) ?_
        try simp only[Act.put,m1,m2,m3]
        refine Zac _ (.slice (some ⟨b2,o2,none⟩) fs.length t5.fc) rfl (by rfl) (by intro wq hSw;have f7:=(HFB.out.kept (ZT HR.out hSw)).cell 7 (.slice (some ⟨b1,o1,none⟩) e.vs.length e.fc) (by rw[<-HFA.out];rfl);have t2:=(HTB.out.kept (ZT HR.out hSw)).cell 2 (.slice (some ⟨b2,o2,none⟩) fs.length t5.fc) (by rw[<-HTA.out,<-HTN.out];rfl);go_simp) ?_
        try simp only[Act.put,m1,m2,m3]
        refine Zac _ (.int .i64 i) rfl (by rfl) (by intro wq hSw;have f7:=(HFB.out.kept (ZT HR.out hSw)).cell 7 (.slice (some ⟨b1,o1,none⟩) e.vs.length e.fc) (by rw[<-HFA.out];rfl);have t2:=(HTB.out.kept (ZT HR.out hSw)).cell 2 (.slice (some ⟨b2,o2,none⟩) fs.length t5.fc) (by rw[<-HTA.out,<-HTN.out];rfl);go_simp) ?_
        try simp only[Act.put,m1,m2,m3]
        refine Zac _ (.pointer (some ⟨b2,o2+i*4,none⟩)) rfl (by rfl) (by intro wq hSw;have f7:=(HFB.out.kept (ZT HR.out hSw)).cell 7 (.slice (some ⟨b1,o1,none⟩) e.vs.length e.fc) (by rw[<-HFA.out];rfl);have t2:=(HTB.out.kept (ZT HR.out hSw)).cell 2 (.slice (some ⟨b2,o2,none⟩) fs.length t5.fc) (by rw[<-HTA.out,<-HTN.out];rfl);go_simp) ?_
        try simp only[Act.put,m1,m2,m3]
        refine Zac _ (.pointer (some ⟨b2,o2+i*4+1,none⟩)) rfl (by rfl) (by intro wq hSw;have f7:=(HFB.out.kept (ZT HR.out hSw)).cell 7 (.slice (some ⟨b1,o1,none⟩) e.vs.length e.fc) (by rw[<-HFA.out];rfl);have t2:=(HTB.out.kept (ZT HR.out hSw)).cell 2 (.slice (some ⟨b2,o2,none⟩) fs.length t5.fc) (by rw[<-HTA.out,<-HTN.out];rfl);go_simp) ?_
        try simp only[Act.put,m1,m2,m3]
        refine ZbV _ rfl (by rfl) 35 _ rfl b2 (o2+i*4+1) [.int .i64 f.k,.slice f.ua f.un f.uc,.string f.o] rfl (fun w hS j v hj=>Zaa (HFC.out j v hj) hS) _ underlying35 rfl (by kernel_rfl) ?_
        intro v10 hv10
        subst hv10
        try simp only[Act.put,m1,m2,m3]
        refine ZaN _ rfl (by rfl) (fun K hK=>?_)
        go_wp2_with (go_at_call 139;refine(has_any _ _ _ _ _ _ _ _ _ HXS.out).mono ?_;rintro ee w6 ⟨b6,rfl,hb⟩;have HS6:Hid (Below wr.heap.size wr w6):=ZT (ZD (ZR _)) hb;clear hb)
        refine hK.out _ _ HS6.out (fun hHeld=>?_)
        clear hK K
        try simp only[Act.put,m1,m2,m3]
        refine Zac _ (.bool (!b6)) rfl (by rfl) (by intro wq hSw;have f7:=(HFB.out.kept (ZT HR.out hSw)).cell 7 (.slice (some ⟨b1,o1,none⟩) e.vs.length e.fc) (by rw[<-HFA.out];rfl);have t2:=(HTB.out.kept (ZT HR.out hSw)).cell 2 (.slice (some ⟨b2,o2,none⟩) fs.length t5.fc) (by rw[<-HTA.out,<-HTN.out];rfl);go_simp) ?_
        try simp only[Act.put,m1,m2,m3]
        refine Zbb ?_
        cases b6
        all_goals
         go_wp2_with fail
        all_goals first
         |(go_ret;exact⟨_,rfl,fun h=>absurd h (by decide),HWR.out.trans (HS6.out.mono HWR.out.size)⟩)
         |(go_roundw;(case rel=>exact⟨i+1,by omega,by go_num,ZT HR.out HS6.out⟩);(case measure=>simp[intOf];omega))
      · go_wp2_with fail
        go_ret
        exact⟨_,rfl,fun _=>HDONE.out,HWR.out⟩
   · go_wp2_with fail
     go_ret
     exact⟨_,rfl,fun h=>absurd h (by decide),ZT HBV.out HW.out⟩
def OrdAt (l:List En)(i:Nat)(x:En):Prop:=1<=x.no/\x.no<=1099511627776/\0<=x.tick/\x.tick<=1099511627776/\∀ p y,i=p+1->l[p]?=some y->y.no<x.no/\y.tick<=x.tick
def EntOk (T:List Tb)(l:List En)(i:Nat)(x:En):Prop:=OrdAt l i x/\(x.kind=1∨x.kind=2∨x.kind=3)/\(x.kind=1->1<=x.seq/\(x.fk=1∨x.fk=2∨x.fk=3)/\(x.fk≠3->∃ t,findT T x.tb=some t))
def TabStep (T:List Tb)(x:En)(T2:List Tb):Prop:=(x.kind=3->ZfD T x.cg T2)/\(x.kind≠3->T2=T)
def OneQ (T:List Tb)(l:List En)(i:Nat)(x:En)(w:World)(c2:Ct)(k:Int):Prop:=k=0->EntOk T l i x/\∃ T2,c2.tn=T2.length/\Zaf Tb.cells 4 w c2.ta T2/\TabStep T x T2
def OnePost (T:List Tb)(l:List En)(i:Nat)(x:En)(w0:World)(B:Nat)(w:World)(e:Ending)(w':World):Prop:=∃ (c2:Ct) (k:Int),e=.returned (.tuple #[c2.val,.int .i64 k])/\c2.Ok w0 B w'/\OneQ T l i x w' c2 k/\Below w.heap.size w w'
theorem one_any15 (l:List En)(ao:Option Addr)(cl i:Nat)(hi:i<l.length)(hll:l.length<=140737488355328)(x:En)(hx:l[i]?=some x)(c:Ct)(w w0:World)(hw0:Below w0.heap.size w0 w)(h1:Zaf En.cells 40 w0 ao l)(hs:x.Seen w0)(hg:x.cg.Ok w0)(B:Nat)(hB:B<=990)(h:c.Ok w0 B w)(T:List Tb)(hn:c.tn=T.length)(hT:Zaf Tb.cells 4 w c.ta T)(hokT:∀ t∈T,FdsAt w0 t.fa t.fn) :
 Calls prog 69 #[.slice ao l.length cl,.int .i64 i,c.val] w (OnePost T l i x w0 (B+2) w):=by
 obtain⟨ta,tn,tc,fa,fn,fc,da,dn,dc,qa,qn,qc⟩:=c
 dsimp only[Ct.val]at *
 subst hn
 have hB2:B<=100000:=by omega
 have hTB:T.length<=100000:=by
  obtain⟨⟨l2,e1,e2,-⟩,-,-⟩:=h.t
  dsimp only at e1
  omega
 have HT:=hid hT
 have HOKT:=hid hokT
 have H1:=hid h1
 have HI:=hid hi
 have HLL:=hid hll
 have HXI:=hid hx
 have HXS:=hid hs
 have HXG:=hid hg
 clear hT hokT h1 hx hs hg
 go_enter func69,ntmps69
 go_upto_region 1 with fail
 refine Zam (fun V hV=>?_)
 have HST:Hid (Cs w0 w B w.heap.size (w.heap.size+1) ⟨ta,T.length,tc,fa,fn,fc,da,dn,dc,qa,qn,qc⟩ V):=by
  have hb:Below w.heap.size w V:=by rw[hV];exact(by repeat first|exact ZR _|refine ZA ?_ _)
  exact⟨by rw[hV];exact Za4 _ _ _ _ _,by rw[hV];exact Za3 _ _ _ _ _,h.kept hb,hb,hw0,Nat.le_refl _,by omega,by omega⟩
 clear hV h
 obtain⟨b1,o1,rfl,hr1⟩:=(H1.out.kept HST.out.wz).some (by omega)
 have HR1:=hid hr1
 have HXC:Hid (∀ j v,(En.cells x)[j]?=some v->V.cell? ⟨b1,o1+i*40+j,none⟩=some v):=fun j v hj=>HR1.out i x HXI.out j v hj
 clear hr1
 go_upto_region 2 with(first|((with_reducible refine Zaq 48 ?_);refine Zas rfl 48 _ rfl b1 (o1+i*40) (En.cells x) rfl HXC.out _ underlying48 rfl (by kernel_rfl) ?_;intro v hv;obtain rfl:=hv.out)|((with_reducible refine Zbf 48 ?_);refine Zbm rfl rfl 48 _ _ rfl rfl rfl (En.cells x) rfl rfl (by kernel_rfl) (by rfl) ?_;intro g8 W hbx hg8 hb;have HXB:=hid hbx;have HVW:=hid hb;clear hg8 hbx;have HST:=hid (HST.out.kept hb);clear hb;have qq:=HST.out.q;obtain⟨q0,q1,q2,q3⟩:=qq)|fail)
 have HRW:=hid (HR1.out.kept HVW.out)
 have k0:=HXB.out.cell 0 (.int .i64 x.no) rfl
 have k1:=HXB.out.cell 1 (.int .i64 x.tick) rfl
 clear hi hll
 try simp only[Act.put,m1,m2,m3]
 go_cut [57] (fun v wx=>∃ b:Bool,v=.bool b/\(b=false->OrdAt l i x)/\Hid (Below W.heap.size W wx))
 case first =>
  cases h1:decide (x.no<1)with
  |true =>
   go_quiet (fail)
   go_wp2_with fail
   go_meet
   case rel=>exact⟨_,rfl,(fun h=>(by cases h)),hid (by repeat(first|exact ZR W|refine Zag ?_ _))⟩
  |false =>
  cases h2:decide ((1099511627776:Int)<x.no)with
  |true =>
   go_quiet (fail)
   go_wp2_with fail
   go_meet
   case rel=>exact⟨_,rfl,(fun h=>(by cases h)),hid (by repeat(first|exact ZR W|refine Zag ?_ _))⟩
  |false =>
  cases h3:decide (x.tick<0)with
  |true =>
   go_quiet (fail)
   go_wp2_with fail
   go_meet
   case rel=>exact⟨_,rfl,(fun h=>(by cases h)),hid (by repeat(first|exact ZR W|refine Zag ?_ _))⟩
  |false =>
  cases h4:decide ((1099511627776:Int)<x.tick)with
  |true =>
   go_quiet (fail)
   go_wp2_with fail
   go_meet
   case rel=>exact⟨_,rfl,(fun h=>(by cases h)),hid (by repeat(first|exact ZR W|refine Zag ?_ _))⟩
  |false =>
  have a1:=of_decide_eq_false h1
  have a2:=of_decide_eq_false h2
  have a3:=of_decide_eq_false h3
  have a4:=of_decide_eq_false h4
  have HA:Hid (1<=x.no/\x.no<=1099511627776/\0<=x.tick/\x.tick<=1099511627776):=⟨by omega,by omega,by omega,by omega⟩
  clear a1 a2 a3 a4
  cases i with
  |zero =>
   go_quiet (fail)
   go_wp2_with fail
   go_meet
   case rel=>exact⟨_,rfl,(fun h=>⟨HA.out.1,HA.out.2.1,HA.out.2.2.1,HA.out.2.2.2,fun p y hp=>by omega⟩),hid (by repeat(first|exact ZR W|refine Zag ?_ _))⟩
  |succ k =>
   have hki:=HI.out
   have hll:=HLL.out
   obtain⟨y,hy⟩:∃ y,l[k]?=some y:=⟨l[k]'(by omega),List.getElem?_eq_getElem _⟩
   have HY:=hid hy
   have y0:W.cell? ⟨b1,o1+k*40,none⟩=some (.int .i64 y.no):=HRW.out k y hy 0 _ rfl
   have y1:W.cell? ⟨b1,o1+k*40+1,none⟩=some (.int .i64 y.tick):=HRW.out k y hy 1 _ rfl
   clear hy
   have hw1:IntKind.i64.wrap (((k+1:Nat):Int) - 1)=(k:Int):=by rw[show(((k+1:Nat):Int) - 1)=(k:Int) by omega];exact IntWalk.i64_in _ (by omega)
   have hd1:decide ((0:Int)<((k+1:Nat):Int))=true:=by simp
   cases h5:decide (x.no<=y.no)with
   |true =>
    go_quiet (fail)
    go_wp2_with fail
    go_meet
    case rel=>exact⟨_,rfl,(fun h=>(by cases h)),hid (by repeat(first|exact ZR W|refine Zag ?_ _))⟩
   |false =>
   cases h6:decide (x.tick<y.tick)with
   |true =>
    go_quiet (fail)
    go_wp2_with fail
    go_meet
    case rel=>exact⟨_,rfl,(fun h=>(by cases h)),hid (by repeat(first|exact ZR W|refine Zag ?_ _))⟩
   |false =>
   have a5:=of_decide_eq_false h5
   have a6:=of_decide_eq_false h6
   have HA2:Hid (y.no<x.no/\y.tick<=x.tick):=⟨by omega,by omega⟩
   clear a5 a6
   go_quiet (fail)
   go_wp2_with fail
   go_meet
   case rel=>exact⟨_,rfl,(fun h=>⟨HA.out.1,HA.out.2.1,HA.out.2.2.1,HA.out.2.2.2,fun p z hp hz=>by
    obtain rfl:k=p:=by omega
    rw[HY.out]at hz
    injection hz with hz
    subst hz
    exact HA2.out⟩),hid (by repeat(first|exact ZR W|refine Zag ?_ _))⟩
 case rest =>
  obtain⟨bo,rfl,hord,HBW⟩:=hcut
  rename World=>wc
  have HORD:Hid (bo=false->OrdAt l i x):=hord
  have HST:=hid (HST.out.kept HBW.out)
  have HXB:=hid (HXB.out.kept HBW.out)
  clear hord
  have x2:=HXB.out.cell 2 (.int .i64 x.kind) rfl
  have qq:=HST.out.q
  obtain⟨q0,q1,q2,q3⟩:=qq
  cases bo with
  |true =>
   go_wp2_with (first|((with_reducible refine Zaq 118 ?_);refine Zaj rfl 118 _ rfl _ _ 118 rfl HST.out.box _ underlying118 rfl (by kernel_rfl) ?_;intro v hv;obtain rfl:=hv.out)|((with_reducible refine Zal 118 ?_);refine Zav rfl _ _ rfl rfl HST.out _ rfl rfl HST.out.ok ?_;intro w9 hR hotr;have HR:=hid hR;have HOT:=hid hotr;clear hR hotr)|fail)
   (try simp only[Exit.inBlock,Exit.then]);refine bodyPost_ret (Zad rfl rfl HR.out.box underlying118 rfl (by kernel_rfl)) rfl ?_
   exact⟨_,_,rfl,HR.out.ok.mono (by omega),(fun h0=>absurd h0 (by first|decide|assumption)),HR.out.below⟩
  |false =>
   have HOR2:Hid (OrdAt l i x):=HORD.out rfl
   clear HORD
   go_upto_region 6 with(first|((with_reducible refine Zaq 48 ?_);refine Zaj rfl 48 _ rfl g8 (En.cells x) 48 rfl HXB.out _ underlying48 rfl (by kernel_rfl) ?_;intro v hv;obtain rfl:=hv.out)|(go_at_call 93;refine(eform_any x _ w0 HST.out.wz HXG.out).mono ?_;rintro ee w' ⟨b,rfl,hq,hb⟩;have HFQ:=hid hq;clear hq;have HST:=hid (HST.out.kept hb);have HXB:=hid (HXB.out.kept hb);clear hb;have x2:=HXB.out.cell 2 (.int .i64 x.kind) rfl;have qq:=HST.out.q;obtain⟨q0,q1,q2,q3⟩:=qq;cases b)|((with_reducible refine Zaq 118 ?_);refine Zaj rfl 118 _ rfl _ _ 118 rfl HST.out.box _ underlying118 rfl (by kernel_rfl) ?_;intro v hv;obtain rfl:=hv.out)|((with_reducible refine Zal 118 ?_);refine Zav rfl _ _ rfl rfl HST.out _ rfl rfl HST.out.ok ?_;intro w9 hR hotr;have HR:=hid hR;have HOT:=hid hotr;clear hR hotr)|fail)
   all_goals first
    |((try simp only[Exit.inBlock,Exit.then]);refine bodyPost_ret (Zad rfl rfl HR.out.box underlying118 rfl (by kernel_rfl)) rfl ?_;exact⟨_,_,rfl,HR.out.ok.mono (by omega),(fun h0=>absurd h0 (by first|decide|assumption)),HR.out.below⟩)
    |skip
   have HK:Hid (x.kind=1∨x.kind=2∨x.kind=3):=HFQ.out (by first|rfl|trivial)
   rcases HK.out with hk|hk|hk
   · have e1:(x.kind==1)=true:=beq_iff_eq.2 hk
     have HKE:=hid hk
     clear hk
     go_wp2_with (first|((with_reducible refine Zaq 118 ?_);refine Zaj rfl 118 _ rfl _ _ 118 rfl HST.out.box _ underlying118 rfl (by kernel_rfl) ?_;intro v hv;obtain rfl:=hv.out)|((with_reducible refine Zaq 27 ?_);refine Zas rfl 27 _ rfl g8 3 (En.fct x) rfl (fun j v hj=>HXB.out.cell (3+j) v (Za8 (k:=3) (m:=8) hj rfl)) _ underlying27 rfl (by kernel_rfl) ?_;intro v hv;obtain rfl:=hv.out)|(go_at_call 94;refine(check13_any ⟨ta,T.length,tc,fa,fn,fc,da,dn,dc,qa,qn,qc⟩ x T _ w0 rfl (by omega) HOKT.out (HT.out.kept HST.out.below) HST.out.wz HXS.out).mono ?_;rintro ee w' ⟨k,rfl,hq,hb⟩;have HKQ:=hid hq;clear hq;have HST:=hid (HST.out.kept hb);have HXB:=hid (HXB.out.kept hb);clear hb;have x2:=HXB.out.cell 2 (.int .i64 x.kind) rfl;have qq:=HST.out.q;obtain⟨q0,q1,q2,q3⟩:=qq;rcases Za6 k with rfl|hk0)|(go_at_call 95;refine(ZdQ l _ _ i HLL.out HI.out _ (H1.out.kept HST.out.wz)).mono ?_;rintro ee w' ⟨b,rfl,hb⟩;have HST:=hid (HST.out.kept hb);have HXB:=hid (HXB.out.kept hb);clear hb;have x2:=HXB.out.cell 2 (.int .i64 x.kind) rfl;have qq:=HST.out.q;obtain⟨q0,q1,q2,q3⟩:=qq;cases b)|((with_reducible refine Zal 118 ?_);refine Zav rfl _ _ rfl rfl HST.out _ rfl rfl HST.out.ok ?_;intro w9 hR hotr;have HR:=hid hR;have HOT:=hid hotr;clear hR hotr)|fail)
     all_goals
      (try simp only[Exit.inBlock,Exit.then]);refine bodyPost_ret (Zad rfl rfl HR.out.box underlying118 rfl (by kernel_rfl)) rfl ?_
      first
       |exact⟨_,_,rfl,HR.out.ok.mono (by omega),(fun h0=>absurd h0 (by first|decide|assumption)),HR.out.below⟩
       |(have hk:=HKE.out;exact⟨_,_,rfl,HR.out.ok.mono (by omega),(fun h0=>⟨⟨HOR2.out,HK.out,fun _=>HKQ.out (by first|rfl|trivial)⟩,T,rfl,TbsL.put (HT.out.kept HST.out.below) HST.out.res (ZbS _ _ _ _ _ _ _ _ _ _ _ _) HOT.out,(fun h=>absurd h (by omega)),fun _=>rfl⟩),HR.out.below⟩)
   · have e1:(x.kind==1)=false:=beq_eq_false_iff_ne.2 (by omega)
     have e2:(x.kind==2)=true:=beq_iff_eq.2 hk
     have HKE:=hid hk
     clear hk
     go_wp2_with (first|((with_reducible refine Zaq 118 ?_);refine Zaj rfl 118 _ rfl _ _ 118 rfl HST.out.box _ underlying118 rfl (by kernel_rfl) ?_;intro v hv;obtain rfl:=hv.out)|((with_reducible refine Zaq 29 ?_);refine Zas rfl 29 _ rfl g8 11 [.int .i64 x.ek,.string x.een,.string x.eky,.string x.esr,.int .i64 x.esq] rfl (fun j v hj=>HXB.out.cell (11+j) v (Za8 (k:=11) (m:=5) hj rfl)) _ underlying29 rfl (by kernel_rfl) ?_;intro v hv;obtain rfl:=hv.out)|(go_at_call 96;refine(erasure_any _ _ _ _ _ _ HXS.out.str.2.2.2.2.1).mono ?_;rintro ee w' ⟨b,rfl,hb⟩;have HST:=hid (HST.out.kept hb);have HXB:=hid (HXB.out.kept hb);clear hb;have x2:=HXB.out.cell 2 (.int .i64 x.kind) rfl;have qq:=HST.out.q;obtain⟨q0,q1,q2,q3⟩:=qq;cases b)|((with_reducible refine Zal 118 ?_);refine Zav rfl _ _ rfl rfl HST.out _ rfl rfl HST.out.ok ?_;intro w9 hR hotr;have HR:=hid hR;have HOT:=hid hotr;clear hR hotr)|fail)
     all_goals
      (try simp only[Exit.inBlock,Exit.then]);refine bodyPost_ret (Zad rfl rfl HR.out.box underlying118 rfl (by kernel_rfl)) rfl ?_
      first
       |exact⟨_,_,rfl,HR.out.ok.mono (by omega),(fun h0=>absurd h0 (by first|decide|assumption)),HR.out.below⟩
       |(have hk:=HKE.out;exact⟨_,_,rfl,HR.out.ok.mono (by omega),(fun h0=>⟨⟨HOR2.out,HK.out,fun h=>absurd h (by omega)⟩,T,rfl,TbsL.put (HT.out.kept HST.out.below) HST.out.res (ZbS _ _ _ _ _ _ _ _ _ _ _ _) HOT.out,(fun h=>absurd h (by omega)),fun _=>rfl⟩),HR.out.below⟩)
   · have e1:(x.kind==1)=false:=beq_eq_false_iff_ne.2 (by omega)
     have e2:(x.kind==2)=false:=beq_eq_false_iff_ne.2 (by omega)
     have HKE:=hid hk
     clear hk
     go_wp2_with (first|((with_reducible refine Zaq 118 ?_);refine Zaj rfl 118 _ rfl _ _ 118 rfl HST.out.box _ underlying118 rfl (by kernel_rfl) ?_;intro v hv;obtain rfl:=hv.out)|((with_reducible refine Zaq 46 ?_);refine Zas rfl 46 _ rfl g8 16 (Cg.cells x.cg) rfl (fun j v hj=>HXB.out.cell (16+j) v (Za8 (k:=16) (m:=24) hj rfl)) _ underlying46 rfl (by kernel_rfl) ?_;intro v hv;obtain rfl:=hv.out)|(go_at_call 97;refine(apply_any ⟨ta,T.length,tc,fa,fn,fc,da,dn,dc,qa,qn,qc⟩ x.cg _ w0 HST.out.wz B hB HST.out.ok T rfl (HT.out.kept HST.out.below) HOKT.out HXG.out).mono ?_;rintro ee w' ⟨c2,k2,rfl,hc2,hq2,hb⟩;have HC2:=hid hc2;have HQ2:=hid hq2;clear hc2 hq2;have HST:=hid (HST.out.kept hb);have HXB:=hid (HXB.out.kept hb);clear hb;have x2:=HXB.out.cell 2 (.int .i64 x.kind) rfl;have qq:=HST.out.q;obtain⟨q0,q1,q2,q3⟩:=qq)|((with_reducible refine Zal 118 ?_);refine Zav rfl _ _ rfl rfl HST.out c2 rfl rfl HC2.out ?_;intro w9 hR hotr;have HR:=hid hR;have HOT:=hid hotr;clear hR hotr)|fail)
     (try simp only[Exit.inBlock,Exit.then]);refine bodyPost_ret (Zad rfl rfl HR.out.box underlying118 rfl (by kernel_rfl)) rfl ?_
     refine⟨c2,k2,rfl,HR.out.ok,fun h0=>?_,HR.out.below⟩
     have hk:=HKE.out
     obtain⟨T2,h2,h3,h4⟩:=HQ2.out h0
     exact⟨⟨HOR2.out,HK.out,fun h=>absurd h (by omega)⟩,T2,h2,TbsL.put h3 HST.out.res (ZbS _ _ _ _ _ _ _ _ _ _ _ _) HOT.out,fun _=>h4,fun h=>absurd hk h⟩
inductive TabRun (l:List En):Nat->List Tb->Prop
 |zero:TabRun l 0 []
 |succ {i:Nat} {T T2:List Tb} {x:En}:TabRun l i T->l[i]?=some x->EntOk T l i x->TabStep T x T2->TabRun l (i+1) T2
theorem ZfD.fds {w:World}{T T2:List Tb}{x:Cg}(h:ZfD T x T2)(hT:∀ t∈T,FdsAt w t.fa t.fn)(hx:FdsAt w x.t.fa x.t.fn):∀ t∈T2,FdsAt w t.fa t.fn:=by
 by_cases hk:x.k=1
 · obtain⟨-,i,rfl⟩:=h.1 hk
   intro t ht
   simp only[List.mem_append,List.mem_singleton]at ht
   rcases ht with(ht|ht)|ht
   · exact hT t (List.mem_of_mem_take ht)
   · rw[ht];exact hx
   · exact hT t (List.mem_of_mem_drop ht)
 · rw[h.2 hk];exact hT
theorem TabStep.fds {w:World}{T T2:List Tb}{x:En}(h:TabStep T x T2)(hT:∀ t∈T,FdsAt w t.fa t.fn)(hx:x.cg.Ok w):∀ t∈T2,FdsAt w t.fa t.fn:=by
 by_cases hk:x.kind=3
 · exact(h.1 hk).fds hT hx.t
 · rw[h.2 hk];exact hT
theorem check15_any (l:List En)(ao:Option Addr)(c:Nat)(hl:l.length<=60)(w:World)(h:Zaf En.cells 40 w ao l)(hs:∀ e∈l,e.Seen w)(hg:∀ e∈l,e.cg.Ok w) :
 Calls prog 38 #[.slice ao l.length c] w (GotN (fun k=>k=0->∃ T,TabRun l l.length T) w):=by
 have H1:=hid h
 have HSN:=hid hs
 have HCG:=hid hg
 clear h hs hg
 go_enter func38,ntmps38
 go_upto_region 4 with fail
 refine Zam (fun V hV=>?_)
 have HBV:Hid (Below w.heap.size w V):=by rw[hV];exact Zab _
 have HCB:Hid (Box V w.heap.size (Ct.cells Ct.zero).toArray 118):=by rw[hV];exact Box.new _ _ _
 clear hV
 obtain⟨g3,hg3⟩:∃ g,w.heap.size=g:=⟨_,rfl⟩
 have HG3:Hid (w.heap.size<=g3):=by show _<=_;omega
 rw[hg3]at HCB
 go_wp2_with fail
 rw[hg3]
 go_loopw [4] (fun v wr=>∃ (i:Nat) (ct:Ct) (T:List Tb),i<=l.length/\v=.int .i64 i/\Hid (ct.Ok w (2*i) wr)/\Hid (ct.tn=T.length)/\Hid (Zaf Tb.cells 4 wr ct.ta T)/\Hid (∀ t∈T,FdsAt w t.fa t.fn)/\Hid (Box wr g3 (Ct.cells ct).toArray 118)/\Hid (Below w.heap.size w wr)/\Hid (TabRun l i T)) (fun v _=>l.length - (intOf v).toNat)
 case atStart=>exact⟨0,Ct.zero,[],by omega,rfl,Ct.zero_ok _ _ _,rfl,Zaf.nil _ _,fun t ht=>(by cases ht),HCB,HBV,TabRun.zero⟩
 case round =>
  clear HCB
  obtain⟨i,ct,T,hi,rfl,HCO,HTN,HTL,HTK,HCB,HRW,HRUN⟩:=hrel
  rename World=>wr
  by_cases hlt:i<l.length
  · obtain⟨x,hx⟩:∃ x,l[i]?=some x:=⟨l[i],List.getElem?_eq_getElem hlt⟩
    have HXI:=hid hx
    clear hx
    go_wp2_with (first|((with_reducible refine Zaq 118 ?_);refine Zaj rfl 118 _ rfl g3 (Ct.cells ct) 118 rfl HCB.out _ underlying118 rfl (by kernel_rfl) ?_;intro v hv;obtain rfl:=hv.out)|(go_at_call 69;refine(one_any15 l _ _ i hlt (by omega) x HXI.out ct _ w HRW.out H1.out (HSN.out x (List.mem_of_getElem? HXI.out)) (HCG.out x (List.mem_of_getElem? HXI.out)) (2*i) (by omega) HCO.out T HTN.out HTL.out HTK.out).mono ?_;rintro ee w5 ⟨c2,k2,rfl,hc2,hq2,hb⟩;have HC2:=hid hc2;have HQ2:=hid hq2;have HCB:=hid (HCB.out.kept hb);have HRW5:Hid (Below w.heap.size w w5):=HRW.out.trans (hb.mono HRW.out.size);clear hc2 hq2 hb;rcases Za6 k2 with rfl|hk0)|((with_reducible refine Zbf 118 ?_);refine Zbm rfl rfl 118 _ _ rfl rfl rfl (Ct.cells c2) rfl rfl (by kernel_rfl) (by rfl) ?_;intro g7 w8 hbx hg7 hb;have HDB:=hid hbx;have HNE:Hid (g7≠g3):=(fun e=>by(have:=HCB.out.lt;rw[e]at hg7;omega));have HC2:=hid (HC2.out.kept hb);have HQ2:Hid (OneQ T l i x w8 c2 _):=hid (fun h0=>let ⟨q1,T2,q2,q3,q4⟩:=HQ2.out h0;⟨q1,T2,q2,q3.kept hb,q4⟩);have HCB:=hid (HCB.out.kept hb);have HRW8:Hid (Below w.heap.size w w8):=HRW5.out.trans (hb.mono HRW5.out.size);clear hg7 hbx hb)|((with_reducible refine Zaq 118 ?_);refine Zaj rfl 118 _ rfl g7 (Ct.cells c2) 118 rfl HDB.out _ underlying118 rfl (by kernel_rfl) ?_;intro v hv;obtain rfl:=hv.out)|((with_reducible refine Zal 118 ?_);refine Zai rfl 118 _ _ rfl rfl g3 118 _ (Ct.cells c2) rfl rfl HCB.out (by kernel_rfl) rfl rfl w HRW8.out HG3.out ?_;intro w9 hby hyb hot;have HCB9:=hid hby;have HRW9:Hid (Below w.heap.size w w9):=hyb;have HC9:=hid (HC2.out.put HCB.out (ZbS _ _ _ _ _ _ _ _ _ _ _ _) hot);have HQ9:Hid (OneQ T l i x w9 c2 _):=hid (fun h0=>let ⟨q1,T2,q2,q3,q4⟩:=HQ2.out h0;⟨q1,T2,q2,TbsL.put q3 HCB.out (ZbS _ _ _ _ _ _ _ _ _ _ _ _) hot,q4⟩);clear hby hyb hot)|fail)
    all_goals first
     |(go_ret;exact⟨_,rfl,fun h0=>absurd h0 hk0,HRW8.out⟩)
     |skip
    obtain⟨hok,T2,hq2,hq3,hq4⟩:=HQ9.out rfl
    have HT2:=hid hq2
    have HT3:=hid hq3
    have HT4:Hid (∀ t∈T2,FdsAt w t.fa t.fn):=hq4.fds HTK.out (HCG.out x (List.mem_of_getElem? HXI.out))
    have HRUN2:Hid (TabRun l (i+1) T2):=TabRun.succ HRUN.out HXI.out hok hq4
    clear hq2 hq3 hq4 hok
    go_roundw
    case rel=>exact⟨i+1,c2,T2,by omega,by go_num,HC9,HT2,HT3,HT4,HCB9,HRW9,HRUN2⟩
    case measure=>simp[intOf];omega
  · obtain rfl:i=l.length:=by omega
    go_wp2_with fail
    go_ret
    exact⟨_,rfl,fun _=>⟨T,HRUN.out⟩,HRW.out⟩
theorem En.Few.kept {w w':World}{e:En}(h:e.Few w)(hb:Below w.heap.size w w'):e.Few w':={ h with ft:=h.ft.kept hb }
def LogOk (l:List En)(w:World):Prop:=l.length<=60/\(∀ e∈l,e.Few w)/\∃ T,TabRun l l.length T
theorem lvalid_any (l:List En)(ao:Option Addr)(c:Nat)(hl:l.length<=140737488355328)(w:World)(h:Zaf En.cells 40 w ao l)(hs:∀ e∈l,e.Seen w):Calls prog 10 #[.slice ao l.length c] w (GotP (fun b=>b=true->LogOk l w) w):=by
 have H1:=hid h
 have HSN:=hid hs
 have HL:=hid hl
 clear h hs hl
 go_enter func10,ntmps10
 go_wp2_with (first|(go_at_call 37;refine(fewentries_any l _ _ _ HL.out H1.out HSN.out).mono ?_;rintro ee w1 ⟨b,rfl,hq,hb⟩;have HQ:=hid hq;have HW1:Hid (Below w.heap.size w w1):=hb;clear hq hb;cases b)|(go_at_call 38;refine(check15_any l _ _ (HQ.out (by first|rfl|trivial)).1 _ (H1.out.kept HW1.out) (fun e he=>(HSN.out e he).kept HW1.out) (fun e he=>((HSN.out e he).kept HW1.out).cg ((((HQ.out (by first|rfl|trivial)).2 e he).kept HW1.out)))).mono ?_;rintro ee w2 ⟨k,rfl,hq,hb⟩;have HK:=hid hq;have HW2:Hid (Below w.heap.size w w2):=ZT HW1.out hb;clear hq hb;rcases Za6 k with rfl|hk0)|fail)
 all_goals go_ret
 all_goals first
  |exact⟨_,rfl,fun h=>absurd h (by decide),HW1.out⟩
  |exact⟨_,rfl,fun h=>⟨(HQ.out (by first|rfl|trivial)).1,(HQ.out (by first|rfl|trivial)).2,HK.out (by first|rfl|trivial)⟩,HW2.out⟩
  |exact⟨_,rfl,fun h=>(by simp at h;exact absurd h hk0),HW2.out⟩
end Go.Proofs.YtfnpfkgmacaboaaGreat
