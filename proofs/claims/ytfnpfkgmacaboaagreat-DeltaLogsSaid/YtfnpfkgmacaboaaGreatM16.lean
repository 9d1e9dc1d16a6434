/- Texts joined by a program. -/
import Derived.Test.YtfnpfkgmacaboaaGreatRows
import Derived.WalkKit
import Derived.ProofKit
import Derived.OpenShut
import Derived.Shelf.Spec.BitsCarry
import Derived.Lib.Mul64
import Derived.Lib.Hide
import Derived.Deep.QuietTactic
import Derived.BigQuiet
import Derived.Outline
import Derived.Deep.RegionHeld3
import Derived.Lib.BitFns
import Derived.Lib.ItoaNum
import Derived.Lib.Small
import Derived.Lib.Walk
import Derived.Deep.DeepCutAuto
import Derived.Deep.CutBlock
import Derived.Tactics
import Derived.Tactics2
import Derived.Lib.Strings
import Derived.Lib.Slices
import Derived.Test.YtfnpfkgmacaboaaGreatM15
namespace Go.Proofs.YtfnpfkgmacaboaaGreatEx
open Go.ChangeShapes Go.WideShapes Go.ChangeAt Go.RowKit
theorem u64w (x:Int):IntKind.u64.wrap x=x % 18446744073709551616:=IntKind.wrap_u64 x
namespace Mul64
end Mul64
set_option linter.unusedVariables false
theorem Zad {B:Nat}{a w:World}(h:Below B a w)(n:Nat):Below B a (w.drewN n):=⟨h.os,h.tape,h.output,h.size,h.block⟩
def Zb2 (s:Bool)(n:Int):Value:=if 1152921504606846976<n then .tuple #[.int .i64 0,.bool false]else .tuple #[.int .i64 (if s=true then -n else n),.bool true]
theorem ZbR (s:Bool)(n:Int)(h:1152921504606846976<n):Zb2 s n=.tuple #[.int .i64 0,.bool false]:=by unfold Zb2;rw[if_pos h]
theorem Zdg (s:Bool)(n:Int)(h:¬ 1152921504606846976<n)(x y:Bool)(hs:s=(x != y))(k:(!x==y)=false):Zb2 s n=.tuple #[.int .i64 n,.bool true]:=by
 unfold Zb2;rw[if_neg h];subst hs;cases x<;>cases y<;>simp_all
theorem Zdh (s:Bool)(n:Int)(h:¬ 1152921504606846976<n)(x y:Bool)(hs:s=(x != y))(k:(!x==y)=true):Zb2 s n=.tuple #[.int .i64 (-n),.bool true]:=by
 unfold Zb2;rw[if_neg h];subst hs;cases x<;>cases y<;>simp_all
def absI (n:Int):Int:=if n<0 then -n else n
def upq (n y:Int):Int:=if n % y>y - n % y∨(n % y=y - n % y/\n / y % 2=1)then n / y+1 else n / y
def Zfh (a d:Int):Value:=if d=0 then .tuple #[.int .i64 0,.bool false]else Zb2 (decide (a<0) != decide (d<0)) (upq (absI a) (absI d))
theorem norm_int (d:Int)(h1:-9223372036854775808<=d)(h2:d<=9223372036854775807):norm d=d:=norm_in d (by omega) (by omega)
theorem neg_iff (a:Int):(norm a<0)=(whi a<0):=by
 have:=wlo_lo a;have:=wlo_hi a;unfold norm;apply propext;omega
theorem Zan {P:Program}{c:Code}{Q:Exit->Act->World->Prop}{a:Act}{w:World}(h:∀ W,W=w->Code.wp P c Q a W):Code.wp P c Q a w:=h w rfl
theorem keepB {B:Nat}{w0 w w1:World}(hB:B<=w0.heap.size)(h:Below B w0 w)(hb:Below w.heap.size w w1):Below B w0 w1:=h.trans (hb.mono (Nat.le_trans hB h.size))
theorem orI (h l:Int)(n:Nat)(hn:n<=63)(h0:0<=h)(h1:h*2 ^ n<=18446744073709551615)(l0:0<=l)(l1:l<2 ^ n):bits .or .u64 (h*2 ^ n) l=h*2 ^ n+l:=by
 obtain⟨a,rfl⟩:=Int.eq_ofNat_of_zero_le h0
 obtain⟨b,rfl⟩:=Int.eq_ofNat_of_zero_le l0
 have hb:b<2 ^ n:=by
  have:((2 ^ n:Nat):Int)=(2:Int) ^ n:=by simp
  omega
 have hp:2 ^ n<=2 ^ 63:=Nat.pow_le_pow_right (by decide) hn
 have e:((a*2 ^ n:Nat):Int)=(a:Int)*2 ^ n:=by simp
 rw[<-e]at h1 ⊢
 have hor:a*2 ^ n ||| b=a*2 ^ n+b:=by rw[Nat.mul_comm,<-Nat.two_pow_add_eq_or_of_lt hb]
 rw[bits_or_u64_nat _ _ (by omega) (by omega),hor]
 omega
theorem bsome {X w':World}(hb:Below X.heap.size X w'):(∀ p,(X.cell? p).isSome=true->w'.cell? p=X.cell? p)/\(∀ p,(X.cell? p).isSome=true->w'.frozen? p=X.frozen? p):=by
 have hlt:∀ p,(X.cell? p).isSome=true->p.block<X.heap.size:=by
  intro p h
  rcases Nat.lt_or_ge p.block X.heap.size with hp|hp
  · exact hp
  · have:X.heap[p.block]?=none:=Array.getElem?_eq_none hp
    simp[World.cell?,this]at h
 exact⟨fun p h=>hb.cell (hlt p h),fun p h=>hb.frozen (hlt p h)⟩
theorem twoset {w:World}{g:Nat}{x y:Value}(h0:(w.cell? ⟨g,0,none⟩).isSome=true)(h1:(w.cell? ⟨g,1,none⟩).isSome=true) :
 ((w.setCell ⟨g,0,none⟩ x).setCell ⟨g,1,none⟩ y).cell? ⟨g,0,none⟩=some x/\((w.setCell ⟨g,0,none⟩ x).setCell ⟨g,1,none⟩ y).cell? ⟨g,1,none⟩=some y:=by
 refine⟨?_,?_⟩
 · exact(World.cell?_setCell_other _ ⟨g,1,none⟩ ⟨g,0,none⟩ y (by simp)).trans (World.cell?_setCell_same' _ _ _ h0)
 · refine World.cell?_setCell_same' _ _ _ ?_
   have e:=World.cell?_setCell_other w ⟨g,0,none⟩ ⟨g,1,none⟩ x (by simp)
   rw[e]
   exact h1
end Go.Proofs.YtfnpfkgmacaboaaGreatEx
