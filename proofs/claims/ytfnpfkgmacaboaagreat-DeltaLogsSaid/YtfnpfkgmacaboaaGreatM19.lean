/- Texts joined by a program. -/
import Derived.Test.YtfnpfkgmacaboaaGreatM17
namespace Go.Proofs.YtfnpfkgmacaboaaGreatEx
def full (x y:Nat->Int):Nat->Nat->Int
 |0,_=>0
 |i+1,j=>full x y i j+if i<=j then x i*y (j - i)else 0
def part (x y:Nat->Int)(i k j:Nat):Int:=full x y i j+if i<=j/\j<i+k then x i*y (j - i)else 0
theorem Zec (x y:Nat->Int)(i k:Nat):part x y i (k+1) (i+k)=part x y i k (i+k)+x i*y k:=by
 unfold part
 rw[if_pos (by omega),if_neg (by omega),Nat.add_sub_cancel_left];omega
end Go.Proofs.YtfnpfkgmacaboaaGreatEx
