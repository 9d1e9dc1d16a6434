/- Texts joined by a program. -/
namespace Go.Proofs.YtfnpfkgmacaboaaGreatEx
def whi (n:Int):Int:=(n / 18446744073709551616+9223372036854775808) % 18446744073709551616 - 9223372036854775808
def wlo (n:Int):Int:=n % 18446744073709551616
def eqv (a b:Int):Prop:=a % 340282366920938463463374607431768211456=b % 340282366920938463463374607431768211456
theorem wlo_lo (n:Int):0<=wlo n:=by unfold wlo;omega
theorem wlo_hi (n:Int):wlo n<=18446744073709551615:=by unfold wlo;omega
theorem Zcq {a b c:Int}(h:eqv a b)(k:eqv b c):eqv a c:=Eq.trans h k
theorem eqv_of {a b:Int}(h:a=b):eqv a b:=by rw[h];rfl
theorem halves_eqv {a b:Int}(h:eqv a b):whi a=whi b/\wlo a=wlo b:=by
 unfold eqv at h;unfold whi wlo;omega
theorem whole (a:Int):eqv (whi a*18446744073709551616+wlo a) a:=by
 unfold whi wlo eqv;omega
theorem eqv_add {a b c d:Int}(h:eqv a b)(k:eqv c d):eqv (a+c) (b+d):=by
 unfold eqv at *;omega
theorem eqv_sub {a b c d:Int}(h:eqv a b)(k:eqv c d):eqv (a - c) (b - d):=by
 unfold eqv at *;omega
def norm (n:Int):Int:=whi n*18446744073709551616+wlo n
theorem norm_eqv (n:Int):eqv (norm n) n:=whole n
theorem norm_lo (n:Int):-170141183460469231731687303715884105728<=norm n:=by unfold norm whi wlo;omega
theorem norm_hi (n:Int):norm n<170141183460469231731687303715884105728:=by unfold norm whi wlo;omega
theorem norm_in (n:Int)(h:-170141183460469231731687303715884105728<=n)(k:n<170141183460469231731687303715884105728):norm n=n:=by
 unfold norm whi wlo;omega
end Go.Proofs.YtfnpfkgmacaboaaGreatEx
