/- Texts joined by a program. -/
import Derived.Test.YtfnpfkgmacaboaaGreatM21
namespace Go.Proofs.YtfnpfkgmacaboaaGreatEx
def pre (N:Int)(s:Nat):Int:=N / 2 ^ s
theorem pre_next (N:Int)(t:Nat){f:Nat->Int}(h:Digs f)(e:val8 f=N)(ht:t<128):pre N t=2*pre N (t+1)+f (t / 16) / 2 ^ (t % 16) % 2:=by
 rw[bit_at h e t ht];exact next_bit N t
theorem pre_zero (N:Int):pre N 0=N:=by unfold pre;rw[Int.pow_zero,Int.ediv_one]
theorem pre_top (N:Int)(h0:0<=N)(h1:N<340282366920938463463374607431768211456):pre N 128=0:=by
 unfold pre
 rw[show(2:Int) ^ 128=340282366920938463463374607431768211456 by decide];omega
theorem pre_pos (N:Int)(h0:0<=N)(s:Nat):0<=pre N s:=Int.ediv_nonneg h0 (Int.le_of_lt (Int.pow_pos (by decide)))
theorem pre_le (N:Int)(h0:0<=N)(s:Nat):pre N s<=N:=Int.ediv_le_self _ h0
theorem step_low (P D b:Int)(hD:0<D)(b0:0<=b)(h:2*(P % D)+b<D):(2*P+b) % D=2*(P % D)+b/\(2*P+b) / D=2*(P / D):=by
 have e:=Int.mul_ediv_add_emod P D
 have r0:=Int.emod_nonneg P (by omega:D≠0)
 have:=(Int.ediv_emod_unique hD).2 (⟨by rw[show D*(2*(P / D))=2*(D*(P / D)) by rw[Int.mul_left_comm]];omega,by omega,h⟩:2*(P % D)+b+D*(2*(P / D))=2*P+b/\0<=2*(P % D)+b/\2*(P % D)+b<D)
 exact⟨this.2,this.1⟩
theorem step_high (P D b:Int)(hD:0<D)(b1:b<=1)(h:D<=2*(P % D)+b):(2*P+b) % D=2*(P % D)+b - D/\(2*P+b) / D=2*(P / D)+1:=by
 have e:=Int.mul_ediv_add_emod P D
 have r0:=Int.emod_lt_of_pos P hD
 have:=(Int.ediv_emod_unique hD).2 (⟨by rw[show D*(2*(P / D)+1)=2*(D*(P / D))+D by rw[Int.mul_add,Int.mul_one,Int.mul_left_comm]];omega,by omega,by omega⟩:2*(P % D)+b - D+D*(2*(P / D)+1)=2*P+b/\0<=2*(P % D)+b - D/\2*(P % D)+b - D<D)
 exact⟨this.2,this.1⟩
end Go.Proofs.YtfnpfkgmacaboaaGreatEx
