/- Texts joined by a program. -/
import Derived.Test.YtfnpfkgmacaboaaGreatM17
namespace Go.Proofs.YtfnpfkgmacaboaaGreatEx
def Digs (f:Nat->Int):Prop:=∀ i,i<8->0<=f i/\f i<=65535
theorem ZeO (a:Int):Digs (dgt a):=fun i _=>⟨Zd1 a i,Zd2 a i⟩
theorem ZbD (f:Nat->Int):Digs (car f):=fun i _=>⟨car_lo f i,car_hi f i⟩
theorem val8_bd {f:Nat->Int}(h:Digs f):0<=val8 f/\val8 f<340282366920938463463374607431768211456:=by
 have:=h 0 (by omega);have:=h 1 (by omega);have:=h 2 (by omega);have:=h 3 (by omega)
 have:=h 4 (by omega);have:=h 5 (by omega);have:=h 6 (by omega);have:=h 7 (by omega)
 unfold val8;omega
theorem ZcM {f:Nat->Int}(h:Digs f){m:Int}(e:eqv (val8 f) m)(m0:0<=m)(m1:m<340282366920938463463374607431768211456):val8 f=m:=by
 have:=val8_bd h
 unfold eqv at e
 omega
theorem val8_lt {f g:Nat->Int}(hf:Digs f)(hg:Digs g)(i:Nat)(hi:i<8)(he:∀ j,i<j->j<8->f j=g j)(hne:f i≠g i):f i<g i↔val8 f<val8 g:=by
 have a0:=hf 0 (by omega);have a1:=hf 1 (by omega);have a2:=hf 2 (by omega);have a3:=hf 3 (by omega)
 have a4:=hf 4 (by omega);have a5:=hf 5 (by omega);have a6:=hf 6 (by omega);have a7:=hf 7 (by omega)
 have b0:=hg 0 (by omega);have b1:=hg 1 (by omega);have b2:=hg 2 (by omega);have b3:=hg 3 (by omega)
 have b4:=hg 4 (by omega);have b5:=hg 5 (by omega);have b6:=hg 6 (by omega);have b7:=hg 7 (by omega)
 have e1:=fun h=>he 1 h (by omega);have e2:=fun h=>he 2 h (by omega);have e3:=fun h=>he 3 h (by omega);have e4:=fun h=>he 4 h (by omega)
 have e5:=fun h=>he 5 h (by omega);have e6:=fun h=>he 6 h (by omega);have e7:=fun h=>he 7 h (by omega)
 unfold val8
 clear hf hg he
 match i,hi with
 |0,_=>have:=e1 (by omega);have:=e2 (by omega);have:=e3 (by omega);have:=e4 (by omega);have:=e5 (by omega);have:=e6 (by omega);have:=e7 (by omega);clear e1 e2 e3 e4 e5 e6 e7;omega
 |1,_=>have:=e2 (by omega);have:=e3 (by omega);have:=e4 (by omega);have:=e5 (by omega);have:=e6 (by omega);have:=e7 (by omega);clear e1 e2 e3 e4 e5 e6 e7;omega
 |2,_=>have:=e3 (by omega);have:=e4 (by omega);have:=e5 (by omega);have:=e6 (by omega);have:=e7 (by omega);clear e1 e2 e3 e4 e5 e6 e7;omega
 |3,_=>have:=e4 (by omega);have:=e5 (by omega);have:=e6 (by omega);have:=e7 (by omega);clear e1 e2 e3 e4 e5 e6 e7;omega
 |4,_=>have:=e5 (by omega);have:=e6 (by omega);have:=e7 (by omega);clear e1 e2 e3 e4 e5 e6 e7;omega
 |5,_=>have:=e6 (by omega);have:=e7 (by omega);clear e1 e2 e3 e4 e5 e6 e7;omega
 |6,_=>have:=e7 (by omega);clear e1 e2 e3 e4 e5 e6 e7;omega
 |7,_=>clear e1 e2 e3 e4 e5 e6 e7;omega
theorem val8_same {f g:Nat->Int}(he:∀ j,j<8->f j=g j):val8 f=val8 g:=by
 unfold val8
 rw[he 0 (by omega),he 1 (by omega),he 2 (by omega),he 3 (by omega),he 4 (by omega),he 5 (by omega),he 6 (by omega),he 7 (by omega)]
theorem digit_at {f:Nat->Int}(h:Digs f){N:Int}(e:val8 f=N)(j:Nat)(hj:j<8):f j=N / 2 ^ (16*j) % 65536:=by
 have a0:=h 0 (by omega);have a1:=h 1 (by omega);have a2:=h 2 (by omega);have a3:=h 3 (by omega)
 have a4:=h 4 (by omega);have a5:=h 5 (by omega);have a6:=h 6 (by omega);have a7:=h 7 (by omega)
 unfold val8 at e
 clear h
 match j,hj with
 |0,_=>simp only[Nat.mul_zero,Int.pow_zero];omega
 |1,_=>simp only[Nat.reduceMul,Int.reducePow];omega
 |2,_=>simp only[Nat.reduceMul,Int.reducePow];omega
 |3,_=>simp only[Nat.reduceMul,Int.reducePow];omega
 |4,_=>simp only[Nat.reduceMul,Int.reducePow];omega
 |5,_=>simp only[Nat.reduceMul,Int.reducePow];omega
 |6,_=>simp only[Nat.reduceMul,Int.reducePow];omega
 |7,_=>simp only[Nat.reduceMul,Int.reducePow];omega
theorem low_bit (M:Int)(r:Nat)(hr:r<16):M % 65536 / 2 ^ r % 2=M / 2 ^ r % 2:=by
 match r,hr with
 |0,_=>simp only[Int.pow_zero];omega
 |1,_=>simp only[Int.reducePow];omega
 |2,_=>simp only[Int.reducePow];omega
 |3,_=>simp only[Int.reducePow];omega
 |4,_=>simp only[Int.reducePow];omega
 |5,_=>simp only[Int.reducePow];omega
 |6,_=>simp only[Int.reducePow];omega
 |7,_=>simp only[Int.reducePow];omega
 |8,_=>simp only[Int.reducePow];omega
 |9,_=>simp only[Int.reducePow];omega
 |10,_=>simp only[Int.reducePow];omega
 |11,_=>simp only[Int.reducePow];omega
 |12,_=>simp only[Int.reducePow];omega
 |13,_=>simp only[Int.reducePow];omega
 |14,_=>simp only[Int.reducePow];omega
 |15,_=>simp only[Int.reducePow];omega
 |r+16,h=>omega
theorem bit_at {f:Nat->Int}(h:Digs f){N:Int}(e:val8 f=N)(i:Nat)(hi:i<128):f (i / 16) / 2 ^ (i % 16) % 2=N / 2 ^ i % 2:=by
 rw[digit_at h e (i / 16) (by omega),low_bit _ _ (by omega)]
 have h1:(2:Int) ^ i=2 ^ (16*(i / 16))*2 ^ (i % 16):=by rw[<-Int.pow_add];congr 1;omega
 rw[h1,Int.ediv_ediv_of_nonneg (Int.le_of_lt (Int.pow_pos (by decide)))]
theorem next_bit (N:Int)(i:Nat):N / 2 ^ i=2*(N / 2 ^ (i+1))+N / 2 ^ i % 2:=by
 have h:N / 2 ^ (i+1)=N / 2 ^ i / 2:=by rw[Int.pow_succ,Int.ediv_ediv_of_nonneg (Int.le_of_lt (Int.pow_pos (by decide)))]
 rw[h];omega
end Go.Proofs.YtfnpfkgmacaboaaGreatEx
