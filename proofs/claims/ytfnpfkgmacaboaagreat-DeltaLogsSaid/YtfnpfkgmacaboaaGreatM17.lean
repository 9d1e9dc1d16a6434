/- Texts joined by a program. -/
import Derived.Test.YtfnpfkgmacaboaaGreatM15
namespace Go.Proofs.YtfnpfkgmacaboaaGreatEx
def lod (x:Int):Nat->Int
 |0=>x
 |k+1=>lod x k / 65536
theorem lod_lo (x:Int)(h:0<=x):∀ k,0<=lod x k
 |0=>h
 |k+1=>Int.ediv_nonneg (lod_lo x h k) (by omega)
theorem lod_hi (x:Int)(h0:0<=x)(h:x<=18446744073709551615):∀ k,lod x k<=18446744073709551615
 |0=>h
 |k+1=>by have:=lod_hi x h0 h k;have:=lod_lo x h0 k;show lod x k / 65536<=_;omega
def dgt (a:Int)(i:Nat):Int:=if i<4 then lod (wlo a) i % 65536 else lod (whi a % 18446744073709551616) (i - 4) % 65536
theorem Zd1 (a:Int)(i:Nat):0<=dgt a i:=by unfold dgt;split<;>omega
theorem Zd2 (a:Int)(i:Nat):dgt a i<=65535:=by unfold dgt;split<;>omega
def val8 (f:Nat->Int):Int:=f 0+f 1*65536+f 2*4294967296+f 3*281474976710656+f 4*18446744073709551616+f 5*1208925819614629174706176+f 6*79228162514264337593543950336+f 7*5192296858534827628530496329220096
theorem Zd8 (a:Int):eqv (val8 (dgt a)) a:=by
 have h:val8 (dgt a)=wlo a+(whi a % 18446744073709551616)*18446744073709551616:=by
  have l0:=wlo_lo a;have l1:=wlo_hi a
  unfold val8 dgt
  simp only[lod,show(0:Nat)<4 by decide,show(1:Nat)<4 by decide,show(2:Nat)<4 by decide,show(3:Nat)<4 by decide,show ¬ (4:Nat)<4 by decide,show ¬ (5:Nat)<4 by decide,show ¬ (6:Nat)<4 by decide,show ¬ (7:Nat)<4 by decide,if_true,if_false,Nat.sub_self,show 5 - 4=1 by decide,show 6 - 4=2 by decide,show 7 - 4=3 by decide]
  generalize wlo a=l at *
  have hh:0<=whi a % 18446744073709551616/\whi a % 18446744073709551616<18446744073709551616:=by omega
  generalize whi a % 18446744073709551616=u at *
  omega
 rw[h]
 unfold eqv whi wlo
 omega
def more (f:Nat->Int):Nat->Int
 |0=>0
 |k+1=>(f k+more f k) / 65536
def car (f:Nat->Int)(i:Nat):Int:=(f i+more f i) % 65536
theorem car_lo (f:Nat->Int)(i:Nat):0<=car f i:=by unfold car;omega
theorem car_hi (f:Nat->Int)(i:Nat):car f i<=65535:=by unfold car;omega
theorem ZeW (f:Nat->Int):eqv (val8 (car f)) (val8 f):=by
 unfold val8 car eqv
 have e0:more f 0=0:=rfl
 have e1:more f 1=(f 0+more f 0) / 65536:=rfl
 have e2:more f 2=(f 1+more f 1) / 65536:=rfl
 have e3:more f 3=(f 2+more f 2) / 65536:=rfl
 have e4:more f 4=(f 3+more f 3) / 65536:=rfl
 have e5:more f 5=(f 4+more f 4) / 65536:=rfl
 have e6:more f 6=(f 5+more f 5) / 65536:=rfl
 have e7:more f 7=(f 6+more f 6) / 65536:=rfl
 omega
theorem more_bd (f:Nat->Int):∀ k,(∀ i,i<k->-1099511627776<=f i/\f i<=1099511627776)->-1099511627776<=more f k/\more f k<=1099511627776
 |0,_=>by show -1099511627776<=(0:Int)/\(0:Int)<=1099511627776;decide
 |k+1,h=>by
  have:=more_bd f k (fun i hi=>h i (by omega))
  have:=h k (by omega)
  show _<=(f k+more f k) / 65536/\(f k+more f k) / 65536<=_
  omega
def mk4 (f:Nat->Int):Nat->Int
 |0=>0
 |k+1=>mk4 f k*65536+f (3 - k)
theorem mk4_bd (f:Nat->Int)(h:∀ i,i<4->0<=f i/\f i<=65535):∀ k,k<=4->0<=mk4 f k/\mk4 f k<=18446744073709551615
 |0,_=>by show(0:Int)<=0/\(0:Int)<=18446744073709551615;decide
 |1,_=>by have:=h 3 (by omega);simp only[mk4,Nat.reduceSub];omega
 |2,_=>by have:=h 3 (by omega);have:=h 2 (by omega);simp only[mk4,Nat.reduceSub];omega
 |3,_=>by have:=h 3 (by omega);have:=h 2 (by omega);have:=h 1 (by omega);simp only[mk4,Nat.reduceSub];omega
 |4,_=>by have:=h 3 (by omega);have:=h 2 (by omega);have:=h 1 (by omega);have:=h 0 (by omega);simp only[mk4,Nat.reduceSub];omega
 |k+5,h=>by omega
theorem mk4_halves (f:Nat->Int)(h:∀ i,i<8->0<=f i/\f i<=65535)(c:Int)(hc:eqv (val8 f) c) :
 ((mk4 (fun i=>f (i+4)) 4)+9223372036854775808) % 18446744073709551616 - 9223372036854775808=whi c/\mk4 f 4=wlo c:=by
 have e:=halves_eqv hc
 rw[<-e.1,<-e.2]
 have:=h 0 (by omega);have:=h 1 (by omega);have:=h 2 (by omega);have:=h 3 (by omega)
 have:=h 4 (by omega);have:=h 5 (by omega);have:=h 6 (by omega);have:=h 7 (by omega)
 simp only[mk4,val8,whi,wlo,Nat.reduceSub,Nat.reduceAdd]
 omega
end Go.Proofs.YtfnpfkgmacaboaaGreatEx
