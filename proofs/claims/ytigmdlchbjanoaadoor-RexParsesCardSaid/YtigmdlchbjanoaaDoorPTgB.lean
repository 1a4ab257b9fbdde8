/- Put together: Cl1, Cl2, Cl3, Cl4, Cl5. -/
import Derived.Test.YtigmdlchbjanoaaDoorPTgA
import Derived.Laws.BitsAllLaws
import Derived.Laws.Shifts
import Derived.Laws.Bits128
import Derived.RegionTactic
import Derived.ChangeAlike
import Derived.BigQuiet
import Derived.BigRegion
import Derived.Deep.QuietTactic
namespace Go.Proofs.YtigmdlchbjanoaaDoor
open Go Go.RowKit
/-- How many of the first ones are so. -/
def cnt (f:Nat→Bool):Nat→Nat
 | 0=>0
 | n+1=>cnt f n+(if f n then 1 else 0)
theorem cnt_add (f:Nat→Bool) (m n:Nat):cnt f (m+n)=cnt f m+cnt (fun j=>f (m+j)) n:=by
 induction n with
 | zero=>simp [cnt]
 | succ n ih=>rw [← Nat.add_assoc,cnt,ih,cnt];omega
theorem cnt_congr {f g:Nat→Bool} {n:Nat} (h:∀ j,j<n→f j=g j):cnt f n=cnt g n:=by
 induction n with
 | zero=>rfl
 | succ n ih=>rw [cnt,cnt,ih (fun j hj=>h j (by omega)),h n (by omega)]
theorem cnt_le (f:Nat→Bool) (n:Nat):cnt f n≤n:=by
 induction n with
 | zero=>exact Nat.le_refl _
 | succ n ih=>rw [cnt];split <;> omega
/-- One byte's bits, counted in place. -/
def b1 (y:Nat):Nat:=(y / 2 &&& 85)+(y &&& 85)
def b2 (y:Nat):Nat:=(y / 4 &&& 51)+(y &&& 51)
def b3 (y:Nat):Nat:=y / 16+y % 16
set_option maxRecDepth 100000 in
theorem byte_pop:∀ y:Fin 256,b1 y.1≤170∧b2 (b1 y.1)≤68∧b2 (b1 y.1) % 16≤4∧b3 (b2 (b1 y.1))=cnt (fun j=>y.1.testBit j) 8:=by decide +kernel
theorem and_split (x m:Nat):x &&& m=(x % 256 &&& m % 256)+256*(x / 256 &&& m / 256):=by
 have h1:=Nat.and_mod_two_pow (a:=x) (b:=m) (n:=8)
 have h2:=Nat.and_div_two_pow (a:=x) (b:=m) (n:=8)
 simp only [Nat.reducePow] at h1 h2
 rw [← h1,← h2]
 omega
/-- Byte by byte. -/
def bm (g:Nat→Nat):Nat→Nat→Nat
 | 0,_=>0
 | k+1,x=>g (x % 256)+256*bm g k (x / 256)
def mk (m:Nat):Nat→Nat
 | 0=>0
 | k+1=>m+256*mk m k
theorem bm_div (g:Nat→Nat) (hg:∀ y,y<256→g y<256) (k x:Nat):bm g (k+1) x % 256=g (x % 256)∧bm g (k+1) x / 256=bm g k (x / 256):=by
 have:=hg (x % 256) (by omega)
 simp only [bm]
 omega
theorem bm_comp (f g:Nat→Nat) (hf:∀ y,y<256→f y<256):∀ k x,bm g k (bm f k x)=bm (fun y=>g (f y)) k x:=by
 intro k
 induction k with
 | zero=>intro x;rfl
 | succ k ih =>
  intro x
  obtain ⟨h1,h2⟩:=bm_div f hf k x
  rw [bm,h1,h2,ih]
  rfl
set_option maxRecDepth 100000 in
theorem and85:∀ y:Fin 128,∀ c:Fin 2,(y.1+128*c.1) &&& 85=y.1 &&& 85:=by decide +kernel
set_option maxRecDepth 100000 in
theorem and51:∀ y:Fin 64,∀ c:Fin 4,(y.1+64*c.1) &&& 51=y.1 &&& 51:=by decide +kernel
theorem step1:∀ k x,(x / 2 &&& mk 85 k)+(x &&& mk 85 k)=bm b1 k x:=by
 intro k
 induction k with
 | zero=>intro x;simp [mk,bm]
 | succ k ih =>
  intro x
  rw [and_split (x / 2),and_split x]
  have e1:mk 85 (k+1) % 256=85:=by simp only [mk];omega
  have e2:mk 85 (k+1) / 256=mk 85 k:=by simp only [mk];omega
  have e3:x / 2 / 256=x / 256 / 2:=by omega
  have e4:x / 2 % 256=x % 256 / 2+128*(x / 256 % 2):=by omega
  have:=and85 ⟨x % 256 / 2,by omega⟩ ⟨x / 256 % 2,by omega⟩
  simp only at this
  rw [e1,e2,e3,e4,this,bm,← ih,b1]
  omega
theorem step2:∀ k x,(x / 4 &&& mk 51 k)+(x &&& mk 51 k)=bm b2 k x:=by
 intro k
 induction k with
 | zero=>intro x;simp [mk,bm]
 | succ k ih =>
  intro x
  rw [and_split (x / 4),and_split x]
  have e1:mk 51 (k+1) % 256=51:=by simp only [mk];omega
  have e2:mk 51 (k+1) / 256=mk 51 k:=by simp only [mk];omega
  have e3:x / 4 / 256=x / 256 / 4:=by omega
  have e4:x / 4 % 256=x % 256 / 4+64*(x / 256 % 4):=by omega
  have:=and51 ⟨x % 256 / 4,by omega⟩ ⟨x / 256 % 4,by omega⟩
  simp only at this
  rw [e1,e2,e3,e4,this,bm,← ih,b2]
  omega
theorem step3 (g:Nat→Nat) (hg:∀ y,y<256→g y≤68∧g y % 16≤4):∀ k x,(bm g k x / 16+bm g k x) &&& mk 15 k=bm (fun y=>b3 (g y)) k x:=by
 intro k
 induction k with
 | zero=>intro x;simp [mk,bm]
 | succ k ih =>
  intro x
  have h1:=hg (x % 256) (by omega)
  rw [and_split]
  have e1:mk 15 (k+1) % 256=15:=by simp only [mk];omega
  have e2:mk 15 (k+1) / 256=mk 15 k:=by simp only [mk];omega
  have hlow:bm g k (x / 256) % 16≤4:=by
   cases k with
   | zero=>simp [bm]
   | succ k =>
    have h2:=hg (x / 256 % 256) (by omega)
    simp only [bm]
    omega
  obtain ⟨r,hr⟩:∃ r,bm g k (x / 256)=r:=⟨_,rfl⟩
  obtain ⟨z,hz⟩:∃ z,g (x % 256)=z:=⟨_,rfl⟩
  rw [hr] at hlow
  rw [hz] at h1
  have e5:bm g (k+1) x=z+256*r:=by rw [bm,hr,hz]
  have e3:(bm g (k+1) x / 16+bm g (k+1) x) / 256=r / 16+r:=by rw [e5];omega
  have e4:(bm g (k+1) x / 16+bm g (k+1) x) % 256=z+z / 16+16*(r % 16):=by rw [e5];omega
  have e6:=Nat.and_two_pow_sub_one_eq_mod (z+z / 16+16*(r % 16)) 4
  simp only [Nat.reducePow,Nat.reduceSub] at e6
  rw [e1,e2,e3,e4,e6,bm,← ih,hr]
  simp only [b3,hz]
  omega
theorem bm_pop:∀ k x,(bm (fun y=>cnt (fun j=>y.testBit j) 8) k x)=bm (fun y=>b3 (b2 (b1 y))) k x:=by
 intro k
 induction k with
 | zero=>intro x;rfl
 | succ k ih =>
  intro x
  rw [bm,bm,ih,(byte_pop ⟨x % 256,by omega⟩).2.2.2]
theorem swar (x:Nat) (k:Nat):((bm b2 k (bm b1 k x) / 16+bm b2 k (bm b1 k x)) &&& mk 15 k)=bm (fun y=>cnt (fun j=>y.testBit j) 8) k x:=by
 rw [bm_comp b1 b2 (fun y hy=>by have:=(byte_pop ⟨y,hy⟩).1;simp only at this;omega),step3 _ (fun y hy=>⟨(byte_pop ⟨y,hy⟩).2.1,(byte_pop ⟨y,hy⟩).2.2.1⟩),bm_pop]
theorem cnt_byte (x k:Nat):cnt (fun j=>x.testBit j) (8+k)=cnt (fun j=>(x % 256).testBit j) 8+cnt (fun j=>(x / 256).testBit j) k:=by
 rw [cnt_add]
 congr 1
 ·refine cnt_congr fun j hj=>?_
  have:=Nat.testBit_mod_two_pow x 8 j
  simp only [Nat.reducePow] at this
  rw [this]
  simp [hj]
 ·refine cnt_congr fun j _=>?_
  have:=Nat.testBit_div_two_pow (n:=8) x j
  simp only [Nat.reducePow] at this
  rw [this,Nat.add_comm]
def pb (x:Nat):Nat:=cnt (fun j=>(x % 256).testBit j) 8
theorem pb_le (x:Nat):pb x≤8:=cnt_le _ 8
theorem cnt_pb (x k:Nat):cnt (fun j=>x.testBit j) (8+k)=pb x+cnt (fun j=>(x / 256).testBit j) k:=cnt_byte x k
theorem pop64 (x:Nat):∃ c0 c1 c2 c3 c4 c5 c6 c7:Nat,c0≤8∧c1≤8∧c2≤8∧c3≤8∧c4≤8∧c5≤8∧c6≤8∧c7≤8∧cnt (fun j=>x.testBit j) 64=c0+c1+c2+c3+c4+c5+c6+c7 ∧
  bm (fun y=>cnt (fun j=>y.testBit j) 8) 8 x=c0+256*c1+65536*c2+16777216*c3+4294967296*c4+1099511627776*c5+281474976710656*c6+72057594037927936*c7:=by
 refine ⟨pb x,pb (x / 256),pb (x / 256 / 256),pb (x / 256 / 256 / 256),pb (x / 256 / 256 / 256 / 256),pb (x / 256 / 256 / 256 / 256 / 256),pb (x / 256 / 256 / 256 / 256 / 256 / 256),pb (x / 256 / 256 / 256 / 256 / 256 / 256 / 256),pb_le _,pb_le _,pb_le _,pb_le _,pb_le _,pb_le _,pb_le _,pb_le _,?_,?_⟩
 ·rw [show 64=8+56 from rfl,cnt_pb,show 56=8+48 from rfl,cnt_pb,show 48=8+40 from rfl,cnt_pb,show 40=8+32 from rfl,cnt_pb,show 32=8+24 from rfl,cnt_pb,show 24=8+16 from rfl,cnt_pb,show 16=8+8 from rfl,cnt_pb]
  have e:∀ y,cnt (fun j=>y.testBit j) 8=pb y:=fun y=>by
   have:=cnt_pb y 0
   simpa [cnt] using this
  rw [e]
  omega
 ·simp only [bm]
  simp only [pb]
  omega
theorem dv (m r q x:Nat) (h:r<m) (e:x=r+m*q):x / m=q:=by
 subst e
 rw [Nat.add_mul_div_left _ _ (by omega),Nat.div_eq_of_lt h]
 omega
theorem md (m r q x:Nat) (h:r<m) (e:x=r+m*q):x % m=r:=by
 subst e
 rw [Nat.add_mul_mod_self_left,Nat.mod_eq_of_lt h]
theorem horner_end (c0 c1 c2 c3 c4 c5 c6 c7 A1 A2 A3 A4 A5 A6 X:Nat) (hs:c0+c1+c2+c3+c4+c5+c6+c7≤64) (h0:c0≤8) (h1:c1≤8) (h2:c2≤8) (h3:c3≤8) (h4:c4≤8) (h5:c5≤8) (h6:c6≤8) (h7:c7≤8)
  (hX:X=c0+256*A1) (a1:A1=c1+256*A2) (a2:A2=c2+256*A3) (a3:A3=c3+256*A4) (a4:A4=c4+256*A5) (a5:A5=c5+256*A6) (a6:A6=c6+256*c7) :
  X<18446744073709551616∧X+X / 256<18446744073709551616∧X+X / 256+(X+X / 256) / 65536<18446744073709551616 ∧
  (X+X / 256+(X+X / 256) / 65536)+(X+X / 256+(X+X / 256) / 65536) / 4294967296<18446744073709551616∧((X+X / 256+(X+X / 256) / 65536)+(X+X / 256+(X+X / 256) / 65536) / 4294967296) % 128=c0+c1+c2+c3+c4+c5+c6+c7:=by
 have b6:A6≤2056:=by clear a5 a4 a3 a2 a1 hX;omega
 have b5:A5≤526344:=by clear a4 a3 a2 a1 hX a6;omega
 have b4:A4≤134744072:=by clear a3 a2 a1 hX a6 a5 b6;omega
 have b3:A3≤34494482440:=by clear a2 a1 hX a6 a5 b6 a4 b5;omega
 have b2:A2≤8830587504648:=by clear a1 hX a6 a5 b6 a4 b5 a3 b4;omega
 have b1:A1≤2260630401189896:=by clear hX a6 a5 b6 a4 b5 a3 b4 a2 b3;omega
 have b0:X≤578721382704613384:=by clear a6 a5 b6 a4 b5 a3 b4 a2 b3 a1 b2;omega
 have e1:X / 256=A1:=dv 256 c0 A1 X (Nat.lt_of_le_of_lt h0 (by decide)) hX
 rw [e1]
 have e3:(X+A1) / 65536=A2+A3:=by
  refine dv 65536 (c0+c1+256*(c1+c2)) (A2+A3) _ ?_ ?_
  ·clear hX a1 a2 a3 a4 a5 a6 b0 b1 b2 b3 b4 b5 b6 e1;omega
  ·clear a3 a4 a5 a6 b0 b1 b2 b3 b4 b5 b6 e1 h0 h1 h2 h3 h4 h5 h6 h7 hs;omega
 rw [e3]
 have e5:(X+A1+(A2+A3)) / 4294967296=A4+A5+A6+c7:=by
  refine dv 4294967296 (c0+c1+c2+c3+256*(c1+c2+c3+c4)+65536*(c2+c3+c4+c5)+16777216*(c3+c4+c5+c6)) _ _ ?_ ?_
  ·clear hX a1 a2 a3 a4 a5 a6 b0 b1 b2 b3 b4 b5 b6 e1 e3;omega
  ·clear b0 b1 b2 b3 b4 b5 b6 e1 e3 h0 h1 h2 h3 h4 h5 h6 h7 hs;omega
 rw [e5]
 refine ⟨by clear hX a1 a2 a3 a4 a5 a6 e1 e3 e5;omega,by clear hX a1 a2 a3 a4 a5 a6 e1 e3 e5;omega,by clear hX a1 a2 a3 a4 a5 a6 e1 e3 e5;omega,by clear hX a1 a2 a3 a4 a5 a6 e1 e3 e5;omega,?_⟩
 refine md 128 _ (2*(A1+A2+A3+A4+A5+A6+c7)) _ ?_ ?_
 ·exact Nat.lt_of_le_of_lt hs (by decide)
 ·clear b0 b1 b2 b3 b4 b5 b6 e1 e3 e5 h0 h1 h2 h3 h4 h5 h6 h7 hs;omega
/-- The counting's last steps. -/
theorem pop_end (x X:Nat) (hX:bm (fun y=>cnt (fun j=>y.testBit j) 8) 8 x=X):∃ n:Nat,cnt (fun j=>x.testBit j) 64=n∧n≤64∧X<18446744073709551616∧X+X / 256<18446744073709551616∧X+X / 256+(X+X / 256) / 65536<18446744073709551616 ∧
  (X+X / 256+(X+X / 256) / 65536)+(X+X / 256+(X+X / 256) / 65536) / 4294967296<18446744073709551616∧((X+X / 256+(X+X / 256) / 65536)+(X+X / 256+(X+X / 256) / 65536) / 4294967296) % 128=n:=by
 obtain ⟨c0,c1,c2,c3,c4,c5,c6,c7,h0,h1,h2,h3,h4,h5,h6,h7,hc,hb⟩:=pop64 x
 have hs:c0+c1+c2+c3+c4+c5+c6+c7≤64:=by rw [← hc];exact cnt_le _ 64
 have hx:X=c0+256*(c1+256*(c2+256*(c3+256*(c4+256*(c5+256*(c6+256*c7)))))):=by rw [← hX,hb];clear hX hb hc hs h0 h1 h2 h3 h4 h5 h6 h7;omega
 have hq:=horner_end c0 c1 c2 c3 c4 c5 c6 c7 (c1+256*(c2+256*(c3+256*(c4+256*(c5+256*(c6+256*c7)))))) (c2+256*(c3+256*(c4+256*(c5+256*(c6+256*c7))))) (c3+256*(c4+256*(c5+256*(c6+256*c7)))) (c4+256*(c5+256*(c6+256*c7))) (c5+256*(c6+256*c7)) (c6+256*c7) X hs h0 h1 h2 h3 h4 h5 h6 h7 hx rfl rfl rfl rfl rfl rfl
 exact ⟨_,hc,hs,hq.1,hq.2.1,hq.2.2.1,hq.2.2.2.1,hq.2.2.2.2⟩
end Go.Proofs.YtigmdlchbjanoaaDoor
namespace Go.Proofs.YtigmdlchbjanoaaDoor
open Go Go.RowKit
/-- The number of these bits. -/
def bnum:(Nat→Bool)→Nat→Nat
 | _,0=>0
 | p,n+1=>(p 0).toNat+2*bnum (fun j=>p (j+1)) n
theorem bnum_bit:∀ (n:Nat) (p:Nat→Bool) (j:Nat),(bnum p n).testBit j=(decide (j<n) && p j):=by
 intro n
 induction n with
 | zero=>intro p j;simp [bnum]
 | succ n ih =>
  intro p j
  cases j with
  | zero =>
   rw [bnum,Nat.testBit_zero]
   cases h:p 0 <;> simp <;> omega
  | succ j =>
   have e:((p 0).toNat+2*bnum (fun j=>p (j+1)) n) / 2=bnum (fun j=>p (j+1)) n:=by
    cases p 0 <;> simp <;> omega
   rw [bnum,Nat.testBit_succ,e,ih]
   simp
theorem bnum_lt:∀ (n:Nat) (p:Nat→Bool),bnum p n<2 ^ n:=by
 intro n
 induction n with
 | zero=>intro p;simp [bnum]
 | succ n ih =>
  intro p
  have:=ih (fun j=>p (j+1))
  rw [bnum,Nat.pow_succ]
  cases p 0 <;> simp <;> omega
theorem bnum_eq {p:Nat→Bool} {n x:Nat} (h:∀ j,x.testBit j=(decide (j<n) && p j)):x=bnum p n:=
 Nat.eq_of_testBit_eq fun j=>by rw [h,bnum_bit]
theorem bnum_congr {p q:Nat→Bool} {n:Nat} (h:∀ j,j<n→p j=q j):bnum p n=bnum q n:=
 bnum_eq fun j=>by
  rw [bnum_bit]
  by_cases hj:j<n
  ·rw [h j hj]
  ·simp [hj]
theorem bnum_inj {p q:Nat→Bool} {n:Nat} (h:bnum p n=bnum q n):∀ j,j<n→p j=q j:=fun j hj=>by
 have:=congrArg (fun x=>x.testBit j) h
 simp only [bnum_bit] at this
 simpa [hj] using this
theorem mk85:mk 85 8=6148914691236517205:=by decide
theorem mk51:mk 51 8=3689348814741910323:=by decide
theorem mk15:mk 15 8=1085102592571150095:=by decide
theorem bm_lt (g:Nat→Nat) (hg:∀ y,y<256→g y<256) (x:Nat):bm g 8 x<18446744073709551616:=by
 have h:∀ k x,bm g k x<256 ^ k:=by
  intro k
  induction k with
  | zero=>intro x;simp [bm]
  | succ k ih =>
   intro x
   have:=ih (x / 256)
   have:=hg (x % 256) (by omega)
   rw [bm,Nat.pow_succ]
   omega
 exact h 8 x
theorem bm68 (g:Nat→Nat) (hg:∀ y,y<256→g y≤68) (x:Nat):bm g 8 x≤18446744073709551615 / 3:=by
 have h:∀ k x,255*bm g k x≤68*(256 ^ k-1):=by
  intro k
  induction k with
  | zero=>intro x;simp [bm]
  | succ k ih =>
   intro x
   have h1:=ih (x / 256)
   have h2:=hg (x % 256) (by omega)
   have h3:0<256 ^ k:=Nat.pow_pos (by omega)
   rw [bm,Nat.pow_succ]
   generalize 256 ^ k=m at *
   omega
 have:=h 8 x
 simp only [Nat.reducePow] at this
 omega
theorem wrap_id64 (z:Nat) (h:z<18446744073709551616):IntKind.u64.wrap (z:Int)=(z:Int):=by rw [IntKind.wrap_u64];omega
theorem and64 (a m:Nat) (ha:a<18446744073709551616) (hm:m<18446744073709551616):bits .and .u64 (a:Int) (m:Int)=((a &&& m:Nat):Int):=u64_and_nat a m ha hm
theorem wrap64_128 (z:Int):wrap64 z % 128=z % 128:=by unfold wrap64;omega
theorem ones (x:Nat) (hx:x<18446744073709551616) (w:World) :
  Calls Tryd.prog 52 #[.int .u64 x] w fun e w'=>e=.returned (.int .i64 (cnt (fun j=>x.testBit j) 64:Nat))∧w'=w:=by
 have s1:=step1 8 x
 have s2:=step2 8 (bm b1 8 x)
 have s3:=swar x 8
 rw [mk85] at s1
 rw [mk51] at s2
 rw [mk15] at s3
 have l1:bm b1 8 x<18446744073709551616:=bm_lt _ (fun y hy=>by have:=(byte_pop ⟨y,hy⟩).1;simp only at this;omega) _
 have l2:bm b2 8 (bm b1 8 x)≤18446744073709551615 / 3:=by
  rw [bm_comp b1 b2 (fun y hy=>by have:=(byte_pop ⟨y,hy⟩).1;simp only at this;omega)]
  exact bm68 _ (fun y hy=>(byte_pop ⟨y,hy⟩).2.1) x
 obtain ⟨n,hn,hn6,q1,q2,q3,q4,q5⟩:=pop_end x _ rfl
 rw [hn]
 generalize bm (fun y=>cnt (fun j=>y.testBit j) 8) 8 x=y3 at *
 generalize bm b2 8 (bm b1 8 x)=y2 at *
 generalize bm b1 8 x=y1 at *
 have r1:IntKind.u64.wrap (bits .and .u64 ((x:Int) / 2) 6148914691236517205+bits .and .u64 (x:Int) 6148914691236517205)=(y1:Int):=by
  have e1:=and64 (x / 2) 6148914691236517205 (by omega) (by decide)
  have e2:=and64 x 6148914691236517205 hx (by decide)
  rw [show (x:Int) / 2=((x / 2:Nat):Int) from rfl]
  erw [e1,e2]
  rw [← Int.natCast_add,s1,wrap_id64 _ l1]
 have r2:IntKind.u64.wrap (bits .and .u64 ((y1:Int) / 4) 3689348814741910323+bits .and .u64 (y1:Int) 3689348814741910323)=(y2:Int):=by
  have e1:=and64 (y1 / 4) 3689348814741910323 (by omega) (by decide)
  have e2:=and64 y1 3689348814741910323 l1 (by decide)
  rw [show (y1:Int) / 4=((y1 / 4:Nat):Int) from rfl]
  erw [e1,e2]
  rw [← Int.natCast_add,s2,wrap_id64 _ (by omega)]
 have r3:bits .and .u64 (IntKind.u64.wrap ((y2:Int) / 16+(y2:Int))) 1085102592571150095=(y3:Int):=by
  have e1:=and64 (y2 / 16+y2) 1085102592571150095 (by omega) (by decide)
  rw [show (y2:Int) / 16+(y2:Int)=((y2 / 16+y2:Nat):Int) from rfl,wrap_id64 _ (by omega)]
  erw [e1]
  rw [s3]
 have r4:∃ y4:Nat,y4=y3+y3 / 256∧IntKind.u64.wrap ((y3:Int)+(y3:Int) / 256)=(y4:Int):=⟨_,rfl,by rw [show (y3:Int)+(y3:Int) / 256=((y3+y3 / 256:Nat):Int) from rfl,wrap_id64 _ q2]⟩
 obtain ⟨y4,h4,r4⟩:=r4
 rw [← h4] at q2 q3 q4 q5
 have r5:∃ y5:Nat,y5=y4+y4 / 65536∧IntKind.u64.wrap ((y4:Int)+(y4:Int) / 65536)=(y5:Int):=⟨_,rfl,by rw [show (y4:Int)+(y4:Int) / 65536=((y4+y4 / 65536:Nat):Int) from rfl,wrap_id64 _ q3]⟩
 obtain ⟨y5,h5,r5⟩:=r5
 rw [← h5] at q3 q4 q5
 have r6:∃ y6:Nat,y6=y5+y5 / 4294967296∧IntKind.u64.wrap ((y5:Int)+(y5:Int) / 4294967296)=(y6:Int):=⟨_,rfl,by rw [show (y5:Int)+(y5:Int) / 4294967296=((y5+y5 / 4294967296:Nat):Int) from rfl,wrap_id64 _ q4]⟩
 obtain ⟨y6,h6,r6⟩:=r6
 rw [← h6] at q4 q5
 have r7:bits .and .i64 (wrap64 (y6:Int)) 127=(n:Int):=by
  rw [i64_and127,wrap64_128,← q5]
  rfl
 clear h4 h5 h6 q1 q2 q3 q4 q5 hn hn6 l1 l2 s1 s2 s3 hx
 go_enter Tryd.func52,Tryd.ntmps52
 go_wp2
 go_ret
 exact ⟨by simp,rfl⟩
end Go.Proofs.YtigmdlchbjanoaaDoor
namespace Go.Proofs.YtigmdlchbjanoaaDoor
open Go Go.RowKit
def wd (p:Nat→Bool) (k:Nat):Nat:=bnum (fun j=>p (64*k+j)) 64
theorem wd_lt (p:Nat→Bool) (k:Nat):wd p k<18446744073709551616:=bnum_lt 64 _
theorem wd_bit (p:Nat→Bool) (k j:Nat):(wd p k).testBit j=(decide (j<64) && p (64*k+j)):=bnum_bit 64 _ j
theorem wd_inj {p q:Nat→Bool} {k:Nat} (h:wd p k=wd q k):∀ j,j<64→p (64*k+j)=q (64*k+j):=fun j hj=>bnum_inj h j hj
theorem wd_congr {p q:Nat→Bool} {k:Nat} (h:∀ j,j<64→p (64*k+j)=q (64*k+j)):wd p k=wd q k:=bnum_congr h
/-- The set of these bytes, as the code has it. -/
def sp (p:Nat→Bool):Value:=.agg #[.int .u64 (wd p 0:Nat),.int .u64 (wd p 1:Nat),.int .u64 (wd p 2:Nat),.int .u64 (wd p 3:Nat)]
theorem results_cell1 {fn:Func} {p:Tmp} {ty:TypeId} (h:fn.results=#[.cell p ty]) (tmps:Array Value) (P:Program) (w:World) :
  (results fn tmps).run P w=((asAddr (tmps.getD p undef)).run P w).andThen fun a w₁=>(loadVar ty a).run P w₁:=by
 simp only [results,h]
 simp [Sem.run_bind,Result.andThen]
theorem and_pow (x j:Nat):x &&& 2 ^ j=(x.testBit j).toNat*2 ^ j:=by
 refine Nat.eq_of_testBit_eq fun k=>?_
 rw [Nat.testBit_and,Nat.testBit_two_pow]
 cases h:x.testBit j
 ·by_cases hk:j=k
  ·subst hk;simp [h]
  ·simp [hk]
 ·by_cases hk:j=k
  ·subst hk;simp [h]
  ·simp [hk]
theorem and_bit (x j:Nat) (hx:x<18446744073709551616) (hj:j<64):(bits BinOp.and IntKind.u64 (x:Int) (IntKind.u64.wrap (2 ^ j)) != 0)=x.testBit j:=by
 have h2:2 ^ j<18446744073709551616:=Nat.pow_lt_pow_of_lt (a:=2) (m:=64) (by omega) hj
 have e:((2:Int) ^ j)=((2 ^ j:Nat):Int):=by simp
 rw [e,wrap_id64 _ h2,u64_and_nat _ _ hx h2,and_pow]
 have:0<2 ^ j:=Nat.pow_pos (by omega)
 generalize 2 ^ j=m at *
 cases x.testBit j
 ·simp
 ·simp;omega
theorem setHas (p:Nat→Bool) (c:Nat) (hc:c<256) (w:World) :
  Calls Tryd.prog 53 #[sp p,.int .u8 (c:Nat)] w fun e w'=>e=.returned (.bool (p c))∧Ext w w':=by
 obtain ⟨k,hk⟩:∃ k,c / 64=k:=⟨_,rfl⟩
 obtain ⟨j,hj⟩:∃ j,c % 64=j:=⟨_,rfl⟩
 have hck:c=64*k+j:=by omega
 have hj6:j<64:=by omega
 have hb:(bits BinOp.and IntKind.u64 (wd p k:Nat) (IntKind.u64.wrap (2 ^ j)) != 0)=p c:=by rw [and_bit _ _ (wd_lt p k) hj6,wd_bit,hck];simp [hj6]
 have hk4:k=0∨k=1∨k=2∨k=3:=by omega
 have e1:(c:Int).tdiv 64=(k:Int):=by rw [← hk];rfl
 have e2:(c:Int).tmod 64=(j:Int):=by rw [← hj];rfl
 unfold sp
 clear hk hj hck
 rcases hk4 with rfl | rfl | rfl | rfl
 all_goals
  go_enter Tryd.func53,Tryd.ntmps53
  go_wp2
  go_ret
  exact ⟨by simp,by (first | exact Ext.refl _ | (unfold Ext;repeat (first | exact Below.refl _ _ | assumption | refine Below.alloc ?_ (by first | (simp;done) | (simp;omega) | omega) _ | refine Below.setCell ?_ (by first | (simp;done) | (simp;omega) | omega) _ | refine Below.drew ?_)))⟩
theorem wd_or (p q:Nat→Bool) (k:Nat):wd p k ||| wd q k=wd (fun j=>p j || q j) k:=by
 refine bnum_eq fun j=>?_
 rw [Nat.testBit_or,wd_bit,wd_bit]
 cases decide (j<64) <;> simp
theorem or_wd (p q:Nat→Bool) (k:Nat):bits BinOp.or IntKind.u64 (wd p k:Nat) (wd q k:Nat)=(wd (fun j=>p j || q j) k:Nat):=
 (u64_or_nat _ _ (wd_lt _ _) (wd_lt _ _)).trans (by rw [wd_or])
theorem Blk.newA {w:World} {g:Nat} (h:w.heap.size=g) (e:TypeId) (cs:List Value):Blk (w.alloc (.cells cs.toArray e)) g e cs:=by subst h;exact Blk.newL w e cs
def mix (X Y:Nat→Nat):Nat→List Value
 | 0=>[.int .u64 (X 0),.int .u64 (X 1),.int .u64 (X 2),.int .u64 (X 3)]
 | 1=>[.int .u64 (Y 0),.int .u64 (X 1),.int .u64 (X 2),.int .u64 (X 3)]
 | 2=>[.int .u64 (Y 0),.int .u64 (Y 1),.int .u64 (X 2),.int .u64 (X 3)]
 | 3=>[.int .u64 (Y 0),.int .u64 (Y 1),.int .u64 (Y 2),.int .u64 (X 3)]
 | _=>[.int .u64 (Y 0),.int .u64 (Y 1),.int .u64 (Y 2),.int .u64 (Y 3)]
set_option maxHeartbeats 1000000 in
set_option maxRecDepth 20000 in
theorem setOr (p q:Nat→Bool) (w:World) :
  Calls Tryd.prog 69 #[sp p,sp q] w fun e w'=>e=.returned (sp fun j=>p j || q j)∧Ext w w':=by
 have r0:=or_wd p q 0
 have r1:=or_wd p q 1
 have r2:=or_wd p q 2
 have r3:=or_wd p q 3
 unfold sp
 go_enter Tryd.func69,Tryd.ntmps69
 go_wp2
 go_loopw [6] (fun iv wr=>∃ i:Nat,i≤4∧iv=.int .i64 i∧Blk wr w.heap.size 25 (mix (wd p) (wd fun j=>p j || q j) i)∧Blk wr (w.heap.size+1) 25 (mix (wd q) (wd q) 0)∧Blk wr (w.heap.size+2) 25 (mix (fun _=>0) (fun _=>0) 0)∧Ext w wr) (fun iv _=>4-(intOf iv).toNat)
 case atStart=>exact ⟨0,by omega,rfl,((Blk.newA rfl _ _).alloc _).alloc _,(Blk.newA (by simp) _ _).alloc _,Blk.newA (by simp) _ _,by (first | exact Ext.refl _ | (unfold Ext;repeat (first | exact Below.refl _ _ | assumption | refine Below.alloc ?_ (by first | (simp;done) | (simp;omega) | omega) _ | refine Below.setCell ?_ (by first | (simp;done) | (simp;omega) | omega) _ | refine Below.drew ?_)))⟩
 case round =>
  obtain ⟨i,hi,rfl,hB,hC,hD,hx⟩:=hrel
  have hi4:i=0∨i=1∨i=2∨i=3∨i=4:=by omega
  rcases hi4 with rfl | rfl | rfl | rfl | rfl
  focus
   have b0:=hB.cell 0
   have c0:=hC.cell 0
   have f0:=hB.frozen 0
   simp only [mix,List.getElem?_cons_zero] at b0 c0
   have HB:=Lib.hid hB
   have HC:=Lib.hid hC
   have HD:=Lib.hid hD
   clear hB hC hD
   go_wp2
   go_region
   all_goals go_wp2
   all_goals go_roundw
   case rel=>exact ⟨1,by omega,by go_num,HB.out.set_ 0 _,HC.out.far (by simp) _,HD.out.far (by simp) _,by (first | exact Ext.refl _ | (unfold Ext;repeat (first | exact Below.refl _ _ | assumption | refine Below.alloc ?_ (by first | (simp;done) | (simp;omega) | omega) _ | refine Below.setCell ?_ (by first | (simp;done) | (simp;omega) | omega) _ | refine Below.drew ?_)))⟩
   case measure=>simp [intOf]
  focus
   have b0:=hB.cell 1
   have c0:=hC.cell 1
   have f0:=hB.frozen 1
   simp only [mix,List.getElem?_cons_zero,List.getElem?_cons_succ] at b0 c0
   have HB:=Lib.hid hB
   have HC:=Lib.hid hC
   have HD:=Lib.hid hD
   clear hB hC hD
   go_wp2
   go_region
   all_goals go_wp2
   all_goals go_roundw
   case rel=>exact ⟨2,by omega,by go_num,HB.out.set_ 1 _,HC.out.far (by simp) _,HD.out.far (by simp) _,by (first | exact Ext.refl _ | (unfold Ext;repeat (first | exact Below.refl _ _ | assumption | refine Below.alloc ?_ (by first | (simp;done) | (simp;omega) | omega) _ | refine Below.setCell ?_ (by first | (simp;done) | (simp;omega) | omega) _ | refine Below.drew ?_)))⟩
   case measure=>simp [intOf]
  focus
   have b0:=hB.cell 2
   have c0:=hC.cell 2
   have f0:=hB.frozen 2
   simp only [mix,List.getElem?_cons_zero,List.getElem?_cons_succ] at b0 c0
   have HB:=Lib.hid hB
   have HC:=Lib.hid hC
   have HD:=Lib.hid hD
   clear hB hC hD
   go_wp2
   go_region
   all_goals go_wp2
   all_goals go_roundw
   case rel=>exact ⟨3,by omega,by go_num,HB.out.set_ 2 _,HC.out.far (by simp) _,HD.out.far (by simp) _,by (first | exact Ext.refl _ | (unfold Ext;repeat (first | exact Below.refl _ _ | assumption | refine Below.alloc ?_ (by first | (simp;done) | (simp;omega) | omega) _ | refine Below.setCell ?_ (by first | (simp;done) | (simp;omega) | omega) _ | refine Below.drew ?_)))⟩
   case measure=>simp [intOf]
  focus
   have b0:=hB.cell 3
   have c0:=hC.cell 3
   have f0:=hB.frozen 3
   simp only [mix,List.getElem?_cons_zero,List.getElem?_cons_succ] at b0 c0
   have HB:=Lib.hid hB
   have HC:=Lib.hid hC
   have HD:=Lib.hid hD
   clear hB hC hD
   go_wp2
   go_region
   all_goals go_wp2
   all_goals go_roundw
   case rel=>exact ⟨4,by omega,by go_num,HB.out.set_ 3 _,HC.out.far (by simp) _,HD.out.far (by simp) _,by (first | exact Ext.refl _ | (unfold Ext;repeat (first | exact Below.refl _ _ | assumption | refine Below.alloc ?_ (by first | (simp;done) | (simp;omega) | omega) _ | refine Below.setCell ?_ (by first | (simp;done) | (simp;omega) | omega) _ | refine Below.drew ?_)))⟩
   case measure=>simp [intOf]
  focus
   have b0:=hB.cell 0
   have b1:=hB.cell 1
   have b2:=hB.cell 2
   have b3:=hB.cell 3
   have d0:=hD.cell 0
   have d1:=hD.cell 1
   have d2:=hD.cell 2
   have d3:=hD.cell 3
   have f0:=hD.frozen 0
   have f1:=hD.frozen 1
   have f2:=hD.frozen 2
   have f3:=hD.frozen 3
   simp only [mix,List.getElem?_cons_zero,List.getElem?_cons_succ] at b0 b1 b2 b3 d0 d1 d2 d3
   have HB:=Lib.hid hB
   have HC:=Lib.hid hC
   have HD:=Lib.hid hD
   clear hB hC hD
   go_wp2
   refine bodyPost_ret (v:=sp fun j=>p j || q j) ?_ rfl ⟨rfl,?_⟩
   ·rw [results_cell1 rfl]
    unfold sp
    go_simp
    trace_state
   ·(first | exact Ext.refl _ | (unfold Ext;repeat (first | exact Below.refl _ _ | assumption | refine Below.alloc ?_ (by first | (simp;done) | (simp;omega) | omega) _ | refine Below.setCell ?_ (by first | (simp;done) | (simp;omega) | omega) _ | refine Below.drew ?_)))
end Go.Proofs.YtigmdlchbjanoaaDoor
namespace Go.Proofs.YtigmdlchbjanoaaDoor
open Go Go.RowKit
theorem ones_bit (j:Nat):Nat.testBit 18446744073709551615 j=decide (j<64):=Nat.testBit_two_pow_sub_one 64 j
theorem wd_not (p:Nat→Bool) (k:Nat):18446744073709551615 ^^^ wd p k=wd (fun j=>!p j) k:=by
 refine bnum_eq fun j=>?_
 rw [Nat.testBit_xor,wd_bit,ones_bit]
 cases decide (j<64) <;> simp
theorem not_wd (p:Nat→Bool) (k:Nat):bits BinOp.xor IntKind.u64 (if IntKind.u64.signed=true then -1 else IntKind.u64.max) (wd p k:Nat)=(wd (fun j=>!p j) k:Nat):=by
 have e:(if IntKind.u64.signed=true then -1 else IntKind.u64.max)=((18446744073709551615:Nat):Int):=rfl
 rw [e]
 exact (u64_xor_nat _ _ (by decide) (wd_lt _ _)).trans (by rw [wd_not])
theorem one_wd (c k j:Nat) (hck:c=64*k+j) (hj:j<64):2 ^ j=wd (fun i=>i == c) k:=by
 refine bnum_eq fun i=>?_
 rw [Nat.testBit_two_pow]
 by_cases h:j=i
 ·subst h;simp [hj,hck]
 ·simp [h,hck];omega
theorem one_wd' (c k j n:Nat) (hck:c=64*k+j) (hj:j<64) (hn:n ≠ k):wd (fun i=>i == c) n=0:=by
 refine Eq.symm (bnum_eq fun i=>?_)
 simp
 omega
set_option maxHeartbeats 1000000 in
set_option maxRecDepth 20000 in
theorem setNot (p:Nat→Bool) (w:World) :
  Calls Tryd.prog 56 #[sp p] w fun e w'=>e=.returned (sp fun j=>!p j)∧Ext w w':=by
 unfold sp
 go_enter Tryd.func56,Tryd.ntmps56
 go_wp2
 go_loopw [4] (fun iv wr=>∃ i:Nat,i≤4∧iv=.int .i64 i∧Blk wr w.heap.size 25 (mix (wd p) (wd fun j=>!p j) i)∧Blk wr (w.heap.size+1) 25 (mix (fun _=>0) (fun _=>0) 0)∧Ext w wr) (fun iv _=>4-(intOf iv).toNat)
 case atStart=>exact ⟨0,by omega,rfl,((Blk.newA rfl _ _).alloc _),Blk.newA (by simp) _ _,by (first | exact Ext.refl _ | (unfold Ext;repeat (first | exact Below.refl _ _ | assumption | refine Below.alloc ?_ (by first | (simp;done) | (simp;omega) | omega) _ | refine Below.setCell ?_ (by first | (simp;done) | (simp;omega) | omega) _ | refine Below.drew ?_)))⟩
 case round =>
  obtain ⟨i,hi,rfl,hB,hD,hx⟩:=hrel
  have hi4:i=0∨i=1∨i=2∨i=3∨i=4:=by omega
  rcases hi4 with rfl | rfl | rfl | rfl | rfl
  focus
   have b0:=hB.cell 0
   have f0:=hB.frozen 0
   have r0:=not_wd p 0
   simp only [mix,List.getElem?_cons_zero] at b0
   have HB:=Lib.hid hB
   have HD:=Lib.hid hD
   clear hB hD
   go_wp2
   go_roundw
   case rel=>exact ⟨1,by omega,by go_num,HB.out.set_ 0 _,HD.out.far (by simp) _,by (first | exact Ext.refl _ | (unfold Ext;repeat (first | exact Below.refl _ _ | assumption | refine Below.alloc ?_ (by first | (simp;done) | (simp;omega) | omega) _ | refine Below.setCell ?_ (by first | (simp;done) | (simp;omega) | omega) _ | refine Below.drew ?_)))⟩
   case measure=>simp [intOf]
  focus
   have b0:=hB.cell 1
   have f0:=hB.frozen 1
   have r0:=not_wd p 1
   simp only [mix,List.getElem?_cons_zero,List.getElem?_cons_succ] at b0
   have HB:=Lib.hid hB
   have HD:=Lib.hid hD
   clear hB hD
   go_wp2
   go_roundw
   case rel=>exact ⟨2,by omega,by go_num,HB.out.set_ 1 _,HD.out.far (by simp) _,by (first | exact Ext.refl _ | (unfold Ext;repeat (first | exact Below.refl _ _ | assumption | refine Below.alloc ?_ (by first | (simp;done) | (simp;omega) | omega) _ | refine Below.setCell ?_ (by first | (simp;done) | (simp;omega) | omega) _ | refine Below.drew ?_)))⟩
   case measure=>simp [intOf]
  focus
   have b0:=hB.cell 2
   have f0:=hB.frozen 2
   have r0:=not_wd p 2
   simp only [mix,List.getElem?_cons_zero,List.getElem?_cons_succ] at b0
   have HB:=Lib.hid hB
   have HD:=Lib.hid hD
   clear hB hD
   go_wp2
   go_roundw
   case rel=>exact ⟨3,by omega,by go_num,HB.out.set_ 2 _,HD.out.far (by simp) _,by (first | exact Ext.refl _ | (unfold Ext;repeat (first | exact Below.refl _ _ | assumption | refine Below.alloc ?_ (by first | (simp;done) | (simp;omega) | omega) _ | refine Below.setCell ?_ (by first | (simp;done) | (simp;omega) | omega) _ | refine Below.drew ?_)))⟩
   case measure=>simp [intOf]
  focus
   have b0:=hB.cell 3
   have f0:=hB.frozen 3
   have r0:=not_wd p 3
   simp only [mix,List.getElem?_cons_zero,List.getElem?_cons_succ] at b0
   have HB:=Lib.hid hB
   have HD:=Lib.hid hD
   clear hB hD
   go_wp2
   go_roundw
   case rel=>exact ⟨4,by omega,by go_num,HB.out.set_ 3 _,HD.out.far (by simp) _,by (first | exact Ext.refl _ | (unfold Ext;repeat (first | exact Below.refl _ _ | assumption | refine Below.alloc ?_ (by first | (simp;done) | (simp;omega) | omega) _ | refine Below.setCell ?_ (by first | (simp;done) | (simp;omega) | omega) _ | refine Below.drew ?_)))⟩
   case measure=>simp [intOf]
  focus
   have b0:=hB.cell 0
   have b1:=hB.cell 1
   have b2:=hB.cell 2
   have b3:=hB.cell 3
   have d0:=hD.cell 0
   have d1:=hD.cell 1
   have d2:=hD.cell 2
   have d3:=hD.cell 3
   have f0:=hD.frozen 0
   have f1:=hD.frozen 1
   have f2:=hD.frozen 2
   have f3:=hD.frozen 3
   simp only [mix,List.getElem?_cons_zero,List.getElem?_cons_succ] at b0 b1 b2 b3 d0 d1 d2 d3
   have HB:=Lib.hid hB
   have HD:=Lib.hid hD
   clear hB hD
   go_wp2
   refine bodyPost_ret (v:=sp fun j=>!p j) ?_ rfl ⟨rfl,?_⟩
   ·rw [results_cell1 rfl]
    unfold sp
    go_simp
   ·(first | exact Ext.refl _ | (unfold Ext;repeat (first | exact Below.refl _ _ | assumption | refine Below.alloc ?_ (by first | (simp;done) | (simp;omega) | omega) _ | refine Below.setCell ?_ (by first | (simp;done) | (simp;omega) | omega) _ | refine Below.drew ?_)))
set_option maxHeartbeats 1000000 in
set_option maxRecDepth 20000 in
theorem setOne (c:Nat) (hc:c<256) (w:World) :
  Calls Tryd.prog 64 #[.int .u8 (c:Nat)] w fun e w'=>e=.returned (sp fun j=>j == c)∧Ext w w':=by
 obtain ⟨k,hk⟩:∃ k,c / 64=k:=⟨_,rfl⟩
 obtain ⟨j,hj⟩:∃ j,c % 64=j:=⟨_,rfl⟩
 have hck:c=64*k+j:=by omega
 have hj6:j<64:=by omega
 have hk4:k=0∨k=1∨k=2∨k=3:=by omega
 have e1:(c:Int).tdiv 64=(k:Int):=by rw [← hk];rfl
 have e2:(c:Int).tmod 64=(j:Int):=by rw [← hj];rfl
 have e3:IntKind.u64.wrap (2 ^ j)=(wd (fun j=>j == c) k:Nat):=by
  rw [show ((2:Int) ^ j)=((2 ^ j:Nat):Int) by simp,wrap_id64 _ (Nat.pow_lt_pow_of_lt (a:=2) (m:=64) (by omega) hj6),one_wd c k j hck hj6]
 have e4:∀ n,n ≠ k→wd (fun j=>j == c) n=0:=fun n hnk=>one_wd' c k j n hck hj6 hnk
 unfold sp
 clear hk hj hck
 rcases hk4 with rfl | rfl | rfl | rfl
 all_goals
  go_enter Tryd.func64,Tryd.ntmps64
  go_wp2
  refine bodyPost_ret (v:=sp fun j=>j == c) ?_ rfl ⟨rfl,by (first | exact Ext.refl _ | (unfold Ext;repeat (first | exact Below.refl _ _ | assumption | refine Below.alloc ?_ (by first | (simp;done) | (simp;omega) | omega) _ | refine Below.setCell ?_ (by first | (simp;done) | (simp;omega) | omega) _ | refine Below.drew ?_)))⟩
  rw [results_cell1 rfl]
  unfold sp
  (try rw [e4 0 (by omega)])
  (try rw [e4 1 (by omega)])
  (try rw [e4 2 (by omega)])
  (try rw [e4 3 (by omega)])
  go_simp
end Go.Proofs.YtigmdlchbjanoaaDoor
namespace Go.Proofs.YtigmdlchbjanoaaDoor
open Go Go.RowKit
theorem cnt_word (p:Nat→Bool) (k:Nat):cnt p (64*(k+1))=cnt p (64*k)+cnt (fun j=>(wd p k).testBit j) 64:=by
 rw [Nat.mul_add,Nat.mul_one,cnt_add]
 congr 1
 exact cnt_congr fun j hj=>by rw [wd_bit];simp [hj]
/-- 'a[i]' of an array of one-cell elements, by value. -/
theorem run_index_arr {P:Program} (t e:TypeId) (n:Nat) (cs:Array Value) (i:Nat) (v:Value) (h:P.underlying t=some (.array n e)) (he:(P.info? e).map (·.size)=some 1) (ha:∀ w,(isAgg e).run P w=.ok false w) (hi:i<n) (hv:cs[i]?=some v) (w:World) :
  (Instr.index t (.agg cs) (.int .i64 (i:Nat))).run P w=.ok v w:=by
 cases hq:P.info? e with
 | none=>simp [hq] at he
 | some d =>
  simp [hq] at he
  simp [Instr.index,run_underlying h,asIntOf,go_sem,part,sizeOf,typeInfo,hq,he,ha,hv]
  omega
set_option maxHeartbeats 1000000 in
set_option maxRecDepth 20000 in
theorem setLen (p:Nat→Bool) (w:World) :
  Calls Tryd.prog 43 #[sp p] w fun e w'=>e=.returned (.int .i64 (cnt p 256:Nat))∧Ext w w':=by
 have ix:∀ (i:Nat) (w:World),i<4→(Instr.index 25 (sp p) (.int .i64 (i:Nat))).run Tryd.prog w=.ok (.int .u64 (wd p i:Nat)) w:=
  fun i w hi=>run_index_arr _ _ 4 _ i _ Tryd.underlying25 (by kernel_rfl) (fun w=>by kernel_rfl) hi (by
   have h4:i=0∨i=1∨i=2∨i=3:=by omega
   rcases h4 with rfl | rfl | rfl | rfl <;> rfl) w
 have IX:=Lib.hid ix
 clear ix
 unfold sp at IX ⊢
 go_enter Tryd.func43,Tryd.ntmps43
 go_wp2
 go_loopw [3,7] (fun n i wr=>∃ (k:Nat),k≤4∧i=.int .i64 k∧n=.int .i64 (cnt p (64*k):Nat)∧Ext w wr) (fun _ i _=>4-(intOf i).toNat)
 case atStart=>exact ⟨0,by omega,rfl,rfl,by (first | exact Ext.refl _ | (unfold Ext;repeat (first | exact Below.refl _ _ | assumption | refine Below.alloc ?_ (by first | (simp;done) | (simp;omega) | omega) _ | refine Below.setCell ?_ (by first | (simp;done) | (simp;omega) | omega) _ | refine Below.drew ?_)))⟩
 case round =>
  obtain ⟨k,hk,rfl,rfl,hx⟩:=hrel
  obtain ⟨m,hm⟩:∃ m,cnt p (64*k)=m:=⟨_,rfl⟩
  have hm6:m≤256:=by rw [← hm];exact Nat.le_trans (cnt_le _ _) (by omega)
  rw [hm]
  by_cases hlt:k<4
  ·obtain ⟨n,hn⟩:∃ n,cnt (fun j=>(wd p k).testBit j) 64=n:=⟨_,rfl⟩
   have hn6:n≤64:=by rw [← hn];exact cnt_le _ _
   have hs:cnt p (64*(k+1))=m+n:=by rw [cnt_word,hm,hn]
   have HS:=Lib.hid hs
   have HN:=Lib.hid hn
   have i0:=fun w=>IX.out k w hlt
   clear hm hs hn
   go_wp2_with (go_at_call 52;refine (ones (wd p k) (wd_lt _ _) _).mono ?_;rintro e w1 ⟨rfl,rfl⟩;rw [HN.out])
   go_roundw
   case rel=>exact ⟨k+1,by omega,by go_num,by rw [HS.out];go_num,by (first | exact Ext.refl _ | (unfold Ext;repeat (first | exact Below.refl _ _ | assumption | refine Below.alloc ?_ (by first | (simp;done) | (simp;omega) | omega) _ | refine Below.setCell ?_ (by first | (simp;done) | (simp;omega) | omega) _ | refine Below.drew ?_)))⟩
   case measure=>simp [intOf];omega
  ·obtain rfl:k=4:=by omega
   have HM:=Lib.hid hm
   clear hm
   go_wp2
   go_ret
   exact ⟨by rw [show cnt p 256=m from HM.out];simp,hx⟩
theorem sp_empty:sp (fun _=>false)=.agg #[.int .u64 0,.int .u64 0,.int .u64 0,.int .u64 0]:=by
 have e:∀ k,wd (fun _=>false) k=0:=fun k=>Eq.symm (bnum_eq fun i=>by simp)
 unfold sp
 rw [e,e,e,e]
 rfl
set_option maxHeartbeats 1000000 in
set_option maxRecDepth 20000 in
theorem setAll (w:World) :
  Calls Tryd.prog 45 #[] w fun e w'=>e=.returned (sp fun _=>true)∧Ext w w':=by
 go_enter Tryd.func45,Tryd.ntmps45
 go_wp2_with (go_at_call 56;have h:=setNot (fun _=>false) (w.alloc (.cells #[.int .u64 0,.int .u64 0,.int .u64 0,.int .u64 0] 25));rw [sp_empty] at h;refine h.mono ?_;rintro e w1 ⟨rfl,hx1⟩;simp only [Bool.not_false];unfold sp;have hD:=(Blk.newA (w:=w) rfl 25 (mix (fun _=>0) (fun _=>0) 0)).keep hx1;have d0:=hD.cell 0;have d1:=hD.cell 1;have d2:=hD.cell 2;have d3:=hD.cell 3;have f0:=hD.frozen 0;have f1:=hD.frozen 1;have f2:=hD.frozen 2;have f3:=hD.frozen 3;simp only [mix,List.getElem?_cons_zero,List.getElem?_cons_succ] at d0 d1 d2 d3;have hx:=(Ext.new1 _ _).trans hx1;have HD:=Lib.hid hD;have HX1:=Lib.hid hx1;clear hD hx1)
 all_goals
  refine bodyPost_ret (v:=sp fun _=>true) ?_ rfl ⟨rfl,by (first | exact Ext.refl _ | (unfold Ext;repeat (first | exact Below.refl _ _ | assumption | refine Below.alloc ?_ (by first | (simp;done) | (simp;omega) | omega) _ | refine Below.setCell ?_ (by first | (simp;done) | (simp;omega) | omega) _ | refine Below.drew ?_)))⟩
  rw [results_cell1 rfl]
  unfold sp
  go_simp
end Go.Proofs.YtigmdlchbjanoaaDoor
