import Derived.Test.YtdelimpnnpifpaaGreatDoorGW3
import Derived.Test.YtdelimpnnpifpaaGreatDoorKCk
set_option linter.all false
namespace Go.Kv
open Go Go.RowKit Go.Proofs
set_option maxRecDepth 100000
theorem pw_succ (n:Nat):pw (n+1)=(3*pw n) % 17:=by
 unfold pw
 have h:n % 16<16:=Nat.mod_lt _ (by omega)
 have e:(n+1) % 16=(n % 16+1) % 16:=by omega
 rw [e]
 generalize n % 16=m at h
 have:m=0∨m=1∨m=2∨m=3∨m=4∨m=5∨m=6∨m=7∨m=8∨m=9∨m=10∨m=11∨m=12∨m=13∨m=14∨m=15:=by omega
 rcases this with rfl | rfl | rfl | rfl | rfl | rfl | rfl | rfl | rfl | rfl | rfl | rfl | rfl | rfl | rfl | rfl
 all_goals decide
theorem synF_bd (j:Nat):∀ (l:List Int) (i:Nat) (a:Int),0≤a∧a<17→0≤QB l j i a∧QB l j i a<17
 | [],_,_,h=>h
 | x :: xs,i,a,_=>synF_bd j xs (i+1) _ (by omega)
section
def sm (f:Nat→Int):Nat→Int
 | 0=>0
 | n+1=>sm f n+f n
theorem qF {f g:Nat→Int}:∀ {n:Nat},(∀ k,k<n→f k=g k)→sm f n=sm g n
 | 0,_=>rfl
 | n+1,h=>by simp only [sm]; rw [qF fun k hk=>h k (by omega),h n (by omega)]
theorem jbi (c:Int) (f:Nat→Int):∀ n,sm (fun k=>c*f k) n=c*sm f n
 | 0=>by simp [sm]
 | n+1=>by simp only [sm]; rw [jbi c f n,Int.mul_add]
theorem jby (f g:Nat→Int):∀ n,sm (fun k=>f k - g k) n=sm f n - sm g n
 | 0=>rfl
 | n+1=>by simp only [sm]; rw [jby f g n]; omega
theorem yE {f:Nat→Int}:∀ {n:Nat},(∀ k,k<n→(17:Int)∣f k)→(17:Int)∣sm f n
 | 0,_=>⟨0,rfl⟩
 | n+1,h=>by
  simp only [sm]
  exact Int.dvd_add (yE fun k hk=>h k (by omega)) (h n (by omega))
theorem zq (f:Nat→Int) (a:Nat):∀ n,sm f n=sm (fun k=>if k=a then 0 else f k) n+(if a<n then f a else 0)
 | 0=>by simp [sm]
 | n+1=>by
  simp only [sm]
  rw [zq f a n]
  by_cases h:n=a
  ·subst h; simp
  ·rw [if_neg h]
   by_cases h2:a<n
   ·rw [if_pos h2,if_pos (by omega)]; omega
   ·rw [if_neg h2,if_neg (by omega)]; omega
theorem jh0 {f:Nat→Int} {n a:Nat} (ha:a<n) (h:∀ k,k<n→k≠a→(17:Int)∣f k):(17:Int)∣sm f n↔(17:Int)∣f a:=by
 rw [zq f a n,if_pos ha]
 have:(17:Int)∣sm (fun k=>if k=a then 0 else f k) n:=yE fun k hk=>by
  by_cases e:k=a
  ·rw [if_pos e]; exact ⟨0,rfl⟩
  ·rw [if_neg e]; exact h k hk e
 omega
theorem jiH {f:Nat→Int} {n a b:Nat} (ha:a<n) (hb:b<n) (hab:a≠b) (h:∀ k,k<n→k≠a→k≠b→(17:Int)∣f k):(17:Int)∣sm f n↔(17:Int)∣f a+f b:=by
 rw [zq f a n,if_pos ha]
 have:(17:Int)∣sm (fun k=>if k=a then 0 else f k) n↔(17:Int)∣f b:=by
  rw [jh0 hb]
  ·rw [if_neg (fun e=>hab e.symm)]
  ·intro k hk hkb
   by_cases e:k=a
   ·rw [if_pos e]; exact ⟨0,rfl⟩
   ·rw [if_neg e]; exact h k hk e hkb
 rw [zq _ b n,if_pos hb,if_neg (fun e=>hab e.symm)]
 have h3:(17:Int)∣sm (fun k=>if k=b then 0 else if k=a then 0 else f k) n:=yE fun k hk=>by
  by_cases e1:k=b
  ·rw [if_pos e1]; exact ⟨0,rfl⟩
  ·rw [if_neg e1]
   by_cases e:k=a
   ·rw [if_pos e]; exact ⟨0,rfl⟩
   ·rw [if_neg e]; exact h k hk e e1
 omega
theorem p17:∀ x,x<17→∀ y,y<17→(x*y) % 17=0→x=0∨y=0:=by decide
theorem qK {a b:Int} (h:(17:Int)∣a*b):(17:Int)∣a∨(17:Int)∣b:=by
 have h1:(a*b) % 17=0:=Int.emod_eq_zero_of_dvd h
 rw [Int.mul_emod] at h1
 obtain ⟨x,hx⟩:∃ x:Nat,a % 17=x:=⟨(a % 17).toNat,by omega⟩
 obtain ⟨y,hy⟩:∃ y:Nat,b % 17=y:=⟨(b % 17).toNat,by omega⟩
 rw [hx,hy] at h1
 have:=p17 x (by omega) y (by omega) (by exact_mod_cast h1)
 omega
theorem GC {a b:Int}:(17:Int)∣a*b↔(17:Int)∣a∨(17:Int)∣b :=
 ⟨qK,fun h=>h.elim (fun h=>Int.dvd_trans h ⟨b,rfl⟩) (fun h=>Int.dvd_trans h ⟨a,Int.mul_comm a b⟩)⟩
theorem jjO:∀ (m:Nat) (z v:Nat→Int),(∀ j,j<m→(17:Int)∣sm (fun k=>v k*z k ^ (j+1)) m)→(∀ k,k<m→¬ (17:Int)∣z k) →
  (∀ a b,a<m→b<m→a≠b→¬ (17:Int)∣z a - z b)→∀ k,k<m→(17:Int)∣v k
 | 0,_,_,_,_,_,k,hk=>by omega
 | m+1,z,v,h,hz,hd,k,hk=>by
  have hu:∀ j,j<m→(17:Int)∣sm (fun k=>v k*(z k - z m)*z k ^ (j+1)) m:=by
   intro j hj
   have h1:=h (j+1) (by omega)
   have h2:=h j (by omega)
   have h3:sm (fun k=>v k*(z k - z m)*z k ^ (j+1)) m=sm (fun k=>v k*z k ^ (j+1+1)) (m+1) - z m*sm (fun k=>v k*z k ^ (j+1)) (m+1):=by
    rw [← jbi,← jby]
    simp only [sm]
    rw [show v m*z m ^ (j+1+1) - z m*(v m*z m ^ (j+1))=0 by rw [Int.pow_succ (z m) (j+1)]; rw [← Int.mul_assoc,Int.mul_comm (z m)]; omega,Int.add_zero]
    refine qF fun k _=>?_
    rw [Int.pow_succ (z k) (j+1),Int.mul_sub,Int.sub_mul]
    congr 1
    ·rw [Int.mul_assoc,Int.mul_comm (z k) _]
    ·rw [Int.mul_comm (v k) (z m),Int.mul_assoc]
   rw [h3]
   exact Int.dvd_sub h1 (Int.dvd_trans h2 ⟨z m,Int.mul_comm _ _⟩)
  have ih:=jjO m z (fun k=>v k*(z k - z m)) hu (fun k hk=>hz k (by omega)) (fun a b ha hb=>hd a b (by omega) (by omega))
  have hlow:∀ k,k<m→(17:Int)∣v k:=fun k hk=>(qK (ih k hk)).elim id fun h=>absurd h (hd k m (by omega) (by omega) (by omega))
  by_cases hkm:k<m
  ·exact hlow k hkm
  ·have:k=m:=by omega
   subst this
   have h0:=h 0 (by omega)
   simp only [sm] at h0
   have h1:(17:Int)∣sm (fun k=>v k*z k ^ (0+1)) k:=yE fun i hi=>Int.dvd_trans (hlow i hi) ⟨_,rfl⟩
   have h2:(17:Int)∣v k*z k ^ (0+1):=by omega
   rw [Nat.zero_add,Int.pow_succ,Int.pow_zero,Int.one_mul] at h2
   exact (qK h2).elim id fun h=>absurd h (hz k (by omega))
def Ker (B:Nat→Nat→Int) (n w:Nat) (v:Nat→Int):Prop:=∀ j,j<n→(17:Int)∣sm (fun k=>B j k*v k) w
theorem jgc {a b:Int} (h:(17:Int)∣a - b):(17:Int)∣a↔(17:Int)∣b:=by omega
theorem jbE {f g:Nat→Int} {n:Nat} (h:∀ k,k<n→(17:Int)∣f k - g k):(17:Int)∣sm f n↔(17:Int)∣sm g n:=by
 apply jgc
 rw [← jby]
 exact yE h
theorem jjt {C B:Nat→Nat→Int} {N W n:Nat} (hn:n<N) {u:Int} (hu:¬ (17:Int)∣u) {t:Nat→Int} (h1:∀ k,k<W→(17:Int)∣B n k - u*C n k)
  (h2:∀ j,j<N→j≠n→∀ k,k<W→(17:Int)∣B j k - (C j k - t j*C n k)) (v:Nat→Int):Ker B N W v↔Ker C N W v:=by
 have mulv:∀ {a b x:Int},(17:Int)∣a - b→(17:Int)∣a*x - b*x:=fun {a b x} h=>by rw [← Int.sub_mul]; exact Int.dvd_trans h ⟨x,rfl⟩
 have e1:(17:Int)∣sm (fun k=>B n k*v k) W↔(17:Int)∣sm (fun k=>C n k*v k) W:=by
  rw [jbE (g:=fun k=>u*(C n k*v k)) fun k hk=>by rw [← Int.mul_assoc]; exact mulv (h1 k hk),jbi,GC]
  exact ⟨fun h=>h.elim (fun h=>absurd h hu) id,.inr⟩
 have e2:∀ j,j<N→j≠n→(17:Int)∣sm (fun k=>C n k*v k) W→((17:Int)∣sm (fun k=>B j k*v k) W↔(17:Int)∣sm (fun k=>C j k*v k) W):=by
  intro j hj hjn h0
  rw [jbE (g:=fun k=>C j k*v k - t j*(C n k*v k)) fun k hk=>by rw [← Int.mul_assoc,← Int.sub_mul]; exact mulv (h2 j hj hjn k hk),jby,jbi]
  have:(17:Int)∣t j*sm (fun k=>C n k*v k) W:=Int.dvd_trans h0 ⟨t j,Int.mul_comm _ _⟩
  omega
 constructor
 ·intro h j hj
  have h0:=e1.1 (h n hn)
  by_cases hjn:j=n
  ·subst hjn; exact h0
  ·exact (e2 j hj hjn h0).1 (h j hj)
 ·intro h j hj
  have h0:=h n hn
  by_cases hjn:j=n
  ·subst hjn; exact e1.2 h0
  ·exact (e2 j hj hjn h0).2 (h j hj)
def swp (B:Nat→Nat→Int) (a n:Nat) (j:Nat):Nat→Int:=if j=n then B a else if j=a then B n else B j
theorem jnz {B:Nat→Nat→Int} {N W a n:Nat} (ha:a<N) (hn:n<N) (v:Nat→Int):Ker (swp B a n) N W v↔Ker B N W v:=by
 constructor
 ·intro h j hj
  by_cases h1:j=n
  ·by_cases h2:a=n
   ·have:=h n hn; unfold swp at this; rw [if_pos rfl,h2] at this; rw [h1]; exact this
   ·have:=h a ha; unfold swp at this; rw [if_neg h2,if_pos rfl] at this; rw [h1]; exact this
  ·by_cases h2:j=a
   ·have:=h n hn; unfold swp at this; rw [if_pos rfl] at this; rw [h2]; exact this
   ·have:=h j hj; unfold swp at this; rw [if_neg h1,if_neg h2] at this; exact this
 ·intro h j hj
  unfold swp
  by_cases h1:j=n
  ·rw [if_pos h1]; exact h a ha
  ·rw [if_neg h1]
   by_cases h2:j=a
   ·rw [if_pos h2]; exact h n hn
   ·rw [if_neg h2]; exact h j hj
def jcj (B:Nat→Nat→Int) (N n:Nat):Prop:=(∀ j k,j<N→k<n→j≠k→(17:Int)∣B j k)∧∀ k,k<n→¬ (17:Int)∣B k k
theorem yU (B:Nat→Nat→Int) (N:Nat):jcj B N 0:=⟨fun _ _ _ h=>by omega,fun _ h=>by omega⟩
theorem ji5 {B:Nat→Nat→Int} {N n a:Nat} (h:jcj B N n) (ha:a<N) (hn:n<N) (hna:n≤a):jcj (swp B a n) N n:=by
 refine ⟨fun j k hj hk hjk=>?_,fun k hk=>?_⟩
 ·unfold swp
  by_cases h1:j=n
  ·rw [if_pos h1]; exact h.1 a k ha hk (by omega)
  ·rw [if_neg h1]
   by_cases h2:j=a
   ·rw [if_pos h2]; exact h.1 n k hn hk (by omega)
   ·rw [if_neg h2]; exact h.1 j k hj hk hjk
 ·unfold swp
  rw [if_neg (by omega),if_neg (by omega)]
  exact h.2 k hk
theorem jgi {C B:Nat→Nat→Int} {N W n:Nat} (h:jcj C N n) (hn:n<N) (hW:n<W) {u:Int} (hu:¬ (17:Int)∣u) (hp:¬ (17:Int)∣C n n) {t:Nat→Int} (h1:∀ k,k<W→(17:Int)∣B n k - u*C n k)
  (h2:∀ j,j<N→j≠n→∀ k,k<W→(17:Int)∣B j k - (C j k - t j*C n k)) (h3:∀ j,j<N→j≠n→(17:Int)∣C j n - t j*C n n):jcj B N (n+1):=by
 have low:∀ k,k<n→(17:Int)∣C n k:=fun k hk=>h.1 n k hn hk (by omega)
 have lowt:∀ (x:Int) k,k<n→(17:Int)∣x*C n k:=fun x k hk=>Int.dvd_trans (low k hk) ⟨x,Int.mul_comm _ _⟩
 refine ⟨fun j k hj hk hjk=>?_,fun k hk=>?_⟩
 ·by_cases hjn:j=n
  ·subst hjn
   have a1:=h1 k (by omega)
   have a2:=lowt u k (by omega)
   omega
  ·have a1:=h2 j hj hjn k (by omega)
   by_cases hkn:k=n
   ·subst hkn
    have a2:=h3 j hj hjn
    omega
   ·have a2:=lowt (t j) k (by omega)
    have a3:=h.1 j k hj (by omega) hjk
    omega
 ·by_cases hkn:k=n
  ·subst hkn
   have a1:=h1 k hW
   intro a2
   have:(17:Int)∣u*C k k:=by omega
   exact (qK this).elim hu hp
  ·have a1:=h2 k (by omega) hkn k (by omega)
   have a2:=lowt (t k) k (by omega)
   have a3:=h.2 k (by omega)
   omega
theorem juN:∀ x,x<17→x≠0→∃ y,y<17∧(x*y) % 17=1:=by decide
theorem jkz {a:Int} (h:¬ (17:Int)∣a):∃ b:Int,(17:Int)∣a*b - 1:=by
 obtain ⟨x,hx⟩:∃ x:Nat,a % 17=x:=⟨(a % 17).toNat,by omega⟩
 obtain ⟨y,_,hy⟩:=juN x (by omega) (by omega)
 refine ⟨y,?_⟩
 have:(a*y) % 17=1:=by rw [Int.mul_emod,hx,Int.emod_eq_of_lt (a:=(y:Int)) (by omega) (by omega)]; exact_mod_cast hy
 omega
theorem jsV {B:Nat→Nat→Int} {N m n:Nat} (h:jcj B N n) (hn:n<m) (hind:∀ v:Nat→Int,v m=0→Ker B N (m+1) v→∀ k,k<m→(17:Int)∣v k):∃ j,n≤j∧j<N∧¬ (17:Int)∣B j n:=by
 apply Classical.byContradiction
 intro hno
 have hz:∀ j,n≤j→j<N→(17:Int)∣B j n:=fun j h1 h2=>Classical.byContradiction fun h3=>hno ⟨j,h1,h2,h3⟩
 obtain ⟨iv,hiv⟩:∃ iv:Nat→Int,∀ k,k<n→(17:Int)∣B k k*iv k - 1:=by
  refine ⟨fun k=>if hk:k<n then Classical.choose (jkz (h.2 k hk)) else 0,fun k hk=>?_⟩
  simp only [hk,dif_pos]
  exact Classical.choose_spec (jkz (h.2 k hk))
 have hv:=hind (fun k=>if k<n then -(B k n*iv k) else if k=n then 1 else 0) (by show (if m<n then -(B m n*iv m) else if m=n then (1:Int) else 0)=0; rw [if_neg (by omega),if_neg (by omega)]) (by
  intro j hj
  by_cases hjn:j<n
  ·rw [jiH (a:=j) (b:=n) (by omega) (by omega) (by omega)]
   ·simp only [hjn,if_true,Nat.lt_irrefl,if_false]
    obtain ⟨q,hq⟩:=hiv j hjn
    refine ⟨-(q*B j n),?_⟩
    have e:B j j * -(B j n*iv j)+B j n*1 = -((B j j*iv j - 1)*B j n):=by
     rw [Int.sub_mul,Int.mul_one,Int.one_mul,Int.mul_neg,Int.mul_comm (B j n) (iv j),← Int.mul_assoc]; omega
    rw [e,hq,Int.mul_neg,Int.mul_assoc]
   ·intro k hk hkj hkn
    by_cases h1:k<n
    ·exact Int.dvd_trans (h.1 j k hj h1 (Ne.symm hkj)) ⟨_,rfl⟩
    ·simp only [h1,if_false,hkn,Int.mul_zero]; exact ⟨0,rfl⟩
  ·refine yE fun k hk=>?_
   by_cases h1:k<n
   ·exact Int.dvd_trans (h.1 j k hj h1 (by omega)) ⟨_,rfl⟩
   ·by_cases h2:k=n
    ·subst h2; exact Int.dvd_trans (hz j (by omega) hj) ⟨_,rfl⟩
    ·simp only [h1,if_false,h2,Int.mul_zero]; exact ⟨0,rfl⟩) n hn
 simp only [Nat.lt_irrefl,if_false,if_true] at hv
 omega
theorem jke {B:Nat→Nat→Int} {N m:Nat} (h:jcj B N m) (hmN:m≤N) (x:Nat→Int) (hx:x m = -1) :
  Ker B N (m+1) x↔(∀ k,k<m→(17:Int)∣B k k*x k - B k m)∧∀ j,m≤j→j<N→(17:Int)∣B j m:=by
 have row1:∀ k,k<m→((17:Int)∣sm (fun i=>B k i*x i) (m+1)↔(17:Int)∣B k k*x k - B k m):=by
  intro k hk
  rw [jiH (a:=k) (b:=m) (by omega) (by omega) (by omega)]
  ·rw [hx,Int.mul_neg,Int.mul_one]; omega
  ·intro i hi hik him
   exact Int.dvd_trans (h.1 k i (by omega) (by omega) (Ne.symm hik)) ⟨_,rfl⟩
 have row2:∀ j,m≤j→j<N→((17:Int)∣sm (fun i=>B j i*x i) (m+1)↔(17:Int)∣B j m):=by
  intro j hj hjN
  rw [jh0 (a:=m) (by omega)]
  ·rw [hx,Int.mul_neg,Int.mul_one]; omega
  ·intro i hi him
   exact Int.dvd_trans (h.1 j i hjN (by omega) (by omega)) ⟨_,rfl⟩
 constructor
 ·intro hk
  exact ⟨fun k hkm=>(row1 k hkm).1 (hk k (by omega)),fun j h1 h2=>(row2 j h1 h2).1 (hk j h2)⟩
 ·rintro ⟨h1,h2⟩ j hj
  by_cases hjm:j<m
  ·exact (row1 j hjm).2 (h1 j hjm)
  ·exact (row2 j (by omega) hj).2 (h2 j (by omega) hj)
end
section
open Go Go.RowKit
theorem jbN {a b c d:Int} (h1:(17:Int)∣a - b) (h2:(17:Int)∣c - d):(17:Int)∣a*c - b*d:=by
 have e:a*c - b*d=(a - b)*c+b*(c - d):=by rw [Int.sub_mul,Int.mul_sub]; omega
 rw [e]
 exact Int.dvd_add (Int.dvd_trans h1 ⟨c,rfl⟩) (Int.dvd_trans h2 ⟨b,Int.mul_comm _ _⟩)
theorem QD (a:Int):(17:Int)∣a % 17 - a:=by omega
theorem jbA {a b c:Int} (h1:(17:Int)∣a - b) (h2:(17:Int)∣b - c):(17:Int)∣a - c:=by omega
theorem je9 {a b:Int} (h1:(17:Int)∣a - b):(17:Int)∣b - a:=by omega
theorem jbO:∀ n:Nat,(17:Int)∣pw n - 3 ^ n
 | 0=>⟨0,rfl⟩
 | n+1=>by
  have ih:=jbO n
  rw [pw_succ,Int.pow_succ]
  generalize (3:Int) ^ n=x at ih
  omega
theorem jlr (m n:Nat):(17:Int)∣pw (m+n) - pw m*pw n:=by
 have h:=jbO (m+n)
 rw [Int.pow_add] at h
 exact jbA h (je9 (jbN (jbO m) (jbO n)))
theorem jiW (a:Nat):∀ j:Nat,(17:Int)∣pw (a*j) - pw a ^ j
 | 0=>by rw [Nat.mul_zero,Int.pow_zero]; exact ⟨0,rfl⟩
 | j+1=>by
  rw [Int.pow_succ]
  have h:=jlr (a*j) a
  rw [show a*j+a=a*(j+1) from rfl] at h
  exact jbA h (jbN (jiW a j) ⟨0,by omega⟩)
theorem jl5:∀ a,a<16→∀ b,b<16→(pw a - pw b) % 17=0→a=b:=by decide
theorem jpG {a b:Nat} (ha:a<16) (hb:b<16) (h:(17:Int)∣pw a - pw b):a=b:=jl5 a ha b hb (Int.emod_eq_zero_of_dvd h)
theorem jt5 (a:Nat):¬ (17:Int)∣pw a:=by have:=Za a; omega
theorem jfi (f:Nat→Int):∀ n,sm f (n+1)=f 0+sm (fun k=>f (k+1)) n
 | 0=>by simp [sm]
 | n+1=>by
  show sm f (n+1)+f (n+1)=_
  rw [jfi f n]
  show _=f 0+(sm (fun k=>f (k+1)) n+f (n+1))
  omega
theorem jfU (j:Nat):∀ (l:List Int) (i:Nat) (a:Int),(17:Int)∣QB l j i a - (a+sm (fun t=>l.getD t 0*pw ((i+t)*j)) l.length)
 | [],i,a=>by simp [QB,sm]
 | x :: xs,i,a=>by
  have ih:=jfU j xs (i+1) ((a+x*pw (i*j)) % 17)
  rw [QB,List.length_cons,jfi]
  have e:sm (fun k=>(x :: xs).getD (k+1) 0*pw ((i+(k+1))*j)) xs.length=sm (fun t=>xs.getD t 0*pw ((i+1+t)*j)) xs.length :=
   qF fun k _=>by rw [List.getD_cons_succ,show i+(k+1)=i+1+k by omega]
  rw [e,List.getD_cons_zero]
  simp only [Nat.add_zero]
  generalize sm (fun t=>xs.getD t 0*pw ((i+1+t)*j)) xs.length=s at ih ⊢
  generalize QB xs j (i+1) ((a+x*pw (i*j)) % 17)=y at ih ⊢
  omega
theorem jjH (l:List Int) (j:Nat):(17:Int)∣syn l j - sm (fun t=>l.getD t 0*pw (t*j)) l.length:=by
 have h:=jfU j l 0 0
 rw [Int.zero_add] at h
 have e:sm (fun t=>l.getD t 0*pw ((0+t)*j)) l.length=sm (fun t=>l.getD t 0*pw (t*j)) l.length:=qF fun k _=>by rw [Nat.zero_add]
 rw [e] at h
 exact h
theorem Zi (l:List Int) (j:Nat):0≤syn l j∧syn l j<17:=synF_bd j l 0 0 (by omega)
theorem jnB (l:List Int) (k:Nat):isW l k=true↔∀ j,j<k→(17:Int)∣syn l (j+1):=by
 unfold isW jV
 rw [List.all_eq_true]
 constructor
 ·intro h j hj
  have:=h (syn l (j+1)) (List.mem_map.2 ⟨j,List.mem_range.2 hj,rfl⟩)
  rw [beq_iff_eq] at this
  rw [this]; exact ⟨0,rfl⟩
 ·intro h x hx
  obtain ⟨j,hj,rfl⟩:=List.mem_map.1 hx
  have h1:=h j (List.mem_range.1 hj)
  have:=Zi l (j+1)
  rw [beq_iff_eq]
  omega
theorem qu (l:List Int) (i k:Nat) (x:Int):(l.set i x).getD k 0=if i=k∧i<l.length then x else l.getD k 0:=by
 rw [List.getD_eq_getElem?_getD,List.getElem?_set,List.getD_eq_getElem?_getD]
 by_cases h:i=k
 ·subst h
  by_cases h2:i<l.length
  ·simp [h2]
  ·simp [h2]
 ·simp [h]
theorem jqi {l:List Int} {i:Nat} (x:Int) (p:Nat→Int) (hi:i<l.length):sm (fun t=>(l.set i x).getD t 0*p t) l.length=sm (fun t=>l.getD t 0*p t) l.length+(x - l.getD i 0)*p i:=by
 rw [zq _ i l.length,if_pos hi,zq (fun t=>l.getD t 0*p t) i l.length,if_pos hi]
 have e:sm (fun k=>if k=i then 0 else (l.set i x).getD k 0*p k) l.length=sm (fun k=>if k=i then 0 else l.getD k 0*p k) l.length:=by
  refine qF fun k _=>?_
  by_cases h:k=i
  ·rw [if_pos h,if_pos h]
  ·rw [if_neg h,if_neg h,qu,if_neg (fun g=>h g.1.symm)]
 rw [e,qu,if_pos ⟨rfl,hi⟩,Int.sub_mul]
 omega
def put (l:List Int) (op:List Nat) (x:Nat→Int):Nat→List Int
 | 0=>l
 | n+1=>(put l op x n).set (op.getD n 0) (x n)
theorem ky (l:List Int) (op:List Nat) (x:Nat→Int):∀ n,(put l op x n).length=l.length
 | 0=>rfl
 | n+1=>by rw [put,List.length_set,ky l op x n]
structure Places (op:List Nat) (len:Nat):Prop where
 lt:∀ k,k<op.length→op.getD k 0<len
 inj:∀ a b,a<op.length→b<op.length→op.getD a 0=op.getD b 0→a=b
theorem YX {l:List Int} {op:List Nat} {x:Nat→Int} {i:Nat}:∀ {n},(∀ k,k<n→op.getD k 0≠i)→(put l op x n).getD i 0=l.getD i 0
 | 0,_=>rfl
 | n+1,h=>by rw [put,qu,if_neg (fun g=>h n (by omega) g.1),YX fun k hk=>h k (by omega)]
theorem je6 {l:List Int} {op:List Nat} {x:Nat→Int} (hp:Places op l.length) {k:Nat}:∀ {n},n≤op.length→k<n→(put l op x n).getD (op.getD k 0) 0=x k
 | 0,_,h=>by omega
 | n+1,hn,h=>by
  rw [put,qu,ky]
  by_cases e:k=n
  ·subst e
   rw [if_pos ⟨rfl,hp.lt k (by omega)⟩]
  ·rw [if_neg (fun g=>e (hp.inj n k (by omega) (by omega) g.1).symm),je6 hp (by omega) (by omega)]
theorem jnA {l:List Int} {i:Nat} {x:Int} (h:okS l) (hx:0≤x∧x<17):okS (l.set i x):=by
 intro y hy
 rcases List.mem_or_eq_of_mem_set hy with h1 | h1
 ·exact h y h1
 ·rw [h1]; exact hx
theorem jbk {l:List Int} {op:List Nat} {x:Nat→Int} (h:okS l):∀ {n},(∀ k,k<n→0≤x k∧x k<17)→okS (put l op x n)
 | 0,_=>h
 | n+1,hx=>jnA (jbk h fun k hk=>hx k (by omega)) (hx n (by omega))
theorem gV {op:List Nat} {i:Nat}:i ∈ op↔∃ k,k<op.length∧op.getD k 0=i:=by
 rw [List.mem_iff_getElem]
 constructor
 ·rintro ⟨k,hk,h⟩; exact ⟨k,hk,by rw [List.getD_eq_getElem?_getD,List.getElem?_eq_getElem hk]; exact h⟩
 ·rintro ⟨k,hk,h⟩; exact ⟨k,hk,by rw [List.getD_eq_getElem?_getD,List.getElem?_eq_getElem hk] at h; exact h⟩
theorem qI {a b:List Int} (h:a.length=b.length) (hi:∀ i,i<a.length→a.getD i 0=b.getD i 0):a=b:=by
 apply List.ext_getElem h
 intro i h1 h2
 have:=hi i h1
 rw [List.getD_eq_getElem?_getD,List.getD_eq_getElem?_getD,List.getElem?_eq_getElem h1,List.getElem?_eq_getElem h2] at this
 exact this
theorem jf0 {Z:List Int} {op:List Nat} (x:Nat→Int) (hp:Places op Z.length) (hz:∀ k,k<op.length→Z.getD (op.getD k 0) 0=0) (j:Nat):∀ n,n≤op.length →
  sm (fun t=>(put Z op x n).getD t 0*pw (t*j)) Z.length=sm (fun t=>Z.getD t 0*pw (t*j)) Z.length+sm (fun k=>x k*pw (op.getD k 0*j)) n
 | 0,_=>by simp [put,sm]
 | n+1,hn=>by
  have hl:=ky Z op x n
  have h:=jqi (l:=put Z op x n) (i:=op.getD n 0) (x n) (fun t=>pw (t*j)) (by rw [hl]; exact hp.lt n (by omega))
  rw [hl] at h
  rw [put,h,jf0 x hp hz j n (by omega)]
  have h0:(put Z op x n).getD (op.getD n 0) 0=0:=by
   rw [YX (fun k hk e=>by have:=hp.inj k n (by omega) (by omega) e; omega)]
   exact hz n (by omega)
  rw [h0,Int.sub_zero]
  simp only [sm]
  omega
def kE (op:List Nat) (Z:List Int) (j:Nat):List Int:=op.map (fun i=>pw (i*(j+1)))++[(-(syn Z (j+1))) % 17]
def mat (M:Nat→List Int) (j k:Nat):Int:=(M j).getD k 0
theorem Gj (op:List Nat) (Z:List Int) (j:Nat):(kE op Z j).length=op.length+1:=by unfold kE; simp
theorem jfP (op:List Nat) (Z:List Int) (j:Nat):okS (kE op Z j):=by
 intro x hx
 unfold kE at hx
 rcases List.mem_append.1 hx with h | h
 ·obtain ⟨i,_,rfl⟩:=List.mem_map.1 h
  have:=Za (i*(j+1)); omega
 ·rw [List.mem_singleton.1 h]; omega
theorem jfY {op:List Nat} (Z:List Int) (j:Nat) {k:Nat} (hk:k<op.length):mat (kE op Z) j k=pw (op.getD k 0*(j+1)):=by
 unfold mat kE
 rw [List.getD_eq_getElem?_getD,List.getElem?_append_left (by simpa using hk)]
 simp [List.getD_eq_getElem?_getD,hk]
theorem jnh (op:List Nat) (Z:List Int) (j:Nat):mat (kE op Z) j op.length=(-(syn Z (j+1))) % 17:=by
 unfold mat kE
 rw [List.getD_eq_getElem?_getD,List.getElem?_append_right (by simp)]
 simp
theorem jjX {Z:List Int} {op:List Nat} (hp:Places op Z.length) (hz:∀ k,k<op.length→Z.getD (op.getD k 0) 0=0) (N:Nat) {x:Nat→Int} (hx:x op.length = -1) :
  Ker (mat (kE op Z)) N (op.length+1) x↔∀ j,j<N→(17:Int)∣syn (put Z op x op.length) (j+1):=by
 have e:∀ j,((17:Int)∣sm (fun k=>mat (kE op Z) j k*x k) (op.length+1)↔(17:Int)∣syn (put Z op x op.length) (j+1)):=by
  intro j
  have h1:=jjH (put Z op x op.length) (j+1)
  rw [ky,jf0 x hp hz (j+1) op.length (Nat.le_refl _)] at h1
  have h2:=jjH Z (j+1)
  have h3:sm (fun k=>mat (kE op Z) j k*x k) op.length=sm (fun k=>x k*pw (op.getD k 0*(j+1))) op.length :=
   qF fun k hk=>by rw [jfY Z j hk,Int.mul_comm]
  show (17:Int)∣sm (fun k=>mat (kE op Z) j k*x k) op.length+mat (kE op Z) j op.length*x op.length↔_
  rw [h3,jnh,hx]
  have h4:=QD (-(syn Z (j+1)))
  generalize sm (fun k=>x k*pw (op.getD k 0*(j+1))) op.length=s at h1 ⊢
  generalize sm (fun t=>Z.getD t 0*pw (t*(j+1))) Z.length=u at h1 h2
  generalize (-(syn Z (j+1))) % 17=v at h4 ⊢
  omega
 exact ⟨fun h j hj=>(e j).1 (h j hj),fun h j hj=>(e j).2 (h j hj)⟩
theorem jqc {Z:List Int} {op:List Nat} {len N:Nat} (hp:Places op len) (hlen:len≤16) (hN:op.length≤N) (v:Nat→Int) (hv:v op.length=0) (hk:Ker (mat (kE op Z)) N (op.length+1) v) :
  ∀ k,k<op.length→(17:Int)∣v k:=by
 refine jjO op.length (fun k=>pw (op.getD k 0)) v ?_ (fun k _=>jt5 _) ?_
 ·intro j hj
  have h:=hk j (by omega)
  have h0:sm (fun k=>mat (kE op Z) j k*v k) (op.length+1)=sm (fun k=>mat (kE op Z) j k*v k) op.length+mat (kE op Z) j op.length*v op.length:=rfl
  rw [h0,hv,Int.mul_zero,Int.add_zero] at h
  refine (jbE fun k hk=>?_).1 h
  rw [jfY Z j hk,Int.mul_comm (v k)]
  exact jbN (jiW _ _) ⟨0,by omega⟩
 ·intro a b ha hb hab h
  have h1:=hp.lt a ha
  have h2:=hp.lt b hb
  exact hab (hp.inj a b ha hb (jpG (by omega) (by omega) h))
def El (op:List Nat) (Z:List Int) (N:Nat) (C:Nat→Nat→Int) (n:Nat):Prop:=jcj C N n∧∀ v,Ker C N (op.length+1) v↔Ker (mat (kE op Z)) N (op.length+1) v
theorem jm1 (op:List Nat) (Z:List Int) (N:Nat):El op Z N (mat (kE op Z)) 0:=⟨yU _ _,fun _=>Iff.rfl⟩
theorem jdI {op:List Nat} {Z:List Int} {N n len:Nat} {C:Nat→Nat→Int} (h:El op Z N C n) (hp:Places op len) (hlen:len≤16) (hN:op.length≤N) (hn:n<op.length):∃ j,n≤j∧j<N∧¬ (17:Int)∣C j n :=
 jsV h.1 hn fun v hv hk=>jqc (Z:=Z) hp hlen hN v hv ((h.2 v).1 hk)
theorem jfu {op:List Nat} {Z:List Int} {N n a:Nat} {C B:Nat→Nat→Int} (h:El op Z N C n) (hn:n<op.length) (hna:n≤a) (ha:a<N) (hp:¬ (17:Int)∣C a n)
  {u:Int} (hu:¬ (17:Int)∣u) {t:Nat→Int} (h1:∀ k,k<op.length+1→(17:Int)∣B n k - u*swp C a n n k)
  (h2:∀ j,j<N→j≠n→∀ k,k<op.length+1→(17:Int)∣B j k - (swp C a n j k - t j*swp C a n n k)) (h3:∀ j,j<N→j≠n→(17:Int)∣swp C a n j n - t j*swp C a n n n):El op Z N B (n+1):=by
 have hnN:n<N:=by omega
 refine ⟨jgi (ji5 h.1 ha hnN hna) hnN (by omega) hu ?_ h1 h2 h3,fun v=>?_⟩
 ·unfold swp; rw [if_pos rfl]; exact hp
 ·rw [jjt hnN hu h1 h2 v,jnz ha hnN v,h.2 v]
theorem jpp {op:List Nat} {Z:List Int} {N:Nat} {B:Nat→Nat→Int} (h:El op Z N B op.length) (hp:Places op Z.length) (hz:∀ k,k<op.length→Z.getD (op.getD k 0) 0=0) (hN:op.length≤N) {x:Nat→Int} (hx:x op.length = -1) :
  (∀ j,j<N→(17:Int)∣syn (put Z op x op.length) (j+1))↔(∀ k,k<op.length→(17:Int)∣B k k*x k - B k op.length)∧∀ j,op.length≤j→j<N→(17:Int)∣B j op.length:=by
 rw [← jjX hp hz N hx,← h.2 x]
 exact jke h.1 hN x hx
structure SolW (l:List Int) (op:List Nat) (k:Nat) (o:List Int):Prop where
 len:o.length=l.length
 ok:okS o
 off:∀ i,i<l.length→i ∉ op→o.getD i 0=l.getD i 0
 is:isW o k=true
def jH (l:List Int) (op:List Nat):List Int:=put l op (fun _=>0) op.length
theorem kK (l:List Int) (op:List Nat):(jH l op).length=l.length:=ky _ _ _ _
theorem zv {l:List Int} {op:List Nat} (h:okS l):okS (jH l op):=jbk h fun _ _=>by omega
theorem jaI {l:List Int} {op:List Nat} (hp:Places op l.length) {k:Nat} (hk:k<op.length):(jH l op).getD (op.getD k 0) 0=0:=je6 hp (Nat.le_refl _) hk
theorem jea {l:List Int} {op:List Nat} {i:Nat} (hi:i ∉ op):(jH l op).getD i 0=l.getD i 0:=YX fun k hk e=>hi (gV.2 ⟨k,hk,e⟩)
theorem gZ {l:List Int} {op:List Nat} {x:Nat→Int} {i:Nat} (hi:i ∉ op):(put (jH l op) op x op.length).getD i 0=l.getD i 0:=by
 rw [YX fun k hk e=>hi (gV.2 ⟨k,hk,e⟩),jea hi]
theorem jfM {l:List Int} {op:List Nat} {N:Nat} {B:Nat→Nat→Int} (h:El op (jH l op) N B op.length) (hp:Places op l.length) (hN:op.length≤N) (x:Nat→Int) :
  isW (put (jH l op) op x op.length) N=true↔(∀ k,k<op.length→(17:Int)∣B k k*x k - B k op.length)∧∀ j,op.length≤j→j<N→(17:Int)∣B j op.length:=by
 have hp':Places op (jH l op).length:=by rw [kK]; exact hp
 have e:∀ n,n≤op.length→put (jH l op) op x n=put (jH l op) op (fun k=>if k=op.length then -1 else x k) n:=by
  intro n
  induction n with
  | zero=>intro _; rfl
  | succ n ih=>intro hn; rw [put,put,ih (by omega),if_neg (by omega)]
 rw [jnB,e op.length (Nat.le_refl _),jpp (x:=fun k=>if k=op.length then -1 else x k) h hp' (fun k hk=>jaI hp hk) hN (by simp)]
 have:∀ k,k<op.length→(if k=op.length then (-1:Int) else x k)=x k:=fun k hk=>if_neg (by omega)
 constructor
 ·rintro ⟨h1,h2⟩
  exact ⟨fun k hk=>by have:=h1 k hk; rwa [if_neg (by omega)] at this,h2⟩
 ·rintro ⟨h1,h2⟩
  exact ⟨fun k hk=>by rw [if_neg (by omega)]; exact h1 k hk,h2⟩
theorem jmF {l:List Int} {op:List Nat} {N:Nat} {o:List Int} (h:SolW l op N o) (hp:Places op l.length):o=put (jH l op) op (fun k=>o.getD (op.getD k 0) 0) op.length:=by
 apply qI
 ·rw [ky,kK,h.len]
 ·intro i hi
  rw [h.len] at hi
  by_cases hm:i ∈ op
  ·obtain ⟨k,hk,rfl⟩:=gV.1 hm
   rw [je6 (by rw [kK]; exact hp) (Nat.le_refl _) hk]
  ·rw [gZ hm,h.off i hi hm]
theorem jj8 {l:List Int} {op:List Nat} {N:Nat} {B:Nat→Nat→Int} (h:El op (jH l op) N B op.length) (hp:Places op l.length) (hN:op.length≤N) (hl:okS l) {x:Nat→Int} (hx:∀ k,k<op.length→0≤x k∧x k<17)
  (hb:∀ k,k<op.length→(17:Int)∣B k k*x k - B k op.length) :
  okS (put (jH l op) op x op.length)∧(put (jH l op) op x op.length).length=l.length∧(∀ o,SolW l op N o→put (jH l op) op x op.length=o) ∧
  (isW (put (jH l op) op x op.length) N=true↔∀ j,op.length≤j→j<N→(17:Int)∣B j op.length):=by
 have hok:=jbk (op:=op) (n:=op.length) (zv (op:=op) hl) hx
 refine ⟨hok,by rw [ky,kK],fun o ho=>?_,?_⟩
 ·have e:=jmF ho hp
  have h1:=ho.is
  rw [e,jfM h hp hN] at h1
  rw [e]
  have:∀ n,n≤op.length→put (jH l op) op x n=put (jH l op) op (fun k=>o.getD (op.getD k 0) 0) n:=by
   intro n
   induction n with
   | zero=>intro _; rfl
   | succ n ih =>
    intro hn
    rw [put,put,ih (by omega)]
    have a1:=h1.1 n (by omega)
    have a2:=hb n (by omega)
    have a3:(17:Int)∣B n n*(x n - o.getD (op.getD n 0) 0):=by rw [Int.mul_sub]; omega
    have a4:=(qK a3).resolve_left (h.1.2 n (by omega))
    have a5:=hx n (by omega)
    have a6:0≤o.getD (op.getD n 0) 0∧o.getD (op.getD n 0) 0<17:=by
     have hlt:=hp.lt n (by omega)
     rw [← ho.len] at hlt
     refine ho.ok _ ?_
     rw [List.getD_eq_getElem?_getD,List.getElem?_eq_getElem hlt]
     exact List.getElem_mem _
    rw [show x n=o.getD (op.getD n 0) 0 by omega]
  exact this op.length (Nat.le_refl _)
 ·rw [jfM h hp hN]
  exact ⟨fun h=>h.2,fun h=>⟨hb,h⟩⟩
end
section
open Go Go.RowKit
theorem Jj (a:Int):F89 a=some (a % 17):=by
 have e:=Int.mul_tdiv_add_tmod a 17
 have h1:=Int.tmod_lt_of_pos a (show (0:Int)<17 by omega)
 have h2:=Int.lt_tmod_of_pos a (show (0:Int)<17 by omega)
 have t:(a.tmod 17+17).tmod 17=a % 17:=by
  rw [Int.tmod_eq_emod_of_nonneg (by omega)]
  omega
 unfold F89; rw [jd]
 simp only [B89,jf,PC.holds,jl,t]
 rw [jn (by unfold jc; omega)]; rfl
theorem jpa (n:Nat):pw (n % 16)=pw n:=by unfold pw; rw [Nat.mod_mod]
theorem jlF (n:Nat):∀ (d i:Nat),n % 16=i+d→res B88 (.c1 (n:Int) (pw i) (i:Int))=some (pw n):=by
 have t:((n:Int)).tmod 16=((n % 16:Nat):Int):=by rw [Int.tmod_eq_emod_of_nonneg (by omega)]; omega
 intro d
 induction d with
 | zero =>
  intro i hi
  have h1:¬ ((i:Int)<((n % 16:Nat):Int)):=by omega
  rw [jd]
  simp only [B88,t,jg,h1,decide_false,Bool.false_eq_true,if_false,jl,jk]
  rw [← jpa n,hi,Nat.add_zero]
 | succ d ih =>
  intro i hi
  have ih:=ih (i+1) (by omega)
  have h1:((i:Int)<((n % 16:Nat):Int)):=by omega
  have hb:=Za i
  have h2:jc (3*pw i):=by unfold jc; omega
  have h3:jc ((i:Int)+1):=by unfold jc; omega
  rw [jd]
  simp only [B88,t,jg,h1,decide_true,if_true,jf,PC.holds,h2,h3,je,Jj,ja,jj,ji,jb]
  rw [← pw_succ,show (i:Int)+1=((i+1:Nat):Int) by omega,ih]
theorem QO (n:Nat):F88 (n:Int)=some (pw n):=by
 unfold F88; rw [jd]
 simp only [B88,ji,jb]
 exact jlF n (n % 16) 0 (by omega)
theorem jbG {x:Int} (h:1≤x∧x≤16):∃ v,qi x=some v∧(1≤v∧v≤16)∧(x*v) % 17=1:=by
 have:x=1∨x=2∨x=3∨x=4∨x=5∨x=6∨x=7∨x=8∨x=9∨x=10∨x=11∨x=12∨x=13∨x=14∨x=15∨x=16:=by omega
 rcases this with rfl | rfl | rfl | rfl | rfl | rfl | rfl | rfl | rfl | rfl | rfl | rfl | rfl | rfl | rfl | rfl
 ·exact ⟨1,by unfold qi; rw [jd]; simp [Qz,Jj,jf,PC.holds,jc,KL,ja,jj,jg,jl,jk],by omega,by decide⟩
 ·exact ⟨9,by unfold qi; rw [jd]; simp [Qz,Jj,jf,PC.holds,jc,KL,ja,jj,jg,jl,jk],by omega,by decide⟩
 ·exact ⟨6,by unfold qi; rw [jd]; simp [Qz,Jj,jf,PC.holds,jc,KL,ja,jj,jg,jl,jk],by omega,by decide⟩
 ·exact ⟨13,by unfold qi; rw [jd]; simp [Qz,Jj,jf,PC.holds,jc,KL,ja,jj,jg,jl,jk],by omega,by decide⟩
 ·exact ⟨7,by unfold qi; rw [jd]; simp [Qz,Jj,jf,PC.holds,jc,KL,ja,jj,jg,jl,jk],by omega,by decide⟩
 ·exact ⟨3,by unfold qi; rw [jd]; simp [Qz,Jj,jf,PC.holds,jc,KL,ja,jj,jg,jl,jk],by omega,by decide⟩
 ·exact ⟨5,by unfold qi; rw [jd]; simp [Qz,Jj,jf,PC.holds,jc,KL,ja,jj,jg,jl,jk],by omega,by decide⟩
 ·exact ⟨15,by unfold qi; rw [jd]; simp [Qz,Jj,jf,PC.holds,jc,KL,ja,jj,jg,jl,jk],by omega,by decide⟩
 ·exact ⟨2,by unfold qi; rw [jd]; simp [Qz,Jj,jf,PC.holds,jc,KL,ja,jj,jg,jl,jk],by omega,by decide⟩
 ·exact ⟨12,by unfold qi; rw [jd]; simp [Qz,Jj,jf,PC.holds,jc,KL,ja,jj,jg,jl,jk],by omega,by decide⟩
 ·exact ⟨14,by unfold qi; rw [jd]; simp [Qz,Jj,jf,PC.holds,jc,KL,ja,jj,jg,jl,jk],by omega,by decide⟩
 ·exact ⟨10,by unfold qi; rw [jd]; simp [Qz,Jj,jf,PC.holds,jc,KL,ja,jj,jg,jl,jk],by omega,by decide⟩
 ·exact ⟨4,by unfold qi; rw [jd]; simp [Qz,Jj,jf,PC.holds,jc,KL,ja,jj,jg,jl,jk],by omega,by decide⟩
 ·exact ⟨11,by unfold qi; rw [jd]; simp [Qz,Jj,jf,PC.holds,jc,KL,ja,jj,jg,jl,jk],by omega,by decide⟩
 ·exact ⟨8,by unfold qi; rw [jd]; simp [Qz,Jj,jf,PC.holds,jc,KL,ja,jj,jg,jl,jk],by omega,by decide⟩
 ·exact ⟨16,by unfold qi; rw [jd]; simp [Qz,Jj,jf,PC.holds,jc,KL,ja,jj,jg,jl,jk],by omega,by decide⟩
theorem jgh (l:List Int) (x:Int) (hl:l.length≤300):∀ (m i:Nat),l.length=i+m→x ∈ l.drop i→∃ k:Nat,res GM (.c1 l.length (l.map vI) x (l.length:Int) (i:Int))=some (k:Int)∧k<l.length∧l.getD k 0=x:=by
 intro m
 induction m with
 | zero=>intro i h hx; rw [List.drop_eq_nil_of_le (by omega)] at hx; simp at hx
 | succ m ih =>
  intro i h hx
  have hi:i<l.length:=by omega
  have h1:(i:Int)<(l.length:Int):=by omega
  have h3:jc (((i+1:Nat):Int)):=by unfold jc; omega
  have h4:0≤(i:Int):=by omega
  have h12:(i:Int)+1=((i+1:Nat):Int):=by omega
  have g1:=jL hi
  by_cases hz:l.getD i 0=x
  ·refine ⟨i,?_,hi,hz⟩
   have hb:(x==l.getD i 0)=true:=by rw [hz]; simp
   rw [jd]
   simp only [GM,jg,h1,decide_true,if_true,jf,je,PC.holds,h4,Int.toNat_natCast,Nat.mul_one,jo,g1,hb,jl]
   rw [jn (by simp; omega),jk]
  ·have hb:(x==l.getD i 0)=false:=beq_eq_false_iff_ne.2 (fun c=>hz c.symm)
   rw [K5 0 hi] at hx
   obtain ⟨k,hk⟩:=ih (i+1) (by omega) ((List.mem_cons.1 hx).resolve_left (fun c=>hz c.symm))
   refine ⟨k,?_,hk.2⟩
   rw [jd]
   simp only [GM,jg,h1,decide_true,if_true,jf,je,PC.holds,h4,Int.toNat_natCast,Nat.mul_one,jo,g1,hb,Bool.false_eq_true,if_false,h12,h3,ji]
   rw [jn (by simp; omega),jb,hk.1]
theorem jnr {x:Int} (h:1≤x∧x≤16):∃ v,jms x=some v∧(1≤v∧v≤16)∧(x*v) % 17=1:=by
 have hm:x ∈ pwT:=by
  have:x=1∨x=2∨x=3∨x=4∨x=5∨x=6∨x=7∨x=8∨x=9∨x=10∨x=11∨x=12∨x=13∨x=14∨x=15∨x=16:=by omega
  rcases this with rfl | rfl | rfl | rfl | rfl | rfl | rfl | rfl | rfl | rfl | rfl | rfl | rfl | rfl | rfl | rfl <;> decide
 obtain ⟨k,h1,h2,h3⟩:=jgh pwT x (by decide) 16 0 rfl (by rw [List.drop_zero]; exact hm)
 have h146:jbl 16 (pwT.map vI) x=some (k:Int):=by
  unfold jbl; rw [jd]
  simp only [GM,ji,jb]
  exact h1
 have hk:k<16:=h2
 have hx:x=pw k:=by unfold pw; rw [Nat.mod_eq_of_lt hk]; exact h3.symm
 refine ⟨pw (16 - k),?_,Za _,?_⟩
 ·unfold jms; rw [jd]
  have e:(16:Int) - (k:Int)=((16 - k:Nat):Int):=by omega
  have hin:jc ((16 - k:Nat):Int):=by unfold jc; omega
  have h146':jbl 16 [(.v (.int .i64 1)),(.v (.int .i64 3)),(.v (.int .i64 9)),(.v (.int .i64 10)),(.v (.int .i64 13)),(.v (.int .i64 5)),(.v (.int .i64 15)),(.v (.int .i64 11)),(.v (.int .i64 16)),(.v (.int .i64 14)),(.v (.int .i64 8)),(.v (.int .i64 7)),(.v (.int .i64 4)),(.v (.int .i64 12)),(.v (.int .i64 2)),(.v (.int .i64 6))] x=some (k:Int):=h146
  simp only [jqY,h146',ja,jj,jf,PC.holds,e,hin,je,KH,jl,jk]
 ·have h4:=jlr k (16 - k)
  rw [show k+(16 - k)=16 by omega,show pw 16=1 from rfl,← hx] at h4
  omega
theorem jmB {x y a b:Int} (h:a=b % 17):(a+x*y) % 17=(b+x*y) % 17:=by omega
def zR:List Int→Nat→Nat→Int→Int
 | [],_,_,a=>a
 | x :: xs,j,i,a=>zR xs j (i+1) (a+x*pw (i*j))
theorem jdb (j:Nat):∀ (l:List Int) (i:Nat) (a b:Int),a=b % 17→QB l j i a=(zR l j i b) % 17
 | [],_,_,_,h=>h
 | x :: xs,i,a,b,h=>by
  rw [QB,zR]
  exact jdb j xs (i+1) _ _ (jmB h)
theorem jf1 (l:List Int) (j:Nat):(zR l j 0 0) % 17=syn l j:=(jdb j l 0 0 0 rfl).symm
theorem jqo (l:List Int) (j:Nat) (a b:Int) (hl:l.length≤300) (hj:1≤j∧j≤16) (hs:okS l):∀ (xs:List Int) (i:Nat) (s:Int),l.drop i=xs→i≤l.length→0≤s∧s≤272*i →
  res B23 (.c2 l.length (l.map vI) (j:Int) s (i:Int) a b)=res B23 (.c3 l.length (l.map vI) 0 1 [vI ((zR xs j i s) % 17)] ((j+1:Nat):Int) a b 0):=by
 intro xs
 induction xs with
 | nil =>
  intro i s hd hi hb
  have hi2:i=l.length:=by
   have:=congrArg List.length hd
   simp at this; omega
  have h1:¬ ((i:Int)<(l.length:Int)):=by omega
  have h2:jc ((j:Int)+1):=by unfold jc; omega
  rw [jd]
  simp only [B23,jg,h1,decide_false,Bool.false_eq_true,if_false,Jj,ja,jj,jf,PC.holds,h2,je,ji,jb,zR]
  rw [show (j:Int)+1=((j+1:Nat):Int) by omega]
 | cons x xs ih =>
  intro i s hd hi hb
  have hi2:i<l.length:=by
   apply Classical.byContradiction
   intro h
   rw [List.drop_eq_nil_of_le (by omega)] at hd
   simp at hd
  have hx:l.getD i 0=x∧l.drop (i+1)=xs:=by
   rw [K5 0 hi2] at hd
   simpa using hd
  have hxs:0≤x∧x<17:=by
   refine hs x ?_
   have:x ∈ l.drop i:=by rw [hd]; simp
   exact List.mem_of_mem_drop this
  have hpw:=Za (i*j)
  have hij:i*j≤300*16:=Nat.mul_le_mul (by omega) (by omega)
  have eij:(i:Int)*(j:Int)=((i*j:Nat):Int):=by simp
  have hmul:0≤x*pw (i*j)∧x*pw (i*j)≤16*16:=by
   constructor
   ·exact Int.mul_nonneg hxs.1 (by omega)
   ·exact Int.mul_le_mul (by omega) hpw.2 (by omega) (by omega)
  have ih':=ih (i+1) (s+x*pw (i*j)) hx.2 (by omega) (by omega)
  rw [zR,← ih',jd]
  have h1:(i:Int)<(l.length:Int):=by omega
  have h3:jc ((i:Int)+1):=by unfold jc; omega
  have h4:0≤(i:Int):=by omega
  have h6:jc ((i*j:Nat):Int):=by unfold jc; omega
  have h7:jc (x*pw (i*j)):=by unfold jc; omega
  have h8:jc (s+x*pw (i*j)):=by unfold jc; omega
  have h12:(i:Int)+1=((i+1:Nat):Int):=by omega
  have g1:=jL hi2
  rw [hx.1] at g1
  have g2:dI (cel (l.map vI) i)=x:=by rw [jo,hx.1]
  simp only [B23,jg,h1,decide_true,if_true,jf,je,PC.holds,h3,h4,Int.toNat_natCast,Nat.mul_one,eij,QO,ja,g1,g2,h6,h7,h8,jj,ji,jb]
  rw [jn (by simp; omega),h12,jb]
theorem jqe (l:List Int) (j:Nat) (a b:Int) (nm cap e:Nat) (acc:List DV) (hnm:nm=e) (hcap:cap≤100) (hl:l.length≤300) (hj:1≤j∧j≤16) (hs:okS l):∀ (xs:List Int) (i:Nat) (s:Int),l.drop i=xs→i≤l.length→0≤s∧s≤272*i →
  res B23 (.c4 l.length (l.map vI) nm cap acc (j:Int) s (i:Int) a b e)=res B23 (.c3 l.length (l.map vI) (e+1) (cap+1) (acc++[vI ((zR xs j i s) % 17)]) ((j+1:Nat):Int) a b (e+1)):=by
 subst hnm
 intro xs
 induction xs with
 | nil =>
  intro i s hd hi hb
  have hi2:i=l.length:=by
   have:=congrArg List.length hd
   simp at this; omega
  have h1:¬ ((i:Int)<(l.length:Int)):=by omega
  have h2:jc ((j:Int)+1):=by unfold jc; omega
  rw [jd]
  simp only [B23,jg,h1,decide_false,Bool.false_eq_true,if_false,Jj,ja,jj,jf,PC.holds,h2,je,ji,jb,zR]
  rw [jn (by first | omega | (unfold Jg; omega)),jb,show (j:Int)+1=((j+1:Nat):Int) by omega]
 | cons x xs ih =>
  intro i s hd hi hb
  have hi2:i<l.length:=by
   apply Classical.byContradiction
   intro h
   rw [List.drop_eq_nil_of_le (by omega)] at hd
   simp at hd
  have hx:l.getD i 0=x∧l.drop (i+1)=xs:=by
   rw [K5 0 hi2] at hd
   simpa using hd
  have hxs:0≤x∧x<17:=by
   refine hs x ?_
   have:x ∈ l.drop i:=by rw [hd]; simp
   exact List.mem_of_mem_drop this
  have hpw:=Za (i*j)
  have hij:i*j≤300*16:=Nat.mul_le_mul (by omega) (by omega)
  have eij:(i:Int)*(j:Int)=((i*j:Nat):Int):=by simp
  have hmul:0≤x*pw (i*j)∧x*pw (i*j)≤16*16:=by
   constructor
   ·exact Int.mul_nonneg hxs.1 (by omega)
   ·exact Int.mul_le_mul (by omega) hpw.2 (by omega) (by omega)
  have ih':=ih (i+1) (s+x*pw (i*j)) hx.2 (by omega) (by omega)
  rw [zR,← ih',jd]
  have h1:(i:Int)<(l.length:Int):=by omega
  have h3:jc ((i:Int)+1):=by unfold jc; omega
  have h4:0≤(i:Int):=by omega
  have h6:jc ((i*j:Nat):Int):=by unfold jc; omega
  have h7:jc (x*pw (i*j)):=by unfold jc; omega
  have h8:jc (s+x*pw (i*j)):=by unfold jc; omega
  have h12:(i:Int)+1=((i+1:Nat):Int):=by omega
  have g1:=jL hi2
  rw [hx.1] at g1
  have g2:dI (cel (l.map vI) i)=x:=by rw [jo,hx.1]
  simp only [B23,jg,h1,decide_true,if_true,jf,je,PC.holds,h3,h4,Int.toNat_natCast,Nat.mul_one,eij,QO,ja,g1,g2,h6,h7,h8,jj,ji,jb]
  rw [jn (by simp; omega),h12,jb]
theorem jaS (l:List Int) (k:Nat):jV l (k+1)=jV l k++[syn l (k+1)]:=by
 unfold jV; rw [List.range_succ,List.map_append]; rfl
theorem JT (l:List Int) (k:Nat):(jV l k).length=k:=by unfold jV; simp
theorem jp7 (l:List Int) (k:Nat) (b:Int) (hl:l.length≤300) (hk:k≤16) (hs:okS l):∀ (d j e:Nat),k=j+d→1≤j →
  res B23 (.c3 l.length (l.map vI) e j ((jV l j).map vI) ((j+1:Nat):Int) b (k:Int) e)=some (k,(jV l k).map vI):=by
 intro d
 induction d with
 | zero =>
  intro j e hj hj1
  have hj:j=k:=by omega
  subst hj
  have h1:¬ (((j+1:Nat):Int)≤(j:Int)):=by omega
  rw [jd]
  simp only [B23,jg,h1,decide_false,Bool.false_eq_true,if_false,jl,jk]
 | succ d ih =>
  intro j e hj hj1
  have ih:=ih (j+1) (e+1) (by omega) (by omega)
  have h1:(((j+1:Nat):Int)≤(k:Int)):=by omega
  rw [jd]
  simp only [B23,jg,h1,decide_true,if_true,ji,jb]
  have h4:=jqe l (j+1) b (k:Int) e j e ((jV l j).map vI) rfl (by omega) hl (by omega) hs l 0 0 (by simp) (by omega) (by omega)
  rw [jf1] at h4
  refine h4.trans ?_
  rw [jaS,List.map_append] at ih
  exact ih
theorem jk9 (n:Int) {k:Nat} {l:List Int} (hl:l.length≤300) (hk:1≤k∧k≤16) (hs:okS l):F23 n (k:Int) l.length (l.map vI)=some (k,(jV l k).map vI):=by
 unfold F23; rw [jd]
 simp only [B23,ji,jb]
 rw [jd]
 have h1:((1:Int)≤(k:Int)):=by omega
 simp only [B23,jg,h1,decide_true,if_true,ji,jb]
 have h2:=jqo l 1 n (k:Int) hl (by omega) hs l 0 0 (by simp) (by omega) (by omega)
 rw [jf1] at h2
 refine h2.trans ?_
 exact jp7 l k n hl hk.2 hs (k - 1) 1 0 (by omega) (by omega)
theorem jkY (xs:List Int) (hl:xs.length≤300):∀ (m i:Nat),xs.length=i+m→res B24 (.c1 xs.length (xs.map vI) (i:Int))=some ((xs.drop i).all fun x=>x==0):=by
 intro m
 induction m with
 | zero =>
  intro i h
  have h1:¬ ((i:Int)<(xs.length:Int)):=by omega
  rw [jd,List.drop_eq_nil_of_le (by omega)]
  simp only [B24,jg,h1,decide_false,Bool.false_eq_true,if_false,jl,jk,List.all_nil]
 | succ m ih =>
  intro i h
  have hi:i<xs.length:=by omega
  have h1:(i:Int)<(xs.length:Int):=by omega
  have h3:jc (((i+1:Nat):Int)):=by unfold jc; omega
  have h4:0≤(i:Int):=by omega
  have h12:(i:Int)+1=((i+1:Nat):Int):=by omega
  have g1:=jL hi
  rw [jd,K5 0 hi,List.all_cons]
  by_cases hz:xs.getD i 0=0
  ·have hb:(xs.getD i 0 != 0)=false:=by rw [hz]; rfl
   have hb2:(xs.getD i 0==0)=true:=by rw [hz]; rfl
   simp only [B24,jg,h1,decide_true,if_true,jf,je,PC.holds,h4,Int.toNat_natCast,Nat.mul_one,jo,g1,hb,hb2,Bool.false_eq_true,if_false,h12,h3,ji,Bool.true_and]
   rw [jn (by simp; omega),jb,ih (i+1) (by omega)]
  ·have hb:(xs.getD i 0 != 0)=true:=bne_iff_ne.2 hz
   have hb2:(xs.getD i 0==0)=false:=beq_eq_false_iff_ne.2 hz
   simp only [B24,jg,h1,decide_true,if_true,jf,je,PC.holds,h4,Int.toNat_natCast,Nat.mul_one,jo,g1,hb,hb2,jl,Bool.false_and]
   rw [jn (by simp; omega),jk]
theorem jpu (n:Int) {k:Nat} {l:List Int} (hl:l.length≤300) (hk:1≤k∧k≤16) (hs:okS l):F24 n (k:Int) l.length (l.map vI)=some (isW l k):=by
 unfold F24; rw [jd]
 have h:=jkY (jV l k) (by rw [JT]; omega) k 0 (by rw [JT]; omega)
 rw [JT] at h
 simp only [B24,jk9 n hl hk hs,ja,jj,ji,jb]
 exact h
end
section
open Go Go.RowKit
theorem flCm:∀ l:List Int,z8 (l.map aI)=true
 | []=>rfl
 | x :: l=>by rw [List.map_cons]; unfold z8; exact flCm l
theorem jM (t:Nat) (l:List Int):(flatK (ABlk.cells (l.map aI) t)=true)=True:=eq_true (flCm l)
def RD (R:List (List Int)):List (List DV):=R.map fun r=>r.map vI
theorem qZ (R:List (List Int)):(RD R).length=R.length:=by unfold RD; simp
theorem jaU (R:List (List Int)) (p:Nat):(RD R).getD p []=(R.getD p []).map vI:=by
 unfold RD
 simp only [List.getD_eq_getElem?_getD,List.getElem?_map]
 cases R[p]? <;> rfl
theorem jlu (R:List (List Int)) (p:Nat) (r:List Int):(RD R).set p (r.map vI)=RD (R.set p r):=by
 unfold RD; rw [List.map_set]
theorem jk8 (r:List Int) (y:Nat) (v:Int):(r.map vI).set y (DV.v (Value.int IntKind.i64 v))=(r.set y v).map vI:=by rw [List.map_set]
theorem je5 (R:List (List Int)) (r:List Int):RD R++[r.map vI]=RD (R++[r]):=by unfold RD; simp
theorem at0 {r:List Int} {i:Nat} (h:i<r.length):Option.map AV.d (List.drop i (r.map vI))[0]? = some (AV.d (DV.v (Value.int IntKind.i64 (r.getD i 0)))):=jL h
def prg (g:Nat→Int→Int) (r:List Int) (y:Nat):List Int:=(List.range r.length).map fun k=>if k<y then g k (r.getD k 0) else r.getD k 0
theorem JY (g:Nat→Int→Int) (r:List Int) (y:Nat):(prg g r y).length=r.length:=by unfold prg; simp
theorem kt (g:Nat→Int→Int) (r:List Int) (y:Nat) {k:Nat} (hk:k<r.length):(prg g r y).getD k 0=if k<y then g k (r.getD k 0) else r.getD k 0:=by
 unfold prg
 simp [List.getD_eq_getElem?_getD,hk]
theorem jcH (g:Nat→Int→Int) (r:List Int):prg g r 0=r:=by
 apply qI (JY _ _ _)
 intro i hi
 rw [JY] at hi
 rw [kt g r 0 hi,if_neg (by omega)]
theorem jfp (g:Nat→Int→Int) (r:List Int) {y:Nat} (hy:y<r.length):(prg g r y).set y (g y (r.getD y 0))=prg g r (y+1):=by
 apply qI (by rw [List.length_set,JY,JY])
 intro i hi
 rw [List.length_set,JY] at hi
 rw [qu,kt g r (y+1) hi,JY,kt g r y hi]
 by_cases h:y=i
 ·subst h; rw [if_pos ⟨rfl,hy⟩,if_pos (by omega)]
 ·rw [if_neg (fun c=>h c.1)]
  by_cases h2:i<y
  ·rw [if_pos h2,if_pos (by omega)]
  ·rw [if_neg h2,if_neg (by omega)]
theorem jeM {g:Nat→Int→Int} {r:List Int} (hr:okS r) (hg:∀ k x,0≤g k x∧g k x<17) (y:Nat):okS (prg g r y):=by
 intro x hx
 unfold prg at hx
 obtain ⟨k,hk,rfl⟩:=List.mem_map.1 hx
 rw [List.mem_range] at hk
 split
 ·exact hg _ _
 ·refine hr _ ?_
  rw [List.getD_eq_getElem?_getD,List.getElem?_eq_getElem hk]
  exact List.getElem_mem _
theorem kg {r:List Int} (h:okS r) (i:Nat):0≤r.getD i 0∧r.getD i 0<17:=by
 by_cases hi:i<r.length
 ·refine h _ ?_
  rw [List.getD_eq_getElem?_getD,List.getElem?_eq_getElem hi]
  exact List.getElem_mem _
 ·rw [List.getD_eq_getElem?_getD,List.getElem?_eq_none (by omega)]; simp
structure Gr (R:List (List Int)) (N W:Nat):Prop where
 len:R.length=N
 row:∀ p,p<N→(R.getD p []).length=W
 ok:∀ p,okS (R.getD p [])
theorem Jo (R:List (List Int)) (i k:Nat) (x:List Int):(R.set i x).getD k []=if i=k∧i<R.length then x else R.getD k []:=by
 rw [List.getD_eq_getElem?_getD,List.getElem?_set,List.getD_eq_getElem?_getD]
 by_cases h:i=k
 ·subst h
  by_cases h2:i<R.length
  ·simp [h2]
  ·simp [h2]
 ·simp [h]
theorem Gr.set {R:List (List Int)} {N W p:Nat} {r:List Int} (h:Gr R N W) (hl:r.length=W) (hr:okS r):Gr (R.set p r) N W:=by
 refine ⟨by rw [List.length_set,h.len],fun q hq=>?_,fun q=>?_⟩
 ·rw [Jo]; split
  ·exact hl
  ·exact h.row q hq
 ·rw [Jo]; split
  ·exact hr
  ·exact h.ok q
def oI (op:List Nat):List Int:=List.map (fun i:Nat=>(i:Int)) op
theorem Ju (op:List Nat):(oI op).length=op.length:=by unfold oI; simp
theorem JJ (op:List Nat) (k:Nat):(oI op).getD k 0=((op.getD k 0:Nat):Int):=by
 unfold oI
 simp only [List.getD_eq_getElem?_getD,List.getElem?_map]
 cases op[k]? <;> rfl
theorem jab {x y:Int} (hx:0≤x∧x<17) (hy:0≤y∧y<17):0≤x*y∧x*y≤256:=by
 constructor
 ·exact Int.mul_nonneg hx.1 hy.1
 ·have:=Int.mul_le_mul (show x≤16 by omega) (show y≤16 by omega) hy.1 (by omega)
  omega
def elg (f:Int) (P:List Int) (k:Nat) (x:Int):Int:=(x - f*P.getD k 0) % 17
theorem jmX {w:Nat} {oD:List DV} {L e N:Nat} {i f wI nI NI yr a b:Int} {p q W:Nat} {O:List Int} {m:List Nat} {R:List (List Int)} (hR:Gr R N W) (hp:p<N) (hq:q<N) (hpq:p≠q) (hf:0≤f∧f<17) (hW:W≤300) (hyr:0≤yr∧yr≤300) :
  ∀ (d k:Nat),W=k+d→res B93 (.c19 w oD L e N i p W q W f wI nI NI yr (W:Int) (k:Int) a b (O.map aI) e m (RD (R.set q (prg (elg f (R.getD p [])) (R.getD q []) k)))) =
   res B93 (.c18 w oD L e N i p W wI nI NI (yr+1) a b (O.map aI) e m (RD (R.set q (prg (elg f (R.getD p [])) (R.getD q []) W)))):=by
 have hlen:=hR.len
 intro d
 induction d with
 | zero =>
  intro k hk
  have hk:k=W:=by omega
  subst hk
  have h1:¬ ((k:Int)<(k:Int)):=by omega
  have h2:jc (yr+1):=by unfold jc; omega
  rw [jd]
  simp only [B93,jg,h1,decide_false,Bool.false_eq_true,if_false,jf,PC.holds,h2,je,jq,ji,jb]
 | succ d ih =>
  intro k hk
  have ih:=ih (k+1) (by omega)
  have hqr:=hR.row q hq
  have hpr:=hR.row p hp
  have g1:(R.set q (prg (elg f (R.getD p [])) (R.getD q []) k)).getD q []=prg (elg f (R.getD p [])) (R.getD q []) k:=by rw [Jo,if_pos ⟨rfl,by omega⟩]
  have g2:(R.set q (prg (elg f (R.getD p [])) (R.getD q []) k)).getD p []=R.getD p []:=by rw [Jo,if_neg (fun c=>hpq c.1.symm)]
  have g3:(prg (elg f (R.getD p [])) (R.getD q []) k).getD k 0=(R.getD q []).getD k 0:=by rw [kt _ _ _ (by omega),if_neg (by omega)]
  have g4:(prg (elg f (R.getD p [])) (R.getD q []) k).set k (((R.getD q []).getD k 0 - f*(R.getD p []).getD k 0) % 17)=prg (elg f (R.getD p [])) (R.getD q []) (k+1):=jfp (elg f (R.getD p [])) (R.getD q []) (by omega)
  have x1:=kg (hR.ok q) k
  have x2:=kg (hR.ok p) k
  have x3:=jab hf x2
  have a1:=at0 (r:=prg (elg f (R.getD p [])) (R.getD q []) k) (i:=k) (by rw [JY]; omega)
  have a2:=at0 (r:=R.getD p []) (i:=k) (by omega)
  rw [g3] at a1
  have h1:(k:Int)<(W:Int):=by omega
  have h2:jc (f*(R.getD p []).getD k 0):=by unfold jc; omega
  have h3:jc ((R.getD q []).getD k 0 - f*(R.getD p []).getD k 0):=by unfold jc; omega
  have h4:jc ((k:Int)+1):=by unfold jc; omega
  have h5:0≤(k:Int):=by omega
  have h6:q<(R.set q (prg (elg f (R.getD p [])) (R.getD q []) k)).length:=by rw [List.length_set]; omega
  have h7:p<(R.set q (prg (elg f (R.getD p [])) (R.getD q []) k)).length:=by rw [List.length_set]; omega
  have h8:k<(prg (elg f (R.getD p [])) (R.getD q []) k).length:=by rw [JY]; omega
  rw [jd]
  simp only [B93,jg,h1,decide_true,if_true,jaU,qZ,g1,g2,jo,g3,Int.toNat_natCast,Kk,ja,jf,PC.holds,h2,h3,h4,h5,h6,h7,a1,a2,List.length_map,h8,je,jj,jq,ji,jb,jk8,g4,jlu,List.set_set]
  exact ih
def scg (u:Int) (_:Nat) (x:Int):Int:=(x*u) % 17
theorem jmy {w:Nat} {oD:List DV} {L e N:Nat} {i u wI nI a b:Int} {p W:Nat} {O:List Int} {m:List Nat} {R:List (List Int)} (hR:Gr R N W) (hp:p<N) (hu:0≤u∧u<17) (hW:W≤300) :
  ∀ (d k:Nat),W=k+d→res B93 (.c17 w oD L e N i p W u wI nI (W:Int) (k:Int) a b (O.map aI) e m (RD (R.set p (prg (scg u) (R.getD p []) k)))) =
   res B93 (.c18 w oD L e N i p W wI nI (N:Int) 0 a b (O.map aI) e m (RD (R.set p (prg (scg u) (R.getD p []) W)))):=by
 have hlen:=hR.len
 intro d
 induction d with
 | zero =>
  intro k hk
  have hk:k=W:=by omega
  subst hk
  have h1:¬ ((k:Int)<(k:Int)):=by omega
  rw [jd]
  simp only [B93,jg,h1,decide_false,Bool.false_eq_true,if_false,jf,PC.holds,je,jq,ji,jb]
 | succ d ih =>
  intro k hk
  have ih:=ih (k+1) (by omega)
  have hpr:=hR.row p hp
  have g1:(R.set p (prg (scg u) (R.getD p []) k)).getD p []=prg (scg u) (R.getD p []) k:=by rw [Jo,if_pos ⟨rfl,by omega⟩]
  have g3:(prg (scg u) (R.getD p []) k).getD k 0=(R.getD p []).getD k 0:=by rw [kt _ _ _ (by omega),if_neg (by omega)]
  have g4:(prg (scg u) (R.getD p []) k).set k (((R.getD p []).getD k 0*u) % 17)=prg (scg u) (R.getD p []) (k+1):=jfp (scg u) (R.getD p []) (by omega)
  have x2:=kg (hR.ok p) k
  have x3:=jab x2 hu
  have a1:=at0 (r:=prg (scg u) (R.getD p []) k) (i:=k) (by rw [JY]; omega)
  rw [g3] at a1
  have h1:(k:Int)<(W:Int):=by omega
  have h2:jc ((R.getD p []).getD k 0*u):=by unfold jc; omega
  have h4:jc ((k:Int)+1):=by unfold jc; omega
  have h5:0≤(k:Int):=by omega
  have h6:p<(R.set p (prg (scg u) (R.getD p []) k)).length:=by rw [List.length_set]; omega
  have h8:k<(prg (scg u) (R.getD p []) k).length:=by rw [JY]; omega
  rw [jd]
  simp only [B93,jg,h1,decide_true,if_true,jaU,qZ,g1,jo,g3,Int.toNat_natCast,Kk,ja,jf,PC.holds,h2,h4,h5,h6,a1,List.length_map,h8,je,jj,jq,ji,jb,jk8,g4,jlu,List.set_set]
  exact ih
structure MidR (R:List (List Int)) (m:List Nat) (N W n y:Nat) (P:List Int) (C:Nat→List Int):Prop where
 gr:Gr R N W
 piv:R.getD (m.getD n 0) []=P
 done:∀ j,j<y→j≠n→R.getD (m.getD j 0) []=prg (elg ((C j).getD n 0) P) (C j) W
 rest:∀ j,y≤j→j<N→j≠n→R.getD (m.getD j 0) []=C j
theorem jl2 {w:Nat} {oD:List DV} {L e N n:Nat} {wI a b:Int} {i W:Nat} {O:List Int} {m:List Nat} {P:List Int} {C:Nat→List Int} (hm:m.length=N) (hmp:Places m N) (hn:n<N) (hnW:n<W) (hW:W≤300) (hN:N≤300) (hi:i<O.length) (hO:O.length=L) (hC:∀ j,okS (C j)) (hPo:okS P) :
  ∀ (d y:Nat) (R:List (List Int)),N=y+d→MidR R m N W n y P C →
   ∃ R',MidR R' m N W n N P C∧res B93 (.c18 w oD L e N (i:Int) (m.getD n 0) W wI (n:Int) (N:Int) (y:Int) a b (O.map aI) e m (RD R))=res B93 (.c12 w oD L e N wI ((n+1:Nat):Int) a b ((O.set i 0).map aI) e m (RD R')):=by
 intro d
 induction d with
 | zero =>
  intro y R hy h
  have hy:y=N:=by omega
  subst hy
  refine ⟨R,h,?_⟩
  have h1:¬ ((y:Int)<(y:Int)):=by omega
  have h2:jc ((n:Int)+1):=by unfold jc; omega
  have h3:0≤(i:Int):=by omega
  have h4:(i:Int)<(L:Int):=by omega
  rw [jd]
  simp only [B93,jg,h1,decide_false,Bool.false_eq_true,if_false,jf,PC.holds,h2,h3,h4,je,Int.toNat_natCast,Nat.mul_one,Nat.zero_add,jG,jef 0 hi,jq,ji,jb]
  rw [jn (by simp; omega),jb,show (n:Int)+1=((n+1:Nat):Int) by omega]
 | succ d ih =>
  intro y R hy h
  have h1:(y:Int)<(N:Int):=by omega
  have h2:jc ((y:Int)+1):=by unfold jc; omega
  have h3:0≤(y:Int):=by omega
  have h4:y<m.length:=by omega
  by_cases hyn:y=n
  ·subst hyn
   obtain ⟨R',hR',hr⟩:=ih (y+1) R (by omega) ⟨h.gr,h.piv,fun j hj hjn=>h.done j (by omega) hjn,fun j hj hjN hjn=>h.rest j (by omega) hjN hjn⟩
   refine ⟨R',hR',?_⟩
   rw [← hr,jd]
   simp only [B93,jg,h1,decide_true,if_true,jf,PC.holds,h2,h3,je,Int.toNat_natCast,Nat.zero_add,h4,beq_self_eq_true,jq,ji,jb]
   rw [show (y:Int)+1=((y+1:Nat):Int) by omega]
  ·have hb:((y:Int)==(n:Int))=false:=beq_eq_false_iff_ne.2 (by omega)
   have hq:m.getD y 0<N:=hmp.lt y (by omega)
   have hp:m.getD n 0<N:=hmp.lt n (by omega)
   have hpq:m.getD n 0≠m.getD y 0:=fun c=>hyn (hmp.inj n y (by omega) (by omega) c).symm
   have hrow:R.getD (m.getD y 0) []=C y:=h.rest y (by omega) (by omega) hyn
   have hCl:(C y).length=W:=by rw [← hrow]; exact h.gr.row _ hq
   have hlen:=h.gr.len
   have hf:=kg (hC y) n
   have hrun:=jmX (w:=w) (oD:=oD) (L:=L) (e:=e) (i:=(i:Int)) (f:=(C y).getD n 0) (wI:=wI) (nI:=(n:Int)) (NI:=(N:Int)) (yr:=(y:Int)) (a:=a) (b:=b) (O:=O) (m:=m) h.gr hp hq hpq hf hW (by omega) W 0 (by omega)
   rw [jcH,h.piv,hrow] at hrun
   have e0:R.set (m.getD y 0) (C y)=R:=by
    rw [← hrow]
    apply List.ext_getElem?
    intro z
    rw [List.getElem?_set]
    by_cases hz:m.getD y 0=z
    ·subst hz
     have:m.getD y 0<R.length:=by omega
     rw [if_pos rfl,if_pos this,List.getD_eq_getElem?_getD,List.getElem?_eq_getElem this]; rfl
    ·rw [if_neg hz]
   rw [e0] at hrun
   have hPl:P.length=W:=by rw [← h.piv]; exact h.gr.row _ hp
   have hel:∀ k x,0≤elg ((C y).getD n 0) P k x∧elg ((C y).getD n 0) P k x<17:=fun k x=>by unfold elg; omega
   have hmid:MidR (R.set (m.getD y 0) (prg (elg ((C y).getD n 0) P) (C y) W)) m N W n (y+1) P C:=by
    refine ⟨h.gr.set (by rw [JY,hCl]) (jeM (hC y) hel W),?_,?_,?_⟩
    ·rw [Jo,if_neg (fun c=>hpq c.1.symm)]; exact h.piv
    ·intro j hj hjn
     rw [Jo]
     by_cases hjy:j=y
     ·subst hjy; rw [if_pos ⟨rfl,by omega⟩]
     ·rw [if_neg (fun c=>hjy (hmp.inj y j (by omega) (by omega) c.1).symm)]
      exact h.done j (by omega) hjn
    ·intro j hj hjN hjn
     rw [Jo,if_neg (fun c=>by have:=hmp.inj y j (by omega) (by omega) c.1; omega)]
     exact h.rest j (by omega) hjN hjn
   obtain ⟨R',hR',hr⟩:=ih (y+1) _ (by omega) hmid
   refine ⟨R',hR',?_⟩
   rw [show ((y+1:Nat):Int)=(y:Int)+1 by omega] at hr
   rw [← hr,← hrun,jd]
   have a1:=at0 (r:=C y) (i:=n) (by omega)
   have h6:0≤(n:Int):=by omega
   have h7:(n:Int)<(W:Int):=by omega
   have h8:m.getD y 0<R.length:=by omega
   simp only [B93,jg,h1,decide_true,if_true,jf,PC.holds,h2,h3,je,Int.toNat_natCast,Nat.zero_add,h4,hb,Bool.false_eq_true,if_false,jaU,qZ,hrow,List.length_map,hCl,jo,a1,h6,h7,h8,jq,ji,jb]
   rfl
def swm (m:List Nat) (a n:Nat):List Nat:=(m.set a (m.getD n 0)).set n (m.getD a 0)
theorem jav (l:List Nat) (i k:Nat) (x:Nat):(l.set i x).getD k 0=if i=k∧i<l.length then x else l.getD k 0:=by
 rw [List.getD_eq_getElem?_getD,List.getElem?_set,List.getD_eq_getElem?_getD]
 by_cases h:i=k
 ·subst h
  by_cases h2:i<l.length
  ·simp [h2]
  ·simp [h2]
 ·simp [h]
theorem jbI (m:List Nat) (a n:Nat):(swm m a n).length=m.length:=by unfold swm; simp
theorem y6 {m:List Nat} {a n:Nat} (ha:a<m.length) (hn:n<m.length) (j:Nat):(swm m a n).getD j 0=if j=n then m.getD a 0 else if j=a then m.getD n 0 else m.getD j 0:=by
 unfold swm
 rw [jav,List.length_set,jav]
 by_cases h1:j=n
 ·subst h1; rw [if_pos ⟨rfl,hn⟩,if_pos rfl]
 ·rw [if_neg (fun c=>h1 c.1.symm),if_neg h1]
  by_cases h2:j=a
  ·subst h2; rw [if_pos ⟨rfl,ha⟩,if_pos rfl]
  ·rw [if_neg (fun c=>h2 c.1.symm),if_neg h2]
theorem je2 {m:List Nat} {a n N:Nat} (h:Places m N) (ha:a<m.length) (hn:n<m.length):Places (swm m a n) N:=by
 refine ⟨fun k hk=>?_,fun x y hx hy e=>?_⟩
 ·rw [jbI] at hk
  rw [y6 ha hn]
  split
  ·exact h.lt a ha
  ·split
   ·exact h.lt n hn
   ·exact h.lt k hk
 ·rw [jbI] at hx hy
  rw [y6 ha hn,y6 ha hn] at e
  have q:∀ {u v},u<m.length→v<m.length→m.getD u 0=m.getD v 0→u=v:=fun hu hv=>h.inj _ _ hu hv
  by_cases h1:x=n
  ·by_cases h2:y=n
   ·omega
   ·by_cases h3:y=a
    ·rw [if_pos h1,if_neg h2,if_pos h3] at e; have:=q ha hn e; omega
    ·rw [if_pos h1,if_neg h2,if_neg h3] at e; have:=q ha hy e; omega
  ·by_cases h2:y=n
   ·by_cases h3:x=a
    ·rw [if_neg h1,if_pos h3,if_pos h2] at e; have:=q hn ha e; omega
    ·rw [if_neg h1,if_neg h3,if_pos h2] at e; have:=q hx ha e; omega
   ·by_cases h3:x=a
    ·by_cases h4:y=a
     ·omega
     ·rw [if_neg h1,if_pos h3,if_neg h2,if_neg h4] at e; have:=q hn hy e; omega
    ·by_cases h4:y=a
     ·rw [if_neg h1,if_neg h3,if_neg h2,if_pos h4] at e; have:=q hx hn e; omega
     ·rw [if_neg h1,if_neg h3,if_neg h2,if_neg h4] at e; exact q hx hy e
theorem jlT {w:Nat} {oD:List DV} {L e N n:Nat} {i wI a b:Int} {W:Nat} {O:List Int} {m:List Nat} {R:List (List Int)} (hR:Gr R N W) (hm:m.length=N) (hmp:Places m N) (hn:n<N) (hnW:n<W) (hN:N≤300) :
  ∀ (d y:Nat),N - n=y+d→(∃ j,n+y≤j∧j<N∧(R.getD (m.getD j 0) []).getD n 0≠0) →
   ∃ (c:Nat) (v:Int),n≤c∧c<N∧(1≤v∧v≤16)∧((R.getD (m.getD c 0) []).getD n 0*v) % 17=1 ∧
    res B93 (.c14 e n (N - n) ((N - n:Nat):Int) (y:Int) w oD L N i wI (n:Int) a b (O.map aI) e m (RD R))=res B93 (.c17 w oD L e N i (m.getD c 0) W v wI (n:Int) (W:Int) 0 a b (O.map aI) e (swm m c n) (RD R)):=by
 have hlen:=hR.len
 intro d
 induction d with
 | zero=>rintro y hy ⟨j,h1,h2,_⟩; omega
 | succ d ih =>
  rintro y hy ⟨j,hj1,hj2,hj3⟩
  have hq:m.getD (n+y) 0<N:=hmp.lt _ (by omega)
  have hq2:m.getD n 0<N:=hmp.lt _ (by omega)
  have hql:=hR.row _ hq
  have a1:=at0 (r:=R.getD (m.getD (n+y) 0) []) (i:=n) (by omega)
  have h1:(y:Int)<((N - n:Nat):Int):=by omega
  have h2:0≤(y:Int):=by omega
  have h3:n+y<m.length:=by omega
  have h4:0≤(n:Int):=by omega
  have h5:(n:Int)<(W:Int):=by omega
  have h6:m.getD (n+y) 0<R.length:=by omega
  have x1:=kg (hR.ok (m.getD (n+y) 0)) n
  by_cases hz:(R.getD (m.getD (n+y) 0) []).getD n 0=0
  ·have hb:((R.getD (m.getD (n+y) 0) []).getD n 0 != 0)=false:=by rw [hz]; rfl
   have hjy:j≠n+y:=fun c=>hj3 (by rw [c]; exact hz)
   obtain ⟨c,v,c1,c2,c3,c4,c5⟩:=ih (y+1) (by omega) ⟨j,by omega,hj2,hj3⟩
   refine ⟨c,v,c1,c2,c3,c4,?_⟩
   rw [← c5,jd]
   have h7:jc ((y:Int)+1):=by unfold jc; omega
   simp only [B93,jg,h1,decide_true,if_true,jf,PC.holds,h2,je,Int.toNat_natCast,h3,h4,jaU,qZ,List.length_map,hql,h5,h6,jo,a1,hb,Bool.false_eq_true,if_false,h7,jq,ji,jb]
   rw [show (y:Int)+1=((y+1:Nat):Int) by omega]
  ·have hb:((R.getD (m.getD (n+y) 0) []).getD n 0 != 0)=true:=bne_iff_ne.2 hz
   obtain ⟨v,f1,f2,f3⟩:=jnr (x:=(R.getD (m.getD (n+y) 0) []).getD n 0) (by omega)
   refine ⟨n+y,v,by omega,by omega,f2,f3,?_⟩
   have e1:(n:Int)+(y:Int)=((n+y:Nat):Int):=by omega
   have h7:jc ((n+y:Nat):Int):=by unfold jc; omega
   have h8:0≤((n+y:Nat):Int):=by omega
   have h9:((n+y:Nat):Int)<(N:Int):=by omega
   have h10:(n:Int)<(N:Int):=by omega
   have h11:¬ (y:Int)<0:=by omega
   have h12:n<m.length:=by omega
   have h13:m.getD n 0<R.length:=by omega
   rw [jd]
   simp only [B93,jg,h1,decide_true,if_true,jf,PC.holds,h2,je,Int.toNat_natCast,Nat.zero_add,h3,h4,jaU,qZ,List.length_map,List.length_set,hql,h5,h6,jo,a1,hb,h11,decide_false,Bool.false_eq_true,if_false,e1,h7,h8,h9,h10,h12,h13,f1,ja,jj,jq,ji,jb]
   rfl
structure Col (op:List Nat) (Z:List Int) (N:Nat) (R:List (List Int)) (m:List Nat) (n:Nat):Prop where
 gr:Gr R N (op.length+1)
 ml:m.length=N
 mp:Places m N
 el:El op Z N (mat fun j=>R.getD (m.getD j 0) []) n
 one:∀ k,k<n→(17:Int)∣(R.getD (m.getD k 0) []).getD k 0 - 1
theorem jmT {oD:List DV} {L e N n:Nat} {a b:Int} {O:List Int} {m:List Nat} {R:List (List Int)} {op:List Nat} {Z:List Int} (h:Col op Z N R m n) (hD:oD=(oI op).map vI) (hN:op.length≤N) (hN2:N≤16) (hn:n<op.length) (hp:Places op L) (hL:L≤16) (hO:O.length=L) (hO0:O.getD (op.getD n 0) 0=0) :
  ∃ R' m',Col op Z N R' m' (n+1)∧res B93 (.c12 op.length oD L e N (op.length:Int) (n:Int) a b (O.map aI) e m (RD R))=res B93 (.c12 op.length oD L e N (op.length:Int) ((n+1:Nat):Int) a b (O.map aI) e m' (RD R')):=by
 subst hD
 have hlen:=h.gr.len
 obtain ⟨j,j1,j2,j3⟩:=jdI h.el hp hL hN hn
 have j4:(R.getD (m.getD j 0) []).getD n 0≠0:=fun c=>j3 (by show (17:Int)∣(R.getD (m.getD j 0) []).getD n 0; rw [c]; exact ⟨0,rfl⟩)
 obtain ⟨c,v,c1,c2,c3,c4,c5⟩:=jlT (w:=op.length) (oD:=(oI op).map vI) (L:=L) (e:=e) (i:=((op.getD n 0:Nat):Int)) (wI:=(op.length:Int)) (a:=a) (b:=b) (O:=O) (n:=n) h.gr h.ml h.mp (by omega) (by omega) (by omega) (N - n) 0 (by omega) ⟨j,by omega,j2,j4⟩
 have hml:=h.ml
 have hcm:c<m.length:=by omega
 have hnm:n<m.length:=by omega
 have hq:m.getD c 0<N:=h.mp.lt _ hcm
 have hql:=h.gr.row _ hq
 have s1:=jmy (w:=op.length) (oD:=(oI op).map vI) (L:=L) (e:=e) (i:=((op.getD n 0:Nat):Int)) (u:=v) (wI:=(op.length:Int)) (nI:=(n:Int)) (a:=a) (b:=b) (O:=O) (m:=swm m c n) h.gr hq (by omega) (by omega) (op.length+1) 0 (by omega)
 rw [jcH] at s1
 have e0:R.set (m.getD c 0) (R.getD (m.getD c 0) [])=R:=by
  apply List.ext_getElem?
  intro z
  rw [List.getElem?_set]
  by_cases hz:m.getD c 0=z
  ·subst hz
   have:m.getD c 0<R.length:=by omega
   rw [if_pos rfl,if_pos this,List.getD_eq_getElem?_getD,List.getElem?_eq_getElem this]; rfl
  ·rw [if_neg hz]
 rw [e0] at s1
 have hm':(swm m c n).length=N:=by rw [jbI,h.ml]
 have hmp':=je2 h.mp hcm hnm
 have hpn:(swm m c n).getD n 0=m.getD c 0:=by rw [y6 hcm hnm,if_pos rfl]
 have hsc:∀ k x,0≤scg v k x∧scg v k x<17:=fun k x=>by unfold scg; omega
 have hPo:okS (prg (scg v) (R.getD (m.getD c 0) []) (op.length+1)):=jeM (h.gr.ok _) hsc _
 have hPl:(prg (scg v) (R.getD (m.getD c 0) []) (op.length+1)).length=op.length+1:=by rw [JY,hql]
 have hmid:MidR (R.set (m.getD c 0) (prg (scg v) (R.getD (m.getD c 0) []) (op.length+1))) (swm m c n) N (op.length+1) n 0 (prg (scg v) (R.getD (m.getD c 0) []) (op.length+1)) (fun j=>R.getD ((swm m c n).getD j 0) []):=by
  refine ⟨h.gr.set hPl hPo,?_,fun j hj=>by omega,?_⟩
  ·rw [hpn,Jo,if_pos ⟨rfl,by omega⟩]
  ·intro j _ hjN hjn
   rw [Jo,if_neg]
   rintro ⟨g,_⟩
   rw [← hpn] at g
   exact hjn (hmp'.inj n j (by omega) (by omega) g).symm
 have hi:op.getD n 0<O.length:=by rw [hO]; exact hp.lt n hn
 obtain ⟨R',hR',s2⟩:=jl2 (w:=op.length) (oD:=(oI op).map vI) (L:=L) (e:=e) (wI:=(op.length:Int)) (a:=a) (b:=b) (O:=O) hm' hmp' (show n<N by omega) (show n<op.length+1 by omega) (by omega) (by omega) hi hO (fun j=>h.gr.ok _) hPo N 0 _ (by omega) hmid
 have hO1:O.set (op.getD n 0) 0=O:=by
  apply qI (by simp)
  intro z hz
  rw [qu]
  by_cases hzz:op.getD n 0=z
  ·subst hzz; rw [if_pos ⟨rfl,hi⟩,hO0]
  ·rw [if_neg (fun g=>hzz g.1)]
 rw [hO1,hpn] at s2
 refine ⟨R',swm m c n,⟨hR'.gr,hm',hmp',?_,?_⟩,?_⟩
 ·have esw:∀ j k,swp (mat fun j=>R.getD (m.getD j 0) []) c n j k=(R.getD ((swm m c n).getD j 0) []).getD k 0:=by
   intro j k
   unfold swp
   rw [y6 hcm hnm]
   by_cases h1:j=n
   ·rw [if_pos h1,if_pos h1]; rfl
   ·rw [if_neg h1,if_neg h1]
    by_cases h2:j=c
    ·rw [if_pos h2,if_pos h2]; rfl
    ·rw [if_neg h2,if_neg h2]; rfl
  have eP:∀ k,k<op.length+1→(17:Int)∣(prg (scg v) (R.getD (m.getD c 0) []) (op.length+1)).getD k 0 - v*(R.getD (m.getD c 0) []).getD k 0:=by
   intro k hk
   rw [kt _ _ _ (by omega),if_pos (by omega)]
   unfold scg
   rw [Int.mul_comm v]
   exact QD _
  refine jfu h.el hn c1 c2 (u:=v) (t:=fun j=>(R.getD ((swm m c n).getD j 0) []).getD n 0*v) ?_ (by omega) ?_ ?_ ?_
  ·show ¬ (17:Int)∣(R.getD (m.getD c 0) []).getD n 0
   intro g
   have:(17:Int)∣(R.getD (m.getD c 0) []).getD n 0*v:=Int.dvd_trans g ⟨v,rfl⟩
   omega
  ·intro k hk
   rw [esw,hpn]
   show (17:Int)∣(R'.getD ((swm m c n).getD n 0) []).getD k 0 - _
   rw [hR'.piv]
   exact eP k hk
  ·intro j hj hjn k hk
   rw [esw,esw,hpn]
   show (17:Int)∣(R'.getD ((swm m c n).getD j 0) []).getD k 0 - _
   rw [hR'.done j hj hjn]
   have hjl:(R.getD ((swm m c n).getD j 0) []).length=op.length+1:=h.gr.row _ (hmp'.lt j (by omega))
   rw [kt _ _ _ (by omega),if_pos (by omega)]
   unfold elg
   have g1:=eP k hk
   have g2:=jbN (a:=(R.getD ((swm m c n).getD j 0) []).getD n 0) (b:=(R.getD ((swm m c n).getD j 0) []).getD n 0) ⟨0,by omega⟩ g1
   rw [← Int.mul_assoc] at g2
   generalize (R.getD ((swm m c n).getD j 0) []).getD n 0*(prg (scg v) (R.getD (m.getD c 0) []) (op.length+1)).getD k 0=y at g2 ⊢
   generalize (R.getD ((swm m c n).getD j 0) []).getD n 0*v*(R.getD (m.getD c 0) []).getD k 0=z at g2 ⊢
   omega
  ·intro j hj hjn
   rw [esw,esw,hpn]
   have g2:(17:Int)∣v*(R.getD (m.getD c 0) []).getD n 0 - 1:=by rw [Int.mul_comm]; omega
   have g3:=jbN (a:=(R.getD ((swm m c n).getD j 0) []).getD n 0) (b:=(R.getD ((swm m c n).getD j 0) []).getD n 0) ⟨0,by omega⟩ g2
   rw [← Int.mul_assoc,Int.mul_one] at g3
   exact je9 g3
 ·intro k hk
  by_cases hkn:k=n
  ·subst hkn
   rw [hR'.piv,kt _ _ _ (by omega),if_pos (by omega)]
   unfold scg
   omega
  ·rw [hR'.done k (by omega) hkn]
   have hkl:(R.getD ((swm m c n).getD k 0) []).length=op.length+1:=h.gr.row _ (hmp'.lt k (by omega))
   rw [kt _ _ _ (by omega),if_pos (by omega)]
   unfold elg
   have g1:(swm m c n).getD k 0=m.getD k 0:=by rw [y6 hcm hnm,if_neg hkn,if_neg (by omega)]
   rw [g1]
   have g2:=h.one k (by omega)
   have g3:(17:Int)∣(R.getD (m.getD c 0) []).getD k 0:=h.el.1.1 c k c2 (by omega) (by omega)
   have g4:(17:Int)∣(prg (scg v) (R.getD (m.getD c 0) []) (op.length+1)).getD k 0:=by
    rw [kt _ _ _ (by omega),if_pos (by omega)]
    unfold scg
    have:(17:Int)∣(R.getD (m.getD c 0) []).getD k 0*v:=Int.dvd_trans g3 ⟨v,rfl⟩
    omega
   have g5:(17:Int)∣(R.getD (m.getD k 0) []).getD n 0*(prg (scg v) (R.getD (m.getD c 0) []) (op.length+1)).getD k 0:=Int.dvd_trans g4 ⟨_,Int.mul_comm _ _⟩
   omega
 ·refine Eq.trans ?_ (c5.trans (s1.trans s2))
  rw [jd]
  have a1:=jL (l:=oI op) (i:=n) (by rw [Ju]; exact hn)
  rw [JJ] at a1
  have h1:(n:Int)<(op.length:Int):=by omega
  have h2:0≤(n:Int):=by omega
  have h3:n≤(oI op).length:=by rw [Ju]; omega
  have h4:(n:Int)<(N:Int):=by omega
  simp only [B93,jg,h1,decide_true,if_true,jf,PC.holds,h2,je,Int.toNat_natCast,Nat.mul_one,Nat.zero_add,List.length_map,h3,jo,JJ,a1,h4,jq,ji,jb]
  rfl
theorem jjI {oD:List DV} {L e N:Nat} {a b:Int} {O:List Int} {op:List Nat} {Z:List Int} (hD:oD=(oI op).map vI) (hN:op.length≤N) (hN2:N≤16) (hp:Places op L) (hL:L≤16) (hO:O.length=L) (hO0:∀ n,n<op.length→O.getD (op.getD n 0) 0=0) :
  ∀ (d n:Nat) (m:List Nat) (R:List (List Int)),op.length=n+d→Col op Z N R m n →
  ∃ R' m',Col op Z N R' m' op.length∧res B93 (.c12 op.length oD L e N (op.length:Int) (n:Int) a b (O.map aI) e m (RD R))=res B93 (.c15 op.length oD L e N (op.length:Int) 0 a b (O.map aI) e m' (RD R')):=by
 intro d
 induction d with
 | zero =>
  intro n m R hn h
  have hn:n=op.length:=by omega
  subst hn
  refine ⟨R,m,h,?_⟩
  have h1:¬ ((op.length:Int)<(op.length:Int)):=by omega
  rw [jd]
  simp only [B93,jg,h1,decide_false,Bool.false_eq_true,if_false,jf,PC.holds,je,jq,ji,jb]
 | succ d ih =>
  intro n m R hn h
  obtain ⟨R1,m1,g1,g2⟩:=jmT (oD:=oD) (L:=L) (e:=e) (a:=a) (b:=b) (O:=O) h hD hN hN2 (by omega) hp hL hO (hO0 n (by omega))
  obtain ⟨R',m',g3,g4⟩:=ih (n+1) m1 R1 (by omega) g1
  exact ⟨R',m',g3,g2.trans g4⟩
theorem jns {oD:List DV} {e N:Nat} {a:Int} {op:List Nat} {Z:List Int} {m:List Nat} {R:List (List Int)} (h:Col op Z N R m op.length) (hD:oD=(oI op).map vI) (hN:op.length≤N) (hN2:N≤16) {O:List Int} (hp:Places op O.length) (hL:O.length≤16) (hO:okS O) :
  ∀ (d k:Nat),op.length=k+d→res B93 (.c15 op.length oD O.length e N (op.length:Int) (k:Int) a (N:Int) ((put O op (fun k=>(R.getD (m.getD k 0) []).getD op.length 0) k).map aI) e m (RD R)) =
   some (O.length,(put O op (fun k=>(R.getD (m.getD k 0) []).getD op.length 0) op.length).map vI,isW (put O op (fun k=>(R.getD (m.getD k 0) []).getD op.length 0) op.length) N):=by
 subst hD
 have hlen:=h.gr.len
 have hml:=h.ml
 intro d
 induction d with
 | zero =>
  intro k hk
  have hk:k=op.length:=by omega
  subst hk
  have h1:¬ ((op.length:Int)<(op.length:Int)):=by omega
  have hl:=ky O op (fun k=>(R.getD (m.getD k 0) []).getD op.length 0) op.length
  have hok:okS (put O op (fun k=>(R.getD (m.getD k 0) []).getD op.length 0) op.length):=jbk hO fun k _=>kg (h.gr.ok _) _
  generalize put O op (fun k=>(R.getD (m.getD k 0) []).getD op.length 0) op.length=U at hl hok ⊢
  have ht:List.take O.length (List.drop 0 (U.map aI))=U.map aI:=by rw [List.drop_zero,List.take_of_length_le (by simp [hl])]
  have h81:=Yc a (k:=N) (l:=U) (by omega) (by omega) hok
  rw [hl] at h81
  have hle:O.length≤(U.map aI).length:=by simp [hl]
  rw [jd]
  simp only [B93,jg,h1,decide_false,Bool.false_eq_true,if_false,Nat.mul_one,Nat.zero_add,ht,Yp,KK,h81,ja,jj,jf,PC.holds,hle,je,jl,jk]
 | succ d ih =>
  intro k hk
  have ih:=ih (k+1) (by omega)
  have hl:=ky O op (fun k=>(R.getD (m.getD k 0) []).getD op.length 0) k
  rw [← ih,put,jd]
  generalize put O op (fun k=>(R.getD (m.getD k 0) []).getD op.length 0) k=U at hl ⊢
  have a1:=jL (l:=oI op) (i:=k) (by rw [Ju]; omega)
  rw [JJ] at a1
  have hq:m.getD k 0<N:=h.mp.lt _ (by omega)
  have hql:=h.gr.row _ hq
  have a2:=at0 (r:=R.getD (m.getD k 0) []) (i:=op.length) (by omega)
  have hop:=hp.lt k (by omega)
  have hop2:op.getD k 0<U.length:=by omega
  have h1:(k:Int)<(op.length:Int):=by omega
  have h2:0≤(k:Int):=by omega
  have h3:k≤(oI op).length:=by rw [Ju]; omega
  have h4:(k:Int)<(N:Int):=by omega
  have h5:k<m.length:=by omega
  have h6:0≤(op.length:Int):=by omega
  have h7:(op.length:Int)<((op.length+1:Nat):Int):=by omega
  have h8:m.getD k 0<R.length:=by omega
  have h9:0≤((op.getD k 0:Nat):Int):=by omega
  have h10:((op.getD k 0:Nat):Int)<(O.length:Int):=by omega
  have h11:op.getD k 0+1≤U.length:=by omega
  have h12:jc ((k:Int)+1):=by unfold jc; omega
  simp only [B93,jg,h1,decide_true,if_true,jf,PC.holds,h2,je,Int.toNat_natCast,Nat.mul_one,Nat.zero_add,List.length_map,h3,jo,JJ,a1,h4,h5,h6,jaU,qZ,hql,h7,h8,a2,h9,h10,h11,jG,jef _ hop2,h12,jq,ji,jb]
  rw [show (k:Int)+1=((k+1:Nat):Int) by omega]
end
section
open Go Go.RowKit
def rwp (op:List Nat) (j t:Nat):List Int:=(op.take t).map fun i=>pw (i*(j+1))
theorem qd (op:List Nat) (j:Nat) {t:Nat} (ht:t≤op.length):(rwp op j t).length=t:=by unfold rwp; simp; omega
theorem kF (op:List Nat) (j:Nat) {t:Nat} (ht:t<op.length):rwp op j (t+1)=rwp op j t++[pw (op.getD t 0*(j+1))]:=by
 unfold rwp
 rw [List.take_succ,List.map_append]
 congr 1
 rw [List.getElem?_eq_getElem ht]
 simp [List.getD_eq_getElem?_getD,ht]
theorem jm4 (op:List Nat) (j:Nat):rwp op j op.length=op.map fun i=>pw (i*(j+1)):=by unfold rwp; rw [List.take_length]
theorem jlR {A:List Int} {t:Nat} (h:A.length=t) (v:Int):List.take t (A.map aI)++List.map AV.d [DV.v (Value.int IntKind.i64 v)]=(A++[v]).map aI:=by
 rw [List.take_of_length_le (by simp; omega)]; simp
theorem Y4 {A:List Int} {t:Nat} (h:A.length≤t):List.take t (A.map aI)=A.map aI:=List.take_of_length_le (by simp; omega)
theorem jnm (l:List Int) (N j:Nat) (hj:j<N) (v:Int) (hv:v=syn l (j+1)):(jV l j++List.replicate (N - j) 0).set j v=jV l (j+1)++List.replicate (N - (j+1)) 0:=by
 subst hv
 have hl2:=JT l j
 rw [List.set_append_right _ _ (by omega),hl2,Nat.sub_self,show N - j=(N - (j+1))+1 by omega,List.replicate_succ,List.set_cons_zero]
 unfold jV
 rw [List.range_succ,List.map_append]
 simp [syn]
theorem jqt (l:List Int) (N j:Nat) {w:Nat} {oD:List DV} {a b:Int} (hl:l.length≤300) (hk:j<N) (hk2:N≤16) (hs:okS l):∀ (xs:List Int) (i:Nat) (A:List Int),l.drop i=xs→i≤l.length→A.length=N→0≤A.getD j 0∧A.getD j 0<17 →
  res B93 (.c3 l.length N (j:Int) (N:Int) (l.length:Int) (i:Int) w oD a b (l.map aI) (A.map aI))=res B93 (.c2 l.length N (N:Int) ((j+1:Nat):Int) w oD a b (l.map aI) ((A.set j (QB xs (j+1) i (A.getD j 0))).map aI)):=by
 intro xs
 induction xs with
 | nil =>
  intro i A hd hi hA hb
  have hi2:i=l.length:=by
   have:=congrArg List.length hd
   simp at this; omega
  rw [jd]
  have h1:¬ ((i:Int)<(l.length:Int)):=by omega
  have h2:jc ((j:Int)+1):=by unfold jc; omega
  have e:A.set j (A.getD j 0)=A:=by
   apply List.ext_getElem?
   intro q
   rw [List.getElem?_set]
   by_cases hq:j=q
   ·subst hq
    have:j<A.length:=by omega
    simp [this,List.getD_eq_getElem?_getD]
   ·simp [hq]
  simp only [B93,jg,h1,decide_false,Bool.false_eq_true,if_false,jf,je,PC.holds,h2,if_true,jq,ji,jb,QB,e]
  rw [show (j:Int)+1=((j+1:Nat):Int) by omega]
 | cons x xs ih =>
  intro i A hd hi hA hb
  have hi2:i<l.length:=by
   apply Classical.byContradiction
   intro h
   rw [List.drop_eq_nil_of_le (by omega)] at hd
   simp at hd
  have hx:l.getD i 0=x∧l.drop (i+1)=xs:=by
   rw [K5 0 hi2] at hd
   simpa using hd
  have hxs:0≤x∧x<17:=by
   refine hs x ?_
   have:x ∈ l.drop i:=by rw [hd]; simp
   exact List.mem_of_mem_drop this
  have hjA:j<A.length:=by omega
  have hpw:=Za (i*(j+1))
  have hij:i*(j+1)≤300*17:=Nat.mul_le_mul (by omega) (by omega)
  have eij:(i:Int)*((j:Int)+1)=((i*(j+1):Nat):Int):=by simp
  have hmul:0≤x*pw (i*(j+1))∧x*pw (i*(j+1))≤17*16:=by
   constructor
   ·exact Int.mul_nonneg hxs.1 (by omega)
   ·exact Int.mul_le_mul (by omega) hpw.2 (by omega) (by omega)
  have ih':=ih (i+1) (A.set j ((A.getD j 0+x*pw (i*(j+1))) % 17)) hx.2 (by omega) (by simpa using hA) (by
   rw [List.getD_eq_getElem?_getD,List.getElem?_set_self hjA]
   simp only [Option.getD_some]; omega)
  rw [List.set_set] at ih'
  have eg:(A.set j ((A.getD j 0+x*pw (i*(j+1))) % 17)).getD j 0=(A.getD j 0+x*pw (i*(j+1))) % 17:=by
   rw [List.getD_eq_getElem?_getD,List.getElem?_set_self hjA]; rfl
  rw [eg] at ih'
  rw [QB,← ih',jd]
  have h1:(i:Int)<(l.length:Int):=by omega
  have h2:jc ((j:Int)+1):=by unfold jc; omega
  have h3:jc ((i:Int)+1):=by unfold jc; omega
  have h4:0≤(i:Int):=by omega
  have h6:jc ((i*(j+1):Nat):Int):=by unfold jc; omega
  have h7:jc (x*pw (i*(j+1))):=by unfold jc; omega
  have h8:jc (A.getD j 0+x*pw (i*(j+1))):=by unfold jc; omega
  have h9:0≤(j:Int):=by omega
  have h10:(j:Int)<(N:Int):=by omega
  have h11:j+1≤A.length:=by omega
  have g1:=atA hi2
  rw [hx.1] at g1
  have g2:dI (jy (l.map aI) i)=x:=by rw [ZU,hx.1]
  have g3:=atA hjA
  simp only [B93,jg,h1,decide_true,if_true,jf,je,PC.holds,h2,h3,h4,Int.toNat_natCast,Nat.mul_one,Nat.zero_add,g1,g2,eij,KH,ja,ZU,hx.1,Kk,h6,h7,h8,h9,h10,g3,jj,jG,jef _ hjA,List.length_map,h11,jq,ji,jb]
  rw [show (i:Int)+1=((i+1:Nat):Int) by omega]
theorem jp6 (l:List Int) (N:Nat) {w:Nat} {oD:List DV} {a b:Int} (hl:l.length≤300) (hk:N≤16) (hs:okS l):∀ (m j:Nat),N=j+m →
  res B93 (.c2 l.length N (N:Int) (j:Int) w oD a b (l.map aI) ((jV l j++List.replicate m 0).map aI))=res B93 (.c4 w oD l.length N (N:Int) 0 a b (l.map aI) ((jV l N).map aI)):=by
 intro m
 induction m with
 | zero =>
  intro j hj
  have:j=N:=by omega
  subst this
  rw [jd]
  have h1:¬ ((j:Int)<(j:Int)):=by omega
  simp only [List.replicate_zero,List.append_nil,B93,jg,h1,decide_false,Bool.false_eq_true,if_false,jf,je,PC.holds,jq,ji,jb]
 | succ m ih =>
  intro j hj
  have hl2:=JT l j
  rw [jd]
  have h1:(j:Int)<(N:Int):=by omega
  simp only [B93,jg,h1,decide_true,if_true,jf,je,PC.holds,jq,ji,jb]
  have hj0:(jV l j++List.replicate (m+1) 0).getD j 0=0:=by
   rw [List.getD_eq_getElem?_getD,List.getElem?_append_right (by omega),hl2]
   simp
  have hin:=jqt l N j (w:=w) (oD:=oD) (a:=a) (b:=b) hl (by omega) hk hs l 0 (jV l j++List.replicate (m+1) 0) (by simp) (by omega) (by simp [hl2]; omega) (by rw [hj0]; omega)
  refine hin.trans ?_
  rw [hj0]
  have e:(jV l j++List.replicate (m+1) 0).set j (QB l (j+1) 0 0)=jV l (j+1)++List.replicate m 0:=by
   have:=jnm l N j (by omega) (QB l (j+1) 0 0) rfl
   rw [show N - j=m+1 by omega,show N - (j+1)=m by omega] at this
   exact this
  rw [e]
  exact ih (j+1) (by omega)
def rws (op:List Nat) (Z:List Int) (k:Nat):List (List Int):=(List.range k).map (kE op Z)
theorem zx (op:List Nat) (Z:List Int) (k:Nat):(rws op Z k).length=k:=by unfold rws; simp
theorem jdi (op:List Nat) (Z:List Int) (k:Nat):rws op Z (k+1)=rws op Z k++[kE op Z k]:=by
 unfold rws; rw [List.range_succ,List.map_append]; rfl
theorem Zs (op:List Nat) (Z:List Int) {k p:Nat} (hp:p<k):(rws op Z k).getD p []=kE op Z p:=by
 unfold rws
 simp [List.getD_eq_getElem?_getD,hp]
theorem qb (l:List Int) {N k:Nat} (hk:k<N):(jV l N).getD k 0=syn l (k+1):=by
 unfold jV
 simp [List.getD_eq_getElem?_getD,hk]
theorem jlQ {oD:List DV} {op:List Nat} {L N e k:Nat} {a b s:Int} {Z S:List Int} {m:List Nat} {R:List (List Int)} (hD:oD=(oI op).map vI) (hp:Places op 16) (hw:op.length≤16) (hk:k≤16) (hs:0≤s∧s<17) (hcn:m.length≤16) :
  ∀ (d t:Nat),op.length=t+d→res B93 (.c16 t t op.length oD (op.length:Int) (t:Int) L e m.length s N (N:Int) (k:Int) a b (Z.map aI) (S.map aI) e m (RD R) ((rwp op k t).map aI)) =
   res B93 (.c8 op.length oD L (e+1) (m.length+1) N (N:Int) ((k+1:Nat):Int) a b (Z.map aI) (S.map aI) (e+1) (m++[R.length]) (RD (R++[rwp op k op.length++[(-s) % 17]]))):=by
 subst hD
 intro d
 induction d with
 | zero =>
  intro t ht
  have ht:t=op.length:=by omega
  subst ht
  have h1:¬ ((op.length:Int)<(op.length:Int)):=by omega
  have h2:jc (-s):=by unfold jc; omega
  have hl:=qd op k (Nat.le_refl op.length)
  generalize rwp op k op.length=A at hl ⊢
  have h3:op.length≤A.length:=by omega
  have h4:jc ((k:Int)+1):=by unfold jc; omega
  have ha:=jlR hl ((-s) % 17)
  have hl2:(A++[(-s) % 17]).length≤op.length+1:=by simp; omega
  have h5:op.length+1≤(A++[(-s) % 17]).length:=by simp; omega
  rw [jd]
  simp only [B93,jg,h1,decide_false,Bool.false_eq_true,if_false,jf,PC.holds,h2,je,Kk,ja,jj,Nat.mul_one,List.length_map,h3,ha,Y4 hl2,KK,Yp,h5,h4,jM,jq,ji,jb,je5,qZ]
  rw [jn (by first | omega | (unfold Jg; omega)),jn (by first | omega | (unfold Jg; omega)),jb,show (k:Int)+1=((k+1:Nat):Int) by omega]
 | succ d ih =>
  intro t ht
  have ih:=ih (t+1) (by omega)
  rw [kF op k (by omega)] at ih
  have hl:=qd op k (show t≤op.length by omega)
  rw [← ih,jd]
  generalize rwp op k t=A at hl ⊢
  have a1:=jL (l:=oI op) (i:=t) (by rw [Ju]; omega)
  rw [JJ] at a1
  have hop:=hp.lt t (by omega)
  have h1:(t:Int)<(op.length:Int):=by omega
  have h2:0≤(t:Int):=by omega
  have h3:t≤(oI op).length:=by rw [Ju]; omega
  have h4:jc ((k:Int)+1):=by unfold jc; omega
  have e1:((op.getD t 0:Nat):Int)*((k:Int)+1)=((op.getD t 0*(k+1):Nat):Int):=by simp
  have hm:op.getD t 0*(k+1)≤16*17:=Nat.mul_le_mul (by omega) (by omega)
  have h5:jc ((op.getD t 0*(k+1):Nat):Int):=by unfold jc; omega
  have h6:t≤A.length:=by omega
  have h7:jc ((t:Int)+1):=by unfold jc; omega
  have ha:=jlR hl (pw (op.getD t 0*(k+1)))
  simp only [B93,jg,h1,decide_true,if_true,jf,PC.holds,h2,je,Int.toNat_natCast,Nat.mul_one,List.length_map,h3,jo,JJ,a1,h4,e1,h5,KH,ja,jj,h6,h7,ha,jM,jq,ji,jb]
  rw [jn (by first | omega | (unfold Jg; omega)),jb,show (t:Int)+1=((t+1:Nat):Int) by omega]
theorem jm3 {oD:List DV} {op:List Nat} {L N e k:Nat} {a b s:Int} {Z S:List Int} {m:List Nat} {R:List (List Int)} (hD:oD=(oI op).map vI) (hp:Places op 16) (hw:op.length≤16) (hk:k≤16) (hs:0≤s∧s<17) (hcn:m.length≤16) :
  res B93 (.c11 op.length oD (op.length:Int) 0 L e m.length s N (N:Int) (k:Int) a b (Z.map aI) (S.map aI) e m (RD R)) =
   res B93 (.c8 op.length oD L (e+1) (m.length+1) N (N:Int) ((k+1:Nat):Int) a b (Z.map aI) (S.map aI) (e+1) (m++[R.length]) (RD (R++[rwp op k op.length++[(-s) % 17]]))):=by
 by_cases h0:op.length=0
 ·have h1:¬ ((0:Int)<(op.length:Int)):=by omega
  have h2:jc (-s):=by unfold jc; omega
  have h4:jc ((k:Int)+1):=by unfold jc; omega
  have hn:op=[]:=List.eq_nil_of_length_eq_zero h0
  rw [jd]
  simp only [B93,jg,h1,decide_false,Bool.false_eq_true,if_false,jf,PC.holds,h2,je,Kk,ja,jj,jG,h4,jq,ji,jb,qZ]
  rw [jn (by first | omega | (unfold Jg; omega)),jb,show (k:Int)+1=((k+1:Nat):Int) by omega]
  have e:RD R++[List.map aD (List.take 1 [AV.d (DV.v (Value.int IntKind.i64 ((-s) % 17)))])]=RD (R++[rwp op k op.length++[(-s) % 17]]):=by
   subst hn
   exact je5 R [(-s) % 17]
  rw [e]
 ·have hc:=jlQ (oD:=oD) (L:=L) (N:=N) (e:=e) (k:=k) (a:=a) (b:=b) (s:=s) (Z:=Z) (S:=S) (m:=m) (R:=R) hD hp hw hk hs hcn
  subst hD
  have a1:=jL (l:=oI op) (i:=0) (by rw [Ju]; omega)
  rw [JJ] at a1
  have hop:=hp.lt 0 (by omega)
  have h1:(0:Int)<(op.length:Int):=by omega
  have h2:(0:Int)≤0:=by omega
  have h3:0≤(oI op).length:=by omega
  have h4:jc ((k:Int)+1):=by unfold jc; omega
  have e1:((op.getD 0 0:Nat):Int)*((k:Int)+1)=((op.getD 0 0*(k+1):Nat):Int):=by simp
  have hm:op.getD 0 0*(k+1)≤16*17:=Nat.mul_le_mul (by omega) (by omega)
  have h5:jc ((op.getD 0 0*(k+1):Nat):Int):=by unfold jc; omega
  have h7:jc ((0:Int)+1):=by unfold jc; omega
  rw [jd]
  simp only [B93,jg,h1,decide_true,if_true,jf,PC.holds,h2,je,Int.toNat_zero,Nat.mul_one,List.length_map,h3,jo,JJ,a1,h4,e1,h5,KH,ja,jj,h7,jM,jq,ji,jb]
  have hr1:rwp op k 1=[pw (op.getD 0 0*(k+1))]:=kF op k (by omega)
  by_cases h1w:op.length=1
  ·have h1':¬ ((1:Int)<(op.length:Int)):=by omega
   have h2':jc (-s):=by unfold jc; omega
   have hrw:rwp op k op.length=[pw (op.getD 0 0*(k+1))]:=by rw [h1w]; exact hr1
   have ha:List.take 1 [AV.d (DV.v (Value.int IntKind.i64 (pw (op.getD 0 0*(k+1)))))]++List.map AV.d [DV.v (Value.int IntKind.i64 ((-s) % 17))]=[pw (op.getD 0 0*(k+1)),(-s) % 17].map aI:=rfl
   have hl2:[pw (op.getD 0 0*(k+1)),(-s) % 17].length≤1+1:=by simp
   have h5':1+1≤[pw (op.getD 0 0*(k+1)),(-s) % 17].length:=by simp
   rw [jd]
   simp only [Int.zero_add,B93,jg,h1',decide_false,Bool.false_eq_true,if_false,jf,PC.holds,h2',je,Kk,ja,jj,Nat.mul_one,Nat.le_refl,ha,List.length_map,Y4 hl2,KK,Yp,h5',h4,jM,jq,ji,jb,je5,qZ,hrw]
   rw [jn (by first | omega | (unfold Jg; omega)),jn (by first | omega | (unfold Jg; omega)),jb,show (k:Int)+1=((k+1:Nat):Int) by omega]
   rfl
  ·have hc2:=hc (op.length - 2) 2 (by omega)
   rw [← hc2]
   have a1:=jL (l:=oI op) (i:=1) (by rw [Ju]; omega)
   rw [JJ] at a1
   have hop:=hp.lt 1 (by omega)
   have h1:(1:Int)<(op.length:Int):=by omega
   have h2:(0:Int)≤1:=by omega
   have h3:1≤(oI op).length:=by rw [Ju]; omega
   have e1:((op.getD 1 0:Nat):Int)*((k:Int)+1)=((op.getD 1 0*(k+1):Nat):Int):=by simp
   have hm:op.getD 1 0*(k+1)≤16*17:=Nat.mul_le_mul (by omega) (by omega)
   have h5:jc ((op.getD 1 0*(k+1):Nat):Int):=by unfold jc; omega
   have h7:jc ((1:Int)+1):=by unfold jc; omega
   have hr2:rwp op k 2=[pw (op.getD 0 0*(k+1)),pw (op.getD 1 0*(k+1))]:=by rw [kF op k (show 1<op.length by omega),hr1]; rfl
   have ha:List.take 1 [AV.d (DV.v (Value.int IntKind.i64 (pw (op.getD 0 0*(k+1)))))]++List.map AV.d [DV.v (Value.int IntKind.i64 (pw (op.getD 1 0*(k+1))))]=(rwp op k 2).map aI:=by rw [hr2]; rfl
   have ht1:(1:Int).toNat=1:=rfl
   rw [jd]
   simp only [Int.zero_add,B93,jg,h1,decide_true,if_true,jf,PC.holds,h2,je,ht1,Nat.mul_one,List.length_map,h3,jo,JJ,a1,h4,e1,h5,KH,ja,jj,Nat.le_refl,h7,ha,jM,jq,ji,jb]
   rw [jn (by first | omega | (unfold Jg; omega)),jb]
   rfl
theorem jml {oD:List DV} {op:List Nat} {L N k:Nat} {a b s:Int} {Z S:List Int} (hD:oD=(oI op).map vI) (hp:Places op 16) (hw:op.length≤16) (hk:k≤16) (hs:0≤s∧s<17) :
  ∀ (d t:Nat),op.length=t+d→res B93 (.c10 t t op.length oD (op.length:Int) (t:Int) L s N (N:Int) (k:Int) a b (Z.map aI) (S.map aI) ((rwp op k t).map aI)) =
   res B93 (.c8 op.length oD L 0 1 N (N:Int) ((k+1:Nat):Int) a b (Z.map aI) (S.map aI) 0 [0] (RD [rwp op k op.length++[(-s) % 17]])):=by
 subst hD
 intro d
 induction d with
 | zero =>
  intro t ht
  have ht:t=op.length:=by omega
  subst ht
  have h1:¬ ((op.length:Int)<(op.length:Int)):=by omega
  have h2:jc (-s):=by unfold jc; omega
  have hl:=qd op k (Nat.le_refl op.length)
  generalize rwp op k op.length=A at hl ⊢
  have h3:op.length≤A.length:=by omega
  have h4:jc ((k:Int)+1):=by unfold jc; omega
  have ha:=jlR hl ((-s) % 17)
  have hl2:(A++[(-s) % 17]).length≤op.length+1:=by simp; omega
  have h5:op.length+1≤(A++[(-s) % 17]).length:=by simp; omega
  rw [jd]
  simp only [B93,jg,h1,decide_false,Bool.false_eq_true,if_false,jf,PC.holds,h2,je,Kk,ja,jj,Nat.mul_one,List.length_map,h3,ha,Y4 hl2,KK,Yp,h5,h4,jM,jq,ji,jb]
  rw [jn (by first | omega | (unfold Jg; omega)),jb,show (k:Int)+1=((k+1:Nat):Int) by omega]
  rfl
 | succ d ih =>
  intro t ht
  have ih:=ih (t+1) (by omega)
  rw [kF op k (by omega)] at ih
  have hl:=qd op k (show t≤op.length by omega)
  rw [← ih,jd]
  generalize rwp op k t=A at hl ⊢
  have a1:=jL (l:=oI op) (i:=t) (by rw [Ju]; omega)
  rw [JJ] at a1
  have hop:=hp.lt t (by omega)
  have h1:(t:Int)<(op.length:Int):=by omega
  have h2:0≤(t:Int):=by omega
  have h3:t≤(oI op).length:=by rw [Ju]; omega
  have h4:jc ((k:Int)+1):=by unfold jc; omega
  have e1:((op.getD t 0:Nat):Int)*((k:Int)+1)=((op.getD t 0*(k+1):Nat):Int):=by simp
  have hm:op.getD t 0*(k+1)≤16*17:=Nat.mul_le_mul (by omega) (by omega)
  have h5:jc ((op.getD t 0*(k+1):Nat):Int):=by unfold jc; omega
  have h6:t≤A.length:=by omega
  have h7:jc ((t:Int)+1):=by unfold jc; omega
  have ha:=jlR hl (pw (op.getD t 0*(k+1)))
  simp only [B93,jg,h1,decide_true,if_true,jf,PC.holds,h2,je,Int.toNat_natCast,Nat.mul_one,List.length_map,h3,jo,JJ,a1,h4,e1,h5,KH,ja,jj,h6,h7,ha,jM,jq,ji,jb]
  rw [jn (by first | omega | (unfold Jg; omega)),jb,show (t:Int)+1=((t+1:Nat):Int) by omega]
theorem jqE {oD:List DV} {op:List Nat} {L N k:Nat} {a b s:Int} {Z S:List Int} (hD:oD=(oI op).map vI) (hp:Places op 16) (hw:op.length≤16) (hk:k≤16) (hs:0≤s∧s<17) :
  res B93 (.c5 op.length oD (op.length:Int) 0 L s N (N:Int) (k:Int) a b (Z.map aI) (S.map aI)) =
   res B93 (.c8 op.length oD L 0 1 N (N:Int) ((k+1:Nat):Int) a b (Z.map aI) (S.map aI) 0 [0] (RD [rwp op k op.length++[(-s) % 17]])):=by
 by_cases h0:op.length=0
 ·have h1:¬ ((0:Int)<(op.length:Int)):=by omega
  have h2:jc (-s):=by unfold jc; omega
  have h4:jc ((k:Int)+1):=by unfold jc; omega
  have hn:op=[]:=List.eq_nil_of_length_eq_zero h0
  rw [jd]
  simp only [B93,jg,h1,decide_false,Bool.false_eq_true,if_false,jf,PC.holds,h2,je,Kk,ja,jj,jG,h4,jM,jq,ji,jb]
  rw [show (k:Int)+1=((k+1:Nat):Int) by omega]
  subst hn
  rfl
 ·have hc:=jml (oD:=oD) (L:=L) (N:=N) (k:=k) (a:=a) (b:=b) (s:=s) (Z:=Z) (S:=S) hD hp hw hk hs
  subst hD
  have a1:=jL (l:=oI op) (i:=0) (by rw [Ju]; omega)
  rw [JJ] at a1
  have hop:=hp.lt 0 (by omega)
  have h1:(0:Int)<(op.length:Int):=by omega
  have h2:(0:Int)≤0:=by omega
  have h3:0≤(oI op).length:=by omega
  have h4:jc ((k:Int)+1):=by unfold jc; omega
  have e1:((op.getD 0 0:Nat):Int)*((k:Int)+1)=((op.getD 0 0*(k+1):Nat):Int):=by simp
  have hm:op.getD 0 0*(k+1)≤16*17:=Nat.mul_le_mul (by omega) (by omega)
  have h5:jc ((op.getD 0 0*(k+1):Nat):Int):=by unfold jc; omega
  have h7:jc ((0:Int)+1):=by unfold jc; omega
  rw [jd]
  simp only [B93,jg,h1,decide_true,if_true,jf,PC.holds,h2,je,Int.toNat_zero,Nat.mul_one,List.length_map,h3,jo,JJ,a1,h4,e1,h5,KH,ja,jj,h7,jM,jq,ji,jb]
  have hr1:rwp op k 1=[pw (op.getD 0 0*(k+1))]:=kF op k (by omega)
  by_cases h1w:op.length=1
  ·have h1':¬ ((1:Int)<(op.length:Int)):=by omega
   have h2':jc (-s):=by unfold jc; omega
   have hrw:rwp op k op.length=[pw (op.getD 0 0*(k+1))]:=by rw [h1w]; exact hr1
   have ha:List.take 1 [AV.d (DV.v (Value.int IntKind.i64 (pw (op.getD 0 0*(k+1)))))]++List.map AV.d [DV.v (Value.int IntKind.i64 ((-s) % 17))]=[pw (op.getD 0 0*(k+1)),(-s) % 17].map aI:=rfl
   have hl2:[pw (op.getD 0 0*(k+1)),(-s) % 17].length≤1+1:=by simp
   have h5':1+1≤[pw (op.getD 0 0*(k+1)),(-s) % 17].length:=by simp
   rw [jd]
   simp only [Int.zero_add,B93,jg,h1',decide_false,Bool.false_eq_true,if_false,jf,PC.holds,h2',je,Kk,ja,jj,Nat.mul_one,Nat.le_refl,ha,List.length_map,Y4 hl2,KK,Yp,h5',h4,jM,jq,ji,jb,hrw]
   rw [jn (by first | omega | (unfold Jg; omega)),jb,show (k:Int)+1=((k+1:Nat):Int) by omega]
   rfl
  ·have hc2:=hc (op.length - 2) 2 (by omega)
   rw [← hc2]
   have a1:=jL (l:=oI op) (i:=1) (by rw [Ju]; omega)
   rw [JJ] at a1
   have hop:=hp.lt 1 (by omega)
   have h1:(1:Int)<(op.length:Int):=by omega
   have h2:(0:Int)≤1:=by omega
   have h3:1≤(oI op).length:=by rw [Ju]; omega
   have e1:((op.getD 1 0:Nat):Int)*((k:Int)+1)=((op.getD 1 0*(k+1):Nat):Int):=by simp
   have hm:op.getD 1 0*(k+1)≤16*17:=Nat.mul_le_mul (by omega) (by omega)
   have h5:jc ((op.getD 1 0*(k+1):Nat):Int):=by unfold jc; omega
   have h7:jc ((1:Int)+1):=by unfold jc; omega
   have hr2:rwp op k 2=[pw (op.getD 0 0*(k+1)),pw (op.getD 1 0*(k+1))]:=by rw [kF op k (show 1<op.length by omega),hr1]; rfl
   have ha:List.take 1 [AV.d (DV.v (Value.int IntKind.i64 (pw (op.getD 0 0*(k+1)))))]++List.map AV.d [DV.v (Value.int IntKind.i64 (pw (op.getD 1 0*(k+1))))]=(rwp op k 2).map aI:=by rw [hr2]; rfl
   have ht1:(1:Int).toNat=1:=rfl
   rw [jd]
   simp only [Int.zero_add,B93,jg,h1,decide_true,if_true,jf,PC.holds,h2,je,ht1,Nat.mul_one,List.length_map,h3,jo,JJ,a1,h4,e1,h5,KH,ja,jj,Nat.le_refl,h7,ha,jM,jq,ji,jb]
   rw [jn (by first | omega | (unfold Jg; omega)),jb]
   rfl
theorem Z7 (op:List Nat) (Z:List Int) (k:Nat):rwp op k op.length++[(-(syn Z (k+1))) % 17]=kE op Z k:=by rw [jm4]; rfl
theorem jp0 {oD:List DV} {op:List Nat} {L N:Nat} {a b:Int} {Z:List Int} (hD:oD=(oI op).map vI) (hp:Places op 16) (hw:op.length≤16) (hN:N≤16) :
  ∀ (d k:Nat),N=k+1+d→∃ e,res B93 (.c8 op.length oD L k (k+1) N (N:Int) ((k+1:Nat):Int) a b (Z.map aI) ((jV Z N).map aI) k (List.range (k+1)) (RD (rws op Z (k+1)))) =
   res B93 (.c12 op.length oD L e N (op.length:Int) 0 a b (Z.map aI) e (List.range N) (RD (rws op Z N))):=by
 intro d
 induction d with
 | zero =>
  intro k hk
  have hk:N=k+1:=by omega
  subst hk
  refine ⟨k,?_⟩
  have h1:¬ (((k+1:Nat):Int)<((k+1:Nat):Int)):=by omega
  rw [jd]
  simp only [B93,jg,h1,decide_false,Bool.false_eq_true,if_false,jf,PC.holds,je,jM,jq,ji,jb]
 | succ d ih =>
  intro k hk
  obtain ⟨e,ih⟩:=ih (k+1) (by omega)
  refine ⟨e,?_⟩
  rw [← ih]
  have hb:=Zi Z (k+1+1)
  have hc:=jm3 (oD:=oD) (L:=L) (N:=N) (e:=k) (k:=k+1) (a:=a) (b:=b) (s:=syn Z (k+1+1)) (Z:=Z) (S:=jV Z N) (m:=List.range (k+1)) (R:=rws op Z (k+1)) hD hp hw (by omega) hb (by simp; omega)
  rw [Z7,← jdi,zx,← List.range_succ,List.length_range] at hc
  rw [← hc,jd]
  have h1:((k+1:Nat):Int)<(N:Int):=by omega
  have h2:0≤((k+1:Nat):Int):=by omega
  have hl:=JT Z N
  have g1:=atA (A:=jV Z N) (i:=k+1) (by omega)
  rw [qb Z (by omega)] at g1
  simp only [B93,jg,h1,decide_true,if_true,jf,PC.holds,h2,je,Int.toNat_natCast,Nat.mul_one,Nat.zero_add,ZU,qb Z (show k+1<N by omega),g1,jq,ji,jb]
theorem jpt {oD:List DV} {op:List Nat} {L N:Nat} {a b:Int} {Z:List Int} (hD:oD=(oI op).map vI) (hp:Places op 16) (hw:op.length≤16) (hN:N≤16) (hN1:1≤N) :
  ∃ e,res B93 (.c4 op.length oD L N (N:Int) 0 a b (Z.map aI) ((jV Z N).map aI))=res B93 (.c12 op.length oD L e N (op.length:Int) 0 a b (Z.map aI) e (List.range N) (RD (rws op Z N))):=by
 obtain ⟨e,h8⟩:=jp0 (oD:=oD) (L:=L) (a:=a) (b:=b) (Z:=Z) hD hp hw hN (N - 1) 0 (by omega)
 refine ⟨e,?_⟩
 rw [← h8]
 have hb:=Zi Z 1
 have hc:=jqE (oD:=oD) (L:=L) (N:=N) (k:=0) (a:=a) (b:=b) (s:=syn Z 1) (Z:=Z) (S:=jV Z N) hD hp hw (by omega) hb
 rw [Z7 op Z 0] at hc
 have e1:rws op Z (0+1)=[kE op Z 0]:=rfl
 rw [e1,show List.range (0+1)=[0] from rfl,← hc,jd]
 have h1:(0:Int)<(N:Int):=by omega
 have h2:(0:Int)≤0:=by omega
 have hl:=JT Z N
 have g1:=atA (A:=jV Z N) (i:=0) (by omega)
 rw [qb Z (by omega)] at g1
 simp only [B93,jg,h1,decide_true,if_true,jf,PC.holds,h2,je,Int.toNat_zero,Nat.mul_one,Nat.zero_mul,Nat.zero_add,ZU,qb Z (show 0<N by omega),g1,jq,ji,jb]
 rfl
theorem jo8 {oD:List DV} {op:List Nat} {l:List Int} {N:Nat} {a:Int} (hD:oD=(oI op).map vI) (hp:Places op l.length) (hw:op.length≤16) (hl:l.length≤300) (hN:N≤16) :
  ∀ (d k:Nat),op.length=k+d→res B93 (.c1 op.length oD l.length (op.length:Int) (k:Int) a (N:Int) ((put l op (fun _=>0) k).map aI)) =
   res B93 (.c2 l.length N (N:Int) 0 op.length oD a (N:Int) ((jH l op).map aI) ((List.replicate N (0:Int)).map aI)):=by
 subst hD
 intro d
 induction d with
 | zero =>
  intro k hk
  have hk:k=op.length:=by omega
  subst hk
  have h1:¬ ((op.length:Int)<(op.length:Int)):=by omega
  have h2:0≤(N:Int):=by omega
  rw [jd]
  simp only [B93,jg,h1,decide_false,Bool.false_eq_true,if_false,jf,PC.holds,h2,Int.le_refl,je,Int.toNat_natCast,ye,jM,jq,ji,jb]
  rw [jn (by first | omega | (unfold Jg; omega)),jn (by first | omega | (unfold Jg; omega)),jb]
  rfl
 | succ d ih =>
  intro k hk
  have ih:=ih (k+1) (by omega)
  have hl2:=ky l op (fun _=>0) k
  rw [← ih,put,jd]
  generalize put l op (fun _=>0) k=U at hl2 ⊢
  have a1:=jL (l:=oI op) (i:=k) (by rw [Ju]; omega)
  rw [JJ] at a1
  have hop:=hp.lt k (by omega)
  have hop2:op.getD k 0<U.length:=by omega
  have h1:(k:Int)<(op.length:Int):=by omega
  have h2:0≤(k:Int):=by omega
  have h3:k≤(oI op).length:=by rw [Ju]; omega
  have h9:0≤((op.getD k 0:Nat):Int):=by omega
  have h10:((op.getD k 0:Nat):Int)<(l.length:Int):=by omega
  have h11:op.getD k 0+1≤U.length:=by omega
  have h12:jc ((k:Int)+1):=by unfold jc; omega
  simp only [B93,jg,h1,decide_true,if_true,jf,PC.holds,h2,je,Int.toNat_natCast,Nat.mul_one,Nat.zero_add,List.length_map,h3,jo,JJ,a1,h9,h10,h11,jG,jef _ hop2,h12,jq,ji,jb]
  rw [show (k:Int)+1=((k+1:Nat):Int) by omega]
theorem jxL {A B:List Int} (h:A.length=B.length):jr (A.map aI) 0 (B.map aI)=B.map aI:=by
 unfold jr
 simp [h]
theorem jfD {l:List Int} {op:List Nat} {N:Nat} (a:Int) (hl:l.length≤16) (hs:okS l) (hp:Places op l.length) (hw:op.length≤N) (hN:N≤16) (hN1:1≤N) :
  ∃ o,F93 a (N:Int) l.length (l.map vI) op.length ((oI op).map vI)=some (l.length,o.map vI,isW o N)∧o.length=l.length∧okS o∧(∀ i,i ∉ op→o.getD i 0=l.getD i 0)∧(∀ o',SolW l op N o'→o=o')∧(op.length=N→isW o N=true):=by
 have hp16:Places op 16:=⟨fun k hk=>by have:=hp.lt k hk; omega,hp.inj⟩
 have hZl:=kK l op
 have hZo:=zv (op:=op) hs
 have hpZ:Places op (jH l op).length:=by rw [hZl]; exact hp
 obtain ⟨e,r4⟩:=jpt (oD:=(oI op).map vI) (L:=l.length) (N:=N) (a:=a) (b:=(N:Int)) (Z:=jH l op) rfl hp16 (by omega) hN hN1
 have col0:Col op (jH l op) N (rws op (jH l op) N) (List.range N) 0:=by
  refine ⟨⟨zx _ _ _,fun p hpN=>?_,fun p=>?_⟩,List.length_range,⟨fun k hk=>?_,fun x y hx hy e=>?_⟩,?_,fun k hk=>by omega⟩
  ·rw [Zs _ _ hpN,Gj]
  ·by_cases hpN:p<N
   ·rw [Zs _ _ hpN]; exact jfP _ _ _
   ·rw [List.getD_eq_getElem?_getD,List.getElem?_eq_none (by rw [zx]; omega)]; intro x hx; simp at hx
  ·rw [List.length_range] at hk; simp [List.getD_eq_getElem?_getD,hk]
  ·rw [List.length_range] at hx hy; simpa [List.getD_eq_getElem?_getD,hx,hy] using e
  ·have h0:=jm1 op (jH l op) N
   have hrow:∀ j,j<N→(rws op (jH l op) N).getD ((List.range N).getD j 0) []=kE op (jH l op) j:=by
    intro j hj
    have:(List.range N).getD j 0=j:=by simp [List.getD_eq_getElem?_getD,hj]
    rw [this,Zs _ _ hj]
   refine ⟨yU _ _,fun v=>?_⟩
   constructor
   ·intro h j hj
    have:=h j hj
    simp only [mat,hrow j hj] at this
    exact this
   ·intro h j hj
    have:=h j hj
    show (17:Int)∣sm (fun k=>mat (fun j=>(rws op (jH l op) N).getD ((List.range N).getD j 0) []) j k*v k) (op.length+1)
    simp only [mat,hrow j hj]
    exact this
 obtain ⟨R',m',hcol,r12⟩:=jjI (oD:=(oI op).map vI) (L:=l.length) (e:=e) (a:=a) (b:=(N:Int)) (O:=jH l op) rfl hw hN hp hl hZl (fun n hn=>jaI hp hn) op.length 0 _ _ (by omega) col0
 have r15:=jns (oD:=(oI op).map vI) (e:=e) (a:=a) hcol rfl hw hN hpZ (by omega) hZo op.length 0 (by omega)
 have hsol:=jj8 (l:=l) (x:=fun k=>(R'.getD (m'.getD k 0) []).getD op.length 0) hcol.el hp hw hs (fun k _=>kg (hcol.gr.ok _) _) (fun k hk=>by
  show (17:Int)∣(R'.getD (m'.getD k 0) []).getD k 0*(R'.getD (m'.getD k 0) []).getD op.length 0 - (R'.getD (m'.getD k 0) []).getD op.length 0
  have h1:=hcol.one k hk
  have h2:=Int.dvd_trans h1 ⟨(R'.getD (m'.getD k 0) []).getD op.length 0,rfl⟩
  rw [Int.sub_mul,Int.one_mul] at h2
  exact h2)
 refine ⟨put (jH l op) op (fun k=>(R'.getD (m'.getD k 0) []).getD op.length 0) op.length,?_,hsol.2.1,hsol.1,fun i hi=>gZ hi,hsol.2.2.1,fun he=>hsol.2.2.2.2 fun j h1 h2=>by omega⟩
 have c1:=jo8 (oD:=(oI op).map vI) (a:=a) (N:=N) (l:=l) rfl hp (by omega) (by omega) hN op.length 0 (by omega)
 have c2:=jp6 (jH l op) N (w:=op.length) (oD:=(oI op).map vI) (a:=a) (b:=(N:Int)) (by omega) hN hZo N 0 (by omega)
 rw [show jV (jH l op) 0=[] from rfl,List.nil_append,hZl] at c2
 rw [hZl] at r15
 unfold F93
 rw [jd]
 have z0:0≤(l.length:Int):=by omega
 have z1:List.map AV.d (List.take (min l.length l.length) (l.map vI))=l.map aI:=by
  rw [Nat.min_self,List.take_of_length_le (by simp),List.map_map]; rfl
 have z2:jr ((List.replicate l.length (0:Int)).map aI) 0 (l.map aI)=l.map aI:=jxL (by simp)
 simp only [B93,jf,PC.holds,z0,Int.le_refl,je,Int.toNat_natCast,ye,z1,z2,List.length_map,List.length_replicate,Nat.mul_one,jq,ji,jb]
 rw [jn (by first | omega | (unfold Jg; omega)),jn (by first | omega | (unfold Jg; omega)),jn (by simp),jb]
 exact c1.trans (c2.trans (r4.trans (r12.trans r15)))
end
section
open Go Go.RowKit
theorem juk:List.map kZ (Value.int IntKind.i64 0).cells.toList=[vI 0]:=rfl
theorem jm7 (n:Nat):(List.replicate n [vI 0]).flatten=(List.replicate n (0:Int)).map vI:=by
 induction n with
 | zero=>rfl
 | succ n ih=>rw [List.replicate_succ,List.flatten_cons,ih,List.replicate_succ,List.map_cons]; rfl
theorem zX (i:Nat):(oI (List.range i)).map vI++[DV.v (Value.int IntKind.i64 (i:Int))]=(oI (List.range (i+1))).map vI:=by
 unfold oI
 rw [List.range_succ,List.map_append,List.map_append]
 rfl
theorem ge {N k:Nat} (hk:k<N):(List.range N).getD k 0=k:=by simp [List.getD_eq_getElem?_getD,hk]
theorem Qi {N L:Nat} (h:N≤L):Places (List.range N) L:=by
 refine ⟨fun k hk=>?_,fun a b ha hb e=>?_⟩
 ·rw [List.length_range] at hk; rw [ge hk]; omega
 ·rw [List.length_range] at ha hb
  rwa [ge ha,ge hb] at e
def zQ (N:Nat) (m:List Int):List Int:=List.replicate N 0++m
theorem jda (N:Nat) (m:List Int):(zQ N m).length=N+m.length:=by unfold zQ; simp
theorem jfk {N:Nat} {m:List Int} (h:okS m):okS (zQ N m):=by
 intro x hx
 unfold zQ at hx
 rcases List.mem_append.1 hx with h1 | h1
 ·rw [List.eq_of_mem_replicate h1]; omega
 ·exact h x h1
theorem jpW {N:Nat} (a:Int) {m:List Int} {o:List Int} {b:Bool} (hm:0<m.length) (hN:N≤16) (hL:N+m.length≤16)
  (h93:F93 a (N:Int) (N+m.length) ((zQ N m).map vI) N ((oI (List.range N)).map vI)=some (N+m.length,o.map vI,b)) :
  ∀ (d i:Nat),N=i+1+d→res B85 (.c2 m.length (m.map vI) i (i+1) ((oI (List.range (i+1))).map vI) (N:Int) ((i+1:Nat):Int) a i)=some (N+m.length,o.map vI):=by
 have hpad:(List.replicate N [vI 0]).flatten++m.map vI=(zQ N m).map vI:=by rw [jm7]; unfold zQ; rw [List.map_append]
 intro d
 induction d with
 | zero =>
  intro i hi
  have hi:N=i+1:=by omega
  subst hi
  have h1:¬ (((i+1:Nat):Int)<((i+1:Nat):Int)):=by omega
  have h2:m.length.beq 0=false:=by cases hq:m.length with | zero=>omega | succ n=>rfl
  have h3:0≤((i+1:Nat):Int):=by omega
  have h4:m.length=m.length*1:=by omega
  have h5:Jg (i+1+m.length) 8:=Kg (by omega)
  rw [jd]
  simp only [B85,jg,h1,decide_false,Bool.false_eq_true,if_false,h2,juk,Int.toNat_natCast,hpad,h93,ja,jf,PC.holds,h3,Int.le_refl,hm,List.length_map,h5,je,jj,jl]
  rw [jn (by omega),jn (by omega),jn (by omega),jk]
 | succ d ih =>
  intro i hi
  have ih:=ih (i+1) (by omega)
  have h1:(((i+1:Nat):Int)<(N:Int)):=by omega
  have h2:jc (((i+1:Nat):Int)+1):=by unfold jc; omega
  have h5:Jg (i+1+1) 8:=Kg (by omega)
  rw [jd]
  simp only [B85,jg,h1,decide_true,if_true,jf,PC.holds,h5,h2,je,ji,jb,zX]
  rw [show ((i+1:Nat):Int)+1=((i+1+1:Nat):Int) by omega]
  exact ih
theorem jqh {N:Nat} (a:Int) {m:List Int} {o:List Int} {b:Bool} (hm:0<m.length) (hN:N≤16) (hN1:1≤N) (hL:N+m.length≤16)
  (h93:F93 a (N:Int) (N+m.length) ((zQ N m).map vI) N ((oI (List.range N)).map vI)=some (N+m.length,o.map vI,b)) :
  F85 a (N:Int) m.length (m.map vI)=some (N+m.length,o.map vI):=by
 unfold F85; rw [jd]
 simp only [B85,ji,jb]
 rw [jd]
 have h1:(0:Int)<(N:Int):=by omega
 have h2:jc ((0:Int)+1):=by unfold jc; omega
 simp only [B85,jg,h1,decide_true,if_true,jf,PC.holds,h2,je,ji,jb]
 have h:=jpW a hm hN hL h93 (N - 1) 0 (by omega)
 exact h
structure Wd (L N:Nat) (o:List Int):Prop where
 len:o.length=L
 ok:okS o
 is:isW o N=true
theorem Zv {N i:Nat}:i ∈ List.range N↔i<N:=List.mem_range
theorem yY (l:List Int) (n i:Nat):(l.drop n).getD i 0=l.getD (n+i) 0:=by
 rw [List.getD_eq_getElem?_getD,List.getElem?_drop,List.getD_eq_getElem?_getD]
theorem jfc (N:Nat) (m:List Int) {i:Nat}:(zQ N m).getD (N+i) 0=m.getD i 0:=by
 unfold zQ
 rw [List.getD_eq_getElem?_getD,List.getElem?_append_right (by simp)]
 simp [List.getD_eq_getElem?_getD]
theorem jlH {N:Nat} (a:Int) {m:List Int} (hm:0<m.length) (hs:okS m) (hN1:1≤N) (hL:N+m.length≤16) :
  ∃ o,F85 a (N:Int) m.length (m.map vI)=some (N+m.length,o.map vI)∧Wd (N+m.length) N o∧o.drop N=m:=by
 have hpl:=jda N m
 obtain ⟨o,h1,h2,h3,h4,h5,h6⟩:=jfD (l:=zQ N m) (op:=List.range N) (N:=N) a (by omega) (jfk hs) (Qi (by omega)) (by simp) (by omega) hN1
 rw [List.length_range,hpl] at h1
 refine ⟨o,jqh a hm (by omega) hN1 hL h1,⟨by omega,h3,h6 (by simp)⟩,?_⟩
 apply qI (by rw [List.length_drop]; omega)
 intro i hi
 rw [yY,h4 (N+i) (by rw [Zv]; omega),jfc]
theorem jkh {L N:Nat} {o o':List Int} (h:Wd L N o) (h':Wd L N o') (hN:1≤N) (hNL:N≤L) (hL:L≤16) (e:o.drop N=o'.drop N):o=o':=by
 obtain ⟨u,h1,h2,h3,h4,h5,h6⟩:=jfD (l:=o) (op:=List.range N) (N:=N) 0 (by rw [h.len]; omega) h.ok (by rw [h.len]; exact Qi hNL) (by simp) (by omega) hN
 have a1:=h5 o ⟨rfl,h.ok,fun i _ _=>rfl,h.is⟩
 have a2:=h5 o' ⟨by rw [h.len,h'.len],h'.ok,fun i hi hin=>?_,h'.is⟩
 ·rw [← a1,a2]
 ·have hiN:N≤i:=by
   apply Classical.byContradiction
   intro c
   exact hin (Zv.2 (by omega))
  have e1:=congrArg (fun z:List Int=>z.getD (i - N) 0) e
  simp only [yY] at e1
  rw [show N+(i - N)=i by omega] at e1
  exact e1.symm
end
section
open Go Go.RowKit
def kP (n k:Int) (l:List Int):Int:=Jw [QX n k,kX ((l.length:Int) != n) 2,yX l]
theorem QK (n k:Int) (l:List Int) (hl:l.length≤300):F29 n k l.length (l.map vI)=some (kP n k l):=by
 unfold F29; rw [jd]
 simp only [B29,Qe,Gi,jeu l hl,ja,jj,jfj,jl,jk]; rfl
theorem jpl (n k:Int) (l:List Int) (hl:l.length≤300):F21 n k l.length (l.map vI)=some (kP n k l):=by
 unfold F21; rw [jd]
 simp only [B21,QY,Q7,jh7 l hl,ja,jj,jif,jl,jk]; rfl
theorem jeX {n k:Int} {l:List Int}:kP n k l=0↔QX n k=0∧(l.length:Int)=n∧okS l:=by
 unfold kP
 rw [JA,JA,JA,ZB (by decide),jas]
 have:Jw []=0:=rfl
 simp [this]
theorem jhH (a b:List Int) (hl:a.length≤1000) (he:a.length=b.length):∀ (m i:Nat),a.length=i+m→res B30 (.c1 a.length (a.map vI) b.length (b.map vI) (i:Int))=some (decide (a.drop i=b.drop i)):=by
 intro m
 induction m with
 | zero =>
  intro i h
  rw [jd,List.drop_eq_nil_of_le (by omega),List.drop_eq_nil_of_le (by omega)]
  have h1:¬ ((i:Int)<(a.length:Int)):=by omega
  simp only [B30,jg,h1,decide_false,Bool.false_eq_true,if_false,jl,jk]
  simp
 | succ m ih =>
  intro i h
  have hi:i<a.length:=by omega
  have hj:i<b.length:=by omega
  have g1:=jL hi
  have g2:=jL hj
  have h1:(i:Int)<(a.length:Int):=by omega
  have h2:(i:Int)<(b.length:Int):=by omega
  have h4:0≤(i:Int):=by omega
  have h3:jc (((i+1:Nat)):Int):=by unfold jc; omega
  have h12:(i:Int)+1=((i+1:Nat):Int):=by omega
  rw [jd,K5 0 hi,K5 0 hj]
  by_cases hz:a.getD i 0=b.getD i 0
  ·have h5:(a.getD i 0 != b.getD i 0)=false:=by rw [hz]; simp
   simp only [B30,jg,h1,h2,decide_true,if_true,jf,je,PC.holds,h4,Int.toNat_natCast,Nat.mul_one,jo,g1,g2,ji,h5,h12,h3,Bool.false_eq_true,if_false]
   rw [jn (by simp; omega),jn (by simp; omega),jb,ih (i+1) (by omega)]
   congr 1
   exact decide_eq_decide.2 ⟨fun e=>by rw [hz,e],fun e=>(List.cons.inj e).2⟩
  ·have h5:(a.getD i 0 != b.getD i 0)=true:=by simpa using hz
   simp only [B30,jg,h1,h2,decide_true,if_true,jf,je,PC.holds,h4,Int.toNat_natCast,Nat.mul_one,jo,g1,g2,jl,h5]
   rw [jn (by simp; omega),jn (by simp; omega),jk]
   congr 1
   exact (decide_eq_false fun e=>hz (List.cons.inj e).1).symm
theorem jll (a b:List Int) (hl:a.length≤1000):F30 a.length (a.map vI) b.length (b.map vI)=some (decide (a=b)):=by
 unfold F30; rw [jd]
 by_cases he:a.length=b.length
 ·have hb:((a.length:Int) != (b.length:Int))=false:=by rw [he]; simp
  simp only [B30,jg,hb,Bool.false_eq_true,if_false,ji,jb]
  have h:=jhH a b hl he a.length 0 (by omega)
  rw [List.drop_zero,List.drop_zero] at h
  exact h
 ·have hb:((a.length:Int) != (b.length:Int))=true:=by rw [bne_iff_ne]; omega
  simp only [B30,jg,hb,if_true,jl,jk]
  congr 1
  exact (decide_eq_false fun e=>he (by rw [e])).symm
end
section
open Go Go.RowKit
def YS (n k:Int) (m:List Int):Int:=Jw [QX n k,kX ((m.length:Int) != IntKind.i64.wrap (n - k)) 2,yX m]
theorem ja1 {n k:Int} {l:List Int}:YS n k l=0↔QX n k=0∧(l.length:Int)=n - k∧okS l:=by
 unfold YS
 rw [JA,JA,JA,ZB (by omega),jas]
 have:Jw []=0:=rfl
 simp only [this,and_true,bne_eq_false_iff_eq]
 constructor
 ·rintro ⟨h1,h2,h3⟩
  have hc:=Qp.1 h1
  rw [yq (by unfold jc; omega)] at h2
  exact ⟨h1,h2,h3⟩
 ·rintro ⟨h1,h2,h3⟩
  have hc:=Qp.1 h1
  refine ⟨h1,?_,h3⟩
  rw [yq (by unfold jc; omega)]
  exact h2
theorem jmv {n k:Int} {l:List Int} (hl:l.length≤300) (h:kP n k l≠0):F16 n k l.length (l.map vI)=some (0,[],kP n k l):=by
 unfold F16; rw [jd]
 simp only [B16,QK n k l hl,ja,jj,jg,bne_iff_ne.2 h,if_true,jl,jk]
theorem jpy {n:Int} {k:Nat} {l:List Int} (hl:l.length≤300) (hk:k≤16) (hs:okS l) (h:kP n (k:Int) l=0):F16 n (k:Int) l.length (l.map vI)=some (k,(jV l k).map vI,0):=by
 unfold F16; rw [jd]
 have hb:(kP n (k:Int) l != 0)=false:=by rw [h]; rfl
 simp only [B16,QK n (k:Int) l hl,ja,jj,jg,hb,Bool.false_eq_true,if_false,jjr n hl hk hs,jl,jk]
theorem jmw {n k:Int} {l:List Int} (hl:l.length≤300) (h:kP n k l≠0):F18 n k l.length (l.map vI)=some (false,kP n k l):=by
 unfold F18; rw [jd]
 simp only [B18,QK n k l hl,ja,jj,jg,bne_iff_ne.2 h,if_true,jl,jk]
theorem jql {n:Int} {k:Nat} {l:List Int} (hl:l.length≤300) (hk:k≤16) (hs:okS l) (h:kP n (k:Int) l=0):F18 n (k:Int) l.length (l.map vI)=some (isW l k,0):=by
 unfold F18; rw [jd]
 have hb:(kP n (k:Int) l != 0)=false:=by rw [h]; rfl
 simp only [B18,QK n (k:Int) l hl,ja,jj,jg,hb,Bool.false_eq_true,if_false,Yc n hl hk hs,jl,jk]
theorem jno {n k:Int} {l:List Int} (hl:l.length≤300) (h:kP n k l≠0):F20 n k l.length (l.map vI)=some (0,[],kP n k l):=by
 unfold F20; rw [jd]
 simp only [B20,QK n k l hl,ja,jj,jg,bne_iff_ne.2 h,if_true,jl,jk]
theorem jqX {l:List Int} (h0:0<l.length) (hl:l.length≤300):F86 l.length (l.map vI)=some (l.length,l.map vI):=by
 unfold F86; rw [jd]
 have e:l.length.beq 0=false:=by rw [← Bool.not_eq_true,Nat.beq_eq]; omega
 simp only [B86,e,jf,jg,PC.holds,Bool.false_eq_true,if_false,jl,Nat.mul_one]
 simp only [List.length_map,h0,je,Kg (show l.length≤1000 by omega),jk]
theorem jpB {n:Int} {k:Nat} {l:List Int} (hl:l.length≤300) (hk:k≤16) (hs:okS l) (h:kP n (k:Int) l=0) (hkl:k<l.length):F20 n (k:Int) l.length (l.map vI)=some (if isW l k=true then (l.length - k,(l.drop k).map vI,0) else (0,[],27)):=by
 unfold F20; rw [jd]
 have hb:(kP n (k:Int) l != 0)=false:=by rw [h]; rfl
 by_cases hw:isW l k=true
 ·have h1:0≤(k:Int):=by omega
  have h2:(k:Int)≤(l.length:Int):=by omega
  have e1:((l.length:Int) - (k:Int)).toNat=l.length - k:=by omega
  have e2:List.take (l.length - k) (List.drop k (l.map vI))=(l.drop k).map vI:=by
   rw [← List.map_drop,List.take_of_length_le (by simp)]
  have h86:=jqX (l:=l.drop k) (by rw [List.length_drop]; omega) (by rw [List.length_drop]; omega)
  rw [List.length_drop] at h86
  simp only [B20,QK n (k:Int) l hl,ja,jj,jg,hb,Bool.false_eq_true,if_false,Yc n hl hk hs,hw,Bool.not_true,jf,PC.holds,h1,h2,Int.le_refl,List.length_map,Nat.mul_one,je,Int.toNat_natCast,e1,e2,h86,jl,if_true]
  first | rw [jk] | (rw [jn (by omega),jk])
 ·simp only [B20,QK n (k:Int) l hl,ja,jj,jg,hb,Bool.false_eq_true,if_false,Yc n hl hk hs,hw,Bool.not_false,if_true,jl,jk]
theorem jqL (n k:Int) {m:List Int} (hl:m.length≤300):F22 n k m.length (m.map vI)=some (YS n k m):=by
 unfold F22; rw [jd]
 simp only [B22,QY,Q7,jh7 m hl,jif,ja,jj,jf,PC.holds,je,jl,jk]
 rfl
theorem jf3 {n k:Int} {m:List Int} (hl:m.length≤300) (h:YS n k m≠0):F19 n k m.length (m.map vI)=some (0,[],YS n k m):=by
 have hb:(Jw [QX n k,kX ((m.length:Int) != IntKind.i64.wrap (n - k)) 2,yX m] != 0)=true:=bne_iff_ne.2 h
 unfold F19; rw [jd]
 simp only [B19,Qe,Gi,jeu m hl,jfj,ja,jj,jf,PC.holds,je,jg,hb,if_true,jl,jk]
 rfl
theorem jjJ {n k:Int} {m:List Int} {p:Nat × List DV} (hl:m.length≤300) (h:YS n k m=0) (h85:F85 n k m.length (m.map vI)=some p):F19 n k m.length (m.map vI)=some (p.1,p.2,0):=by
 have hb:(Jw [QX n k,kX ((m.length:Int) != IntKind.i64.wrap (n - k)) 2,yX m] != 0)=false:=by
  have:Jw [QX n k,kX ((m.length:Int) != IntKind.i64.wrap (n - k)) 2,yX m]=0:=h
  rw [this]; rfl
 unfold F19; rw [jd]
 simp only [B19,Qe,Gi,jeu m hl,jfj,ja,jj,jf,PC.holds,je,jg,hb,Bool.false_eq_true,if_false,h85,jl,jk]
end
section
open Go Go.RowKit
theorem jmK (l:List Int) (j:Nat) (a b:Int) (hl:l.length≤300) (hj:1≤j∧j≤16) (hs:okS l):∀ (xs:List Int) (i:Nat) (s:Int),l.drop i=xs→i≤l.length→0≤s∧s≤272*i →
  res Zj (.c2 l.length (l.map vI) (j:Int) s (i:Int) a b)=res Zj (.c3 l.length (l.map vI) 0 1 [vI ((zR xs j i s) % 17)] ((j+1:Nat):Int) a b 0):=by
 intro xs
 induction xs with
 | nil =>
  intro i s hd hi hb
  have hi2:i=l.length:=by
   have:=congrArg List.length hd
   simp at this; omega
  have h1:¬ ((i:Int)<(l.length:Int)):=by omega
  have h2:jc ((j:Int)+1):=by unfold jc; omega
  rw [jd]
  simp only [Zj,jg,h1,decide_false,Bool.false_eq_true,if_false,Jj,ja,jj,jf,PC.holds,h2,je,ji,jb,zR]
  rw [show (j:Int)+1=((j+1:Nat):Int) by omega]
 | cons x xs ih =>
  intro i s hd hi hb
  have hi2:i<l.length:=by
   apply Classical.byContradiction
   intro h
   rw [List.drop_eq_nil_of_le (by omega)] at hd
   simp at hd
  have hx:l.getD i 0=x∧l.drop (i+1)=xs:=by
   rw [K5 0 hi2] at hd
   simpa using hd
  have hxs:0≤x∧x<17:=by
   refine hs x ?_
   have:x ∈ l.drop i:=by rw [hd]; simp
   exact List.mem_of_mem_drop this
  have hpw:=Za (i*j)
  have hij:i*j≤300*16:=Nat.mul_le_mul (by omega) (by omega)
  have eij:(i:Int)*(j:Int)=((i*j:Nat):Int):=by simp
  have hmul:0≤x*pw (i*j)∧x*pw (i*j)≤16*16:=by
   constructor
   ·exact Int.mul_nonneg hxs.1 (by omega)
   ·exact Int.mul_le_mul (by omega) hpw.2 (by omega) (by omega)
  have ih':=ih (i+1) (s+x*pw (i*j)) hx.2 (by omega) (by omega)
  rw [zR,← ih',jd]
  have h1:(i:Int)<(l.length:Int):=by omega
  have h3:jc ((i:Int)+1):=by unfold jc; omega
  have h4:0≤(i:Int):=by omega
  have h6:jc ((i*j:Nat):Int):=by unfold jc; omega
  have h7:jc (x*pw (i*j)):=by unfold jc; omega
  have h8:jc (s+x*pw (i*j)):=by unfold jc; omega
  have h12:(i:Int)+1=((i+1:Nat):Int):=by omega
  have g1:=jL hi2
  rw [hx.1] at g1
  have g2:dI (cel (l.map vI) i)=x:=by rw [jo,hx.1]
  simp only [Zj,jg,h1,decide_true,if_true,jf,je,PC.holds,h3,h4,Int.toNat_natCast,Nat.mul_one,eij,QO,ja,g1,g2,h6,h7,h8,jj,ji,jb]
  rw [jn (by simp; omega),h12,jb]
theorem jlN (l:List Int) (j:Nat) (a b:Int) (nm cap e:Nat) (acc:List DV) (hnm:nm=e) (hcap:cap≤100) (hl:l.length≤300) (hj:1≤j∧j≤16) (hs:okS l):∀ (xs:List Int) (i:Nat) (s:Int),l.drop i=xs→i≤l.length→0≤s∧s≤272*i →
  res Zj (.c4 l.length (l.map vI) nm cap acc (j:Int) s (i:Int) a b e)=res Zj (.c3 l.length (l.map vI) (e+1) (cap+1) (acc++[vI ((zR xs j i s) % 17)]) ((j+1:Nat):Int) a b (e+1)):=by
 subst hnm
 intro xs
 induction xs with
 | nil =>
  intro i s hd hi hb
  have hi2:i=l.length:=by
   have:=congrArg List.length hd
   simp at this; omega
  have h1:¬ ((i:Int)<(l.length:Int)):=by omega
  have h2:jc ((j:Int)+1):=by unfold jc; omega
  rw [jd]
  simp only [Zj,jg,h1,decide_false,Bool.false_eq_true,if_false,Jj,ja,jj,jf,PC.holds,h2,je,ji,jb,zR]
  rw [jn (by first | omega | (unfold Jg; omega)),jb,show (j:Int)+1=((j+1:Nat):Int) by omega]
 | cons x xs ih =>
  intro i s hd hi hb
  have hi2:i<l.length:=by
   apply Classical.byContradiction
   intro h
   rw [List.drop_eq_nil_of_le (by omega)] at hd
   simp at hd
  have hx:l.getD i 0=x∧l.drop (i+1)=xs:=by
   rw [K5 0 hi2] at hd
   simpa using hd
  have hxs:0≤x∧x<17:=by
   refine hs x ?_
   have:x ∈ l.drop i:=by rw [hd]; simp
   exact List.mem_of_mem_drop this
  have hpw:=Za (i*j)
  have hij:i*j≤300*16:=Nat.mul_le_mul (by omega) (by omega)
  have eij:(i:Int)*(j:Int)=((i*j:Nat):Int):=by simp
  have hmul:0≤x*pw (i*j)∧x*pw (i*j)≤16*16:=by
   constructor
   ·exact Int.mul_nonneg hxs.1 (by omega)
   ·exact Int.mul_le_mul (by omega) hpw.2 (by omega) (by omega)
  have ih':=ih (i+1) (s+x*pw (i*j)) hx.2 (by omega) (by omega)
  rw [zR,← ih',jd]
  have h1:(i:Int)<(l.length:Int):=by omega
  have h3:jc ((i:Int)+1):=by unfold jc; omega
  have h4:0≤(i:Int):=by omega
  have h6:jc ((i*j:Nat):Int):=by unfold jc; omega
  have h7:jc (x*pw (i*j)):=by unfold jc; omega
  have h8:jc (s+x*pw (i*j)):=by unfold jc; omega
  have h12:(i:Int)+1=((i+1:Nat):Int):=by omega
  have g1:=jL hi2
  rw [hx.1] at g1
  have g2:dI (cel (l.map vI) i)=x:=by rw [jo,hx.1]
  simp only [Zj,jg,h1,decide_true,if_true,jf,je,PC.holds,h3,h4,Int.toNat_natCast,Nat.mul_one,eij,QO,ja,g1,g2,h6,h7,h8,jj,ji,jb]
  rw [jn (by simp; omega),h12,jb]
theorem jmh (l:List Int) (k:Nat) (b:Int) (hl:l.length≤300) (hk:k≤16) (hs:okS l):∀ (d j e:Nat),k=j+d→1≤j →
  res Zj (.c3 l.length (l.map vI) e j ((jV l j).map vI) ((j+1:Nat):Int) b (k:Int) e)=some (k,(jV l k).map vI):=by
 intro d
 induction d with
 | zero =>
  intro j e hj hj1
  have hj:j=k:=by omega
  subst hj
  have h1:¬ (((j+1:Nat):Int)≤(j:Int)):=by omega
  rw [jd]
  simp only [Zj,jg,h1,decide_false,Bool.false_eq_true,if_false,jf,PC.holds,je,jl]
  rw [jn (by omega),jk]
 | succ d ih =>
  intro j e hj hj1
  have ih:=ih (j+1) (e+1) (by omega) (by omega)
  have h1:(((j+1:Nat):Int)≤(k:Int)):=by omega
  rw [jd]
  simp only [Zj,jg,h1,decide_true,if_true,ji,jb]
  have h4:=jlN l (j+1) b (k:Int) e j e ((jV l j).map vI) rfl (by omega) hl (by omega) hs l 0 0 (by simp) (by omega) (by omega)
  rw [jf1] at h4
  refine h4.trans ?_
  rw [jaS,List.map_append] at ih
  exact ih
theorem jmW (n:Int) {k:Nat} {l:List Int} (hl:l.length≤300) (hk:1≤k∧k≤16) (hs:okS l):jlV n (k:Int) l.length (l.map vI)=some (k,(jV l k).map vI):=by
 unfold jlV; rw [jd]
 simp only [Zj,ji,jb]
 rw [jd]
 have h1:((1:Int)≤(k:Int)):=by omega
 simp only [Zj,jg,h1,decide_true,if_true,ji,jb]
 have h2:=jmK l 1 n (k:Int) hl (by omega) hs l 0 0 (by simp) (by omega) (by omega)
 rw [jf1] at h2
 refine h2.trans ?_
 exact jmh l k n hl hk.2 hs (k - 1) 1 0 (by omega) (by omega)
def RA (R:List (List Int)):List AV:=R.map fun r=>AV.d (DV.sl r.length (r.map vI))
theorem Y6 (R:List (List Int)):(RA R).length=R.length:=by unfold RA; simp
theorem GH {R:List (List Int)} {i:Nat} (h:i<R.length):(RA R)[i]? = some (AV.d (DV.sl (R.getD i []).length ((R.getD i []).map vI))):=by
 unfold RA
 simp [h,List.getD_eq_getElem?_getD]
theorem yz {R:List (List Int)} {i:Nat} (h:i<R.length):jy (RA R) i=DV.sl (R.getD i []).length ((R.getD i []).map vI):=by
 unfold jy
 rw [List.getD_eq_getElem?_getD,GH h]; rfl
theorem Zg (n:Nat) (xs:List DV):dN (DV.sl n xs)=n:=rfl
theorem z6 (n:Nat) (xs:List DV):dL (DV.sl n xs)=xs:=rfl
theorem jlA {R:List (List Int)} {i:Nat} (r:List Int) (h:i<R.length):jr (RA R) i [AV.d (DV.sl r.length (r.map vI))]=RA (R.set i r):=by
 unfold jr RA
 rw [List.set_eq_take_append_cons_drop,if_pos h]
 simp
theorem jdk (k:Nat):∀ R:List (List Int),ki k (RA R)=true
 | []=>rfl
 | x :: l=>by unfold RA; rw [List.map_cons]; unfold ki; have:=jdk k l; unfold RA at this; rw [this]; rfl
theorem Js (k t:Nat) (R:List (List Int)):(jA k (ABlk.cells (RA R) t)=true)=True:=eq_true (jdk k R)
theorem jdm:∀ R:List (List Int),z8 (RA R)=true
 | []=>rfl
 | x :: l=>by unfold RA; rw [List.map_cons]; unfold z8; exact jdm l
theorem zk (t:Nat) (R:List (List Int)):(flatK (ABlk.cells (RA R) t)=true)=True:=eq_true (jdm R)
theorem jpn (r:List Int):[AV.d (DV.sl r.length (r.map vI))]=RA [r]:=rfl
theorem jpi (R:List (List Int)) (r:List Int):RA R++[AV.d (DV.sl r.length (r.map vI))]=RA (R++[r]):=by unfold RA; simp
theorem jcu {l:List Int} {i:Nat} (h:i<l.length):l.take (i+1)=l.take i++[l.getD i 0]:=by
 rw [List.take_succ,List.getElem?_eq_getElem h]
 simp [List.getD_eq_getElem?_getD,h]
theorem jmt {w:Nat} {oD:List DV} {L N:Nat} {nI u:Int} {W j:Nat} {P O:List Int} {R:List (List Int)} {t:Int} (hR:Gr R N W) (hj:j<N) (ht:0≤t∧t<17) (hP:okS P) (hPl:P.length=W) (hW:W≤300) (hN:N≤300) :
  ∀ (d i e:Nat),W=i+d→0<i →
   res B90 (.c20 w oD L N N nI W (P.map vI) u (j:Int) t e i (((prg (elg t P) (R.getD j []) W).take i).map vI) (i:Int) (O.map aI) (RA R) e) =
   res B90 (.c17 w oD L N N nI W (P.map vI) u ((j+1:Nat):Int) (O.map aI) (RA (R.set j (prg (elg t P) (R.getD j []) W)))):=by
 have hlen:=hR.len
 have hjl:=hR.row j hj
 have hjR:j<R.length:=by omega
 have hpl:(prg (elg t P) (R.getD j []) W).length=W:=by rw [JY,hjl]
 intro d
 induction d with
 | zero =>
  intro i e hi h0
  have hi:i=W:=by omega
  subst hi
  rw [List.take_of_length_le (by omega)]
  generalize prg (elg t P) (R.getD j []) i=Q at hpl ⊢
  have h1:¬ ((i:Int)<(i:Int)):=by omega
  have h2:0≤(j:Int):=by omega
  have h3:(j:Int)<(N:Int):=by omega
  have h4:j+1≤R.length:=by omega
  have h5:jc ((j:Int)+1):=by unfold jc; omega
  have hs:=jlA Q hjR
  rw [hpl] at hs
  rw [jd]
  simp only [B90,jg,h1,decide_false,Bool.false_eq_true,if_false,jf,PC.holds,h2,h3,je,Int.toNat_natCast,Nat.mul_one,Nat.zero_add,Y6,h4,jG,h5,hs,jq,Js,ji,jb]
  rw [show (j:Int)+1=((j+1:Nat):Int) by omega]
 | succ d ih =>
  intro i e hi h0
  have ih:=ih (i+1) (e+1) (by omega) (by omega)
  have hg:(prg (elg t P) (R.getD j []) W).getD i 0=((R.getD j []).getD i 0 - t*P.getD i 0) % 17:=by
   rw [kt _ _ _ (by omega),if_pos (by omega)]; rfl
  rw [jcu (by omega),List.map_append,hg] at ih
  have x1:=kg (hR.ok j) i
  have x2:=kg hP i
  have x3:=jab ht x2
  have a0:=GH hjR
  have a1:=jL (l:=R.getD j []) (i:=i) (by omega)
  have a2:=jL (l:=P) (i:=i) (by omega)
  have c0:=yz hjR
  have h1:((i:Int)<(W:Int)):=by omega
  have h2:0≤(j:Int):=by omega
  have h3:(j:Int)<(N:Int):=by omega
  have h4:0≤(i:Int):=by omega
  have h5:i≤W:=by omega
  have h6:jc (t*P.getD i 0):=by unfold jc; omega
  have h7:jc ((R.getD j []).getD i 0 - t*P.getD i 0):=by unfold jc; omega
  have h8:Jg (i+1) 8:=Kg (by omega)
  have h9:jc ((i:Int)+1):=by unfold jc; omega
  rw [← ih,jd]
  simp only [B90,jg,h1,decide_true,if_true,Int.toNat_natCast,Nat.mul_one,Nat.zero_add,c0,Zg,z6,jo,Jj,ja,jf,PC.holds,h2,h3,je,a0,hjl,h4,List.length_map,h5,a1,a2,hPl,h6,h7,jj,h8,h9,jq,Js,ji,jb]
  rw [show (i:Int)+1=((i+1:Nat):Int) by omega]
  rfl
theorem jnu {w:Nat} {oD:List DV} {L N:Nat} {nI u:Int} {W j:Nat} {P O:List Int} {R:List (List Int)} {t:Int} (hR:Gr R N W) (hj:j<N) (ht:0≤t∧t<17) (hP:okS P) (hPl:P.length=W) (hW:W≤300) (hN:N≤300) (hW0:0<W) :
   res B90 (.c19 w oD L N N nI W (P.map vI) u (j:Int) t 0 (O.map aI) (RA R)) =
   res B90 (.c17 w oD L N N nI W (P.map vI) u ((j+1:Nat):Int) (O.map aI) (RA (R.set j (prg (elg t P) (R.getD j []) W)))):=by
 have hlen:=hR.len
 have hjl:=hR.row j hj
 have hjR:j<R.length:=by omega
 have hpl:(prg (elg t P) (R.getD j []) W).length=W:=by rw [JY,hjl]
 have ih:=jmt (w:=w) (oD:=oD) (L:=L) (nI:=nI) (u:=u) (O:=O) hR hj ht hP hPl hW hN (W - 1) 1 0 (by omega) (by omega)
 have hg:(prg (elg t P) (R.getD j []) W).getD 0 0=((R.getD j []).getD 0 0 - t*P.getD 0 0) % 17:=by
  rw [kt _ _ _ (by omega),if_pos (by omega)]; rfl
 have ht1:(prg (elg t P) (R.getD j []) W).take 1=[((R.getD j []).getD 0 0 - t*P.getD 0 0) % 17]:=by
  have:=jcu (l:=prg (elg t P) (R.getD j []) W) (i:=0) (by omega)
  rw [hg] at this; exact this
 rw [ht1] at ih
 have x1:=kg (hR.ok j) 0
 have x2:=kg hP 0
 have x3:=jab ht x2
 have a0:=GH hjR
 have a1:=jL (l:=R.getD j []) (i:=0) (by omega)
 have a2:=jL (l:=P) (i:=0) (by omega)
 have c0:=yz hjR
 have h1:((0:Int)<(W:Int)):=by omega
 have h2:0≤(j:Int):=by omega
 have h3:(j:Int)<(N:Int):=by omega
 have h4:(0:Int)≤0:=by omega
 have h5:0≤W:=by omega
 have h6:jc (t*P.getD 0 0):=by unfold jc; omega
 have h7:jc ((R.getD j []).getD 0 0 - t*P.getD 0 0):=by unfold jc; omega
 have h9:jc ((0:Int)+1):=by unfold jc; omega
 rw [← ih,jd]
 simp only [B90,jg,h1,decide_true,if_true,Int.toNat_natCast,Int.toNat_zero,Nat.zero_mul,Nat.mul_one,Nat.zero_add,c0,Zg,z6,jo,Jj,ja,jf,PC.holds,h2,h3,je,a0,hjl,h4,List.length_map,h5,a1,a2,hPl,h6,h7,jj,h9,jM,zk,jq,Js,ji,jb]
 rfl
structure MidS (R:List (List Int)) (N W n y:Nat) (v:Int) (P:List Int) (C:Nat→List Int):Prop where
 gr:Gr R N W
 piv:R.getD n []=P
 done:∀ j,j<y→j≠n→R.getD j []=prg (elg (((C j).getD n 0*v) % 17) P) (C j) W
 rest:∀ j,y≤j→j<N→j≠n→R.getD j []=C j
theorem jnj {w:Nat} {oD:List DV} {L N n:Nat} {W:Nat} {v:Int} {P O:List Int} {C:Nat→List Int} (hn:n<N) (hnW:n<W) (hW:W≤300) (hN:N≤300) (hv:0≤v∧v<17) (hC:∀ j,okS (C j)) (hPo:okS P) (hPl:P.length=W) :
  ∀ (d y:Nat) (R:List (List Int)),N=y+d→MidS R N W n y v P C →
   ∃ R',MidS R' N W n N v P C∧res B90 (.c17 w oD L N N (n:Int) W (P.map vI) v (y:Int) (O.map aI) (RA R))=res B90 (.c13 w oD L N N ((n+1:Nat):Int) (O.map aI) (RA R')):=by
 intro d
 induction d with
 | zero =>
  intro y R hy h
  have hy:y=N:=by omega
  subst hy
  refine ⟨R,h,?_⟩
  have h1:¬ ((y:Int)<(y:Int)):=by omega
  have h2:jc ((n:Int)+1):=by unfold jc; omega
  rw [jd]
  simp only [B90,jg,h1,decide_false,Bool.false_eq_true,if_false,jf,PC.holds,h2,je,jq,Js,ji,jb]
  rw [show (n:Int)+1=((n+1:Nat):Int) by omega]
 | succ d ih =>
  intro y R hy h
  have h1:(y:Int)<(N:Int):=by omega
  have h2:jc ((y:Int)+1):=by unfold jc; omega
  have h3:0≤(y:Int):=by omega
  by_cases hyn:y=n
  ·subst hyn
   obtain ⟨R',hR',hr⟩:=ih (y+1) R (by omega) ⟨h.gr,h.piv,fun j hj hjn=>h.done j (by omega) hjn,fun j hj hjN hjn=>h.rest j (by omega) hjN hjn⟩
   refine ⟨R',hR',?_⟩
   rw [← hr,jd]
   simp only [B90,jg,h1,decide_true,if_true,jf,PC.holds,h2,je,beq_self_eq_true,jq,Js,ji,jb]
   rw [show (y:Int)+1=((y+1:Nat):Int) by omega]
  ·have hb:((y:Int)==(n:Int))=false:=beq_eq_false_iff_ne.2 (by omega)
   have hlen:=h.gr.len
   have hyR:y<R.length:=by omega
   have hrow:R.getD y []=C y:=h.rest y (by omega) (by omega) hyn
   have hCl:(C y).length=W:=by rw [← hrow]; exact h.gr.row _ (by omega)
   have x1:=kg (hC y) n
   have x2:=jab x1 hv
   have ht:0≤((C y).getD n 0*v) % 17∧((C y).getD n 0*v) % 17<17:=by omega
   have hrun:=jnu (w:=w) (oD:=oD) (L:=L) (nI:=(n:Int)) (u:=v) (O:=O) h.gr (show y<N by omega) ht hPo hPl hW hN (by omega)
   rw [hrow] at hrun
   have hel:∀ k x,0≤elg (((C y).getD n 0*v) % 17) P k x∧elg (((C y).getD n 0*v) % 17) P k x<17:=fun k x=>by unfold elg; omega
   have hmid:MidS (R.set y (prg (elg (((C y).getD n 0*v) % 17) P) (C y) W)) N W n (y+1) v P C:=by
    refine ⟨h.gr.set (by rw [JY,hCl]) (jeM (hC y) hel W),?_,?_,?_⟩
    ·rw [Jo,if_neg (fun c=>hyn c.1)]; exact h.piv
    ·intro j hj hjn
     rw [Jo]
     by_cases hjy:y=j
     ·subst hjy; rw [if_pos ⟨rfl,hyR⟩]
     ·rw [if_neg (fun c=>hjy c.1)]
      exact h.done j (by omega) hjn
    ·intro j hj hjN hjn
     rw [Jo,if_neg (fun c=>by have:=c.1; omega)]
     exact h.rest j (by omega) hjN hjn
   obtain ⟨R',hR',hr⟩:=ih (y+1) _ (by omega) hmid
   refine ⟨R',hR',?_⟩
   refine Eq.trans ?_ (hrun.trans hr)
   rw [jd]
   have a0:=GH hyR
   have c0:=yz hyR
   rw [hrow] at a0 c0
   have a1:=jL (l:=C y) (i:=n) (by omega)
   have h6:0≤(n:Int):=by omega
   have h7:(n:Int)<(W:Int):=by omega
   have h8:n≤W:=by omega
   have h9:jc ((C y).getD n 0*v):=by unfold jc; omega
   simp only [B90,jg,h1,decide_true,if_true,hb,Bool.false_eq_true,if_false,jf,PC.holds,h3,je,Int.toNat_natCast,Nat.mul_one,Nat.zero_add,a0,c0,Zg,z6,hCl,h6,h7,List.length_map,h8,jo,a1,h9,Jj,ja,jj,jq,Js,ji,jb]
def swR (R:List (List Int)) (a n:Nat):List (List Int):=(R.set a (R.getD n [])).set n (R.getD a [])
theorem gD {R:List (List Int)} {a n:Nat} (ha:a<R.length) (hn:n<R.length) (j:Nat):(swR R a n).getD j []=if j=n then R.getD a [] else if j=a then R.getD n [] else R.getD j []:=by
 unfold swR
 rw [Jo,List.length_set,Jo]
 by_cases h1:j=n
 ·subst h1; rw [if_pos ⟨rfl,hn⟩,if_pos rfl]
 ·rw [if_neg (fun c=>h1 c.1.symm),if_neg h1]
  by_cases h2:j=a
  ·subst h2; rw [if_pos ⟨rfl,ha⟩,if_pos rfl]
  ·rw [if_neg (fun c=>h2 c.1.symm),if_neg h2]
theorem jd2 {R:List (List Int)} {a n N W:Nat} (h:Gr R N W) (ha:a<N) (hn:n<N):Gr (swR R a n) N W:=by
 have hl:=h.len
 refine ⟨by unfold swR; simp [hl],fun p hp=>?_,fun p=>?_⟩
 ·rw [gD (by omega) (by omega)]
  split
  ·exact h.row _ ha
  ·split
   ·exact h.row _ hn
   ·exact h.row _ hp
 ·rw [gD (by omega) (by omega)]
  split
  ·exact h.ok _
  ·split
   ·exact h.ok _
   ·exact h.ok _
theorem jlP {w:Nat} {oD:List DV} {L N n a:Nat} {W:Nat} {O:List Int} {R:List (List Int)} (hR:Gr R N W) (hnW:n<W) (hN:N≤300) :
  ∀ (d j:Nat),N=j+d→res B90 (.c15 w oD L N N (n:Int) (a:Int) (j:Int) (O.map aI) (RA R))=res B90 (.c15 w oD L N N (n:Int) (a:Int) (N:Int) (O.map aI) (RA R)):=by
 have hlen:=hR.len
 intro d
 induction d with
 | zero=>intro j hj; rw [show j=N by omega]
 | succ d ih =>
  intro j hj
  rw [← ih (j+1) (by omega),jd]
  have hjR:j<R.length:=by omega
  have hjl:=hR.row j (by omega)
  have a0:=GH hjR
  have c0:=yz hjR
  have a1:=jL (l:=R.getD j []) (i:=n) (by omega)
  have h1:(j:Int)<(N:Int):=by omega
  have h2:0≤(j:Int):=by omega
  have h3:0≤(n:Int):=by omega
  have h4:(n:Int)<(W:Int):=by omega
  have h5:n≤W:=by omega
  have h6:¬ (a:Int)<0:=by omega
  have h7:jc ((j:Int)+1):=by unfold jc; omega
  simp only [B90,jg,h1,decide_true,if_true,jf,PC.holds,h2,je,Int.toNat_natCast,Nat.mul_one,Nat.zero_add,a0,c0,Zg,z6,hjl,h3,h4,List.length_map,h5,jo,a1,jG,h6,decide_false,ite_self,Bool.false_eq_true,if_false,h7,jq,Js,ji,jb]
  rw [show (j:Int)+1=((j+1:Nat):Int) by omega]
theorem jmP {w:Nat} {oD:List DV} {L N n:Nat} {W:Nat} {O:List Int} {R:List (List Int)} (hR:Gr R N W) (hnW:n<W) (hN:N≤300) :
  ∀ (d j:Nat),N=j+d→(∃ k,j≤k∧k<N∧(R.getD k []).getD n 0≠0)→∃ a:Nat,j≤a∧a<N∧(R.getD a []).getD n 0≠0 ∧
   res B90 (.c15 w oD L N N (n:Int) (-1) (j:Int) (O.map aI) (RA R))=res B90 (.c15 w oD L N N (n:Int) (a:Int) (N:Int) (O.map aI) (RA R)):=by
 have hlen:=hR.len
 intro d
 induction d with
 | zero=>rintro j hj ⟨k,h1,h2,_⟩; omega
 | succ d ih =>
  rintro j hj ⟨k,k1,k2,k3⟩
  have hjR:j<R.length:=by omega
  have hjl:=hR.row j (by omega)
  have a0:=GH hjR
  have c0:=yz hjR
  have a1:=jL (l:=R.getD j []) (i:=n) (by omega)
  have h1:(j:Int)<(N:Int):=by omega
  have h2:0≤(j:Int):=by omega
  have h3:0≤(n:Int):=by omega
  have h4:(n:Int)<(W:Int):=by omega
  have h5:n≤W:=by omega
  have h6:(-1:Int)<0:=by omega
  have h7:jc ((j:Int)+1):=by unfold jc; omega
  by_cases hz:(R.getD j []).getD n 0=0
  ·have hb:((R.getD j []).getD n 0 != 0)=false:=by rw [hz]; rfl
   obtain ⟨a,e1,e2,e3,e4⟩:=ih (j+1) (by omega) ⟨k,by
    have:k≠j:=fun c=>k3 (by rw [c]; exact hz)
    omega,k2,k3⟩
   refine ⟨a,by omega,e2,e3,?_⟩
   rw [← e4,jd]
   simp only [B90,jg,h1,decide_true,if_true,jf,PC.holds,h2,je,Int.toNat_natCast,Nat.mul_one,Nat.zero_add,a0,c0,Zg,z6,hjl,h3,h4,List.length_map,h5,jo,a1,jG,hb,Bool.false_eq_true,if_false,h7,jq,Js,ji,jb]
   rw [show (j:Int)+1=((j+1:Nat):Int) by omega]
  ·have hb:((R.getD j []).getD n 0 != 0)=true:=bne_iff_ne.2 hz
   refine ⟨j,by omega,by omega,hz,?_⟩
   have he:=jlP (w:=w) (oD:=oD) (L:=L) (a:=j) (O:=O) hR hnW hN d (j+1) (by omega)
   rw [← he,jd]
   simp only [B90,jg,h1,decide_true,if_true,jf,PC.holds,h2,je,Int.toNat_natCast,Nat.mul_one,Nat.zero_add,a0,c0,Zg,z6,hjl,h3,h4,List.length_map,h5,jo,a1,jG,hb,h6,h7,jq,Js,ji,jb]
   rw [show (j:Int)+1=((j+1:Nat):Int) by omega]
structure ColS (op:List Nat) (Z:List Int) (N:Nat) (R:List (List Int)) (n:Nat):Prop where
 gr:Gr R N (op.length+1)
 el:El op Z N (mat fun j=>R.getD j []) n
theorem jhj {oD:List DV} {L N n:Nat} {O:List Int} {R:List (List Int)} {op:List Nat} {Z:List Int} (h:ColS op Z N R n) (hN:op.length≤N) (hN2:N≤16) (hn:n<op.length) (hp:Places op L) (hL:L≤16) :
  ∃ R',ColS op Z N R' (n+1)∧res B90 (.c13 op.length oD L N N (n:Int) (O.map aI) (RA R))=res B90 (.c13 op.length oD L N N ((n+1:Nat):Int) (O.map aI) (RA R')):=by
 have hlen:=h.gr.len
 obtain ⟨j,j1,j2,j3⟩:=jdI h.el hp hL hN hn
 have j4:(R.getD j []).getD n 0≠0:=fun c=>j3 (by show (17:Int)∣(R.getD j []).getD n 0; rw [c]; exact ⟨0,rfl⟩)
 obtain ⟨c,c1,c2,c3,c4⟩:=jmP (w:=op.length) (oD:=oD) (L:=L) (O:=O) h.gr (show n<op.length+1 by omega) (by omega) (N - n) n (by omega) ⟨j,j1,j2,j4⟩
 have hcR:c<R.length:=by omega
 have hnR:n<R.length:=by omega
 have hcl:=h.gr.row c c2
 have x1:=kg (h.gr.ok c) n
 obtain ⟨v,v1,v2,v3⟩:=jbG (x:=(R.getD c []).getD n 0) (by omega)
 have hPo:=h.gr.ok c
 have hmid:MidS (swR R c n) N (op.length+1) n 0 v (R.getD c []) (fun j=>(swR R c n).getD j []) :=
  ⟨jd2 h.gr c2 (by omega),by rw [gD hcR hnR,if_pos rfl],fun j hj=>by omega,fun j _ _ _=>rfl⟩
 obtain ⟨R',hR',s2⟩:=jnj (w:=op.length) (oD:=oD) (L:=L) (O:=O) (show n<N by omega) (show n<op.length+1 by omega) (by omega) (by omega) (by omega) (fun j=>(jd2 h.gr c2 (by omega)).ok j) hPo hcl N 0 _ (by omega) hmid
 refine ⟨R',⟨hR'.gr,?_⟩,?_⟩
 ·have esw:∀ j k,swp (mat fun j=>R.getD j []) c n j k=((swR R c n).getD j []).getD k 0:=by
   intro j k
   unfold swp
   rw [gD hcR hnR]
   by_cases h1:j=n
   ·rw [if_pos h1,if_pos h1]; rfl
   ·rw [if_neg h1,if_neg h1]
    by_cases h2:j=c
    ·rw [if_pos h2,if_pos h2]; rfl
    ·rw [if_neg h2,if_neg h2]; rfl
  have en:(swR R c n).getD n []=R.getD c []:=by rw [gD hcR hnR,if_pos rfl]
  refine jfu h.el hn c1 c2 (u:=1) (t:=fun j=>(((swR R c n).getD j []).getD n 0*v) % 17) ?_ (by omega) ?_ ?_ ?_
  ·show ¬ (17:Int)∣(R.getD c []).getD n 0
   omega
  ·intro k hk
   rw [esw,en]
   show (17:Int)∣(R'.getD n []).getD k 0 - _
   rw [hR'.piv]
   exact ⟨0,by omega⟩
  ·intro j hj hjn k hk
   rw [esw,esw,en]
   show (17:Int)∣(R'.getD j []).getD k 0 - _
   rw [hR'.done j hj hjn]
   have hjl:((swR R c n).getD j []).length=op.length+1:=(jd2 h.gr c2 (by omega)).row j hj
   rw [kt _ _ _ (by omega),if_pos (by omega)]
   unfold elg
   exact QD _
  ·intro j hj hjn
   rw [esw,esw,en]
   generalize ((swR R c n).getD j []).getD n 0=y
   have g1:(17:Int)∣y*v % 17 - y*v:=QD _
   have g2:=jbN g1 (c:=(R.getD c []).getD n 0) (d:=(R.getD c []).getD n 0) ⟨0,by omega⟩
   have g3:(17:Int)∣v*(R.getD c []).getD n 0 - 1:=by rw [Int.mul_comm]; omega
   have g4:=jbN (a:=y) (b:=y) ⟨0,by omega⟩ g3
   rw [← Int.mul_assoc,Int.mul_one] at g4
   exact je9 (jbA g2 g4)
 ·refine Eq.trans ?_ (c4.trans (Eq.trans ?_ s2))
  ·rw [jd]
   have h1:(n:Int)<(op.length:Int):=by omega
   simp only [B90,jg,h1,decide_true,if_true,jf,PC.holds,je,jq,Js,ji,jb]
  ·rw [jd]
   have h1:¬ ((N:Int)<(N:Int)):=by omega
   have h2:¬ ((c:Int)<0):=by omega
   have h3:0≤(c:Int):=by omega
   have h4:(c:Int)<(N:Int):=by omega
   have h5:0≤(n:Int):=by omega
   have h6:(n:Int)<(N:Int):=by omega
   have h7:c+1≤R.length:=by omega
   have h8:n+1≤R.length:=by omega
   have h9:(n:Int)<((op.length+1:Nat):Int):=by omega
   have h10:n≤op.length+1:=by omega
   have a0:=GH hcR
   have a1:=GH hnR
   have b0:=yz hcR
   have b1:=yz hnR
   have a2:=jL (l:=R.getD c []) (i:=n) (by omega)
   have s0:=jlA (R.getD n []) hcR
   have s1:=jlA (R:=R.set c (R.getD n [])) (i:=n) (R.getD c []) (by rw [List.length_set]; omega)
   rw [hcl] at s1
   simp only [B90,jg,h1,decide_false,Bool.false_eq_true,if_false,h2,jf,PC.holds,h3,h4,h5,h6,je,Int.toNat_natCast,Nat.mul_one,Nat.zero_add,a0,a1,b0,b1,Zg,z6,Y6,List.length_set,h7,h8,jG,s0,hcl,s1,h9,List.length_map,h10,jo,a2,v1,ja,jj,jq,Js,ji,jb]
   rfl
theorem jgw {oD:List DV} {L N:Nat} {O:List Int} {op:List Nat} {Z:List Int} (hN:op.length≤N) (hN2:N≤16) (hp:Places op L) (hL:L≤16) :
  ∀ (d n:Nat) (R:List (List Int)),op.length=n+d→ColS op Z N R n →
  ∃ R',ColS op Z N R' op.length∧res B90 (.c13 op.length oD L N N (n:Int) (O.map aI) (RA R))=res B90 (.c16 op.length oD L N N (op.length:Int) (O.map aI) (RA R')):=by
 intro d
 induction d with
 | zero =>
  intro n R hn h
  have hn:n=op.length:=by omega
  subst hn
  refine ⟨R,h,?_⟩
  have h1:¬ ((op.length:Int)<(op.length:Int)):=by omega
  rw [jd]
  simp only [B90,jg,h1,decide_false,Bool.false_eq_true,if_false,jf,PC.holds,je,jq,Js,ji,jb]
 | succ d ih =>
  intro n R hn h
  obtain ⟨R1,g1,g2⟩:=jhj (oD:=oD) (L:=L) (O:=O) h hN hN2 (by omega) hp hL
  obtain ⟨R',g3,g4⟩:=ih (n+1) R1 (by omega) g1
  exact ⟨R',g3,g2.trans g4⟩
theorem jlO {oD:List DV} {L N w:Nat} {O:List Int} {R:List (List Int)} {W:Nat} (hR:Gr R N W) (hwW:w<W) (hN:N≤300) :
  ∀ (d j:Nat),N=j+d→((∀ k,j≤k→k<N→(R.getD k []).getD w 0=0)→res B90 (.c16 w oD L N N (j:Int) (O.map aI) (RA R))=res B90 (.c18 w oD L N N 0 (O.map aI) (RA R))) ∧
   ((¬ ∀ k,j≤k→k<N→(R.getD k []).getD w 0=0)→res B90 (.c16 w oD L N N (j:Int) (O.map aI) (RA R))=some (0,[],false)):=by
 have hlen:=hR.len
 intro d
 induction d with
 | zero =>
  intro j hj
  have hj:j=N:=by omega
  subst hj
  refine ⟨fun _=>?_,fun h=>absurd (fun k h1 h2=>by omega) h⟩
  have h1:¬ ((j:Int)<(j:Int)):=by omega
  rw [jd]
  simp only [B90,jg,h1,decide_false,Bool.false_eq_true,if_false,jf,PC.holds,je,jq,Js,ji,jb]
 | succ d ih =>
  intro j hj
  have hjR:j<R.length:=by omega
  have hjl:=hR.row j (by omega)
  have a0:=GH hjR
  have c0:=yz hjR
  have a1:=jL (l:=R.getD j []) (i:=w) (by omega)
  have h1:(j:Int)<(N:Int):=by omega
  have h2:0≤(j:Int):=by omega
  have h3:0≤(w:Int):=by omega
  have h4:(w:Int)<(W:Int):=by omega
  have h5:w≤W:=by omega
  have h7:jc ((j:Int)+1):=by unfold jc; omega
  by_cases hz:(R.getD j []).getD w 0=0
  ·have hb:((R.getD j []).getD w 0 != 0)=false:=by rw [hz]; rfl
   have ih:=ih (j+1) (by omega)
   have hs:res B90 (.c16 w oD L N N (j:Int) (O.map aI) (RA R))=res B90 (.c16 w oD L N N ((j+1:Nat):Int) (O.map aI) (RA R)):=by
    rw [jd]
    simp only [B90,jg,h1,decide_true,if_true,jf,PC.holds,h2,je,Int.toNat_natCast,Nat.mul_one,Nat.zero_add,a0,c0,Zg,z6,hjl,h3,h4,List.length_map,h5,jo,a1,hb,Bool.false_eq_true,if_false,h7,jq,Js,ji,jb]
    rw [show (j:Int)+1=((j+1:Nat):Int) by omega]
   rw [hs]
   refine ⟨fun h=>ih.1 fun k h1 h2=>h k (by omega) h2,fun h=>ih.2 fun c=>h fun k h1 h2=>?_⟩
   by_cases hkj:k=j
   ·rw [hkj]; exact hz
   ·exact c k (by omega) h2
  ·have hb:((R.getD j []).getD w 0 != 0)=true:=bne_iff_ne.2 hz
   refine ⟨fun h=>absurd (h j (by omega) (by omega)) hz,fun _=>?_⟩
   rw [jd]
   simp only [B90,jg,h1,decide_true,if_true,jf,PC.holds,h2,je,Int.toNat_natCast,Nat.mul_one,Nat.zero_add,a0,c0,Zg,z6,hjl,h3,h4,List.length_map,h5,jo,a1,hb,jl,jk]
noncomputable def xR (R:List (List Int)) (w k:Nat):Int:=((R.getD k []).getD w 0*(qi ((R.getD k []).getD k 0)).getD 0) % 17
theorem jm6 {oD:List DV} {N:Nat} {op:List Nat} {Z:List Int} {R:List (List Int)} (h:ColS op Z N R op.length) (hD:oD=(oI op).map vI) (hN:op.length≤N) (hN2:N≤16) {O:List Int} (hp:Places op O.length) (hL:O.length≤16) (hO:okS O) :
  ∀ (d k:Nat),op.length=k+d→res B90 (.c18 op.length oD O.length N N (k:Int) ((put O op (xR R op.length) k).map aI) (RA R))=some (O.length,(put O op (xR R op.length) op.length).map vI,true):=by
 subst hD
 have hlen:=h.gr.len
 intro d
 induction d with
 | zero =>
  intro k hk
  have hk:k=op.length:=by omega
  subst hk
  have h1:¬ ((op.length:Int)<(op.length:Int)):=by omega
  have hl:=ky O op (xR R op.length) op.length
  generalize put O op (xR R op.length) op.length=U at hl ⊢
  have ht:List.take O.length (List.drop 0 (U.map aI))=U.map aI:=by rw [List.drop_zero,List.take_of_length_le (by simp [hl])]
  have hle:O.length≤(U.map aI).length:=by simp [hl]
  rw [jd]
  simp only [B90,jg,h1,decide_false,Bool.false_eq_true,if_false,Nat.mul_one,Nat.zero_add,ht,Yp,KK,jf,PC.holds,hle,je,jl,jk]
 | succ d ih =>
  intro k hk
  have ih:=ih (k+1) (by omega)
  have hl:=ky O op (xR R op.length) k
  have hkR:k<R.length:=by omega
  have hkl:=h.gr.row k (by omega)
  have x0:=kg (h.gr.ok k) k
  have x1:=kg (h.gr.ok k) op.length
  have hnz:¬ (17:Int)∣(R.getD k []).getD k 0:=h.el.1.2 k (by omega)
  obtain ⟨v,v1,v2,v3⟩:=jbG (x:=(R.getD k []).getD k 0) (by omega)
  have ex:xR R op.length k=((R.getD k []).getD op.length 0*v) % 17:=by unfold xR; rw [v1]; rfl
  rw [← ih,put,ex,jd]
  generalize put O op (xR R op.length) k=U at hl ⊢
  have a1:=jL (l:=oI op) (i:=k) (by rw [Ju]; omega)
  rw [JJ] at a1
  have a0:=GH hkR
  have c0:=yz hkR
  have a2:=jL (l:=R.getD k []) (i:=op.length) (by omega)
  have a3:=jL (l:=R.getD k []) (i:=k) (by omega)
  have x3:=jab x1 (show 0≤v∧v<17 by omega)
  have hop:=hp.lt k (by omega)
  have hop2:op.getD k 0<U.length:=by omega
  have h1:(k:Int)<(op.length:Int):=by omega
  have h2:0≤(k:Int):=by omega
  have h3:k≤(oI op).length:=by rw [Ju]; omega
  have h4:(k:Int)<(N:Int):=by omega
  have h6:0≤(op.length:Int):=by omega
  have h7:(op.length:Int)<((op.length+1:Nat):Int):=by omega
  have h8:op.length≤op.length+1:=by omega
  have h9:0≤((op.getD k 0:Nat):Int):=by omega
  have h10:((op.getD k 0:Nat):Int)<(O.length:Int):=by omega
  have h11:op.getD k 0+1≤U.length:=by omega
  have h12:jc ((k:Int)+1):=by unfold jc; omega
  have h13:(k:Int)<((op.length+1:Nat):Int):=by omega
  have h14:k≤op.length+1:=by omega
  have h15:jc ((R.getD k []).getD op.length 0*v):=by unfold jc; omega
  simp only [B90,jg,h1,decide_true,if_true,Int.toNat_natCast,Nat.mul_one,Nat.zero_add,c0,Zg,z6,jo,v1,Jj,ja,jf,PC.holds,h2,je,List.length_map,h3,JJ,a1,h4,a0,hkl,h6,h7,h8,a2,h13,h14,a3,jj,h15,h9,h10,h11,jG,jef _ hop2,h12,jq,Js,ji,jb]
  rw [show (k:Int)+1=((k+1:Nat):Int) by omega]
end
section
open Go Go.RowKit
theorem jep:∀ l:List Int,QE (l.map vI)=true:=fun l=>by
 unfold QE
 rw [List.all_eq_true]
 intro x hx
 obtain ⟨y,_,rfl⟩:=List.mem_map.1 hx
 rfl
theorem jj6 (A:List Int) (v:Int):A.map vI++[DV.v (Value.int IntKind.i64 v)]=(A++[v]).map vI:=by rw [List.map_append]; rfl
theorem jfs {R:List (List Int)} {k:Nat} (h:R.length=k) (r:List Int) (n:Nat) (hn:r.length=n):List.take k (RA R)++List.map AV.d [DV.sl n (r.map vI)]=RA (R++[r]):=by
 subst hn
 rw [List.take_of_length_le (by rw [Y6]; omega),← jpi]; rfl
theorem jmu {oD:List DV} {op:List Nat} {L N k:Nat} {a NI:Int} {Z O:List Int} {R:List (List Int)} (hD:oD=(oI op).map vI) (hp:Places op 16) (hw:op.length≤16) (hk:k<N) (hN:N≤16) (hR:R.length=k) :
  ∀ (d t e:Nat),op.length=t+d→res B90 (.c14 op.length oD L N ((jV Z N).map vI) k k ((k+1:Nat):Int) e t ((rwp op k t).map vI) (t:Int) a NI (O.map aI) (RA R) e) =
   res B90 (.c11 op.length oD L N ((jV Z N).map vI) (k+1) (k+1) ((k+1+1:Nat):Int) a NI (O.map aI) (RA (R++[kE op Z k]))):=by
 subst hD
 have hsl:=JT Z N
 intro d
 induction d with
 | zero =>
  intro t e ht
  have ht:t=op.length:=by omega
  subst ht
  have hb:=Zi Z (k+1)
  have hl:=qd op k (Nat.le_refl op.length)
  rw [← Z7 op Z k]
  have hs:=qb Z hk
  have g1:=jL (l:=jV Z N) (i:=k) (by omega)
  rw [hs] at g1
  generalize rwp op k op.length=A at hl ⊢
  generalize syn Z (k+1)=s at hb hs g1 ⊢
  have h1:¬ ((op.length:Int)<(op.length:Int)):=by omega
  have e1:((k+1:Nat):Int) - 1=(k:Int):=by omega
  have h2:jc (k:Int):=by unfold jc; omega
  have h3:0≤(k:Int):=by omega
  have h4:(k:Int)<(N:Int):=by omega
  have h5:k≤(jV Z N).length:=by omega
  have h6:jc (-s):=by unfold jc; omega
  have h7:Jg (op.length+1) 8:=Kg (by omega)
  have h8:Jg (k+1) 24:=by unfold Jg; omega
  have h9:k≤R.length:=by omega
  have h10:jc (((k+1:Nat):Int)+1):=by unfold jc; omega
  have hra:=jfs hR (A++[(-s) % 17]) (op.length+1) (by simp; omega)
  rw [jd]
  simp only [B90,jg,h1,decide_false,Bool.false_eq_true,if_false,e1,jf,PC.holds,h2,h3,h4,je,Int.toNat_natCast,Nat.mul_one,List.length_map,h5,jo,hs,g1,Int.zero_sub,h6,Jj,ja,jj,h7,h8,Y6,h9,h10,jj6,hra,jM,zk,jq,Js,ji,jb]
  rw [show ((k+1:Nat):Int)+1=((k+1+1:Nat):Int) by omega]
 | succ d ih =>
  intro t e ht
  have ih:=ih (t+1) (e+1) (by omega)
  rw [kF op k (by omega),List.map_append] at ih
  have hl:=qd op k (show t≤op.length by omega)
  rw [← ih,jd]
  generalize rwp op k t=A at hl ⊢
  have a1:=jL (l:=oI op) (i:=t) (by rw [Ju]; omega)
  rw [JJ] at a1
  have hop:=hp.lt t (by omega)
  have h1:(t:Int)<(op.length:Int):=by omega
  have h2:0≤(t:Int):=by omega
  have h3:t≤(oI op).length:=by rw [Ju]; omega
  have e1:((op.getD t 0:Nat):Int)*((k+1:Nat):Int)=((op.getD t 0*(k+1):Nat):Int):=by simp
  have hm:op.getD t 0*(k+1)≤16*17:=Nat.mul_le_mul (by omega) (by omega)
  have h5:jc ((op.getD t 0*(k+1):Nat):Int):=by unfold jc; omega
  have h7:jc ((t:Int)+1):=by unfold jc; omega
  have h8:Jg (t+1) 8:=Kg (by omega)
  simp only [B90,jg,h1,decide_true,if_true,jf,PC.holds,h2,je,Int.toNat_natCast,Nat.mul_one,List.length_map,h3,jo,JJ,a1,e1,h5,QO,ja,jj,h7,h8,jq,Js,ji,jb]
  rw [show (t:Int)+1=((t+1:Nat):Int) by omega]
  rfl
theorem jnk {oD:List DV} {op:List Nat} {L N k:Nat} {a NI:Int} {Z O:List Int} {R:List (List Int)} (hD:oD=(oI op).map vI) (hp:Places op 16) (hw:op.length≤16) (hk:k<N) (hN:N≤16) (hR:R.length=k) :
  res B90 (.c12 op.length oD L N ((jV Z N).map vI) k k ((k+1:Nat):Int) 0 a NI (O.map aI) (RA R)) =
   res B90 (.c11 op.length oD L N ((jV Z N).map vI) (k+1) (k+1) ((k+1+1:Nat):Int) a NI (O.map aI) (RA (R++[kE op Z k]))):=by
 have hsl:=JT Z N
 by_cases h0:op.length=0
 ·have hn:op=[]:=List.eq_nil_of_length_eq_zero h0
  have hb:=Zi Z (k+1)
  have hs:=qb Z hk
  have g1:=jL (l:=jV Z N) (i:=k) (by omega)
  rw [hs] at g1
  have h1:¬ ((0:Int)<(op.length:Int)):=by omega
  have e1:((k+1:Nat):Int) - 1=(k:Int):=by omega
  have h2:jc (k:Int):=by unfold jc; omega
  have h3:0≤(k:Int):=by omega
  have h4:(k:Int)<(N:Int):=by omega
  have h5:k≤(jV Z N).length:=by omega
  have h6:jc (-(syn Z (k+1))):=by unfold jc; omega
  have h8:Jg (k+1) 24:=by unfold Jg; omega
  have h9:k≤R.length:=by omega
  have h10:jc (((k+1:Nat):Int)+1):=by unfold jc; omega
  have hra:List.take k (RA R)++List.map AV.d [DV.sl 1 [DV.v (Value.int IntKind.i64 ((-(syn Z (k+1))) % 17))]]=RA (R++[kE op Z k]):=by
   have:=jfs hR (kE op Z k) 1 (by rw [Gj,h0])
   subst hn
   exact this
  rw [jd]
  simp only [B90,jg,h1,decide_false,Bool.false_eq_true,if_false,e1,jf,PC.holds,h2,h3,h4,je,Int.toNat_natCast,Nat.mul_one,List.length_map,h5,jo,hs,g1,Int.zero_sub,h6,Jj,ja,jj,h8,Y6,h9,h10,hra,jM,zk,jq,Js,ji,jb]
  rw [show ((k+1:Nat):Int)+1=((k+1+1:Nat):Int) by omega]
 ·have hc:=jmu (oD:=oD) (L:=L) (a:=a) (NI:=NI) (Z:=Z) (O:=O) (R:=R) hD hp hw hk hN hR (op.length - 1) 1 0 (by omega)
  subst hD
  rw [show rwp op k 1=[pw (op.getD 0 0*(k+1))] from kF op k (by omega)] at hc
  rw [← hc]
  have a1:=jL (l:=oI op) (i:=0) (by rw [Ju]; omega)
  rw [JJ] at a1
  have hop:=hp.lt 0 (by omega)
  have h1:(0:Int)<(op.length:Int):=by omega
  have h2:(0:Int)≤0:=by omega
  have h3:0≤(oI op).length:=by omega
  have e1:((op.getD 0 0:Nat):Int)*((k+1:Nat):Int)=((op.getD 0 0*(k+1):Nat):Int):=by simp
  have hm:op.getD 0 0*(k+1)≤16*17:=Nat.mul_le_mul (by omega) (by omega)
  have h5:jc ((op.getD 0 0*(k+1):Nat):Int):=by unfold jc; omega
  have h7:jc ((0:Int)+1):=by unfold jc; omega
  rw [jd]
  simp only [B90,jg,h1,decide_true,if_true,jf,PC.holds,h2,je,Int.toNat_zero,Nat.mul_one,List.length_map,h3,jo,JJ,a1,e1,h5,QO,ja,jj,h7,jM,zk,jq,Js,ji,jb]
  rfl
theorem jnq {oD:List DV} {op:List Nat} {L N:Nat} {a:Int} {Z O:List Int} (hD:oD=(oI op).map vI) (hp:Places op 16) (hw:op.length≤16) (hN:N≤16) :
  ∀ (d k:Nat),N=k+d→res B90 (.c11 op.length oD L N ((jV Z N).map vI) k k ((k+1:Nat):Int) a (N:Int) (O.map aI) (RA (rws op Z k))) =
   res B90 (.c13 op.length oD L N N 0 (O.map aI) (RA (rws op Z N))):=by
 intro d
 induction d with
 | zero =>
  intro k hk
  have hk:k=N:=by omega
  subst hk
  have h1:¬ (((k+1:Nat):Int)≤(k:Int)):=by omega
  rw [jd]
  simp only [B90,jg,h1,decide_false,Bool.false_eq_true,if_false,jf,PC.holds,je,jM,zk,jq,Js,ji,jb]
 | succ d ih =>
  intro k hk
  have ih:=ih (k+1) (by omega)
  have hr:=jnk (oD:=oD) (L:=L) (a:=a) (NI:=(N:Int)) (Z:=Z) (O:=O) (R:=rws op Z k) hD hp hw (show k<N by omega) hN (zx _ _ _)
  rw [← jdi] at hr
  rw [← ih,← hr,jd]
  have h1:(((k+1:Nat):Int)≤(N:Int)):=by omega
  simp only [B90,jg,h1,decide_true,if_true,jf,PC.holds,je,jq,Js,ji,jb]
theorem jnp {oD:List DV} {op:List Nat} {L N:Nat} {a NI:Int} {Z O:List Int} (hD:oD=(oI op).map vI) (hp:Places op 16) (hw:op.length≤16) (hk:0<N) (hN:N≤16) :
  ∀ (d t e:Nat),op.length=t+d→res B90 (.c10 op.length oD L N ((jV Z N).map vI) 1 e t ((rwp op 0 t).map vI) (t:Int) a NI (O.map aI) e) =
   res B90 (.c11 op.length oD L N ((jV Z N).map vI) 1 1 2 a NI (O.map aI) (RA [kE op Z 0])):=by
 subst hD
 have hsl:=JT Z N
 intro d
 induction d with
 | zero =>
  intro t e ht
  have ht:t=op.length:=by omega
  subst ht
  have hb:=Zi Z (0+1)
  have hl:=qd op 0 (Nat.le_refl op.length)
  rw [← Z7 op Z 0]
  have hs:=qb Z hk
  have g1:=jL (l:=jV Z N) (i:=0) (by omega)
  rw [hs] at g1
  generalize rwp op 0 op.length=A at hl ⊢
  generalize syn Z (0+1)=s at hb hs g1 ⊢
  have h1:¬ ((op.length:Int)<(op.length:Int)):=by omega
  have e1:(1:Int) - 1=0:=by omega
  have h2:jc (0:Int):=by unfold jc; omega
  have h3:(0:Int)≤0:=by omega
  have h4:(0:Int)<(N:Int):=by omega
  have h5:0≤(jV Z N).length:=by omega
  have h6:jc (-s):=by unfold jc; omega
  have h7:Jg (op.length+1) 8:=Kg (by omega)
  have h10:jc ((1:Int)+1):=by unfold jc; omega
  have hra:[AV.d (DV.sl (op.length+1) ((A++[(-s) % 17]).map vI))]=RA [A++[(-s) % 17]]:=by
   rw [← jpn,show (A++[(-s) % 17]).length=op.length+1 by simp; omega]
  rw [jd]
  simp only [B90,jg,h1,decide_false,Bool.false_eq_true,if_false,e1,jf,PC.holds,h2,h3,h4,je,Int.toNat_zero,Nat.mul_one,List.length_map,h5,jo,hs,g1,Int.zero_sub,h6,Jj,ja,jj,h7,h10,jj6,hra,jG,jM,jq,ji,jb]
  rfl
 | succ d ih =>
  intro t e ht
  have ih:=ih (t+1) (e+1) (by omega)
  rw [kF op 0 (by omega),List.map_append] at ih
  have hl:=qd op 0 (show t≤op.length by omega)
  rw [← ih,jd]
  generalize rwp op 0 t=A at hl ⊢
  have a1:=jL (l:=oI op) (i:=t) (by rw [Ju]; omega)
  rw [JJ] at a1
  have hop:=hp.lt t (by omega)
  have h1:(t:Int)<(op.length:Int):=by omega
  have h2:0≤(t:Int):=by omega
  have h3:t≤(oI op).length:=by rw [Ju]; omega
  have e1:((op.getD t 0:Nat):Int)*1=((op.getD t 0*(0+1):Nat):Int):=by simp
  have h5:jc ((op.getD t 0*(0+1):Nat):Int):=by unfold jc; omega
  have h7:jc ((t:Int)+1):=by unfold jc; omega
  have h8:Jg (t+1) 8:=Kg (by omega)
  simp only [B90,jg,h1,decide_true,if_true,jf,PC.holds,h2,je,Int.toNat_natCast,Nat.mul_one,List.length_map,h3,jo,JJ,a1,e1,h5,QO,ja,jj,h7,h8,jq,ji,jb]
  rw [show (t:Int)+1=((t+1:Nat):Int) by omega]
  rfl
theorem jqK {oD:List DV} {op:List Nat} {L N:Nat} {a NI:Int} {Z O:List Int} (hD:oD=(oI op).map vI) (hp:Places op 16) (hw:op.length≤16) (hk:0<N) (hN:N≤16) :
  res B90 (.c6 op.length oD L N ((jV Z N).map vI) 1 0 a NI (O.map aI)) =
   res B90 (.c11 op.length oD L N ((jV Z N).map vI) 1 1 2 a NI (O.map aI) (RA [kE op Z 0])):=by
 have hsl:=JT Z N
 by_cases h0:op.length=0
 ·have hn:op=[]:=List.eq_nil_of_length_eq_zero h0
  have hb:=Zi Z (0+1)
  have hs:=qb Z hk
  have g1:=jL (l:=jV Z N) (i:=0) (by omega)
  rw [hs] at g1
  have h1:¬ ((0:Int)<(op.length:Int)):=by omega
  have e1:(1:Int) - 1=0:=by omega
  have h2:jc (0:Int):=by unfold jc; omega
  have h3:(0:Int)≤0:=by omega
  have h4:(0:Int)<(N:Int):=by omega
  have h5:0≤(jV Z N).length:=by omega
  have h6:jc (-(syn Z (0+1))):=by unfold jc; omega
  have h10:jc ((1:Int)+1):=by unfold jc; omega
  have hra:[AV.d (DV.sl 1 [DV.v (Value.int IntKind.i64 ((-(syn Z (0+1))) % 17))])]=RA [kE op Z 0]:=by
   subst hn; rfl
  rw [jd]
  simp only [B90,jg,h1,decide_false,Bool.false_eq_true,if_false,e1,jf,PC.holds,h2,h3,h4,je,Int.toNat_zero,Nat.mul_one,List.length_map,h5,jo,hs,g1,Int.zero_sub,h6,Jj,ja,jj,h10,hra,jG,jM,jq,ji,jb]
  rfl
 ·have hc:=jnp (oD:=oD) (L:=L) (a:=a) (NI:=NI) (Z:=Z) (O:=O) hD hp hw hk hN (op.length - 1) 1 0 (by omega)
  subst hD
  rw [show rwp op 0 1=[pw (op.getD 0 0*(0+1))] from kF op 0 (by omega)] at hc
  rw [← hc]
  have a1:=jL (l:=oI op) (i:=0) (by rw [Ju]; omega)
  rw [JJ] at a1
  have hop:=hp.lt 0 (by omega)
  have h1:(0:Int)<(op.length:Int):=by omega
  have h2:(0:Int)≤0:=by omega
  have h3:0≤(oI op).length:=by omega
  have e1:((op.getD 0 0:Nat):Int)*1=((op.getD 0 0*(0+1):Nat):Int):=by simp
  have h5:jc ((op.getD 0 0*(0+1):Nat):Int):=by unfold jc; omega
  have h7:jc ((0:Int)+1):=by unfold jc; omega
  rw [jd]
  simp only [B90,jg,h1,decide_true,if_true,jf,PC.holds,h2,je,Int.toNat_zero,Nat.mul_one,List.length_map,h3,jo,JJ,a1,e1,h5,QO,ja,jj,h7,jM,jq,ji,jb]
  rfl
theorem jpD {oD:List DV} {op:List Nat} {l:List Int} {N:Nat} {a:Int} (hD:oD=(oI op).map vI) (hp:Places op l.length) (hw:op.length≤16) (hl:l.length≤300) (hs:okS l) (hN:N≤16) (hN1:1≤N) :
  ∀ (d k:Nat),op.length=k+d→res B90 (.c1 op.length oD l.length (k:Int) a (N:Int) ((put l op (fun _=>0) k).map aI)) =
   res B90 (.c3 op.length oD l.length N ((jV (jH l op) N).map vI) 1 a (N:Int) ((jH l op).map aI)):=by
 subst hD
 intro d
 induction d with
 | zero =>
  intro k hk
  have hk:k=op.length:=by omega
  subst hk
  have h1:¬ ((op.length:Int)<(op.length:Int)):=by omega
  have hZ:put l op (fun _=>0) op.length=jH l op:=rfl
  have hl2:=kK l op
  have hZo:=zv (op:=op) hs
  rw [hZ]
  have h23:=jmW a (k:=N) (l:=jH l op) (by omega) ⟨hN1,hN⟩ hZo
  rw [hl2] at h23
  generalize jH l op=Z at hl2 h23 ⊢
  have ht:List.take l.length (List.drop 0 (Z.map aI))=Z.map aI:=by rw [List.drop_zero,List.take_of_length_le (by simp [hl2])]
  have hle:l.length≤(Z.map aI).length:=by simp [hl2]
  have ho:KD (AV.own 0 0 1 N ((jV Z N).map vI))=N:=rfl
  have hb:N.beq 0=false:=by rw [← Bool.not_eq_true,Nat.beq_eq]; omega
  have h3:0<N:=by omega
  rw [jd]
  simp only [B90,jg,h1,decide_false,Bool.false_eq_true,if_false,Nat.mul_one,Nat.zero_add,ht,Yp,KK,h23,ja,ho,hb,jj,jf,PC.holds,hle,h3,jep,je,jq,ji,jb]
 | succ d ih =>
  intro k hk
  have ih:=ih (k+1) (by omega)
  have hl2:=ky l op (fun _=>0) k
  rw [← ih,put,jd]
  generalize put l op (fun _=>0) k=U at hl2 ⊢
  have a1:=jL (l:=oI op) (i:=k) (by rw [Ju]; omega)
  rw [JJ] at a1
  have hop:=hp.lt k (by omega)
  have hop2:op.getD k 0<U.length:=by omega
  have h1:(k:Int)<(op.length:Int):=by omega
  have h2:0≤(k:Int):=by omega
  have h3:k≤(oI op).length:=by rw [Ju]; omega
  have h9:0≤((op.getD k 0:Nat):Int):=by omega
  have h10:((op.getD k 0:Nat):Int)<(l.length:Int):=by omega
  have h11:op.getD k 0+1≤U.length:=by omega
  have h12:jc ((k:Int)+1):=by unfold jc; omega
  simp only [B90,jg,h1,decide_true,if_true,jf,PC.holds,h2,je,Int.toNat_natCast,Nat.mul_one,Nat.zero_add,List.length_map,h3,jo,JJ,a1,h9,h10,h11,jG,jef _ hop2,h12,jq,ji,jb]
  rw [show (k:Int)+1=((k+1:Nat):Int) by omega]
theorem jmn {l:List Int} {op:List Nat} {N:Nat} (a:Int) (hl:l.length≤16) (hl0:0<l.length) (hs:okS l) (hp:Places op l.length) (hw:op.length≤N) (hN:N≤16) (hN1:1≤N) :
  (∃ o,F90 a (N:Int) l.length (l.map vI) op.length ((oI op).map vI)=some (l.length,o.map vI,true)∧SolW l op N o) ∨
   ((¬ ∃ o,SolW l op N o)∧op.length<N∧F90 a (N:Int) l.length (l.map vI) op.length ((oI op).map vI)=some (0,[],false)):=by
 have hp16:Places op 16:=⟨fun k hk=>by have:=hp.lt k hk; omega,hp.inj⟩
 have hZl:=kK l op
 have hZo:=zv (op:=op) hs
 have hpZ:Places op (jH l op).length:=by rw [hZl]; exact hp
 have col0:ColS op (jH l op) N (rws op (jH l op) N) 0:=by
  refine ⟨⟨zx _ _ _,fun p hpN=>?_,fun p=>?_⟩,?_⟩
  ·rw [Zs _ _ hpN,Gj]
  ·by_cases hpN:p<N
   ·rw [Zs _ _ hpN]; exact jfP _ _ _
   ·rw [List.getD_eq_getElem?_getD,List.getElem?_eq_none (by rw [zx]; omega)]; intro x hx; simp at hx
  ·refine ⟨yU _ _,fun v=>?_⟩
   constructor
   ·intro h j hj
    have:=h j hj
    simp only [mat,Zs op (jH l op) hj] at this
    exact this
   ·intro h j hj
    have:=h j hj
    show (17:Int)∣sm (fun k=>mat (fun j=>(rws op (jH l op) N).getD j []) j k*v k) (op.length+1)
    simp only [mat,Zs op (jH l op) hj]
    exact this
 obtain ⟨R',hcol,r13⟩:=jgw (oD:=(oI op).map vI) (L:=l.length) (O:=jH l op) hw hN hp hl op.length 0 _ (by omega) col0
 have r16:=jlO (oD:=(oI op).map vI) (L:=l.length) (O:=jH l op) (w:=op.length) hcol.gr (by omega) (by omega) (N - op.length) op.length (by omega)
 have r18:=jm6 (oD:=(oI op).map vI) hcol rfl hw hN hpZ (by omega) hZo op.length 0 (by omega)
 have r1:=jpD (oD:=(oI op).map vI) (a:=a) (N:=N) (l:=l) rfl hp (by omega) (by omega) hs hN hN1 op.length 0 (by omega)
 have r6:=jqK (oD:=(oI op).map vI) (L:=l.length) (a:=a) (NI:=(N:Int)) (Z:=jH l op) (O:=jH l op) rfl hp16 (by omega) hN1 hN
 have r11:=jnq (oD:=(oI op).map vI) (L:=l.length) (N:=N) (a:=a) (Z:=jH l op) (O:=jH l op) rfl hp16 (by omega) hN (N - 1) 1 (by omega)
 have r3:res B90 (.c3 op.length ((oI op).map vI) l.length N ((jV (jH l op) N).map vI) 1 a (N:Int) ((jH l op).map aI))=res B90 (.c6 op.length ((oI op).map vI) l.length N ((jV (jH l op) N).map vI) 1 0 a (N:Int) ((jH l op).map aI)):=by
  have h1:(1:Int)≤(N:Int):=by omega
  rw [jd]
  simp only [B90,jg,h1,decide_true,if_true,jf,PC.holds,je,jq,ji,jb]
 have r0:F90 a (N:Int) l.length (l.map vI) op.length ((oI op).map vI)=res B90 (.c16 op.length ((oI op).map vI) l.length N N (op.length:Int) ((jH l op).map aI) (RA R')):=by
  refine Eq.trans ?_ (r1.trans (r3.trans (r6.trans (r11.trans r13))))
  unfold F90
  rw [jd]
  have z1:List.map AV.d (l.map vI)=l.map aI:=by rw [List.map_map]; rfl
  have h8:Jg l.length 8:=Kg (by omega)
  simp only [B90,jf,PC.holds,hl0,List.length_map,Nat.mul_one,h8,z1,je,jM,jq,ji,jb]
  rfl
 have hx:∀ k,k<op.length→0≤xR R' op.length k∧xR R' op.length k<17:=fun k _=>by unfold xR; omega
 have hsol:=jj8 (l:=l) (x:=xR R' op.length) hcol.el hp hw hs hx (fun k hk=>by
  show (17:Int)∣(R'.getD k []).getD k 0*xR R' op.length k - (R'.getD k []).getD op.length 0
  have x0:=kg (hcol.gr.ok k) k
  have hnz:¬ (17:Int)∣(R'.getD k []).getD k 0:=hcol.el.1.2 k hk
  obtain ⟨v,v1,v2,v3⟩:=jbG (x:=(R'.getD k []).getD k 0) (by omega)
  have ex:xR R' op.length k=((R'.getD k []).getD op.length 0*v) % 17:=by unfold xR; rw [v1]; rfl
  rw [ex]
  generalize (R'.getD k []).getD k 0=y at v3 ⊢
  generalize (R'.getD k []).getD op.length 0=z
  have g1:=jbN (a:=y) (b:=y) ⟨0,by omega⟩ (QD (z*v))
  have g2:(17:Int)∣y*v - 1:=by omega
  have g3:=jbN (a:=z) (b:=z) ⟨0,by omega⟩ g2
  have e1:y*(z*v)=z*(y*v):=by rw [← Int.mul_assoc,Int.mul_comm y z,Int.mul_assoc]
  rw [e1] at g1
  rw [Int.mul_one] at g3
  exact jbA g1 g3)
 by_cases hq:∀ k,op.length≤k→k<N→(R'.getD k []).getD op.length 0=0
 ·left
  refine ⟨put (jH l op) op (xR R' op.length) op.length,?_,hsol.2.1,hsol.1,fun i _ hi=>gZ hi,hsol.2.2.2.2 fun j h1 h2=>?_⟩
  ·rw [r0,r16.1 hq]
   rw [hZl] at r18
   exact r18
  ·show (17:Int)∣(R'.getD j []).getD op.length 0
   rw [hq j h1 h2]; exact ⟨0,rfl⟩
 ·right
  refine ⟨?_,?_,by rw [r0,r16.2 hq]⟩
  ·rintro ⟨o,ho⟩
   have e:=hsol.2.2.1 o ho
   have hi:=ho.is
   rw [← e] at hi
   refine hq fun k h1 h2=>?_
   have h3:(17:Int)∣(R'.getD k []).getD op.length 0:=hsol.2.2.2.1 hi k h1 h2
   have h4:=kg (hcol.gr.ok k) op.length
   omega
  ·apply Classical.byContradiction
   intro hc
   exact hq fun k h1 h2=>by omega
end
section
open Go Go.RowKit
theorem jiR (i:Nat):(List.replicate i (0:Int)).map vI++[DV.v (Value.int IntKind.i64 0)]=(List.replicate (i+1) (0:Int)).map vI:=by
 rw [List.replicate_succ',List.map_append]; rfl
theorem jpk {N:Nat} (a:Int) {m:List Int} {o:List Int} {b:Bool} (hm:0<m.length) (hN:N≤16) (hL:N+m.length≤16)
  (h90:F90 a (N:Int) (N+m.length) ((zQ N m).map vI) N ((oI (List.range N)).map vI)=some (N+m.length,o.map vI,b)) :
  ∀ (d i:Nat),N=i+1+d→res B26 (.c2 m.length (m.map vI) i (i+1) ((List.replicate (i+1) (0:Int)).map vI) i (i+1) ((oI (List.range (i+1))).map vI) ((i+1:Nat):Int) a (N:Int) i i)=some (N+m.length,o.map vI):=by
 intro d
 induction d with
 | zero =>
  intro i hi
  have hi:N=i+1:=by omega
  subst hi
  have hpad:(List.replicate (i+1) (0:Int)).map vI++m.map vI=(zQ (i+1) m).map vI:=by unfold zQ; rw [List.map_append]
  have h1:¬ (((i+1:Nat):Int)<((i+1:Nat):Int)):=by omega
  have h2:m.length.beq 0=false:=by rw [← Bool.not_eq_true,Nat.beq_eq]; omega
  have h5:Jg (i+1+m.length) 8:=Kg (by omega)
  rw [jd]
  simp only [B26,jg,h1,decide_false,Bool.false_eq_true,if_false,h2,hpad,h90,ja,jf,PC.holds,hm,List.length_map,Nat.mul_one,h5,je,jj,jl,jk]
 | succ d ih =>
  intro i hi
  have ih:=ih (i+1) (by omega)
  have h1:(((i+1:Nat):Int)<(N:Int)):=by omega
  have h2:jc (((i+1:Nat):Int)+1):=by unfold jc; omega
  have h5:Jg (i+1+1) 8:=Kg (by omega)
  rw [jd]
  simp only [B26,jg,h1,decide_true,if_true,jf,PC.holds,h5,h2,je,ji,jb,zX,jiR]
  rw [show ((i+1:Nat):Int)+1=((i+1+1:Nat):Int) by omega]
  exact ih
theorem jpJ {N:Nat} (a:Int) {m:List Int} {o:List Int} {b:Bool} (hm:0<m.length) (hN:N≤16) (hN1:1≤N) (hL:N+m.length≤16)
  (h90:F90 a (N:Int) (N+m.length) ((zQ N m).map vI) N ((oI (List.range N)).map vI)=some (N+m.length,o.map vI,b)) :
  F26 a (N:Int) m.length (m.map vI)=some (N+m.length,o.map vI):=by
 unfold F26; rw [jd]
 simp only [B26,ji,jb]
 rw [jd]
 have h1:(0:Int)<(N:Int):=by omega
 have h2:jc ((0:Int)+1):=by unfold jc; omega
 simp only [B26,jg,h1,decide_true,if_true,jf,PC.holds,h2,je,ji,jb]
 exact jpk a hm hN hL h90 (N - 1) 0 (by omega)
theorem jhv {N:Nat} (a:Int) {m:List Int} (hm:0<m.length) (hs:okS m) (hN1:1≤N) (hL:N+m.length≤16) :
  ∃ o,F26 a (N:Int) m.length (m.map vI)=some (N+m.length,o.map vI)∧Wd (N+m.length) N o∧o.drop N=m:=by
 have hpl:=jda N m
 rcases jmn (l:=zQ N m) (op:=List.range N) (N:=N) a (by omega) (by omega) (jfk hs) (Qi (by omega)) (by simp) (by omega) hN1 with ⟨o,h1,h2⟩ | ⟨_,h,_⟩
 ·rw [List.length_range,hpl] at h1
  refine ⟨o,jpJ a hm (by omega) hN1 hL h1,⟨by rw [h2.len,hpl],h2.ok,h2.is⟩,?_⟩
  have hol:=h2.len
  apply qI (by rw [List.length_drop]; omega)
  intro i hi
  rw [List.length_drop] at hi
  rw [yY,h2.off (N+i) (by omega) (by rw [Zv]; omega),jfc]
 ·rw [List.length_range] at h; omega
theorem jdw {N:Nat} (a b:Int) {m:List Int} (hm:0<m.length) (hs:okS m) (hN1:1≤N) (hL:N+m.length≤16) :
  ∃ o,F85 a (N:Int) m.length (m.map vI)=some (N+m.length,o.map vI)∧F26 b (N:Int) m.length (m.map vI)=some (N+m.length,o.map vI)∧Wd (N+m.length) N o∧o.drop N=m:=by
 obtain ⟨o,h1,h2,h3⟩:=jlH a hm hs hN1 hL
 obtain ⟨o',g1,g2,g3⟩:=jhv b hm hs hN1 hL
 have e:=jkh h2 g2 hN1 (by omega) hL (by rw [h3,g3])
 subst e
 exact ⟨o,h1,g1,h2,h3⟩
end
section
open Go Go.RowKit
theorem yw:F30 0 [] 0 []=some true:=by
 have h:=jll [] [] (by simp)
 exact h
theorem Q8 (l:List Int) (h:l.length≤1000) {n:Nat} (hn:l.length=n):F30 n (l.map vI) n (l.map vI)=some true:=by
 subst hn
 rw [jll l l h,decide_eq_true rfl]
theorem jcR {m:Nat} (h:KB m):m≤300:=by unfold KB at h; omega
theorem jd9 (n k:Int) (l m:List Int):F3 n k l.length (l.map vI) m.length (m.map vI)=some true:=by
 unfold F3; rw [jd]
 by_cases hsl:KB l.length
 ·by_cases hsm:KB m.length
  ·have hl:=jcR hsl
   have hm:=jcR hsm
   have d1:decide (KB l.length)=true:=decide_eq_true hsl
   have d2:decide (KB m.length)=true:=decide_eq_true hsm
   have g17l:=jlE l hl
   have g17m:=jlE m hm
   have g21:=jpl n k l hl
   have g22:=jqL n k hm
   have g29:=QK n k l hl
   by_cases z1:kP n k l=0
   ·have b1:(kP n k l==0)=true:=by rw [z1]; rfl
    obtain ⟨hc,hln,hsy⟩:=jeX.1 z1
    have hck:=Qp.1 hc
    obtain ⟨K,rfl⟩:∃ K:Nat,k=(K:Int):=⟨k.toNat,by omega⟩
    have g16:=jpy (n:=n) (k:=K) hl (by omega) hsy z1
    have g18:=jql (n:=n) (k:=K) hl (by omega) hsy z1
    have g20:=jpB (n:=n) (k:=K) hl (by omega) hsy z1 (by omega)
    have g23:=jk9 n (k:=K) hl (by omega) hsy
    have g24:=jpu n (k:=K) hl (by omega) hsy
    have s30:F30 K ((jV l K).map vI) K ((jV l K).map vI)=some true:=Q8 _ (by rw [JT]; omega) (JT l K)
    by_cases z2:YS n (K:Int) m=0
    ·have b2:(YS n (K:Int) m==0)=true:=by rw [z2]; rfl
     obtain ⟨_,hmn,hmy⟩:=ja1.1 z2
     obtain ⟨o,e85,e26,hw,hd⟩:=jdw n n (N:=K) (m:=m) (by omega) hmy (by omega) (by omega)
     have g19:=jjJ hm z2 e85
     have o30:F30 (K+m.length) (o.map vI) (K+m.length) (o.map vI)=some true:=Q8 _ (by rw [hw.len]; omega) hw.len
     cases hi:isW l K
     ·rw [hi] at g18 g20 g24
      have w0:(kX true 27==0)=false:=rfl
      simp only [Bool.false_eq_true,if_false] at g20
      simp only [B3,Q1,d1,d2,ja,jj,jG,Bool.not_true,Bool.false_eq_true,if_false,jg,g17l,g17m,g16,g18,g19,g20,g21,g22,b1,if_true,g23,g24,Q7,ji,jb]
      rw [jd]
      simp only [B3,jg,b2,if_true,e26,ja,jj,ji,jb]
      rw [jd]
      simp only [B3,Bool.not_false,w0,jg,Bool.false_eq_true,if_false,ji,jb]
      rw [jd]
      simp only [B3,Qe,QY,g17l,g29,s30,o30,yw,QV,ja,jj,jG,jl,jk,z1,z2,BEq.rfl,if_true]
      rfl
     ·rw [hi] at g18 g20 g24
      have w0:(kX false 27==0)=true:=rfl
      simp only [if_true] at g20
      have h1:0≤(K:Int):=by omega
      have h2:(K:Int)≤(l.length:Int):=by omega
      have e1:((l.length:Int) - (K:Int)).toNat=l.length - K:=by omega
      have e2:List.take (l.length - K) (List.drop K (l.map vI))=(l.drop K).map vI:=by
       rw [← List.map_drop,List.take_of_length_le (by simp)]
      have t30:F30 (l.length - K) ((l.drop K).map vI) (l.length - K) ((l.drop K).map vI)=some true:=Q8 _ (by rw [List.length_drop]; omega) (List.length_drop ..)
      simp only [B3,Q1,d1,d2,ja,jj,jG,Bool.not_true,Bool.false_eq_true,if_false,jg,g17l,g17m,g16,g18,g19,g20,g21,g22,b1,if_true,g23,g24,Q7,ji,jb]
      rw [jd]
      simp only [B3,jg,b2,if_true,e26,ja,jj,ji,jb]
      rw [jd]
      simp only [B3,w0,jg,if_true,jf,PC.holds,h1,h2,Int.le_refl,List.length_map,Nat.mul_one,je,Int.toNat_natCast,e1,e2,ji,jb]
      rw [jd]
      simp only [B3,Qe,QY,g17l,g29,s30,o30,t30,QV,ja,jj,jG,jl,jk,z1,z2,BEq.rfl,if_true]
      rfl
    ·have b2:(YS n (K:Int) m==0)=false:=beq_eq_false_iff_ne.2 z2
     have g19:=jf3 hm z2
     cases hi:isW l K
     ·rw [hi] at g18 g20 g24
      have w0:(kX true 27==0)=false:=rfl
      simp only [Bool.false_eq_true,if_false] at g20
      simp only [B3,Q1,d1,d2,ja,jj,jG,Bool.not_true,Bool.false_eq_true,if_false,jg,g17l,g17m,g16,g18,g19,g20,g21,g22,b1,if_true,g23,g24,Q7,ji,jb]
      rw [jd]
      simp only [B3,jg,b2,Bool.false_eq_true,if_false,ji,jb]
      rw [jd]
      simp only [B3,Bool.not_false,w0,jg,Bool.false_eq_true,if_false,ji,jb]
      rw [jd]
      simp only [B3,Qe,QY,g17l,g29,s30,yw,QV,ja,jj,jG,jl,jk,z1,BEq.rfl,if_true]
      rfl
     ·rw [hi] at g18 g20 g24
      have w0:(kX false 27==0)=true:=rfl
      simp only [if_true] at g20
      have h1:0≤(K:Int):=by omega
      have h2:(K:Int)≤(l.length:Int):=by omega
      have e1:((l.length:Int) - (K:Int)).toNat=l.length - K:=by omega
      have e2:List.take (l.length - K) (List.drop K (l.map vI))=(l.drop K).map vI:=by
       rw [← List.map_drop,List.take_of_length_le (by simp)]
      have t30:F30 (l.length - K) ((l.drop K).map vI) (l.length - K) ((l.drop K).map vI)=some true:=Q8 _ (by rw [List.length_drop]; omega) (List.length_drop ..)
      simp only [B3,Q1,d1,d2,ja,jj,jG,Bool.not_true,Bool.false_eq_true,if_false,jg,g17l,g17m,g16,g18,g19,g20,g21,g22,b1,if_true,g23,g24,Q7,ji,jb]
      rw [jd]
      simp only [B3,jg,b2,Bool.false_eq_true,if_false,ji,jb]
      rw [jd]
      simp only [B3,w0,jg,if_true,jf,PC.holds,h1,h2,Int.le_refl,List.length_map,Nat.mul_one,je,Int.toNat_natCast,e1,e2,ji,jb]
      rw [jd]
      simp only [B3,Qe,QY,g17l,g29,s30,yw,t30,QV,ja,jj,jG,jl,jk,z1,BEq.rfl,if_true]
      rfl
   ·have b1:(kP n k l==0)=false:=beq_eq_false_iff_ne.2 z1
    have g16:=jmv (n:=n) (k:=k) hl z1
    have g18:=jmw (n:=n) (k:=k) hl z1
    have g20:=jno (n:=n) (k:=k) hl z1
    by_cases z2:YS n k m=0
    ·have b2:(YS n k m==0)=true:=by rw [z2]; rfl
     obtain ⟨hc,hmn,hmy⟩:=ja1.1 z2
     have hck:=Qp.1 hc
     obtain ⟨K,rfl⟩:∃ K:Nat,k=(K:Int):=⟨k.toNat,by omega⟩
     obtain ⟨o,e85,e26,hw,hd⟩:=jdw n n (N:=K) (m:=m) (by omega) hmy (by omega) (by omega)
     have g19:=jjJ hm z2 e85
     have o30:F30 (K+m.length) (o.map vI) (K+m.length) (o.map vI)=some true:=Q8 _ (by rw [hw.len]; omega) hw.len
     simp only [B3,Q1,d1,d2,ja,jj,jG,Bool.not_true,Bool.false_eq_true,if_false,jg,g17l,g17m,g16,g18,g19,g20,g21,g22,b1,ji,jb]
     rw [jd]
     simp only [B3,jg,b2,if_true,e26,ja,jj,ji,jb]
     rw [jd]
     simp only [B3,b1,jg,Bool.false_eq_true,if_false,ji,jb]
     rw [jd]
     simp only [B3,Qe,QY,g17l,g29,o30,yw,QV,ja,jj,jG,jl,jk,z2,BEq.rfl,if_true]
    ·have b2:(YS n k m==0)=false:=beq_eq_false_iff_ne.2 z2
     have g19:=jf3 hm z2
     simp only [B3,Q1,d1,d2,ja,jj,jG,Bool.not_true,Bool.false_eq_true,if_false,jg,g17l,g17m,g16,g18,g19,g20,g21,g22,b1,ji,jb]
     rw [jd]
     simp only [B3,jg,b2,Bool.false_eq_true,if_false,ji,jb]
     rw [jd]
     simp only [B3,b1,jg,Bool.false_eq_true,if_false,ji,jb]
     rw [jd]
     simp only [B3,Qe,QY,g17l,g29,yw,QV,ja,jj,jG,jl,jk,BEq.rfl,if_true]
  ·have d2:decide (KB m.length)=false:=decide_eq_false hsm
   simp only [B3,Q1,d2,ja,jj,jG,Bool.not_false,ite_self,if_true,jg,QV,jl,jk]
 ·have d1:decide (KB l.length)=false:=decide_eq_false hsl
  simp only [B3,Q1,d1,ja,jj,jG,Bool.not_false,if_true,jg,QV,jl,jk]
end
end Go.Kv
