import Derived.Test.YtdelimpnnpifpaaGreatDoorGL9
import Derived.Test.YtdelimpnnpifpaaGreatDoorKCk
set_option linter.all false
namespace Go.Kv
open Go Go.RowKit Go.Proofs
set_option maxRecDepth 100000
theorem pw_succ (n:Nat):pw (n+1)=(3*pw n) % 17:=by
 unfold pw
 have h:n % 16<16:=Nat.mod_lt _ (by omega)
 have e:(n+1) % 16=(n % 16+1) % 16:=by omega
 rw [e]
 generalize n % 16=m at h
 have:m=0∨m=1∨m=2∨m=3∨m=4∨m=5∨m=6∨m=7∨m=8∨m=9∨m=10∨m=11∨m=12∨m=13∨m=14∨m=15:=by omega
 rcases this with rfl | rfl | rfl | rfl | rfl | rfl | rfl | rfl | rfl | rfl | rfl | rfl | rfl | rfl | rfl | rfl
 all_goals decide
theorem synF_bd (j:Nat):∀ (l:List Int) (i:Nat) (a:Int),0≤a∧a<17→0≤Zf l j i a∧Zf l j i a<17
 | [],_,_,h=>h
 | x :: xs,i,a,_=>synF_bd j xs (i+1) _ (by omega)
section
def sm (f:Nat→Int):Nat→Int
 | 0=>0
 | n+1=>sm f n+f n
theorem qz {f g:Nat→Int}:∀ {n:Nat},(∀ k,k<n→f k=g k)→sm f n=sm g n
 | 0,_=>rfl
 | n+1,h=>by simp only [sm]; rw [qz fun k hk=>h k (by omega),h n (by omega)]
theorem jjj (f g:Nat→Int):∀ n,sm (fun k=>f k+g k) n=sm f n+sm g n
 | 0=>rfl
 | n+1=>by simp only [sm]; rw [jjj f g n]; omega
theorem Ge (c:Int) (f:Nat→Int):∀ n,sm (fun k=>c*f k) n=c*sm f n
 | 0=>by simp [sm]
 | n+1=>by simp only [sm]; rw [Ge c f n,Int.mul_add]
theorem gL (f g:Nat→Int):∀ n,sm (fun k=>f k - g k) n=sm f n - sm g n
 | 0=>rfl
 | n+1=>by simp only [sm]; rw [gL f g n]; omega
theorem zV {f:Nat→Int}:∀ {n:Nat},(∀ k,k<n→(17:Int)∣f k)→(17:Int)∣sm f n
 | 0,_=>⟨0,rfl⟩
 | n+1,h=>by
  simp only [sm]
  exact Int.dvd_add (zV fun k hk=>h k (by omega)) (h n (by omega))
theorem zt (f:Nat→Int) (a:Nat):∀ n,sm f n=sm (fun k=>if k=a then 0 else f k) n+(if a<n then f a else 0)
 | 0=>by simp [sm]
 | n+1=>by
  simp only [sm]
  rw [zt f a n]
  by_cases h:n=a
  ·subst h; simp
  ·rw [if_neg h]
   by_cases h2:a<n
   ·rw [if_pos h2,if_pos (by omega)]; omega
   ·rw [if_neg h2,if_neg (by omega)]; omega
theorem jiT {f:Nat→Int} {n a:Nat} (ha:a<n) (h:∀ k,k<n→k≠a→(17:Int)∣f k):(17:Int)∣sm f n↔(17:Int)∣f a:=by
 rw [zt f a n,if_pos ha]
 have:(17:Int)∣sm (fun k=>if k=a then 0 else f k) n:=zV fun k hk=>by
  by_cases e:k=a
  ·rw [if_pos e]; exact ⟨0,rfl⟩
  ·rw [if_neg e]; exact h k hk e
 omega
theorem ji2 {f:Nat→Int} {n a b:Nat} (ha:a<n) (hb:b<n) (hab:a≠b) (h:∀ k,k<n→k≠a→k≠b→(17:Int)∣f k):(17:Int)∣sm f n↔(17:Int)∣f a+f b:=by
 rw [zt f a n,if_pos ha]
 have:(17:Int)∣sm (fun k=>if k=a then 0 else f k) n↔(17:Int)∣f b:=by
  rw [jiT hb]
  ·rw [if_neg (fun e=>hab e.symm)]
  ·intro k hk hkb
   by_cases e:k=a
   ·rw [if_pos e]; exact ⟨0,rfl⟩
   ·rw [if_neg e]; exact h k hk e hkb
 rw [zt _ b n,if_pos hb,if_neg (fun e=>hab e.symm)]
 have h3:(17:Int)∣sm (fun k=>if k=b then 0 else if k=a then 0 else f k) n:=zV fun k hk=>by
  by_cases e1:k=b
  ·rw [if_pos e1]; exact ⟨0,rfl⟩
  ·rw [if_neg e1]
   by_cases e:k=a
   ·rw [if_pos e]; exact ⟨0,rfl⟩
   ·rw [if_neg e]; exact h k hk e e1
 omega
theorem p17:∀ x,x<17→∀ y,y<17→(x*y) % 17=0→x=0∨y=0:=by decide
theorem qN {a b:Int} (h:(17:Int)∣a*b):(17:Int)∣a∨(17:Int)∣b:=by
 have h1:(a*b) % 17=0:=Int.emod_eq_zero_of_dvd h
 rw [Int.mul_emod] at h1
 obtain ⟨x,hx⟩:∃ x:Nat,a % 17=x:=⟨(a % 17).toNat,by omega⟩
 obtain ⟨y,hy⟩:∃ y:Nat,b % 17=y:=⟨(b % 17).toNat,by omega⟩
 rw [hx,hy] at h1
 have:=p17 x (by omega) y (by omega) (by exact_mod_cast h1)
 omega
theorem GC {a b:Int}:(17:Int)∣a*b↔(17:Int)∣a∨(17:Int)∣b :=
 ⟨qN,fun h=>h.elim (fun h=>Int.dvd_trans h ⟨b,rfl⟩) (fun h=>Int.dvd_trans h ⟨a,Int.mul_comm a b⟩)⟩
theorem jif:∀ (m:Nat) (z v:Nat→Int),(∀ j,j<m→(17:Int)∣sm (fun k=>v k*z k ^ (j+1)) m)→(∀ k,k<m→¬ (17:Int)∣z k) →
  (∀ a b,a<m→b<m→a≠b→¬ (17:Int)∣z a - z b)→∀ k,k<m→(17:Int)∣v k
 | 0,_,_,_,_,_,k,hk=>by omega
 | m+1,z,v,h,hz,hd,k,hk=>by
  have hu:∀ j,j<m→(17:Int)∣sm (fun k=>v k*(z k - z m)*z k ^ (j+1)) m:=by
   intro j hj
   have h1:=h (j+1) (by omega)
   have h2:=h j (by omega)
   have h3:sm (fun k=>v k*(z k - z m)*z k ^ (j+1)) m=sm (fun k=>v k*z k ^ (j+1+1)) (m+1) - z m*sm (fun k=>v k*z k ^ (j+1)) (m+1):=by
    rw [← Ge,← gL]
    simp only [sm]
    rw [show v m*z m ^ (j+1+1) - z m*(v m*z m ^ (j+1))=0 by rw [Int.pow_succ (z m) (j+1)]; rw [← Int.mul_assoc,Int.mul_comm (z m)]; omega,Int.add_zero]
    refine qz fun k _=>?_
    rw [Int.pow_succ (z k) (j+1),Int.mul_sub,Int.sub_mul]
    congr 1
    ·rw [Int.mul_assoc,Int.mul_comm (z k) _]
    ·rw [Int.mul_comm (v k) (z m),Int.mul_assoc]
   rw [h3]
   exact Int.dvd_sub h1 (Int.dvd_trans h2 ⟨z m,Int.mul_comm _ _⟩)
  have ih:=jif m z (fun k=>v k*(z k - z m)) hu (fun k hk=>hz k (by omega)) (fun a b ha hb=>hd a b (by omega) (by omega))
  have hlow:∀ k,k<m→(17:Int)∣v k:=fun k hk=>(qN (ih k hk)).elim id fun h=>absurd h (hd k m (by omega) (by omega) (by omega))
  by_cases hkm:k<m
  ·exact hlow k hkm
  ·have:k=m:=by omega
   subst this
   have h0:=h 0 (by omega)
   simp only [sm] at h0
   have h1:(17:Int)∣sm (fun k=>v k*z k ^ (0+1)) k:=zV fun i hi=>Int.dvd_trans (hlow i hi) ⟨_,rfl⟩
   have h2:(17:Int)∣v k*z k ^ (0+1):=by omega
   rw [Nat.zero_add,Int.pow_succ,Int.pow_zero,Int.one_mul] at h2
   exact (qN h2).elim id fun h=>absurd h (hz k (by omega))
def Ker (B:Nat→Nat→Int) (n w:Nat) (v:Nat→Int):Prop:=∀ j,j<n→(17:Int)∣sm (fun k=>B j k*v k) w
theorem jgj {a b:Int} (h:(17:Int)∣a - b):(17:Int)∣a↔(17:Int)∣b:=by omega
theorem jbc {f g:Nat→Int} {n:Nat} (h:∀ k,k<n→(17:Int)∣f k - g k):(17:Int)∣sm f n↔(17:Int)∣sm g n:=by
 apply jgj
 rw [← gL]
 exact zV h
theorem jik {C B:Nat→Nat→Int} {N W n:Nat} (hn:n<N) {u:Int} (hu:¬ (17:Int)∣u) {t:Nat→Int} (h1:∀ k,k<W→(17:Int)∣B n k - u*C n k)
  (h2:∀ j,j<N→j≠n→∀ k,k<W→(17:Int)∣B j k - (C j k - t j*C n k)) (v:Nat→Int):Ker B N W v↔Ker C N W v:=by
 have mulv:∀ {a b x:Int},(17:Int)∣a - b→(17:Int)∣a*x - b*x:=fun {a b x} h=>by rw [← Int.sub_mul]; exact Int.dvd_trans h ⟨x,rfl⟩
 have e1:(17:Int)∣sm (fun k=>B n k*v k) W↔(17:Int)∣sm (fun k=>C n k*v k) W:=by
  rw [jbc (g:=fun k=>u*(C n k*v k)) fun k hk=>by rw [← Int.mul_assoc]; exact mulv (h1 k hk),Ge,GC]
  exact ⟨fun h=>h.elim (fun h=>absurd h hu) id,.inr⟩
 have e2:∀ j,j<N→j≠n→(17:Int)∣sm (fun k=>C n k*v k) W→((17:Int)∣sm (fun k=>B j k*v k) W↔(17:Int)∣sm (fun k=>C j k*v k) W):=by
  intro j hj hjn h0
  rw [jbc (g:=fun k=>C j k*v k - t j*(C n k*v k)) fun k hk=>by rw [← Int.mul_assoc,← Int.sub_mul]; exact mulv (h2 j hj hjn k hk),gL,Ge]
  have:(17:Int)∣t j*sm (fun k=>C n k*v k) W:=Int.dvd_trans h0 ⟨t j,Int.mul_comm _ _⟩
  omega
 constructor
 ·intro h j hj
  have h0:=e1.1 (h n hn)
  by_cases hjn:j=n
  ·subst hjn; exact h0
  ·exact (e2 j hj hjn h0).1 (h j hj)
 ·intro h j hj
  have h0:=h n hn
  by_cases hjn:j=n
  ·subst hjn; exact e1.2 h0
  ·exact (e2 j hj hjn h0).2 (h j hj)
def swp (B:Nat→Nat→Int) (a n:Nat) (j:Nat):Nat→Int:=if j=n then B a else if j=a then B n else B j
theorem jlQ {B:Nat→Nat→Int} {N W a n:Nat} (ha:a<N) (hn:n<N) (v:Nat→Int):Ker (swp B a n) N W v↔Ker B N W v:=by
 constructor
 ·intro h j hj
  by_cases h1:j=n
  ·by_cases h2:a=n
   ·have:=h n hn; unfold swp at this; rw [if_pos rfl,h2] at this; rw [h1]; exact this
   ·have:=h a ha; unfold swp at this; rw [if_neg h2,if_pos rfl] at this; rw [h1]; exact this
  ·by_cases h2:j=a
   ·have:=h n hn; unfold swp at this; rw [if_pos rfl] at this; rw [h2]; exact this
   ·have:=h j hj; unfold swp at this; rw [if_neg h1,if_neg h2] at this; exact this
 ·intro h j hj
  unfold swp
  by_cases h1:j=n
  ·rw [if_pos h1]; exact h a ha
  ·rw [if_neg h1]
   by_cases h2:j=a
   ·rw [if_pos h2]; exact h n hn
   ·rw [if_neg h2]; exact h j hj
def jdg (B:Nat→Nat→Int) (N n:Nat):Prop:=(∀ j k,j<N→k<n→j≠k→(17:Int)∣B j k)∧∀ k,k<n→¬ (17:Int)∣B k k
theorem jaP (B:Nat→Nat→Int) (N:Nat):jdg B N 0:=⟨fun _ _ _ h=>by omega,fun _ h=>by omega⟩
theorem jiV {B:Nat→Nat→Int} {N n a:Nat} (h:jdg B N n) (ha:a<N) (hn:n<N) (hna:n≤a):jdg (swp B a n) N n:=by
 refine ⟨fun j k hj hk hjk=>?_,fun k hk=>?_⟩
 ·unfold swp
  by_cases h1:j=n
  ·rw [if_pos h1]; exact h.1 a k ha hk (by omega)
  ·rw [if_neg h1]
   by_cases h2:j=a
   ·rw [if_pos h2]; exact h.1 n k hn hk (by omega)
   ·rw [if_neg h2]; exact h.1 j k hj hk hjk
 ·unfold swp
  rw [if_neg (by omega),if_neg (by omega)]
  exact h.2 k hk
theorem jgO {C B:Nat→Nat→Int} {N W n:Nat} (h:jdg C N n) (hn:n<N) (hW:n<W) {u:Int} (hu:¬ (17:Int)∣u) (hp:¬ (17:Int)∣C n n) {t:Nat→Int} (h1:∀ k,k<W→(17:Int)∣B n k - u*C n k)
  (h2:∀ j,j<N→j≠n→∀ k,k<W→(17:Int)∣B j k - (C j k - t j*C n k)) (h3:∀ j,j<N→j≠n→(17:Int)∣C j n - t j*C n n):jdg B N (n+1):=by
 have low:∀ k,k<n→(17:Int)∣C n k:=fun k hk=>h.1 n k hn hk (by omega)
 have lowt:∀ (x:Int) k,k<n→(17:Int)∣x*C n k:=fun x k hk=>Int.dvd_trans (low k hk) ⟨x,Int.mul_comm _ _⟩
 refine ⟨fun j k hj hk hjk=>?_,fun k hk=>?_⟩
 ·by_cases hjn:j=n
  ·subst hjn
   have a1:=h1 k (by omega)
   have a2:=lowt u k (by omega)
   omega
  ·have a1:=h2 j hj hjn k (by omega)
   by_cases hkn:k=n
   ·subst hkn
    have a2:=h3 j hj hjn
    omega
   ·have a2:=lowt (t j) k (by omega)
    have a3:=h.1 j k hj (by omega) hjk
    omega
 ·by_cases hkn:k=n
  ·subst hkn
   have a1:=h1 k hW
   intro a2
   have:(17:Int)∣u*C k k:=by omega
   exact (qN this).elim hu hp
  ·have a1:=h2 k (by omega) hkn k (by omega)
   have a2:=lowt (t k) k (by omega)
   have a3:=h.2 k (by omega)
   omega
theorem jvU:∀ x,x<17→x≠0→∃ y,y<17∧(x*y) % 17=1:=by decide
theorem jln {a:Int} (h:¬ (17:Int)∣a):∃ b:Int,(17:Int)∣a*b - 1:=by
 obtain ⟨x,hx⟩:∃ x:Nat,a % 17=x:=⟨(a % 17).toNat,by omega⟩
 obtain ⟨y,_,hy⟩:=jvU x (by omega) (by omega)
 refine ⟨y,?_⟩
 have:(a*y) % 17=1:=by rw [Int.mul_emod,hx,Int.emod_eq_of_lt (a:=(y:Int)) (by omega) (by omega)]; exact_mod_cast hy
 omega
theorem jvy {B:Nat→Nat→Int} {N m n:Nat} (h:jdg B N n) (hn:n<m) (hind:∀ v:Nat→Int,v m=0→Ker B N (m+1) v→∀ k,k<m→(17:Int)∣v k):∃ j,n≤j∧j<N∧¬ (17:Int)∣B j n:=by
 apply Classical.byContradiction
 intro hno
 have hz:∀ j,n≤j→j<N→(17:Int)∣B j n:=fun j h1 h2=>Classical.byContradiction fun h3=>hno ⟨j,h1,h2,h3⟩
 obtain ⟨iv,hiv⟩:∃ iv:Nat→Int,∀ k,k<n→(17:Int)∣B k k*iv k - 1:=by
  refine ⟨fun k=>if hk:k<n then Classical.choose (jln (h.2 k hk)) else 0,fun k hk=>?_⟩
  simp only [hk,dif_pos]
  exact Classical.choose_spec (jln (h.2 k hk))
 have hv:=hind (fun k=>if k<n then -(B k n*iv k) else if k=n then 1 else 0) (by show (if m<n then -(B m n*iv m) else if m=n then (1:Int) else 0)=0; rw [if_neg (by omega),if_neg (by omega)]) (by
  intro j hj
  by_cases hjn:j<n
  ·rw [ji2 (a:=j) (b:=n) (by omega) (by omega) (by omega)]
   ·simp only [hjn,if_true,Nat.lt_irrefl,if_false]
    obtain ⟨q,hq⟩:=hiv j hjn
    refine ⟨-(q*B j n),?_⟩
    have e:B j j * -(B j n*iv j)+B j n*1 = -((B j j*iv j - 1)*B j n):=by
     rw [Int.sub_mul,Int.mul_one,Int.one_mul,Int.mul_neg,Int.mul_comm (B j n) (iv j),← Int.mul_assoc]; omega
    rw [e,hq,Int.mul_neg,Int.mul_assoc]
   ·intro k hk hkj hkn
    by_cases h1:k<n
    ·exact Int.dvd_trans (h.1 j k hj h1 (Ne.symm hkj)) ⟨_,rfl⟩
    ·simp only [h1,if_false,hkn,Int.mul_zero]; exact ⟨0,rfl⟩
  ·refine zV fun k hk=>?_
   by_cases h1:k<n
   ·exact Int.dvd_trans (h.1 j k hj h1 (by omega)) ⟨_,rfl⟩
   ·by_cases h2:k=n
    ·subst h2; exact Int.dvd_trans (hz j (by omega) hj) ⟨_,rfl⟩
    ·simp only [h1,if_false,h2,Int.mul_zero]; exact ⟨0,rfl⟩) n hn
 simp only [Nat.lt_irrefl,if_false,if_true] at hv
 omega
theorem jke {B:Nat→Nat→Int} {N m:Nat} (h:jdg B N m) (hmN:m≤N) (x:Nat→Int) (hx:x m = -1) :
  Ker B N (m+1) x↔(∀ k,k<m→(17:Int)∣B k k*x k - B k m)∧∀ j,m≤j→j<N→(17:Int)∣B j m:=by
 have row1:∀ k,k<m→((17:Int)∣sm (fun i=>B k i*x i) (m+1)↔(17:Int)∣B k k*x k - B k m):=by
  intro k hk
  rw [ji2 (a:=k) (b:=m) (by omega) (by omega) (by omega)]
  ·rw [hx,Int.mul_neg,Int.mul_one]; omega
  ·intro i hi hik him
   exact Int.dvd_trans (h.1 k i (by omega) (by omega) (Ne.symm hik)) ⟨_,rfl⟩
 have row2:∀ j,m≤j→j<N→((17:Int)∣sm (fun i=>B j i*x i) (m+1)↔(17:Int)∣B j m):=by
  intro j hj hjN
  rw [jiT (a:=m) (by omega)]
  ·rw [hx,Int.mul_neg,Int.mul_one]; omega
  ·intro i hi him
   exact Int.dvd_trans (h.1 j i hjN (by omega) (by omega)) ⟨_,rfl⟩
 constructor
 ·intro hk
  exact ⟨fun k hkm=>(row1 k hkm).1 (hk k (by omega)),fun j h1 h2=>(row2 j h1 h2).1 (hk j h2)⟩
 ·rintro ⟨h1,h2⟩ j hj
  by_cases hjm:j<m
  ·exact (row1 j hjm).2 (h1 j hjm)
  ·exact (row2 j (by omega) hj).2 (h2 j (by omega) hj)
end
section
open Go Go.RowKit
theorem jfQ {a b c d:Int} (h1:(17:Int)∣a - b) (h2:(17:Int)∣c - d):(17:Int)∣a*c - b*d:=by
 have e:a*c - b*d=(a - b)*c+b*(c - d):=by rw [Int.sub_mul,Int.mul_sub]; omega
 rw [e]
 exact Int.dvd_add (Int.dvd_trans h1 ⟨c,rfl⟩) (Int.dvd_trans h2 ⟨b,Int.mul_comm _ _⟩)
theorem YQ (a:Int):(17:Int)∣a % 17 - a:=by omega
theorem jhl {a b c:Int} (h1:(17:Int)∣a - b) (h2:(17:Int)∣b - c):(17:Int)∣a - c:=by omega
theorem jjP {a b:Int} (h1:(17:Int)∣a - b):(17:Int)∣b - a:=by omega
theorem jbG:∀ n:Nat,(17:Int)∣pw n - 3 ^ n
 | 0=>⟨0,rfl⟩
 | n+1=>by
  have ih:=jbG n
  rw [pw_succ,Int.pow_succ]
  generalize (3:Int) ^ n=x at ih
  omega
theorem jkA (m n:Nat):(17:Int)∣pw (m+n) - pw m*pw n:=by
 have h:=jbG (m+n)
 rw [Int.pow_add] at h
 exact jhl h (jjP (jfQ (jbG m) (jbG n)))
theorem jkI (a:Nat):∀ j:Nat,(17:Int)∣pw (a*j) - pw a ^ j
 | 0=>by rw [Nat.mul_zero,Int.pow_zero]; exact ⟨0,rfl⟩
 | j+1=>by
  rw [Int.pow_succ]
  have h:=jkA (a*j) a
  rw [show a*j+a=a*(j+1) from rfl] at h
  exact jhl h (jfQ (jkI a j) ⟨0,by omega⟩)
theorem jmL:∀ a,a<16→∀ b,b<16→(pw a - pw b) % 17=0→a=b:=by decide
theorem jp8 {a b:Nat} (ha:a<16) (hb:b<16) (h:(17:Int)∣pw a - pw b):a=b:=jmL a ha b hb (Int.emod_eq_zero_of_dvd h)
theorem jtW (a:Nat):¬ (17:Int)∣pw a:=by have:=jcP a; omega
theorem jfg (f:Nat→Int):∀ n,sm f (n+1)=f 0+sm (fun k=>f (k+1)) n
 | 0=>by simp [sm]
 | n+1=>by
  show sm f (n+1)+f (n+1)=_
  rw [jfg f n]
  show _=f 0+(sm (fun k=>f (k+1)) n+f (n+1))
  omega
theorem je9 (j:Nat):∀ (l:List Int) (i:Nat) (a:Int),(17:Int)∣Zf l j i a - (a+sm (fun t=>l.getD t 0*pw ((i+t)*j)) l.length)
 | [],i,a=>by simp [Zf,sm]
 | x :: xs,i,a=>by
  have ih:=je9 j xs (i+1) ((a+x*pw (i*j)) % 17)
  rw [Zf,List.length_cons,jfg]
  have e:sm (fun k=>(x :: xs).getD (k+1) 0*pw ((i+(k+1))*j)) xs.length=sm (fun t=>xs.getD t 0*pw ((i+1+t)*j)) xs.length :=
   qz fun k _=>by rw [List.getD_cons_succ,show i+(k+1)=i+1+k by omega]
  rw [e,List.getD_cons_zero]
  simp only [Nat.add_zero]
  generalize sm (fun t=>xs.getD t 0*pw ((i+1+t)*j)) xs.length=s at ih ⊢
  generalize Zf xs j (i+1) ((a+x*pw (i*j)) % 17)=y at ih ⊢
  omega
theorem gC (l:List Int) (j:Nat):(17:Int)∣syn l j - sm (fun t=>l.getD t 0*pw (t*j)) l.length:=by
 have h:=je9 j l 0 0
 rw [Int.zero_add] at h
 have e:sm (fun t=>l.getD t 0*pw ((0+t)*j)) l.length=sm (fun t=>l.getD t 0*pw (t*j)) l.length:=qz fun k _=>by rw [Nat.zero_add]
 rw [e] at h
 exact h
theorem jdY (l:List Int) (j:Nat):0≤syn l j∧syn l j<17:=synF_bd j l 0 0 (by omega)
theorem Yz (l:List Int) (k:Nat):isW l k=true↔∀ j,j<k→(17:Int)∣syn l (j+1):=by
 unfold isW JK
 rw [List.all_eq_true]
 constructor
 ·intro h j hj
  have:=h (syn l (j+1)) (List.mem_map.2 ⟨j,List.mem_range.2 hj,rfl⟩)
  rw [beq_iff_eq] at this
  rw [this]; exact ⟨0,rfl⟩
 ·intro h x hx
  obtain ⟨j,hj,rfl⟩:=List.mem_map.1 hx
  have h1:=h j (List.mem_range.1 hj)
  have:=jdY l (j+1)
  rw [beq_iff_eq]
  omega
theorem KM (l:List Int) (i k:Nat) (x:Int):(l.set i x).getD k 0=if i=k∧i<l.length then x else l.getD k 0:=by
 rw [List.getD_eq_getElem?_getD,List.getElem?_set,List.getD_eq_getElem?_getD]
 by_cases h:i=k
 ·subst h
  by_cases h2:i<l.length
  ·simp [h2]
  ·simp [h2]
 ·simp [h]
theorem joX {l:List Int} {i:Nat} (x:Int) (p:Nat→Int) (hi:i<l.length):sm (fun t=>(l.set i x).getD t 0*p t) l.length=sm (fun t=>l.getD t 0*p t) l.length+(x - l.getD i 0)*p i:=by
 rw [zt _ i l.length,if_pos hi,zt (fun t=>l.getD t 0*p t) i l.length,if_pos hi]
 have e:sm (fun k=>if k=i then 0 else (l.set i x).getD k 0*p k) l.length=sm (fun k=>if k=i then 0 else l.getD k 0*p k) l.length:=by
  refine qz fun k _=>?_
  by_cases h:k=i
  ·rw [if_pos h,if_pos h]
  ·rw [if_neg h,if_neg h,KM,if_neg (fun g=>h g.1.symm)]
 rw [e,KM,if_pos ⟨rfl,hi⟩,Int.sub_mul]
 omega
def put (l:List Int) (op:List Nat) (x:Nat→Int):Nat→List Int
 | 0=>l
 | n+1=>(put l op x n).set (op.getD n 0) (x n)
theorem Kb (l:List Int) (op:List Nat) (x:Nat→Int):∀ n,(put l op x n).length=l.length
 | 0=>rfl
 | n+1=>by rw [put,List.length_set,Kb l op x n]
structure Places (op:List Nat) (len:Nat):Prop where
 lt:∀ k,k<op.length→op.getD k 0<len
 inj:∀ a b,a<op.length→b<op.length→op.getD a 0=op.getD b 0→a=b
theorem YB {l:List Int} {op:List Nat} {x:Nat→Int} {i:Nat}:∀ {n},(∀ k,k<n→op.getD k 0≠i)→(put l op x n).getD i 0=l.getD i 0
 | 0,_=>rfl
 | n+1,h=>by rw [put,KM,if_neg (fun g=>h n (by omega) g.1),YB fun k hk=>h k (by omega)]
theorem jer {l:List Int} {op:List Nat} {x:Nat→Int} (hp:Places op l.length) {k:Nat}:∀ {n},n≤op.length→k<n→(put l op x n).getD (op.getD k 0) 0=x k
 | 0,_,h=>by omega
 | n+1,hn,h=>by
  rw [put,KM,Kb]
  by_cases e:k=n
  ·subst e
   rw [if_pos ⟨rfl,hp.lt k (by omega)⟩]
  ·rw [if_neg (fun g=>e (hp.inj n k (by omega) (by omega) g.1).symm),jer hp (by omega) (by omega)]
theorem jfc {l:List Int} {i:Nat} {x:Int} (h:okS l) (hx:0≤x∧x<17):okS (l.set i x):=by
 intro y hy
 rcases List.mem_or_eq_of_mem_set hy with h1 | h1
 ·exact h y h1
 ·rw [h1]; exact hx
theorem jaZ {l:List Int} {op:List Nat} {x:Nat→Int} (h:okS l):∀ {n},(∀ k,k<n→0≤x k∧x k<17)→okS (put l op x n)
 | 0,_=>h
 | n+1,hx=>jfc (jaZ h fun k hk=>hx k (by omega)) (hx n (by omega))
theorem ZJ {op:List Nat} {i:Nat}:i ∈ op↔∃ k,k<op.length∧op.getD k 0=i:=by
 rw [List.mem_iff_getElem]
 constructor
 ·rintro ⟨k,hk,h⟩; exact ⟨k,hk,by rw [List.getD_eq_getElem?_getD,List.getElem?_eq_getElem hk]; exact h⟩
 ·rintro ⟨k,hk,h⟩; exact ⟨k,hk,by rw [List.getD_eq_getElem?_getD,List.getElem?_eq_getElem hk] at h; exact h⟩
theorem KL {a b:List Int} (h:a.length=b.length) (hi:∀ i,i<a.length→a.getD i 0=b.getD i 0):a=b:=by
 apply List.ext_getElem h
 intro i h1 h2
 have:=hi i h1
 rw [List.getD_eq_getElem?_getD,List.getD_eq_getElem?_getD,List.getElem?_eq_getElem h1,List.getElem?_eq_getElem h2] at this
 exact this
theorem je0 {Z:List Int} {op:List Nat} (x:Nat→Int) (hp:Places op Z.length) (hz:∀ k,k<op.length→Z.getD (op.getD k 0) 0=0) (j:Nat):∀ n,n≤op.length →
  sm (fun t=>(put Z op x n).getD t 0*pw (t*j)) Z.length=sm (fun t=>Z.getD t 0*pw (t*j)) Z.length+sm (fun k=>x k*pw (op.getD k 0*j)) n
 | 0,_=>by simp [put,sm]
 | n+1,hn=>by
  have hl:=Kb Z op x n
  have h:=joX (l:=put Z op x n) (i:=op.getD n 0) (x n) (fun t=>pw (t*j)) (by rw [hl]; exact hp.lt n (by omega))
  rw [hl] at h
  rw [put,h,je0 x hp hz j n (by omega)]
  have h0:(put Z op x n).getD (op.getD n 0) 0=0:=by
   rw [YB (fun k hk e=>by have:=hp.inj k n (by omega) (by omega) e; omega)]
   exact hz n (by omega)
  rw [h0,Int.sub_zero]
  simp only [sm]
  omega
def Kr (op:List Nat) (Z:List Int) (j:Nat):List Int:=op.map (fun i=>pw (i*(j+1)))++[(-(syn Z (j+1))) % 17]
def mat (M:Nat→List Int) (j k:Nat):Int:=(M j).getD k 0
theorem jkE (op:List Nat) (Z:List Int) (j:Nat):(Kr op Z j).length=op.length+1:=by unfold Kr; simp
theorem jm7 (op:List Nat) (Z:List Int) (j:Nat):okS (Kr op Z j):=by
 intro x hx
 unfold Kr at hx
 rcases List.mem_append.1 hx with h | h
 ·obtain ⟨i,_,rfl⟩:=List.mem_map.1 h
  have:=jcP (i*(j+1)); omega
 ·rw [List.mem_singleton.1 h]; omega
theorem jfG {op:List Nat} (Z:List Int) (j:Nat) {k:Nat} (hk:k<op.length):mat (Kr op Z) j k=pw (op.getD k 0*(j+1)):=by
 unfold mat Kr
 rw [List.getD_eq_getElem?_getD,List.getElem?_append_left (by simpa using hk)]
 simp [List.getD_eq_getElem?_getD,hk]
theorem jlM (op:List Nat) (Z:List Int) (j:Nat):mat (Kr op Z) j op.length=(-(syn Z (j+1))) % 17:=by
 unfold mat Kr
 rw [List.getD_eq_getElem?_getD,List.getElem?_append_right (by simp)]
 simp
theorem jgZ {Z:List Int} {op:List Nat} (hp:Places op Z.length) (hz:∀ k,k<op.length→Z.getD (op.getD k 0) 0=0) (N:Nat) {x:Nat→Int} (hx:x op.length = -1) :
  Ker (mat (Kr op Z)) N (op.length+1) x↔∀ j,j<N→(17:Int)∣syn (put Z op x op.length) (j+1):=by
 have e:∀ j,((17:Int)∣sm (fun k=>mat (Kr op Z) j k*x k) (op.length+1)↔(17:Int)∣syn (put Z op x op.length) (j+1)):=by
  intro j
  have h1:=gC (put Z op x op.length) (j+1)
  rw [Kb,je0 x hp hz (j+1) op.length (Nat.le_refl _)] at h1
  have h2:=gC Z (j+1)
  have h3:sm (fun k=>mat (Kr op Z) j k*x k) op.length=sm (fun k=>x k*pw (op.getD k 0*(j+1))) op.length :=
   qz fun k hk=>by rw [jfG Z j hk,Int.mul_comm]
  show (17:Int)∣sm (fun k=>mat (Kr op Z) j k*x k) op.length+mat (Kr op Z) j op.length*x op.length↔_
  rw [h3,jlM,hx]
  have h4:=YQ (-(syn Z (j+1)))
  generalize sm (fun k=>x k*pw (op.getD k 0*(j+1))) op.length=s at h1 ⊢
  generalize sm (fun t=>Z.getD t 0*pw (t*(j+1))) Z.length=u at h1 h2
  generalize (-(syn Z (j+1))) % 17=v at h4 ⊢
  omega
 exact ⟨fun h j hj=>(e j).1 (h j hj),fun h j hj=>(e j).2 (h j hj)⟩
theorem jo7 {Z:List Int} {op:List Nat} {len N:Nat} (hp:Places op len) (hlen:len≤16) (hN:op.length≤N) (v:Nat→Int) (hv:v op.length=0) (hk:Ker (mat (Kr op Z)) N (op.length+1) v) :
  ∀ k,k<op.length→(17:Int)∣v k:=by
 refine jif op.length (fun k=>pw (op.getD k 0)) v ?_ (fun k _=>jtW _) ?_
 ·intro j hj
  have h:=hk j (by omega)
  have h0:sm (fun k=>mat (Kr op Z) j k*v k) (op.length+1)=sm (fun k=>mat (Kr op Z) j k*v k) op.length+mat (Kr op Z) j op.length*v op.length:=rfl
  rw [h0,hv,Int.mul_zero,Int.add_zero] at h
  refine (jbc fun k hk=>?_).1 h
  rw [jfG Z j hk,Int.mul_comm (v k)]
  exact jfQ (jkI _ _) ⟨0,by omega⟩
 ·intro a b ha hb hab h
  have h1:=hp.lt a ha
  have h2:=hp.lt b hb
  exact hab (hp.inj a b ha hb (jp8 (by omega) (by omega) h))
def El (op:List Nat) (Z:List Int) (N:Nat) (C:Nat→Nat→Int) (n:Nat):Prop:=jdg C N n∧∀ v,Ker C N (op.length+1) v↔Ker (mat (Kr op Z)) N (op.length+1) v
theorem jmo (op:List Nat) (Z:List Int) (N:Nat):El op Z N (mat (Kr op Z)) 0:=⟨jaP _ _,fun _=>Iff.rfl⟩
theorem jho {op:List Nat} {Z:List Int} {N n len:Nat} {C:Nat→Nat→Int} (h:El op Z N C n) (hp:Places op len) (hlen:len≤16) (hN:op.length≤N) (hn:n<op.length):∃ j,n≤j∧j<N∧¬ (17:Int)∣C j n :=
 jvy h.1 hn fun v hv hk=>jo7 (Z:=Z) hp hlen hN v hv ((h.2 v).1 hk)
theorem jlW {op:List Nat} {Z:List Int} {N n a:Nat} {C B:Nat→Nat→Int} (h:El op Z N C n) (hn:n<op.length) (hna:n≤a) (ha:a<N) (hp:¬ (17:Int)∣C a n)
  {u:Int} (hu:¬ (17:Int)∣u) {t:Nat→Int} (h1:∀ k,k<op.length+1→(17:Int)∣B n k - u*swp C a n n k)
  (h2:∀ j,j<N→j≠n→∀ k,k<op.length+1→(17:Int)∣B j k - (swp C a n j k - t j*swp C a n n k)) (h3:∀ j,j<N→j≠n→(17:Int)∣swp C a n j n - t j*swp C a n n n):El op Z N B (n+1):=by
 have hnN:n<N:=by omega
 refine ⟨jgO (jiV h.1 ha hnN hna) hnN (by omega) hu ?_ h1 h2 h3,fun v=>?_⟩
 ·unfold swp; rw [if_pos rfl]; exact hp
 ·rw [jik hnN hu h1 h2 v,jlQ ha hnN v,h.2 v]
theorem jpO {op:List Nat} {Z:List Int} {N:Nat} {B:Nat→Nat→Int} (h:El op Z N B op.length) (hp:Places op Z.length) (hz:∀ k,k<op.length→Z.getD (op.getD k 0) 0=0) (hN:op.length≤N) {x:Nat→Int} (hx:x op.length = -1) :
  (∀ j,j<N→(17:Int)∣syn (put Z op x op.length) (j+1))↔(∀ k,k<op.length→(17:Int)∣B k k*x k - B k op.length)∧∀ j,op.length≤j→j<N→(17:Int)∣B j op.length:=by
 rw [← jgZ hp hz N hx,← h.2 x]
 exact jke h.1 hN x hx
structure SolW (l:List Int) (op:List Nat) (k:Nat) (o:List Int):Prop where
 len:o.length=l.length
 ok:okS o
 off:∀ i,i<l.length→i ∉ op→o.getD i 0=l.getD i 0
 is:isW o k=true
def Jb (l:List Int) (op:List Nat):List Int:=put l op (fun _=>0) op.length
theorem KH (l:List Int) (op:List Nat):(Jb l op).length=l.length:=Kb _ _ _ _
theorem jax {l:List Int} {op:List Nat} (h:okS l):okS (Jb l op):=jaZ h fun _ _=>by omega
theorem jap {l:List Int} {op:List Nat} (hp:Places op l.length) {k:Nat} (hk:k<op.length):(Jb l op).getD (op.getD k 0) 0=0:=jer hp (Nat.le_refl _) hk
theorem jd7 {l:List Int} {op:List Nat} {i:Nat} (hi:i ∉ op):(Jb l op).getD i 0=l.getD i 0:=YB fun k hk e=>hi (ZJ.2 ⟨k,hk,e⟩)
theorem jc9 {l:List Int} {op:List Nat} {x:Nat→Int} {i:Nat} (hi:i ∉ op):(put (Jb l op) op x op.length).getD i 0=l.getD i 0:=by
 rw [YB fun k hk e=>hi (ZJ.2 ⟨k,hk,e⟩),jd7 hi]
theorem jfH {l:List Int} {op:List Nat} {N:Nat} {B:Nat→Nat→Int} (h:El op (Jb l op) N B op.length) (hp:Places op l.length) (hN:op.length≤N) (x:Nat→Int) :
  isW (put (Jb l op) op x op.length) N=true↔(∀ k,k<op.length→(17:Int)∣B k k*x k - B k op.length)∧∀ j,op.length≤j→j<N→(17:Int)∣B j op.length:=by
 have hp':Places op (Jb l op).length:=by rw [KH]; exact hp
 have e:∀ n,n≤op.length→put (Jb l op) op x n=put (Jb l op) op (fun k=>if k=op.length then -1 else x k) n:=by
  intro n
  induction n with
  | zero=>intro _; rfl
  | succ n ih=>intro hn; rw [put,put,ih (by omega),if_neg (by omega)]
 rw [Yz,e op.length (Nat.le_refl _),jpO (x:=fun k=>if k=op.length then -1 else x k) h hp' (fun k hk=>jap hp hk) hN (by simp)]
 have:∀ k,k<op.length→(if k=op.length then (-1:Int) else x k)=x k:=fun k hk=>if_neg (by omega)
 constructor
 ·rintro ⟨h1,h2⟩
  exact ⟨fun k hk=>by have:=h1 k hk; rwa [if_neg (by omega)] at this,h2⟩
 ·rintro ⟨h1,h2⟩
  exact ⟨fun k hk=>by rw [if_neg (by omega)]; exact h1 k hk,h2⟩
theorem jlX {l:List Int} {op:List Nat} {N:Nat} {o:List Int} (h:SolW l op N o) (hp:Places op l.length):o=put (Jb l op) op (fun k=>o.getD (op.getD k 0) 0) op.length:=by
 apply KL
 ·rw [Kb,KH,h.len]
 ·intro i hi
  rw [h.len] at hi
  by_cases hm:i ∈ op
  ·obtain ⟨k,hk,rfl⟩:=ZJ.1 hm
   rw [jer (by rw [KH]; exact hp) (Nat.le_refl _) hk]
  ·rw [jc9 hm,h.off i hi hm]
theorem jp4 {l:List Int} {op:List Nat} {N:Nat} {B:Nat→Nat→Int} (h:El op (Jb l op) N B op.length) (hp:Places op l.length) (hN:op.length≤N) (hl:okS l) {x:Nat→Int} (hx:∀ k,k<op.length→0≤x k∧x k<17)
  (hb:∀ k,k<op.length→(17:Int)∣B k k*x k - B k op.length) :
  okS (put (Jb l op) op x op.length)∧(put (Jb l op) op x op.length).length=l.length∧(∀ o,SolW l op N o→put (Jb l op) op x op.length=o) ∧
  (isW (put (Jb l op) op x op.length) N=true↔∀ j,op.length≤j→j<N→(17:Int)∣B j op.length):=by
 have hok:=jaZ (op:=op) (n:=op.length) (jax (op:=op) hl) hx
 refine ⟨hok,by rw [Kb,KH],fun o ho=>?_,?_⟩
 ·have e:=jlX ho hp
  have h1:=ho.is
  rw [e,jfH h hp hN] at h1
  rw [e]
  have:∀ n,n≤op.length→put (Jb l op) op x n=put (Jb l op) op (fun k=>o.getD (op.getD k 0) 0) n:=by
   intro n
   induction n with
   | zero=>intro _; rfl
   | succ n ih =>
    intro hn
    rw [put,put,ih (by omega)]
    have a1:=h1.1 n (by omega)
    have a2:=hb n (by omega)
    have a3:(17:Int)∣B n n*(x n - o.getD (op.getD n 0) 0):=by rw [Int.mul_sub]; omega
    have a4:=(qN a3).resolve_left (h.1.2 n (by omega))
    have a5:=hx n (by omega)
    have a6:0≤o.getD (op.getD n 0) 0∧o.getD (op.getD n 0) 0<17:=by
     have hlt:=hp.lt n (by omega)
     rw [← ho.len] at hlt
     refine ho.ok _ ?_
     rw [List.getD_eq_getElem?_getD,List.getElem?_eq_getElem hlt]
     exact List.getElem_mem _
    rw [show x n=o.getD (op.getD n 0) 0 by omega]
  exact this op.length (Nat.le_refl _)
 ·rw [jfH h hp hN]
  exact ⟨fun h=>h.2,fun h=>⟨hb,h⟩⟩
end
section
open Go Go.RowKit
theorem jf6 (l:List Int) (x:Int) (hl:l.length≤300):∀ (m i:Nat),l.length=i+m→x ∈ l.drop i→∃ k:Nat,res Gp (.c1 l.length (l.map vI) x (l.length:Int) (i:Int))=some (k:Int)∧k<l.length∧l.getD k 0=x:=by
 intro m
 induction m with
 | zero=>intro i h hx; rw [List.drop_eq_nil_of_le (by omega)] at hx; simp at hx
 | succ m ih =>
  intro i h hx
  have hi:i<l.length:=by omega
  have h1:(i:Int)<(l.length:Int):=by omega
  have h3:je (((i+1:Nat):Int)):=by unfold je; omega
  have h4:0≤(i:Int):=by omega
  have h12:(i:Int)+1=((i+1:Nat):Int):=by omega
  have g1:=j5 hi
  by_cases hz:l.getD i 0=x
  ·refine ⟨i,?_,hi,hz⟩
   have hb:(x==l.getD i 0)=true:=by rw [hz]; simp
   rw [jf]
   simp only [Gp,jj,h1,decide_true,if_true,jg,jd,PC.holds,h4,Int.toNat_natCast,Nat.mul_one,ju,g1,hb,jp]
   rw [jm (by simp; omega),ji]
  ·have hb:(x==l.getD i 0)=false:=beq_eq_false_iff_ne.2 (fun c=>hz c.symm)
   rw [QF 0 hi] at hx
   obtain ⟨k,hk⟩:=ih (i+1) (by omega) ((List.mem_cons.1 hx).resolve_left (fun c=>hz c.symm))
   refine ⟨k,?_,hk.2⟩
   rw [jf]
   simp only [Gp,jj,h1,decide_true,if_true,jg,jd,PC.holds,h4,Int.toNat_natCast,Nat.mul_one,ju,g1,hb,Bool.false_eq_true,if_false,h12,h3,jk]
   rw [jm (by simp; omega),jb,hk.1]
theorem jmS {x:Int} (h:1≤x∧x≤16):∃ v,jm5 x=some v∧(1≤v∧v≤16)∧(x*v) % 17=1:=by
 have hm:x ∈ pwT:=by
  have:x=1∨x=2∨x=3∨x=4∨x=5∨x=6∨x=7∨x=8∨x=9∨x=10∨x=11∨x=12∨x=13∨x=14∨x=15∨x=16:=by omega
  rcases this with rfl | rfl | rfl | rfl | rfl | rfl | rfl | rfl | rfl | rfl | rfl | rfl | rfl | rfl | rfl | rfl <;> decide
 obtain ⟨k,h1,h2,h3⟩:=jf6 pwT x (by decide) 16 0 rfl (by rw [List.drop_zero]; exact hm)
 have h146:jaX 16 (pwT.map vI) x=some (k:Int):=by
  unfold jaX; rw [jf]
  simp only [Gp,jk,jb]
  exact h1
 have hk:k<16:=h2
 have hx:x=pw k:=by unfold pw; rw [Nat.mod_eq_of_lt hk]; exact h3.symm
 refine ⟨pw (16 - k),?_,jcP _,?_⟩
 ·unfold jm5; rw [jf]
  have e:(16:Int) - (k:Int)=((16 - k:Nat):Int):=by omega
  have hin:je ((16 - k:Nat):Int):=by unfold je; omega
  have h146':jaX 16 [(.v (.int .i64 1)),(.v (.int .i64 3)),(.v (.int .i64 9)),(.v (.int .i64 10)),(.v (.int .i64 13)),(.v (.int .i64 5)),(.v (.int .i64 15)),(.v (.int .i64 11)),(.v (.int .i64 16)),(.v (.int .i64 14)),(.v (.int .i64 8)),(.v (.int .i64 7)),(.v (.int .i64 4)),(.v (.int .i64 12)),(.v (.int .i64 2)),(.v (.int .i64 6))] x=some (k:Int):=h146
  simp only [jpY,h146',jc,jq,jg,PC.holds,e,hin,jd,Ky,jp,ji]
 ·have h4:=jkA k (16 - k)
  rw [show k+(16 - k)=16 by omega,show pw 16=1 from rfl,← hx] at h4
  omega
theorem Zz (l:List Int) (k:Nat):(JK l k).length=k:=by unfold JK; simp
end
section
open Go Go.RowKit
theorem flCm:∀ l:List Int,y7 (l.map aI)=true
 | []=>rfl
 | x :: l=>by rw [List.map_cons]; unfold y7; exact flCm l
theorem Jf (t:Nat) (l:List Int):(flatK (ABlk.cells (l.map aI) t)=true)=True:=eq_true (flCm l)
def RD (R:List (List Int)):List (List DV):=R.map fun r=>r.map vI
theorem qY (R:List (List Int)):(RD R).length=R.length:=by unfold RD; simp
theorem jaS (R:List (List Int)) (p:Nat):(RD R).getD p []=(R.getD p []).map vI:=by
 unfold RD
 simp only [List.getD_eq_getElem?_getD,List.getElem?_map]
 cases R[p]? <;> rfl
theorem jiG (R:List (List Int)) (p:Nat) (r:List Int):(RD R).set p (r.map vI)=RD (R.set p r):=by
 unfold RD; rw [List.map_set]
theorem jir (r:List Int) (y:Nat) (v:Int):(r.map vI).set y (DV.v (Value.int IntKind.i64 v))=(r.set y v).map vI:=by rw [List.map_set]
theorem jd0 (R:List (List Int)) (r:List Int):RD R++[r.map vI]=RD (R++[r]):=by unfold RD; simp
theorem at0 {r:List Int} {i:Nat} (h:i<r.length):Option.map AV.d (List.drop i (r.map vI))[0]? = some (AV.d (DV.v (Value.int IntKind.i64 (r.getD i 0)))):=j5 h
def prg (g:Nat→Int→Int) (r:List Int) (y:Nat):List Int:=(List.range r.length).map fun k=>if k<y then g k (r.getD k 0) else r.getD k 0
theorem kv (g:Nat→Int→Int) (r:List Int) (y:Nat):(prg g r y).length=r.length:=by unfold prg; simp
theorem kW (g:Nat→Int→Int) (r:List Int) (y:Nat) {k:Nat} (hk:k<r.length):(prg g r y).getD k 0=if k<y then g k (r.getD k 0) else r.getD k 0:=by
 unfold prg
 simp [List.getD_eq_getElem?_getD,hk]
theorem jdi (g:Nat→Int→Int) (r:List Int):prg g r 0=r:=by
 apply KL (kv _ _ _)
 intro i hi
 rw [kv] at hi
 rw [kW g r 0 hi,if_neg (by omega)]
theorem jff (g:Nat→Int→Int) (r:List Int) {y:Nat} (hy:y<r.length):(prg g r y).set y (g y (r.getD y 0))=prg g r (y+1):=by
 apply KL (by rw [List.length_set,kv,kv])
 intro i hi
 rw [List.length_set,kv] at hi
 rw [KM,kW g r (y+1) hi,kv,kW g r y hi]
 by_cases h:y=i
 ·subst h; rw [if_pos ⟨rfl,hy⟩,if_pos (by omega)]
 ·rw [if_neg (fun c=>h c.1)]
  by_cases h2:i<y
  ·rw [if_pos h2,if_pos (by omega)]
  ·rw [if_neg h2,if_neg (by omega)]
theorem jib {g:Nat→Int→Int} {r:List Int} (hr:okS r) (hg:∀ k x,0≤g k x∧g k x<17) (y:Nat):okS (prg g r y):=by
 intro x hx
 unfold prg at hx
 obtain ⟨k,hk,rfl⟩:=List.mem_map.1 hx
 rw [List.mem_range] at hk
 split
 ·exact hg _ _
 ·refine hr _ ?_
  rw [List.getD_eq_getElem?_getD,List.getElem?_eq_getElem hk]
  exact List.getElem_mem _
theorem kf {r:List Int} (h:okS r) (i:Nat):0≤r.getD i 0∧r.getD i 0<17:=by
 by_cases hi:i<r.length
 ·refine h _ ?_
  rw [List.getD_eq_getElem?_getD,List.getElem?_eq_getElem hi]
  exact List.getElem_mem _
 ·rw [List.getD_eq_getElem?_getD,List.getElem?_eq_none (by omega)]; simp
structure Gr (R:List (List Int)) (N W:Nat):Prop where
 len:R.length=N
 row:∀ p,p<N→(R.getD p []).length=W
 ok:∀ p,okS (R.getD p [])
theorem JU (R:List (List Int)) (i k:Nat) (x:List Int):(R.set i x).getD k []=if i=k∧i<R.length then x else R.getD k []:=by
 rw [List.getD_eq_getElem?_getD,List.getElem?_set,List.getD_eq_getElem?_getD]
 by_cases h:i=k
 ·subst h
  by_cases h2:i<R.length
  ·simp [h2]
  ·simp [h2]
 ·simp [h]
theorem Gr.set {R:List (List Int)} {N W p:Nat} {r:List Int} (h:Gr R N W) (hl:r.length=W) (hr:okS r):Gr (R.set p r) N W:=by
 refine ⟨by rw [List.length_set,h.len],fun q hq=>?_,fun q=>?_⟩
 ·rw [JU]; split
  ·exact hl
  ·exact h.row q hq
 ·rw [JU]; split
  ·exact hr
  ·exact h.ok q
def oI (op:List Nat):List Int:=List.map (fun i:Nat=>(i:Int)) op
theorem ke (op:List Nat):(oI op).length=op.length:=by unfold oI; simp
theorem kL (op:List Nat) (k:Nat):(oI op).getD k 0=((op.getD k 0:Nat):Int):=by
 unfold oI
 simp only [List.getD_eq_getElem?_getD,List.getElem?_map]
 cases op[k]? <;> rfl
theorem GN {x y:Int} (hx:0≤x∧x<17) (hy:0≤y∧y<17):0≤x*y∧x*y≤256:=by
 constructor
 ·exact Int.mul_nonneg hx.1 hy.1
 ·have:=Int.mul_le_mul (show x≤16 by omega) (show y≤16 by omega) hy.1 (by omega)
  omega
def elg (f:Int) (P:List Int) (k:Nat) (x:Int):Int:=(x - f*P.getD k 0) % 17
theorem jlH {w:Nat} {oD:List DV} {L e N:Nat} {i f wI nI NI yr a b:Int} {p q W:Nat} {O:List Int} {m:List Nat} {R:List (List Int)} (hR:Gr R N W) (hp:p<N) (hq:q<N) (hpq:p≠q) (hf:0≤f∧f<17) (hW:W≤300) (hyr:0≤yr∧yr≤300) :
  ∀ (d k:Nat),W=k+d→res B93 (.c19 w oD L e N i p W q W f wI nI NI yr (W:Int) (k:Int) a b (O.map aI) e m (RD (R.set q (prg (elg f (R.getD p [])) (R.getD q []) k)))) =
   res B93 (.c18 w oD L e N i p W wI nI NI (yr+1) a b (O.map aI) e m (RD (R.set q (prg (elg f (R.getD p [])) (R.getD q []) W)))):=by
 have hlen:=hR.len
 intro d
 induction d with
 | zero =>
  intro k hk
  have hk:k=W:=by omega
  subst hk
  have h1:¬ ((k:Int)<(k:Int)):=by omega
  have h2:je (yr+1):=by unfold je; omega
  rw [jf]
  simp only [B93,jj,h1,decide_false,Bool.false_eq_true,if_false,jg,PC.holds,h2,jd,jy,jk,jb]
 | succ d ih =>
  intro k hk
  have ih:=ih (k+1) (by omega)
  have hqr:=hR.row q hq
  have hpr:=hR.row p hp
  have g1:(R.set q (prg (elg f (R.getD p [])) (R.getD q []) k)).getD q []=prg (elg f (R.getD p [])) (R.getD q []) k:=by rw [JU,if_pos ⟨rfl,by omega⟩]
  have g2:(R.set q (prg (elg f (R.getD p [])) (R.getD q []) k)).getD p []=R.getD p []:=by rw [JU,if_neg (fun c=>hpq c.1.symm)]
  have g3:(prg (elg f (R.getD p [])) (R.getD q []) k).getD k 0=(R.getD q []).getD k 0:=by rw [kW _ _ _ (by omega),if_neg (by omega)]
  have g4:(prg (elg f (R.getD p [])) (R.getD q []) k).set k (((R.getD q []).getD k 0 - f*(R.getD p []).getD k 0) % 17)=prg (elg f (R.getD p [])) (R.getD q []) (k+1):=jff (elg f (R.getD p [])) (R.getD q []) (by omega)
  have x1:=kf (hR.ok q) k
  have x2:=kf (hR.ok p) k
  have x3:=GN hf x2
  have a1:=at0 (r:=prg (elg f (R.getD p [])) (R.getD q []) k) (i:=k) (by rw [kv]; omega)
  have a2:=at0 (r:=R.getD p []) (i:=k) (by omega)
  rw [g3] at a1
  have h1:(k:Int)<(W:Int):=by omega
  have h2:je (f*(R.getD p []).getD k 0):=by unfold je; omega
  have h3:je ((R.getD q []).getD k 0 - f*(R.getD p []).getD k 0):=by unfold je; omega
  have h4:je ((k:Int)+1):=by unfold je; omega
  have h5:0≤(k:Int):=by omega
  have h6:q<(R.set q (prg (elg f (R.getD p [])) (R.getD q []) k)).length:=by rw [List.length_set]; omega
  have h7:p<(R.set q (prg (elg f (R.getD p [])) (R.getD q []) k)).length:=by rw [List.length_set]; omega
  have h8:k<(prg (elg f (R.getD p [])) (R.getD q []) k).length:=by rw [kv]; omega
  rw [jf]
  simp only [B93,jj,h1,decide_true,if_true,jaS,qY,g1,g2,ju,g3,Int.toNat_natCast,Kc,jc,jg,PC.holds,h2,h3,h4,h5,h6,h7,a1,a2,List.length_map,h8,jd,jq,jy,jk,jb,jir,g4,jiG,List.set_set]
  exact ih
def scg (u:Int) (_:Nat) (x:Int):Int:=(x*u) % 17
theorem jm4 {w:Nat} {oD:List DV} {L e N:Nat} {i u wI nI a b:Int} {p W:Nat} {O:List Int} {m:List Nat} {R:List (List Int)} (hR:Gr R N W) (hp:p<N) (hu:0≤u∧u<17) (hW:W≤300) :
  ∀ (d k:Nat),W=k+d→res B93 (.c17 w oD L e N i p W u wI nI (W:Int) (k:Int) a b (O.map aI) e m (RD (R.set p (prg (scg u) (R.getD p []) k)))) =
   res B93 (.c18 w oD L e N i p W wI nI (N:Int) 0 a b (O.map aI) e m (RD (R.set p (prg (scg u) (R.getD p []) W)))):=by
 have hlen:=hR.len
 intro d
 induction d with
 | zero =>
  intro k hk
  have hk:k=W:=by omega
  subst hk
  have h1:¬ ((k:Int)<(k:Int)):=by omega
  rw [jf]
  simp only [B93,jj,h1,decide_false,Bool.false_eq_true,if_false,jg,PC.holds,jd,jy,jk,jb]
 | succ d ih =>
  intro k hk
  have ih:=ih (k+1) (by omega)
  have hpr:=hR.row p hp
  have g1:(R.set p (prg (scg u) (R.getD p []) k)).getD p []=prg (scg u) (R.getD p []) k:=by rw [JU,if_pos ⟨rfl,by omega⟩]
  have g3:(prg (scg u) (R.getD p []) k).getD k 0=(R.getD p []).getD k 0:=by rw [kW _ _ _ (by omega),if_neg (by omega)]
  have g4:(prg (scg u) (R.getD p []) k).set k (((R.getD p []).getD k 0*u) % 17)=prg (scg u) (R.getD p []) (k+1):=jff (scg u) (R.getD p []) (by omega)
  have x2:=kf (hR.ok p) k
  have x3:=GN x2 hu
  have a1:=at0 (r:=prg (scg u) (R.getD p []) k) (i:=k) (by rw [kv]; omega)
  rw [g3] at a1
  have h1:(k:Int)<(W:Int):=by omega
  have h2:je ((R.getD p []).getD k 0*u):=by unfold je; omega
  have h4:je ((k:Int)+1):=by unfold je; omega
  have h5:0≤(k:Int):=by omega
  have h6:p<(R.set p (prg (scg u) (R.getD p []) k)).length:=by rw [List.length_set]; omega
  have h8:k<(prg (scg u) (R.getD p []) k).length:=by rw [kv]; omega
  rw [jf]
  simp only [B93,jj,h1,decide_true,if_true,jaS,qY,g1,ju,g3,Int.toNat_natCast,Kc,jc,jg,PC.holds,h2,h4,h5,h6,a1,List.length_map,h8,jd,jq,jy,jk,jb,jir,g4,jiG,List.set_set]
  exact ih
structure MidR (R:List (List Int)) (m:List Nat) (N W n y:Nat) (P:List Int) (C:Nat→List Int):Prop where
 gr:Gr R N W
 piv:R.getD (m.getD n 0) []=P
 done:∀ j,j<y→j≠n→R.getD (m.getD j 0) []=prg (elg ((C j).getD n 0) P) (C j) W
 rest:∀ j,y≤j→j<N→j≠n→R.getD (m.getD j 0) []=C j
theorem jm6 {w:Nat} {oD:List DV} {L e N n:Nat} {wI a b:Int} {i W:Nat} {O:List Int} {m:List Nat} {P:List Int} {C:Nat→List Int} (hm:m.length=N) (hmp:Places m N) (hn:n<N) (hnW:n<W) (hW:W≤300) (hN:N≤300) (hi:i<O.length) (hO:O.length=L) (hC:∀ j,okS (C j)) (hPo:okS P) :
  ∀ (d y:Nat) (R:List (List Int)),N=y+d→MidR R m N W n y P C →
   ∃ R',MidR R' m N W n N P C∧res B93 (.c18 w oD L e N (i:Int) (m.getD n 0) W wI (n:Int) (N:Int) (y:Int) a b (O.map aI) e m (RD R))=res B93 (.c12 w oD L e N wI ((n+1:Nat):Int) a b ((O.set i 0).map aI) e m (RD R')):=by
 intro d
 induction d with
 | zero =>
  intro y R hy h
  have hy:y=N:=by omega
  subst hy
  refine ⟨R,h,?_⟩
  have h1:¬ ((y:Int)<(y:Int)):=by omega
  have h2:je ((n:Int)+1):=by unfold je; omega
  have h3:0≤(i:Int):=by omega
  have h4:(i:Int)<(L:Int):=by omega
  rw [jf]
  simp only [B93,jj,h1,decide_false,Bool.false_eq_true,if_false,jg,PC.holds,h2,h3,h4,jd,Int.toNat_natCast,Nat.mul_one,Nat.zero_add,Jr,jgr 0 hi,jy,jk,jb]
  rw [jm (by simp; omega),jb,show (n:Int)+1=((n+1:Nat):Int) by omega]
 | succ d ih =>
  intro y R hy h
  have h1:(y:Int)<(N:Int):=by omega
  have h2:je ((y:Int)+1):=by unfold je; omega
  have h3:0≤(y:Int):=by omega
  have h4:y<m.length:=by omega
  by_cases hyn:y=n
  ·subst hyn
   obtain ⟨R',hR',hr⟩:=ih (y+1) R (by omega) ⟨h.gr,h.piv,fun j hj hjn=>h.done j (by omega) hjn,fun j hj hjN hjn=>h.rest j (by omega) hjN hjn⟩
   refine ⟨R',hR',?_⟩
   rw [← hr,jf]
   simp only [B93,jj,h1,decide_true,if_true,jg,PC.holds,h2,h3,jd,Int.toNat_natCast,Nat.zero_add,h4,beq_self_eq_true,jy,jk,jb]
   rw [show (y:Int)+1=((y+1:Nat):Int) by omega]
  ·have hb:((y:Int)==(n:Int))=false:=beq_eq_false_iff_ne.2 (by omega)
   have hq:m.getD y 0<N:=hmp.lt y (by omega)
   have hp:m.getD n 0<N:=hmp.lt n (by omega)
   have hpq:m.getD n 0≠m.getD y 0:=fun c=>hyn (hmp.inj n y (by omega) (by omega) c).symm
   have hrow:R.getD (m.getD y 0) []=C y:=h.rest y (by omega) (by omega) hyn
   have hCl:(C y).length=W:=by rw [← hrow]; exact h.gr.row _ hq
   have hlen:=h.gr.len
   have hf:=kf (hC y) n
   have hrun:=jlH (w:=w) (oD:=oD) (L:=L) (e:=e) (i:=(i:Int)) (f:=(C y).getD n 0) (wI:=wI) (nI:=(n:Int)) (NI:=(N:Int)) (yr:=(y:Int)) (a:=a) (b:=b) (O:=O) (m:=m) h.gr hp hq hpq hf hW (by omega) W 0 (by omega)
   rw [jdi,h.piv,hrow] at hrun
   have e0:R.set (m.getD y 0) (C y)=R:=by
    rw [← hrow]
    apply List.ext_getElem?
    intro z
    rw [List.getElem?_set]
    by_cases hz:m.getD y 0=z
    ·subst hz
     have:m.getD y 0<R.length:=by omega
     rw [if_pos rfl,if_pos this,List.getD_eq_getElem?_getD,List.getElem?_eq_getElem this]; rfl
    ·rw [if_neg hz]
   rw [e0] at hrun
   have hPl:P.length=W:=by rw [← h.piv]; exact h.gr.row _ hp
   have hel:∀ k x,0≤elg ((C y).getD n 0) P k x∧elg ((C y).getD n 0) P k x<17:=fun k x=>by unfold elg; omega
   have hmid:MidR (R.set (m.getD y 0) (prg (elg ((C y).getD n 0) P) (C y) W)) m N W n (y+1) P C:=by
    refine ⟨h.gr.set (by rw [kv,hCl]) (jib (hC y) hel W),?_,?_,?_⟩
    ·rw [JU,if_neg (fun c=>hpq c.1.symm)]; exact h.piv
    ·intro j hj hjn
     rw [JU]
     by_cases hjy:j=y
     ·subst hjy; rw [if_pos ⟨rfl,by omega⟩]
     ·rw [if_neg (fun c=>hjy (hmp.inj y j (by omega) (by omega) c.1).symm)]
      exact h.done j (by omega) hjn
    ·intro j hj hjN hjn
     rw [JU,if_neg (fun c=>by have:=hmp.inj y j (by omega) (by omega) c.1; omega)]
     exact h.rest j (by omega) hjN hjn
   obtain ⟨R',hR',hr⟩:=ih (y+1) _ (by omega) hmid
   refine ⟨R',hR',?_⟩
   rw [show ((y+1:Nat):Int)=(y:Int)+1 by omega] at hr
   rw [← hr,← hrun,jf]
   have a1:=at0 (r:=C y) (i:=n) (by omega)
   have h6:0≤(n:Int):=by omega
   have h7:(n:Int)<(W:Int):=by omega
   have h8:m.getD y 0<R.length:=by omega
   simp only [B93,jj,h1,decide_true,if_true,jg,PC.holds,h2,h3,jd,Int.toNat_natCast,Nat.zero_add,h4,hb,Bool.false_eq_true,if_false,jaS,qY,hrow,List.length_map,hCl,ju,a1,h6,h7,h8,jy,jk,jb]
   rfl
def swm (m:List Nat) (a n:Nat):List Nat:=(m.set a (m.getD n 0)).set n (m.getD a 0)
theorem jaM (l:List Nat) (i k:Nat) (x:Nat):(l.set i x).getD k 0=if i=k∧i<l.length then x else l.getD k 0:=by
 rw [List.getD_eq_getElem?_getD,List.getElem?_set,List.getD_eq_getElem?_getD]
 by_cases h:i=k
 ·subst h
  by_cases h2:i<l.length
  ·simp [h2]
  ·simp [h2]
 ·simp [h]
theorem jbO (m:List Nat) (a n:Nat):(swm m a n).length=m.length:=by unfold swm; simp
theorem yI {m:List Nat} {a n:Nat} (ha:a<m.length) (hn:n<m.length) (j:Nat):(swm m a n).getD j 0=if j=n then m.getD a 0 else if j=a then m.getD n 0 else m.getD j 0:=by
 unfold swm
 rw [jaM,List.length_set,jaM]
 by_cases h1:j=n
 ·subst h1; rw [if_pos ⟨rfl,hn⟩,if_pos rfl]
 ·rw [if_neg (fun c=>h1 c.1.symm),if_neg h1]
  by_cases h2:j=a
  ·subst h2; rw [if_pos ⟨rfl,ha⟩,if_pos rfl]
  ·rw [if_neg (fun c=>h2 c.1.symm),if_neg h2]
theorem jeS {m:List Nat} {a n N:Nat} (h:Places m N) (ha:a<m.length) (hn:n<m.length):Places (swm m a n) N:=by
 refine ⟨fun k hk=>?_,fun x y hx hy e=>?_⟩
 ·rw [jbO] at hk
  rw [yI ha hn]
  split
  ·exact h.lt a ha
  ·split
   ·exact h.lt n hn
   ·exact h.lt k hk
 ·rw [jbO] at hx hy
  rw [yI ha hn,yI ha hn] at e
  have q:∀ {u v},u<m.length→v<m.length→m.getD u 0=m.getD v 0→u=v:=fun hu hv=>h.inj _ _ hu hv
  by_cases h1:x=n
  ·by_cases h2:y=n
   ·omega
   ·by_cases h3:y=a
    ·rw [if_pos h1,if_neg h2,if_pos h3] at e; have:=q ha hn e; omega
    ·rw [if_pos h1,if_neg h2,if_neg h3] at e; have:=q ha hy e; omega
  ·by_cases h2:y=n
   ·by_cases h3:x=a
    ·rw [if_neg h1,if_pos h3,if_pos h2] at e; have:=q hn ha e; omega
    ·rw [if_neg h1,if_neg h3,if_pos h2] at e; have:=q hx ha e; omega
   ·by_cases h3:x=a
    ·by_cases h4:y=a
     ·omega
     ·rw [if_neg h1,if_pos h3,if_neg h2,if_neg h4] at e; have:=q hn hy e; omega
    ·by_cases h4:y=a
     ·rw [if_neg h1,if_neg h3,if_neg h2,if_pos h4] at e; have:=q hx hn e; omega
     ·rw [if_neg h1,if_neg h3,if_neg h2,if_neg h4] at e; exact q hx hy e
theorem jmX {w:Nat} {oD:List DV} {L e N n:Nat} {i wI a b:Int} {W:Nat} {O:List Int} {m:List Nat} {R:List (List Int)} (hR:Gr R N W) (hm:m.length=N) (hmp:Places m N) (hn:n<N) (hnW:n<W) (hN:N≤300) :
  ∀ (d y:Nat),N - n=y+d→(∃ j,n+y≤j∧j<N∧(R.getD (m.getD j 0) []).getD n 0≠0) →
   ∃ (c:Nat) (v:Int),n≤c∧c<N∧(1≤v∧v≤16)∧((R.getD (m.getD c 0) []).getD n 0*v) % 17=1 ∧
    res B93 (.c14 e n (N - n) ((N - n:Nat):Int) (y:Int) w oD L N i wI (n:Int) a b (O.map aI) e m (RD R))=res B93 (.c17 w oD L e N i (m.getD c 0) W v wI (n:Int) (W:Int) 0 a b (O.map aI) e (swm m c n) (RD R)):=by
 have hlen:=hR.len
 intro d
 induction d with
 | zero=>rintro y hy ⟨j,h1,h2,_⟩; omega
 | succ d ih =>
  rintro y hy ⟨j,hj1,hj2,hj3⟩
  have hq:m.getD (n+y) 0<N:=hmp.lt _ (by omega)
  have hq2:m.getD n 0<N:=hmp.lt _ (by omega)
  have hql:=hR.row _ hq
  have a1:=at0 (r:=R.getD (m.getD (n+y) 0) []) (i:=n) (by omega)
  have h1:(y:Int)<((N - n:Nat):Int):=by omega
  have h2:0≤(y:Int):=by omega
  have h3:n+y<m.length:=by omega
  have h4:0≤(n:Int):=by omega
  have h5:(n:Int)<(W:Int):=by omega
  have h6:m.getD (n+y) 0<R.length:=by omega
  have x1:=kf (hR.ok (m.getD (n+y) 0)) n
  by_cases hz:(R.getD (m.getD (n+y) 0) []).getD n 0=0
  ·have hb:((R.getD (m.getD (n+y) 0) []).getD n 0 != 0)=false:=by rw [hz]; rfl
   have hjy:j≠n+y:=fun c=>hj3 (by rw [c]; exact hz)
   obtain ⟨c,v,c1,c2,c3,c4,c5⟩:=ih (y+1) (by omega) ⟨j,by omega,hj2,hj3⟩
   refine ⟨c,v,c1,c2,c3,c4,?_⟩
   rw [← c5,jf]
   have h7:je ((y:Int)+1):=by unfold je; omega
   simp only [B93,jj,h1,decide_true,if_true,jg,PC.holds,h2,jd,Int.toNat_natCast,h3,h4,jaS,qY,List.length_map,hql,h5,h6,ju,a1,hb,Bool.false_eq_true,if_false,h7,jy,jk,jb]
   rw [show (y:Int)+1=((y+1:Nat):Int) by omega]
  ·have hb:((R.getD (m.getD (n+y) 0) []).getD n 0 != 0)=true:=bne_iff_ne.2 hz
   obtain ⟨v,f1,f2,f3⟩:=jmS (x:=(R.getD (m.getD (n+y) 0) []).getD n 0) (by omega)
   refine ⟨n+y,v,by omega,by omega,f2,f3,?_⟩
   have e1:(n:Int)+(y:Int)=((n+y:Nat):Int):=by omega
   have h7:je ((n+y:Nat):Int):=by unfold je; omega
   have h8:0≤((n+y:Nat):Int):=by omega
   have h9:((n+y:Nat):Int)<(N:Int):=by omega
   have h10:(n:Int)<(N:Int):=by omega
   have h11:¬ (y:Int)<0:=by omega
   have h12:n<m.length:=by omega
   have h13:m.getD n 0<R.length:=by omega
   rw [jf]
   simp only [B93,jj,h1,decide_true,if_true,jg,PC.holds,h2,jd,Int.toNat_natCast,Nat.zero_add,h3,h4,jaS,qY,List.length_map,List.length_set,hql,h5,h6,ju,a1,hb,h11,decide_false,Bool.false_eq_true,if_false,e1,h7,h8,h9,h10,h12,h13,f1,jc,jq,jy,jk,jb]
   rfl
structure Col (op:List Nat) (Z:List Int) (N:Nat) (R:List (List Int)) (m:List Nat) (n:Nat):Prop where
 gr:Gr R N (op.length+1)
 ml:m.length=N
 mp:Places m N
 el:El op Z N (mat fun j=>R.getD (m.getD j 0) []) n
 one:∀ k,k<n→(17:Int)∣(R.getD (m.getD k 0) []).getD k 0 - 1
theorem jmm {oD:List DV} {L e N n:Nat} {a b:Int} {O:List Int} {m:List Nat} {R:List (List Int)} {op:List Nat} {Z:List Int} (h:Col op Z N R m n) (hD:oD=(oI op).map vI) (hN:op.length≤N) (hN2:N≤16) (hn:n<op.length) (hp:Places op L) (hL:L≤16) (hO:O.length=L) (hO0:O.getD (op.getD n 0) 0=0) :
  ∃ R' m',Col op Z N R' m' (n+1)∧res B93 (.c12 op.length oD L e N (op.length:Int) (n:Int) a b (O.map aI) e m (RD R))=res B93 (.c12 op.length oD L e N (op.length:Int) ((n+1:Nat):Int) a b (O.map aI) e m' (RD R')):=by
 subst hD
 have hlen:=h.gr.len
 obtain ⟨j,j1,j2,j3⟩:=jho h.el hp hL hN hn
 have j4:(R.getD (m.getD j 0) []).getD n 0≠0:=fun c=>j3 (by show (17:Int)∣(R.getD (m.getD j 0) []).getD n 0; rw [c]; exact ⟨0,rfl⟩)
 obtain ⟨c,v,c1,c2,c3,c4,c5⟩:=jmX (w:=op.length) (oD:=(oI op).map vI) (L:=L) (e:=e) (i:=((op.getD n 0:Nat):Int)) (wI:=(op.length:Int)) (a:=a) (b:=b) (O:=O) (n:=n) h.gr h.ml h.mp (by omega) (by omega) (by omega) (N - n) 0 (by omega) ⟨j,by omega,j2,j4⟩
 have hml:=h.ml
 have hcm:c<m.length:=by omega
 have hnm:n<m.length:=by omega
 have hq:m.getD c 0<N:=h.mp.lt _ hcm
 have hql:=h.gr.row _ hq
 have s1:=jm4 (w:=op.length) (oD:=(oI op).map vI) (L:=L) (e:=e) (i:=((op.getD n 0:Nat):Int)) (u:=v) (wI:=(op.length:Int)) (nI:=(n:Int)) (a:=a) (b:=b) (O:=O) (m:=swm m c n) h.gr hq (by omega) (by omega) (op.length+1) 0 (by omega)
 rw [jdi] at s1
 have e0:R.set (m.getD c 0) (R.getD (m.getD c 0) [])=R:=by
  apply List.ext_getElem?
  intro z
  rw [List.getElem?_set]
  by_cases hz:m.getD c 0=z
  ·subst hz
   have:m.getD c 0<R.length:=by omega
   rw [if_pos rfl,if_pos this,List.getD_eq_getElem?_getD,List.getElem?_eq_getElem this]; rfl
  ·rw [if_neg hz]
 rw [e0] at s1
 have hm':(swm m c n).length=N:=by rw [jbO,h.ml]
 have hmp':=jeS h.mp hcm hnm
 have hpn:(swm m c n).getD n 0=m.getD c 0:=by rw [yI hcm hnm,if_pos rfl]
 have hsc:∀ k x,0≤scg v k x∧scg v k x<17:=fun k x=>by unfold scg; omega
 have hPo:okS (prg (scg v) (R.getD (m.getD c 0) []) (op.length+1)):=jib (h.gr.ok _) hsc _
 have hPl:(prg (scg v) (R.getD (m.getD c 0) []) (op.length+1)).length=op.length+1:=by rw [kv,hql]
 have hmid:MidR (R.set (m.getD c 0) (prg (scg v) (R.getD (m.getD c 0) []) (op.length+1))) (swm m c n) N (op.length+1) n 0 (prg (scg v) (R.getD (m.getD c 0) []) (op.length+1)) (fun j=>R.getD ((swm m c n).getD j 0) []):=by
  refine ⟨h.gr.set hPl hPo,?_,fun j hj=>by omega,?_⟩
  ·rw [hpn,JU,if_pos ⟨rfl,by omega⟩]
  ·intro j _ hjN hjn
   rw [JU,if_neg]
   rintro ⟨g,_⟩
   rw [← hpn] at g
   exact hjn (hmp'.inj n j (by omega) (by omega) g).symm
 have hi:op.getD n 0<O.length:=by rw [hO]; exact hp.lt n hn
 obtain ⟨R',hR',s2⟩:=jm6 (w:=op.length) (oD:=(oI op).map vI) (L:=L) (e:=e) (wI:=(op.length:Int)) (a:=a) (b:=b) (O:=O) hm' hmp' (show n<N by omega) (show n<op.length+1 by omega) (by omega) (by omega) hi hO (fun j=>h.gr.ok _) hPo N 0 _ (by omega) hmid
 have hO1:O.set (op.getD n 0) 0=O:=by
  apply KL (by simp)
  intro z hz
  rw [KM]
  by_cases hzz:op.getD n 0=z
  ·subst hzz; rw [if_pos ⟨rfl,hi⟩,hO0]
  ·rw [if_neg (fun g=>hzz g.1)]
 rw [hO1,hpn] at s2
 refine ⟨R',swm m c n,⟨hR'.gr,hm',hmp',?_,?_⟩,?_⟩
 ·have esw:∀ j k,swp (mat fun j=>R.getD (m.getD j 0) []) c n j k=(R.getD ((swm m c n).getD j 0) []).getD k 0:=by
   intro j k
   unfold swp
   rw [yI hcm hnm]
   by_cases h1:j=n
   ·rw [if_pos h1,if_pos h1]; rfl
   ·rw [if_neg h1,if_neg h1]
    by_cases h2:j=c
    ·rw [if_pos h2,if_pos h2]; rfl
    ·rw [if_neg h2,if_neg h2]; rfl
  have eP:∀ k,k<op.length+1→(17:Int)∣(prg (scg v) (R.getD (m.getD c 0) []) (op.length+1)).getD k 0 - v*(R.getD (m.getD c 0) []).getD k 0:=by
   intro k hk
   rw [kW _ _ _ (by omega),if_pos (by omega)]
   unfold scg
   rw [Int.mul_comm v]
   exact YQ _
  refine jlW h.el hn c1 c2 (u:=v) (t:=fun j=>(R.getD ((swm m c n).getD j 0) []).getD n 0*v) ?_ (by omega) ?_ ?_ ?_
  ·show ¬ (17:Int)∣(R.getD (m.getD c 0) []).getD n 0
   intro g
   have:(17:Int)∣(R.getD (m.getD c 0) []).getD n 0*v:=Int.dvd_trans g ⟨v,rfl⟩
   omega
  ·intro k hk
   rw [esw,hpn]
   show (17:Int)∣(R'.getD ((swm m c n).getD n 0) []).getD k 0 - _
   rw [hR'.piv]
   exact eP k hk
  ·intro j hj hjn k hk
   rw [esw,esw,hpn]
   show (17:Int)∣(R'.getD ((swm m c n).getD j 0) []).getD k 0 - _
   rw [hR'.done j hj hjn]
   have hjl:(R.getD ((swm m c n).getD j 0) []).length=op.length+1:=h.gr.row _ (hmp'.lt j (by omega))
   rw [kW _ _ _ (by omega),if_pos (by omega)]
   unfold elg
   have g1:=eP k hk
   have g2:=jfQ (a:=(R.getD ((swm m c n).getD j 0) []).getD n 0) (b:=(R.getD ((swm m c n).getD j 0) []).getD n 0) ⟨0,by omega⟩ g1
   rw [← Int.mul_assoc] at g2
   generalize (R.getD ((swm m c n).getD j 0) []).getD n 0*(prg (scg v) (R.getD (m.getD c 0) []) (op.length+1)).getD k 0=y at g2 ⊢
   generalize (R.getD ((swm m c n).getD j 0) []).getD n 0*v*(R.getD (m.getD c 0) []).getD k 0=z at g2 ⊢
   omega
  ·intro j hj hjn
   rw [esw,esw,hpn]
   have g2:(17:Int)∣v*(R.getD (m.getD c 0) []).getD n 0 - 1:=by rw [Int.mul_comm]; omega
   have g3:=jfQ (a:=(R.getD ((swm m c n).getD j 0) []).getD n 0) (b:=(R.getD ((swm m c n).getD j 0) []).getD n 0) ⟨0,by omega⟩ g2
   rw [← Int.mul_assoc,Int.mul_one] at g3
   exact jjP g3
 ·intro k hk
  by_cases hkn:k=n
  ·subst hkn
   rw [hR'.piv,kW _ _ _ (by omega),if_pos (by omega)]
   unfold scg
   omega
  ·rw [hR'.done k (by omega) hkn]
   have hkl:(R.getD ((swm m c n).getD k 0) []).length=op.length+1:=h.gr.row _ (hmp'.lt k (by omega))
   rw [kW _ _ _ (by omega),if_pos (by omega)]
   unfold elg
   have g1:(swm m c n).getD k 0=m.getD k 0:=by rw [yI hcm hnm,if_neg hkn,if_neg (by omega)]
   rw [g1]
   have g2:=h.one k (by omega)
   have g3:(17:Int)∣(R.getD (m.getD c 0) []).getD k 0:=h.el.1.1 c k c2 (by omega) (by omega)
   have g4:(17:Int)∣(prg (scg v) (R.getD (m.getD c 0) []) (op.length+1)).getD k 0:=by
    rw [kW _ _ _ (by omega),if_pos (by omega)]
    unfold scg
    have:(17:Int)∣(R.getD (m.getD c 0) []).getD k 0*v:=Int.dvd_trans g3 ⟨v,rfl⟩
    omega
   have g5:(17:Int)∣(R.getD (m.getD k 0) []).getD n 0*(prg (scg v) (R.getD (m.getD c 0) []) (op.length+1)).getD k 0:=Int.dvd_trans g4 ⟨_,Int.mul_comm _ _⟩
   omega
 ·refine Eq.trans ?_ (c5.trans (s1.trans s2))
  rw [jf]
  have a1:=j5 (l:=oI op) (i:=n) (by rw [ke]; exact hn)
  rw [kL] at a1
  have h1:(n:Int)<(op.length:Int):=by omega
  have h2:0≤(n:Int):=by omega
  have h3:n≤(oI op).length:=by rw [ke]; omega
  have h4:(n:Int)<(N:Int):=by omega
  simp only [B93,jj,h1,decide_true,if_true,jg,PC.holds,h2,jd,Int.toNat_natCast,Nat.mul_one,Nat.zero_add,List.length_map,h3,ju,kL,a1,h4,jy,jk,jb]
  rfl
theorem jhm {oD:List DV} {L e N:Nat} {a b:Int} {O:List Int} {op:List Nat} {Z:List Int} (hD:oD=(oI op).map vI) (hN:op.length≤N) (hN2:N≤16) (hp:Places op L) (hL:L≤16) (hO:O.length=L) (hO0:∀ n,n<op.length→O.getD (op.getD n 0) 0=0) :
  ∀ (d n:Nat) (m:List Nat) (R:List (List Int)),op.length=n+d→Col op Z N R m n →
  ∃ R' m',Col op Z N R' m' op.length∧res B93 (.c12 op.length oD L e N (op.length:Int) (n:Int) a b (O.map aI) e m (RD R))=res B93 (.c15 op.length oD L e N (op.length:Int) 0 a b (O.map aI) e m' (RD R')):=by
 intro d
 induction d with
 | zero =>
  intro n m R hn h
  have hn:n=op.length:=by omega
  subst hn
  refine ⟨R,m,h,?_⟩
  have h1:¬ ((op.length:Int)<(op.length:Int)):=by omega
  rw [jf]
  simp only [B93,jj,h1,decide_false,Bool.false_eq_true,if_false,jg,PC.holds,jd,jy,jk,jb]
 | succ d ih =>
  intro n m R hn h
  obtain ⟨R1,m1,g1,g2⟩:=jmm (oD:=oD) (L:=L) (e:=e) (a:=a) (b:=b) (O:=O) h hD hN hN2 (by omega) hp hL hO (hO0 n (by omega))
  obtain ⟨R',m',g3,g4⟩:=ih (n+1) m1 R1 (by omega) g1
  exact ⟨R',m',g3,g2.trans g4⟩
theorem jmI {oD:List DV} {e N:Nat} {a:Int} {op:List Nat} {Z:List Int} {m:List Nat} {R:List (List Int)} (h:Col op Z N R m op.length) (hD:oD=(oI op).map vI) (hN:op.length≤N) (hN2:N≤16) {O:List Int} (hp:Places op O.length) (hL:O.length≤16) (hO:okS O) :
  ∀ (d k:Nat),op.length=k+d→res B93 (.c15 op.length oD O.length e N (op.length:Int) (k:Int) a (N:Int) ((put O op (fun k=>(R.getD (m.getD k 0) []).getD op.length 0) k).map aI) e m (RD R)) =
   some (O.length,(put O op (fun k=>(R.getD (m.getD k 0) []).getD op.length 0) op.length).map vI,isW (put O op (fun k=>(R.getD (m.getD k 0) []).getD op.length 0) op.length) N):=by
 subst hD
 have hlen:=h.gr.len
 have hml:=h.ml
 intro d
 induction d with
 | zero =>
  intro k hk
  have hk:k=op.length:=by omega
  subst hk
  have h1:¬ ((op.length:Int)<(op.length:Int)):=by omega
  have hl:=Kb O op (fun k=>(R.getD (m.getD k 0) []).getD op.length 0) op.length
  have hok:okS (put O op (fun k=>(R.getD (m.getD k 0) []).getD op.length 0) op.length):=jaZ hO fun k _=>kf (h.gr.ok _) _
  generalize put O op (fun k=>(R.getD (m.getD k 0) []).getD op.length 0) op.length=U at hl hok ⊢
  have ht:List.take O.length (List.drop 0 (U.map aI))=U.map aI:=by rw [List.drop_zero,List.take_of_length_le (by simp [hl])]
  have h81:=yG a (k:=N) (l:=U) (by omega) (by omega) hok
  rw [hl] at h81
  have hle:O.length≤(U.map aI).length:=by simp [hl]
  rw [jf]
  simp only [B93,jj,h1,decide_false,Bool.false_eq_true,if_false,Nat.mul_one,Nat.zero_add,ht,gY,K0,h81,jc,jq,jg,PC.holds,hle,jd,jp,ji]
 | succ d ih =>
  intro k hk
  have ih:=ih (k+1) (by omega)
  have hl:=Kb O op (fun k=>(R.getD (m.getD k 0) []).getD op.length 0) k
  rw [← ih,put,jf]
  generalize put O op (fun k=>(R.getD (m.getD k 0) []).getD op.length 0) k=U at hl ⊢
  have a1:=j5 (l:=oI op) (i:=k) (by rw [ke]; omega)
  rw [kL] at a1
  have hq:m.getD k 0<N:=h.mp.lt _ (by omega)
  have hql:=h.gr.row _ hq
  have a2:=at0 (r:=R.getD (m.getD k 0) []) (i:=op.length) (by omega)
  have hop:=hp.lt k (by omega)
  have hop2:op.getD k 0<U.length:=by omega
  have h1:(k:Int)<(op.length:Int):=by omega
  have h2:0≤(k:Int):=by omega
  have h3:k≤(oI op).length:=by rw [ke]; omega
  have h4:(k:Int)<(N:Int):=by omega
  have h5:k<m.length:=by omega
  have h6:0≤(op.length:Int):=by omega
  have h7:(op.length:Int)<((op.length+1:Nat):Int):=by omega
  have h8:m.getD k 0<R.length:=by omega
  have h9:0≤((op.getD k 0:Nat):Int):=by omega
  have h10:((op.getD k 0:Nat):Int)<(O.length:Int):=by omega
  have h11:op.getD k 0+1≤U.length:=by omega
  have h12:je ((k:Int)+1):=by unfold je; omega
  simp only [B93,jj,h1,decide_true,if_true,jg,PC.holds,h2,jd,Int.toNat_natCast,Nat.mul_one,Nat.zero_add,List.length_map,h3,ju,kL,a1,h4,h5,h6,jaS,qY,hql,h7,h8,a2,h9,h10,h11,Jr,jgr _ hop2,h12,jy,jk,jb]
  rw [show (k:Int)+1=((k+1:Nat):Int) by omega]
end
section
open Go Go.RowKit
def rwp (op:List Nat) (j t:Nat):List Int:=(op.take t).map fun i=>pw (i*(j+1))
theorem YE (op:List Nat) (j:Nat) {t:Nat} (ht:t≤op.length):(rwp op j t).length=t:=by unfold rwp; simp; omega
theorem qk (op:List Nat) (j:Nat) {t:Nat} (ht:t<op.length):rwp op j (t+1)=rwp op j t++[pw (op.getD t 0*(j+1))]:=by
 unfold rwp
 rw [List.take_succ,List.map_append]
 congr 1
 rw [List.getElem?_eq_getElem ht]
 simp [List.getD_eq_getElem?_getD,ht]
theorem jlE (op:List Nat) (j:Nat):rwp op j op.length=op.map fun i=>pw (i*(j+1)):=by unfold rwp; rw [List.take_length]
theorem jmK {A:List Int} {t:Nat} (h:A.length=t) (v:Int):List.take t (A.map aI)++List.map AV.d [DV.v (Value.int IntKind.i64 v)]=(A++[v]).map aI:=by
 rw [List.take_of_length_le (by simp; omega)]; simp
theorem YD {A:List Int} {t:Nat} (h:A.length≤t):List.take t (A.map aI)=A.map aI:=List.take_of_length_le (by simp; omega)
theorem jlU (l:List Int) (N j:Nat) (hj:j<N) (v:Int) (hv:v=syn l (j+1)):(JK l j++List.replicate (N - j) 0).set j v=JK l (j+1)++List.replicate (N - (j+1)) 0:=by
 subst hv
 have hl2:=Zz l j
 rw [List.set_append_right _ _ (by omega),hl2,Nat.sub_self,show N - j=(N - (j+1))+1 by omega,List.replicate_succ,List.set_cons_zero]
 unfold JK
 rw [List.range_succ,List.map_append]
 simp [syn]
theorem joB (l:List Int) (N j:Nat) {w:Nat} {oD:List DV} {a b:Int} (hl:l.length≤300) (hk:j<N) (hk2:N≤16) (hs:okS l):∀ (xs:List Int) (i:Nat) (A:List Int),l.drop i=xs→i≤l.length→A.length=N→0≤A.getD j 0∧A.getD j 0<17 →
  res B93 (.c3 l.length N (j:Int) (N:Int) (l.length:Int) (i:Int) w oD a b (l.map aI) (A.map aI))=res B93 (.c2 l.length N (N:Int) ((j+1:Nat):Int) w oD a b (l.map aI) ((A.set j (Zf xs (j+1) i (A.getD j 0))).map aI)):=by
 intro xs
 induction xs with
 | nil =>
  intro i A hd hi hA hb
  have hi2:i=l.length:=by
   have:=congrArg List.length hd
   simp at this; omega
  rw [jf]
  have h1:¬ ((i:Int)<(l.length:Int)):=by omega
  have h2:je ((j:Int)+1):=by unfold je; omega
  have e:A.set j (A.getD j 0)=A:=by
   apply List.ext_getElem?
   intro q
   rw [List.getElem?_set]
   by_cases hq:j=q
   ·subst hq
    have:j<A.length:=by omega
    simp [this,List.getD_eq_getElem?_getD]
   ·simp [hq]
  simp only [B93,jj,h1,decide_false,Bool.false_eq_true,if_false,jg,jd,PC.holds,h2,if_true,jy,jk,jb,Zf,e]
  rw [show (j:Int)+1=((j+1:Nat):Int) by omega]
 | cons x xs ih =>
  intro i A hd hi hA hb
  have hi2:i<l.length:=by
   apply Classical.byContradiction
   intro h
   rw [List.drop_eq_nil_of_le (by omega)] at hd
   simp at hd
  have hx:l.getD i 0=x∧l.drop (i+1)=xs:=by
   rw [QF 0 hi2] at hd
   simpa using hd
  have hxs:0≤x∧x<17:=by
   refine hs x ?_
   have:x ∈ l.drop i:=by rw [hd]; simp
   exact List.mem_of_mem_drop this
  have hjA:j<A.length:=by omega
  have hpw:=jcP (i*(j+1))
  have hij:i*(j+1)≤300*17:=Nat.mul_le_mul (by omega) (by omega)
  have eij:(i:Int)*((j:Int)+1)=((i*(j+1):Nat):Int):=by simp
  have hmul:0≤x*pw (i*(j+1))∧x*pw (i*(j+1))≤17*16:=by
   constructor
   ·exact Int.mul_nonneg hxs.1 (by omega)
   ·exact Int.mul_le_mul (by omega) hpw.2 (by omega) (by omega)
  have ih':=ih (i+1) (A.set j ((A.getD j 0+x*pw (i*(j+1))) % 17)) hx.2 (by omega) (by simpa using hA) (by
   rw [List.getD_eq_getElem?_getD,List.getElem?_set_self hjA]
   simp only [Option.getD_some]; omega)
  rw [List.set_set] at ih'
  have eg:(A.set j ((A.getD j 0+x*pw (i*(j+1))) % 17)).getD j 0=(A.getD j 0+x*pw (i*(j+1))) % 17:=by
   rw [List.getD_eq_getElem?_getD,List.getElem?_set_self hjA]; rfl
  rw [eg] at ih'
  rw [Zf,← ih',jf]
  have h1:(i:Int)<(l.length:Int):=by omega
  have h2:je ((j:Int)+1):=by unfold je; omega
  have h3:je ((i:Int)+1):=by unfold je; omega
  have h4:0≤(i:Int):=by omega
  have h6:je ((i*(j+1):Nat):Int):=by unfold je; omega
  have h7:je (x*pw (i*(j+1))):=by unfold je; omega
  have h8:je (A.getD j 0+x*pw (i*(j+1))):=by unfold je; omega
  have h9:0≤(j:Int):=by omega
  have h10:(j:Int)<(N:Int):=by omega
  have h11:j+1≤A.length:=by omega
  have g1:=atA hi2
  rw [hx.1] at g1
  have g2:dI (JY (l.map aI) i)=x:=by rw [zx,hx.1]
  have g3:=atA hjA
  simp only [B93,jj,h1,decide_true,if_true,jg,jd,PC.holds,h2,h3,h4,Int.toNat_natCast,Nat.mul_one,Nat.zero_add,g1,g2,eij,Ky,jc,zx,hx.1,Kc,h6,h7,h8,h9,h10,g3,jq,Jr,jgr _ hjA,List.length_map,h11,jy,jk,jb]
  rw [show (i:Int)+1=((i+1:Nat):Int) by omega]
theorem jpm (l:List Int) (N:Nat) {w:Nat} {oD:List DV} {a b:Int} (hl:l.length≤300) (hk:N≤16) (hs:okS l):∀ (m j:Nat),N=j+m →
  res B93 (.c2 l.length N (N:Int) (j:Int) w oD a b (l.map aI) ((JK l j++List.replicate m 0).map aI))=res B93 (.c4 w oD l.length N (N:Int) 0 a b (l.map aI) ((JK l N).map aI)):=by
 intro m
 induction m with
 | zero =>
  intro j hj
  have:j=N:=by omega
  subst this
  rw [jf]
  have h1:¬ ((j:Int)<(j:Int)):=by omega
  simp only [List.replicate_zero,List.append_nil,B93,jj,h1,decide_false,Bool.false_eq_true,if_false,jg,jd,PC.holds,jy,jk,jb]
 | succ m ih =>
  intro j hj
  have hl2:=Zz l j
  rw [jf]
  have h1:(j:Int)<(N:Int):=by omega
  simp only [B93,jj,h1,decide_true,if_true,jg,jd,PC.holds,jy,jk,jb]
  have hj0:(JK l j++List.replicate (m+1) 0).getD j 0=0:=by
   rw [List.getD_eq_getElem?_getD,List.getElem?_append_right (by omega),hl2]
   simp
  have hin:=joB l N j (w:=w) (oD:=oD) (a:=a) (b:=b) hl (by omega) hk hs l 0 (JK l j++List.replicate (m+1) 0) (by simp) (by omega) (by simp [hl2]; omega) (by rw [hj0]; omega)
  refine hin.trans ?_
  rw [hj0]
  have e:(JK l j++List.replicate (m+1) 0).set j (Zf l (j+1) 0 0)=JK l (j+1)++List.replicate m 0:=by
   have:=jlU l N j (by omega) (Zf l (j+1) 0 0) rfl
   rw [show N - j=m+1 by omega,show N - (j+1)=m by omega] at this
   exact this
  rw [e]
  exact ih (j+1) (by omega)
def rws (op:List Nat) (Z:List Int) (k:Nat):List (List Int):=(List.range k).map (Kr op Z)
theorem jbA (op:List Nat) (Z:List Int) (k:Nat):(rws op Z k).length=k:=by unfold rws; simp
theorem jh8 (op:List Nat) (Z:List Int) (k:Nat):rws op Z (k+1)=rws op Z k++[Kr op Z k]:=by
 unfold rws; rw [List.range_succ,List.map_append]; rfl
theorem jeP (op:List Nat) (Z:List Int) {k p:Nat} (hp:p<k):(rws op Z k).getD p []=Kr op Z p:=by
 unfold rws
 simp [List.getD_eq_getElem?_getD,hp]
theorem YH (l:List Int) {N k:Nat} (hk:k<N):(JK l N).getD k 0=syn l (k+1):=by
 unfold JK
 simp [List.getD_eq_getElem?_getD,hk]
theorem jmx {oD:List DV} {op:List Nat} {L N e k:Nat} {a b s:Int} {Z S:List Int} {m:List Nat} {R:List (List Int)} (hD:oD=(oI op).map vI) (hp:Places op 16) (hw:op.length≤16) (hk:k≤16) (hs:0≤s∧s<17) (hcn:m.length≤16) :
  ∀ (d t:Nat),op.length=t+d→res B93 (.c16 t t op.length oD (op.length:Int) (t:Int) L e m.length s N (N:Int) (k:Int) a b (Z.map aI) (S.map aI) e m (RD R) ((rwp op k t).map aI)) =
   res B93 (.c8 op.length oD L (e+1) (m.length+1) N (N:Int) ((k+1:Nat):Int) a b (Z.map aI) (S.map aI) (e+1) (m++[R.length]) (RD (R++[rwp op k op.length++[(-s) % 17]]))):=by
 subst hD
 intro d
 induction d with
 | zero =>
  intro t ht
  have ht:t=op.length:=by omega
  subst ht
  have h1:¬ ((op.length:Int)<(op.length:Int)):=by omega
  have h2:je (-s):=by unfold je; omega
  have hl:=YE op k (Nat.le_refl op.length)
  generalize rwp op k op.length=A at hl ⊢
  have h3:op.length≤A.length:=by omega
  have h4:je ((k:Int)+1):=by unfold je; omega
  have ha:=jmK hl ((-s) % 17)
  have hl2:(A++[(-s) % 17]).length≤op.length+1:=by simp; omega
  have h5:op.length+1≤(A++[(-s) % 17]).length:=by simp; omega
  rw [jf]
  simp only [B93,jj,h1,decide_false,Bool.false_eq_true,if_false,jg,PC.holds,h2,jd,Kc,jc,jq,Nat.mul_one,List.length_map,h3,ha,YD hl2,K0,gY,h5,h4,Jf,jy,jk,jb,jd0,qY]
  rw [jm (by first | omega | (unfold Jt; omega)),jm (by first | omega | (unfold Jt; omega)),jb,show (k:Int)+1=((k+1:Nat):Int) by omega]
 | succ d ih =>
  intro t ht
  have ih:=ih (t+1) (by omega)
  rw [qk op k (by omega)] at ih
  have hl:=YE op k (show t≤op.length by omega)
  rw [← ih,jf]
  generalize rwp op k t=A at hl ⊢
  have a1:=j5 (l:=oI op) (i:=t) (by rw [ke]; omega)
  rw [kL] at a1
  have hop:=hp.lt t (by omega)
  have h1:(t:Int)<(op.length:Int):=by omega
  have h2:0≤(t:Int):=by omega
  have h3:t≤(oI op).length:=by rw [ke]; omega
  have h4:je ((k:Int)+1):=by unfold je; omega
  have e1:((op.getD t 0:Nat):Int)*((k:Int)+1)=((op.getD t 0*(k+1):Nat):Int):=by simp
  have hm:op.getD t 0*(k+1)≤16*17:=Nat.mul_le_mul (by omega) (by omega)
  have h5:je ((op.getD t 0*(k+1):Nat):Int):=by unfold je; omega
  have h6:t≤A.length:=by omega
  have h7:je ((t:Int)+1):=by unfold je; omega
  have ha:=jmK hl (pw (op.getD t 0*(k+1)))
  simp only [B93,jj,h1,decide_true,if_true,jg,PC.holds,h2,jd,Int.toNat_natCast,Nat.mul_one,List.length_map,h3,ju,kL,a1,h4,e1,h5,Ky,jc,jq,h6,h7,ha,Jf,jy,jk,jb]
  rw [jm (by first | omega | (unfold Jt; omega)),jb,show (t:Int)+1=((t+1:Nat):Int) by omega]
theorem jmR {oD:List DV} {op:List Nat} {L N e k:Nat} {a b s:Int} {Z S:List Int} {m:List Nat} {R:List (List Int)} (hD:oD=(oI op).map vI) (hp:Places op 16) (hw:op.length≤16) (hk:k≤16) (hs:0≤s∧s<17) (hcn:m.length≤16) :
  res B93 (.c11 op.length oD (op.length:Int) 0 L e m.length s N (N:Int) (k:Int) a b (Z.map aI) (S.map aI) e m (RD R)) =
   res B93 (.c8 op.length oD L (e+1) (m.length+1) N (N:Int) ((k+1:Nat):Int) a b (Z.map aI) (S.map aI) (e+1) (m++[R.length]) (RD (R++[rwp op k op.length++[(-s) % 17]]))):=by
 by_cases h0:op.length=0
 ·have h1:¬ ((0:Int)<(op.length:Int)):=by omega
  have h2:je (-s):=by unfold je; omega
  have h4:je ((k:Int)+1):=by unfold je; omega
  have hn:op=[]:=List.eq_nil_of_length_eq_zero h0
  rw [jf]
  simp only [B93,jj,h1,decide_false,Bool.false_eq_true,if_false,jg,PC.holds,h2,jd,Kc,jc,jq,Jr,h4,jy,jk,jb,qY]
  rw [jm (by first | omega | (unfold Jt; omega)),jb,show (k:Int)+1=((k+1:Nat):Int) by omega]
  have e:RD R++[List.map aD (List.take 1 [AV.d (DV.v (Value.int IntKind.i64 ((-s) % 17)))])]=RD (R++[rwp op k op.length++[(-s) % 17]]):=by
   subst hn
   exact jd0 R [(-s) % 17]
  rw [e]
 ·have hc:=jmx (oD:=oD) (L:=L) (N:=N) (e:=e) (k:=k) (a:=a) (b:=b) (s:=s) (Z:=Z) (S:=S) (m:=m) (R:=R) hD hp hw hk hs hcn
  subst hD
  have a1:=j5 (l:=oI op) (i:=0) (by rw [ke]; omega)
  rw [kL] at a1
  have hop:=hp.lt 0 (by omega)
  have h1:(0:Int)<(op.length:Int):=by omega
  have h2:(0:Int)≤0:=by omega
  have h3:0≤(oI op).length:=by omega
  have h4:je ((k:Int)+1):=by unfold je; omega
  have e1:((op.getD 0 0:Nat):Int)*((k:Int)+1)=((op.getD 0 0*(k+1):Nat):Int):=by simp
  have hm:op.getD 0 0*(k+1)≤16*17:=Nat.mul_le_mul (by omega) (by omega)
  have h5:je ((op.getD 0 0*(k+1):Nat):Int):=by unfold je; omega
  have h7:je ((0:Int)+1):=by unfold je; omega
  rw [jf]
  simp only [B93,jj,h1,decide_true,if_true,jg,PC.holds,h2,jd,Int.toNat_zero,Nat.mul_one,List.length_map,h3,ju,kL,a1,h4,e1,h5,Ky,jc,jq,h7,Jf,jy,jk,jb]
  have hr1:rwp op k 1=[pw (op.getD 0 0*(k+1))]:=qk op k (by omega)
  by_cases h1w:op.length=1
  ·have h1':¬ ((1:Int)<(op.length:Int)):=by omega
   have h2':je (-s):=by unfold je; omega
   have hrw:rwp op k op.length=[pw (op.getD 0 0*(k+1))]:=by rw [h1w]; exact hr1
   have ha:List.take 1 [AV.d (DV.v (Value.int IntKind.i64 (pw (op.getD 0 0*(k+1)))))]++List.map AV.d [DV.v (Value.int IntKind.i64 ((-s) % 17))]=[pw (op.getD 0 0*(k+1)),(-s) % 17].map aI:=rfl
   have hl2:[pw (op.getD 0 0*(k+1)),(-s) % 17].length≤1+1:=by simp
   have h5':1+1≤[pw (op.getD 0 0*(k+1)),(-s) % 17].length:=by simp
   rw [jf]
   simp only [Int.zero_add,B93,jj,h1',decide_false,Bool.false_eq_true,if_false,jg,PC.holds,h2',jd,Kc,jc,jq,Nat.mul_one,Nat.le_refl,ha,List.length_map,YD hl2,K0,gY,h5',h4,Jf,jy,jk,jb,jd0,qY,hrw]
   rw [jm (by first | omega | (unfold Jt; omega)),jm (by first | omega | (unfold Jt; omega)),jb,show (k:Int)+1=((k+1:Nat):Int) by omega]
   rfl
  ·have hc2:=hc (op.length - 2) 2 (by omega)
   rw [← hc2]
   have a1:=j5 (l:=oI op) (i:=1) (by rw [ke]; omega)
   rw [kL] at a1
   have hop:=hp.lt 1 (by omega)
   have h1:(1:Int)<(op.length:Int):=by omega
   have h2:(0:Int)≤1:=by omega
   have h3:1≤(oI op).length:=by rw [ke]; omega
   have e1:((op.getD 1 0:Nat):Int)*((k:Int)+1)=((op.getD 1 0*(k+1):Nat):Int):=by simp
   have hm:op.getD 1 0*(k+1)≤16*17:=Nat.mul_le_mul (by omega) (by omega)
   have h5:je ((op.getD 1 0*(k+1):Nat):Int):=by unfold je; omega
   have h7:je ((1:Int)+1):=by unfold je; omega
   have hr2:rwp op k 2=[pw (op.getD 0 0*(k+1)),pw (op.getD 1 0*(k+1))]:=by rw [qk op k (show 1<op.length by omega),hr1]; rfl
   have ha:List.take 1 [AV.d (DV.v (Value.int IntKind.i64 (pw (op.getD 0 0*(k+1)))))]++List.map AV.d [DV.v (Value.int IntKind.i64 (pw (op.getD 1 0*(k+1))))]=(rwp op k 2).map aI:=by rw [hr2]; rfl
   have ht1:(1:Int).toNat=1:=rfl
   rw [jf]
   simp only [Int.zero_add,B93,jj,h1,decide_true,if_true,jg,PC.holds,h2,jd,ht1,Nat.mul_one,List.length_map,h3,ju,kL,a1,h4,e1,h5,Ky,jc,jq,Nat.le_refl,h7,ha,Jf,jy,jk,jb]
   rw [jm (by first | omega | (unfold Jt; omega)),jb]
   rfl
theorem jm1 {oD:List DV} {op:List Nat} {L N k:Nat} {a b s:Int} {Z S:List Int} (hD:oD=(oI op).map vI) (hp:Places op 16) (hw:op.length≤16) (hk:k≤16) (hs:0≤s∧s<17) :
  ∀ (d t:Nat),op.length=t+d→res B93 (.c10 t t op.length oD (op.length:Int) (t:Int) L s N (N:Int) (k:Int) a b (Z.map aI) (S.map aI) ((rwp op k t).map aI)) =
   res B93 (.c8 op.length oD L 0 1 N (N:Int) ((k+1:Nat):Int) a b (Z.map aI) (S.map aI) 0 [0] (RD [rwp op k op.length++[(-s) % 17]])):=by
 subst hD
 intro d
 induction d with
 | zero =>
  intro t ht
  have ht:t=op.length:=by omega
  subst ht
  have h1:¬ ((op.length:Int)<(op.length:Int)):=by omega
  have h2:je (-s):=by unfold je; omega
  have hl:=YE op k (Nat.le_refl op.length)
  generalize rwp op k op.length=A at hl ⊢
  have h3:op.length≤A.length:=by omega
  have h4:je ((k:Int)+1):=by unfold je; omega
  have ha:=jmK hl ((-s) % 17)
  have hl2:(A++[(-s) % 17]).length≤op.length+1:=by simp; omega
  have h5:op.length+1≤(A++[(-s) % 17]).length:=by simp; omega
  rw [jf]
  simp only [B93,jj,h1,decide_false,Bool.false_eq_true,if_false,jg,PC.holds,h2,jd,Kc,jc,jq,Nat.mul_one,List.length_map,h3,ha,YD hl2,K0,gY,h5,h4,Jf,jy,jk,jb]
  rw [jm (by first | omega | (unfold Jt; omega)),jb,show (k:Int)+1=((k+1:Nat):Int) by omega]
  rfl
 | succ d ih =>
  intro t ht
  have ih:=ih (t+1) (by omega)
  rw [qk op k (by omega)] at ih
  have hl:=YE op k (show t≤op.length by omega)
  rw [← ih,jf]
  generalize rwp op k t=A at hl ⊢
  have a1:=j5 (l:=oI op) (i:=t) (by rw [ke]; omega)
  rw [kL] at a1
  have hop:=hp.lt t (by omega)
  have h1:(t:Int)<(op.length:Int):=by omega
  have h2:0≤(t:Int):=by omega
  have h3:t≤(oI op).length:=by rw [ke]; omega
  have h4:je ((k:Int)+1):=by unfold je; omega
  have e1:((op.getD t 0:Nat):Int)*((k:Int)+1)=((op.getD t 0*(k+1):Nat):Int):=by simp
  have hm:op.getD t 0*(k+1)≤16*17:=Nat.mul_le_mul (by omega) (by omega)
  have h5:je ((op.getD t 0*(k+1):Nat):Int):=by unfold je; omega
  have h6:t≤A.length:=by omega
  have h7:je ((t:Int)+1):=by unfold je; omega
  have ha:=jmK hl (pw (op.getD t 0*(k+1)))
  simp only [B93,jj,h1,decide_true,if_true,jg,PC.holds,h2,jd,Int.toNat_natCast,Nat.mul_one,List.length_map,h3,ju,kL,a1,h4,e1,h5,Ky,jc,jq,h6,h7,ha,Jf,jy,jk,jb]
  rw [jm (by first | omega | (unfold Jt; omega)),jb,show (t:Int)+1=((t+1:Nat):Int) by omega]
theorem joY {oD:List DV} {op:List Nat} {L N k:Nat} {a b s:Int} {Z S:List Int} (hD:oD=(oI op).map vI) (hp:Places op 16) (hw:op.length≤16) (hk:k≤16) (hs:0≤s∧s<17) :
  res B93 (.c5 op.length oD (op.length:Int) 0 L s N (N:Int) (k:Int) a b (Z.map aI) (S.map aI)) =
   res B93 (.c8 op.length oD L 0 1 N (N:Int) ((k+1:Nat):Int) a b (Z.map aI) (S.map aI) 0 [0] (RD [rwp op k op.length++[(-s) % 17]])):=by
 by_cases h0:op.length=0
 ·have h1:¬ ((0:Int)<(op.length:Int)):=by omega
  have h2:je (-s):=by unfold je; omega
  have h4:je ((k:Int)+1):=by unfold je; omega
  have hn:op=[]:=List.eq_nil_of_length_eq_zero h0
  rw [jf]
  simp only [B93,jj,h1,decide_false,Bool.false_eq_true,if_false,jg,PC.holds,h2,jd,Kc,jc,jq,Jr,h4,Jf,jy,jk,jb]
  rw [show (k:Int)+1=((k+1:Nat):Int) by omega]
  subst hn
  rfl
 ·have hc:=jm1 (oD:=oD) (L:=L) (N:=N) (k:=k) (a:=a) (b:=b) (s:=s) (Z:=Z) (S:=S) hD hp hw hk hs
  subst hD
  have a1:=j5 (l:=oI op) (i:=0) (by rw [ke]; omega)
  rw [kL] at a1
  have hop:=hp.lt 0 (by omega)
  have h1:(0:Int)<(op.length:Int):=by omega
  have h2:(0:Int)≤0:=by omega
  have h3:0≤(oI op).length:=by omega
  have h4:je ((k:Int)+1):=by unfold je; omega
  have e1:((op.getD 0 0:Nat):Int)*((k:Int)+1)=((op.getD 0 0*(k+1):Nat):Int):=by simp
  have hm:op.getD 0 0*(k+1)≤16*17:=Nat.mul_le_mul (by omega) (by omega)
  have h5:je ((op.getD 0 0*(k+1):Nat):Int):=by unfold je; omega
  have h7:je ((0:Int)+1):=by unfold je; omega
  rw [jf]
  simp only [B93,jj,h1,decide_true,if_true,jg,PC.holds,h2,jd,Int.toNat_zero,Nat.mul_one,List.length_map,h3,ju,kL,a1,h4,e1,h5,Ky,jc,jq,h7,Jf,jy,jk,jb]
  have hr1:rwp op k 1=[pw (op.getD 0 0*(k+1))]:=qk op k (by omega)
  by_cases h1w:op.length=1
  ·have h1':¬ ((1:Int)<(op.length:Int)):=by omega
   have h2':je (-s):=by unfold je; omega
   have hrw:rwp op k op.length=[pw (op.getD 0 0*(k+1))]:=by rw [h1w]; exact hr1
   have ha:List.take 1 [AV.d (DV.v (Value.int IntKind.i64 (pw (op.getD 0 0*(k+1)))))]++List.map AV.d [DV.v (Value.int IntKind.i64 ((-s) % 17))]=[pw (op.getD 0 0*(k+1)),(-s) % 17].map aI:=rfl
   have hl2:[pw (op.getD 0 0*(k+1)),(-s) % 17].length≤1+1:=by simp
   have h5':1+1≤[pw (op.getD 0 0*(k+1)),(-s) % 17].length:=by simp
   rw [jf]
   simp only [Int.zero_add,B93,jj,h1',decide_false,Bool.false_eq_true,if_false,jg,PC.holds,h2',jd,Kc,jc,jq,Nat.mul_one,Nat.le_refl,ha,List.length_map,YD hl2,K0,gY,h5',h4,Jf,jy,jk,jb,hrw]
   rw [jm (by first | omega | (unfold Jt; omega)),jb,show (k:Int)+1=((k+1:Nat):Int) by omega]
   rfl
  ·have hc2:=hc (op.length - 2) 2 (by omega)
   rw [← hc2]
   have a1:=j5 (l:=oI op) (i:=1) (by rw [ke]; omega)
   rw [kL] at a1
   have hop:=hp.lt 1 (by omega)
   have h1:(1:Int)<(op.length:Int):=by omega
   have h2:(0:Int)≤1:=by omega
   have h3:1≤(oI op).length:=by rw [ke]; omega
   have e1:((op.getD 1 0:Nat):Int)*((k:Int)+1)=((op.getD 1 0*(k+1):Nat):Int):=by simp
   have hm:op.getD 1 0*(k+1)≤16*17:=Nat.mul_le_mul (by omega) (by omega)
   have h5:je ((op.getD 1 0*(k+1):Nat):Int):=by unfold je; omega
   have h7:je ((1:Int)+1):=by unfold je; omega
   have hr2:rwp op k 2=[pw (op.getD 0 0*(k+1)),pw (op.getD 1 0*(k+1))]:=by rw [qk op k (show 1<op.length by omega),hr1]; rfl
   have ha:List.take 1 [AV.d (DV.v (Value.int IntKind.i64 (pw (op.getD 0 0*(k+1)))))]++List.map AV.d [DV.v (Value.int IntKind.i64 (pw (op.getD 1 0*(k+1))))]=(rwp op k 2).map aI:=by rw [hr2]; rfl
   have ht1:(1:Int).toNat=1:=rfl
   rw [jf]
   simp only [Int.zero_add,B93,jj,h1,decide_true,if_true,jg,PC.holds,h2,jd,ht1,Nat.mul_one,List.length_map,h3,ju,kL,a1,h4,e1,h5,Ky,jc,jq,Nat.le_refl,h7,ha,Jf,jy,jk,jb]
   rw [jm (by first | omega | (unfold Jt; omega)),jb]
   rfl
theorem jcD (op:List Nat) (Z:List Int) (k:Nat):rwp op k op.length++[(-(syn Z (k+1))) % 17]=Kr op Z k:=by rw [jlE]; rfl
theorem jph {oD:List DV} {op:List Nat} {L N:Nat} {a b:Int} {Z:List Int} (hD:oD=(oI op).map vI) (hp:Places op 16) (hw:op.length≤16) (hN:N≤16) :
  ∀ (d k:Nat),N=k+1+d→∃ e,res B93 (.c8 op.length oD L k (k+1) N (N:Int) ((k+1:Nat):Int) a b (Z.map aI) ((JK Z N).map aI) k (List.range (k+1)) (RD (rws op Z (k+1)))) =
   res B93 (.c12 op.length oD L e N (op.length:Int) 0 a b (Z.map aI) e (List.range N) (RD (rws op Z N))):=by
 intro d
 induction d with
 | zero =>
  intro k hk
  have hk:N=k+1:=by omega
  subst hk
  refine ⟨k,?_⟩
  have h1:¬ (((k+1:Nat):Int)<((k+1:Nat):Int)):=by omega
  rw [jf]
  simp only [B93,jj,h1,decide_false,Bool.false_eq_true,if_false,jg,PC.holds,jd,Jf,jy,jk,jb]
 | succ d ih =>
  intro k hk
  obtain ⟨e,ih⟩:=ih (k+1) (by omega)
  refine ⟨e,?_⟩
  rw [← ih]
  have hb:=jdY Z (k+1+1)
  have hc:=jmR (oD:=oD) (L:=L) (N:=N) (e:=k) (k:=k+1) (a:=a) (b:=b) (s:=syn Z (k+1+1)) (Z:=Z) (S:=JK Z N) (m:=List.range (k+1)) (R:=rws op Z (k+1)) hD hp hw (by omega) hb (by simp; omega)
  rw [jcD,← jh8,jbA,← List.range_succ,List.length_range] at hc
  rw [← hc,jf]
  have h1:((k+1:Nat):Int)<(N:Int):=by omega
  have h2:0≤((k+1:Nat):Int):=by omega
  have hl:=Zz Z N
  have g1:=atA (A:=JK Z N) (i:=k+1) (by omega)
  rw [YH Z (by omega)] at g1
  simp only [B93,jj,h1,decide_true,if_true,jg,PC.holds,h2,jd,Int.toNat_natCast,Nat.mul_one,Nat.zero_add,zx,YH Z (show k+1<N by omega),g1,jy,jk,jb]
theorem jog {oD:List DV} {op:List Nat} {L N:Nat} {a b:Int} {Z:List Int} (hD:oD=(oI op).map vI) (hp:Places op 16) (hw:op.length≤16) (hN:N≤16) (hN1:1≤N) :
  ∃ e,res B93 (.c4 op.length oD L N (N:Int) 0 a b (Z.map aI) ((JK Z N).map aI))=res B93 (.c12 op.length oD L e N (op.length:Int) 0 a b (Z.map aI) e (List.range N) (RD (rws op Z N))):=by
 obtain ⟨e,h8⟩:=jph (oD:=oD) (L:=L) (a:=a) (b:=b) (Z:=Z) hD hp hw hN (N - 1) 0 (by omega)
 refine ⟨e,?_⟩
 rw [← h8]
 have hb:=jdY Z 1
 have hc:=joY (oD:=oD) (L:=L) (N:=N) (k:=0) (a:=a) (b:=b) (s:=syn Z 1) (Z:=Z) (S:=JK Z N) hD hp hw (by omega) hb
 rw [jcD op Z 0] at hc
 have e1:rws op Z (0+1)=[Kr op Z 0]:=rfl
 rw [e1,show List.range (0+1)=[0] from rfl,← hc,jf]
 have h1:(0:Int)<(N:Int):=by omega
 have h2:(0:Int)≤0:=by omega
 have hl:=Zz Z N
 have g1:=atA (A:=JK Z N) (i:=0) (by omega)
 rw [YH Z (by omega)] at g1
 simp only [B93,jj,h1,decide_true,if_true,jg,PC.holds,h2,jd,Int.toNat_zero,Nat.mul_one,Nat.zero_mul,Nat.zero_add,zx,YH Z (show 0<N by omega),g1,jy,jk,jb]
 rfl
theorem joT {oD:List DV} {op:List Nat} {l:List Int} {N:Nat} {a:Int} (hD:oD=(oI op).map vI) (hp:Places op l.length) (hw:op.length≤16) (hl:l.length≤300) (hN:N≤16) :
  ∀ (d k:Nat),op.length=k+d→res B93 (.c1 op.length oD l.length (op.length:Int) (k:Int) a (N:Int) ((put l op (fun _=>0) k).map aI)) =
   res B93 (.c2 l.length N (N:Int) 0 op.length oD a (N:Int) ((Jb l op).map aI) ((List.replicate N (0:Int)).map aI)):=by
 subst hD
 intro d
 induction d with
 | zero =>
  intro k hk
  have hk:k=op.length:=by omega
  subst hk
  have h1:¬ ((op.length:Int)<(op.length:Int)):=by omega
  have h2:0≤(N:Int):=by omega
  rw [jf]
  simp only [B93,jj,h1,decide_false,Bool.false_eq_true,if_false,jg,PC.holds,h2,Int.le_refl,jd,Int.toNat_natCast,Zx,Jf,jy,jk,jb]
  rw [jm (by first | omega | (unfold Jt; omega)),jm (by first | omega | (unfold Jt; omega)),jb]
  rfl
 | succ d ih =>
  intro k hk
  have ih:=ih (k+1) (by omega)
  have hl2:=Kb l op (fun _=>0) k
  rw [← ih,put,jf]
  generalize put l op (fun _=>0) k=U at hl2 ⊢
  have a1:=j5 (l:=oI op) (i:=k) (by rw [ke]; omega)
  rw [kL] at a1
  have hop:=hp.lt k (by omega)
  have hop2:op.getD k 0<U.length:=by omega
  have h1:(k:Int)<(op.length:Int):=by omega
  have h2:0≤(k:Int):=by omega
  have h3:k≤(oI op).length:=by rw [ke]; omega
  have h9:0≤((op.getD k 0:Nat):Int):=by omega
  have h10:((op.getD k 0:Nat):Int)<(l.length:Int):=by omega
  have h11:op.getD k 0+1≤U.length:=by omega
  have h12:je ((k:Int)+1):=by unfold je; omega
  simp only [B93,jj,h1,decide_true,if_true,jg,PC.holds,h2,jd,Int.toNat_natCast,Nat.mul_one,Nat.zero_add,List.length_map,h3,ju,kL,a1,h9,h10,h11,Jr,jgr _ hop2,h12,jy,jk,jb]
  rw [show (k:Int)+1=((k+1:Nat):Int) by omega]
theorem jx3 {A B:List Int} (h:A.length=B.length):jv (A.map aI) 0 (B.map aI)=B.map aI:=by
 unfold jv
 simp [h]
theorem jbD {l:List Int} {op:List Nat} {N:Nat} (a:Int) (hl:l.length≤16) (hs:okS l) (hp:Places op l.length) (hw:op.length≤N) (hN:N≤16) (hN1:1≤N) :
  ∃ o,F93 a (N:Int) l.length (l.map vI) op.length ((oI op).map vI)=some (l.length,o.map vI,isW o N)∧o.length=l.length∧okS o∧(∀ i,i ∉ op→o.getD i 0=l.getD i 0)∧(∀ o',SolW l op N o'→o=o')∧(op.length=N→isW o N=true):=by
 have hp16:Places op 16:=⟨fun k hk=>by have:=hp.lt k hk; omega,hp.inj⟩
 have hZl:=KH l op
 have hZo:=jax (op:=op) hs
 have hpZ:Places op (Jb l op).length:=by rw [hZl]; exact hp
 obtain ⟨e,r4⟩:=jog (oD:=(oI op).map vI) (L:=l.length) (N:=N) (a:=a) (b:=(N:Int)) (Z:=Jb l op) rfl hp16 (by omega) hN hN1
 have col0:Col op (Jb l op) N (rws op (Jb l op) N) (List.range N) 0:=by
  refine ⟨⟨jbA _ _ _,fun p hpN=>?_,fun p=>?_⟩,List.length_range,⟨fun k hk=>?_,fun x y hx hy e=>?_⟩,?_,fun k hk=>by omega⟩
  ·rw [jeP _ _ hpN,jkE]
  ·by_cases hpN:p<N
   ·rw [jeP _ _ hpN]; exact jm7 _ _ _
   ·rw [List.getD_eq_getElem?_getD,List.getElem?_eq_none (by rw [jbA]; omega)]; intro x hx; simp at hx
  ·rw [List.length_range] at hk; simp [List.getD_eq_getElem?_getD,hk]
  ·rw [List.length_range] at hx hy; simpa [List.getD_eq_getElem?_getD,hx,hy] using e
  ·have h0:=jmo op (Jb l op) N
   have hrow:∀ j,j<N→(rws op (Jb l op) N).getD ((List.range N).getD j 0) []=Kr op (Jb l op) j:=by
    intro j hj
    have:(List.range N).getD j 0=j:=by simp [List.getD_eq_getElem?_getD,hj]
    rw [this,jeP _ _ hj]
   refine ⟨jaP _ _,fun v=>?_⟩
   constructor
   ·intro h j hj
    have:=h j hj
    simp only [mat,hrow j hj] at this
    exact this
   ·intro h j hj
    have:=h j hj
    show (17:Int)∣sm (fun k=>mat (fun j=>(rws op (Jb l op) N).getD ((List.range N).getD j 0) []) j k*v k) (op.length+1)
    simp only [mat,hrow j hj]
    exact this
 obtain ⟨R',m',hcol,r12⟩:=jhm (oD:=(oI op).map vI) (L:=l.length) (e:=e) (a:=a) (b:=(N:Int)) (O:=Jb l op) rfl hw hN hp hl hZl (fun n hn=>jap hp hn) op.length 0 _ _ (by omega) col0
 have r15:=jmI (oD:=(oI op).map vI) (e:=e) (a:=a) hcol rfl hw hN hpZ (by omega) hZo op.length 0 (by omega)
 have hsol:=jp4 (l:=l) (x:=fun k=>(R'.getD (m'.getD k 0) []).getD op.length 0) hcol.el hp hw hs (fun k _=>kf (hcol.gr.ok _) _) (fun k hk=>by
  show (17:Int)∣(R'.getD (m'.getD k 0) []).getD k 0*(R'.getD (m'.getD k 0) []).getD op.length 0 - (R'.getD (m'.getD k 0) []).getD op.length 0
  have h1:=hcol.one k hk
  have h2:=Int.dvd_trans h1 ⟨(R'.getD (m'.getD k 0) []).getD op.length 0,rfl⟩
  rw [Int.sub_mul,Int.one_mul] at h2
  exact h2)
 refine ⟨put (Jb l op) op (fun k=>(R'.getD (m'.getD k 0) []).getD op.length 0) op.length,?_,hsol.2.1,hsol.1,fun i hi=>jc9 hi,hsol.2.2.1,fun he=>hsol.2.2.2.2 fun j h1 h2=>by omega⟩
 have c1:=joT (oD:=(oI op).map vI) (a:=a) (N:=N) (l:=l) rfl hp (by omega) (by omega) hN op.length 0 (by omega)
 have c2:=jpm (Jb l op) N (w:=op.length) (oD:=(oI op).map vI) (a:=a) (b:=(N:Int)) (by omega) hN hZo N 0 (by omega)
 rw [show JK (Jb l op) 0=[] from rfl,List.nil_append,hZl] at c2
 rw [hZl] at r15
 unfold F93
 rw [jf]
 have z0:0≤(l.length:Int):=by omega
 have z1:List.map AV.d (List.take (min l.length l.length) (l.map vI))=l.map aI:=by
  rw [Nat.min_self,List.take_of_length_le (by simp),List.map_map]; rfl
 have z2:jv ((List.replicate l.length (0:Int)).map aI) 0 (l.map aI)=l.map aI:=jx3 (by simp)
 simp only [B93,jg,PC.holds,z0,Int.le_refl,jd,Int.toNat_natCast,Zx,z1,z2,List.length_map,List.length_replicate,Nat.mul_one,jy,jk,jb]
 rw [jm (by first | omega | (unfold Jt; omega)),jm (by first | omega | (unfold Jt; omega)),jm (by simp),jb]
 exact c1.trans (c2.trans (r4.trans (r12.trans r15)))
end
section
open Go Go.RowKit
theorem jsG:List.map kK (Value.int IntKind.i64 0).cells.toList=[vI 0]:=rfl
theorem jmY (n:Nat):(List.replicate n [vI 0]).flatten=(List.replicate n (0:Int)).map vI:=by
 induction n with
 | zero=>rfl
 | succ n ih=>rw [List.replicate_succ,List.flatten_cons,ih,List.replicate_succ,List.map_cons]; rfl
theorem Gv (i:Nat):(oI (List.range i)).map vI++[DV.v (Value.int IntKind.i64 (i:Int))]=(oI (List.range (i+1))).map vI:=by
 unfold oI
 rw [List.range_succ,List.map_append,List.map_append]
 rfl
theorem YZ {N k:Nat} (hk:k<N):(List.range N).getD k 0=k:=by simp [List.getD_eq_getElem?_getD,hk]
theorem ZV {N L:Nat} (h:N≤L):Places (List.range N) L:=by
 refine ⟨fun k hk=>?_,fun a b ha hb e=>?_⟩
 ·rw [List.length_range] at hk; rw [YZ hk]; omega
 ·rw [List.length_range] at ha hb
  rwa [YZ ha,YZ hb] at e
def gP (N:Nat) (m:List Int):List Int:=List.replicate N 0++m
theorem jhV (N:Nat) (m:List Int):(gP N m).length=N+m.length:=by unfold gP; simp
theorem jme {N:Nat} {m:List Int} (h:okS m):okS (gP N m):=by
 intro x hx
 unfold gP at hx
 rcases List.mem_append.1 hx with h1 | h1
 ·rw [List.eq_of_mem_replicate h1]; omega
 ·exact h x h1
theorem jpQ {N:Nat} (a:Int) {m:List Int} {o:List Int} {b:Bool} (hm:0<m.length) (hN:N≤16) (hL:N+m.length≤16)
  (h93:F93 a (N:Int) (N+m.length) ((gP N m).map vI) N ((oI (List.range N)).map vI)=some (N+m.length,o.map vI,b)) :
  ∀ (d i:Nat),N=i+1+d→res B85 (.c2 m.length (m.map vI) i (i+1) ((oI (List.range (i+1))).map vI) (N:Int) ((i+1:Nat):Int) a i)=some (N+m.length,o.map vI):=by
 have hpad:(List.replicate N [vI 0]).flatten++m.map vI=(gP N m).map vI:=by rw [jmY]; unfold gP; rw [List.map_append]
 intro d
 induction d with
 | zero =>
  intro i hi
  have hi:N=i+1:=by omega
  subst hi
  have h1:¬ (((i+1:Nat):Int)<((i+1:Nat):Int)):=by omega
  have h2:m.length.beq 0=false:=by cases hq:m.length with | zero=>omega | succ n=>rfl
  have h3:0≤((i+1:Nat):Int):=by omega
  have h4:m.length=m.length*1:=by omega
  have h5:Jt (i+1+m.length) 8:=qb (by omega)
  rw [jf]
  simp only [B85,jj,h1,decide_false,Bool.false_eq_true,if_false,h2,jsG,Int.toNat_natCast,hpad,h93,jc,jg,PC.holds,h3,Int.le_refl,hm,List.length_map,h5,jd,jq,jp]
  rw [jm (by omega),jm (by omega),jm (by omega),ji]
 | succ d ih =>
  intro i hi
  have ih:=ih (i+1) (by omega)
  have h1:(((i+1:Nat):Int)<(N:Int)):=by omega
  have h2:je (((i+1:Nat):Int)+1):=by unfold je; omega
  have h5:Jt (i+1+1) 8:=qb (by omega)
  rw [jf]
  simp only [B85,jj,h1,decide_true,if_true,jg,PC.holds,h5,h2,jd,jk,jb,Gv]
  rw [show ((i+1:Nat):Int)+1=((i+1+1:Nat):Int) by omega]
  exact ih
theorem jop {N:Nat} (a:Int) {m:List Int} {o:List Int} {b:Bool} (hm:0<m.length) (hN:N≤16) (hN1:1≤N) (hL:N+m.length≤16)
  (h93:F93 a (N:Int) (N+m.length) ((gP N m).map vI) N ((oI (List.range N)).map vI)=some (N+m.length,o.map vI,b)) :
  F85 a (N:Int) m.length (m.map vI)=some (N+m.length,o.map vI):=by
 unfold F85; rw [jf]
 simp only [B85,jk,jb]
 rw [jf]
 have h1:(0:Int)<(N:Int):=by omega
 have h2:je ((0:Int)+1):=by unfold je; omega
 simp only [B85,jj,h1,decide_true,if_true,jg,PC.holds,h2,jd,jk,jb]
 have h:=jpQ a hm hN hL h93 (N - 1) 0 (by omega)
 exact h
structure Wd (L N:Nat) (o:List Int):Prop where
 len:o.length=L
 ok:okS o
 is:isW o N=true
theorem YX {N i:Nat}:i ∈ List.range N↔i<N:=List.mem_range
theorem qE (l:List Int) (n i:Nat):(l.drop n).getD i 0=l.getD (n+i) 0:=by
 rw [List.getD_eq_getElem?_getD,List.getElem?_drop,List.getD_eq_getElem?_getD]
theorem jmT (N:Nat) (m:List Int) {i:Nat}:(gP N m).getD (N+i) 0=m.getD i 0:=by
 unfold gP
 rw [List.getD_eq_getElem?_getD,List.getElem?_append_right (by simp)]
 simp [List.getD_eq_getElem?_getD]
theorem gI {N:Nat} (a:Int) {m:List Int} (hm:0<m.length) (hs:okS m) (hN1:1≤N) (hL:N+m.length≤16) :
  ∃ o,F85 a (N:Int) m.length (m.map vI)=some (N+m.length,o.map vI)∧Wd (N+m.length) N o∧o.drop N=m:=by
 have hpl:=jhV N m
 obtain ⟨o,h1,h2,h3,h4,h5,h6⟩:=jbD (l:=gP N m) (op:=List.range N) (N:=N) a (by omega) (jme hs) (ZV (by omega)) (by simp) (by omega) hN1
 rw [List.length_range,hpl] at h1
 refine ⟨o,jop a hm (by omega) hN1 hL h1,⟨by omega,h3,h6 (by simp)⟩,?_⟩
 apply KL (by rw [List.length_drop]; omega)
 intro i hi
 rw [qE,h4 (N+i) (by rw [YX]; omega),jmT]
theorem jdy {L N:Nat} {o o':List Int} (h:Wd L N o) (h':Wd L N o') (hN:1≤N) (hNL:N≤L) (hL:L≤16) (e:o.drop N=o'.drop N):o=o':=by
 obtain ⟨u,h1,h2,h3,h4,h5,h6⟩:=jbD (l:=o) (op:=List.range N) (N:=N) 0 (by rw [h.len]; omega) h.ok (by rw [h.len]; exact ZV hNL) (by simp) (by omega) hN
 have a1:=h5 o ⟨rfl,h.ok,fun i _ _=>rfl,h.is⟩
 have a2:=h5 o' ⟨by rw [h.len,h'.len],h'.ok,fun i hi hin=>?_,h'.is⟩
 ·rw [← a1,a2]
 ·have hiN:N≤i:=by
   apply Classical.byContradiction
   intro c
   exact hin (YX.2 (by omega))
  have e1:=congrArg (fun z:List Int=>z.getD (i - N) 0) e
  simp only [qE] at e1
  rw [show N+(i - N)=i by omega] at e1
  exact e1.symm
end
section
open Go Go.RowKit
def Qm (n k:Int) (l:List Int):Int:=Jd [kN n k,kM ((l.length:Int) != n) 2,yu l]
theorem jeI (n k:Int) (l:List Int) (hl:l.length≤300):F29 n k l.length (l.map vI)=some (Qm n k l):=by
 unfold F29; rw [jf]
 simp only [B29,jkp,z8,jd3 l hl,jc,jq,jdG,jp,ji]; rfl
theorem jgX (n k:Int) (l:List Int) (hl:l.length≤300):F21 n k l.length (l.map vI)=some (Qm n k l):=by
 unfold F21; rw [jf]
 simp only [B21,QK,jeM,joU l hl,jc,jq,jn8,jp,ji]; rfl
theorem qU {n k:Int} {l:List Int}:Qm n k l=0↔kN n k=0∧(l.length:Int)=n∧okS l:=by
 unfold Qm
 rw [jI,jI,jI,kQ (by decide),yz]
 have:Jd []=0:=rfl
 simp [this]
theorem jkj (a b:List Int) (hl:a.length≤1000) (he:a.length=b.length):∀ (m i:Nat),a.length=i+m→res B30 (.c1 a.length (a.map vI) b.length (b.map vI) (i:Int))=some (decide (a.drop i=b.drop i)):=by
 intro m
 induction m with
 | zero =>
  intro i h
  rw [jf,List.drop_eq_nil_of_le (by omega),List.drop_eq_nil_of_le (by omega)]
  have h1:¬ ((i:Int)<(a.length:Int)):=by omega
  simp only [B30,jj,h1,decide_false,Bool.false_eq_true,if_false,jp,ji]
  simp
 | succ m ih =>
  intro i h
  have hi:i<a.length:=by omega
  have hj:i<b.length:=by omega
  have g1:=j5 hi
  have g2:=j5 hj
  have h1:(i:Int)<(a.length:Int):=by omega
  have h2:(i:Int)<(b.length:Int):=by omega
  have h4:0≤(i:Int):=by omega
  have h3:je (((i+1:Nat)):Int):=by unfold je; omega
  have h12:(i:Int)+1=((i+1:Nat):Int):=by omega
  rw [jf,QF 0 hi,QF 0 hj]
  by_cases hz:a.getD i 0=b.getD i 0
  ·have h5:(a.getD i 0 != b.getD i 0)=false:=by rw [hz]; simp
   simp only [B30,jj,h1,h2,decide_true,if_true,jg,jd,PC.holds,h4,Int.toNat_natCast,Nat.mul_one,ju,g1,g2,jk,h5,h12,h3,Bool.false_eq_true,if_false]
   rw [jm (by simp; omega),jm (by simp; omega),jb,ih (i+1) (by omega)]
   congr 1
   exact decide_eq_decide.2 ⟨fun e=>by rw [hz,e],fun e=>(List.cons.inj e).2⟩
  ·have h5:(a.getD i 0 != b.getD i 0)=true:=by simpa using hz
   simp only [B30,jj,h1,h2,decide_true,if_true,jg,jd,PC.holds,h4,Int.toNat_natCast,Nat.mul_one,ju,g1,g2,jp,h5]
   rw [jm (by simp; omega),jm (by simp; omega),ji]
   congr 1
   exact (decide_eq_false fun e=>hz (List.cons.inj e).1).symm
theorem jjU (a b:List Int) (hl:a.length≤1000):F30 a.length (a.map vI) b.length (b.map vI)=some (decide (a=b)):=by
 unfold F30; rw [jf]
 by_cases he:a.length=b.length
 ·have hb:((a.length:Int) != (b.length:Int))=false:=by rw [he]; simp
  simp only [B30,jj,hb,Bool.false_eq_true,if_false,jk,jb]
  have h:=jkj a b hl he a.length 0 (by omega)
  rw [List.drop_zero,List.drop_zero] at h
  exact h
 ·have hb:((a.length:Int) != (b.length:Int))=true:=by rw [bne_iff_ne]; omega
  simp only [B30,jj,hb,if_true,jp,ji]
  congr 1
  exact (decide_eq_false fun e=>he (by rw [e])).symm
end
section
open Go Go.RowKit
def jfR (n k:Int) (m:List Int):Int:=Jd [kN n k,kM ((m.length:Int) != IntKind.i64.wrap (n - k)) 2,yu m]
theorem yL {n k:Int} {l:List Int}:jfR n k l=0↔kN n k=0∧(l.length:Int)=n - k∧okS l:=by
 unfold jfR
 rw [jI,jI,jI,kQ (by omega),yz]
 have:Jd []=0:=rfl
 simp only [this,and_true,bne_eq_false_iff_eq]
 constructor
 ·rintro ⟨h1,h2,h3⟩
  have hc:=zO.1 h1
  rw [zc (by unfold je; omega)] at h2
  exact ⟨h1,h2,h3⟩
 ·rintro ⟨h1,h2,h3⟩
  have hc:=zO.1 h1
  refine ⟨h1,?_,h3⟩
  rw [zc (by unfold je; omega)]
  exact h2
theorem jdZ {n:Int} {k:Nat} {l:List Int} (hl:l.length≤300) (hk:k≤16) (hs:okS l) (h:Qm n (k:Int) l=0):F18 n (k:Int) l.length (l.map vI)=some (isW l k,0):=by
 unfold F18; rw [jf]
 have hb:(Qm n (k:Int) l != 0)=false:=by rw [h]; rfl
 simp only [B18,jeI n (k:Int) l hl,jc,jq,jj,hb,Bool.false_eq_true,if_false,yG n hl hk hs,jp,ji]
theorem jow {l:List Int} (h0:0<l.length) (hl:l.length≤300):F86 l.length (l.map vI)=some (l.length,l.map vI):=by
 unfold F86; rw [jf]
 have e:l.length.beq 0=false:=by rw [← Bool.not_eq_true,Nat.beq_eq]; omega
 simp only [B86,e,jg,jj,PC.holds,Bool.false_eq_true,if_false,jp,Nat.mul_one]
 simp only [List.length_map,h0,jd,qb (show l.length≤1000 by omega),ji]
theorem jpw {n:Int} {k:Nat} {l:List Int} (hl:l.length≤300) (hk:k≤16) (hs:okS l) (h:Qm n (k:Int) l=0) (hkl:k<l.length):F20 n (k:Int) l.length (l.map vI)=some (if isW l k=true then (l.length - k,(l.drop k).map vI,0) else (0,[],27)):=by
 unfold F20; rw [jf]
 have hb:(Qm n (k:Int) l != 0)=false:=by rw [h]; rfl
 by_cases hw:isW l k=true
 ·have h1:0≤(k:Int):=by omega
  have h2:(k:Int)≤(l.length:Int):=by omega
  have e1:((l.length:Int) - (k:Int)).toNat=l.length - k:=by omega
  have e2:List.take (l.length - k) (List.drop k (l.map vI))=(l.drop k).map vI:=by
   rw [← List.map_drop,List.take_of_length_le (by simp)]
  have h86:=jow (l:=l.drop k) (by rw [List.length_drop]; omega) (by rw [List.length_drop]; omega)
  rw [List.length_drop] at h86
  simp only [B20,jeI n (k:Int) l hl,jc,jq,jj,hb,Bool.false_eq_true,if_false,yG n hl hk hs,hw,Bool.not_true,jg,PC.holds,h1,h2,Int.le_refl,List.length_map,Nat.mul_one,jd,Int.toNat_natCast,e1,e2,h86,jp,if_true]
  first | rw [ji] | (rw [jm (by omega),ji])
 ·simp only [B20,jeI n (k:Int) l hl,jc,jq,jj,hb,Bool.false_eq_true,if_false,yG n hl hk hs,hw,Bool.not_false,if_true,jp,ji]
theorem jeH {n k:Int} {m:List Int} {p:Nat × List DV} (hl:m.length≤300) (h:jfR n k m=0) (h85:F85 n k m.length (m.map vI)=some p):F19 n k m.length (m.map vI)=some (p.1,p.2,0):=by
 have hb:(Jd [kN n k,kM ((m.length:Int) != IntKind.i64.wrap (n - k)) 2,yu m] != 0)=false:=by
  have:Jd [kN n k,kM ((m.length:Int) != IntKind.i64.wrap (n - k)) 2,yu m]=0:=h
  rw [this]; rfl
 unfold F19; rw [jf]
 simp only [B19,jkp,z8,jd3 m hl,jdG,jc,jq,jg,PC.holds,jd,jj,hb,Bool.false_eq_true,if_false,h85,jp,ji]
end
section
open Go Go.RowKit
def kz:List Int→List Int→Nat
 | a :: l,b :: m=>(if a != b then 1 else 0)+kz l m
 | _,_=>0
theorem yx {a b:List Int} {i:Nat} (ha:i<a.length) (hb:i<b.length):kz (a.drop i) (b.drop i)=(if a.getD i 0 != b.getD i 0 then 1 else 0)+kz (a.drop (i+1)) (b.drop (i+1)):=by
 rw [QF 0 ha,QF 0 hb]; rfl
theorem jrd {a b:List Int} (hl:a.length=b.length) (h3:a.length≤300):∀ (d i n:Nat) (X:List DV),a.length=i+d→n<i→∃ X',res B94 (.c2 b.length (b.map vI) n (n+1) X a.length (a.map vI) (a.length:Int) (i:Int) n)=some (n+1+kz (a.drop i) (b.drop i),X'):=by
 intro d
 induction d with
 | zero =>
  intro i n X hd hn
  have h1:¬ ((i:Int)<(a.length:Int)):=by omega
  refine ⟨X,?_⟩
  rw [jf,List.drop_eq_nil_of_le (by omega)]
  simp only [B94,jj,h1,decide_false,Bool.false_eq_true,if_false,jp,ji,kz,Nat.add_zero]
 | succ d ih =>
  intro i n X hd hn
  have hi:i<a.length:=by omega
  have hi2:i<b.length:=by omega
  have h1:(i:Int)<(a.length:Int):=by omega
  have h2:(i:Int)<(b.length:Int):=by omega
  have hin:je ((i:Int)+1):=by unfold je; omega
  have hf:=qb (n:=n+1+1) (by omega)
  rw [jf,yx hi hi2]
  simp only [B94,jj,jg,PC.holds,jd,Int.toNat_natCast,Nat.mul_one,ju,j5 hi,j5 hi2,h1,h2,hin,hf,decide_true,if_true,Int.natCast_nonneg,List.length_map,Nat.le_of_lt hi,Nat.le_of_lt hi2,jk]
  by_cases hz:(a.getD i 0 != b.getD i 0)=true
  ·simp only [hz,if_true,jb]
   obtain ⟨X',h⟩:=ih (i+1) (n+1) (X++[vI (i:Int)]) (by omega) (by omega)
   refine ⟨X',?_⟩
   rw [show (i:Int)+1=((i+1:Nat):Int) by omega]
   rw [show n+1+(1+kz (a.drop (i+1)) (b.drop (i+1)))=n+1+1+kz (a.drop (i+1)) (b.drop (i+1)) by omega]
   exact h
  ·have hz:(a.getD i 0 != b.getD i 0)=false:=by simpa using hz
   simp only [hz,Bool.false_eq_true,if_false,jb]
   obtain ⟨X',h⟩:=ih (i+1) n X (by omega) (by omega)
   refine ⟨X',?_⟩
   rw [show (i:Int)+1=((i+1:Nat):Int) by omega,Nat.zero_add]
   exact h
theorem jtG {a b:List Int} (hl:a.length=b.length) (h3:a.length≤300):∀ (d i:Nat),a.length=i+d→∃ X',res B94 (.c1 b.length (b.map vI) a.length (a.map vI) (a.length:Int) (i:Int))=some (kz (a.drop i) (b.drop i),X'):=by
 intro d
 induction d with
 | zero =>
  intro i hd
  have h1:¬ ((i:Int)<(a.length:Int)):=by omega
  refine ⟨[],?_⟩
  rw [jf,List.drop_eq_nil_of_le (by omega)]
  simp only [B94,jj,h1,decide_false,Bool.false_eq_true,if_false,jp,ji,kz]
 | succ d ih =>
  intro i hd
  have hi:i<a.length:=by omega
  have hi2:i<b.length:=by omega
  have h1:(i:Int)<(a.length:Int):=by omega
  have h2:(i:Int)<(b.length:Int):=by omega
  have hin:je ((i:Int)+1):=by unfold je; omega
  rw [jf,yx hi hi2]
  simp only [B94,jj,jg,PC.holds,jd,Int.toNat_natCast,Nat.mul_one,ju,j5 hi,j5 hi2,h1,h2,hin,decide_true,if_true,Int.natCast_nonneg,List.length_map,Nat.le_of_lt hi,Nat.le_of_lt hi2,jk]
  by_cases hz:(a.getD i 0 != b.getD i 0)=true
  ·simp only [hz,if_true,jb]
   obtain ⟨X',h⟩:=jrd hl h3 d (i+1) 0 [vI (i:Int)] (by omega) (by omega)
   refine ⟨X',?_⟩
   rw [show (i:Int)+1=((i+1:Nat):Int) by omega]
   rw [Nat.zero_add] at h
   exact h
  ·have hz:(a.getD i 0 != b.getD i 0)=false:=by simpa using hz
   simp only [hz,Bool.false_eq_true,if_false,jb]
   obtain ⟨X',h⟩:=ih (i+1) (by omega)
   refine ⟨X',?_⟩
   rw [show (i:Int)+1=((i+1:Nat):Int) by omega,Nat.zero_add]
   exact h
theorem jpH {a b:List Int} (hl:a.length=b.length) (h3:a.length≤300):∃ X',F94 a.length (a.map vI) b.length (b.map vI)=some (kz a b,X'):=by
 unfold F94; rw [jf]
 simp only [B94,jk,jb]
 exact jtG hl h3 a.length 0 (by omega)
def jeG (a b:List Int):Int:=Jd [KS a,KS b,kM ((a.length:Int) != (b.length:Int)) 2]
theorem jgc {a b:List Int} (h:jeG a b=0):a.length=b.length:=by
 unfold jeG at h
 rw [jI,jI,jI,kQ (by decide)] at h
 have:=h.2.2.1
 simp only [bne_eq_false_iff_eq] at this
 omega
def jig (a b:List Int):Int:=if jeG a b=0 then ((kz a b:Nat):Int) else 0
theorem jo0 {a b:List Int} (ha:a.length≤300) (hb:b.length≤300):F53 a.length (a.map vI) b.length (b.map vI)=some (jig a b,jeG a b):=by
 unfold F53; rw [jf]
 by_cases h:jeG a b=0
 ·obtain ⟨X',h94⟩:=jpH (jgc h) ha
  have hz:(Jd [KS a,KS b,kM ((a.length:Int) != (b.length:Int)) 2] != 0)=false:=by
   have h0:Jd [KS a,KS b,kM ((a.length:Int) != (b.length:Int)) 2]=0:=h
   rw [h0]; rfl
  simp only [B53,YC a ha,YC b hb,z8,jdG,jc,jq,jj,hz,Bool.false_eq_true,if_false,h94,jp,ji]
  rw [jig,if_pos h,h]
 ·have hz:(Jd [KS a,KS b,kM ((a.length:Int) != (b.length:Int)) 2] != 0)=true:=bne_iff_ne.2 h
  simp only [B53,YC a ha,YC b hb,z8,jdG,jc,jq,jj,hz,if_true,jp,ji]
  rw [jig,if_neg h]; rfl
def jem (o o':List Int):List Nat:=(List.range o.length).filter fun i=>o.getD i 0 != o'.getD i 0
theorem jij {o o':List Int} (h:o.length=o'.length):∀ (d i:Nat),o.length=i+d→kz (o.drop i) (o'.drop i)=((List.range' i d).filter fun k=>o.getD k 0 != o'.getD k 0).length:=by
 intro d
 induction d with
 | zero=>intro i hi; rw [List.drop_eq_nil_of_le (by omega)]; rfl
 | succ d ih =>
  intro i hi
  rw [yx (by omega) (by omega),ih (i+1) (by omega),List.range'_succ,List.filter_cons]
  by_cases hz:(o.getD i 0 != o'.getD i 0)=true
  ·rw [if_pos hz,if_pos hz,List.length_cons]; omega
  ·rw [if_neg hz,if_neg hz]; omega
theorem GP {o o':List Int} (h:o.length=o'.length):kz o o'=(jem o o').length:=by
 have:=jij h o.length 0 (by omega)
 rw [List.drop_zero,List.drop_zero] at this
 rw [this]
 unfold jem
 rw [List.range_eq_range']
theorem Gb {o o':List Int} {i:Nat}:i ∈ jem o o'↔i<o.length∧o.getD i 0≠o'.getD i 0:=by
 unfold jem
 rw [List.mem_filter,List.mem_range,bne_iff_ne]
theorem jgE {op:List Nat} {L:Nat} (hn:op.Nodup) (hl:∀ i ∈ op,i<L):Places op L:=by
 refine ⟨fun k hk=>hl _ (ZJ.2 ⟨k,hk,rfl⟩),fun a b ha hb e=>?_⟩
 have e2:op[a]? = op[b]? := by
  rw [List.getD_eq_getElem?_getD,List.getD_eq_getElem?_getD,List.getElem?_eq_getElem ha,List.getElem?_eq_getElem hb] at e
  rw [List.getElem?_eq_getElem ha,List.getElem?_eq_getElem hb]
  exact congrArg some e
 exact (List.getElem?_inj ha hn).1 e2
theorem jdc {o o':List Int}:Places (jem o o') o.length:=jgE (List.Pairwise.filter _ List.nodup_range) fun i hi=>(Gb.1 hi).1
theorem Q6 (o:List Int):kz o o=0:=by
 induction o with
 | nil=>rfl
 | cons a l ih=>rw [kz,ih]; simp
theorem jaI {o o':List Int} (h:o.length=o'.length) (hd:kz o o'=0):o=o':=by
 rw [GP h] at hd
 apply KL h
 intro i hi
 apply Classical.byContradiction
 intro hne
 have:i ∈ jem o o':=Gb.2 ⟨hi,hne⟩
 rw [List.eq_nil_of_length_eq_zero hd] at this
 simp at this
theorem jav {L N:Nat} {o o':List Int} (h:Wd L N o) (h':Wd L N o') (hN:1≤N) (hN16:N≤16) (hL:L≤16) (hd:kz o o'≤N):o=o':=by
 have hl:o.length=o'.length:=by rw [h.len,h'.len]
 rw [GP hl] at hd
 obtain ⟨u,h1,h2,h3,h4,h5,h6⟩:=jbD (l:=o) (op:=jem o o') (N:=N) 0 (by rw [h.len]; omega) h.ok jdc hd hN16 hN
 have a1:=h5 o ⟨rfl,h.ok,fun i _ _=>rfl,h.is⟩
 have a2:=h5 o' ⟨hl.symm,h'.ok,fun i hi hin=>?_,h'.is⟩
 ·rw [← a1,a2]
 ·apply Classical.byContradiction
  intro hne
  exact hin (Gb.2 ⟨hi,fun e=>hne e.symm⟩)
def Kx (v w:List Int) (t:Int) (n:Nat):List Int:=(List.range n).map fun i=>(v.getD i 0+t*w.getD i 0) % 17
theorem JP (v w:List Int) (t:Int) (n:Nat):(Kx v w t n).length=n:=by unfold Kx; simp
theorem ja5 (v w:List Int) (t:Int) {n i:Nat} (h:i<n):(Kx v w t n).getD i 0=(v.getD i 0+t*w.getD i 0) % 17:=by
 unfold Kx
 simp [List.getD_eq_getElem?_getD,h]
theorem jbu (v w:List Int) (t:Int) (n:Nat):okS (Kx v w t n):=by
 intro x hx
 unfold Kx at hx
 obtain ⟨i,_,rfl⟩:=List.mem_map.1 hx
 omega
theorem jaG (v w:List Int) (t:Int) (n:Nat):Kx v w t (n+1)=Kx v w t n++[(v.getD n 0+t*w.getD n 0) % 17]:=by
 unfold Kx; rw [List.range_succ,List.map_append]; rfl
theorem jjw {L N:Nat} {v w:List Int} (t:Int) (hv:Wd L N v) (hw:Wd L N w):Wd L N (Kx v w t L):=by
 refine ⟨JP _ _ _ _,jbu _ _ _ _,(Yz _ _).2 fun j hj=>?_⟩
 have a1:=(Yz v N).1 hv.is j hj
 have a2:=(Yz w N).1 hw.is j hj
 have b1:=gC v (j+1)
 have b2:=gC w (j+1)
 have b3:=gC (Kx v w t L) (j+1)
 rw [hv.len] at b1
 rw [hw.len] at b2
 rw [JP] at b3
 have e:(17:Int)∣sm (fun i=>(Kx v w t L).getD i 0*pw (i*(j+1))) L - sm (fun i=>v.getD i 0*pw (i*(j+1))+t*(w.getD i 0*pw (i*(j+1)))) L:=by
  rw [← gL]
  refine zV fun i hi=>?_
  rw [ja5 v w t hi]
  have e2:v.getD i 0*pw (i*(j+1))+t*(w.getD i 0*pw (i*(j+1)))=(v.getD i 0+t*w.getD i 0)*pw (i*(j+1)):=by rw [Int.add_mul,Int.mul_assoc]
  rw [e2]
  exact jfQ (YQ _) ⟨0,by omega⟩
 rw [jjj,Ge] at e
 have c2:(17:Int)∣t*sm (fun i=>w.getD i 0*pw (i*(j+1))) L:=Int.dvd_trans (show (17:Int)∣sm (fun i=>w.getD i 0*pw (i*(j+1))) L by omega) ⟨t,Int.mul_comm _ _⟩
 omega
theorem jjy {L N:Nat} {v w a b:List Int} (t:Int) (hN:N≤L) (hv:v.drop N=a) (hw:w.drop N=b):(Kx v w t L).drop N=Kx a b t (L - N):=by
 subst hv hw
 apply KL (by rw [List.length_drop,JP,JP])
 intro i hi
 rw [List.length_drop,JP] at hi
 rw [qE,ja5 _ _ _ (by omega),ja5 _ _ _ hi,qE,qE]
end
section
open Go Go.RowKit
theorem jdL (l:List Int) (h:l.length≤1000) {n:Nat} (hn:l.length=n):F30 n (l.map vI) n (l.map vI)=some true:=by
 subst hn
 rw [jjU l l h,decide_eq_true rfl]
abbrev b8 (n:Int):DV:=.v (.int .u8 n)
theorem jfo (l:List Int) (i:Nat):dI (cel (l.map b8) i)=l.getD i 0:=by
 unfold cel
 simp only [List.getD_eq_getElem?_getD,List.getElem?_map]
 cases l[i]? <;> rfl
theorem je5 {l:List Int} {i:Nat} (h:i<l.length):Option.map AV.d (List.drop i (l.map b8))[0]? = some (AV.d (DV.v (Value.int IntKind.u8 (l.getD i 0)))):=by
 simp [List.getElem?_drop,h,List.getD_eq_getElem?_getD]
def cdl (n:List Int) (m:Nat):List Int:=(List.range m).map fun i=>(n.getD (i % n.length) 0) % 17
theorem jfy (n:List Int) (m:Nat):(cdl n m).length=m:=by unfold cdl; simp
theorem jjY (n:List Int) (m:Nat):okS (cdl n m):=by
 intro x hx
 unfold cdl at hx
 obtain ⟨i,_,rfl⟩:=List.mem_map.1 hx
 omega
theorem jjJ (n:List Int) (m:Nat):cdl n (m+1)=cdl n m++[(n.getD (m % n.length) 0) % 17]:=by
 unfold cdl; rw [List.range_succ,List.map_append]; rfl
def okB (n:List Int):Prop:=∀ x ∈ n,0≤x∧x≤255
theorem jjm {n:List Int} (h:okB n) (i:Nat):0≤n.getD i 0∧n.getD i 0≤255:=by
 by_cases hi:i<n.length
 ·refine h _ ?_
  rw [List.getD_eq_getElem?_getD,List.getElem?_eq_getElem hi]
  exact List.getElem_mem _
 ·rw [List.getD_eq_getElem?_getD,List.getElem?_eq_none (by omega)]; simp
theorem jlV {x:Int} (h:0≤x∧x≤100000):IntKind.i64.wrap x=x:=zc (by unfold je; omega)
theorem jpL {n:List Int} {M:Nat} (hn:okB n) (hn0:0<n.length) (hM:M≤16):∀ (d i e:Nat),M=i+d→0<i →
  res B70 (.c2 n.length (n.map b8) e i ((cdl n i).map vI) (M:Int) (i:Int) e)=some (M,(cdl n M).map vI):=by
 intro d
 induction d with
 | zero =>
  intro i e hi h0
  have hi:i=M:=by omega
  subst hi
  have h1:¬ ((i:Int)<(i:Int)):=by omega
  rw [jf]
  simp only [B70,jj,h1,decide_false,Bool.false_eq_true,if_false,jg,PC.holds,jp]
  first | rw [ji] | rw [jm (by omega),ji] | rw [jm (by omega),jm (by omega),ji]
 | succ d ih =>
  intro i e hi h0
  have ih:=ih (i+1) (e+1) (by omega) (by omega)
  rw [jjJ,List.map_append] at ih
  have hb:=jjm hn (i % n.length)
  have hm:i % n.length<n.length:=Nat.mod_lt _ hn0
  have t:((i:Int)).tmod (n.length:Int)=((i % n.length:Nat):Int):=by rw [Int.tmod_eq_emod_of_nonneg (by omega)]; simp
  have a1:=je5 hm
  have h1:(i:Int)<(M:Int):=by omega
  have h2:(n.length:Int)≠0:=by omega
  have h3:0≤((i % n.length:Nat):Int):=by omega
  have h4:((i % n.length:Nat):Int)<(n.length:Int):=by omega
  have h5:i % n.length≤n.length:=by omega
  have h6:Jt (i+1) 8:=qb (by omega)
  have h7:je ((i:Int)+1):=by unfold je; omega
  have hw:=jlV (x:=n.getD (i % n.length) 0) (by omega)
  have ht:(n.getD (i % n.length) 0).tmod 17=(n.getD (i % n.length) 0) % 17:=Int.tmod_eq_emod_of_nonneg hb.1
  rw [← ih,jf]
  simp only [B70,jj,h1,decide_true,if_true,jg,PC.holds,t,h2,ne_eq,not_false_eq_true,h3,h4,jd,Int.toNat_natCast,Nat.mul_one,List.length_map,h5,jfo,a1,hw,ht,h6,h7,jk,jb]
  rw [show (i:Int)+1=((i+1:Nat):Int) by omega]
  rfl
theorem jhD {n:List Int} {N M:Nat} (hn:okB n) (hn0:0<n.length) (hM:M≤16) (hN:N≤16) (hM0:0<M):F70 ((N+M:Nat):Int) (N:Int) n.length (n.map b8)=some (M,(cdl n M).map vI):=by
 have h72:F72 ((N+M:Nat):Int) (N:Int)=some (M:Int):=by
  unfold F72; rw [jf]
  have e:((N+M:Nat):Int) - (N:Int)=(M:Int):=by omega
  have h:je (M:Int):=by unfold je; omega
  simp only [B72,e,jg,PC.holds,h,jd,jp,ji]
 unfold F70; rw [jf]
 simp only [B70,h72,jc,jq,jk,jb]
 have hc:=jpL hn hn0 hM (M - 1) 1 0 (by omega) (by omega)
 rw [← hc,jf]
 have hb:=jjm hn (0 % n.length)
 have hm:0 % n.length<n.length:=Nat.mod_lt _ hn0
 have t:((0:Int)).tmod (n.length:Int)=((0 % n.length:Nat):Int):=by simp
 have a1:=je5 hm
 have h1:(0:Int)<(M:Int):=by omega
 have h2:(n.length:Int)≠0:=by omega
 have h3:0≤((0 % n.length:Nat):Int):=by omega
 have h4:((0 % n.length:Nat):Int)<(n.length:Int):=by omega
 have h5:0 % n.length≤n.length:=by omega
 have h7:je ((0:Int)+1):=by unfold je; omega
 have hw:=jlV (x:=n.getD (0 % n.length) 0) (by omega)
 have ht:(n.getD (0 % n.length) 0).tmod 17=(n.getD (0 % n.length) 0) % 17:=Int.tmod_eq_emod_of_nonneg hb.1
 simp only [B70,jj,h1,decide_true,if_true,jg,PC.holds,t,h2,ne_eq,not_false_eq_true,h3,h4,jd,Int.toNat_natCast,Nat.mul_one,List.length_map,h5,jfo,a1,hw,ht,h7,jk,jb]
 rfl
theorem jc2:∀ (v A:List Int) (i:Nat) (y:Int),v.length=A.length→i<v.length→A.getD i 0=v.getD i 0→y≠v.getD i 0→kz v (A.set i y)=kz v A+1
 | [],_,i,y,_,h,_,_=>by simp at h
 | _ :: _,[],i,y,h,_,_,_=>by simp at h
 | a :: v,b :: A,0,y,h,_,e,hy=>by
  rw [List.getD_cons_zero,List.getD_cons_zero] at e
  rw [List.getD_cons_zero] at hy
  subst e
  rw [List.set_cons_zero,kz,kz,if_pos (by rw [bne_iff_ne]; exact fun h=>hy h.symm),if_neg (by simp)]
  omega
 | a :: v,b :: A,i+1,y,h,hi,e,hy=>by
  rw [List.getD_cons_succ,List.getD_cons_succ] at e
  rw [List.getD_cons_succ] at hy
  rw [List.set_cons_succ,kz,kz,jc2 v A i y (by simpa using h) (by simpa using hi) e hy]
  omega
theorem js6 {L N:Nat} {v:List Int} {x0 x1:Int} (hv:Wd L N v) (hN:1≤N) (hN16:N≤16) (hL:L≤16) (hc:kN (L:Int) (N:Int)=0) (hx:0≤x1∧x1≤65535) :
  ∀ (d i many:Nat) (A:List Int),L=i+d→A.length=L→okS A→kz v A=many→many≤N→(∀ k,i≤k→A.getD k 0=v.getD k 0) →
   res B9 (.c6 L (many:Int) (L:Int) (i:Int) (L:Int) (N:Int) x0 x1 (A.map aI))=some true:=by
 intro d
 induction d with
 | zero =>
  intro i many A hi hAl hA hd hm hk
  have h1:¬ ((i:Int)<(L:Int)):=by omega
  have hz:Qm (L:Int) (N:Int) A=0:=qU.2 ⟨hc,by omega,hA⟩
  have g18:=jdZ (n:=(L:Int)) (k:=N) (l:=A) (by omega) hN16 hA hz
  rw [hAl] at g18
  have ht:List.take L (List.drop 0 (A.map aI))=A.map aI:=by rw [List.drop_zero,List.take_of_length_le (by simp; omega)]
  have hle:L≤(A.map aI).length:=by simp; omega
  have hiff:isW A N=((many:Int)==0):=by
   by_cases h0:many=0
   ·have e:=jaI (by rw [hv.len,hAl]) (hd.trans h0)
    rw [← e,hv.is,h0]; rfl
   ·have hb:((many:Int)==0)=false:=beq_eq_false_iff_ne.2 (by omega)
    rw [hb]
    cases hw:isW A N
    ·rfl
    ·have e:=jav hv ⟨hAl,hA,hw⟩ hN hN16 hL (by omega)
     rw [← e,Q6] at hd
     omega
  rw [jf]
  simp only [B9,jj,h1,decide_false,Bool.false_eq_true,if_false,Nat.mul_one,Nat.zero_add,ht,gY,K0,g18,jc,jq,jg,PC.holds,hle,jd,Jr,Za,jp,ji,hiff,BEq.rfl,if_true]
 | succ d ih =>
  intro i many A hi hAl hA hd hm hk
  have h1:(i:Int)<(L:Int):=by omega
  have h2:¬ (i:Int)<0:=by omega
  have h3:je ((i:Int)+1):=by unfold je; omega
  have e1:(i:Int)+1=((i+1:Nat):Int):=by omega
  have hstay:=ih (i+1) many A (by omega) hAl hA hd hm (fun k h=>hk k (by omega))
  rw [jf]
  simp only [B9,jj,h1,decide_true,if_true,jg,PC.holds,h2,not_false_eq_true,jd]
  split
  ·rename_i hb
   simp only [hb,BEq.rfl,jd]
   by_cases hmN:(many:Int)<(N:Int)
   ·have x:=kf hA i
    have hiA:i<A.length:=by omega
    have a1:=atA hiA
    have hw:=jlV (x:=x1) (by omega)
    have h4:0≤(i:Int):=by omega
    have t16:(x1+(i:Int)).tmod 16=(x1+(i:Int)) % 16:=Int.tmod_eq_emod_of_nonneg (by omega)
    have t17:(A.getD i 0+1+(x1+(i:Int)) % 16).tmod 17=(A.getD i 0+1+(x1+(i:Int)) % 16) % 17:=Int.tmod_eq_emod_of_nonneg (by omega)
    have h5:je (A.getD i 0+1):=by unfold je; omega
    have h6:je (x1+(i:Int)):=by unfold je; omega
    have h7:je (A.getD i 0+1+(x1+(i:Int)) % 16):=by unfold je; omega
    have h8:i+1≤A.length:=by omega
    have h9:je ((many:Int)+1):=by unfold je; omega
    have hki:=hk i (Nat.le_refl i)
    have hgo:=ih (i+1) (many+1) (A.set i ((A.getD i 0+1+(x1+(i:Int)) % 16) % 17)) (by omega) (by simpa using hAl) (jfc hA (by omega))
     (by rw [jc2 v A i _ (by rw [hv.len,hAl]) (by rw [hv.len]; omega) hki (by omega),hd]) (by omega) (fun k h=>by rw [KM,if_neg (fun c=>by omega)]; exact hk k (by omega))
    simp only [hmN,decide_true,if_true,jj,jg,PC.holds,h4,jd,Int.toNat_natCast,Nat.mul_one,Nat.zero_add,a1,zx,h5,hw,h6,t16,h7,t17,List.length_map,h8,Jr,h9,h3,jgr _ hiA,jy,jk,jb]
    rw [show (many:Int)+1=((many+1:Nat):Int) by omega,e1]
    exact hgo
   ·simp only [hmN,decide_false,Bool.false_eq_true,if_false,jj,jg,PC.holds,h3,jd,jy,jk,jb]
    rw [e1]
    exact hstay
  ·simp only [jg,PC.holds,h3,jd,jy,jk,jb]
   rw [e1]
   exact hstay
theorem juI {L N M:Nat} {v w c0 c1:List Int} {x0 x1 t:Int} (hv:Wd L N v) (hw:Wd L N w) (hd0:v.drop N=c0) (hd1:w.drop N=c1) (hN:1≤N) (hM:0<M) (hLM:L=N+M) (hL:L≤16) (hc:kN (L:Int) (N:Int)=0) (hx:0≤x1∧x1≤65535) (ht:1≤t∧t≤16) (e:Nat) :
  ∀ (d i e2:Nat),M=i+d→0<i→res B9 (.c7 M (c0.map vI) M (c1.map vI) L (v.map vI) t e L ((Kx v w t L).map vI) e2 i ((Kx c0 c1 t i).map vI) (M:Int) (i:Int) (L:Int) (N:Int) x0 x1 e e2)=some true:=by
 have hc0l:c0.length=M:=by rw [← hd0,List.length_drop,hv.len]; omega
 have hc1l:c1.length=M:=by rw [← hd1,List.length_drop,hw.len]; omega
 have hc0:okS c0:=by intro x hx; rw [← hd0] at hx; exact hv.ok x (List.mem_of_mem_drop hx)
 have hc1:okS c1:=by intro x hx; rw [← hd1] at hx; exact hw.ok x (List.mem_of_mem_drop hx)
 intro d
 induction d with
 | zero =>
  intro i e2 hi h0
  have hi:i=M:=by omega
  subst hi
  have hsw:=jjw t hv hw
  have hsd:=jjy (v:=v) (w:=w) (a:=c0) (b:=c1) t (show N≤L by omega) hd0 hd1
  rw [show L - N=i by omega] at hsd
  have hz:Qm (L:Int) (N:Int) (Kx v w t L)=0:=qU.2 ⟨hc,by rw [hsw.len],hsw.ok⟩
  have g17:=gu (Kx v w t L) (by rw [hsw.len]; omega)
  rw [hsw.len] at g17
  have g18:=jdZ (n:=(L:Int)) (k:=N) (l:=Kx v w t L) (by rw [hsw.len]; omega) (by omega) hsw.ok hz
  rw [hsw.len,hsw.is] at g18
  obtain ⟨o,e85,ho,hod⟩:=gI (L:Int) (N:=N) (m:=Kx c0 c1 t i) (by rw [JP]; omega) (jbu _ _ _ _) hN (by rw [JP]; omega)
  rw [JP,← hLM] at e85 ho
  have hmz:jfR (L:Int) (N:Int) (Kx c0 c1 t i)=0:=yL.2 ⟨hc,by rw [JP]; omega,jbu _ _ _ _⟩
  have g19:=jeH (by rw [JP]; omega) hmz (by rw [JP]; exact e85)
  rw [JP] at g19
  have heq:=jdy ho hsw hN (by omega) hL (by rw [hod,hsd])
  have g30:=jdL (Kx v w t L) (by rw [hsw.len]; omega) hsw.len
  have hgo:=js6 (x0:=x0) hv hN (by omega) hL hc hx L 0 0 v (by omega) hv.len hv.ok (Q6 v) (by omega) (fun _ _=>rfl)
  have h1:¬ ((i:Int)<(i:Int)):=by omega
  have hl0:0<L:=by omega
  have hvl:=hv.len
  have h8:Jt L 8:=qb (by omega)
  have z1:List.map AV.d (v.map vI)=v.map aI:=by rw [List.map_map]; rfl
  have bz:((0:Int) != 0)=false:=rfl
  rw [jf]
  simp only [B9,jj,h1,decide_false,Bool.false_eq_true,if_false,g17,g18,g19,heq,g30,jc,jq,Jr,jg,PC.holds,bz,Bool.not_true,BEq.rfl,jd,hl0,List.length_map,hvl,Nat.mul_one,h8,z1,Jf,jy,jk,jb]
  exact hgo
 | succ d ih =>
  intro i e2 hi h0
  have ih:=ih (i+1) (e2+1) (by omega) (by omega)
  rw [jaG,List.map_append] at ih
  have a1:=j5 (l:=c0) (i:=i) (by omega)
  have a2:=j5 (l:=c1) (i:=i) (by omega)
  have x1':=kf hc0 i
  have x2':=kf hc1 i
  have x3:=GN (x:=t) (y:=c1.getD i 0) (by omega) x2'
  have h1:(i:Int)<(M:Int):=by omega
  have h2:0≤(i:Int):=by omega
  have h3:i≤M:=by omega
  have h4:je (t*c1.getD i 0):=by unfold je; omega
  have h5:je (c0.getD i 0+t*c1.getD i 0):=by unfold je; omega
  have h6:Jt (i+1) 8:=qb (by omega)
  have h7:je ((i:Int)+1):=by unfold je; omega
  have ht17:(c0.getD i 0+t*c1.getD i 0).tmod 17=(c0.getD i 0+t*c1.getD i 0) % 17:=Int.tmod_eq_emod_of_nonneg (by omega)
  rw [← ih,jf]
  simp only [B9,jj,h1,decide_true,if_true,jg,PC.holds,h2,jd,Int.toNat_natCast,Nat.mul_one,List.length_map,hc0l,hc1l,h3,ju,a1,a2,h4,h5,ht17,h6,h7,jk,jb]
  rw [show (i:Int)+1=((i+1:Nat):Int) by omega]
  rfl
theorem jsy {L N M:Nat} {v w c0 c1:List Int} {x0 x1 t:Int} (hv:Wd L N v) (hw:Wd L N w) (hd0:v.drop N=c0) (hd1:w.drop N=c1) (hN:1≤N) (hM:0<M) (hLM:L=N+M) (hL:L≤16) (hc:kN (L:Int) (N:Int)=0) (hx:0≤x1∧x1≤65535) (ht:1≤t∧t≤16) (e:Nat) :
  res B9 (.c4 M (c0.map vI) M (c1.map vI) L (v.map vI) t e L ((Kx v w t L).map vI) (M:Int) 0 (L:Int) (N:Int) x0 x1 e)=some true:=by
 have hc0l:c0.length=M:=by rw [← hd0,List.length_drop,hv.len]; omega
 have hc1l:c1.length=M:=by rw [← hd1,List.length_drop,hw.len]; omega
 have hc0:okS c0:=by intro x hx; rw [← hd0] at hx; exact hv.ok x (List.mem_of_mem_drop hx)
 have hc1:okS c1:=by intro x hx; rw [← hd1] at hx; exact hw.ok x (List.mem_of_mem_drop hx)
 have hgo:=juI (x0:=x0) hv hw hd0 hd1 hN hM hLM hL hc hx ht e (M - 1) 1 0 (by omega) (by omega)
 have a1:=j5 (l:=c0) (i:=0) (by omega)
 have a2:=j5 (l:=c1) (i:=0) (by omega)
 have x1':=kf hc0 0
 have x2':=kf hc1 0
 have x3:=GN (x:=t) (y:=c1.getD 0 0) (by omega) x2'
 have h1:(0:Int)<(M:Int):=by omega
 have h2:(0:Int)≤0:=by omega
 have h3:0≤M:=by omega
 have h4:je (t*c1.getD 0 0):=by unfold je; omega
 have h5:je (c0.getD 0 0+t*c1.getD 0 0):=by unfold je; omega
 have h7:je ((0:Int)+1):=by unfold je; omega
 have ht17:(c0.getD 0 0+t*c1.getD 0 0).tmod 17=(c0.getD 0 0+t*c1.getD 0 0) % 17:=Int.tmod_eq_emod_of_nonneg (by omega)
 rw [← hgo,jf]
 simp only [B9,jj,h1,decide_true,if_true,jg,PC.holds,h2,jd,Int.toNat_zero,Nat.mul_one,List.length_map,hc0l,hc1l,h3,ju,a1,a2,h4,h5,ht17,h7,jk,jb]
 rfl
theorem jwm {L N M:Nat} {v w c0 c1:List Int} {x0 x1 t:Int} (hv:Wd L N v) (hw:Wd L N w) (hd0:v.drop N=c0) (hd1:w.drop N=c1) (hN:1≤N) (hM:0<M) (hLM:L=N+M) (hL:L≤16) (hc:kN (L:Int) (N:Int)=0) (hx:0≤x1∧x1≤65535) (ht:1≤t∧t≤16) :
  ∀ (d i e:Nat),L=i+d→0<i→res B9 (.c2 M (c0.map vI) M (c1.map vI) L (v.map vI) L (w.map vI) t e i ((Kx v w t i).map vI) (L:Int) (i:Int) (L:Int) (N:Int) x0 x1 e)=some true:=by
 have hvl:=hv.len
 have hwl:=hw.len
 intro d
 induction d with
 | zero =>
  intro i e hi h0
  have hi:i=L:=by omega
  subst hi
  have hgo:=jsy (x0:=x0) hv hw hd0 hd1 hN hM hLM hL hc hx ht e
  have h1:¬ ((i:Int)<(i:Int)):=by omega
  rw [jf]
  simp only [B9,jj,h1,decide_false,Bool.false_eq_true,if_false,jk,jb]
  exact hgo
 | succ d ih =>
  intro i e hi h0
  have ih:=ih (i+1) (e+1) (by omega) (by omega)
  rw [jaG,List.map_append] at ih
  have a1:=j5 (l:=v) (i:=i) (by omega)
  have a2:=j5 (l:=w) (i:=i) (by omega)
  have x1':=kf hv.ok i
  have x2':=kf hw.ok i
  have x3:=GN (x:=t) (y:=w.getD i 0) (by omega) x2'
  have h1:(i:Int)<(L:Int):=by omega
  have h2:0≤(i:Int):=by omega
  have h3:i≤L:=by omega
  have h4:je (t*w.getD i 0):=by unfold je; omega
  have h5:je (v.getD i 0+t*w.getD i 0):=by unfold je; omega
  have h6:Jt (i+1) 8:=qb (by omega)
  have h7:je ((i:Int)+1):=by unfold je; omega
  have ht17:(v.getD i 0+t*w.getD i 0).tmod 17=(v.getD i 0+t*w.getD i 0) % 17:=Int.tmod_eq_emod_of_nonneg (by omega)
  rw [← ih,jf]
  simp only [B9,jj,h1,decide_true,if_true,jg,PC.holds,h2,jd,Int.toNat_natCast,Nat.mul_one,List.length_map,hvl,hwl,h3,ju,a1,a2,h4,h5,ht17,h6,h7,jk,jb]
  rw [show (i:Int)+1=((i+1:Nat):Int) by omega]
  rfl
theorem jtK {L N M:Nat} {v w c0 c1:List Int} {x0 x1 t:Int} (hv:Wd L N v) (hw:Wd L N w) (hd0:v.drop N=c0) (hd1:w.drop N=c1) (hN:1≤N) (hM:0<M) (hLM:L=N+M) (hL:L≤16) (hc:kN (L:Int) (N:Int)=0) (hx:0≤x1∧x1≤65535) (ht:1≤t∧t≤16) :
  res B9 (.c1 M (c0.map vI) M (c1.map vI) L (v.map vI) L (w.map vI) t (L:Int) 0 (L:Int) (N:Int) x0 x1)=some true:=by
 have hvl:=hv.len
 have hwl:=hw.len
 have hgo:=jwm (x0:=x0) hv hw hd0 hd1 hN hM hLM hL hc hx ht (L - 1) 1 0 (by omega) (by omega)
 have a1:=j5 (l:=v) (i:=0) (by omega)
 have a2:=j5 (l:=w) (i:=0) (by omega)
 have x1':=kf hv.ok 0
 have x2':=kf hw.ok 0
 have x3:=GN (x:=t) (y:=w.getD 0 0) (by omega) x2'
 have h1:(0:Int)<(L:Int):=by omega
 have h2:(0:Int)≤0:=by omega
 have h3:0≤L:=by omega
 have h4:je (t*w.getD 0 0):=by unfold je; omega
 have h5:je (v.getD 0 0+t*w.getD 0 0):=by unfold je; omega
 have h7:je ((0:Int)+1):=by unfold je; omega
 have ht17:(v.getD 0 0+t*w.getD 0 0).tmod 17=(v.getD 0 0+t*w.getD 0 0) % 17:=Int.tmod_eq_emod_of_nonneg (by omega)
 rw [← hgo,jf]
 simp only [B9,jj,h1,decide_true,if_true,jg,PC.holds,h2,jd,Int.toNat_zero,Nat.mul_one,List.length_map,hvl,hwl,h3,ju,a1,a2,h4,h5,ht17,h7,jk,jb]
 rfl
theorem jb6 (a b:Int) (n0 n1:List Int) (x0 x1:Int) (h0:okB n0) (h1:okB n1) (hx:0≤x1∧x1≤65535):F9 a b n0.length (n0.map b8) n1.length (n1.map b8) x0 x1=some true:=by
 unfold F9; rw [jf]
 by_cases hc:kN a b=0
 ·have b0:(kN a b != 0)=false:=by rw [hc]; rfl
  by_cases h10:a>10
  ·simp only [B9,QK,jc,jq,jj,b0,Bool.false_eq_true,if_false,h10,decide_true,if_true,Za,jp,ji]
  by_cases l0:(n0.length:Int)<1
  ·simp only [B9,QK,jc,jq,jj,b0,Bool.false_eq_true,if_false,h10,decide_false,l0,decide_true,if_true,Za,jp,ji]
  by_cases l1:(n1.length:Int)<1
  ·simp only [B9,QK,jc,jq,jj,b0,Bool.false_eq_true,if_false,h10,decide_false,l0,l1,decide_true,if_true,Za,jp,ji]
  by_cases m0:(n0.length:Int)>20
  ·simp only [B9,QK,jc,jq,jj,b0,Bool.false_eq_true,if_false,h10,decide_false,l0,l1,m0,decide_true,if_true,Za,jp,ji]
  by_cases m1:(n1.length:Int)>20
  ·simp only [B9,QK,jc,jq,jj,b0,Bool.false_eq_true,if_false,h10,decide_false,l0,l1,m0,m1,decide_true,if_true,Za,jp,ji]
  have hck:=zO.1 hc
  obtain ⟨N,rfl⟩:∃ N:Nat,b=(N:Int):=⟨b.toNat,by omega⟩
  obtain ⟨L,rfl⟩:∃ L:Nat,a=(L:Int):=⟨a.toNat,by omega⟩
  obtain ⟨M,hLM⟩:∃ M:Nat,L=N+M:=⟨L - N,by omega⟩
  have g70:=jhD (N:=N) (M:=M) h0 (by omega) (by omega) (by omega) (by omega)
  have g70':=jhD (N:=N) (M:=M) h1 (by omega) (by omega) (by omega) (by omega)
  rw [← hLM] at g70 g70'
  have k0:=jfy n0 M
  have k1:=jfy n1 M
  have q0:=jjY n0 M
  have q1:=jjY n1 M
  generalize cdl n0 M=c0 at g70 k0 q0
  generalize cdl n1 M=c1 at g70' k1 q1
  obtain ⟨v,v85,hv,hvd⟩:=gI (L:Int) (N:=N) (m:=c0) (by omega) q0 (by omega) (by omega)
  obtain ⟨w,w85,hw,hwd⟩:=gI (L:Int) (N:=N) (m:=c1) (by omega) q1 (by omega) (by omega)
  rw [k0,← hLM] at v85 hv
  rw [k1,← hLM] at w85 hw
  have z0:jfR (L:Int) (N:Int) c0=0:=yL.2 ⟨hc,by omega,q0⟩
  have z1:jfR (L:Int) (N:Int) c1=0:=yL.2 ⟨hc,by omega,q1⟩
  have g19:=jeH (by omega) z0 (by rw [k0]; exact v85)
  have g19':=jeH (by omega) z1 (by rw [k1]; exact w85)
  rw [k0] at g19
  rw [k1] at g19'
  have g17:=gu c0 (by omega)
  have g17':=gu c1 (by omega)
  rw [k0] at g17
  rw [k1] at g17'
  have zv:Qm (L:Int) (N:Int) v=0:=qU.2 ⟨hc,by rw [hv.len],hv.ok⟩
  have zw:Qm (L:Int) (N:Int) w=0:=qU.2 ⟨hc,by rw [hw.len],hw.ok⟩
  have hvl:=hv.len
  have hwl:=hw.len
  have g21:=jgX (L:Int) (N:Int) v (by omega)
  have g21':=jgX (L:Int) (N:Int) w (by omega)
  rw [hvl,zv] at g21
  rw [hwl,zw] at g21'
  have f17v:=gu v (by omega)
  have f17w:=gu w (by omega)
  rw [hvl] at f17v
  rw [hwl] at f17w
  have g20:=jpw (n:=(L:Int)) (k:=N) (l:=v) (by omega) (by omega) hv.ok zv (by omega)
  rw [hv.is,if_pos rfl,hvd,hvl,show L - N=M by omega] at g20
  have g18:=jdZ (n:=(L:Int)) (k:=N) (l:=v) (by omega) (by omega) hv.ok zv
  rw [hv.is,hvl] at g18
  have dz:jeG v w=0:=by
   unfold jeG
   rw [jI,jI,jI,kQ (by decide)]
   have lz:∀ u:List Int,u.length=L→okS u→KS u=0:=by
    intro u hu ho
    unfold KS
    rw [jI,jI,kQ (by decide),yz]
    exact ⟨by rw [decide_eq_false_iff_not]; omega,ho,rfl⟩
   exact ⟨lz v hvl hv.ok,lz w hwl hw.ok,by rw [hvl,hwl]; simp,rfl⟩
  have g53:=jo0 (a:=v) (b:=w) (by omega) (by omega)
  rw [hvl,hwl,dz] at g53
  have hdv:jig v w=((kz v w:Nat):Int):=by unfold jig; rw [if_pos dz]
  rw [hdv] at g53
  have s30:=jdL c0 (by omega) k0
  have g30:=jjU c0 c1 (by omega)
  rw [k0,k1] at g30
  have e2:List.take M (List.drop N (v.map vI))=c0.map vI:=by rw [← List.map_drop,hvd,List.take_of_length_le (by simp; omega)]
  have same:decide (c0=c1)=(((kz v w:Nat):Int)==0):=by
   by_cases h:c0=c1
   ·have e:=jdy hv hw (by omega) (by omega) (by omega) (by rw [hvd,hwd,h])
    rw [decide_eq_true h,e,Q6]; rfl
   ·have hd:kz v w≠0:=fun c=>h (by rw [← hvd,← hwd,jaI (by omega) c])
    rw [decide_eq_false h]
    exact (beq_eq_false_iff_ne.2 (by omega)).symm
  have far:((kz v w:Nat):Int)>0→¬ ((kz v w:Nat):Int)≤(N:Int):=by
   intro h1 h2
   have e:=jav hv hw (by omega) (by omega) (by omega) (by omega)
   rw [e,Q6] at h1
   omega
  rw [same] at g30
  have hgo:=jtK (x0:=x0) (t:=1+x1 % 16) hv hw hvd hwd (by omega) (by omega) hLM (by omega) hc hx (by omega)
  have hw1:=jlV (x:=x1) (by omega)
  have t16:x1.tmod 16=x1 % 16:=Int.tmod_eq_emod_of_nonneg hx.1
  have hin:je (1+x1 % 16):=by unfold je; omega
  have y1:0≤(N:Int):=by omega
  have y2:(N:Int)≤(L:Int):=by omega
  have y3:L - N=M:=by omega
  have bz:((0:Int) != 0)=false:=rfl
  generalize ((kz v w:Nat):Int)=D at g53 g30 far
  have bd:((!(D==0))==(D==0))=false:=by cases (D==0) <;> rfl
  simp only [B9,QK,jc,jq,jj,b0,Bool.false_eq_true,if_false,h10,decide_false,l0,l1,m0,m1,g70,g70',g17,g19,g17',g19',g21,g21',Jr,bz,jg,PC.holds,BEq.rfl,jd,y1,y2,Int.le_refl,Int.toNat_natCast,List.length_map,hvl,Nat.mul_one,y3,e2,s30,Bool.not_true,f17v,g20,g18,f17w,g53,g30,bd,hw1,t16,hin,jk]
  by_cases hD:D>0
  ·have hf:=far hD
   simp only [hD,decide_true,if_true,hf,decide_false,Bool.false_eq_true,if_false,BEq.rfl,jd,jb]
   exact hgo
  ·simp only [hD,decide_false,Bool.false_eq_true,if_false,jb]
   exact hgo
 ·have b0:(kN a b != 0)=true:=bne_iff_ne.2 hc
  simp only [B9,QK,jc,jq,jj,b0,if_true,Za,jp,ji]
end
end Go.Kv
