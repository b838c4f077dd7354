import Derived.Test.YtdelimpnnpifpaaGreatDoorGCk
import Derived.Test.YtdelimpnnpifpaaGreatDoorKIs
set_option linter.all false
namespace Go.Kv
open Go Go.RowKit
set_option maxRecDepth 100000
def Jd:List Int→Int
  | []=>0
  | x :: xs=>if x=0 then Jd xs else x
def Jk (n a b:Int):Int:=if n<a∨n>b then 3 else 0
def kM (b:Bool) (e:Int):Int:=if b=true then e else 0
theorem y0 {l:List Int} {i:Nat} (h:i<l.length):Jd (l.drop i)=if l.getD i 0=0 then Jd (l.drop (i+1)) else l.getD i 0:=by
  rw [QF 0 h]; rfl
theorem z8 (b:Bool) (e:Int):F83 b e=some (kM b e):=by
  unfold F83; rw [jf]; unfold kM
  cases b <;> simp [B83,jj,jp,ji]
theorem jeM (b:Bool) (e:Int):F25 b e=some (kM b e):=by
  unfold F25; rw [jf]; unfold kM
  cases b <;> simp [B25,jj,jp,ji]
theorem orD (p q:Prop) [Decidable p] [Decidable q]:(if decide p=true then true else decide q)=decide (p∨q):=by
  by_cases hp:p <;> by_cases hq:q <;> simp [hp,hq]
theorem jnc (n a b:Int):kM (decide (n<a∨n>b)) 3=Jk n a b:=by
  unfold kM Jk
  by_cases h:n<a∨n>b
  · rw [if_pos h,decide_eq_true h]; rfl
  · rw [if_neg h,decide_eq_false h]; rfl
theorem jiR (n a b:Int):F91 n a b=some (Jk n a b):=by
  unfold F91; rw [jf]
  simp only [B91,Jr,orD,z8,jc,jq,jp,ji,jnc]
theorem joh (n a b:Int):F54 n a b=some (Jk n a b):=by
  unfold F54; rw [jf]
  simp only [B54,Jr,orD,jeM,jc,jq,jp,ji,jnc]
theorem jfM (n:Int):jg4 n=some (Jk n 0 16):=by
  unfold jg4; rw [jf]
  simp only [joG,jiR,jc,jq,jp,ji]
theorem jiK (l:List Int) (hl:l.length≤300):∀ (k i:Nat),l.length=i+k→res B82 (.c1 l.length (l.map vI) (l.length:Int) (i:Int))=some (Jd (l.drop i)):=by
  intro k
  induction k with
  | zero =>
    intro i hk
    rw [List.drop_eq_nil_of_le (by omega),jf]
    have:¬ ((i:Int)<(l.length:Int)):=by omega
    simp [B82,jj,jp,this,ji,Jd]
  | succ k IH =>
    intro i hk
    have hi:i<l.length:=by omega
    have h1:(i:Int)<(l.length:Int):=by omega
    have hin:je ((i:Int)+1):=by unfold je; omega
    have ih:=IH (i+1) (by omega)
    rw [y0 hi,jf]
    simp only [B82,jj,jg,jp,jk,PC.holds,jd,Int.toNat_natCast,Nat.mul_one,ju,j5 hi,h1,hin,decide_true,if_true,Int.natCast_nonneg,List.length_map,Nat.le_of_lt hi]
    by_cases hz:l.getD i 0=0
    · simp only [hz,bne_self_eq_false,Bool.false_eq_true,if_false,if_true,jd,jk,jb]
      rw [show ((i:Int)+1)=((i+1:Nat):Int) by omega,ih]
    · simp only [bne_iff_ne.2 hz,hz,if_true,if_false,ji]
theorem jd1 (l:List Int) (hl:l.length≤300):F82 l.length (l.map vI)=some (Jd l):=by
  unfold F82; rw [jf]
  simp only [B82,jk,jb]
  exact jiK l hl l.length 0 (by omega)
theorem jrm (a b:Int):F82 2 [vI a,vI b]=some (Jd [a,b]):=jd1 [a,b] (by simp)
theorem jdG (a b c:Int):F82 3 [vI a,vI b,vI c]=some (Jd [a,b,c]):=jd1 [a,b,c] (by simp)
theorem jiD (l:List Int) (hl:l.length≤300):∀ (k i:Nat),l.length=i+k→res B87 (.c1 l.length (l.map vI) (i:Int))=some (Jd (l.drop i)):=by
  intro k
  induction k with
  | zero =>
    intro i hk
    rw [List.drop_eq_nil_of_le (by omega),jf]
    have:¬ ((i:Int)<(l.length:Int)):=by omega
    simp [B87,jj,jp,this,ji,Jd]
  | succ k IH =>
    intro i hk
    have hi:i<l.length:=by omega
    have h1:(i:Int)<(l.length:Int):=by omega
    have hin:je ((i:Int)+1):=by unfold je; omega
    have ih:=IH (i+1) (by omega)
    rw [y0 hi,jf]
    simp only [B87,jj,jg,jp,jk,PC.holds,jd,Int.toNat_natCast,Nat.mul_one,ju,j5 hi,h1,hin,decide_true,if_true,Int.natCast_nonneg,List.length_map,Nat.le_of_lt hi]
    by_cases hz:l.getD i 0=0
    · simp only [hz,bne_self_eq_false,Bool.false_eq_true,if_false,if_true,jd,jk,jb]
      rw [show ((i:Int)+1)=((i+1:Nat):Int) by omega,ih]
    · simp only [bne_iff_ne.2 hz,hz,if_true,if_false,ji]
theorem jn8 (a b c:Int):F87 3 [vI a,vI b,vI c]=some (Jd [a,b,c]):=by
  unfold F87; rw [jf]
  simp only [B87,jk,jb]
  exact jiD [a,b,c] (by simp) 3 0 (by simp)
def kN (n k:Int):Int:=Jd [Jk n 2 16,Jk k 1 8,kM (decide (k≥n)) 11]
theorem jkp (n k:Int):F27 n k=some (kN n k):=by
  unfold F27; rw [jf]
  simp only [B27,jiR,z8,jdG,jc,jq,jp,ji]; rfl
theorem QK (n k:Int):F28 n k=some (kN n k):=by
  unfold F28; rw [jf]
  simp only [B28,joh,jeM,jn8,jc,jq,jp,ji]; rfl
theorem jI {x:Int} {xs:List Int}:Jd (x :: xs)=0↔x=0∧Jd xs=0:=by
  rw [Jd]
  by_cases h:x=0
  · simp [h]
  · simp [h]
theorem QO {n a b:Int}:Jk n a b=0↔a≤n∧n≤b:=by
  unfold Jk; split <;> omega
theorem kQ {b:Bool} {e:Int} (he:e≠0):kM b e=0↔b=false:=by
  unfold kM; cases b <;> simp [he]
theorem zO {n k:Int}:kN n k=0↔(2≤n∧n≤16)∧(1≤k∧k≤8)∧k<n:=by
  unfold kN
  rw [jI,jI,jI,QO,QO,kQ (by decide),decide_eq_false_iff_not]
  have:Jd []=0:=rfl
  simp only [this,and_true]
  omega
def yu (l:List Int):Int:=Jd (l.map fun x=>Jk x 0 16)
theorem yz {l:List Int}:yu l=0↔okS l:=by
  unfold yu okS
  induction l with
  | nil=>simp [Jd]
  | cons x l ih =>
    rw [List.map_cons,jI,QO,ih]
    constructor
    · rintro ⟨h1,h2⟩ y hy
      rcases List.mem_cons.1 hy with rfl | hy
      · omega
      · exact h2 y hy
    · intro h
      exact ⟨by have:=h x (by simp); omega,fun y hy=>h y (by simp [hy])⟩
theorem qb {n:Nat} (h:n≤1000):Jt n 8:=⟨by omega,by omega⟩
theorem jfX (l:List Int) (hl:l.length≤300):∀ (k i:Nat),l.length=i+k→0<i →
    res jcL (.c2 (i - 1) i ((l.take i).map fun x=>vI (Jk x 0 16)) l.length (l.map vI) (l.length:Int) (i:Int) (i - 1))=some (l.length,(l.map fun x=>vI (Jk x 0 16))):=by
  intro k
  induction k with
  | zero =>
    intro i hk h0
    rw [jf,List.take_of_length_le (by omega)]
    have h1:¬ ((i:Int)<(l.length:Int)):=by omega
    have h2:i=l.length:=by omega
    simp only [jcL,jj,jp,h1,decide_false,Bool.false_eq_true,if_false,ji]
    rw [h2]
  | succ k IH =>
    intro i hk h0
    have hi:i<l.length:=by omega
    have h1:(i:Int)<(l.length:Int):=by omega
    have hin:je ((i:Int)+1):=by unfold je; omega
    have ih:=IH (i+1) (by omega) (by omega)
    have hf:=qb (n:=i+1) (by omega)
    rw [jf]
    simp only [jcL,jj,jg,jp,jk,PC.holds,jd,Int.toNat_natCast,Nat.mul_one,ju,j5 hi,h1,hin,decide_true,if_true,Int.natCast_nonneg,List.length_map,Nat.le_of_lt hi,jfM,jc,jq,hf,jb]
    have e:(l.take (i+1)).map (fun x=>vI (Jk x 0 16))=(l.take i).map (fun x=>vI (Jk x 0 16))++[vI (Jk (l.getD i 0) 0 16)]:=by
      rw [List.take_succ,List.map_append,List.getElem?_eq_getElem hi]
      simp [List.getD_eq_getElem?_getD,hi]
    rw [e] at ih
    rw [show ((i:Int)+1)=((i+1:Nat):Int) by omega,show i - 1+1=i by omega]
    exact ih
theorem jlY (l:List Int) (hl:l.length≤300):jlK l.length (l.map vI)=some (l.length,(l.map fun x=>Jk x 0 16).map vI):=by
  unfold jlK; rw [jf]
  simp only [jcL,jk,jb]
  rw [jf]
  by_cases h:l.length=0
  · have:l=[]:=List.length_eq_zero_iff.1 h
    subst this
    simp [jcL,jj,jp,ji]
  · have hi:0<l.length:=by omega
    have h1:(0:Int)<(l.length:Int):=by omega
    have hin:je ((0:Int)+1):=by unfold je; omega
    have ha:=j5 hi
    simp only [jcL,jj,jg,jp,jk,PC.holds,jd,Nat.mul_one,ju,h1,hin,decide_true,if_true,List.length_map,jfM,jc,jq,jb,show Int.toNat 0=0 from rfl,ha,Nat.zero_le,Int.le_refl]
    have hh:=jfX l hl (l.length - 1) 1 (by omega) (by omega)
    have e:(l.take 1).map (fun x=>vI (Jk x 0 16))=[vI (Jk (l.getD 0 0) 0 16)]:=by
      match l,hi with
      | x :: l,_=>rfl
    rw [e] at hh
    rw [List.map_map]
    exact hh
theorem jd3 (l:List Int) (hl:l.length≤300):F84 l.length (l.map vI)=some (yu l):=by
  have h2:=jd1 (l.map fun x=>Jk x 0 16) (by simpa using hl)
  rw [List.length_map] at h2
  unfold F84; rw [jf]
  simp only [B84,jlY l hl,jc,jq,h2,jp,ji]; rfl
theorem jjb (l:List Int) (hl:l.length≤300):∀ (k i:Nat),l.length=i+k→res B78 (.c1 l.length (l.map vI) (i:Int))=some (yu (l.drop i)):=by
  intro k
  induction k with
  | zero =>
    intro i hk
    rw [List.drop_eq_nil_of_le (by omega),jf]
    have:¬ ((i:Int)<(l.length:Int)):=by omega
    simp [B78,jj,jp,this,ji,yu,Jd]
  | succ k IH =>
    intro i hk
    have hi:i<l.length:=by omega
    have h1:(i:Int)<(l.length:Int):=by omega
    have hin:je ((i:Int)+1):=by unfold je; omega
    have ih:=IH (i+1) (by omega)
    have e:yu (l.drop i)=if Jk (l.getD i 0) 0 16=0 then yu (l.drop (i+1)) else Jk (l.getD i 0) 0 16:=by
      rw [QF 0 hi]; rfl
    rw [e,jf]
    simp only [B78,jj,jg,jp,jk,PC.holds,jd,Int.toNat_natCast,Nat.mul_one,ju,j5 hi,h1,hin,decide_true,if_true,Int.natCast_nonneg,List.length_map,Nat.le_of_lt hi]
    by_cases h2:l.getD i 0<0
    · have hr:Jk (l.getD i 0) 0 16=3:=by unfold Jk; rw [if_pos (by omega)]
      simp only [h2,decide_true,if_true,ji,hr]; rfl
    · by_cases h3:l.getD i 0≥17
      · have hr:Jk (l.getD i 0) 0 16=3:=by unfold Jk; rw [if_pos (by omega)]
        simp only [h2,h3,decide_true,decide_false,Bool.false_eq_true,if_false,if_true,ji,hr,show (false==false)=true from rfl,jd]; rfl
      · have hr:Jk (l.getD i 0) 0 16=0:=by unfold Jk; rw [if_neg (by omega)]
        simp only [h2,h3,decide_false,Bool.false_eq_true,if_false,if_true,jb,hr,show (false==false)=true from rfl,jd]
        rw [show ((i:Int)+1)=((i+1:Nat):Int) by omega,ih]
theorem joU (l:List Int) (hl:l.length≤300):F78 l.length (l.map vI)=some (yu l):=by
  unfold F78; rw [jf]
  simp only [B78,jk,jb]
  exact jjb l hl l.length 0 (by omega)
def KS (l:List Int):Int:=Jd [kM (decide ((l.length:Int)>256)) 5,yu l]
theorem YC (l:List Int) (hl:l.length≤300):jhN l.length (l.map vI)=some (KS l):=by
  unfold jhN; rw [jf]
  simp only [jpF,z8,jd3 l hl,jrm,jc,jq,jp,ji]; rfl
def jlc (n:Nat):Prop:=n≤40∨n=257
instance (n:Nat):Decidable (jlc n):=by unfold jlc; infer_instance
theorem gu (l:List Int) (hl:l.length≤300):F17 l.length (l.map vI)=some (l.length,l.map vI):=by
  unfold F17; rw [jf]
  by_cases h:l.length=0
  · have:l=[]:=List.length_eq_zero_iff.1 h
    subst this
    simp [B17,jj,jg,PC.holds,jd,jp,ji]
  · have h1:l.length.beq 0=false:=by
      rw [← Bool.not_eq_true,Nat.beq_eq]; exact h
    have h2:0<l.length:=by omega
    have hf:=qb (n:=l.length) (by omega)
    simp only [B17,jj,jg,PC.holds,h1,Bool.false_eq_true,if_false,jd,h2,List.length_map,Nat.mul_one,hf,jp,ji]
end Go.Kv
