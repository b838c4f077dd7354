import Derived.Test.YtdelimpnnpifpaaGreatDoorGCk
import Derived.Test.YtdelimpnnpifpaaGreatDoorKIs
set_option linter.all false
namespace Go.Kv
open Go Go.RowKit
set_option maxRecDepth 100000
def Jw:List Int→Int
  | []=>0
  | x :: xs=>if x=0 then Jw xs else x
def Jp (n a b:Int):Int:=if n<a∨n>b then 3 else 0
def kX (b:Bool) (e:Int):Int:=if b=true then e else 0
theorem YB {l:List Int} {i:Nat} (h:i<l.length):Jw (l.drop i)=if l.getD i 0=0 then Jw (l.drop (i+1)) else l.getD i 0:=by
  rw [K5 0 h]; rfl
theorem Gi (b:Bool) (e:Int):F83 b e=some (kX b e):=by
  unfold F83; rw [jd]; unfold kX
  cases b <;> simp [B83,jg,jl,jk]
theorem Q7 (b:Bool) (e:Int):F25 b e=some (kX b e):=by
  unfold F25; rw [jd]; unfold kX
  cases b <;> simp [B25,jg,jl,jk]
theorem orD (p q:Prop) [Decidable p] [Decidable q]:(if decide p=true then true else decide q)=decide (p∨q):=by
  by_cases hp:p <;> by_cases hq:q <;> simp [hp,hq]
theorem jn8 (n a b:Int):kX (decide (n<a∨n>b)) 3=Jp n a b:=by
  unfold kX Jp
  by_cases h:n<a∨n>b
  · rw [if_pos h,decide_eq_true h]; rfl
  · rw [if_neg h,decide_eq_false h]; rfl
theorem jkp (n a b:Int):F91 n a b=some (Jp n a b):=by
  unfold F91; rw [jd]
  simp only [B91,jG,orD,Gi,ja,jj,jl,jk,jn8]
theorem joY (n a b:Int):F54 n a b=some (Jp n a b):=by
  unfold F54; rw [jd]
  simp only [B54,jG,orD,Q7,ja,jj,jl,jk,jn8]
theorem jfz (n:Int):jjn n=some (Jp n 0 16):=by
  unfold jjn; rw [jd]
  simp only [jpj,jkp,ja,jj,jl,jk]
theorem jh8 (l:List Int) (hl:l.length≤300):∀ (k i:Nat),l.length=i+k→res B82 (.c1 l.length (l.map vI) (l.length:Int) (i:Int))=some (Jw (l.drop i)):=by
  intro k
  induction k with
  | zero =>
    intro i hk
    rw [List.drop_eq_nil_of_le (by omega),jd]
    have:¬ ((i:Int)<(l.length:Int)):=by omega
    simp [B82,jg,jl,this,jk,Jw]
  | succ k IH =>
    intro i hk
    have hi:i<l.length:=by omega
    have h1:(i:Int)<(l.length:Int):=by omega
    have hin:jc ((i:Int)+1):=by unfold jc; omega
    have ih:=IH (i+1) (by omega)
    rw [YB hi,jd]
    simp only [B82,jg,jf,jl,ji,PC.holds,je,Int.toNat_natCast,Nat.mul_one,jo,jL hi,h1,hin,decide_true,if_true,Int.natCast_nonneg,List.length_map,Nat.le_of_lt hi]
    by_cases hz:l.getD i 0=0
    · simp only [hz,bne_self_eq_false,Bool.false_eq_true,if_false,if_true,je,ji,jb]
      rw [show ((i:Int)+1)=((i+1:Nat):Int) by omega,ih]
    · simp only [bne_iff_ne.2 hz,hz,if_true,if_false,jk]
theorem jhh (l:List Int) (hl:l.length≤300):F82 l.length (l.map vI)=some (Jw l):=by
  unfold F82; rw [jd]
  simp only [B82,ji,jb]
  exact jh8 l hl l.length 0 (by omega)
theorem jfj (a b c:Int):F82 3 [vI a,vI b,vI c]=some (Jw [a,b,c]):=jhh [a,b,c] (by simp)
theorem jlt (l:List Int) (hl:l.length≤300):∀ (k i:Nat),l.length=i+k→res B87 (.c1 l.length (l.map vI) (i:Int))=some (Jw (l.drop i)):=by
  intro k
  induction k with
  | zero =>
    intro i hk
    rw [List.drop_eq_nil_of_le (by omega),jd]
    have:¬ ((i:Int)<(l.length:Int)):=by omega
    simp [B87,jg,jl,this,jk,Jw]
  | succ k IH =>
    intro i hk
    have hi:i<l.length:=by omega
    have h1:(i:Int)<(l.length:Int):=by omega
    have hin:jc ((i:Int)+1):=by unfold jc; omega
    have ih:=IH (i+1) (by omega)
    rw [YB hi,jd]
    simp only [B87,jg,jf,jl,ji,PC.holds,je,Int.toNat_natCast,Nat.mul_one,jo,jL hi,h1,hin,decide_true,if_true,Int.natCast_nonneg,List.length_map,Nat.le_of_lt hi]
    by_cases hz:l.getD i 0=0
    · simp only [hz,bne_self_eq_false,Bool.false_eq_true,if_false,if_true,je,ji,jb]
      rw [show ((i:Int)+1)=((i+1:Nat):Int) by omega,ih]
    · simp only [bne_iff_ne.2 hz,hz,if_true,if_false,jk]
theorem jif (a b c:Int):F87 3 [vI a,vI b,vI c]=some (Jw [a,b,c]):=by
  unfold F87; rw [jd]
  simp only [B87,ji,jb]
  exact jlt [a,b,c] (by simp) 3 0 (by simp)
def QX (n k:Int):Int:=Jw [Jp n 2 16,Jp k 1 8,kX (decide (k≥n)) 11]
theorem Qe (n k:Int):F27 n k=some (QX n k):=by
  unfold F27; rw [jd]
  simp only [B27,jkp,Gi,jfj,ja,jj,jl,jk]; rfl
theorem QY (n k:Int):F28 n k=some (QX n k):=by
  unfold F28; rw [jd]
  simp only [B28,joY,Q7,jif,ja,jj,jl,jk]; rfl
theorem JA {x:Int} {xs:List Int}:Jw (x :: xs)=0↔x=0∧Jw xs=0:=by
  rw [Jw]
  by_cases h:x=0
  · simp [h]
  · simp [h]
theorem QN {n a b:Int}:Jp n a b=0↔a≤n∧n≤b:=by
  unfold Jp; split <;> omega
theorem ZB {b:Bool} {e:Int} (he:e≠0):kX b e=0↔b=false:=by
  unfold kX; cases b <;> simp [he]
theorem Qp {n k:Int}:QX n k=0↔(2≤n∧n≤16)∧(1≤k∧k≤8)∧k<n:=by
  unfold QX
  rw [JA,JA,JA,QN,QN,ZB (by decide),decide_eq_false_iff_not]
  have:Jw []=0:=rfl
  simp only [this,and_true]
  omega
def yX (l:List Int):Int:=Jw (l.map fun x=>Jp x 0 16)
theorem jas {l:List Int}:yX l=0↔okS l:=by
  unfold yX okS
  induction l with
  | nil=>simp [Jw]
  | cons x l ih =>
    rw [List.map_cons,JA,QN,ih]
    constructor
    · rintro ⟨h1,h2⟩ y hy
      rcases List.mem_cons.1 hy with rfl | hy
      · omega
      · exact h2 y hy
    · intro h
      exact ⟨by have:=h x (by simp); omega,fun y hy=>h y (by simp [hy])⟩
theorem Kg {n:Nat} (h:n≤1000):Jg n 8:=⟨by omega,by omega⟩
theorem jgK (l:List Int) (hl:l.length≤300):∀ (k i:Nat),l.length=i+k→0<i →
    res jcX (.c2 (i - 1) i ((l.take i).map fun x=>vI (Jp x 0 16)) l.length (l.map vI) (l.length:Int) (i:Int) (i - 1))=some (l.length,(l.map fun x=>vI (Jp x 0 16))):=by
  intro k
  induction k with
  | zero =>
    intro i hk h0
    rw [jd,List.take_of_length_le (by omega)]
    have h1:¬ ((i:Int)<(l.length:Int)):=by omega
    have h2:i=l.length:=by omega
    simp only [jcX,jg,jl,h1,decide_false,Bool.false_eq_true,if_false,jk]
    rw [h2]
  | succ k IH =>
    intro i hk h0
    have hi:i<l.length:=by omega
    have h1:(i:Int)<(l.length:Int):=by omega
    have hin:jc ((i:Int)+1):=by unfold jc; omega
    have ih:=IH (i+1) (by omega) (by omega)
    have hf:=Kg (n:=i+1) (by omega)
    rw [jd]
    simp only [jcX,jg,jf,jl,ji,PC.holds,je,Int.toNat_natCast,Nat.mul_one,jo,jL hi,h1,hin,decide_true,if_true,Int.natCast_nonneg,List.length_map,Nat.le_of_lt hi,jfz,ja,jj,hf,jb]
    have e:(l.take (i+1)).map (fun x=>vI (Jp x 0 16))=(l.take i).map (fun x=>vI (Jp x 0 16))++[vI (Jp (l.getD i 0) 0 16)]:=by
      rw [List.take_succ,List.map_append,List.getElem?_eq_getElem hi]
      simp [List.getD_eq_getElem?_getD,hi]
    rw [e] at ih
    rw [show ((i:Int)+1)=((i+1:Nat):Int) by omega,show i - 1+1=i by omega]
    exact ih
theorem jny (l:List Int) (hl:l.length≤300):jlZ l.length (l.map vI)=some (l.length,(l.map fun x=>Jp x 0 16).map vI):=by
  unfold jlZ; rw [jd]
  simp only [jcX,ji,jb]
  rw [jd]
  by_cases h:l.length=0
  · have:l=[]:=List.length_eq_zero_iff.1 h
    subst this
    simp [jcX,jg,jl,jk]
  · have hi:0<l.length:=by omega
    have h1:(0:Int)<(l.length:Int):=by omega
    have hin:jc ((0:Int)+1):=by unfold jc; omega
    have ha:=jL hi
    simp only [jcX,jg,jf,jl,ji,PC.holds,je,Nat.mul_one,jo,h1,hin,decide_true,if_true,List.length_map,jfz,ja,jj,jb,show Int.toNat 0=0 from rfl,ha,Nat.zero_le,Int.le_refl]
    have hh:=jgK l hl (l.length - 1) 1 (by omega) (by omega)
    have e:(l.take 1).map (fun x=>vI (Jp x 0 16))=[vI (Jp (l.getD 0 0) 0 16)]:=by
      match l,hi with
      | x :: l,_=>rfl
    rw [e] at hh
    rw [List.map_map]
    exact hh
theorem jeu (l:List Int) (hl:l.length≤300):F84 l.length (l.map vI)=some (yX l):=by
  have h2:=jhh (l.map fun x=>Jp x 0 16) (by simpa using hl)
  rw [List.length_map] at h2
  unfold F84; rw [jd]
  simp only [B84,jny l hl,ja,jj,h2,jl,jk]; rfl
theorem jju (l:List Int) (hl:l.length≤300):∀ (k i:Nat),l.length=i+k→res B78 (.c1 l.length (l.map vI) (i:Int))=some (yX (l.drop i)):=by
  intro k
  induction k with
  | zero =>
    intro i hk
    rw [List.drop_eq_nil_of_le (by omega),jd]
    have:¬ ((i:Int)<(l.length:Int)):=by omega
    simp [B78,jg,jl,this,jk,yX,Jw]
  | succ k IH =>
    intro i hk
    have hi:i<l.length:=by omega
    have h1:(i:Int)<(l.length:Int):=by omega
    have hin:jc ((i:Int)+1):=by unfold jc; omega
    have ih:=IH (i+1) (by omega)
    have e:yX (l.drop i)=if Jp (l.getD i 0) 0 16=0 then yX (l.drop (i+1)) else Jp (l.getD i 0) 0 16:=by
      rw [K5 0 hi]; rfl
    rw [e,jd]
    simp only [B78,jg,jf,jl,ji,PC.holds,je,Int.toNat_natCast,Nat.mul_one,jo,jL hi,h1,hin,decide_true,if_true,Int.natCast_nonneg,List.length_map,Nat.le_of_lt hi]
    by_cases h2:l.getD i 0<0
    · have hr:Jp (l.getD i 0) 0 16=3:=by unfold Jp; rw [if_pos (by omega)]
      simp only [h2,decide_true,if_true,jk,hr]; rfl
    · by_cases h3:l.getD i 0≥17
      · have hr:Jp (l.getD i 0) 0 16=3:=by unfold Jp; rw [if_pos (by omega)]
        simp only [h2,h3,decide_true,decide_false,Bool.false_eq_true,if_false,if_true,jk,hr,show (false==false)=true from rfl,je]; rfl
      · have hr:Jp (l.getD i 0) 0 16=0:=by unfold Jp; rw [if_neg (by omega)]
        simp only [h2,h3,decide_false,Bool.false_eq_true,if_false,if_true,jb,hr,show (false==false)=true from rfl,je]
        rw [show ((i:Int)+1)=((i+1:Nat):Int) by omega,ih]
theorem jh7 (l:List Int) (hl:l.length≤300):F78 l.length (l.map vI)=some (yX l):=by
  unfold F78; rw [jd]
  simp only [B78,ji,jb]
  exact jju l hl l.length 0 (by omega)
def KB (n:Nat):Prop:=n≤40∨n=257
instance (n:Nat):Decidable (KB n):=by unfold KB; infer_instance
theorem Q1 (n:Nat) (l:List DV):F14 n l=some (decide (KB n)):=by
  unfold F14; rw [jd]
  simp only [B14,jG,jl,jk]
  congr 1
  unfold KB
  by_cases h:n≤40
  · have:((n:Int)≤40):=by omega
    simp [h,this]
  · have h2:¬ ((n:Int)≤40):=by omega
    by_cases h3:n=257
    · subst h3; rfl
    · have h4:¬ ((n:Int)=257):=by omega
      simp [h,h2,h3,h4]
theorem jlE (l:List Int) (hl:l.length≤300):F17 l.length (l.map vI)=some (l.length,l.map vI):=by
  unfold F17; rw [jd]
  by_cases h:l.length=0
  · have:l=[]:=List.length_eq_zero_iff.1 h
    subst this
    simp [B17,jg,jf,PC.holds,je,jl,jk]
  · have h1:l.length.beq 0=false:=by
      rw [← Bool.not_eq_true,Nat.beq_eq]; exact h
    have h2:0<l.length:=by omega
    have hf:=Kg (n:=l.length) (by omega)
    simp only [B17,jg,jf,PC.holds,h1,Bool.false_eq_true,if_false,je,h2,List.length_map,Nat.mul_one,hf,jl,jk]
end Go.Kv
