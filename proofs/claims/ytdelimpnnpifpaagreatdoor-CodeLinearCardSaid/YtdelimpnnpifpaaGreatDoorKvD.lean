import Derived.Test.YtdelimpnnpifpaaGreatDoorKvC
import Derived.Laws.StructEq
set_option linter.all false
namespace Go.Kv
open Go Go.RowKit
theorem zc {n:Int} (h:je n):IntKind.i64.wrap n=n:=by
  unfold je at h
  have e:IntKind.i64.wrap n=if n % (2 ^ 64:Int)≥(2 ^ 63:Int) then n % (2 ^ 64:Int) - (2 ^ 64:Int) else n % (2 ^ 64:Int):=by
    simp [IntKind.wrap,IntKind.signed,IntKind.bits]
  rw [e]
  split <;> omega
def jhX (ex:Bool) (op:BinOp) (k:IntKind) (a b:Int):Option (Value × List PC) :=
  match op with
  | .add=>if ex&&decide (k=.i64) then some (.int k (a+b),[.in64 (a+b)]) else some (.int k (k.wrap (a+b)),[])
  | .sub=>if ex&&decide (k=.i64) then some (.int k (a - b),[.in64 (a - b)]) else some (.int k (k.wrap (a - b)),[])
  | .mul=>if ex&&decide (k=.i64) then some (.int k (a*b),[.in64 (a*b)]) else some (.int k (k.wrap (a*b)),[])
  | .quo=>if ex&&decide (k=.i64) then some (.int k (a.tdiv b),[.neI b 0,.in64 (a.tdiv b)]) else some (.int k (k.wrap (a.tdiv b)),[.neI b 0])
  | .rem=>some (.int k (a.tmod b),[.neI b 0])
  | _=>none
theorem jf8 {P:Program} {ex:Bool} {op:BinOp} {k:IntKind} {a b:Int} {t:TypeId} {v:Value} {ps:List PC} (h:jhX ex op k a b=some (v,ps)) (hp:AllP ps) (w:World) (x y:Operand) :
    (eqGuard op t x y (.int k a) (.int k b)).run P w=.ok () w∧(binOp op t (.int k a) (.int k b)).run P w=.ok v w∧Zn v=true:=by
  cases op <;> simp only [jhX] at h <;> first | (simp at h; done) | skip
  all_goals first
    | (split at h
       · rename_i hc
         simp only [Bool.and_eq_true,decide_eq_true_eq] at hc
         obtain ⟨_,rfl⟩:=hc
         simp only [Option.some.injEq,Prod.mk.injEq] at h
         obtain ⟨rfl,rfl⟩:=h
         simp only [AllP,PC.holds,and_true] at hp
         first
           | (refine ⟨by simp [eqGuard],?_,rfl⟩
              simp only [binOp,Op.intArith,ne_eq,not_true_eq_false,if_false]
              rw [zc hp]; rfl)
           | (obtain ⟨h0,hp⟩:=hp
              refine ⟨by simp [eqGuard],?_,rfl⟩
              simp only [binOp,Op.intDiv,ne_eq,not_true_eq_false,if_false,if_neg h0]
              rw [zc hp]; rfl)
       · simp only [Option.some.injEq,Prod.mk.injEq] at h
         obtain ⟨rfl,rfl⟩:=h
         first
           | (refine ⟨by simp [eqGuard],?_,rfl⟩
              simp [binOp,Op.intArith]; done)
           | (simp only [AllP,PC.holds,and_true] at hp
              refine ⟨by simp [eqGuard],?_,rfl⟩
              simp [binOp,Op.intDiv,hp]; done))
    | (simp only [Option.some.injEq,Prod.mk.injEq] at h
       obtain ⟨rfl,rfl⟩:=h
       simp only [AllP,PC.holds,and_true] at hp
       refine ⟨by simp [eqGuard],?_,rfl⟩
       simp [binOp,Op.intDiv,hp]; done)
def jaV (op:BinOp) (k:IntKind) (a b:Int):Option (Value × List PC) :=
  match op with
  | .shl=>some (.int k (k.wrap (a*2 ^ min b.toNat k.bits)),[.nlt b 0])
  | .shr=>some (.int k (a.fdiv (2 ^ min b.toNat k.bits)),[.nlt b 0])
  | _=>none
theorem jdF {P:Program} {op:BinOp} {k k':IntKind} {a b:Int} {t:TypeId} {v:Value} {ps:List PC} (h:jaV op k a b=some (v,ps)) (hp:AllP ps) (w:World) (x y:Operand) :
    (eqGuard op t x y (.int k a) (.int k' b)).run P w=.ok () w∧(binOp op t (.int k a) (.int k' b)).run P w=.ok v w∧Zn v=true:=by
  cases op <;> simp only [jaV] at h <;> first | (simp at h; done) | skip
  all_goals
    simp only [Option.some.injEq,Prod.mk.injEq] at h
    obtain ⟨rfl,rfl⟩:=h
    simp only [AllP,PC.holds,and_true] at hp
    refine ⟨by simp [eqGuard],?_,rfl⟩
    simp only [binOp,Op.shift,if_neg hp]
    rfl
def jcX:BinOp→Option Bool
  | .eql=>some true
  | .neq=>some false
  | _=>none
def jet:TypeDesc→Bool
  | .struct _=>true
  | .array _ _=>true
  | _=>false
theorem ql {P:Program} {t:TypeId} {d:TypeDesc} (h:P.underlying t=some d) (w:World):(isAgg t).run P w=.ok (jet d) w:=by
  unfold isAgg
  simp only [Sem.run_bind,run_underlying h,Result.andThen_ok]
  cases d <;> rfl
theorem jY {P:Program} {t:TypeId} {i:TypeInfo} (h:P.info? t=some i) (w:World):(sizeOf t).run P w=.ok i.size w:=by
  simp [sizeOf,typeInfo,h]
def jaL (P:Program) (t:TypeId) (cs:Array Value) (off:Nat):Option Value :=
  match P.underlying t,P.info? t with
  | some d,some i=>if jet d then some (.agg (cs.extract off (off+i.size))) else cs[off]?
  | _,_=>none
theorem zb {P:Program} {t:TypeId} {cs:Array Value} {off:Nat} {v:Value} (h:jaL P t cs off=some v) (w:World):(part t cs off).run P w=.ok v w:=by
  unfold jaL at h
  split at h
  · rename_i d i h1 h2
    simp only [part,Sem.run_bind,ql h1,Result.andThen_ok,Sem.run_ite,jY h2,Sem.run_pure]
    split at h
    · rename_i ha
      simp at h; subst h
      simp [ha]
    · rename_i ha
      simp [ha,h]
  · simp at h
def jgQ (P:Program) (rc:TypeId→Value→Value→Option Bool) (xs ys:Array Value):List Field→Option Bool
  | []=>some true
  | f :: fs =>
    if f.name ≠ "_" then
      match jaL P f.type xs f.offset,jaL P f.type ys f.offset with
      | some a,some b=>match rc f.type a b,jgQ P rc xs ys fs with
        | some r,some r'=>some (r&&r')
        | _,_=>none
      | _,_=>none
    else jgQ P rc xs ys fs
def jkM (P:Program) (rc:TypeId→Value→Value→Option Bool) (e:TypeId) (n:Nat) (xs ys:Array Value):List Nat→Option Bool
  | []=>some true
  | i :: is =>
    match jaL P e xs (i*n),jaL P e ys (i*n) with
    | some a,some b=>match rc e a b,jkM P rc e n xs ys is with
      | some r,some r'=>some (r&&r')
      | _,_=>none
    | _,_=>none
def eqD (P:Program):Nat→TypeId→Value→Value→Option Bool
  | 0,_,_,_=>none
  | d+1,t,x,y =>
    match P.underlying t,x,y with
    | some .bool,.bool a,.bool b=>some (a==b)
    | some (.int _),.int k a,.int k' b=>if k=k' then some (a==b) else none
    | some .string,.string a,.string b=>some (a==b)
    | some (.float _),.float k a,.float k' b=>if k=k' then some (Op.floatEq k a b) else none
    | some (.struct fs),.agg xs,.agg ys=>if P.stoodInHeld t then none else jgQ P (eqD P d) xs ys fs.toList
    | some (.array len e),.agg xs,.agg ys=>match P.info? e with
      | some i=>jkM P (eqD P d) e i.size xs ys (List.range' 0 len)
      | none=>none
    | _,_,_=>none
theorem qP {P:Program} {d:Nat} (ih:∀ t x y b,eqD P d t x y=some b→∀ w,(Op.equalIn d t x y).run P w=.ok b w) (xs ys:Array Value) :
    ∀ (fs:List Field) (b:Bool),jgQ P (eqD P d) xs ys fs=some b→∀ w,(Op.eqFields d xs ys fs).run P w=.ok b w
  | [],b,h,w=>by simp [jgQ] at h; subst h; rfl
  | f :: fs,b,h,w=>by
    simp only [jgQ] at h
    simp only [Op.eqFields]
    split at h
    · rename_i hf
      rw [if_pos hf]
      split at h
      · rename_i a b' ha hb'
        split at h
        · rename_i r r' hr hr'
          simp at h; subst h
          simp only [Sem.run_bind,zb ha,zb hb',Result.andThen_ok,ih _ _ _ _ hr,Sem.run_ite]
          cases r
          · simp
          · simpa using qP ih xs ys fs r' hr' w
        · simp at h
      · simp at h
    · rename_i hf
      rw [if_neg hf]
      exact qP ih xs ys fs b h w
theorem G7 {P:Program} {d:Nat} (ih:∀ t x y b,eqD P d t x y=some b→∀ w,(Op.equalIn d t x y).run P w=.ok b w) (e:TypeId) (n:Nat) (xs ys:Array Value) :
    ∀ (is:List Nat) (b:Bool),jkM P (eqD P d) e n xs ys is=some b→∀ w,
      ∃ r:Option Bool × Unit,(forIn (m:=Sem) is ((none,()):Option Bool × Unit) fun i _=>do
        let a ← part e xs (i*n)
        let b ← part e ys (i*n)
        let r ← Op.equalIn d e a b
        if (!r)=true then pure (ForInStep.done (some false,())) else pure (ForInStep.yield (none,()))).run P w=.ok r w∧r.fst=(if b then none else some false)
  | [],b,h,w=>by simp [jkM] at h; subst h; exact ⟨_,rfl,rfl⟩
  | i :: is,b,h,w=>by
    simp only [jkM] at h
    split at h
    · rename_i a b' ha hb'
      split at h
      · rename_i r r' hr hr'
        simp at h; subst h
        simp only [List.forIn_cons,Sem.run_bind,zb ha,zb hb',Result.andThen_ok,ih _ _ _ _ hr,Sem.run_ite]
        cases r
        · exact ⟨(some false,()),by simp,rfl⟩
        · simpa using G7 ih e n xs ys is r' hr' w
      · simp at h
    · simp at h
theorem je7 {P:Program}:∀ (d:Nat) (t:TypeId) (x y:Value) (b:Bool),eqD P d t x y=some b→∀ w,(Op.equalIn d t x y).run P w=.ok b w
  | 0,_,_,_,_,h,_=>by simp [eqD] at h
  | d+1,t,x,y,b,h,w=>by
    have ih:=je7 (P:=P) d
    simp only [eqD] at h
    split at h
    · rename_i h1; simp at h; subst h; simp [Op.equalIn,run_underlying h1]
    · rename_i k0 k a k' b' h1
      split at h
      · rename_i hk; simp at h; subst h; subst hk; simp [Op.equalIn,run_underlying h1]
      · simp at h
    · rename_i h1; simp at h; subst h; simp [Op.equalIn,run_underlying h1]
    · rename_i k0 k a k' b' h1
      split at h
      · rename_i hk; simp at h; subst h; subst hk; simp [Op.equalIn,run_underlying h1]
      · simp at h
    · rename_i fs xs ys h1
      split at h
      · simp at h
      · rename_i hs
        have hf:P.fieldsOf t=fs:=by simp [Program.fieldsOf,h1]
        rw [run_equalIn_struct w d t xs ys (by rw [hf]; exact h1) (by simpa using hs),hf]
        exact qP ih xs ys _ b h w
    · rename_i len e xs ys h1
      split at h
      · rename_i i h2
        obtain ⟨r,hr,hb⟩:=G7 ih e i.size xs ys _ b h w
        simp only [Op.equalIn,Sem.run_bind,run_underlying h1,Result.andThen_ok,sizeOf,typeInfo,run_program,h2,Sem.run_pure]
        rw [Std.Legacy.Range.forIn_eq_forIn_range']
        have hrange:List.range' ([:len]:Std.Legacy.Range).start ([:len]:Std.Legacy.Range).size ([:len]:Std.Legacy.Range).step=List.range' 0 len:=by
          simp [Std.Legacy.Range.size]
        rw [hrange,hr]
        simp only [Result.andThen_ok,hb]
        cases b <;> rfl
      · simp at h
    · simp at h
end Go.Kv
