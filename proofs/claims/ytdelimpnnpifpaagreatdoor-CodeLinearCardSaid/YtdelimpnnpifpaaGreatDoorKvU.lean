import Derived.Test.YtdelimpnnpifpaaGreatDoorKvT
set_option linter.all false
namespace Go.Kv
open Go Go.RowKit
def jqc (P:Program) (f:Nat):Code:=match P.funcs[f]? with
 | some fn=>fn.body.getD .skip
 | none=>.skip
def GE:List Nat→Code→Code
 | [],c=>c
 | 0 :: p,.seq a _=>GE p a
 | _ :: p,.seq _ b=>GE p b
 | 0 :: p,.cond _ a _=>GE p a
 | _ :: p,.cond _ _ b=>GE p b
 | _ :: p,.block _ b=>GE p b
 | _ :: p,.loop b=>GE p b
 | _ :: p,.scope b=>GE p b
 | 0 :: p,.rangeFunc _ _ a _=>GE p a
 | _ :: p,.rangeFunc _ _ _ b=>GE p b
 | _,c=>c
def cd (P:Program) (f:Nat) (p:List Nat):Code:=GE p (jqc P f)
def jwE:Code→Array Oper
 | .region _ ops _=>ops
 | _=>#[]
def ZD (P:Program) (f:Nat) (p:List Nat):Array Oper:=jwE (cd P f p)
def dI:DV→Int
 | .v (.int _ n)=>n
 | _=>0
def dF:DV→Nat
 | .v (.float _ n)=>n
 | _=>0
def dN:DV→Nat
 | .sl n _=>n
 | _=>0
def dL:DV→List DV
 | .sl _ xs=>xs
 | _=>[]
def cel (xs:List DV) (i:Nat):DV:=xs.getD i (.v .nilIface)
def JY (xs:List AV) (i:Nat):DV:=aD (xs.getD i .any)
end Go.Kv
namespace Go.Kv
open Go Go.RowKit
def Zv (cs:List AV) (n sz:Nat):List DV:=(cs.take (n*sz)).map aD
def Dec.ag:Dec→List AV
 | .call a _=>a
 | _=>[]
def Dec.rs:Dec→AV
 | .call _ r=>r
 | _=>.any
end Go.Kv
