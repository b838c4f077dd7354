/- Places in the code; typed cells. -/
import Derived.Test.YtdelimpnnpifpaaGreatDoorKvT
set_option linter.all false
namespace Go.Kv
open Go Go.RowKit

def bodyOf (P : Program) (f : Nat) : Code := match P.funcs[f]? with
  | some fn => fn.body.getD .skip
  | none => .skip
def subC : List Nat → Code → Code
  | [], c => c
  | 0 :: p, .seq a _ => subC p a
  | _ :: p, .seq _ b => subC p b
  | 0 :: p, .cond _ a _ => subC p a
  | _ :: p, .cond _ _ b => subC p b
  | _ :: p, .block _ b => subC p b
  | _ :: p, .loop b => subC p b
  | _ :: p, .scope b => subC p b
  | 0 :: p, .rangeFunc _ _ a _ => subC p a
  | _ :: p, .rangeFunc _ _ _ b => subC p b
  | _, c => c
/-- The code at a place of a function. -/
def cd (P : Program) (f : Nat) (p : List Nat) : Code := subC p (bodyOf P f)
def opsC : Code → Array Oper
  | .region _ ops _ => ops
  | _ => #[]
/-- The operations of the region at a place of a function. -/
def opsAt (P : Program) (f : Nat) (p : List Nat) : Array Oper := opsC (cd P f p)

def dI : DV → Int
  | .v (.int _ n) => n
  | _ => 0
/-- The greatest integer that is no greater. -/
def floorV (x : Nat) : Nat := FloatKind.f64.encode ((FloatKind.f64.decode x).integral .down)
def dF : DV → Nat
  | .v (.float _ n) => n
  | _ => 0
def dB : DV → Bool
  | .v (.bool b) => b
  | _ => false
def dS : DV → ByteArray
  | .v (.string s) => s
  | _ => ByteArray.empty
def dN : DV → Nat
  | .sl n _ => n
  | _ => 0
def dL : DV → List DV
  | .sl _ xs => xs
  | _ => []
def cel (xs : List DV) (i : Nat) : DV := xs.getD i (.v .nilIface)
def celA (xs : List AV) (i : Nat) : DV := aD (xs.getD i .any)

end Go.Kv
namespace Go.Kv
open Go Go.RowKit
def inpXs (cs : List AV) (n sz : Nat) : List DV := (cs.take (n * sz)).map aD
def blkAt (H : List ABlk) (b : Nat) : ABlk := (H[b]?).getD .gone
def getOf (H : List ABlk) : Nat → ABlk := fun b => (H[b]?).getD .gone
def dstOf (ops : Array Oper) (j : Nat) : Option Tmp := (ops[j]?).bind (·.dst)
def tmpOf (ts : List AV) (d : Option Tmp) : AV := match d with
  | some t => ts.getD t .any
  | none => .any
def allOf (fs : List AV) (ev : Operand → AV) (args : List Operand) (cs : List AV) : List AV := fs ++ evs ev args ++ cs
def extA (cf : Cfg) (g : Nat) (all : List AV) : Option Value := match avVals all with
  | some xs => match pureRun cf.P (callFunc g xs.toArray) with
    | some (.value v) => some v
    | _ => none
  | none => none
def appCount (ev : Operand → AV) : Op → Nat
  | .call { callee := .builtin .append, args, .. } => match args.toList with
    | [_, x] => match srcA (ev x) with
      | .row m _ => m
      | _ => 0
    | _ => 0
  | _ => 0
def opAt (ops : Array Oper) (i : Nat) : Option Oper := ops[i]?
def growH (H : List ABlk) (n : Nat) : List ABlk := H ++ List.replicate n .gone
def segOne (cf : Cfg) (ops : Array Oper) (i : Nat) (T : List AV) (H : List ABlk) (nm : Nat) (ds : List Dec) : Option (List AV × List ABlk) :=
  match ops[i]? with
  | none => none
  | some o => match decsOf o (guardV ops o T) ds with
    | (gd, dc, _) => match exec1 cf ops o (fun t => T[t]?) (fun b => (H[b]?).getD .gone) nm gd dc with
      | some e => some (setT T o.dst e.val, applyWr H e.wr)
      | none => none
def showOp (o : Oper) : Op := o.op
def hasBody (P : Program) (g : Nat) : Nat := match canEnter P g with
  | some _ => 1
  | none => 0
def Dec.ag : Dec → List AV
  | .call a _ => a
  | _ => []
def Dec.rs : Dec → AV
  | .call _ r => r
  | _ => .any
/-- What is asked of a call's decision: its arguments are these; its contract holds. -/
def askA (d : Dec) : PC := .prop (d.ag = d.ag)
def askC (cf : Cfg) (g : Nat) (d : Dec) : PC := .prop (PureCalls cf.P cf.glob g d.ag d.rs)
end Go.Kv
