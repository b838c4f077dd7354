import Derived.Test.YtfdjkfmiofgclaaGreatDoorGAa
namespace Go.Kv
set_option linter.all false
noncomputable section
open Go Go.RowKit Go.Proofs
set_option maxRecDepth 100000
abbrev bt : Dec := .br true
abbrev bf : Dec := .br false
inductive S11 where
 | c0 (x0 : Nat) (x1 : List DV) (x2 : Nat) (x3 : List DV)
 | c1 (x0 : Nat) (x1 : List DV) (x2 x3 : Nat) (x4 : List DV) (x5 : Nat) (x6 : List DV) (x7 x8 : Int) (x9 : Nat) (xa : List DV)
 | c2 (x0 : Nat) (x1 : List DV) (x2 x3 : Nat) (x4 : List DV) (x5 : Int) (x6 : Nat) (x7 : List DV) (x8 x9 xa xb : Int) (xc : Nat) (xd : List DV)
 | c3 (x0 : Nat) (x1 : List DV) (x2 x3 : Nat) (x4 : List DV) (x5 x6 : Nat) (x7 : List DV) (x8 : Nat) (x9 : List DV) (xa xb : Int) (xc : Nat) (xd : List DV) (xe : Int) (xf : Nat) (xg : List DV) (xh : Nat) (xi : List DV) (xj : Nat)
 | c4 (x0 : Nat) (x1 : List DV) (x2 x3 : Nat) (x4 : List DV) (x5 : Nat) (x6 : List DV) (x7 x8 : Int) (x9 : Nat) (xa : List DV) (xb : Int) (xc : Nat) (xd : List DV) (xe : Nat) (xf : List DV)
 | c5 (x0 : Nat) (x1 : List DV) (x2 x3 : Nat) (x4 : List DV) (x5 : Int) (x6 x7 : Nat) (x8 : List DV) (x9 : Nat) (xa : List DV) (xb xc xd xe : Int) (xf : Nat) (xg : List DV) (xh : Nat)
 | c6 (x0 : Nat) (x1 : List DV) (x2 x3 : Nat) (x4 : List DV) (x5 : Nat) (x6 : List DV) (x7 x8 x9 : Int) (xa : Nat) (xb : List DV) (xc : Nat) (xd : List DV) (xe : Nat) (xf : List DV) (xg : Nat)
 | c7 (x0 : Nat) (x1 : List DV) (x2 x3 : Nat) (x4 : List DV) (x5 x6 : Nat) (x7 : List DV) (x8 : Nat) (x9 : List DV) (xa xb : Int) (xc : Nat) (xd : List DV) (xe : Int) (xf : Nat) (xg : List DV) (xh : Nat) (xi : List DV) (xj : Nat)
 | c8 (x0 : Nat) (x1 : List DV) (x2 x3 : Nat) (x4 : List DV) (x5 : Nat) (x6 : List DV) (x7 x8 : Int) (x9 : Nat) (xa : List DV) (xb : Int) (xc : Nat) (xd : List DV) (xe : Nat) (xf : List DV)
 | c9 (x0 : Nat) (x1 : List DV) (x2 x3 : Nat) (x4 : List DV) (x5 : Nat) (x6 : List DV) (x7 x8 x9 : Int) (xa : Nat) (xb : List DV) (xc : Nat) (xd : List DV) (xe : Nat) (xf : List DV) (xg : Nat)
 | c10 (x0 : Nat) (x1 : List DV) (x2 x3 : Nat) (x4 : List DV) (x5 x6 : Nat) (x7 : List DV) (x8 : Nat) (x9 : List DV) (xa xb : Int) (xc : Nat) (xd : List DV) (xe : Int) (xf : Nat) (xg : List DV) (xh : Nat) (xi : List DV) (xj : Nat)
 | c11 (x0 : Nat) (x1 : List DV) (x2 x3 : Nat) (x4 : List DV) (x5 : Nat) (x6 : List DV) (x7 x8 : Int) (x9 : Nat) (xa : List DV) (xb : Int) (xc : Nat) (xd : List DV) (xe : Nat) (xf : List DV)
 | c12 (x0 : Nat) (x1 : List DV) (x2 x3 : Nat) (x4 : List DV) (x5 : Int) (x6 : Nat) (x7 : List DV) (x8 x9 xa xb xc : Int) (xd : Nat) (xe : List DV) (xf : Nat) (xg : List DV) (xh : Nat) (xi : List DV) (xj : Nat)
 | c13 (x0 : Nat) (x1 : List DV) (x2 x3 : Nat) (x4 : List DV) (x5 x6 : Nat) (x7 : List DV) (x8 : Nat) (x9 : List DV) (xa xb xc : Int) (xd : Nat) (xe : List DV) (xf : Nat) (xg : List DV) (xh : Int) (xi : Nat) (xj : List DV) (xk : Nat) (xl : List DV) (xm xn : Nat)
 | c14 (x0 : Nat) (x1 : List DV) (x2 x3 : Nat) (x4 : List DV) (x5 : Nat) (x6 : List DV) (x7 x8 x9 : Int) (xa : Nat) (xb : List DV) (xc : Nat) (xd : List DV) (xe : Int) (xf : Nat) (xg : List DV) (xh : Nat) (xi : List DV) (xj : Nat)
 | c15 (x0 : Nat) (x1 : List DV) (x2 x3 : Nat) (x4 : List DV) (x5 x6 : Nat) (x7 : List DV) (x8 : Int) (x9 : Nat) (xa : List DV) (xb xc xd xe : Int) (xf : Nat) (xg : List DV) (xh : Int) (xi : Nat) (xj : List DV) (xk : Nat) (xl : List DV) (xm : Nat)
 | c16 (x0 : Nat) (x1 : List DV) (x2 x3 : Nat) (x4 : List DV) (x5 : Int) (x6 : Nat) (x7 : List DV) (x8 x9 xa xb : Int) (xc : Nat) (xd : List DV) (xe : Int) (xf : Nat) (xg : List DV) (xh : Nat) (xi : List DV)
 | c17 (x0 : Nat) (x1 : List DV) (x2 x3 : Nat) (x4 : List DV) (x5 : Int) (x6 x7 : Nat) (x8 : List DV) (x9 : Nat) (xa : List DV) (xb xc xd xe xf : Int) (xg : Nat) (xh : List DV) (xi : Nat) (xj : List DV) (xk : Nat) (xl : List DV) (xm xn : Nat)
 | c18 (x0 : Nat) (x1 : List DV) (x2 x3 : Nat) (x4 : List DV) (x5 x6 : Nat) (x7 : List DV) (x8 : Nat) (x9 : List DV) (xa xb xc : Int) (xd : Nat) (xe : List DV) (xf : Nat) (xg : List DV) (xh : Int) (xi : Nat) (xj : List DV) (xk : Nat) (xl : List DV) (xm xn : Nat)
 | c19 (x0 : Nat) (x1 : List DV) (x2 x3 : Nat) (x4 : List DV) (x5 : Nat) (x6 : List DV) (x7 x8 x9 : Int) (xa : Nat) (xb : List DV) (xc : Nat) (xd : List DV) (xe : Int) (xf : Nat) (xg : List DV) (xh : Nat) (xi : List DV) (xj : Nat)
 | c20 (x0 : Nat) (x1 : List DV) (x2 x3 : Nat) (x4 : List DV) (x5 x6 : Nat) (x7 : List DV) (x8 : Int) (x9 xa : Nat) (xb : List DV) (xc : Nat) (xd : List DV) (xe xf xg xh : Int) (xi : Nat) (xj : List DV) (xk : Int) (xl : Nat) (xm : List DV) (xn : Nat) (xo : List DV) (xp xq : Nat)
 | c21 (x0 : Nat) (x1 : List DV) (x2 x3 : Nat) (x4 : List DV) (x5 : Int) (x6 x7 : Nat) (x8 : List DV) (x9 : Nat) (xa : List DV) (xb xc xd xe : Int) (xf : Nat) (xg : List DV) (xh : Int) (xi : Nat) (xj : List DV) (xk : Nat) (xl : List DV) (xm : Nat)
 | c22 (x0 : Nat) (x1 : List DV) (x2 x3 : Nat) (x4 : List DV) (x5 x6 : Nat) (x7 : List DV) (x8 : Nat) (x9 : List DV) (xa xb xc : Int) (xd : Nat) (xe : List DV) (xf : Nat) (xg : List DV) (xh : Int) (xi : Nat) (xj : List DV) (xk : Nat) (xl : List DV) (xm xn : Nat)
 | c23 (x0 : Nat) (x1 : List DV) (x2 x3 : Nat) (x4 : List DV) (x5 : Nat) (x6 : List DV) (x7 x8 x9 : Int) (xa : Nat) (xb : List DV) (xc : Nat) (xd : List DV) (xe : Int) (xf : Nat) (xg : List DV) (xh : Nat) (xi : List DV) (xj : Nat)
 | c24 (x0 : Nat) (x1 : List DV) (x2 x3 : Nat) (x4 : List DV) (x5 x6 : Nat) (x7 : List DV) (x8 : Int) (x9 : Nat) (xa : List DV) (xb xc xd xe xf : Int) (xg : Nat) (xh : List DV) (xi : Nat) (xj : List DV) (xk : Int) (xl : Nat) (xm : List DV) (xn : Nat) (xo : List DV) (xp xq : Nat)
 | c25 (x0 : Nat) (x1 : List DV) (x2 x3 : Nat) (x4 : List DV) (x5 : Int) (x6 : Nat) (x7 : List DV) (x8 x9 xa xb xc : Int) (xd : Nat) (xe : List DV) (xf : Nat) (xg : List DV) (xh : Int) (xi : Nat) (xj : List DV) (xk : Nat) (xl : List DV) (xm : Nat)
 | c26 (x0 : Nat) (x1 : List DV) (x2 x3 : Nat) (x4 : List DV) (x5 x6 : Nat) (x7 : List DV) (x8 : Int) (x9 xa : Nat) (xb : List DV) (xc : Nat) (xd : List DV) (xe xf xg xh xi : Int) (xj : Nat) (xk : List DV) (xl : Nat) (xm : List DV) (xn : Int) (xo : Nat) (xp : List DV) (xq : Nat) (xr : List DV) (xs xt xu : Nat)
 | c27 (x0 : Nat) (x1 : List DV) (x2 x3 : Nat) (x4 : List DV) (x5 : Int) (x6 x7 : Nat) (x8 : List DV) (x9 : Nat) (xa : List DV) (xb xc xd xe xf : Int) (xg : Nat) (xh : List DV) (xi : Nat) (xj : List DV) (xk : Int) (xl : Nat) (xm : List DV) (xn : Nat) (xo : List DV) (xp xq : Nat)
def out11 (v : Bool) : AV := (.d (.v (.bool v)))
def st11 : S11 → ASt
 | .c0 x0 x1 x2 x3 => ent cfz 11 [(.d (.sl x0 x1)), (.d (.sl x2 x3))]
 | .c1 x0 x1 x2 x3 x4 x5 x6 x7 x8 x9 xa => ⟨⟨11, sp 326 0 [(0, (.d (.sl x0 x1))), (5, (.ptr 0 0)), (6, (.ptr 1 0)), (7, (.own 2 x2 1 x3 x4)), (8, (.d (.v (.slice .none 0 0)))), (56, (.d (.sl x5 x6))), (57, (aI x7)), (58, (aI x8))], [(.code (cd cfz.P 11 [1, 1, 1, 1, 1, 0, 1, 0, 0])), (.inLoop (cd cfz.P 11 [1, 1, 1, 1, 1, 0, 1, 0, 0])), (.inBlock 0), (.code (cd cfz.P 11 [1, 1, 1, 1, 1, 1]))], [], false, .none⟩, [], [(.cells [(aI 0), (.d (.sl x9 xa)), (.d (.v (.slice .none 0 0)))] 85), (.cells [(aI 0), (.d (.sl x9 xa)), (.d (.v (.slice .none 0 0)))] 100), (.tail 0)]⟩
 | .c2 x0 x1 x2 x3 x4 x5 x6 x7 x8 x9 xa xb xc xd => ⟨⟨11, sp 326 0 [(0, (.d (.sl x0 x1))), (5, (.ptr 0 0)), (6, (.ptr 1 0)), (7, (.own 2 x2 1 x3 x4)), (8, (.d (.v (.slice .none 0 0)))), (11, (aI x5)), (12, (.d (.v (.slice .none 0 0)))), (56, (.d (.sl x6 x7))), (57, (aI x8)), (58, (aI x9)), (103, (aI xa)), (104, (aI xb))], [(.code (cd cfz.P 11 [1, 1, 1, 1, 1, 0, 1, 0, 0, 1, 1, 0, 0, 1, 1, 0, 1, 0, 1, 0, 1, 0, 1, 0, 0])), (.inLoop (cd cfz.P 11 [1, 1, 1, 1, 1, 0, 1, 0, 0, 1, 1, 0, 0, 1, 1, 0, 1, 0, 1, 0, 1, 0, 1, 0, 0])), (.inBlock 3), (.code (cd cfz.P 11 [1, 1, 1, 1, 1, 0, 1, 0, 0, 1, 1, 0, 0, 1, 1, 0, 1, 0, 1, 0, 1, 1])), (.inBlock 2), (.code (cd cfz.P 11 [1, 1, 1, 1, 1, 0, 1, 0, 0, 1, 1, 0, 0, 1, 1, 1])), (.inBlock 1), (.code (cd cfz.P 11 [1, 1, 1, 1, 1, 0, 1, 0, 0, 1, 1, 1])), (.inLoop (cd cfz.P 11 [1, 1, 1, 1, 1, 0, 1, 0, 0])), (.inBlock 0), (.code (cd cfz.P 11 [1, 1, 1, 1, 1, 1]))], [], false, .none⟩, [], [(.cells [(aI 0), (.d (.sl xc xd)), (.d (.v (.slice .none 0 0)))] 85), (.cells [(aI 0), (.d (.sl xc xd)), (.d (.v (.slice .none 0 0)))] 100), (.tail 0)]⟩
 | .c3 x0 x1 x2 x3 x4 x5 x6 x7 x8 x9 xa xb xc xd xe xf xg xh xi xj => ⟨⟨11, sp 326 0 [(0, (.d (.sl x0 x1))), (5, (.ptr 0 0)), (6, (.ptr 1 0)), (7, (.own 2 x2 1 x3 x4)), (8, (.own 3 x5 1 x6 x7)), (56, (.d (.sl x8 x9))), (57, (aI xa)), (58, (aI xb))], [(.inBlock 2), (.code (cd cfz.P 11 [1, 1, 1, 1, 1, 0, 1, 0, 0, 1, 1, 0, 0, 1, 1, 1])), (.inBlock 1), (.code (cd cfz.P 11 [1, 1, 1, 1, 1, 0, 1, 0, 0, 1, 1, 1])), (.inLoop (cd cfz.P 11 [1, 1, 1, 1, 1, 0, 1, 0, 0])), (.inBlock 0), (.code (cd cfz.P 11 [1, 1, 1, 1, 1, 1]))], [], false, .none⟩, [], [(.cells [(aI 0), (.d (.sl xc xd)), (.d (.v (.slice .none 0 0)))] 85), (.cells [(aI xe), (.d (.sl xf xg)), (.d (.sl xh xi))] 100), (.tail 0), (.tail xj)]⟩
 | .c4 x0 x1 x2 x3 x4 x5 x6 x7 x8 x9 xa xb xc xd xe xf => ⟨⟨11, sp 326 0 [(0, (.d (.sl x0 x1))), (5, (.ptr 0 0)), (6, (.ptr 1 0)), (7, (.own 2 x2 1 x3 x4)), (8, (.d (.v (.slice .none 0 0)))), (56, (.d (.sl x5 x6))), (57, (aI x7)), (58, (aI x8))], [(.inBlock 2), (.code (cd cfz.P 11 [1, 1, 1, 1, 1, 0, 1, 0, 0, 1, 1, 0, 0, 1, 1, 1])), (.inBlock 1), (.code (cd cfz.P 11 [1, 1, 1, 1, 1, 0, 1, 0, 0, 1, 1, 1])), (.inLoop (cd cfz.P 11 [1, 1, 1, 1, 1, 0, 1, 0, 0])), (.inBlock 0), (.code (cd cfz.P 11 [1, 1, 1, 1, 1, 1]))], [], false, .none⟩, [], [(.cells [(aI 0), (.d (.sl x9 xa)), (.d (.v (.slice .none 0 0)))] 85), (.cells [(aI xb), (.d (.sl xc xd)), (.d (.sl xe xf))] 100), (.tail 0)]⟩
 | .c5 x0 x1 x2 x3 x4 x5 x6 x7 x8 x9 xa xb xc xd xe xf xg xh => ⟨⟨11, sp 326 0 [(0, (.d (.sl x0 x1))), (5, (.ptr 0 0)), (6, (.ptr 1 0)), (7, (.own 2 x2 1 x3 x4)), (8, (.d (.v (.slice .none 0 0)))), (11, (aI x5)), (12, (.own 3 x6 1 x7 x8)), (56, (.d (.sl x9 xa))), (57, (aI xb)), (58, (aI xc)), (103, (aI xd)), (104, (aI xe))], [(.code (cd cfz.P 11 [1, 1, 1, 1, 1, 0, 1, 0, 0, 1, 1, 0, 0, 1, 1, 0, 1, 0, 1, 0, 1, 0, 1, 0, 0])), (.inLoop (cd cfz.P 11 [1, 1, 1, 1, 1, 0, 1, 0, 0, 1, 1, 0, 0, 1, 1, 0, 1, 0, 1, 0, 1, 0, 1, 0, 0])), (.inBlock 3), (.code (cd cfz.P 11 [1, 1, 1, 1, 1, 0, 1, 0, 0, 1, 1, 0, 0, 1, 1, 0, 1, 0, 1, 0, 1, 1])), (.inBlock 2), (.code (cd cfz.P 11 [1, 1, 1, 1, 1, 0, 1, 0, 0, 1, 1, 0, 0, 1, 1, 1])), (.inBlock 1), (.code (cd cfz.P 11 [1, 1, 1, 1, 1, 0, 1, 0, 0, 1, 1, 1])), (.inLoop (cd cfz.P 11 [1, 1, 1, 1, 1, 0, 1, 0, 0])), (.inBlock 0), (.code (cd cfz.P 11 [1, 1, 1, 1, 1, 1]))], [], false, .none⟩, [], [(.cells [(aI 0), (.d (.sl xf xg)), (.d (.v (.slice .none 0 0)))] 85), (.cells [(aI 0), (.d (.sl xf xg)), (.d (.v (.slice .none 0 0)))] 100), (.tail 0), (.tail xh)]⟩
 | .c6 x0 x1 x2 x3 x4 x5 x6 x7 x8 x9 xa xb xc xd xe xf xg => ⟨⟨11, sp 326 0 [(0, (.d (.sl x0 x1))), (5, (.ptr 0 0)), (6, (.ptr 1 0)), (7, (.own 2 x2 1 x3 x4)), (8, (.d (.v (.slice .none 0 0)))), (56, (.d (.sl x5 x6))), (57, (aI x7)), (58, (aI x8))], [(.code (cd cfz.P 11 [1, 1, 1, 1, 1, 0, 1, 0, 0, 1, 1, 0, 0, 1, 1, 1, 0])), (.code (cd cfz.P 11 [1, 1, 1, 1, 1, 0, 1, 0, 0, 1, 1, 0, 0, 1, 1, 1, 1])), (.inBlock 1), (.code (cd cfz.P 11 [1, 1, 1, 1, 1, 0, 1, 0, 0, 1, 1, 1])), (.inLoop (cd cfz.P 11 [1, 1, 1, 1, 1, 0, 1, 0, 0])), (.inBlock 0), (.code (cd cfz.P 11 [1, 1, 1, 1, 1, 1]))], [], false, .none⟩, [], [(.cells [(aI x9), (.d (.sl xa xb)), (.d (.sl xc xd))] 85), (.cells [(aI 0), (.d (.sl xe xf)), (.d (.v (.slice .none 0 0)))] 100), (.tail xg)]⟩
 | .c7 x0 x1 x2 x3 x4 x5 x6 x7 x8 x9 xa xb xc xd xe xf xg xh xi xj => ⟨⟨11, sp 326 0 [(0, (.d (.sl x0 x1))), (5, (.ptr 0 0)), (6, (.ptr 1 0)), (7, (.own 2 x2 1 x3 x4)), (8, (.own 3 x5 1 x6 x7)), (56, (.d (.sl x8 x9))), (57, (aI xa)), (58, (aI xb))], [(.code (cd cfz.P 11 [1, 1, 1, 1, 1, 0, 1, 0, 0, 1, 1, 0, 0, 1, 1, 1, 0])), (.code (cd cfz.P 11 [1, 1, 1, 1, 1, 0, 1, 0, 0, 1, 1, 0, 0, 1, 1, 1, 1])), (.inBlock 1), (.code (cd cfz.P 11 [1, 1, 1, 1, 1, 0, 1, 0, 0, 1, 1, 1])), (.inLoop (cd cfz.P 11 [1, 1, 1, 1, 1, 0, 1, 0, 0])), (.inBlock 0), (.code (cd cfz.P 11 [1, 1, 1, 1, 1, 1]))], [], false, .none⟩, [], [(.cells [(aI 0), (.d (.sl xc xd)), (.d (.v (.slice .none 0 0)))] 85), (.cells [(aI xe), (.d (.sl xf xg)), (.d (.sl xh xi))] 100), (.tail 0), (.tail xj)]⟩
 | .c8 x0 x1 x2 x3 x4 x5 x6 x7 x8 x9 xa xb xc xd xe xf => ⟨⟨11, sp 326 0 [(0, (.d (.sl x0 x1))), (5, (.ptr 0 0)), (6, (.ptr 1 0)), (7, (.own 2 x2 1 x3 x4)), (8, (.d (.v (.slice .none 0 0)))), (56, (.d (.sl x5 x6))), (57, (aI x7)), (58, (aI x8))], [(.code (cd cfz.P 11 [1, 1, 1, 1, 1, 0, 1, 0, 0, 1, 1, 0, 0, 1, 1, 1, 0])), (.code (cd cfz.P 11 [1, 1, 1, 1, 1, 0, 1, 0, 0, 1, 1, 0, 0, 1, 1, 1, 1])), (.inBlock 1), (.code (cd cfz.P 11 [1, 1, 1, 1, 1, 0, 1, 0, 0, 1, 1, 1])), (.inLoop (cd cfz.P 11 [1, 1, 1, 1, 1, 0, 1, 0, 0])), (.inBlock 0), (.code (cd cfz.P 11 [1, 1, 1, 1, 1, 1]))], [], false, .none⟩, [], [(.cells [(aI 0), (.d (.sl x9 xa)), (.d (.v (.slice .none 0 0)))] 85), (.cells [(aI xb), (.d (.sl xc xd)), (.d (.sl xe xf))] 100), (.tail 0)]⟩
 | .c9 x0 x1 x2 x3 x4 x5 x6 x7 x8 x9 xa xb xc xd xe xf xg => ⟨⟨11, sp 326 0 [(0, (.d (.sl x0 x1))), (5, (.ptr 0 0)), (6, (.ptr 1 0)), (7, (.own 2 x2 1 x3 x4)), (8, (.d (.v (.slice .none 0 0)))), (56, (.d (.sl x5 x6))), (57, (aI x7)), (58, (aI x8))], [(.code (cd cfz.P 11 [1, 1, 1, 1, 1, 0, 1, 0, 0])), (.inLoop (cd cfz.P 11 [1, 1, 1, 1, 1, 0, 1, 0, 0])), (.inBlock 0), (.code (cd cfz.P 11 [1, 1, 1, 1, 1, 1]))], [], false, .none⟩, [], [(.cells [(aI x9), (.d (.sl xa xb)), (.d (.sl xc xd))] 85), (.cells [(aI 0), (.d (.sl xe xf)), (.d (.v (.slice .none 0 0)))] 100), (.tail xg)]⟩
 | .c10 x0 x1 x2 x3 x4 x5 x6 x7 x8 x9 xa xb xc xd xe xf xg xh xi xj => ⟨⟨11, sp 326 0 [(0, (.d (.sl x0 x1))), (5, (.ptr 0 0)), (6, (.ptr 1 0)), (7, (.own 2 x2 1 x3 x4)), (8, (.own 3 x5 1 x6 x7)), (56, (.d (.sl x8 x9))), (57, (aI xa)), (58, (aI xb))], [(.code (cd cfz.P 11 [1, 1, 1, 1, 1, 0, 1, 0, 0])), (.inLoop (cd cfz.P 11 [1, 1, 1, 1, 1, 0, 1, 0, 0])), (.inBlock 0), (.code (cd cfz.P 11 [1, 1, 1, 1, 1, 1]))], [], false, .none⟩, [], [(.cells [(aI 0), (.d (.sl xc xd)), (.d (.v (.slice .none 0 0)))] 85), (.cells [(aI xe), (.d (.sl xf xg)), (.d (.sl xh xi))] 100), (.tail 0), (.tail xj)]⟩
 | .c11 x0 x1 x2 x3 x4 x5 x6 x7 x8 x9 xa xb xc xd xe xf => ⟨⟨11, sp 326 0 [(0, (.d (.sl x0 x1))), (5, (.ptr 0 0)), (6, (.ptr 1 0)), (7, (.own 2 x2 1 x3 x4)), (8, (.d (.v (.slice .none 0 0)))), (56, (.d (.sl x5 x6))), (57, (aI x7)), (58, (aI x8))], [(.code (cd cfz.P 11 [1, 1, 1, 1, 1, 0, 1, 0, 0])), (.inLoop (cd cfz.P 11 [1, 1, 1, 1, 1, 0, 1, 0, 0])), (.inBlock 0), (.code (cd cfz.P 11 [1, 1, 1, 1, 1, 1]))], [], false, .none⟩, [], [(.cells [(aI 0), (.d (.sl x9 xa)), (.d (.v (.slice .none 0 0)))] 85), (.cells [(aI xb), (.d (.sl xc xd)), (.d (.sl xe xf))] 100), (.tail 0)]⟩
 | .c12 x0 x1 x2 x3 x4 x5 x6 x7 x8 x9 xa xb xc xd xe xf xg xh xi xj => ⟨⟨11, sp 326 0 [(0, (.d (.sl x0 x1))), (5, (.ptr 0 0)), (6, (.ptr 1 0)), (7, (.own 2 x2 1 x3 x4)), (8, (.d (.v (.slice .none 0 0)))), (11, (aI x5)), (12, (.d (.v (.slice .none 0 0)))), (56, (.d (.sl x6 x7))), (57, (aI x8)), (58, (aI x9)), (103, (aI xa)), (104, (aI xb))], [(.code (cd cfz.P 11 [1, 1, 1, 1, 1, 0, 1, 0, 0, 1, 1, 0, 0, 1, 1, 0, 1, 0, 1, 0, 1, 0, 1, 0, 0])), (.inLoop (cd cfz.P 11 [1, 1, 1, 1, 1, 0, 1, 0, 0, 1, 1, 0, 0, 1, 1, 0, 1, 0, 1, 0, 1, 0, 1, 0, 0])), (.inBlock 3), (.code (cd cfz.P 11 [1, 1, 1, 1, 1, 0, 1, 0, 0, 1, 1, 0, 0, 1, 1, 0, 1, 0, 1, 0, 1, 1])), (.inBlock 2), (.code (cd cfz.P 11 [1, 1, 1, 1, 1, 0, 1, 0, 0, 1, 1, 0, 0, 1, 1, 1])), (.inBlock 1), (.code (cd cfz.P 11 [1, 1, 1, 1, 1, 0, 1, 0, 0, 1, 1, 1])), (.inLoop (cd cfz.P 11 [1, 1, 1, 1, 1, 0, 1, 0, 0])), (.inBlock 0), (.code (cd cfz.P 11 [1, 1, 1, 1, 1, 1]))], [], false, .none⟩, [], [(.cells [(aI xc), (.d (.sl xd xe)), (.d (.sl xf xg))] 85), (.cells [(aI 0), (.d (.sl xh xi)), (.d (.v (.slice .none 0 0)))] 100), (.tail xj)]⟩
 | .c13 x0 x1 x2 x3 x4 x5 x6 x7 x8 x9 xa xb xc xd xe xf xg xh xi xj xk xl xm xn => ⟨⟨11, sp 326 0 [(0, (.d (.sl x0 x1))), (5, (.ptr 0 0)), (6, (.ptr 1 0)), (7, (.own 2 x2 1 x3 x4)), (8, (.own 3 x5 1 x6 x7)), (56, (.d (.sl x8 x9))), (57, (aI xa)), (58, (aI xb))], [(.inBlock 2), (.code (cd cfz.P 11 [1, 1, 1, 1, 1, 0, 1, 0, 0, 1, 1, 0, 0, 1, 1, 1])), (.inBlock 1), (.code (cd cfz.P 11 [1, 1, 1, 1, 1, 0, 1, 0, 0, 1, 1, 1])), (.inLoop (cd cfz.P 11 [1, 1, 1, 1, 1, 0, 1, 0, 0])), (.inBlock 0), (.code (cd cfz.P 11 [1, 1, 1, 1, 1, 1]))], [], false, .none⟩, [], [(.cells [(aI xc), (.d (.sl xd xe)), (.d (.sl xf xg))] 85), (.cells [(aI xh), (.d (.sl xi xj)), (.d (.sl xk xl))] 100), (.tail xm), (.tail xn)]⟩
 | .c14 x0 x1 x2 x3 x4 x5 x6 x7 x8 x9 xa xb xc xd xe xf xg xh xi xj => ⟨⟨11, sp 326 0 [(0, (.d (.sl x0 x1))), (5, (.ptr 0 0)), (6, (.ptr 1 0)), (7, (.own 2 x2 1 x3 x4)), (8, (.d (.v (.slice .none 0 0)))), (56, (.d (.sl x5 x6))), (57, (aI x7)), (58, (aI x8))], [(.inBlock 2), (.code (cd cfz.P 11 [1, 1, 1, 1, 1, 0, 1, 0, 0, 1, 1, 0, 0, 1, 1, 1])), (.inBlock 1), (.code (cd cfz.P 11 [1, 1, 1, 1, 1, 0, 1, 0, 0, 1, 1, 1])), (.inLoop (cd cfz.P 11 [1, 1, 1, 1, 1, 0, 1, 0, 0])), (.inBlock 0), (.code (cd cfz.P 11 [1, 1, 1, 1, 1, 1]))], [], false, .none⟩, [], [(.cells [(aI x9), (.d (.sl xa xb)), (.d (.sl xc xd))] 85), (.cells [(aI xe), (.d (.sl xf xg)), (.d (.sl xh xi))] 100), (.tail xj)]⟩
 | .c15 x0 x1 x2 x3 x4 x5 x6 x7 x8 x9 xa xb xc xd xe xf xg xh xi xj xk xl xm => ⟨⟨11, sp 326 0 [(0, (.d (.sl x0 x1))), (5, (.ptr 0 0)), (6, (.ptr 1 0)), (7, (.own 2 x2 1 x3 x4)), (8, (.own 3 x5 1 x6 x7)), (11, (aI x8)), (12, (.d (.v (.slice .none 0 0)))), (56, (.d (.sl x9 xa))), (57, (aI xb)), (58, (aI xc)), (103, (aI xd)), (104, (aI xe))], [(.code (cd cfz.P 11 [1, 1, 1, 1, 1, 0, 1, 0, 0, 1, 1, 0, 0, 1, 1, 0, 1, 0, 1, 0, 1, 0, 1, 0, 0])), (.inLoop (cd cfz.P 11 [1, 1, 1, 1, 1, 0, 1, 0, 0, 1, 1, 0, 0, 1, 1, 0, 1, 0, 1, 0, 1, 0, 1, 0, 0])), (.inBlock 3), (.code (cd cfz.P 11 [1, 1, 1, 1, 1, 0, 1, 0, 0, 1, 1, 0, 0, 1, 1, 0, 1, 0, 1, 0, 1, 1])), (.inBlock 2), (.code (cd cfz.P 11 [1, 1, 1, 1, 1, 0, 1, 0, 0, 1, 1, 0, 0, 1, 1, 1])), (.inBlock 1), (.code (cd cfz.P 11 [1, 1, 1, 1, 1, 0, 1, 0, 0, 1, 1, 1])), (.inLoop (cd cfz.P 11 [1, 1, 1, 1, 1, 0, 1, 0, 0])), (.inBlock 0), (.code (cd cfz.P 11 [1, 1, 1, 1, 1, 1]))], [], false, .none⟩, [], [(.cells [(aI 0), (.d (.sl xf xg)), (.d (.v (.slice .none 0 0)))] 85), (.cells [(aI xh), (.d (.sl xi xj)), (.d (.sl xk xl))] 100), (.tail 0), (.tail xm)]⟩
 | .c16 x0 x1 x2 x3 x4 x5 x6 x7 x8 x9 xa xb xc xd xe xf xg xh xi => ⟨⟨11, sp 326 0 [(0, (.d (.sl x0 x1))), (5, (.ptr 0 0)), (6, (.ptr 1 0)), (7, (.own 2 x2 1 x3 x4)), (8, (.d (.v (.slice .none 0 0)))), (11, (aI x5)), (12, (.d (.v (.slice .none 0 0)))), (56, (.d (.sl x6 x7))), (57, (aI x8)), (58, (aI x9)), (103, (aI xa)), (104, (aI xb))], [(.code (cd cfz.P 11 [1, 1, 1, 1, 1, 0, 1, 0, 0, 1, 1, 0, 0, 1, 1, 0, 1, 0, 1, 0, 1, 0, 1, 0, 0])), (.inLoop (cd cfz.P 11 [1, 1, 1, 1, 1, 0, 1, 0, 0, 1, 1, 0, 0, 1, 1, 0, 1, 0, 1, 0, 1, 0, 1, 0, 0])), (.inBlock 3), (.code (cd cfz.P 11 [1, 1, 1, 1, 1, 0, 1, 0, 0, 1, 1, 0, 0, 1, 1, 0, 1, 0, 1, 0, 1, 1])), (.inBlock 2), (.code (cd cfz.P 11 [1, 1, 1, 1, 1, 0, 1, 0, 0, 1, 1, 0, 0, 1, 1, 1])), (.inBlock 1), (.code (cd cfz.P 11 [1, 1, 1, 1, 1, 0, 1, 0, 0, 1, 1, 1])), (.inLoop (cd cfz.P 11 [1, 1, 1, 1, 1, 0, 1, 0, 0])), (.inBlock 0), (.code (cd cfz.P 11 [1, 1, 1, 1, 1, 1]))], [], false, .none⟩, [], [(.cells [(aI 0), (.d (.sl xc xd)), (.d (.v (.slice .none 0 0)))] 85), (.cells [(aI xe), (.d (.sl xf xg)), (.d (.sl xh xi))] 100), (.tail 0)]⟩
 | .c17 x0 x1 x2 x3 x4 x5 x6 x7 x8 x9 xa xb xc xd xe xf xg xh xi xj xk xl xm xn => ⟨⟨11, sp 326 0 [(0, (.d (.sl x0 x1))), (5, (.ptr 0 0)), (6, (.ptr 1 0)), (7, (.own 2 x2 1 x3 x4)), (8, (.d (.v (.slice .none 0 0)))), (11, (aI x5)), (12, (.own 3 x6 1 x7 x8)), (56, (.d (.sl x9 xa))), (57, (aI xb)), (58, (aI xc)), (103, (aI xd)), (104, (aI xe))], [(.code (cd cfz.P 11 [1, 1, 1, 1, 1, 0, 1, 0, 0, 1, 1, 0, 0, 1, 1, 0, 1, 0, 1, 0, 1, 0, 1, 0, 0])), (.inLoop (cd cfz.P 11 [1, 1, 1, 1, 1, 0, 1, 0, 0, 1, 1, 0, 0, 1, 1, 0, 1, 0, 1, 0, 1, 0, 1, 0, 0])), (.inBlock 3), (.code (cd cfz.P 11 [1, 1, 1, 1, 1, 0, 1, 0, 0, 1, 1, 0, 0, 1, 1, 0, 1, 0, 1, 0, 1, 1])), (.inBlock 2), (.code (cd cfz.P 11 [1, 1, 1, 1, 1, 0, 1, 0, 0, 1, 1, 0, 0, 1, 1, 1])), (.inBlock 1), (.code (cd cfz.P 11 [1, 1, 1, 1, 1, 0, 1, 0, 0, 1, 1, 1])), (.inLoop (cd cfz.P 11 [1, 1, 1, 1, 1, 0, 1, 0, 0])), (.inBlock 0), (.code (cd cfz.P 11 [1, 1, 1, 1, 1, 1]))], [], false, .none⟩, [], [(.cells [(aI xf), (.d (.sl xg xh)), (.d (.sl xi xj))] 85), (.cells [(aI 0), (.d (.sl xk xl)), (.d (.v (.slice .none 0 0)))] 100), (.tail xm), (.tail xn)]⟩
 | .c18 x0 x1 x2 x3 x4 x5 x6 x7 x8 x9 xa xb xc xd xe xf xg xh xi xj xk xl xm xn => ⟨⟨11, sp 326 0 [(0, (.d (.sl x0 x1))), (5, (.ptr 0 0)), (6, (.ptr 1 0)), (7, (.own 2 x2 1 x3 x4)), (8, (.own 3 x5 1 x6 x7)), (56, (.d (.sl x8 x9))), (57, (aI xa)), (58, (aI xb))], [(.code (cd cfz.P 11 [1, 1, 1, 1, 1, 0, 1, 0, 0, 1, 1, 0, 0, 1, 1, 1, 0])), (.code (cd cfz.P 11 [1, 1, 1, 1, 1, 0, 1, 0, 0, 1, 1, 0, 0, 1, 1, 1, 1])), (.inBlock 1), (.code (cd cfz.P 11 [1, 1, 1, 1, 1, 0, 1, 0, 0, 1, 1, 1])), (.inLoop (cd cfz.P 11 [1, 1, 1, 1, 1, 0, 1, 0, 0])), (.inBlock 0), (.code (cd cfz.P 11 [1, 1, 1, 1, 1, 1]))], [], false, .none⟩, [], [(.cells [(aI xc), (.d (.sl xd xe)), (.d (.sl xf xg))] 85), (.cells [(aI xh), (.d (.sl xi xj)), (.d (.sl xk xl))] 100), (.tail xm), (.tail xn)]⟩
 | .c19 x0 x1 x2 x3 x4 x5 x6 x7 x8 x9 xa xb xc xd xe xf xg xh xi xj => ⟨⟨11, sp 326 0 [(0, (.d (.sl x0 x1))), (5, (.ptr 0 0)), (6, (.ptr 1 0)), (7, (.own 2 x2 1 x3 x4)), (8, (.d (.v (.slice .none 0 0)))), (56, (.d (.sl x5 x6))), (57, (aI x7)), (58, (aI x8))], [(.code (cd cfz.P 11 [1, 1, 1, 1, 1, 0, 1, 0, 0, 1, 1, 0, 0, 1, 1, 1, 0])), (.code (cd cfz.P 11 [1, 1, 1, 1, 1, 0, 1, 0, 0, 1, 1, 0, 0, 1, 1, 1, 1])), (.inBlock 1), (.code (cd cfz.P 11 [1, 1, 1, 1, 1, 0, 1, 0, 0, 1, 1, 1])), (.inLoop (cd cfz.P 11 [1, 1, 1, 1, 1, 0, 1, 0, 0])), (.inBlock 0), (.code (cd cfz.P 11 [1, 1, 1, 1, 1, 1]))], [], false, .none⟩, [], [(.cells [(aI x9), (.d (.sl xa xb)), (.d (.sl xc xd))] 85), (.cells [(aI xe), (.d (.sl xf xg)), (.d (.sl xh xi))] 100), (.tail xj)]⟩
 | .c20 x0 x1 x2 x3 x4 x5 x6 x7 x8 x9 xa xb xc xd xe xf xg xh xi xj xk xl xm xn xo xp xq => ⟨⟨11, sp 326 0 [(0, (.d (.sl x0 x1))), (5, (.ptr 0 0)), (6, (.ptr 1 0)), (7, (.own 2 x2 1 x3 x4)), (8, (.own 3 x5 1 x6 x7)), (11, (aI x8)), (12, (.own 4 x9 1 xa xb)), (56, (.d (.sl xc xd))), (57, (aI xe)), (58, (aI xf)), (103, (aI xg)), (104, (aI xh))], [(.code (cd cfz.P 11 [1, 1, 1, 1, 1, 0, 1, 0, 0, 1, 1, 0, 0, 1, 1, 0, 1, 0, 1, 0, 1, 0, 1, 0, 0])), (.inLoop (cd cfz.P 11 [1, 1, 1, 1, 1, 0, 1, 0, 0, 1, 1, 0, 0, 1, 1, 0, 1, 0, 1, 0, 1, 0, 1, 0, 0])), (.inBlock 3), (.code (cd cfz.P 11 [1, 1, 1, 1, 1, 0, 1, 0, 0, 1, 1, 0, 0, 1, 1, 0, 1, 0, 1, 0, 1, 1])), (.inBlock 2), (.code (cd cfz.P 11 [1, 1, 1, 1, 1, 0, 1, 0, 0, 1, 1, 0, 0, 1, 1, 1])), (.inBlock 1), (.code (cd cfz.P 11 [1, 1, 1, 1, 1, 0, 1, 0, 0, 1, 1, 1])), (.inLoop (cd cfz.P 11 [1, 1, 1, 1, 1, 0, 1, 0, 0])), (.inBlock 0), (.code (cd cfz.P 11 [1, 1, 1, 1, 1, 1]))], [], false, .none⟩, [], [(.cells [(aI 0), (.d (.sl xi xj)), (.d (.v (.slice .none 0 0)))] 85), (.cells [(aI xk), (.d (.sl xl xm)), (.d (.sl xn xo))] 100), (.tail 0), (.tail xp), (.tail xq)]⟩
 | .c21 x0 x1 x2 x3 x4 x5 x6 x7 x8 x9 xa xb xc xd xe xf xg xh xi xj xk xl xm => ⟨⟨11, sp 326 0 [(0, (.d (.sl x0 x1))), (5, (.ptr 0 0)), (6, (.ptr 1 0)), (7, (.own 2 x2 1 x3 x4)), (8, (.d (.v (.slice .none 0 0)))), (11, (aI x5)), (12, (.own 3 x6 1 x7 x8)), (56, (.d (.sl x9 xa))), (57, (aI xb)), (58, (aI xc)), (103, (aI xd)), (104, (aI xe))], [(.code (cd cfz.P 11 [1, 1, 1, 1, 1, 0, 1, 0, 0, 1, 1, 0, 0, 1, 1, 0, 1, 0, 1, 0, 1, 0, 1, 0, 0])), (.inLoop (cd cfz.P 11 [1, 1, 1, 1, 1, 0, 1, 0, 0, 1, 1, 0, 0, 1, 1, 0, 1, 0, 1, 0, 1, 0, 1, 0, 0])), (.inBlock 3), (.code (cd cfz.P 11 [1, 1, 1, 1, 1, 0, 1, 0, 0, 1, 1, 0, 0, 1, 1, 0, 1, 0, 1, 0, 1, 1])), (.inBlock 2), (.code (cd cfz.P 11 [1, 1, 1, 1, 1, 0, 1, 0, 0, 1, 1, 0, 0, 1, 1, 1])), (.inBlock 1), (.code (cd cfz.P 11 [1, 1, 1, 1, 1, 0, 1, 0, 0, 1, 1, 1])), (.inLoop (cd cfz.P 11 [1, 1, 1, 1, 1, 0, 1, 0, 0])), (.inBlock 0), (.code (cd cfz.P 11 [1, 1, 1, 1, 1, 1]))], [], false, .none⟩, [], [(.cells [(aI 0), (.d (.sl xf xg)), (.d (.v (.slice .none 0 0)))] 85), (.cells [(aI xh), (.d (.sl xi xj)), (.d (.sl xk xl))] 100), (.tail 0), (.tail xm)]⟩
 | .c22 x0 x1 x2 x3 x4 x5 x6 x7 x8 x9 xa xb xc xd xe xf xg xh xi xj xk xl xm xn => ⟨⟨11, sp 326 0 [(0, (.d (.sl x0 x1))), (5, (.ptr 0 0)), (6, (.ptr 1 0)), (7, (.own 2 x2 1 x3 x4)), (8, (.own 3 x5 1 x6 x7)), (56, (.d (.sl x8 x9))), (57, (aI xa)), (58, (aI xb))], [(.code (cd cfz.P 11 [1, 1, 1, 1, 1, 0, 1, 0, 0])), (.inLoop (cd cfz.P 11 [1, 1, 1, 1, 1, 0, 1, 0, 0])), (.inBlock 0), (.code (cd cfz.P 11 [1, 1, 1, 1, 1, 1]))], [], false, .none⟩, [], [(.cells [(aI xc), (.d (.sl xd xe)), (.d (.sl xf xg))] 85), (.cells [(aI xh), (.d (.sl xi xj)), (.d (.sl xk xl))] 100), (.tail xm), (.tail xn)]⟩
 | .c23 x0 x1 x2 x3 x4 x5 x6 x7 x8 x9 xa xb xc xd xe xf xg xh xi xj => ⟨⟨11, sp 326 0 [(0, (.d (.sl x0 x1))), (5, (.ptr 0 0)), (6, (.ptr 1 0)), (7, (.own 2 x2 1 x3 x4)), (8, (.d (.v (.slice .none 0 0)))), (56, (.d (.sl x5 x6))), (57, (aI x7)), (58, (aI x8))], [(.code (cd cfz.P 11 [1, 1, 1, 1, 1, 0, 1, 0, 0])), (.inLoop (cd cfz.P 11 [1, 1, 1, 1, 1, 0, 1, 0, 0])), (.inBlock 0), (.code (cd cfz.P 11 [1, 1, 1, 1, 1, 1]))], [], false, .none⟩, [], [(.cells [(aI x9), (.d (.sl xa xb)), (.d (.sl xc xd))] 85), (.cells [(aI xe), (.d (.sl xf xg)), (.d (.sl xh xi))] 100), (.tail xj)]⟩
 | .c24 x0 x1 x2 x3 x4 x5 x6 x7 x8 x9 xa xb xc xd xe xf xg xh xi xj xk xl xm xn xo xp xq => ⟨⟨11, sp 326 0 [(0, (.d (.sl x0 x1))), (5, (.ptr 0 0)), (6, (.ptr 1 0)), (7, (.own 2 x2 1 x3 x4)), (8, (.own 3 x5 1 x6 x7)), (11, (aI x8)), (12, (.d (.v (.slice .none 0 0)))), (56, (.d (.sl x9 xa))), (57, (aI xb)), (58, (aI xc)), (103, (aI xd)), (104, (aI xe))], [(.code (cd cfz.P 11 [1, 1, 1, 1, 1, 0, 1, 0, 0, 1, 1, 0, 0, 1, 1, 0, 1, 0, 1, 0, 1, 0, 1, 0, 0])), (.inLoop (cd cfz.P 11 [1, 1, 1, 1, 1, 0, 1, 0, 0, 1, 1, 0, 0, 1, 1, 0, 1, 0, 1, 0, 1, 0, 1, 0, 0])), (.inBlock 3), (.code (cd cfz.P 11 [1, 1, 1, 1, 1, 0, 1, 0, 0, 1, 1, 0, 0, 1, 1, 0, 1, 0, 1, 0, 1, 1])), (.inBlock 2), (.code (cd cfz.P 11 [1, 1, 1, 1, 1, 0, 1, 0, 0, 1, 1, 0, 0, 1, 1, 1])), (.inBlock 1), (.code (cd cfz.P 11 [1, 1, 1, 1, 1, 0, 1, 0, 0, 1, 1, 1])), (.inLoop (cd cfz.P 11 [1, 1, 1, 1, 1, 0, 1, 0, 0])), (.inBlock 0), (.code (cd cfz.P 11 [1, 1, 1, 1, 1, 1]))], [], false, .none⟩, [], [(.cells [(aI xf), (.d (.sl xg xh)), (.d (.sl xi xj))] 85), (.cells [(aI xk), (.d (.sl xl xm)), (.d (.sl xn xo))] 100), (.tail xp), (.tail xq)]⟩
 | .c25 x0 x1 x2 x3 x4 x5 x6 x7 x8 x9 xa xb xc xd xe xf xg xh xi xj xk xl xm => ⟨⟨11, sp 326 0 [(0, (.d (.sl x0 x1))), (5, (.ptr 0 0)), (6, (.ptr 1 0)), (7, (.own 2 x2 1 x3 x4)), (8, (.d (.v (.slice .none 0 0)))), (11, (aI x5)), (12, (.d (.v (.slice .none 0 0)))), (56, (.d (.sl x6 x7))), (57, (aI x8)), (58, (aI x9)), (103, (aI xa)), (104, (aI xb))], [(.code (cd cfz.P 11 [1, 1, 1, 1, 1, 0, 1, 0, 0, 1, 1, 0, 0, 1, 1, 0, 1, 0, 1, 0, 1, 0, 1, 0, 0])), (.inLoop (cd cfz.P 11 [1, 1, 1, 1, 1, 0, 1, 0, 0, 1, 1, 0, 0, 1, 1, 0, 1, 0, 1, 0, 1, 0, 1, 0, 0])), (.inBlock 3), (.code (cd cfz.P 11 [1, 1, 1, 1, 1, 0, 1, 0, 0, 1, 1, 0, 0, 1, 1, 0, 1, 0, 1, 0, 1, 1])), (.inBlock 2), (.code (cd cfz.P 11 [1, 1, 1, 1, 1, 0, 1, 0, 0, 1, 1, 0, 0, 1, 1, 1])), (.inBlock 1), (.code (cd cfz.P 11 [1, 1, 1, 1, 1, 0, 1, 0, 0, 1, 1, 1])), (.inLoop (cd cfz.P 11 [1, 1, 1, 1, 1, 0, 1, 0, 0])), (.inBlock 0), (.code (cd cfz.P 11 [1, 1, 1, 1, 1, 1]))], [], false, .none⟩, [], [(.cells [(aI xc), (.d (.sl xd xe)), (.d (.sl xf xg))] 85), (.cells [(aI xh), (.d (.sl xi xj)), (.d (.sl xk xl))] 100), (.tail xm)]⟩
 | .c26 x0 x1 x2 x3 x4 x5 x6 x7 x8 x9 xa xb xc xd xe xf xg xh xi xj xk xl xm xn xo xp xq xr xs xt xu => ⟨⟨11, sp 326 0 [(0, (.d (.sl x0 x1))), (5, (.ptr 0 0)), (6, (.ptr 1 0)), (7, (.own 2 x2 1 x3 x4)), (8, (.own 3 x5 1 x6 x7)), (11, (aI x8)), (12, (.own 4 x9 1 xa xb)), (56, (.d (.sl xc xd))), (57, (aI xe)), (58, (aI xf)), (103, (aI xg)), (104, (aI xh))], [(.code (cd cfz.P 11 [1, 1, 1, 1, 1, 0, 1, 0, 0, 1, 1, 0, 0, 1, 1, 0, 1, 0, 1, 0, 1, 0, 1, 0, 0])), (.inLoop (cd cfz.P 11 [1, 1, 1, 1, 1, 0, 1, 0, 0, 1, 1, 0, 0, 1, 1, 0, 1, 0, 1, 0, 1, 0, 1, 0, 0])), (.inBlock 3), (.code (cd cfz.P 11 [1, 1, 1, 1, 1, 0, 1, 0, 0, 1, 1, 0, 0, 1, 1, 0, 1, 0, 1, 0, 1, 1])), (.inBlock 2), (.code (cd cfz.P 11 [1, 1, 1, 1, 1, 0, 1, 0, 0, 1, 1, 0, 0, 1, 1, 1])), (.inBlock 1), (.code (cd cfz.P 11 [1, 1, 1, 1, 1, 0, 1, 0, 0, 1, 1, 1])), (.inLoop (cd cfz.P 11 [1, 1, 1, 1, 1, 0, 1, 0, 0])), (.inBlock 0), (.code (cd cfz.P 11 [1, 1, 1, 1, 1, 1]))], [], false, .none⟩, [], [(.cells [(aI xi), (.d (.sl xj xk)), (.d (.sl xl xm))] 85), (.cells [(aI xn), (.d (.sl xo xp)), (.d (.sl xq xr))] 100), (.tail xs), (.tail xt), (.tail xu)]⟩
 | .c27 x0 x1 x2 x3 x4 x5 x6 x7 x8 x9 xa xb xc xd xe xf xg xh xi xj xk xl xm xn xo xp xq => ⟨⟨11, sp 326 0 [(0, (.d (.sl x0 x1))), (5, (.ptr 0 0)), (6, (.ptr 1 0)), (7, (.own 2 x2 1 x3 x4)), (8, (.d (.v (.slice .none 0 0)))), (11, (aI x5)), (12, (.own 3 x6 1 x7 x8)), (56, (.d (.sl x9 xa))), (57, (aI xb)), (58, (aI xc)), (103, (aI xd)), (104, (aI xe))], [(.code (cd cfz.P 11 [1, 1, 1, 1, 1, 0, 1, 0, 0, 1, 1, 0, 0, 1, 1, 0, 1, 0, 1, 0, 1, 0, 1, 0, 0])), (.inLoop (cd cfz.P 11 [1, 1, 1, 1, 1, 0, 1, 0, 0, 1, 1, 0, 0, 1, 1, 0, 1, 0, 1, 0, 1, 0, 1, 0, 0])), (.inBlock 3), (.code (cd cfz.P 11 [1, 1, 1, 1, 1, 0, 1, 0, 0, 1, 1, 0, 0, 1, 1, 0, 1, 0, 1, 0, 1, 1])), (.inBlock 2), (.code (cd cfz.P 11 [1, 1, 1, 1, 1, 0, 1, 0, 0, 1, 1, 0, 0, 1, 1, 1])), (.inBlock 1), (.code (cd cfz.P 11 [1, 1, 1, 1, 1, 0, 1, 0, 0, 1, 1, 1])), (.inLoop (cd cfz.P 11 [1, 1, 1, 1, 1, 0, 1, 0, 0])), (.inBlock 0), (.code (cd cfz.P 11 [1, 1, 1, 1, 1, 1]))], [], false, .none⟩, [], [(.cells [(aI xf), (.d (.sl xg xh)), (.d (.sl xi xj))] 85), (.cells [(aI xk), (.d (.sl xl xm)), (.d (.sl xn xo))] 100), (.tail xp), (.tail xq)]⟩
def B11 : S11 → Tr S11 (Bool)
 | .c0 x0 x1 x2 x3 => (.bind (F15) fun x4 =>
 (.sees [] (.bind (F30 x0 x1) fun x5 =>
 (.sees [(.d (.sl x0 x1))] (.triv _ (tv_s ((!x4) == false)) (.triv _ (tv_s ((!x4) == false)) (.triv _ (tv_f (!x4)) (.bind (F71 x0 x1) fun x6 =>
 (.sees [(.d (.sl x0 x1))] (.triv _ (tv_s ((if (!x4) = true then true else !x5) == false)) (.triv _ (tv_s ((if (!x4) = true then true else !x5) == false)) (.triv _ (tv_f (if (!x4) = true then true else !x5)) (.triv _ (tv_s ((if (if (!x4) = true then true else !x5) = true then true else x6 != 0) == false)) (.triv _ (tv_s ((if (if (!x4) = true then true else !x5) = true then true else x6 != 0) == false)) (.triv _ (tv_f (if (if (!x4) = true then true else !x5) = true then true else x6 != 0)) (.br (if (if (if (!x4) = true then true else !x5) = true then true else x6 != 0) = true then true else decide ((↑x2 : Int) > 24))
 (.sees [] (.ret x4))
 (.bind (F33 x0 x1) fun x7 =>
 (.sees [(.d (.sl x0 x1))] (.sees [(.d (.sl x0 x1))] (.sees [(.d (.sl x0 x1))] (.nxt (.c1 x0 x1 0 1 [(.sl x7.1 x7.2)] x2 x3 ((↑x2 : Int)) 0 x7.1 x7.2))))))))))))))))))))))
 | .c1 x0 x1 x2 x3 x4 x5 x6 x7 x8 x9 xa => (.br (decide (x8 < x7))
 (.ask (.le 0 x8) (.ask (.lt x8 ((↑x5 : Int))) (.ask (.leN (x8.toNat * 2) x6.length) (.ask (.leN 2 ((List.drop (x8.toNat * 2) x6).length)) (.ask (.prop (List.map AV.d (List.take 2 (List.drop (x8.toNat * 2) x6)) = [AV.d (DV.v (Value.int IntKind.u8 (dI (cel x6 (x8.toNat * 2))))), AV.d (DV.v (Value.int IntKind.u8 (dI (cel x6 (x8.toNat * 2 + 1)))))])) (.br ((dI (cel x6 (x8.toNat * 2))).tmod 5 == 0)
 (.nxt (.c2 x0 x1 x2 x3 x4 (IntKind.i64.wrap (dI (cel x6 (x8.toNat * 2 + 1)))) x5 x6 x7 x8 ((↑x0 : Int)) 0 x9 xa))
 (.br ((dI (cel x6 (x8.toNat * 2))).tmod 5 == 1)
 (.ask (.neI ((↑x3 : Int)) 0) (.br ((IntKind.i64.wrap (dI (cel x6 (x8.toNat * 2 + 1)))).tmod (↑x3 : Int) == 0)
 (.ask (.in64 (x8 + 1)) (.nxt (.c1 x0 x1 x2 x3 x4 x5 x6 x7 (x8 + 1) x9 xa)))
 (.bind (F33 (dN (cel x4 (((IntKind.i64.wrap (dI (cel x6 (x8.toNat * 2 + 1)))).tmod (↑x3 : Int)).toNat * 1))) (dL (cel x4 (((IntKind.i64.wrap (dI (cel x6 (x8.toNat * 2 + 1)))).tmod (↑x3 : Int)).toNat * 1)))) fun xb =>
 (.bind (F57 0 x9 xa 0 [] ((IntKind.i64.wrap (dI (cel x6 (x8.toNat * 2 + 1)))).tmod (↑x3 : Int)) xb.1 xb.2) fun xc =>
 (.ask (.le 0 ((IntKind.i64.wrap (dI (cel x6 (x8.toNat * 2 + 1)))).tmod (↑x3 : Int))) (.ask (.lt ((IntKind.i64.wrap (dI (cel x6 (x8.toNat * 2 + 1)))).tmod (↑x3 : Int)) ((↑x3 : Int))) (.ask (.leN (((IntKind.i64.wrap (dI (cel x6 (x8.toNat * 2 + 1)))).tmod (↑x3 : Int)).toNat * 1) x4.length) (.ask (.prop (Option.map AV.d (List.drop (((IntKind.i64.wrap (dI (cel x6 (x8.toNat * 2 + 1)))).tmod (↑x3 : Int)).toNat * 1) x4)[0]? = some (AV.d (DV.sl (dN (cel x4 (((IntKind.i64.wrap (dI (cel x6 (x8.toNat * 2 + 1)))).tmod (↑x3 : Int)).toNat * 1))) (dL (cel x4 (((IntKind.i64.wrap (dI (cel x6 (x8.toNat * 2 + 1)))).tmod (↑x3 : Int)).toNat * 1))))))) (.sees [(.d (.sl (dN (cel x4 (((IntKind.i64.wrap (dI (cel x6 (x8.toNat * 2 + 1)))).tmod (↑x3 : Int)).toNat * 1))) (dL (cel x4 (((IntKind.i64.wrap (dI (cel x6 (x8.toNat * 2 + 1)))).tmod (↑x3 : Int)).toNat * 1)))))] (.sees [(.agg [(aI 0), (.d (.sl x9 xa)), (.d (.sl 0 []))]), (aI ((IntKind.i64.wrap (dI (cel x6 (x8.toNat * 2 + 1)))).tmod (↑x3 : Int))), (.d (.sl xb.1 xb.2))] (.br (decide ((IntKind.i64.wrap (dI (cel x6 (x8.toNat * 2 + 1)))).tmod (↑x3 : Int) > 1))
 (.br (xc.2.2.2.2.2.2 != 7)
 (.ret false)
 (.ask (.in64 (x8 + 1)) (.nxt (.c1 x0 x1 x2 x3 x4 x5 x6 x7 (x8 + 1) x9 xa))))
 (.br (xc.2.2.2.2.2.2 != 0)
 (.ret false)
 (.ask (.eqB ((xc.2.2.2.2.2.2 != 0) == false) true) (.br (decide (xc.2.2.2.2.2.1 < 0))
 (.ret false)
 (.ask (.eqB (decide (xc.2.2.2.2.2.1 < 0) == false) true) (.br (decide (xc.2.2.2.2.2.1 > 1))
 (.ret false)
 (.br (xc.1 != 0)
 (.ret false)
 (.nxt (.c3 x0 x1 x2 x3 x4 0 1 [(vI xc.2.2.2.2.2.1)] x5 x6 x7 x8 x9 xa xc.1 xc.2.1 xc.2.2.1 xc.2.2.2.1 xc.2.2.2.2.1 0)))))))))))))))))))
 (.br ((dI (cel x6 (x8.toNat * 2))).tmod 5 == 2)
 (.ask (.in64 (x8 + 1)) (.nxt (.c1 x0 x1 x2 x3 x4 x5 x6 x7 (x8 + 1) x9 xa)))
 (.br ((dI (cel x6 (x8.toNat * 2))).tmod 5 == 3)
 (.bind (F59 0 x9 xa 0 [] 0) fun xd =>
 (.sees [(.agg [(aI 0), (.d (.sl x9 xa)), (.d (.sl 0 []))]), (aI 0)] (.br (xd.2.2.2.2.2.2.2 != 0)
 (.ret false)
 (.ask (.eqB ((xd.2.2.2.2.2.2.2 != 0) == false) true) (.bind (F65 xd.2.2.2.2.2.1 xd.2.2.2.2.2.2.1 x9 xa) fun xe =>
 (.sees [(.d (.sl xd.2.2.2.2.2.1 xd.2.2.2.2.2.2.1)), (.d (.sl x9 xa))] (.br (!xe)
 (.ret false)
 (.br (xd.1 != 0)
 (.ret false)
 (.nxt (.c4 x0 x1 x2 x3 x4 x5 x6 x7 x8 x9 xa xd.1 xd.2.1 xd.2.2.1 xd.2.2.2.1 xd.2.2.2.2.1))))))))))
 (.bind (F59 0 x9 xa 0 [] ((IntKind.i64.wrap (dI (cel x6 (x8.toNat * 2 + 1)))).tmod 1)) fun xf =>
 (.sees [(.agg [(aI 0), (.d (.sl x9 xa)), (.d (.sl 0 []))]), (aI ((IntKind.i64.wrap (dI (cel x6 (x8.toNat * 2 + 1)))).tmod 1))] (.br (xf.2.2.2.2.2.2.2 == 35)
 (.ask (.eqB ((xf.2.2.2.2.2.2.2 == 35) == true) true) (.br (decide ((IntKind.i64.wrap (dI (cel x6 (x8.toNat * 2 + 1)))).tmod 1 < 0))
 (.ask (.in64 (x8 + 1)) (.nxt (.c1 x0 x1 x2 x3 x4 x5 x6 x7 (x8 + 1) x9 xa)))
 (.br (xf.2.2.2.2.2.2.2 != 0)
 (.ret false)
 (.ask (.le 0 ((IntKind.i64.wrap (dI (cel x6 (x8.toNat * 2 + 1)))).tmod 1)) (.ask (.lt ((IntKind.i64.wrap (dI (cel x6 (x8.toNat * 2 + 1)))).tmod 1) ((↑x3 : Int))) (.ask (.leN (((IntKind.i64.wrap (dI (cel x6 (x8.toNat * 2 + 1)))).tmod 1).toNat * 1) x4.length) (.ask (.prop (Option.map AV.d (List.drop (((IntKind.i64.wrap (dI (cel x6 (x8.toNat * 2 + 1)))).tmod 1).toNat * 1) x4)[0]? = some (AV.d (DV.sl (dN (cel x4 (((IntKind.i64.wrap (dI (cel x6 (x8.toNat * 2 + 1)))).tmod 1).toNat * 1))) (dL (cel x4 (((IntKind.i64.wrap (dI (cel x6 (x8.toNat * 2 + 1)))).tmod 1).toNat * 1))))))) (.ask (.eqB ((xf.2.2.2.2.2.2.2 != 0) == false) true) (.bind (F65 xf.2.2.2.2.2.1 xf.2.2.2.2.2.2.1 (dN (cel x4 (((IntKind.i64.wrap (dI (cel x6 (x8.toNat * 2 + 1)))).tmod 1).toNat * 1))) (dL (cel x4 (((IntKind.i64.wrap (dI (cel x6 (x8.toNat * 2 + 1)))).tmod 1).toNat * 1)))) fun xg =>
 (.sees [(.d (.sl xf.2.2.2.2.2.1 xf.2.2.2.2.2.2.1)), (.d (.sl (dN (cel x4 (((IntKind.i64.wrap (dI (cel x6 (x8.toNat * 2 + 1)))).tmod 1).toNat * 1))) (dL (cel x4 (((IntKind.i64.wrap (dI (cel x6 (x8.toNat * 2 + 1)))).tmod 1).toNat * 1)))))] (.br (!xg)
 (.ret false)
 (.nxt (.c4 x0 x1 x2 x3 x4 x5 x6 x7 x8 x9 xa xf.1 xf.2.1 xf.2.2.1 xf.2.2.2.1 xf.2.2.2.2.1)))))))))))))
 (.br (xf.2.2.2.2.2.2.2 != 0)
 (.ret false)
 (.ask (.le 0 ((IntKind.i64.wrap (dI (cel x6 (x8.toNat * 2 + 1)))).tmod 1)) (.ask (.lt ((IntKind.i64.wrap (dI (cel x6 (x8.toNat * 2 + 1)))).tmod 1) ((↑x3 : Int))) (.ask (.leN (((IntKind.i64.wrap (dI (cel x6 (x8.toNat * 2 + 1)))).tmod 1).toNat * 1) x4.length) (.ask (.prop (Option.map AV.d (List.drop (((IntKind.i64.wrap (dI (cel x6 (x8.toNat * 2 + 1)))).tmod 1).toNat * 1) x4)[0]? = some (AV.d (DV.sl (dN (cel x4 (((IntKind.i64.wrap (dI (cel x6 (x8.toNat * 2 + 1)))).tmod 1).toNat * 1))) (dL (cel x4 (((IntKind.i64.wrap (dI (cel x6 (x8.toNat * 2 + 1)))).tmod 1).toNat * 1))))))) (.ask (.eqB ((xf.2.2.2.2.2.2.2 != 0) == false) true) (.bind (F65 xf.2.2.2.2.2.1 xf.2.2.2.2.2.2.1 (dN (cel x4 (((IntKind.i64.wrap (dI (cel x6 (x8.toNat * 2 + 1)))).tmod 1).toNat * 1))) (dL (cel x4 (((IntKind.i64.wrap (dI (cel x6 (x8.toNat * 2 + 1)))).tmod 1).toNat * 1)))) fun xh =>
 (.sees [(.d (.sl xf.2.2.2.2.2.1 xf.2.2.2.2.2.2.1)), (.d (.sl (dN (cel x4 (((IntKind.i64.wrap (dI (cel x6 (x8.toNat * 2 + 1)))).tmod 1).toNat * 1))) (dL (cel x4 (((IntKind.i64.wrap (dI (cel x6 (x8.toNat * 2 + 1)))).tmod 1).toNat * 1)))))] (.br (!xh)
 (.ret false)
 (.nxt (.c4 x0 x1 x2 x3 x4 x5 x6 x7 x8 x9 xa xf.1 xf.2.1 xf.2.2.1 xf.2.2.2.1 xf.2.2.2.2.1)))))))))))))))))))))))
 (.ret true))
 | .c2 x0 x1 x2 x3 x4 x5 x6 x7 x8 x9 xa xb xc xd => (.br (decide (xb < xa))
 (.ask (.in64 (x5 + xb)) (.ask (.in64 (xb + 1)) (.nxt (.c5 x0 x1 x2 x3 x4 x5 0 1 [(vI ((x5 + xb).tmod 7))] x6 x7 x8 x9 xa (xb + 1) xc xd 0))))
 (.bind (F33 0 []) fun xe =>
 (.bind (F47 0 xc xd 0 [] xe.1 xe.2) fun xf =>
 (.sees [(.d (.sl 0 []))] (.sees [(.agg [(aI 0), (.d (.sl xc xd)), (.d (.sl 0 []))]), (.d (.sl xe.1 xe.2))] (.br ((↑x3 : Int) == 2)
 (.br (xf.2.2.2.2.2 != 31)
 (.ret false)
 (.ask (.in64 (x9 + 1)) (.nxt (.c1 x0 x1 x2 x3 x4 x6 x7 x8 (x9 + 1) xc xd))))
 (.br (xf.2.2.2.2.2 != 0)
 (.ret false)
 (.br (xf.1 != 0)
 (.ret false)
 (.ask (.eqN x2 0) (.ask (.fits (x3 + 1) 24) (.nxt (.c6 x0 x1 1 (x3 + 1) (x4 ++ [DV.v (Value.slice none 0 0)]) x6 x7 x8 x9 xf.1 xf.2.1 xf.2.2.1 xf.2.2.2.1 xf.2.2.2.2.1 xc xd 1))))))))))))
 | .c3 x0 x1 x2 x3 x4 x5 x6 x7 x8 x9 xa xb xc xd xe xf xg xh xi xj => (.nxt (.c7 x0 x1 x2 x3 x4 x5 x6 x7 x8 x9 xa xb xc xd xe xf xg xh xi xj))
 | .c4 x0 x1 x2 x3 x4 x5 x6 x7 x8 x9 xa xb xc xd xe xf => (.nxt (.c8 x0 x1 x2 x3 x4 x5 x6 x7 x8 x9 xa xb xc xd xe xf))
 | .c5 x0 x1 x2 x3 x4 x5 x6 x7 x8 x9 xa xb xc xd xe xf xg xh => (.br (decide (xe < xd))
 (.ask (.in64 (x5 + xe)) (.ask (.eqN x6 xh) (.ask (.fits (x7 + 1) 8) (.ask (.in64 (xe + 1)) (.nxt (.c5 x0 x1 x2 x3 x4 x5 (xh + 1) (x7 + 1) (x8 ++ [vI ((x5 + xe).tmod 7)]) x9 xa xb xc xd (xe + 1) xf xg (xh + 1)))))))
 (.bind (F33 x7 x8) fun xi =>
 (.bind (F47 0 xf xg 0 [] xi.1 xi.2) fun xj =>
 (.sees [(.d (.sl x7 x8))] (.sees [(.agg [(aI 0), (.d (.sl xf xg)), (.d (.sl 0 []))]), (.d (.sl xi.1 xi.2))] (.br ((↑x3 : Int) == 2)
 (.br (xj.2.2.2.2.2 != 31)
 (.ret false)
 (.ask (.in64 (xc + 1)) (.nxt (.c1 x0 x1 x2 x3 x4 x9 xa xb (xc + 1) xf xg))))
 (.br (xj.2.2.2.2.2 != 0)
 (.ret false)
 (.br (xj.1 != 0)
 (.ret false)
 (.ask (.eqN x2 0) (.ask (.fits (x3 + 1) 24) (.nxt (.c6 x0 x1 1 (x3 + 1) (x4 ++ [DV.sl x7 x8]) x9 xa xb xc xj.1 xj.2.1 xj.2.2.1 xj.2.2.2.1 xj.2.2.2.2.1 xf xg 1))))))))))))
 | .c6 x0 x1 x2 x3 x4 x5 x6 x7 x8 x9 xa xb xc xd xe xf xg => (.br (decide (0 > x9))
 (.ask (.eqB (decide (0 > x9)) true) (.ask (.eqB (decide (0 > x9)) true) (.ask (.eqB (decide (0 > x9)) true) (.ask (.eqB (decide (0 > x9)) true) (.ask (.eqB (decide (0 > x9)) true) (.ask (.eqB (decide (0 > x9)) true) (.ask (.eqB (decide (0 > x9)) true) (.ret false))))))))
 (.br (decide (x9 > 1))
 (.ask (.eqB (decide (0 > x9)) false) (.ask (.eqB (decide (0 > x9)) false) (.ask (.eqB (decide (0 > x9)) false) (.ask (.eqB (decide (0 > x9)) false) (.ask (.eqB (decide (0 > x9)) false) (.ask (.eqB (decide (0 > x9)) false) (.ask (.eqB (decide (0 > x9)) false) (.ask (.eqB (decide (x9 > 1)) true) (.ask (.eqB (decide (x9 > 1)) true) (.ask (.eqB (decide (x9 > 1)) true) (.ask (.eqB (decide (x9 > 1)) true) (.ask (.eqB (decide (x9 > 1)) true) (.ask (.eqB (decide (x9 > 1)) true) (.ret false))))))))))))))
 (.br (decide (x9 ≥ (↑x3 : Int)))
 (.ask (.eqB (decide (0 > x9)) false) (.ask (.eqB (decide (0 > x9)) false) (.ask (.eqB (decide (0 > x9)) false) (.ask (.eqB (decide (0 > x9)) false) (.ask (.eqB (decide (0 > x9)) false) (.ask (.eqB (decide (0 > x9)) false) (.ask (.eqB (decide (0 > x9)) false) (.ask (.eqB (decide (x9 > 1)) false) (.ask (.eqB (decide (x9 > 1)) false) (.ask (.eqB (decide (x9 > 1)) false) (.ask (.eqB (decide (x9 > 1)) false) (.ask (.eqB (decide (x9 > 1)) false) (.ask (.eqB (decide (x9 > 1)) false) (.ask (.eqB (decide (x9 ≥ (↑x3 : Int))) true) (.ask (.eqB (decide (x9 ≥ (↑x3 : Int))) true) (.ask (.eqB (decide (x9 ≥ (↑x3 : Int))) true) (.ask (.eqB (decide (x9 ≥ (↑x3 : Int))) true) (.ask (.eqB (decide (x9 ≥ (↑x3 : Int))) true) (.ask (.eqB (decide (x9 ≥ (↑x3 : Int))) true) (.ask (.eqB (decide (x9 ≥ (↑x3 : Int))) true) (.ask (.eqB (decide (x9 ≥ (↑x3 : Int))) true) (.ask (.eqB (decide (x9 ≥ (↑x3 : Int))) true) (.ask (.eqB (decide (x9 ≥ (↑x3 : Int))) true) (.ret false))))))))))))))))))))))))
 (.bind (F65 xa xb (dN (cel x4 (x9.toNat * 1))) (dL (cel x4 (x9.toNat * 1)))) fun xh =>
 (.br (!xh)
 (.ask (.eqB (decide (0 > x9)) false) (.ask (.eqB (decide (0 > x9)) false) (.ask (.eqB (decide (0 > x9)) false) (.ask (.eqB (decide (0 > x9)) false) (.ask (.eqB (decide (0 > x9)) false) (.ask (.eqB (decide (0 > x9)) false) (.ask (.eqB (decide (0 > x9)) false) (.ask (.eqB (decide (x9 > 1)) false) (.ask (.eqB (decide (x9 > 1)) false) (.ask (.eqB (decide (x9 > 1)) false) (.ask (.eqB (decide (x9 > 1)) false) (.ask (.eqB (decide (x9 > 1)) false) (.ask (.eqB (decide (x9 > 1)) false) (.ask (.eqB (decide (x9 ≥ (↑x3 : Int))) false) (.ask (.eqB (decide (x9 ≥ (↑x3 : Int))) false) (.ask (.eqB (decide (x9 ≥ (↑x3 : Int))) false) (.ask (.eqB (decide (x9 ≥ (↑x3 : Int))) false) (.ask (.eqB (decide (x9 ≥ (↑x3 : Int))) false) (.ask (.le 0 x9) (.ask (.lt x9 ((↑x3 : Int))) (.ask (.leN (x9.toNat * 1) x4.length) (.ask (.eqB (decide (x9 ≥ (↑x3 : Int))) false) (.ask (.prop (Option.map AV.d (List.drop (x9.toNat * 1) x4)[0]? = some (AV.d (DV.sl (dN (cel x4 (x9.toNat * 1))) (dL (cel x4 (x9.toNat * 1))))))) (.ask (.eqB (decide (x9 ≥ (↑x3 : Int))) false) (.sees [(.d (.sl xa xb)), (.d (.sl (dN (cel x4 (x9.toNat * 1))) (dL (cel x4 (x9.toNat * 1)))))] (.ask (.eqB (decide (x9 ≥ (↑x3 : Int))) false) (.ask (.eqB (decide (x9 ≥ (↑x3 : Int))) false) (.ask (.eqB (decide (x9 ≥ (↑x3 : Int))) false) (.ask (.eqB (!xh) true) (.ask (.eqB (!xh) true) (.ask (.eqB (!xh) true) (.ask (.eqB (!xh) true) (.ask (.eqB (!xh) true) (.ask (.eqB (!xh) true) (.ask (.eqB (!xh) true) (.ask (.eqB (!xh) true) (.ask (.eqB (!xh) true) (.ask (.eqB (!xh) true) (.ret false)))))))))))))))))))))))))))))))))))))))
 (.bind (F65 xe xf (dN (cel x4 0)) (dL (cel x4 0))) fun xi =>
 (.ask (.eqB (decide (0 > x9)) false) (.ask (.eqB (decide (0 > x9)) false) (.ask (.eqB (decide (0 > x9)) false) (.ask (.eqB (decide (0 > x9)) false) (.ask (.eqB (decide (0 > x9)) false) (.ask (.eqB (decide (0 > x9)) false) (.ask (.eqB (decide (0 > x9)) false) (.ask (.eqB (decide (x9 > 1)) false) (.ask (.eqB (decide (x9 > 1)) false) (.ask (.eqB (decide (x9 > 1)) false) (.ask (.eqB (decide (x9 > 1)) false) (.ask (.eqB (decide (x9 > 1)) false) (.ask (.eqB (decide (x9 > 1)) false) (.ask (.eqB (decide (x9 ≥ (↑x3 : Int))) false) (.ask (.eqB (decide (x9 ≥ (↑x3 : Int))) false) (.ask (.eqB (decide (x9 ≥ (↑x3 : Int))) false) (.ask (.eqB (decide (x9 ≥ (↑x3 : Int))) false) (.ask (.eqB (decide (x9 ≥ (↑x3 : Int))) false) (.ask (.le 0 x9) (.ask (.lt x9 ((↑x3 : Int))) (.ask (.leN (x9.toNat * 1) x4.length) (.ask (.eqB (decide (x9 ≥ (↑x3 : Int))) false) (.ask (.prop (Option.map AV.d (List.drop (x9.toNat * 1) x4)[0]? = some (AV.d (DV.sl (dN (cel x4 (x9.toNat * 1))) (dL (cel x4 (x9.toNat * 1))))))) (.ask (.eqB (decide (x9 ≥ (↑x3 : Int))) false) (.sees [(.d (.sl xa xb)), (.d (.sl (dN (cel x4 (x9.toNat * 1))) (dL (cel x4 (x9.toNat * 1)))))] (.ask (.eqB (decide (x9 ≥ (↑x3 : Int))) false) (.ask (.eqB (decide (x9 ≥ (↑x3 : Int))) false) (.ask (.eqB (decide (x9 ≥ (↑x3 : Int))) false) (.ask (.eqB (!xh) false) (.ask (.eqB (!xh) false) (.ask (.eqB (!xh) false) (.ask (.eqB (!xh) false) (.ask (.eqB (!xh) false) (.ask (.lt 0 ((↑x3 : Int))) (.ask (.leN 0 x4.length) (.ask (.eqB (!xh) false) (.ask (.prop (Option.map AV.d (List.drop 0 x4)[0]? = some (AV.d (DV.sl (dN (cel x4 0)) (dL (cel x4 0)))))) (.ask (.eqB (!xh) false) (.sees [(.d (.sl xe xf)), (.d (.sl (dN (cel x4 0)) (dL (cel x4 0))))] (.ask (.eqB (!xh) false) (.ask (.eqB (!xh) false) (.ask (.eqB (!xh) false) (.br (!xi)
 (.ret false)
 (.ask (.in64 (x8 + 1)) (.nxt (.c9 x0 x1 x2 x3 x4 x5 x6 x7 (x8 + 1) x9 xa xb xc xd xe xf xg))))))))))))))))))))))))))))))))))))))))))))))))))))
 | .c7 x0 x1 x2 x3 x4 x5 x6 x7 x8 x9 xa xb xc xd xe xf xg xh xi xj => (.br (decide (xe < 0))
 (.ask (.eqB (decide (xe < 0)) true) (.ask (.eqB (decide (xe < 0)) true) (.ask (.eqB (decide (xe < 0)) true) (.ask (.eqB (decide (xe < 0)) true) (.ask (.eqB (decide (xe < 0)) true) (.ask (.eqB (decide (xe < 0)) true) (.ret false)))))))
 (.br (decide (xe > 0))
 (.ask (.eqB (decide (xe < 0)) false) (.ask (.eqB (decide (xe < 0)) false) (.ask (.eqB (decide (xe < 0)) false) (.ask (.eqB (decide (xe < 0)) false) (.ask (.eqB (decide (xe < 0)) false) (.ask (.eqB (decide (xe < 0)) false) (.ask (.eqB (decide (xe > 0)) true) (.ask (.eqB (decide (xe > 0)) true) (.ask (.eqB (decide (xe > 0)) true) (.ask (.eqB (decide (xe > 0)) true) (.ask (.eqB (decide (xe > 0)) true) (.ask (.eqB (decide (xe > 0)) true) (.ask (.eqB (decide (xe > 0)) true) (.ret false))))))))))))))
 (.br (decide (0 > xe + 1))
 (.ask (.eqB (decide (xe < 0)) false) (.ask (.eqB (decide (xe < 0)) false) (.ask (.eqB (decide (xe < 0)) false) (.ask (.eqB (decide (xe < 0)) false) (.ask (.eqB (decide (xe < 0)) false) (.ask (.eqB (decide (xe < 0)) false) (.ask (.eqB (decide (xe > 0)) false) (.ask (.eqB (decide (xe > 0)) false) (.ask (.eqB (decide (xe > 0)) false) (.ask (.eqB (decide (xe > 0)) false) (.ask (.in64 (xe + 1)) (.ask (.eqB (decide (xe > 0)) false) (.ask (.eqB (decide (xe > 0)) false) (.ask (.eqB (decide (xe > 0)) false) (.ask (.eqB (decide (0 > xe + 1)) true) (.ask (.eqB (decide (0 > xe + 1)) true) (.ask (.eqB (decide (0 > xe + 1)) true) (.ask (.eqB (decide (0 > xe + 1)) true) (.ask (.eqB (decide (0 > xe + 1)) true) (.ask (.eqB (decide (0 > xe + 1)) true) (.ret false)))))))))))))))))))))
 (.br (decide (0 ≥ (↑x3 : Int)))
 (.ask (.eqB (decide (xe < 0)) false) (.ask (.eqB (decide (xe < 0)) false) (.ask (.eqB (decide (xe < 0)) false) (.ask (.eqB (decide (xe < 0)) false) (.ask (.eqB (decide (xe < 0)) false) (.ask (.eqB (decide (xe < 0)) false) (.ask (.eqB (decide (xe > 0)) false) (.ask (.eqB (decide (xe > 0)) false) (.ask (.eqB (decide (xe > 0)) false) (.ask (.eqB (decide (xe > 0)) false) (.ask (.in64 (xe + 1)) (.ask (.eqB (decide (xe > 0)) false) (.ask (.eqB (decide (xe > 0)) false) (.ask (.eqB (decide (xe > 0)) false) (.ask (.eqB (decide (0 > xe + 1)) false) (.ask (.eqB (decide (0 > xe + 1)) false) (.ask (.eqB (decide (0 > xe + 1)) false) (.ask (.eqB (decide (0 > xe + 1)) false) (.ask (.eqB (decide (0 > xe + 1)) false) (.ask (.eqB (decide (0 > xe + 1)) false) (.ask (.eqB (decide (0 ≥ (↑x3 : Int))) true) (.ask (.eqB (decide (0 ≥ (↑x3 : Int))) true) (.ask (.eqB (decide (0 ≥ (↑x3 : Int))) true) (.ask (.eqB (decide (0 ≥ (↑x3 : Int))) true) (.ask (.eqB (decide (0 ≥ (↑x3 : Int))) true) (.ask (.eqB (decide (0 ≥ (↑x3 : Int))) true) (.ask (.eqB (decide (0 ≥ (↑x3 : Int))) true) (.ask (.eqB (decide (0 ≥ (↑x3 : Int))) true) (.ask (.eqB (decide (0 ≥ (↑x3 : Int))) true) (.ask (.eqB (decide (0 ≥ (↑x3 : Int))) true) (.ret false)))))))))))))))))))))))))))))))
 (.bind (F65 xc xd (dN (cel x4 0)) (dL (cel x4 0))) fun xk =>
 (.br (!xk)
 (.ask (.eqB (decide (xe < 0)) false) (.ask (.eqB (decide (xe < 0)) false) (.ask (.eqB (decide (xe < 0)) false) (.ask (.eqB (decide (xe < 0)) false) (.ask (.eqB (decide (xe < 0)) false) (.ask (.eqB (decide (xe < 0)) false) (.ask (.eqB (decide (xe > 0)) false) (.ask (.eqB (decide (xe > 0)) false) (.ask (.eqB (decide (xe > 0)) false) (.ask (.eqB (decide (xe > 0)) false) (.ask (.in64 (xe + 1)) (.ask (.eqB (decide (xe > 0)) false) (.ask (.eqB (decide (xe > 0)) false) (.ask (.eqB (decide (xe > 0)) false) (.ask (.eqB (decide (0 > xe + 1)) false) (.ask (.eqB (decide (0 > xe + 1)) false) (.ask (.eqB (decide (0 > xe + 1)) false) (.ask (.eqB (decide (0 > xe + 1)) false) (.ask (.eqB (decide (0 > xe + 1)) false) (.ask (.eqB (decide (0 > xe + 1)) false) (.ask (.eqB (decide (0 ≥ (↑x3 : Int))) false) (.ask (.eqB (decide (0 ≥ (↑x3 : Int))) false) (.ask (.eqB (decide (0 ≥ (↑x3 : Int))) false) (.ask (.eqB (decide (0 ≥ (↑x3 : Int))) false) (.ask (.eqB (decide (0 ≥ (↑x3 : Int))) false) (.ask (.lt 0 ((↑x3 : Int))) (.ask (.leN 0 x4.length) (.ask (.eqB (decide (0 ≥ (↑x3 : Int))) false) (.ask (.prop (Option.map AV.d (List.drop 0 x4)[0]? = some (AV.d (DV.sl (dN (cel x4 0)) (dL (cel x4 0)))))) (.ask (.eqB (decide (0 ≥ (↑x3 : Int))) false) (.sees [(.d (.sl xc xd)), (.d (.sl (dN (cel x4 0)) (dL (cel x4 0))))] (.ask (.eqB (decide (0 ≥ (↑x3 : Int))) false) (.ask (.eqB (decide (0 ≥ (↑x3 : Int))) false) (.ask (.eqB (decide (0 ≥ (↑x3 : Int))) false) (.ask (.eqB (!xk) true) (.ask (.eqB (!xk) true) (.ask (.eqB (!xk) true) (.ask (.eqB (!xk) true) (.ask (.eqB (!xk) true) (.ask (.eqB (!xk) true) (.ask (.eqB (!xk) true) (.ask (.eqB (!xk) true) (.ask (.eqB (!xk) true) (.ask (.eqB (!xk) true) (.ret false)))))))))))))))))))))))))))))))))))))))))))))
 (.bind (F65 xf xg (dN (cel x4 (xe.toNat * 1))) (dL (cel x4 (xe.toNat * 1)))) fun xl =>
 (.ask (.eqB (decide (xe < 0)) false) (.ask (.eqB (decide (xe < 0)) false) (.ask (.eqB (decide (xe < 0)) false) (.ask (.eqB (decide (xe < 0)) false) (.ask (.eqB (decide (xe < 0)) false) (.ask (.eqB (decide (xe < 0)) false) (.ask (.eqB (decide (xe > 0)) false) (.ask (.eqB (decide (xe > 0)) false) (.ask (.eqB (decide (xe > 0)) false) (.ask (.eqB (decide (xe > 0)) false) (.ask (.in64 (xe + 1)) (.ask (.eqB (decide (xe > 0)) false) (.ask (.eqB (decide (xe > 0)) false) (.ask (.eqB (decide (xe > 0)) false) (.ask (.eqB (decide (0 > xe + 1)) false) (.ask (.eqB (decide (0 > xe + 1)) false) (.ask (.eqB (decide (0 > xe + 1)) false) (.ask (.eqB (decide (0 > xe + 1)) false) (.ask (.eqB (decide (0 > xe + 1)) false) (.ask (.eqB (decide (0 > xe + 1)) false) (.ask (.eqB (decide (0 ≥ (↑x3 : Int))) false) (.ask (.eqB (decide (0 ≥ (↑x3 : Int))) false) (.ask (.eqB (decide (0 ≥ (↑x3 : Int))) false) (.ask (.eqB (decide (0 ≥ (↑x3 : Int))) false) (.ask (.eqB (decide (0 ≥ (↑x3 : Int))) false) (.ask (.lt 0 ((↑x3 : Int))) (.ask (.leN 0 x4.length) (.ask (.eqB (decide (0 ≥ (↑x3 : Int))) false) (.ask (.prop (Option.map AV.d (List.drop 0 x4)[0]? = some (AV.d (DV.sl (dN (cel x4 0)) (dL (cel x4 0)))))) (.ask (.eqB (decide (0 ≥ (↑x3 : Int))) false) (.sees [(.d (.sl xc xd)), (.d (.sl (dN (cel x4 0)) (dL (cel x4 0))))] (.ask (.eqB (decide (0 ≥ (↑x3 : Int))) false) (.ask (.eqB (decide (0 ≥ (↑x3 : Int))) false) (.ask (.eqB (decide (0 ≥ (↑x3 : Int))) false) (.ask (.eqB (!xk) false) (.ask (.eqB (!xk) false) (.ask (.eqB (!xk) false) (.ask (.eqB (!xk) false) (.ask (.eqB (!xk) false) (.ask (.le 0 xe) (.ask (.lt xe ((↑x3 : Int))) (.ask (.leN (xe.toNat * 1) x4.length) (.ask (.eqB (!xk) false) (.ask (.prop (Option.map AV.d (List.drop (xe.toNat * 1) x4)[0]? = some (AV.d (DV.sl (dN (cel x4 (xe.toNat * 1))) (dL (cel x4 (xe.toNat * 1))))))) (.ask (.eqB (!xk) false) (.sees [(.d (.sl xf xg)), (.d (.sl (dN (cel x4 (xe.toNat * 1))) (dL (cel x4 (xe.toNat * 1)))))] (.ask (.eqB (!xk) false) (.ask (.eqB (!xk) false) (.ask (.eqB (!xk) false) (.br (!xl)
 (.ret false)
 (.ask (.in64 (xb + 1)) (.nxt (.c10 x0 x1 x2 x3 x4 x5 x6 x7 x8 x9 xa (xb + 1) xc xd xe xf xg xh xi xj))))))))))))))))))))))))))))))))))))))))))))))))))))))))))))
 | .c8 x0 x1 x2 x3 x4 x5 x6 x7 x8 x9 xa xb xc xd xe xf => (.br (decide (xb < 0))
 (.ask (.eqB (decide (xb < 0)) true) (.ask (.eqB (decide (xb < 0)) true) (.ask (.eqB (decide (xb < 0)) true) (.ask (.eqB (decide (xb < 0)) true) (.ask (.eqB (decide (xb < 0)) true) (.ask (.eqB (decide (xb < 0)) true) (.ret false)))))))
 (.br (decide (xb > 0))
 (.ask (.eqB (decide (xb < 0)) false) (.ask (.eqB (decide (xb < 0)) false) (.ask (.eqB (decide (xb < 0)) false) (.ask (.eqB (decide (xb < 0)) false) (.ask (.eqB (decide (xb < 0)) false) (.ask (.eqB (decide (xb < 0)) false) (.ask (.eqB (decide (xb > 0)) true) (.ask (.eqB (decide (xb > 0)) true) (.ask (.eqB (decide (xb > 0)) true) (.ask (.eqB (decide (xb > 0)) true) (.ask (.eqB (decide (xb > 0)) true) (.ask (.eqB (decide (xb > 0)) true) (.ask (.eqB (decide (xb > 0)) true) (.ret false))))))))))))))
 (.br (decide (0 > xb + 1))
 (.ask (.eqB (decide (xb < 0)) false) (.ask (.eqB (decide (xb < 0)) false) (.ask (.eqB (decide (xb < 0)) false) (.ask (.eqB (decide (xb < 0)) false) (.ask (.eqB (decide (xb < 0)) false) (.ask (.eqB (decide (xb < 0)) false) (.ask (.eqB (decide (xb > 0)) false) (.ask (.eqB (decide (xb > 0)) false) (.ask (.eqB (decide (xb > 0)) false) (.ask (.eqB (decide (xb > 0)) false) (.ask (.in64 (xb + 1)) (.ask (.eqB (decide (xb > 0)) false) (.ask (.eqB (decide (xb > 0)) false) (.ask (.eqB (decide (xb > 0)) false) (.ask (.eqB (decide (0 > xb + 1)) true) (.ask (.eqB (decide (0 > xb + 1)) true) (.ask (.eqB (decide (0 > xb + 1)) true) (.ask (.eqB (decide (0 > xb + 1)) true) (.ask (.eqB (decide (0 > xb + 1)) true) (.ask (.eqB (decide (0 > xb + 1)) true) (.ret false)))))))))))))))))))))
 (.br (decide (0 ≥ (↑x3 : Int)))
 (.ask (.eqB (decide (xb < 0)) false) (.ask (.eqB (decide (xb < 0)) false) (.ask (.eqB (decide (xb < 0)) false) (.ask (.eqB (decide (xb < 0)) false) (.ask (.eqB (decide (xb < 0)) false) (.ask (.eqB (decide (xb < 0)) false) (.ask (.eqB (decide (xb > 0)) false) (.ask (.eqB (decide (xb > 0)) false) (.ask (.eqB (decide (xb > 0)) false) (.ask (.eqB (decide (xb > 0)) false) (.ask (.in64 (xb + 1)) (.ask (.eqB (decide (xb > 0)) false) (.ask (.eqB (decide (xb > 0)) false) (.ask (.eqB (decide (xb > 0)) false) (.ask (.eqB (decide (0 > xb + 1)) false) (.ask (.eqB (decide (0 > xb + 1)) false) (.ask (.eqB (decide (0 > xb + 1)) false) (.ask (.eqB (decide (0 > xb + 1)) false) (.ask (.eqB (decide (0 > xb + 1)) false) (.ask (.eqB (decide (0 > xb + 1)) false) (.ask (.eqB (decide (0 ≥ (↑x3 : Int))) true) (.ask (.eqB (decide (0 ≥ (↑x3 : Int))) true) (.ask (.eqB (decide (0 ≥ (↑x3 : Int))) true) (.ask (.eqB (decide (0 ≥ (↑x3 : Int))) true) (.ask (.eqB (decide (0 ≥ (↑x3 : Int))) true) (.ask (.eqB (decide (0 ≥ (↑x3 : Int))) true) (.ask (.eqB (decide (0 ≥ (↑x3 : Int))) true) (.ask (.eqB (decide (0 ≥ (↑x3 : Int))) true) (.ask (.eqB (decide (0 ≥ (↑x3 : Int))) true) (.ask (.eqB (decide (0 ≥ (↑x3 : Int))) true) (.ret false)))))))))))))))))))))))))))))))
 (.bind (F65 x9 xa (dN (cel x4 0)) (dL (cel x4 0))) fun xg =>
 (.br (!xg)
 (.ask (.eqB (decide (xb < 0)) false) (.ask (.eqB (decide (xb < 0)) false) (.ask (.eqB (decide (xb < 0)) false) (.ask (.eqB (decide (xb < 0)) false) (.ask (.eqB (decide (xb < 0)) false) (.ask (.eqB (decide (xb < 0)) false) (.ask (.eqB (decide (xb > 0)) false) (.ask (.eqB (decide (xb > 0)) false) (.ask (.eqB (decide (xb > 0)) false) (.ask (.eqB (decide (xb > 0)) false) (.ask (.in64 (xb + 1)) (.ask (.eqB (decide (xb > 0)) false) (.ask (.eqB (decide (xb > 0)) false) (.ask (.eqB (decide (xb > 0)) false) (.ask (.eqB (decide (0 > xb + 1)) false) (.ask (.eqB (decide (0 > xb + 1)) false) (.ask (.eqB (decide (0 > xb + 1)) false) (.ask (.eqB (decide (0 > xb + 1)) false) (.ask (.eqB (decide (0 > xb + 1)) false) (.ask (.eqB (decide (0 > xb + 1)) false) (.ask (.eqB (decide (0 ≥ (↑x3 : Int))) false) (.ask (.eqB (decide (0 ≥ (↑x3 : Int))) false) (.ask (.eqB (decide (0 ≥ (↑x3 : Int))) false) (.ask (.eqB (decide (0 ≥ (↑x3 : Int))) false) (.ask (.eqB (decide (0 ≥ (↑x3 : Int))) false) (.ask (.lt 0 ((↑x3 : Int))) (.ask (.leN 0 x4.length) (.ask (.eqB (decide (0 ≥ (↑x3 : Int))) false) (.ask (.prop (Option.map AV.d (List.drop 0 x4)[0]? = some (AV.d (DV.sl (dN (cel x4 0)) (dL (cel x4 0)))))) (.ask (.eqB (decide (0 ≥ (↑x3 : Int))) false) (.sees [(.d (.sl x9 xa)), (.d (.sl (dN (cel x4 0)) (dL (cel x4 0))))] (.ask (.eqB (decide (0 ≥ (↑x3 : Int))) false) (.ask (.eqB (decide (0 ≥ (↑x3 : Int))) false) (.ask (.eqB (decide (0 ≥ (↑x3 : Int))) false) (.ask (.eqB (!xg) true) (.ask (.eqB (!xg) true) (.ask (.eqB (!xg) true) (.ask (.eqB (!xg) true) (.ask (.eqB (!xg) true) (.ask (.eqB (!xg) true) (.ask (.eqB (!xg) true) (.ask (.eqB (!xg) true) (.ask (.eqB (!xg) true) (.ask (.eqB (!xg) true) (.ret false)))))))))))))))))))))))))))))))))))))))))))))
 (.bind (F65 xc xd (dN (cel x4 (xb.toNat * 1))) (dL (cel x4 (xb.toNat * 1)))) fun xh =>
 (.ask (.eqB (decide (xb < 0)) false) (.ask (.eqB (decide (xb < 0)) false) (.ask (.eqB (decide (xb < 0)) false) (.ask (.eqB (decide (xb < 0)) false) (.ask (.eqB (decide (xb < 0)) false) (.ask (.eqB (decide (xb < 0)) false) (.ask (.eqB (decide (xb > 0)) false) (.ask (.eqB (decide (xb > 0)) false) (.ask (.eqB (decide (xb > 0)) false) (.ask (.eqB (decide (xb > 0)) false) (.ask (.in64 (xb + 1)) (.ask (.eqB (decide (xb > 0)) false) (.ask (.eqB (decide (xb > 0)) false) (.ask (.eqB (decide (xb > 0)) false) (.ask (.eqB (decide (0 > xb + 1)) false) (.ask (.eqB (decide (0 > xb + 1)) false) (.ask (.eqB (decide (0 > xb + 1)) false) (.ask (.eqB (decide (0 > xb + 1)) false) (.ask (.eqB (decide (0 > xb + 1)) false) (.ask (.eqB (decide (0 > xb + 1)) false) (.ask (.eqB (decide (0 ≥ (↑x3 : Int))) false) (.ask (.eqB (decide (0 ≥ (↑x3 : Int))) false) (.ask (.eqB (decide (0 ≥ (↑x3 : Int))) false) (.ask (.eqB (decide (0 ≥ (↑x3 : Int))) false) (.ask (.eqB (decide (0 ≥ (↑x3 : Int))) false) (.ask (.lt 0 ((↑x3 : Int))) (.ask (.leN 0 x4.length) (.ask (.eqB (decide (0 ≥ (↑x3 : Int))) false) (.ask (.prop (Option.map AV.d (List.drop 0 x4)[0]? = some (AV.d (DV.sl (dN (cel x4 0)) (dL (cel x4 0)))))) (.ask (.eqB (decide (0 ≥ (↑x3 : Int))) false) (.sees [(.d (.sl x9 xa)), (.d (.sl (dN (cel x4 0)) (dL (cel x4 0))))] (.ask (.eqB (decide (0 ≥ (↑x3 : Int))) false) (.ask (.eqB (decide (0 ≥ (↑x3 : Int))) false) (.ask (.eqB (decide (0 ≥ (↑x3 : Int))) false) (.ask (.eqB (!xg) false) (.ask (.eqB (!xg) false) (.ask (.eqB (!xg) false) (.ask (.eqB (!xg) false) (.ask (.eqB (!xg) false) (.ask (.le 0 xb) (.ask (.lt xb ((↑x3 : Int))) (.ask (.leN (xb.toNat * 1) x4.length) (.ask (.eqB (!xg) false) (.ask (.prop (Option.map AV.d (List.drop (xb.toNat * 1) x4)[0]? = some (AV.d (DV.sl (dN (cel x4 (xb.toNat * 1))) (dL (cel x4 (xb.toNat * 1))))))) (.ask (.eqB (!xg) false) (.sees [(.d (.sl xc xd)), (.d (.sl (dN (cel x4 (xb.toNat * 1))) (dL (cel x4 (xb.toNat * 1)))))] (.ask (.eqB (!xg) false) (.ask (.eqB (!xg) false) (.ask (.eqB (!xg) false) (.br (!xh)
 (.ret false)
 (.ask (.in64 (x8 + 1)) (.nxt (.c11 x0 x1 x2 x3 x4 x5 x6 x7 (x8 + 1) x9 xa xb xc xd xe xf))))))))))))))))))))))))))))))))))))))))))))))))))))))))))))
 | .c9 x0 x1 x2 x3 x4 x5 x6 x7 x8 x9 xa xb xc xd xe xf xg => (.br (decide (x8 < x7))
 (.ask (.le 0 x8) (.ask (.lt x8 ((↑x5 : Int))) (.ask (.leN (x8.toNat * 2) x6.length) (.ask (.leN 2 ((List.drop (x8.toNat * 2) x6).length)) (.ask (.prop (List.map AV.d (List.take 2 (List.drop (x8.toNat * 2) x6)) = [AV.d (DV.v (Value.int IntKind.u8 (dI (cel x6 (x8.toNat * 2))))), AV.d (DV.v (Value.int IntKind.u8 (dI (cel x6 (x8.toNat * 2 + 1)))))])) (.br ((dI (cel x6 (x8.toNat * 2))).tmod 5 == 0)
 (.nxt (.c12 x0 x1 x2 x3 x4 (IntKind.i64.wrap (dI (cel x6 (x8.toNat * 2 + 1)))) x5 x6 x7 x8 ((↑x0 : Int)) 0 x9 xa xb xc xd xe xf xg))
 (.br ((dI (cel x6 (x8.toNat * 2))).tmod 5 == 1)
 (.ask (.neI ((↑x3 : Int)) 0) (.br ((IntKind.i64.wrap (dI (cel x6 (x8.toNat * 2 + 1)))).tmod (↑x3 : Int) == 0)
 (.ask (.in64 (x8 + 1)) (.nxt (.c9 x0 x1 x2 x3 x4 x5 x6 x7 (x8 + 1) x9 xa xb xc xd xe xf xg)))
 (.bind (F33 (dN (cel x4 (((IntKind.i64.wrap (dI (cel x6 (x8.toNat * 2 + 1)))).tmod (↑x3 : Int)).toNat * 1))) (dL (cel x4 (((IntKind.i64.wrap (dI (cel x6 (x8.toNat * 2 + 1)))).tmod (↑x3 : Int)).toNat * 1)))) fun xh =>
 (.bind (F57 0 xe xf 0 [] ((IntKind.i64.wrap (dI (cel x6 (x8.toNat * 2 + 1)))).tmod (↑x3 : Int)) xh.1 xh.2) fun xi =>
 (.ask (.le 0 ((IntKind.i64.wrap (dI (cel x6 (x8.toNat * 2 + 1)))).tmod (↑x3 : Int))) (.ask (.lt ((IntKind.i64.wrap (dI (cel x6 (x8.toNat * 2 + 1)))).tmod (↑x3 : Int)) ((↑x3 : Int))) (.ask (.leN (((IntKind.i64.wrap (dI (cel x6 (x8.toNat * 2 + 1)))).tmod (↑x3 : Int)).toNat * 1) x4.length) (.ask (.prop (Option.map AV.d (List.drop (((IntKind.i64.wrap (dI (cel x6 (x8.toNat * 2 + 1)))).tmod (↑x3 : Int)).toNat * 1) x4)[0]? = some (AV.d (DV.sl (dN (cel x4 (((IntKind.i64.wrap (dI (cel x6 (x8.toNat * 2 + 1)))).tmod (↑x3 : Int)).toNat * 1))) (dL (cel x4 (((IntKind.i64.wrap (dI (cel x6 (x8.toNat * 2 + 1)))).tmod (↑x3 : Int)).toNat * 1))))))) (.sees [(.d (.sl (dN (cel x4 (((IntKind.i64.wrap (dI (cel x6 (x8.toNat * 2 + 1)))).tmod (↑x3 : Int)).toNat * 1))) (dL (cel x4 (((IntKind.i64.wrap (dI (cel x6 (x8.toNat * 2 + 1)))).tmod (↑x3 : Int)).toNat * 1)))))] (.sees [(.agg [(aI 0), (.d (.sl xe xf)), (.d (.sl 0 []))]), (aI ((IntKind.i64.wrap (dI (cel x6 (x8.toNat * 2 + 1)))).tmod (↑x3 : Int))), (.d (.sl xh.1 xh.2))] (.br (decide ((IntKind.i64.wrap (dI (cel x6 (x8.toNat * 2 + 1)))).tmod (↑x3 : Int) > 1))
 (.br (xi.2.2.2.2.2.2 != 7)
 (.ret false)
 (.ask (.in64 (x8 + 1)) (.nxt (.c9 x0 x1 x2 x3 x4 x5 x6 x7 (x8 + 1) x9 xa xb xc xd xe xf xg))))
 (.br (xi.2.2.2.2.2.2 != 0)
 (.ret false)
 (.ask (.eqB ((xi.2.2.2.2.2.2 != 0) == false) true) (.br (decide (xi.2.2.2.2.2.1 < 0))
 (.ret false)
 (.ask (.eqB (decide (xi.2.2.2.2.2.1 < 0) == false) true) (.br (decide (xi.2.2.2.2.2.1 > 1))
 (.ret false)
 (.br (xi.1 != 0)
 (.ret false)
 (.nxt (.c13 x0 x1 x2 x3 x4 0 1 [(vI xi.2.2.2.2.2.1)] x5 x6 x7 x8 x9 xa xb xc xd xi.1 xi.2.1 xi.2.2.1 xi.2.2.2.1 xi.2.2.2.2.1 xg 0)))))))))))))))))))
 (.br ((dI (cel x6 (x8.toNat * 2))).tmod 5 == 2)
 (.ask (.in64 (x8 + 1)) (.nxt (.c9 x0 x1 x2 x3 x4 x5 x6 x7 (x8 + 1) x9 xa xb xc xd xe xf xg)))
 (.br ((dI (cel x6 (x8.toNat * 2))).tmod 5 == 3)
 (.bind (F59 0 xe xf 0 [] x9) fun xj =>
 (.sees [(.agg [(aI 0), (.d (.sl xe xf)), (.d (.sl 0 []))]), (aI x9)] (.br (xj.2.2.2.2.2.2.2 != 0)
 (.ret false)
 (.ask (.eqB ((xj.2.2.2.2.2.2.2 != 0) == false) true) (.bind (F65 xj.2.2.2.2.2.1 xj.2.2.2.2.2.2.1 xa xb) fun xk =>
 (.sees [(.d (.sl xj.2.2.2.2.2.1 xj.2.2.2.2.2.2.1)), (.d (.sl xa xb))] (.br (!xk)
 (.ret false)
 (.br (xj.1 != x9)
 (.ret false)
 (.nxt (.c14 x0 x1 x2 x3 x4 x5 x6 x7 x8 x9 xa xb xc xd xj.1 xj.2.1 xj.2.2.1 xj.2.2.2.1 xj.2.2.2.2.1 xg))))))))))
 (.ask (.in64 (x9 + 1)) (.ask (.neI (x9 + 1) 0) (.bind (F59 0 xe xf 0 [] ((IntKind.i64.wrap (dI (cel x6 (x8.toNat * 2 + 1)))).tmod (x9 + 1))) fun xl =>
 (.sees [(.agg [(aI 0), (.d (.sl xe xf)), (.d (.sl 0 []))]), (aI ((IntKind.i64.wrap (dI (cel x6 (x8.toNat * 2 + 1)))).tmod (x9 + 1)))] (.br (xl.2.2.2.2.2.2.2 == 35)
 (.ask (.eqB ((xl.2.2.2.2.2.2.2 == 35) == true) true) (.br (decide ((IntKind.i64.wrap (dI (cel x6 (x8.toNat * 2 + 1)))).tmod (x9 + 1) < 0))
 (.ask (.in64 (x8 + 1)) (.nxt (.c9 x0 x1 x2 x3 x4 x5 x6 x7 (x8 + 1) x9 xa xb xc xd xe xf xg)))
 (.br (xl.2.2.2.2.2.2.2 != 0)
 (.ret false)
 (.ask (.le 0 ((IntKind.i64.wrap (dI (cel x6 (x8.toNat * 2 + 1)))).tmod (x9 + 1))) (.ask (.lt ((IntKind.i64.wrap (dI (cel x6 (x8.toNat * 2 + 1)))).tmod (x9 + 1)) ((↑x3 : Int))) (.ask (.leN (((IntKind.i64.wrap (dI (cel x6 (x8.toNat * 2 + 1)))).tmod (x9 + 1)).toNat * 1) x4.length) (.ask (.prop (Option.map AV.d (List.drop (((IntKind.i64.wrap (dI (cel x6 (x8.toNat * 2 + 1)))).tmod (x9 + 1)).toNat * 1) x4)[0]? = some (AV.d (DV.sl (dN (cel x4 (((IntKind.i64.wrap (dI (cel x6 (x8.toNat * 2 + 1)))).tmod (x9 + 1)).toNat * 1))) (dL (cel x4 (((IntKind.i64.wrap (dI (cel x6 (x8.toNat * 2 + 1)))).tmod (x9 + 1)).toNat * 1))))))) (.ask (.eqB ((xl.2.2.2.2.2.2.2 != 0) == false) true) (.bind (F65 xl.2.2.2.2.2.1 xl.2.2.2.2.2.2.1 (dN (cel x4 (((IntKind.i64.wrap (dI (cel x6 (x8.toNat * 2 + 1)))).tmod (x9 + 1)).toNat * 1))) (dL (cel x4 (((IntKind.i64.wrap (dI (cel x6 (x8.toNat * 2 + 1)))).tmod (x9 + 1)).toNat * 1)))) fun xm =>
 (.sees [(.d (.sl xl.2.2.2.2.2.1 xl.2.2.2.2.2.2.1)), (.d (.sl (dN (cel x4 (((IntKind.i64.wrap (dI (cel x6 (x8.toNat * 2 + 1)))).tmod (x9 + 1)).toNat * 1))) (dL (cel x4 (((IntKind.i64.wrap (dI (cel x6 (x8.toNat * 2 + 1)))).tmod (x9 + 1)).toNat * 1)))))] (.br (!xm)
 (.ret false)
 (.nxt (.c14 x0 x1 x2 x3 x4 x5 x6 x7 x8 x9 xa xb xc xd xl.1 xl.2.1 xl.2.2.1 xl.2.2.2.1 xl.2.2.2.2.1 xg)))))))))))))
 (.br (xl.2.2.2.2.2.2.2 != 0)
 (.ret false)
 (.ask (.le 0 ((IntKind.i64.wrap (dI (cel x6 (x8.toNat * 2 + 1)))).tmod (x9 + 1))) (.ask (.lt ((IntKind.i64.wrap (dI (cel x6 (x8.toNat * 2 + 1)))).tmod (x9 + 1)) ((↑x3 : Int))) (.ask (.leN (((IntKind.i64.wrap (dI (cel x6 (x8.toNat * 2 + 1)))).tmod (x9 + 1)).toNat * 1) x4.length) (.ask (.prop (Option.map AV.d (List.drop (((IntKind.i64.wrap (dI (cel x6 (x8.toNat * 2 + 1)))).tmod (x9 + 1)).toNat * 1) x4)[0]? = some (AV.d (DV.sl (dN (cel x4 (((IntKind.i64.wrap (dI (cel x6 (x8.toNat * 2 + 1)))).tmod (x9 + 1)).toNat * 1))) (dL (cel x4 (((IntKind.i64.wrap (dI (cel x6 (x8.toNat * 2 + 1)))).tmod (x9 + 1)).toNat * 1))))))) (.ask (.eqB ((xl.2.2.2.2.2.2.2 != 0) == false) true) (.bind (F65 xl.2.2.2.2.2.1 xl.2.2.2.2.2.2.1 (dN (cel x4 (((IntKind.i64.wrap (dI (cel x6 (x8.toNat * 2 + 1)))).tmod (x9 + 1)).toNat * 1))) (dL (cel x4 (((IntKind.i64.wrap (dI (cel x6 (x8.toNat * 2 + 1)))).tmod (x9 + 1)).toNat * 1)))) fun xn =>
 (.sees [(.d (.sl xl.2.2.2.2.2.1 xl.2.2.2.2.2.2.1)), (.d (.sl (dN (cel x4 (((IntKind.i64.wrap (dI (cel x6 (x8.toNat * 2 + 1)))).tmod (x9 + 1)).toNat * 1))) (dL (cel x4 (((IntKind.i64.wrap (dI (cel x6 (x8.toNat * 2 + 1)))).tmod (x9 + 1)).toNat * 1)))))] (.br (!xn)
 (.ret false)
 (.nxt (.c14 x0 x1 x2 x3 x4 x5 x6 x7 x8 x9 xa xb xc xd xl.1 xl.2.1 xl.2.2.1 xl.2.2.2.1 xl.2.2.2.2.1 xg)))))))))))))))))))))))))
 (.ret true))
 | .c10 x0 x1 x2 x3 x4 x5 x6 x7 x8 x9 xa xb xc xd xe xf xg xh xi xj => (.br (decide (xb < xa))
 (.ask (.le 0 xb) (.ask (.lt xb ((↑x8 : Int))) (.ask (.leN (xb.toNat * 2) x9.length) (.ask (.leN 2 ((List.drop (xb.toNat * 2) x9).length)) (.ask (.prop (List.map AV.d (List.take 2 (List.drop (xb.toNat * 2) x9)) = [AV.d (DV.v (Value.int IntKind.u8 (dI (cel x9 (xb.toNat * 2))))), AV.d (DV.v (Value.int IntKind.u8 (dI (cel x9 (xb.toNat * 2 + 1)))))])) (.br ((dI (cel x9 (xb.toNat * 2))).tmod 5 == 0)
 (.nxt (.c15 x0 x1 x2 x3 x4 x5 x6 x7 (IntKind.i64.wrap (dI (cel x9 (xb.toNat * 2 + 1)))) x8 x9 xa xb ((↑x0 : Int)) 0 xc xd xe xf xg xh xi xj))
 (.br ((dI (cel x9 (xb.toNat * 2))).tmod 5 == 1)
 (.ask (.neI ((↑x3 : Int)) 0) (.br ((IntKind.i64.wrap (dI (cel x9 (xb.toNat * 2 + 1)))).tmod (↑x3 : Int) == 0)
 (.ask (.in64 (xb + 1)) (.nxt (.c10 x0 x1 x2 x3 x4 x5 x6 x7 x8 x9 xa (xb + 1) xc xd xe xf xg xh xi xj)))
 (.bind (F33 (dN (cel x4 (((IntKind.i64.wrap (dI (cel x9 (xb.toNat * 2 + 1)))).tmod (↑x3 : Int)).toNat * 1))) (dL (cel x4 (((IntKind.i64.wrap (dI (cel x9 (xb.toNat * 2 + 1)))).tmod (↑x3 : Int)).toNat * 1)))) fun xk =>
 (.bind (F57 xe xf xg xh xi ((IntKind.i64.wrap (dI (cel x9 (xb.toNat * 2 + 1)))).tmod (↑x3 : Int)) xk.1 xk.2) fun xl =>
 (.ask (.le 0 ((IntKind.i64.wrap (dI (cel x9 (xb.toNat * 2 + 1)))).tmod (↑x3 : Int))) (.ask (.lt ((IntKind.i64.wrap (dI (cel x9 (xb.toNat * 2 + 1)))).tmod (↑x3 : Int)) ((↑x3 : Int))) (.ask (.leN (((IntKind.i64.wrap (dI (cel x9 (xb.toNat * 2 + 1)))).tmod (↑x3 : Int)).toNat * 1) x4.length) (.ask (.prop (Option.map AV.d (List.drop (((IntKind.i64.wrap (dI (cel x9 (xb.toNat * 2 + 1)))).tmod (↑x3 : Int)).toNat * 1) x4)[0]? = some (AV.d (DV.sl (dN (cel x4 (((IntKind.i64.wrap (dI (cel x9 (xb.toNat * 2 + 1)))).tmod (↑x3 : Int)).toNat * 1))) (dL (cel x4 (((IntKind.i64.wrap (dI (cel x9 (xb.toNat * 2 + 1)))).tmod (↑x3 : Int)).toNat * 1))))))) (.sees [(.d (.sl (dN (cel x4 (((IntKind.i64.wrap (dI (cel x9 (xb.toNat * 2 + 1)))).tmod (↑x3 : Int)).toNat * 1))) (dL (cel x4 (((IntKind.i64.wrap (dI (cel x9 (xb.toNat * 2 + 1)))).tmod (↑x3 : Int)).toNat * 1)))))] (.sees [(.agg [(aI xe), (.d (.sl xf xg)), (.d (.sl xh xi))]), (aI ((IntKind.i64.wrap (dI (cel x9 (xb.toNat * 2 + 1)))).tmod (↑x3 : Int))), (.d (.sl xk.1 xk.2))] (.ask (.in64 (xe + 1)) (.br (decide ((IntKind.i64.wrap (dI (cel x9 (xb.toNat * 2 + 1)))).tmod (↑x3 : Int) > xe + 1))
 (.br (xl.2.2.2.2.2.2 != 7)
 (.ret false)
 (.ask (.in64 (xb + 1)) (.nxt (.c10 x0 x1 x2 x3 x4 x5 x6 x7 x8 x9 xa (xb + 1) xc xd xe xf xg xh xi xj))))
 (.br (xl.2.2.2.2.2.2 != 0)
 (.ret false)
 (.ask (.eqB ((xl.2.2.2.2.2.2 != 0) == false) true) (.br (decide (xl.2.2.2.2.2.1 < xe))
 (.ret false)
 (.ask (.in64 (xe + 1)) (.ask (.eqB (decide (xl.2.2.2.2.2.1 < xe) == false) true) (.br (decide (xl.2.2.2.2.2.1 > xe + 1))
 (.ret false)
 (.br (xl.1 != xe)
 (.ret false)
 (.ask (.eqN x5 xj) (.ask (.fits (x6 + 1) 8) (.nxt (.c3 x0 x1 x2 x3 x4 (xj + 1) (x6 + 1) (x7 ++ [vI xl.2.2.2.2.2.1]) x8 x9 xa xb xc xd xl.1 xl.2.1 xl.2.2.1 xl.2.2.2.1 xl.2.2.2.2.1 (xj + 1))))))))))))))))))))))))
 (.br ((dI (cel x9 (xb.toNat * 2))).tmod 5 == 2)
 (.br ((↑x6 : Int) == 0)
 (.ask (.in64 (xb + 1)) (.nxt (.c10 x0 x1 x2 x3 x4 x5 x6 x7 x8 x9 xa (xb + 1) xc xd xe xf xg xh xi xj)))
 (.bind (F49 0 xc xd 0 [] (dI (cel x7 (((IntKind.i64.wrap (dI (cel x9 (xb.toNat * 2 + 1)))).tmod (↑x6 : Int)).toNat * 1)))) fun xm =>
 (.ask (.neI ((↑x6 : Int)) 0) (.ask (.le 0 ((IntKind.i64.wrap (dI (cel x9 (xb.toNat * 2 + 1)))).tmod (↑x6 : Int))) (.ask (.lt ((IntKind.i64.wrap (dI (cel x9 (xb.toNat * 2 + 1)))).tmod (↑x6 : Int)) ((↑x6 : Int))) (.ask (.leN (((IntKind.i64.wrap (dI (cel x9 (xb.toNat * 2 + 1)))).tmod (↑x6 : Int)).toNat * 1) x7.length) (.ask (.prop (Option.map AV.d (List.drop (((IntKind.i64.wrap (dI (cel x9 (xb.toNat * 2 + 1)))).tmod (↑x6 : Int)).toNat * 1) x7)[0]? = some (AV.d (vI (dI (cel x7 (((IntKind.i64.wrap (dI (cel x9 (xb.toNat * 2 + 1)))).tmod (↑x6 : Int)).toNat * 1))))))) (.sees [(.agg [(aI 0), (.d (.sl xc xd)), (.d (.sl 0 []))]), (aI (dI (cel x7 (((IntKind.i64.wrap (dI (cel x9 (xb.toNat * 2 + 1)))).tmod (↑x6 : Int)).toNat * 1))))] (.br (xm.2.2.2.2.2 != 0)
 (.ask (.eqB (xm.2.2.2.2.2 != 0) true) (.ask (.eqB (xm.2.2.2.2.2 != 0) true) (.ask (.eqB (xm.2.2.2.2.2 != 0) true) (.ask (.eqB (xm.2.2.2.2.2 != 0) true) (.ask (.eqB (xm.2.2.2.2.2 != 0) true) (.ask (.eqB (xm.2.2.2.2.2 != 0) true) (.ret false)))))))
 (.br (decide (xm.1 < 0))
 (.ask (.eqB (xm.2.2.2.2.2 != 0) false) (.ask (.eqB (xm.2.2.2.2.2 != 0) false) (.ask (.eqB (xm.2.2.2.2.2 != 0) false) (.ask (.eqB (xm.2.2.2.2.2 != 0) false) (.ask (.eqB (xm.2.2.2.2.2 != 0) false) (.ask (.eqB (xm.2.2.2.2.2 != 0) false) (.ask (.eqB (decide (xm.1 < 0)) true) (.ask (.eqB (decide (xm.1 < 0)) true) (.ask (.eqB (decide (xm.1 < 0)) true) (.ask (.eqB (decide (xm.1 < 0)) true) (.ask (.eqB (decide (xm.1 < 0)) true) (.ask (.eqB (decide (xm.1 < 0)) true) (.ask (.eqB (decide (xm.1 < 0)) true) (.ret false))))))))))))))
 (.br (decide (xm.1 > 1))
 (.ask (.eqB (xm.2.2.2.2.2 != 0) false) (.ask (.eqB (xm.2.2.2.2.2 != 0) false) (.ask (.eqB (xm.2.2.2.2.2 != 0) false) (.ask (.eqB (xm.2.2.2.2.2 != 0) false) (.ask (.eqB (xm.2.2.2.2.2 != 0) false) (.ask (.eqB (xm.2.2.2.2.2 != 0) false) (.ask (.eqB (decide (xm.1 < 0)) false) (.ask (.eqB (decide (xm.1 < 0)) false) (.ask (.eqB (decide (xm.1 < 0)) false) (.ask (.eqB (decide (xm.1 < 0)) false) (.ask (.eqB (decide (xm.1 < 0)) false) (.ask (.eqB (decide (xm.1 < 0)) false) (.ask (.eqB (decide (xm.1 < 0)) false) (.ask (.eqB (decide (xm.1 > 1)) true) (.ask (.eqB (decide (xm.1 > 1)) true) (.ask (.eqB (decide (xm.1 > 1)) true) (.ask (.eqB (decide (xm.1 > 1)) true) (.ask (.eqB (decide (xm.1 > 1)) true) (.ask (.eqB (decide (xm.1 > 1)) true) (.ret false))))))))))))))))))))
 (.br (decide (xm.1 ≥ (↑x3 : Int)))
 (.ask (.eqB (xm.2.2.2.2.2 != 0) false) (.ask (.eqB (xm.2.2.2.2.2 != 0) false) (.ask (.eqB (xm.2.2.2.2.2 != 0) false) (.ask (.eqB (xm.2.2.2.2.2 != 0) false) (.ask (.eqB (xm.2.2.2.2.2 != 0) false) (.ask (.eqB (xm.2.2.2.2.2 != 0) false) (.ask (.eqB (decide (xm.1 < 0)) false) (.ask (.eqB (decide (xm.1 < 0)) false) (.ask (.eqB (decide (xm.1 < 0)) false) (.ask (.eqB (decide (xm.1 < 0)) false) (.ask (.eqB (decide (xm.1 < 0)) false) (.ask (.eqB (decide (xm.1 < 0)) false) (.ask (.eqB (decide (xm.1 < 0)) false) (.ask (.eqB (decide (xm.1 > 1)) false) (.ask (.eqB (decide (xm.1 > 1)) false) (.ask (.eqB (decide (xm.1 > 1)) false) (.ask (.eqB (decide (xm.1 > 1)) false) (.ask (.eqB (decide (xm.1 > 1)) false) (.ask (.eqB (decide (xm.1 > 1)) false) (.ask (.eqB (decide (xm.1 ≥ (↑x3 : Int))) true) (.ask (.eqB (decide (xm.1 ≥ (↑x3 : Int))) true) (.ask (.eqB (decide (xm.1 ≥ (↑x3 : Int))) true) (.ask (.eqB (decide (xm.1 ≥ (↑x3 : Int))) true) (.ask (.eqB (decide (xm.1 ≥ (↑x3 : Int))) true) (.ask (.eqB (decide (xm.1 ≥ (↑x3 : Int))) true) (.ask (.eqB (decide (xm.1 ≥ (↑x3 : Int))) true) (.ask (.eqB (decide (xm.1 ≥ (↑x3 : Int))) true) (.ask (.eqB (decide (xm.1 ≥ (↑x3 : Int))) true) (.ask (.eqB (decide (xm.1 ≥ (↑x3 : Int))) true) (.ret false))))))))))))))))))))))))))))))
 (.bind (F65 xm.2.1 xm.2.2.1 (dN (cel x4 (xm.1.toNat * 1))) (dL (cel x4 (xm.1.toNat * 1)))) fun xn =>
 (.ask (.eqB (xm.2.2.2.2.2 != 0) false) (.ask (.eqB (xm.2.2.2.2.2 != 0) false) (.ask (.eqB (xm.2.2.2.2.2 != 0) false) (.ask (.eqB (xm.2.2.2.2.2 != 0) false) (.ask (.eqB (xm.2.2.2.2.2 != 0) false) (.ask (.eqB (xm.2.2.2.2.2 != 0) false) (.ask (.eqB (decide (xm.1 < 0)) false) (.ask (.eqB (decide (xm.1 < 0)) false) (.ask (.eqB (decide (xm.1 < 0)) false) (.ask (.eqB (decide (xm.1 < 0)) false) (.ask (.eqB (decide (xm.1 < 0)) false) (.ask (.eqB (decide (xm.1 < 0)) false) (.ask (.eqB (decide (xm.1 < 0)) false) (.ask (.eqB (decide (xm.1 > 1)) false) (.ask (.eqB (decide (xm.1 > 1)) false) (.ask (.eqB (decide (xm.1 > 1)) false) (.ask (.eqB (decide (xm.1 > 1)) false) (.ask (.eqB (decide (xm.1 > 1)) false) (.ask (.eqB (decide (xm.1 > 1)) false) (.ask (.eqB (decide (xm.1 ≥ (↑x3 : Int))) false) (.ask (.eqB (decide (xm.1 ≥ (↑x3 : Int))) false) (.ask (.eqB (decide (xm.1 ≥ (↑x3 : Int))) false) (.ask (.eqB (decide (xm.1 ≥ (↑x3 : Int))) false) (.ask (.eqB (decide (xm.1 ≥ (↑x3 : Int))) false) (.ask (.le 0 xm.1) (.ask (.lt xm.1 ((↑x3 : Int))) (.ask (.leN (xm.1.toNat * 1) x4.length) (.ask (.eqB (decide (xm.1 ≥ (↑x3 : Int))) false) (.ask (.prop (Option.map AV.d (List.drop (xm.1.toNat * 1) x4)[0]? = some (AV.d (DV.sl (dN (cel x4 (xm.1.toNat * 1))) (dL (cel x4 (xm.1.toNat * 1))))))) (.ask (.eqB (decide (xm.1 ≥ (↑x3 : Int))) false) (.sees [(.d (.sl xm.2.1 xm.2.2.1)), (.d (.sl (dN (cel x4 (xm.1.toNat * 1))) (dL (cel x4 (xm.1.toNat * 1)))))] (.ask (.eqB (decide (xm.1 ≥ (↑x3 : Int))) false) (.ask (.eqB (decide (xm.1 ≥ (↑x3 : Int))) false) (.ask (.eqB (decide (xm.1 ≥ (↑x3 : Int))) false) (.br (!xn)
 (.ret false)
 (.nxt (.c13 x0 x1 x2 x3 x4 x5 x6 x7 x8 x9 xa xb xm.1 xm.2.1 xm.2.2.1 xm.2.2.2.1 xm.2.2.2.2.1 xe xf xg xh xi 0 xj))))))))))))))))))))))))))))))))))))))))))))))))))
 (.br ((dI (cel x9 (xb.toNat * 2))).tmod 5 == 3)
 (.bind (F59 xe xf xg xh xi 0) fun xo =>
 (.sees [(.agg [(aI xe), (.d (.sl xf xg)), (.d (.sl xh xi))]), (aI 0)] (.br (xo.2.2.2.2.2.2.2 != 0)
 (.ret false)
 (.ask (.eqB ((xo.2.2.2.2.2.2.2 != 0) == false) true) (.bind (F65 xo.2.2.2.2.2.1 xo.2.2.2.2.2.2.1 xc xd) fun xp =>
 (.sees [(.d (.sl xo.2.2.2.2.2.1 xo.2.2.2.2.2.2.1)), (.d (.sl xc xd))] (.br (!xp)
 (.ret false)
 (.br (xo.1 != 0)
 (.ret false)
 (.nxt (.c3 x0 x1 x2 x3 x4 x5 x6 x7 x8 x9 xa xb xc xd xo.1 xo.2.1 xo.2.2.1 xo.2.2.2.1 xo.2.2.2.2.1 xj))))))))))
 (.bind (F59 xe xf xg xh xi ((IntKind.i64.wrap (dI (cel x9 (xb.toNat * 2 + 1)))).tmod 1)) fun xq =>
 (.sees [(.agg [(aI xe), (.d (.sl xf xg)), (.d (.sl xh xi))]), (aI ((IntKind.i64.wrap (dI (cel x9 (xb.toNat * 2 + 1)))).tmod 1))] (.br (xq.2.2.2.2.2.2.2 == 35)
 (.ask (.eqB ((xq.2.2.2.2.2.2.2 == 35) == true) true) (.br (decide ((IntKind.i64.wrap (dI (cel x9 (xb.toNat * 2 + 1)))).tmod 1 < xe))
 (.ask (.in64 (xb + 1)) (.nxt (.c10 x0 x1 x2 x3 x4 x5 x6 x7 x8 x9 xa (xb + 1) xc xd xe xf xg xh xi xj)))
 (.br (xq.2.2.2.2.2.2.2 != 0)
 (.ret false)
 (.ask (.le 0 ((IntKind.i64.wrap (dI (cel x9 (xb.toNat * 2 + 1)))).tmod 1)) (.ask (.lt ((IntKind.i64.wrap (dI (cel x9 (xb.toNat * 2 + 1)))).tmod 1) ((↑x3 : Int))) (.ask (.leN (((IntKind.i64.wrap (dI (cel x9 (xb.toNat * 2 + 1)))).tmod 1).toNat * 1) x4.length) (.ask (.prop (Option.map AV.d (List.drop (((IntKind.i64.wrap (dI (cel x9 (xb.toNat * 2 + 1)))).tmod 1).toNat * 1) x4)[0]? = some (AV.d (DV.sl (dN (cel x4 (((IntKind.i64.wrap (dI (cel x9 (xb.toNat * 2 + 1)))).tmod 1).toNat * 1))) (dL (cel x4 (((IntKind.i64.wrap (dI (cel x9 (xb.toNat * 2 + 1)))).tmod 1).toNat * 1))))))) (.ask (.eqB ((xq.2.2.2.2.2.2.2 != 0) == false) true) (.bind (F65 xq.2.2.2.2.2.1 xq.2.2.2.2.2.2.1 (dN (cel x4 (((IntKind.i64.wrap (dI (cel x9 (xb.toNat * 2 + 1)))).tmod 1).toNat * 1))) (dL (cel x4 (((IntKind.i64.wrap (dI (cel x9 (xb.toNat * 2 + 1)))).tmod 1).toNat * 1)))) fun xr =>
 (.sees [(.d (.sl xq.2.2.2.2.2.1 xq.2.2.2.2.2.2.1)), (.d (.sl (dN (cel x4 (((IntKind.i64.wrap (dI (cel x9 (xb.toNat * 2 + 1)))).tmod 1).toNat * 1))) (dL (cel x4 (((IntKind.i64.wrap (dI (cel x9 (xb.toNat * 2 + 1)))).tmod 1).toNat * 1)))))] (.br (!xr)
 (.ret false)
 (.nxt (.c3 x0 x1 x2 x3 x4 x5 x6 x7 x8 x9 xa xb xc xd xq.1 xq.2.1 xq.2.2.1 xq.2.2.2.1 xq.2.2.2.2.1 xj)))))))))))))
 (.br (xq.2.2.2.2.2.2.2 != 0)
 (.ret false)
 (.ask (.le 0 ((IntKind.i64.wrap (dI (cel x9 (xb.toNat * 2 + 1)))).tmod 1)) (.ask (.lt ((IntKind.i64.wrap (dI (cel x9 (xb.toNat * 2 + 1)))).tmod 1) ((↑x3 : Int))) (.ask (.leN (((IntKind.i64.wrap (dI (cel x9 (xb.toNat * 2 + 1)))).tmod 1).toNat * 1) x4.length) (.ask (.prop (Option.map AV.d (List.drop (((IntKind.i64.wrap (dI (cel x9 (xb.toNat * 2 + 1)))).tmod 1).toNat * 1) x4)[0]? = some (AV.d (DV.sl (dN (cel x4 (((IntKind.i64.wrap (dI (cel x9 (xb.toNat * 2 + 1)))).tmod 1).toNat * 1))) (dL (cel x4 (((IntKind.i64.wrap (dI (cel x9 (xb.toNat * 2 + 1)))).tmod 1).toNat * 1))))))) (.ask (.eqB ((xq.2.2.2.2.2.2.2 != 0) == false) true) (.bind (F65 xq.2.2.2.2.2.1 xq.2.2.2.2.2.2.1 (dN (cel x4 (((IntKind.i64.wrap (dI (cel x9 (xb.toNat * 2 + 1)))).tmod 1).toNat * 1))) (dL (cel x4 (((IntKind.i64.wrap (dI (cel x9 (xb.toNat * 2 + 1)))).tmod 1).toNat * 1)))) fun xs =>
 (.sees [(.d (.sl xq.2.2.2.2.2.1 xq.2.2.2.2.2.2.1)), (.d (.sl (dN (cel x4 (((IntKind.i64.wrap (dI (cel x9 (xb.toNat * 2 + 1)))).tmod 1).toNat * 1))) (dL (cel x4 (((IntKind.i64.wrap (dI (cel x9 (xb.toNat * 2 + 1)))).tmod 1).toNat * 1)))))] (.br (!xs)
 (.ret false)
 (.nxt (.c3 x0 x1 x2 x3 x4 x5 x6 x7 x8 x9 xa xb xc xd xq.1 xq.2.1 xq.2.2.1 xq.2.2.2.1 xq.2.2.2.2.1 xj)))))))))))))))))))))))
 (.ret true))
 | .c11 x0 x1 x2 x3 x4 x5 x6 x7 x8 x9 xa xb xc xd xe xf => (.br (decide (x8 < x7))
 (.ask (.le 0 x8) (.ask (.lt x8 ((↑x5 : Int))) (.ask (.leN (x8.toNat * 2) x6.length) (.ask (.leN 2 ((List.drop (x8.toNat * 2) x6).length)) (.ask (.prop (List.map AV.d (List.take 2 (List.drop (x8.toNat * 2) x6)) = [AV.d (DV.v (Value.int IntKind.u8 (dI (cel x6 (x8.toNat * 2))))), AV.d (DV.v (Value.int IntKind.u8 (dI (cel x6 (x8.toNat * 2 + 1)))))])) (.br ((dI (cel x6 (x8.toNat * 2))).tmod 5 == 0)
 (.nxt (.c16 x0 x1 x2 x3 x4 (IntKind.i64.wrap (dI (cel x6 (x8.toNat * 2 + 1)))) x5 x6 x7 x8 ((↑x0 : Int)) 0 x9 xa xb xc xd xe xf))
 (.br ((dI (cel x6 (x8.toNat * 2))).tmod 5 == 1)
 (.ask (.neI ((↑x3 : Int)) 0) (.br ((IntKind.i64.wrap (dI (cel x6 (x8.toNat * 2 + 1)))).tmod (↑x3 : Int) == 0)
 (.ask (.in64 (x8 + 1)) (.nxt (.c11 x0 x1 x2 x3 x4 x5 x6 x7 (x8 + 1) x9 xa xb xc xd xe xf)))
 (.bind (F33 (dN (cel x4 (((IntKind.i64.wrap (dI (cel x6 (x8.toNat * 2 + 1)))).tmod (↑x3 : Int)).toNat * 1))) (dL (cel x4 (((IntKind.i64.wrap (dI (cel x6 (x8.toNat * 2 + 1)))).tmod (↑x3 : Int)).toNat * 1)))) fun xg =>
 (.bind (F57 xb xc xd xe xf ((IntKind.i64.wrap (dI (cel x6 (x8.toNat * 2 + 1)))).tmod (↑x3 : Int)) xg.1 xg.2) fun xh =>
 (.ask (.le 0 ((IntKind.i64.wrap (dI (cel x6 (x8.toNat * 2 + 1)))).tmod (↑x3 : Int))) (.ask (.lt ((IntKind.i64.wrap (dI (cel x6 (x8.toNat * 2 + 1)))).tmod (↑x3 : Int)) ((↑x3 : Int))) (.ask (.leN (((IntKind.i64.wrap (dI (cel x6 (x8.toNat * 2 + 1)))).tmod (↑x3 : Int)).toNat * 1) x4.length) (.ask (.prop (Option.map AV.d (List.drop (((IntKind.i64.wrap (dI (cel x6 (x8.toNat * 2 + 1)))).tmod (↑x3 : Int)).toNat * 1) x4)[0]? = some (AV.d (DV.sl (dN (cel x4 (((IntKind.i64.wrap (dI (cel x6 (x8.toNat * 2 + 1)))).tmod (↑x3 : Int)).toNat * 1))) (dL (cel x4 (((IntKind.i64.wrap (dI (cel x6 (x8.toNat * 2 + 1)))).tmod (↑x3 : Int)).toNat * 1))))))) (.sees [(.d (.sl (dN (cel x4 (((IntKind.i64.wrap (dI (cel x6 (x8.toNat * 2 + 1)))).tmod (↑x3 : Int)).toNat * 1))) (dL (cel x4 (((IntKind.i64.wrap (dI (cel x6 (x8.toNat * 2 + 1)))).tmod (↑x3 : Int)).toNat * 1)))))] (.sees [(.agg [(aI xb), (.d (.sl xc xd)), (.d (.sl xe xf))]), (aI ((IntKind.i64.wrap (dI (cel x6 (x8.toNat * 2 + 1)))).tmod (↑x3 : Int))), (.d (.sl xg.1 xg.2))] (.ask (.in64 (xb + 1)) (.br (decide ((IntKind.i64.wrap (dI (cel x6 (x8.toNat * 2 + 1)))).tmod (↑x3 : Int) > xb + 1))
 (.br (xh.2.2.2.2.2.2 != 7)
 (.ret false)
 (.ask (.in64 (x8 + 1)) (.nxt (.c11 x0 x1 x2 x3 x4 x5 x6 x7 (x8 + 1) x9 xa xb xc xd xe xf))))
 (.br (xh.2.2.2.2.2.2 != 0)
 (.ret false)
 (.ask (.eqB ((xh.2.2.2.2.2.2 != 0) == false) true) (.br (decide (xh.2.2.2.2.2.1 < xb))
 (.ret false)
 (.ask (.in64 (xb + 1)) (.ask (.eqB (decide (xh.2.2.2.2.2.1 < xb) == false) true) (.br (decide (xh.2.2.2.2.2.1 > xb + 1))
 (.ret false)
 (.br (xh.1 != xb)
 (.ret false)
 (.nxt (.c3 x0 x1 x2 x3 x4 0 1 [(vI xh.2.2.2.2.2.1)] x5 x6 x7 x8 x9 xa xh.1 xh.2.1 xh.2.2.1 xh.2.2.2.1 xh.2.2.2.2.1 0)))))))))))))))))))))
 (.br ((dI (cel x6 (x8.toNat * 2))).tmod 5 == 2)
 (.ask (.in64 (x8 + 1)) (.nxt (.c11 x0 x1 x2 x3 x4 x5 x6 x7 (x8 + 1) x9 xa xb xc xd xe xf)))
 (.br ((dI (cel x6 (x8.toNat * 2))).tmod 5 == 3)
 (.bind (F59 xb xc xd xe xf 0) fun xi =>
 (.sees [(.agg [(aI xb), (.d (.sl xc xd)), (.d (.sl xe xf))]), (aI 0)] (.br (xi.2.2.2.2.2.2.2 != 0)
 (.ret false)
 (.ask (.eqB ((xi.2.2.2.2.2.2.2 != 0) == false) true) (.bind (F65 xi.2.2.2.2.2.1 xi.2.2.2.2.2.2.1 x9 xa) fun xj =>
 (.sees [(.d (.sl xi.2.2.2.2.2.1 xi.2.2.2.2.2.2.1)), (.d (.sl x9 xa))] (.br (!xj)
 (.ret false)
 (.br (xi.1 != 0)
 (.ret false)
 (.nxt (.c4 x0 x1 x2 x3 x4 x5 x6 x7 x8 x9 xa xi.1 xi.2.1 xi.2.2.1 xi.2.2.2.1 xi.2.2.2.2.1))))))))))
 (.bind (F59 xb xc xd xe xf ((IntKind.i64.wrap (dI (cel x6 (x8.toNat * 2 + 1)))).tmod 1)) fun xk =>
 (.sees [(.agg [(aI xb), (.d (.sl xc xd)), (.d (.sl xe xf))]), (aI ((IntKind.i64.wrap (dI (cel x6 (x8.toNat * 2 + 1)))).tmod 1))] (.br (xk.2.2.2.2.2.2.2 == 35)
 (.ask (.eqB ((xk.2.2.2.2.2.2.2 == 35) == true) true) (.br (decide ((IntKind.i64.wrap (dI (cel x6 (x8.toNat * 2 + 1)))).tmod 1 < xb))
 (.ask (.in64 (x8 + 1)) (.nxt (.c11 x0 x1 x2 x3 x4 x5 x6 x7 (x8 + 1) x9 xa xb xc xd xe xf)))
 (.br (xk.2.2.2.2.2.2.2 != 0)
 (.ret false)
 (.ask (.le 0 ((IntKind.i64.wrap (dI (cel x6 (x8.toNat * 2 + 1)))).tmod 1)) (.ask (.lt ((IntKind.i64.wrap (dI (cel x6 (x8.toNat * 2 + 1)))).tmod 1) ((↑x3 : Int))) (.ask (.leN (((IntKind.i64.wrap (dI (cel x6 (x8.toNat * 2 + 1)))).tmod 1).toNat * 1) x4.length) (.ask (.prop (Option.map AV.d (List.drop (((IntKind.i64.wrap (dI (cel x6 (x8.toNat * 2 + 1)))).tmod 1).toNat * 1) x4)[0]? = some (AV.d (DV.sl (dN (cel x4 (((IntKind.i64.wrap (dI (cel x6 (x8.toNat * 2 + 1)))).tmod 1).toNat * 1))) (dL (cel x4 (((IntKind.i64.wrap (dI (cel x6 (x8.toNat * 2 + 1)))).tmod 1).toNat * 1))))))) (.ask (.eqB ((xk.2.2.2.2.2.2.2 != 0) == false) true) (.bind (F65 xk.2.2.2.2.2.1 xk.2.2.2.2.2.2.1 (dN (cel x4 (((IntKind.i64.wrap (dI (cel x6 (x8.toNat * 2 + 1)))).tmod 1).toNat * 1))) (dL (cel x4 (((IntKind.i64.wrap (dI (cel x6 (x8.toNat * 2 + 1)))).tmod 1).toNat * 1)))) fun xl =>
 (.sees [(.d (.sl xk.2.2.2.2.2.1 xk.2.2.2.2.2.2.1)), (.d (.sl (dN (cel x4 (((IntKind.i64.wrap (dI (cel x6 (x8.toNat * 2 + 1)))).tmod 1).toNat * 1))) (dL (cel x4 (((IntKind.i64.wrap (dI (cel x6 (x8.toNat * 2 + 1)))).tmod 1).toNat * 1)))))] (.br (!xl)
 (.ret false)
 (.nxt (.c4 x0 x1 x2 x3 x4 x5 x6 x7 x8 x9 xa xk.1 xk.2.1 xk.2.2.1 xk.2.2.2.1 xk.2.2.2.2.1)))))))))))))
 (.br (xk.2.2.2.2.2.2.2 != 0)
 (.ret false)
 (.ask (.le 0 ((IntKind.i64.wrap (dI (cel x6 (x8.toNat * 2 + 1)))).tmod 1)) (.ask (.lt ((IntKind.i64.wrap (dI (cel x6 (x8.toNat * 2 + 1)))).tmod 1) ((↑x3 : Int))) (.ask (.leN (((IntKind.i64.wrap (dI (cel x6 (x8.toNat * 2 + 1)))).tmod 1).toNat * 1) x4.length) (.ask (.prop (Option.map AV.d (List.drop (((IntKind.i64.wrap (dI (cel x6 (x8.toNat * 2 + 1)))).tmod 1).toNat * 1) x4)[0]? = some (AV.d (DV.sl (dN (cel x4 (((IntKind.i64.wrap (dI (cel x6 (x8.toNat * 2 + 1)))).tmod 1).toNat * 1))) (dL (cel x4 (((IntKind.i64.wrap (dI (cel x6 (x8.toNat * 2 + 1)))).tmod 1).toNat * 1))))))) (.ask (.eqB ((xk.2.2.2.2.2.2.2 != 0) == false) true) (.bind (F65 xk.2.2.2.2.2.1 xk.2.2.2.2.2.2.1 (dN (cel x4 (((IntKind.i64.wrap (dI (cel x6 (x8.toNat * 2 + 1)))).tmod 1).toNat * 1))) (dL (cel x4 (((IntKind.i64.wrap (dI (cel x6 (x8.toNat * 2 + 1)))).tmod 1).toNat * 1)))) fun xm =>
 (.sees [(.d (.sl xk.2.2.2.2.2.1 xk.2.2.2.2.2.2.1)), (.d (.sl (dN (cel x4 (((IntKind.i64.wrap (dI (cel x6 (x8.toNat * 2 + 1)))).tmod 1).toNat * 1))) (dL (cel x4 (((IntKind.i64.wrap (dI (cel x6 (x8.toNat * 2 + 1)))).tmod 1).toNat * 1)))))] (.br (!xm)
 (.ret false)
 (.nxt (.c4 x0 x1 x2 x3 x4 x5 x6 x7 x8 x9 xa xk.1 xk.2.1 xk.2.2.1 xk.2.2.2.1 xk.2.2.2.2.1)))))))))))))))))))))))
 (.ret true))
 | .c12 x0 x1 x2 x3 x4 x5 x6 x7 x8 x9 xa xb xc xd xe xf xg xh xi xj => (.br (decide (xb < xa))
 (.ask (.in64 (x5 + xb)) (.ask (.in64 (xb + 1)) (.nxt (.c17 x0 x1 x2 x3 x4 x5 0 1 [(vI ((x5 + xb).tmod 7))] x6 x7 x8 x9 xa (xb + 1) xc xd xe xf xg xh xi xj 0))))
 (.bind (F33 0 []) fun xk =>
 (.bind (F47 xc xd xe xf xg xk.1 xk.2) fun xl =>
 (.sees [(.d (.sl 0 []))] (.sees [(.agg [(aI xc), (.d (.sl xd xe)), (.d (.sl xf xg))]), (.d (.sl xk.1 xk.2))] (.ask (.in64 (xc + 2)) (.br ((↑x3 : Int) == xc + 2)
 (.br (xl.2.2.2.2.2 != 31)
 (.ret false)
 (.ask (.in64 (x9 + 1)) (.nxt (.c9 x0 x1 x2 x3 x4 x6 x7 x8 (x9 + 1) xc xd xe xf xg xh xi xj))))
 (.br (xl.2.2.2.2.2 != 0)
 (.ret false)
 (.br (xl.1 != xc)
 (.ret false)
 (.ask (.eqN x2 xj) (.ask (.fits (x3 + 1) 24) (.nxt (.c6 x0 x1 (xj + 1) (x3 + 1) (x4 ++ [DV.v (Value.slice none 0 0)]) x6 x7 x8 x9 xl.1 xl.2.1 xl.2.2.1 xl.2.2.2.1 xl.2.2.2.2.1 xh xi (xj + 1))))))))))))))
 | .c13 x0 x1 x2 x3 x4 x5 x6 x7 x8 x9 xa xb xc xd xe xf xg xh xi xj xk xl xm xn => (.nxt (.c18 x0 x1 x2 x3 x4 x5 x6 x7 x8 x9 xa xb xc xd xe xf xg xh xi xj xk xl xm xn))
 | .c14 x0 x1 x2 x3 x4 x5 x6 x7 x8 x9 xa xb xc xd xe xf xg xh xi xj => (.nxt (.c19 x0 x1 x2 x3 x4 x5 x6 x7 x8 x9 xa xb xc xd xe xf xg xh xi xj))
 | .c15 x0 x1 x2 x3 x4 x5 x6 x7 x8 x9 xa xb xc xd xe xf xg xh xi xj xk xl xm => (.br (decide (xe < xd))
 (.ask (.in64 (x8 + xe)) (.ask (.in64 (xe + 1)) (.nxt (.c20 x0 x1 x2 x3 x4 x5 x6 x7 x8 0 1 [(vI ((x8 + xe).tmod 7))] x9 xa xb xc xd (xe + 1) xf xg xh xi xj xk xl xm 0))))
 (.bind (F33 0 []) fun xn =>
 (.bind (F47 0 xf xg 0 [] xn.1 xn.2) fun xo =>
 (.sees [(.d (.sl 0 []))] (.sees [(.agg [(aI 0), (.d (.sl xf xg)), (.d (.sl 0 []))]), (.d (.sl xn.1 xn.2))] (.br ((↑x3 : Int) == 2)
 (.br (xo.2.2.2.2.2 != 31)
 (.ret false)
 (.ask (.in64 (xc + 1)) (.nxt (.c10 x0 x1 x2 x3 x4 x5 x6 x7 x9 xa xb (xc + 1) xf xg xh xi xj xk xl xm))))
 (.br (xo.2.2.2.2.2 != 0)
 (.ret false)
 (.br (xo.1 != 0)
 (.ret false)
 (.ask (.eqN x2 0) (.ask (.fits (x3 + 1) 24) (.nxt (.c18 x0 x1 1 (x3 + 1) (x4 ++ [DV.v (Value.slice none 0 0)]) x5 x6 x7 x9 xa xb xc xo.1 xo.2.1 xo.2.2.1 xo.2.2.2.1 xo.2.2.2.2.1 xh xi xj xk xl 1 xm))))))))))))
 | .c16 x0 x1 x2 x3 x4 x5 x6 x7 x8 x9 xa xb xc xd xe xf xg xh xi => (.br (decide (xb < xa))
 (.ask (.in64 (x5 + xb)) (.ask (.in64 (xb + 1)) (.nxt (.c21 x0 x1 x2 x3 x4 x5 0 1 [(vI ((x5 + xb).tmod 7))] x6 x7 x8 x9 xa (xb + 1) xc xd xe xf xg xh xi 0))))
 (.bind (F33 0 []) fun xj =>
 (.bind (F47 0 xc xd 0 [] xj.1 xj.2) fun xk =>
 (.sees [(.d (.sl 0 []))] (.sees [(.agg [(aI 0), (.d (.sl xc xd)), (.d (.sl 0 []))]), (.d (.sl xj.1 xj.2))] (.br ((↑x3 : Int) == 2)
 (.br (xk.2.2.2.2.2 != 31)
 (.ret false)
 (.ask (.in64 (x9 + 1)) (.nxt (.c11 x0 x1 x2 x3 x4 x6 x7 x8 (x9 + 1) xc xd xe xf xg xh xi))))
 (.br (xk.2.2.2.2.2 != 0)
 (.ret false)
 (.br (xk.1 != 0)
 (.ret false)
 (.ask (.eqN x2 0) (.ask (.fits (x3 + 1) 24) (.nxt (.c19 x0 x1 1 (x3 + 1) (x4 ++ [DV.v (Value.slice none 0 0)]) x6 x7 x8 x9 xk.1 xk.2.1 xk.2.2.1 xk.2.2.2.1 xk.2.2.2.2.1 xe xf xg xh xi 1))))))))))))
 | .c17 x0 x1 x2 x3 x4 x5 x6 x7 x8 x9 xa xb xc xd xe xf xg xh xi xj xk xl xm xn => (.br (decide (xe < xd))
 (.ask (.in64 (x5 + xe)) (.ask (.eqN x6 xn) (.ask (.fits (x7 + 1) 8) (.ask (.in64 (xe + 1)) (.nxt (.c17 x0 x1 x2 x3 x4 x5 (xn + 1) (x7 + 1) (x8 ++ [vI ((x5 + xe).tmod 7)]) x9 xa xb xc xd (xe + 1) xf xg xh xi xj xk xl xm (xn + 1)))))))
 (.bind (F33 x7 x8) fun xo =>
 (.bind (F47 xf xg xh xi xj xo.1 xo.2) fun xp =>
 (.sees [(.d (.sl x7 x8))] (.sees [(.agg [(aI xf), (.d (.sl xg xh)), (.d (.sl xi xj))]), (.d (.sl xo.1 xo.2))] (.ask (.in64 (xf + 2)) (.br ((↑x3 : Int) == xf + 2)
 (.br (xp.2.2.2.2.2 != 31)
 (.ret false)
 (.ask (.in64 (xc + 1)) (.nxt (.c9 x0 x1 x2 x3 x4 x9 xa xb (xc + 1) xf xg xh xi xj xk xl xm))))
 (.br (xp.2.2.2.2.2 != 0)
 (.ret false)
 (.br (xp.1 != xf)
 (.ret false)
 (.ask (.eqN x2 xm) (.ask (.fits (x3 + 1) 24) (.nxt (.c6 x0 x1 (xm + 1) (x3 + 1) (x4 ++ [DV.sl x7 x8]) x9 xa xb xc xp.1 xp.2.1 xp.2.2.1 xp.2.2.2.1 xp.2.2.2.2.1 xk xl (xm + 1))))))))))))))
 | .c18 x0 x1 x2 x3 x4 x5 x6 x7 x8 x9 xa xb xc xd xe xf xg xh xi xj xk xl xm xn => (.br (decide (xh < 0))
 (.ask (.eqB (decide (xh < 0)) true) (.ask (.eqB (decide (xh < 0)) true) (.ask (.eqB (decide (xh < 0)) true) (.ask (.eqB (decide (xh < 0)) true) (.ask (.eqB (decide (xh < 0)) true) (.ask (.eqB (decide (xh < 0)) true) (.ret false)))))))
 (.br (decide (xh > xc))
 (.ask (.eqB (decide (xh < 0)) false) (.ask (.eqB (decide (xh < 0)) false) (.ask (.eqB (decide (xh < 0)) false) (.ask (.eqB (decide (xh < 0)) false) (.ask (.eqB (decide (xh < 0)) false) (.ask (.eqB (decide (xh < 0)) false) (.ask (.eqB (decide (xh > xc)) true) (.ask (.eqB (decide (xh > xc)) true) (.ask (.eqB (decide (xh > xc)) true) (.ask (.eqB (decide (xh > xc)) true) (.ask (.eqB (decide (xh > xc)) true) (.ask (.eqB (decide (xh > xc)) true) (.ask (.eqB (decide (xh > xc)) true) (.ret false))))))))))))))
 (.br (decide (xc > xh + 1))
 (.ask (.eqB (decide (xh < 0)) false) (.ask (.eqB (decide (xh < 0)) false) (.ask (.eqB (decide (xh < 0)) false) (.ask (.eqB (decide (xh < 0)) false) (.ask (.eqB (decide (xh < 0)) false) (.ask (.eqB (decide (xh < 0)) false) (.ask (.eqB (decide (xh > xc)) false) (.ask (.eqB (decide (xh > xc)) false) (.ask (.eqB (decide (xh > xc)) false) (.ask (.eqB (decide (xh > xc)) false) (.ask (.in64 (xh + 1)) (.ask (.eqB (decide (xh > xc)) false) (.ask (.eqB (decide (xh > xc)) false) (.ask (.eqB (decide (xh > xc)) false) (.ask (.eqB (decide (xc > xh + 1)) true) (.ask (.eqB (decide (xc > xh + 1)) true) (.ask (.eqB (decide (xc > xh + 1)) true) (.ask (.eqB (decide (xc > xh + 1)) true) (.ask (.eqB (decide (xc > xh + 1)) true) (.ask (.eqB (decide (xc > xh + 1)) true) (.ret false)))))))))))))))))))))
 (.br (decide (xc ≥ (↑x3 : Int)))
 (.ask (.eqB (decide (xh < 0)) false) (.ask (.eqB (decide (xh < 0)) false) (.ask (.eqB (decide (xh < 0)) false) (.ask (.eqB (decide (xh < 0)) false) (.ask (.eqB (decide (xh < 0)) false) (.ask (.eqB (decide (xh < 0)) false) (.ask (.eqB (decide (xh > xc)) false) (.ask (.eqB (decide (xh > xc)) false) (.ask (.eqB (decide (xh > xc)) false) (.ask (.eqB (decide (xh > xc)) false) (.ask (.in64 (xh + 1)) (.ask (.eqB (decide (xh > xc)) false) (.ask (.eqB (decide (xh > xc)) false) (.ask (.eqB (decide (xh > xc)) false) (.ask (.eqB (decide (xc > xh + 1)) false) (.ask (.eqB (decide (xc > xh + 1)) false) (.ask (.eqB (decide (xc > xh + 1)) false) (.ask (.eqB (decide (xc > xh + 1)) false) (.ask (.eqB (decide (xc > xh + 1)) false) (.ask (.eqB (decide (xc > xh + 1)) false) (.ask (.eqB (decide (xc ≥ (↑x3 : Int))) true) (.ask (.eqB (decide (xc ≥ (↑x3 : Int))) true) (.ask (.eqB (decide (xc ≥ (↑x3 : Int))) true) (.ask (.eqB (decide (xc ≥ (↑x3 : Int))) true) (.ask (.eqB (decide (xc ≥ (↑x3 : Int))) true) (.ask (.eqB (decide (xc ≥ (↑x3 : Int))) true) (.ask (.eqB (decide (xc ≥ (↑x3 : Int))) true) (.ask (.eqB (decide (xc ≥ (↑x3 : Int))) true) (.ask (.eqB (decide (xc ≥ (↑x3 : Int))) true) (.ask (.eqB (decide (xc ≥ (↑x3 : Int))) true) (.ret false)))))))))))))))))))))))))))))))
 (.bind (F65 xd xe (dN (cel x4 (xc.toNat * 1))) (dL (cel x4 (xc.toNat * 1)))) fun xo =>
 (.br (!xo)
 (.ask (.eqB (decide (xh < 0)) false) (.ask (.eqB (decide (xh < 0)) false) (.ask (.eqB (decide (xh < 0)) false) (.ask (.eqB (decide (xh < 0)) false) (.ask (.eqB (decide (xh < 0)) false) (.ask (.eqB (decide (xh < 0)) false) (.ask (.eqB (decide (xh > xc)) false) (.ask (.eqB (decide (xh > xc)) false) (.ask (.eqB (decide (xh > xc)) false) (.ask (.eqB (decide (xh > xc)) false) (.ask (.in64 (xh + 1)) (.ask (.eqB (decide (xh > xc)) false) (.ask (.eqB (decide (xh > xc)) false) (.ask (.eqB (decide (xh > xc)) false) (.ask (.eqB (decide (xc > xh + 1)) false) (.ask (.eqB (decide (xc > xh + 1)) false) (.ask (.eqB (decide (xc > xh + 1)) false) (.ask (.eqB (decide (xc > xh + 1)) false) (.ask (.eqB (decide (xc > xh + 1)) false) (.ask (.eqB (decide (xc > xh + 1)) false) (.ask (.eqB (decide (xc ≥ (↑x3 : Int))) false) (.ask (.eqB (decide (xc ≥ (↑x3 : Int))) false) (.ask (.eqB (decide (xc ≥ (↑x3 : Int))) false) (.ask (.eqB (decide (xc ≥ (↑x3 : Int))) false) (.ask (.eqB (decide (xc ≥ (↑x3 : Int))) false) (.ask (.le 0 xc) (.ask (.lt xc ((↑x3 : Int))) (.ask (.leN (xc.toNat * 1) x4.length) (.ask (.eqB (decide (xc ≥ (↑x3 : Int))) false) (.ask (.prop (Option.map AV.d (List.drop (xc.toNat * 1) x4)[0]? = some (AV.d (DV.sl (dN (cel x4 (xc.toNat * 1))) (dL (cel x4 (xc.toNat * 1))))))) (.ask (.eqB (decide (xc ≥ (↑x3 : Int))) false) (.sees [(.d (.sl xd xe)), (.d (.sl (dN (cel x4 (xc.toNat * 1))) (dL (cel x4 (xc.toNat * 1)))))] (.ask (.eqB (decide (xc ≥ (↑x3 : Int))) false) (.ask (.eqB (decide (xc ≥ (↑x3 : Int))) false) (.ask (.eqB (decide (xc ≥ (↑x3 : Int))) false) (.ask (.eqB (!xo) true) (.ask (.eqB (!xo) true) (.ask (.eqB (!xo) true) (.ask (.eqB (!xo) true) (.ask (.eqB (!xo) true) (.ask (.eqB (!xo) true) (.ask (.eqB (!xo) true) (.ask (.eqB (!xo) true) (.ask (.eqB (!xo) true) (.ask (.eqB (!xo) true) (.ret false))))))))))))))))))))))))))))))))))))))))))))))
 (.bind (F65 xi xj (dN (cel x4 (xh.toNat * 1))) (dL (cel x4 (xh.toNat * 1)))) fun xp =>
 (.ask (.eqB (decide (xh < 0)) false) (.ask (.eqB (decide (xh < 0)) false) (.ask (.eqB (decide (xh < 0)) false) (.ask (.eqB (decide (xh < 0)) false) (.ask (.eqB (decide (xh < 0)) false) (.ask (.eqB (decide (xh < 0)) false) (.ask (.eqB (decide (xh > xc)) false) (.ask (.eqB (decide (xh > xc)) false) (.ask (.eqB (decide (xh > xc)) false) (.ask (.eqB (decide (xh > xc)) false) (.ask (.in64 (xh + 1)) (.ask (.eqB (decide (xh > xc)) false) (.ask (.eqB (decide (xh > xc)) false) (.ask (.eqB (decide (xh > xc)) false) (.ask (.eqB (decide (xc > xh + 1)) false) (.ask (.eqB (decide (xc > xh + 1)) false) (.ask (.eqB (decide (xc > xh + 1)) false) (.ask (.eqB (decide (xc > xh + 1)) false) (.ask (.eqB (decide (xc > xh + 1)) false) (.ask (.eqB (decide (xc > xh + 1)) false) (.ask (.eqB (decide (xc ≥ (↑x3 : Int))) false) (.ask (.eqB (decide (xc ≥ (↑x3 : Int))) false) (.ask (.eqB (decide (xc ≥ (↑x3 : Int))) false) (.ask (.eqB (decide (xc ≥ (↑x3 : Int))) false) (.ask (.eqB (decide (xc ≥ (↑x3 : Int))) false) (.ask (.le 0 xc) (.ask (.lt xc ((↑x3 : Int))) (.ask (.leN (xc.toNat * 1) x4.length) (.ask (.eqB (decide (xc ≥ (↑x3 : Int))) false) (.ask (.prop (Option.map AV.d (List.drop (xc.toNat * 1) x4)[0]? = some (AV.d (DV.sl (dN (cel x4 (xc.toNat * 1))) (dL (cel x4 (xc.toNat * 1))))))) (.ask (.eqB (decide (xc ≥ (↑x3 : Int))) false) (.sees [(.d (.sl xd xe)), (.d (.sl (dN (cel x4 (xc.toNat * 1))) (dL (cel x4 (xc.toNat * 1)))))] (.ask (.eqB (decide (xc ≥ (↑x3 : Int))) false) (.ask (.eqB (decide (xc ≥ (↑x3 : Int))) false) (.ask (.eqB (decide (xc ≥ (↑x3 : Int))) false) (.ask (.eqB (!xo) false) (.ask (.eqB (!xo) false) (.ask (.eqB (!xo) false) (.ask (.eqB (!xo) false) (.ask (.eqB (!xo) false) (.ask (.le 0 xh) (.ask (.lt xh ((↑x3 : Int))) (.ask (.leN (xh.toNat * 1) x4.length) (.ask (.eqB (!xo) false) (.ask (.prop (Option.map AV.d (List.drop (xh.toNat * 1) x4)[0]? = some (AV.d (DV.sl (dN (cel x4 (xh.toNat * 1))) (dL (cel x4 (xh.toNat * 1))))))) (.ask (.eqB (!xo) false) (.sees [(.d (.sl xi xj)), (.d (.sl (dN (cel x4 (xh.toNat * 1))) (dL (cel x4 (xh.toNat * 1)))))] (.ask (.eqB (!xo) false) (.ask (.eqB (!xo) false) (.ask (.eqB (!xo) false) (.br (!xp)
 (.ret false)
 (.ask (.in64 (xb + 1)) (.nxt (.c22 x0 x1 x2 x3 x4 x5 x6 x7 x8 x9 xa (xb + 1) xc xd xe xf xg xh xi xj xk xl xm xn)))))))))))))))))))))))))))))))))))))))))))))))))))))))))))))
 | .c19 x0 x1 x2 x3 x4 x5 x6 x7 x8 x9 xa xb xc xd xe xf xg xh xi xj => (.br (decide (xe < 0))
 (.ask (.eqB (decide (xe < 0)) true) (.ask (.eqB (decide (xe < 0)) true) (.ask (.eqB (decide (xe < 0)) true) (.ask (.eqB (decide (xe < 0)) true) (.ask (.eqB (decide (xe < 0)) true) (.ask (.eqB (decide (xe < 0)) true) (.ret false)))))))
 (.br (decide (xe > x9))
 (.ask (.eqB (decide (xe < 0)) false) (.ask (.eqB (decide (xe < 0)) false) (.ask (.eqB (decide (xe < 0)) false) (.ask (.eqB (decide (xe < 0)) false) (.ask (.eqB (decide (xe < 0)) false) (.ask (.eqB (decide (xe < 0)) false) (.ask (.eqB (decide (xe > x9)) true) (.ask (.eqB (decide (xe > x9)) true) (.ask (.eqB (decide (xe > x9)) true) (.ask (.eqB (decide (xe > x9)) true) (.ask (.eqB (decide (xe > x9)) true) (.ask (.eqB (decide (xe > x9)) true) (.ask (.eqB (decide (xe > x9)) true) (.ret false))))))))))))))
 (.br (decide (x9 > xe + 1))
 (.ask (.eqB (decide (xe < 0)) false) (.ask (.eqB (decide (xe < 0)) false) (.ask (.eqB (decide (xe < 0)) false) (.ask (.eqB (decide (xe < 0)) false) (.ask (.eqB (decide (xe < 0)) false) (.ask (.eqB (decide (xe < 0)) false) (.ask (.eqB (decide (xe > x9)) false) (.ask (.eqB (decide (xe > x9)) false) (.ask (.eqB (decide (xe > x9)) false) (.ask (.eqB (decide (xe > x9)) false) (.ask (.in64 (xe + 1)) (.ask (.eqB (decide (xe > x9)) false) (.ask (.eqB (decide (xe > x9)) false) (.ask (.eqB (decide (xe > x9)) false) (.ask (.eqB (decide (x9 > xe + 1)) true) (.ask (.eqB (decide (x9 > xe + 1)) true) (.ask (.eqB (decide (x9 > xe + 1)) true) (.ask (.eqB (decide (x9 > xe + 1)) true) (.ask (.eqB (decide (x9 > xe + 1)) true) (.ask (.eqB (decide (x9 > xe + 1)) true) (.ret false)))))))))))))))))))))
 (.br (decide (x9 ≥ (↑x3 : Int)))
 (.ask (.eqB (decide (xe < 0)) false) (.ask (.eqB (decide (xe < 0)) false) (.ask (.eqB (decide (xe < 0)) false) (.ask (.eqB (decide (xe < 0)) false) (.ask (.eqB (decide (xe < 0)) false) (.ask (.eqB (decide (xe < 0)) false) (.ask (.eqB (decide (xe > x9)) false) (.ask (.eqB (decide (xe > x9)) false) (.ask (.eqB (decide (xe > x9)) false) (.ask (.eqB (decide (xe > x9)) false) (.ask (.in64 (xe + 1)) (.ask (.eqB (decide (xe > x9)) false) (.ask (.eqB (decide (xe > x9)) false) (.ask (.eqB (decide (xe > x9)) false) (.ask (.eqB (decide (x9 > xe + 1)) false) (.ask (.eqB (decide (x9 > xe + 1)) false) (.ask (.eqB (decide (x9 > xe + 1)) false) (.ask (.eqB (decide (x9 > xe + 1)) false) (.ask (.eqB (decide (x9 > xe + 1)) false) (.ask (.eqB (decide (x9 > xe + 1)) false) (.ask (.eqB (decide (x9 ≥ (↑x3 : Int))) true) (.ask (.eqB (decide (x9 ≥ (↑x3 : Int))) true) (.ask (.eqB (decide (x9 ≥ (↑x3 : Int))) true) (.ask (.eqB (decide (x9 ≥ (↑x3 : Int))) true) (.ask (.eqB (decide (x9 ≥ (↑x3 : Int))) true) (.ask (.eqB (decide (x9 ≥ (↑x3 : Int))) true) (.ask (.eqB (decide (x9 ≥ (↑x3 : Int))) true) (.ask (.eqB (decide (x9 ≥ (↑x3 : Int))) true) (.ask (.eqB (decide (x9 ≥ (↑x3 : Int))) true) (.ask (.eqB (decide (x9 ≥ (↑x3 : Int))) true) (.ret false)))))))))))))))))))))))))))))))
 (.bind (F65 xa xb (dN (cel x4 (x9.toNat * 1))) (dL (cel x4 (x9.toNat * 1)))) fun xk =>
 (.br (!xk)
 (.ask (.eqB (decide (xe < 0)) false) (.ask (.eqB (decide (xe < 0)) false) (.ask (.eqB (decide (xe < 0)) false) (.ask (.eqB (decide (xe < 0)) false) (.ask (.eqB (decide (xe < 0)) false) (.ask (.eqB (decide (xe < 0)) false) (.ask (.eqB (decide (xe > x9)) false) (.ask (.eqB (decide (xe > x9)) false) (.ask (.eqB (decide (xe > x9)) false) (.ask (.eqB (decide (xe > x9)) false) (.ask (.in64 (xe + 1)) (.ask (.eqB (decide (xe > x9)) false) (.ask (.eqB (decide (xe > x9)) false) (.ask (.eqB (decide (xe > x9)) false) (.ask (.eqB (decide (x9 > xe + 1)) false) (.ask (.eqB (decide (x9 > xe + 1)) false) (.ask (.eqB (decide (x9 > xe + 1)) false) (.ask (.eqB (decide (x9 > xe + 1)) false) (.ask (.eqB (decide (x9 > xe + 1)) false) (.ask (.eqB (decide (x9 > xe + 1)) false) (.ask (.eqB (decide (x9 ≥ (↑x3 : Int))) false) (.ask (.eqB (decide (x9 ≥ (↑x3 : Int))) false) (.ask (.eqB (decide (x9 ≥ (↑x3 : Int))) false) (.ask (.eqB (decide (x9 ≥ (↑x3 : Int))) false) (.ask (.eqB (decide (x9 ≥ (↑x3 : Int))) false) (.ask (.le 0 x9) (.ask (.lt x9 ((↑x3 : Int))) (.ask (.leN (x9.toNat * 1) x4.length) (.ask (.eqB (decide (x9 ≥ (↑x3 : Int))) false) (.ask (.prop (Option.map AV.d (List.drop (x9.toNat * 1) x4)[0]? = some (AV.d (DV.sl (dN (cel x4 (x9.toNat * 1))) (dL (cel x4 (x9.toNat * 1))))))) (.ask (.eqB (decide (x9 ≥ (↑x3 : Int))) false) (.sees [(.d (.sl xa xb)), (.d (.sl (dN (cel x4 (x9.toNat * 1))) (dL (cel x4 (x9.toNat * 1)))))] (.ask (.eqB (decide (x9 ≥ (↑x3 : Int))) false) (.ask (.eqB (decide (x9 ≥ (↑x3 : Int))) false) (.ask (.eqB (decide (x9 ≥ (↑x3 : Int))) false) (.ask (.eqB (!xk) true) (.ask (.eqB (!xk) true) (.ask (.eqB (!xk) true) (.ask (.eqB (!xk) true) (.ask (.eqB (!xk) true) (.ask (.eqB (!xk) true) (.ask (.eqB (!xk) true) (.ask (.eqB (!xk) true) (.ask (.eqB (!xk) true) (.ask (.eqB (!xk) true) (.ret false))))))))))))))))))))))))))))))))))))))))))))))
 (.bind (F65 xf xg (dN (cel x4 (xe.toNat * 1))) (dL (cel x4 (xe.toNat * 1)))) fun xl =>
 (.ask (.eqB (decide (xe < 0)) false) (.ask (.eqB (decide (xe < 0)) false) (.ask (.eqB (decide (xe < 0)) false) (.ask (.eqB (decide (xe < 0)) false) (.ask (.eqB (decide (xe < 0)) false) (.ask (.eqB (decide (xe < 0)) false) (.ask (.eqB (decide (xe > x9)) false) (.ask (.eqB (decide (xe > x9)) false) (.ask (.eqB (decide (xe > x9)) false) (.ask (.eqB (decide (xe > x9)) false) (.ask (.in64 (xe + 1)) (.ask (.eqB (decide (xe > x9)) false) (.ask (.eqB (decide (xe > x9)) false) (.ask (.eqB (decide (xe > x9)) false) (.ask (.eqB (decide (x9 > xe + 1)) false) (.ask (.eqB (decide (x9 > xe + 1)) false) (.ask (.eqB (decide (x9 > xe + 1)) false) (.ask (.eqB (decide (x9 > xe + 1)) false) (.ask (.eqB (decide (x9 > xe + 1)) false) (.ask (.eqB (decide (x9 > xe + 1)) false) (.ask (.eqB (decide (x9 ≥ (↑x3 : Int))) false) (.ask (.eqB (decide (x9 ≥ (↑x3 : Int))) false) (.ask (.eqB (decide (x9 ≥ (↑x3 : Int))) false) (.ask (.eqB (decide (x9 ≥ (↑x3 : Int))) false) (.ask (.eqB (decide (x9 ≥ (↑x3 : Int))) false) (.ask (.le 0 x9) (.ask (.lt x9 ((↑x3 : Int))) (.ask (.leN (x9.toNat * 1) x4.length) (.ask (.eqB (decide (x9 ≥ (↑x3 : Int))) false) (.ask (.prop (Option.map AV.d (List.drop (x9.toNat * 1) x4)[0]? = some (AV.d (DV.sl (dN (cel x4 (x9.toNat * 1))) (dL (cel x4 (x9.toNat * 1))))))) (.ask (.eqB (decide (x9 ≥ (↑x3 : Int))) false) (.sees [(.d (.sl xa xb)), (.d (.sl (dN (cel x4 (x9.toNat * 1))) (dL (cel x4 (x9.toNat * 1)))))] (.ask (.eqB (decide (x9 ≥ (↑x3 : Int))) false) (.ask (.eqB (decide (x9 ≥ (↑x3 : Int))) false) (.ask (.eqB (decide (x9 ≥ (↑x3 : Int))) false) (.ask (.eqB (!xk) false) (.ask (.eqB (!xk) false) (.ask (.eqB (!xk) false) (.ask (.eqB (!xk) false) (.ask (.eqB (!xk) false) (.ask (.le 0 xe) (.ask (.lt xe ((↑x3 : Int))) (.ask (.leN (xe.toNat * 1) x4.length) (.ask (.eqB (!xk) false) (.ask (.prop (Option.map AV.d (List.drop (xe.toNat * 1) x4)[0]? = some (AV.d (DV.sl (dN (cel x4 (xe.toNat * 1))) (dL (cel x4 (xe.toNat * 1))))))) (.ask (.eqB (!xk) false) (.sees [(.d (.sl xf xg)), (.d (.sl (dN (cel x4 (xe.toNat * 1))) (dL (cel x4 (xe.toNat * 1)))))] (.ask (.eqB (!xk) false) (.ask (.eqB (!xk) false) (.ask (.eqB (!xk) false) (.br (!xl)
 (.ret false)
 (.ask (.in64 (x8 + 1)) (.nxt (.c23 x0 x1 x2 x3 x4 x5 x6 x7 (x8 + 1) x9 xa xb xc xd xe xf xg xh xi xj)))))))))))))))))))))))))))))))))))))))))))))))))))))))))))))
 | .c20 x0 x1 x2 x3 x4 x5 x6 x7 x8 x9 xa xb xc xd xe xf xg xh xi xj xk xl xm xn xo xp xq => (.br (decide (xh < xg))
 (.ask (.in64 (x8 + xh)) (.ask (.eqN x9 xq) (.ask (.fits (xa + 1) 8) (.ask (.in64 (xh + 1)) (.nxt (.c20 x0 x1 x2 x3 x4 x5 x6 x7 x8 (xq + 1) (xa + 1) (xb ++ [vI ((x8 + xh).tmod 7)]) xc xd xe xf xg (xh + 1) xi xj xk xl xm xn xo xp (xq + 1)))))))
 (.bind (F33 xa xb) fun xr =>
 (.bind (F47 0 xi xj 0 [] xr.1 xr.2) fun xs =>
 (.sees [(.d (.sl xa xb))] (.sees [(.agg [(aI 0), (.d (.sl xi xj)), (.d (.sl 0 []))]), (.d (.sl xr.1 xr.2))] (.br ((↑x3 : Int) == 2)
 (.br (xs.2.2.2.2.2 != 31)
 (.ret false)
 (.ask (.in64 (xf + 1)) (.nxt (.c10 x0 x1 x2 x3 x4 x5 x6 x7 xc xd xe (xf + 1) xi xj xk xl xm xn xo xp))))
 (.br (xs.2.2.2.2.2 != 0)
 (.ret false)
 (.br (xs.1 != 0)
 (.ret false)
 (.ask (.eqN x2 0) (.ask (.fits (x3 + 1) 24) (.nxt (.c18 x0 x1 1 (x3 + 1) (x4 ++ [DV.sl xa xb]) x5 x6 x7 xc xd xe xf xs.1 xs.2.1 xs.2.2.1 xs.2.2.2.1 xs.2.2.2.2.1 xk xl xm xn xo 1 xp))))))))))))
 | .c21 x0 x1 x2 x3 x4 x5 x6 x7 x8 x9 xa xb xc xd xe xf xg xh xi xj xk xl xm => (.br (decide (xe < xd))
 (.ask (.in64 (x5 + xe)) (.ask (.eqN x6 xm) (.ask (.fits (x7 + 1) 8) (.ask (.in64 (xe + 1)) (.nxt (.c21 x0 x1 x2 x3 x4 x5 (xm + 1) (x7 + 1) (x8 ++ [vI ((x5 + xe).tmod 7)]) x9 xa xb xc xd (xe + 1) xf xg xh xi xj xk xl (xm + 1)))))))
 (.bind (F33 x7 x8) fun xn =>
 (.bind (F47 0 xf xg 0 [] xn.1 xn.2) fun xo =>
 (.sees [(.d (.sl x7 x8))] (.sees [(.agg [(aI 0), (.d (.sl xf xg)), (.d (.sl 0 []))]), (.d (.sl xn.1 xn.2))] (.br ((↑x3 : Int) == 2)
 (.br (xo.2.2.2.2.2 != 31)
 (.ret false)
 (.ask (.in64 (xc + 1)) (.nxt (.c11 x0 x1 x2 x3 x4 x9 xa xb (xc + 1) xf xg xh xi xj xk xl))))
 (.br (xo.2.2.2.2.2 != 0)
 (.ret false)
 (.br (xo.1 != 0)
 (.ret false)
 (.ask (.eqN x2 0) (.ask (.fits (x3 + 1) 24) (.nxt (.c19 x0 x1 1 (x3 + 1) (x4 ++ [DV.sl x7 x8]) x9 xa xb xc xo.1 xo.2.1 xo.2.2.1 xo.2.2.2.1 xo.2.2.2.2.1 xh xi xj xk xl 1))))))))))))
 | .c22 x0 x1 x2 x3 x4 x5 x6 x7 x8 x9 xa xb xc xd xe xf xg xh xi xj xk xl xm xn => (.br (decide (xb < xa))
 (.ask (.le 0 xb) (.ask (.lt xb ((↑x8 : Int))) (.ask (.leN (xb.toNat * 2) x9.length) (.ask (.leN 2 ((List.drop (xb.toNat * 2) x9).length)) (.ask (.prop (List.map AV.d (List.take 2 (List.drop (xb.toNat * 2) x9)) = [AV.d (DV.v (Value.int IntKind.u8 (dI (cel x9 (xb.toNat * 2))))), AV.d (DV.v (Value.int IntKind.u8 (dI (cel x9 (xb.toNat * 2 + 1)))))])) (.br ((dI (cel x9 (xb.toNat * 2))).tmod 5 == 0)
 (.nxt (.c24 x0 x1 x2 x3 x4 x5 x6 x7 (IntKind.i64.wrap (dI (cel x9 (xb.toNat * 2 + 1)))) x8 x9 xa xb ((↑x0 : Int)) 0 xc xd xe xf xg xh xi xj xk xl xm xn))
 (.br ((dI (cel x9 (xb.toNat * 2))).tmod 5 == 1)
 (.ask (.neI ((↑x3 : Int)) 0) (.br ((IntKind.i64.wrap (dI (cel x9 (xb.toNat * 2 + 1)))).tmod (↑x3 : Int) == 0)
 (.ask (.in64 (xb + 1)) (.nxt (.c22 x0 x1 x2 x3 x4 x5 x6 x7 x8 x9 xa (xb + 1) xc xd xe xf xg xh xi xj xk xl xm xn)))
 (.bind (F33 (dN (cel x4 (((IntKind.i64.wrap (dI (cel x9 (xb.toNat * 2 + 1)))).tmod (↑x3 : Int)).toNat * 1))) (dL (cel x4 (((IntKind.i64.wrap (dI (cel x9 (xb.toNat * 2 + 1)))).tmod (↑x3 : Int)).toNat * 1)))) fun xo =>
 (.bind (F57 xh xi xj xk xl ((IntKind.i64.wrap (dI (cel x9 (xb.toNat * 2 + 1)))).tmod (↑x3 : Int)) xo.1 xo.2) fun xp =>
 (.ask (.le 0 ((IntKind.i64.wrap (dI (cel x9 (xb.toNat * 2 + 1)))).tmod (↑x3 : Int))) (.ask (.lt ((IntKind.i64.wrap (dI (cel x9 (xb.toNat * 2 + 1)))).tmod (↑x3 : Int)) ((↑x3 : Int))) (.ask (.leN (((IntKind.i64.wrap (dI (cel x9 (xb.toNat * 2 + 1)))).tmod (↑x3 : Int)).toNat * 1) x4.length) (.ask (.prop (Option.map AV.d (List.drop (((IntKind.i64.wrap (dI (cel x9 (xb.toNat * 2 + 1)))).tmod (↑x3 : Int)).toNat * 1) x4)[0]? = some (AV.d (DV.sl (dN (cel x4 (((IntKind.i64.wrap (dI (cel x9 (xb.toNat * 2 + 1)))).tmod (↑x3 : Int)).toNat * 1))) (dL (cel x4 (((IntKind.i64.wrap (dI (cel x9 (xb.toNat * 2 + 1)))).tmod (↑x3 : Int)).toNat * 1))))))) (.sees [(.d (.sl (dN (cel x4 (((IntKind.i64.wrap (dI (cel x9 (xb.toNat * 2 + 1)))).tmod (↑x3 : Int)).toNat * 1))) (dL (cel x4 (((IntKind.i64.wrap (dI (cel x9 (xb.toNat * 2 + 1)))).tmod (↑x3 : Int)).toNat * 1)))))] (.sees [(.agg [(aI xh), (.d (.sl xi xj)), (.d (.sl xk xl))]), (aI ((IntKind.i64.wrap (dI (cel x9 (xb.toNat * 2 + 1)))).tmod (↑x3 : Int))), (.d (.sl xo.1 xo.2))] (.ask (.in64 (xh + 1)) (.br (decide ((IntKind.i64.wrap (dI (cel x9 (xb.toNat * 2 + 1)))).tmod (↑x3 : Int) > xh + 1))
 (.br (xp.2.2.2.2.2.2 != 7)
 (.ret false)
 (.ask (.in64 (xb + 1)) (.nxt (.c22 x0 x1 x2 x3 x4 x5 x6 x7 x8 x9 xa (xb + 1) xc xd xe xf xg xh xi xj xk xl xm xn))))
 (.br (xp.2.2.2.2.2.2 != 0)
 (.ret false)
 (.ask (.eqB ((xp.2.2.2.2.2.2 != 0) == false) true) (.br (decide (xp.2.2.2.2.2.1 < xh))
 (.ret false)
 (.ask (.in64 (xh + 1)) (.ask (.eqB (decide (xp.2.2.2.2.2.1 < xh) == false) true) (.br (decide (xp.2.2.2.2.2.1 > xh + 1))
 (.ret false)
 (.br (xp.1 != xh)
 (.ret false)
 (.ask (.eqN x5 xn) (.ask (.fits (x6 + 1) 8) (.nxt (.c13 x0 x1 x2 x3 x4 (xn + 1) (x6 + 1) (x7 ++ [vI xp.2.2.2.2.2.1]) x8 x9 xa xb xc xd xe xf xg xp.1 xp.2.1 xp.2.2.1 xp.2.2.2.1 xp.2.2.2.2.1 xm (xn + 1))))))))))))))))))))))))
 (.br ((dI (cel x9 (xb.toNat * 2))).tmod 5 == 2)
 (.br ((↑x6 : Int) == 0)
 (.ask (.in64 (xb + 1)) (.nxt (.c22 x0 x1 x2 x3 x4 x5 x6 x7 x8 x9 xa (xb + 1) xc xd xe xf xg xh xi xj xk xl xm xn)))
 (.bind (F49 xc xd xe xf xg (dI (cel x7 (((IntKind.i64.wrap (dI (cel x9 (xb.toNat * 2 + 1)))).tmod (↑x6 : Int)).toNat * 1)))) fun xq =>
 (.ask (.neI ((↑x6 : Int)) 0) (.ask (.le 0 ((IntKind.i64.wrap (dI (cel x9 (xb.toNat * 2 + 1)))).tmod (↑x6 : Int))) (.ask (.lt ((IntKind.i64.wrap (dI (cel x9 (xb.toNat * 2 + 1)))).tmod (↑x6 : Int)) ((↑x6 : Int))) (.ask (.leN (((IntKind.i64.wrap (dI (cel x9 (xb.toNat * 2 + 1)))).tmod (↑x6 : Int)).toNat * 1) x7.length) (.ask (.prop (Option.map AV.d (List.drop (((IntKind.i64.wrap (dI (cel x9 (xb.toNat * 2 + 1)))).tmod (↑x6 : Int)).toNat * 1) x7)[0]? = some (AV.d (vI (dI (cel x7 (((IntKind.i64.wrap (dI (cel x9 (xb.toNat * 2 + 1)))).tmod (↑x6 : Int)).toNat * 1))))))) (.sees [(.agg [(aI xc), (.d (.sl xd xe)), (.d (.sl xf xg))]), (aI (dI (cel x7 (((IntKind.i64.wrap (dI (cel x9 (xb.toNat * 2 + 1)))).tmod (↑x6 : Int)).toNat * 1))))] (.br (xq.2.2.2.2.2 != 0)
 (.ask (.eqB (xq.2.2.2.2.2 != 0) true) (.ask (.eqB (xq.2.2.2.2.2 != 0) true) (.ask (.eqB (xq.2.2.2.2.2 != 0) true) (.ask (.eqB (xq.2.2.2.2.2 != 0) true) (.ask (.eqB (xq.2.2.2.2.2 != 0) true) (.ask (.eqB (xq.2.2.2.2.2 != 0) true) (.ret false)))))))
 (.br (decide (xq.1 < xc))
 (.ask (.eqB (xq.2.2.2.2.2 != 0) false) (.ask (.eqB (xq.2.2.2.2.2 != 0) false) (.ask (.eqB (xq.2.2.2.2.2 != 0) false) (.ask (.eqB (xq.2.2.2.2.2 != 0) false) (.ask (.eqB (xq.2.2.2.2.2 != 0) false) (.ask (.eqB (xq.2.2.2.2.2 != 0) false) (.ask (.eqB (decide (xq.1 < xc)) true) (.ask (.eqB (decide (xq.1 < xc)) true) (.ask (.eqB (decide (xq.1 < xc)) true) (.ask (.eqB (decide (xq.1 < xc)) true) (.ask (.eqB (decide (xq.1 < xc)) true) (.ask (.eqB (decide (xq.1 < xc)) true) (.ask (.eqB (decide (xq.1 < xc)) true) (.ret false))))))))))))))
 (.br (decide (xq.1 > xc + 1))
 (.ask (.eqB (xq.2.2.2.2.2 != 0) false) (.ask (.eqB (xq.2.2.2.2.2 != 0) false) (.ask (.eqB (xq.2.2.2.2.2 != 0) false) (.ask (.eqB (xq.2.2.2.2.2 != 0) false) (.ask (.eqB (xq.2.2.2.2.2 != 0) false) (.ask (.eqB (xq.2.2.2.2.2 != 0) false) (.ask (.eqB (decide (xq.1 < xc)) false) (.ask (.eqB (decide (xq.1 < xc)) false) (.ask (.eqB (decide (xq.1 < xc)) false) (.ask (.eqB (decide (xq.1 < xc)) false) (.ask (.in64 (xc + 1)) (.ask (.eqB (decide (xq.1 < xc)) false) (.ask (.eqB (decide (xq.1 < xc)) false) (.ask (.eqB (decide (xq.1 < xc)) false) (.ask (.eqB (decide (xq.1 > xc + 1)) true) (.ask (.eqB (decide (xq.1 > xc + 1)) true) (.ask (.eqB (decide (xq.1 > xc + 1)) true) (.ask (.eqB (decide (xq.1 > xc + 1)) true) (.ask (.eqB (decide (xq.1 > xc + 1)) true) (.ask (.eqB (decide (xq.1 > xc + 1)) true) (.ret false)))))))))))))))))))))
 (.br (decide (xq.1 ≥ (↑x3 : Int)))
 (.ask (.eqB (xq.2.2.2.2.2 != 0) false) (.ask (.eqB (xq.2.2.2.2.2 != 0) false) (.ask (.eqB (xq.2.2.2.2.2 != 0) false) (.ask (.eqB (xq.2.2.2.2.2 != 0) false) (.ask (.eqB (xq.2.2.2.2.2 != 0) false) (.ask (.eqB (xq.2.2.2.2.2 != 0) false) (.ask (.eqB (decide (xq.1 < xc)) false) (.ask (.eqB (decide (xq.1 < xc)) false) (.ask (.eqB (decide (xq.1 < xc)) false) (.ask (.eqB (decide (xq.1 < xc)) false) (.ask (.in64 (xc + 1)) (.ask (.eqB (decide (xq.1 < xc)) false) (.ask (.eqB (decide (xq.1 < xc)) false) (.ask (.eqB (decide (xq.1 < xc)) false) (.ask (.eqB (decide (xq.1 > xc + 1)) false) (.ask (.eqB (decide (xq.1 > xc + 1)) false) (.ask (.eqB (decide (xq.1 > xc + 1)) false) (.ask (.eqB (decide (xq.1 > xc + 1)) false) (.ask (.eqB (decide (xq.1 > xc + 1)) false) (.ask (.eqB (decide (xq.1 > xc + 1)) false) (.ask (.eqB (decide (xq.1 ≥ (↑x3 : Int))) true) (.ask (.eqB (decide (xq.1 ≥ (↑x3 : Int))) true) (.ask (.eqB (decide (xq.1 ≥ (↑x3 : Int))) true) (.ask (.eqB (decide (xq.1 ≥ (↑x3 : Int))) true) (.ask (.eqB (decide (xq.1 ≥ (↑x3 : Int))) true) (.ask (.eqB (decide (xq.1 ≥ (↑x3 : Int))) true) (.ask (.eqB (decide (xq.1 ≥ (↑x3 : Int))) true) (.ask (.eqB (decide (xq.1 ≥ (↑x3 : Int))) true) (.ask (.eqB (decide (xq.1 ≥ (↑x3 : Int))) true) (.ask (.eqB (decide (xq.1 ≥ (↑x3 : Int))) true) (.ret false)))))))))))))))))))))))))))))))
 (.bind (F65 xq.2.1 xq.2.2.1 (dN (cel x4 (xq.1.toNat * 1))) (dL (cel x4 (xq.1.toNat * 1)))) fun xr =>
 (.ask (.eqB (xq.2.2.2.2.2 != 0) false) (.ask (.eqB (xq.2.2.2.2.2 != 0) false) (.ask (.eqB (xq.2.2.2.2.2 != 0) false) (.ask (.eqB (xq.2.2.2.2.2 != 0) false) (.ask (.eqB (xq.2.2.2.2.2 != 0) false) (.ask (.eqB (xq.2.2.2.2.2 != 0) false) (.ask (.eqB (decide (xq.1 < xc)) false) (.ask (.eqB (decide (xq.1 < xc)) false) (.ask (.eqB (decide (xq.1 < xc)) false) (.ask (.eqB (decide (xq.1 < xc)) false) (.ask (.in64 (xc + 1)) (.ask (.eqB (decide (xq.1 < xc)) false) (.ask (.eqB (decide (xq.1 < xc)) false) (.ask (.eqB (decide (xq.1 < xc)) false) (.ask (.eqB (decide (xq.1 > xc + 1)) false) (.ask (.eqB (decide (xq.1 > xc + 1)) false) (.ask (.eqB (decide (xq.1 > xc + 1)) false) (.ask (.eqB (decide (xq.1 > xc + 1)) false) (.ask (.eqB (decide (xq.1 > xc + 1)) false) (.ask (.eqB (decide (xq.1 > xc + 1)) false) (.ask (.eqB (decide (xq.1 ≥ (↑x3 : Int))) false) (.ask (.eqB (decide (xq.1 ≥ (↑x3 : Int))) false) (.ask (.eqB (decide (xq.1 ≥ (↑x3 : Int))) false) (.ask (.eqB (decide (xq.1 ≥ (↑x3 : Int))) false) (.ask (.eqB (decide (xq.1 ≥ (↑x3 : Int))) false) (.ask (.le 0 xq.1) (.ask (.lt xq.1 ((↑x3 : Int))) (.ask (.leN (xq.1.toNat * 1) x4.length) (.ask (.eqB (decide (xq.1 ≥ (↑x3 : Int))) false) (.ask (.prop (Option.map AV.d (List.drop (xq.1.toNat * 1) x4)[0]? = some (AV.d (DV.sl (dN (cel x4 (xq.1.toNat * 1))) (dL (cel x4 (xq.1.toNat * 1))))))) (.ask (.eqB (decide (xq.1 ≥ (↑x3 : Int))) false) (.sees [(.d (.sl xq.2.1 xq.2.2.1)), (.d (.sl (dN (cel x4 (xq.1.toNat * 1))) (dL (cel x4 (xq.1.toNat * 1)))))] (.ask (.eqB (decide (xq.1 ≥ (↑x3 : Int))) false) (.ask (.eqB (decide (xq.1 ≥ (↑x3 : Int))) false) (.ask (.eqB (decide (xq.1 ≥ (↑x3 : Int))) false) (.br (!xr)
 (.ret false)
 (.nxt (.c13 x0 x1 x2 x3 x4 x5 x6 x7 x8 x9 xa xb xq.1 xq.2.1 xq.2.2.1 xq.2.2.2.1 xq.2.2.2.2.1 xh xi xj xk xl xm xn)))))))))))))))))))))))))))))))))))))))))))))))))))
 (.br ((dI (cel x9 (xb.toNat * 2))).tmod 5 == 3)
 (.bind (F59 xh xi xj xk xl xc) fun xs =>
 (.sees [(.agg [(aI xh), (.d (.sl xi xj)), (.d (.sl xk xl))]), (aI xc)] (.br (xs.2.2.2.2.2.2.2 != 0)
 (.ret false)
 (.ask (.eqB ((xs.2.2.2.2.2.2.2 != 0) == false) true) (.bind (F65 xs.2.2.2.2.2.1 xs.2.2.2.2.2.2.1 xd xe) fun xt =>
 (.sees [(.d (.sl xs.2.2.2.2.2.1 xs.2.2.2.2.2.2.1)), (.d (.sl xd xe))] (.br (!xt)
 (.ret false)
 (.br (xs.1 != xc)
 (.ret false)
 (.nxt (.c13 x0 x1 x2 x3 x4 x5 x6 x7 x8 x9 xa xb xc xd xe xf xg xs.1 xs.2.1 xs.2.2.1 xs.2.2.2.1 xs.2.2.2.2.1 xm xn))))))))))
 (.ask (.in64 (xc + 1)) (.ask (.neI (xc + 1) 0) (.bind (F59 xh xi xj xk xl ((IntKind.i64.wrap (dI (cel x9 (xb.toNat * 2 + 1)))).tmod (xc + 1))) fun xu =>
 (.sees [(.agg [(aI xh), (.d (.sl xi xj)), (.d (.sl xk xl))]), (aI ((IntKind.i64.wrap (dI (cel x9 (xb.toNat * 2 + 1)))).tmod (xc + 1)))] (.br (xu.2.2.2.2.2.2.2 == 35)
 (.ask (.eqB ((xu.2.2.2.2.2.2.2 == 35) == true) true) (.br (decide ((IntKind.i64.wrap (dI (cel x9 (xb.toNat * 2 + 1)))).tmod (xc + 1) < xh))
 (.ask (.in64 (xb + 1)) (.nxt (.c22 x0 x1 x2 x3 x4 x5 x6 x7 x8 x9 xa (xb + 1) xc xd xe xf xg xh xi xj xk xl xm xn)))
 (.br (xu.2.2.2.2.2.2.2 != 0)
 (.ret false)
 (.ask (.le 0 ((IntKind.i64.wrap (dI (cel x9 (xb.toNat * 2 + 1)))).tmod (xc + 1))) (.ask (.lt ((IntKind.i64.wrap (dI (cel x9 (xb.toNat * 2 + 1)))).tmod (xc + 1)) ((↑x3 : Int))) (.ask (.leN (((IntKind.i64.wrap (dI (cel x9 (xb.toNat * 2 + 1)))).tmod (xc + 1)).toNat * 1) x4.length) (.ask (.prop (Option.map AV.d (List.drop (((IntKind.i64.wrap (dI (cel x9 (xb.toNat * 2 + 1)))).tmod (xc + 1)).toNat * 1) x4)[0]? = some (AV.d (DV.sl (dN (cel x4 (((IntKind.i64.wrap (dI (cel x9 (xb.toNat * 2 + 1)))).tmod (xc + 1)).toNat * 1))) (dL (cel x4 (((IntKind.i64.wrap (dI (cel x9 (xb.toNat * 2 + 1)))).tmod (xc + 1)).toNat * 1))))))) (.ask (.eqB ((xu.2.2.2.2.2.2.2 != 0) == false) true) (.bind (F65 xu.2.2.2.2.2.1 xu.2.2.2.2.2.2.1 (dN (cel x4 (((IntKind.i64.wrap (dI (cel x9 (xb.toNat * 2 + 1)))).tmod (xc + 1)).toNat * 1))) (dL (cel x4 (((IntKind.i64.wrap (dI (cel x9 (xb.toNat * 2 + 1)))).tmod (xc + 1)).toNat * 1)))) fun xv =>
 (.sees [(.d (.sl xu.2.2.2.2.2.1 xu.2.2.2.2.2.2.1)), (.d (.sl (dN (cel x4 (((IntKind.i64.wrap (dI (cel x9 (xb.toNat * 2 + 1)))).tmod (xc + 1)).toNat * 1))) (dL (cel x4 (((IntKind.i64.wrap (dI (cel x9 (xb.toNat * 2 + 1)))).tmod (xc + 1)).toNat * 1)))))] (.br (!xv)
 (.ret false)
 (.nxt (.c13 x0 x1 x2 x3 x4 x5 x6 x7 x8 x9 xa xb xc xd xe xf xg xu.1 xu.2.1 xu.2.2.1 xu.2.2.2.1 xu.2.2.2.2.1 xm xn)))))))))))))
 (.br (xu.2.2.2.2.2.2.2 != 0)
 (.ret false)
 (.ask (.le 0 ((IntKind.i64.wrap (dI (cel x9 (xb.toNat * 2 + 1)))).tmod (xc + 1))) (.ask (.lt ((IntKind.i64.wrap (dI (cel x9 (xb.toNat * 2 + 1)))).tmod (xc + 1)) ((↑x3 : Int))) (.ask (.leN (((IntKind.i64.wrap (dI (cel x9 (xb.toNat * 2 + 1)))).tmod (xc + 1)).toNat * 1) x4.length) (.ask (.prop (Option.map AV.d (List.drop (((IntKind.i64.wrap (dI (cel x9 (xb.toNat * 2 + 1)))).tmod (xc + 1)).toNat * 1) x4)[0]? = some (AV.d (DV.sl (dN (cel x4 (((IntKind.i64.wrap (dI (cel x9 (xb.toNat * 2 + 1)))).tmod (xc + 1)).toNat * 1))) (dL (cel x4 (((IntKind.i64.wrap (dI (cel x9 (xb.toNat * 2 + 1)))).tmod (xc + 1)).toNat * 1))))))) (.ask (.eqB ((xu.2.2.2.2.2.2.2 != 0) == false) true) (.bind (F65 xu.2.2.2.2.2.1 xu.2.2.2.2.2.2.1 (dN (cel x4 (((IntKind.i64.wrap (dI (cel x9 (xb.toNat * 2 + 1)))).tmod (xc + 1)).toNat * 1))) (dL (cel x4 (((IntKind.i64.wrap (dI (cel x9 (xb.toNat * 2 + 1)))).tmod (xc + 1)).toNat * 1)))) fun xw =>
 (.sees [(.d (.sl xu.2.2.2.2.2.1 xu.2.2.2.2.2.2.1)), (.d (.sl (dN (cel x4 (((IntKind.i64.wrap (dI (cel x9 (xb.toNat * 2 + 1)))).tmod (xc + 1)).toNat * 1))) (dL (cel x4 (((IntKind.i64.wrap (dI (cel x9 (xb.toNat * 2 + 1)))).tmod (xc + 1)).toNat * 1)))))] (.br (!xw)
 (.ret false)
 (.nxt (.c13 x0 x1 x2 x3 x4 x5 x6 x7 x8 x9 xa xb xc xd xe xf xg xu.1 xu.2.1 xu.2.2.1 xu.2.2.2.1 xu.2.2.2.2.1 xm xn)))))))))))))))))))))))))
 (.ret true))
 | .c23 x0 x1 x2 x3 x4 x5 x6 x7 x8 x9 xa xb xc xd xe xf xg xh xi xj => (.br (decide (x8 < x7))
 (.ask (.le 0 x8) (.ask (.lt x8 ((↑x5 : Int))) (.ask (.leN (x8.toNat * 2) x6.length) (.ask (.leN 2 ((List.drop (x8.toNat * 2) x6).length)) (.ask (.prop (List.map AV.d (List.take 2 (List.drop (x8.toNat * 2) x6)) = [AV.d (DV.v (Value.int IntKind.u8 (dI (cel x6 (x8.toNat * 2))))), AV.d (DV.v (Value.int IntKind.u8 (dI (cel x6 (x8.toNat * 2 + 1)))))])) (.br ((dI (cel x6 (x8.toNat * 2))).tmod 5 == 0)
 (.nxt (.c25 x0 x1 x2 x3 x4 (IntKind.i64.wrap (dI (cel x6 (x8.toNat * 2 + 1)))) x5 x6 x7 x8 ((↑x0 : Int)) 0 x9 xa xb xc xd xe xf xg xh xi xj))
 (.br ((dI (cel x6 (x8.toNat * 2))).tmod 5 == 1)
 (.ask (.neI ((↑x3 : Int)) 0) (.br ((IntKind.i64.wrap (dI (cel x6 (x8.toNat * 2 + 1)))).tmod (↑x3 : Int) == 0)
 (.ask (.in64 (x8 + 1)) (.nxt (.c23 x0 x1 x2 x3 x4 x5 x6 x7 (x8 + 1) x9 xa xb xc xd xe xf xg xh xi xj)))
 (.bind (F33 (dN (cel x4 (((IntKind.i64.wrap (dI (cel x6 (x8.toNat * 2 + 1)))).tmod (↑x3 : Int)).toNat * 1))) (dL (cel x4 (((IntKind.i64.wrap (dI (cel x6 (x8.toNat * 2 + 1)))).tmod (↑x3 : Int)).toNat * 1)))) fun xk =>
 (.bind (F57 xe xf xg xh xi ((IntKind.i64.wrap (dI (cel x6 (x8.toNat * 2 + 1)))).tmod (↑x3 : Int)) xk.1 xk.2) fun xl =>
 (.ask (.le 0 ((IntKind.i64.wrap (dI (cel x6 (x8.toNat * 2 + 1)))).tmod (↑x3 : Int))) (.ask (.lt ((IntKind.i64.wrap (dI (cel x6 (x8.toNat * 2 + 1)))).tmod (↑x3 : Int)) ((↑x3 : Int))) (.ask (.leN (((IntKind.i64.wrap (dI (cel x6 (x8.toNat * 2 + 1)))).tmod (↑x3 : Int)).toNat * 1) x4.length) (.ask (.prop (Option.map AV.d (List.drop (((IntKind.i64.wrap (dI (cel x6 (x8.toNat * 2 + 1)))).tmod (↑x3 : Int)).toNat * 1) x4)[0]? = some (AV.d (DV.sl (dN (cel x4 (((IntKind.i64.wrap (dI (cel x6 (x8.toNat * 2 + 1)))).tmod (↑x3 : Int)).toNat * 1))) (dL (cel x4 (((IntKind.i64.wrap (dI (cel x6 (x8.toNat * 2 + 1)))).tmod (↑x3 : Int)).toNat * 1))))))) (.sees [(.d (.sl (dN (cel x4 (((IntKind.i64.wrap (dI (cel x6 (x8.toNat * 2 + 1)))).tmod (↑x3 : Int)).toNat * 1))) (dL (cel x4 (((IntKind.i64.wrap (dI (cel x6 (x8.toNat * 2 + 1)))).tmod (↑x3 : Int)).toNat * 1)))))] (.sees [(.agg [(aI xe), (.d (.sl xf xg)), (.d (.sl xh xi))]), (aI ((IntKind.i64.wrap (dI (cel x6 (x8.toNat * 2 + 1)))).tmod (↑x3 : Int))), (.d (.sl xk.1 xk.2))] (.ask (.in64 (xe + 1)) (.br (decide ((IntKind.i64.wrap (dI (cel x6 (x8.toNat * 2 + 1)))).tmod (↑x3 : Int) > xe + 1))
 (.br (xl.2.2.2.2.2.2 != 7)
 (.ret false)
 (.ask (.in64 (x8 + 1)) (.nxt (.c23 x0 x1 x2 x3 x4 x5 x6 x7 (x8 + 1) x9 xa xb xc xd xe xf xg xh xi xj))))
 (.br (xl.2.2.2.2.2.2 != 0)
 (.ret false)
 (.ask (.eqB ((xl.2.2.2.2.2.2 != 0) == false) true) (.br (decide (xl.2.2.2.2.2.1 < xe))
 (.ret false)
 (.ask (.in64 (xe + 1)) (.ask (.eqB (decide (xl.2.2.2.2.2.1 < xe) == false) true) (.br (decide (xl.2.2.2.2.2.1 > xe + 1))
 (.ret false)
 (.br (xl.1 != xe)
 (.ret false)
 (.nxt (.c13 x0 x1 x2 x3 x4 0 1 [(vI xl.2.2.2.2.2.1)] x5 x6 x7 x8 x9 xa xb xc xd xl.1 xl.2.1 xl.2.2.1 xl.2.2.2.1 xl.2.2.2.2.1 xj 0)))))))))))))))))))))
 (.br ((dI (cel x6 (x8.toNat * 2))).tmod 5 == 2)
 (.ask (.in64 (x8 + 1)) (.nxt (.c23 x0 x1 x2 x3 x4 x5 x6 x7 (x8 + 1) x9 xa xb xc xd xe xf xg xh xi xj)))
 (.br ((dI (cel x6 (x8.toNat * 2))).tmod 5 == 3)
 (.bind (F59 xe xf xg xh xi x9) fun xm =>
 (.sees [(.agg [(aI xe), (.d (.sl xf xg)), (.d (.sl xh xi))]), (aI x9)] (.br (xm.2.2.2.2.2.2.2 != 0)
 (.ret false)
 (.ask (.eqB ((xm.2.2.2.2.2.2.2 != 0) == false) true) (.bind (F65 xm.2.2.2.2.2.1 xm.2.2.2.2.2.2.1 xa xb) fun xn =>
 (.sees [(.d (.sl xm.2.2.2.2.2.1 xm.2.2.2.2.2.2.1)), (.d (.sl xa xb))] (.br (!xn)
 (.ret false)
 (.br (xm.1 != x9)
 (.ret false)
 (.nxt (.c14 x0 x1 x2 x3 x4 x5 x6 x7 x8 x9 xa xb xc xd xm.1 xm.2.1 xm.2.2.1 xm.2.2.2.1 xm.2.2.2.2.1 xj))))))))))
 (.ask (.in64 (x9 + 1)) (.ask (.neI (x9 + 1) 0) (.bind (F59 xe xf xg xh xi ((IntKind.i64.wrap (dI (cel x6 (x8.toNat * 2 + 1)))).tmod (x9 + 1))) fun xo =>
 (.sees [(.agg [(aI xe), (.d (.sl xf xg)), (.d (.sl xh xi))]), (aI ((IntKind.i64.wrap (dI (cel x6 (x8.toNat * 2 + 1)))).tmod (x9 + 1)))] (.br (xo.2.2.2.2.2.2.2 == 35)
 (.ask (.eqB ((xo.2.2.2.2.2.2.2 == 35) == true) true) (.br (decide ((IntKind.i64.wrap (dI (cel x6 (x8.toNat * 2 + 1)))).tmod (x9 + 1) < xe))
 (.ask (.in64 (x8 + 1)) (.nxt (.c23 x0 x1 x2 x3 x4 x5 x6 x7 (x8 + 1) x9 xa xb xc xd xe xf xg xh xi xj)))
 (.br (xo.2.2.2.2.2.2.2 != 0)
 (.ret false)
 (.ask (.le 0 ((IntKind.i64.wrap (dI (cel x6 (x8.toNat * 2 + 1)))).tmod (x9 + 1))) (.ask (.lt ((IntKind.i64.wrap (dI (cel x6 (x8.toNat * 2 + 1)))).tmod (x9 + 1)) ((↑x3 : Int))) (.ask (.leN (((IntKind.i64.wrap (dI (cel x6 (x8.toNat * 2 + 1)))).tmod (x9 + 1)).toNat * 1) x4.length) (.ask (.prop (Option.map AV.d (List.drop (((IntKind.i64.wrap (dI (cel x6 (x8.toNat * 2 + 1)))).tmod (x9 + 1)).toNat * 1) x4)[0]? = some (AV.d (DV.sl (dN (cel x4 (((IntKind.i64.wrap (dI (cel x6 (x8.toNat * 2 + 1)))).tmod (x9 + 1)).toNat * 1))) (dL (cel x4 (((IntKind.i64.wrap (dI (cel x6 (x8.toNat * 2 + 1)))).tmod (x9 + 1)).toNat * 1))))))) (.ask (.eqB ((xo.2.2.2.2.2.2.2 != 0) == false) true) (.bind (F65 xo.2.2.2.2.2.1 xo.2.2.2.2.2.2.1 (dN (cel x4 (((IntKind.i64.wrap (dI (cel x6 (x8.toNat * 2 + 1)))).tmod (x9 + 1)).toNat * 1))) (dL (cel x4 (((IntKind.i64.wrap (dI (cel x6 (x8.toNat * 2 + 1)))).tmod (x9 + 1)).toNat * 1)))) fun xp =>
 (.sees [(.d (.sl xo.2.2.2.2.2.1 xo.2.2.2.2.2.2.1)), (.d (.sl (dN (cel x4 (((IntKind.i64.wrap (dI (cel x6 (x8.toNat * 2 + 1)))).tmod (x9 + 1)).toNat * 1))) (dL (cel x4 (((IntKind.i64.wrap (dI (cel x6 (x8.toNat * 2 + 1)))).tmod (x9 + 1)).toNat * 1)))))] (.br (!xp)
 (.ret false)
 (.nxt (.c14 x0 x1 x2 x3 x4 x5 x6 x7 x8 x9 xa xb xc xd xo.1 xo.2.1 xo.2.2.1 xo.2.2.2.1 xo.2.2.2.2.1 xj)))))))))))))
 (.br (xo.2.2.2.2.2.2.2 != 0)
 (.ret false)
 (.ask (.le 0 ((IntKind.i64.wrap (dI (cel x6 (x8.toNat * 2 + 1)))).tmod (x9 + 1))) (.ask (.lt ((IntKind.i64.wrap (dI (cel x6 (x8.toNat * 2 + 1)))).tmod (x9 + 1)) ((↑x3 : Int))) (.ask (.leN (((IntKind.i64.wrap (dI (cel x6 (x8.toNat * 2 + 1)))).tmod (x9 + 1)).toNat * 1) x4.length) (.ask (.prop (Option.map AV.d (List.drop (((IntKind.i64.wrap (dI (cel x6 (x8.toNat * 2 + 1)))).tmod (x9 + 1)).toNat * 1) x4)[0]? = some (AV.d (DV.sl (dN (cel x4 (((IntKind.i64.wrap (dI (cel x6 (x8.toNat * 2 + 1)))).tmod (x9 + 1)).toNat * 1))) (dL (cel x4 (((IntKind.i64.wrap (dI (cel x6 (x8.toNat * 2 + 1)))).tmod (x9 + 1)).toNat * 1))))))) (.ask (.eqB ((xo.2.2.2.2.2.2.2 != 0) == false) true) (.bind (F65 xo.2.2.2.2.2.1 xo.2.2.2.2.2.2.1 (dN (cel x4 (((IntKind.i64.wrap (dI (cel x6 (x8.toNat * 2 + 1)))).tmod (x9 + 1)).toNat * 1))) (dL (cel x4 (((IntKind.i64.wrap (dI (cel x6 (x8.toNat * 2 + 1)))).tmod (x9 + 1)).toNat * 1)))) fun xq =>
 (.sees [(.d (.sl xo.2.2.2.2.2.1 xo.2.2.2.2.2.2.1)), (.d (.sl (dN (cel x4 (((IntKind.i64.wrap (dI (cel x6 (x8.toNat * 2 + 1)))).tmod (x9 + 1)).toNat * 1))) (dL (cel x4 (((IntKind.i64.wrap (dI (cel x6 (x8.toNat * 2 + 1)))).tmod (x9 + 1)).toNat * 1)))))] (.br (!xq)
 (.ret false)
 (.nxt (.c14 x0 x1 x2 x3 x4 x5 x6 x7 x8 x9 xa xb xc xd xo.1 xo.2.1 xo.2.2.1 xo.2.2.2.1 xo.2.2.2.2.1 xj)))))))))))))))))))))))))
 (.ret true))
 | .c24 x0 x1 x2 x3 x4 x5 x6 x7 x8 x9 xa xb xc xd xe xf xg xh xi xj xk xl xm xn xo xp xq => (.br (decide (xe < xd))
 (.ask (.in64 (x8 + xe)) (.ask (.in64 (xe + 1)) (.nxt (.c26 x0 x1 x2 x3 x4 x5 x6 x7 x8 0 1 [(vI ((x8 + xe).tmod 7))] x9 xa xb xc xd (xe + 1) xf xg xh xi xj xk xl xm xn xo xp xq 0))))
 (.bind (F33 0 []) fun xr =>
 (.bind (F47 xf xg xh xi xj xr.1 xr.2) fun xs =>
 (.sees [(.d (.sl 0 []))] (.sees [(.agg [(aI xf), (.d (.sl xg xh)), (.d (.sl xi xj))]), (.d (.sl xr.1 xr.2))] (.ask (.in64 (xf + 2)) (.br ((↑x3 : Int) == xf + 2)
 (.br (xs.2.2.2.2.2 != 31)
 (.ret false)
 (.ask (.in64 (xc + 1)) (.nxt (.c22 x0 x1 x2 x3 x4 x5 x6 x7 x9 xa xb (xc + 1) xf xg xh xi xj xk xl xm xn xo xp xq))))
 (.br (xs.2.2.2.2.2 != 0)
 (.ret false)
 (.br (xs.1 != xf)
 (.ret false)
 (.ask (.eqN x2 xp) (.ask (.fits (x3 + 1) 24) (.nxt (.c18 x0 x1 (xp + 1) (x3 + 1) (x4 ++ [DV.v (Value.slice none 0 0)]) x5 x6 x7 x9 xa xb xc xs.1 xs.2.1 xs.2.2.1 xs.2.2.2.1 xs.2.2.2.2.1 xk xl xm xn xo (xp + 1) xq)))))))))))))
 | .c25 x0 x1 x2 x3 x4 x5 x6 x7 x8 x9 xa xb xc xd xe xf xg xh xi xj xk xl xm => (.br (decide (xb < xa))
 (.ask (.in64 (x5 + xb)) (.ask (.in64 (xb + 1)) (.nxt (.c27 x0 x1 x2 x3 x4 x5 0 1 [(vI ((x5 + xb).tmod 7))] x6 x7 x8 x9 xa (xb + 1) xc xd xe xf xg xh xi xj xk xl xm 0))))
 (.bind (F33 0 []) fun xn =>
 (.bind (F47 xc xd xe xf xg xn.1 xn.2) fun xo =>
 (.sees [(.d (.sl 0 []))] (.sees [(.agg [(aI xc), (.d (.sl xd xe)), (.d (.sl xf xg))]), (.d (.sl xn.1 xn.2))] (.ask (.in64 (xc + 2)) (.br ((↑x3 : Int) == xc + 2)
 (.br (xo.2.2.2.2.2 != 31)
 (.ret false)
 (.ask (.in64 (x9 + 1)) (.nxt (.c23 x0 x1 x2 x3 x4 x6 x7 x8 (x9 + 1) xc xd xe xf xg xh xi xj xk xl xm))))
 (.br (xo.2.2.2.2.2 != 0)
 (.ret false)
 (.br (xo.1 != xc)
 (.ret false)
 (.ask (.eqN x2 xm) (.ask (.fits (x3 + 1) 24) (.nxt (.c19 x0 x1 (xm + 1) (x3 + 1) (x4 ++ [DV.v (Value.slice none 0 0)]) x6 x7 x8 x9 xo.1 xo.2.1 xo.2.2.1 xo.2.2.2.1 xo.2.2.2.2.1 xh xi xj xk xl (xm + 1))))))))))))))
 | .c26 x0 x1 x2 x3 x4 x5 x6 x7 x8 x9 xa xb xc xd xe xf xg xh xi xj xk xl xm xn xo xp xq xr xs xt xu => (.br (decide (xh < xg))
 (.ask (.in64 (x8 + xh)) (.ask (.eqN x9 xu) (.ask (.fits (xa + 1) 8) (.ask (.in64 (xh + 1)) (.nxt (.c26 x0 x1 x2 x3 x4 x5 x6 x7 x8 (xu + 1) (xa + 1) (xb ++ [vI ((x8 + xh).tmod 7)]) xc xd xe xf xg (xh + 1) xi xj xk xl xm xn xo xp xq xr xs xt (xu + 1)))))))
 (.bind (F33 xa xb) fun xv =>
 (.bind (F47 xi xj xk xl xm xv.1 xv.2) fun xw =>
 (.sees [(.d (.sl xa xb))] (.sees [(.agg [(aI xi), (.d (.sl xj xk)), (.d (.sl xl xm))]), (.d (.sl xv.1 xv.2))] (.ask (.in64 (xi + 2)) (.br ((↑x3 : Int) == xi + 2)
 (.br (xw.2.2.2.2.2 != 31)
 (.ret false)
 (.ask (.in64 (xf + 1)) (.nxt (.c22 x0 x1 x2 x3 x4 x5 x6 x7 xc xd xe (xf + 1) xi xj xk xl xm xn xo xp xq xr xs xt))))
 (.br (xw.2.2.2.2.2 != 0)
 (.ret false)
 (.br (xw.1 != xi)
 (.ret false)
 (.ask (.eqN x2 xs) (.ask (.fits (x3 + 1) 24) (.nxt (.c18 x0 x1 (xs + 1) (x3 + 1) (x4 ++ [DV.sl xa xb]) x5 x6 x7 xc xd xe xf xw.1 xw.2.1 xw.2.2.1 xw.2.2.2.1 xw.2.2.2.2.1 xn xo xp xq xr (xs + 1) xt)))))))))))))
 | .c27 x0 x1 x2 x3 x4 x5 x6 x7 x8 x9 xa xb xc xd xe xf xg xh xi xj xk xl xm xn xo xp xq => (.br (decide (xe < xd))
 (.ask (.in64 (x5 + xe)) (.ask (.eqN x6 xq) (.ask (.fits (x7 + 1) 8) (.ask (.in64 (xe + 1)) (.nxt (.c27 x0 x1 x2 x3 x4 x5 (xq + 1) (x7 + 1) (x8 ++ [vI ((x5 + xe).tmod 7)]) x9 xa xb xc xd (xe + 1) xf xg xh xi xj xk xl xm xn xo xp (xq + 1)))))))
 (.bind (F33 x7 x8) fun xr =>
 (.bind (F47 xf xg xh xi xj xr.1 xr.2) fun xs =>
 (.sees [(.d (.sl x7 x8))] (.sees [(.agg [(aI xf), (.d (.sl xg xh)), (.d (.sl xi xj))]), (.d (.sl xr.1 xr.2))] (.ask (.in64 (xf + 2)) (.br ((↑x3 : Int) == xf + 2)
 (.br (xs.2.2.2.2.2 != 31)
 (.ret false)
 (.ask (.in64 (xc + 1)) (.nxt (.c23 x0 x1 x2 x3 x4 x9 xa xb (xc + 1) xf xg xh xi xj xk xl xm xn xo xp))))
 (.br (xs.2.2.2.2.2 != 0)
 (.ret false)
 (.br (xs.1 != xf)
 (.ret false)
 (.ask (.eqN x2 xp) (.ask (.fits (x3 + 1) 24) (.nxt (.c19 x0 x1 (xp + 1) (x3 + 1) (x4 ++ [DV.sl x7 x8]) x9 xa xb xc xs.1 xs.2.1 xs.2.2.1 xs.2.2.2.1 xs.2.2.2.2.1 xk xl xm xn xo (xp + 1))))))))))))))
def F11 (x0 : Nat) (x1 : List DV) (x2 : Nat) (x3 : List DV) : Option (Bool) := res B11 (.c0 x0 x1 x2 x3)
def goR (cf : Cfg) (n : Nat) (ds : List Dec) (dr : List Nat) (K : List Kn) (s : ASt) : Option (ASt × List PC) := match arun { cf with K := K } n s ds with
 | some (s', [], ps) => match dropC 0 dr ps with
  | some qs => some (s', qs)
  | none => none
 | _ => none
def goS (cf : Cfg) (n : Nat) (ds : List Dec) (dr : List Nat) (K : List Kn) (s : ASt) : ASt := match goR cf n ds dr K s with
 | some x => x.1
 | none => s
def goQ (cf : Cfg) (n : Nat) (ds : List Dec) (dr : List Nat) (K : List Kn) (s : ASt) : List PC := match goR cf n ds dr K s with
 | some x => x.2
 | none => []
theorem go_then {cf : Cfg} {f : FuncId} {n : Nat} {ds : List Dec} {dr : List Nat} {K : List Kn} {s : ASt} {d : DT cf} (h : (goR cf n ds dr K s).isSome = true) : xrun cf f (.go n ds dr d) K s = asks (goQ cf n ds dr K s) (xrun cf f d K (goS cf n ds dr K s)) := by
 unfold goQ goS
 cases hg : goR cf n ds dr K s with
 | none => rw [hg] at h; cases h
 | some x =>
  unfold goR at hg
  rw [xrun]
  split at hg
  ·rename_i s' ps ha
   split at hg
   ·rename_i qs hq
    cases hg
    rw [ha]
    simp only [hq]
   ·cases hg
  ·cases hg
theorem split_then {cf : Cfg} {f : FuncId} {t : Nat} {K : List Kn} {s : ASt} {d1 d2 : DT cf} {b : Bool} (h : s.fr.tmps[t]? = some (.d (.v (.bool b)))) : xrun cf f (.split t d1 d2) K s = .br b (xrun cf f d1 K (s.setB t true)) (xrun cf f d2 K (s.setB t false)) := by
 rw [xrun, h]
end
end Go.Kv
