import Derived.Test.YtdelimpnnpifpaaGreatDoorKzA
import Derived.Shelf.SlLaysN
import Derived.Test.YtdelimpnnpifpaaGreatDoorKvW
import Derived.Shelf.SlicesG.Clone
import Derived.Shelf.Strings.OnBuilder
set_option linter.all false
namespace Go.Proofs
open Go.Shelf Go.RowKit
def Tryz.laysClone_ren:Go.Shelf.Ren:=⟨fun | 41=>86 | n=>n,fun | 22=>24 | 23=>3 | 4=>4 | n=>n,fun | n=>n⟩
theorem Tryz.laysClone:Go.Proofs.SlLaysN.n41 Tryz.prog Tryz.laysClone_ren where
 mixed:=by kernel_rfl
 f41 := ⟨"slices.Clone[[]int,int]",by decide,Tryz.func86.trans (congrArg some (by kernel_rfl))⟩
 t4:=Tryz.underlying4
 a4:=Tryz.isAgg4
 z4:=Tryz.sizeOf4
 v4:=Tryz.zeroValue4
 t22:=Tryz.underlying24
 a22:=Tryz.isAgg24
 z22:=Tryz.sizeOf24
 v22:=Tryz.zeroValue24
 t23:=Tryz.underlying3
 a23:=Tryz.isAgg3
 z23:=Tryz.sizeOf3
 v23:=Tryz.zeroValue3
 i23:=by kernel_rfl
end Go.Proofs
namespace Go.Proofs
open Go.Shelf Go.RowKit Go.Lib
variable {P:Program} {ρ:Ren}
end Go.Proofs
namespace Go.Kv
open Go Go.RowKit Go.Proofs
theorem zN:PureCalls cfz.P cfz.glob 86 [.d (.v (.slice none 0 0))] (.d (.v (.slice none 0 0))):=by
 intro w φ us hφ hgl hargs
 obtain ⟨u1,r1,rfl,hu1,t1⟩:=hargs.cons_inv
 rw [t1.nil_inv]
 unfold Rel RelD at hu1
 obtain ⟨rfl,_⟩:=hu1
 refine Calls.mono (AnyG.slices_Clone_int_nil Tryz.laysClone 0 0 w) ?_
 rintro e w' ⟨he,rfl⟩
 refine ⟨_,φ,he,BelowD.refl _ _,fun _ _=>rfl,hφ,?_⟩
 unfold Rel RelD
 exact ⟨rfl,rfl⟩
end Go.Kv
namespace Go.Proofs
open Go.Shelf Go.RowKit
def Tryz.laysJoin_ren:Go.Shelf.Ren:=⟨fun | 156=>112 | 165=>148 | 166=>149 | 169=>150 | 240=>161 | 241=>162 | 276=>183 | 277=>184 | n=>n,fun | 31=>153 | 9=>9 | 3=>3 | 4=>4 | 0=>0 | 20=>20 | 72=>191 | 76=>195 | 70=>189 | 37=>86 | 75=>194 | 127=>204 | 164=>223 | 5=>5 | 80=>197 | n=>n,fun | n=>n⟩
theorem Tryz.laysJoin:Go.Proofs.Lays.n156 Tryz.prog Tryz.laysJoin_ren where
 mixed:=by kernel_rfl
 f156:=Tryz.func112.trans (congrArg some (by kernel_rfl))
 f165:=Tryz.func148.trans (congrArg some (by kernel_rfl))
 f166:=Tryz.func149.trans (congrArg some (by kernel_rfl))
 f169:=Tryz.func150.trans (congrArg some (by kernel_rfl))
 f240:=Tryz.func161.trans (congrArg some (by kernel_rfl))
 f241:=Tryz.func162.trans (congrArg some (by kernel_rfl))
 f276:=Tryz.func183.trans (congrArg some (by kernel_rfl))
 f277:=Tryz.func184.trans (congrArg some (by kernel_rfl))
 t0:=Tryz.underlying0
 a0:=Tryz.isAgg0
 z0:=Tryz.sizeOf0
 v0:=Tryz.zeroValue0
 t3:=Tryz.underlying3
 a3:=Tryz.isAgg3
 z3:=Tryz.sizeOf3
 v3:=Tryz.zeroValue3
 t4:=Tryz.underlying4
 a4:=Tryz.isAgg4
 z4:=Tryz.sizeOf4
 v4:=Tryz.zeroValue4
 t9:=Tryz.underlying9
 a9:=Tryz.isAgg9
 z9:=Tryz.sizeOf9
 v9:=Tryz.zeroValue9
 t20:=Tryz.underlying20
 a20:=Tryz.isAgg20
 z20:=Tryz.sizeOf20
 v20:=Tryz.zeroValue20
 t31:=Tryz.underlying153
 a31:=Tryz.isAgg153
 z31:=Tryz.sizeOf153
 v31:=Tryz.zeroValue153
 t37:=Tryz.underlying86
 a37:=Tryz.isAgg86
 z37:=Tryz.sizeOf86
 v37:=Tryz.zeroValue86
 t70:=Tryz.underlying189
 a70:=Tryz.isAgg189
 z70:=Tryz.sizeOf189
 v70:=Tryz.zeroValue189
 t72:=Tryz.underlying191
 a72:=Tryz.isAgg191
 z72:=Tryz.sizeOf191
 v72:=Tryz.zeroValue191
 t75:=Tryz.underlying194
 a75:=Tryz.isAgg194
 z75:=Tryz.sizeOf194
 v75:=Tryz.zeroValue194
 t76:=Tryz.underlying195
 a76:=Tryz.isAgg195
 z76:=Tryz.sizeOf195
 v76:=Tryz.zeroValue195
 t127:=Tryz.underlying204
 a127:=Tryz.isAgg204
 z127:=Tryz.sizeOf204
 v127:=Tryz.zeroValue204
 t164:=Tryz.underlying223
 a164:=Tryz.isAgg223
 z164:=Tryz.sizeOf223
 v164:=Tryz.zeroValue223
end Go.Proofs
namespace Go.Proofs
open Go.Shelf Go.RowKit
theorem Tryz.extraJoin:Builder.Extra Tryz.prog Tryz.laysJoin_ren:={
 sizeBuilder:=by kernel_rfl
 liesBuilder:=by kernel_rfl
 t5:=Tryz.underlying5
 a5:=Tryz.isAgg5
 z5:=Tryz.sizeOf5
 v5:=Tryz.zeroValue5
 infoByte:=by kernel_rfl
 cellsByte:=by kernel_rfl
 sizeByte:=by kernel_rfl
 neB5:=by decide }
end Go.Proofs
namespace Go.Kv
open Go Go.RowKit Go.Proofs
def jpN (s:ByteArray):DV:=.v (.string s)
def jkv (ss:List ByteArray) (sep:ByteArray):ByteArray:=⟨(Lib.join (ss.map (·.data.toList)) sep.data.toList).toArray⟩
theorem je6 {φ:Nat→Nat} {w:World}:∀ {ss:List ByteArray} {us:List Value},RelDs φ w (ss.map jpN) us→us=ss.map Value.string
 | [],_,h=>h.nil_inv
 | s :: ss,_,h=>by
  obtain ⟨u,r,rfl,hu,t⟩:=h.cons_inv
  unfold jpN RelD at hu
  rw [hu.1,je6 t]; rfl
theorem jge (ss:List ByteArray) (sep:ByteArray) (h1:ss.length≤140737488355328) (h2:(Lib.join (ss.map (·.data.toList)) sep.data.toList).length≤140737488355328) :
  PureCalls cfz.P cfz.glob 112 [.d (.sl ss.length (ss.map jpN)),.d (.v (.string sep))] (.d (.v (.string (jkv ss sep)))):=by
 intro w φ us hφ hgl hargs
 obtain ⟨u1,r1,rfl,hu1,t1⟩:=hargs.cons_inv
 obtain ⟨u2,r2,rfl,hu2,t2⟩:=t1.cons_inv
 rw [t2.nil_inv]
 unfold Rel RelD at hu1 hu2
 obtain ⟨rfl,_⟩:=hu2
 obtain ⟨bk,off,cap,vs,hsl,hoff,hcap,hcells,hrel⟩:=hu1
 have hvs:=je6 hrel
 subst hvs
 have main:Calls Tryz.prog 112 #[u1,.string sep] w fun e w'=>e=.returned (.string (jkv ss sep))∧Below w.heap.size w w':=by
  rcases hsl with rfl | ⟨⟨o,rfl⟩,h0,_,_⟩
  ·by_cases hn:ss=[]
   ·subst hn
    exact (Any.strings_Join_none Tryz.laysJoin Tryz.extraJoin _ cap sep w).mono fun e w' ⟨he,hw⟩=>⟨he,hw ▸ Below.refl _ _⟩
   ·have hlt:bk<w.heap.size:=by
     apply Classical.byContradiction
     intro hh
     have:=hφ bk (by omega)
     have hl:0<ss.length:=List.length_pos_iff.2 hn
     simp only [List.length_map] at hoff
     omega
    refine Any.strings_Join Tryz.laysJoin Tryz.extraJoin bk off cap ss sep w (fun j x hx=>?_) hlt h1 hcap h2
    exact hcells j (.string x) (by rw [List.getElem?_map,hx]; rfl)
  ·have hn:ss=[]:=List.eq_nil_of_length_eq_zero h0
   subst hn
   exact (Any.strings_Join_none Tryz.laysJoin Tryz.extraJoin o 0 sep w).mono fun e w' ⟨he,hw⟩=>⟨he,hw ▸ Below.refl _ _⟩
 refine Calls.mono main ?_
 rintro e w' ⟨rfl,hb⟩
 refine ⟨_,fun i=>if i<w.heap.size then φ i else 0,rfl,⟨hb,fun e=>nomatch (show false=true from e)⟩,fun i hi=>if_pos hi,fun i hi=>if_neg (by have:=hb.size; omega),?_⟩
 unfold Rel RelD
 exact ⟨rfl,rfl⟩
theorem join:PureCalls cfz.P cfz.glob 112 [.d (.sl 7 [.v (.string (ByteArray.mk #[119,111,114,100])),.v (.string (ByteArray.mk #[52])),.v (.string (ByteArray.mk #[50])),.v (.string (ByteArray.mk #[49,48])),.v (.string (ByteArray.mk #[53])),.v (.string (ByteArray.mk #[49])),.v (.string (ByteArray.mk #[48]))]),.d (.v (.string (ByteArray.mk #[32])))] (.d (.v (.string (ByteArray.mk #[119,111,114,100,32,52,32,50,32,49,48,32,53,32,49,32,48])))):=by
 have h:=jge [(ByteArray.mk #[119,111,114,100]),(ByteArray.mk #[52]),(ByteArray.mk #[50]),(ByteArray.mk #[49,48]),(ByteArray.mk #[53]),(ByteArray.mk #[49]),(ByteArray.mk #[48])] (ByteArray.mk #[32]) (by decide) (by decide)
 rw [show jkv [(ByteArray.mk #[119,111,114,100]),(ByteArray.mk #[52]),(ByteArray.mk #[50]),(ByteArray.mk #[49,48]),(ByteArray.mk #[53]),(ByteArray.mk #[49]),(ByteArray.mk #[48])] (ByteArray.mk #[32])=(ByteArray.mk #[119,111,114,100,32,52,32,50,32,49,48,32,53,32,49,32,48]) from by decide] at h
 exact h
end Go.Kv
