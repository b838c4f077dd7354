/- Print and Parse agree with the reference. -/
import Derived.Test.YtdelimpnnpifpaaGreatDoorGX1
import Derived.Test.YtdelimpnnpifpaaGreatDoorKzW
import Derived.Test.YtdelimpnnpifpaaGreatDoorKTb
set_option linter.all false
namespace Go.Kv
open Go Go.RowKit Go.Proofs
set_option maxRecDepth 100000
/-! F12 -/
inductive S12 where
  | c0 (a69 a70 : Int) (a71 : Nat) (a72 : List DV) (a73 : ByteArray)
def out12 (v : Bool) : AV := (.d (.v (.bool v)))
noncomputable def st12 : S12 → ASt
  | .c0 a69 a70 a71 a72 a73 => ent cfz 12 [(.agg [(aI a69), (aI a70)]), (.d (.sl a71 a72)), (.d (.v (.string a73)))]
noncomputable def B12 : S12 → Tr S12 (Bool)
  | .c0 a69 a70 a71 a72 a73 => (.bind (F14 a71 a72) fun v74 =>
  (.sees [(.d (.sl a71 a72))] (.triv _ (tv_s ((!v74) == false)) (.triv _ (tv_s ((!v74) == false)) (.br (!v74)
  (.bind (F15) fun v75 =>
  (.sees [] (.ret v75)))
  (.ask (.eqB ((!v74) == false) true) (.triv _ (tv_s (decide ((↑a73.size : Int) > 200) == true)) (.triv _ (tv_s (decide ((↑a73.size : Int) > 200) == true)) (.triv _ (tv_t (decide ((↑a73.size : Int) > 200))) (.br (if decide ((↑a73.size : Int) > 200) = true then (↑a73.size : Int) != 4097 else false)
  (.bind (F15) fun v76 =>
  (.sees [] (.ret v76)))
  (.bind (F17 a71 a72) fun v77 =>
  (.bind (F74 a69 a70 v77.fst v77.snd) fun v78 =>
  (.sees [(.d (.sl a71 a72))] (.sees [(.agg [(aI a69), (aI a70)]), (.d (.sl v77.fst v77.snd))] (.bind (F75 a73) fun v79 =>
  (.sees [(.d (.v (.string a73)))] (.bind (F21 a69 a70 a71 a72) fun v80 =>
  (.sees [(.agg [(aI a69), (aI a70)]), (.d (.sl a71 a72))] (.br (v80 == 0)
  (.bind (F76 a69 a70 a71 a72) fun v81 =>
  (.sees [(.agg [(aI a69), (aI a70)]), (.d (.sl a71 a72))] (.bind (F77 a73) fun v82 =>
  (.sees [(.d (.v (.string a73)))] (.triv _ (tv_s (eqS v78.fst v81 == true)) (.triv _ (tv_s (eqS v78.fst v81 == true)) (.triv _ (tv_t (eqS v78.fst v81)) (.triv _ (tv_s ((if eqS v78.fst v81 = true then v78.snd == v80 else false) == true)) (.triv _ (tv_s ((if eqS v78.fst v81 = true then v78.snd == v80 else false) == true)) (.triv _ (tv_t (if eqS v78.fst v81 = true then v78.snd == v80 else false)) (.bind (F30 v79.snd.snd.fst v79.snd.snd.snd.fst v82.snd.snd.fst v82.snd.snd.snd.fst) fun v83 =>
  (.sees [(.d (.sl v79.snd.snd.fst v79.snd.snd.snd.fst)), (.d (.sl v82.snd.snd.fst v82.snd.snd.snd.fst))] (.triv _ (tv_s ((if (if eqS v78.fst v81 = true then v78.snd == v80 else false) = true then if true = true then v79.fst == v82.fst && (v79.snd.fst == v82.snd.fst && true) else !(v79.fst == v82.fst && (v79.snd.fst == v82.snd.fst && true)) else false) == true)) (.triv _ (tv_s ((if (if eqS v78.fst v81 = true then v78.snd == v80 else false) = true then if true = true then v79.fst == v82.fst && (v79.snd.fst == v82.snd.fst && true) else !(v79.fst == v82.fst && (v79.snd.fst == v82.snd.fst && true)) else false) == true)) (.triv _ (tv_t (if (if eqS v78.fst v81 = true then v78.snd == v80 else false) = true then if true = true then v79.fst == v82.fst && (v79.snd.fst == v82.snd.fst && true) else !(v79.fst == v82.fst && (v79.snd.fst == v82.snd.fst && true)) else false)) (.triv _ (tv_s ((if (if (if eqS v78.fst v81 = true then v78.snd == v80 else false) = true then if true = true then v79.fst == v82.fst && (v79.snd.fst == v82.snd.fst && true) else !(v79.fst == v82.fst && (v79.snd.fst == v82.snd.fst && true)) else false) = true then v83 else false) == true)) (.triv _ (tv_s ((if (if (if eqS v78.fst v81 = true then v78.snd == v80 else false) = true then if true = true then v79.fst == v82.fst && (v79.snd.fst == v82.snd.fst && true) else !(v79.fst == v82.fst && (v79.snd.fst == v82.snd.fst && true)) else false) = true then v83 else false) == true)) (.triv _ (tv_t (if (if (if eqS v78.fst v81 = true then v78.snd == v80 else false) = true then if true = true then v79.fst == v82.fst && (v79.snd.fst == v82.snd.fst && true) else !(v79.fst == v82.fst && (v79.snd.fst == v82.snd.fst && true)) else false) = true then v83 else false)) (.bind (F15) fun v84 =>
  (.sees [] (.triv _ (tv_t (if (if (if (if eqS v78.fst v81 = true then v78.snd == v80 else false) = true then if true = true then v79.fst == v82.fst && (v79.snd.fst == v82.snd.fst && true) else !(v79.fst == v82.fst && (v79.snd.fst == v82.snd.fst && true)) else false) = true then v83 else false) = true then v79.snd.snd.snd.snd == v82.snd.snd.snd.snd else false)) (.ret (if (if (if (if (if eqS v78.fst v81 = true then v78.snd == v80 else false) = true then if true = true then v79.fst == v82.fst && (v79.snd.fst == v82.snd.fst && true) else !(v79.fst == v82.fst && (v79.snd.fst == v82.snd.fst && true)) else false) = true then v83 else false) = true then v79.snd.snd.snd.snd == v82.snd.snd.snd.snd else false) = true then v84 else false)))))))))))))))))))))))
  (.bind (F77 a73) fun v85 =>
  (.sees [(.d (.v (.string a73)))] (.triv _ (tv_s (eqS v78.fst (ByteArray.mk #[]) == true)) (.triv _ (tv_s (eqS v78.fst (ByteArray.mk #[]) == true)) (.triv _ (tv_t (eqS v78.fst (ByteArray.mk #[]))) (.triv _ (tv_s ((if eqS v78.fst (ByteArray.mk #[]) = true then v78.snd == v80 else false) == true)) (.triv _ (tv_s ((if eqS v78.fst (ByteArray.mk #[]) = true then v78.snd == v80 else false) == true)) (.triv _ (tv_t (if eqS v78.fst (ByteArray.mk #[]) = true then v78.snd == v80 else false)) (.bind (F30 v79.snd.snd.fst v79.snd.snd.snd.fst v85.snd.snd.fst v85.snd.snd.snd.fst) fun v86 =>
  (.sees [(.d (.sl v79.snd.snd.fst v79.snd.snd.snd.fst)), (.d (.sl v85.snd.snd.fst v85.snd.snd.snd.fst))] (.triv _ (tv_s ((if (if eqS v78.fst (ByteArray.mk #[]) = true then v78.snd == v80 else false) = true then if true = true then v79.fst == v85.fst && (v79.snd.fst == v85.snd.fst && true) else !(v79.fst == v85.fst && (v79.snd.fst == v85.snd.fst && true)) else false) == true)) (.triv _ (tv_s ((if (if eqS v78.fst (ByteArray.mk #[]) = true then v78.snd == v80 else false) = true then if true = true then v79.fst == v85.fst && (v79.snd.fst == v85.snd.fst && true) else !(v79.fst == v85.fst && (v79.snd.fst == v85.snd.fst && true)) else false) == true)) (.triv _ (tv_t (if (if eqS v78.fst (ByteArray.mk #[]) = true then v78.snd == v80 else false) = true then if true = true then v79.fst == v85.fst && (v79.snd.fst == v85.snd.fst && true) else !(v79.fst == v85.fst && (v79.snd.fst == v85.snd.fst && true)) else false)) (.triv _ (tv_s ((if (if (if eqS v78.fst (ByteArray.mk #[]) = true then v78.snd == v80 else false) = true then if true = true then v79.fst == v85.fst && (v79.snd.fst == v85.snd.fst && true) else !(v79.fst == v85.fst && (v79.snd.fst == v85.snd.fst && true)) else false) = true then v86 else false) == true)) (.triv _ (tv_s ((if (if (if eqS v78.fst (ByteArray.mk #[]) = true then v78.snd == v80 else false) = true then if true = true then v79.fst == v85.fst && (v79.snd.fst == v85.snd.fst && true) else !(v79.fst == v85.fst && (v79.snd.fst == v85.snd.fst && true)) else false) = true then v86 else false) == true)) (.triv _ (tv_t (if (if (if eqS v78.fst (ByteArray.mk #[]) = true then v78.snd == v80 else false) = true then if true = true then v79.fst == v85.fst && (v79.snd.fst == v85.snd.fst && true) else !(v79.fst == v85.fst && (v79.snd.fst == v85.snd.fst && true)) else false) = true then v86 else false)) (.bind (F15) fun v87 =>
  (.sees [] (.triv _ (tv_t (if (if (if (if eqS v78.fst (ByteArray.mk #[]) = true then v78.snd == v80 else false) = true then if true = true then v79.fst == v85.fst && (v79.snd.fst == v85.snd.fst && true) else !(v79.fst == v85.fst && (v79.snd.fst == v85.snd.fst && true)) else false) = true then v86 else false) = true then v79.snd.snd.snd.snd == v85.snd.snd.snd.snd else false)) (.ret (if (if (if (if (if eqS v78.fst (ByteArray.mk #[]) = true then v78.snd == v80 else false) = true then if true = true then v79.fst == v85.fst && (v79.snd.fst == v85.snd.fst && true) else !(v79.fst == v85.fst && (v79.snd.fst == v85.snd.fst && true)) else false) = true then v86 else false) = true then v79.snd.snd.snd.snd == v85.snd.snd.snd.snd else false) = true then v87 else false))))))))))))))))))))))))))))))))))))))))
noncomputable def F12 (a69 a70 : Int) (a71 : Nat) (a72 : List DV) (a73 : ByteArray) : Option (Bool) := res B12 (.c0 a69 a70 a71 a72 a73)
noncomputable def D12_0 (a69 a70 : Int) (a71 : Nat) (a72 : List DV) (a73 : ByteArray) : DT cfz := (.go 9 [] [] (.bind (f14 a71 a72) fun v74 => (.go 6 [(.ck 0), (.sp .none), (.sp .none), (.sp .none)] [] (.split 20 (.go 10 [(.br true), (.br false), (.br false), (.br false), (.br true), .none, (.br true)] [0, 1, 2] (.bind (f15) fun v75 => (.go 4 [(.ck 1)] [] .fin))) (.strip 23 (.go 7 [(.br false), (.sp .none), (.sp .none), (.sp .none), (.br false), .mg] [0, 4] (.split 29 (.go 3 [(.br true)] [0] (.bind (f15) fun v76 => (.go 4 [(.ck 1)] [] .fin))) (.go 4 [(.br false)] [0] (.bind (f17 a71 a72) fun v77 => (.bind (f74 a69 a70 v77.fst v77.snd) fun v78 => (.go 4 [(.ck 1), (.ck 2)] [] (.bind (f75 a73) fun v79 => (.go 14 [(.ck 3)] [] (.bind (f21 a69 a70 a71 a72) fun v80 => (.go 13 [(.ck 4)] [] (.split 48 (.go 4 [(.br true)] [0] (.bind (f76 a69 a70 a71 a72) fun v81 => (.go 6 [(.ck 5)] [] (.bind (f77 a73) fun v82 => (.go 28 [(.ck 6), .none, (.sp .none), (.sp .none), (.sp .none), .mg, (.sp .none), (.sp .none), (.sp .none), .mg, (.sp .none), (.sp .none)] [] (.bind (f30 v79.snd.snd.fst v79.snd.snd.snd.fst v82.snd.snd.fst v82.snd.snd.snd.fst) fun v83 => (.go 8 [(.sp (.some 7)), .mg, (.sp .none), (.sp .none), (.sp .none), .mg] [] (.bind (f15) fun v84 => (.go 5 [(.sp (.some 8)), .mg] [] .fin))))))))) (.go 5 [(.br false)] [0] (.bind (f77 a73) fun v85 => (.go 28 [(.ck 5), .none, (.sp .none), (.sp .none), (.sp .none), .mg, (.sp .none), (.sp .none), (.sp .none), .mg, (.sp .none), (.sp .none)] [] (.bind (f30 v79.snd.snd.fst v79.snd.snd.snd.fst v85.snd.snd.fst v85.snd.snd.snd.fst) fun v86 => (.go 8 [(.sp (.some 6)), .mg, (.sp .none), (.sp .none), (.sp .none), .mg] [] (.bind (f15) fun v87 => (.go 5 [(.sp (.some 7)), .mg] [] .fin)))))))))))))))))))))))
theorem k12_0 (a69 a70 : Int) (a71 : Nat) (a72 : List DV) (a73 : ByteArray) : xrun cfz 12 (D12_0 a69 a70 a71 a72 a73) [] (st12 (.c0 a69 a70 a71 a72 a73)) = (B12 (.c0 a69 a70 a71 a72 a73)).mach st12 out12 := by kernel_rfl
theorem ok12 : ∀ s, ∃ d, xrun cfz 12 d [] (st12 s) = (B12 s).mach st12 out12
  | .c0 a69 a70 a71 a72 a73 => ⟨_, k12_0 a69 a70 a71 a72 a73⟩
theorem f12 (a69 a70 : Int) (a71 : Nat) (a72 : List DV) (a73 : ByteArray) (v : Bool) (h : F12 a69 a70 a71 a72 a73 = some v) : PureCalls cfz.P cfz.glob 12 [(.agg [(aI a69), (aI a70)]), (.d (.sl a71 a72)), (.d (.v (.string a73)))] (out12 v) := tree_pure knil ok12 (s := .c0 a69 a70 a71 a72 a73) rfl (by kernel_rfl) v h

end Go.Kv
namespace Go.Kv
open Go Go.RowKit
set_option maxRecDepth 100000
theorem tx_short {m : Nat} (h : shortL m) : m ≤ 300 := by unfold shortL at h; omega
theorem texts_true (n k : Int) (l : List Int) (s : ByteArray) : F12 n k l.length (l.map vI) s = some true := by
  unfold F12; rw [res_eq]
  by_cases hl : shortL l.length
  · have hl3 := tx_short hl
    have d1 : (!decide (shortL l.length)) = false := by rw [decide_eq_true hl]; rfl
    by_cases hs : s.size > 200 ∧ s.size ≠ 4097
    · have c1 : (s.size : Int) > 200 := by omega
      have c2 : ((s.size : Int) != 4097) = true := by rw [bne_iff_ne]; omega
      simp only [B12, F14_eq, sem_bind_some, sem_sees, sem_triv, sem_br, d1, Bool.false_eq_true, if_false, sem_ask, PC.holds, need_true, BEq.rfl, c1, c2, decide_true, if_true, f15_eq, sem_ret, stepO_ret]
    · have hs2 : s.size ≤ 200 ∨ s.size > 4096 := by omega
      have hsz : s.data.toList.length = s.size := by simp
      have c0 : (if decide ((s.size : Int) > 200) = true then (s.size : Int) != 4097 else false) = false := by
        by_cases c1 : (s.size : Int) > 200
        · rw [decide_eq_true c1, if_pos rfl]
          rw [bne_eq_false_iff_eq]; omega
        · rw [decide_eq_false c1]; rfl
      obtain ⟨t, ht1, ht2, ht3⟩ := textP_list s.data.toList
      have ht3 := ht3 (by omega)
      have h30 : F30 (textP s.data.toList).2.2.1 (textP s.data.toList).2.2.2.1 (textP s.data.toList).2.2.1 (textP s.data.toList).2.2.2.1 = some true := by
        rw [ht1, ht2, F30_eq t t (by omega), decide_eq_true rfl]
      have g75 := F75_eq s hs2
      have g77 := F77_eq s hs2 (by omega)
      have g21 := F21_eq n k l hl3
      generalize textP s.data.toList = P at g75 g77 h30
      by_cases hz : listI n k l = 0
      · have hb : (listI n k l == 0) = true := by rw [hz]; rfl
        have g74 := F74_ok hl3 hz
        have g76 := F76_ok hz
        simp only [B12, F14_eq, sem_bind_some, sem_sees, sem_triv, sem_br, d1, Bool.false_eq_true, if_false, sem_ask, PC.holds, need_true, BEq.rfl, c0, F17_eq l hl3, g74, g75, g21, hb, if_true, g76, g77, h30, f15_eq, sem_ret, stepO_ret, eqS_iff.2 rfl, hz, Bool.and_self]
      · have hb : (listI n k l == 0) = false := by rw [beq_eq_false_iff_ne]; exact hz
        have g74 := F74_bad hl3 hz
        have e0 : ByteArray.mk #[] = ba [] := rfl
        simp only [B12, F14_eq, sem_bind_some, sem_sees, sem_triv, sem_br, d1, Bool.false_eq_true, if_false, sem_ask, PC.holds, need_true, BEq.rfl, c0, F17_eq l hl3, g74, g75, g21, hb, if_true, e0, g77, h30, f15_eq, sem_ret, stepO_ret, eqS_iff.2 rfl, Bool.and_self]
  · have d1 : (!decide (shortL l.length)) = true := by rw [decide_eq_false hl]; rfl
    simp only [B12, F14_eq, sem_bind_some, sem_sees, sem_triv, sem_br, d1, if_true, f15_eq, sem_ret, stepO_ret]
end Go.Kv
