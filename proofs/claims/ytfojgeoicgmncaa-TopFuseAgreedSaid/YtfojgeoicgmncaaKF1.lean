import Derived.Test.YtfojgeoicgmncaaKJ1
import Derived.Test.YtfojgeoicgmncaaGF11
namespace Go.Kv
set_option linter.unusedVariables false
set_option linter.unusedSimpArgs false
open Go Go.RowKit
set_option maxRecDepth 100000
theorem bt_mem {x : Int} {i : Nat} {y : Int} (h : y ∈ bt x i) : y = ((i : Nat) : Int) := by
  unfold bt at h
  split at h
  · simpa using h
  · simp at h
theorem vx_bits (x : Int) : VX (bits4 x) := by
  have k (i : Nat) := bt_len x i
  have k0 := k 0; have k1 := k 1; have k2 := k 2; have k3 := k 3
  refine ⟨by unfold bits4; simp only [List.length_append]; omega, ?_⟩
  intro y hy
  unfold bits4 at hy
  simp only [List.mem_append] at hy
  rcases hy with ((h | h) | h) | h <;> (have := bt_mem h; omega)
theorem vrs_ro {L : List RX} (hL : L.length ≤ 6) : VRs (L.map ro) := by
  refine ⟨by rw [List.length_map]; omega, ?_⟩
  intro r hr
  obtain ⟨x, _, rfl⟩ := List.mem_map.1 hr
  exact ⟨vx_bits _, vx_bits _⟩
theorem vrs_r0 {n : Nat} (hn : n ≤ 64) : VRs (List.replicate n r0) := by
  refine ⟨by rw [List.length_replicate]; omega, ?_⟩
  intro r hr
  obtain ⟨_, rfl⟩ := List.mem_replicate.1 hr
  exact ⟨⟨by simp [r0], by simp [r0]⟩, ⟨by simp [r0], by simp [r0]⟩⟩
theorem zero_r0 : List.map weakZ (Value.agg #[Value.slice none 0 0, Value.slice none 0 0, Value.bool false]).cells.toList = eR r0 := rfl
section
variable {m : Int} {b : List Int} {s P : Nat} {L : List RX}
theorem F11_eq (c : CPx m b s P) (hL : L.length ≤ 6) : F11 b.length (b.map vB) m ((s : Nat) : Int) L.length (L.flatMap eX) = some (b.length, b.map vB, true) := by
  have e27 := F27_eq c
  have j := cut_jq c
  have hm := cut_msg c
  have hp := cut_len (m := m) (b := b) (s := s) (P := P)
  have hpb : P ≤ b.length := by
    obtain ⟨_, hs, hb, hP, _⟩ := c
    rcases hs with rfl | rfl <;> omega
  have hb := c.hb
  obtain ⟨Q, hQ⟩ : ∃ Q, Q = cutQ m b s P := ⟨_, rfl⟩
  rw [← hQ] at e27 j hm hp
  rw [← hp] at e27 hpb
  have hl := j.l
  have e30 := F30_eq j
  rw [hm] at e30
  obtain ⟨a1, t1, ⟨h1, h2, _⟩, e28⟩ := F28_eq (Q := Q) (L := L.map ro) ⟨j.v, j.l, vrs_ro hL⟩ (a := 0) (t := 0) (Nat.le_refl _) (Nat.zero_le _)
  have e28a : F28 Q.length (Q.flatMap eF) 0 4 0 0 [] L.length ((L.map ro).flatMap eR) = some (Q.length, Q.flatMap eF, (a1 : Int), 4, (t1 : Int), t1, fr Q t1, 0) := by
    rw [List.length_map] at e28
    exact e28
  obtain ⟨a2, t2, ⟨h3, h4, h5⟩, e28b⟩ := F28_eq (Q := Q) (L := List.replicate Q.length r0) ⟨j.v, j.l, vrs_r0 (by omega)⟩ (a := a1) (t := t1) h1 h2
  obtain rfl : t2 = Q.length := h5 ⟨r0, List.mem_replicate.2 ⟨by omega, rfl⟩, rfl, rfl⟩
  rw [List.length_replicate, List.flatMap_replicate] at e28b
  have hfr : fr Q Q.length = Q.flatMap eF := by unfold fr; rw [List.take_length]
  rw [hfr] at e28b
  have hin : inI64 (((b.length : Nat) : Int) + 1) := by unfold inI64; omega
  have hf : fitsN b.length 1 := by unfold fitsN; omega
  have c1 : ¬ (((Q.length : Nat) : Int) < 1) := by omega
  have c2 : ¬ (((Q.length : Nat) : Int) > ((b.length : Nat) : Int) + 1) := by omega
  have c3 : ¬ (((t1 : Nat) : Int) < 0) := by omega
  have c4 : ¬ (((t1 : Nat) : Int) > ((Q.length : Nat) : Int)) := by omega
  have c5 : (56 : Int) * ((Q.length : Nat) : Int) ≤ 281474976710656 := by omega
  have c6 : ((Q.length : Nat) : Int) ≤ 9223372036854775807 := by omega
  unfold F11; rw [res_eq]
  simp only [B11, nb (show 0 < b.length by omega), show 0 < b.length by omega, List.length_map, Nat.mul_one, hf, e27, F29_eq hL, e28a, e28b, e30, zero_r0, Int.toNat_natCast, c1, c2, c3, c4, c5, c6, hin, decide_false, bne_self_eq_false, beq_self_eq_true, Bool.false_eq_true, if_false, if_true, Int.natCast_nonneg, Int.le_refl, sem_br, sem_ask, sem_triv, sem_bind_some, sem_sees, sem_ret, PC.holds, need_true, stepO_ret]
end
theorem F4_true : F4 = some true := by
  have e11 := F11_eq (m := 5) (b := [0, 5, 2]) (s := 2) (P := 2) (L := [(1, 0, false)]) ⟨by omega, by omega, by decide, rfl, by omega⟩ (by decide)
  have e11a : F11 3 [(.v (.int .u8 0)), (.v (.int .u8 5)), (.v (.int .u8 2))] 5 2 1 [(.v (.int .u8 1)), (.v (.int .u8 0)), (.v (.bool false))] = some (3, [(.v (.int .u8 0)), (.v (.int .u8 5)), (.v (.int .u8 2))], true) := e11
  have v1 : VM [1] := ⟨by decide, by decide, by simp⟩
  have v2 : VM [2] := ⟨by decide, by decide, by simp⟩
  have e13 := F13_eq (n := 4) (l := [1]) (m := [2]) (r := []) ⟨by omega, v1, .inl rfl⟩ (.inl rfl) v2 rfl
  have e13a : F13 4 1 [(.v (.int .i64 1))] 0 [] 5 1 [(.v (.int .i64 2))] = some (4, 1, [(.v (.int .i64 1))], 1, [(.v (.int .i64 2))], 5, 0) := e13
  have e12 := F12_eq [0, 5, 2]
  have e10 := F10_eq [2] (by decide)
  have e12a : F12 3 [(.v (.int .u8 0)), (.v (.int .u8 5)), (.v (.int .u8 2))] 3 [(.v (.int .u8 0)), (.v (.int .u8 5)), (.v (.int .u8 2))] = some true := e12
  have e10a : F10 1 [(.v (.int .i64 2))] 1 [(.v (.int .i64 2))] = some true := e10
  unfold F4; rw [res_eq]
  simp only [B4, e11a, e13a, e12a, e10a, beq_self_eq_true, if_true, sem_br, sem_ask, sem_triv, sem_bind_some, sem_sees, sem_ret, PC.holds, need_true, stepO_ret]
end Go.Kv
