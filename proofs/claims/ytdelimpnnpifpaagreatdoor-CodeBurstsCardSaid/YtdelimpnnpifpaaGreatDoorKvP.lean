import Derived.Test.YtdelimpnnpifpaaGreatDoorKvO
namespace Go.Kv
set_option linter.all false
open Go Go.RowKit
theorem ready_edges {ops : Array Oper} {j : Nat} {listed : Array Bool} : j ∈ Region.ready .any ops listed ↔ listed.getD j true = false ∧ j < ops.size ∧ ∀ e ∈ edgesOf ops j, listed.getD e false = true := by
  rw [mem_ready]
  constructor
  · rintro ⟨h0, o, ho, h⟩
    refine ⟨h0, (Array.getElem?_eq_some_iff.1 ho).1, ?_⟩
    intro e he
    unfold edgesOf at he
    rw [ho] at he
    simp only [List.mem_map, List.mem_filter] at he
    obtain ⟨ed, ⟨h1, h2⟩, rfl⟩ := he
    exact h ed (by simpa using h1) h2
  · rintro ⟨h0, hj, h⟩
    refine ⟨h0, ops[j], by simp [hj], ?_⟩
    intro e he hb
    refine h e.on ?_
    unfold edgesOf
    simp only [Array.getElem?_eq_getElem hj]
    exact List.mem_map.2 ⟨e, List.mem_filter.2 ⟨by simpa using he, hb⟩, rfl⟩
theorem go_spec {ops : Array Oper} (hd : decrB ops = true) : ∀ (fuel t : Nat) (listed : Array Bool), listed.size = ops.size → ((List.range ops.size).filter fun i => !listed.getD i true).length ≤ fuel →
    (Region.linearise.go .any ops fuel t listed []).Nodup ∧ (∀ i, i ∈ Region.linearise.go .any ops fuel t listed [] ↔ i < ops.size ∧ listed.getD i true = false) ∧
    (∀ p j q, Region.linearise.go .any ops fuel t listed [] = p ++ j :: q → ∀ e ∈ edgesOf ops j, listed.getD e false = true ∨ e ∈ p) := by
  intro fuel
  induction fuel with
  | zero =>
    intro t listed hs hu
    have hnil : (List.range ops.size).filter (fun i => !listed.getD i true) = [] := List.eq_nil_of_length_eq_zero (by omega)
    simp only [Region.linearise.go, List.reverse_nil]
    refine ⟨List.nodup_nil, ?_, ?_⟩
    · intro i
      constructor
      · intro h; simp at h
      · rintro ⟨h1, h2⟩
        have : i ∈ (List.range ops.size).filter fun i => !listed.getD i true := by simp [h1]; rw [← Array.getD_eq_getD_getElem?]; exact h2
        rw [hnil] at this; exact this
    · intro p j q h; simp at h
  | succ fuel ih =>
    intro t listed hs hu
    simp only [Region.linearise.go]
    change (let r := (match (Region.ready .any ops listed)[t % (Region.ready .any ops listed).length]? with
      | some i => Region.linearise.go .any ops fuel (t / (Region.ready .any ops listed).length) (listed.setIfInBounds i true) [i]
      | none => [].reverse); r.Nodup ∧ (∀ i, i ∈ r ↔ i < ops.size ∧ listed.getD i true = false) ∧ (∀ p j q, r = p ++ j :: q → ∀ e ∈ edgesOf ops j, listed.getD e false = true ∨ e ∈ p))
    cases hi : (Region.ready .any ops listed)[t % (Region.ready .any ops listed).length]? with
    | none =>
      have hnil : Region.ready .any ops listed = [] := by
        cases hr : Region.ready .any ops listed with
        | nil => rfl
        | cons x xs =>
          rw [hr] at hi
          have hlt : t % (x :: xs).length < (x :: xs).length := Nat.mod_lt _ (by simp)
          simp at hi
          simp at hlt
          omega
      have hall : ∀ n, n < ops.size → listed.getD n true = true := by
        intro n
        induction n using Nat.strongRecOn with
        | _ n ihn =>
          intro hn
          apply Classical.byContradiction
          intro hne
          have hne : listed.getD n true = false := by simpa using hne
          have : n ∈ Region.ready .any ops listed := by
            rw [ready_edges]
            refine ⟨hne, hn, ?_⟩
            intro e he
            have hen := decrB_spec hd n e he
            have := ihn e hen (by omega)
            have hsz : e < listed.size := by omega
            simp [Array.getD, hsz] at this ⊢
            exact this
          rw [hnil] at this; simp at this
      simp only [List.reverse_nil]
      refine ⟨List.nodup_nil, ?_, ?_⟩
      · intro i
        constructor
        · intro h; simp at h
        · rintro ⟨h1, h2⟩; rw [hall i h1] at h2; simp at h2
      · intro p j q h; simp at h
    | some i =>
      have hmem : i ∈ Region.ready .any ops listed := List.mem_of_getElem? hi
      obtain ⟨hun, hisz, hedge⟩ := ready_edges.1 hmem
      have hset : ∀ x d, (listed.setIfInBounds i true).getD x d = if x = i then true else listed.getD x d := by
        intro x d
        by_cases hx : x = i
        · subst hx; simp [Array.getD, hs, hisz]
        · simp only [hx, if_false]
          simp only [Array.getD_eq_getD_getElem?]
          rw [Array.getElem?_setIfInBounds_ne (Ne.symm hx)]
      have hcount : ((List.range ops.size).filter fun x => !(listed.setIfInBounds i true).getD x true).length ≤ fuel := by
        have h1 : ((List.range ops.size).filter fun x => !(listed.setIfInBounds i true).getD x true) = ((List.range ops.size).filter fun x => !listed.getD x true).filter fun x => x != i := by
          rw [List.filter_filter]
          apply List.filter_congr
          intro x _
          rw [hset]
          by_cases hx : x = i <;> simp [hx]
        rw [h1]
        have h2 : i ∈ (List.range ops.size).filter fun x => !listed.getD x true := by
          refine List.mem_filter.2 ⟨by simp [hisz], ?_⟩
          rw [hun]; rfl
        have h3 : (((List.range ops.size).filter fun x => !listed.getD x true).filter fun x => x != i).length < ((List.range ops.size).filter fun x => !listed.getD x true).length :=
          List.length_filter_lt_length_iff_exists.2 ⟨i, h2, by simp⟩
        omega
      obtain ⟨a1, a2, a3⟩ := ih (t / (Region.ready .any ops listed).length) (listed.setIfInBounds i true) (by simp [hs]) hcount
      simp only
      rw [linearise_go_acc, List.reverse_singleton, List.singleton_append]
      refine ⟨List.nodup_cons.2 ⟨?_, a1⟩, ?_, ?_⟩
      · intro h
        have := (a2 i).1 h
        rw [hset] at this; simp at this
      · intro x
        rw [List.mem_cons, a2, hset]
        constructor
        · rintro (rfl | ⟨h1, h2⟩)
          · exact ⟨hisz, hun⟩
          · by_cases hx : x = i
            · simp [hx] at h2
            · simp [hx] at h2; exact ⟨h1, by rw [Array.getD_eq_getD_getElem?]; exact h2⟩
        · rintro ⟨h1, h2⟩
          by_cases hx : x = i
          · exact .inl hx
          · right; refine ⟨h1, ?_⟩; simp only [hx, if_false]; exact h2
      · intro p j q h e he
        cases p with
        | nil =>
          simp at h
          obtain ⟨rfl, rfl⟩ := h
          exact .inl (hedge e he)
        | cons y p =>
          simp at h
          obtain ⟨rfl, h⟩ := h
          rcases a3 p j q h e he with h1 | h1
          · rw [hset] at h1
            by_cases hx : e = i
            · right; simp [hx]
            · simp only [hx, if_false] at h1; exact .inl h1
          · right; simp [h1]
theorem linExt_schedule {ops : Array Oper} (hd : decrB ops = true) (t : Nat) : LinExt ops 0 (Region.schedule true ops t) := by
  simp only [Region.schedule, Bool.true_or, if_true, Region.linearise]
  have hgd : ∀ i, i < ops.size → (Array.replicate ops.size false).getD i true = false := by
    intro i hi; simp [Array.getD, hi]
  have hge : ∀ i, (Array.replicate ops.size false).getD i false = false := by
    intro i; simp only [Array.getD]; split <;> simp
  obtain ⟨a1, a2, a3⟩ := go_spec hd ops.size t (Array.replicate ops.size false) (by simp) (by
    refine Nat.le_trans (List.length_filter_le _ _) ?_; simp)
  refine ⟨a1, ?_, ?_⟩
  · intro i
    rw [a2]
    constructor
    · rintro ⟨h1, _⟩; exact ⟨Nat.zero_le _, h1⟩
    · rintro ⟨_, h1⟩; exact ⟨h1, hgd i h1⟩
  · intro p j q h e he
    rcases a3 p j q h e he with h1 | h1
    · rw [hge] at h1; simp at h1
    · exact .inr h1
def barrierB (ops : Array Oper) (lo hi : Nat) : Bool :=
  (List.range' lo (hi - lo)).all (fun i => ((masks ops ops.size).getD hi 0).testBit i) && (List.range' (hi + 1) (ops.size - (hi + 1))).all (fun j => ((masks ops ops.size).getD j 0).testBit hi)
theorem linExt_split {ops : Array Oper} (hd : decrB ops = true) {lo hi : Nat} (hlo : lo ≤ hi) (hhi : hi < ops.size) (hb : barrierB ops lo hi = true) {is : List Nat} (h : LinExt ops lo is) :
    ∃ σ is', is = σ ++ hi :: is' ∧ SegOrd ops lo hi σ ∧ LinExt ops hi (hi :: is') ∧ LinExt ops (hi + 1) is' := by
  unfold barrierB at hb
  simp only [Bool.and_eq_true, List.all_eq_true] at hb
  obtain ⟨hb1, hb2⟩ := hb
  have hmem : hi ∈ is := (h.mem hi).2 ⟨hlo, hhi⟩
  obtain ⟨σ, is', rfl⟩ := List.append_of_mem hmem
  have hnd := List.nodup_append.1 h.nodup
  have hclosed : ∀ x ∈ σ ++ [hi], ∀ e ∈ edgesOf ops x, e < lo ∨ e ∈ σ ++ [hi] := by
    intro x hx e he
    rcases List.mem_append.1 hx with hx | hx
    · obtain ⟨p1, p2, hp⟩ := List.append_of_mem hx
      rcases h.order p1 x (p2 ++ hi :: is') (by rw [hp]; simp) e he with h1 | h1
      · exact .inl h1
      · exact .inr (by rw [hp]; simp [h1])
    · simp at hx; subst hx
      rcases h.order σ x is' rfl e he with h1 | h1
      · exact .inl h1
      · exact .inr (by simp [h1])
  have hclosed' : ∀ x ∈ σ, ∀ e ∈ edgesOf ops x, e < lo ∨ e ∈ σ := by
    intro x hx e he
    obtain ⟨p1, p2, hp⟩ := List.append_of_mem hx
    rcases h.order p1 x (p2 ++ hi :: is') (by rw [hp]; simp) e he with h1 | h1
    · exact .inl h1
    · exact .inr (by rw [hp]; simp [h1])
  have hhiσ : hi ∉ σ := fun hh => hnd.2.2 hi hh hi (by simp) rfl
  have hσ : ∀ i, i ∈ σ ↔ lo ≤ i ∧ i < hi := by
    intro i
    constructor
    · intro hi'
      have := (h.mem i).1 (by simp [hi'])
      refine ⟨this.1, ?_⟩
      apply Classical.byContradiction
      intro hn
      by_cases he : i = hi
      · subst he; exact hhiσ hi'
      · have hbit := hb2 i (by simp; omega)
        exact hhiσ ((mask_anc hd i this.2 hbit).2 lo σ hlo hclosed' hi')
    · rintro ⟨h1, h2⟩
      have hbit := hb1 i (by simp; omega)
      have := (mask_anc hd hi hhi hbit).2 lo (σ ++ [hi]) h1 hclosed (by simp)
      rcases List.mem_append.1 this with h3 | h3
      · exact h3
      · simp at h3; omega
  have his' : ∀ i, i ∈ is' ↔ hi + 1 ≤ i ∧ i < ops.size := by
    intro i
    have hnd2 := List.nodup_cons.1 hnd.2.1
    constructor
    · intro hi'
      have := (h.mem i).1 (by simp [hi'])
      refine ⟨?_, this.2⟩
      apply Classical.byContradiction
      intro hn
      by_cases he : i = hi
      · subst he; exact hnd2.1 hi'
      · have := (hσ i).2 ⟨this.1, by omega⟩
        exact hnd.2.2 i this i (by simp [hi']) rfl
    · rintro ⟨h1, h2⟩
      have := (h.mem i).2 ⟨by omega, h2⟩
      rcases List.mem_append.1 this with h3 | h3
      · have := (hσ i).1 h3; omega
      · rcases List.mem_cons.1 h3 with h3 | h3
        · omega
        · exact h3
  have hord2 : ∀ p j q, is' = p ++ j :: q → ∀ e ∈ edgesOf ops j, e < hi + 1 ∨ e ∈ p := by
    intro p j q hp e he
    rcases h.order (σ ++ hi :: p) j q (by rw [hp]; simp) e he with h1 | h1
    · left; omega
    · rcases List.mem_append.1 h1 with h2 | h2
      · have := (hσ e).1 h2; left; omega
      · rcases List.mem_cons.1 h2 with h2 | h2
        · left; omega
        · exact .inr h2
  refine ⟨σ, is', rfl, ⟨hnd.1, hσ, ?_⟩, ⟨hnd.2.1, ?_, ?_⟩, ⟨(List.nodup_cons.1 hnd.2.1).2, his', hord2⟩⟩
  · intro p j q hp e he
    rcases h.order p j (q ++ hi :: is') (by rw [hp]; simp) e he with h1 | h1
    · exact .inl h1
    · exact .inr h1
  · intro i
    rw [List.mem_cons, his']
    omega
  · intro p j q hp e he
    cases p with
    | nil =>
      simp at hp
      obtain ⟨rfl, rfl⟩ := hp
      left; exact decrB_spec hd _ e he
    | cons y p =>
      simp at hp
      obtain ⟨rfl, hp⟩ := hp
      rcases hord2 p j q hp e he with h1 | h1
      · by_cases hee : e = hi
        · right; simp [hee]
        · left; omega
      · right; simp [h1]
end Go.Kv
