/-
  Quorum: majorities and votes: the plain laws.
-/
import Derived.Test.YtdleejgghbpbmaaQuorumD
namespace Go.Lw

theorem countP_two (p q : Int → Bool) : ∀ v : List Int, v.countP p + v.countP q ≤ v.length + v.countP fun x => p x && q x
  | [] => by simp
  | x :: v => by
    have := countP_two p q v
    simp only [List.countP_cons, List.length_cons]
    cases p x <;> cases q x <;> simp <;> omega
theorem countP_apart (p q : Int → Bool) (h : ∀ x, p x = true → q x = false) : ∀ v : List Int, v.countP p + v.countP q ≤ v.length
  | [] => by simp
  | x :: v => by
    have := countP_apart p q h v
    have hx := h x
    simp only [List.countP_cons, List.length_cons]
    cases e1 : p x <;> cases e2 : q x <;> simp_all <;> omega
theorem countP_mono (p q : Int → Bool) (h : ∀ x, p x = true → q x = true) : ∀ v : List Int, v.countP p ≤ v.countP q
  | [] => by simp
  | x :: v => by
    have := countP_mono p q h v
    have hx := h x
    simp only [List.countP_cons]
    cases e1 : p x <;> cases e2 : q x <;> simp_all <;> omega

theorem most_pos {n : Nat} (h : 0 < n) : most (n : Int) = n / 2 + 1 := by unfold most; rw [if_neg (by omega)]
theorem hasP_spec {v ys : List Int} (h : hasP v ys = true) : 0 < v.length ∧ v.length / 2 + 1 ≤ v.countP fun x => decide (x ∈ ys) := by
  simp only [hasP, Bool.and_eq_true, decide_eq_true_eq] at h
  obtain ⟨h1, h2⟩ := h
  rw [most_pos h1] at h2
  omega

theorem meets_same {v us zs : List Int} (h1 : hasP v us = true) (h2 : hasP v zs = true) : ∃ x, x ∈ us ∧ x ∈ zs := by
  obtain ⟨h3, h4⟩ := hasP_spec h1
  obtain ⟨_, h6⟩ := hasP_spec h2
  have h7 := countP_two (fun x => decide (x ∈ us)) (fun x => decide (x ∈ zs)) v
  have h8 : 0 < v.countP fun x => decide (x ∈ us) && decide (x ∈ zs) := by omega
  obtain ⟨x, _, hx⟩ := List.countP_pos_iff.1 h8
  simp only [Bool.and_eq_true, decide_eq_true_eq] at hx
  exact ⟨x, hx⟩
theorem uniq_more (xs : List Int) (m : Int) : (uniq (xs ++ [m])).Perm (if m ∈ xs then uniq xs else m :: uniq xs) := by
  split
  · rename_i h
    refine (List.perm_ext_iff_of_nodup (uniq_nodup _) (uniq_nodup _)).2 fun y => ?_
    simp only [uniq_mem, List.mem_append, List.mem_singleton]
    exact ⟨fun h' => h'.elim id fun e => e ▸ h, .inl⟩
  · rename_i h
    refine (List.perm_ext_iff_of_nodup (uniq_nodup _) (List.nodup_cons.2 ⟨by rw [uniq_mem]; exact h, uniq_nodup _⟩)).2 fun y => ?_
    simp only [uniq_mem, List.mem_append, List.mem_cons, List.not_mem_nil, or_false]
    exact Or.comm
theorem meets_more {xs us zs : List Int} {m : Int} (h1 : hasP (uniq xs) us = true) (h2 : hasP (uniq (xs ++ [m])) zs = true) : ∃ x, x ∈ us ∧ x ∈ zs := by
  rw [hasP_perm (uniq_more xs m)] at h2
  split at h2
  · exact meets_same h1 h2
  · obtain ⟨h3, h4⟩ := hasP_spec h1
    obtain ⟨_, h6⟩ := hasP_spec h2
    have h7 := countP_two (fun x => decide (x ∈ us)) (fun x => decide (x ∈ zs)) (uniq xs)
    simp only [List.countP_cons, List.length_cons] at h6
    have h8 : 0 < (uniq xs).countP fun x => decide (x ∈ us) && decide (x ∈ zs) := by split at h6 <;> omega
    obtain ⟨x, _, hx⟩ := List.countP_pos_iff.1 h8
    simp only [Bool.and_eq_true, decide_eq_true_eq] at hx
    exact ⟨x, hx⟩

theorem vote_more {l more : List Ballot} {n : Int} {y : Bool} (h : says l y n = true) : says (l ++ more) y n = true := by
  simp only [says, vote] at *
  rw [List.find?_append]
  cases hf : l.find? (isOf n) with
  | none => simp [hf] at h
  | some b => simpa [hf] using h
theorem says_apart {l : List Ballot} {n : Int} (h : says l true n = true) : says l false n = false := by
  simp only [says] at *
  have : vote l n = some true := by simpa using h
  rw [this]; rfl
theorem stays (v : List Int) (l more : List Ballot) : tallyP v l = 0 ∨ tallyP v (l ++ more) = tallyP v l := by
  have h1 := countP_mono (says l true) (says (l ++ more) true) (fun _ h => vote_more h) v
  have h2 := countP_mono (says l false) (says (l ++ more) false) (fun _ h => vote_more h) v
  have h3 := countP_apart (says (l ++ more) true) (says (l ++ more) false) (fun _ h => says_apart h) v
  by_cases ha : 0 < v.length ∧ most v.length ≤ (v.countP (says l true) : Nat)
  · right
    have hb : 0 < v.length ∧ most v.length ≤ (v.countP (says (l ++ more) true) : Nat) := ⟨ha.1, by omega⟩
    simp only [tallyP, if_pos ha, if_pos hb]
  · by_cases hc : (v.length : Int) - (v.countP (says l false) : Nat) < most v.length
    · right
      have hb : ¬ (0 < v.length ∧ most v.length ≤ (v.countP (says (l ++ more) true) : Nat)) := by omega
      have hd : (v.length : Int) - (v.countP (says (l ++ more) false) : Nat) < most v.length := by omega
      simp only [tallyP, if_neg ha, if_pos hc, if_neg hb, if_pos hd]
    · left
      simp only [tallyP, if_neg ha, if_neg hc]
end Go.Lw
