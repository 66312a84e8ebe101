/-
  Configurations: what a step makes is right, and majorities of both meet: the plain law.
-/
import Derived.Test.YthafkinbocdjlaaRcG
import Derived.Test.YthafkinbocdjlaaRcQ
namespace Go.Lw
open Go.Proofs

theorem check_of {c : Conf} (h1 : ∀ n ∈ c.voters ++ c.learners, node7 n = true) (h2 : c.voters.Pairwise (· < ·)) (h3 : c.learners.Pairwise (· < ·)) (h4 : ∀ n ∈ c.voters, n ∉ c.learners) (h5 : c.voters ≠ []) : checkP c = 0 := by
  unfold checkP
  rw [if_neg, if_neg, if_neg, if_neg]
  · intro h; exact h5 (List.length_eq_zero_iff.1 h)
  · intro h
    obtain ⟨n, hn, hl⟩ := List.any_eq_true.1 h
    exact h4 n hn (of_decide_eq_true hl)
  · simp only [risesP, h2, h3, decide_true]; simp
  · intro h
    obtain ⟨n, hn, hl⟩ := List.any_eq_true.1 h
    rw [h1 n hn] at hl; cases hl
theorem delP_strict {n : Int} {l : List Int} (h : l.Pairwise (· < ·)) : (delP n l).Pairwise (· < ·) := h.filter _
theorem strict_span : ∀ {l : List Int} {a : Int}, l.Pairwise (· < ·) → (∀ x ∈ l, a ≤ x ∧ x ≤ 7) → l = [] ∨ (l.length : Int) ≤ 8 - a
  | [], _, _, _ => .inl rfl
  | x :: t, a, h, hb => by
    obtain ⟨h1, h2⟩ := List.pairwise_cons.1 h
    have hx := hb x (by simp)
    right
    rcases strict_span (a := x + 1) h2 fun y hy => ⟨h1 y hy, (hb y (List.mem_cons_of_mem _ hy)).2⟩ with rfl | hl
    · simp only [List.length_singleton]; omega
    · simp only [List.length_cons]; omega
theorem strict_len {l : List Int} (h : l.Pairwise (· < ·)) (h1 : ∀ n ∈ l, node7 n = true) : l.length ≤ 7 := by
  rcases strict_span (a := 1) h fun n hn => of_decide_eq_true (h1 n hn) with rfl | hl
  · simp
  · omega

/-- How a right configuration's voters stand to those behind a step. -/
def Near (v d : List Int) (n : Int) : Prop := d = v ∨ (n ∉ v ∧ d = insP n v) ∨ (n ∈ v ∧ d = delP n v)
theorem apply_right {c d : Conf} {k n : Int} (h : applyP c k n = (d, 0)) : checkP d = 0 ∧ Near c.voters d.voters n := by
  unfold applyP at h
  split at h
  · rename_i h0; exact absurd (Prod.mk.inj h).2 h0
  rename_i h0
  have h0 : checkP c = 0 := by simpa using h0
  obtain ⟨z1, z2, z3, z4, z5⟩ := check_zero h0
  split at h
  · exact absurd (Prod.mk.inj h).2 (by decide)
  rename_i hn
  have hn : node7 n = true := by simpa using hn
  split at h
  · split at h
    · exact absurd (Prod.mk.inj h).2 (by decide)
    rename_i h1
    obtain ⟨e, _⟩ := Prod.mk.inj h; subst e
    refine ⟨check_of (fun m hm => ?_) z2 (insP_strict z3 fun hl => h1 (.inr hl)) (fun m hm hl => ?_) z5, .inl rfl⟩
    · simp only [List.mem_append, insP_mem] at hm
      rcases hm with hm | rfl | hm
      · exact z1 m (List.mem_append_left _ hm)
      · exact hn
      · exact z1 m (List.mem_append_right _ hm)
    · rcases insP_mem.1 hl with rfl | hl
      · exact h1 (.inl hm)
      · exact z4 m hm hl
  split at h
  · split at h
    · rename_i h1
      obtain ⟨e, _⟩ := Prod.mk.inj h; subst e
      have hv : n ∉ c.voters := fun hv => z4 n hv h1
      refine ⟨check_of (fun m hm => ?_) (insP_strict z2 hv) (delP_strict z3) (fun m hm hl => ?_) (fun e => ?_), .inr (.inl ⟨hv, rfl⟩)⟩
      · simp only [List.mem_append, insP_mem, delP_mem] at hm
        rcases hm with (rfl | hm) | ⟨hm, _⟩
        · exact hn
        · exact z1 m (List.mem_append_left _ hm)
        · exact z1 m (List.mem_append_right _ hm)
      · obtain ⟨hl, hne⟩ := delP_mem.1 hl
        rcases insP_mem.1 hm with rfl | hm
        · exact hne rfl
        · exact z4 m hm hl
      · have := insP_length n c.voters
        simp only at e; rw [e] at this; simp at this
    · exact absurd (Prod.mk.inj h).2 (by decide)
  split at h
  · split at h
    · exact absurd (Prod.mk.inj h).2 (by decide)
    rename_i h1
    split at h
    · rename_i h2
      obtain ⟨e, _⟩ := Prod.mk.inj h; subst e
      refine ⟨check_of (fun m hm => ?_) (delP_strict z2) (delP_strict z3) (fun m hm hl => z4 m (delP_mem.1 hm).1 (delP_mem.1 hl).1) (fun e => ?_), .inr (.inr ⟨h2, rfl⟩)⟩
      · simp only [List.mem_append, delP_mem] at hm
        rcases hm with ⟨hm, _⟩ | ⟨hm, _⟩
        · exact z1 m (List.mem_append_left _ hm)
        · exact z1 m (List.mem_append_right _ hm)
      · have hall : ∀ x ∈ c.voters, x = n := fun x hx => by
          by_cases hxn : x = n
          · exact hxn
          · have : x ∈ delP n c.voters := delP_mem.2 ⟨hx, hxn⟩
            simp only at e; rw [e] at this; cases this
        have hl : c.voters.length ≠ 1 := fun hl => h1 ⟨h2, hl⟩
        match hc : c.voters with
        | [] => exact z5 hc
        | [x] => exact hl (by rw [hc]; rfl)
        | x :: y :: t =>
          have e1 := hall x (by rw [hc]; simp)
          have e2 := hall y (by rw [hc]; simp)
          rw [hc] at z2
          have := (List.pairwise_cons.1 z2).1 y (by simp)
          omega
    split at h
    · obtain ⟨e, _⟩ := Prod.mk.inj h; subst e
      refine ⟨check_of (fun m hm => ?_) z2 (delP_strict z3) (fun m hm hl => z4 m hm (delP_mem.1 hl).1) z5, .inl rfl⟩
      simp only [List.mem_append, delP_mem] at hm
      rcases hm with hm | ⟨hm, _⟩
      · exact z1 m (List.mem_append_left _ hm)
      · exact z1 m (List.mem_append_right _ hm)
    · exact absurd (Prod.mk.inj h).2 (by decide)
  · exact absurd (Prod.mk.inj h).2 (by decide)
theorem uniq_ext {xs ys : List Int} (h : ∀ x, x ∈ xs ↔ x ∈ ys) : uniq xs = uniq ys := strict_ext (uniq_strict _) (uniq_strict _) fun x => by rw [uniq_mem, uniq_mem, h]
theorem near_meets {v d us zs : List Int} {n : Int} (h : Near v d n) (h1 : hasP (uniq v) us = true) (h2 : hasP (uniq d) zs = true) : ∃ x, x ∈ us ∧ x ∈ zs := by
  rcases h with rfl | ⟨hn, rfl⟩ | ⟨hn, rfl⟩
  · exact meets_same h1 h2
  · rw [uniq_ext (ys := v ++ [n]) fun x => by rw [insP_mem, List.mem_append, List.mem_singleton]; exact Or.comm] at h2
    exact meets_more h1 h2
  · rw [uniq_ext (ys := delP n v ++ [n]) fun x => by
      rw [List.mem_append, List.mem_singleton, delP_mem]
      by_cases hx : x = n
      · subst hx; simp [hn]
      · simp [hx]] at h1
    obtain ⟨x, a, b⟩ := meets_more h2 h1
    exact ⟨x, b, a⟩
end Go.Lw
