/-
  Quorum: what a majority has: the plain laws.
-/
import Derived.Test.YtdleejgghbpbmaaQuorumL
namespace Go.Lw

structure Peer where
  node : Int
  next : Int
  mat : Int
def mx (a b : Int) : Int := if b > a then b else a
def matF (x : Int) (n : Int) (p : Peer) : Int := if p.node == x then mx n p.mat else n
def matchP (l : List Peer) (x : Int) : Int := l.foldl (matF x) 0
theorem matchP_take (l : List Peer) (x : Int) (k : Nat) (hk : k < l.length) : matchP (l.take (k + 1)) x = matF x (matchP (l.take k) x) l[k] := by
  rw [List.take_succ_eq_append_getElem hk, matchP, List.foldl_append]; rfl
theorem mx_le (a b : Int) : a ≤ mx a b ∧ b ≤ mx a b ∧ (mx a b = a ∨ mx a b = b) := by unfold mx; split <;> omega
/-- The greatest of those that are so, or what one has. -/
theorem fold_best {α : Type} (q : α → Bool) (f : α → Int) : ∀ (l : List α) (b0 : Int), b0 ≤ l.foldl (fun n x => if q x then mx n (f x) else n) b0 ∧ (∀ x ∈ l, q x = true → f x ≤ l.foldl (fun n x => if q x then mx n (f x) else n) b0) ∧
    (l.foldl (fun n x => if q x then mx n (f x) else n) b0 = b0 ∨ ∃ x ∈ l, q x = true ∧ f x = l.foldl (fun n x => if q x then mx n (f x) else n) b0)
  | [], b0 => by simp
  | y :: l, b0 => by
    obtain ⟨h1, h2, h3⟩ := fold_best q f l (if q y then mx b0 (f y) else b0)
    simp only [List.foldl_cons]
    generalize l.foldl (fun n x => if q x then mx n (f x) else n) (if q y then mx b0 (f y) else b0) = r at *
    obtain ⟨m1, m2, m3⟩ := mx_le b0 (f y)
    cases hq : q y with
    | true =>
      simp only [hq, if_true] at h1 h2 h3 ⊢
      refine ⟨by omega, fun x hx hqx => ?_, ?_⟩
      · rcases List.mem_cons.1 hx with rfl | hx
        · omega
        · exact h2 x hx hqx
      · rcases h3 with h3 | ⟨x, hx, hqx, he⟩
        · rcases m3 with m3 | m3
          · exact .inl (by omega)
          · exact .inr ⟨y, by simp, hq, by omega⟩
        · exact .inr ⟨x, by simp [hx], hqx, he⟩
    | false =>
      simp only [hq, Bool.false_eq_true, if_false] at h1 h2 h3 ⊢
      refine ⟨h1, fun x hx hqx => ?_, ?_⟩
      · rcases List.mem_cons.1 hx with rfl | hx
        · rw [hq] at hqx; cases hqx
        · exact h2 x hx hqx
      · rcases h3 with h3 | ⟨x, hx, hqx, he⟩
        · exact .inl h3
        · exact .inr ⟨x, by simp [hx], hqx, he⟩
theorem matchP_spec (l : List Peer) (x : Int) : 0 ≤ matchP l x ∧ (∀ p ∈ l, p.node = x → p.mat ≤ matchP l x) ∧ (matchP l x = 0 ∨ ∃ p ∈ l, p.node = x ∧ p.mat = matchP l x) := by
  have h := fold_best (fun p : Peer => p.node == x) (·.mat) l 0
  exact ⟨h.1, fun p hp hn => h.2.1 p hp (by simpa using hn), h.2.2.imp id fun ⟨p, h1, h2, h3⟩ => ⟨p, h1, by simpa using h2, h3⟩⟩
theorem matchP_rev (l : List Peer) (x : Int) : matchP l.reverse x = matchP l x := by
  obtain ⟨h1, h2, h3⟩ := matchP_spec l x
  obtain ⟨k1, k2, k3⟩ := matchP_spec l.reverse x
  simp only [List.mem_reverse] at k2 k3
  apply Int.le_antisymm
  · rcases k3 with k3 | ⟨p, hp, hn, he⟩
    · omega
    · have := h2 p hp hn; omega
  · rcases h3 with h3 | ⟨p, hp, hn, he⟩
    · omega
    · have := k2 p hp hn; omega

/-- c is the K-th greatest of M. -/
def IsK (M : List Int) (K : Int) (c : Int) : Prop := c ∈ M ∧ K ≤ (M.countP (fun x => decide (c ≤ x)) : Nat) ∧ (M.countP (fun x => decide (c < x)) : Nat) < K
theorem IsK.perm {M M' : List Int} {K c : Int} (h : IsK M K c) (hp : M.Perm M') : IsK M' K c := by
  obtain ⟨h1, h2, h3⟩ := h
  exact ⟨hp.mem_iff.1 h1, by rw [← hp.countP_eq]; exact h2, by rw [← hp.countP_eq]; exact h3⟩
theorem countP_imp {α : Type} (p q : α → Bool) (l : List α) (h : ∀ x ∈ l, p x = true → q x = true) : l.countP p ≤ l.countP q := by
  induction l with
  | nil => simp
  | cons x l ih =>
    have h1 := ih fun y hy => h y (by simp [hy])
    have h2 := h x (by simp)
    simp only [List.countP_cons]
    cases e1 : p x <;> cases e2 : q x <;> simp_all <;> omega
theorem IsK.above {M : List Int} {K c d : Int} (h : IsK M K c) (hd : K ≤ (M.countP (fun x => decide (d ≤ x)) : Nat)) : d ≤ c := by
  by_cases hlt : d ≤ c
  · exact hlt
  · have := countP_imp (fun x => decide (d ≤ x)) (fun x => decide (c < x)) M (fun x _ hx => by simp at *; omega)
    have h3 := h.2.2
    omega
theorem IsK.unique {M : List Int} {K c d : Int} (h : IsK M K c) (k : IsK M K d) : c = d := Int.le_antisymm (k.above h.2.1) (h.above k.2.1)
/-- What is committed: of matches M. -/
def Com (M : List Int) (c : Int) : Prop := (M = [] ∧ c = 0) ∨ (M ≠ [] ∧ IsK M (most M.length) c)
theorem Com.unique {M M' : List Int} {c d : Int} (h : Com M c) (k : Com M' d) (hp : M.Perm M') : c = d := by
  rcases h with ⟨rfl, rfl⟩ | ⟨h1, h2⟩
  · rcases k with ⟨_, rfl⟩ | ⟨k1, _⟩
    · rfl
    · exact absurd (List.nil_perm.1 hp) k1
  · rcases k with ⟨rfl, _⟩ | ⟨k1, k2⟩
    · exact absurd (List.perm_nil.1 hp) h1
    · exact (h2.perm hp).unique (by rw [hp.length_eq]; exact k2)
theorem Com.grows {v : List Int} {f f' : Int → Int} {c d : Int} (hf : ∀ x, f x ≤ f' x) (h : Com (v.map f) c) (k : Com (v.map f') d) : c ≤ d := by
  rcases h with ⟨h1, rfl⟩ | ⟨h1, h2⟩
  · rcases k with ⟨_, rfl⟩ | ⟨k1, _⟩
    · omega
    · simp at h1; subst h1; simp at k1
  · rcases k with ⟨k1, _⟩ | ⟨k1, k2⟩
    · simp at k1; subst k1; simp at h1
    · simp only [List.length_map] at h2 k2
      refine k2.above ?_
      have := countP_imp ((fun x => decide (c ≤ x)) ∘ f) ((fun x => decide (c ≤ x)) ∘ f') v (fun x _ hx => by
        have := hf x
        simp at *; omega)
      have h3 := h2.2.1
      rw [List.countP_map] at h3 ⊢
      omega
/-- The document's way. -/
def bestF (v : List Int) (f : Int → Int) : Int := v.foldl (fun n x => if decide (most v.length ≤ (v.countP fun y => decide (f x ≤ f y) : Nat)) then mx n (f x) else n) 0
theorem best_com {v : List Int} {f : Int → Int} {c : Int} (hf : ∀ x, 0 ≤ f x) (h : Com (v.map f) c) : bestF v f = c := by
  obtain ⟨b1, b2, b3⟩ := fold_best (fun x => decide (most v.length ≤ (v.countP fun y => decide (f x ≤ f y) : Nat))) f v 0
  change 0 ≤ bestF v f at b1
  change ∀ x ∈ v, _ → f x ≤ bestF v f at b2
  change bestF v f = 0 ∨ ∃ x ∈ v, _ ∧ f x = bestF v f at b3
  rcases h with ⟨h1, rfl⟩ | ⟨h1, h2⟩
  · simp at h1
    subst h1
    rfl
  · simp only [List.length_map] at h2
    obtain ⟨hm, hk, hl⟩ := id h2
    obtain ⟨x, hx, rfl⟩ := List.mem_map.1 hm
    apply Int.le_antisymm
    · rcases b3 with b3 | ⟨y, hy, hq, he⟩
      · have := hf x; omega
      · rw [← he]
        refine h2.above ?_
        rw [List.countP_map]
        simpa [Function.comp_def] using hq
    · refine b2 x hx ?_
      rw [List.countP_map] at hk
      simpa [Function.comp_def] using hk

/-- The K-th greatest stands in its place in the sorted row. -/
theorem sorted_isK {M : List Int} {d : Array Int} (hp : d.toList.Perm M) (hs : ∀ i j, i < j → j < d.size → d[i]! ≤ d[j]!) {K : Nat} (h1 : 1 ≤ K) (hK : K ≤ d.size) : IsK M K d[d.size - K]! := by
  have hi : d.size - K < d.size := by omega
  have hs2 : ∀ i j, i ≤ j → j < d.size → d[i]! ≤ d[j]! := fun i j hij hj => by
    rcases Nat.lt_or_eq_of_le hij with h | rfl
    · exact hs i j h hj
    · exact Int.le_refl _
  have hget : ∀ j, (hj : j < d.size) → d.toList[j]'(by simpa using hj) = d[j]! := fun j hj => by simp [hj]
  refine IsK.perm ⟨?_, ?_, ?_⟩ hp
  · rw [getElem!_pos d _ hi]; simp
  · have e : d.toList = d.toList.take (d.size - K) ++ d.toList.drop (d.size - K) := by simp
    rw [e, List.countP_append]
    have : (d.toList.drop (d.size - K)).countP (fun x => decide (d[d.size - K]! ≤ x)) = (d.toList.drop (d.size - K)).length := by
      rw [List.countP_eq_length]
      intro x hx
      obtain ⟨j, hj, rfl⟩ := List.getElem_of_mem hx
      simp only [List.length_drop, Array.length_toList] at hj
      rw [List.getElem_drop, hget _ (by omega)]
      exact decide_eq_true (hs2 _ _ (by omega) (by omega))
    rw [this, List.length_drop, Array.length_toList]
    omega
  · have e : d.toList = d.toList.take (d.size - K + 1) ++ d.toList.drop (d.size - K + 1) := by simp
    rw [e, List.countP_append]
    have : (d.toList.take (d.size - K + 1)).countP (fun x => decide (d[d.size - K]! < x)) = 0 := by
      rw [List.countP_eq_zero]
      intro x hx
      obtain ⟨j, hj, rfl⟩ := List.getElem_of_mem hx
      simp only [List.length_take, Array.length_toList] at hj
      rw [List.getElem_take, hget _ (by omega)]
      have := hs2 j (d.size - K) (by omega) hi
      simp only [decide_eq_true_eq]
      omega
    have h2 := List.countP_le_length (p := fun x => decide (d[d.size - K]! < x)) (l := d.toList.drop (d.size - K + 1))
    rw [List.length_drop, Array.length_toList] at h2
    omega
theorem most_le {n : Nat} (h : 0 < n) : 1 ≤ most (n : Int) ∧ most (n : Int) ≤ n := by rw [most_pos h]; omega
end Go.Lw
