/-
  Configurations: a path's steps lead there: the plain law.
-/
import Derived.Test.YthafkinbocdjlaaRcT
import Derived.Test.YthafkinbocdjlaaRcM
namespace Go.Lw
open Go.Proofs

/-- The steps, one by one, lead from c to d. -/
def Leads : Conf → List Change → Conf → Prop
  | c, [], d => c = d
  | c, x :: l, d => ∃ e, applyP c x.kind x.node = (e, 0) ∧ Leads e l d
theorem Leads.append : ∀ {l m : List Change} {c d e : Conf}, Leads c l d → Leads d m e → Leads c (l ++ m) e
  | [], _, _, _, _, h, k => by cases (show _ = _ from h); exact k
  | _ :: _, _, _, _, _, ⟨e, h1, h2⟩, k => ⟨e, h1, h2.append k⟩

def steps (k : Int) (ns : List Int) : List Change := ns.map fun n => ⟨k, n⟩
def nsOf (p : Int → Bool) (m : Nat) : List Int := ((List.range m).filter fun i : Nat => p ((i : Int) + 1)).map fun i : Nat => (i : Int) + 1
theorem chs_steps (k : Int) (p : Int → Bool) (m : Nat) : chs k p m = steps k (nsOf p m) := by simp [chs, steps, nsOf]
theorem nsOf_nodup (p : Int → Bool) (m : Nat) : (nsOf p m).Nodup := by
  unfold nsOf
  exact List.Pairwise.map (fun i : Nat => (i : Int) + 1) (fun a b (h : a ≠ b) => by omega) (List.Pairwise.filter _ List.nodup_range)
theorem nsOf_mem {p : Int → Bool} {n : Int} : n ∈ nsOf p 7 ↔ node7 n = true ∧ p n = true := by
  simp only [nsOf, List.mem_map, List.mem_filter, List.mem_range, node7, decide_eq_true_eq]
  constructor
  · rintro ⟨i, ⟨h1, h2⟩, rfl⟩; exact ⟨by omega, h2⟩
  · rintro ⟨h1, h2⟩
    refine ⟨(n - 1).toNat, ⟨by omega, ?_⟩, by omega⟩
    rw [show ((n - 1).toNat : Int) + 1 = n by omega]; exact h2

theorem leads_add : ∀ {ns : List Int} {c : Conf}, ns.Nodup → (∀ n ∈ ns, node7 n = true) → checkP c = 0 → (∀ n ∈ ns, n ∉ c.voters ∧ n ∉ c.learners) →
    ∃ d, Leads c (steps 1 ns) d ∧ checkP d = 0 ∧ (∀ n, n ∈ d.voters ↔ n ∈ c.voters) ∧ ∀ n, n ∈ d.learners ↔ n ∈ c.learners ∨ n ∈ ns
  | [], c, _, _, hc, _ => ⟨c, rfl, hc, fun _ => Iff.rfl, fun _ => by simp⟩
  | n :: ns, c, hnd, h7, hc, hno => by
    obtain ⟨hn, hnd⟩ := List.nodup_cons.1 hnd
    obtain ⟨n1, n2⟩ := hno n (by simp)
    have hap : applyP c 1 n = (⟨c.voters, insP n c.learners⟩, 0) := by
      rw [applyP, if_neg (by simpa using hc), if_neg (by rw [h7 n (by simp)]; decide), if_pos rfl, if_neg (fun h => h.elim n1 n2)]
    obtain ⟨d, h1, h2, h3, h4⟩ := leads_add (c := ⟨c.voters, insP n c.learners⟩) hnd (fun m hm => h7 m (List.mem_cons_of_mem _ hm)) (apply_right hap).1 (fun m hm => by
      obtain ⟨m1, m2⟩ := hno m (List.mem_cons_of_mem _ hm)
      refine ⟨m1, fun h => ?_⟩
      rcases insP_mem.1 h with rfl | h
      · exact hn hm
      · exact m2 h)
    refine ⟨d, ⟨_, hap, h1⟩, h2, h3, fun m => ?_⟩
    rw [h4 m, insP_mem, List.mem_cons]
    constructor
    · rintro ((h | h) | h) <;> simp [h]
    · rintro (h | h | h) <;> simp [h]
theorem leads_votes : ∀ {ns : List Int} {c : Conf}, ns.Nodup → (∀ n ∈ ns, node7 n = true) → checkP c = 0 → (∀ n ∈ ns, n ∈ c.learners) →
    ∃ d, Leads c (steps 2 ns) d ∧ checkP d = 0 ∧ (∀ n, n ∈ d.voters ↔ n ∈ c.voters ∨ n ∈ ns) ∧ ∀ n, n ∈ d.learners ↔ n ∈ c.learners ∧ n ∉ ns
  | [], c, _, _, hc, _ => ⟨c, rfl, hc, fun _ => by simp, fun _ => by simp⟩
  | n :: ns, c, hnd, h7, hc, hno => by
    obtain ⟨hn, hnd⟩ := List.nodup_cons.1 hnd
    have n1 := hno n (by simp)
    have hap : applyP c 2 n = (⟨insP n c.voters, delP n c.learners⟩, 0) := by
      rw [applyP, if_neg (by simpa using hc), if_neg (by rw [h7 n (by simp)]; decide), if_neg (by decide), if_pos rfl, if_pos n1]
    obtain ⟨d, h1, h2, h3, h4⟩ := leads_votes (c := ⟨insP n c.voters, delP n c.learners⟩) hnd (fun m hm => h7 m (List.mem_cons_of_mem _ hm)) (apply_right hap).1 (fun m hm => by
      exact delP_mem.2 ⟨hno m (List.mem_cons_of_mem _ hm), fun e => hn (e ▸ hm)⟩)
    refine ⟨d, ⟨_, hap, h1⟩, h2, fun m => ?_, fun m => ?_⟩
    · rw [h3 m, insP_mem, List.mem_cons]
      constructor
      · rintro ((h | h) | h) <;> simp [h]
      · rintro (h | h | h) <;> simp [h]
    · rw [h4 m, delP_mem, List.mem_cons, not_or, and_assoc]
theorem leads_goes {v : Int} : ∀ {ns : List Int} {c : Conf}, ns.Nodup → (∀ n ∈ ns, node7 n = true) → checkP c = 0 → (∀ n ∈ ns, n ∈ c.voters ∨ n ∈ c.learners) → v ∈ c.voters → v ∉ ns →
    ∃ d, Leads c (steps 3 ns) d ∧ checkP d = 0 ∧ (∀ n, n ∈ d.voters ↔ n ∈ c.voters ∧ n ∉ ns) ∧ ∀ n, n ∈ d.learners ↔ n ∈ c.learners ∧ n ∉ ns
  | [], c, _, _, hc, _, _, _ => ⟨c, rfl, hc, fun _ => by simp, fun _ => by simp⟩
  | n :: ns, c, hnd, h7, hc, hno, hv, hvn => by
    obtain ⟨hn, hnd⟩ := List.nodup_cons.1 hnd
    rw [List.mem_cons, not_or] at hvn
    have n1 := hno n (by simp)
    have hlast : ¬ (n ∈ c.voters ∧ c.voters.length = 1) := by
      rintro ⟨h1, h2⟩
      match hc2 : c.voters with
      | [] => rw [hc2] at h2; cases h2
      | [a] => rw [hc2] at h1 hv; simp at h1 hv; exact hvn.1 (hv.trans h1.symm)
      | _ :: _ :: _ => rw [hc2] at h2; simp at h2
    obtain ⟨e, hap, e1, e2⟩ : ∃ e, applyP c 3 n = (e, 0) ∧ (∀ m, m ∈ e.voters ↔ m ∈ c.voters ∧ m ≠ n) ∧ ∀ m, m ∈ e.learners ↔ m ∈ c.learners ∧ m ≠ n := by
      by_cases h : n ∈ c.voters
      · exact ⟨⟨delP n c.voters, delP n c.learners⟩, by rw [applyP, if_neg (by simpa using hc), if_neg (by rw [h7 n (by simp)]; decide), if_neg (by decide), if_neg (by decide), if_pos rfl, if_neg hlast, if_pos h], fun _ => delP_mem, fun _ => delP_mem⟩
      · have hl := n1.resolve_left h
        exact ⟨⟨c.voters, delP n c.learners⟩, by rw [applyP, if_neg (by simpa using hc), if_neg (by rw [h7 n (by simp)]; decide), if_neg (by decide), if_neg (by decide), if_pos rfl, if_neg hlast, if_neg h, if_pos hl], fun m => ⟨fun hm => ⟨hm, fun e => h (e ▸ hm)⟩, fun hm => hm.1⟩, fun _ => delP_mem⟩
    obtain ⟨d, h1, h2, h3, h4⟩ := leads_goes (c := e) hnd (fun m hm => h7 m (List.mem_cons_of_mem _ hm)) (apply_right hap).1 (fun m hm => by
      have hne : m ≠ n := fun e => hn (e ▸ hm)
      rw [e1, e2]
      exact (hno m (List.mem_cons_of_mem _ hm)).imp (fun h => ⟨h, hne⟩) (fun h => ⟨h, hne⟩)) ((e1 v).2 ⟨hv, hvn.1⟩) hvn.2
    refine ⟨d, ⟨_, hap, h1⟩, h2, fun m => ?_, fun m => ?_⟩
    · rw [h3 m, e1, List.mem_cons, not_or, and_assoc]
    · rw [h4 m, e2, List.mem_cons, not_or, and_assoc]

theorem ends_v {xv xl yv yl n7 : Prop} (p1 : xv → n7) (p2 : yv → n7) (p4 : yv → ¬ yl) : ((xv ∨ n7 ∧ ¬ xv ∧ yv) ∧ ¬ (n7 ∧ ((xv ∨ xl) ∧ ¬ yv ∧ ¬ yl ∨ xv ∧ yl))) ↔ yv := by
  by_cases h1 : xv <;> by_cases h3 : yv <;> by_cases h4 : yl <;> by_cases h5 : n7 <;> simp_all
theorem ends_l {xv xl yv yl n7 : Prop} (p1 : xv → n7) (p5 : xl → n7) (p6 : yl → n7) (p3 : xv → ¬ xl) (p4 : yv → ¬ yl) :
    ((((xl ∨ n7 ∧ ¬ xv ∧ ¬ xl ∧ (yv ∨ yl)) ∧ ¬ (n7 ∧ ¬ xv ∧ yv)) ∧ ¬ (n7 ∧ ((xv ∨ xl) ∧ ¬ yv ∧ ¬ yl ∨ xv ∧ yl))) ∨ n7 ∧ xv ∧ yl) ↔ yl := by
  by_cases h1 : xv <;> by_cases h2 : xl <;> by_cases h3 : yv <;> by_cases h4 : yl <;> by_cases h5 : n7 <;> simp_all
theorem short4 (a b c d : Bool) (u v w z : Change) : (if addW a b c d = true then [u] else []).length + (if votesW a b c d = true then [v] else []).length + (if goesW a b c d = true then [w] else []).length + (if fallsW a b c d = true then [z] else []).length ≤ 3 := by
  cases a <;> cases b <;> cases c <;> cases d <;> simp [addW, votesW, goesW, fallsW]

theorem path_leads {x y : Conf} (hx : checkP x = 0) (hy : checkP y = 0) : Leads x (pathL x y) y := by
  obtain ⟨x1, x2, x3, x4, x5⟩ := check_zero hx
  obtain ⟨y1, y2, y3, y4, y5⟩ := check_zero hy
  have a1 : ∀ n, n ∈ x.voters → node7 n = true := fun n h => x1 n (List.mem_append_left _ h)
  have a2 : ∀ n, n ∈ x.learners → node7 n = true := fun n h => x1 n (List.mem_append_right _ h)
  have b1 : ∀ n, n ∈ y.voters → node7 n = true := fun n h => y1 n (List.mem_append_left _ h)
  have b2 : ∀ n, n ∈ y.learners → node7 n = true := fun n h => y1 n (List.mem_append_right _ h)
  have m7 : ∀ p : Int → Bool, ∀ n ∈ nsOf p 7, node7 n = true := fun p n h => (nsOf_mem.1 h).1
  obtain ⟨v, hv⟩ : ∃ v, v ∈ y.voters := List.exists_mem_of_ne_nil _ y5
  have wa : ∀ n, n ∈ nsOf (wayOf x y addW) 7 ↔ node7 n = true ∧ n ∉ x.voters ∧ n ∉ x.learners ∧ (n ∈ y.voters ∨ n ∈ y.learners) := fun n => by
    rw [nsOf_mem, wayOf, addW]
    by_cases h1 : n ∈ x.voters <;> by_cases h2 : n ∈ x.learners <;> by_cases h3 : n ∈ y.voters <;> by_cases h4 : n ∈ y.learners <;> simp [h1, h2, h3, h4]
  have wv : ∀ n, n ∈ nsOf (wayOf x y votesW) 7 ↔ node7 n = true ∧ n ∉ x.voters ∧ n ∈ y.voters := fun n => by
    rw [nsOf_mem, wayOf, votesW]
    by_cases h1 : n ∈ x.voters <;> by_cases h3 : n ∈ y.voters <;> simp [h1, h3]
  have wg : ∀ n, n ∈ nsOf (wayOf x y goesW) 7 ↔ node7 n = true ∧ ((n ∈ x.voters ∨ n ∈ x.learners) ∧ n ∉ y.voters ∧ n ∉ y.learners ∨ n ∈ x.voters ∧ n ∈ y.learners) := fun n => by
    rw [nsOf_mem, wayOf, goesW]
    by_cases h1 : n ∈ x.voters <;> by_cases h2 : n ∈ x.learners <;> by_cases h3 : n ∈ y.voters <;> by_cases h4 : n ∈ y.learners <;> simp [h1, h2, h3, h4]
  have wf : ∀ n, n ∈ nsOf (wayOf x y fallsW) 7 ↔ node7 n = true ∧ n ∈ x.voters ∧ n ∈ y.learners := fun n => by
    rw [nsOf_mem, wayOf, fallsW]
    by_cases h1 : n ∈ x.voters <;> by_cases h4 : n ∈ y.learners <;> simp [h1, h4]
  obtain ⟨d1, l1, c1, v1, k1⟩ := leads_add (nsOf_nodup (wayOf x y addW) 7) (m7 _) hx (fun n h => by
    have := (wa n).1 h; exact ⟨this.2.1, this.2.2.1⟩)
  obtain ⟨d2, l2, c2, v2, k2⟩ := leads_votes (nsOf_nodup (wayOf x y votesW) 7) (m7 _) c1 (fun n h => by
    have h := (wv n).1 h
    rw [k1, wa]
    by_cases hl : n ∈ x.learners
    · exact .inl hl
    · exact .inr ⟨h.1, h.2.1, hl, .inl h.2.2⟩)
  obtain ⟨d3, l3, c3, v3, k3⟩ := leads_goes (v := v) (nsOf_nodup (wayOf x y goesW) 7) (m7 _) c2 (fun n h => by
    have h := (wg n).1 h
    have hh := y4 n
    rw [v2, k2, v1, k1, wv, wa]
    rcases h.2 with ⟨h1 | h1, h2, h3⟩ | ⟨h1, h2⟩
    · exact .inl (.inl h1)
    · exact .inr ⟨.inl h1, fun h => h2 h.2.2⟩
    · exact .inl (.inl h1)) (by
    rw [v2, v1, wv]
    by_cases h : v ∈ x.voters
    · exact .inl h
    · exact .inr ⟨b1 v hv, h, hv⟩) (fun h => by
    have h := (wg v).1 h
    rcases h.2 with ⟨_, h2, _⟩ | ⟨_, h2⟩
    · exact h2 hv
    · exact y4 v hv h2)
  obtain ⟨d4, l4, c4, v4, k4⟩ := leads_add (nsOf_nodup (wayOf x y fallsW) 7) (m7 _) c3 (fun n h => by
    have h := (wf n).1 h
    have hg : n ∈ nsOf (wayOf x y goesW) 7 := (wg n).2 ⟨h.1, .inr h.2⟩
    rw [v3, k3]
    exact ⟨fun h => h.2 hg, fun h => h.2 hg⟩)
  have hd : d4 = y := by
    obtain ⟨_, z2, z3, _, _⟩ := check_zero c4
    have ev : d4.voters = y.voters := strict_ext z2 y2 fun n => by
      rw [v4, v3, v2, v1, wv, wg]
      exact ends_v (a1 n) (b1 n) (y4 n)
    have el : d4.learners = y.learners := strict_ext z3 y3 fun n => by
      rw [k4, k3, k2, k1, wa, wv, wg, wf]
      exact ends_l (a1 n) (a2 n) (b2 n) (x4 n) (y4 n)
    cases d4; cases y; simp only at ev el; rw [ev, el]
  rw [hd] at l4
  rw [pathL, chs_steps, chs_steps, chs_steps, chs_steps]
  exact ((l1.append l2).append l3).append l4

theorem path_none {x : Conf} (hx : checkP x = 0) : pathL x x = [] := by
  obtain ⟨_, _, _, x4, _⟩ := check_zero hx
  have h : ∀ (k : Int) (p : Way), (∀ n, wayOf x x p n = false) → chs k (wayOf x x p) 7 = [] := fun k p h => by
    unfold chs
    rw [List.filter_eq_nil_iff.2 (fun i _ => by rw [h]; decide)]; rfl
  have hd := fun n => x4 n
  rw [pathL, h 1 addW, h 2 votesW, h 3 goesW, h 1 fallsW]
  · rfl
  all_goals
    intro n
    have p3 := x4 n
    simp only [wayOf, addW, votesW, goesW, fallsW]
    by_cases h1 : n ∈ x.voters <;> by_cases h2 : n ∈ x.learners <;> simp_all
theorem path_short (x y : Conf) : (pathL x y).length ≤ 21 := by
  have h : ∀ m, (chs 1 (wayOf x y addW) m).length + (chs 2 (wayOf x y votesW) m).length + (chs 3 (wayOf x y goesW) m).length + (chs 1 (wayOf x y fallsW) m).length ≤ 3 * m := by
    intro m
    induction m with
    | zero => simp [chs]
    | succ m ih =>
      simp only [chs_succ, List.length_append]
      have hw : (if wayOf x y addW ((m : Int) + 1) = true then [(⟨1, (m : Int) + 1⟩ : Change)] else []).length + (if wayOf x y votesW ((m : Int) + 1) = true then [(⟨2, (m : Int) + 1⟩ : Change)] else []).length + (if wayOf x y goesW ((m : Int) + 1) = true then [(⟨3, (m : Int) + 1⟩ : Change)] else []).length + (if wayOf x y fallsW ((m : Int) + 1) = true then [(⟨1, (m : Int) + 1⟩ : Change)] else []).length ≤ 3 := short4 _ _ _ _ _ _ _ _
      omega
  have := h 7
  simp only [pathL, List.length_append]
  omega
theorem path_fail {x y : Conf} : ((pathP x y).2 = 0 ↔ checkP x = 0 ∧ checkP y = 0) ∧ ((pathP x y).2 ≠ 0 → (pathP x y).1 = []) := by
  unfold pathP
  by_cases h1 : checkP x = 0 <;> by_cases h2 : checkP y = 0 <;> simp [h1, h2]
end Go.Lw
