/-
  PLAIN: the packets of a packing, one by one: each is opened as the messages that are its. No program in sight.
-/
import Derived.Test.YthaomecbklmmdaaDoorBkBoF
import Derived.Test.YthaomecbklmmdaaDoorBkBxQ
namespace Go.Lw

def kq (q : Nat) : Int := if q = 0 then 2 else 1
theorem outs_step (frm : Int) (l : List Wire) (m q : Nat) (hq : q < 2) : outs frm l m (q + 1) = outs frm l m q ++ packTo frm l ((m : Int) + 1) (kq q) := by
  rcases (by omega : q = 0 ∨ q = 1) with rfl | rfl
  · simp [outs, kq]
  · simp [outs, kq]
theorem packUp_pre (frm : Int) (l : List Wire) (n : Nat) : ∀ k, ∃ r, packUp frm l (n + k) = packUp frm l n ++ r
  | 0 => ⟨[], by simp⟩
  | k + 1 => by
    obtain ⟨r, hr⟩ := packUp_pre frm l n k
    exact ⟨_, by rw [← Nat.add_assoc, packUp, hr, List.append_assoc]⟩
theorem outs_pre (frm : Int) (l : List Wire) {m q : Nat} (hm : m < 7) (hq : q < 2) : ∃ r, packUp frm l 7 = outs frm l m q ++ (packTo frm l ((m : Int) + 1) (kq q) ++ r) := by
  obtain ⟨r, hr⟩ := packUp_pre frm l (m + 1) (6 - m)
  rw [show m + 1 + (6 - m) = 7 by omega, ← outs_two frm l m] at hr
  rcases (by omega : q = 0 ∨ q = 1) with rfl | rfl
  · rw [outs_step _ _ _ 1 (by omega), outs_step _ _ _ 0 (by omega), List.append_assoc, List.append_assoc] at hr
    exact ⟨_, hr⟩
  · rw [outs_step _ _ _ 1 (by omega), List.append_assoc] at hr
    exact ⟨_, hr⟩
theorem packP_ok {frm : Int} {l : List Wire} {ps : List Packet} (h : packP frm l = (ps, 0)) : ps = packUp frm l 7 ∧ node7 frm = true ∧ l.length ≤ 4096 ∧ ∀ x ∈ l, x.msg.frm = frm ∧ node7 x.msg.to = true ∧ x.msg.to ≠ frm ∧ known9 x.msg.kind = true ∧ longP x.msg = false := by
  unfold packP at h
  split at h
  · cases h
  rename_i h1
  split at h
  · cases h
  rename_i h2
  obtain ⟨rfl, _⟩ := Prod.mk.inj h
  refine ⟨rfl, by cases hn : node7 frm with | true => rfl | false => exact absurd (.inl hn) h1, by omega, fun x hx => ?_⟩
  have h3 : badW frm x = false := by
    cases hb : badW frm x with
    | false => rfl
    | true => exact absurd (.inr (List.any_eq_true.2 ⟨x, hx, hb⟩)) h1
  have h4 : longP x.msg = false := by
    cases hb : longP x.msg with
    | false => rfl
    | true => exact absurd (.inr (List.any_eq_true.2 ⟨x, hx, hb⟩)) h2
  simp only [badW, Bool.or_eq_false_iff, decide_eq_false_iff_not, Bool.not_eq_false', Decidable.not_not] at h3
  exact ⟨h3.1.1.1, h3.1.1.2, h3.1.2, h3.2, h4⟩
theorem packP_bad {frm : Int} {l : List Wire} {ps : List Packet} {e : Int} (h : packP frm l = (ps, e)) (he : e ≠ 0) : ps = [] := by
  unfold packP at h
  split at h
  · cases h; rfl
  split at h
  · cases h; rfl
  · cases h; exact absurd rfl he
/-- One packet of a packing: it is opened as its messages, and these make it again. -/
theorem pack_sub {frm : Int} {l : List Wire} {ps : List Packet} (h : packP frm l = (ps, 0)) (hok : ∀ x ∈ l, x.ok) {m q : Nat} (hm : m < 7) (hq : q < 2) (hs : l.filter (mine ((m : Int) + 1) (kq q)) ≠ []) :
    ∃ p, ps[(outs frm l m q).length]? = some p ∧ outs frm l m (q + 1) = outs frm l m q ++ [p] ∧ openP p = (l.filter (mine ((m : Int) + 1) (kq q)), 0) ∧ p.frm = frm ∧ p.data.length ≤ 10 + bulkW l := by
  obtain ⟨rfl, hn, hl, hall⟩ := packP_ok h
  have hk : kq q = 1 ∨ kq q = 2 := by unfold kq; split <;> simp
  have hpt : packTo frm l ((m : Int) + 1) (kq q) = [⟨frm, (m : Int) + 1, kq q, encU (l.filter (mine ((m : Int) + 1) (kq q))).length ++ encWs (l.filter (mine ((m : Int) + 1) (kq q)))⟩] := by
    unfold packTo
    rw [if_neg hs]
  obtain ⟨r, hr⟩ := outs_pre frm l hm hq
  refine ⟨_, ?_, by rw [outs_step _ _ _ _ hq, hpt], ?_, rfl, ?_⟩
  · rw [hr, hpt, List.getElem?_append_right (Nat.le_refl _), Nat.sub_self]
    rfl
  · obtain ⟨x, hx⟩ := List.exists_mem_of_ne_nil _ hs
    have hmem : ∀ y ∈ l.filter (mine ((m : Int) + 1) (kq q)), y ∈ l ∧ y.msg.to = (m : Int) + 1 ∧ kindOf y.msg = kq q := by
      intro y hy
      obtain ⟨h1, h2⟩ := List.mem_filter.1 hy
      exact ⟨h1, mine_iff.1 h2⟩
    obtain ⟨hx1, hx2, hx3⟩ := hmem x hx
    obtain ⟨a1, a2, a3, a4, a5⟩ := hall x hx1
    refine open_sub hn (by rw [← hx2]; exact a2) (by rw [← hx2]; exact fun e => a3 e.symm) hk hs (Nat.le_trans (List.length_filter_le _ _) hl) (fun y hy => ?_)
    obtain ⟨b1, b2, b3⟩ := hmem y hy
    obtain ⟨c1, c2, c3, c4, c5⟩ := hall y b1
    exact ⟨⟨b3, c4, c5⟩, hok y b1, c1, b2⟩
  · have h1 := encU_length ((l.filter (mine ((m : Int) + 1) (kq q))).length : Int)
    have h2 := encWs_length (l.filter (mine ((m : Int) + 1) (kq q)))
    have h3 := bulkW_filter (mine ((m : Int) + 1) (kq q)) l
    simp only [List.length_append]
    omega
theorem outs_skip {frm : Int} {l : List Wire} {m q : Nat} (hq : q < 2) (hs : l.filter (mine ((m : Int) + 1) (kq q)) = []) : outs frm l m (q + 1) = outs frm l m q := by
  rw [outs_step _ _ _ _ hq]
  unfold packTo
  rw [if_pos hs, List.append_nil]
end Go.Lw
