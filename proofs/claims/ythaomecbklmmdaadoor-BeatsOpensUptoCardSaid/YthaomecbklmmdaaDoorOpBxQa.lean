/-
  Beats: the boxes of Pack: how their memory stands, plain laws.
-/
import Derived.Test.YthaomecbklmmdaaDoorOpBxK
import Derived.Test.YthaomecbklmmdaaDoorOpA2
namespace Go.Lw
open Go.Proofs

structure Box where
  to : Int
  kind : Int
  p : Nat
  A : Res
  ms : List Wire
def ent (bs : List Box) (κ : Int) : List (Int × Value) := (bs.filter fun b => decide (b.kind = κ)).map fun b => (b.to, ptr b.p)
/-- The boxes of the messages l: two maps (of the kind at hand, of the other), a piece a box. -/
structure PSt (s : Res) (w : World) (os : List Res) (l : List Wire) (κ κ' : Int) (mk mo : Nat) (Mk Mo : Res) (bs : List Box) : Prop where
  good : Good w s (Mk :: Mo :: (bs.map (·.A) ++ os))
  mapk : MapAt Mk mk (ent bs κ)
  mapo : MapAt Mo mo (ent bs κ')
  obj : ∀ b ∈ bs, BObj s b.A b.p b.ms.length (encWs b.ms)
  mine : ∀ b ∈ bs, b.ms = l.filter (Lw.mine b.to b.kind)
  all : ∀ x ∈ l, ∃ b ∈ bs, b.to = x.msg.to ∧ b.kind = kindOf x.msg
  keys : (bs.map fun b => (b.to, b.kind)).Nodup
theorem PSt.swap {s : Res} {w : World} {os : List Res} {l : List Wire} {κ κ' : Int} {mk mo : Nat} {Mk Mo : Res} {bs : List Box} (h : PSt s w os l κ κ' mk mo Mk Mo bs) : PSt s w os l κ' κ mo mk Mo Mk bs :=
  { h with good := h.good.swap, mapk := h.mapo, mapo := h.mapk }
theorem PSt.le {s s' : Res} {w w' : World} {os : List Res} {l : List Wire} {κ κ' : Int} {mk mo : Nat} {Mk Mo : Res} {bs : List Box} (h : PSt s w os l κ κ' mk mo Mk Mo bs) (hl : Le s s') (hg : Good w' s' (Mk :: Mo :: (bs.map (·.A) ++ os))) : PSt s' w' os l κ κ' mk mo Mk Mo bs :=
  { h with good := hg, obj := fun b hb => (h.obj b hb).up hl }
theorem ent_mem {bs : List Box} {κ : Int} {p : Int × Value} : p ∈ ent bs κ ↔ ∃ b ∈ bs, b.kind = κ ∧ p = (b.to, ptr b.p) := by
  simp only [ent, List.mem_map, List.mem_filter, decide_eq_true_eq]
  constructor
  · rintro ⟨b, ⟨h1, h2⟩, rfl⟩; exact ⟨b, h1, h2, rfl⟩
  · rintro ⟨b, h1, h2, rfl⟩; exact ⟨b, ⟨h1, h2⟩, rfl⟩
theorem PSt.find {s : Res} {w : World} {os : List Res} {l : List Wire} {κ κ' : Int} {mk mo : Nat} {Mk Mo : Res} {bs : List Box} (_h : PSt s w os l κ κ' mk mo Mk Mo bs) (τ : Int) :
    (∃ i, ∃ hi : i < bs.length, bs[i].to = τ ∧ bs[i].kind = κ ∧ (τ, ptr bs[i].p) ∈ ent bs κ) ∨ ∀ p ∈ ent bs κ, p.1 ≠ τ := by
  by_cases hex : ∃ b ∈ bs, b.kind = κ ∧ b.to = τ
  · obtain ⟨b, hb, h1, h2⟩ := hex
    obtain ⟨i, hi, rfl⟩ := List.getElem_of_mem hb
    exact .inl ⟨i, hi, h2, h1, ent_mem.2 ⟨_, hb, h1, by rw [h2]⟩⟩
  · refine .inr fun p hp e => ?_
    obtain ⟨b, hb, h1, rfl⟩ := ent_mem.1 hp
    exact hex ⟨b, hb, h1, e⟩
theorem mine_iff {to kind : Int} {x : Wire} : mine to kind x = true ↔ x.msg.to = to ∧ kindOf x.msg = kind := by simp [mine]
/-- No box: no message. -/
theorem PSt.none {s : Res} {w : World} {os : List Res} {l : List Wire} {κ κ' : Int} {mk mo : Nat} {Mk Mo : Res} {bs : List Box} (h : PSt s w os l κ κ' mk mo Mk Mo bs) {τ : Int} (hno : ∀ p ∈ ent bs κ, p.1 ≠ τ) : l.filter (Lw.mine τ κ) = [] := by
  refine List.filter_eq_nil_iff.2 fun x hx hm => ?_
  obtain ⟨h1, h2⟩ := mine_iff.1 hm
  obtain ⟨b, hb, b1, b2⟩ := h.all x hx
  exact hno _ (ent_mem.2 ⟨b, hb, b2.trans h2, rfl⟩) (b1.trans h1)
theorem PSt.new {s : Res} {w w' : World} {os : List Res} {l : List Wire} {κ κ' : Int} {mk mo p : Nat} {Mk Mo Mk' N : Res} {bs : List Box} (h : PSt s w os l κ κ' mk mo Mk Mo bs) {τ : Int} (hne : κ' ≠ κ) (hno : ∀ p ∈ ent bs κ, p.1 ≠ τ)
    (hg : Good w' s (N :: Mk' :: Mo :: (bs.map (·.A) ++ os))) (hm : MapAt Mk' mk (ent bs κ ++ [(τ, ptr p)])) (hN : BObj s N p 0 []) : PSt s w' os l κ κ' mk mo Mk' Mo (bs ++ [⟨τ, κ, p, N, []⟩]) where
  good := by
    have hp : (N :: Mk' :: Mo :: (bs.map (·.A) ++ os)).Perm (Mk' :: Mo :: ((bs ++ [(⟨τ, κ, p, N, []⟩ : Box)]).map (fun b : Box => b.A) ++ os)) := by
      have := (List.perm_middle (l₁ := Mk' :: Mo :: bs.map (·.A)) (a := N) (l₂ := os)).symm
      simpa using this
    exact hg.perm hp
  mapk := by
    have e : ent (bs ++ [⟨τ, κ, p, N, []⟩]) κ = ent bs κ ++ [(τ, ptr p)] := by simp [ent]
    rw [e]; exact hm
  mapo := by
    have e : ent (bs ++ [⟨τ, κ, p, N, []⟩]) κ' = ent bs κ' := by simp [ent, Ne.symm hne]
    rw [e]; exact h.mapo
  obj b hb := by
    rcases List.mem_append.1 hb with hb | hb
    · exact h.obj b hb
    · rw [List.mem_singleton.1 hb]; exact hN
  mine b hb := by
    rcases List.mem_append.1 hb with hb | hb
    · exact h.mine b hb
    · rw [List.mem_singleton.1 hb]; exact (h.none hno).symm
  all x hx := by
    obtain ⟨b, hb, h1⟩ := h.all x hx
    exact ⟨b, List.mem_append_left _ hb, h1⟩
  keys := by
    rw [List.map_append, List.nodup_append]
    refine ⟨h.keys, by simp, fun a ha b hb e => ?_⟩
    simp only [List.map_cons, List.map_nil, List.mem_singleton] at hb
    subst hb; subst e
    obtain ⟨b, hb, e⟩ := List.mem_map.1 ha
    obtain ⟨e1, e2⟩ := Prod.mk.inj e
    exact hno _ (ent_mem.2 ⟨b, hb, e2, rfl⟩) e1
theorem PSt.put {s s' : Res} {w w' : World} {os : List Res} {l : List Wire} {κ κ' : Int} {mk mo i : Nat} {Mk Mo A' : Res} {bs : List Box} {x : Wire} (h : PSt s w os l κ κ' mk mo Mk Mo bs) (hi : i < bs.length) (h1 : bs[i].to = x.msg.to) (h2 : bs[i].kind = kindOf x.msg) (hle : Le s s')
    (hg : Good w' s' (A' :: (Mk :: Mo :: (bs.map (·.A) ++ os)).eraseIdx (2 + i))) (hA : BObj s' A' bs[i].p (bs[i].ms.length + 1 : Nat) (encWs bs[i].ms ++ encW x)) :
    PSt s' w' os (l ++ [x]) κ κ' mk mo Mk Mo (bs.set i ⟨bs[i].to, bs[i].kind, bs[i].p, A', bs[i].ms ++ [x]⟩) where
  good := by
    have hget : (Mk :: Mo :: (bs.map (·.A) ++ os))[2 + i]? = some bs[i].A := by
      rw [show 2 + i = i + 1 + 1 by omega, List.getElem?_cons_succ, List.getElem?_cons_succ, List.getElem?_append_left (by simpa using hi)]
      simp [hi]
    have := Good.back (2 + i) hget hg
    rw [show 2 + i = i + 1 + 1 by omega, List.set_cons_succ, List.set_cons_succ, List.set_append_left _ _ (by simpa using hi)] at this
    rw [List.map_set]
    exact this
  mapk := by
    have e : ∀ κ, ent (bs.set i ⟨bs[i].to, bs[i].kind, bs[i].p, A', bs[i].ms ++ [x]⟩) κ = ent bs κ := fun κ => by
      have e1 : ∀ bs : List Box, ent bs κ = (bs.map fun b => (b.kind, b.to, b.p)).filterMap fun t => if t.1 = κ then some (t.2.1, ptr t.2.2) else Option.none := fun bs => by
        induction bs with
        | nil => rfl
        | cons b bs ih =>
          simp only [ent, List.filter_cons, List.map_cons, List.filterMap_cons] at ih ⊢
          by_cases hb : b.kind = κ <;> simp [hb, ih]
      rw [e1, e1, List.map_set]
      congr 1
      exact List.ext_getElem (by simp) fun j hj _ => by
        simp only [List.getElem_set, List.getElem_map]
        split
        · rename_i hij; subst hij; rfl
        · rfl
    rw [e]; exact h.mapk
  mapo := by
    have e : ∀ κ, ent (bs.set i ⟨bs[i].to, bs[i].kind, bs[i].p, A', bs[i].ms ++ [x]⟩) κ = ent bs κ := fun κ => by
      have e1 : ∀ bs : List Box, ent bs κ = (bs.map fun b => (b.kind, b.to, b.p)).filterMap fun t => if t.1 = κ then some (t.2.1, ptr t.2.2) else Option.none := fun bs => by
        induction bs with
        | nil => rfl
        | cons b bs ih =>
          simp only [ent, List.filter_cons, List.map_cons, List.filterMap_cons] at ih ⊢
          by_cases hb : b.kind = κ <;> simp [hb, ih]
      rw [e1, e1, List.map_set]
      congr 1
      exact List.ext_getElem (by simp) fun j hj _ => by
        simp only [List.getElem_set, List.getElem_map]
        split
        · rename_i hij; subst hij; rfl
        · rfl
    rw [e]; exact h.mapo
  obj b hb := by
    rcases List.mem_or_eq_of_mem_set hb with hb | rfl
    · exact (h.obj b hb).up hle
    · simp only [List.length_append, List.length_singleton, encWs_append, encWs_one]; exact hA
  mine b hb := by
    obtain ⟨j, hj, rfl⟩ := List.getElem_of_mem hb
    have hjl : j < bs.length := by simpa using hj
    rw [List.getElem_set]
    split
    · rw [List.filter_append, h.mine _ (List.getElem_mem hi)]
      have hm : Lw.mine bs[i].to bs[i].kind x = true := mine_iff.2 ⟨h1.symm, h2.symm⟩
      simp [hm]
    · rename_i hij
      rw [List.filter_append, ← h.mine _ (List.getElem_mem hjl)]
      have hm : ¬ Lw.mine bs[j].to bs[j].kind x = true := fun hm => by
        obtain ⟨a, b⟩ := mine_iff.1 hm
        refine hij ((List.getElem_inj (h₀ := by simpa using hi) (h₁ := by simpa using hjl) h.keys).1 ?_)
        simp only [List.getElem_map]
        rw [h1, h2, a, b]
      simp [hm]
  all y hy := by
    have hin : (⟨bs[i].to, bs[i].kind, bs[i].p, A', bs[i].ms ++ [x]⟩ : Box) ∈ bs.set i ⟨bs[i].to, bs[i].kind, bs[i].p, A', bs[i].ms ++ [x]⟩ := List.mem_set hi _
    rcases List.mem_append.1 hy with hy | hy
    · obtain ⟨b, hb, h3, h4⟩ := h.all y hy
      obtain ⟨j, hj, rfl⟩ := List.getElem_of_mem hb
      by_cases hij : i = j
      · subst hij; exact ⟨_, hin, h3, h4⟩
      · refine ⟨bs[j], ?_, h3, h4⟩
        have := List.getElem_mem (l := bs.set i ⟨bs[i].to, bs[i].kind, bs[i].p, A', bs[i].ms ++ [x]⟩) (n := j) (by simpa using hj)
        rwa [List.getElem_set_ne hij] at this
    · rw [List.mem_singleton.1 hy]
      exact ⟨_, hin, h1, h2⟩
  keys := by
    have e : ((bs.set i ⟨bs[i].to, bs[i].kind, bs[i].p, A', bs[i].ms ++ [x]⟩).map fun b => (b.to, b.kind)) = bs.map fun b => (b.to, b.kind) := List.ext_getElem (by simp) fun j hj _ => by
      simp only [List.getElem_map, List.getElem_set]
      split
      · rename_i hij; subst hij; rfl
      · rfl
    rw [e]; exact h.keys
end Go.Lw
