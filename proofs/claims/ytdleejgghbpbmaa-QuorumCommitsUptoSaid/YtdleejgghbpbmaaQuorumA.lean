/-
  Quorum: how many are most; counting; the document's lists.
-/
import Derived.Test.YtdleejgghbpbmaaSlOnce
namespace Go.Lw
open Go.Proofs

def most (n : Int) : Int := if n < 1 then 0 else n / 2 + 1

set_option maxRecDepth 100000 in
theorem Most_ct {w : World} {s : Res} {os : List Res} {n : Int} (hg : Good w s os) (hn : rng .i64 n) :
    Calls Try.prog 13 #[i64 n] w (PostV w s os fun r => r = i64 (most n)) := by
  simp only [rng] at hn
  refine enter (l := [i64 n]) Try.func13 rfl Try.ntmps13 rfl ?_
  refine CW.seq (CW.plain ?_)
  refine RL.pure rfl rfl rfl rfl ?_
  refine RL.done ?_
  refine CW.seq (CW.seq (CW.plain ?_))
  refine RL.pure rfl rfl rfl rfl ?_
  refine RL.pure rfl rfl rfl rfl ?_
  refine RL.done ?_
  refine CW.test rfl (fun h => ?_) (fun h => ?_)
  · refine CW.seq (CW.plain ?_)
    refine RL.pure rfl rfl rfl rfl ?_
    refine RL.done ?_
    exact CW.ret (ret (vs := [_]) ⟨_, _, rfl, rfl, rfl⟩ (PostV.mk hg (Aux.refl _) (by rw [most, if_pos h]; rfl)))
  · refine CW.skip ?_
    refine CW.seq (CW.plain ?_)
    refine RL.pure rfl rfl rfl rfl ?_
    refine RL.quo rfl rfl rfl rfl rfl rfl ((by omega)) ((by decide)) ((by simp only [rng]; omega)) ?_
    refine RL.add rfl rfl rfl rfl rfl rfl ((by simp only [rng]; omega)) ?_
    refine RL.pure rfl rfl rfl rfl ?_
    refine RL.done ?_
    exact CW.ret (ret (vs := [_]) ⟨_, _, rfl, rfl, rfl⟩ (PostV.mk hg (Aux.refl _) (by rw [most, if_neg h]; rfl)))
set_option maxRecDepth 100000 in
theorem rMost_ct {w : World} {s : Res} {os : List Res} {n : Int} (hg : Good w s os) (hn : rng .i64 n) :
    Calls Try.prog 14 #[i64 n] w (PostV w s os fun r => r = i64 (most n)) := by
  simp only [rng] at hn
  refine enter (l := [i64 n]) Try.func14 rfl Try.ntmps14 rfl ?_
  refine CW.seq (CW.plain ?_)
  refine RL.pure rfl rfl rfl rfl ?_
  refine RL.done ?_
  refine CW.seq (CW.seq (CW.plain ?_))
  refine RL.pure rfl rfl rfl rfl ?_
  refine RL.pure rfl rfl rfl rfl ?_
  refine RL.done ?_
  refine CW.test rfl (fun h => ?_) (fun h => ?_)
  · refine CW.seq (CW.plain ?_)
    refine RL.pure rfl rfl rfl rfl ?_
    refine RL.done ?_
    exact CW.ret (ret (vs := [_]) ⟨_, _, rfl, rfl, rfl⟩ (PostV.mk hg (Aux.refl _) (by rw [most, if_pos h]; rfl)))
  · refine CW.skip ?_
    refine CW.seq (CW.plain ?_)
    refine RL.pure rfl rfl rfl rfl ?_
    refine RL.quo rfl rfl rfl rfl rfl rfl ((by omega)) ((by decide)) ((by simp only [rng]; omega)) ?_
    refine RL.add rfl rfl rfl rfl rfl rfl ((by simp only [rng]; omega)) ?_
    refine RL.pure rfl rfl rfl rfl ?_
    refine RL.done ?_
    exact CW.ret (ret (vs := [_]) ⟨_, _, rfl, rfl, rfl⟩ (PostV.mk hg (Aux.refl _) (by rw [most, if_neg h]; rfl)))

theorem countP_take {α : Type} (p : α → Bool) (xs : List α) (k : Nat) (hk : k < xs.length) : (xs.take (k + 1)).countP p = (xs.take k).countP p + if p xs[k] then 1 else 0 := by
  rw [List.take_succ_eq_append_getElem hk, List.countP_append, List.countP_singleton]

set_option maxRecDepth 100000 in
theorem count_ct {w : World} {s : Res} {os : List Res} {xs : List Int} {xa : Option Addr} {xc g : Nat} {cap : Array Value} {p : Int → Bool} (hg : Good w s os) (hx : Ints s xa xc xs) (hc : callable Try.prog g = true)
    (hp : ∀ x ∈ xs, ∀ w', Good w' s os → Calls Try.prog g (#[i64 x] ++ cap) w' (PostV w' s os fun r => r = .bool (p x))) :
    Calls Try.prog 20 #[.slice xa xs.length xc, .func (.func g) #[] cap] w (PostV w s os fun r => r = i64 (xs.countP p)) := by
  refine enter (l := [.slice xa xs.length xc, .func (.func g) #[] cap]) Try.func20 rfl Try.ntmps20 rfl ?_
  refine CW.seq (CW.plain ?_)
  refine RL.pure rfl rfl rfl rfl ?_
  refine RL.done ?_
  refine CW.seq (CW.plain ?_)
  refine RL.pure rfl rfl rfl rfl ?_
  refine RL.done ?_
  refine CW.seq (CW.seq (CW.plain ?_))
  refine RL.pure rfl rfl rfl rfl ?_
  refine RL.len rfl rfl rfl rfl sl22 rfl ?_
  refine RL.pure rfl rfl rfl rfl ?_
  refine RL.done ?_
  have hlen := hx.le_max
  simp only [maxLen] at hlen
  refine CW.block (CW.loop (σ := Nat) (fun j E w' => Good w' s os ∧ Aux w w' ∧ ∃ k : Nat, E = [(1, .func (.func g) #[] cap), (5, i64 ((xs.take k).countP p)), (8, .slice xa xs.length xc), (9, i64 xs.length), (10, i64 k)] ∧ k + j = xs.length)
    (fun j => j) xs.length [(1, .func (.func g) #[] cap), (5, i64 0), (8, .slice xa xs.length xc), (9, i64 xs.length), (10, i64 0)] ⟨rfl, rfl, rfl, rfl, rfl, trivial⟩ ⟨hg, Aux.refl _, 0, rfl, by omega⟩ ?_)
  rintro j E w1 ⟨hg1, hax1, k, rfl, hk⟩
  refine CW.seq (CW.plain ?_)
  refine RL.pure rfl rfl rfl rfl ?_
  refine RL.done ?_
  refine CW.seq (CW.test rfl (fun h => ?_) (fun h => ?_))
  · refine CW.skip ?_
    have hkl : k < xs.length := by omega
    have hcl : (xs.take k).countP p ≤ k := Nat.le_trans List.countP_le_length (by simp; omega)
    refine CW.seq (CW.block (CW.seq (CW.plain ?_)))
    refine RL.idx rfl rfl rfl rfl sl22 rfl rfl (hx) (by omega) (by omega) ?_
    rintro q vs hvl hH ⟨rfl, hr'⟩
    refine RL.load rfl rfl rfl rfl ty3 rfl (hH) (hg1.sh) rfl ?_
    refine RL.pure rfl rfl rfl rfl ?_
    refine RL.done ?_
    refine CW.seq (CW.plain ?_)
    refine RL.pure rfl rfl rfl rfl ?_
    refine RL.pure rfl rfl rfl rfl ?_
    refine RL.callF rfl rfl rfl rfl rfl rfl hc (hp xs[k] (List.getElem_mem hkl) w1 hg1) ?_
    rintro e w2 ⟨v2, rfl, hg2, hax2, rfl⟩
    refine ⟨_, rfl, trivial, ?_⟩
    refine RL.done ?_
    refine CW.cond rfl (fun hb => ?_) (fun hb => ?_)
    · refine CW.plain ?_
      refine RL.pure rfl rfl rfl rfl ?_
      refine RL.add rfl rfl rfl rfl rfl rfl ((by simp only [rng]; omega)) ?_
      refine RL.pure rfl rfl rfl rfl ?_
      refine RL.done ?_
      refine CW.plain ?_
      refine RL.add rfl rfl rfl rfl rfl rfl (by simp only [rng] at *; omega) ?_
      refine RL.pure rfl rfl rfl rfl ?_
      refine RL.done ?_
      cases j with
      | zero => omega
      | succ j =>
        refine fun ac ha => ⟨j, [(1, .func (.func g) #[] cap), (5, i64 ((xs.take (k + 1)).countP p)), (8, .slice xa xs.length xc), (9, i64 xs.length), (10, i64 ((k : Int) + 1))], ha.sub ⟨rfl, by rw [countP_take p xs k hkl, if_pos hb]; rfl, rfl, rfl, rfl, trivial⟩, ⟨hg2, hax1.trans hax2, k + 1, rfl, by omega⟩, Nat.lt_succ_self j⟩
    · refine CW.skip ?_
      refine CW.plain ?_
      refine RL.add rfl rfl rfl rfl rfl rfl (by simp only [rng] at *; omega) ?_
      refine RL.pure rfl rfl rfl rfl ?_
      refine RL.done ?_
      cases j with
      | zero => omega
      | succ j =>
        refine fun ac ha => ⟨j, [(1, .func (.func g) #[] cap), (5, i64 ((xs.take (k + 1)).countP p)), (8, .slice xa xs.length xc), (9, i64 xs.length), (10, i64 ((k : Int) + 1))], ha.sub ⟨rfl, by rw [countP_take p xs k hkl, hb]; rfl, rfl, rfl, rfl, trivial⟩, ⟨hg2, hax1.trans hax2, k + 1, rfl, by omega⟩, Nat.lt_succ_self j⟩
  · refine CW.exit (CW.seq (CW.plain ?_))
    have hkl : k = xs.length := by omega
    subst hkl
    refine RL.pure rfl rfl rfl rfl ?_
    refine RL.pure rfl rfl rfl rfl ?_
    refine RL.done ?_
    exact CW.ret (ret (vs := [_]) ⟨_, _, rfl, rfl, rfl⟩ (PostV.mk hg1 hax1 (by rw [List.take_length]; rfl)))

/-! ### once, has -/
set_option maxRecDepth 100000 in
theorem once_ct {w : World} {s : Res} {os : List Res} {xs : List Int} {xa : Option Addr} {xc : Nat} (hg : Good w s os) (hx : Ints s xa xc xs) (hl : xs.length * 8 ≤ 140737488355328) :
    Calls Try.prog 19 #[.slice xa xs.length xc] w (Post w s os fun s' A v => s' = s ∧ ∃ a c, v = .slice a (uniq xs).length c ∧ OwnI s' A a c (uniq xs)) := by
  refine enter (l := [.slice xa xs.length xc]) Try.func19 rfl Try.ntmps19 rfl ?_
  refine CW.seq (CW.plain ?_)
  refine RL.pure rfl rfl rfl rfl ?_
  refine RL.done ?_
  refine CW.seq (CW.plain ?_)
  refine RL.pure rfl rfl rfl rfl ?_
  refine RL.call rfl rfl rfl rfl rfl ca32 (Clone_ct hg (.inl rfl) hx.2.2 hl) ?_
  rintro v1 s1 A1 w1 hle1 hg1 hax1 ⟨rfl, a1, c1, rfl, ho1⟩
  refine ⟨trivial, ?_⟩
  refine RL.pure rfl rfl rfl rfl ?_
  refine RL.done ?_
  refine CW.seq (CW.plain ?_)
  refine RL.pure rfl rfl rfl rfl ?_
  refine RL.call rfl rfl rfl rfl rfl ca33 (Sort_ct hg1 ho1 hl) ?_
  rintro v2 s2 A2 w2 hle2 hg2 hax2 ⟨rfl, rfl, ho2⟩
  refine ⟨trivial, ?_⟩
  refine RL.done ?_
  refine CW.seq (CW.plain ?_)
  refine RL.pure rfl rfl rfl rfl ?_
  refine RL.call rfl rfl rfl rfl rfl ca34 (Compact_ct' hg2 ho2 (msort_length xs).symm) ?_
  rintro v3 s3 A3 w3 hle3 hg3 hax3 ⟨rfl, rfl, ho3⟩
  refine ⟨trivial, ?_⟩
  refine RL.pure rfl rfl rfl rfl ?_
  refine RL.done ?_
  exact CW.ret (ret (vs := [_]) ⟨_, _, rfl, rfl, rfl⟩ (Post.mk (Le.refl _) hg3 (hax1.trans (hax2.trans hax3)) ⟨rfl, a1, c1, rfl, ho3⟩))

set_option maxRecDepth 100000 in
theorem rhas_ct {w : World} {s : Res} {os : List Res} {xs : List Int} {xa : Option Addr} {xc : Nat} {v : Int} (hg : Good w s os) (hx : Ints s xa xc xs) :
    Calls Try.prog 28 #[.slice xa xs.length xc, i64 v] w (PostV w s os fun r => r = .bool (decide (v ∈ xs))) := by
  refine enter (l := [.slice xa xs.length xc, i64 v]) Try.func28 rfl Try.ntmps28 rfl ?_
  refine CW.seq (CW.plain ?_)
  refine RL.pure rfl rfl rfl rfl ?_
  refine RL.done ?_
  refine CW.seq (CW.seq (CW.plain ?_))
  refine RL.pure rfl rfl rfl rfl ?_
  refine RL.done ?_
  have hlen := hx.le_max
  simp only [maxLen] at hlen
  refine CW.block (CW.loop (σ := Nat) (fun j E w' => w' = w ∧ ∃ k : Nat, E = [(0, .slice xa xs.length xc), (1, i64 v), (5, i64 k)] ∧ k + j = xs.length ∧ v ∉ xs.take k)
    (fun j => j) xs.length [(0, .slice xa xs.length xc), (1, i64 v), (5, i64 0)] ⟨rfl, rfl, rfl, trivial⟩ ⟨rfl, 0, rfl, by omega, by simp⟩ ?_)
  rintro j E w' ⟨rfl, k, rfl, hk, hno⟩
  refine CW.seq (CW.seq (CW.plain ?_))
  refine RL.pure rfl rfl rfl rfl ?_
  refine RL.pure rfl rfl rfl rfl ?_
  refine RL.len rfl rfl rfl rfl sl22 rfl ?_
  refine RL.pure rfl rfl rfl rfl ?_
  refine RL.done ?_
  refine CW.test rfl (fun h => ?_) (fun h => ?_)
  · refine CW.skip ?_
    have hkl : k < xs.length := by omega
    refine CW.seq (CW.block (CW.seq (CW.plain ?_)))
    refine RL.pure rfl rfl rfl rfl ?_
    refine RL.pure rfl rfl rfl rfl ?_
    refine RL.idx rfl rfl rfl rfl sl22 rfl rfl (hx) (by omega) (by omega) ?_
    rintro q vs hvl hH ⟨rfl, hr'⟩
    refine RL.load rfl rfl rfl rfl ty3 rfl (hH) (hg.sh) rfl ?_
    refine RL.pure rfl rfl rfl rfl ?_
    refine RL.pure rfl rfl rfl rfl ?_
    refine RL.done ?_
    refine CW.eq rfl (fun he => ?_) (fun he => ?_)
    · refine CW.seq (CW.plain ?_)
      refine RL.pure rfl rfl rfl rfl ?_
      refine RL.done ?_
      have hm : v ∈ xs := by subst he; exact List.getElem_mem _
      exact CW.ret (ret (vs := [_]) ⟨_, _, rfl, rfl, rfl⟩ (PostV.mk hg (Aux.refl _) (by simp [hm, whole])))
    · refine CW.skip ?_
      refine CW.plain ?_
      refine RL.pure rfl rfl rfl rfl ?_
      refine RL.add rfl rfl rfl rfl rfl rfl (by simp only [rng] at *; omega) ?_
      refine RL.pure rfl rfl rfl rfl ?_
      refine RL.done ?_
      cases j with
      | zero => omega
      | succ j =>
        refine fun ac ha => ⟨j, [(0, .slice xa xs.length xc), (1, i64 v), (5, i64 ((k : Int) + 1))], ha.sub ⟨rfl, rfl, rfl, trivial⟩, ⟨rfl, k + 1, rfl, by omega, ?_⟩, Nat.lt_succ_self j⟩
        rw [List.take_succ_eq_append_getElem hkl]
        simp only [List.mem_append, List.mem_singleton, not_or]
        exact ⟨hno, fun h => he h.symm⟩
  · refine CW.exit (CW.seq (CW.plain ?_))
    have hkl : k = xs.length := by omega
    refine RL.pure rfl rfl rfl rfl ?_
    refine RL.done ?_
    rw [hkl, List.take_length] at hno
    exact CW.ret (ret (vs := [_]) ⟨_, _, rfl, rfl, rfl⟩ (PostV.mk hg (Aux.refl _) (by simp [hno, whole])))

def onceF (o : List Int) (x : Int) : List Int := if x ∈ o then o else o ++ [x]
def onceR (xs : List Int) : List Int := xs.foldl onceF []
theorem onceR_take (xs : List Int) (k : Nat) (hk : k < xs.length) : onceR (xs.take (k + 1)) = onceF (onceR (xs.take k)) xs[k] := by
  rw [List.take_succ_eq_append_getElem hk, onceR, List.foldl_append]; rfl
theorem onceF_facts {o l : List Int} {x : Int} (h1 : o.Nodup) (h2 : ∀ y, y ∈ o ↔ y ∈ l) : (onceF o x).Nodup ∧ ∀ y, y ∈ onceF o x ↔ y ∈ l ++ [x] := by
  unfold onceF
  split
  · rename_i hx
    refine ⟨h1, fun y => ?_⟩
    rw [h2, List.mem_append, List.mem_singleton]
    exact ⟨.inl, fun h => h.elim id fun e => by subst e; exact (h2 _).1 hx⟩
  · rename_i hx
    refine ⟨List.nodup_append.2 ⟨h1, by simp, fun a ha b hb => ?_⟩, fun y => ?_⟩
    · simp only [List.mem_singleton] at hb; subst hb; intro e; subst e; exact hx ha
    · simp only [List.mem_append, List.mem_singleton, h2]
theorem onceR_facts (xs : List Int) : (onceR xs).Nodup ∧ ∀ y, y ∈ onceR xs ↔ y ∈ xs := by
  have key : ∀ (r l o : List Int), o.Nodup → (∀ y, y ∈ o ↔ y ∈ l) → (r.foldl onceF o).Nodup ∧ ∀ y, y ∈ r.foldl onceF o ↔ y ∈ l ++ r := by
    intro r
    induction r with
    | nil => intro l o h1 h2; exact ⟨h1, by simpa using h2⟩
    | cons x r ih =>
      intro l o h1 h2
      obtain ⟨h3, h4⟩ := onceF_facts (x := x) h1 h2
      have := ih (l ++ [x]) _ h3 h4
      simpa using this
  have h := key xs [] [] (by simp) (by simp)
  exact ⟨h.1, fun y => by have := h.2 y; rw [List.nil_append] at this; exact this⟩
theorem once_perm (xs : List Int) : (onceR xs).Perm (uniq xs) :=
  (List.perm_ext_iff_of_nodup (onceR_facts xs).1 (uniq_nodup xs)).2 fun y => by rw [(onceR_facts xs).2, uniq_mem]
theorem onceR_le (xs : List Int) : (onceR xs).length ≤ xs.length := by rw [(once_perm xs).length_eq]; exact uniq_le xs

set_option maxRecDepth 100000 in
theorem ronce_ct {w : World} {s : Res} {os : List Res} {xs : List Int} {xa : Option Addr} {xc : Nat} (hg : Good w s os) (hx : Ints s xa xc xs) (hl : xs.length * 8 ≤ 140737488355328) :
    Calls Try.prog 27 #[.slice xa xs.length xc] w (Post w s os fun s' A v => s' = s ∧ ∃ a c, v = .slice a (onceR xs).length c ∧ OwnI s' A a c (onceR xs)) := by
  refine enter (l := [.slice xa xs.length xc]) Try.func27 rfl Try.ntmps27 rfl ?_
  refine CW.seq (CW.plain ?_)
  refine RL.pure rfl rfl rfl rfl ?_
  refine RL.done ?_
  refine CW.seq (CW.plain ?_)
  refine RL.pure rfl rfl rfl rfl ?_
  refine RL.done ?_
  refine CW.seq (CW.seq (CW.plain ?_))
  refine RL.pure rfl rfl rfl rfl ?_
  refine RL.done ?_
  have hlen := hx.le_max
  simp only [maxLen] at hlen
  refine CW.block (CW.loop (σ := Nat) (fun j E w' => ∃ A a c, Good w' s (A :: os) ∧ Aux w w' ∧ ∃ k : Nat, OwnI s A a c (onceR (xs.take k)) ∧ E = [(0, .slice xa xs.length xc), (3, .slice a (onceR (xs.take k)).length c), (4, i64 k)] ∧ k + j = xs.length)
    (fun j => j) xs.length [(0, .slice xa xs.length xc), (3, .slice none 0 0), (4, i64 0)] ⟨rfl, rfl, rfl, trivial⟩ ⟨Res.nil, none, 0, hg.nil, Aux.refl _, 0, Own.nil _ _ _ _ _, rfl, by omega⟩ ?_)
  rintro j E w1 ⟨A, a, c, hg1, hax1, k, ho, rfl, hk⟩
  refine CW.seq (CW.seq (CW.plain ?_))
  refine RL.pure rfl rfl rfl rfl ?_
  refine RL.pure rfl rfl rfl rfl ?_
  refine RL.len rfl rfl rfl rfl sl22 rfl ?_
  refine RL.pure rfl rfl rfl rfl ?_
  refine RL.done ?_
  refine CW.test rfl (fun h => ?_) (fun h => ?_)
  · refine CW.skip ?_
    have hkl : k < xs.length := by omega
    obtain ⟨hg1', hl1, hl2, hback⟩ := hg1.lend
    refine CW.seq (CW.block (CW.seq (CW.plain ?_)))
    refine RL.pure rfl rfl rfl rfl ?_
    refine RL.pure rfl rfl rfl rfl ?_
    refine RL.pure rfl rfl rfl rfl ?_
    refine RL.idx rfl rfl rfl rfl sl22 rfl rfl (hx) (by omega) (by omega) ?_
    rintro q vs hvl hH ⟨rfl, hr'⟩
    refine RL.load rfl rfl rfl rfl ty3 rfl (hH) (hg1.sh) rfl ?_
    refine RL.callV rfl rfl rfl rfl rfl ca28 (rhas_ct (v := xs[(k : Int).toNat]) hg1' (ho.imm (RInt.up _) hl1 hl2)) ?_
    rintro v2 w2 hg2 hax2 rfl
    refine ⟨trivial, ?_⟩
    refine RL.pure rfl rfl rfl rfl ?_
    refine RL.done ?_
    have hg2' := hback w2 hg2
    refine CW.seq (CW.plain ?_)
    refine RL.pure rfl rfl rfl rfl ?_
    refine RL.pure rfl rfl rfl rfl ?_
    refine RL.done ?_
    refine CW.cond rfl (fun hb => ?_) (fun hb => ?_)
    · have hno : xs[k] ∉ onceR (xs.take k) := by simpa using hb
      have hle := onceR_le (xs.take k)
      rw [List.length_take] at hle
      refine CW.plain ?_
      refine RL.pure rfl rfl rfl rfl ?_
      refine RL.pure rfl rfl rfl rfl ?_
      refine RL.pure rfl rfl rfl rfl ?_
      refine RL.idx rfl rfl rfl rfl sl22 rfl rfl (hx) (by omega) (by omega) ?_
      rintro q3 vs3 hvl3 hH3 ⟨rfl, hr3⟩
      refine RL.load rfl rfl rfl rfl ty3 rfl (hH3) (hg2'.sh) rfl ?_
      refine RL.buildSlice rfl rfl rfl rfl sl22 ze3 rfl rfl rfl rfl hg2' ?_
      rintro b w3 hg3 hax3
      refine ⟨trivial, ?_⟩
      refine RL.append (i := 1) (ys := [xs[(k : Int).toNat]]) rfl rfl rfl rfl sl22 ze3 rfl (by first | exact RInt.one _ | exact RStr.one | exact RBool.one | assumption) rfl rfl hg3 rfl ho ((Src.slice sl22 rfl (.inr ⟨_, rfl, Holds.one b _ 3⟩) hg3.1)) ((ints_chunks (k := .i64) (xs := [xs[(k : Int).toNat]]) (by simpa using hr3))) ((by simp only [List.length_cons, List.length_nil]; omega)) (by omega) ?_
      rintro a4 c4 A4 w4 hg4 ho4 hax4 hk4
      refine ⟨trivial, ?_⟩
      refine RL.pure rfl rfl rfl rfl ?_
      refine RL.done ?_
      refine CW.plain ?_
      refine RL.pure rfl rfl rfl rfl ?_
      refine RL.add rfl rfl rfl rfl rfl rfl (by simp only [rng] at *; omega) ?_
      refine RL.pure rfl rfl rfl rfl ?_
      refine RL.done ?_
      cases j with
      | zero => omega
      | succ j =>
        have e : onceR (xs.take (k + 1)) = onceR (xs.take k) ++ [xs[k]] := by rw [onceR_take xs k hkl, onceF, if_neg hno]
        refine fun ac ha => ⟨j, [(0, .slice xa xs.length xc), (3, .slice a4 (onceR (xs.take (k + 1))).length c4), (4, i64 ((k : Int) + 1))], ha.sub ⟨rfl, by rw [e]; rfl, rfl, trivial⟩, ⟨A4, a4, c4, hg4.drop, hax1.trans (hax2.trans (hax3.trans hax4)), k + 1, by rw [e]; exact ho4, rfl, by omega⟩, Nat.lt_succ_self j⟩
    · have hin : xs[k] ∈ onceR (xs.take k) := by simpa using hb
      refine CW.skip ?_
      refine CW.plain ?_
      refine RL.pure rfl rfl rfl rfl ?_
      refine RL.add rfl rfl rfl rfl rfl rfl (by simp only [rng] at *; omega) ?_
      refine RL.pure rfl rfl rfl rfl ?_
      refine RL.done ?_
      cases j with
      | zero => omega
      | succ j =>
        have e : onceR (xs.take (k + 1)) = onceR (xs.take k) := by rw [onceR_take xs k hkl, onceF, if_pos hin]
        refine fun ac ha => ⟨j, [(0, .slice xa xs.length xc), (3, .slice a (onceR (xs.take (k + 1))).length c), (4, i64 ((k : Int) + 1))], ha.sub ⟨rfl, by rw [e]; rfl, rfl, trivial⟩, ⟨A, a, c, hg2', hax1.trans hax2, k + 1, by rw [e]; exact ho, rfl, by omega⟩, Nat.lt_succ_self j⟩
  · refine CW.exit (CW.seq (CW.plain ?_))
    have hkl : k = xs.length := by omega
    subst hkl
    rw [List.take_length] at ho
    refine RL.pure rfl rfl rfl rfl ?_
    refine RL.pure rfl rfl rfl rfl ?_
    refine RL.done ?_
    exact CW.ret (ret (vs := [_]) ⟨_, _, rfl, rfl, rfl⟩ (Post.mk (Le.refl _) hg1 hax1 ⟨rfl, a, c, by rw [List.take_length]; rfl, ho⟩))
end Go.Lw
