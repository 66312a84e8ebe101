/-
  Who has most, by the program (as the quorum seat's texts), and how majorities meet.
-/
import Derived.Test.YthafkinbocdjlaaSlOnce
import Derived.Test.YthafkinbocdjlaaSlSort
namespace Go.Lw
open Go.Proofs

def most (n : Int) : Int := if n < 1 then 0 else n / 2 + 1
set_option maxRecDepth 100000 in
theorem Most_ct {w : World} {s : Res} {os : List Res} {n : Int} (hg : Good w s os) (hn : rng .i64 n) :
    Calls Try.prog 49 #[i64 n] w (PostV w s os fun r => r = i64 (most n)) := by
  simp only [rng] at hn
  refine enter (l := [i64 n]) Try.func49 rfl Try.ntmps49 rfl ?_
  refine CW.seq (CW.plain ?_)
  refine RL.pure rfl rfl rfl rfl ?_
  refine RL.done ?_
  refine CW.seq (CW.seq (CW.plain ?_))
  refine RL.pure rfl rfl rfl rfl ?_
  refine RL.pure rfl rfl rfl rfl ?_
  refine RL.done ?_
  refine CW.test rfl (fun h => ?_) (fun h => ?_)
  · refine CW.seq (CW.plain ?_)
    refine RL.pure rfl rfl rfl rfl ?_
    refine RL.done ?_
    exact CW.ret (ret (vs := [_]) ⟨_, _, rfl, rfl, rfl⟩ (PostV.mk hg (Aux.refl _) (by rw [most, if_pos h]; rfl)))
  · refine CW.skip ?_
    refine CW.seq (CW.plain ?_)
    refine RL.pure rfl rfl rfl rfl ?_
    refine RL.quo rfl rfl rfl rfl rfl rfl ((by omega)) ((by decide)) ((by simp only [rng]; omega)) ?_
    refine RL.add rfl rfl rfl rfl rfl rfl ((by simp only [rng]; omega)) ?_
    refine RL.pure rfl rfl rfl rfl ?_
    refine RL.done ?_
    exact CW.ret (ret (vs := [_]) ⟨_, _, rfl, rfl, rfl⟩ (PostV.mk hg (Aux.refl _) (by rw [most, if_neg h]; rfl)))
theorem countP_take {α : Type} (p : α → Bool) (xs : List α) (k : Nat) (hk : k < xs.length) : (xs.take (k + 1)).countP p = (xs.take k).countP p + if p xs[k] then 1 else 0 := by
  rw [List.take_succ_eq_append_getElem hk, List.countP_append, List.countP_singleton]
set_option maxRecDepth 100000 in
theorem count_ct {w : World} {s : Res} {os : List Res} {xs : List Int} {xa : Option Addr} {xc g : Nat} {cap : Array Value} {p : Int → Bool} (hg : Good w s os) (hx : Ints s xa xc xs) (hc : callable Try.prog g = true)
    (hp : ∀ x ∈ xs, ∀ w', Good w' s os → Calls Try.prog g (#[i64 x] ++ cap) w' (PostV w' s os fun r => r = .bool (p x))) :
    Calls Try.prog 47 #[.slice xa xs.length xc, .func (.func g) #[] cap] w (PostV w s os fun r => r = i64 (xs.countP p)) := by
  refine enter (l := [.slice xa xs.length xc, .func (.func g) #[] cap]) Try.func47 rfl Try.ntmps47 rfl ?_
  refine CW.seq (CW.plain ?_)
  refine RL.pure rfl rfl rfl rfl ?_
  refine RL.done ?_
  refine CW.seq (CW.plain ?_)
  refine RL.pure rfl rfl rfl rfl ?_
  refine RL.done ?_
  refine CW.seq (CW.seq (CW.plain ?_))
  refine RL.pure rfl rfl rfl rfl ?_
  refine RL.len rfl rfl rfl rfl sl22 rfl ?_
  refine RL.pure rfl rfl rfl rfl ?_
  refine RL.done ?_
  have hlen := hx.le_max
  simp only [maxLen] at hlen
  refine CW.block (CW.loop (σ := Nat) (fun j E w' => Good w' s os ∧ Aux w w' ∧ ∃ k : Nat, E = [(1, .func (.func g) #[] cap), (5, i64 ((xs.take k).countP p)), (8, .slice xa xs.length xc), (9, i64 xs.length), (10, i64 k)] ∧ k + j = xs.length)
    (fun j => j) xs.length [(1, .func (.func g) #[] cap), (5, i64 0), (8, .slice xa xs.length xc), (9, i64 xs.length), (10, i64 0)] ⟨rfl, rfl, rfl, rfl, rfl, trivial⟩ ⟨hg, Aux.refl _, 0, rfl, by omega⟩ ?_)
  rintro j E w1 ⟨hg1, hax1, k, rfl, hk⟩
  refine CW.seq (CW.plain ?_)
  refine RL.pure rfl rfl rfl rfl ?_
  refine RL.done ?_
  refine CW.seq (CW.test rfl (fun h => ?_) (fun h => ?_))
  · refine CW.skip ?_
    have hkl : k < xs.length := by omega
    have hcl : (xs.take k).countP p ≤ k := Nat.le_trans List.countP_le_length (by simp; omega)
    refine CW.seq (CW.block (CW.seq (CW.plain ?_)))
    refine RL.idx rfl rfl rfl rfl sl22 rfl rfl (hx) (by omega) (by omega) ?_
    rintro q vs hvl hH ⟨rfl, hr'⟩
    refine RL.load rfl rfl rfl rfl ty3 rfl (hH) (hg1.sh) rfl ?_
    refine RL.pure rfl rfl rfl rfl ?_
    refine RL.done ?_
    refine CW.seq (CW.plain ?_)
    refine RL.pure rfl rfl rfl rfl ?_
    refine RL.pure rfl rfl rfl rfl ?_
    refine RL.callF rfl rfl rfl rfl rfl rfl hc (hp xs[k] (List.getElem_mem hkl) w1 hg1) ?_
    rintro e w2 ⟨v2, rfl, hg2, hax2, rfl⟩
    refine ⟨_, rfl, trivial, ?_⟩
    refine RL.done ?_
    refine CW.cond rfl (fun hb => ?_) (fun hb => ?_)
    · refine CW.plain ?_
      refine RL.pure rfl rfl rfl rfl ?_
      refine RL.add rfl rfl rfl rfl rfl rfl ((by simp only [rng]; omega)) ?_
      refine RL.pure rfl rfl rfl rfl ?_
      refine RL.done ?_
      refine CW.plain ?_
      refine RL.add rfl rfl rfl rfl rfl rfl (by simp only [rng] at *; omega) ?_
      refine RL.pure rfl rfl rfl rfl ?_
      refine RL.done ?_
      cases j with
      | zero => omega
      | succ j =>
        refine fun ac ha => ⟨j, [(1, .func (.func g) #[] cap), (5, i64 ((xs.take (k + 1)).countP p)), (8, .slice xa xs.length xc), (9, i64 xs.length), (10, i64 ((k : Int) + 1))], ha.sub ⟨rfl, by rw [countP_take p xs k hkl, if_pos hb]; rfl, rfl, rfl, rfl, trivial⟩, ⟨hg2, hax1.trans hax2, k + 1, rfl, by omega⟩, Nat.lt_succ_self j⟩
    · refine CW.skip ?_
      refine CW.plain ?_
      refine RL.add rfl rfl rfl rfl rfl rfl (by simp only [rng] at *; omega) ?_
      refine RL.pure rfl rfl rfl rfl ?_
      refine RL.done ?_
      cases j with
      | zero => omega
      | succ j =>
        refine fun ac ha => ⟨j, [(1, .func (.func g) #[] cap), (5, i64 ((xs.take (k + 1)).countP p)), (8, .slice xa xs.length xc), (9, i64 xs.length), (10, i64 ((k : Int) + 1))], ha.sub ⟨rfl, by rw [countP_take p xs k hkl, hb]; rfl, rfl, rfl, rfl, trivial⟩, ⟨hg2, hax1.trans hax2, k + 1, rfl, by omega⟩, Nat.lt_succ_self j⟩
  · refine CW.exit (CW.seq (CW.plain ?_))
    have hkl : k = xs.length := by omega
    subst hkl
    refine RL.pure rfl rfl rfl rfl ?_
    refine RL.pure rfl rfl rfl rfl ?_
    refine RL.done ?_
    exact CW.ret (ret (vs := [_]) ⟨_, _, rfl, rfl, rfl⟩ (PostV.mk hg1 hax1 (by rw [List.take_length]; rfl)))
set_option maxRecDepth 100000 in
theorem once_ct {w : World} {s : Res} {os : List Res} {xs : List Int} {xa : Option Addr} {xc : Nat} (hg : Good w s os) (hx : Ints s xa xc xs) (hl : xs.length * 8 ≤ 140737488355328) :
    Calls Try.prog 46 #[.slice xa xs.length xc] w (Post w s os fun s' A v => s' = s ∧ ∃ a c, v = .slice a (uniq xs).length c ∧ OwnI s' A a c (uniq xs)) := by
  refine enter (l := [.slice xa xs.length xc]) Try.func46 rfl Try.ntmps46 rfl ?_
  refine CW.seq (CW.plain ?_)
  refine RL.pure rfl rfl rfl rfl ?_
  refine RL.done ?_
  refine CW.seq (CW.plain ?_)
  refine RL.pure rfl rfl rfl rfl ?_
  refine RL.call rfl rfl rfl rfl rfl ca25 (Clone_ct hg (.inl rfl) hx.2.2 hl) ?_
  rintro v1 s1 A1 w1 hle1 hg1 hax1 ⟨rfl, a1, c1, rfl, ho1⟩
  refine ⟨trivial, ?_⟩
  refine RL.pure rfl rfl rfl rfl ?_
  refine RL.done ?_
  refine CW.seq (CW.plain ?_)
  refine RL.pure rfl rfl rfl rfl ?_
  refine RL.call rfl rfl rfl rfl rfl ca43 (Sort_ct hg1 ho1 hl) ?_
  rintro v2 s2 A2 w2 hle2 hg2 hax2 ⟨rfl, rfl, ho2⟩
  refine ⟨trivial, ?_⟩
  refine RL.done ?_
  refine CW.seq (CW.plain ?_)
  refine RL.pure rfl rfl rfl rfl ?_
  refine RL.call rfl rfl rfl rfl rfl ca44 (Compact_ct' hg2 ho2 (msort_length xs).symm) ?_
  rintro v3 s3 A3 w3 hle3 hg3 hax3 ⟨rfl, rfl, ho3⟩
  refine ⟨trivial, ?_⟩
  refine RL.pure rfl rfl rfl rfl ?_
  refine RL.done ?_
  exact CW.ret (ret (vs := [_]) ⟨_, _, rfl, rfl, rfl⟩ (Post.mk (Le.refl _) hg3 (hax1.trans (hax2.trans hax3)) ⟨rfl, a1, c1, rfl, ho3⟩))
def hasP (v ys : List Int) : Bool := decide (0 < v.length) && decide (most v.length ≤ (v.countP fun x => decide (x ∈ ys) : Nat))
theorem hasP_perm {v v' ys : List Int} (h : v.Perm v') : hasP v ys = hasP v' ys := by rw [hasP, hasP, h.length_eq, h.countP_eq]
theorem rng_len {n : Nat} (h : n ≤ 9223372036854775807) : rng .i64 (n : Int) := by simp only [rng]; omega
set_option maxRecDepth 100000 in
theorem isIn_ct {w : World} {s : Res} {os : List Res} {ys : List Int} {ya : Option Addr} {yc b : Nat} {x : Int} (hg : Good w s os) (hy : Ints s ya yc ys) (hb : Holds s ⟨b, 0, none⟩ [.slice ya ys.length yc]) :
    Calls Try.prog 48 #[i64 x, ptr b] w (PostV w s os fun r => r = .bool (decide (x ∈ ys))) := by
  refine enter (l := [i64 x, ptr b]) Try.func48 rfl Try.ntmps48 rfl ?_
  refine CW.seq (CW.plain ?_)
  refine RL.pure rfl rfl rfl rfl ?_
  refine RL.done ?_
  refine CW.seq (CW.plain ?_)
  refine RL.load (j := 0) rfl rfl rfl rfl ty22 rfl (hb) (hg.sh) rfl ?_
  refine RL.pure rfl rfl rfl rfl ?_
  refine RL.callV rfl rfl rfl rfl rfl ca45 (Contains_ct hg hy) ?_
  rintro v w1 hg1 hax1 rfl
  refine ⟨trivial, ?_⟩
  refine RL.pure rfl rfl rfl rfl ?_
  refine RL.done ?_
  exact CW.ret (ret (vs := [_]) ⟨_, _, rfl, rfl, rfl⟩ (PostV.mk hg1 hax1 rfl))
set_option maxRecDepth 100000 in
theorem Has_ct {w : World} {s : Res} {os : List Res} {xs ys : List Int} {xa ya : Option Addr} {xc yc : Nat} (hg : Good w s os) (hx : Ints s xa xc xs) (hy : Ints s ya yc ys) (hl : xs.length * 8 ≤ 140737488355328) :
    Calls Try.prog 23 #[.slice xa xs.length xc, .slice ya ys.length yc] w (Post w s os fun _ _ r => r = .bool (hasP (uniq xs) ys)) := by
  have hul := uniq_le xs
  refine enter (l := [.slice xa xs.length xc, .slice ya ys.length yc]) Try.func23 rfl Try.ntmps23 rfl ?_
  refine CW.seq (CW.plain ?_)
  refine RL.box rfl rfl rfl rfl rfl hg ?_
  rintro b w1 hg1 hax1
  refine ⟨trivial, ?_⟩
  refine RL.pure rfl rfl rfl rfl ?_
  refine RL.done ?_
  obtain ⟨s1, hg1', hle1, hB1⟩ := hg1.letgo
  have hb : Holds s1 ⟨b, 0, none⟩ [.slice ya ys.length yc] := (Holds.of (if_pos rfl)).le hB1
  refine CW.seq (CW.plain ?_)
  refine RL.pure rfl rfl rfl rfl ?_
  refine RL.call rfl rfl rfl rfl rfl ca46 (once_ct hg1' (hx.up (RInt.up _) hle1) hl) ?_
  rintro v2 s2 A2 w2 hle2 hg2 hax2 ⟨rfl, a2, c2, rfl, ho2⟩
  refine ⟨trivial, ?_⟩
  refine RL.pure rfl rfl rfl rfl ?_
  refine RL.done ?_
  obtain ⟨s3, hg3, hle3, hA3⟩ := hg2.letgo
  have hv : Ints s3 a2 c2 (uniq xs) := ho2.imm (RInt.up _) hle3 hA3
  refine CW.seq (CW.plain ?_)
  refine RL.pure rfl rfl rfl rfl ?_
  refine RL.len rfl rfl rfl rfl sl22 rfl ?_
  refine RL.pure rfl rfl rfl rfl ?_
  refine RL.pure rfl rfl rfl rfl ?_
  refine RL.part 11 rfl (fun h => ?_) (fun h => ?_)
  · refine RL.pure rfl rfl rfl rfl ?_
    refine RL.makeF rfl rfl rfl rfl rfl ?_
    refine RL.callV rfl rfl rfl rfl rfl ca47 (count_ct hg3 hv ca48 (p := fun x => decide (x ∈ ys)) (fun x hx w' hg' => isIn_ct hg' (hy.up (RInt.up _) (hle1.trans hle3)) (hb.le hle3))) ?_
    rintro v4 w4 hg4 hax4 rfl
    refine ⟨trivial, ?_⟩
    refine RL.pure rfl rfl rfl rfl ?_
    refine RL.len rfl rfl rfl rfl sl22 rfl ?_
    refine RL.callV rfl rfl rfl rfl rfl ca49 (Most_ct hg4 (rng_len (by omega))) ?_
    rintro v5 w5 hg5 hax5 rfl
    refine ⟨trivial, ?_⟩
    refine RL.pure rfl rfl rfl rfl ?_
    refine RL.pure rfl rfl rfl rfl ?_
    refine RL.pure rfl rfl rfl rfl ?_
    refine RL.done ?_
    refine CW.ret (ret (vs := [_]) ⟨_, _, rfl, rfl, rfl⟩ (Post.mk (hle1.trans hle3) hg5.nil (hax1.trans (hax2.trans (hax4.trans hax5))) (congrArg Value.bool ?_)))
    have h' : 0 < (uniq xs).length := by simpa using h
    simp [hasP, h']
  · refine RL.pass rfl rfl rfl ?_
    refine RL.pass rfl rfl rfl ?_
    refine RL.pass rfl rfl rfl ?_
    refine RL.pass rfl rfl rfl ?_
    refine RL.pass rfl rfl rfl ?_
    refine RL.pass rfl rfl rfl ?_
    refine RL.pass rfl rfl rfl ?_
    refine RL.pure rfl rfl rfl rfl ?_
    refine RL.pure rfl rfl rfl rfl ?_
    refine RL.done ?_
    refine CW.ret (ret (vs := [_]) ⟨_, _, rfl, rfl, rfl⟩ (Post.mk (hle1.trans hle3) hg3.nil (hax1.trans hax2) (congrArg Value.bool ?_)))
    have h' : ¬ 0 < (uniq xs).length := by simpa using h
    simp only [hasP, h', decide_false, Bool.false_and]
theorem countP_two (p q : Int → Bool) : ∀ v : List Int, v.countP p + v.countP q ≤ v.length + v.countP fun x => p x && q x
  | [] => by simp
  | x :: v => by
    have := countP_two p q v
    simp only [List.countP_cons, List.length_cons]
    cases p x <;> cases q x <;> simp <;> omega
theorem most_pos {n : Nat} (h : 0 < n) : most (n : Int) = n / 2 + 1 := by unfold most; rw [if_neg (by omega)]
theorem hasP_spec {v ys : List Int} (h : hasP v ys = true) : 0 < v.length ∧ v.length / 2 + 1 ≤ v.countP fun x => decide (x ∈ ys) := by
  simp only [hasP, Bool.and_eq_true, decide_eq_true_eq] at h
  obtain ⟨h1, h2⟩ := h
  rw [most_pos h1] at h2
  omega
theorem meets_same {v us zs : List Int} (h1 : hasP v us = true) (h2 : hasP v zs = true) : ∃ x, x ∈ us ∧ x ∈ zs := by
  obtain ⟨h3, h4⟩ := hasP_spec h1
  obtain ⟨_, h6⟩ := hasP_spec h2
  have h7 := countP_two (fun x => decide (x ∈ us)) (fun x => decide (x ∈ zs)) v
  have h8 : 0 < v.countP fun x => decide (x ∈ us) && decide (x ∈ zs) := by omega
  obtain ⟨x, _, hx⟩ := List.countP_pos_iff.1 h8
  simp only [Bool.and_eq_true, decide_eq_true_eq] at hx
  exact ⟨x, hx⟩
theorem uniq_more (xs : List Int) (m : Int) : (uniq (xs ++ [m])).Perm (if m ∈ xs then uniq xs else m :: uniq xs) := by
  split
  · rename_i h
    refine (List.perm_ext_iff_of_nodup (uniq_nodup _) (uniq_nodup _)).2 fun y => ?_
    simp only [uniq_mem, List.mem_append, List.mem_singleton]
    exact ⟨fun h' => h'.elim id fun e => e ▸ h, .inl⟩
  · rename_i h
    refine (List.perm_ext_iff_of_nodup (uniq_nodup _) (List.nodup_cons.2 ⟨by rw [uniq_mem]; exact h, uniq_nodup _⟩)).2 fun y => ?_
    simp only [uniq_mem, List.mem_append, List.mem_cons, List.not_mem_nil, or_false]
    exact Or.comm
theorem meets_more {xs us zs : List Int} {m : Int} (h1 : hasP (uniq xs) us = true) (h2 : hasP (uniq (xs ++ [m])) zs = true) : ∃ x, x ∈ us ∧ x ∈ zs := by
  rw [hasP_perm (uniq_more xs m)] at h2
  split at h2
  · exact meets_same h1 h2
  · obtain ⟨h3, h4⟩ := hasP_spec h1
    obtain ⟨_, h6⟩ := hasP_spec h2
    have h7 := countP_two (fun x => decide (x ∈ us)) (fun x => decide (x ∈ zs)) (uniq xs)
    simp only [List.countP_cons, List.length_cons] at h6
    have h8 : 0 < (uniq xs).countP fun x => decide (x ∈ us) && decide (x ∈ zs) := by split at h6 <;> omega
    obtain ⟨x, _, hx⟩ := List.countP_pos_iff.1 h8
    simp only [Bool.and_eq_true, decide_eq_true_eq] at hx
    exact ⟨x, hx⟩
end Go.Lw
