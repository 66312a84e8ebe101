/-
  Go's slices at []int: Clone, Index, Contains.
-/
import Derived.Test.YthafkinbocdjlaaPieces
import Derived.Test.YthafkinbocdjlaaMixed
namespace Go.Lw
open Go.Proofs
abbrev Ints (s : Res) (a : Option Addr) (c : Nat) (xs : List Int) : Prop := Imm (RInt .i64) 1 s a c xs
abbrev OwnI (s A : Res) (a : Option Addr) (c : Nat) (xs : List Int) : Prop := Own (RInt .i64) 1 3 s A a c xs

set_option maxRecDepth 100000 in
theorem Clone_ct {w : World} {s r : Res} {os : List Res} {xs : List Int} {xa : Option Addr} {xc : Nat} (hg : Good w s os) (hr : r = s ∨ r ∈ os) (hx : xs = [] ∨ ∃ ad, xa = some ad ∧ Row (RInt .i64) 1 r s ad xs) (hl : xs.length * 8 ≤ 140737488355328) :
    Calls Try.prog 25 #[.slice xa xs.length xc] w (Post w s os fun s' A v => s' = s ∧ ∃ a c, v = .slice a xs.length c ∧ OwnI s' A a c xs) := by
  refine enter (l := [.slice xa xs.length xc]) Try.func25 rfl Try.ntmps25 rfl ?_
  refine CW.seq (CW.plain ?_)
  refine RL.pure rfl rfl rfl rfl ?_
  refine RL.done ?_
  refine CW.seq (CW.seq (CW.plain ?_))
  refine RL.pure rfl rfl rfl rfl ?_
  refine RL.nilEq rfl rfl rfl rfl sl22 rfl rfl ?_
  refine RL.done ?_
  refine CW.cond rfl (fun h => ?_) (fun h => ?_)
  · refine CW.seq (CW.plain ?_)
    refine RL.pure rfl rfl rfl rfl ?_
    refine RL.done ?_
    have hnil : xs = [] := by
      rcases hx with hx | ⟨ad, rfl, _⟩
      · exact hx
      · cases h
    subst hnil
    exact CW.ret (ret (vs := [_]) ⟨_, _, rfl, rfl, rfl⟩ (Post.mk (Le.refl _) hg.nil (Aux.refl _) ⟨rfl, none, 0, rfl, Own.nil _ _ _ _ _⟩))
  · refine CW.skip ?_
    refine CW.seq (CW.plain ?_)
    refine RL.buildSlice rfl rfl rfl rfl sl22 ze3 rfl rfl rfl rfl hg ?_
    rintro b w1 hg1 hax1
    refine ⟨trivial, ?_⟩
    refine RL.pure rfl rfl rfl rfl ?_
    obtain ⟨news, hsrc, hch⟩ := Src.row (c := xc) sl22 hx (hg1.drop.has hr)
    refine RL.append (i := 0) (ys := xs) rfl rfl rfl rfl sl22 ze3 rfl (by first | exact RInt.one _ | exact RStr.one | exact RBool.one | assumption) rfl rfl hg1 rfl (Own.fresh (R := RInt .i64) (sz := 1) (el := 3) (s := s) (b := b)) (hsrc) (hch) ((by simp; omega)) (by omega) ?_
    rintro a2 c2 A2 w2 hg2 hown2 hax2 hkeep
    refine ⟨trivial, ?_⟩
    refine RL.pure rfl rfl rfl rfl ?_
    refine RL.done ?_
    exact CW.ret (ret (vs := [_]) ⟨_, _, rfl, rfl, rfl⟩ (Post.mk (Le.refl _) hg2 (hax1.trans hax2) ⟨rfl, a2, c2, rfl, hown2⟩))

set_option maxRecDepth 100000 in
theorem Index_ct {w : World} {s : Res} {os : List Res} {xs : List Int} {xa : Option Addr} {xc : Nat} {v : Int} (hg : Good w s os) (hx : Ints s xa xc xs) :
    Calls Try.prog 59 #[.slice xa xs.length xc, i64 v] w (PostV w s os fun r => ∃ i : Int, r = i64 i ∧ Lw.rng .i64 i ∧ (0 ≤ i ↔ v ∈ xs)) := by
  refine enter (l := [.slice xa xs.length xc, i64 v]) Try.func59 rfl Try.ntmps59 rfl ?_
  refine CW.seq (CW.plain ?_)
  refine RL.pure rfl rfl rfl rfl ?_
  refine RL.done ?_
  refine CW.seq (CW.seq (CW.plain ?_))
  refine RL.pure rfl rfl rfl rfl ?_
  refine RL.len rfl rfl rfl rfl sl22 rfl ?_
  refine RL.pure rfl rfl rfl rfl ?_
  refine RL.done ?_
  have hlen := hx.le_max
  simp only [maxLen] at hlen
  refine CW.block (CW.loop (σ := Nat) (fun j E w' => w' = w ∧ ∃ k : Nat, E = [(0, .slice xa xs.length xc), (1, i64 v), (7, i64 xs.length), (8, i64 k)] ∧ k + j = xs.length ∧ v ∉ xs.take k)
    (fun j => j) xs.length [(0, .slice xa xs.length xc), (1, i64 v), (7, i64 xs.length), (8, i64 0)] ⟨rfl, rfl, rfl, rfl, trivial⟩ ⟨rfl, 0, rfl, by omega, by simp⟩ ?_)
  rintro j E w' ⟨rfl, k, rfl, hk, hno⟩
  refine CW.seq (CW.plain ?_)
  refine RL.pure rfl rfl rfl rfl ?_
  refine RL.done ?_
  refine CW.seq (CW.test rfl (fun h => ?_) (fun h => ?_))
  · refine CW.skip ?_
    have hkl : k < xs.length := by omega
    refine CW.seq (CW.block (CW.seq (CW.plain ?_)))
    refine RL.pure rfl rfl rfl rfl ?_
    refine RL.pure rfl rfl rfl rfl ?_
    refine RL.done ?_
    refine CW.seq (CW.plain ?_)
    refine RL.pure rfl rfl rfl rfl ?_
    refine RL.pure rfl rfl rfl rfl ?_
    refine RL.pure rfl rfl rfl rfl ?_
    refine RL.idx rfl rfl rfl rfl sl22 rfl rfl (hx) (by omega) (by omega) ?_
    rintro q vs hvl hH ⟨rfl, hr'⟩
    refine RL.load rfl rfl rfl rfl ty3 rfl (hH) (hg.sh) rfl ?_
    refine RL.pure rfl rfl rfl rfl ?_
    refine RL.done ?_
    refine CW.eq rfl (fun he => ?_) (fun he => ?_)
    · refine CW.seq (CW.plain ?_)
      refine RL.pure rfl rfl rfl rfl ?_
      refine RL.pure rfl rfl rfl rfl ?_
      refine RL.done ?_
      have hm : v ∈ xs := by subst he; exact List.getElem_mem _
      exact CW.ret (ret (vs := [_]) ⟨_, _, rfl, rfl, rfl⟩ (PostV.mk hg (Aux.refl _) ⟨k, rfl, by simp only [Lw.rng]; omega, by simp [hm]⟩))
    · refine CW.skip ?_
      refine CW.plain ?_
      refine RL.add rfl rfl rfl rfl rfl rfl (by simp only [rng] at *; omega) ?_
      refine RL.pure rfl rfl rfl rfl ?_
      refine RL.done ?_
      cases j with
      | zero => omega
      | succ j =>
        refine fun ac ha => ⟨j, [(0, .slice xa xs.length xc), (1, i64 v), (7, i64 xs.length), (8, i64 ((k : Int) + 1))], ha.sub ⟨rfl, rfl, rfl, rfl, trivial⟩, ⟨rfl, k + 1, rfl, by omega, ?_⟩, Nat.lt_succ_self j⟩
        rw [List.take_succ_eq_append_getElem hkl]
        simp only [List.mem_append, List.mem_singleton, not_or]
        exact ⟨hno, he⟩
  · refine CW.exit (CW.seq (CW.plain ?_))
    have hkl : k = xs.length := by omega
    refine RL.pure rfl rfl rfl rfl ?_
    refine RL.done ?_
    rw [hkl, List.take_length] at hno
    exact CW.ret (ret (vs := [_]) ⟨_, _, rfl, rfl, rfl⟩ (PostV.mk hg (Aux.refl _) ⟨-1, rfl, by simp only [Lw.rng]; omega, by simp [hno]⟩))

set_option maxRecDepth 100000 in
theorem Contains_ct {w : World} {s : Res} {os : List Res} {xs : List Int} {xa : Option Addr} {xc : Nat} {v : Int} (hg : Good w s os) (hx : Ints s xa xc xs) :
    Calls Try.prog 45 #[.slice xa xs.length xc, i64 v] w (PostV w s os fun r => r = .bool (decide (v ∈ xs))) := by
  refine enter (l := [.slice xa xs.length xc, i64 v]) Try.func45 rfl Try.ntmps45 rfl ?_
  refine CW.seq (CW.plain ?_)
  refine RL.pure rfl rfl rfl rfl ?_
  refine RL.done ?_
  refine CW.seq (CW.plain ?_)
  refine RL.pure rfl rfl rfl rfl ?_
  refine RL.pure rfl rfl rfl rfl ?_
  refine RL.callV rfl rfl rfl rfl rfl ca59 (Index_ct hg hx) ?_
  rintro r w1 hg1 hax1 ⟨i, rfl, hr, hm⟩
  refine ⟨trivial, ?_⟩
  refine RL.pure rfl rfl rfl rfl ?_
  refine RL.pure rfl rfl rfl rfl ?_
  refine RL.done ?_
  exact CW.ret (ret (vs := [_]) ⟨_, _, rfl, rfl, rfl⟩ (PostV.mk hg1 hax1 (congrArg Value.bool (by simp only [hm]))))
end Go.Lw
