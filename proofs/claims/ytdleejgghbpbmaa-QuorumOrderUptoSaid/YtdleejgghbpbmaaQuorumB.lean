/-
  Quorum: who has most; how a vote stands.
-/
import Derived.Test.YtdleejgghbpbmaaQuorumA
namespace Go.Lw
open Go.Proofs

/-! ### Has -/
def hasP (v ys : List Int) : Bool := decide (0 < v.length) && decide (most v.length ≤ (v.countP fun x => decide (x ∈ ys) : Nat))
theorem hasP_perm {v v' ys : List Int} (h : v.Perm v') : hasP v ys = hasP v' ys := by rw [hasP, hasP, h.length_eq, h.countP_eq]
theorem rng_len {n : Nat} (h : n ≤ 9223372036854775807) : rng .i64 (n : Int) := by simp only [rng]; omega

set_option maxRecDepth 100000 in
theorem isIn_ct {w : World} {s : Res} {os : List Res} {ys : List Int} {ya : Option Addr} {yc b : Nat} {x : Int} (hg : Good w s os) (hy : Ints s ya yc ys) (hb : Holds s ⟨b, 0, none⟩ [.slice ya ys.length yc]) :
    Calls Try.prog 21 #[i64 x, ptr b] w (PostV w s os fun r => r = .bool (decide (x ∈ ys))) := by
  refine enter (l := [i64 x, ptr b]) Try.func21 rfl Try.ntmps21 rfl ?_
  refine CW.seq (CW.plain ?_)
  refine RL.pure rfl rfl rfl rfl ?_
  refine RL.done ?_
  refine CW.seq (CW.plain ?_)
  refine RL.load (j := 0) rfl rfl rfl rfl ty22 rfl (hb) (hg.sh) rfl ?_
  refine RL.pure rfl rfl rfl rfl ?_
  refine RL.callV rfl rfl rfl rfl rfl ca22 (Contains_ct hg hy) ?_
  rintro v w1 hg1 hax1 rfl
  refine ⟨trivial, ?_⟩
  refine RL.pure rfl rfl rfl rfl ?_
  refine RL.done ?_
  exact CW.ret (ret (vs := [_]) ⟨_, _, rfl, rfl, rfl⟩ (PostV.mk hg1 hax1 rfl))

set_option maxRecDepth 100000 in
theorem Has_ct {w : World} {s : Res} {os : List Res} {xs ys : List Int} {xa ya : Option Addr} {xc yc : Nat} (hg : Good w s os) (hx : Ints s xa xc xs) (hy : Ints s ya yc ys) (hl : xs.length * 8 ≤ 140737488355328) :
    Calls Try.prog 11 #[.slice xa xs.length xc, .slice ya ys.length yc] w (Post w s os fun _ _ r => r = .bool (hasP (uniq xs) ys)) := by
  have hul := uniq_le xs
  refine enter (l := [.slice xa xs.length xc, .slice ya ys.length yc]) Try.func11 rfl Try.ntmps11 rfl ?_
  refine CW.seq (CW.plain ?_)
  refine RL.box rfl rfl rfl rfl rfl hg ?_
  rintro b w1 hg1 hax1
  refine ⟨trivial, ?_⟩
  refine RL.pure rfl rfl rfl rfl ?_
  refine RL.done ?_
  obtain ⟨s1, hg1', hle1, hB1⟩ := hg1.letgo
  have hb : Holds s1 ⟨b, 0, none⟩ [.slice ya ys.length yc] := (Holds.of (if_pos rfl)).le hB1
  refine CW.seq (CW.plain ?_)
  refine RL.pure rfl rfl rfl rfl ?_
  refine RL.call rfl rfl rfl rfl rfl ca19 (once_ct hg1' (hx.up (RInt.up _) hle1) hl) ?_
  rintro v2 s2 A2 w2 hle2 hg2 hax2 ⟨rfl, a2, c2, rfl, ho2⟩
  refine ⟨trivial, ?_⟩
  refine RL.pure rfl rfl rfl rfl ?_
  refine RL.done ?_
  obtain ⟨s3, hg3, hle3, hA3⟩ := hg2.letgo
  have hv : Ints s3 a2 c2 (uniq xs) := ho2.imm (RInt.up _) hle3 hA3
  refine CW.seq (CW.plain ?_)
  refine RL.pure rfl rfl rfl rfl ?_
  refine RL.len rfl rfl rfl rfl sl22 rfl ?_
  refine RL.pure rfl rfl rfl rfl ?_
  refine RL.pure rfl rfl rfl rfl ?_
  refine RL.part 11 rfl (fun h => ?_) (fun h => ?_)
  · refine RL.pure rfl rfl rfl rfl ?_
    refine RL.makeF rfl rfl rfl rfl rfl ?_
    refine RL.callV rfl rfl rfl rfl rfl ca20 (count_ct hg3 hv ca21 (p := fun x => decide (x ∈ ys)) (fun x hx w' hg' => isIn_ct hg' (hy.up (RInt.up _) (hle1.trans hle3)) (hb.le hle3))) ?_
    rintro v4 w4 hg4 hax4 rfl
    refine ⟨trivial, ?_⟩
    refine RL.pure rfl rfl rfl rfl ?_
    refine RL.len rfl rfl rfl rfl sl22 rfl ?_
    refine RL.callV rfl rfl rfl rfl rfl ca13 (Most_ct hg4 (rng_len (by omega))) ?_
    rintro v5 w5 hg5 hax5 rfl
    refine ⟨trivial, ?_⟩
    refine RL.pure rfl rfl rfl rfl ?_
    refine RL.pure rfl rfl rfl rfl ?_
    refine RL.pure rfl rfl rfl rfl ?_
    refine RL.done ?_
    refine CW.ret (ret (vs := [_]) ⟨_, _, rfl, rfl, rfl⟩ (Post.mk (hle1.trans hle3) hg5.nil (hax1.trans (hax2.trans (hax4.trans hax5))) (congrArg Value.bool ?_)))
    have h' : 0 < (uniq xs).length := by simpa using h
    simp [hasP, h']
  · refine RL.pass rfl rfl rfl ?_
    refine RL.pass rfl rfl rfl ?_
    refine RL.pass rfl rfl rfl ?_
    refine RL.pass rfl rfl rfl ?_
    refine RL.pass rfl rfl rfl ?_
    refine RL.pass rfl rfl rfl ?_
    refine RL.pass rfl rfl rfl ?_
    refine RL.pure rfl rfl rfl rfl ?_
    refine RL.pure rfl rfl rfl rfl ?_
    refine RL.done ?_
    refine CW.ret (ret (vs := [_]) ⟨_, _, rfl, rfl, rfl⟩ (Post.mk (hle1.trans hle3) hg3.nil (hax1.trans hax2) (congrArg Value.bool ?_)))
    have h' : ¬ 0 < (uniq xs).length := by simpa using h
    simp only [hasP, h', decide_false, Bool.false_and]

set_option maxRecDepth 100000 in
theorem rHas_ct {w : World} {s : Res} {os : List Res} {xs ys : List Int} {xa ya : Option Addr} {xc yc : Nat} (hg : Good w s os) (hx : Ints s xa xc xs) (hy : Ints s ya yc ys) (hl : xs.length * 8 ≤ 140737488355328) :
    Calls Try.prog 15 #[.slice xa xs.length xc, .slice ya ys.length yc] w (Post w s os fun _ _ r => r = .bool (hasP (onceR xs) ys)) := by
  have hul := onceR_le xs
  refine enter (l := [.slice xa xs.length xc, .slice ya ys.length yc]) Try.func15 rfl Try.ntmps15 rfl ?_
  refine CW.seq (CW.plain ?_)
  refine RL.pure rfl rfl rfl rfl ?_
  refine RL.done ?_
  refine CW.seq (CW.plain ?_)
  refine RL.pure rfl rfl rfl rfl ?_
  refine RL.call rfl rfl rfl rfl rfl ca27 (ronce_ct hg hx hl) ?_
  rintro v2 s2 A2 w2 hle2 hg2 hax2 ⟨rfl, a2, c2, rfl, ho2⟩
  refine ⟨trivial, ?_⟩
  refine RL.pure rfl rfl rfl rfl ?_
  refine RL.done ?_
  obtain ⟨s3, hg3, hle3, hA3⟩ := hg2.letgo
  have hv : Ints s3 a2 c2 (onceR xs) := ho2.imm (RInt.up _) hle3 hA3
  refine CW.seq (CW.plain ?_)
  refine RL.pure rfl rfl rfl rfl ?_
  refine RL.done ?_
  refine CW.seq (CW.seq (CW.plain ?_))
  refine RL.pure rfl rfl rfl rfl ?_
  refine RL.done ?_
  refine CW.block (CW.loop (σ := Nat) (fun j E w' => Good w' s3 os ∧ Aux w w' ∧ ∃ k : Nat, E = [(1, .slice ya ys.length yc), (5, .slice a2 (onceR xs).length c2), (6, i64 (((onceR xs).take k).countP fun x => decide (x ∈ ys) : Nat)), (7, i64 k)] ∧ k + j = (onceR xs).length)
    (fun j => j) (onceR xs).length [(1, .slice ya ys.length yc), (5, .slice a2 (onceR xs).length c2), (6, i64 0), (7, i64 0)] ⟨rfl, rfl, rfl, rfl, trivial⟩ ⟨hg3, hax2, 0, rfl, by omega⟩ ?_)
  rintro j E w1 ⟨hg1, hax1, k, rfl, hk⟩
  refine CW.seq (CW.seq (CW.plain ?_))
  refine RL.pure rfl rfl rfl rfl ?_
  refine RL.pure rfl rfl rfl rfl ?_
  refine RL.len rfl rfl rfl rfl sl22 rfl ?_
  refine RL.pure rfl rfl rfl rfl ?_
  refine RL.done ?_
  refine CW.test rfl (fun h => ?_) (fun h => ?_)
  · refine CW.skip ?_
    have hkl : k < (onceR xs).length := by omega
    have hcl : ((onceR xs).take k).countP (fun x => decide (x ∈ ys)) ≤ k := Nat.le_trans List.countP_le_length (by simp; omega)
    refine CW.seq (CW.block (CW.seq (CW.plain ?_)))
    refine RL.pure rfl rfl rfl rfl ?_
    refine RL.pure rfl rfl rfl rfl ?_
    refine RL.pure rfl rfl rfl rfl ?_
    refine RL.idx rfl rfl rfl rfl sl22 rfl rfl (hv) (by omega) (by omega) ?_
    rintro q vs hvl hH ⟨rfl, hr'⟩
    refine RL.load rfl rfl rfl rfl ty3 rfl (hH) (hg1.sh) rfl ?_
    refine RL.callV rfl rfl rfl rfl rfl ca28 (rhas_ct (v := (onceR xs)[(k : Int).toNat]) hg1 (hy.up (RInt.up _) hle3)) ?_
    rintro v4 w4 hg4 hax4 rfl
    refine ⟨trivial, ?_⟩
    refine RL.pure rfl rfl rfl rfl ?_
    refine RL.done ?_
    refine CW.seq (CW.plain ?_)
    refine RL.pure rfl rfl rfl rfl ?_
    refine RL.done ?_
    refine CW.cond rfl (fun hb => ?_) (fun hb => ?_)
    · have hb' : decide ((onceR xs)[k] ∈ ys) = true := by simpa using hb
      refine CW.plain ?_
      refine RL.pure rfl rfl rfl rfl ?_
      refine RL.add rfl rfl rfl rfl rfl rfl (by simp only [rng] at *; omega) ?_
      refine RL.pure rfl rfl rfl rfl ?_
      refine RL.done ?_
      refine CW.plain ?_
      refine RL.pure rfl rfl rfl rfl ?_
      refine RL.add rfl rfl rfl rfl rfl rfl (by simp only [rng] at *; omega) ?_
      refine RL.pure rfl rfl rfl rfl ?_
      refine RL.done ?_
      cases j with
      | zero => omega
      | succ j =>
        refine fun ac ha => ⟨j, [(1, .slice ya ys.length yc), (5, .slice a2 (onceR xs).length c2), (6, i64 (((onceR xs).take (k + 1)).countP fun x => decide (x ∈ ys) : Nat)), (7, i64 ((k : Int) + 1))], ha.sub ⟨rfl, rfl, by rw [countP_take _ _ k hkl, if_pos hb']; rfl, rfl, trivial⟩, ⟨hg4, hax1.trans hax4, k + 1, rfl, by omega⟩, Nat.lt_succ_self j⟩
    · have hb' : ¬ decide ((onceR xs)[k] ∈ ys) = true := by simpa using hb
      refine CW.skip ?_
      refine CW.plain ?_
      refine RL.pure rfl rfl rfl rfl ?_
      refine RL.add rfl rfl rfl rfl rfl rfl (by simp only [rng] at *; omega) ?_
      refine RL.pure rfl rfl rfl rfl ?_
      refine RL.done ?_
      cases j with
      | zero => omega
      | succ j =>
        refine fun ac ha => ⟨j, [(1, .slice ya ys.length yc), (5, .slice a2 (onceR xs).length c2), (6, i64 (((onceR xs).take (k + 1)).countP fun x => decide (x ∈ ys) : Nat)), (7, i64 ((k : Int) + 1))], ha.sub ⟨rfl, rfl, by rw [countP_take _ _ k hkl, if_neg hb']; rfl, rfl, trivial⟩, ⟨hg4, hax1.trans hax4, k + 1, rfl, by omega⟩, Nat.lt_succ_self j⟩
  · refine CW.exit (CW.seq (CW.plain ?_))
    have hkl : k = (onceR xs).length := by omega
    subst hkl
    rw [List.take_length]
    refine RL.pure rfl rfl rfl rfl ?_
    refine RL.len rfl rfl rfl rfl sl22 rfl ?_
    refine RL.pure rfl rfl rfl rfl ?_
    refine RL.pure rfl rfl rfl rfl ?_
    refine RL.part 29 rfl (fun h => ?_) (fun h => ?_)
    · refine RL.pure rfl rfl rfl rfl ?_
      refine RL.pure rfl rfl rfl rfl ?_
      refine RL.len rfl rfl rfl rfl sl22 rfl ?_
      refine RL.callV rfl rfl rfl rfl rfl ca14 (rMost_ct hg1 (rng_len (by omega))) ?_
      rintro v5 w5 hg5 hax5 rfl
      refine ⟨trivial, ?_⟩
      refine RL.pure rfl rfl rfl rfl ?_
      refine RL.pure rfl rfl rfl rfl ?_
      refine RL.pure rfl rfl rfl rfl ?_
      refine RL.done ?_
      refine CW.ret (ret (vs := [_]) ⟨_, _, rfl, rfl, rfl⟩ (Post.mk hle3 hg5.nil (hax1.trans hax5) (congrArg Value.bool ?_)))
      have h' : 0 < (onceR xs).length := by simpa using h
      simp [hasP, h']
    · refine RL.pass rfl rfl rfl ?_
      refine RL.pass rfl rfl rfl ?_
      refine RL.pass rfl rfl rfl ?_
      refine RL.pass rfl rfl rfl ?_
      refine RL.pass rfl rfl rfl ?_
      refine RL.pure rfl rfl rfl rfl ?_
      refine RL.pure rfl rfl rfl rfl ?_
      refine RL.done ?_
      refine CW.ret (ret (vs := [_]) ⟨_, _, rfl, rfl, rfl⟩ (Post.mk hle3 hg1.nil hax1 (congrArg Value.bool ?_)))
      have h' : ¬ 0 < (onceR xs).length := by simpa using h
      simp only [hasP, h', decide_false, Bool.false_and]
end Go.Lw
