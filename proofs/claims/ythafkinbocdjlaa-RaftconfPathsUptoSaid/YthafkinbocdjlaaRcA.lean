/-
  Configurations: what the program asks of one: node, Votes, Learns, rises, Check.
-/
import Derived.Test.YthafkinbocdjlaaCodecTy
import Derived.Test.YthafkinbocdjlaaSlIn
import Derived.Test.YthafkinbocdjlaaSlOnce
namespace Go.Lw
open Go.Proofs

def node7 (n : Int) : Bool := decide (1 ≤ n ∧ n ≤ 7)
def risesP (xs : List Int) : Bool := decide (xs.Pairwise (· < ·))
def checkP (c : Conf) : Int :=
  if (c.voters ++ c.learners).any (fun n => !node7 n) = true then 81
  else if risesP c.voters = false ∨ risesP c.learners = false then 1
  else if c.voters.any (fun n => decide (n ∈ c.learners)) = true then 82
  else if c.voters.length = 0 then 84
  else 0
def Conf.fits (c : Conf) : Prop := (c.voters.length + c.learners.length + 1) * 8 ≤ 140737488355328

theorem compact_full {xs : List Int} (hs : xs.Pairwise (· ≤ ·)) : (Lib.compact xs).length = xs.length ↔ xs.Pairwise (· < ·) := by
  simp only [Lib.compact, Lib.compactUpTo, List.length_map]
  constructor
  · intro h
    have h0 : ((List.range xs.length).filter (Lib.keeps xs.toArray)).length = (List.range xs.length).length := by rw [h, List.length_range]
    have hall := List.length_filter_eq_length_iff.1 h0
    have hstep : ∀ k, (hk : k + 1 < xs.length) → xs[k] < xs[k + 1] := fun k hk => by
      have h1 := hall (k + 1) (List.mem_range.2 hk)
      have h2 : xs[k + 1] ≠ xs[k] := by
        have : k < xs.length := by omega
        simpa [Lib.keeps, hk, this] using h1
      have h3 := List.pairwise_iff_getElem.1 hs k (k + 1) (by omega) hk (by omega)
      omega
    rw [List.pairwise_iff_getElem]
    intro i j hi hj hij
    obtain ⟨d, rfl⟩ : ∃ d, j = i + 1 + d := ⟨j - (i + 1), by omega⟩
    induction d with
    | zero => exact hstep i (by omega)
    | succ d ih =>
      have h1 := ih (by omega) (by omega)
      have h2 := hstep (i + 1 + d) (by omega)
      exact Int.lt_trans h1 h2
  · intro h
    have hall : ∀ i ∈ List.range xs.length, Lib.keeps xs.toArray i = true := fun i hi => by
      have hi := List.mem_range.1 hi
      by_cases h0 : i = 0
      · simp [Lib.keeps, h0]
      · have h1 : i - 1 < xs.length := by omega
        have h2 := List.pairwise_iff_getElem.1 h (i - 1) i h1 hi (by omega)
        simp [Lib.keeps, h0, hi, h1]
        omega
    have h2 := List.length_filter_eq_length_iff.2 hall
    rw [h2, List.length_range]

set_option maxRecDepth 100000 in
theorem rcNode_ct {w : World} {s : Res} {os : List Res} {n : Int} (hg : Good w s os) : Calls Try.prog 24 #[i64 n] w (PostV w s os fun r => r = .bool (node7 n)) := by
  refine enter (l := [i64 n]) Try.func24 rfl Try.ntmps24 rfl ?_
  refine CW.seq (CW.plain ?_)
  refine RL.pure rfl rfl rfl rfl ?_
  refine RL.done ?_
  refine CW.seq (CW.plain ?_)
  refine RL.pure rfl rfl rfl rfl ?_
  refine RL.pure rfl rfl rfl rfl ?_
  refine RL.pure rfl rfl rfl rfl ?_
  refine RL.part 5 rfl (fun h => ?_) (fun h => ?_)
  · have h : n ≥ 1 := of_decide_eq_true h
    refine RL.pure rfl rfl rfl rfl ?_
    refine RL.pure rfl rfl rfl rfl ?_
    refine RL.pure rfl rfl rfl rfl ?_
    refine RL.pure rfl rfl rfl rfl ?_
    refine RL.done ?_
    exact CW.ret (ret (vs := [_]) ⟨_, _, rfl, rfl, rfl⟩ (PostV.mk hg (Aux.refl _) (congrArg Value.bool (by simp only [node7]; exact decide_eq_decide.2 ⟨fun h2 => ⟨h, h2⟩, fun h2 => h2.2⟩))))
  · have h : ¬ n ≥ 1 := of_decide_eq_false h
    refine RL.pass rfl rfl rfl ?_
    refine RL.pass rfl rfl rfl ?_
    refine RL.pure rfl rfl rfl rfl ?_
    refine RL.pure rfl rfl rfl rfl ?_
    refine RL.done ?_
    exact CW.ret (ret (vs := [_]) ⟨_, _, rfl, rfl, rfl⟩ (PostV.mk hg (Aux.refl _) (congrArg Value.bool (by rw [node7, decide_eq_false (fun h2 => h h2.1)]))))

set_option maxRecDepth 100000 in
theorem Votes_ct {w : World} {s : Res} {os : List Res} {vs : List Value} {c : Conf} {n : Int} (hg : Good w s os) (hc : RConf s vs c) :
    Calls Try.prog 20 #[.agg vs.toArray, i64 n] w (PostV w s os fun r => r = .bool (decide (n ∈ c.voters))) := by
  obtain ⟨a, ac, b, bc, rfl, i1, i2⟩ := hc
  refine enter (l := [.agg #[.slice a c.voters.length ac, .slice b c.learners.length bc], i64 n]) Try.func20 rfl Try.ntmps20 rfl ?_
  refine CW.seq (CW.plain ?_)
  refine RL.box rfl rfl rfl rfl rfl hg ?_
  rintro p w1 hg1 hax1
  refine ⟨trivial, ?_⟩
  refine RL.pure rfl rfl rfl rfl ?_
  refine RL.done ?_
  refine CW.seq (CW.plain ?_)
  refine RL.field rfl rfl rfl rfl fl24_0 rfl rfl ?_
  refine RL.load rfl rfl rfl rfl ty22 rfl (Holds.one p _ 24) (hg1.1) rfl ?_
  refine RL.pure rfl rfl rfl rfl ?_
  refine RL.callV rfl rfl rfl rfl rfl ca45 (Contains_ct hg1 i1) ?_
  rintro v2 w2 hg2 hax2 rfl
  refine ⟨trivial, ?_⟩
  refine RL.pure rfl rfl rfl rfl ?_
  refine RL.done ?_
  exact CW.ret (ret (vs := [_]) ⟨_, _, rfl, rfl, rfl⟩ (PostV.mk hg2.drop (hax1.trans hax2) rfl))
set_option maxRecDepth 100000 in
theorem Learns_ct {w : World} {s : Res} {os : List Res} {vs : List Value} {c : Conf} {n : Int} (hg : Good w s os) (hc : RConf s vs c) :
    Calls Try.prog 22 #[.agg vs.toArray, i64 n] w (PostV w s os fun r => r = .bool (decide (n ∈ c.learners))) := by
  obtain ⟨a, ac, b, bc, rfl, i1, i2⟩ := hc
  refine enter (l := [.agg #[.slice a c.voters.length ac, .slice b c.learners.length bc], i64 n]) Try.func22 rfl Try.ntmps22 rfl ?_
  refine CW.seq (CW.plain ?_)
  refine RL.box rfl rfl rfl rfl rfl hg ?_
  rintro p w1 hg1 hax1
  refine ⟨trivial, ?_⟩
  refine RL.pure rfl rfl rfl rfl ?_
  refine RL.done ?_
  refine CW.seq (CW.plain ?_)
  refine RL.field rfl rfl rfl rfl fl24_1 rfl rfl ?_
  refine RL.load (j := 1) rfl rfl rfl rfl ty22 rfl (Holds.one p _ 24) (hg1.1) rfl ?_
  refine RL.pure rfl rfl rfl rfl ?_
  refine RL.callV rfl rfl rfl rfl rfl ca45 (Contains_ct hg1 i2) ?_
  rintro v2 w2 hg2 hax2 rfl
  refine ⟨trivial, ?_⟩
  refine RL.pure rfl rfl rfl rfl ?_
  refine RL.done ?_
  exact CW.ret (ret (vs := [_]) ⟨_, _, rfl, rfl, rfl⟩ (PostV.mk hg2.drop (hax1.trans hax2) rfl))

set_option maxRecDepth 100000 in
theorem rises_ct {w : World} {s : Res} {os : List Res} {xs : List Int} {xa : Option Addr} {xc : Nat} (hg : Good w s os) (hx : Ints s xa xc xs) (hb : xs.length * 8 ≤ 140737488355328) :
    Calls Try.prog 40 #[.slice xa xs.length xc] w (PostV w s os fun r => r = .bool (risesP xs)) := by
  refine enter (l := [.slice xa xs.length xc]) Try.func40 rfl Try.ntmps40 rfl ?_
  refine CW.seq (CW.plain ?_)
  refine RL.pure rfl rfl rfl rfl ?_
  refine RL.done ?_
  refine CW.seq (CW.plain ?_)
  refine RL.pure rfl rfl rfl rfl ?_
  refine RL.callV rfl rfl rfl rfl rfl ca56 (IsSorted_ct hg hx) ?_
  rintro v1 w1 hg1 hax1 rfl
  refine ⟨trivial, ?_⟩
  refine RL.pure rfl rfl rfl rfl ?_
  refine RL.part 5 rfl (fun h => ?_) (fun h => ?_)
  · have hs : xs.Pairwise (· ≤ ·) := of_decide_eq_true h
    refine RL.pure rfl rfl rfl rfl ?_
    refine RL.call rfl rfl rfl rfl rfl ca25 (Clone_ct hg1 (.inl rfl) hx.2.2 hb) ?_
    rintro v2 s2 A2 w2 hle2 hg2 hax2 ⟨rfl, a2, c2, rfl, ho2⟩
    refine ⟨trivial, ?_⟩
    refine RL.call rfl rfl rfl rfl rfl ca44 (Compact_ct hg2 ho2) ?_
    rintro v3 s3 A3 w3 hle3 hg3 hax3 ⟨rfl, rfl, ho3⟩
    refine ⟨trivial, ?_⟩
    refine RL.len rfl rfl rfl rfl sl22 rfl ?_
    refine RL.pure rfl rfl rfl rfl ?_
    refine RL.len rfl rfl rfl rfl sl22 rfl ?_
    refine RL.pure rfl rfl rfl rfl ?_
    refine RL.pure rfl rfl rfl rfl ?_
    refine RL.pure rfl rfl rfl rfl ?_
    refine RL.done ?_
    refine CW.ret (ret (vs := [_]) ⟨_, _, rfl, rfl, rfl⟩ (PostV.mk hg3.drop (hax1.trans (hax2.trans hax3)) (congrArg Value.bool ?_)))
    rw [risesP, Bool.eq_iff_iff]
    have := compact_full hs
    simp only [beq_iff_eq, decide_eq_true_eq]
    rw [← this]
    omega
  · have hs : ¬ xs.Pairwise (· ≤ ·) := of_decide_eq_false h
    refine RL.pass rfl rfl rfl ?_
    refine RL.pass rfl rfl rfl ?_
    refine RL.pass rfl rfl rfl ?_
    refine RL.pass rfl rfl rfl ?_
    refine RL.pass rfl rfl rfl ?_
    refine RL.pass rfl rfl rfl ?_
    refine RL.pass rfl rfl rfl ?_
    refine RL.pure rfl rfl rfl rfl ?_
    refine RL.pure rfl rfl rfl rfl ?_
    refine RL.done ?_
    exact CW.ret (ret (vs := [_]) ⟨_, _, rfl, rfl, rfl⟩ (PostV.mk hg1 hax1 (congrArg Value.bool (by rw [risesP, decide_eq_false (fun h2 => hs (h2.imp (fun h3 => Int.le_of_lt h3)))]))))

set_option maxRecDepth 100000 in
theorem notNode_tells {s : Res} : Tells Try.prog 39 #[] s (fun n => !node7 n) := fun n w s' os _ hg => by
  show Calls Try.prog 39 #[i64 n] w _
  refine enter (l := [i64 n]) Try.func39 rfl Try.ntmps39 rfl ?_
  refine CW.seq (CW.plain ?_)
  refine RL.pure rfl rfl rfl rfl ?_
  refine RL.done ?_
  refine CW.seq (CW.plain ?_)
  refine RL.pure rfl rfl rfl rfl ?_
  refine RL.callV rfl rfl rfl rfl rfl ca24 (rcNode_ct hg) ?_
  rintro v1 w1 hg1 hax1 rfl
  refine ⟨trivial, ?_⟩
  refine RL.pure rfl rfl rfl rfl ?_
  refine RL.pure rfl rfl rfl rfl ?_
  refine RL.done ?_
  exact CW.ret (ret (vs := [_]) ⟨_, _, rfl, rfl, rfl⟩ (PostV.mk hg1 hax1 rfl))
set_option maxRecDepth 100000 in
theorem learns_tells {s : Res} {vs : List Value} {c : Conf} {b : Nat} (hc : RConf s vs c) (hb : Holds s ⟨b, 0, none⟩ vs) : Tells Try.prog 41 #[ptr b] s (fun n => decide (n ∈ c.learners)) := fun n w s' os hl hg => by
  show Calls Try.prog 41 #[i64 n, ptr b] w _
  have hb := hb.le hl
  have hc' := RConf.up _ _ _ _ hl hc
  obtain ⟨a, ac, b', bc, rfl, i1, i2⟩ := hc
  refine enter (l := [i64 n, ptr b]) Try.func41 rfl Try.ntmps41 rfl ?_
  refine CW.seq (CW.plain ?_)
  refine RL.pure rfl rfl rfl rfl ?_
  refine RL.done ?_
  refine CW.seq (CW.plain ?_)
  refine RL.loads (j := 0) (us := [.slice a c.voters.length ac, .slice b' c.learners.length bc]) rfl rfl rfl rfl ty24 rfl (hb) (hg.sh) rfl rfl ?_
  refine RL.pure rfl rfl rfl rfl ?_
  refine RL.callV rfl rfl rfl rfl rfl ca22 (Learns_ct hg hc') ?_
  rintro v1 w1 hg1 hax1 rfl
  refine ⟨trivial, ?_⟩
  refine RL.pure rfl rfl rfl rfl ?_
  refine RL.done ?_
  exact CW.ret (ret (vs := [_]) ⟨_, _, rfl, rfl, rfl⟩ (PostV.mk hg1 hax1 rfl))

set_option maxRecDepth 100000 in
theorem Check_ct {w : World} {s : Res} {os : List Res} {vs : List Value} {c : Conf} (hg : Good w s os) (hc : RConf s vs c) (hb : c.fits) :
    Calls Try.prog 16 #[.agg vs.toArray] w (Post w s os fun _ _ r => r = i64 (checkP c)) := by
  have hc0 := hc
  simp only [Conf.fits] at hb
  obtain ⟨a, ac, b, bc, rfl, i1, i2⟩ := hc
  refine enter (l := [.agg #[.slice a c.voters.length ac, .slice b c.learners.length bc]]) Try.func16 rfl Try.ntmps16 rfl ?_
  refine CW.seq (CW.plain ?_)
  refine RL.box rfl rfl rfl rfl rfl hg ?_
  rintro p w1 hg1 hax1
  refine ⟨trivial, ?_⟩
  refine RL.pure rfl rfl rfl rfl ?_
  refine RL.done ?_
  obtain ⟨s1, hg1, hle1, hq1⟩ := Good.letgo hg1
  have hH : Holds s1 ⟨p, 0, none⟩ [.slice a c.voters.length ac, .slice b c.learners.length bc] := (Holds.one p _ _).le hq1
  have i1 := i1.up (RInt.up _) hle1
  have i2 := i2.up (RInt.up _) hle1
  have hc1 := RConf.up _ _ _ _ hle1 hc0
  refine CW.seq (CW.block (CW.seq (CW.plain ?_)))
  refine RL.field rfl rfl rfl rfl fl24_0 rfl rfl ?_
  refine RL.load (j := 0) rfl rfl rfl rfl ty22 rfl (hH) (hg1.sh) rfl ?_
  refine RL.field rfl rfl rfl rfl fl24_1 rfl rfl ?_
  refine RL.load (j := 1) rfl rfl rfl rfl ty22 rfl (hH) (hg1.sh) rfl ?_
  refine RL.buildSlice rfl rfl rfl rfl sl65 ze22 rfl rfl rfl rfl hg1 ?_
  rintro p2 w2 hg2 hax2
  refine ⟨trivial, ?_⟩
  obtain ⟨s3, hg3, hle3, hq3⟩ := Good.letgo hg2
  refine RL.call rfl rfl rfl rfl rfl ca38 (Concat2_ct hg3 (i1.up (RInt.up _) hle3) (i2.up (RInt.up _) hle3) (if_pos rfl) hq3 (by omega)) ?_
  rintro v4 s4 A4 w4 hle4 hg4 hax4 ⟨rfl, a4, c4, rfl, ho4⟩
  refine ⟨trivial, ?_⟩
  obtain ⟨s5, hg5, hle5, hA5⟩ := Good.letgo hg4
  have him := ho4.imm (RInt.up _) hle5 hA5
  have hl5 := hle3.trans hle5
  refine RL.callV rfl rfl rfl rfl rfl ca37 (ContainsFunc_ct hg5 him ca39 notNode_tells) ?_
  rintro v6 w6 hg6 hax6 rfl
  refine ⟨trivial, ?_⟩
  refine RL.pure rfl rfl rfl rfl ?_
  refine RL.done ?_
  have hx6 := hax1.trans (hax2.trans (hax4.trans hax6))
  have hH := hH.le hl5
  have i1 := i1.up (RInt.up _) hl5
  have i2 := i2.up (RInt.up _) hl5
  have hl := hle1.trans hl5
  refine CW.cond rfl (fun hbad => ?_) (fun hbad => ?_)
  · refine CW.seq (CW.plain ?_)
    refine RL.pure rfl rfl rfl rfl ?_
    refine RL.done ?_
    exact CW.ret (ret (vs := [_]) ⟨_, _, rfl, rfl, rfl⟩ (Post.mk hl hg6.nil hx6 (by rw [checkP, if_pos hbad]; rfl)))
  refine CW.seq (CW.plain ?_)
  refine RL.field rfl rfl rfl rfl fl24_0 rfl rfl ?_
  refine RL.load (j := 0) rfl rfl rfl rfl ty22 rfl (hH) (hg6.sh) rfl ?_
  refine RL.callV rfl rfl rfl rfl rfl ca40 (rises_ct hg6 i1 (by omega)) ?_
  rintro v7 w7 hg7 hax7 rfl
  refine ⟨trivial, ?_⟩
  refine RL.pure rfl rfl rfl rfl ?_
  refine RL.pure rfl rfl rfl rfl ?_
  have hx7 := hx6.trans hax7
  refine RL.part 16 rfl (fun h => ?_) (fun h => ?_)
  · refine RL.pass rfl rfl rfl ?_
    refine RL.pass rfl rfl rfl ?_
    refine RL.pass rfl rfl rfl ?_
    refine RL.pass rfl rfl rfl ?_
    refine RL.pure rfl rfl rfl rfl ?_
    refine RL.pure rfl rfl rfl rfl ?_
    refine RL.done ?_
    refine CW.yes rfl (CW.seq (CW.plain ?_))
    refine RL.pure rfl rfl rfl rfl ?_
    refine RL.done ?_
    exact CW.ret (ret (vs := [_]) ⟨_, _, rfl, rfl, rfl⟩ (Post.mk hl hg7.nil hx7 (by rw [checkP, if_neg (by rw [hbad]; decide), if_pos (.inl (by simpa using h))]; rfl)))
  have hr1 : risesP c.voters = true := by simpa using h
  refine RL.field rfl rfl rfl rfl fl24_1 rfl rfl ?_
  refine RL.load (j := 1) rfl rfl rfl rfl ty22 rfl (hH) (hg7.sh) rfl ?_
  refine RL.callV rfl rfl rfl rfl rfl ca40 (rises_ct hg7 i2 (by omega)) ?_
  rintro v8 w8 hg8 hax8 rfl
  refine ⟨trivial, ?_⟩
  refine RL.pure rfl rfl rfl rfl ?_
  refine RL.pure rfl rfl rfl rfl ?_
  refine RL.pure rfl rfl rfl rfl ?_
  refine RL.done ?_
  have hx8 := hx7.trans hax8
  refine CW.cond rfl (fun h2 => ?_) (fun h2 => ?_)
  · refine CW.seq (CW.plain ?_)
    refine RL.pure rfl rfl rfl rfl ?_
    refine RL.done ?_
    exact CW.ret (ret (vs := [_]) ⟨_, _, rfl, rfl, rfl⟩ (Post.mk hl hg8.nil hx8 (by rw [checkP, if_neg (by rw [hbad]; decide), if_pos (.inr (by simpa using h2))]; rfl)))
  have hr2 : risesP c.learners = true := by simpa using h2
  refine CW.seq (CW.plain ?_)
  refine RL.field rfl rfl rfl rfl fl24_0 rfl rfl ?_
  refine RL.load (j := 0) rfl rfl rfl rfl ty22 rfl (hH) (hg8.sh) rfl ?_
  refine RL.makeF rfl rfl rfl rfl rfl ?_
  refine RL.callV rfl rfl rfl rfl rfl ca37 (ContainsFunc_ct hg8 i1 ca41 (learns_tells (RConf.up _ _ _ _ hl5 hc1) hH)) ?_
  rintro v9 w9 hg9 hax9 rfl
  refine ⟨trivial, ?_⟩
  refine RL.pure rfl rfl rfl rfl ?_
  refine RL.done ?_
  have hx9 := hx8.trans hax9
  have hno : ¬ (risesP c.voters = false ∨ risesP c.learners = false) := by rw [hr1, hr2]; simp
  refine CW.cond rfl (fun h3 => ?_) (fun h3 => ?_)
  · refine CW.seq (CW.plain ?_)
    refine RL.pure rfl rfl rfl rfl ?_
    refine RL.done ?_
    exact CW.ret (ret (vs := [_]) ⟨_, _, rfl, rfl, rfl⟩ (Post.mk hl hg9.nil hx9 (by rw [checkP, if_neg (by rw [hbad]; decide), if_neg hno, if_pos h3]; rfl)))
  refine CW.seq (CW.plain ?_)
  refine RL.field rfl rfl rfl rfl fl24_0 rfl rfl ?_
  refine RL.load (j := 0) rfl rfl rfl rfl ty22 rfl (hH) (hg9.sh) rfl ?_
  refine RL.len rfl rfl rfl rfl sl22 rfl ?_
  refine RL.pure rfl rfl rfl rfl ?_
  refine RL.pure rfl rfl rfl rfl ?_
  refine RL.done ?_
  refine CW.eq rfl (fun h4 => ?_) (fun h4 => ?_)
  · refine CW.seq (CW.plain ?_)
    refine RL.pure rfl rfl rfl rfl ?_
    refine RL.done ?_
    exact CW.ret (ret (vs := [_]) ⟨_, _, rfl, rfl, rfl⟩ (Post.mk hl hg9.nil hx9 (by rw [checkP, if_neg (by rw [hbad]; decide), if_neg hno, if_neg (by rw [h3]; decide), if_pos (by omega)]; rfl)))
  refine CW.skip (CW.seq (CW.plain ?_))
  refine RL.pure rfl rfl rfl rfl ?_
  refine RL.done ?_
  exact CW.ret (ret (vs := [_]) ⟨_, _, rfl, rfl, rfl⟩ (Post.mk hl hg9.nil hx9 (by rw [checkP, if_neg (by rw [hbad]; decide), if_neg hno, if_neg (by rw [h3]; decide), if_neg (by omega)]; rfl)))
end Go.Lw
