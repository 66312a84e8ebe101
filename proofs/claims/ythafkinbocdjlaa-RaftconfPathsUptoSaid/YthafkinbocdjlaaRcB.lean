/-
  Configurations: a step, by the program.
-/
import Derived.Test.YthafkinbocdjlaaRcA
import Derived.Test.YthafkinbocdjlaaRules7
namespace Go.Lw
open Go.Proofs

def insP (n : Int) (l : List Int) : List Int := l.filter (fun x => decide (x < n)) ++ n :: l.filter (fun x => !decide (x < n))
def delP (n : Int) (l : List Int) : List Int := l.filter fun x => !decide (x = n)
def Conf.none : Conf := ⟨[], []⟩
def applyP (c : Conf) (k n : Int) : Conf × Int :=
  if checkP c ≠ 0 then (Conf.none, checkP c)
  else if node7 n = false then (Conf.none, 81)
  else if k = 1 then (if n ∈ c.voters ∨ n ∈ c.learners then (Conf.none, 82) else (⟨c.voters, insP n c.learners⟩, 0))
  else if k = 2 then (if n ∈ c.learners then (⟨insP n c.voters, delP n c.learners⟩, 0) else (Conf.none, 83))
  else if k = 3 then
    (if n ∈ c.voters ∧ c.voters.length = 1 then (Conf.none, 84)
    else if n ∈ c.voters then (⟨delP n c.voters, delP n c.learners⟩, 0)
    else if n ∈ c.learners then (⟨c.voters, delP n c.learners⟩, 0)
    else (Conf.none, 83))
  else (Conf.none, 1)

theorem place_ins {l : List Int} {n : Int} {i : Nat} (h : Place l n i) : l.take i ++ n :: l.drop i = insP n l := by
  have h1 : ∀ x ∈ l.take i, x < n := fun x hx => by
    obtain ⟨k, hk, rfl⟩ := List.getElem_of_mem hx
    rw [List.length_take] at hk
    rw [List.getElem_take]
    exact h.lo k (by omega) (by omega)
  have h2 : ∀ x ∈ l.drop i, ¬ x < n := fun x hx => by
    obtain ⟨k, hk, rfl⟩ := List.getElem_of_mem hx
    rw [List.length_drop] at hk
    rw [List.getElem_drop]
    have := h.hi (i + k) (by omega) (by omega)
    omega
  rw [insP]
  conv => rhs; rw [← List.take_append_drop i l]
  rw [List.filter_append, List.filter_append]
  rw [List.filter_eq_self.2 (fun x hx => by simp [h1 x hx]), List.filter_eq_nil_iff.2 (fun x hx => by simpa using h2 x hx), List.append_nil]
  rw [List.filter_eq_nil_iff.2 (fun x hx => by simpa using h1 x hx), List.filter_eq_self.2 (fun x hx => by simpa using h2 x hx), List.nil_append]
theorem insP_length (n : Int) (l : List Int) : (insP n l).length = l.length + 1 := by
  have key : ∀ l : List Int, (l.filter (fun x => decide (x < n))).length + (l.filter (fun x => !decide (x < n))).length = l.length := by
    intro l
    induction l with
    | nil => rfl
    | cons x l ih =>
      simp only [List.filter_cons]
      by_cases h : x < n <;> simp [h] <;> omega
  have := key l
  simp only [insP, List.length_append, List.length_cons]
  omega

set_option maxRecDepth 100000 in
theorem with_ct {w : World} {s : Res} {os : List Res} {xs : List Int} {xa : Option Addr} {xc : Nat} {n : Int} (hg : Good w s os) (hx : Ints s xa xc xs) (hs : xs.Pairwise (· < ·)) (hn : rng .i64 n) (hb : (xs.length + 1) * 8 ≤ 140737488355328) :
    Calls Try.prog 26 #[.slice xa xs.length xc, i64 n] w (Post w s os fun s' A v => s' = s ∧ ∃ a c, v = .slice a (insP n xs).length c ∧ OwnI s' A a c (insP n xs)) := by
  refine enter (l := [.slice xa xs.length xc, i64 n]) Try.func26 rfl Try.ntmps26 rfl ?_
  refine CW.seq (CW.plain ?_)
  refine RL.pure rfl rfl rfl rfl ?_
  refine RL.done ?_
  refine CW.seq (CW.plain ?_)
  refine RL.pure rfl rfl rfl rfl ?_
  refine RL.pure rfl rfl rfl rfl ?_
  refine RL.callV rfl rfl rfl rfl rfl ca50 (BinarySearch_ct hg hx hs (by omega)) ?_
  rintro v1 w1 hg1 hax1 ⟨i, rfl, hpl⟩
  refine ⟨trivial, ?_⟩
  refine RL.pure rfl rfl rfl rfl ?_
  refine RL.pure rfl rfl rfl rfl ?_
  refine RL.pure rfl rfl rfl rfl ?_
  refine RL.pure rfl rfl rfl rfl ?_
  refine RL.pure rfl rfl rfl rfl ?_
  refine RL.done ?_
  refine CW.seq (CW.plain ?_)
  refine RL.pure rfl rfl rfl rfl ?_
  refine RL.call rfl rfl rfl rfl rfl ca25 (Clone_ct hg1 (.inl rfl) hx.2.2 (by omega)) ?_
  rintro v2 s2 A2 w2 hle2 hg2 hax2 ⟨rfl, a2, c2, rfl, ho2⟩
  refine ⟨trivial, ?_⟩
  refine RL.pure rfl rfl rfl rfl ?_
  refine RL.pure rfl rfl rfl rfl ?_
  refine RL.buildSlice rfl rfl rfl rfl sl22 ze3 rfl rfl rfl rfl hg2 ?_
  rintro p3 w3 hg3 hax3
  refine ⟨trivial, ?_⟩
  refine RL.call rfl rfl rfl rfl rfl ca51 (Insert_ct hg3.swap ho2 List.mem_cons_self (if_pos rfl) hpl.le hb hn) ?_
  rintro v4 s4 A4 w4 hle4 hg4 hax4 ⟨rfl, a4, c4, rfl, ho4⟩
  refine ⟨trivial, ?_⟩
  refine RL.pure rfl rfl rfl rfl ?_
  refine RL.done ?_
  rw [place_ins hpl] at ho4 ⊢
  exact CW.ret (ret (vs := [_]) ⟨_, _, rfl, rfl, rfl⟩ (Post.mk (Le.refl _) hg4.dropNext (hax1.trans (hax2.trans (hax3.trans hax4))) ⟨rfl, a4, c4, rfl, ho4⟩))

set_option maxRecDepth 100000 in
theorem isIt_tells {s : Res} {n : Int} {b : Nat} (hb : Holds s ⟨b, 0, none⟩ [i64 n]) : Tells Try.prog 53 #[ptr b] s (fun k => decide (k = n)) := fun k w s' os hl hg => by
  show Calls Try.prog 53 #[i64 k, ptr b] w _
  have hb := hb.le hl
  refine enter (l := [i64 k, ptr b]) Try.func53 rfl Try.ntmps53 rfl ?_
  refine CW.seq (CW.plain ?_)
  refine RL.pure rfl rfl rfl rfl ?_
  refine RL.done ?_
  refine CW.seq (CW.plain ?_)
  refine RL.pure rfl rfl rfl rfl ?_
  refine RL.load (j := 0) rfl rfl rfl rfl ty3 rfl (hb) (hg.sh) rfl ?_
  refine RL.pure rfl rfl rfl rfl ?_
  refine RL.pure rfl rfl rfl rfl ?_
  refine RL.done ?_
  exact CW.ret (ret (vs := [_]) ⟨_, _, rfl, rfl, rfl⟩ (PostV.mk hg (Aux.refl _) (congrArg Value.bool (by rw [Bool.eq_iff_iff]; simp))))
set_option maxRecDepth 100000 in
theorem without_ct {w : World} {s : Res} {os : List Res} {xs : List Int} {xa : Option Addr} {xc : Nat} {n : Int} (hg : Good w s os) (hx : Ints s xa xc xs) (hb : xs.length * 8 ≤ 140737488355328) :
    Calls Try.prog 27 #[.slice xa xs.length xc, i64 n] w (Post w s os fun s' A v => ∃ a c, v = .slice a (delP n xs).length c ∧ OwnI s' A a c (delP n xs)) := by
  refine enter (l := [.slice xa xs.length xc, i64 n]) Try.func27 rfl Try.ntmps27 rfl ?_
  refine CW.seq (CW.plain ?_)
  refine RL.box rfl rfl rfl rfl rfl hg ?_
  rintro p w1 hg1 hax1
  refine ⟨trivial, ?_⟩
  refine RL.pure rfl rfl rfl rfl ?_
  refine RL.done ?_
  obtain ⟨s1, hg1, hle1, hq1⟩ := Good.letgo hg1
  have hx := hx.up (RInt.up _) hle1
  refine CW.seq (CW.plain ?_)
  refine RL.pure rfl rfl rfl rfl ?_
  refine RL.call rfl rfl rfl rfl rfl ca25 (Clone_ct hg1 (.inl rfl) hx.2.2 hb) ?_
  rintro v2 s2 A2 w2 hle2 hg2 hax2 ⟨rfl, a2, c2, rfl, ho2⟩
  refine ⟨trivial, ?_⟩
  refine RL.makeF rfl rfl rfl rfl rfl ?_
  refine RL.call rfl rfl rfl rfl rfl ca52 (DeleteFunc_ct hg2 ho2 ca53 (isIt_tells (Holds.le (Holds.one p _ _) hq1))) ?_
  rintro v3 s3 A3 w3 hle3 hg3 hax3 ⟨rfl, rfl, ho3⟩
  refine ⟨trivial, ?_⟩
  refine RL.pure rfl rfl rfl rfl ?_
  refine RL.done ?_
  exact CW.ret (ret (vs := [_]) ⟨_, _, rfl, rfl, rfl⟩ (Post.mk hle1 hg3 (hax1.trans (hax2.trans hax3)) ⟨a2, c2, rfl, ho3⟩))

theorem check_zero {c : Conf} (h : checkP c = 0) : (∀ n ∈ c.voters ++ c.learners, node7 n = true) ∧ c.voters.Pairwise (· < ·) ∧ c.learners.Pairwise (· < ·) ∧ (∀ n ∈ c.voters, n ∉ c.learners) ∧ c.voters ≠ [] := by
  unfold checkP at h
  split at h
  · cases h
  rename_i h1
  split at h
  · cases h
  rename_i h2
  split at h
  · cases h
  rename_i h3
  split at h
  · cases h
  rename_i h4
  refine ⟨fun n hn => ?_, ?_, ?_, fun n hn hl => ?_, fun e => h4 (by rw [e]; rfl)⟩
  · cases hb : node7 n with
    | true => rfl
    | false => exact absurd (List.any_eq_true.2 ⟨n, hn, by simp [hb]⟩) h1
  · by_cases hp : c.voters.Pairwise (· < ·)
    · exact hp
    · exact absurd (.inl (decide_eq_false hp)) h2
  · by_cases hp : c.learners.Pairwise (· < ·)
    · exact hp
    · exact absurd (.inr (decide_eq_false hp)) h2
  · exact h3 (List.any_eq_true.2 ⟨n, hn, decide_eq_true hl⟩)

/-- How a step ends: a configuration in two rows of its own, and a number. -/
def COwn (s B A : Res) (v : Value) (r : Conf × Int) : Prop := ∃ a c b d, v = .tuple #[.agg #[.slice a r.1.voters.length c, .slice b r.1.learners.length d], i64 r.2] ∧ OwnI s A a c r.1.voters ∧ OwnI s B b d r.1.learners
theorem COwn.bad {s : Res} {e : Int} : COwn s Res.nil Res.nil (.tuple #[.agg #[nilSl, nilSl], i64 e]) (Conf.none, e) := ⟨none, 0, none, 0, rfl, .inl ⟨rfl, rfl, rfl⟩, .inl ⟨rfl, rfl, rfl⟩⟩
/-- Two places ahead: the result's. -/
theorem Good.third3 {w : World} {s X Y A : Res} {os : List Res} (h : Good w s (X :: Y :: A :: os)) : Good w s (A :: X :: Y :: os) := h.perm (List.perm_middle (l₁ := [X, Y]))

set_option maxHeartbeats 2000000 in
set_option maxRecDepth 100000 in
theorem Apply_ct {w : World} {s : Res} {os : List Res} {vs : List Value} {c : Conf} {k n : Int} (hg : Good w s os) (hc : RConf s vs c) (hb : c.fits) (hk : rng .i64 k) (hn : rng .i64 n) :
    Calls Try.prog 10 #[.agg vs.toArray, .agg #[i64 k, i64 n]] w (Post2 w s os fun s' B A v => COwn s' B A v (applyP c k n)) := by
  have hc0 := hc
  have hb' := hb
  simp only [Conf.fits] at hb'
  obtain ⟨a, ac, b, bc, rfl, i1, i2⟩ := hc
  refine enter (l := [.agg #[.slice a c.voters.length ac, .slice b c.learners.length bc], .agg #[i64 k, i64 n]]) Try.func10 rfl Try.ntmps10 rfl ?_
  refine CW.seq (CW.plain ?_)
  refine RL.box rfl rfl rfl rfl rfl hg ?_
  rintro p w0 hg0 hax0
  refine ⟨trivial, ?_⟩
  refine RL.box rfl rfl rfl rfl rfl hg0 ?_
  rintro q w1 hg1 hax1
  refine ⟨trivial, ?_⟩
  obtain ⟨s1, hg1, hle1, hq1⟩ := Good.letgo hg1
  obtain ⟨s2, hg1, hle2, hq2⟩ := Good.letgo hg1
  refine RL.alloc rfl rfl rfl rfl ze24 hg1 ?_
  rintro r w2 hg2 hax2
  refine ⟨trivial, ?_⟩
  refine RL.pure rfl rfl rfl rfl ?_
  refine RL.done ?_
  have hH : Holds s2 ⟨p, 0, none⟩ [.slice a c.voters.length ac, .slice b c.learners.length bc] := (Holds.one p _ _).le hq2
  have hQ : Holds s2 ⟨q, 0, none⟩ [i64 k, i64 n] := (Holds.one q _ _).le (hq1.trans hle2)
  have hle := hle1.trans hle2
  have hc2 := RConf.up _ _ _ _ hle hc0
  have i1 := i1.up (RInt.up _) hle
  have i2 := i2.up (RInt.up _) hle
  refine CW.seq (CW.seq (CW.plain ?_))
  refine RL.loads (j := 0) (us := [.slice a c.voters.length ac, .slice b c.learners.length bc]) rfl rfl rfl rfl ty24 rfl (hH) (hg2.sh) rfl rfl ?_
  refine RL.call rfl rfl rfl rfl rfl ca16 (Check_ct hg2 hc2 hb) ?_
  rintro v3 s3 A3 w3 hle3 hg3 hax3 rfl
  refine ⟨trivial, ?_⟩
  refine RL.pure rfl rfl rfl rfl ?_
  refine RL.done ?_
  have hg3 := hg3.drop
  have hx3 := hax0.trans (hax1.trans (hax2.trans hax3))
  have hH := hH.le hle3
  have hQ := hQ.le hle3
  have i1 := i1.up (RInt.up _) hle3
  have i2 := i2.up (RInt.up _) hle3
  have hc3 := RConf.up _ _ _ _ hle3 hc2
  have hle := hle.trans hle3
  refine CW.seq (CW.plain ?_)
  refine RL.pure rfl rfl rfl rfl ?_
  refine RL.pure rfl rfl rfl rfl ?_
  refine RL.done ?_
  refine CW.ne rfl (fun h0 => ?_) (fun h0 => CW.skip ?_)
  · refine CW.seq (CW.plain ?_)
    refine RL.build rfl rfl rfl rfl ze24 pl24 rfl rfl ?_
    refine RL.pure rfl rfl rfl rfl ?_
    refine RL.store (i := 0) (j := 0) rfl rfl rfl ty24 rfl rfl hg3 rfl (if_pos rfl) rfl (by first | (simp [Value.cells, Value.oneCell']; done) | simp [Value.cells, Value.oneCell', putL]) (by first | exact Nat.le_of_ble_eq_true rfl | (simp; done) | (simp; omega) | omega) ?_
    rintro w4 hg4 hax4
    refine ⟨trivial, ?_⟩
    refine RL.pure rfl rfl rfl rfl ?_
    refine RL.done ?_
    exact CW.ret (ret (vs := [_, _]) ⟨_, _, _, rfl, rfl, loadVar_agg ty24 (put_same _ _ _) (hg4).1 rfl, _, _, rfl, rfl, rfl⟩ (Post2.mk hle (hg4).drop.nil.nil (hx3.trans hax4) (by rw [applyP, if_pos h0]; exact COwn.bad)))
  obtain ⟨z1, z2, z3, z4, z5⟩ := check_zero h0
  refine CW.seq (CW.seq (CW.plain ?_))
  refine RL.field rfl rfl rfl rfl fl33_1 rfl rfl ?_
  refine RL.load (j := 1) rfl rfl rfl rfl ty3 rfl (hQ) (hg3.sh) rfl ?_
  refine RL.callV rfl rfl rfl rfl rfl ca24 (rcNode_ct hg3) ?_
  rintro v4 w4 hg4 hax4 rfl
  refine ⟨trivial, ?_⟩
  refine RL.pure rfl rfl rfl rfl ?_
  refine RL.done ?_
  have hx4 := hx3.trans hax4
  refine CW.cond rfl (fun hn0 => ?_) (fun hn0 => CW.skip ?_)
  · refine CW.seq (CW.plain ?_)
    refine RL.build rfl rfl rfl rfl ze24 pl24 rfl rfl ?_
    refine RL.store (i := 0) (j := 0) rfl rfl rfl ty24 rfl rfl hg4 rfl (if_pos rfl) rfl (by first | (simp [Value.cells, Value.oneCell']; done) | simp [Value.cells, Value.oneCell', putL]) (by first | exact Nat.le_of_ble_eq_true rfl | (simp; done) | (simp; omega) | omega) ?_
    rintro w5 hg5 hax5
    refine ⟨trivial, ?_⟩
    refine RL.pure rfl rfl rfl rfl ?_
    refine RL.done ?_
    exact CW.ret (ret (vs := [_, _]) ⟨_, _, _, rfl, rfl, loadVar_agg ty24 (put_same _ _ _) (hg5).1 rfl, _, _, rfl, rfl, rfl⟩ (Post2.mk hle (hg5).drop.nil.nil (hx4.trans hax5) (by rw [applyP, if_neg (by simpa using h0), if_pos (by simpa using hn0)]; exact COwn.bad)))
  have hn1 : ¬ node7 n = false := by simpa using hn0
  have hap : applyP c k n = if k = 1 then (if n ∈ c.voters ∨ n ∈ c.learners then (Conf.none, 82) else (⟨c.voters, insP n c.learners⟩, 0))
      else if k = 2 then (if n ∈ c.learners then (⟨insP n c.voters, delP n c.learners⟩, 0) else (Conf.none, 83))
      else if k = 3 then
        (if n ∈ c.voters ∧ c.voters.length = 1 then (Conf.none, 84)
        else if n ∈ c.voters then (⟨delP n c.voters, delP n c.learners⟩, 0)
        else if n ∈ c.learners then (⟨c.voters, delP n c.learners⟩, 0)
        else (Conf.none, 83))
      else (Conf.none, 1) := by rw [applyP, if_neg (by simpa using h0), if_neg hn1]
  rw [hap]
  refine CW.seq ?_
  have hgD := hg4.drew
  refine CW.draws [(true, 0), (true, 1), (true, 2), (true, 4), (true, 5), (true, 6), (false, 3), (false, 7), (false, 8), (false, 9)] (fun w => In s3 w) mixed (by kernel_rfl) (by kernel_rfl) (by kernel_rfl) (by kernel_rfl) (hgD.sh) ?_
  refine RL.loadsT (j := 0) (us := [.slice a c.voters.length ac, .slice b c.learners.length bc]) rfl rfl rfl rfl ty24 rfl (hH) (fun w h => h) rfl rfl ?_
  refine RL.field rfl rfl rfl rfl fl33_1 rfl rfl ?_
  refine RL.loadT (j := 1) rfl rfl rfl rfl ty3 rfl (hQ) (fun w h => h) rfl ?_
  refine RL.loadsT (j := 0) (us := [.slice a c.voters.length ac, .slice b c.learners.length bc]) rfl rfl rfl rfl ty24 rfl (hH) (fun w h => h) rfl rfl ?_
  refine RL.field rfl rfl rfl rfl fl33_1 rfl rfl ?_
  refine RL.loadT (j := 1) rfl rfl rfl rfl ty3 rfl (hQ) (fun w h => h) rfl ?_
  refine RL.callV rfl rfl rfl rfl rfl ca20 (Votes_ct hgD hc3) ?_
  rintro v5 w5 hg5 hax5 rfl
  refine ⟨hg5.sh, ?_⟩
  refine RL.callV rfl rfl rfl rfl rfl ca22 (Learns_ct hg5 hc3) ?_
  rintro v6 w6 hg6 hax6 rfl
  refine ⟨hg6.sh, ?_⟩
  refine RL.pure rfl rfl rfl rfl ?_
  refine RL.pure rfl rfl rfl rfl ?_
  refine RL.done ?_
  have hx6 := hx4.trans ((Aux.drew _).trans (hax5.trans hax6))
  refine CW.seq ?_
  have hgD := hg6.drew
  refine CW.draws [(true, 0), (true, 1), (true, 3), (true, 4), (false, 2), (false, 5), (false, 6), (false, 7)] (fun w => In s3 w) mixed (by kernel_rfl) (by kernel_rfl) (by kernel_rfl) (by kernel_rfl) (hgD.sh) ?_
  refine RL.field rfl rfl rfl rfl fl24_0 rfl rfl ?_
  refine RL.loadT (j := 0) rfl rfl rfl rfl ty22 rfl (hH) (fun w h => h) rfl ?_
  refine RL.field rfl rfl rfl rfl fl24_1 rfl rfl ?_
  refine RL.loadT (j := 1) rfl rfl rfl rfl ty22 rfl (hH) (fun w h => h) rfl ?_
  refine RL.call rfl rfl rfl rfl rfl ca25 (Clone_ct hgD (.inl rfl) i1.2.2 (by omega)) ?_
  rintro v7 s7 A7 w7 hle7 hg7 hax7 ⟨rfl, a7, c7, rfl, ho7⟩
  refine ⟨hg7.sh, ?_⟩
  refine RL.call rfl rfl rfl rfl rfl ca25 (Clone_ct hg7 (.inl rfl) i2.2.2 (by omega)) ?_
  rintro v8 s8 B8 w8 hle8 hg8 hax8 ⟨rfl, b8, d8, rfl, ho8⟩
  refine ⟨hg8.sh, ?_⟩
  refine RL.pure rfl rfl rfl rfl ?_
  refine RL.pure rfl rfl rfl rfl ?_
  refine RL.done ?_
  have hx8 := hx6.trans ((Aux.drew _).trans (hax7.trans hax8))
  clear hg0 hg1 hg2 hg3 hg4 hgD hg5 hg6 hg7
  refine CW.meet (fun E w' => ∃ s' A' B' a' c' b' d', ∃ x : Conf, E = [(4, ptr r), (9, .slice a' x.voters.length c'), (10, .slice b' x.learners.length d')] ∧ Good w' s' (B' :: A' :: Res.one r (.cells #[nilSl, nilSl] 24) :: os) ∧ Le s8 s' ∧ Aux w w' ∧ OwnI s' A' a' c' x.voters ∧ OwnI s' B' b' d' x.learners ∧ applyP c k n = (x, 0)) ?_ ?_
  · refine CW.seq (CW.plain ?_)
    refine RL.field rfl rfl rfl rfl fl33_0 rfl rfl ?_
    refine RL.load (j := 0) rfl rfl rfl rfl ty31 rfl (hQ) (hg8.sh) rfl ?_
    refine RL.done ?_
    refine CW.block (CW.seq (CW.plain ?_))
    refine RL.pure rfl rfl rfl rfl ?_
    refine RL.pure rfl rfl rfl rfl ?_
    refine RL.done ?_
    refine CW.eq rfl (fun k1 => ?_) (fun k1 => ?_)
    · -- a learner comes
      rw [if_pos k1] at hap ⊢
      refine CW.seq (CW.seq (CW.plain ?_))
      refine RL.pure rfl rfl rfl rfl ?_
      refine RL.pure rfl rfl rfl rfl ?_
      refine RL.part 42 rfl (fun h1 => ?_) (fun h1 => ?_)
      · refine RL.pass rfl rfl rfl ?_
        refine RL.pure rfl rfl rfl rfl ?_
        refine RL.done ?_
        refine CW.yes rfl (CW.seq (CW.plain ?_))
        refine RL.build rfl rfl rfl rfl ze24 pl24 rfl rfl ?_
        refine RL.store (i := 2) (j := 0) rfl rfl rfl ty24 rfl rfl hg8 rfl (if_pos rfl) rfl (by first | (simp [Value.cells, Value.oneCell']; done) | simp [Value.cells, Value.oneCell', putL]) (by first | exact Nat.le_of_ble_eq_true rfl | (simp; done) | (simp; omega) | omega) ?_
        rintro w9 hg9 hax9
        refine ⟨trivial, ?_⟩
        refine RL.pure rfl rfl rfl rfl ?_
        refine RL.done ?_
        exact CW.ret (ret (vs := [_, _]) ⟨_, _, _, rfl, rfl, loadVar_agg ty24 (put_same _ _ _) (hg9).drop.drop.1 rfl, _, _, rfl, rfl, rfl⟩ (Post2.mk hle (hg9).drop.drop.drop.nil.nil (hx8.trans hax9) (by rw [if_pos (.inl (of_decide_eq_true h1))]; exact COwn.bad)))
      have h1 := of_decide_eq_false h1
      refine RL.pure rfl rfl rfl rfl ?_
      refine RL.pure rfl rfl rfl rfl ?_
      refine RL.done ?_
      refine CW.cond rfl (fun h2 => ?_) (fun h2 => CW.skip ?_)
      · refine CW.seq (CW.plain ?_)
        refine RL.build rfl rfl rfl rfl ze24 pl24 rfl rfl ?_
        refine RL.store (i := 2) (j := 0) rfl rfl rfl ty24 rfl rfl hg8 rfl (if_pos rfl) rfl (by first | (simp [Value.cells, Value.oneCell']; done) | simp [Value.cells, Value.oneCell', putL]) (by first | exact Nat.le_of_ble_eq_true rfl | (simp; done) | (simp; omega) | omega) ?_
        rintro w9 hg9 hax9
        refine ⟨trivial, ?_⟩
        refine RL.pure rfl rfl rfl rfl ?_
        refine RL.done ?_
        exact CW.ret (ret (vs := [_, _]) ⟨_, _, _, rfl, rfl, loadVar_agg ty24 (put_same _ _ _) (hg9).drop.drop.1 rfl, _, _, rfl, rfl, rfl⟩ (Post2.mk hle (hg9).drop.drop.drop.nil.nil (hx8.trans hax9) (by rw [if_pos (.inr (of_decide_eq_true h2))]; exact COwn.bad)))
      have h2 := of_decide_eq_false h2
      rw [if_neg (show ¬ (n ∈ c.voters ∨ n ∈ c.learners) from fun h => h.elim h1 h2)] at hap
      obtain ⟨s9, hg9, hle9, hB9⟩ := Good.letgo hg8
      have him := ho8.imm (RInt.up _) hle9 hB9
      refine CW.plain ?_
      refine RL.pure rfl rfl rfl rfl ?_
      refine RL.field rfl rfl rfl rfl fl33_1 rfl rfl ?_
      refine RL.load (j := 1) rfl rfl rfl rfl ty3 rfl (hQ.le hle9) (hg9.sh) rfl ?_
      refine RL.call rfl rfl rfl rfl rfl ca26 (with_ct hg9 him z3 hn (by omega)) ?_
      rintro v10 s10 A10 w10 hle10 hg10 hax10 ⟨rfl, a10, c10, rfl, ho10⟩
      refine ⟨trivial, ?_⟩
      refine RL.pure rfl rfl rfl rfl ?_
      refine RL.done ?_
      exact fun ac ha => ⟨_, ha.sub (E' := [(4, ptr r), (9, .slice a7 c.voters.length c7), (10, .slice a10 (insP n c.learners).length c10)]) ⟨rfl, rfl, rfl, trivial⟩, s10, A7, A10, a7, c7, a10, c10, ⟨c.voters, insP n c.learners⟩, rfl, hg10, hle9, hx8.trans hax10, ho7.up (RInt.up _) hle9, ho10, hap⟩
    rw [if_neg k1] at hap ⊢
    refine CW.seq (CW.plain ?_)
    refine RL.pure rfl rfl rfl rfl ?_
    refine RL.pure rfl rfl rfl rfl ?_
    refine RL.done ?_
    refine CW.eq rfl (fun k2 => ?_) (fun k2 => ?_)
    · -- a learner votes
      rw [if_pos k2] at hap ⊢
      refine CW.seq (CW.seq (CW.plain ?_))
      refine RL.pure rfl rfl rfl rfl ?_
      refine RL.pure rfl rfl rfl rfl ?_
      refine RL.done ?_
      refine CW.cond rfl (fun h1 => ?_) (fun h1 => CW.skip ?_)
      · have h1 : n ∉ c.learners := by simpa using h1
        refine CW.seq (CW.plain ?_)
        refine RL.build rfl rfl rfl rfl ze24 pl24 rfl rfl ?_
        refine RL.store (i := 2) (j := 0) rfl rfl rfl ty24 rfl rfl hg8 rfl (if_pos rfl) rfl (by first | (simp [Value.cells, Value.oneCell']; done) | simp [Value.cells, Value.oneCell', putL]) (by first | exact Nat.le_of_ble_eq_true rfl | (simp; done) | (simp; omega) | omega) ?_
        rintro w9 hg9 hax9
        refine ⟨trivial, ?_⟩
        refine RL.pure rfl rfl rfl rfl ?_
        refine RL.done ?_
        exact CW.ret (ret (vs := [_, _]) ⟨_, _, _, rfl, rfl, loadVar_agg ty24 (put_same _ _ _) (hg9).drop.drop.1 rfl, _, _, rfl, rfl, rfl⟩ (Post2.mk hle (hg9).drop.drop.drop.nil.nil (hx8.trans hax9) (by rw [if_neg h1]; exact COwn.bad)))
      have h1 : n ∈ c.learners := by simpa using h1
      rw [if_pos h1] at hap
      obtain ⟨s9, hg9, hle9, hA9⟩ := Good.shareNext hg8
      have him := ho7.imm (RInt.up _) hle9 hA9
      refine CW.seq (CW.plain ?_)
      refine RL.pure rfl rfl rfl rfl ?_
      refine RL.field rfl rfl rfl rfl fl33_1 rfl rfl ?_
      refine RL.load (j := 1) rfl rfl rfl rfl ty3 rfl (hQ.le hle9) (hg9.sh) rfl ?_
      refine RL.call rfl rfl rfl rfl rfl ca26 (with_ct hg9 him z2 hn (by omega)) ?_
      rintro v10 s10 A10 w10 hle10 hg10 hax10 ⟨rfl, a10, c10, rfl, ho10⟩
      refine ⟨trivial, ?_⟩
      refine RL.pure rfl rfl rfl rfl ?_
      refine RL.done ?_
      obtain ⟨s11, hg11, hle11, hB11⟩ := Good.shareNext hg10
      have him := (ho8.up (RInt.up _) hle9).imm (RInt.up _) hle11 hB11
      refine CW.plain ?_
      refine RL.pure rfl rfl rfl rfl ?_
      refine RL.field rfl rfl rfl rfl fl33_1 rfl rfl ?_
      refine RL.load (j := 1) rfl rfl rfl rfl ty3 rfl (hQ.le (hle9.trans hle11)) (hg11.sh) rfl ?_
      refine RL.call rfl rfl rfl rfl rfl ca27 (without_ct hg11 him (by omega)) ?_
      rintro v12 s12 B12 w12 hle12 hg12 hax12 ⟨b12, d12, rfl, ho12⟩
      refine ⟨trivial, ?_⟩
      refine RL.pure rfl rfl rfl rfl ?_
      refine RL.done ?_
      exact fun ac ha => ⟨_, ha.sub (E' := [(4, ptr r), (9, .slice a10 (insP n c.voters).length c10), (10, .slice b12 (delP n c.learners).length d12)]) ⟨rfl, rfl, rfl, trivial⟩, s12, A10, B12, a10, c10, b12, d12, ⟨insP n c.voters, delP n c.learners⟩, rfl, hg12, hle9.trans (hle11.trans hle12), hx8.trans (hax10.trans hax12), ho10.up (RInt.up _) (hle11.trans hle12), ho12, hap⟩
    rw [if_neg k2] at hap ⊢
    refine CW.seq (CW.plain ?_)
    refine RL.pure rfl rfl rfl rfl ?_
    refine RL.pure rfl rfl rfl rfl ?_
    refine RL.done ?_
    refine CW.eq rfl (fun k3 => ?_) (fun k3 => ?_)
    case refine_2 =>
      refine CW.seq (CW.plain ?_)
      refine RL.build rfl rfl rfl rfl ze24 pl24 rfl rfl ?_
      refine RL.store (i := 2) (j := 0) rfl rfl rfl ty24 rfl rfl hg8 rfl (if_pos rfl) rfl (by first | (simp [Value.cells, Value.oneCell']; done) | simp [Value.cells, Value.oneCell', putL]) (by first | exact Nat.le_of_ble_eq_true rfl | (simp; done) | (simp; omega) | omega) ?_
      rintro w9 hg9 hax9
      refine ⟨trivial, ?_⟩
      refine RL.pure rfl rfl rfl rfl ?_
      refine RL.done ?_
      exact CW.ret (ret (vs := [_, _]) ⟨_, _, _, rfl, rfl, loadVar_agg ty24 (put_same _ _ _) (hg9).drop.drop.1 rfl, _, _, rfl, rfl, rfl⟩ (Post2.mk hle (hg9).drop.drop.drop.nil.nil (hx8.trans hax9) (by rw [if_neg k3]; exact COwn.bad)))
    -- a node goes
    rw [if_pos k3] at hap ⊢
    refine CW.block (CW.seq (CW.block (CW.seq (CW.block (CW.seq (CW.block (CW.seq (CW.block (CW.seq (CW.seq (CW.seq (CW.plain ?_))))))))))))
    refine RL.pure rfl rfl rfl rfl ?_
    refine RL.pure rfl rfl rfl rfl ?_
    refine RL.part 67 rfl (fun h1 => ?_) (fun h1 => ?_)
    · have h1 : n ∈ c.voters := of_decide_eq_true h1
      refine RL.pure rfl rfl rfl rfl ?_
      refine RL.len rfl rfl rfl rfl sl22 rfl ?_
      refine RL.pure rfl rfl rfl rfl ?_
      refine RL.pure rfl rfl rfl rfl ?_
      refine RL.pure rfl rfl rfl rfl ?_
      refine RL.done ?_
      refine CW.eq rfl (fun h2 => ?_) (fun h2 => ?_)
      · refine CW.exit (CW.seq (CW.seq (CW.plain ?_)))
        refine RL.build rfl rfl rfl rfl ze24 pl24 rfl rfl ?_
        refine RL.store (i := 2) (j := 0) rfl rfl rfl ty24 rfl rfl hg8 rfl (if_pos rfl) rfl (by first | (simp [Value.cells, Value.oneCell']; done) | simp [Value.cells, Value.oneCell', putL]) (by first | exact Nat.le_of_ble_eq_true rfl | (simp; done) | (simp; omega) | omega) ?_
        rintro w9 hg9 hax9
        refine ⟨trivial, ?_⟩
        refine RL.pure rfl rfl rfl rfl ?_
        refine RL.done ?_
        exact CW.ret (ret (vs := [_, _]) ⟨_, _, _, rfl, rfl, loadVar_agg ty24 (put_same _ _ _) (hg9).drop.drop.1 rfl, _, _, rfl, rfl, rfl⟩ (Post2.mk hle (hg9).drop.drop.drop.nil.nil (hx8.trans hax9) (by rw [if_pos ⟨h1, by omega⟩]; exact COwn.bad)))
      have h2 : ¬ (n ∈ c.voters ∧ c.voters.length = 1) := fun h => h2 (by omega)
      rw [if_neg h2, if_pos h1] at hap
      refine CW.skip (CW.seq (CW.seq (CW.plain ?_)))
      refine RL.pure rfl rfl rfl rfl ?_
      refine RL.pure rfl rfl rfl rfl ?_
      refine RL.done ?_
      refine CW.cond rfl (fun _ => ?_) (fun h => absurd h1 (of_decide_eq_false h))
      refine CW.exit (CW.plain ?_)
      obtain ⟨s9, hg9, hle9, hA9⟩ := Good.shareNext hg8
      have him := ho7.imm (RInt.up _) hle9 hA9
      refine RL.pure rfl rfl rfl rfl ?_
      refine RL.field rfl rfl rfl rfl fl33_1 rfl rfl ?_
      refine RL.load (j := 1) rfl rfl rfl rfl ty3 rfl (hQ.le hle9) (hg9.sh) rfl ?_
      refine RL.call rfl rfl rfl rfl rfl ca27 (without_ct hg9 him (by omega)) ?_
      rintro v10 s10 A10 w10 hle10 hg10 hax10 ⟨a10, c10, rfl, ho10⟩
      refine ⟨trivial, ?_⟩
      refine RL.pure rfl rfl rfl rfl ?_
      refine RL.done ?_
      obtain ⟨s11, hg11, hle11, hB11⟩ := Good.shareNext hg10
      have him := (ho8.up (RInt.up _) (hle9.trans hle10)).imm (RInt.up _) hle11 hB11
      refine CW.seq (CW.plain ?_)
      refine RL.pure rfl rfl rfl rfl ?_
      refine RL.field rfl rfl rfl rfl fl33_1 rfl rfl ?_
      refine RL.load (j := 1) rfl rfl rfl rfl ty3 rfl (hQ.le (hle9.trans (hle10.trans hle11))) (hg11.sh) rfl ?_
      refine RL.call rfl rfl rfl rfl rfl ca27 (without_ct hg11 him (by omega)) ?_
      rintro v12 s12 B12 w12 hle12 hg12 hax12 ⟨b12, d12, rfl, ho12⟩
      refine ⟨trivial, ?_⟩
      refine RL.pure rfl rfl rfl rfl ?_
      refine RL.done ?_
      refine CW.exit ?_
      exact fun ac ha => ⟨_, ha.sub (E' := [(4, ptr r), (9, .slice a10 (delP n c.voters).length c10), (10, .slice b12 (delP n c.learners).length d12)]) ⟨rfl, rfl, rfl, trivial⟩, s12, A10, B12, a10, c10, b12, d12, ⟨delP n c.voters, delP n c.learners⟩, rfl, hg12, hle9.trans (hle10.trans (hle11.trans hle12)), hx8.trans (hax10.trans hax12), ho10.up (RInt.up _) (hle11.trans hle12), ho12, hap⟩
    · have h1 : n ∉ c.voters := of_decide_eq_false h1
      rw [if_neg (fun h => h1 h.1), if_neg h1] at hap ⊢
      refine RL.pass rfl rfl rfl ?_
      refine RL.pass rfl rfl rfl ?_
      refine RL.pass rfl rfl rfl ?_
      refine RL.pure rfl rfl rfl rfl ?_
      refine RL.pure rfl rfl rfl rfl ?_
      refine RL.done ?_
      refine CW.no rfl (CW.skip (CW.seq (CW.seq (CW.plain ?_))))
      refine RL.pure rfl rfl rfl rfl ?_
      refine RL.pure rfl rfl rfl rfl ?_
      refine RL.done ?_
      refine CW.cond rfl (fun h => absurd (of_decide_eq_true h) h1) (fun _ => CW.skip (CW.seq (CW.plain ?_)))
      refine RL.pure rfl rfl rfl rfl ?_
      refine RL.pure rfl rfl rfl rfl ?_
      refine RL.done ?_
      refine CW.cond rfl (fun h2 => ?_) (fun h2 => ?_)
      · have h2 : n ∈ c.learners := of_decide_eq_true h2
        rw [if_pos h2] at hap
        refine CW.exit (CW.seq (CW.plain ?_))
        obtain ⟨s9, hg9, hle9, hB9⟩ := Good.letgo hg8
        have him := ho8.imm (RInt.up _) hle9 hB9
        refine RL.pure rfl rfl rfl rfl ?_
        refine RL.field rfl rfl rfl rfl fl33_1 rfl rfl ?_
        refine RL.load (j := 1) rfl rfl rfl rfl ty3 rfl (hQ.le hle9) (hg9.sh) rfl ?_
        refine RL.call rfl rfl rfl rfl rfl ca27 (without_ct hg9 him (by omega)) ?_
        rintro v12 s12 B12 w12 hle12 hg12 hax12 ⟨b12, d12, rfl, ho12⟩
        refine ⟨trivial, ?_⟩
        refine RL.pure rfl rfl rfl rfl ?_
        refine RL.done ?_
        refine CW.exit ?_
        exact fun ac ha => ⟨_, ha.sub (E' := [(4, ptr r), (9, .slice a7 c.voters.length c7), (10, .slice b12 (delP n c.learners).length d12)]) ⟨rfl, rfl, rfl, trivial⟩, s12, A7, B12, a7, c7, b12, d12, ⟨c.voters, delP n c.learners⟩, rfl, hg12, hle9.trans hle12, hx8.trans hax12, ho7.up (RInt.up _) (hle9.trans hle12), ho12, hap⟩
      · have h2 : n ∉ c.learners := of_decide_eq_false h2
        refine CW.skip (CW.exit (CW.seq (CW.seq (CW.plain ?_))))
        refine RL.build rfl rfl rfl rfl ze24 pl24 rfl rfl ?_
        refine RL.store (i := 2) (j := 0) rfl rfl rfl ty24 rfl rfl hg8 rfl (if_pos rfl) rfl (by first | (simp [Value.cells, Value.oneCell']; done) | simp [Value.cells, Value.oneCell', putL]) (by first | exact Nat.le_of_ble_eq_true rfl | (simp; done) | (simp; omega) | omega) ?_
        rintro w9 hg9 hax9
        refine ⟨trivial, ?_⟩
        refine RL.pure rfl rfl rfl rfl ?_
        refine RL.done ?_
        exact CW.ret (ret (vs := [_, _]) ⟨_, _, _, rfl, rfl, loadVar_agg ty24 (put_same _ _ _) (hg9).drop.drop.1 rfl, _, _, rfl, rfl, rfl⟩ (Post2.mk hle (hg9).drop.drop.drop.nil.nil (hx8.trans hax9) (by rw [if_neg h2]; exact COwn.bad)))
  rintro E w20 ⟨s20, A20, B20, a20, c20, b20, d20, x, rfl, hg20, hle20, hax20, ho20, hp20, hx20⟩
  rw [← hap, hx20]
  refine CW.seq (CW.plain ?_)
  refine RL.pure rfl rfl rfl rfl ?_
  refine RL.pure rfl rfl rfl rfl ?_
  refine RL.build rfl rfl rfl rfl ze24 pl24 rfl rfl ?_
  refine RL.store (i := 2) (j := 0) rfl rfl rfl ty24 rfl rfl hg20 rfl (if_pos rfl) rfl (by first | (simp [Value.cells, Value.oneCell']; done) | simp [Value.cells, Value.oneCell', putL]) (by first | exact Nat.le_of_ble_eq_true rfl | (simp; done) | (simp; omega) | omega) ?_
  rintro w21 hg21 hax21
  refine ⟨trivial, ?_⟩
  refine RL.pure rfl rfl rfl rfl ?_
  refine RL.done ?_
  exact CW.ret (ret (vs := [_, _]) ⟨_, _, _, rfl, rfl, loadVar_agg ty24 (put_same _ _ _) hg21.drop.drop.1 rfl, _, _, rfl, rfl, rfl⟩ (Post2.mk (hle.trans hle20) (hg21.third3.drop) (hax20.trans hax21) ⟨a20, c20, b20, d20, rfl, ho20, hp20⟩))
end Go.Lw
