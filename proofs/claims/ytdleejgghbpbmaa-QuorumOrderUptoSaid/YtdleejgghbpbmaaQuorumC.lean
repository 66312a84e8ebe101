/-
  Quorum: how a vote stands, by the program.
-/
import Derived.Test.YtdleejgghbpbmaaQuorumB
namespace Go.Lw
open Go.Proofs

abbrev Ballot := Int × Bool
def RBallot : Res → List Value → Ballot → Prop := fun _ vs x => vs = [i64 x.1, .bool x.2] ∧ rng .i64 x.1
theorem RBallot.up : Up RBallot := fun _ _ _ _ _ h => h
theorem RBallot.one : One RBallot := fun _ vs x h v hv => by rw [h.1] at hv; simp at hv; rcases hv with rfl | rfl <;> rfl
abbrev Ballots (s : Res) (a : Option Addr) (c : Nat) (xs : List Ballot) : Prop := Imm RBallot 2 s a c xs

def isOf (n : Int) (b : Ballot) : Bool := b.1 == n
def vote (l : List Ballot) (n : Int) : Option Bool := (l.find? (isOf n)).map (·.2)
def says (l : List Ballot) (y : Bool) (n : Int) : Bool := vote l n == some y
def tallyP (v : List Int) (l : List Ballot) : Int :=
  if 0 < v.length ∧ most v.length ≤ (v.countP (says l true) : Nat) then 1 else if (v.length : Int) - (v.countP (says l false) : Nat) < most v.length then -1 else 0
theorem tallyP_perm {v v' : List Int} {l : List Ballot} (h : v.Perm v') : tallyP v l = tallyP v' l := by simp only [tallyP, h.length_eq, h.countP_eq]

theorem find_take_none {α : Type} {p : α → Bool} {xs : List α} {k : Nat} (hk : k < xs.length) (h : (xs.take k).find? p = none) (hp : p xs[k] = false) : (xs.take (k + 1)).find? p = none := by
  rw [List.take_succ_eq_append_getElem hk, List.find?_append, h]
  simp [hp]
theorem find_take_some {α : Type} {p : α → Bool} {xs : List α} {k : Nat} (hk : k < xs.length) (h : (xs.take k).find? p = none) (hp : p xs[k] = true) : xs.find? p = some xs[k] := by
  have e : xs = xs.take k ++ (xs[k] :: xs.drop (k + 1)) := by simp
  have e2 := congrArg (List.find? p) e
  rw [List.find?_append, h] at e2
  rw [e2, List.find?_cons, hp]
  rfl

set_option maxRecDepth 100000 in
theorem IndexFunc_ct {w : World} {s : Res} {os : List Res} {xs : List Ballot} {xa : Option Addr} {xc g : Nat} {cap : Array Value} {p : Ballot → Bool} (hg : Good w s os) (hx : Ballots s xa xc xs) (hc : callable Try.prog g = true)
    (hp : ∀ x ∈ xs, ∀ w', Good w' s os → Calls Try.prog g (#[.agg #[i64 x.1, .bool x.2]] ++ cap) w' (PostV w' s os fun r => r = .bool (p x))) :
    Calls Try.prog 25 #[.slice xa xs.length xc, .func (.func g) #[] cap] w
      (PostV w s os fun r => ∃ i : Int, r = i64 i ∧ rng .i64 i ∧ ((i < 0 ∧ xs.find? p = none) ∨ (0 ≤ i ∧ ∃ h : i.toNat < xs.length, xs.find? p = some xs[i.toNat]))) := by
  refine enter (l := [.slice xa xs.length xc, .func (.func g) #[] cap]) Try.func25 rfl Try.ntmps25 rfl ?_
  refine CW.seq (CW.plain ?_)
  refine RL.pure rfl rfl rfl rfl ?_
  refine RL.done ?_
  refine CW.seq (CW.seq (CW.plain ?_))
  refine RL.pure rfl rfl rfl rfl ?_
  refine RL.len rfl rfl rfl rfl sl23 rfl ?_
  refine RL.pure rfl rfl rfl rfl ?_
  refine RL.done ?_
  have hlen := hx.le_max
  simp only [maxLen] at hlen
  refine CW.block (CW.loop (σ := Nat) (fun j E w' => Good w' s os ∧ Aux w w' ∧ ∃ k : Nat, E = [(0, .slice xa xs.length xc), (1, .func (.func g) #[] cap), (7, i64 xs.length), (8, i64 k)] ∧ k + j = xs.length ∧ (xs.take k).find? p = none)
    (fun j => j) xs.length [(0, .slice xa xs.length xc), (1, .func (.func g) #[] cap), (7, i64 xs.length), (8, i64 0)] ⟨rfl, rfl, rfl, rfl, trivial⟩ ⟨hg, Aux.refl _, 0, rfl, by omega, rfl⟩ ?_)
  rintro j E w1 ⟨hg1, hax1, k, rfl, hk, hno⟩
  refine CW.seq (CW.plain ?_)
  refine RL.pure rfl rfl rfl rfl ?_
  refine RL.done ?_
  refine CW.seq (CW.test rfl (fun h => ?_) (fun h => ?_))
  · refine CW.skip ?_
    have hkl : k < xs.length := by omega
    refine CW.seq (CW.block (CW.seq (CW.plain ?_)))
    refine RL.pure rfl rfl rfl rfl ?_
    refine RL.pure rfl rfl rfl rfl ?_
    refine RL.done ?_
    refine CW.seq (CW.plain ?_)
    refine RL.pure rfl rfl rfl rfl ?_
    refine RL.pure rfl rfl rfl rfl ?_
    refine RL.pure rfl rfl rfl rfl ?_
    refine RL.idx rfl rfl rfl rfl sl23 rfl rfl (hx) (by omega) (by omega) ?_
    rintro q vs hvl hH ⟨rfl, hr'⟩
    refine RL.loads rfl rfl rfl rfl ty41 rfl (hH) (hg1.sh) rfl rfl ?_
    refine RL.callF rfl rfl rfl rfl rfl rfl hc (hp xs[k] (List.getElem_mem hkl) w1 hg1) ?_
    rintro e w2 ⟨v2, rfl, hg2, hax2, rfl⟩
    refine ⟨_, rfl, trivial, ?_⟩
    refine RL.done ?_
    refine CW.cond rfl (fun hb => ?_) (fun hb => ?_)
    · refine CW.seq (CW.plain ?_)
      refine RL.pure rfl rfl rfl rfl ?_
      refine RL.pure rfl rfl rfl rfl ?_
      refine RL.done ?_
      exact CW.ret (ret (vs := [_]) ⟨_, _, rfl, rfl, rfl⟩ (PostV.mk hg2 (hax1.trans hax2) ⟨k, rfl, by simp only [rng]; omega, .inr ⟨by omega, by omega, find_take_some hkl hno hb⟩⟩))
    · refine CW.skip ?_
      refine CW.plain ?_
      refine RL.add rfl rfl rfl rfl rfl rfl (by simp only [rng] at *; omega) ?_
      refine RL.pure rfl rfl rfl rfl ?_
      refine RL.done ?_
      cases j with
      | zero => omega
      | succ j =>
        refine fun ac ha => ⟨j, [(0, .slice xa xs.length xc), (1, .func (.func g) #[] cap), (7, i64 xs.length), (8, i64 ((k : Int) + 1))], ha.sub ⟨rfl, rfl, rfl, rfl, trivial⟩, ⟨hg2, hax1.trans hax2, k + 1, rfl, by omega, find_take_none hkl hno hb⟩, Nat.lt_succ_self j⟩
  · refine CW.exit (CW.seq (CW.plain ?_))
    have hkl : k = xs.length := by omega
    refine RL.pure rfl rfl rfl rfl ?_
    refine RL.done ?_
    rw [hkl, List.take_length] at hno
    exact CW.ret (ret (vs := [_]) ⟨_, _, rfl, rfl, rfl⟩ (PostV.mk hg1 hax1 ⟨-1, rfl, by simp only [rng]; omega, .inl ⟨by decide, hno⟩⟩))

set_option maxRecDepth 100000 in
theorem isOf_ct {w : World} {s : Res} {os : List Res} {x : Ballot} {n : Int} {b : Nat} (hg : Good w s os) (hb : Holds s ⟨b, 0, none⟩ [i64 n]) :
    Calls Try.prog 26 #[.agg #[i64 x.1, .bool x.2], ptr b] w (PostV w s os fun r => r = .bool (isOf n x)) := by
  refine enter (l := [.agg #[i64 x.1, .bool x.2], ptr b]) Try.func26 rfl Try.ntmps26 rfl ?_
  refine CW.seq (CW.plain ?_)
  refine RL.box rfl rfl rfl rfl rfl hg ?_
  rintro p w1 hg1 hax1
  refine ⟨trivial, ?_⟩
  refine RL.pure rfl rfl rfl rfl ?_
  refine RL.done ?_
  refine CW.seq (CW.plain ?_)
  refine RL.field rfl rfl rfl rfl fl41_0 rfl rfl ?_
  refine RL.load rfl rfl rfl rfl ty3 rfl ((Holds.of (if_pos rfl))) (hg1.1) rfl ?_
  refine RL.load (j := 0) rfl rfl rfl rfl ty3 rfl (hb) (hg1.sh) rfl ?_
  refine RL.pure rfl rfl rfl rfl ?_
  refine RL.pure rfl rfl rfl rfl ?_
  refine RL.done ?_
  exact CW.ret (ret (vs := [_]) ⟨_, _, rfl, rfl, rfl⟩ (PostV.mk hg1.drop hax1 rfl))

set_option maxRecDepth 100000 in
theorem says_ct {w : World} {s : Res} {os : List Res} {l : List Ballot} {la : Option Addr} {lc b1 b2 : Nat} {n : Int} {y : Bool} (hg : Good w s os) (hl : Ballots s la lc l) (h1 : Holds s ⟨b1, 0, none⟩ [.slice la l.length lc]) (h2 : Holds s ⟨b2, 0, none⟩ [.bool y]) :
    Calls Try.prog 24 #[i64 n, ptr b1, ptr b2] w (PostV w s os fun r => r = .bool (says l y n)) := by
  refine enter (l := [i64 n, ptr b1, ptr b2]) Try.func24 rfl Try.ntmps24 rfl ?_
  refine CW.seq (CW.plain ?_)
  refine RL.box rfl rfl rfl rfl rfl hg ?_
  rintro p w1 hg1 hax1
  refine ⟨trivial, ?_⟩
  refine RL.pure rfl rfl rfl rfl ?_
  refine RL.done ?_
  obtain ⟨hg1', hl1, hl2, hback⟩ := hg1.lend
  have hp : Holds (s.join (Res.one p (.cells #[i64 n] 3))) ⟨p, 0, none⟩ [i64 n] := (Holds.of (if_pos rfl)).le hl2
  refine CW.seq (CW.plain ?_)
  refine RL.load (j := 0) rfl rfl rfl rfl ty23 rfl (h1) (hg1.sh) rfl ?_
  refine RL.makeF rfl rfl rfl rfl rfl ?_
  refine RL.callV rfl rfl rfl rfl rfl ca25 (IndexFunc_ct hg1' (hl.up RBallot.up hl1) ca26 (p := isOf n) (fun x _ w' hg' => isOf_ct hg' hp)) ?_
  rintro v2 w2 hg2 hax2 ⟨i, rfl, hri, hfind⟩
  refine ⟨trivial, ?_⟩
  refine RL.pure rfl rfl rfl rfl ?_
  refine RL.done ?_
  have hg2' := hback w2 hg2
  refine CW.seq ?_
  refine CW.draws [(true, 0), (true, 1), (true, 2), (true, 3), (true, 4), (true, 5), (true, 6), (true, 7), (true, 8), (true, 9), (true, 10), (false, 11)] (fun w' => Good w' s os) mixed (by kernel_rfl) (by kernel_rfl) (by kernel_rfl) (by kernel_rfl) hg2'.drop.drew ?_
  refine RL.pure rfl rfl rfl rfl ?_
  refine RL.pure rfl rfl rfl rfl ?_
  refine RL.pure rfl rfl rfl rfl ?_
  refine RL.part 11 rfl (fun h => ?_) (fun h => ?_)
  · have hi : 0 ≤ i := by simpa using h
    rcases hfind with ⟨h0, _⟩ | ⟨h0, hil, hf⟩
    · omega
    refine RL.loadT (j := 0) rfl rfl rfl rfl ty23 rfl (h1) (fun w h => h.sh) rfl ?_
    refine RL.pure rfl rfl rfl rfl ?_
    refine RL.idx rfl rfl rfl rfl sl23 rfl rfl (hl) (h0) (by omega) ?_
    rintro q vs hvl hH ⟨rfl, hr'⟩
    refine RL.field rfl rfl rfl rfl fl41_1 rfl rfl ?_
    refine RL.loadT rfl rfl rfl rfl ty4 rfl (hH) (fun w h => h.sh) rfl ?_
    refine RL.loadT (j := 0) rfl rfl rfl rfl ty4 rfl (h2) (fun w h => h.sh) rfl ?_
    refine RL.bEq rfl rfl rfl rfl Try.underlying4 rfl rfl ?_
    refine RL.pure rfl rfl rfl rfl ?_
    refine RL.pure rfl rfl rfl rfl ?_
    refine RL.done ?_
    refine CW.ret (ret (vs := [_]) ⟨_, _, rfl, rfl, rfl⟩ (PostV.mk hg2'.drop.drew (hax1.trans (hax2.trans (Aux.drew _))) (congrArg Value.bool ?_)))
    rw [says, vote, hf]
    simp
  · have hi : i < 0 := by simpa using h
    rcases hfind with ⟨_, hf⟩ | ⟨h0, hil, hf⟩
    · refine RL.pass rfl rfl rfl ?_
      refine RL.pass rfl rfl rfl ?_
      refine RL.pass rfl rfl rfl ?_
      refine RL.pass rfl rfl rfl ?_
      refine RL.pass rfl rfl rfl ?_
      refine RL.pass rfl rfl rfl ?_
      refine RL.pass rfl rfl rfl ?_
      refine RL.pure rfl rfl rfl rfl ?_
      refine RL.pure rfl rfl rfl rfl ?_
      refine RL.done ?_
      refine CW.ret (ret (vs := [_]) ⟨_, _, rfl, rfl, rfl⟩ (PostV.mk hg2'.drop.drew (hax1.trans (hax2.trans (Aux.drew _))) (congrArg Value.bool ?_)))
      rw [says, vote, hf]
      simp
    · omega

set_option maxRecDepth 100000 in
theorem sayer_ct {w : World} {s : Res} {os : List Res} {b1 : Nat} {y : Bool} (hg : Good w s os) :
    Calls Try.prog 23 #[.bool y, ptr b1] w (Post w s os fun _ A r => ∃ b2, A b2 = some (.cells #[.bool y] 4) ∧ r = .func (.func 24) #[] #[ptr b1, ptr b2]) := by
  refine enter (l := [.bool y, ptr b1]) Try.func23 rfl Try.ntmps23 rfl ?_
  refine CW.seq (CW.plain ?_)
  refine RL.box rfl rfl rfl rfl rfl hg ?_
  rintro p w1 hg1 hax1
  refine ⟨trivial, ?_⟩
  refine RL.pure rfl rfl rfl rfl ?_
  refine RL.done ?_
  refine CW.seq (CW.plain ?_)
  refine RL.makeF rfl rfl rfl rfl rfl ?_
  refine RL.pure rfl rfl rfl rfl ?_
  refine RL.done ?_
  exact CW.ret (ret (vs := [_]) ⟨_, _, rfl, rfl, rfl⟩ (Post.mk (Le.refl _) hg1 hax1 ⟨p, if_pos rfl, rfl⟩))


set_option maxRecDepth 100000 in
theorem Tally_ct {w : World} {s : Res} {os : List Res} {xs : List Int} {l : List Ballot} {xa la : Option Addr} {xc lc : Nat} (hg : Good w s os) (hx : Ints s xa xc xs) (hl : Ballots s la lc l) (hb : xs.length * 8 ≤ 140737488355328) :
    Calls Try.prog 12 #[.slice xa xs.length xc, .slice la l.length lc] w (Post w s os fun _ _ r => r = i64 (tallyP (uniq xs) l)) := by
  have hul := uniq_le xs
  refine enter (l := [.slice xa xs.length xc, .slice la l.length lc]) Try.func12 rfl Try.ntmps12 rfl ?_
  refine CW.seq (CW.plain ?_)
  refine RL.box rfl rfl rfl rfl rfl hg ?_
  rintro b w1 hg1 hax1
  refine ⟨trivial, ?_⟩
  refine RL.pure rfl rfl rfl rfl ?_
  refine RL.done ?_
  obtain ⟨s1, hg1', hle1, hB1⟩ := hg1.letgo
  have h1 : Holds s1 ⟨b, 0, none⟩ [.slice la l.length lc] := (Holds.of (if_pos rfl)).le hB1
  refine CW.seq (CW.plain ?_)
  refine RL.pure rfl rfl rfl rfl ?_
  refine RL.call rfl rfl rfl rfl rfl ca19 (once_ct hg1' (hx.up (RInt.up _) hle1) hb) ?_
  rintro v2 s2 A2 w2 hle2 hg2 hax2 ⟨rfl, a2, c2, rfl, ho2⟩
  refine ⟨trivial, ?_⟩
  refine RL.pure rfl rfl rfl rfl ?_
  refine RL.done ?_
  obtain ⟨s3, hg3, hle3, hA3⟩ := hg2.letgo
  have hv : Ints s3 a2 c2 (uniq xs) := ho2.imm (RInt.up _) hle3 hA3
  have hl3 : Ballots s3 la lc l := hl.up RBallot.up (hle1.trans hle3)
  have hP : ∀ (y : Bool) (p : Int → Bool), (uniq xs).countP p ≤ (uniq xs).length := fun _ p => List.countP_le_length
  have hR : ∀ n : Nat, n ≤ (uniq xs).length → rng .i64 (n : Int) := fun n hn => rng_len (by omega)
  refine CW.seq (CW.plain ?_)
  refine RL.makeF rfl rfl rfl rfl rfl ?_
  refine RL.pure rfl rfl rfl rfl ?_
  refine RL.done ?_
  have hmost : ∀ n : Nat, n ≤ 140737488355328 → 0 ≤ most n ∧ most n ≤ n + 1 := fun n _ => by unfold most; split <;> omega
  refine CW.seq (CW.block (CW.seq (CW.plain ?_)))
  -- the first case
  refine RL.pure rfl rfl rfl rfl ?_
  refine RL.len rfl rfl rfl rfl sl22 rfl ?_
  refine RL.pure rfl rfl rfl rfl ?_
  refine RL.pure rfl rfl rfl rfl ?_
  refine RL.part 14 rfl (fun h => ?_) (fun h => ?_)
  · have h' : 0 < (uniq xs).length := by simpa using h
    refine RL.pure rfl rfl rfl rfl ?_
    refine RL.pure rfl rfl rfl rfl ?_
    refine RL.callF rfl rfl rfl rfl rfl rfl ca23 (sayer_ct (b1 := b) (y := true) hg3) ?_
    rintro e w4 ⟨v4, s4, A4, rfl, hle4, hg4, hax4, b4, hA4, rfl⟩
    refine ⟨_, rfl, trivial, ?_⟩
    obtain ⟨s5, hg5, hle5, hA5⟩ := hg4.letgo
    refine RL.callV rfl rfl rfl rfl rfl ca20 (count_ct hg5 (hv.up (RInt.up _) (hle4.trans hle5)) ca24 (p := says l true) (fun x hx w' hg' => says_ct hg' (hl3.up RBallot.up (hle4.trans hle5)) (h1.le (hle3.trans (hle4.trans hle5))) ((Holds.of hA4).le hA5))) ?_
    rintro v6 w6 hg6 hax6 rfl
    refine ⟨trivial, ?_⟩
    refine RL.pure rfl rfl rfl rfl ?_
    refine RL.len rfl rfl rfl rfl sl22 rfl ?_
    refine RL.callV rfl rfl rfl rfl rfl ca13 (Most_ct hg6 (rng_len (by omega))) ?_
    rintro v7 w7 hg7 hax7 rfl
    refine ⟨trivial, ?_⟩
    refine RL.pure rfl rfl rfl rfl ?_
    refine RL.pure rfl rfl rfl rfl ?_
    refine RL.pure rfl rfl rfl rfl ?_
    refine RL.done ?_
    refine CW.test rfl (fun hc => ?_) (fun hc => ?_)
    · refine CW.seq (CW.plain ?_)
      refine RL.pure rfl rfl rfl rfl ?_
      refine RL.done ?_
      refine CW.ret (ret (vs := [_]) ⟨_, _, rfl, rfl, rfl⟩ (Post.mk (hle1.trans (hle3.trans (hle4.trans hle5))) hg7.nil (hax1.trans (hax2.trans (hax4.trans (hax6.trans hax7)))) (congrArg i64 ?_)))
      rw [tallyP, if_pos ⟨h', by omega⟩]
    · have hneg : ¬ (0 < (uniq xs).length ∧ most (uniq xs).length ≤ ((uniq xs).countP (says l true) : Nat)) := by omega
      refine CW.seq (CW.plain ?_)
      refine RL.pure rfl rfl rfl rfl ?_
      refine RL.len rfl rfl rfl rfl sl22 rfl ?_
      refine RL.pure rfl rfl rfl rfl ?_
      refine RL.pure rfl rfl rfl rfl ?_
      refine RL.callF rfl rfl rfl rfl rfl rfl ca23 (sayer_ct (b1 := b) (y := false) hg7) ?_
      rintro e w14 ⟨v14, s14, A14, rfl, hle14, hg14, hax14, b14, hA14, rfl⟩
      refine ⟨_, rfl, trivial, ?_⟩
      obtain ⟨s15, hg15, hle15, hA15⟩ := hg14.letgo
      have l3 := (hle4.trans hle5 : Le s3 _)
      refine RL.callV rfl rfl rfl rfl rfl ca20 (count_ct hg15 (hv.up (RInt.up _) (l3.trans (hle14.trans hle15))) ca24 (p := says l false) (fun x hx w' hg' => says_ct hg' (hl3.up RBallot.up (l3.trans (hle14.trans hle15))) (h1.le (hle3.trans (l3.trans (hle14.trans hle15)))) ((Holds.of hA14).le hA15))) ?_
      rintro v16 w16 hg16 hax16 rfl
      refine ⟨trivial, ?_⟩
      have hcf := hP false (says l false)
      refine RL.sub rfl rfl rfl rfl rfl rfl ((by simp only [rng]; omega)) ?_
      refine RL.pure rfl rfl rfl rfl ?_
      refine RL.len rfl rfl rfl rfl sl22 rfl ?_
      refine RL.callV rfl rfl rfl rfl rfl ca13 (Most_ct hg16 (rng_len (by omega))) ?_
      rintro v17 w17 hg17 hax17 rfl
      refine ⟨trivial, ?_⟩
      refine RL.pure rfl rfl rfl rfl ?_
      refine RL.pure rfl rfl rfl rfl ?_
      refine RL.done ?_
      refine CW.test rfl (fun hd => ?_) (fun hd => ?_)
      · refine CW.seq (CW.plain ?_)
        refine RL.pure rfl rfl rfl rfl ?_
        refine RL.done ?_
        refine CW.ret (ret (vs := [_]) ⟨_, _, rfl, rfl, rfl⟩ (Post.mk ((hle1.trans (hle3.trans (hle4.trans hle5))).trans (hle14.trans hle15)) hg17.nil ((hax1.trans (hax2.trans (hax4.trans (hax6.trans hax7)))).trans (hax14.trans (hax16.trans hax17))) (congrArg i64 ?_)))
        rw [tallyP, if_neg hneg, if_pos hd]
      · refine CW.skip ?_
        refine CW.seq (CW.plain ?_)
        refine RL.pure rfl rfl rfl rfl ?_
        refine RL.done ?_
        refine CW.ret (ret (vs := [_]) ⟨_, _, rfl, rfl, rfl⟩ (Post.mk ((hle1.trans (hle3.trans (hle4.trans hle5))).trans (hle14.trans hle15)) hg17.nil ((hax1.trans (hax2.trans (hax4.trans (hax6.trans hax7)))).trans (hax14.trans (hax16.trans hax17))) (congrArg i64 ?_)))
        rw [tallyP, if_neg hneg, if_neg hd]
  · have h' : ¬ 0 < (uniq xs).length := by simpa using h
    have hneg : ¬ (0 < (uniq xs).length ∧ most (uniq xs).length ≤ ((uniq xs).countP (says l true) : Nat)) := by omega
    refine RL.pass rfl rfl rfl ?_
    refine RL.pass rfl rfl rfl ?_
    refine RL.pass rfl rfl rfl ?_
    refine RL.pass rfl rfl rfl ?_
    refine RL.pass rfl rfl rfl ?_
    refine RL.pass rfl rfl rfl ?_
    refine RL.pass rfl rfl rfl ?_
    refine RL.pass rfl rfl rfl ?_
    refine RL.pure rfl rfl rfl rfl ?_
    refine RL.pure rfl rfl rfl rfl ?_
    refine RL.done ?_
    refine CW.cond rfl (fun hc => ?_) (fun _ => ?_)
    · cases hc
    · skip
      refine CW.seq (CW.plain ?_)
      refine RL.pure rfl rfl rfl rfl ?_
      refine RL.len rfl rfl rfl rfl sl22 rfl ?_
      refine RL.pure rfl rfl rfl rfl ?_
      refine RL.pure rfl rfl rfl rfl ?_
      refine RL.callF rfl rfl rfl rfl rfl rfl ca23 (sayer_ct (b1 := b) (y := false) hg3) ?_
      rintro e w14 ⟨v14, s14, A14, rfl, hle14, hg14, hax14, b14, hA14, rfl⟩
      refine ⟨_, rfl, trivial, ?_⟩
      obtain ⟨s15, hg15, hle15, hA15⟩ := hg14.letgo
      have l3 := (Le.refl _ : Le s3 _)
      refine RL.callV rfl rfl rfl rfl rfl ca20 (count_ct hg15 (hv.up (RInt.up _) (l3.trans (hle14.trans hle15))) ca24 (p := says l false) (fun x hx w' hg' => says_ct hg' (hl3.up RBallot.up (l3.trans (hle14.trans hle15))) (h1.le (hle3.trans (l3.trans (hle14.trans hle15)))) ((Holds.of hA14).le hA15))) ?_
      rintro v16 w16 hg16 hax16 rfl
      refine ⟨trivial, ?_⟩
      have hcf := hP false (says l false)
      refine RL.sub rfl rfl rfl rfl rfl rfl ((by simp only [rng]; omega)) ?_
      refine RL.pure rfl rfl rfl rfl ?_
      refine RL.len rfl rfl rfl rfl sl22 rfl ?_
      refine RL.callV rfl rfl rfl rfl rfl ca13 (Most_ct hg16 (rng_len (by omega))) ?_
      rintro v17 w17 hg17 hax17 rfl
      refine ⟨trivial, ?_⟩
      refine RL.pure rfl rfl rfl rfl ?_
      refine RL.pure rfl rfl rfl rfl ?_
      refine RL.done ?_
      refine CW.test rfl (fun hd => ?_) (fun hd => ?_)
      · refine CW.seq (CW.plain ?_)
        refine RL.pure rfl rfl rfl rfl ?_
        refine RL.done ?_
        refine CW.ret (ret (vs := [_]) ⟨_, _, rfl, rfl, rfl⟩ (Post.mk ((hle1.trans hle3).trans (hle14.trans hle15)) hg17.nil ((hax1.trans hax2).trans (hax14.trans (hax16.trans hax17))) (congrArg i64 ?_)))
        rw [tallyP, if_neg hneg, if_pos hd]
      · refine CW.skip ?_
        refine CW.seq (CW.plain ?_)
        refine RL.pure rfl rfl rfl rfl ?_
        refine RL.done ?_
        refine CW.ret (ret (vs := [_]) ⟨_, _, rfl, rfl, rfl⟩ (Post.mk ((hle1.trans hle3).trans (hle14.trans hle15)) hg17.nil ((hax1.trans hax2).trans (hax14.trans (hax16.trans hax17))) (congrArg i64 ?_)))
        rw [tallyP, if_neg hneg, if_neg hd]
end Go.Lw
