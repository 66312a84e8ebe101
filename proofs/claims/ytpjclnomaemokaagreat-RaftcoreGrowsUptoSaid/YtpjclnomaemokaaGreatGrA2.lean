/-
  Parts of the proof of RaftcoreGrowsUptoSaid: the walk engine: QuorumC, QuorumD, QuorumL, QuorumF, SortRow, SortA, SortB, SortC, SortD, SortE, SortF, SortG.
-/
import Derived.Test.YtpjclnomaemokaaGreatGrA1
import Derived.Sort.AssemblyPlain
import Derived.Shelf.SortM.So_math_bits_LenIn
import Derived.Sort.EveryDepth
import Derived.Sort.WalkA14
import Derived.Sort.LotD1

/-
 Quorum: how a vote stands, by the program.
-/
namespace Go.Lw
open Go.Proofs
abbrev Ballot := Int × Bool
def RBallot : Res → List Value → Ballot → Prop := fun _ vs x => vs = [i64 x.1, .bool x.2] ∧ rng .i64 x.1
theorem RBallot.up : Up RBallot := fun _ _ _ _ _ h => h
theorem RBallot.one : One RBallot := fun _ vs x h v hv => by rw [h.1] at hv; simp at hv; rcases hv with rfl | rfl <;> rfl
abbrev Ballots (s : Res) (a : Option Addr) (c : Nat) (xs : List Ballot) : Prop := Imm RBallot 2 s a c xs
def isOf (n : Int) (b : Ballot) : Bool := b.1 == n
def vote (l : List Ballot) (n : Int) : Option Bool := (l.find? (isOf n)).map (·.2)
def says (l : List Ballot) (y : Bool) (n : Int) : Bool := vote l n == some y
def tallyP (v : List Int) (l : List Ballot) : Int :=
 if 0 < v.length ∧ most v.length ≤ (v.countP (says l true) : Nat) then 1 else if (v.length : Int) - (v.countP (says l false) : Nat) < most v.length then -1 else 0
theorem find_take_none {α : Type} {p : α → Bool} {xs : List α} {k : Nat} (hk : k < xs.length) (h : (xs.take k).find? p = none) (hp : p xs[k] = false) : (xs.take (k + 1)).find? p = none := by
 rw [List.take_succ_eq_append_getElem hk, List.find?_append, h]
 simp [hp]
theorem find_take_some {α : Type} {p : α → Bool} {xs : List α} {k : Nat} (hk : k < xs.length) (h : (xs.take k).find? p = none) (hp : p xs[k] = true) : xs.find? p = some xs[k] := by
 have e : xs = xs.take k ++ (xs[k] :: xs.drop (k + 1)) := by simp
 have e2 := congrArg (List.find? p) e
 rw [List.find?_append, h] at e2
 rw [e2, List.find?_cons, hp]
 rfl
set_option maxRecDepth 100000 in
theorem IndexBl_ct {w : World} {s : Res} {os : List Res} {xs : List Ballot} {xa : Option Addr} {xc g : Nat} {cap : Array Value} {p : Ballot → Bool} (hg : Good w s os) (hx : Ballots s xa xc xs) (hc : callable Tryz.prog g = true)
  (hp : ∀ x ∈ xs, ∀ w', Good w' s os → Calls Tryz.prog g (#[.agg #[i64 x.1, .bool x.2]] ++ cap) w' (PostV w' s os fun r => r = .bool (p x))) :
  Calls Tryz.prog 170 #[.slice xa xs.length xc, .func (.func g) #[] cap] w
   (PostV w s os fun r => ∃ i : Int, r = i64 i ∧ rng .i64 i ∧ ((i < 0 ∧ xs.find? p = none) ∨ (0 ≤ i ∧ ∃ h : i.toNat < xs.length, xs.find? p = some xs[i.toNat]))) := by
 refine enter (l := [.slice xa xs.length xc, .func (.func g) #[] cap]) Tryz.func170 rfl Tryz.ntmps170 rfl ?_
 refine CW.seq (CW.plain ?_)
 refine RL.pd ?_
 refine CW.seq (CW.seq (CW.plain ?_))
 refine RL.pu ?_
 refine RL.len rfl rfl rfl rfl sl39 rfl ?_
 refine RL.pd ?_
 have hlen := hx.le_max
 simp only [maxLen] at hlen
 refine CW.block (CW.loop (σ := Nat) (fun j E w' => Good w' s os ∧ Aux w w' ∧ ∃ k : Nat, E = [(0, .slice xa xs.length xc), (1, .func (.func g) #[] cap), (7, i64 xs.length), (8, i64 k)] ∧ k + j = xs.length ∧ (xs.take k).find? p = none)
  (fun j => j) xs.length [(0, .slice xa xs.length xc), (1, .func (.func g) #[] cap), (7, i64 xs.length), (8, i64 0)] ⟨rfl, rfl, rfl, rfl, trivial⟩ ⟨hg, Aux.refl _, 0, rfl, by omega, rfl⟩ ?_)
 rintro j E w1 ⟨hg1, hax1, k, rfl, hk, hno⟩
 refine CW.seq (CW.plain ?_)
 refine RL.pd ?_
 refine CW.seq (CW.test rfl (fun h => ?_) (fun h => ?_))
 ·
  refine CW.skip ?_
  have hkl : k < xs.length := by omega
  refine CW.seq (CW.block (CW.seq (CW.plain ?_)))
  refine RL.pu ?_
  refine RL.pd ?_
  refine CW.seq (CW.plain ?_)
  refine RL.pp ?_
  refine RL.pu ?_
  refine RL.idx rfl rfl rfl rfl sl39 rfl rfl (hx) (by omega) (by omega) ?_
  rintro q vs hvl hH ⟨rfl, hr'⟩
  refine RL.loads rfl rfl rfl rfl ty133 rfl (hH) (hg1.sh) rfl rfl ?_
  refine RL.callF rfl rfl rfl rfl rfl rfl hc (hp xs[k] (List.getElem_mem hkl) w1 hg1) ?_
  rintro e w2 ⟨v2, rfl, hg2, hax2, rfl⟩
  refine ⟨_, rfl, trivial, ?_⟩
  refine RL.done ?_
  refine CW.cond rfl (fun hb => ?_) (fun hb => ?_)
  ·
   refine CW.seq (CW.plain ?_)
   refine RL.pu ?_
   refine RL.pd ?_
   exact CW.ret (ret (vs := [_]) ⟨_, _, rfl, rfl, rfl⟩ (PostV.mk hg2 (hax1.trans hax2) ⟨k, rfl, by simp only [rng]; omega, .inr ⟨by omega, by omega, find_take_some hkl hno hb⟩⟩))
  ·
   refine CW.skip (CW.plain ?_)
   refine RL.add rfl rfl rfl rfl rfl rfl (by simp only [rng] at *; omega) ?_
   refine RL.pd ?_
   cases j with
   | zero => omega
   | succ j =>
    refine fun ac ha => ⟨j, [(0, .slice xa xs.length xc), (1, .func (.func g) #[] cap), (7, i64 xs.length), (8, i64 ((k : Int) + 1))], ha.sub ⟨rfl, rfl, rfl, rfl, trivial⟩, ⟨hg2, hax1.trans hax2, k + 1, rfl, by omega, find_take_none hkl hno hb⟩, Nat.lt_succ_self j⟩
 ·
  refine CW.exit (CW.seq (CW.plain ?_))
  have hkl : k = xs.length := by omega
  refine RL.pd ?_
  rw [hkl, List.take_length] at hno
  exact CW.ret (ret (vs := [_]) ⟨_, _, rfl, rfl, rfl⟩ (PostV.mk hg1 hax1 ⟨-1, rfl, by simp only [rng]; omega, .inl ⟨by decide, hno⟩⟩))
set_option maxRecDepth 100000 in
theorem isOf_ct {w : World} {s : Res} {os : List Res} {x : Ballot} {n : Int} {b : Nat} (hg : Good w s os) (hb : Holds s ⟨b, 0, none⟩ [i64 n]) :
  Calls Tryz.prog 171 #[.agg #[i64 x.1, .bool x.2], ptr b] w (PostV w s os fun r => r = .bool (isOf n x)) := by
 refine enter (l := [.agg #[i64 x.1, .bool x.2], ptr b]) Tryz.func171 rfl Tryz.ntmps171 rfl ?_
 refine CW.seq (CW.plain ?_)
 refine RL.box rfl rfl rfl rfl rfl hg ?_
 rintro p w1 hg1 hax1
 refine ⟨trivial, ?_⟩
 refine RL.pd ?_
 refine CW.seq (CW.plain ?_)
 refine RL.fi fl133_0 ?_
 refine RL.load rfl rfl rfl rfl ty3 rfl ((Holds.of (if_pos rfl))) (hg1.1) rfl ?_
 refine RL.load (j := 0) rfl rfl rfl rfl ty3 rfl (hb) (hg1.sh) rfl ?_
 refine RL.pu ?_
 refine RL.pd ?_
 exact CW.ret (ret (vs := [_]) ⟨_, _, rfl, rfl, rfl⟩ (PostV.mk hg1.drop hax1 rfl))
set_option maxRecDepth 100000 in
theorem says_ct {w : World} {s : Res} {os : List Res} {l : List Ballot} {la : Option Addr} {lc b1 b2 : Nat} {n : Int} {y : Bool} (hg : Good w s os) (hl : Ballots s la lc l) (h1 : Holds s ⟨b1, 0, none⟩ [.slice la l.length lc]) (h2 : Holds s ⟨b2, 0, none⟩ [.bool y]) :
  Calls Tryz.prog 169 #[i64 n, ptr b1, ptr b2] w (PostV w s os fun r => r = .bool (says l y n)) := by
 refine enter (l := [i64 n, ptr b1, ptr b2]) Tryz.func169 rfl Tryz.ntmps169 rfl ?_
 refine CW.seq (CW.plain ?_)
 refine RL.box rfl rfl rfl rfl rfl hg ?_
 rintro p w1 hg1 hax1
 refine ⟨trivial, ?_⟩
 refine RL.pd ?_
 obtain ⟨hg1', hl1, hl2, hback⟩ := hg1.lend
 have hp : Holds (s.join (Res.one p (.cells #[i64 n] 3))) ⟨p, 0, none⟩ [i64 n] := (Holds.of (if_pos rfl)).le hl2
 refine CW.seq (CW.plain ?_)
 refine RL.load (j := 0) rfl rfl rfl rfl ty39 rfl (h1) (hg1.sh) rfl ?_
 refine RL.makeF rfl rfl rfl rfl rfl ?_
 refine RL.callV rfl rfl rfl rfl rfl ca170 (IndexBl_ct hg1' (hl.up RBallot.up hl1) ca171 (p := isOf n) (fun x _ w' hg' => isOf_ct hg' hp)) ?_
 rintro v2 w2 hg2 hax2 ⟨i, rfl, hri, hfind⟩
 refine ⟨trivial, ?_⟩
 refine RL.pd ?_
 have hg2' := hback w2 hg2
 refine CW.seq ?_
 refine CW.draws [(true, 0), (true, 1), (true, 2), (true, 3), (true, 4), (true, 5), (true, 6), (true, 7), (true, 8), (true, 9), (true, 10), (false, 11)] (fun w' => Good w' s os) mixed (by kernel_rfl) (by kernel_rfl) (by kernel_rfl) (by kernel_rfl) hg2'.drop.drew ?_
 refine RL.pp ?_
 refine RL.pu ?_
 refine RL.part 11 rfl (fun h => ?_) (fun h => ?_)
 ·
  have hi : 0 ≤ i := by simpa using h
  rcases hfind with ⟨h0, _⟩ | ⟨h0, hil, hf⟩
  ·
   omega
  refine RL.loadT (j := 0) rfl rfl rfl rfl ty39 rfl (h1) (fun w h => h.sh) rfl ?_
  refine RL.pu ?_
  refine RL.idx rfl rfl rfl rfl sl39 rfl rfl (hl) (h0) (by omega) ?_
  rintro q vs hvl hH ⟨rfl, hr'⟩
  refine RL.fi fl133_1 ?_
  refine RL.loadT rfl rfl rfl rfl ty4 rfl (hH) (fun w h => h.sh) rfl ?_
  refine RL.loadT (j := 0) rfl rfl rfl rfl ty4 rfl (h2) (fun w h => h.sh) rfl ?_
  refine RL.bEq rfl rfl rfl rfl Tryz.underlying4 rfl rfl ?_
  refine RL.pu ?_
  refine RL.pd ?_
  refine CW.ret (ret (vs := [_]) ⟨_, _, rfl, rfl, rfl⟩ (PostV.mk hg2'.drop.drew (hax1.trans (hax2.trans (Aux.drew _))) (congrArg Value.bool ?_)))
  rw [says, vote, hf]
  simp
 ·
  have hi : i < 0 := by simpa using h
  rcases hfind with ⟨_, hf⟩ | ⟨h0, hil, hf⟩
  ·
   refine RL.pa ?_
   refine RL.qq ?_
   refine RL.qq ?_
   refine RL.qq ?_
   refine RL.pu ?_
   refine RL.pd ?_
   refine CW.ret (ret (vs := [_]) ⟨_, _, rfl, rfl, rfl⟩ (PostV.mk hg2'.drop.drew (hax1.trans (hax2.trans (Aux.drew _))) (congrArg Value.bool ?_)))
   rw [says, vote, hf]
   simp
  ·
   omega
set_option maxRecDepth 100000 in
theorem sayer_ct {w : World} {s : Res} {os : List Res} {b1 : Nat} {y : Bool} (hg : Good w s os) :
  Calls Tryz.prog 168 #[.bool y, ptr b1] w (Post w s os fun _ A r => ∃ b2, A b2 = some (.cells #[.bool y] 4) ∧ r = .func (.func 169) #[] #[ptr b1, ptr b2]) := by
 refine enter (l := [.bool y, ptr b1]) Tryz.func168 rfl Tryz.ntmps168 rfl ?_
 refine CW.seq (CW.plain ?_)
 refine RL.box rfl rfl rfl rfl rfl hg ?_
 rintro p w1 hg1 hax1
 refine ⟨trivial, ?_⟩
 refine RL.pd ?_
 refine CW.seq (CW.plain ?_)
 refine RL.makeF rfl rfl rfl rfl rfl ?_
 refine RL.pd ?_
 exact CW.ret (ret (vs := [_]) ⟨_, _, rfl, rfl, rfl⟩ (Post.mk (Le.refl _) hg1 hax1 ⟨p, if_pos rfl, rfl⟩))
set_option maxRecDepth 100000 in
theorem Tally_ct {w : World} {s : Res} {os : List Res} {xs : List Int} {l : List Ballot} {xa la : Option Addr} {xc lc : Nat} (hg : Good w s os) (hx : Ints s xa xc xs) (hl : Ballots s la lc l) (hb : xs.length * 8 ≤ 140737488355328) :
  Calls Tryz.prog 147 #[.slice xa xs.length xc, .slice la l.length lc] w (Post w s os fun _ _ r => r = i64 (tallyP (uniq xs) l)) := by
 have hul := uniq_le xs
 refine enter (l := [.slice xa xs.length xc, .slice la l.length lc]) Tryz.func147 rfl Tryz.ntmps147 rfl ?_
 refine CW.seq (CW.plain ?_)
 refine RL.box rfl rfl rfl rfl rfl hg ?_
 rintro b w1 hg1 hax1
 refine ⟨trivial, ?_⟩
 refine RL.pd ?_
 obtain ⟨s1, hg1', hle1, hB1⟩ := hg1.letgo
 have h1 : Holds s1 ⟨b, 0, none⟩ [.slice la l.length lc] := (Holds.of (if_pos rfl)).le hB1
 refine CW.seq (CW.plain ?_)
 refine RL.pu ?_
 refine RL.call rfl rfl rfl rfl rfl ca164 (once_ct hg1' (hx.up (RInt.up _) hle1) hb) ?_
 rintro v2 s2 A2 w2 hle2 hg2 hax2 ⟨rfl, a2, c2, rfl, ho2⟩
 refine ⟨trivial, ?_⟩
 refine RL.pd ?_
 obtain ⟨s3, hg3, hle3, hA3⟩ := hg2.letgo
 have hv : Ints s3 a2 c2 (uniq xs) := ho2.imm (RInt.up _) hle3 hA3
 have hl3 : Ballots s3 la lc l := hl.up RBallot.up (hle1.trans hle3)
 have hP : ∀ (y : Bool) (p : Int → Bool), (uniq xs).countP p ≤ (uniq xs).length := fun _ p => List.countP_le_length
 have hR : ∀ n : Nat, n ≤ (uniq xs).length → rng .i64 (n : Int) := fun n hn => rng_len (by omega)
 refine CW.seq (CW.plain ?_)
 refine RL.makeF rfl rfl rfl rfl rfl ?_
 refine RL.pd ?_
 have hmost : ∀ n : Nat, n ≤ 140737488355328 → 0 ≤ most n ∧ most n ≤ n + 1 := fun n _ => by unfold most; split <;> omega
 refine CW.seq (CW.block (CW.seq (CW.plain ?_)))
 -- the first case
 refine RL.pu ?_
 refine RL.len rfl rfl rfl rfl sl25 rfl ?_
 refine RL.pp ?_
 refine RL.part 14 rfl (fun h => ?_) (fun h => ?_)
 ·
  have h' : 0 < (uniq xs).length := by simpa using h
  refine RL.pp ?_
  refine RL.callF rfl rfl rfl rfl rfl rfl ca168 (sayer_ct (b1 := b) (y := true) hg3) ?_
  rintro e w4 ⟨v4, s4, A4, rfl, hle4, hg4, hax4, b4, hA4, rfl⟩
  refine ⟨_, rfl, trivial, ?_⟩
  obtain ⟨s5, hg5, hle5, hA5⟩ := hg4.letgo
  refine RL.callV rfl rfl rfl rfl rfl ca172 (count_ct hg5 (hv.up (RInt.up _) (hle4.trans hle5)) ca169 (p := says l true) (fun x hx w' hg' => says_ct hg' (hl3.up RBallot.up (hle4.trans hle5)) (h1.le (hle3.trans (hle4.trans hle5))) ((Holds.of hA4).le hA5))) ?_
  rintro v6 w6 hg6 hax6 rfl
  refine ⟨trivial, ?_⟩
  refine RL.pu ?_
  refine RL.len rfl rfl rfl rfl sl25 rfl ?_
  refine RL.callV rfl rfl rfl rfl rfl ca166 (Most_ct hg6 (rng_len (by omega))) ?_
  rintro v7 w7 hg7 hax7 rfl
  refine ⟨trivial, ?_⟩
  refine RL.pp ?_
  refine RL.pd ?_
  refine CW.test rfl (fun hc => ?_) (fun hc => ?_)
  ·
   refine CW.seq (CW.plain ?_)
   refine RL.pd ?_
   refine CW.ret (ret (vs := [_]) ⟨_, _, rfl, rfl, rfl⟩ (Post.mk (hle1.trans (hle3.trans (hle4.trans hle5))) hg7.nil (hax1.trans (hax2.trans (hax4.trans (hax6.trans hax7)))) (congrArg i64 ?_)))
   rw [tallyP, if_pos ⟨h', by omega⟩]
  ·
   have hneg : ¬ (0 < (uniq xs).length ∧ most (uniq xs).length ≤ ((uniq xs).countP (says l true) : Nat)) := by omega
   refine CW.seq (CW.plain ?_)
   refine RL.pu ?_
   refine RL.len rfl rfl rfl rfl sl25 rfl ?_
   refine RL.pp ?_
   refine RL.callF rfl rfl rfl rfl rfl rfl ca168 (sayer_ct (b1 := b) (y := false) hg7) ?_
   rintro e w14 ⟨v14, s14, A14, rfl, hle14, hg14, hax14, b14, hA14, rfl⟩
   refine ⟨_, rfl, trivial, ?_⟩
   obtain ⟨s15, hg15, hle15, hA15⟩ := hg14.letgo
   have l3 := (hle4.trans hle5 : Le s3 _)
   refine RL.callV rfl rfl rfl rfl rfl ca172 (count_ct hg15 (hv.up (RInt.up _) (l3.trans (hle14.trans hle15))) ca169 (p := says l false) (fun x hx w' hg' => says_ct hg' (hl3.up RBallot.up (l3.trans (hle14.trans hle15))) (h1.le (hle3.trans (l3.trans (hle14.trans hle15)))) ((Holds.of hA14).le hA15))) ?_
   rintro v16 w16 hg16 hax16 rfl
   refine ⟨trivial, ?_⟩
   have hcf := hP false (says l false)
   refine RL.sub rfl rfl rfl rfl rfl rfl ((by simp only [rng]; omega)) ?_
   refine RL.pu ?_
   refine RL.len rfl rfl rfl rfl sl25 rfl ?_
   refine RL.callV rfl rfl rfl rfl rfl ca166 (Most_ct hg16 (rng_len (by omega))) ?_
   rintro v17 w17 hg17 hax17 rfl
   refine ⟨trivial, ?_⟩
   refine RL.pu ?_
   refine RL.pd ?_
   refine CW.test rfl (fun hd => ?_) (fun hd => ?_)
   ·
    refine CW.seq (CW.plain ?_)
    refine RL.pd ?_
    refine CW.ret (ret (vs := [_]) ⟨_, _, rfl, rfl, rfl⟩ (Post.mk ((hle1.trans (hle3.trans (hle4.trans hle5))).trans (hle14.trans hle15)) hg17.nil ((hax1.trans (hax2.trans (hax4.trans (hax6.trans hax7)))).trans (hax14.trans (hax16.trans hax17))) (congrArg i64 ?_)))
    rw [tallyP, if_neg hneg, if_pos hd]
   ·
    refine CW.skip ?_
    refine CW.seq (CW.plain ?_)
    refine RL.pd ?_
    refine CW.ret (ret (vs := [_]) ⟨_, _, rfl, rfl, rfl⟩ (Post.mk ((hle1.trans (hle3.trans (hle4.trans hle5))).trans (hle14.trans hle15)) hg17.nil ((hax1.trans (hax2.trans (hax4.trans (hax6.trans hax7)))).trans (hax14.trans (hax16.trans hax17))) (congrArg i64 ?_)))
    rw [tallyP, if_neg hneg, if_neg hd]
 ·
  have h' : ¬ 0 < (uniq xs).length := by simpa using h
  have hneg : ¬ (0 < (uniq xs).length ∧ most (uniq xs).length ≤ ((uniq xs).countP (says l true) : Nat)) := by omega
  refine RL.qq ?_
  refine RL.qq ?_
  refine RL.qq ?_
  refine RL.qq ?_
  refine RL.pu ?_
  refine RL.pd ?_
  refine CW.cond rfl (fun hc => ?_) (fun _ => ?_)
  ·
   cases hc
  ·
   refine CW.seq (CW.plain ?_)
   refine RL.pu ?_
   refine RL.len rfl rfl rfl rfl sl25 rfl ?_
   refine RL.pp ?_
   refine RL.callF rfl rfl rfl rfl rfl rfl ca168 (sayer_ct (b1 := b) (y := false) hg3) ?_
   rintro e w14 ⟨v14, s14, A14, rfl, hle14, hg14, hax14, b14, hA14, rfl⟩
   refine ⟨_, rfl, trivial, ?_⟩
   obtain ⟨s15, hg15, hle15, hA15⟩ := hg14.letgo
   have l3 := (Le.refl _ : Le s3 _)
   refine RL.callV rfl rfl rfl rfl rfl ca172 (count_ct hg15 (hv.up (RInt.up _) (l3.trans (hle14.trans hle15))) ca169 (p := says l false) (fun x hx w' hg' => says_ct hg' (hl3.up RBallot.up (l3.trans (hle14.trans hle15))) (h1.le (hle3.trans (l3.trans (hle14.trans hle15)))) ((Holds.of hA14).le hA15))) ?_
   rintro v16 w16 hg16 hax16 rfl
   refine ⟨trivial, ?_⟩
   have hcf := hP false (says l false)
   refine RL.sub rfl rfl rfl rfl rfl rfl ((by simp only [rng]; omega)) ?_
   refine RL.pu ?_
   refine RL.len rfl rfl rfl rfl sl25 rfl ?_
   refine RL.callV rfl rfl rfl rfl rfl ca166 (Most_ct hg16 (rng_len (by omega))) ?_
   rintro v17 w17 hg17 hax17 rfl
   refine ⟨trivial, ?_⟩
   refine RL.pu ?_
   refine RL.pd ?_
   refine CW.test rfl (fun hd => ?_) (fun hd => ?_)
   ·
    refine CW.seq (CW.plain ?_)
    refine RL.pd ?_
    refine CW.ret (ret (vs := [_]) ⟨_, _, rfl, rfl, rfl⟩ (Post.mk ((hle1.trans hle3).trans (hle14.trans hle15)) hg17.nil ((hax1.trans hax2).trans (hax14.trans (hax16.trans hax17))) (congrArg i64 ?_)))
    rw [tallyP, if_neg hneg, if_pos hd]
   ·
    refine CW.skip ?_
    refine CW.seq (CW.plain ?_)
    refine RL.pd ?_
    refine CW.ret (ret (vs := [_]) ⟨_, _, rfl, rfl, rfl⟩ (Post.mk ((hle1.trans hle3).trans (hle14.trans hle15)) hg17.nil ((hax1.trans hax2).trans (hax14.trans (hax16.trans hax17))) (congrArg i64 ?_)))
    rw [tallyP, if_neg hneg, if_neg hd]
end Go.Lw

/-
 Quorum: how a vote stands, by the document; the live question.
-/
namespace Go.Lw
open Go.Proofs
/-! ### the live question -/
end Go.Lw

/-
 Quorum: majorities and votes: the plain laws.
-/
namespace Go.Lw
theorem countP_apart (p q : Int → Bool) (h : ∀ x, p x = true → q x = false) : ∀ v : List Int, v.countP p + v.countP q ≤ v.length
 | [] => by simp
 | x :: v => by
  have := countP_apart p q h v
  have hx := h x
  simp only [List.countP_cons, List.length_cons]
  cases e1 : p x <;> cases e2 : q x <;> simp_all <;> omega
theorem countP_mono (p q : Int → Bool) (h : ∀ x, p x = true → q x = true) : ∀ v : List Int, v.countP p ≤ v.countP q
 | [] => by simp
 | x :: v => by
  have := countP_mono p q h v
  have hx := h x
  simp only [List.countP_cons]
  cases e1 : p x <;> cases e2 : q x <;> simp_all <;> omega
theorem most_pos {n : Nat} (h : 0 < n) : most (n : Int) = n / 2 + 1 := by unfold most; rw [if_neg (by omega)]
theorem vote_more {l more : List Ballot} {n : Int} {y : Bool} (h : says l y n = true) : says (l ++ more) y n = true := by
 simp only [says, vote] at *
 rw [List.find?_append]
 cases hf : l.find? (isOf n) with
 | none => simp [hf] at h
 | some b => simpa [hf] using h
theorem says_apart {l : List Ballot} {n : Int} (h : says l true n = true) : says l false n = false := by
 simp only [says] at *
 have : vote l n = some true := by simpa using h
 rw [this]; rfl
theorem stays (v : List Int) (l more : List Ballot) : tallyP v l = 0 ∨ tallyP v (l ++ more) = tallyP v l := by
 have h1 := countP_mono (says l true) (says (l ++ more) true) (fun _ h => vote_more h) v
 have h2 := countP_mono (says l false) (says (l ++ more) false) (fun _ h => vote_more h) v
 have h3 := countP_apart (says (l ++ more) true) (says (l ++ more) false) (fun _ h => says_apart h) v
 by_cases ha : 0 < v.length ∧ most v.length ≤ (v.countP (says l true) : Nat)
 ·
  right
  have hb : 0 < v.length ∧ most v.length ≤ (v.countP (says (l ++ more) true) : Nat) := ⟨ha.1, by omega⟩
  simp only [tallyP, if_pos ha, if_pos hb]
 ·
  by_cases hc : (v.length : Int) - (v.countP (says l false) : Nat) < most v.length
  ·
   right
   have hb : ¬ (0 < v.length ∧ most v.length ≤ (v.countP (says (l ++ more) true) : Nat)) := by omega
   have hd : (v.length : Int) - (v.countP (says (l ++ more) false) : Nat) < most v.length := by omega
   simp only [tallyP, if_neg ha, if_pos hc, if_neg hb, if_pos hd]
  ·
   left
   simp only [tallyP, if_neg ha, if_neg hc]
end Go.Lw

/-
 Quorum: what a majority has: the plain laws.
-/
namespace Go.Lw
structure Peer where
 node : Int
 next : Int
 mat : Int
def mx (a b : Int) : Int := if b > a then b else a
def matF (x : Int) (n : Int) (p : Peer) : Int := if p.node == x then mx n p.mat else n
def matchP (l : List Peer) (x : Int) : Int := l.foldl (matF x) 0
theorem matchP_take (l : List Peer) (x : Int) (k : Nat) (hk : k < l.length) : matchP (l.take (k + 1)) x = matF x (matchP (l.take k) x) l[k] := by
 rw [List.take_succ_eq_append_getElem hk, matchP, List.foldl_append]; rfl
theorem mx_le (a b : Int) : a ≤ mx a b ∧ b ≤ mx a b ∧ (mx a b = a ∨ mx a b = b) := by unfold mx; split <;> omega
theorem fold_best {α : Type} (q : α → Bool) (f : α → Int) : ∀ (l : List α) (b0 : Int), b0 ≤ l.foldl (fun n x => if q x then mx n (f x) else n) b0 ∧ (∀ x ∈ l, q x = true → f x ≤ l.foldl (fun n x => if q x then mx n (f x) else n) b0) ∧
  (l.foldl (fun n x => if q x then mx n (f x) else n) b0 = b0 ∨ ∃ x ∈ l, q x = true ∧ f x = l.foldl (fun n x => if q x then mx n (f x) else n) b0)
 | [], b0 => by simp
 | y :: l, b0 => by
  obtain ⟨h1, h2, h3⟩ := fold_best q f l (if q y then mx b0 (f y) else b0)
  simp only [List.foldl_cons]
  generalize l.foldl (fun n x => if q x then mx n (f x) else n) (if q y then mx b0 (f y) else b0) = r at *
  obtain ⟨m1, m2, m3⟩ := mx_le b0 (f y)
  cases hq : q y with
  | true =>
   simp only [hq, if_true] at h1 h2 h3 ⊢
   refine ⟨by omega, fun x hx hqx => ?_, ?_⟩
   ·
    rcases List.mem_cons.1 hx with rfl | hx
    ·
     omega
    ·
     exact h2 x hx hqx
   ·
    rcases h3 with h3 | ⟨x, hx, hqx, he⟩
    ·
     rcases m3 with m3 | m3
     ·
      exact .inl (by omega)
     ·
      exact .inr ⟨y, by simp, hq, by omega⟩
    ·
     exact .inr ⟨x, by simp [hx], hqx, he⟩
  | false =>
   simp only [hq, Bool.false_eq_true, if_false] at h1 h2 h3 ⊢
   refine ⟨h1, fun x hx hqx => ?_, ?_⟩
   ·
    rcases List.mem_cons.1 hx with rfl | hx
    ·
     rw [hq] at hqx; cases hqx
    ·
     exact h2 x hx hqx
   ·
    rcases h3 with h3 | ⟨x, hx, hqx, he⟩
    ·
     exact .inl h3
    ·
     exact .inr ⟨x, by simp [hx], hqx, he⟩
theorem matchP_spec (l : List Peer) (x : Int) : 0 ≤ matchP l x ∧ (∀ p ∈ l, p.node = x → p.mat ≤ matchP l x) ∧ (matchP l x = 0 ∨ ∃ p ∈ l, p.node = x ∧ p.mat = matchP l x) := by
 have h := fold_best (fun p : Peer => p.node == x) (·.mat) l 0
 exact ⟨h.1, fun p hp hn => h.2.1 p hp (by simpa using hn), h.2.2.imp id fun ⟨p, h1, h2, h3⟩ => ⟨p, h1, by simpa using h2, h3⟩⟩
def IsK (M : List Int) (K : Int) (c : Int) : Prop := c ∈ M ∧ K ≤ (M.countP (fun x => decide (c ≤ x)) : Nat) ∧ (M.countP (fun x => decide (c < x)) : Nat) < K
theorem IsK.perm {M M' : List Int} {K c : Int} (h : IsK M K c) (hp : M.Perm M') : IsK M' K c := by
 obtain ⟨h1, h2, h3⟩ := h
 exact ⟨hp.mem_iff.1 h1, by rw [← hp.countP_eq]; exact h2, by rw [← hp.countP_eq]; exact h3⟩
theorem countP_imp {α : Type} (p q : α → Bool) (l : List α) (h : ∀ x ∈ l, p x = true → q x = true) : l.countP p ≤ l.countP q := by
 induction l with
 | nil => simp
 | cons x l ih =>
  have h1 := ih fun y hy => h y (by simp [hy])
  have h2 := h x (by simp)
  simp only [List.countP_cons]
  cases e1 : p x <;> cases e2 : q x <;> simp_all <;> omega
theorem IsK.above {M : List Int} {K c d : Int} (h : IsK M K c) (hd : K ≤ (M.countP (fun x => decide (d ≤ x)) : Nat)) : d ≤ c := by
 by_cases hlt : d ≤ c
 ·
  exact hlt
 ·
  have := countP_imp (fun x => decide (d ≤ x)) (fun x => decide (c < x)) M (fun x _ hx => by simp at *; omega)
  have h3 := h.2.2
  omega
theorem IsK.unique {M : List Int} {K c d : Int} (h : IsK M K c) (k : IsK M K d) : c = d := Int.le_antisymm (k.above h.2.1) (h.above k.2.1)
def Com (M : List Int) (c : Int) : Prop := (M = [] ∧ c = 0) ∨ (M ≠ [] ∧ IsK M (most M.length) c)
theorem Com.unique {M M' : List Int} {c d : Int} (h : Com M c) (k : Com M' d) (hp : M.Perm M') : c = d := by
 rcases h with ⟨rfl, rfl⟩ | ⟨h1, h2⟩
 ·
  rcases k with ⟨_, rfl⟩ | ⟨k1, _⟩
  ·
   rfl
  ·
   exact absurd (List.nil_perm.1 hp) k1
 ·
  rcases k with ⟨rfl, _⟩ | ⟨k1, k2⟩
  ·
   exact absurd (List.perm_nil.1 hp) h1
  ·
   exact (h2.perm hp).unique (by rw [hp.length_eq]; exact k2)
theorem Com.grows {v : List Int} {f f' : Int → Int} {c d : Int} (hf : ∀ x, f x ≤ f' x) (h : Com (v.map f) c) (k : Com (v.map f') d) : c ≤ d := by
 rcases h with ⟨h1, rfl⟩ | ⟨h1, h2⟩
 ·
  rcases k with ⟨_, rfl⟩ | ⟨k1, _⟩
  ·
   omega
  ·
   simp at h1; subst h1; simp at k1
 ·
  rcases k with ⟨k1, _⟩ | ⟨k1, k2⟩
  ·
   simp at k1; subst k1; simp at h1
  ·
   simp only [List.length_map] at h2 k2
   refine k2.above ?_
   have := countP_imp ((fun x => decide (c ≤ x)) ∘ f) ((fun x => decide (c ≤ x)) ∘ f') v (fun x _ hx => by
    have := hf x
    simp at *; omega)
   have h3 := h2.2.1
   rw [List.countP_map] at h3 ⊢
   omega
theorem sorted_isK {M : List Int} {d : Array Int} (hp : d.toList.Perm M) (hs : ∀ i j, i < j → j < d.size → d[i]! ≤ d[j]!) {K : Nat} (h1 : 1 ≤ K) (hK : K ≤ d.size) : IsK M K d[d.size - K]! := by
 have hi : d.size - K < d.size := by omega
 have hs2 : ∀ i j, i ≤ j → j < d.size → d[i]! ≤ d[j]! := fun i j hij hj => by
  rcases Nat.lt_or_eq_of_le hij with h | rfl
  ·
   exact hs i j h hj
  ·
   exact Int.le_refl _
 have hget : ∀ j, (hj : j < d.size) → d.toList[j]'(by simpa using hj) = d[j]! := fun j hj => by simp [hj]
 refine IsK.perm ⟨?_, ?_, ?_⟩ hp
 ·
  rw [getElem!_pos d _ hi]; simp
 ·
  have e : d.toList = d.toList.take (d.size - K) ++ d.toList.drop (d.size - K) := by simp
  rw [e, List.countP_append]
  have : (d.toList.drop (d.size - K)).countP (fun x => decide (d[d.size - K]! ≤ x)) = (d.toList.drop (d.size - K)).length := by
   rw [List.countP_eq_length]
   intro x hx
   obtain ⟨j, hj, rfl⟩ := List.getElem_of_mem hx
   simp only [List.length_drop, Array.length_toList] at hj
   rw [List.getElem_drop, hget _ (by omega)]
   exact decide_eq_true (hs2 _ _ (by omega) (by omega))
  rw [this, List.length_drop, Array.length_toList]
  omega
 ·
  have e : d.toList = d.toList.take (d.size - K + 1) ++ d.toList.drop (d.size - K + 1) := by simp
  rw [e, List.countP_append]
  have : (d.toList.take (d.size - K + 1)).countP (fun x => decide (d[d.size - K]! < x)) = 0 := by
   rw [List.countP_eq_zero]
   intro x hx
   obtain ⟨j, hj, rfl⟩ := List.getElem_of_mem hx
   simp only [List.length_take, Array.length_toList] at hj
   rw [List.getElem_take, hget _ (by omega)]
   have := hs2 j (d.size - K) (by omega) hi
   simp only [decide_eq_true_eq]
   omega
  have h2 := List.countP_le_length (p := fun x => decide (d[d.size - K]! < x)) (l := d.toList.drop (d.size - K + 1))
  rw [List.length_drop, Array.length_toList] at h2
  omega
theorem most_le {n : Nat} (h : 0 < n) : 1 ≤ most (n : Int) ∧ most (n : Int) ≤ n := by rw [most_pos h]; omega
end Go.Lw

/-
 A row of integers of one's own: its cells read, written, two exchanged. (The sort's own words for arrays: Derived/Sort/Defs.)
-/
namespace Go.Lw
open Go.Proofs
open Go.Sort (swp size_swp)
abbrev KK : IntKind := .u64
abbrev ET : TypeId := 22
def RowAt (A : Res) (g : Nat) (rest : List Value) (d : Array Int) : Prop := A g = some (.cells (d.toList.map (Value.int KK) ++ rest).toArray ET (0, 0))
abbrev ltI : Int → Int → Bool := Go.Sort.ltInt
theorem bang (d : Array Int) {m : Nat} (h : m < d.size) : d[m]! = d[m] := getElem!_pos d m h
theorem row_get {d : Array Int} {rest : List Value} {m : Nat} (h : m < d.size) : (d.toList.map (Value.int KK) ++ rest)[m]? = some (Value.int KK d[m]!) := by
 rw [List.getElem?_append_left (by simpa using h)]
 simp [h, bang d h]
theorem row_set {d : Array Int} {rest : List Value} {m : Nat} (h : m < d.size) (x : Int) :
  (d.toList.map (Value.int KK) ++ rest).take m ++ [Value.int KK x] ++ (d.toList.map (Value.int KK) ++ rest).drop (m + 1) = ((d.setIfInBounds m x).toList.map (Value.int KK) ++ rest) := by
 have hl : m < (d.toList.map (Value.int KK)).length := by simpa using h
 rw [Array.toList_setIfInBounds, List.map_set, List.take_append_of_le_length (by omega), List.drop_append_of_le_length (by omega), List.set_eq_take_append_cons_drop, if_pos hl]
 simp
section
variable {P : Program} {n : Nat} {ops : Array Oper} {Q : Exit → Act → World → Prop} {S : World → Prop} {rest' : List (Bool × Oper)} {E : Env} {w : World} {o : Oper} {q : Nat}
variable {s A : Res} {os : List Res} {x y : Operand} {T : Bool} {g : Nat} {rest : List Value} {d : Array Int}
theorem RL.idxR {t e : TypeId} {by_ c k : Nat} {kk : IntKind} {i : Int} (m : Nat) (hg : wants ops E o = some true) (hd : o.dst = some q) (hb : Nat.blt q n = true)
  (ho : o.op = .indexAddr t x y) (ht : slc P t = some (e, 1, by_)) (hx : ev E x = some (.slice (some ⟨g, 0, none⟩) k c)) (hy : ev E y = some (.int kk i)) (hm : i = m) (h1 : m < k)
  (h : RL P n ops Q S rest' ((q, .pointer (some ((⟨g, 0, none⟩ : Addr).add m))) :: E) w) : RL P n ops Q S ((T, o) :: rest') E w := by
 refine RL.val hg hd hb (fun w ac ha => ?_) h
 unfold execOp
 simp only [ho, ha.ev hx, ha.ev hy]
 subst hm
 simp [run_indexAt ht (Int.natCast_nonneg m) (by omega : ((m : Nat) : Int) < k)]
theorem RL.loadR {t : TypeId} (m : Nat) (hg : wants ops E o = some true) (hd : o.dst = some q) (hb : Nat.blt q n = true) (ho : o.op = .load t x) (ht : tyc P t = some (false, 1))
  (hx : ev E x = some (.pointer (some ((⟨g, 0, none⟩ : Addr).add m)))) (h : RowAt A g rest d) (hin : In A w) (hm : m < d.size) (hr : RL P n ops Q S rest' ((q, .int KK d[m]!) :: E) w) : RL P n ops Q S ((false, o) :: rest') E w :=
 RL.load hg hd hb ho ht hx (Holds.of h) hin (row_get hm) hr
theorem RL.loadRT {t : TypeId} (m : Nat) (hg : wants ops E o = some true) (hd : o.dst = some q) (hb : Nat.blt q n = true) (ho : o.op = .load t x) (ht : tyc P t = some (false, 1))
  (hx : ev E x = some (.pointer (some ((⟨g, 0, none⟩ : Addr).add m)))) (h : RowAt A g rest d) (hin : ∀ w, S w → In A w) (hm : m < d.size) (hr : RL P n ops Q S rest' ((q, .int KK d[m]!) :: E) w) : RL P n ops Q S ((true, o) :: rest') E w :=
 RL.loadT hg hd hb ho ht hx (Holds.of h) hin (row_get hm) hr
theorem RL.storeR {t : TypeId} {v : Int} (m : Nat) (hg : wants ops E o = some true) (hd : o.dst = none) (ho : o.op = .store t x y) (ht : tyc P t = some (false, 1))
  (hx : ev E x = some (.pointer (some ((⟨g, 0, none⟩ : Addr).add m)))) (hy : ev E y = some (.int KK v)) (hG : Good w s (A :: os)) (h : RowAt A g rest d) (hm : m < d.size)
  (hr : ∀ w' A', Good w' s (A' :: os) → Aux w w' → RowAt A' g rest (d.setIfInBounds m v) → S w' ∧ RL P n ops Q S rest' E w') : RL P n ops Q S ((false, o) :: rest') E w := by
 refine RL.store (i := 0) (j := m) hg hd ho ht hx hy hG rfl h rfl (by simp [Value.cells, Value.oneCell']) (by simp; omega) ?_
 intro w' hG' hax
 refine hr w' _ hG' hax ?_
 have e := row_set (rest := rest) hm v
 simp only [RowAt, Res.put, if_true]
 rw [← e]
 rfl
end
end Go.Lw

/-
 The sort's small parts, walked: less, insertion, reversing, sifting, the heap.
-/
namespace Go.Lw
open Go.Proofs
open Go.Sort (swp size_swp)
abbrev SPost (w : World) (s : Res) (os : List Res) (g : Nat) (rest : List Value) (d : Array Int) : Ending → World → Prop := Post w s os fun s' A' r => s' = s ∧ r = .tuple #[] ∧ RowAt A' g rest d
set_option maxRecDepth 100000 in
theorem isNaN_ct {w : World} {s : Res} {os : List Res} {x : Int} (hg : Good w s os) : Calls Tryz.prog 209 #[.int KK x] w (PostV w s os fun r => r = .bool false) := by
 refine enter (l := [.int KK x]) Tryz.func209 rfl Tryz.ntmps209 rfl ?_
 refine CW.seq (CW.plain ?_)
 refine RL.pd ?_
 refine CW.seq (CW.plain ?_)
 refine RL.pp ?_
 refine RL.pu ?_
 refine RL.pd ?_
 exact CW.ret (ret (vs := [_]) ⟨_, _, rfl, rfl, rfl⟩ (PostV.mk hg (Aux.refl _) (congrArg Value.bool (by simp))))
set_option maxRecDepth 100000 in
theorem Less_ct {w : World} {s : Res} {os : List Res} {x y : Int} (hg : Good w s os) : Calls Tryz.prog 197 #[.int KK x, .int KK y] w (PostV w s os fun r => r = .bool (ltI x y)) := by
 refine enter (l := [.int KK x, .int KK y]) Tryz.func197 rfl Tryz.ntmps197 rfl ?_
 refine CW.seq (CW.plain ?_)
 refine RL.pd ?_
 refine CW.seq (CW.plain ?_)
 refine RL.pu ?_
 refine RL.callV rfl rfl rfl rfl rfl ca209 (isNaN_ct hg) ?_
 rintro v w1 hg1 hax1 rfl
 refine ⟨trivial, ?_⟩
 refine RL.pu ?_
 refine RL.qq ?_
 refine RL.pa ?_
 refine RL.pp ?_
 refine RL.pp ?_
 refine RL.pp ?_
 refine RL.pd ?_
 exact CW.ret (ret (vs := [_]) ⟨_, _, rfl, rfl, rfl⟩ (PostV.mk hg1 hax1 rfl))
theorem insInner_step {a j : Nat} {d : Array Int} (h : a < j) (hl : ltI d[j]! d[j - 1]! = true) : Go.Sort.insInner ltI a j d = Go.Sort.insInner ltI a (j - 1) (swp d j (j - 1)) := by
 obtain ⟨j, rfl⟩ : ∃ i, j = i + 1 := ⟨j - 1, by omega⟩
 rw [Go.Sort.insInner]
 simp only [Nat.add_sub_cancel] at *
 rw [if_pos (by simp [hl]; omega)]
theorem insInner_end {a j : Nat} {d : Array Int} (h : ¬ a < j ∨ ltI d[j]! d[j - 1]! = false) : Go.Sort.insInner ltI a j d = d := by
 cases j with
 | zero => rfl
 | succ j =>
  rw [Go.Sort.insInner, if_neg]
  rcases h with h | h
  ·
   simp; omega
  ·
   simp only [Nat.add_sub_cancel] at h; simp [h]
theorem insOuter_step {a b i : Nat} {d : Array Int} (h : i < b) : Go.Sort.insOuter ltI a b i d = Go.Sort.insOuter ltI a b (i + 1) (Go.Sort.insInner ltI a i d) := by
 rw [Go.Sort.insOuter, if_pos h]
theorem insOuter_end {a b i : Nat} {d : Array Int} (h : ¬ i < b) : Go.Sort.insOuter ltI a b i d = d := by
 rw [Go.Sort.insOuter, if_neg h]
set_option maxRecDepth 100000 in
theorem insertionSort_ct {w : World} {s A : Res} {os : List Res} {g n c a b : Nat} {rest : List Value} {d : Array Int} (hg : Good w s (A :: os)) (hrow : RowAt A g rest d) (hn : d.size = n) (hb : b ≤ n) (hab : a ≤ n) (hsz : n < 4611686018427387904) :
  Calls Tryz.prog 191 #[.slice (some ⟨g, 0, none⟩) n c, i64 a, i64 b] w (SPost w s os g rest (Go.Sort.insertionSort ltI d a b)) := by
 refine enter (l := [.slice (some ⟨g, 0, none⟩) n c, i64 a, i64 b]) Tryz.func191 rfl Tryz.ntmps191 rfl ?_
 refine CW.seq (CW.plain ?_)
 refine RL.pu ?_
 refine RL.add rfl rfl rfl rfl rfl rfl ((by simp only [rng]; omega)) ?_
 refine RL.pd ?_
 refine CW.block (CW.loop (σ := Nat) (fun k E w' => ∃ A' dk i, Good w' s (A' :: os) ∧ Aux w w' ∧ RowAt A' g rest dk ∧ dk.size = n ∧ a < i ∧ i ≤ n + 1 ∧ n + 1 - i ≤ k ∧ Go.Sort.insertionSort ltI d a b = Go.Sort.insOuter ltI a b i dk ∧ E = [(0, .slice (some ⟨g, 0, none⟩) n c), (1, i64 a), (2, i64 b), (6, i64 (i : Nat))])
  (fun k => k) (n + 1) [(0, .slice (some ⟨g, 0, none⟩) n c), (1, i64 a), (2, i64 b), (6, i64 ((a : Int) + 1))] ⟨rfl, rfl, rfl, rfl, trivial⟩ ⟨A, d, a + 1, hg, Aux.refl _, hrow, hn, by omega, by omega, by omega, rfl, rfl⟩ ?_)
 rintro k E w1 ⟨A1, d1, i, hg1, hax1, hrow1, hn1, hai, hin, hk, heq, rfl⟩
 refine CW.seq (CW.seq (CW.plain ?_))
 refine RL.pp ?_
 refine RL.pd ?_
 refine CW.test rfl (fun h => ?_) (fun h => ?_)
 ·
  refine CW.skip ?_
  have hib : i < b := by omega
  refine CW.seq (CW.block (CW.seq (CW.plain ?_)))
  refine RL.pu ?_
  refine RL.pd ?_
  refine CW.block (CW.loop (σ := Nat) (fun j E w' => ∃ A' dk, Good w' s (A' :: os) ∧ Aux w w' ∧ RowAt A' g rest dk ∧ dk.size = n ∧ j ≤ i ∧ a ≤ j ∧ Go.Sort.insInner ltI a i d1 = Go.Sort.insInner ltI a j dk ∧ E = [(0, .slice (some ⟨g, 0, none⟩) n c), (1, i64 a), (2, i64 b), (6, i64 (i : Nat)), (7, i64 (j : Nat))])
   (fun j => j) i [(0, .slice (some ⟨g, 0, none⟩) n c), (1, i64 a), (2, i64 b), (6, i64 (i : Nat)), (7, i64 (i : Nat))] ⟨rfl, rfl, rfl, rfl, rfl, trivial⟩ ⟨A1, d1, hg1, hax1, hrow1, hn1, Nat.le_refl _, by omega, rfl, rfl⟩ ?_)
  rintro j E w2 ⟨A2, d2, hg, hax2, hrow, hn2, hji, haj, heq2, rfl⟩
  refine CW.seq (CW.seq ?_)
  refine CW.draws [(true, 0), (true, 1), (true, 2), (true, 3), (true, 4), (true, 5), (true, 6), (true, 7), (true, 8), (true, 9), (true, 10), (true, 11), (true, 12), (false, 13), (true, 14)] (fun w' => Good w' s (A2 :: os)) mixed (by kernel_rfl) (by kernel_rfl) (by kernel_rfl) (by kernel_rfl) hg.drew ?_
  refine RL.pp ?_
  refine RL.pp ?_
  refine RL.part 19 rfl (fun hc => ?_) (fun hc => ?_)
  ·
   have haj' : a < j := by simpa using hc
   refine RL.pp ?_
   refine RL.idxR j rfl rfl rfl rfl sl83 rfl rfl rfl (by omega) ?_
   refine RL.loadRT j rfl rfl rfl rfl ty22 rfl hrow (fun w h => h.1) (by omega) ?_
   refine RL.pp ?_
   refine RL.sub rfl rfl rfl rfl rfl rfl ((by simp only [rng]; omega)) ?_
   refine RL.idxR (j - 1) rfl rfl rfl rfl sl83 rfl rfl (by omega) (by omega) ?_
   refine RL.loadRT (j - 1) rfl rfl rfl rfl ty22 rfl hrow (fun w h => h.1) (by omega) ?_
   refine RL.callV rfl rfl rfl rfl rfl ca197 (Less_ct hg.drew) ?_
   rintro v w3 hg3 hax3 rfl
   refine ⟨hg3, ?_⟩
   refine RL.pd ?_
   have hg := hg3
   refine CW.cond rfl (fun hl => ?_) (fun hl => ?_)
   ·
    refine CW.skip ?_
    refine CW.meet (fun E' w' => ∃ A', Good w' s (A' :: os) ∧ Aux w w' ∧ RowAt A' g rest (swp d2 j (j - 1)) ∧ E' = [(0, .slice (some ⟨g, 0, none⟩) n c), (1, i64 a), (2, i64 b), (6, i64 (i : Nat)), (7, i64 (j : Nat))]) ?_ ?_
    ·
     refine CW.block ?_
     refine CW.forks (.fork [(true, 0), (true, 1), (true, 2), (true, 3), (true, 4), (true, 5), (true, 6), (true, 7), (true, 8), (true, 10), (true, 11), (true, 12)] (.line [(false, 9), (false, 13), (true, 14), (false, 15), (true, 16), (false, 17)]) (.line [(false, 13), (false, 9), (true, 14), (false, 15), (true, 16), (false, 17)])) (fun _ => True) mixed (by kernel_rfl) (by kernel_rfl) (by kernel_rfl) (by kernel_rfl) trivial ?_
     refine RT.pre trivial ?_
     refine RL.pp ?_
     refine RL.pp ?_
     refine RL.sub rfl rfl rfl rfl rfl rfl (by simp only [rng] at *; omega) ?_
     refine RL.pp ?_
     refine RL.sub rfl rfl rfl rfl rfl rfl (by simp only [rng] at *; omega) ?_
     refine RL.idxR (j - 1) rfl rfl rfl rfl sl83 rfl rfl (by omega) (by omega) ?_
     refine RL.pp ?_
     refine RL.idxR (j) rfl rfl rfl rfl sl83 rfl rfl (by omega) (by omega) ?_
     refine RL.done ?_
     refine RT.both (S := fun _ => True) trivial (RT.end_ (S := fun _ => True) trivial ?_) (RT.end_ (S := fun _ => True) trivial ?_)
     ·
      refine RL.loadR (j - 1) rfl rfl rfl rfl ty22 rfl hrow hg.drew.1 (by omega) ?_
      refine RL.loadR (j) rfl rfl rfl rfl ty22 rfl hrow hg.drew.1 (by omega) ?_
      refine RL.idxR (j) rfl rfl rfl rfl sl83 rfl rfl (by omega) (by omega) ?_
      refine RL.storeR (j) rfl rfl rfl ty22 rfl rfl hg.drew hrow (by omega) ?_
      intro ws1 As1 hgs1 haxs1 hrows1
      refine ⟨trivial, ?_⟩
      refine RL.idxR (j - 1) rfl rfl rfl rfl sl83 rfl rfl (by omega) (by omega) ?_
      refine RL.storeR (j - 1) rfl rfl rfl ty22 rfl rfl hgs1 hrows1 (by simp; omega) ?_
      intro ws2 As2 hgs2 haxs2 hrows2
      refine ⟨trivial, ?_⟩
      refine RL.done ?_
      exact fun ac ha => ⟨_, ha.sub (E' := [(0, .slice (some ⟨g, 0, none⟩) n c), (1, i64 a), (2, i64 b), (6, i64 (i : Nat)), (7, i64 (j : Nat))]) ⟨rfl, rfl, rfl, rfl, rfl, trivial⟩, As2, hgs2, hax2.trans ((Aux.drew _).trans (hax3.trans ((Aux.drew _).trans (haxs1.trans haxs2)))), hrows2, rfl⟩
     ·
      refine RL.loadR (j) rfl rfl rfl rfl ty22 rfl hrow hg.drew.1 (by omega) ?_
      refine RL.loadR (j - 1) rfl rfl rfl rfl ty22 rfl hrow hg.drew.1 (by omega) ?_
      refine RL.idxR (j) rfl rfl rfl rfl sl83 rfl rfl (by omega) (by omega) ?_
      refine RL.storeR (j) rfl rfl rfl ty22 rfl rfl hg.drew hrow (by omega) ?_
      intro ws1 As1 hgs1 haxs1 hrows1
      refine ⟨trivial, ?_⟩
      refine RL.idxR (j - 1) rfl rfl rfl rfl sl83 rfl rfl (by omega) (by omega) ?_
      refine RL.storeR (j - 1) rfl rfl rfl ty22 rfl rfl hgs1 hrows1 (by simp; omega) ?_
      intro ws2 As2 hgs2 haxs2 hrows2
      refine ⟨trivial, ?_⟩
      refine RL.done ?_
      exact fun ac ha => ⟨_, ha.sub (E' := [(0, .slice (some ⟨g, 0, none⟩) n c), (1, i64 a), (2, i64 b), (6, i64 (i : Nat)), (7, i64 (j : Nat))]) ⟨rfl, rfl, rfl, rfl, rfl, trivial⟩, As2, hgs2, hax2.trans ((Aux.drew _).trans (hax3.trans ((Aux.drew _).trans (haxs1.trans haxs2)))), hrows2, rfl⟩
    ·
     rintro E' w5 ⟨A5, hg5, hax5, hrow5, rfl⟩
     refine CW.plain ?_
     refine RL.pu ?_
     refine RL.sub rfl rfl rfl rfl rfl rfl ((by simp only [rng]; omega)) ?_
     refine RL.pd ?_
     refine fun ac ha => ⟨j - 1, [(0, .slice (some ⟨g, 0, none⟩) n c), (1, i64 a), (2, i64 b), (6, i64 (i : Nat)), (7, i64 ((j - 1 : Nat) : Int))], ha.sub ⟨rfl, rfl, rfl, rfl, congrArg (fun z => some (i64 z)) (by omega), trivial⟩, ⟨A5, _, hg5, hax5, hrow5, by rw [size_swp]; exact hn2, by omega, by omega, by rw [heq2]; exact insInner_step haj' hl, rfl⟩, by omega⟩
   ·
    refine CW.exit ?_
    refine CW.plain ?_
    refine RL.pu ?_
    refine RL.add rfl rfl rfl rfl rfl rfl ((by simp only [rng]; omega)) ?_
    refine RL.pd ?_
    have heq3 := heq2.trans (insInner_end (.inr hl))
    refine fun ac ha => ⟨k - 1, [(0, .slice (some ⟨g, 0, none⟩) n c), (1, i64 a), (2, i64 b), (6, i64 ((i : Int) + 1))], ha.sub ⟨rfl, rfl, rfl, rfl, trivial⟩, ⟨A2, d2, i + 1, hg3, hax2.trans ((Aux.drew _).trans hax3), hrow, hn2, by omega, by omega, by omega, by rw [heq, insOuter_step hib, heq3], rfl⟩, by omega⟩
  ·
   have haj' : ¬ a < j := by simpa using hc
   refine RL.qq ?_
   refine RL.qq ?_
   refine RL.qq ?_
   refine RL.qq ?_
   refine RL.qq ?_
   refine RL.pd ?_
   refine CW.no rfl ?_
   refine CW.exit ?_
   refine CW.plain ?_
   refine RL.pu ?_
   refine RL.add rfl rfl rfl rfl rfl rfl ((by simp only [rng]; omega)) ?_
   refine RL.pd ?_
   have heq3 := heq2.trans (insInner_end (.inl haj'))
   refine fun ac ha => ⟨k - 1, [(0, .slice (some ⟨g, 0, none⟩) n c), (1, i64 a), (2, i64 b), (6, i64 ((i : Int) + 1))], ha.sub ⟨rfl, rfl, rfl, rfl, trivial⟩, ⟨A2, d2, i + 1, hg.drew, hax2.trans (Aux.drew _), hrow, hn2, by omega, by omega, by omega, by rw [heq, insOuter_step hib, heq3], rfl⟩, by omega⟩
 ·
  refine CW.exit ?_
  refine fall (vs := []) rfl (Post.mk (Le.refl _) hg1 hax1 ⟨rfl, rfl, ?_⟩)
  rw [heq, insOuter_end (by omega)]
  exact hrow1
end Go.Lw

/-
 The sort's small parts, walked: reversing, sifting, the heap.
-/
namespace Go.Lw
open Go.Proofs
open Go.Sort (swp size_swp)
theorem reverse_step {i j : Nat} {d : Array Int} (h : i < j) : Go.Sort.reverseLoop i j d = Go.Sort.reverseLoop (i + 1) (j - 1) (swp d i j) := by rw [Go.Sort.reverseLoop, if_pos h]
theorem reverse_end {i j : Nat} {d : Array Int} (h : ¬ i < j) : Go.Sort.reverseLoop i j d = d := by rw [Go.Sort.reverseLoop, if_neg h]
set_option maxRecDepth 100000 in
theorem reverseRange_ct {w : World} {s A : Res} {os : List Res} {g n c a b : Nat} {rest : List Value} {d : Array Int} (hg : Good w s (A :: os)) (hrow : RowAt A g rest d) (hn : d.size = n) (hb : b ≤ n) (hab : a < b) (hsz : n < 4611686018427387904) :
  Calls Tryz.prog 195 #[.slice (some ⟨g, 0, none⟩) n c, i64 a, i64 b] w (SPost w s os g rest (Go.Sort.reverseRange d a b)) := by
 refine enter (l := [.slice (some ⟨g, 0, none⟩) n c, i64 a, i64 b]) Tryz.func195 rfl Tryz.ntmps195 rfl ?_
 refine CW.seq (CW.plain ?_)
 refine RL.pu ?_
 refine RL.pd ?_
 refine CW.seq (CW.plain ?_)
 refine RL.pu ?_
 refine RL.sub rfl rfl rfl rfl rfl rfl ((by simp only [rng]; omega)) ?_
 refine RL.pd ?_
 refine CW.block (CW.loop (σ := Nat) (fun k E w' => ∃ A' dk i j, Good w' s (A' :: os) ∧ Aux w w' ∧ RowAt A' g rest dk ∧ dk.size = n ∧ i ≤ j + 1 ∧ j < n ∧ j - i ≤ k ∧ Go.Sort.reverseRange d a b = Go.Sort.reverseLoop i j dk ∧ E = [(0, .slice (some ⟨g, 0, none⟩) n c), (6, i64 (i : Nat)), (7, i64 (j : Nat))])
  (fun k => k) n [(0, .slice (some ⟨g, 0, none⟩) n c), (6, i64 a), (7, i64 ((b - 1 : Nat) : Int))] ⟨rfl, rfl, congrArg (fun z => some (i64 z)) (by omega), trivial⟩ ⟨A, d, a, b - 1, hg, Aux.refl _, hrow, hn, by omega, by omega, by omega, rfl, rfl⟩ ?_)
 rintro k E w1 ⟨A1, d1, i, j, hg, hax1, hrow, hn1, hij, hjn, hk, heq, rfl⟩
 refine CW.seq (CW.seq (CW.plain ?_))
 refine RL.pp ?_
 refine RL.pd ?_
 refine CW.test rfl (fun h => ?_) (fun h => ?_)
 ·
  refine CW.skip ?_
  refine CW.block ?_
  refine CW.meet (fun E' w' => ∃ A', Good w' s (A' :: os) ∧ Aux w w' ∧ RowAt A' g rest (swp d1 i j) ∧ E' = [(0, .slice (some ⟨g, 0, none⟩) n c), (6, i64 (i : Nat)), (7, i64 (j : Nat))]) ?_ ?_
  ·
   refine CW.forks (.fork [(true, 0), (true, 1), (true, 2), (true, 3), (true, 4), (true, 5), (true, 6), (true, 8), (true, 9), (true, 10)] (.line [(false, 7), (false, 11), (true, 12), (false, 13), (true, 14), (false, 15)]) (.line [(false, 11), (false, 7), (true, 12), (false, 13), (true, 14), (false, 15)])) (fun _ => True) mixed (by kernel_rfl) (by kernel_rfl) (by kernel_rfl) (by kernel_rfl) trivial ?_
   refine RT.pre trivial ?_
   refine RL.pp ?_
   refine RL.pp ?_
   refine RL.pp ?_
   refine RL.idxR (j) rfl rfl rfl rfl sl83 rfl rfl (by omega) (by omega) ?_
   refine RL.pp ?_
   refine RL.idxR (i) rfl rfl rfl rfl sl83 rfl rfl (by omega) (by omega) ?_
   refine RL.done ?_
   refine RT.both (S := fun _ => True) trivial (RT.end_ (S := fun _ => True) trivial ?_) (RT.end_ (S := fun _ => True) trivial ?_)
   ·
    refine RL.loadR (j) rfl rfl rfl rfl ty22 rfl hrow hg.drew.1 (by omega) ?_
    refine RL.loadR (i) rfl rfl rfl rfl ty22 rfl hrow hg.drew.1 (by omega) ?_
    refine RL.idxR (i) rfl rfl rfl rfl sl83 rfl rfl (by omega) (by omega) ?_
    refine RL.storeR (i) rfl rfl rfl ty22 rfl rfl hg.drew hrow (by omega) ?_
    intro ws1 As1 hgs1 haxs1 hrows1
    refine ⟨trivial, ?_⟩
    refine RL.idxR (j) rfl rfl rfl rfl sl83 rfl rfl (by omega) (by omega) ?_
    refine RL.storeR (j) rfl rfl rfl ty22 rfl rfl hgs1 hrows1 (by simp; omega) ?_
    intro ws2 As2 hgs2 haxs2 hrows2
    refine ⟨trivial, ?_⟩
    refine RL.done ?_
    exact fun ac ha => ⟨_, ha.sub (E' := [(0, .slice (some ⟨g, 0, none⟩) n c), (6, i64 (i : Nat)), (7, i64 (j : Nat))]) ⟨rfl, rfl, rfl, trivial⟩, As2, hgs2, hax1.trans ((Aux.drew _).trans (haxs1.trans haxs2)), hrows2, rfl⟩
   ·
    refine RL.loadR (i) rfl rfl rfl rfl ty22 rfl hrow hg.drew.1 (by omega) ?_
    refine RL.loadR (j) rfl rfl rfl rfl ty22 rfl hrow hg.drew.1 (by omega) ?_
    refine RL.idxR (i) rfl rfl rfl rfl sl83 rfl rfl (by omega) (by omega) ?_
    refine RL.storeR (i) rfl rfl rfl ty22 rfl rfl hg.drew hrow (by omega) ?_
    intro ws1 As1 hgs1 haxs1 hrows1
    refine ⟨trivial, ?_⟩
    refine RL.idxR (j) rfl rfl rfl rfl sl83 rfl rfl (by omega) (by omega) ?_
    refine RL.storeR (j) rfl rfl rfl ty22 rfl rfl hgs1 hrows1 (by simp; omega) ?_
    intro ws2 As2 hgs2 haxs2 hrows2
    refine ⟨trivial, ?_⟩
    refine RL.done ?_
    exact fun ac ha => ⟨_, ha.sub (E' := [(0, .slice (some ⟨g, 0, none⟩) n c), (6, i64 (i : Nat)), (7, i64 (j : Nat))]) ⟨rfl, rfl, rfl, trivial⟩, As2, hgs2, hax1.trans ((Aux.drew _).trans (haxs1.trans haxs2)), hrows2, rfl⟩
  ·
   rintro E' w5 ⟨A5, hg5, hax5, hrow5, rfl⟩
   refine CW.seq (CW.plain ?_)
   refine RL.pu ?_
   refine RL.add rfl rfl rfl rfl rfl rfl ((by simp only [rng]; omega)) ?_
   refine RL.pd ?_
   refine CW.plain ?_
   refine RL.pu ?_
   refine RL.sub rfl rfl rfl rfl rfl rfl ((by simp only [rng]; omega)) ?_
   refine RL.pd ?_
   have hij' : i < j := by omega
   refine fun ac ha => ⟨k - 1, [(0, .slice (some ⟨g, 0, none⟩) n c), (6, i64 ((i + 1 : Nat) : Int)), (7, i64 ((j - 1 : Nat) : Int))], ha.sub ⟨rfl, rfl, congrArg (fun z => some (i64 z)) (by omega), trivial⟩, ⟨A5, _, i + 1, j - 1, hg5, hax5, hrow5, by rw [size_swp]; exact hn1, by omega, by omega, by omega, by rw [heq]; exact reverse_step hij', rfl⟩, by omega⟩
 ·
  refine CW.exit ?_
  refine fall (vs := []) rfl (Post.mk (Le.refl _) hg hax1 ⟨rfl, rfl, ?_⟩)
  rw [heq, reverse_end (by omega)]
  exact hrow
/-! ### sifting -/
def sc (hi first root : Nat) (d : Array Int) : Nat := if 2 * root + 1 + 1 < hi ∧ ltI d[first + (2 * root + 1)]! d[first + (2 * root + 1) + 1]! = true then 2 * root + 2 else 2 * root + 1
theorem sift_eq {hi first root ch : Nat} {d : Array Int} (h : 2 * root + 1 < hi) (hs : sc hi first root d = ch) : Go.Sort.siftDown ltI hi first root d = if ltI d[first + root]! d[first + ch]! = true then Go.Sort.siftDown ltI hi first ch (swp d (first + root) (first + ch)) else d := by
 rw [Go.Sort.siftDown, dif_neg (by omega)]
 unfold sc at hs
 by_cases hc : 2 * root + 1 + 1 < hi ∧ ltI d[first + (2 * root + 1)]! d[first + (2 * root + 1) + 1]! = true
 ·
  rw [if_pos hc] at hs
  rw [if_pos (by simpa using hc)]
  subst hs
  have h2 : 2 * root + 2 < hi := by omega
  cases hl : ltI d[first + root]! d[first + (2 * root + 2)]! <;> simp [h2]
 ·
  rw [if_neg hc] at hs
  rw [if_neg (by simpa using hc)]
  subst hs
  cases hl : ltI d[first + root]! d[first + (2 * root + 1)]! <;> simp
theorem sift_end {hi first root : Nat} {d : Array Int} (h : hi ≤ 2 * root + 1) : Go.Sort.siftDown ltI hi first root d = d := by rw [Go.Sort.siftDown, dif_pos (by omega)]
set_option maxRecDepth 100000 in
theorem siftDown_ct {w : World} {s A : Res} {os : List Res} {g n c lo hi first : Nat} {rest : List Value} {d : Array Int} (hg : Good w s (A :: os)) (hrow : RowAt A g rest d) (hn : d.size = n) (hb : first + hi ≤ n) (hlo : lo ≤ n) (hsz : n < 2305843009213693952) :
  Calls Tryz.prog 206 #[.slice (some ⟨g, 0, none⟩) n c, i64 lo, i64 hi, i64 first] w (SPost w s os g rest (Go.Sort.siftDown ltI hi first lo d)) := by
 refine enter (l := [.slice (some ⟨g, 0, none⟩) n c, i64 lo, i64 hi, i64 first]) Tryz.func206 rfl Tryz.ntmps206 rfl ?_
 refine CW.seq (CW.plain ?_)
 refine RL.pu ?_
 refine RL.pd ?_
 refine CW.block (CW.loop (σ := Nat) (fun k E w' => ∃ A' dk r, Good w' s (A' :: os) ∧ Aux w w' ∧ RowAt A' g rest dk ∧ dk.size = n ∧ r ≤ n ∧ hi - r ≤ k ∧ Go.Sort.siftDown ltI hi first lo d = Go.Sort.siftDown ltI hi first r dk ∧ E = [(0, .slice (some ⟨g, 0, none⟩) n c), (2, i64 hi), (3, i64 first), (8, i64 (r : Nat))])
  (fun k => k) n [(0, .slice (some ⟨g, 0, none⟩) n c), (2, i64 hi), (3, i64 first), (8, i64 lo)] ⟨rfl, rfl, rfl, rfl, trivial⟩ ⟨A, d, lo, hg, Aux.refl _, hrow, hn, hlo, by omega, rfl, rfl⟩ ?_)
 rintro k E w1 ⟨A1, d1, r, hg1, hax1, hrow, hn1, hrn, hk, heq, rfl⟩
 refine CW.block (CW.seq (CW.plain ?_))
 refine RL.pu ?_
 refine RL.mul rfl rfl rfl rfl rfl rfl ((by simp only [rng]; omega)) ?_
 refine RL.add rfl rfl rfl rfl rfl rfl ((by simp only [rng]; omega)) ?_
 refine RL.pd ?_
 refine CW.seq (CW.seq (CW.plain ?_))
 refine RL.pp ?_
 refine RL.pd ?_
 refine CW.test rfl (fun h => ?_) (fun h => ?_)
 ·
  refine CW.exit ?_
  refine fall (vs := []) rfl (Post.mk (Le.refl _) hg1 hax1 ⟨rfl, rfl, ?_⟩)
  rw [heq, sift_end (by omega)]
  exact hrow
 ·
  refine CW.skip ?_
  have hch : 2 * r + 1 < hi := by omega
  refine CW.meet (fun E' w' => ∃ ch, ch = sc hi first r d1 ∧ r < ch ∧ ch < hi ∧ Good w' s (A1 :: os) ∧ Aux w w' ∧ E' = [(0, .slice (some ⟨g, 0, none⟩) n c), (2, i64 hi), (3, i64 first), (8, i64 (r : Nat)), (9, i64 (ch : Nat))]) ?_ ?_
  ·
   refine CW.seq ?_
   refine CW.draws [(true, 0), (true, 1), (true, 2), (true, 3), (true, 4), (true, 5), (true, 6), (true, 7), (true, 8), (true, 9), (true, 10), (true, 11), (true, 12), (true, 13), (true, 14), (true, 15), (true, 16), (true, 17), (false, 18), (true, 19)] (fun w' => Good w' s (A1 :: os)) mixed (by kernel_rfl) (by kernel_rfl) (by kernel_rfl) (by kernel_rfl) hg1.drew ?_
   refine RL.pu ?_
   refine RL.add rfl rfl rfl rfl rfl rfl ((by simp only [rng]; omega)) ?_
   refine RL.pp ?_
   refine RL.pu ?_
   refine RL.part 21 rfl (fun hc => ?_) (fun hc => ?_)
   ·
    have h2 : 2 * r + 2 < hi := by have := of_decide_eq_true hc; omega
    refine RL.pp ?_
    refine RL.pu ?_
    refine RL.add rfl rfl rfl rfl rfl rfl ((by simp only [rng]; omega)) ?_
    refine RL.idxR (first + (2 * r + 1)) rfl rfl rfl rfl sl83 rfl rfl (by omega) (by omega) ?_
    refine RL.loadRT (first + (2 * r + 1)) rfl rfl rfl rfl ty22 rfl hrow (fun w h => h.1) (by omega) ?_
    refine RL.pp ?_
    refine RL.pu ?_
    refine RL.add rfl rfl rfl rfl rfl rfl ((by simp only [rng]; omega)) ?_
    refine RL.add rfl rfl rfl rfl rfl rfl ((by simp only [rng]; omega)) ?_
    refine RL.idxR (first + (2 * r + 1) + 1) rfl rfl rfl rfl sl83 rfl rfl (by omega) (by omega) ?_
    refine RL.loadRT (first + (2 * r + 1) + 1) rfl rfl rfl rfl ty22 rfl hrow (fun w h => h.1) (by omega) ?_
    refine RL.callV rfl rfl rfl rfl rfl ca197 (Less_ct hg1.drew) ?_
    rintro v w3 hg3 hax3 rfl
    refine ⟨hg3, ?_⟩
    refine RL.pd ?_
    refine CW.cond rfl (fun hl => ?_) (fun hl => ?_)
    ·
     refine CW.plain ?_
     refine RL.pu ?_
     refine RL.add rfl rfl rfl rfl rfl rfl ((by simp only [rng]; omega)) ?_
     refine RL.pd ?_
     refine fun ac ha => ⟨_, ha.sub (E' := [(0, .slice (some ⟨g, 0, none⟩) n c), (2, i64 hi), (3, i64 first), (8, i64 (r : Nat)), (9, i64 ((2 * r + 2 : Nat) : Int))]) ⟨rfl, rfl, rfl, rfl, congrArg (fun z => some (i64 z)) (by omega), trivial⟩, _, by rw [sc, if_pos ⟨by omega, hl⟩], by omega, by omega, hg3, hax1.trans ((Aux.drew _).trans hax3), rfl⟩
    ·
     refine CW.skip (fun ac ha => ⟨_, ha.sub (E' := [(0, .slice (some ⟨g, 0, none⟩) n c), (2, i64 hi), (3, i64 first), (8, i64 (r : Nat)), (9, i64 ((2 * r + 1 : Nat) : Int))]) ⟨rfl, rfl, rfl, rfl, congrArg (fun z => some (i64 z)) (by omega), trivial⟩, _, ?_, by omega, by omega, hg3, hax1.trans ((Aux.drew _).trans hax3), rfl⟩)
     rw [sc, if_neg (fun hh => by rw [hh.2] at hl; cases hl)]
   ·
    have h2 : ¬ 2 * r + 2 < hi := by have := of_decide_eq_false hc; omega
    refine RL.qq ?_
    refine RL.qq ?_
    refine RL.qq ?_
    refine RL.qq ?_
    refine RL.qq ?_
    refine RL.qq ?_
    refine RL.qq ?_
    refine RL.pd ?_
    refine CW.no rfl ?_
    refine CW.skip (fun ac ha => ⟨_, ha.sub (E' := [(0, .slice (some ⟨g, 0, none⟩) n c), (2, i64 hi), (3, i64 first), (8, i64 (r : Nat)), (9, i64 ((2 * r + 1 : Nat) : Int))]) ⟨rfl, rfl, rfl, rfl, congrArg (fun z => some (i64 z)) (by omega), trivial⟩, _, ?_, by omega, by omega, hg1.drew, hax1.trans (Aux.drew _), rfl⟩)
    rw [sc, if_neg (fun hh => h2 hh.1)]
  ·
   rintro E' w4 ⟨ch, hsc, hrc, hchh, hg, hax4, rfl⟩
   refine CW.seq (CW.seq ?_)
   refine CW.draws [(true, 0), (true, 1), (true, 2), (true, 3), (true, 4), (true, 5), (true, 6), (true, 7), (true, 8), (true, 9), (true, 10), (true, 11), (false, 12), (true, 13)] (fun w' => Good w' s (A1 :: os)) mixed (by kernel_rfl) (by kernel_rfl) (by kernel_rfl) (by kernel_rfl) hg.drew ?_
   refine RL.pp ?_
   refine RL.pu ?_
   refine RL.add rfl rfl rfl rfl rfl rfl ((by simp only [rng]; omega)) ?_
   refine RL.idxR (first + r) rfl rfl rfl rfl sl83 rfl rfl (by omega) (by omega) ?_
   refine RL.loadRT (first + r) rfl rfl rfl rfl ty22 rfl hrow (fun w h => h.1) (by omega) ?_
   refine RL.pp ?_
   refine RL.pu ?_
   refine RL.add rfl rfl rfl rfl rfl rfl ((by simp only [rng]; omega)) ?_
   refine RL.idxR (first + ch) rfl rfl rfl rfl sl83 rfl rfl (by omega) (by omega) ?_
   refine RL.loadRT (first + ch) rfl rfl rfl rfl ty22 rfl hrow (fun w h => h.1) (by omega) ?_
   refine RL.callV rfl rfl rfl rfl rfl ca197 (Less_ct hg.drew) ?_
   rintro v w5 hg5 hax5 rfl
   refine ⟨hg5, ?_⟩
   refine RL.pd ?_
   refine CW.cond rfl (fun hl => ?_) (fun hl => ?_)
   ·
    have hl' : ltI d1[first + r]! d1[first + ch]! = false := by simpa using hl
    refine CW.ret (ret (vs := []) rfl (Post.mk (Le.refl _) hg5 (hax4.trans ((Aux.drew _).trans hax5)) ⟨rfl, rfl, ?_⟩))
    rw [heq, sift_eq hch hsc.symm, hl', if_neg (by simp)]
    exact hrow
   ·
    have hl' : ltI d1[first + r]! d1[first + ch]! = true := by simpa using hl
    refine CW.skip ?_
    have hg := hg5
    refine CW.meet (fun E' w' => ∃ A', Good w' s (A' :: os) ∧ Aux w w' ∧ RowAt A' g rest (swp d1 (first + r) (first + ch)) ∧ E' = [(0, .slice (some ⟨g, 0, none⟩) n c), (2, i64 hi), (3, i64 first), (9, i64 (ch : Nat))]) ?_ ?_
    ·
     refine CW.forks (.fork [(true, 0), (true, 1), (true, 2), (true, 3), (true, 4), (true, 5), (true, 6), (true, 7), (true, 8), (true, 9), (true, 10), (true, 11), (true, 12), (true, 14), (true, 15), (true, 16), (true, 17), (true, 18)] (.line [(false, 13), (false, 19), (true, 20), (false, 21), (true, 22), (false, 23)]) (.line [(false, 19), (false, 13), (true, 20), (false, 21), (true, 22), (false, 23)])) (fun _ => True) mixed (by kernel_rfl) (by kernel_rfl) (by kernel_rfl) (by kernel_rfl) trivial ?_
     refine RT.pre trivial ?_
     refine RL.pp ?_
     refine RL.pu ?_
     refine RL.add rfl rfl rfl rfl rfl rfl (by simp only [rng] at *; omega) ?_
     refine RL.pp ?_
     refine RL.pu ?_
     refine RL.add rfl rfl rfl rfl rfl rfl (by simp only [rng] at *; omega) ?_
     refine RL.pp ?_
     refine RL.pu ?_
     refine RL.add rfl rfl rfl rfl rfl rfl (by simp only [rng] at *; omega) ?_
     refine RL.idxR (first + ch) rfl rfl rfl rfl sl83 rfl rfl (by omega) (by omega) ?_
     refine RL.pp ?_
     refine RL.pu ?_
     refine RL.add rfl rfl rfl rfl rfl rfl (by simp only [rng] at *; omega) ?_
     refine RL.idxR (first + r) rfl rfl rfl rfl sl83 rfl rfl (by omega) (by omega) ?_
     refine RL.done ?_
     refine RT.both (S := fun _ => True) trivial (RT.end_ (S := fun _ => True) trivial ?_) (RT.end_ (S := fun _ => True) trivial ?_)
     ·
      refine RL.loadR (first + ch) rfl rfl rfl rfl ty22 rfl hrow hg.drew.1 (by omega) ?_
      refine RL.loadR (first + r) rfl rfl rfl rfl ty22 rfl hrow hg.drew.1 (by omega) ?_
      refine RL.idxR (first + r) rfl rfl rfl rfl sl83 rfl rfl (by omega) (by omega) ?_
      refine RL.storeR (first + r) rfl rfl rfl ty22 rfl rfl hg.drew hrow (by omega) ?_
      intro ws1 As1 hgs1 haxs1 hrows1
      refine ⟨trivial, ?_⟩
      refine RL.idxR (first + ch) rfl rfl rfl rfl sl83 rfl rfl (by omega) (by omega) ?_
      refine RL.storeR (first + ch) rfl rfl rfl ty22 rfl rfl hgs1 hrows1 (by simp; omega) ?_
      intro ws2 As2 hgs2 haxs2 hrows2
      refine ⟨trivial, ?_⟩
      refine RL.done ?_
      exact fun ac ha => ⟨_, ha.sub (E' := [(0, .slice (some ⟨g, 0, none⟩) n c), (2, i64 hi), (3, i64 first), (9, i64 (ch : Nat))]) ⟨rfl, rfl, rfl, rfl, trivial⟩, As2, hgs2, hax4.trans ((Aux.drew _).trans (hax5.trans ((Aux.drew _).trans (haxs1.trans haxs2)))), hrows2, rfl⟩
     ·
      refine RL.loadR (first + r) rfl rfl rfl rfl ty22 rfl hrow hg.drew.1 (by omega) ?_
      refine RL.loadR (first + ch) rfl rfl rfl rfl ty22 rfl hrow hg.drew.1 (by omega) ?_
      refine RL.idxR (first + r) rfl rfl rfl rfl sl83 rfl rfl (by omega) (by omega) ?_
      refine RL.storeR (first + r) rfl rfl rfl ty22 rfl rfl hg.drew hrow (by omega) ?_
      intro ws1 As1 hgs1 haxs1 hrows1
      refine ⟨trivial, ?_⟩
      refine RL.idxR (first + ch) rfl rfl rfl rfl sl83 rfl rfl (by omega) (by omega) ?_
      refine RL.storeR (first + ch) rfl rfl rfl ty22 rfl rfl hgs1 hrows1 (by simp; omega) ?_
      intro ws2 As2 hgs2 haxs2 hrows2
      refine ⟨trivial, ?_⟩
      refine RL.done ?_
      exact fun ac ha => ⟨_, ha.sub (E' := [(0, .slice (some ⟨g, 0, none⟩) n c), (2, i64 hi), (3, i64 first), (9, i64 (ch : Nat))]) ⟨rfl, rfl, rfl, rfl, trivial⟩, As2, hgs2, hax4.trans ((Aux.drew _).trans (hax5.trans ((Aux.drew _).trans (haxs1.trans haxs2)))), hrows2, rfl⟩
    ·
     rintro E' w6 ⟨A6, hg6, hax6, hrow6, rfl⟩
     refine CW.plain ?_
     refine RL.pu ?_
     refine RL.pd ?_
     refine fun ac ha => ⟨k - 1, [(0, .slice (some ⟨g, 0, none⟩) n c), (2, i64 hi), (3, i64 first), (8, i64 (ch : Nat))], ha.sub ⟨rfl, rfl, rfl, rfl, trivial⟩, ⟨A6, _, ch, hg6, hax6, hrow6, by rw [size_swp]; exact hn1, by omega, by omega, by rw [heq, sift_eq hch hsc.symm, if_pos hl'], rfl⟩, by omega⟩
/-! ### the heap -/
theorem sift_size (hi first lo : Nat) (d : Array Int) : (Go.Sort.siftDown ltI hi first lo d).size = d.size := by
 fun_induction Go.Sort.siftDown ltI hi first lo d <;> simp_all [size_swp]
set_option maxRecDepth 100000 in
theorem heapSort_ct {w : World} {s A : Res} {os : List Res} {g n c a b : Nat} {rest : List Value} {d : Array Int} (hg : Good w s (A :: os)) (hrow : RowAt A g rest d) (hn : d.size = n) (hb : b ≤ n) (hab : a < b) (hsz : n < 2305843009213693952) :
  Calls Tryz.prog 192 #[.slice (some ⟨g, 0, none⟩) n c, i64 a, i64 b] w (SPost w s os g rest (Go.Sort.heapSort ltI d a b)) := by
 refine enter (l := [.slice (some ⟨g, 0, none⟩) n c, i64 a, i64 b]) Tryz.func192 rfl Tryz.ntmps192 rfl ?_
 refine CW.seq (CW.plain ?_)
 refine RL.pu ?_
 refine RL.pd ?_
 refine CW.seq (CW.plain ?_)
 refine RL.pd ?_
 refine CW.seq (CW.plain ?_)
 refine RL.pp ?_
 refine RL.sub rfl rfl rfl rfl rfl rfl ((by simp only [rng]; omega)) ?_
 refine RL.pd ?_
 refine CW.meet (fun E' w' => ∃ A' dk, Good w' s (A' :: os) ∧ Aux w w' ∧ RowAt A' g rest dk ∧ dk.size = n ∧ dk = Go.Sort.heapBuild ltI (b - a) a ((b - a - 1) / 2 + 1) d ∧ E' = [(0, .slice (some ⟨g, 0, none⟩) n c), (6, i64 a), (7, i64 0), (8, i64 ((b - a : Nat) : Int))]) ?_ ?_
 ·
  refine CW.seq (CW.plain ?_)
  refine RL.pu ?_
  refine RL.sub rfl rfl rfl rfl rfl rfl ((by simp only [rng]; omega)) ?_
  refine RL.quo rfl rfl rfl rfl rfl rfl ((by omega)) ((by decide)) ((by simp only [rng]; omega)) ?_
  refine RL.pd ?_
  refine CW.block (CW.loop (σ := Nat) (fun k E w' => ∃ A' dk, Good w' s (A' :: os) ∧ Aux w w' ∧ RowAt A' g rest dk ∧ dk.size = n ∧ k ≤ n ∧ Go.Sort.heapBuild ltI (b - a) a ((b - a - 1) / 2 + 1) d = Go.Sort.heapBuild ltI (b - a) a k dk ∧ E = [(0, .slice (some ⟨g, 0, none⟩) n c), (6, i64 a), (7, i64 0), (8, i64 ((b - a : Nat) : Int)), (9, i64 ((k : Int) - 1))])
   (fun k => k) ((b - a - 1) / 2 + 1) [(0, .slice (some ⟨g, 0, none⟩) n c), (6, i64 a), (7, i64 0), (8, i64 ((b - a : Nat) : Int)), (9, i64 ((((b - a - 1) / 2 + 1 : Nat) : Int) - 1))] ⟨rfl, rfl, rfl, congrArg (fun z => some (i64 z)) (by omega), congrArg (fun z => some (i64 z)) (by omega), trivial⟩ ⟨A, d, hg, Aux.refl _, hrow, hn, by omega, rfl, rfl⟩ ?_)
  rintro k E w1 ⟨A1, d1, hg1, hax1, hrow1, hn1, hkn, heq, rfl⟩
  refine CW.seq (CW.seq (CW.plain ?_))
  refine RL.pu ?_
  refine RL.pd ?_
  refine CW.test rfl (fun h => ?_) (fun h => ?_)
  ·
   refine CW.skip ?_
   obtain ⟨k, rfl⟩ : ∃ j, k = j + 1 := ⟨k - 1, by omega⟩
   refine CW.seq (CW.block (CW.plain ?_))
   refine RL.pp ?_
   refine RL.pp ?_
   have ek : (((k + 1 : Nat) : Int) - 1) = ((k : Nat) : Int) := by omega
   rw [ek]
   refine RL.call rfl rfl rfl rfl rfl ca206 (l := [.slice (some ⟨g, 0, none⟩) n c, i64 (k : Nat), i64 ((b - a : Nat) : Int), i64 a]) (siftDown_ct hg1 hrow1 hn1 (by omega) (by omega) hsz) ?_
   rintro v2 s2 A2 w2 hle2 hg2 hax2 ⟨rfl, rfl, hrow2⟩
   refine ⟨trivial, ?_⟩
   refine RL.done ?_
   refine CW.plain ?_
   refine RL.pu ?_
   refine RL.sub rfl rfl rfl rfl rfl rfl ((by simp only [rng]; omega)) ?_
   refine RL.pd ?_
   refine fun ac ha => ⟨k, [(0, .slice (some ⟨g, 0, none⟩) n c), (6, i64 a), (7, i64 0), (8, i64 ((b - a : Nat) : Int)), (9, i64 ((k : Int) - 1))], ha.sub ⟨rfl, rfl, rfl, rfl, congrArg (fun z => some (i64 z)) (by omega), trivial⟩, ⟨A2, _, hg2, hax1.trans hax2, hrow2, by rw [sift_size]; exact hn1, by omega, by rw [heq, Go.Sort.heapBuild], rfl⟩, by omega⟩
  ·
   refine CW.exit (fun ac ha => ⟨_, ha.sub (E' := [(0, .slice (some ⟨g, 0, none⟩) n c), (6, i64 a), (7, i64 0), (8, i64 ((b - a : Nat) : Int))]) ⟨rfl, rfl, rfl, rfl, trivial⟩, A1, d1, hg1, hax1, hrow1, hn1, ?_, rfl⟩)
   obtain rfl : k = 0 := by omega
   rw [heq]; rfl
 ·
  rintro E' w1 ⟨A1, d1, hg1, hax1, hrow1, hn1, hd1, rfl⟩
  refine CW.seq (CW.plain ?_)
  refine RL.pu ?_
  refine RL.sub rfl rfl rfl rfl rfl rfl ((by simp only [rng]; omega)) ?_
  refine RL.pd ?_
  refine CW.block (CW.loop (σ := Nat) (fun k E w' => ∃ A' dk, Good w' s (A' :: os) ∧ Aux w w' ∧ RowAt A' g rest dk ∧ dk.size = n ∧ k ≤ b - a ∧ Go.Sort.heapSort ltI d a b = Go.Sort.heapPop ltI a k dk ∧ E = [(0, .slice (some ⟨g, 0, none⟩) n c), (6, i64 a), (7, i64 0), (8, i64 ((b - a : Nat) : Int)), (10, i64 ((k : Int) - 1))])
   (fun k => k) (b - a) [(0, .slice (some ⟨g, 0, none⟩) n c), (6, i64 a), (7, i64 0), (8, i64 ((b - a : Nat) : Int)), (10, i64 (((b - a : Nat) : Int) - 1))] ⟨rfl, rfl, rfl, rfl, rfl, trivial⟩ ⟨A1, d1, hg1, hax1, hrow1, hn1, Nat.le_refl _, by rw [hd1, Go.Sort.heapSort], rfl⟩ ?_)
  rintro k E w2 ⟨A2, d2, hg, hax2, hrow, hn2, hkn, heq, rfl⟩
  refine CW.seq (CW.seq (CW.plain ?_))
  refine RL.pu ?_
  refine RL.pd ?_
  refine CW.test rfl (fun h => ?_) (fun h => ?_)
  ·
   refine CW.skip ?_
   obtain ⟨k, rfl⟩ : ∃ j, k = j + 1 := ⟨k - 1, by omega⟩
   refine CW.seq (CW.block ?_)
   refine CW.meet (fun E' w' => ∃ A', Good w' s (A' :: os) ∧ Aux w w' ∧ RowAt A' g rest (swp d2 a (a + k)) ∧ E' = [(0, .slice (some ⟨g, 0, none⟩) n c), (6, i64 a), (7, i64 0), (8, i64 ((b - a : Nat) : Int)), (10, i64 (((k + 1 : Nat) : Int) - 1))]) ?_ ?_
   ·
    refine CW.forks (.fork [(true, 0), (true, 1), (true, 2), (true, 3), (true, 4), (true, 5), (true, 6), (true, 7), (true, 8), (true, 9), (true, 10), (true, 12), (true, 13), (true, 14)] (.line [(false, 11), (false, 15), (true, 16), (false, 17), (true, 18), (false, 19)]) (.line [(false, 15), (false, 11), (true, 16), (false, 17), (true, 18), (false, 19)])) (fun _ => True) mixed (by kernel_rfl) (by kernel_rfl) (by kernel_rfl) (by kernel_rfl) trivial ?_
    refine RT.pre trivial ?_
    refine RL.pp ?_
    refine RL.pp ?_
    refine RL.pu ?_
    refine RL.add rfl rfl rfl rfl rfl rfl (by simp only [rng] at *; omega) ?_
    refine RL.pp ?_
    refine RL.pu ?_
    refine RL.add rfl rfl rfl rfl rfl rfl (by simp only [rng] at *; omega) ?_
    refine RL.idxR (a + k) rfl rfl rfl rfl sl83 rfl rfl (by omega) (by omega) ?_
    refine RL.pp ?_
    refine RL.idxR (a) rfl rfl rfl rfl sl83 rfl rfl (by omega) (by omega) ?_
    refine RL.done ?_
    refine RT.both (S := fun _ => True) trivial (RT.end_ (S := fun _ => True) trivial ?_) (RT.end_ (S := fun _ => True) trivial ?_)
    ·
     refine RL.loadR (a + k) rfl rfl rfl rfl ty22 rfl hrow hg.drew.1 (by omega) ?_
     refine RL.loadR (a) rfl rfl rfl rfl ty22 rfl hrow hg.drew.1 (by omega) ?_
     refine RL.idxR (a) rfl rfl rfl rfl sl83 rfl rfl (by omega) (by omega) ?_
     refine RL.storeR (a) rfl rfl rfl ty22 rfl rfl hg.drew hrow (by omega) ?_
     intro ws1 As1 hgs1 haxs1 hrows1
     refine ⟨trivial, ?_⟩
     refine RL.idxR (a + k) rfl rfl rfl rfl sl83 rfl rfl (by omega) (by omega) ?_
     refine RL.storeR (a + k) rfl rfl rfl ty22 rfl rfl hgs1 hrows1 (by simp; omega) ?_
     intro ws2 As2 hgs2 haxs2 hrows2
     refine ⟨trivial, ?_⟩
     refine RL.done ?_
     exact fun ac ha => ⟨_, ha.sub (E' := [(0, .slice (some ⟨g, 0, none⟩) n c), (6, i64 a), (7, i64 0), (8, i64 ((b - a : Nat) : Int)), (10, i64 (((k + 1 : Nat) : Int) - 1))]) ⟨rfl, rfl, rfl, rfl, rfl, trivial⟩, As2, hgs2, hax2.trans ((Aux.drew _).trans (haxs1.trans haxs2)), hrows2, rfl⟩
    ·
     refine RL.loadR (a) rfl rfl rfl rfl ty22 rfl hrow hg.drew.1 (by omega) ?_
     refine RL.loadR (a + k) rfl rfl rfl rfl ty22 rfl hrow hg.drew.1 (by omega) ?_
     refine RL.idxR (a) rfl rfl rfl rfl sl83 rfl rfl (by omega) (by omega) ?_
     refine RL.storeR (a) rfl rfl rfl ty22 rfl rfl hg.drew hrow (by omega) ?_
     intro ws1 As1 hgs1 haxs1 hrows1
     refine ⟨trivial, ?_⟩
     refine RL.idxR (a + k) rfl rfl rfl rfl sl83 rfl rfl (by omega) (by omega) ?_
     refine RL.storeR (a + k) rfl rfl rfl ty22 rfl rfl hgs1 hrows1 (by simp; omega) ?_
     intro ws2 As2 hgs2 haxs2 hrows2
     refine ⟨trivial, ?_⟩
     refine RL.done ?_
     exact fun ac ha => ⟨_, ha.sub (E' := [(0, .slice (some ⟨g, 0, none⟩) n c), (6, i64 a), (7, i64 0), (8, i64 ((b - a : Nat) : Int)), (10, i64 (((k + 1 : Nat) : Int) - 1))]) ⟨rfl, rfl, rfl, rfl, rfl, trivial⟩, As2, hgs2, hax2.trans ((Aux.drew _).trans (haxs1.trans haxs2)), hrows2, rfl⟩
   ·
    rintro E' w3 ⟨A3, hg3, hax3, hrow3, rfl⟩
    have hn3 : (swp d2 a (a + k)).size = n := by rw [size_swp]; exact hn2
    refine CW.plain ?_
    refine RL.pp ?_
    refine RL.pp ?_
    have ek : (((k + 1 : Nat) : Int) - 1) = ((k : Nat) : Int) := by omega
    rw [ek]
    refine RL.call rfl rfl rfl rfl rfl ca206 (l := [.slice (some ⟨g, 0, none⟩) n c, i64 ((0 : Nat) : Int), i64 (k : Nat), i64 a]) (siftDown_ct hg3 hrow3 hn3 (by omega) (by omega) hsz) ?_
    rintro v4 s4 A4 w4 hle4 hg4 hax4 ⟨rfl, rfl, hrow4⟩
    refine ⟨trivial, ?_⟩
    refine RL.done ?_
    refine CW.plain ?_
    refine RL.pu ?_
    refine RL.sub rfl rfl rfl rfl rfl rfl ((by simp only [rng]; omega)) ?_
    refine RL.pd ?_
    refine fun ac ha => ⟨k, [(0, .slice (some ⟨g, 0, none⟩) n c), (6, i64 a), (7, i64 0), (8, i64 ((b - a : Nat) : Int)), (10, i64 ((k : Int) - 1))], ha.sub ⟨rfl, rfl, rfl, rfl, rfl, trivial⟩, ⟨A4, _, hg4, hax3.trans hax4, hrow4, by rw [sift_size]; exact hn3, by omega, by rw [heq, Go.Sort.heapPop], rfl⟩, by omega⟩
  ·
   refine CW.exit ?_
   refine fall (vs := []) rfl (Post.mk (Le.refl _) hg hax2 ⟨rfl, rfl, ?_⟩)
   obtain rfl : k = 0 := by omega
   rw [heq]
   exact hrow
end Go.Lw

/-
 The sort's partitions, walked.
-/
namespace Go.Lw
open Go.Proofs
open Go.Sort (swp size_swp)
theorem scanUp_step {p : Int → Bool} {d : Array Int} {j i : Nat} (h : i ≤ j) (hp : p d[i]! = true) : Go.Sort.scanUp p d j i = Go.Sort.scanUp p d j (i + 1) := by
 rw [Go.Sort.scanUp, if_pos (by simp [h, hp])]
theorem scanUp_end {p : Int → Bool} {d : Array Int} {j i : Nat} (h : ¬ i ≤ j ∨ p d[i]! = false) : Go.Sort.scanUp p d j i = i := by
 rw [Go.Sort.scanUp, if_neg]
 rcases h with h | h
 ·
  simp [h]
 ·
  simp [h]
theorem scanDown_step {p : Int → Bool} {d : Array Int} {j i : Nat} (h : i ≤ j) (hi : 1 ≤ i) (hp : p d[j]! = true) : Go.Sort.scanDown p d i j = Go.Sort.scanDown p d i (j - 1) := by
 obtain ⟨j, rfl⟩ : ∃ m, j = m + 1 := ⟨j - 1, by omega⟩
 rw [Go.Sort.scanDown, if_pos (by simp [h, hp])]
 rfl
theorem scanDown_end {p : Int → Bool} {d : Array Int} {j i : Nat} (h : ¬ i ≤ j ∨ p d[j]! = false) : Go.Sort.scanDown p d i j = j := by
 cases j with
 | zero => rfl
 | succ j =>
  rw [Go.Sort.scanDown, if_neg]
  rcases h with h | h
  ·
   simp [h]
  ·
   simp [h]
theorem part_eq {a i j : Nat} {d : Array Int} {i2 j2 : Nat} (h1 : Go.Sort.scanUp (fun x => ltI x d[a]!) d j i = i2) (h2 : Go.Sort.scanDown (fun x => !ltI x d[a]!) d i2 j = j2) (hi : i ≤ i2) (hj : j2 ≤ j) :
  Go.Sort.partLoop ltI a i j d = if i2 > j2 then (j2, d) else Go.Sort.partLoop ltI a (i2 + 1) (j2 - 1) (swp d i2 j2) := by
 conv => lhs; rw [Go.Sort.partLoop]
 simp only [h1, h2]
 by_cases hc : i2 > j2
 ·
  rw [if_pos hc, if_pos hc]
 ·
  rw [if_neg hc, if_neg hc, dif_pos (by omega)]
theorem partEq_eq {a i j : Nat} {d : Array Int} {i2 j2 : Nat} (h1 : Go.Sort.scanUp (fun x => !ltI d[a]! x) d j i = i2) (h2 : Go.Sort.scanDown (fun x => ltI d[a]! x) d i2 j = j2) (hi : i ≤ i2) (hj : j2 ≤ j) :
  Go.Sort.partEqLoop ltI a i j d = if i2 > j2 then (i2, d) else Go.Sort.partEqLoop ltI a (i2 + 1) (j2 - 1) (swp d i2 j2) := by
 conv => lhs; rw [Go.Sort.partEqLoop]
 simp only [h1, h2]
 by_cases hc : i2 > j2
 ·
  rw [if_pos hc, if_pos hc]
 ·
  rw [if_neg hc, if_neg hc, dif_pos (by omega)]
-- a scan upwards: F, RC (the test's region), its order of operations, RI (the step's region), t-names: guard tg, idx/load 1 (at M1), idx/load 2 (at M2), call tc with contract arguments; TI TJ: the slots of i and j
theorem partition_hit {d : Array Int} {a b pivot i j : Nat} (h1 : Go.Sort.scanUp (fun x => ltI x (swp d a pivot)[a]!) (swp d a pivot) (b - 1) (a + 1) = i) (h2 : Go.Sort.scanDown (fun x => !ltI x (swp d a pivot)[a]!) (swp d a pivot) i (b - 1) = j) (h : i > j) :
  Go.Sort.partition ltI d a b pivot = (j, true, swp (swp d a pivot) j a) := by
 simp only [Go.Sort.partition, h1, h2]
 rw [if_pos h]
theorem partition_miss {d : Array Int} {a b pivot i j : Nat} (h1 : Go.Sort.scanUp (fun x => ltI x (swp d a pivot)[a]!) (swp d a pivot) (b - 1) (a + 1) = i) (h2 : Go.Sort.scanDown (fun x => !ltI x (swp d a pivot)[a]!) (swp d a pivot) i (b - 1) = j) (h : ¬ i > j) :
  Go.Sort.partition ltI d a b pivot = ((Go.Sort.partLoop ltI a (i + 1) (j - 1) (swp (swp d a pivot) i j)).1, false, swp (Go.Sort.partLoop ltI a (i + 1) (j - 1) (swp (swp d a pivot) i j)).2 (Go.Sort.partLoop ltI a (i + 1) (j - 1) (swp (swp d a pivot) i j)).1 a) := by
 simp only [Go.Sort.partition, h1, h2]
 rw [if_neg h]
set_option maxHeartbeats 1000000 in
set_option maxRecDepth 100000 in
theorem partition_ct {w : World} {s A : Res} {os : List Res} {g n c a b pivot : Nat} {rest : List Value} {d : Array Int} (hg : Good w s (A :: os)) (hrow : RowAt A g rest d) (hn : d.size = n) (hb : b ≤ n) (hap : a ≤ pivot) (hpb : pivot < b) (hsz : n < 2305843009213693952) :
  Calls Tryz.prog 199 #[.slice (some ⟨g, 0, none⟩) n c, i64 a, i64 b, i64 pivot] w
   (Post w s os fun s' A' r => s' = s ∧ r = .tuple #[i64 ((Go.Sort.partition ltI d a b pivot).1 : Nat), .bool (Go.Sort.partition ltI d a b pivot).2.1] ∧ RowAt A' g rest (Go.Sort.partition ltI d a b pivot).2.2) := by
 refine enter (l := [.slice (some ⟨g, 0, none⟩) n c, i64 a, i64 b, i64 pivot]) Tryz.func199 rfl Tryz.ntmps199 rfl ?_
 refine CW.seq (CW.plain ?_)
 refine RL.pu ?_
 refine RL.pd ?_
 refine CW.meet (fun E' w' => ∃ A', Good w' s (A' :: os) ∧ Aux w w' ∧ RowAt A' g rest (swp d a pivot) ∧ E' = [(0, .slice (some ⟨g, 0, none⟩) n c), (1, i64 a), (2, i64 b)]) ?_ ?_
 ·
  refine CW.forks (.fork [(true, 0), (true, 1), (true, 2), (true, 3), (true, 4), (true, 5), (true, 6), (true, 8), (true, 9), (true, 10)] (.line [(false, 7), (false, 11), (true, 12), (false, 13), (true, 14), (false, 15)]) (.line [(false, 11), (false, 7), (true, 12), (false, 13), (true, 14), (false, 15)])) (fun _ => True) mixed (by kernel_rfl) (by kernel_rfl) (by kernel_rfl) (by kernel_rfl) trivial ?_
  refine RT.pre trivial ?_
  refine RL.pp ?_
  refine RL.pp ?_
  refine RL.pp ?_
  refine RL.idxR (pivot) rfl rfl rfl rfl sl83 rfl rfl (by omega) (by omega) ?_
  refine RL.pp ?_
  refine RL.idxR (a) rfl rfl rfl rfl sl83 rfl rfl (by omega) (by omega) ?_
  refine RL.done ?_
  refine RT.both (S := fun _ => True) trivial (RT.end_ (S := fun _ => True) trivial ?_) (RT.end_ (S := fun _ => True) trivial ?_)
  ·
   refine RL.loadR (pivot) rfl rfl rfl rfl ty22 rfl hrow hg.drew.1 (by omega) ?_
   refine RL.loadR (a) rfl rfl rfl rfl ty22 rfl hrow hg.drew.1 (by omega) ?_
   refine RL.idxR (a) rfl rfl rfl rfl sl83 rfl rfl (by omega) (by omega) ?_
   refine RL.storeR (a) rfl rfl rfl ty22 rfl rfl hg.drew hrow (by omega) ?_
   intro ws1 As1 hgs1 haxs1 hrows1
   refine ⟨trivial, ?_⟩
   refine RL.idxR (pivot) rfl rfl rfl rfl sl83 rfl rfl (by omega) (by omega) ?_
   refine RL.storeR (pivot) rfl rfl rfl ty22 rfl rfl hgs1 hrows1 (by simp; omega) ?_
   intro ws2 As2 hgs2 haxs2 hrows2
   refine ⟨trivial, ?_⟩
   refine RL.done ?_
   exact fun ac ha => ⟨_, ha.sub (E' := [(0, .slice (some ⟨g, 0, none⟩) n c), (1, i64 a), (2, i64 b)]) ⟨rfl, rfl, rfl, trivial⟩, As2, hgs2, (Aux.drew _).trans (haxs1.trans haxs2), hrows2, rfl⟩
  ·
   refine RL.loadR (a) rfl rfl rfl rfl ty22 rfl hrow hg.drew.1 (by omega) ?_
   refine RL.loadR (pivot) rfl rfl rfl rfl ty22 rfl hrow hg.drew.1 (by omega) ?_
   refine RL.idxR (a) rfl rfl rfl rfl sl83 rfl rfl (by omega) (by omega) ?_
   refine RL.storeR (a) rfl rfl rfl ty22 rfl rfl hg.drew hrow (by omega) ?_
   intro ws1 As1 hgs1 haxs1 hrows1
   refine ⟨trivial, ?_⟩
   refine RL.idxR (pivot) rfl rfl rfl rfl sl83 rfl rfl (by omega) (by omega) ?_
   refine RL.storeR (pivot) rfl rfl rfl ty22 rfl rfl hgs1 hrows1 (by simp; omega) ?_
   intro ws2 As2 hgs2 haxs2 hrows2
   refine ⟨trivial, ?_⟩
   refine RL.done ?_
   exact fun ac ha => ⟨_, ha.sub (E' := [(0, .slice (some ⟨g, 0, none⟩) n c), (1, i64 a), (2, i64 b)]) ⟨rfl, rfl, rfl, trivial⟩, As2, hgs2, (Aux.drew _).trans (haxs1.trans haxs2), hrows2, rfl⟩
 rintro E' w1 ⟨A1, hg1, hax1, hrow1, rfl⟩
 have hn1 : (swp d a pivot).size = n := by rw [size_swp]; exact hn
 generalize hd1 : swp d a pivot = d1 at *
 refine CW.seq (CW.plain ?_)
 refine RL.pu ?_
 refine RL.add rfl rfl rfl rfl rfl rfl ((by simp only [rng]; omega)) ?_
 refine RL.pu ?_
 refine RL.sub rfl rfl rfl rfl rfl rfl ((by simp only [rng]; omega)) ?_
 refine RL.pu ?_
 refine RL.pd ?_
 obtain ⟨i, hi⟩ : ∃ i, i = a + 1 := ⟨_, rfl⟩
 obtain ⟨j, hj⟩ : ∃ j, j = b - 1 := ⟨_, rfl⟩
 refine CW.less [(0, .slice (some ⟨g, 0, none⟩) n c), (1, i64 a), (10, i64 (i : Nat)), (11, i64 (j : Nat))] ⟨rfl, rfl, congrArg (fun z => some (i64 z)) (by omega), congrArg (fun z => some (i64 z)) (by omega), trivial⟩ ?_
 refine CW.meet (fun E' w' => ∃ x, Good w' s (A1 :: os) ∧ Aux w w' ∧ i ≤ x ∧ x ≤ j + 1 + (i - (j + 1)) ∧ Go.Sort.scanUp (fun x => ltI x d1[a]!) d1 j i = x ∧ E' = [(0, .slice (some ⟨g, 0, none⟩) n c), (1, i64 a), (10, i64 (x : Nat)), (11, i64 (j : Nat))]) ?_ ?_
 ·
  refine CW.block (CW.loop (σ := Nat) (fun k E w' => ∃ x, Good w' s (A1 :: os) ∧ Aux w w' ∧ i ≤ x ∧ x ≤ j + 1 + (i - (j + 1)) ∧ j + 1 - x ≤ k ∧ Go.Sort.scanUp (fun x => ltI x d1[a]!) d1 j i = Go.Sort.scanUp (fun x => ltI x d1[a]!) d1 j x ∧ E = [(0, .slice (some ⟨g, 0, none⟩) n c), (1, i64 a), (10, i64 (x : Nat)), (11, i64 (j : Nat))])
   (fun k => k) (j + 1) [(0, .slice (some ⟨g, 0, none⟩) n c), (1, i64 a), (10, i64 (i : Nat)), (11, i64 (j : Nat))] ⟨rfl, rfl, rfl, rfl, trivial⟩ ⟨i, hg1, hax1, Nat.le_refl _, by omega, by omega, rfl, rfl⟩ ?_)
  rintro k E w2 ⟨x, hg, hax2, hix, hxj, hk, hsc, rfl⟩
  refine CW.seq (CW.seq ?_)
  refine CW.draws [(true, 0), (true, 1), (true, 2), (true, 3), (true, 4), (true, 5), (true, 6), (true, 7), (true, 8), (true, 9), (true, 10), (true, 11), (false, 12), (true, 13)] (fun w' => Good w' s (A1 :: os)) mixed (by kernel_rfl) (by kernel_rfl) (by kernel_rfl) (by kernel_rfl) hg.drew ?_
  refine RL.pp ?_
  refine RL.pp ?_
  refine RL.part 33 rfl (fun hc => ?_) (fun hc => ?_)
  ·
   have hxj' : x ≤ j := by have := of_decide_eq_true hc; omega
   refine RL.pp ?_
   refine RL.idxR (x) rfl rfl rfl rfl sl83 rfl rfl (by omega) (by omega) ?_
   refine RL.loadRT (x) rfl rfl rfl rfl ty22 rfl hrow1 (fun w h => h.1) (by omega) ?_
   refine RL.pp ?_
   refine RL.idxR (a) rfl rfl rfl rfl sl83 rfl rfl (by omega) (by omega) ?_
   refine RL.loadRT (a) rfl rfl rfl rfl ty22 rfl hrow1 (fun w h => h.1) (by omega) ?_
   refine RL.callV rfl rfl rfl rfl rfl ca197 (Less_ct hg.drew) ?_
   rintro v w3 hg3 hax3 rfl
   refine ⟨hg3, ?_⟩
   refine RL.pd ?_
   refine CW.cond rfl (fun hl => ?_) (fun hl => ?_)
   ·
    refine CW.skip ?_
    refine CW.block (CW.plain ?_)
    refine RL.pu ?_
    refine RL.add rfl rfl rfl rfl rfl rfl ((by simp only [rng]; omega)) ?_
    refine RL.pd ?_
    refine fun ac ha => ⟨k - 1, [(0, .slice (some ⟨g, 0, none⟩) n c), (1, i64 a), (10, i64 ((x : Int) + 1)), (11, i64 (j : Nat))], ha.sub ⟨rfl, rfl, rfl, rfl, trivial⟩, ⟨x + 1, hg3, hax2.trans ((Aux.drew _).trans hax3), by omega, by omega, by omega, by rw [hsc]; exact scanUp_step (p := fun x => ltI x d1[a]!) hxj' (by simpa using hl), rfl⟩, by omega⟩
   ·
    refine CW.exit (fun ac ha => ⟨_, ha.sub (E' := [(0, .slice (some ⟨g, 0, none⟩) n c), (1, i64 a), (10, i64 (x : Nat)), (11, i64 (j : Nat))]) ⟨rfl, rfl, rfl, rfl, trivial⟩, x, hg3, hax2.trans ((Aux.drew _).trans hax3), hix, hxj, by rw [hsc]; exact scanUp_end (p := fun x => ltI x d1[a]!) (.inr (by simpa using hl)), rfl⟩)
  ·
   have hxj' : ¬ x ≤ j := by have := of_decide_eq_false hc; omega
   refine RL.qq ?_
   refine RL.qq ?_
   refine RL.qq ?_
   refine RL.qq ?_
   refine RL.pa ?_
   refine RL.pd ?_
   refine CW.no rfl ?_
   refine CW.exit (fun ac ha => ⟨_, ha.sub (E' := [(0, .slice (some ⟨g, 0, none⟩) n c), (1, i64 a), (10, i64 (x : Nat)), (11, i64 (j : Nat))]) ⟨rfl, rfl, rfl, rfl, trivial⟩, x, hg.drew, hax2.trans (Aux.drew _), hix, hxj, by rw [hsc]; exact scanUp_end (p := fun x => ltI x d1[a]!) (.inl hxj'), rfl⟩)
 rintro E' w4 ⟨i2, hg4, hax4, hii2, hi2j, hup, rfl⟩
 have h1i : 1 ≤ i2 := by omega
 refine CW.meet (fun E' w' => ∃ y, Good w' s (A1 :: os) ∧ Aux w w' ∧ y ≤ j ∧ (i2 ≤ y + 1 ∨ y = j) ∧ Go.Sort.scanDown (fun x => !ltI x d1[a]!) d1 i2 j = y ∧ E' = [(0, .slice (some ⟨g, 0, none⟩) n c), (1, i64 a), (10, i64 (i2 : Nat)), (11, i64 (y : Nat))]) ?_ ?_
 ·
  refine CW.block (CW.loop (σ := Nat) (fun k E w' => ∃ y, Good w' s (A1 :: os) ∧ Aux w w' ∧ y ≤ j ∧ (i2 ≤ y + 1 ∨ y = j) ∧ y ≤ k ∧ Go.Sort.scanDown (fun x => !ltI x d1[a]!) d1 i2 j = Go.Sort.scanDown (fun x => !ltI x d1[a]!) d1 i2 y ∧ E = [(0, .slice (some ⟨g, 0, none⟩) n c), (1, i64 a), (10, i64 (i2 : Nat)), (11, i64 (y : Nat))])
   (fun k => k) j [(0, .slice (some ⟨g, 0, none⟩) n c), (1, i64 a), (10, i64 (i2 : Nat)), (11, i64 (j : Nat))] ⟨rfl, rfl, rfl, rfl, trivial⟩ ⟨j, hg4, hax4, Nat.le_refl _, .inr rfl, Nat.le_refl _, rfl, rfl⟩ ?_)
  rintro k E w2 ⟨y, hg, hax2, hyj, hiy, hk, hsc, rfl⟩
  refine CW.seq (CW.seq ?_)
  refine CW.draws [(true, 0), (true, 1), (true, 2), (true, 3), (true, 4), (true, 5), (true, 6), (true, 7), (true, 8), (true, 9), (true, 10), (true, 11), (false, 12), (true, 13), (true, 14)] (fun w' => Good w' s (A1 :: os)) mixed (by kernel_rfl) (by kernel_rfl) (by kernel_rfl) (by kernel_rfl) hg.drew ?_
  refine RL.pp ?_
  refine RL.pp ?_
  refine RL.part 49 rfl (fun hc => ?_) (fun hc => ?_)
  ·
   have hxj' : i2 ≤ y := by have := of_decide_eq_true hc; omega
   refine RL.pp ?_
   refine RL.idxR (y) rfl rfl rfl rfl sl83 rfl rfl (by omega) (by omega) ?_
   refine RL.loadRT (y) rfl rfl rfl rfl ty22 rfl hrow1 (fun w h => h.1) (by omega) ?_
   refine RL.pp ?_
   refine RL.idxR (a) rfl rfl rfl rfl sl83 rfl rfl (by omega) (by omega) ?_
   refine RL.loadRT (a) rfl rfl rfl rfl ty22 rfl hrow1 (fun w h => h.1) (by omega) ?_
   refine RL.callV rfl rfl rfl rfl rfl ca197 (Less_ct hg.drew) ?_
   rintro v w3 hg3 hax3 rfl
   refine ⟨hg3, ?_⟩
   refine RL.pu ?_
   refine RL.pd ?_
   refine CW.cond rfl (fun hl => ?_) (fun hl => ?_)
   ·
    refine CW.skip ?_
    refine CW.block (CW.plain ?_)
    refine RL.pu ?_
    refine RL.sub rfl rfl rfl rfl rfl rfl ((by simp only [rng]; omega)) ?_
    refine RL.pd ?_
    refine fun ac ha => ⟨k - 1, [(0, .slice (some ⟨g, 0, none⟩) n c), (1, i64 a), (10, i64 (i2 : Nat)), (11, i64 ((y - 1 : Nat) : Int))], ha.sub ⟨rfl, rfl, rfl, congrArg (fun z => some (i64 z)) (by omega), trivial⟩, ⟨y - 1, hg3, hax2.trans ((Aux.drew _).trans hax3), by omega, by omega, by omega, by rw [hsc]; exact scanDown_step (p := fun x => !ltI x d1[a]!) hxj' (by omega) (by simpa using hl), rfl⟩, by omega⟩
   ·
    refine CW.exit (fun ac ha => ⟨_, ha.sub (E' := [(0, .slice (some ⟨g, 0, none⟩) n c), (1, i64 a), (10, i64 (i2 : Nat)), (11, i64 (y : Nat))]) ⟨rfl, rfl, rfl, rfl, trivial⟩, y, hg3, hax2.trans ((Aux.drew _).trans hax3), hyj, hiy, by rw [hsc]; exact scanDown_end (p := fun x => !ltI x d1[a]!) (.inr (by simpa using hl)), rfl⟩)
  ·
   have hxj' : ¬ i2 ≤ y := by have := of_decide_eq_false hc; omega
   refine RL.qq ?_
   refine RL.qq ?_
   refine RL.qq ?_
   refine RL.qq ?_
   refine RL.qq ?_
   refine RL.pd ?_
   refine CW.no rfl ?_
   refine CW.exit (fun ac ha => ⟨_, ha.sub (E' := [(0, .slice (some ⟨g, 0, none⟩) n c), (1, i64 a), (10, i64 (i2 : Nat)), (11, i64 (y : Nat))]) ⟨rfl, rfl, rfl, rfl, trivial⟩, y, hg.drew, hax2.trans (Aux.drew _), hyj, hiy, by rw [hsc]; exact scanDown_end (p := fun x => !ltI x d1[a]!) (.inl hxj'), rfl⟩)
 rintro E' w5 ⟨j2, hg5, hax5, hj2j, hij2, hdown, rfl⟩
 refine CW.seq (CW.seq (CW.plain ?_))
 refine RL.pp ?_
 refine RL.pd ?_
 subst hi hj hd1
 refine CW.test rfl (fun h => ?_) (fun h => ?_)
 ·
  have hh : i2 > j2 := by omega
  have hpt := partition_hit hup hdown hh
  have hg := hg5
  have hrow := hrow1
  have hn := hn1
  refine CW.meet (fun E' w' => ∃ A', Good w' s (A' :: os) ∧ Aux w w' ∧ RowAt A' g rest (swp (swp d a pivot) j2 a) ∧ E' = [(11, i64 (j2 : Nat))]) ?_ ?_
  ·
   refine CW.forks (.fork [(true, 0), (true, 1), (true, 2), (true, 3), (true, 4), (true, 5), (true, 6), (true, 8), (true, 9), (true, 10)] (.line [(false, 7), (false, 11), (true, 12), (false, 13), (true, 14), (false, 15)]) (.line [(false, 11), (false, 7), (true, 12), (false, 13), (true, 14), (false, 15)])) (fun _ => True) mixed (by kernel_rfl) (by kernel_rfl) (by kernel_rfl) (by kernel_rfl) trivial ?_
   refine RT.pre trivial ?_
   refine RL.pp ?_
   refine RL.pp ?_
   refine RL.pp ?_
   refine RL.idxR (a) rfl rfl rfl rfl sl83 rfl rfl (by omega) (by omega) ?_
   refine RL.pp ?_
   refine RL.idxR (j2) rfl rfl rfl rfl sl83 rfl rfl (by omega) (by omega) ?_
   refine RL.done ?_
   refine RT.both (S := fun _ => True) trivial (RT.end_ (S := fun _ => True) trivial ?_) (RT.end_ (S := fun _ => True) trivial ?_)
   ·
    refine RL.loadR (a) rfl rfl rfl rfl ty22 rfl hrow hg.drew.1 (by omega) ?_
    refine RL.loadR (j2) rfl rfl rfl rfl ty22 rfl hrow hg.drew.1 (by omega) ?_
    refine RL.idxR (j2) rfl rfl rfl rfl sl83 rfl rfl (by omega) (by omega) ?_
    refine RL.storeR (j2) rfl rfl rfl ty22 rfl rfl hg.drew hrow (by omega) ?_
    intro ws1 As1 hgs1 haxs1 hrows1
    refine ⟨trivial, ?_⟩
    refine RL.idxR (a) rfl rfl rfl rfl sl83 rfl rfl (by omega) (by omega) ?_
    refine RL.storeR (a) rfl rfl rfl ty22 rfl rfl hgs1 hrows1 (by simp; omega) ?_
    intro ws2 As2 hgs2 haxs2 hrows2
    refine ⟨trivial, ?_⟩
    refine RL.done ?_
    exact fun ac ha => ⟨_, ha.sub (E' := [(11, i64 (j2 : Nat))]) ⟨rfl, trivial⟩, As2, hgs2, hax5.trans ((Aux.drew _).trans (haxs1.trans haxs2)), hrows2, rfl⟩
   ·
    refine RL.loadR (j2) rfl rfl rfl rfl ty22 rfl hrow hg.drew.1 (by omega) ?_
    refine RL.loadR (a) rfl rfl rfl rfl ty22 rfl hrow hg.drew.1 (by omega) ?_
    refine RL.idxR (j2) rfl rfl rfl rfl sl83 rfl rfl (by omega) (by omega) ?_
    refine RL.storeR (j2) rfl rfl rfl ty22 rfl rfl hg.drew hrow (by omega) ?_
    intro ws1 As1 hgs1 haxs1 hrows1
    refine ⟨trivial, ?_⟩
    refine RL.idxR (a) rfl rfl rfl rfl sl83 rfl rfl (by omega) (by omega) ?_
    refine RL.storeR (a) rfl rfl rfl ty22 rfl rfl hgs1 hrows1 (by simp; omega) ?_
    intro ws2 As2 hgs2 haxs2 hrows2
    refine ⟨trivial, ?_⟩
    refine RL.done ?_
    exact fun ac ha => ⟨_, ha.sub (E' := [(11, i64 (j2 : Nat))]) ⟨rfl, trivial⟩, As2, hgs2, hax5.trans ((Aux.drew _).trans (haxs1.trans haxs2)), hrows2, rfl⟩
  rintro E' w6 ⟨A6, hg6, hax6, hrow6, rfl⟩
  refine CW.seq (CW.plain ?_)
  refine RL.pp ?_
  refine RL.pd ?_
  refine CW.ret (ret (vs := [_, _]) ⟨_, _, rfl, rfl, _, _, rfl, rfl, rfl⟩ (Post.mk (Le.refl _) hg6 hax6 ⟨rfl, ?_, ?_⟩))
  ·
   rw [hpt]; rfl
  ·
   rw [hpt]; exact hrow6
 ·
  have hh : ¬ i2 > j2 := by omega
  have hpt := partition_miss hup hdown hh
  refine CW.skip ?_
  have hg := hg5
  have hrow := hrow1
  have hn := hn1
  refine CW.meet (fun E' w' => ∃ A', Good w' s (A' :: os) ∧ Aux w w' ∧ RowAt A' g rest (swp (swp d a pivot) i2 j2) ∧ E' = [(0, .slice (some ⟨g, 0, none⟩) n c), (1, i64 a), (10, i64 (i2 : Nat)), (11, i64 (j2 : Nat))]) ?_ ?_
  ·
   refine CW.forks (.fork [(true, 0), (true, 1), (true, 2), (true, 3), (true, 4), (true, 5), (true, 6), (true, 8), (true, 9), (true, 10)] (.line [(false, 7), (false, 11), (true, 12), (false, 13), (true, 14), (false, 15)]) (.line [(false, 11), (false, 7), (true, 12), (false, 13), (true, 14), (false, 15)])) (fun _ => True) mixed (by kernel_rfl) (by kernel_rfl) (by kernel_rfl) (by kernel_rfl) trivial ?_
   refine RT.pre trivial ?_
   refine RL.pp ?_
   refine RL.pp ?_
   refine RL.pp ?_
   refine RL.idxR (j2) rfl rfl rfl rfl sl83 rfl rfl (by omega) (by omega) ?_
   refine RL.pp ?_
   refine RL.idxR (i2) rfl rfl rfl rfl sl83 rfl rfl (by omega) (by omega) ?_
   refine RL.done ?_
   refine RT.both (S := fun _ => True) trivial (RT.end_ (S := fun _ => True) trivial ?_) (RT.end_ (S := fun _ => True) trivial ?_)
   ·
    refine RL.loadR (j2) rfl rfl rfl rfl ty22 rfl hrow hg.drew.1 (by omega) ?_
    refine RL.loadR (i2) rfl rfl rfl rfl ty22 rfl hrow hg.drew.1 (by omega) ?_
    refine RL.idxR (i2) rfl rfl rfl rfl sl83 rfl rfl (by omega) (by omega) ?_
    refine RL.storeR (i2) rfl rfl rfl ty22 rfl rfl hg.drew hrow (by omega) ?_
    intro ws1 As1 hgs1 haxs1 hrows1
    refine ⟨trivial, ?_⟩
    refine RL.idxR (j2) rfl rfl rfl rfl sl83 rfl rfl (by omega) (by omega) ?_
    refine RL.storeR (j2) rfl rfl rfl ty22 rfl rfl hgs1 hrows1 (by simp; omega) ?_
    intro ws2 As2 hgs2 haxs2 hrows2
    refine ⟨trivial, ?_⟩
    refine RL.done ?_
    exact fun ac ha => ⟨_, ha.sub (E' := [(0, .slice (some ⟨g, 0, none⟩) n c), (1, i64 a), (10, i64 (i2 : Nat)), (11, i64 (j2 : Nat))]) ⟨rfl, rfl, rfl, rfl, trivial⟩, As2, hgs2, hax5.trans ((Aux.drew _).trans (haxs1.trans haxs2)), hrows2, rfl⟩
   ·
    refine RL.loadR (i2) rfl rfl rfl rfl ty22 rfl hrow hg.drew.1 (by omega) ?_
    refine RL.loadR (j2) rfl rfl rfl rfl ty22 rfl hrow hg.drew.1 (by omega) ?_
    refine RL.idxR (i2) rfl rfl rfl rfl sl83 rfl rfl (by omega) (by omega) ?_
    refine RL.storeR (i2) rfl rfl rfl ty22 rfl rfl hg.drew hrow (by omega) ?_
    intro ws1 As1 hgs1 haxs1 hrows1
    refine ⟨trivial, ?_⟩
    refine RL.idxR (j2) rfl rfl rfl rfl sl83 rfl rfl (by omega) (by omega) ?_
    refine RL.storeR (j2) rfl rfl rfl ty22 rfl rfl hgs1 hrows1 (by simp; omega) ?_
    intro ws2 As2 hgs2 haxs2 hrows2
    refine ⟨trivial, ?_⟩
    refine RL.done ?_
    exact fun ac ha => ⟨_, ha.sub (E' := [(0, .slice (some ⟨g, 0, none⟩) n c), (1, i64 a), (10, i64 (i2 : Nat)), (11, i64 (j2 : Nat))]) ⟨rfl, rfl, rfl, rfl, trivial⟩, As2, hgs2, hax5.trans ((Aux.drew _).trans (haxs1.trans haxs2)), hrows2, rfl⟩
  rintro E' w6 ⟨A6, hg6, hax6, hrow6, rfl⟩
  have hn6 : (swp (swp d a pivot) i2 j2).size = n := by rw [size_swp]; exact hn1
  refine CW.seq (CW.plain ?_)
  refine RL.pu ?_
  refine RL.add rfl rfl rfl rfl rfl rfl ((by simp only [rng]; omega)) ?_
  refine RL.pd ?_
  refine CW.seq (CW.plain ?_)
  refine RL.pu ?_
  refine RL.sub rfl rfl rfl rfl rfl rfl ((by simp only [rng]; omega)) ?_
  refine RL.pd ?_
  generalize hd0 : swp (swp d a pivot) i2 j2 = d0 at *
  refine CW.meet (fun E' w' => ∃ A' dk jf, Good w' s (A' :: os) ∧ Aux w w' ∧ RowAt A' g rest dk ∧ dk.size = n ∧ a ≤ jf ∧ jf < n ∧ Go.Sort.partLoop ltI a (i2 + 1) (j2 - 1) d0 = (jf, dk) ∧ E' = [(0, .slice (some ⟨g, 0, none⟩) n c), (1, i64 a), (11, i64 (jf : Nat))]) ?_ ?_
  ·
   refine CW.block (CW.loop (σ := Nat) (fun k E w' => ∃ A' dk i j, Good w' s (A' :: os) ∧ Aux w w' ∧ RowAt A' g rest dk ∧ dk.size = n ∧ a < i ∧ i ≤ j + 2 ∧ a ≤ j ∧ j < n ∧ j + 2 - i ≤ k ∧ Go.Sort.partLoop ltI a (i2 + 1) (j2 - 1) d0 = Go.Sort.partLoop ltI a i j dk ∧ E = [(0, .slice (some ⟨g, 0, none⟩) n c), (1, i64 a), (10, i64 (i : Nat)), (11, i64 (j : Nat))])
    (fun k => k) (n + 2) [(0, .slice (some ⟨g, 0, none⟩) n c), (1, i64 a), (10, i64 ((i2 + 1 : Nat) : Int)), (11, i64 ((j2 - 1 : Nat) : Int))] ⟨rfl, rfl, rfl, congrArg (fun z => some (i64 z)) (by omega), trivial⟩ ⟨A6, d0, i2 + 1, j2 - 1, hg6, hax6, hrow6, hn6, by omega, by omega, by omega, by omega, by omega, rfl, rfl⟩ ?_)
   rintro k E w7 ⟨A1, d1, i, j, hg1, hax1, hrow1, hn1, hai, hij, haj, hjn, hk, heq, rfl⟩
   refine CW.block ?_
   refine CW.meet (fun E' w' => ∃ x, Good w' s (A1 :: os) ∧ Aux w w' ∧ i ≤ x ∧ x ≤ j + 1 + (i - (j + 1)) ∧ Go.Sort.scanUp (fun x => ltI x d1[a]!) d1 j i = x ∧ E' = [(0, .slice (some ⟨g, 0, none⟩) n c), (1, i64 a), (10, i64 (x : Nat)), (11, i64 (j : Nat))]) ?_ ?_
   ·
    clear hup hdown hpt
    refine CW.block (CW.loop (σ := Nat) (fun k E w' => ∃ x, Good w' s (A1 :: os) ∧ Aux w w' ∧ i ≤ x ∧ x ≤ j + 1 + (i - (j + 1)) ∧ j + 1 - x ≤ k ∧ Go.Sort.scanUp (fun x => ltI x d1[a]!) d1 j i = Go.Sort.scanUp (fun x => ltI x d1[a]!) d1 j x ∧ E = [(0, .slice (some ⟨g, 0, none⟩) n c), (1, i64 a), (10, i64 (x : Nat)), (11, i64 (j : Nat))])
     (fun k => k) (j + 1) [(0, .slice (some ⟨g, 0, none⟩) n c), (1, i64 a), (10, i64 (i : Nat)), (11, i64 (j : Nat))] ⟨rfl, rfl, rfl, rfl, trivial⟩ ⟨i, hg1, hax1, Nat.le_refl _, by omega, by omega, rfl, rfl⟩ ?_)
    rintro k E w2 ⟨x, hg, hax2, hix, hxj, hk, hsc, rfl⟩
    refine CW.seq (CW.seq ?_)
    refine CW.draws [(true, 0), (true, 1), (true, 2), (true, 3), (true, 4), (true, 5), (true, 6), (true, 7), (true, 8), (true, 9), (true, 10), (true, 11), (false, 12), (true, 13)] (fun w' => Good w' s (A1 :: os)) mixed (by kernel_rfl) (by kernel_rfl) (by kernel_rfl) (by kernel_rfl) hg.drew ?_
    refine RL.pp ?_
    refine RL.pp ?_
    refine RL.part 102 rfl (fun hc => ?_) (fun hc => ?_)
    ·
     have hxj' : x ≤ j := by have := of_decide_eq_true hc; omega
     refine RL.pp ?_
     refine RL.idxR (x) rfl rfl rfl rfl sl83 rfl rfl (by omega) (by omega) ?_
     refine RL.loadRT (x) rfl rfl rfl rfl ty22 rfl hrow1 (fun w h => h.1) (by omega) ?_
     refine RL.pp ?_
     refine RL.idxR (a) rfl rfl rfl rfl sl83 rfl rfl (by omega) (by omega) ?_
     refine RL.loadRT (a) rfl rfl rfl rfl ty22 rfl hrow1 (fun w h => h.1) (by omega) ?_
     refine RL.callV rfl rfl rfl rfl rfl ca197 (Less_ct hg.drew) ?_
     rintro v w3 hg3 hax3 rfl
     refine ⟨hg3, ?_⟩
     refine RL.pd ?_
     refine CW.cond rfl (fun hl => ?_) (fun hl => ?_)
     ·
      refine CW.skip ?_
      refine CW.block (CW.plain ?_)
      refine RL.pu ?_
      refine RL.add rfl rfl rfl rfl rfl rfl ((by simp only [rng]; omega)) ?_
      refine RL.pd ?_
      refine fun ac ha => ⟨k - 1, [(0, .slice (some ⟨g, 0, none⟩) n c), (1, i64 a), (10, i64 ((x : Int) + 1)), (11, i64 (j : Nat))], ha.sub ⟨rfl, rfl, rfl, rfl, trivial⟩, ⟨x + 1, hg3, hax2.trans ((Aux.drew _).trans hax3), by omega, by omega, by omega, by rw [hsc]; exact scanUp_step (p := fun x => ltI x d1[a]!) hxj' (by simpa using hl), rfl⟩, by omega⟩
     ·
      refine CW.exit (fun ac ha => ⟨_, ha.sub (E' := [(0, .slice (some ⟨g, 0, none⟩) n c), (1, i64 a), (10, i64 (x : Nat)), (11, i64 (j : Nat))]) ⟨rfl, rfl, rfl, rfl, trivial⟩, x, hg3, hax2.trans ((Aux.drew _).trans hax3), hix, hxj, by rw [hsc]; exact scanUp_end (p := fun x => ltI x d1[a]!) (.inr (by simpa using hl)), rfl⟩)
    ·
     have hxj' : ¬ x ≤ j := by have := of_decide_eq_false hc; omega
     refine RL.qq ?_
     refine RL.qq ?_
     refine RL.qq ?_
     refine RL.qq ?_
     refine RL.pa ?_
     refine RL.pd ?_
     refine CW.no rfl ?_
     refine CW.exit (fun ac ha => ⟨_, ha.sub (E' := [(0, .slice (some ⟨g, 0, none⟩) n c), (1, i64 a), (10, i64 (x : Nat)), (11, i64 (j : Nat))]) ⟨rfl, rfl, rfl, rfl, trivial⟩, x, hg.drew, hax2.trans (Aux.drew _), hix, hxj, by rw [hsc]; exact scanUp_end (p := fun x => ltI x d1[a]!) (.inl hxj'), rfl⟩)
   rintro E' w4 ⟨i3, hg4, hax4, hii3, hi3j, hup3, rfl⟩
   have h1i3 : 1 ≤ i3 := by omega
   refine CW.meet (fun E' w' => ∃ y, Good w' s (A1 :: os) ∧ Aux w w' ∧ y ≤ j ∧ (i3 ≤ y + 1 ∨ y = j) ∧ Go.Sort.scanDown (fun x => !ltI x d1[a]!) d1 i3 j = y ∧ E' = [(0, .slice (some ⟨g, 0, none⟩) n c), (1, i64 a), (10, i64 (i3 : Nat)), (11, i64 (y : Nat))]) ?_ ?_
   ·
    clear hup hdown hpt
    refine CW.block (CW.loop (σ := Nat) (fun k E w' => ∃ y, Good w' s (A1 :: os) ∧ Aux w w' ∧ y ≤ j ∧ (i3 ≤ y + 1 ∨ y = j) ∧ y ≤ k ∧ Go.Sort.scanDown (fun x => !ltI x d1[a]!) d1 i3 j = Go.Sort.scanDown (fun x => !ltI x d1[a]!) d1 i3 y ∧ E = [(0, .slice (some ⟨g, 0, none⟩) n c), (1, i64 a), (10, i64 (i3 : Nat)), (11, i64 (y : Nat))])
     (fun k => k) j [(0, .slice (some ⟨g, 0, none⟩) n c), (1, i64 a), (10, i64 (i3 : Nat)), (11, i64 (j : Nat))] ⟨rfl, rfl, rfl, rfl, trivial⟩ ⟨j, hg4, hax4, Nat.le_refl _, .inr rfl, Nat.le_refl _, rfl, rfl⟩ ?_)
    rintro k E w2 ⟨y, hg, hax2, hyj, hiy, hk, hsc, rfl⟩
    refine CW.seq (CW.seq ?_)
    refine CW.draws [(true, 0), (true, 1), (true, 2), (true, 3), (true, 4), (true, 5), (true, 6), (true, 7), (true, 8), (true, 9), (true, 10), (true, 11), (false, 12), (true, 13), (true, 14)] (fun w' => Good w' s (A1 :: os)) mixed (by kernel_rfl) (by kernel_rfl) (by kernel_rfl) (by kernel_rfl) hg.drew ?_
    refine RL.pp ?_
    refine RL.pp ?_
    refine RL.part 118 rfl (fun hc => ?_) (fun hc => ?_)
    ·
     have hxj' : i3 ≤ y := by have := of_decide_eq_true hc; omega
     refine RL.pp ?_
     refine RL.idxR (y) rfl rfl rfl rfl sl83 rfl rfl (by omega) (by omega) ?_
     refine RL.loadRT (y) rfl rfl rfl rfl ty22 rfl hrow1 (fun w h => h.1) (by omega) ?_
     refine RL.pp ?_
     refine RL.idxR (a) rfl rfl rfl rfl sl83 rfl rfl (by omega) (by omega) ?_
     refine RL.loadRT (a) rfl rfl rfl rfl ty22 rfl hrow1 (fun w h => h.1) (by omega) ?_
     refine RL.callV rfl rfl rfl rfl rfl ca197 (Less_ct hg.drew) ?_
     rintro v w3 hg3 hax3 rfl
     refine ⟨hg3, ?_⟩
     refine RL.pu ?_
     refine RL.pd ?_
     refine CW.cond rfl (fun hl => ?_) (fun hl => ?_)
     ·
      refine CW.skip ?_
      refine CW.block (CW.plain ?_)
      refine RL.pu ?_
      refine RL.sub rfl rfl rfl rfl rfl rfl ((by simp only [rng]; omega)) ?_
      refine RL.pd ?_
      refine fun ac ha => ⟨k - 1, [(0, .slice (some ⟨g, 0, none⟩) n c), (1, i64 a), (10, i64 (i3 : Nat)), (11, i64 ((y - 1 : Nat) : Int))], ha.sub ⟨rfl, rfl, rfl, congrArg (fun z => some (i64 z)) (by omega), trivial⟩, ⟨y - 1, hg3, hax2.trans ((Aux.drew _).trans hax3), by omega, by omega, by omega, by rw [hsc]; exact scanDown_step (p := fun x => !ltI x d1[a]!) hxj' (by omega) (by simpa using hl), rfl⟩, by omega⟩
     ·
      refine CW.exit (fun ac ha => ⟨_, ha.sub (E' := [(0, .slice (some ⟨g, 0, none⟩) n c), (1, i64 a), (10, i64 (i3 : Nat)), (11, i64 (y : Nat))]) ⟨rfl, rfl, rfl, rfl, trivial⟩, y, hg3, hax2.trans ((Aux.drew _).trans hax3), hyj, hiy, by rw [hsc]; exact scanDown_end (p := fun x => !ltI x d1[a]!) (.inr (by simpa using hl)), rfl⟩)
    ·
     have hxj' : ¬ i3 ≤ y := by have := of_decide_eq_false hc; omega
     refine RL.qq ?_
     refine RL.qq ?_
     refine RL.qq ?_
     refine RL.qq ?_
     refine RL.qq ?_
     refine RL.pd ?_
     refine CW.no rfl ?_
     refine CW.exit (fun ac ha => ⟨_, ha.sub (E' := [(0, .slice (some ⟨g, 0, none⟩) n c), (1, i64 a), (10, i64 (i3 : Nat)), (11, i64 (y : Nat))]) ⟨rfl, rfl, rfl, rfl, trivial⟩, y, hg.drew, hax2.trans (Aux.drew _), hyj, hiy, by rw [hsc]; exact scanDown_end (p := fun x => !ltI x d1[a]!) (.inl hxj'), rfl⟩)
   rintro E' w8 ⟨j3, hg8, hax8, hj3j, hij3, hdown3, rfl⟩
   have hloop := part_eq hup3 hdown3 hii3 hj3j
   refine CW.seq (CW.seq (CW.plain ?_))
   refine RL.pp ?_
   refine RL.pd ?_
   refine CW.test rfl (fun h3 => ?_) (fun h3 => ?_)
   ·
    have h3' : i3 > j3 := by omega
    refine CW.exit (fun ac ha => ⟨_, ha.sub (E' := [(0, .slice (some ⟨g, 0, none⟩) n c), (1, i64 a), (11, i64 (j3 : Nat))]) ⟨rfl, rfl, rfl, trivial⟩, A1, d1, j3, hg8, hax8, hrow1, hn1, by omega, by omega, by rw [heq, hloop, if_pos h3'], rfl⟩)
   ·
    have h3' : ¬ i3 > j3 := by omega
    refine CW.skip ?_
    have hg := hg8
    have hrow := hrow1
    have hn := hn1
    refine CW.meet (fun E' w' => ∃ A', Good w' s (A' :: os) ∧ Aux w w' ∧ RowAt A' g rest (swp d1 i3 j3) ∧ E' = [(0, .slice (some ⟨g, 0, none⟩) n c), (1, i64 a), (10, i64 (i3 : Nat)), (11, i64 (j3 : Nat))]) ?_ ?_
    ·
     refine CW.forks (.fork [(true, 0), (true, 1), (true, 2), (true, 3), (true, 4), (true, 5), (true, 6), (true, 8), (true, 9), (true, 10)] (.line [(false, 7), (false, 11), (true, 12), (false, 13), (true, 14), (false, 15)]) (.line [(false, 11), (false, 7), (true, 12), (false, 13), (true, 14), (false, 15)])) (fun _ => True) mixed (by kernel_rfl) (by kernel_rfl) (by kernel_rfl) (by kernel_rfl) trivial ?_
     refine RT.pre trivial ?_
     refine RL.pp ?_
     refine RL.pp ?_
     refine RL.pp ?_
     refine RL.idxR (j3) rfl rfl rfl rfl sl83 rfl rfl (by omega) (by omega) ?_
     refine RL.pp ?_
     refine RL.idxR (i3) rfl rfl rfl rfl sl83 rfl rfl (by omega) (by omega) ?_
     refine RL.done ?_
     refine RT.both (S := fun _ => True) trivial (RT.end_ (S := fun _ => True) trivial ?_) (RT.end_ (S := fun _ => True) trivial ?_)
     ·
      refine RL.loadR (j3) rfl rfl rfl rfl ty22 rfl hrow hg.drew.1 (by omega) ?_
      refine RL.loadR (i3) rfl rfl rfl rfl ty22 rfl hrow hg.drew.1 (by omega) ?_
      refine RL.idxR (i3) rfl rfl rfl rfl sl83 rfl rfl (by omega) (by omega) ?_
      refine RL.storeR (i3) rfl rfl rfl ty22 rfl rfl hg.drew hrow (by omega) ?_
      intro ws1 As1 hgs1 haxs1 hrows1
      refine ⟨trivial, ?_⟩
      refine RL.idxR (j3) rfl rfl rfl rfl sl83 rfl rfl (by omega) (by omega) ?_
      refine RL.storeR (j3) rfl rfl rfl ty22 rfl rfl hgs1 hrows1 (by simp; omega) ?_
      intro ws2 As2 hgs2 haxs2 hrows2
      refine ⟨trivial, ?_⟩
      refine RL.done ?_
      exact fun ac ha => ⟨_, ha.sub (E' := [(0, .slice (some ⟨g, 0, none⟩) n c), (1, i64 a), (10, i64 (i3 : Nat)), (11, i64 (j3 : Nat))]) ⟨rfl, rfl, rfl, rfl, trivial⟩, As2, hgs2, hax8.trans ((Aux.drew _).trans (haxs1.trans haxs2)), hrows2, rfl⟩
     ·
      refine RL.loadR (i3) rfl rfl rfl rfl ty22 rfl hrow hg.drew.1 (by omega) ?_
      refine RL.loadR (j3) rfl rfl rfl rfl ty22 rfl hrow hg.drew.1 (by omega) ?_
      refine RL.idxR (i3) rfl rfl rfl rfl sl83 rfl rfl (by omega) (by omega) ?_
      refine RL.storeR (i3) rfl rfl rfl ty22 rfl rfl hg.drew hrow (by omega) ?_
      intro ws1 As1 hgs1 haxs1 hrows1
      refine ⟨trivial, ?_⟩
      refine RL.idxR (j3) rfl rfl rfl rfl sl83 rfl rfl (by omega) (by omega) ?_
      refine RL.storeR (j3) rfl rfl rfl ty22 rfl rfl hgs1 hrows1 (by simp; omega) ?_
      intro ws2 As2 hgs2 haxs2 hrows2
      refine ⟨trivial, ?_⟩
      refine RL.done ?_
      exact fun ac ha => ⟨_, ha.sub (E' := [(0, .slice (some ⟨g, 0, none⟩) n c), (1, i64 a), (10, i64 (i3 : Nat)), (11, i64 (j3 : Nat))]) ⟨rfl, rfl, rfl, rfl, trivial⟩, As2, hgs2, hax8.trans ((Aux.drew _).trans (haxs1.trans haxs2)), hrows2, rfl⟩
    rintro E' w9 ⟨A9, hg9, hax9, hrow9, rfl⟩
    refine CW.seq (CW.plain ?_)
    refine RL.pu ?_
    refine RL.add rfl rfl rfl rfl rfl rfl ((by simp only [rng]; omega)) ?_
    refine RL.pd ?_
    refine CW.plain ?_
    refine RL.pu ?_
    refine RL.sub rfl rfl rfl rfl rfl rfl ((by simp only [rng]; omega)) ?_
    refine RL.pd ?_
    refine fun ac ha => ⟨k - 1, [(0, .slice (some ⟨g, 0, none⟩) n c), (1, i64 a), (10, i64 ((i3 + 1 : Nat) : Int)), (11, i64 ((j3 - 1 : Nat) : Int))], ha.sub ⟨rfl, rfl, rfl, congrArg (fun z => some (i64 z)) (by omega), trivial⟩, ⟨A9, _, i3 + 1, j3 - 1, hg9, hax9, hrow9, by rw [size_swp]; exact hn1, by omega, by omega, by omega, by omega, by omega, by rw [heq, hloop, if_neg h3'], rfl⟩, by omega⟩
  rintro E' w7 ⟨A7, d7, jf, hg, hax7, hrow, hn7, hajf, hjfn, hfin, rfl⟩
  have hn := hn7
  refine CW.meet (fun E' w' => ∃ A', Good w' s (A' :: os) ∧ Aux w w' ∧ RowAt A' g rest (swp d7 jf a) ∧ E' = [(11, i64 (jf : Nat))]) ?_ ?_
  ·
   refine CW.forks (.fork [(true, 0), (true, 1), (true, 2), (true, 3), (true, 4), (true, 5), (true, 6), (true, 8), (true, 9), (true, 10)] (.line [(false, 7), (false, 11), (true, 12), (false, 13), (true, 14), (false, 15)]) (.line [(false, 11), (false, 7), (true, 12), (false, 13), (true, 14), (false, 15)])) (fun _ => True) mixed (by kernel_rfl) (by kernel_rfl) (by kernel_rfl) (by kernel_rfl) trivial ?_
   refine RT.pre trivial ?_
   refine RL.pp ?_
   refine RL.pp ?_
   refine RL.pp ?_
   refine RL.idxR (a) rfl rfl rfl rfl sl83 rfl rfl (by omega) (by omega) ?_
   refine RL.pp ?_
   refine RL.idxR (jf) rfl rfl rfl rfl sl83 rfl rfl (by omega) (by omega) ?_
   refine RL.done ?_
   refine RT.both (S := fun _ => True) trivial (RT.end_ (S := fun _ => True) trivial ?_) (RT.end_ (S := fun _ => True) trivial ?_)
   ·
    refine RL.loadR (a) rfl rfl rfl rfl ty22 rfl hrow hg.drew.1 (by omega) ?_
    refine RL.loadR (jf) rfl rfl rfl rfl ty22 rfl hrow hg.drew.1 (by omega) ?_
    refine RL.idxR (jf) rfl rfl rfl rfl sl83 rfl rfl (by omega) (by omega) ?_
    refine RL.storeR (jf) rfl rfl rfl ty22 rfl rfl hg.drew hrow (by omega) ?_
    intro ws1 As1 hgs1 haxs1 hrows1
    refine ⟨trivial, ?_⟩
    refine RL.idxR (a) rfl rfl rfl rfl sl83 rfl rfl (by omega) (by omega) ?_
    refine RL.storeR (a) rfl rfl rfl ty22 rfl rfl hgs1 hrows1 (by simp; omega) ?_
    intro ws2 As2 hgs2 haxs2 hrows2
    refine ⟨trivial, ?_⟩
    refine RL.done ?_
    exact fun ac ha => ⟨_, ha.sub (E' := [(11, i64 (jf : Nat))]) ⟨rfl, trivial⟩, As2, hgs2, hax7.trans ((Aux.drew _).trans (haxs1.trans haxs2)), hrows2, rfl⟩
   ·
    refine RL.loadR (jf) rfl rfl rfl rfl ty22 rfl hrow hg.drew.1 (by omega) ?_
    refine RL.loadR (a) rfl rfl rfl rfl ty22 rfl hrow hg.drew.1 (by omega) ?_
    refine RL.idxR (jf) rfl rfl rfl rfl sl83 rfl rfl (by omega) (by omega) ?_
    refine RL.storeR (jf) rfl rfl rfl ty22 rfl rfl hg.drew hrow (by omega) ?_
    intro ws1 As1 hgs1 haxs1 hrows1
    refine ⟨trivial, ?_⟩
    refine RL.idxR (a) rfl rfl rfl rfl sl83 rfl rfl (by omega) (by omega) ?_
    refine RL.storeR (a) rfl rfl rfl ty22 rfl rfl hgs1 hrows1 (by simp; omega) ?_
    intro ws2 As2 hgs2 haxs2 hrows2
    refine ⟨trivial, ?_⟩
    refine RL.done ?_
    exact fun ac ha => ⟨_, ha.sub (E' := [(11, i64 (jf : Nat))]) ⟨rfl, trivial⟩, As2, hgs2, hax7.trans ((Aux.drew _).trans (haxs1.trans haxs2)), hrows2, rfl⟩
  rintro E' w8 ⟨A8, hg8, hax8, hrow8, rfl⟩
  refine CW.seq (CW.plain ?_)
  refine RL.pp ?_
  refine RL.pd ?_
  refine CW.ret (ret (vs := [_, _]) ⟨_, _, rfl, rfl, _, _, rfl, rfl, rfl⟩ (Post.mk (Le.refl _) hg8 hax8 ⟨rfl, ?_, ?_⟩))
  ·
   rw [hpt, hfin]; rfl
  ·
   rw [hpt, hfin]; exact hrow8
end Go.Lw

/-
 The sort's other partition, walked.
-/
namespace Go.Lw
open Go.Proofs
open Go.Sort (swp size_swp)
-- a scan upwards: F, RC (the test's region), its order of operations, RI (the step's region), t-names: guard tg, idx/load 1 (at M1), idx/load 2 (at M2), call tc with contract arguments; TI TJ: the slots of i and j
set_option maxHeartbeats 1000000 in
set_option maxRecDepth 100000 in
theorem partitionEqual_ct {w : World} {s A : Res} {os : List Res} {g n c a b pivot : Nat} {rest : List Value} {d : Array Int} (hg : Good w s (A :: os)) (hrow : RowAt A g rest d) (hn : d.size = n) (hb : b ≤ n) (hap : a ≤ pivot) (hpb : pivot < b) (hsz : n < 2305843009213693952) :
  Calls Tryz.prog 198 #[.slice (some ⟨g, 0, none⟩) n c, i64 a, i64 b, i64 pivot] w
   (Post w s os fun s' A' r => s' = s ∧ r = i64 ((Go.Sort.partitionEqual ltI d a b pivot).1 : Nat) ∧ RowAt A' g rest (Go.Sort.partitionEqual ltI d a b pivot).2) := by
 refine enter (l := [.slice (some ⟨g, 0, none⟩) n c, i64 a, i64 b, i64 pivot]) Tryz.func198 rfl Tryz.ntmps198 rfl ?_
 refine CW.seq (CW.plain ?_)
 refine RL.pd ?_
 refine CW.meet (fun E' w' => ∃ A', Good w' s (A' :: os) ∧ Aux w w' ∧ RowAt A' g rest (swp d a pivot) ∧ E' = [(0, .slice (some ⟨g, 0, none⟩) n c), (1, i64 a), (2, i64 b)]) ?_ ?_
 ·
  refine CW.forks (.fork [(true, 0), (true, 1), (true, 2), (true, 3), (true, 4), (true, 5), (true, 6), (true, 8), (true, 9), (true, 10)] (.line [(false, 7), (false, 11), (true, 12), (false, 13), (true, 14), (false, 15)]) (.line [(false, 11), (false, 7), (true, 12), (false, 13), (true, 14), (false, 15)])) (fun _ => True) mixed (by kernel_rfl) (by kernel_rfl) (by kernel_rfl) (by kernel_rfl) trivial ?_
  refine RT.pre trivial ?_
  refine RL.pp ?_
  refine RL.pp ?_
  refine RL.pp ?_
  refine RL.idxR (pivot) rfl rfl rfl rfl sl83 rfl rfl (by omega) (by omega) ?_
  refine RL.pp ?_
  refine RL.idxR (a) rfl rfl rfl rfl sl83 rfl rfl (by omega) (by omega) ?_
  refine RL.done ?_
  refine RT.both (S := fun _ => True) trivial (RT.end_ (S := fun _ => True) trivial ?_) (RT.end_ (S := fun _ => True) trivial ?_)
  ·
   refine RL.loadR (pivot) rfl rfl rfl rfl ty22 rfl hrow hg.drew.1 (by omega) ?_
   refine RL.loadR (a) rfl rfl rfl rfl ty22 rfl hrow hg.drew.1 (by omega) ?_
   refine RL.idxR (a) rfl rfl rfl rfl sl83 rfl rfl (by omega) (by omega) ?_
   refine RL.storeR (a) rfl rfl rfl ty22 rfl rfl hg.drew hrow (by omega) ?_
   intro ws1 As1 hgs1 haxs1 hrows1
   refine ⟨trivial, ?_⟩
   refine RL.idxR (pivot) rfl rfl rfl rfl sl83 rfl rfl (by omega) (by omega) ?_
   refine RL.storeR (pivot) rfl rfl rfl ty22 rfl rfl hgs1 hrows1 (by simp; omega) ?_
   intro ws2 As2 hgs2 haxs2 hrows2
   refine ⟨trivial, ?_⟩
   refine RL.done ?_
   exact fun ac ha => ⟨_, ha.sub (E' := [(0, .slice (some ⟨g, 0, none⟩) n c), (1, i64 a), (2, i64 b)]) ⟨rfl, rfl, rfl, trivial⟩, As2, hgs2, (Aux.drew _).trans (haxs1.trans haxs2), hrows2, rfl⟩
  ·
   refine RL.loadR (a) rfl rfl rfl rfl ty22 rfl hrow hg.drew.1 (by omega) ?_
   refine RL.loadR (pivot) rfl rfl rfl rfl ty22 rfl hrow hg.drew.1 (by omega) ?_
   refine RL.idxR (a) rfl rfl rfl rfl sl83 rfl rfl (by omega) (by omega) ?_
   refine RL.storeR (a) rfl rfl rfl ty22 rfl rfl hg.drew hrow (by omega) ?_
   intro ws1 As1 hgs1 haxs1 hrows1
   refine ⟨trivial, ?_⟩
   refine RL.idxR (pivot) rfl rfl rfl rfl sl83 rfl rfl (by omega) (by omega) ?_
   refine RL.storeR (pivot) rfl rfl rfl ty22 rfl rfl hgs1 hrows1 (by simp; omega) ?_
   intro ws2 As2 hgs2 haxs2 hrows2
   refine ⟨trivial, ?_⟩
   refine RL.done ?_
   exact fun ac ha => ⟨_, ha.sub (E' := [(0, .slice (some ⟨g, 0, none⟩) n c), (1, i64 a), (2, i64 b)]) ⟨rfl, rfl, rfl, trivial⟩, As2, hgs2, (Aux.drew _).trans (haxs1.trans haxs2), hrows2, rfl⟩
 rintro E' w1 ⟨A0, hg0, hax0, hrow0, rfl⟩
 have hn0 : (swp d a pivot).size = n := by rw [size_swp]; exact hn
 have hpe : Go.Sort.partitionEqual ltI d a b pivot = Go.Sort.partEqLoop ltI a (a + 1) (b - 1) (swp d a pivot) := rfl
 generalize swp d a pivot = d0 at *
 refine CW.seq (CW.plain ?_)
 refine RL.pu ?_
 refine RL.add rfl rfl rfl rfl rfl rfl ((by simp only [rng]; omega)) ?_
 refine RL.pu ?_
 refine RL.sub rfl rfl rfl rfl rfl rfl ((by simp only [rng]; omega)) ?_
 refine RL.pu ?_
 refine RL.pd ?_
 refine CW.meet (fun E' w' => ∃ A' dk f, Good w' s (A' :: os) ∧ Aux w w' ∧ RowAt A' g rest dk ∧ Go.Sort.partitionEqual ltI d a b pivot = (f, dk) ∧ E' = [(9, i64 (f : Nat))]) ?_ ?_
 ·
  refine CW.block (CW.loop (σ := Nat) (fun k E w' => ∃ A' dk i j, Good w' s (A' :: os) ∧ Aux w w' ∧ RowAt A' g rest dk ∧ dk.size = n ∧ a < i ∧ i ≤ j + 2 ∧ a ≤ j ∧ j < n ∧ j + 2 - i ≤ k ∧ Go.Sort.partitionEqual ltI d a b pivot = Go.Sort.partEqLoop ltI a i j dk ∧ E = [(0, .slice (some ⟨g, 0, none⟩) n c), (1, i64 a), (9, i64 (i : Nat)), (10, i64 (j : Nat))])
   (fun k => k) (n + 2) [(0, .slice (some ⟨g, 0, none⟩) n c), (1, i64 a), (9, i64 ((a + 1 : Nat) : Int)), (10, i64 ((b - 1 : Nat) : Int))] ⟨rfl, rfl, rfl, congrArg (fun z => some (i64 z)) (by omega), trivial⟩ ⟨A0, d0, a + 1, b - 1, hg0, hax0, hrow0, hn0, by omega, by omega, by omega, by omega, by omega, hpe, rfl⟩ ?_)
  rintro k E w7 ⟨A1, d1, i, j, hg1, hax1, hrow1, hn1, hai, hij, haj, hjn, hk, heq, rfl⟩
  refine CW.block ?_
  refine CW.meet (fun E' w' => ∃ x, Good w' s (A1 :: os) ∧ Aux w w' ∧ i ≤ x ∧ x ≤ j + 1 + (i - (j + 1)) ∧ Go.Sort.scanUp (fun x => !ltI d1[a]! x) d1 j i = x ∧ E' = [(0, .slice (some ⟨g, 0, none⟩) n c), (1, i64 a), (9, i64 (x : Nat)), (10, i64 (j : Nat))]) ?_ ?_
  ·
   refine CW.block (CW.loop (σ := Nat) (fun k E w' => ∃ x, Good w' s (A1 :: os) ∧ Aux w w' ∧ i ≤ x ∧ x ≤ j + 1 + (i - (j + 1)) ∧ j + 1 - x ≤ k ∧ Go.Sort.scanUp (fun x => !ltI d1[a]! x) d1 j i = Go.Sort.scanUp (fun x => !ltI d1[a]! x) d1 j x ∧ E = [(0, .slice (some ⟨g, 0, none⟩) n c), (1, i64 a), (9, i64 (x : Nat)), (10, i64 (j : Nat))])
    (fun k => k) (j + 1) [(0, .slice (some ⟨g, 0, none⟩) n c), (1, i64 a), (9, i64 (i : Nat)), (10, i64 (j : Nat))] ⟨rfl, rfl, rfl, rfl, trivial⟩ ⟨i, hg1, hax1, Nat.le_refl _, by omega, by omega, rfl, rfl⟩ ?_)
   rintro k E w2 ⟨x, hg, hax2, hix, hxj, hk, hsc, rfl⟩
   refine CW.seq (CW.seq ?_)
   refine CW.draws [(true, 0), (true, 1), (true, 2), (true, 3), (true, 4), (true, 5), (true, 6), (true, 7), (true, 8), (true, 9), (true, 10), (true, 11), (false, 12), (true, 13), (true, 14)] (fun w' => Good w' s (A1 :: os)) mixed (by kernel_rfl) (by kernel_rfl) (by kernel_rfl) (by kernel_rfl) hg.drew ?_
   refine RL.pp ?_
   refine RL.pp ?_
   refine RL.part 32 rfl (fun hc => ?_) (fun hc => ?_)
   ·
    have hxj' : x ≤ j := by have := of_decide_eq_true hc; omega
    refine RL.pp ?_
    refine RL.idxR (a) rfl rfl rfl rfl sl83 rfl rfl (by omega) (by omega) ?_
    refine RL.loadRT (a) rfl rfl rfl rfl ty22 rfl hrow1 (fun w h => h.1) (by omega) ?_
    refine RL.pp ?_
    refine RL.idxR (x) rfl rfl rfl rfl sl83 rfl rfl (by omega) (by omega) ?_
    refine RL.loadRT (x) rfl rfl rfl rfl ty22 rfl hrow1 (fun w h => h.1) (by omega) ?_
    refine RL.callV rfl rfl rfl rfl rfl ca197 (Less_ct hg.drew) ?_
    rintro v w3 hg3 hax3 rfl
    refine ⟨hg3, ?_⟩
    refine RL.pu ?_
    refine RL.pd ?_
    refine CW.cond rfl (fun hl => ?_) (fun hl => ?_)
    ·
     refine CW.skip ?_
     refine CW.block (CW.plain ?_)
     refine RL.pu ?_
     refine RL.add rfl rfl rfl rfl rfl rfl ((by simp only [rng]; omega)) ?_
     refine RL.pd ?_
     refine fun ac ha => ⟨k - 1, [(0, .slice (some ⟨g, 0, none⟩) n c), (1, i64 a), (9, i64 ((x : Int) + 1)), (10, i64 (j : Nat))], ha.sub ⟨rfl, rfl, rfl, rfl, trivial⟩, ⟨x + 1, hg3, hax2.trans ((Aux.drew _).trans hax3), by omega, by omega, by omega, by rw [hsc]; exact scanUp_step (p := fun x => !ltI d1[a]! x) hxj' (by simpa using hl), rfl⟩, by omega⟩
    ·
     refine CW.exit (fun ac ha => ⟨_, ha.sub (E' := [(0, .slice (some ⟨g, 0, none⟩) n c), (1, i64 a), (9, i64 (x : Nat)), (10, i64 (j : Nat))]) ⟨rfl, rfl, rfl, rfl, trivial⟩, x, hg3, hax2.trans ((Aux.drew _).trans hax3), hix, hxj, by rw [hsc]; exact scanUp_end (p := fun x => !ltI d1[a]! x) (.inr (by simpa using hl)), rfl⟩)
   ·
    have hxj' : ¬ x ≤ j := by have := of_decide_eq_false hc; omega
    refine RL.qq ?_
    refine RL.qq ?_
    refine RL.qq ?_
    refine RL.qq ?_
    refine RL.qq ?_
    refine RL.pd ?_
    refine CW.no rfl ?_
    refine CW.exit (fun ac ha => ⟨_, ha.sub (E' := [(0, .slice (some ⟨g, 0, none⟩) n c), (1, i64 a), (9, i64 (x : Nat)), (10, i64 (j : Nat))]) ⟨rfl, rfl, rfl, rfl, trivial⟩, x, hg.drew, hax2.trans (Aux.drew _), hix, hxj, by rw [hsc]; exact scanUp_end (p := fun x => !ltI d1[a]! x) (.inl hxj'), rfl⟩)
  rintro E' w4 ⟨i2, hg4, hax4, hii2, hi2j, hup, rfl⟩
  have h1i : 1 ≤ i2 := by omega
  refine CW.meet (fun E' w' => ∃ y, Good w' s (A1 :: os) ∧ Aux w w' ∧ y ≤ j ∧ (i2 ≤ y + 1 ∨ y = j) ∧ Go.Sort.scanDown (fun x => ltI d1[a]! x) d1 i2 j = y ∧ E' = [(0, .slice (some ⟨g, 0, none⟩) n c), (1, i64 a), (9, i64 (i2 : Nat)), (10, i64 (y : Nat))]) ?_ ?_
  ·
   refine CW.block (CW.loop (σ := Nat) (fun k E w' => ∃ y, Good w' s (A1 :: os) ∧ Aux w w' ∧ y ≤ j ∧ (i2 ≤ y + 1 ∨ y = j) ∧ y ≤ k ∧ Go.Sort.scanDown (fun x => ltI d1[a]! x) d1 i2 j = Go.Sort.scanDown (fun x => ltI d1[a]! x) d1 i2 y ∧ E = [(0, .slice (some ⟨g, 0, none⟩) n c), (1, i64 a), (9, i64 (i2 : Nat)), (10, i64 (y : Nat))])
    (fun k => k) j [(0, .slice (some ⟨g, 0, none⟩) n c), (1, i64 a), (9, i64 (i2 : Nat)), (10, i64 (j : Nat))] ⟨rfl, rfl, rfl, rfl, trivial⟩ ⟨j, hg4, hax4, Nat.le_refl _, .inr rfl, Nat.le_refl _, rfl, rfl⟩ ?_)
   rintro k E w2 ⟨y, hg, hax2, hyj, hiy, hk, hsc, rfl⟩
   refine CW.seq (CW.seq ?_)
   refine CW.draws [(true, 0), (true, 1), (true, 2), (true, 3), (true, 4), (true, 5), (true, 6), (true, 7), (true, 8), (true, 9), (true, 10), (true, 11), (false, 12), (true, 13)] (fun w' => Good w' s (A1 :: os)) mixed (by kernel_rfl) (by kernel_rfl) (by kernel_rfl) (by kernel_rfl) hg.drew ?_
   refine RL.pp ?_
   refine RL.pp ?_
   refine RL.part 49 rfl (fun hc => ?_) (fun hc => ?_)
   ·
    have hxj' : i2 ≤ y := by have := of_decide_eq_true hc; omega
    refine RL.pp ?_
    refine RL.idxR (a) rfl rfl rfl rfl sl83 rfl rfl (by omega) (by omega) ?_
    refine RL.loadRT (a) rfl rfl rfl rfl ty22 rfl hrow1 (fun w h => h.1) (by omega) ?_
    refine RL.pp ?_
    refine RL.idxR (y) rfl rfl rfl rfl sl83 rfl rfl (by omega) (by omega) ?_
    refine RL.loadRT (y) rfl rfl rfl rfl ty22 rfl hrow1 (fun w h => h.1) (by omega) ?_
    refine RL.callV rfl rfl rfl rfl rfl ca197 (Less_ct hg.drew) ?_
    rintro v w3 hg3 hax3 rfl
    refine ⟨hg3, ?_⟩
    refine RL.pd ?_
    refine CW.cond rfl (fun hl => ?_) (fun hl => ?_)
    ·
     refine CW.skip ?_
     refine CW.block (CW.plain ?_)
     refine RL.pu ?_
     refine RL.sub rfl rfl rfl rfl rfl rfl ((by simp only [rng]; omega)) ?_
     refine RL.pd ?_
     refine fun ac ha => ⟨k - 1, [(0, .slice (some ⟨g, 0, none⟩) n c), (1, i64 a), (9, i64 (i2 : Nat)), (10, i64 ((y - 1 : Nat) : Int))], ha.sub ⟨rfl, rfl, rfl, congrArg (fun z => some (i64 z)) (by omega), trivial⟩, ⟨y - 1, hg3, hax2.trans ((Aux.drew _).trans hax3), by omega, by omega, by omega, by rw [hsc]; exact scanDown_step (p := fun x => ltI d1[a]! x) hxj' (by omega) (by simpa using hl), rfl⟩, by omega⟩
    ·
     refine CW.exit (fun ac ha => ⟨_, ha.sub (E' := [(0, .slice (some ⟨g, 0, none⟩) n c), (1, i64 a), (9, i64 (i2 : Nat)), (10, i64 (y : Nat))]) ⟨rfl, rfl, rfl, rfl, trivial⟩, y, hg3, hax2.trans ((Aux.drew _).trans hax3), hyj, hiy, by rw [hsc]; exact scanDown_end (p := fun x => ltI d1[a]! x) (.inr (by simpa using hl)), rfl⟩)
   ·
    have hxj' : ¬ i2 ≤ y := by have := of_decide_eq_false hc; omega
    refine RL.qq ?_
    refine RL.qq ?_
    refine RL.qq ?_
    refine RL.qq ?_
    refine RL.pa ?_
    refine RL.pd ?_
    refine CW.no rfl ?_
    refine CW.exit (fun ac ha => ⟨_, ha.sub (E' := [(0, .slice (some ⟨g, 0, none⟩) n c), (1, i64 a), (9, i64 (i2 : Nat)), (10, i64 (y : Nat))]) ⟨rfl, rfl, rfl, rfl, trivial⟩, y, hg.drew, hax2.trans (Aux.drew _), hyj, hiy, by rw [hsc]; exact scanDown_end (p := fun x => ltI d1[a]! x) (.inl hxj'), rfl⟩)
  rintro E' w8 ⟨j2, hg8, hax8, hj2j, hij2, hdown, rfl⟩
  have hloop := partEq_eq hup hdown hii2 hj2j
  refine CW.seq (CW.seq (CW.plain ?_))
  refine RL.pp ?_
  refine RL.pd ?_
  refine CW.test rfl (fun h3 => ?_) (fun h3 => ?_)
  ·
   have h3' : i2 > j2 := by omega
   refine CW.exit (fun ac ha => ⟨_, ha.sub (E' := [(9, i64 (i2 : Nat))]) ⟨rfl, trivial⟩, A1, d1, i2, hg8, hax8, hrow1, by rw [heq, hloop, if_pos h3'], rfl⟩)
  ·
   have h3' : ¬ i2 > j2 := by omega
   refine CW.skip ?_
   have hg := hg8
   have hrow := hrow1
   have hn := hn1
   refine CW.meet (fun E' w' => ∃ A', Good w' s (A' :: os) ∧ Aux w w' ∧ RowAt A' g rest (swp d1 i2 j2) ∧ E' = [(0, .slice (some ⟨g, 0, none⟩) n c), (1, i64 a), (9, i64 (i2 : Nat)), (10, i64 (j2 : Nat))]) ?_ ?_
   ·
    refine CW.forks (.fork [(true, 0), (true, 1), (true, 2), (true, 3), (true, 4), (true, 5), (true, 6), (true, 8), (true, 9), (true, 10)] (.line [(false, 7), (false, 11), (true, 12), (false, 13), (true, 14), (false, 15)]) (.line [(false, 11), (false, 7), (true, 12), (false, 13), (true, 14), (false, 15)])) (fun _ => True) mixed (by kernel_rfl) (by kernel_rfl) (by kernel_rfl) (by kernel_rfl) trivial ?_
    refine RT.pre trivial ?_
    refine RL.pp ?_
    refine RL.pp ?_
    refine RL.pp ?_
    refine RL.idxR (j2) rfl rfl rfl rfl sl83 rfl rfl (by omega) (by omega) ?_
    refine RL.pp ?_
    refine RL.idxR (i2) rfl rfl rfl rfl sl83 rfl rfl (by omega) (by omega) ?_
    refine RL.done ?_
    refine RT.both (S := fun _ => True) trivial (RT.end_ (S := fun _ => True) trivial ?_) (RT.end_ (S := fun _ => True) trivial ?_)
    ·
     refine RL.loadR (j2) rfl rfl rfl rfl ty22 rfl hrow hg.drew.1 (by omega) ?_
     refine RL.loadR (i2) rfl rfl rfl rfl ty22 rfl hrow hg.drew.1 (by omega) ?_
     refine RL.idxR (i2) rfl rfl rfl rfl sl83 rfl rfl (by omega) (by omega) ?_
     refine RL.storeR (i2) rfl rfl rfl ty22 rfl rfl hg.drew hrow (by omega) ?_
     intro ws1 As1 hgs1 haxs1 hrows1
     refine ⟨trivial, ?_⟩
     refine RL.idxR (j2) rfl rfl rfl rfl sl83 rfl rfl (by omega) (by omega) ?_
     refine RL.storeR (j2) rfl rfl rfl ty22 rfl rfl hgs1 hrows1 (by simp; omega) ?_
     intro ws2 As2 hgs2 haxs2 hrows2
     refine ⟨trivial, ?_⟩
     refine RL.done ?_
     exact fun ac ha => ⟨_, ha.sub (E' := [(0, .slice (some ⟨g, 0, none⟩) n c), (1, i64 a), (9, i64 (i2 : Nat)), (10, i64 (j2 : Nat))]) ⟨rfl, rfl, rfl, rfl, trivial⟩, As2, hgs2, hax8.trans ((Aux.drew _).trans (haxs1.trans haxs2)), hrows2, rfl⟩
    ·
     refine RL.loadR (i2) rfl rfl rfl rfl ty22 rfl hrow hg.drew.1 (by omega) ?_
     refine RL.loadR (j2) rfl rfl rfl rfl ty22 rfl hrow hg.drew.1 (by omega) ?_
     refine RL.idxR (i2) rfl rfl rfl rfl sl83 rfl rfl (by omega) (by omega) ?_
     refine RL.storeR (i2) rfl rfl rfl ty22 rfl rfl hg.drew hrow (by omega) ?_
     intro ws1 As1 hgs1 haxs1 hrows1
     refine ⟨trivial, ?_⟩
     refine RL.idxR (j2) rfl rfl rfl rfl sl83 rfl rfl (by omega) (by omega) ?_
     refine RL.storeR (j2) rfl rfl rfl ty22 rfl rfl hgs1 hrows1 (by simp; omega) ?_
     intro ws2 As2 hgs2 haxs2 hrows2
     refine ⟨trivial, ?_⟩
     refine RL.done ?_
     exact fun ac ha => ⟨_, ha.sub (E' := [(0, .slice (some ⟨g, 0, none⟩) n c), (1, i64 a), (9, i64 (i2 : Nat)), (10, i64 (j2 : Nat))]) ⟨rfl, rfl, rfl, rfl, trivial⟩, As2, hgs2, hax8.trans ((Aux.drew _).trans (haxs1.trans haxs2)), hrows2, rfl⟩
   rintro E' w9 ⟨A9, hg9, hax9, hrow9, rfl⟩
   refine CW.seq (CW.plain ?_)
   refine RL.pu ?_
   refine RL.add rfl rfl rfl rfl rfl rfl ((by simp only [rng]; omega)) ?_
   refine RL.pd ?_
   refine CW.plain ?_
   refine RL.pu ?_
   refine RL.sub rfl rfl rfl rfl rfl rfl ((by simp only [rng]; omega)) ?_
   refine RL.pd ?_
   refine fun ac ha => ⟨k - 1, [(0, .slice (some ⟨g, 0, none⟩) n c), (1, i64 a), (9, i64 ((i2 + 1 : Nat) : Int)), (10, i64 ((j2 - 1 : Nat) : Int))], ha.sub ⟨rfl, rfl, rfl, congrArg (fun z => some (i64 z)) (by omega), trivial⟩, ⟨A9, _, i2 + 1, j2 - 1, hg9, hax9, hrow9, by rw [size_swp]; exact hn1, by omega, by omega, by omega, by omega, by omega, by rw [heq, hloop, if_neg h3'], rfl⟩, by omega⟩
 rintro E' w7 ⟨A7, d7, f, hg7, hax7, hrow7, hfin, rfl⟩
 refine CW.seq (CW.plain ?_)
 refine RL.pu ?_
 refine RL.pd ?_
 refine CW.ret (ret (vs := [_]) ⟨_, _, rfl, rfl, rfl⟩ (Post.mk (Le.refl _) hg7 hax7 ⟨rfl, ?_, ?_⟩))
 ·
  rw [hfin]; rfl
 ·
  rw [hfin]; exact hrow7
end Go.Lw

/-
 The sort's partial insertion, walked.
-/
namespace Go.Lw
open Go.Proofs
open Go.Sort (swp size_swp)
theorem scanSorted_step {d : Array Int} {b i : Nat} (h : i < b) (hl : ltI d[i]! d[i - 1]! = false) : Go.Sort.scanSorted ltI d b i = Go.Sort.scanSorted ltI d b (i + 1) := by
 rw [Go.Sort.scanSorted, if_pos (by simp [h, hl])]
theorem scanSorted_end {d : Array Int} {b i : Nat} (h : ¬ i < b ∨ ltI d[i]! d[i - 1]! = true) : Go.Sort.scanSorted ltI d b i = i := by
 rw [Go.Sort.scanSorted, if_neg]
 rcases h with h | h
 ·
  simp [h]
 ·
  simp [h]
theorem shiftDown_step {d : Array Int} {j : Nat} (h : 1 ≤ j) (hl : ltI d[j]! d[j - 1]! = true) : Go.Sort.shiftDown ltI j d = Go.Sort.shiftDown ltI (j - 1) (swp d j (j - 1)) := by
 obtain ⟨j, rfl⟩ : ∃ m, j = m + 1 := ⟨j - 1, by omega⟩
 simp only [Nat.add_sub_cancel] at *
 rw [Go.Sort.shiftDown, if_neg (by simp [hl])]
theorem shiftDown_end {d : Array Int} {j : Nat} (h : ¬ 1 ≤ j ∨ ltI d[j]! d[j - 1]! = false) : Go.Sort.shiftDown ltI j d = d := by
 cases j with
 | zero => rfl
 | succ j =>
  rcases h with h | h
  ·
   omega
  ·
   simp only [Nat.add_sub_cancel] at h
   rw [Go.Sort.shiftDown, if_pos (by simp [h])]
theorem shiftUp_step {d : Array Int} {b j : Nat} (h : j < b) (hl : ltI d[j]! d[j - 1]! = true) : Go.Sort.shiftUp ltI b j d = Go.Sort.shiftUp ltI b (j + 1) (swp d j (j - 1)) := by
 rw [Go.Sort.shiftUp, if_pos h, if_neg (by simp [hl])]
theorem shiftUp_end {d : Array Int} {b j : Nat} (h : ¬ j < b ∨ ltI d[j]! d[j - 1]! = false) : Go.Sort.shiftUp ltI b j d = d := by
 rw [Go.Sort.shiftUp]
 by_cases hj : j < b
 ·
  rw [if_pos hj, if_pos (by simpa [hj] using h)]
 ·
  rw [if_neg hj]
def pd (a x : Nat) (d : Array Int) : Array Int := if x - a ≥ 2 then Go.Sort.shiftDown ltI (x - 1) (swp d x (x - 1)) else swp d x (x - 1)
def pu (b x : Nat) (d : Array Int) : Array Int := if b - x ≥ 2 then Go.Sort.shiftUp ltI b (x + 1) d else d
theorem pi_done {a b s i x : Nat} {d : Array Int} (h : Go.Sort.scanSorted ltI d b i = x) (hx : x = b) : Go.Sort.partialIns ltI a b (s + 1) i d = (d, true) := by
 simp only [Go.Sort.partialIns, h]; rw [if_pos hx]
theorem pi_short {a b s i x : Nat} {d : Array Int} (h : Go.Sort.scanSorted ltI d b i = x) (hx : ¬ x = b) (hs : b - a < 50) : Go.Sort.partialIns ltI a b (s + 1) i d = (d, false) := by
 simp only [Go.Sort.partialIns, h]; rw [if_neg hx, if_pos hs]
theorem pi_go {a b s i x : Nat} {d : Array Int} (h : Go.Sort.scanSorted ltI d b i = x) (hx : ¬ x = b) (hs : ¬ b - a < 50) : Go.Sort.partialIns ltI a b (s + 1) i d = Go.Sort.partialIns ltI a b s x (pu b x (pd a x d)) := by
 simp only [Go.Sort.partialIns, h]; rw [if_neg hx, if_neg hs]; rfl
set_option maxHeartbeats 1000000 in
set_option maxRecDepth 100000 in
theorem partialIns_ct {w : World} {s A : Res} {os : List Res} {g n c a b : Nat} {rest : List Value} {d : Array Int} (hg : Good w s (A :: os)) (hrow : RowAt A g rest d) (hn : d.size = n) (hb : b ≤ n) (hab : a < b) (hsz : n < 2305843009213693952) :
  Calls Tryz.prog 196 #[.slice (some ⟨g, 0, none⟩) n c, i64 a, i64 b] w
   (Post w s os fun s' A' r => s' = s ∧ r = .bool (Go.Sort.partialInsertionSort ltI d a b).2 ∧ RowAt A' g rest (Go.Sort.partialInsertionSort ltI d a b).1) := by
 refine enter (l := [.slice (some ⟨g, 0, none⟩) n c, i64 a, i64 b]) Tryz.func196 rfl Tryz.ntmps196 rfl ?_
 refine CW.seq (CW.plain ?_)
 refine RL.pd ?_
 refine CW.seq (CW.plain ?_)
 refine RL.pu ?_
 refine RL.add rfl rfl rfl rfl rfl rfl ((by simp only [rng]; omega)) ?_
 refine RL.pd ?_
 refine CW.seq (CW.seq (CW.plain ?_))
 refine RL.pd ?_
 refine CW.block (CW.loop (σ := Nat) (fun st E w' => ∃ A' dk i, Good w' s (A' :: os) ∧ Aux w w' ∧ RowAt A' g rest dk ∧ dk.size = n ∧ a < i ∧ i ≤ b ∧ st ≤ 5 ∧ Go.Sort.partialInsertionSort ltI d a b = Go.Sort.partialIns ltI a b st i dk ∧ E = [(0, .slice (some ⟨g, 0, none⟩) n c), (1, i64 a), (2, i64 b), (7, i64 (i : Nat)), (8, i64 (5 - ((st : Nat) : Int)))])
  (fun st => st) 5 [(0, .slice (some ⟨g, 0, none⟩) n c), (1, i64 a), (2, i64 b), (7, i64 ((a + 1 : Nat) : Int)), (8, i64 (5 - ((5 : Nat) : Int)))] ⟨rfl, rfl, rfl, rfl, rfl, trivial⟩ ⟨A, d, a + 1, hg, Aux.refl _, hrow, hn, by omega, by omega, Nat.le_refl _, rfl, rfl⟩ ?_)
 rintro st E w1 ⟨A1, d1, i, hg1, hax1, hrow1, hn1, hai, hib, hst, heq, rfl⟩
 refine CW.seq (CW.seq (CW.plain ?_))
 refine RL.pu ?_
 refine RL.pd ?_
 refine CW.test rfl (fun h => ?_) (fun h => ?_)
 ·
  refine CW.skip ?_
  obtain ⟨st, rfl⟩ : ∃ m, st = m + 1 := ⟨st - 1, by omega⟩
  refine CW.meet (fun E' w' => ∃ x A' dk, Good w' s (A' :: os) ∧ Aux w w' ∧ RowAt A' g rest dk ∧ dk.size = n ∧ a < x ∧ x ≤ b ∧ Go.Sort.partialInsertionSort ltI d a b = Go.Sort.partialIns ltI a b st x dk ∧ E' = [(0, .slice (some ⟨g, 0, none⟩) n c), (1, i64 a), (2, i64 b), (7, i64 (x : Nat)), (8, i64 (5 - ((st + 1 : Nat) : Int)))]) ?_ ?_
  rotate_left
  ·
   rintro E' w7 ⟨x, A7, d7, hg7, hax7, hrow7, hn7, hax', hxb, hfin, rfl⟩
   refine CW.plain ?_
   refine RL.pu ?_
   refine RL.add rfl rfl rfl rfl rfl rfl ((by simp only [rng]; omega)) ?_
   refine RL.pd ?_
   refine fun ac ha => ⟨st, [(0, .slice (some ⟨g, 0, none⟩) n c), (1, i64 a), (2, i64 b), (7, i64 (x : Nat)), (8, i64 (5 - ((st : Nat) : Int)))], ha.sub ⟨rfl, rfl, rfl, rfl, congrArg (fun z => some (i64 z)) (by omega), trivial⟩, ⟨A7, d7, x, hg7, hax7, hrow7, hn7, by omega, hxb, by omega, hfin, rfl⟩, by omega⟩
  refine CW.block ?_
  -- the part that is sorted already
  refine CW.meet (fun E' w' => ∃ x, Good w' s (A1 :: os) ∧ Aux w w' ∧ i ≤ x ∧ x ≤ b ∧ Go.Sort.scanSorted ltI d1 b i = x ∧ E' = [(0, .slice (some ⟨g, 0, none⟩) n c), (1, i64 a), (2, i64 b), (7, i64 (x : Nat)), (8, i64 (5 - ((st + 1 : Nat) : Int)))]) ?_ ?_
  ·
   refine CW.block (CW.loop (σ := Nat) (fun k E w' => ∃ x, Good w' s (A1 :: os) ∧ Aux w w' ∧ i ≤ x ∧ x ≤ b ∧ b - x ≤ k ∧ Go.Sort.scanSorted ltI d1 b i = Go.Sort.scanSorted ltI d1 b x ∧ E = [(0, .slice (some ⟨g, 0, none⟩) n c), (1, i64 a), (2, i64 b), (7, i64 (x : Nat)), (8, i64 (5 - ((st + 1 : Nat) : Int)))])
    (fun k => k) b [(0, .slice (some ⟨g, 0, none⟩) n c), (1, i64 a), (2, i64 b), (7, i64 (i : Nat)), (8, i64 (5 - ((st + 1 : Nat) : Int)))] ⟨rfl, rfl, rfl, rfl, rfl, trivial⟩ ⟨i, hg1, hax1, Nat.le_refl _, hib, by omega, rfl, rfl⟩ ?_)
   rintro k E w2 ⟨x, hg, hax2, hix, hxb, hk, hsc, rfl⟩
   refine CW.seq (CW.seq ?_)
   refine CW.draws [(true, 0), (true, 1), (true, 2), (true, 3), (true, 4), (true, 5), (true, 6), (true, 7), (true, 8), (true, 9), (true, 10), (true, 11), (true, 12), (false, 13), (true, 14), (true, 15)] (fun w' => Good w' s (A1 :: os)) mixed (by kernel_rfl) (by kernel_rfl) (by kernel_rfl) (by kernel_rfl) hg.drew ?_
   refine RL.pp ?_
   refine RL.pp ?_
   refine RL.part 20 rfl (fun hc => ?_) (fun hc => ?_)
   ·
    have hxb' : x < b := by have := of_decide_eq_true hc; omega
    refine RL.pp ?_
    refine RL.idxR x rfl rfl rfl rfl sl83 rfl rfl rfl (by omega) ?_
    refine RL.loadRT x rfl rfl rfl rfl ty22 rfl hrow1 (fun w h => h.1) (by omega) ?_
    refine RL.pp ?_
    refine RL.sub rfl rfl rfl rfl rfl rfl ((by simp only [rng]; omega)) ?_
    refine RL.idxR (x - 1) rfl rfl rfl rfl sl83 rfl rfl (by omega) (by omega) ?_
    refine RL.loadRT (x - 1) rfl rfl rfl rfl ty22 rfl hrow1 (fun w h => h.1) (by omega) ?_
    refine RL.callV rfl rfl rfl rfl rfl ca197 (Less_ct hg.drew) ?_
    rintro v w3 hg3 hax3 rfl
    refine ⟨hg3, ?_⟩
    refine RL.pu ?_
    refine RL.pd ?_
    refine CW.cond rfl (fun hl => ?_) (fun hl => ?_)
    ·
     refine CW.skip ?_
     refine CW.block (CW.plain ?_)
     refine RL.pu ?_
     refine RL.add rfl rfl rfl rfl rfl rfl ((by simp only [rng]; omega)) ?_
     refine RL.pd ?_
     refine fun ac ha => ⟨k - 1, [(0, .slice (some ⟨g, 0, none⟩) n c), (1, i64 a), (2, i64 b), (7, i64 ((x : Int) + 1)), (8, i64 (5 - ((st + 1 : Nat) : Int)))], ha.sub ⟨rfl, rfl, rfl, rfl, rfl, trivial⟩, ⟨x + 1, hg3, hax2.trans ((Aux.drew _).trans hax3), by omega, by omega, by omega, by rw [hsc]; exact scanSorted_step hxb' (by simpa using hl), rfl⟩, by omega⟩
    ·
     refine CW.exit (fun ac ha => ⟨_, ha.sub (E' := [(0, .slice (some ⟨g, 0, none⟩) n c), (1, i64 a), (2, i64 b), (7, i64 (x : Nat)), (8, i64 (5 - ((st + 1 : Nat) : Int)))]) ⟨rfl, rfl, rfl, rfl, rfl, trivial⟩, x, hg3, hax2.trans ((Aux.drew _).trans hax3), hix, hxb, by rw [hsc]; exact scanSorted_end (.inr (by simpa using hl)), rfl⟩)
   ·
    have hxb' : ¬ x < b := by have := of_decide_eq_false hc; omega
    refine RL.qq ?_
    refine RL.qq ?_
    refine RL.qq ?_
    refine RL.qq ?_
    refine RL.qq ?_
    refine RL.pa ?_
    refine RL.pd ?_
    refine CW.no rfl ?_
    refine CW.exit (fun ac ha => ⟨_, ha.sub (E' := [(0, .slice (some ⟨g, 0, none⟩) n c), (1, i64 a), (2, i64 b), (7, i64 (x : Nat)), (8, i64 (5 - ((st + 1 : Nat) : Int)))]) ⟨rfl, rfl, rfl, rfl, rfl, trivial⟩, x, hg.drew, hax2.trans (Aux.drew _), hix, hxb, by rw [hsc]; exact scanSorted_end (.inl hxb'), rfl⟩)
  rintro E' w4 ⟨x, hg4, hax4, hix, hxb, hsc, rfl⟩
  refine CW.seq (CW.seq (CW.plain ?_))
  refine RL.pp ?_
  refine RL.pd ?_
  refine CW.eq rfl (fun he => ?_) (fun he => ?_)
  ·
   refine CW.seq (CW.plain ?_)
   refine RL.pd ?_
   have hpd := pi_done (a := a) (s := st) hsc (by omega)
   refine CW.ret (ret (vs := [_]) ⟨_, _, rfl, rfl, rfl⟩ (Post.mk (Le.refl _) hg4 hax4 ⟨rfl, ?_, ?_⟩))
   ·
    rw [heq, hpd]; rfl
   ·
    rw [heq, hpd]; exact hrow1
  have hxb2 : ¬ x = b := by omega
  refine CW.skip ?_
  refine CW.seq (CW.seq (CW.plain ?_))
  refine RL.pp ?_
  refine RL.sub rfl rfl rfl rfl rfl rfl ((by simp only [rng]; omega)) ?_
  refine RL.pd ?_
  refine CW.test rfl (fun h5 => ?_) (fun h5 => ?_)
  ·
   refine CW.seq (CW.plain ?_)
   refine RL.pd ?_
   have hpd := pi_short (a := a) (s := st) hsc hxb2 (by omega)
   refine CW.ret (ret (vs := [_]) ⟨_, _, rfl, rfl, rfl⟩ (Post.mk (Le.refl _) hg4 hax4 ⟨rfl, ?_, ?_⟩))
   ·
    rw [heq, hpd]; rfl
   ·
    rw [heq, hpd]; exact hrow1
  refine CW.skip ?_
  have hgo := pi_go (a := a) (s := st) hsc hxb2 (by omega)
  have hg := hg4
  have hrow := hrow1
  have hn := hn1
  refine CW.meet (fun E' w' => ∃ A', Good w' s (A' :: os) ∧ Aux w w' ∧ RowAt A' g rest (swp d1 x (x - 1)) ∧ E' = [(0, .slice (some ⟨g, 0, none⟩) n c), (1, i64 a), (2, i64 b), (7, i64 (x : Nat)), (8, i64 (5 - ((st + 1 : Nat) : Int)))]) ?_ ?_
  ·
   refine CW.forks (.fork [(true, 0), (true, 1), (true, 2), (true, 3), (true, 4), (true, 5), (true, 6), (true, 7), (true, 8), (true, 10), (true, 11), (true, 12)] (.line [(false, 9), (false, 13), (true, 14), (false, 15), (true, 16), (false, 17)]) (.line [(false, 13), (false, 9), (true, 14), (false, 15), (true, 16), (false, 17)])) (fun _ => True) mixed (by kernel_rfl) (by kernel_rfl) (by kernel_rfl) (by kernel_rfl) trivial ?_
   refine RT.pre trivial ?_
   refine RL.pp ?_
   refine RL.pp ?_
   refine RL.sub rfl rfl rfl rfl rfl rfl (by simp only [rng] at *; omega) ?_
   refine RL.pp ?_
   refine RL.sub rfl rfl rfl rfl rfl rfl (by simp only [rng] at *; omega) ?_
   refine RL.idxR (x - 1) rfl rfl rfl rfl sl83 rfl rfl (by omega) (by omega) ?_
   refine RL.pp ?_
   refine RL.idxR (x) rfl rfl rfl rfl sl83 rfl rfl (by omega) (by omega) ?_
   refine RL.done ?_
   refine RT.both (S := fun _ => True) trivial (RT.end_ (S := fun _ => True) trivial ?_) (RT.end_ (S := fun _ => True) trivial ?_)
   ·
    refine RL.loadR (x - 1) rfl rfl rfl rfl ty22 rfl hrow hg.drew.1 (by omega) ?_
    refine RL.loadR (x) rfl rfl rfl rfl ty22 rfl hrow hg.drew.1 (by omega) ?_
    refine RL.idxR (x) rfl rfl rfl rfl sl83 rfl rfl (by omega) (by omega) ?_
    refine RL.storeR (x) rfl rfl rfl ty22 rfl rfl hg.drew hrow (by omega) ?_
    intro ws1 As1 hgs1 haxs1 hrows1
    refine ⟨trivial, ?_⟩
    refine RL.idxR (x - 1) rfl rfl rfl rfl sl83 rfl rfl (by omega) (by omega) ?_
    refine RL.storeR (x - 1) rfl rfl rfl ty22 rfl rfl hgs1 hrows1 (by simp; omega) ?_
    intro ws2 As2 hgs2 haxs2 hrows2
    refine ⟨trivial, ?_⟩
    refine RL.done ?_
    exact fun ac ha => ⟨_, ha.sub (E' := [(0, .slice (some ⟨g, 0, none⟩) n c), (1, i64 a), (2, i64 b), (7, i64 (x : Nat)), (8, i64 (5 - ((st + 1 : Nat) : Int)))]) ⟨rfl, rfl, rfl, rfl, rfl, trivial⟩, As2, hgs2, hax4.trans ((Aux.drew _).trans (haxs1.trans haxs2)), hrows2, rfl⟩
   ·
    refine RL.loadR (x) rfl rfl rfl rfl ty22 rfl hrow hg.drew.1 (by omega) ?_
    refine RL.loadR (x - 1) rfl rfl rfl rfl ty22 rfl hrow hg.drew.1 (by omega) ?_
    refine RL.idxR (x) rfl rfl rfl rfl sl83 rfl rfl (by omega) (by omega) ?_
    refine RL.storeR (x) rfl rfl rfl ty22 rfl rfl hg.drew hrow (by omega) ?_
    intro ws1 As1 hgs1 haxs1 hrows1
    refine ⟨trivial, ?_⟩
    refine RL.idxR (x - 1) rfl rfl rfl rfl sl83 rfl rfl (by omega) (by omega) ?_
    refine RL.storeR (x - 1) rfl rfl rfl ty22 rfl rfl hgs1 hrows1 (by simp; omega) ?_
    intro ws2 As2 hgs2 haxs2 hrows2
    refine ⟨trivial, ?_⟩
    refine RL.done ?_
    exact fun ac ha => ⟨_, ha.sub (E' := [(0, .slice (some ⟨g, 0, none⟩) n c), (1, i64 a), (2, i64 b), (7, i64 (x : Nat)), (8, i64 (5 - ((st + 1 : Nat) : Int)))]) ⟨rfl, rfl, rfl, rfl, rfl, trivial⟩, As2, hgs2, hax4.trans ((Aux.drew _).trans (haxs1.trans haxs2)), hrows2, rfl⟩
  rintro E' w5 ⟨A5, hg5, hax5, hrow5, rfl⟩
  have hn5 : (swp d1 x (x - 1)).size = n := by rw [size_swp]; exact hn1
  -- the smaller one goes down
  refine CW.meet (fun E' w' => ∃ A' dk, Good w' s (A' :: os) ∧ Aux w w' ∧ RowAt A' g rest dk ∧ dk.size = n ∧ pd a x d1 = dk ∧ E' = [(0, .slice (some ⟨g, 0, none⟩) n c), (1, i64 a), (2, i64 b), (7, i64 (x : Nat)), (8, i64 (5 - ((st + 1 : Nat) : Int)))]) ?_ ?_
  ·
   refine CW.seq (CW.plain ?_)
   refine RL.pp ?_
   refine RL.sub rfl rfl rfl rfl rfl rfl ((by simp only [rng]; omega)) ?_
   refine RL.pd ?_
   refine CW.test rfl (fun h2 => ?_) (fun h2 => ?_)
   ·
    have hpd : pd a x d1 = Go.Sort.shiftDown ltI (x - 1) (swp d1 x (x - 1)) := by rw [pd, if_pos (by omega)]
    refine CW.seq (CW.plain ?_)
    refine RL.pu ?_
    refine RL.sub rfl rfl rfl rfl rfl rfl ((by simp only [rng]; omega)) ?_
    refine RL.pd ?_
    refine CW.block (CW.loop (σ := Nat) (fun j E w' => ∃ A' dk, Good w' s (A' :: os) ∧ Aux w w' ∧ RowAt A' g rest dk ∧ dk.size = n ∧ j < n ∧ pd a x d1 = Go.Sort.shiftDown ltI j dk ∧ E = [(0, .slice (some ⟨g, 0, none⟩) n c), (1, i64 a), (2, i64 b), (7, i64 (x : Nat)), (8, i64 (5 - ((st + 1 : Nat) : Int))), (9, i64 (j : Nat))])
     (fun j => j) (x - 1) [(0, .slice (some ⟨g, 0, none⟩) n c), (1, i64 a), (2, i64 b), (7, i64 (x : Nat)), (8, i64 (5 - ((st + 1 : Nat) : Int))), (9, i64 ((x - 1 : Nat) : Int))] ⟨rfl, rfl, rfl, rfl, rfl, congrArg (fun z => some (i64 z)) (by omega), trivial⟩ ⟨A5, _, hg5, hax5, hrow5, hn5, by omega, hpd, rfl⟩ ?_)
    rintro j E w6 ⟨A6, d6, hg, hax6, hrow, hn, hjn, hsd, rfl⟩
    refine CW.seq (CW.seq (CW.plain ?_))
    refine RL.pu ?_
    refine RL.pd ?_
    refine CW.test rfl (fun hj => ?_) (fun hj => ?_)
    ·
     refine CW.skip ?_
     have hj' : 1 ≤ j := by omega
     refine CW.meet (fun E' w' => ∃ A', ltI d6[j]! d6[j - 1]! = true ∧ Good w' s (A' :: os) ∧ Aux w w' ∧ RowAt A' g rest (swp d6 j (j - 1)) ∧ E' = [(0, .slice (some ⟨g, 0, none⟩) n c), (1, i64 a), (2, i64 b), (7, i64 (x : Nat)), (8, i64 (5 - ((st + 1 : Nat) : Int))), (9, i64 (j : Nat))]) ?_ ?_
     ·
      refine CW.block (CW.seq (CW.seq ?_))
      refine CW.draws [(true, 0), (true, 1), (true, 2), (true, 3), (true, 4), (true, 5), (true, 6), (true, 7), (true, 8), (false, 9), (true, 10)] (fun w' => Good w' s (A6 :: os)) mixed (by kernel_rfl) (by kernel_rfl) (by kernel_rfl) (by kernel_rfl) hg.drew ?_
      refine RL.pp ?_
      refine RL.idxR j rfl rfl rfl rfl sl83 rfl rfl rfl (by omega) ?_
      refine RL.loadRT j rfl rfl rfl rfl ty22 rfl hrow (fun w h => h.1) (by omega) ?_
      refine RL.pp ?_
      refine RL.sub rfl rfl rfl rfl rfl rfl ((by simp only [rng]; omega)) ?_
      refine RL.idxR (j - 1) rfl rfl rfl rfl sl83 rfl rfl (by omega) (by omega) ?_
      refine RL.loadRT (j - 1) rfl rfl rfl rfl ty22 rfl hrow (fun w h => h.1) (by omega) ?_
      refine RL.callV rfl rfl rfl rfl rfl ca197 (Less_ct hg.drew) ?_
      rintro v w7 hg7 hax7 rfl
      refine ⟨hg7, ?_⟩
      refine RL.pd ?_
      refine CW.cond rfl (fun hl => ?_) (fun hl => ?_)
      ·
       refine CW.exit (fun ac ha => ⟨_, ha.sub (E' := [(0, .slice (some ⟨g, 0, none⟩) n c), (1, i64 a), (2, i64 b), (7, i64 (x : Nat)), (8, i64 (5 - ((st + 1 : Nat) : Int)))]) ⟨rfl, rfl, rfl, rfl, rfl, trivial⟩, A6, d6, hg7, hax6.trans ((Aux.drew _).trans hax7), hrow, hn, by rw [hsd]; exact shiftDown_end (.inr (by simpa using hl)), rfl⟩)
      ·
       have hl' : ltI d6[j]! d6[j - 1]! = true := by simpa using hl
       refine CW.skip ?_
       have hg := hg7
       refine CW.forks (.fork [(true, 0), (true, 1), (true, 2), (true, 3), (true, 4), (true, 5), (true, 6), (true, 7), (true, 8), (true, 10), (true, 11), (true, 12)] (.line [(false, 9), (false, 13), (true, 14), (false, 15), (true, 16), (false, 17)]) (.line [(false, 13), (false, 9), (true, 14), (false, 15), (true, 16), (false, 17)])) (fun _ => True) mixed (by kernel_rfl) (by kernel_rfl) (by kernel_rfl) (by kernel_rfl) trivial ?_
       refine RT.pre trivial ?_
       refine RL.pp ?_
       refine RL.pp ?_
       refine RL.sub rfl rfl rfl rfl rfl rfl (by simp only [rng] at *; omega) ?_
       refine RL.pp ?_
       refine RL.sub rfl rfl rfl rfl rfl rfl (by simp only [rng] at *; omega) ?_
       refine RL.idxR (j - 1) rfl rfl rfl rfl sl83 rfl rfl (by omega) (by omega) ?_
       refine RL.pp ?_
       refine RL.idxR (j) rfl rfl rfl rfl sl83 rfl rfl (by omega) (by omega) ?_
       refine RL.done ?_
       refine RT.both (S := fun _ => True) trivial (RT.end_ (S := fun _ => True) trivial ?_) (RT.end_ (S := fun _ => True) trivial ?_)
       ·
        refine RL.loadR (j - 1) rfl rfl rfl rfl ty22 rfl hrow hg.drew.1 (by omega) ?_
        refine RL.loadR (j) rfl rfl rfl rfl ty22 rfl hrow hg.drew.1 (by omega) ?_
        refine RL.idxR (j) rfl rfl rfl rfl sl83 rfl rfl (by omega) (by omega) ?_
        refine RL.storeR (j) rfl rfl rfl ty22 rfl rfl hg.drew hrow (by omega) ?_
        intro ws1 As1 hgs1 haxs1 hrows1
        refine ⟨trivial, ?_⟩
        refine RL.idxR (j - 1) rfl rfl rfl rfl sl83 rfl rfl (by omega) (by omega) ?_
        refine RL.storeR (j - 1) rfl rfl rfl ty22 rfl rfl hgs1 hrows1 (by simp; omega) ?_
        intro ws2 As2 hgs2 haxs2 hrows2
        refine ⟨trivial, ?_⟩
        refine RL.done ?_
        exact fun ac ha => ⟨_, ha.sub (E' := [(0, .slice (some ⟨g, 0, none⟩) n c), (1, i64 a), (2, i64 b), (7, i64 (x : Nat)), (8, i64 (5 - ((st + 1 : Nat) : Int))), (9, i64 (j : Nat))]) ⟨rfl, rfl, rfl, rfl, rfl, rfl, trivial⟩, As2, hl', hgs2, hax6.trans ((Aux.drew _).trans (hax7.trans ((Aux.drew _).trans (haxs1.trans haxs2)))), hrows2, rfl⟩
       ·
        refine RL.loadR (j) rfl rfl rfl rfl ty22 rfl hrow hg.drew.1 (by omega) ?_
        refine RL.loadR (j - 1) rfl rfl rfl rfl ty22 rfl hrow hg.drew.1 (by omega) ?_
        refine RL.idxR (j) rfl rfl rfl rfl sl83 rfl rfl (by omega) (by omega) ?_
        refine RL.storeR (j) rfl rfl rfl ty22 rfl rfl hg.drew hrow (by omega) ?_
        intro ws1 As1 hgs1 haxs1 hrows1
        refine ⟨trivial, ?_⟩
        refine RL.idxR (j - 1) rfl rfl rfl rfl sl83 rfl rfl (by omega) (by omega) ?_
        refine RL.storeR (j - 1) rfl rfl rfl ty22 rfl rfl hgs1 hrows1 (by simp; omega) ?_
        intro ws2 As2 hgs2 haxs2 hrows2
        refine ⟨trivial, ?_⟩
        refine RL.done ?_
        exact fun ac ha => ⟨_, ha.sub (E' := [(0, .slice (some ⟨g, 0, none⟩) n c), (1, i64 a), (2, i64 b), (7, i64 (x : Nat)), (8, i64 (5 - ((st + 1 : Nat) : Int))), (9, i64 (j : Nat))]) ⟨rfl, rfl, rfl, rfl, rfl, rfl, trivial⟩, As2, hl', hgs2, hax6.trans ((Aux.drew _).trans (hax7.trans ((Aux.drew _).trans (haxs1.trans haxs2)))), hrows2, rfl⟩
     ·
      rintro E' w8 ⟨A8, hl', hg8, hax8, hrow8, rfl⟩
      refine CW.plain ?_
      refine RL.pu ?_
      refine RL.sub rfl rfl rfl rfl rfl rfl ((by simp only [rng]; omega)) ?_
      refine RL.pd ?_
      refine fun ac ha => ⟨j - 1, [(0, .slice (some ⟨g, 0, none⟩) n c), (1, i64 a), (2, i64 b), (7, i64 (x : Nat)), (8, i64 (5 - ((st + 1 : Nat) : Int))), (9, i64 ((j - 1 : Nat) : Int))], ha.sub ⟨rfl, rfl, rfl, rfl, rfl, congrArg (fun z => some (i64 z)) (by omega), trivial⟩, ⟨A8, _, hg8, hax8, hrow8, by rw [size_swp]; exact hn, by omega, by rw [hsd]; exact shiftDown_step hj' hl', rfl⟩, by omega⟩
    ·
     refine CW.exit (fun ac ha => ⟨_, ha.sub (E' := [(0, .slice (some ⟨g, 0, none⟩) n c), (1, i64 a), (2, i64 b), (7, i64 (x : Nat)), (8, i64 (5 - ((st + 1 : Nat) : Int)))]) ⟨rfl, rfl, rfl, rfl, rfl, trivial⟩, A6, d6, hg, hax6, hrow, hn, by rw [hsd]; exact shiftDown_end (.inl (by omega)), rfl⟩)
   ·
    refine CW.skip (fun ac ha => ⟨_, ha.sub (E' := [(0, .slice (some ⟨g, 0, none⟩) n c), (1, i64 a), (2, i64 b), (7, i64 (x : Nat)), (8, i64 (5 - ((st + 1 : Nat) : Int)))]) ⟨rfl, rfl, rfl, rfl, rfl, trivial⟩, A5, _, hg5, hax5, hrow5, hn5, by rw [pd, if_neg (by omega)], rfl⟩)
  rintro E' w6 ⟨A5, d5, hg5, hax5, hrow5, hn5, hpd, rfl⟩
  -- the greater one goes up
  refine CW.seq (CW.plain ?_)
  refine RL.pp ?_
  refine RL.sub rfl rfl rfl rfl rfl rfl ((by simp only [rng]; omega)) ?_
  refine RL.pd ?_
  refine CW.test rfl (fun h2 => ?_) (fun h2 => ?_)
  ·
   have hpu : pu b x d5 = Go.Sort.shiftUp ltI b (x + 1) d5 := by rw [pu, if_pos (by omega)]
   ·
    refine CW.seq (CW.plain ?_)
    refine RL.pu ?_
    refine RL.add rfl rfl rfl rfl rfl rfl ((by simp only [rng]; omega)) ?_
    refine RL.pd ?_
    refine CW.block (CW.loop (σ := Nat) (fun k E w' => ∃ A' dk j, Good w' s (A' :: os) ∧ Aux w w' ∧ RowAt A' g rest dk ∧ dk.size = n ∧ 1 ≤ j ∧ j ≤ n ∧ b - j ≤ k ∧ pu b x d5 = Go.Sort.shiftUp ltI b j dk ∧ E = [(0, .slice (some ⟨g, 0, none⟩) n c), (1, i64 a), (2, i64 b), (7, i64 (x : Nat)), (8, i64 (5 - ((st + 1 : Nat) : Int))), (10, i64 (j : Nat))])
     (fun k => k) b [(0, .slice (some ⟨g, 0, none⟩) n c), (1, i64 a), (2, i64 b), (7, i64 (x : Nat)), (8, i64 (5 - ((st + 1 : Nat) : Int))), (10, i64 ((x : Int) + 1))] ⟨rfl, rfl, rfl, rfl, rfl, rfl, trivial⟩ ⟨A5, _, x + 1, hg5, hax5, hrow5, hn5, by omega, by omega, by omega, hpu, rfl⟩ ?_)
    rintro k E w6 ⟨A6, d6, j, hg, hax6, hrow, hn, h1j, hjn, hk, hsd, rfl⟩
    refine CW.seq (CW.seq (CW.plain ?_))
    refine RL.pp ?_
    refine RL.pd ?_
    refine CW.test rfl (fun hj => ?_) (fun hj => ?_)
    ·
     refine CW.skip ?_
     have hj' : j < b := by omega
     refine CW.meet (fun E' w' => ∃ A', ltI d6[j]! d6[j - 1]! = true ∧ Good w' s (A' :: os) ∧ Aux w w' ∧ RowAt A' g rest (swp d6 j (j - 1)) ∧ E' = [(0, .slice (some ⟨g, 0, none⟩) n c), (1, i64 a), (2, i64 b), (7, i64 (x : Nat)), (8, i64 (5 - ((st + 1 : Nat) : Int))), (10, i64 (j : Nat))]) ?_ ?_
     ·
      refine CW.block (CW.seq (CW.seq ?_))
      refine CW.draws [(true, 0), (true, 1), (true, 2), (true, 3), (true, 4), (true, 5), (true, 6), (true, 7), (true, 8), (false, 9), (true, 10)] (fun w' => Good w' s (A6 :: os)) mixed (by kernel_rfl) (by kernel_rfl) (by kernel_rfl) (by kernel_rfl) hg.drew ?_
      refine RL.pp ?_
      refine RL.idxR j rfl rfl rfl rfl sl83 rfl rfl rfl (by omega) ?_
      refine RL.loadRT j rfl rfl rfl rfl ty22 rfl hrow (fun w h => h.1) (by omega) ?_
      refine RL.pp ?_
      refine RL.sub rfl rfl rfl rfl rfl rfl ((by simp only [rng]; omega)) ?_
      refine RL.idxR (j - 1) rfl rfl rfl rfl sl83 rfl rfl (by omega) (by omega) ?_
      refine RL.loadRT (j - 1) rfl rfl rfl rfl ty22 rfl hrow (fun w h => h.1) (by omega) ?_
      refine RL.callV rfl rfl rfl rfl rfl ca197 (Less_ct hg.drew) ?_
      rintro v w7 hg7 hax7 rfl
      refine ⟨hg7, ?_⟩
      refine RL.pd ?_
      refine CW.cond rfl (fun hl => ?_) (fun hl => ?_)
      ·
       refine CW.exit (fun ac ha => ⟨_, ha.sub (E' := [(0, .slice (some ⟨g, 0, none⟩) n c), (1, i64 a), (2, i64 b), (7, i64 (x : Nat)), (8, i64 (5 - ((st + 1 : Nat) : Int)))]) ⟨rfl, rfl, rfl, rfl, rfl, trivial⟩, x, A6, d6, hg7, hax6.trans ((Aux.drew _).trans hax7), hrow, hn, by omega, hxb, by rw [heq, hgo, hpd, hsd, shiftUp_end (.inr (by simpa using hl))], rfl⟩)
      ·
       have hl' : ltI d6[j]! d6[j - 1]! = true := by simpa using hl
       refine CW.skip ?_
       have hg := hg7
       refine CW.forks (.fork [(true, 0), (true, 1), (true, 2), (true, 3), (true, 4), (true, 5), (true, 6), (true, 7), (true, 8), (true, 10), (true, 11), (true, 12)] (.line [(false, 9), (false, 13), (true, 14), (false, 15), (true, 16), (false, 17)]) (.line [(false, 13), (false, 9), (true, 14), (false, 15), (true, 16), (false, 17)])) (fun _ => True) mixed (by kernel_rfl) (by kernel_rfl) (by kernel_rfl) (by kernel_rfl) trivial ?_
       refine RT.pre trivial ?_
       refine RL.pp ?_
       refine RL.pp ?_
       refine RL.sub rfl rfl rfl rfl rfl rfl (by simp only [rng] at *; omega) ?_
       refine RL.pp ?_
       refine RL.sub rfl rfl rfl rfl rfl rfl (by simp only [rng] at *; omega) ?_
       refine RL.idxR (j - 1) rfl rfl rfl rfl sl83 rfl rfl (by omega) (by omega) ?_
       refine RL.pp ?_
       refine RL.idxR (j) rfl rfl rfl rfl sl83 rfl rfl (by omega) (by omega) ?_
       refine RL.done ?_
       refine RT.both (S := fun _ => True) trivial (RT.end_ (S := fun _ => True) trivial ?_) (RT.end_ (S := fun _ => True) trivial ?_)
       ·
        refine RL.loadR (j - 1) rfl rfl rfl rfl ty22 rfl hrow hg.drew.1 (by omega) ?_
        refine RL.loadR (j) rfl rfl rfl rfl ty22 rfl hrow hg.drew.1 (by omega) ?_
        refine RL.idxR (j) rfl rfl rfl rfl sl83 rfl rfl (by omega) (by omega) ?_
        refine RL.storeR (j) rfl rfl rfl ty22 rfl rfl hg.drew hrow (by omega) ?_
        intro ws1 As1 hgs1 haxs1 hrows1
        refine ⟨trivial, ?_⟩
        refine RL.idxR (j - 1) rfl rfl rfl rfl sl83 rfl rfl (by omega) (by omega) ?_
        refine RL.storeR (j - 1) rfl rfl rfl ty22 rfl rfl hgs1 hrows1 (by simp; omega) ?_
        intro ws2 As2 hgs2 haxs2 hrows2
        refine ⟨trivial, ?_⟩
        refine RL.done ?_
        exact fun ac ha => ⟨_, ha.sub (E' := [(0, .slice (some ⟨g, 0, none⟩) n c), (1, i64 a), (2, i64 b), (7, i64 (x : Nat)), (8, i64 (5 - ((st + 1 : Nat) : Int))), (10, i64 (j : Nat))]) ⟨rfl, rfl, rfl, rfl, rfl, rfl, trivial⟩, As2, hl', hgs2, hax6.trans ((Aux.drew _).trans (hax7.trans ((Aux.drew _).trans (haxs1.trans haxs2)))), hrows2, rfl⟩
       ·
        refine RL.loadR (j) rfl rfl rfl rfl ty22 rfl hrow hg.drew.1 (by omega) ?_
        refine RL.loadR (j - 1) rfl rfl rfl rfl ty22 rfl hrow hg.drew.1 (by omega) ?_
        refine RL.idxR (j) rfl rfl rfl rfl sl83 rfl rfl (by omega) (by omega) ?_
        refine RL.storeR (j) rfl rfl rfl ty22 rfl rfl hg.drew hrow (by omega) ?_
        intro ws1 As1 hgs1 haxs1 hrows1
        refine ⟨trivial, ?_⟩
        refine RL.idxR (j - 1) rfl rfl rfl rfl sl83 rfl rfl (by omega) (by omega) ?_
        refine RL.storeR (j - 1) rfl rfl rfl ty22 rfl rfl hgs1 hrows1 (by simp; omega) ?_
        intro ws2 As2 hgs2 haxs2 hrows2
        refine ⟨trivial, ?_⟩
        refine RL.done ?_
        exact fun ac ha => ⟨_, ha.sub (E' := [(0, .slice (some ⟨g, 0, none⟩) n c), (1, i64 a), (2, i64 b), (7, i64 (x : Nat)), (8, i64 (5 - ((st + 1 : Nat) : Int))), (10, i64 (j : Nat))]) ⟨rfl, rfl, rfl, rfl, rfl, rfl, trivial⟩, As2, hl', hgs2, hax6.trans ((Aux.drew _).trans (hax7.trans ((Aux.drew _).trans (haxs1.trans haxs2)))), hrows2, rfl⟩
     ·
      rintro E' w8 ⟨A8, hl', hg8, hax8, hrow8, rfl⟩
      refine CW.plain ?_
      refine RL.pu ?_
      refine RL.add rfl rfl rfl rfl rfl rfl ((by simp only [rng]; omega)) ?_
      refine RL.pd ?_
      refine fun ac ha => ⟨k - 1, [(0, .slice (some ⟨g, 0, none⟩) n c), (1, i64 a), (2, i64 b), (7, i64 (x : Nat)), (8, i64 (5 - ((st + 1 : Nat) : Int))), (10, i64 ((j : Int) + 1))], ha.sub ⟨rfl, rfl, rfl, rfl, rfl, rfl, trivial⟩, ⟨A8, _, j + 1, hg8, hax8, hrow8, by rw [size_swp]; exact hn, by omega, by omega, by omega, by rw [hsd]; exact shiftUp_step hj' hl', rfl⟩, by omega⟩
    ·
     refine CW.exit (fun ac ha => ⟨_, ha.sub (E' := [(0, .slice (some ⟨g, 0, none⟩) n c), (1, i64 a), (2, i64 b), (7, i64 (x : Nat)), (8, i64 (5 - ((st + 1 : Nat) : Int)))]) ⟨rfl, rfl, rfl, rfl, rfl, trivial⟩, x, A6, d6, hg, hax6, hrow, hn, by omega, hxb, by rw [heq, hgo, hpd, hsd, shiftUp_end (.inl (by omega))], rfl⟩)
  ·
   refine CW.skip (fun ac ha => ⟨_, ha.sub (E' := [(0, .slice (some ⟨g, 0, none⟩) n c), (1, i64 a), (2, i64 b), (7, i64 (x : Nat)), (8, i64 (5 - ((st + 1 : Nat) : Int)))]) ⟨rfl, rfl, rfl, rfl, rfl, trivial⟩, x, A5, d5, hg5, hax5, hrow5, hn5, by omega, hxb, by rw [heq, hgo, hpd, pu, if_neg (by omega)], rfl⟩)
 ·
  obtain rfl : st = 0 := by omega
  refine CW.exit (CW.seq (CW.plain ?_))
  refine RL.pd ?_
  refine CW.ret (ret (vs := [_]) ⟨_, _, rfl, rfl, rfl⟩ (Post.mk (Le.refl _) hg1 hax1 ⟨rfl, ?_, ?_⟩))
  ·
   rw [heq]; rfl
  ·
   rw [heq]; exact hrow1
end Go.Lw

/-
 The sort's shuffling: which row comes of it is left open; it is a permutation.
-/
namespace Go.Lw
open Go.Proofs
open Go.Sort (swp size_swp PermIn)
set_option maxRecDepth 100000 in
theorem Next_ct {w : World} {s A : Res} {os : List Res} {p : Nat} {x : Int} (hg : Good w s (A :: os)) (hp : A p = some (.cells #[.int .u64 x] 221 (0, 0))) :
  Calls Tryz.prog 203 #[ptr p] w (Post w s os fun s' A' r => s' = s ∧ ∃ y, rng .u64 y ∧ r = .int .u64 y ∧ A' p = some (.cells #[.int .u64 y] 221 (0, 0))) := by
 refine enter (l := [ptr p]) Tryz.func203 rfl Tryz.ntmps203 rfl ?_
 refine CW.seq (CW.plain ?_)
 refine RL.pd ?_
 have hax := Aux.refl w
 refine CW.meet (fun E' w' => ∃ A' y, Good w' s (A' :: os) ∧ Aux w w' ∧ rng .u64 y ∧ A' p = some (.cells #[.int .u64 y] 221 (0, 0)) ∧ E' = [(0, ptr p)]) ?_ ?_
 ·
  refine CW.forks (.fork [(true, 0), (true, 1), (true, 3), (true, 4)] (.line [(false, 2), (false, 5), (true, 6), (true, 7), (true, 8), (false, 9)]) (.line [(false, 5), (true, 6), (false, 2), (true, 7), (true, 8), (false, 9)])) (fun _ => True) mixed (by kernel_rfl) (by kernel_rfl) (by kernel_rfl) (by kernel_rfl) trivial ?_
  refine RT.pre trivial ?_
  refine RL.pp ?_
  refine RL.pu ?_
  refine RL.pd ?_
  refine RT.both (S := fun _ => True) trivial (RT.end_ (S := fun _ => True) trivial ?_) (RT.end_ (S := fun _ => True) trivial ?_)
  ·
   refine RL.load (j := 0) rfl rfl rfl rfl ty221 rfl (Holds.of hp) (hg.drew.1) rfl ?_
   refine RL.load (j := 0) rfl rfl rfl rfl ty221 rfl (Holds.of hp) (hg.drew.1) rfl ?_
   refine RL.shl 13 rfl rfl rfl rfl rfl rfl rfl (by decide) ?_
   refine RL.pp ?_
   refine RL.store (i := 0) (j := 0) rfl rfl rfl ty221 rfl rfl hg.drew rfl (hp) rfl (by first | (simp [Value.cells, Value.oneCell']; done) | simp [Value.cells, Value.oneCell', putL]) (by first | exact Nat.le_of_ble_eq_true rfl | (simp; done) | (simp; omega) | omega) ?_
   rintro w2 hg2 hax2
   refine ⟨trivial, ?_⟩
   refine RL.done ?_
   exact fun ac ha => ⟨_, ha.sub (E' := [(0, ptr p)]) ⟨rfl, trivial⟩, _, _, hg2, hax.trans ((Aux.drew _).trans hax2), rng_wrap _ _, put_same _ _ _, rfl⟩
  ·
   refine RL.load (j := 0) rfl rfl rfl rfl ty221 rfl (Holds.of hp) (hg.drew.1) rfl ?_
   refine RL.shl 13 rfl rfl rfl rfl rfl rfl rfl (by decide) ?_
   refine RL.load (j := 0) rfl rfl rfl rfl ty221 rfl (Holds.of hp) (hg.drew.1) rfl ?_
   refine RL.pp ?_
   refine RL.store (i := 0) (j := 0) rfl rfl rfl ty221 rfl rfl hg.drew rfl (hp) rfl (by first | (simp [Value.cells, Value.oneCell']; done) | simp [Value.cells, Value.oneCell', putL]) (by first | exact Nat.le_of_ble_eq_true rfl | (simp; done) | (simp; omega) | omega) ?_
   rintro w2 hg2 hax2
   refine ⟨trivial, ?_⟩
   refine RL.done ?_
   exact fun ac ha => ⟨_, ha.sub (E' := [(0, ptr p)]) ⟨rfl, trivial⟩, _, _, hg2, hax.trans ((Aux.drew _).trans hax2), rng_wrap _ _, put_same _ _ _, rfl⟩
 rintro E' w' ⟨A', y, hg, hax, hy, hp, rfl⟩
 refine CW.meet (fun E' w' => ∃ A' y, Good w' s (A' :: os) ∧ Aux w w' ∧ rng .u64 y ∧ A' p = some (.cells #[.int .u64 y] 221 (0, 0)) ∧ E' = [(0, ptr p)]) ?_ ?_
 ·
  refine CW.forks (.fork [(true, 0), (true, 1), (true, 3), (true, 4)] (.line [(false, 2), (false, 5), (true, 6), (true, 7), (true, 8), (false, 9)]) (.line [(false, 5), (true, 6), (false, 2), (true, 7), (true, 8), (false, 9)])) (fun _ => True) mixed (by kernel_rfl) (by kernel_rfl) (by kernel_rfl) (by kernel_rfl) trivial ?_
  refine RT.pre trivial ?_
  refine RL.pp ?_
  refine RL.pu ?_
  refine RL.pd ?_
  refine RT.both (S := fun _ => True) trivial (RT.end_ (S := fun _ => True) trivial ?_) (RT.end_ (S := fun _ => True) trivial ?_)
  ·
   refine RL.load (j := 0) rfl rfl rfl rfl ty221 rfl (Holds.of hp) (hg.drew.1) rfl ?_
   refine RL.load (j := 0) rfl rfl rfl rfl ty221 rfl (Holds.of hp) (hg.drew.1) rfl ?_
   refine RL.shr 7 rfl rfl rfl rfl rfl rfl rfl (by decide) ?_
   refine RL.pp ?_
   refine RL.store (i := 0) (j := 0) rfl rfl rfl ty221 rfl rfl hg.drew rfl (hp) rfl (by first | (simp [Value.cells, Value.oneCell']; done) | simp [Value.cells, Value.oneCell', putL]) (by first | exact Nat.le_of_ble_eq_true rfl | (simp; done) | (simp; omega) | omega) ?_
   rintro w2 hg2 hax2
   refine ⟨trivial, ?_⟩
   refine RL.done ?_
   exact fun ac ha => ⟨_, ha.sub (E' := [(0, ptr p)]) ⟨rfl, trivial⟩, _, _, hg2, hax.trans ((Aux.drew _).trans hax2), rng_wrap _ _, put_same _ _ _, rfl⟩
  ·
   refine RL.load (j := 0) rfl rfl rfl rfl ty221 rfl (Holds.of hp) (hg.drew.1) rfl ?_
   refine RL.shr 7 rfl rfl rfl rfl rfl rfl rfl (by decide) ?_
   refine RL.load (j := 0) rfl rfl rfl rfl ty221 rfl (Holds.of hp) (hg.drew.1) rfl ?_
   refine RL.pp ?_
   refine RL.store (i := 0) (j := 0) rfl rfl rfl ty221 rfl rfl hg.drew rfl (hp) rfl (by first | (simp [Value.cells, Value.oneCell']; done) | simp [Value.cells, Value.oneCell', putL]) (by first | exact Nat.le_of_ble_eq_true rfl | (simp; done) | (simp; omega) | omega) ?_
   rintro w2 hg2 hax2
   refine ⟨trivial, ?_⟩
   refine RL.done ?_
   exact fun ac ha => ⟨_, ha.sub (E' := [(0, ptr p)]) ⟨rfl, trivial⟩, _, _, hg2, hax.trans ((Aux.drew _).trans hax2), rng_wrap _ _, put_same _ _ _, rfl⟩
 rintro E' w' ⟨A', y, hg, hax, hy, hp, rfl⟩
 refine CW.meet (fun E' w' => ∃ A' y, Good w' s (A' :: os) ∧ Aux w w' ∧ rng .u64 y ∧ A' p = some (.cells #[.int .u64 y] 221 (0, 0)) ∧ E' = [(0, ptr p)]) ?_ ?_
 ·
  refine CW.forks (.fork [(true, 0), (true, 1), (true, 3), (true, 4)] (.line [(false, 2), (false, 5), (true, 6), (true, 7), (true, 8), (false, 9)]) (.line [(false, 5), (true, 6), (false, 2), (true, 7), (true, 8), (false, 9)])) (fun _ => True) mixed (by kernel_rfl) (by kernel_rfl) (by kernel_rfl) (by kernel_rfl) trivial ?_
  refine RT.pre trivial ?_
  refine RL.pp ?_
  refine RL.pu ?_
  refine RL.pd ?_
  refine RT.both (S := fun _ => True) trivial (RT.end_ (S := fun _ => True) trivial ?_) (RT.end_ (S := fun _ => True) trivial ?_)
  ·
   refine RL.load (j := 0) rfl rfl rfl rfl ty221 rfl (Holds.of hp) (hg.drew.1) rfl ?_
   refine RL.load (j := 0) rfl rfl rfl rfl ty221 rfl (Holds.of hp) (hg.drew.1) rfl ?_
   refine RL.shl 17 rfl rfl rfl rfl rfl rfl rfl (by decide) ?_
   refine RL.pp ?_
   refine RL.store (i := 0) (j := 0) rfl rfl rfl ty221 rfl rfl hg.drew rfl (hp) rfl (by first | (simp [Value.cells, Value.oneCell']; done) | simp [Value.cells, Value.oneCell', putL]) (by first | exact Nat.le_of_ble_eq_true rfl | (simp; done) | (simp; omega) | omega) ?_
   rintro w2 hg2 hax2
   refine ⟨trivial, ?_⟩
   refine RL.done ?_
   exact fun ac ha => ⟨_, ha.sub (E' := [(0, ptr p)]) ⟨rfl, trivial⟩, _, _, hg2, hax.trans ((Aux.drew _).trans hax2), rng_wrap _ _, put_same _ _ _, rfl⟩
  ·
   refine RL.load (j := 0) rfl rfl rfl rfl ty221 rfl (Holds.of hp) (hg.drew.1) rfl ?_
   refine RL.shl 17 rfl rfl rfl rfl rfl rfl rfl (by decide) ?_
   refine RL.load (j := 0) rfl rfl rfl rfl ty221 rfl (Holds.of hp) (hg.drew.1) rfl ?_
   refine RL.pp ?_
   refine RL.store (i := 0) (j := 0) rfl rfl rfl ty221 rfl rfl hg.drew rfl (hp) rfl (by first | (simp [Value.cells, Value.oneCell']; done) | simp [Value.cells, Value.oneCell', putL]) (by first | exact Nat.le_of_ble_eq_true rfl | (simp; done) | (simp; omega) | omega) ?_
   rintro w2 hg2 hax2
   refine ⟨trivial, ?_⟩
   refine RL.done ?_
   exact fun ac ha => ⟨_, ha.sub (E' := [(0, ptr p)]) ⟨rfl, trivial⟩, _, _, hg2, hax.trans ((Aux.drew _).trans hax2), rng_wrap _ _, put_same _ _ _, rfl⟩
 rintro E' w' ⟨A', y, hg, hax, hy, hp, rfl⟩
 refine CW.seq (CW.plain ?_)
 refine RL.pp ?_
 refine RL.load (j := 0) rfl rfl rfl rfl ty221 rfl (Holds.of hp) (hg.1) rfl ?_
 refine RL.pd ?_
 exact CW.ret (ret (vs := [_]) ⟨_, _, rfl, rfl, rfl⟩ (Post.mk (Le.refl _) hg hax ⟨rfl, y, hy, rfl, hp⟩))
theorem Len_plain (x : Int) (w : World) (h0 : 0 ≤ x) (h1 : x ≤ 18446744073709551615) : Calls Tryz.prog 178 #[.int .u64 x] w fun e w' => e = .returned (.int .i64 (Lib.bitLen x.toNat)) ∧ w' = w :=
 calls_of_every_depth fun D => AnySM.bits_LenIn { Tryz.sortI with } D x w h0 h1
theorem Len_ct {w : World} {s : Res} {os : List Res} {n : Nat} (hg : Good w s os) (hn : n < 18446744073709551616) : Calls Tryz.prog 178 #[.int .u64 n] w (PostV w s os fun r => r = i64 (Go.Sort.bitsLen n : Nat)) := by
 refine (Len_plain n w (by omega) (by omega)).mono ?_
 rintro e w' ⟨rfl, rfl⟩
 refine PostV.mk hg (Aux.refl _) ?_
 rw [Int.toNat_natCast, Go.Proofs.bitLen_eq _ (by omega)]
set_option maxRecDepth 100000 in
theorem nextPow_ct {w : World} {s : Res} {os : List Res} {n : Nat} (hg : Good w s os) (h0 : 0 < n) (hn : n < 2305843009213693952) :
  Calls Tryz.prog 202 #[i64 n] w (PostV w s os fun r => r = .int .u64 ((2 ^ Go.Sort.bitsLen n : Nat) : Int)) := by
 have h2 := Go.Sort.two_pow_bitsLen_le h0
 have h62 : Go.Sort.bitsLen n ≤ 61 := (Go.Sort.bitsLen_le_iff n 61).2 (by omega)
 refine enter (l := [i64 n]) Tryz.func202 rfl Tryz.ntmps202 rfl ?_
 refine CW.seq (CW.plain ?_)
 refine RL.pd ?_
 refine CW.seq (CW.plain ?_)
 refine RL.pu ?_
 refine RL.conv rfl rfl rfl rfl Tryz.underlying3 Tryz.underlying200 rfl ((by simp only [rng]; omega)) ?_
 refine RL.callV rfl rfl rfl rfl rfl ca178 (Len_ct hg (by omega)) ?_
 rintro v w1 hg1 hax1 rfl
 refine ⟨trivial, ?_⟩
 refine RL.shl (Go.Sort.bitsLen n) rfl rfl rfl rfl rfl rfl (rfl) ((by simp [IntKind.bits]; omega)) ?_
 refine RL.pd ?_
 refine CW.ret (ret (vs := [_]) ⟨_, _, rfl, rfl, rfl⟩ (PostV.mk hg1 hax1 (congrArg (Value.int .u64) ?_)))
 have e : (1 : Int) * 2 ^ Go.Sort.bitsLen n = ((2 ^ Go.Sort.bitsLen n : Nat) : Int) := by simp
 rw [e]
 generalize 2 ^ Go.Sort.bitsLen n = M at *
 exact rng.wrap (k := .u64) (by simp only [rng]; omega)
theorem and_le (x y : Int) (hy : 0 ≤ y) (hy2 : y < 18446744073709551616) : 0 ≤ IntKind.u64.wrap ((BitVec.ofInt IntKind.u64.bits x &&& BitVec.ofInt IntKind.u64.bits y).toNat) ∧ IntKind.u64.wrap ((BitVec.ofInt IntKind.u64.bits x &&& BitVec.ofInt IntKind.u64.bits y).toNat) ≤ y := by
 have h1 : (BitVec.ofInt IntKind.u64.bits x &&& BitVec.ofInt IntKind.u64.bits y).toNat ≤ (BitVec.ofInt IntKind.u64.bits y).toNat := by
  rw [BitVec.toNat_and]; exact Nat.and_le_right
 have h2 : (BitVec.ofInt IntKind.u64.bits y).toNat = y.toNat := by
  rw [BitVec.toNat_ofInt]
  simp only [IntKind.bits]
  omega
 rw [wrap_u64]
 omega
set_option maxHeartbeats 1000000 in
set_option maxRecDepth 100000 in
theorem breakPatterns_ct {w : World} {s A : Res} {os : List Res} {g n c a b : Nat} {rest : List Value} {d : Array Int} (hg : Good w s (A :: os)) (hrow : RowAt A g rest d) (hn : d.size = n) (hb : b ≤ n) (hab : a + 8 ≤ b) (hsz : n < 2305843009213693952) :
  Calls Tryz.prog 193 #[.slice (some ⟨g, 0, none⟩) n c, i64 a, i64 b] w (Post w s os fun s' A' r => s' = s ∧ r = .tuple #[] ∧ ∃ d', PermIn a b d d' ∧ RowAt A' g rest d') := by
 obtain ⟨L, hL⟩ : ∃ L, L = b - a := ⟨_, rfl⟩
 have h2 := Go.Sort.two_pow_bitsLen_le (n := L) (by omega)
 have hp1 : 1 ≤ 2 ^ Go.Sort.bitsLen L := Nat.one_le_two_pow
 refine enter (l := [.slice (some ⟨g, 0, none⟩) n c, i64 a, i64 b]) Tryz.func193 rfl Tryz.ntmps193 rfl ?_
 refine CW.seq (CW.plain ?_)
 refine RL.pp ?_
 refine RL.sub rfl rfl rfl rfl rfl rfl ((by simp only [rng]; omega)) ?_
 refine RL.pd ?_
 have eL : ((b : Int) - (a : Int)) = (L : Int) := by omega
 rw [eL]
 refine CW.seq (CW.plain ?_)
 refine RL.pu ?_
 refine RL.pd ?_
 refine CW.test rfl (fun h => ?_) (fun h => absurd (by omega) h)
 refine CW.seq (CW.plain ?_)
 refine RL.pu ?_
 refine RL.conv rfl rfl rfl rfl Tryz.underlying3 Tryz.underlying221 rfl ((by simp only [rng]; omega)) ?_
 refine RL.alloc rfl rfl rfl rfl ze221 hg ?_
 rintro p w1 hg1 hax1
 refine ⟨trivial, ?_⟩
 refine RL.store (i := 0) (j := 0) rfl rfl rfl ty221 rfl rfl hg1 rfl ((if_pos rfl)) rfl (by first | (simp [Value.cells, Value.oneCell']; done) | simp [Value.cells, Value.oneCell', putL]) (by first | exact Nat.le_of_ble_eq_true rfl | (simp; done) | (simp; omega) | omega) ?_
 rintro w2 hg2 hax2
 refine ⟨trivial, ?_⟩
 refine RL.done ?_
 obtain ⟨B2, x0, hg2', hB2⟩ : ∃ B x, Good w2 s (B :: A :: os) ∧ B p = some (.cells #[.int .u64 x] 221 (0, 0)) := ⟨_, _, hg2, put_same _ _ _⟩
 refine CW.seq (CW.plain ?_)
 refine RL.pu ?_
 refine RL.callV rfl rfl rfl rfl rfl ca202 (nextPow_ct (n := L) hg2' (by omega) (by omega)) ?_
 rintro v3 w3 hg3 hax3 rfl
 refine ⟨trivial, ?_⟩
 refine RL.pd ?_
 refine CW.seq (CW.plain ?_)
 refine RL.pp ?_
 refine RL.quo rfl rfl rfl rfl rfl rfl ((by omega)) ((by decide)) ((by simp only [rng]; omega)) ?_
 refine RL.mul rfl rfl rfl rfl rfl rfl ((by simp only [rng]; omega)) ?_
 refine RL.add rfl rfl rfl rfl rfl rfl ((by simp only [rng]; omega)) ?_
 refine RL.sub rfl rfl rfl rfl rfl rfl ((by simp only [rng]; omega)) ?_
 refine RL.pd ?_
 refine CW.block (CW.loop (σ := Nat) (fun k E w' => ∃ A' B' dk x i, Good w' s (B' :: A' :: os) ∧ Aux w w' ∧ B' p = some (.cells #[.int .u64 x] 221 (0, 0)) ∧ RowAt A' g rest dk ∧ PermIn a b d dk ∧ i + k = a + L / 4 * 2 + 2 ∧ k ≤ 3 ∧ E = [(0, .slice (some ⟨g, 0, none⟩) n c), (1, i64 a), (6, i64 (L : Nat)), (7, ptr p), (8, .int .u64 ((2 ^ Go.Sort.bitsLen L : Nat) : Int)), (9, i64 (i : Nat))])
  (fun k => k) 3 [(0, .slice (some ⟨g, 0, none⟩) n c), (1, i64 a), (6, i64 (L : Nat)), (7, ptr p), (8, .int .u64 ((2 ^ Go.Sort.bitsLen L : Nat) : Int)), (9, i64 ((a + L / 4 * 2 - 1 : Nat) : Int))] ⟨rfl, rfl, rfl, rfl, rfl, congrArg (fun z => some (i64 z)) (by omega), trivial⟩
  ⟨A, B2, d, x0, a + L / 4 * 2 - 1, hg3, hax1.trans (hax2.trans hax3), hB2, hrow, Go.Sort.permIn_refl _ _ _, by omega, Nat.le_refl _, rfl⟩ ?_)
 rintro k E w4 ⟨A4, B4, d4, x4, i, hg4, hax4, hB4, hrow4, hperm, hik, hk3, rfl⟩
 have hn4 : d4.size = n := by rw [hperm.1]; exact hn
 refine CW.seq (CW.seq (CW.plain ?_))
 refine RL.pp ?_
 refine RL.pu ?_
 refine RL.quo rfl rfl rfl rfl rfl rfl ((by omega)) ((by decide)) ((by simp only [rng]; omega)) ?_
 refine RL.mul rfl rfl rfl rfl rfl rfl ((by simp only [rng]; omega)) ?_
 refine RL.add rfl rfl rfl rfl rfl rfl ((by simp only [rng]; omega)) ?_
 refine RL.add rfl rfl rfl rfl rfl rfl ((by simp only [rng]; omega)) ?_
 refine RL.pd ?_
 refine CW.test rfl (fun hi => ?_) (fun hi => ?_)
 ·
  refine CW.skip ?_
  refine CW.meet (fun E' w' => ∃ A' B' dk x, Good w' s (B' :: A' :: os) ∧ Aux w w' ∧ B' p = some (.cells #[.int .u64 x] 221 (0, 0)) ∧ RowAt A' g rest dk ∧ PermIn a b d dk ∧ E' = [(0, .slice (some ⟨g, 0, none⟩) n c), (1, i64 a), (6, i64 (L : Nat)), (7, ptr p), (8, .int .u64 ((2 ^ Go.Sort.bitsLen L : Nat) : Int)), (9, i64 (i : Nat))]) ?_ ?_
  rotate_left
  ·
   rintro E' w7 ⟨A7, B7, d7, x7, hg7, hax7, hB7, hrow7, hperm7, rfl⟩
   refine CW.plain ?_
   refine RL.pu ?_
   refine RL.add rfl rfl rfl rfl rfl rfl ((by simp only [rng]; omega)) ?_
   refine RL.pd ?_
   refine fun ac ha => ⟨k - 1, [(0, .slice (some ⟨g, 0, none⟩) n c), (1, i64 a), (6, i64 (L : Nat)), (7, ptr p), (8, .int .u64 ((2 ^ Go.Sort.bitsLen L : Nat) : Int)), (9, i64 ((i + 1 : Nat) : Int))], ha.sub ⟨rfl, rfl, rfl, rfl, rfl, rfl, trivial⟩, ⟨A7, B7, d7, x7, i + 1, hg7, hax7, hB7, hrow7, hperm7, by omega, by omega, rfl⟩, by omega⟩
  refine CW.block (CW.seq (CW.plain ?_))
  refine RL.call rfl rfl rfl rfl rfl ca203 (Next_ct hg4 hB4) ?_
  rintro v5 s5 B5 w5 hle5 hg5 hax5 ⟨rfl, y, hy, rfl, hB5⟩
  refine ⟨trivial, ?_⟩
  refine RL.pu ?_
  refine RL.sub rfl rfl rfl rfl rfl rfl ((by simp only [rng]; omega)) ?_
  refine RL.pu ?_
  obtain ⟨hz0, hz1⟩ := and_le y (((2 ^ Go.Sort.bitsLen L : Nat) : Int) - 1) (by omega) (by omega)
  generalize IntKind.u64.wrap ((BitVec.ofInt IntKind.u64.bits y &&& BitVec.ofInt IntKind.u64.bits (((2 ^ Go.Sort.bitsLen L : Nat) : Int) - 1)).toNat) = z at *
  refine RL.conv rfl rfl rfl rfl Tryz.underlying200 Tryz.underlying3 rfl ((by simp only [rng]; omega)) ?_
  refine RL.pd ?_
  refine CW.meet (fun E' w' => ∃ q : Nat, q < L ∧ w' = w5 ∧ E' = [(0, .slice (some ⟨g, 0, none⟩) n c), (1, i64 a), (6, i64 (L : Nat)), (7, ptr p), (8, .int .u64 ((2 ^ Go.Sort.bitsLen L : Nat) : Int)), (9, i64 (i : Nat)), (10, i64 (q : Nat))]) ?_ ?_
  ·
   refine CW.seq (CW.plain ?_)
   refine RL.pp ?_
   refine RL.pd ?_
   refine CW.test rfl (fun hq => ?_) (fun hq => ?_)
   ·
    refine CW.plain ?_
    refine RL.pp ?_
    refine RL.sub rfl rfl rfl rfl rfl rfl ((by simp only [rng]; omega)) ?_
    refine RL.pd ?_
    refine fun ac ha => ⟨[(0, .slice (some ⟨g, 0, none⟩) n c), (1, i64 a), (6, i64 (L : Nat)), (7, ptr p), (8, .int .u64 ((2 ^ Go.Sort.bitsLen L : Nat) : Int)), (9, i64 (i : Nat)), (10, i64 (((z - L).toNat : Nat) : Int))], ha.sub ⟨rfl, rfl, rfl, rfl, rfl, rfl, congrArg (fun z => some (i64 z)) (by omega), trivial⟩, (z - L).toNat, by omega, rfl, rfl⟩
   ·
    refine CW.skip (fun ac ha => ⟨[(0, .slice (some ⟨g, 0, none⟩) n c), (1, i64 a), (6, i64 (L : Nat)), (7, ptr p), (8, .int .u64 ((2 ^ Go.Sort.bitsLen L : Nat) : Int)), (9, i64 (i : Nat)), (10, i64 ((z.toNat : Nat) : Int))], ha.sub ⟨rfl, rfl, rfl, rfl, rfl, rfl, congrArg (fun z => some (i64 z)) (by omega), trivial⟩, z.toNat, by omega, rfl, rfl⟩)
  rintro E' w6 ⟨q, hq, rfl, rfl⟩
  have hg := hg5.swap
  have hrow := hrow4
  have hn := hn4
  refine CW.forks (.fork [(true, 0), (true, 1), (true, 2), (true, 3), (true, 4), (true, 5), (true, 6), (true, 7), (true, 8), (true, 9), (true, 10), (true, 12), (true, 13), (true, 14)] (.line [(false, 11), (false, 15), (true, 16), (false, 17), (true, 18), (false, 19)]) (.line [(false, 15), (false, 11), (true, 16), (false, 17), (true, 18), (false, 19)])) (fun _ => True) mixed (by kernel_rfl) (by kernel_rfl) (by kernel_rfl) (by kernel_rfl) trivial ?_
  refine RT.pre trivial ?_
  refine RL.pp ?_
  refine RL.pp ?_
  refine RL.pu ?_
  refine RL.add rfl rfl rfl rfl rfl rfl (by simp only [rng] at *; omega) ?_
  refine RL.pp ?_
  refine RL.pu ?_
  refine RL.add rfl rfl rfl rfl rfl rfl (by simp only [rng] at *; omega) ?_
  refine RL.idxR (a + q) rfl rfl rfl rfl sl83 rfl rfl (by omega) (by omega) ?_
  refine RL.pp ?_
  refine RL.idxR (i) rfl rfl rfl rfl sl83 rfl rfl (by omega) (by omega) ?_
  refine RL.done ?_
  refine RT.both (S := fun _ => True) trivial (RT.end_ (S := fun _ => True) trivial ?_) (RT.end_ (S := fun _ => True) trivial ?_)
  ·
   refine RL.loadR (a + q) rfl rfl rfl rfl ty22 rfl hrow hg.drew.1 (by omega) ?_
   refine RL.loadR (i) rfl rfl rfl rfl ty22 rfl hrow hg.drew.1 (by omega) ?_
   refine RL.idxR (i) rfl rfl rfl rfl sl83 rfl rfl (by omega) (by omega) ?_
   refine RL.storeR (i) rfl rfl rfl ty22 rfl rfl hg.drew hrow (by omega) ?_
   intro ws1 As1 hgs1 haxs1 hrows1
   refine ⟨trivial, ?_⟩
   refine RL.idxR (a + q) rfl rfl rfl rfl sl83 rfl rfl (by omega) (by omega) ?_
   refine RL.storeR (a + q) rfl rfl rfl ty22 rfl rfl hgs1 hrows1 (by simp; omega) ?_
   intro ws2 As2 hgs2 haxs2 hrows2
   refine ⟨trivial, ?_⟩
   refine RL.done ?_
   exact fun ac ha => ⟨_, ha.sub (E' := [(0, .slice (some ⟨g, 0, none⟩) n c), (1, i64 a), (6, i64 (L : Nat)), (7, ptr p), (8, .int .u64 ((2 ^ Go.Sort.bitsLen L : Nat) : Int)), (9, i64 (i : Nat))]) ⟨rfl, rfl, rfl, rfl, rfl, rfl, trivial⟩, As2, B5, _, y, hgs2.swap, hax4.trans (hax5.trans ((Aux.drew _).trans (haxs1.trans haxs2))), hB5, hrows2, Go.Sort.permIn_trans _ _ _ a b hperm (Go.Sort.swp_permIn _ a b _ _ (by omega) (by omega) (by omega) (by omega) (by omega)), rfl⟩
  ·
   refine RL.loadR (i) rfl rfl rfl rfl ty22 rfl hrow hg.drew.1 (by omega) ?_
   refine RL.loadR (a + q) rfl rfl rfl rfl ty22 rfl hrow hg.drew.1 (by omega) ?_
   refine RL.idxR (i) rfl rfl rfl rfl sl83 rfl rfl (by omega) (by omega) ?_
   refine RL.storeR (i) rfl rfl rfl ty22 rfl rfl hg.drew hrow (by omega) ?_
   intro ws1 As1 hgs1 haxs1 hrows1
   refine ⟨trivial, ?_⟩
   refine RL.idxR (a + q) rfl rfl rfl rfl sl83 rfl rfl (by omega) (by omega) ?_
   refine RL.storeR (a + q) rfl rfl rfl ty22 rfl rfl hgs1 hrows1 (by simp; omega) ?_
   intro ws2 As2 hgs2 haxs2 hrows2
   refine ⟨trivial, ?_⟩
   refine RL.done ?_
   exact fun ac ha => ⟨_, ha.sub (E' := [(0, .slice (some ⟨g, 0, none⟩) n c), (1, i64 a), (6, i64 (L : Nat)), (7, ptr p), (8, .int .u64 ((2 ^ Go.Sort.bitsLen L : Nat) : Int)), (9, i64 (i : Nat))]) ⟨rfl, rfl, rfl, rfl, rfl, rfl, trivial⟩, As2, B5, _, y, hgs2.swap, hax4.trans (hax5.trans ((Aux.drew _).trans (haxs1.trans haxs2))), hB5, hrows2, Go.Sort.permIn_trans _ _ _ a b hperm (Go.Sort.swp_permIn _ a b _ _ (by omega) (by omega) (by omega) (by omega) (by omega)), rfl⟩
 ·
  refine CW.exit ?_
  refine fall (vs := []) rfl (Post.mk (Le.refl _) hg4.drop hax4 ⟨rfl, rfl, d4, hperm, hrow4⟩)
end Go.Lw

/-
 The sort's choice of a pivot: which one is left open; it lies in the part.
-/
namespace Go.Lw
open Go.Proofs
abbrev Cnt (B : Res) (p : Nat) (k : Int) : Prop := B p = some (.cells #[i64 k] 3 (0, 0))
set_option maxRecDepth 100000 in
theorem order2_ct {w : World} {s A B : Res} {os : List Res} {g n c x y p : Nat} {k : Int} {rest : List Value} {d : Array Int} (hg : Good w s (B :: A :: os)) (hrow : RowAt A g rest d) (hB : Cnt B p k) (hn : d.size = n) (hx : x < n) (hy : y < n) (hk0 : 0 ≤ k) (hk : k < 1000) :
  Calls Tryz.prog 211 #[.slice (some ⟨g, 0, none⟩) n c, i64 x, i64 y, ptr p] w (Post w s (A :: os) fun s' B' r => s' = s ∧ ∃ k', k ≤ k' ∧ k' ≤ k + 1 ∧ Cnt B' p k' ∧ (r = .tuple #[i64 x, i64 y] ∨ r = .tuple #[i64 y, i64 x])) := by
 refine enter (l := [.slice (some ⟨g, 0, none⟩) n c, i64 x, i64 y, ptr p]) Tryz.func211 rfl Tryz.ntmps211 rfl ?_
 refine CW.seq (CW.plain ?_)
 refine RL.pu ?_
 refine RL.pd ?_
 refine CW.seq (CW.seq ?_)
 refine CW.draws [(true, 0), (true, 1), (true, 2), (true, 3), (true, 4), (true, 5), (true, 6), (true, 7), (false, 8)] (fun w' => Good w' s (B :: A :: os)) mixed (by kernel_rfl) (by kernel_rfl) (by kernel_rfl) (by kernel_rfl) hg.drew ?_
 refine RL.pp ?_
 refine RL.idxR y rfl rfl rfl rfl sl83 rfl rfl rfl (by omega) ?_
 refine RL.loadRT y rfl rfl rfl rfl ty22 rfl hrow (fun w h => h.drop.1) (by omega) ?_
 refine RL.pp ?_
 refine RL.idxR x rfl rfl rfl rfl sl83 rfl rfl rfl (by omega) ?_
 refine RL.loadRT x rfl rfl rfl rfl ty22 rfl hrow (fun w h => h.drop.1) (by omega) ?_
 refine RL.callV rfl rfl rfl rfl rfl ca197 (Less_ct hg.drew) ?_
 rintro v w1 hg1 hax1 rfl
 refine ⟨hg1, ?_⟩
 refine RL.done ?_
 have hax := (Aux.drew w).trans hax1
 refine CW.cond rfl (fun hl => ?_) (fun hl => ?_)
 ·
  refine CW.seq (CW.plain ?_)
  refine RL.pp ?_
  refine RL.load (j := 0) rfl rfl rfl rfl ty3 rfl (Holds.of hB) (hg1.1) rfl ?_
  refine RL.add rfl rfl rfl rfl rfl rfl ((by simp only [rng]; omega)) ?_
  refine RL.pu ?_
  refine RL.store (i := 0) (j := 0) rfl rfl rfl ty3 rfl rfl hg1 rfl (hB) rfl (by first | (simp [Value.cells, Value.oneCell']; done) | simp [Value.cells, Value.oneCell', putL]) (by first | exact Nat.le_of_ble_eq_true rfl | (simp; done) | (simp; omega) | omega) ?_
  rintro w2 hg2 hax2
  refine ⟨trivial, ?_⟩
  refine RL.done ?_
  refine CW.seq (CW.plain ?_)
  refine RL.pp ?_
  refine RL.pu ?_
  refine RL.pd ?_
  exact CW.ret (ret (vs := [_, _]) ⟨_, _, rfl, rfl, _, _, rfl, rfl, rfl⟩ (Post.mk (Le.refl _) hg2 (hax.trans hax2) ⟨rfl, k + 1, by omega, by omega, put_same _ _ _, .inr rfl⟩))
 ·
  refine CW.skip ?_
  refine CW.seq (CW.plain ?_)
  refine RL.pp ?_
  refine RL.pu ?_
  refine RL.pd ?_
  exact CW.ret (ret (vs := [_, _]) ⟨_, _, rfl, rfl, _, _, rfl, rfl, rfl⟩ (Post.mk (Le.refl _) hg1 hax ⟨rfl, k, by omega, by omega, hB, .inl rfl⟩))
theorem order2_ct' {w : World} {s A B : Res} {os : List Res} {g n c x y p : Nat} {k : Int} {rest : List Value} {d : Array Int} (hg : Good w s (B :: A :: os)) (hrow : RowAt A g rest d) (hB : Cnt B p k) (hn : d.size = n) (hx : x < n) (hy : y < n) (hk0 : 0 ≤ k) (hk : k < 1000) :
  Calls Tryz.prog 211 #[.slice (some ⟨g, 0, none⟩) n c, i64 x, i64 y, ptr p] w (Post w s (A :: os) fun s' B' r => s' = s ∧ ∃ k', k ≤ k' ∧ k' ≤ k + 1 ∧ Cnt B' p k' ∧ ∃ u v : Nat, r = .tuple #[i64 u, i64 v] ∧ (u = x ∧ v = y ∨ u = y ∧ v = x)) := by
 refine (order2_ct hg hrow hB hn hx hy hk0 hk).mono ?_
 rintro e w' ⟨r, s', A', he, hle, hg', hax, hs, k', h1, h2, h3, h4⟩
 refine ⟨r, s', A', he, hle, hg', hax, hs, k', h1, h2, h3, ?_⟩
 rcases h4 with rfl | rfl
 ·
  exact ⟨x, y, rfl, .inl ⟨rfl, rfl⟩⟩
 ·
  exact ⟨y, x, rfl, .inr ⟨rfl, rfl⟩⟩
set_option maxRecDepth 100000 in
theorem median_ct {w : World} {s A B : Res} {os : List Res} {g n c x y z p : Nat} {k : Int} {rest : List Value} {d : Array Int} (hg : Good w s (B :: A :: os)) (hrow : RowAt A g rest d) (hB : Cnt B p k) (hn : d.size = n) (hx : x < n) (hy : y < n) (hz : z < n) (hk0 : 0 ≤ k) (hk : k < 900) :
  Calls Tryz.prog 208 #[.slice (some ⟨g, 0, none⟩) n c, i64 x, i64 y, i64 z, ptr p] w (Post w s (A :: os) fun s' B' r => s' = s ∧ ∃ k', k ≤ k' ∧ k' ≤ k + 3 ∧ Cnt B' p k' ∧ ∃ u : Nat, r = i64 u ∧ (u = x ∨ u = y ∨ u = z)) := by
 refine enter (l := [.slice (some ⟨g, 0, none⟩) n c, i64 x, i64 y, i64 z, ptr p]) Tryz.func208 rfl Tryz.ntmps208 rfl ?_
 refine CW.seq (CW.plain ?_)
 refine RL.pd ?_
 refine CW.seq (CW.plain ?_)
 refine RL.pp ?_
 refine RL.pp ?_
 refine RL.call rfl rfl rfl rfl rfl ca211 (order2_ct' hg hrow hB hn hx hy hk0 (by omega)) ?_
 rintro v1 s1 B1 w1 hle1 hg1 hax1 ⟨rfl, k1, hk1, hk1', hB1, u1, u2, rfl, hu⟩
 refine ⟨trivial, ?_⟩
 refine RL.pp ?_
 refine RL.pp ?_
 refine RL.pd ?_
 refine CW.seq (CW.plain ?_)
 refine RL.pp ?_
 refine RL.pp ?_
 refine RL.call rfl rfl rfl rfl rfl ca211 (order2_ct' (x := u2) (y := z) hg1 hrow hB1 hn (by omega) (by omega) (by omega) (by omega)) ?_
 rintro v2 s2 B2 w2 hle2 hg2 hax2 ⟨rfl, k2, hk2, hk2', hB2, u3, u4, rfl, hu2⟩
 refine ⟨trivial, ?_⟩
 refine RL.pp ?_
 refine RL.pp ?_
 refine RL.pd ?_
 refine CW.seq (CW.plain ?_)
 refine RL.pp ?_
 refine RL.pp ?_
 refine RL.call rfl rfl rfl rfl rfl ca211 (order2_ct' (x := u1) (y := u3) hg2 hrow hB2 hn (by omega) (by omega) (by omega) (by omega)) ?_
 rintro v3 s3 B3 w3 hle3 hg3 hax3 ⟨rfl, k3, hk3, hk3', hB3, u5, u6, rfl, hu3⟩
 refine ⟨trivial, ?_⟩
 refine RL.pp ?_
 refine RL.pp ?_
 refine RL.pd ?_
 refine CW.seq (CW.plain ?_)
 refine RL.pu ?_
 refine RL.pd ?_
 exact CW.ret (ret (vs := [_]) ⟨_, _, rfl, rfl, rfl⟩ (Post.mk (Le.refl _) hg3 (hax1.trans (hax2.trans hax3)) ⟨rfl, k3, by omega, by omega, hB3, u6, rfl, by omega⟩))
set_option maxRecDepth 100000 in
theorem medianAdj_ct {w : World} {s A B : Res} {os : List Res} {g n c x p : Nat} {k : Int} {rest : List Value} {d : Array Int} (hg : Good w s (B :: A :: os)) (hrow : RowAt A g rest d) (hB : Cnt B p k) (hn : d.size = n) (h0 : 0 < x) (hx : x + 1 < n) (hk0 : 0 ≤ k) (hk : k < 900) (hsz : n < 2305843009213693952) :
  Calls Tryz.prog 207 #[.slice (some ⟨g, 0, none⟩) n c, i64 x, ptr p] w (Post w s (A :: os) fun s' B' r => s' = s ∧ ∃ k', k ≤ k' ∧ k' ≤ k + 3 ∧ Cnt B' p k' ∧ ∃ u : Nat, r = i64 u ∧ x ≤ u + 1 ∧ u ≤ x + 1) := by
 refine enter (l := [.slice (some ⟨g, 0, none⟩) n c, i64 x, ptr p]) Tryz.func207 rfl Tryz.ntmps207 rfl ?_
 refine CW.seq (CW.plain ?_)
 refine RL.pd ?_
 refine CW.seq (CW.plain ?_)
 refine RL.pp ?_
 refine RL.sub rfl rfl rfl rfl rfl rfl ((by simp only [rng]; omega)) ?_
 refine RL.pp ?_
 refine RL.add rfl rfl rfl rfl rfl rfl ((by simp only [rng]; omega)) ?_
 refine RL.pu ?_
 have e1 : ((x : Int) - 1) = ((x - 1 : Nat) : Int) := by omega
 have e2 : ((x : Int) + 1) = ((x + 1 : Nat) : Int) := by omega
 rw [e1, e2]
 refine RL.call rfl rfl rfl rfl rfl ca208 (median_ct (x := x - 1) (y := x) (z := x + 1) hg hrow hB hn (by omega) (by omega) (by omega) hk0 hk) ?_
 rintro v1 s1 B1 w1 hle1 hg1 hax1 ⟨rfl, k1, hk1, hk1', hB1, u, rfl, hu⟩
 refine ⟨trivial, ?_⟩
 refine RL.pd ?_
 exact CW.ret (ret (vs := [_]) ⟨_, _, rfl, rfl, rfl⟩ (Post.mk (Le.refl _) hg1 hax1 ⟨rfl, k1, hk1, hk1', hB1, u, rfl, by omega, by omega⟩))
set_option maxHeartbeats 1000000 in
set_option maxRecDepth 100000 in
theorem choosePivot_ct {w : World} {s A : Res} {os : List Res} {g n c a b : Nat} {rest : List Value} {d : Array Int} (hg : Good w s (A :: os)) (hrow : RowAt A g rest d) (hn : d.size = n) (hb : b ≤ n) (hab : a + 8 ≤ b) (hsz : n < 2305843009213693952) :
  Calls Tryz.prog 194 #[.slice (some ⟨g, 0, none⟩) n c, i64 a, i64 b] w (PostV w s (A :: os) fun r => ∃ (q h : Nat), r = .tuple #[i64 q, i64 h] ∧ a ≤ q ∧ q < b ∧ h ≤ 2) := by
 obtain ⟨L, hL⟩ : ∃ L, L = b - a := ⟨_, rfl⟩
 refine enter (l := [.slice (some ⟨g, 0, none⟩) n c, i64 a, i64 b]) Tryz.func194 rfl Tryz.ntmps194 rfl ?_
 refine CW.seq (CW.plain ?_)
 refine RL.pu ?_
 refine RL.pd ?_
 refine CW.seq (CW.plain ?_)
 refine RL.pp ?_
 refine RL.sub rfl rfl rfl rfl rfl rfl ((by simp only [rng]; omega)) ?_
 refine RL.pd ?_
 have eL : ((b : Int) - (a : Int)) = (L : Int) := by omega
 rw [eL]
 refine CW.seq (CW.plain ?_)
 refine RL.alloc rfl rfl rfl rfl ze3 hg ?_
 rintro p w1 hg1 hax1
 refine ⟨trivial, ?_⟩
 refine RL.done ?_
 refine CW.seq (CW.plain ?_)
 refine RL.pp ?_
 refine RL.quo rfl rfl rfl rfl rfl rfl ((by omega)) ((by decide)) ((by simp only [rng]; omega)) ?_
 refine RL.mul rfl rfl rfl rfl rfl rfl ((by simp only [rng]; omega)) ?_
 refine RL.add rfl rfl rfl rfl rfl rfl ((by simp only [rng]; omega)) ?_
 refine RL.pd ?_
 refine CW.seq (CW.plain ?_)
 refine RL.pp ?_
 refine RL.quo rfl rfl rfl rfl rfl rfl ((by omega)) ((by decide)) ((by simp only [rng]; omega)) ?_
 refine RL.mul rfl rfl rfl rfl rfl rfl ((by simp only [rng]; omega)) ?_
 refine RL.add rfl rfl rfl rfl rfl rfl ((by simp only [rng]; omega)) ?_
 refine RL.pd ?_
 refine CW.seq (CW.plain ?_)
 refine RL.pp ?_
 refine RL.quo rfl rfl rfl rfl rfl rfl ((by omega)) ((by decide)) ((by simp only [rng]; omega)) ?_
 refine RL.mul rfl rfl rfl rfl rfl rfl ((by simp only [rng]; omega)) ?_
 refine RL.add rfl rfl rfl rfl rfl rfl ((by simp only [rng]; omega)) ?_
 refine RL.pd ?_
 obtain ⟨B0, hg0, hB0⟩ : ∃ B, Good w1 s (B :: A :: os) ∧ Cnt B p 0 := ⟨_, hg1, if_pos rfl⟩
 refine CW.meet (fun E' w' => ∃ (B : Res) (k : Int) (u : Nat), Good w' s (B :: A :: os) ∧ Aux w w' ∧ Cnt B p k ∧ a ≤ u ∧ u < b ∧ E' = [(9, ptr p), (11, i64 (u : Nat))]) ?_ ?_
 ·
  refine CW.seq (CW.plain ?_)
  refine RL.pu ?_
  refine RL.pd ?_
  refine CW.test rfl (fun h8 => ?_) (fun h8 => absurd (by omega) h8)
  refine CW.meet (fun E' w' => ∃ (B : Res) (k : Int) (x y z : Nat), Good w' s (B :: A :: os) ∧ Aux w w' ∧ Cnt B p k ∧ 0 ≤ k ∧ k ≤ 9 ∧ a ≤ x ∧ x < b ∧ a ≤ y ∧ y < b ∧ a ≤ z ∧ z < b ∧ E' = [(0, .slice (some ⟨g, 0, none⟩) n c), (9, ptr p), (10, i64 (x : Nat)), (11, i64 (y : Nat)), (12, i64 (z : Nat))]) ?_ ?_
  ·
   refine CW.seq (CW.plain ?_)
   refine RL.pu ?_
   refine RL.pd ?_
   refine CW.test rfl (fun h50 => ?_) (fun h50 => ?_)
   ·
    refine CW.less [(0, .slice (some ⟨g, 0, none⟩) n c), (9, ptr p), (10, i64 ((a + L / 4 * 1 : Nat) : Int)), (11, i64 ((a + L / 4 * 2 : Nat) : Int)), (12, i64 ((a + L / 4 * 3 : Nat) : Int))] ⟨rfl, rfl, congrArg (fun z => some (i64 z)) (by omega), congrArg (fun z => some (i64 z)) (by omega), congrArg (fun z => some (i64 z)) (by omega), trivial⟩ ?_
    refine CW.seq (CW.plain ?_)
    refine RL.pp ?_
    refine RL.call rfl rfl rfl rfl rfl ca207 (medianAdj_ct (x := a + L / 4 * 1) hg0 hrow hB0 hn (by omega) (by omega) (by omega) (by omega) hsz) ?_
    rintro v2 s2 B2 w2 hle2 hg2 hax2 ⟨rfl, k2, hk2, hk2', hB2, u2, rfl, hu2, hu2'⟩
    refine ⟨trivial, ?_⟩
    refine RL.pd ?_
    refine CW.seq (CW.plain ?_)
    refine RL.pp ?_
    refine RL.call rfl rfl rfl rfl rfl ca207 (medianAdj_ct (x := a + L / 4 * 2) hg2 hrow hB2 hn (by omega) (by omega) (by omega) (by omega) hsz) ?_
    rintro v3 s3 B3 w3 hle3 hg3 hax3 ⟨rfl, k3, hk3, hk3', hB3, u3, rfl, hu3, hu3'⟩
    refine ⟨trivial, ?_⟩
    refine RL.pd ?_
    refine CW.plain ?_
    refine RL.pp ?_
    refine RL.call rfl rfl rfl rfl rfl ca207 (medianAdj_ct (x := a + L / 4 * 3) hg3 hrow hB3 hn (by omega) (by omega) (by omega) (by omega) hsz) ?_
    rintro v4 s4 B4 w4 hle4 hg4 hax4 ⟨rfl, k4, hk4, hk4', hB4, u4, rfl, hu4, hu4'⟩
    refine ⟨trivial, ?_⟩
    refine RL.pd ?_
    exact fun ac ha => ⟨_, ha.sub (E' := [(0, .slice (some ⟨g, 0, none⟩) n c), (9, ptr p), (10, i64 (u2 : Nat)), (11, i64 (u3 : Nat)), (12, i64 (u4 : Nat))]) ⟨rfl, rfl, rfl, rfl, rfl, trivial⟩, B4, k4, u2, u3, u4, hg4, hax1.trans (hax2.trans (hax3.trans hax4)), hB4, by omega, by omega, by omega, by omega, by omega, by omega, by omega, by omega, rfl⟩
   ·
    exact CW.skip (fun ac ha => ⟨_, ha.sub (E' := [(0, .slice (some ⟨g, 0, none⟩) n c), (9, ptr p), (10, i64 ((a + L / 4 * 1 : Nat) : Int)), (11, i64 ((a + L / 4 * 2 : Nat) : Int)), (12, i64 ((a + L / 4 * 3 : Nat) : Int))]) ⟨rfl, rfl, congrArg (fun z => some (i64 z)) (by omega), congrArg (fun z => some (i64 z)) (by omega), congrArg (fun z => some (i64 z)) (by omega), trivial⟩, B0, 0, _, _, _, hg0, hax1, hB0, by omega, by omega, by omega, by omega, by omega, by omega, by omega, by omega, rfl⟩)
  ·
   rintro E' w5 ⟨B5, k5, x, y, z, hg5, hax5, hB5, hk50, hk59, hax', hxb, hay, hyb, haz, hzb, rfl⟩
   refine CW.plain ?_
   refine RL.pp ?_
   refine RL.pp ?_
   refine RL.call rfl rfl rfl rfl rfl ca208 (median_ct (x := x) (y := y) (z := z) hg5 hrow hB5 hn (by omega) (by omega) (by omega) hk50 (by omega)) ?_
   rintro v6 s6 B6 w6 hle6 hg6 hax6 ⟨rfl, k6, hk6, hk6', hB6, u6, rfl, hu6⟩
   refine ⟨trivial, ?_⟩
   refine RL.pd ?_
   exact fun ac ha => ⟨_, ha.sub (E' := [(9, ptr p), (11, i64 (u6 : Nat))]) ⟨rfl, rfl, trivial⟩, B6, k6, u6, hg6, hax5.trans hax6, hB6, by omega, by omega, rfl⟩
 rintro E' w7 ⟨B7, k7, u, hg7, hax7, hB7, hau, hub, rfl⟩
 refine CW.seq (CW.plain ?_)
 refine RL.load (j := 0) rfl rfl rfl rfl ty3 rfl (Holds.of hB7) (hg7.1) rfl ?_
 refine RL.done ?_
 refine CW.block (CW.seq (CW.plain ?_))
 refine RL.pu ?_
 refine RL.pd ?_
 refine CW.eq rfl (fun h0 => ?_) (fun h0 => ?_)
 ·
  refine CW.seq (CW.plain ?_)
  refine RL.pp ?_
  refine RL.pd ?_
  exact CW.ret (ret (vs := [_, _]) ⟨_, _, rfl, rfl, _, _, rfl, rfl, rfl⟩ (PostV.mk hg7.drop hax7 ⟨u, 1, rfl, hau, hub, by omega⟩))
 ·
  refine CW.seq (CW.plain ?_)
  refine RL.pu ?_
  refine RL.pd ?_
  refine CW.eq rfl (fun h12 => ?_) (fun h12 => ?_)
  ·
   refine CW.seq (CW.plain ?_)
   refine RL.pp ?_
   refine RL.pd ?_
   exact CW.ret (ret (vs := [_, _]) ⟨_, _, rfl, rfl, _, _, rfl, rfl, rfl⟩ (PostV.mk hg7.drop hax7 ⟨u, 2, rfl, hau, hub, by omega⟩))
  ·
   refine CW.seq (CW.plain ?_)
   refine RL.pp ?_
   refine RL.pd ?_
   exact CW.ret (ret (vs := [_, _]) ⟨_, _, rfl, rfl, _, _, rfl, rfl, rfl⟩ (PostV.mk hg7.drop hax7 ⟨u, 0, rfl, hau, hub, by omega⟩))
end Go.Lw
