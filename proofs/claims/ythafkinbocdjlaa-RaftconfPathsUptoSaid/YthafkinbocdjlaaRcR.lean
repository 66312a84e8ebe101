/-
  Configurations: a path's steps, by the program.
-/
import Derived.Test.YthafkinbocdjlaaRcP
namespace Go.Lw
open Go.Proofs
attribute [local irreducible] RL RA

theorem RChange.one : One RChange := fun _ vs x h v hv => by
  rw [h.1] at hv; simp at hv; rcases hv with rfl | rfl <;> rfl
/-- The steps of one kind, of the nodes up to m of which p holds. -/
def chs (k : Int) (p : Int → Bool) (m : Nat) : List Change := ((List.range m).filter fun i : Nat => p ((i : Int) + 1)).map fun i : Nat => ⟨k, (i : Int) + 1⟩
theorem chs_succ (k : Int) (p : Int → Bool) (m : Nat) : chs k p (m + 1) = chs k p m ++ if p ((m : Int) + 1) = true then [⟨k, (m : Int) + 1⟩] else [] := by
  unfold chs
  rw [List.range_succ, List.filter_append, List.map_append]
  congr 1
  by_cases h : p ((m : Int) + 1) = true
  · simp [h]
  · simp [h]
theorem chs_le (k : Int) (p : Int → Bool) (m : Nat) : (chs k p m).length ≤ m := by
  unfold chs
  rw [List.length_map]
  exact Nat.le_trans (List.length_filter_le _ _) (by simp)
def wayOf (x y : Conf) (p : Way) (n : Int) : Bool := p (decide (n ∈ x.voters)) (decide (n ∈ x.learners)) (decide (n ∈ y.voters)) (decide (n ∈ y.learners))
def pathL (x y : Conf) : List Change := chs 1 (wayOf x y addW) 7 ++ chs 2 (wayOf x y votesW) 7 ++ chs 3 (wayOf x y goesW) 7 ++ chs 1 (wayOf x y fallsW) 7
def pathP (x y : Conf) : List Change × Int := if checkP x ≠ 0 then ([], checkP x) else if checkP y ≠ 0 then ([], checkP y) else (pathL x y, 0)
theorem pathL_le (x y : Conf) : (pathL x y).length ≤ 28 := by
  simp only [pathL, List.length_append]
  have h1 := chs_le 1 (wayOf x y addW) 7
  have h2 := chs_le 2 (wayOf x y votesW) 7
  have h3 := chs_le 3 (wayOf x y goesW) 7
  have h4 := chs_le 1 (wayOf x y fallsW) 7
  omega

/-- The list that a function value grows: its cell, its row. -/
def Grown (s C L : Res) (p : Nat) (l : List Change) : Prop := ∃ a c, C p = some (.cells #[.slice a l.length c] 25 (0, 0)) ∧ Own RChange 2 33 s L a c l
def GrownPost (w : World) (s : Res) (os : List Res) (pl : Nat) (l : List Change) : Ending → World → Prop := fun e w' => e = .returned (.tuple #[]) ∧ ∃ C' L', Good w' s (C' :: L' :: os) ∧ Aux w w' ∧ Grown s C' L' pl l

set_option maxHeartbeats 1000000 in
set_option maxRecDepth 100000 in
theorem each_ct {w : World} {s C L : Res} {os : List Res} {uf ut : List Value} {x y : Conf} {l : List Change} {k : Int} {g pf pt pl : Nat} {cap : Array Value} {p : Way} (hg : Good w s (C :: L :: os)) (hl : Grown s C L pl l)
    (hF : Holds s ⟨pf, 0, none⟩ uf) (hcf : RConf s uf x) (hT : Holds s ⟨pt, 0, none⟩ ut) (hct : RConf s ut y) (hc : callable Try.prog g = true) (hp : TellsW Try.prog g cap s p) (hk : rng .i64 k) (hb : l.length ≤ 100) :
    Calls Try.prog 32 #[i64 k, .func (.func g) #[] cap, ptr pf, ptr pt, ptr pl] w
      (GrownPost w s os pl (l ++ chs k (wayOf x y p) 7)) := by
  have hcf0 := hcf
  have hct0 := hct
  obtain ⟨fa, fc, fb, fd, rfl, _, _⟩ := hcf
  obtain ⟨ta, tc, tb, td, rfl, _, _⟩ := hct
  have hone := RChange.one
  refine enter (l := [i64 k, .func (.func g) #[] cap, ptr pf, ptr pt, ptr pl]) Try.func32 rfl Try.ntmps32 rfl ?_
  refine CW.seq (CW.plain ?_)
  refine RL.pure rfl rfl rfl rfl ?_
  refine RL.done ?_
  refine CW.block (CW.loop (σ := Nat) (fun j E w' => ∃ C' L', ∃ m : Nat, E = [(0, i64 k), (1, .func (.func g) #[] cap), (2, ptr pf), (3, ptr pt), (4, ptr pl), (7, i64 ((m : Int) + 1))] ∧ Good w' s (C' :: L' :: os) ∧ Aux w w' ∧ Grown s C' L' pl (l ++ chs k (wayOf x y p) m) ∧ m + j = 7)
    (fun j => j) 7 [(0, i64 k), (1, .func (.func g) #[] cap), (2, ptr pf), (3, ptr pt), (4, ptr pl), (7, i64 1)] ⟨rfl, rfl, rfl, rfl, rfl, rfl, trivial⟩ ⟨C, L, 0, rfl, hg, Aux.refl _, by rw [show chs k (wayOf x y p) 0 = [] from rfl, List.append_nil]; exact hl, by omega⟩ ?_)
  rintro j E w1 ⟨C1, L1, m, rfl, hg1, hax1, hl1, hm⟩
  refine CW.seq (CW.seq (CW.plain ?_))
  refine RL.pure rfl rfl rfl rfl ?_
  refine RL.pure rfl rfl rfl rfl ?_
  refine RL.done ?_
  refine CW.test rfl (fun h => CW.skip ?_) (fun h => CW.exit ?_)
  · have hm7 : m < 7 := by omega
    have hgD := hg1.drew
    have hll := chs_le k (wayOf x y p) m
    refine CW.meet (fun E w' => ∃ C' L', E = [(0, i64 k), (1, .func (.func g) #[] cap), (2, ptr pf), (3, ptr pt), (4, ptr pl), (7, i64 ((m : Int) + 1))] ∧ Good w' s (C' :: L' :: os) ∧ Aux w w' ∧ Grown s C' L' pl (l ++ chs k (wayOf x y p) (m + 1))) ?_ ?_
    · refine CW.block (CW.seq ?_)
      refine CW.draws [(true, 0), (true, 1), (true, 2), (true, 4), (true, 5), (true, 8), (true, 9), (true, 11), (true, 12), (false, 3), (false, 6), (true, 7), (false, 10), (false, 13), (true, 14), (false, 15)] (fun w => In s w) mixed (by kernel_rfl) (by kernel_rfl) (by kernel_rfl) (by kernel_rfl) (hgD.sh) ?_
      refine RL.pure rfl rfl rfl rfl ?_
      refine RL.loadsT (j := 0) (us := [.slice fa x.voters.length fc, .slice fb x.learners.length fd]) rfl rfl rfl rfl ty24 rfl (hF) (fun w h => h) rfl rfl ?_
      refine RL.pure rfl rfl rfl rfl ?_
      refine RL.loadsT (j := 0) (us := [.slice fa x.voters.length fc, .slice fb x.learners.length fd]) rfl rfl rfl rfl ty24 rfl (hF) (fun w h => h) rfl rfl ?_
      refine RL.pure rfl rfl rfl rfl ?_
      refine RL.loadsT (j := 0) (us := [.slice ta y.voters.length tc, .slice tb y.learners.length td]) rfl rfl rfl rfl ty24 rfl (hT) (fun w h => h) rfl rfl ?_
      refine RL.pure rfl rfl rfl rfl ?_
      refine RL.loadsT (j := 0) (us := [.slice ta y.voters.length tc, .slice tb y.learners.length td]) rfl rfl rfl rfl ty24 rfl (hT) (fun w h => h) rfl rfl ?_
      refine RL.pure rfl rfl rfl rfl ?_
      refine RL.callV rfl rfl rfl rfl rfl ca20 (Votes_ct hgD hcf0) ?_
      rintro v2 w2 hg2 hax2 rfl
      refine ⟨hg2.sh, ?_⟩
      refine RL.callV rfl rfl rfl rfl rfl ca22 (Learns_ct hg2 hcf0) ?_
      rintro v3 w3 hg3 hax3 rfl
      refine ⟨hg3.sh, ?_⟩
      refine RL.build rfl rfl rfl rfl ze52 pl52 rfl rfl ?_
      refine RL.callV rfl rfl rfl rfl rfl ca20 (Votes_ct hg3 hct0) ?_
      rintro v4 w4 hg4 hax4 rfl
      refine ⟨hg4.sh, ?_⟩
      refine RL.callV rfl rfl rfl rfl rfl ca22 (Learns_ct hg4 hct0) ?_
      rintro v5 w5 hg5 hax5 rfl
      refine ⟨hg5.sh, ?_⟩
      refine RL.build rfl rfl rfl rfl ze52 pl52 rfl rfl ?_
      refine RL.callF rfl rfl rfl rfl rfl rfl hc (hp (decide ((m : Int) + 1 ∈ x.voters)) (decide ((m : Int) + 1 ∈ x.learners)) (decide ((m : Int) + 1 ∈ y.voters)) (decide ((m : Int) + 1 ∈ y.learners)) w5 s _ (Le.refl _) hg5) ?_
      rintro e w6 ⟨v6, rfl, hg6, hax6, rfl⟩
      refine ⟨_, rfl, hg6.sh, ?_⟩
      refine RL.done ?_
      have hx6 := hax1.trans ((Aux.drew _).trans (hax2.trans (hax3.trans (hax4.trans (hax5.trans hax6)))))
      have hsucc := chs_succ k (wayOf x y p) m
      refine CW.cond rfl (fun hy => ?_) (fun hy => CW.skip ?_)
      · rw [if_pos (show wayOf x y p ((m : Int) + 1) = true from hy)] at hsucc
        obtain ⟨a, c, hC, ho⟩ := hl1
        refine CW.plain ?_
        refine RL.load (j := 0) rfl rfl rfl rfl ty25 rfl (Holds.of hC) (hg6.1) rfl ?_
        refine RL.pure rfl rfl rfl rfl ?_
        refine RL.pure rfl rfl rfl rfl ?_
        refine RL.build rfl rfl rfl rfl ze33 pl33 rfl rfl ?_
        refine RL.buildSlice rfl rfl rfl rfl sl25 ze33 rfl rfl rfl rfl hg6 ?_
        rintro b7 w7 hg7 hax7
        refine ⟨trivial, ?_⟩
        refine RL.append (i := 2) (ys := [⟨k, (m : Int) + 1⟩]) rfl rfl rfl rfl sl25 ze33 rfl (by first | exact RInt.one _ | exact RStr.one | exact RBool.one | assumption) rfl rfl hg7 rfl ho ((Src.slice sl25 rfl (.inr ⟨_, rfl, Holds.one b7 _ 33⟩) hg7.1)) ((Chunks.single rfl ⟨rfl, hk, by simp only [rng]; omega⟩)) ((by simp; omega)) (by omega) ?_
        rintro a8 c8 L8 w8 hg8 ho8 hax8 hk8
        refine ⟨trivial, ?_⟩
        refine RL.store (i := 1) (j := 0) rfl rfl rfl ty25 rfl rfl hg8 rfl (hC) rfl (by first | (simp [Value.cells, Value.oneCell']; done) | simp [Value.cells, Value.oneCell', putL]) (by first | exact Nat.le_of_ble_eq_true rfl | (simp; done) | (simp; omega) | omega) ?_
        rintro w9 hg9 hax9
        refine ⟨trivial, ?_⟩
        refine RL.done ?_
        exact fun ac ha => ⟨[(0, i64 k), (1, .func (.func g) #[] cap), (2, ptr pf), (3, ptr pt), (4, ptr pl), (7, i64 ((m : Int) + 1))], ha.sub ⟨rfl, rfl, rfl, rfl, rfl, rfl, trivial⟩, _, L8, rfl, hg9.drop, hx6.trans (hax7.trans (hax8.trans hax9)), a8, c8, by rw [hsucc, ← List.append_assoc]; exact put_same _ _ _, by rw [hsucc, ← List.append_assoc]; exact ho8⟩
      · rw [if_neg (by rw [show wayOf x y p ((m : Int) + 1) = false from hy]; decide), List.append_nil] at hsucc
        exact fun ac ha => ⟨[(0, i64 k), (1, .func (.func g) #[] cap), (2, ptr pf), (3, ptr pt), (4, ptr pl), (7, i64 ((m : Int) + 1))], ha.sub ⟨rfl, rfl, rfl, rfl, rfl, rfl, trivial⟩, C1, L1, rfl, hg6, hx6, by rw [hsucc]; exact hl1⟩
    rintro E w2 ⟨C2, L2, rfl, hg2, hax2, hl2⟩
    refine CW.plain ?_
    refine RL.pure rfl rfl rfl rfl ?_
    refine RL.add rfl rfl rfl rfl rfl rfl (by simp only [rng] at *; omega) ?_
    refine RL.pure rfl rfl rfl rfl ?_
    refine RL.done ?_
    cases j with
    | zero => omega
    | succ j => exact fun ac ha => ⟨j, [(0, i64 k), (1, .func (.func g) #[] cap), (2, ptr pf), (3, ptr pt), (4, ptr pl), (7, i64 (((m + 1 : Nat) : Int) + 1))], ha.sub ⟨rfl, rfl, rfl, rfl, rfl, rfl, trivial⟩, ⟨C2, L2, m + 1, rfl, hg2, hax2, hl2, by omega⟩, Nat.lt_succ_self j⟩
  · have hm7 : m = 7 := by omega
    rw [hm7] at hl1
    exact fall (vs := []) rfl (R := GrownPost w s os pl (l ++ chs k (wayOf x y p) 7)) ⟨rfl, C1, L1, hg1, hax1, hl1⟩
end Go.Lw
