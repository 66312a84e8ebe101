/-
  The sort's partitions, walked.
-/
import Derived.Test.YtdleejgghbpbmaaSortB
namespace Go.Lw
open Go.Proofs
open Go.Sort (swp size_swp)

theorem scanUp_step {p : Int → Bool} {d : Array Int} {j i : Nat} (h : i ≤ j) (hp : p d[i]! = true) : Go.Sort.scanUp p d j i = Go.Sort.scanUp p d j (i + 1) := by
  rw [Go.Sort.scanUp, if_pos (by simp [h, hp])]
theorem scanUp_end {p : Int → Bool} {d : Array Int} {j i : Nat} (h : ¬ i ≤ j ∨ p d[i]! = false) : Go.Sort.scanUp p d j i = i := by
  rw [Go.Sort.scanUp, if_neg]
  rcases h with h | h
  · simp [h]
  · simp [h]
theorem scanDown_step {p : Int → Bool} {d : Array Int} {j i : Nat} (h : i ≤ j) (hi : 1 ≤ i) (hp : p d[j]! = true) : Go.Sort.scanDown p d i j = Go.Sort.scanDown p d i (j - 1) := by
  obtain ⟨j, rfl⟩ : ∃ m, j = m + 1 := ⟨j - 1, by omega⟩
  rw [Go.Sort.scanDown, if_pos (by simp [h, hp])]
  rfl
theorem scanDown_end {p : Int → Bool} {d : Array Int} {j i : Nat} (h : ¬ i ≤ j ∨ p d[j]! = false) : Go.Sort.scanDown p d i j = j := by
  cases j with
  | zero => rfl
  | succ j =>
    rw [Go.Sort.scanDown, if_neg]
    rcases h with h | h
    · simp [h]
    · simp [h]
theorem part_eq {a i j : Nat} {d : Array Int} {i2 j2 : Nat} (h1 : Go.Sort.scanUp (fun x => ltI x d[a]!) d j i = i2) (h2 : Go.Sort.scanDown (fun x => !ltI x d[a]!) d i2 j = j2) (hi : i ≤ i2) (hj : j2 ≤ j) :
    Go.Sort.partLoop ltI a i j d = if i2 > j2 then (j2, d) else Go.Sort.partLoop ltI a (i2 + 1) (j2 - 1) (swp d i2 j2) := by
  conv => lhs; rw [Go.Sort.partLoop]
  simp only [h1, h2]
  by_cases hc : i2 > j2
  · rw [if_pos hc, if_pos hc]
  · rw [if_neg hc, if_neg hc, dif_pos (by omega)]
theorem partEq_eq {a i j : Nat} {d : Array Int} {i2 j2 : Nat} (h1 : Go.Sort.scanUp (fun x => !ltI d[a]! x) d j i = i2) (h2 : Go.Sort.scanDown (fun x => ltI d[a]! x) d i2 j = j2) (hi : i ≤ i2) (hj : j2 ≤ j) :
    Go.Sort.partEqLoop ltI a i j d = if i2 > j2 then (i2, d) else Go.Sort.partEqLoop ltI a (i2 + 1) (j2 - 1) (swp d i2 j2) := by
  conv => lhs; rw [Go.Sort.partEqLoop]
  simp only [h1, h2]
  by_cases hc : i2 > j2
  · rw [if_pos hc, if_pos hc]
  · rw [if_neg hc, if_neg hc, dif_pos (by omega)]

-- a scan upwards: F, RC (the test's region), its order of operations, RI (the step's region), t-names: guard tg, idx/load 1 (at M1), idx/load 2 (at M2), call tc with contract arguments; TI TJ: the slots of i and j

theorem partition_hit {d : Array Int} {a b pivot i j : Nat} (h1 : Go.Sort.scanUp (fun x => ltI x (swp d a pivot)[a]!) (swp d a pivot) (b - 1) (a + 1) = i) (h2 : Go.Sort.scanDown (fun x => !ltI x (swp d a pivot)[a]!) (swp d a pivot) i (b - 1) = j) (h : i > j) :
    Go.Sort.partition ltI d a b pivot = (j, true, swp (swp d a pivot) j a) := by
  simp only [Go.Sort.partition, h1, h2]
  rw [if_pos h]
theorem partition_miss {d : Array Int} {a b pivot i j : Nat} (h1 : Go.Sort.scanUp (fun x => ltI x (swp d a pivot)[a]!) (swp d a pivot) (b - 1) (a + 1) = i) (h2 : Go.Sort.scanDown (fun x => !ltI x (swp d a pivot)[a]!) (swp d a pivot) i (b - 1) = j) (h : ¬ i > j) :
    Go.Sort.partition ltI d a b pivot = ((Go.Sort.partLoop ltI a (i + 1) (j - 1) (swp (swp d a pivot) i j)).1, false, swp (Go.Sort.partLoop ltI a (i + 1) (j - 1) (swp (swp d a pivot) i j)).2 (Go.Sort.partLoop ltI a (i + 1) (j - 1) (swp (swp d a pivot) i j)).1 a) := by
  simp only [Go.Sort.partition, h1, h2]
  rw [if_neg h]

set_option maxHeartbeats 1000000 in
set_option maxRecDepth 100000 in
theorem partition_ct {w : World} {s A : Res} {os : List Res} {g n c a b pivot : Nat} {rest : List Value} {d : Array Int} (hg : Good w s (A :: os)) (hrow : RowAt A g rest d) (hn : d.size = n) (hb : b ≤ n) (hap : a ≤ pivot) (hpb : pivot < b) (hsz : n < 2305843009213693952) :
    Calls Try.prog 50 #[.slice (some ⟨g, 0, none⟩) n c, i64 a, i64 b, i64 pivot] w
      (Post w s os fun s' A' r => s' = s ∧ r = .tuple #[i64 ((Go.Sort.partition ltI d a b pivot).1 : Nat), .bool (Go.Sort.partition ltI d a b pivot).2.1] ∧ RowAt A' g rest (Go.Sort.partition ltI d a b pivot).2.2) := by
  refine enter (l := [.slice (some ⟨g, 0, none⟩) n c, i64 a, i64 b, i64 pivot]) Try.func50 rfl Try.ntmps50 rfl ?_
  refine CW.seq (CW.plain ?_)
  refine RL.pure rfl rfl rfl rfl ?_
  refine RL.pure rfl rfl rfl rfl ?_
  refine RL.done ?_
  refine CW.meet (fun E' w' => ∃ A', Good w' s (A' :: os) ∧ Aux w w' ∧ RowAt A' g rest (swp d a pivot) ∧ E' = [(0, .slice (some ⟨g, 0, none⟩) n c), (1, i64 a), (2, i64 b)]) ?_ ?_
  · skip
    refine CW.forks (.fork [(true, 0), (true, 1), (true, 2), (true, 3), (true, 4), (true, 5), (true, 6), (true, 8), (true, 9), (true, 10)] (.line [(false, 7), (false, 11), (true, 12), (false, 13), (true, 14), (false, 15)]) (.line [(false, 11), (false, 7), (true, 12), (false, 13), (true, 14), (false, 15)])) (fun _ => True) mixed (by kernel_rfl) (by kernel_rfl) (by kernel_rfl) (by kernel_rfl) trivial ?_
    refine RT.pre trivial ?_
    refine RL.pure rfl rfl rfl rfl ?_
    refine RL.pure rfl rfl rfl rfl ?_
    refine RL.pure rfl rfl rfl rfl ?_
    refine RL.pure rfl rfl rfl rfl ?_
    refine RL.pure rfl rfl rfl rfl ?_
    refine RL.pure rfl rfl rfl rfl ?_
    refine RL.idxR (pivot) rfl rfl rfl rfl sl49 rfl rfl (by omega) (by omega) ?_
    refine RL.pure rfl rfl rfl rfl ?_
    refine RL.pure rfl rfl rfl rfl ?_
    refine RL.idxR (a) rfl rfl rfl rfl sl49 rfl rfl (by omega) (by omega) ?_
    refine RL.done ?_
    refine RT.both (S := fun _ => True) trivial (RT.end_ (S := fun _ => True) trivial ?_) (RT.end_ (S := fun _ => True) trivial ?_)
    · refine RL.loadR (pivot) rfl rfl rfl rfl ty33 rfl hrow hg.drew.1 (by omega) ?_
      refine RL.loadR (a) rfl rfl rfl rfl ty33 rfl hrow hg.drew.1 (by omega) ?_
      refine RL.idxR (a) rfl rfl rfl rfl sl49 rfl rfl (by omega) (by omega) ?_
      refine RL.storeR (a) rfl rfl rfl ty33 rfl rfl hg.drew hrow (by omega) ?_
      intro ws1 As1 hgs1 haxs1 hrows1
      refine ⟨trivial, ?_⟩
      refine RL.idxR (pivot) rfl rfl rfl rfl sl49 rfl rfl (by omega) (by omega) ?_
      refine RL.storeR (pivot) rfl rfl rfl ty33 rfl rfl hgs1 hrows1 (by simp; omega) ?_
      intro ws2 As2 hgs2 haxs2 hrows2
      refine ⟨trivial, ?_⟩
      refine RL.done ?_
      exact fun ac ha => ⟨_, ha.sub (E' := [(0, .slice (some ⟨g, 0, none⟩) n c), (1, i64 a), (2, i64 b)]) ⟨rfl, rfl, rfl, trivial⟩, As2, hgs2, (Aux.drew _).trans (haxs1.trans haxs2), hrows2, rfl⟩
    · refine RL.loadR (a) rfl rfl rfl rfl ty33 rfl hrow hg.drew.1 (by omega) ?_
      refine RL.loadR (pivot) rfl rfl rfl rfl ty33 rfl hrow hg.drew.1 (by omega) ?_
      refine RL.idxR (a) rfl rfl rfl rfl sl49 rfl rfl (by omega) (by omega) ?_
      refine RL.storeR (a) rfl rfl rfl ty33 rfl rfl hg.drew hrow (by omega) ?_
      intro ws1 As1 hgs1 haxs1 hrows1
      refine ⟨trivial, ?_⟩
      refine RL.idxR (pivot) rfl rfl rfl rfl sl49 rfl rfl (by omega) (by omega) ?_
      refine RL.storeR (pivot) rfl rfl rfl ty33 rfl rfl hgs1 hrows1 (by simp; omega) ?_
      intro ws2 As2 hgs2 haxs2 hrows2
      refine ⟨trivial, ?_⟩
      refine RL.done ?_
      exact fun ac ha => ⟨_, ha.sub (E' := [(0, .slice (some ⟨g, 0, none⟩) n c), (1, i64 a), (2, i64 b)]) ⟨rfl, rfl, rfl, trivial⟩, As2, hgs2, (Aux.drew _).trans (haxs1.trans haxs2), hrows2, rfl⟩
  rintro E' w1 ⟨A1, hg1, hax1, hrow1, rfl⟩
  have hn1 : (swp d a pivot).size = n := by rw [size_swp]; exact hn
  generalize hd1 : swp d a pivot = d1 at *
  refine CW.seq (CW.plain ?_)
  refine RL.pure rfl rfl rfl rfl ?_
  refine RL.add rfl rfl rfl rfl rfl rfl ((by simp only [rng]; omega)) ?_
  refine RL.pure rfl rfl rfl rfl ?_
  refine RL.sub rfl rfl rfl rfl rfl rfl ((by simp only [rng]; omega)) ?_
  refine RL.pure rfl rfl rfl rfl ?_
  refine RL.pure rfl rfl rfl rfl ?_
  refine RL.done ?_
  obtain ⟨i, hi⟩ : ∃ i, i = a + 1 := ⟨_, rfl⟩
  obtain ⟨j, hj⟩ : ∃ j, j = b - 1 := ⟨_, rfl⟩
  refine CW.less [(0, .slice (some ⟨g, 0, none⟩) n c), (1, i64 a), (10, i64 (i : Nat)), (11, i64 (j : Nat))] ⟨rfl, rfl, congrArg (fun z => some (i64 z)) (by omega), congrArg (fun z => some (i64 z)) (by omega), trivial⟩ ?_
  refine CW.meet (fun E' w' => ∃ x, Good w' s (A1 :: os) ∧ Aux w w' ∧ i ≤ x ∧ x ≤ j + 1 + (i - (j + 1)) ∧ Go.Sort.scanUp (fun x => ltI x d1[a]!) d1 j i = x ∧ E' = [(0, .slice (some ⟨g, 0, none⟩) n c), (1, i64 a), (10, i64 (x : Nat)), (11, i64 (j : Nat))]) ?_ ?_
  · skip
    refine CW.block (CW.loop (σ := Nat) (fun k E w' => ∃ x, Good w' s (A1 :: os) ∧ Aux w w' ∧ i ≤ x ∧ x ≤ j + 1 + (i - (j + 1)) ∧ j + 1 - x ≤ k ∧ Go.Sort.scanUp (fun x => ltI x d1[a]!) d1 j i = Go.Sort.scanUp (fun x => ltI x d1[a]!) d1 j x ∧ E = [(0, .slice (some ⟨g, 0, none⟩) n c), (1, i64 a), (10, i64 (x : Nat)), (11, i64 (j : Nat))])
      (fun k => k) (j + 1) [(0, .slice (some ⟨g, 0, none⟩) n c), (1, i64 a), (10, i64 (i : Nat)), (11, i64 (j : Nat))] ⟨rfl, rfl, rfl, rfl, trivial⟩ ⟨i, hg1, hax1, Nat.le_refl _, by omega, by omega, rfl, rfl⟩ ?_)
    rintro k E w2 ⟨x, hg, hax2, hix, hxj, hk, hsc, rfl⟩
    refine CW.seq (CW.seq ?_)
    refine CW.draws [(true, 0), (true, 1), (true, 2), (true, 3), (true, 4), (true, 5), (true, 6), (true, 7), (true, 8), (true, 9), (true, 10), (true, 11), (false, 12), (true, 13)] (fun w' => Good w' s (A1 :: os)) mixed (by kernel_rfl) (by kernel_rfl) (by kernel_rfl) (by kernel_rfl) hg.drew ?_
    refine RL.pure rfl rfl rfl rfl ?_
    refine RL.pure rfl rfl rfl rfl ?_
    refine RL.pure rfl rfl rfl rfl ?_
    refine RL.pure rfl rfl rfl rfl ?_
    refine RL.part 33 rfl (fun hc => ?_) (fun hc => ?_)
    · have hxj' : x ≤ j := by have := of_decide_eq_true hc; omega
      refine RL.pure rfl rfl rfl rfl ?_
      refine RL.pure rfl rfl rfl rfl ?_
      refine RL.idxR (x) rfl rfl rfl rfl sl49 rfl rfl (by omega) (by omega) ?_
      refine RL.loadRT (x) rfl rfl rfl rfl ty33 rfl hrow1 (fun w h => h.1) (by omega) ?_
      refine RL.pure rfl rfl rfl rfl ?_
      refine RL.pure rfl rfl rfl rfl ?_
      refine RL.idxR (a) rfl rfl rfl rfl sl49 rfl rfl (by omega) (by omega) ?_
      refine RL.loadRT (a) rfl rfl rfl rfl ty33 rfl hrow1 (fun w h => h.1) (by omega) ?_
      refine RL.callV rfl rfl rfl rfl rfl ca48 (Less_ct hg.drew) ?_
      rintro v w3 hg3 hax3 rfl
      refine ⟨hg3, ?_⟩
      refine RL.pure rfl rfl rfl rfl ?_
      refine RL.done ?_
      refine CW.cond rfl (fun hl => ?_) (fun hl => ?_)
      · refine CW.skip ?_
        refine CW.block (CW.plain ?_)
        refine RL.pure rfl rfl rfl rfl ?_
        refine RL.add rfl rfl rfl rfl rfl rfl ((by simp only [rng]; omega)) ?_
        refine RL.pure rfl rfl rfl rfl ?_
        refine RL.done ?_
        refine fun ac ha => ⟨k - 1, [(0, .slice (some ⟨g, 0, none⟩) n c), (1, i64 a), (10, i64 ((x : Int) + 1)), (11, i64 (j : Nat))], ha.sub ⟨rfl, rfl, rfl, rfl, trivial⟩, ⟨x + 1, hg3, hax2.trans ((Aux.drew _).trans hax3), by omega, by omega, by omega, by rw [hsc]; exact scanUp_step (p := fun x => ltI x d1[a]!) hxj' (by simpa using hl), rfl⟩, by omega⟩
      · refine CW.exit (fun ac ha => ⟨_, ha.sub (E' := [(0, .slice (some ⟨g, 0, none⟩) n c), (1, i64 a), (10, i64 (x : Nat)), (11, i64 (j : Nat))]) ⟨rfl, rfl, rfl, rfl, trivial⟩, x, hg3, hax2.trans ((Aux.drew _).trans hax3), hix, hxj, by rw [hsc]; exact scanUp_end (p := fun x => ltI x d1[a]!) (.inr (by simpa using hl)), rfl⟩)
    · have hxj' : ¬ x ≤ j := by have := of_decide_eq_false hc; omega
      refine RL.pass rfl rfl rfl ?_
      refine RL.pass rfl rfl rfl ?_
      refine RL.pass rfl rfl rfl ?_
      refine RL.pass rfl rfl rfl ?_
      refine RL.pass rfl rfl rfl ?_
      refine RL.pass rfl rfl rfl ?_
      refine RL.pass rfl rfl rfl ?_
      refine RL.pass rfl rfl rfl ?_
      refine RL.pass rfl rfl rfl ?_
      refine RL.pure rfl rfl rfl rfl ?_
      refine RL.done ?_
      refine CW.no rfl ?_
      refine CW.exit (fun ac ha => ⟨_, ha.sub (E' := [(0, .slice (some ⟨g, 0, none⟩) n c), (1, i64 a), (10, i64 (x : Nat)), (11, i64 (j : Nat))]) ⟨rfl, rfl, rfl, rfl, trivial⟩, x, hg.drew, hax2.trans (Aux.drew _), hix, hxj, by rw [hsc]; exact scanUp_end (p := fun x => ltI x d1[a]!) (.inl hxj'), rfl⟩)
  rintro E' w4 ⟨i2, hg4, hax4, hii2, hi2j, hup, rfl⟩
  have h1i : 1 ≤ i2 := by omega
  refine CW.meet (fun E' w' => ∃ y, Good w' s (A1 :: os) ∧ Aux w w' ∧ y ≤ j ∧ (i2 ≤ y + 1 ∨ y = j) ∧ Go.Sort.scanDown (fun x => !ltI x d1[a]!) d1 i2 j = y ∧ E' = [(0, .slice (some ⟨g, 0, none⟩) n c), (1, i64 a), (10, i64 (i2 : Nat)), (11, i64 (y : Nat))]) ?_ ?_
  · skip
    refine CW.block (CW.loop (σ := Nat) (fun k E w' => ∃ y, Good w' s (A1 :: os) ∧ Aux w w' ∧ y ≤ j ∧ (i2 ≤ y + 1 ∨ y = j) ∧ y ≤ k ∧ Go.Sort.scanDown (fun x => !ltI x d1[a]!) d1 i2 j = Go.Sort.scanDown (fun x => !ltI x d1[a]!) d1 i2 y ∧ E = [(0, .slice (some ⟨g, 0, none⟩) n c), (1, i64 a), (10, i64 (i2 : Nat)), (11, i64 (y : Nat))])
      (fun k => k) j [(0, .slice (some ⟨g, 0, none⟩) n c), (1, i64 a), (10, i64 (i2 : Nat)), (11, i64 (j : Nat))] ⟨rfl, rfl, rfl, rfl, trivial⟩ ⟨j, hg4, hax4, Nat.le_refl _, .inr rfl, Nat.le_refl _, rfl, rfl⟩ ?_)
    rintro k E w2 ⟨y, hg, hax2, hyj, hiy, hk, hsc, rfl⟩
    refine CW.seq (CW.seq ?_)
    refine CW.draws [(true, 0), (true, 1), (true, 2), (true, 3), (true, 4), (true, 5), (true, 6), (true, 7), (true, 8), (true, 9), (true, 10), (true, 11), (false, 12), (true, 13), (true, 14)] (fun w' => Good w' s (A1 :: os)) mixed (by kernel_rfl) (by kernel_rfl) (by kernel_rfl) (by kernel_rfl) hg.drew ?_
    refine RL.pure rfl rfl rfl rfl ?_
    refine RL.pure rfl rfl rfl rfl ?_
    refine RL.pure rfl rfl rfl rfl ?_
    refine RL.pure rfl rfl rfl rfl ?_
    refine RL.part 49 rfl (fun hc => ?_) (fun hc => ?_)
    · have hxj' : i2 ≤ y := by have := of_decide_eq_true hc; omega
      refine RL.pure rfl rfl rfl rfl ?_
      refine RL.pure rfl rfl rfl rfl ?_
      refine RL.idxR (y) rfl rfl rfl rfl sl49 rfl rfl (by omega) (by omega) ?_
      refine RL.loadRT (y) rfl rfl rfl rfl ty33 rfl hrow1 (fun w h => h.1) (by omega) ?_
      refine RL.pure rfl rfl rfl rfl ?_
      refine RL.pure rfl rfl rfl rfl ?_
      refine RL.idxR (a) rfl rfl rfl rfl sl49 rfl rfl (by omega) (by omega) ?_
      refine RL.loadRT (a) rfl rfl rfl rfl ty33 rfl hrow1 (fun w h => h.1) (by omega) ?_
      refine RL.callV rfl rfl rfl rfl rfl ca48 (Less_ct hg.drew) ?_
      rintro v w3 hg3 hax3 rfl
      refine ⟨hg3, ?_⟩
      refine RL.pure rfl rfl rfl rfl ?_
      refine RL.pure rfl rfl rfl rfl ?_
      refine RL.done ?_
      refine CW.cond rfl (fun hl => ?_) (fun hl => ?_)
      · refine CW.skip ?_
        refine CW.block (CW.plain ?_)
        refine RL.pure rfl rfl rfl rfl ?_
        refine RL.sub rfl rfl rfl rfl rfl rfl ((by simp only [rng]; omega)) ?_
        refine RL.pure rfl rfl rfl rfl ?_
        refine RL.done ?_
        refine fun ac ha => ⟨k - 1, [(0, .slice (some ⟨g, 0, none⟩) n c), (1, i64 a), (10, i64 (i2 : Nat)), (11, i64 ((y - 1 : Nat) : Int))], ha.sub ⟨rfl, rfl, rfl, congrArg (fun z => some (i64 z)) (by omega), trivial⟩, ⟨y - 1, hg3, hax2.trans ((Aux.drew _).trans hax3), by omega, by omega, by omega, by rw [hsc]; exact scanDown_step (p := fun x => !ltI x d1[a]!) hxj' (by omega) (by simpa using hl), rfl⟩, by omega⟩
      · refine CW.exit (fun ac ha => ⟨_, ha.sub (E' := [(0, .slice (some ⟨g, 0, none⟩) n c), (1, i64 a), (10, i64 (i2 : Nat)), (11, i64 (y : Nat))]) ⟨rfl, rfl, rfl, rfl, trivial⟩, y, hg3, hax2.trans ((Aux.drew _).trans hax3), hyj, hiy, by rw [hsc]; exact scanDown_end (p := fun x => !ltI x d1[a]!) (.inr (by simpa using hl)), rfl⟩)
    · have hxj' : ¬ i2 ≤ y := by have := of_decide_eq_false hc; omega
      refine RL.pass rfl rfl rfl ?_
      refine RL.pass rfl rfl rfl ?_
      refine RL.pass rfl rfl rfl ?_
      refine RL.pass rfl rfl rfl ?_
      refine RL.pass rfl rfl rfl ?_
      refine RL.pass rfl rfl rfl ?_
      refine RL.pass rfl rfl rfl ?_
      refine RL.pass rfl rfl rfl ?_
      refine RL.pass rfl rfl rfl ?_
      refine RL.pass rfl rfl rfl ?_
      refine RL.pure rfl rfl rfl rfl ?_
      refine RL.done ?_
      refine CW.no rfl ?_
      refine CW.exit (fun ac ha => ⟨_, ha.sub (E' := [(0, .slice (some ⟨g, 0, none⟩) n c), (1, i64 a), (10, i64 (i2 : Nat)), (11, i64 (y : Nat))]) ⟨rfl, rfl, rfl, rfl, trivial⟩, y, hg.drew, hax2.trans (Aux.drew _), hyj, hiy, by rw [hsc]; exact scanDown_end (p := fun x => !ltI x d1[a]!) (.inl hxj'), rfl⟩)
  rintro E' w5 ⟨j2, hg5, hax5, hj2j, hij2, hdown, rfl⟩
  refine CW.seq (CW.seq (CW.plain ?_))
  refine RL.pure rfl rfl rfl rfl ?_
  refine RL.pure rfl rfl rfl rfl ?_
  refine RL.pure rfl rfl rfl rfl ?_
  refine RL.done ?_
  subst hi hj hd1
  refine CW.test rfl (fun h => ?_) (fun h => ?_)
  · have hh : i2 > j2 := by omega
    have hpt := partition_hit hup hdown hh
    have hg := hg5
    have hrow := hrow1
    have hn := hn1
    refine CW.meet (fun E' w' => ∃ A', Good w' s (A' :: os) ∧ Aux w w' ∧ RowAt A' g rest (swp (swp d a pivot) j2 a) ∧ E' = [(11, i64 (j2 : Nat))]) ?_ ?_
    · skip
      refine CW.forks (.fork [(true, 0), (true, 1), (true, 2), (true, 3), (true, 4), (true, 5), (true, 6), (true, 8), (true, 9), (true, 10)] (.line [(false, 7), (false, 11), (true, 12), (false, 13), (true, 14), (false, 15)]) (.line [(false, 11), (false, 7), (true, 12), (false, 13), (true, 14), (false, 15)])) (fun _ => True) mixed (by kernel_rfl) (by kernel_rfl) (by kernel_rfl) (by kernel_rfl) trivial ?_
      refine RT.pre trivial ?_
      refine RL.pure rfl rfl rfl rfl ?_
      refine RL.pure rfl rfl rfl rfl ?_
      refine RL.pure rfl rfl rfl rfl ?_
      refine RL.pure rfl rfl rfl rfl ?_
      refine RL.pure rfl rfl rfl rfl ?_
      refine RL.pure rfl rfl rfl rfl ?_
      refine RL.idxR (a) rfl rfl rfl rfl sl49 rfl rfl (by omega) (by omega) ?_
      refine RL.pure rfl rfl rfl rfl ?_
      refine RL.pure rfl rfl rfl rfl ?_
      refine RL.idxR (j2) rfl rfl rfl rfl sl49 rfl rfl (by omega) (by omega) ?_
      refine RL.done ?_
      refine RT.both (S := fun _ => True) trivial (RT.end_ (S := fun _ => True) trivial ?_) (RT.end_ (S := fun _ => True) trivial ?_)
      · refine RL.loadR (a) rfl rfl rfl rfl ty33 rfl hrow hg.drew.1 (by omega) ?_
        refine RL.loadR (j2) rfl rfl rfl rfl ty33 rfl hrow hg.drew.1 (by omega) ?_
        refine RL.idxR (j2) rfl rfl rfl rfl sl49 rfl rfl (by omega) (by omega) ?_
        refine RL.storeR (j2) rfl rfl rfl ty33 rfl rfl hg.drew hrow (by omega) ?_
        intro ws1 As1 hgs1 haxs1 hrows1
        refine ⟨trivial, ?_⟩
        refine RL.idxR (a) rfl rfl rfl rfl sl49 rfl rfl (by omega) (by omega) ?_
        refine RL.storeR (a) rfl rfl rfl ty33 rfl rfl hgs1 hrows1 (by simp; omega) ?_
        intro ws2 As2 hgs2 haxs2 hrows2
        refine ⟨trivial, ?_⟩
        refine RL.done ?_
        exact fun ac ha => ⟨_, ha.sub (E' := [(11, i64 (j2 : Nat))]) ⟨rfl, trivial⟩, As2, hgs2, hax5.trans ((Aux.drew _).trans (haxs1.trans haxs2)), hrows2, rfl⟩
      · refine RL.loadR (j2) rfl rfl rfl rfl ty33 rfl hrow hg.drew.1 (by omega) ?_
        refine RL.loadR (a) rfl rfl rfl rfl ty33 rfl hrow hg.drew.1 (by omega) ?_
        refine RL.idxR (j2) rfl rfl rfl rfl sl49 rfl rfl (by omega) (by omega) ?_
        refine RL.storeR (j2) rfl rfl rfl ty33 rfl rfl hg.drew hrow (by omega) ?_
        intro ws1 As1 hgs1 haxs1 hrows1
        refine ⟨trivial, ?_⟩
        refine RL.idxR (a) rfl rfl rfl rfl sl49 rfl rfl (by omega) (by omega) ?_
        refine RL.storeR (a) rfl rfl rfl ty33 rfl rfl hgs1 hrows1 (by simp; omega) ?_
        intro ws2 As2 hgs2 haxs2 hrows2
        refine ⟨trivial, ?_⟩
        refine RL.done ?_
        exact fun ac ha => ⟨_, ha.sub (E' := [(11, i64 (j2 : Nat))]) ⟨rfl, trivial⟩, As2, hgs2, hax5.trans ((Aux.drew _).trans (haxs1.trans haxs2)), hrows2, rfl⟩
    rintro E' w6 ⟨A6, hg6, hax6, hrow6, rfl⟩
    refine CW.seq (CW.plain ?_)
    refine RL.pure rfl rfl rfl rfl ?_
    refine RL.pure rfl rfl rfl rfl ?_
    refine RL.pure rfl rfl rfl rfl ?_
    refine RL.done ?_
    refine CW.ret (ret (vs := [_, _]) ⟨_, _, rfl, rfl, _, _, rfl, rfl, rfl⟩ (Post.mk (Le.refl _) hg6 hax6 ⟨rfl, ?_, ?_⟩))
    · rw [hpt]; rfl
    · rw [hpt]; exact hrow6
  · have hh : ¬ i2 > j2 := by omega
    have hpt := partition_miss hup hdown hh
    refine CW.skip ?_
    have hg := hg5
    have hrow := hrow1
    have hn := hn1
    refine CW.meet (fun E' w' => ∃ A', Good w' s (A' :: os) ∧ Aux w w' ∧ RowAt A' g rest (swp (swp d a pivot) i2 j2) ∧ E' = [(0, .slice (some ⟨g, 0, none⟩) n c), (1, i64 a), (10, i64 (i2 : Nat)), (11, i64 (j2 : Nat))]) ?_ ?_
    · skip
      refine CW.forks (.fork [(true, 0), (true, 1), (true, 2), (true, 3), (true, 4), (true, 5), (true, 6), (true, 8), (true, 9), (true, 10)] (.line [(false, 7), (false, 11), (true, 12), (false, 13), (true, 14), (false, 15)]) (.line [(false, 11), (false, 7), (true, 12), (false, 13), (true, 14), (false, 15)])) (fun _ => True) mixed (by kernel_rfl) (by kernel_rfl) (by kernel_rfl) (by kernel_rfl) trivial ?_
      refine RT.pre trivial ?_
      refine RL.pure rfl rfl rfl rfl ?_
      refine RL.pure rfl rfl rfl rfl ?_
      refine RL.pure rfl rfl rfl rfl ?_
      refine RL.pure rfl rfl rfl rfl ?_
      refine RL.pure rfl rfl rfl rfl ?_
      refine RL.pure rfl rfl rfl rfl ?_
      refine RL.idxR (j2) rfl rfl rfl rfl sl49 rfl rfl (by omega) (by omega) ?_
      refine RL.pure rfl rfl rfl rfl ?_
      refine RL.pure rfl rfl rfl rfl ?_
      refine RL.idxR (i2) rfl rfl rfl rfl sl49 rfl rfl (by omega) (by omega) ?_
      refine RL.done ?_
      refine RT.both (S := fun _ => True) trivial (RT.end_ (S := fun _ => True) trivial ?_) (RT.end_ (S := fun _ => True) trivial ?_)
      · refine RL.loadR (j2) rfl rfl rfl rfl ty33 rfl hrow hg.drew.1 (by omega) ?_
        refine RL.loadR (i2) rfl rfl rfl rfl ty33 rfl hrow hg.drew.1 (by omega) ?_
        refine RL.idxR (i2) rfl rfl rfl rfl sl49 rfl rfl (by omega) (by omega) ?_
        refine RL.storeR (i2) rfl rfl rfl ty33 rfl rfl hg.drew hrow (by omega) ?_
        intro ws1 As1 hgs1 haxs1 hrows1
        refine ⟨trivial, ?_⟩
        refine RL.idxR (j2) rfl rfl rfl rfl sl49 rfl rfl (by omega) (by omega) ?_
        refine RL.storeR (j2) rfl rfl rfl ty33 rfl rfl hgs1 hrows1 (by simp; omega) ?_
        intro ws2 As2 hgs2 haxs2 hrows2
        refine ⟨trivial, ?_⟩
        refine RL.done ?_
        exact fun ac ha => ⟨_, ha.sub (E' := [(0, .slice (some ⟨g, 0, none⟩) n c), (1, i64 a), (10, i64 (i2 : Nat)), (11, i64 (j2 : Nat))]) ⟨rfl, rfl, rfl, rfl, trivial⟩, As2, hgs2, hax5.trans ((Aux.drew _).trans (haxs1.trans haxs2)), hrows2, rfl⟩
      · refine RL.loadR (i2) rfl rfl rfl rfl ty33 rfl hrow hg.drew.1 (by omega) ?_
        refine RL.loadR (j2) rfl rfl rfl rfl ty33 rfl hrow hg.drew.1 (by omega) ?_
        refine RL.idxR (i2) rfl rfl rfl rfl sl49 rfl rfl (by omega) (by omega) ?_
        refine RL.storeR (i2) rfl rfl rfl ty33 rfl rfl hg.drew hrow (by omega) ?_
        intro ws1 As1 hgs1 haxs1 hrows1
        refine ⟨trivial, ?_⟩
        refine RL.idxR (j2) rfl rfl rfl rfl sl49 rfl rfl (by omega) (by omega) ?_
        refine RL.storeR (j2) rfl rfl rfl ty33 rfl rfl hgs1 hrows1 (by simp; omega) ?_
        intro ws2 As2 hgs2 haxs2 hrows2
        refine ⟨trivial, ?_⟩
        refine RL.done ?_
        exact fun ac ha => ⟨_, ha.sub (E' := [(0, .slice (some ⟨g, 0, none⟩) n c), (1, i64 a), (10, i64 (i2 : Nat)), (11, i64 (j2 : Nat))]) ⟨rfl, rfl, rfl, rfl, trivial⟩, As2, hgs2, hax5.trans ((Aux.drew _).trans (haxs1.trans haxs2)), hrows2, rfl⟩
    rintro E' w6 ⟨A6, hg6, hax6, hrow6, rfl⟩
    have hn6 : (swp (swp d a pivot) i2 j2).size = n := by rw [size_swp]; exact hn1
    refine CW.seq (CW.plain ?_)
    refine RL.pure rfl rfl rfl rfl ?_
    refine RL.add rfl rfl rfl rfl rfl rfl ((by simp only [rng]; omega)) ?_
    refine RL.pure rfl rfl rfl rfl ?_
    refine RL.done ?_
    refine CW.seq (CW.plain ?_)
    refine RL.pure rfl rfl rfl rfl ?_
    refine RL.sub rfl rfl rfl rfl rfl rfl ((by simp only [rng]; omega)) ?_
    refine RL.pure rfl rfl rfl rfl ?_
    refine RL.done ?_
    generalize hd0 : swp (swp d a pivot) i2 j2 = d0 at *
    refine CW.meet (fun E' w' => ∃ A' dk jf, Good w' s (A' :: os) ∧ Aux w w' ∧ RowAt A' g rest dk ∧ dk.size = n ∧ a ≤ jf ∧ jf < n ∧ Go.Sort.partLoop ltI a (i2 + 1) (j2 - 1) d0 = (jf, dk) ∧ E' = [(0, .slice (some ⟨g, 0, none⟩) n c), (1, i64 a), (11, i64 (jf : Nat))]) ?_ ?_
    · refine CW.block (CW.loop (σ := Nat) (fun k E w' => ∃ A' dk i j, Good w' s (A' :: os) ∧ Aux w w' ∧ RowAt A' g rest dk ∧ dk.size = n ∧ a < i ∧ i ≤ j + 2 ∧ a ≤ j ∧ j < n ∧ j + 2 - i ≤ k ∧ Go.Sort.partLoop ltI a (i2 + 1) (j2 - 1) d0 = Go.Sort.partLoop ltI a i j dk ∧ E = [(0, .slice (some ⟨g, 0, none⟩) n c), (1, i64 a), (10, i64 (i : Nat)), (11, i64 (j : Nat))])
        (fun k => k) (n + 2) [(0, .slice (some ⟨g, 0, none⟩) n c), (1, i64 a), (10, i64 ((i2 + 1 : Nat) : Int)), (11, i64 ((j2 - 1 : Nat) : Int))] ⟨rfl, rfl, rfl, congrArg (fun z => some (i64 z)) (by omega), trivial⟩ ⟨A6, d0, i2 + 1, j2 - 1, hg6, hax6, hrow6, hn6, by omega, by omega, by omega, by omega, by omega, rfl, rfl⟩ ?_)
      rintro k E w7 ⟨A1, d1, i, j, hg1, hax1, hrow1, hn1, hai, hij, haj, hjn, hk, heq, rfl⟩
      refine CW.block ?_
      refine CW.meet (fun E' w' => ∃ x, Good w' s (A1 :: os) ∧ Aux w w' ∧ i ≤ x ∧ x ≤ j + 1 + (i - (j + 1)) ∧ Go.Sort.scanUp (fun x => ltI x d1[a]!) d1 j i = x ∧ E' = [(0, .slice (some ⟨g, 0, none⟩) n c), (1, i64 a), (10, i64 (x : Nat)), (11, i64 (j : Nat))]) ?_ ?_
      · clear hup hdown hpt
        refine CW.block (CW.loop (σ := Nat) (fun k E w' => ∃ x, Good w' s (A1 :: os) ∧ Aux w w' ∧ i ≤ x ∧ x ≤ j + 1 + (i - (j + 1)) ∧ j + 1 - x ≤ k ∧ Go.Sort.scanUp (fun x => ltI x d1[a]!) d1 j i = Go.Sort.scanUp (fun x => ltI x d1[a]!) d1 j x ∧ E = [(0, .slice (some ⟨g, 0, none⟩) n c), (1, i64 a), (10, i64 (x : Nat)), (11, i64 (j : Nat))])
          (fun k => k) (j + 1) [(0, .slice (some ⟨g, 0, none⟩) n c), (1, i64 a), (10, i64 (i : Nat)), (11, i64 (j : Nat))] ⟨rfl, rfl, rfl, rfl, trivial⟩ ⟨i, hg1, hax1, Nat.le_refl _, by omega, by omega, rfl, rfl⟩ ?_)
        rintro k E w2 ⟨x, hg, hax2, hix, hxj, hk, hsc, rfl⟩
        refine CW.seq (CW.seq ?_)
        refine CW.draws [(true, 0), (true, 1), (true, 2), (true, 3), (true, 4), (true, 5), (true, 6), (true, 7), (true, 8), (true, 9), (true, 10), (true, 11), (false, 12), (true, 13)] (fun w' => Good w' s (A1 :: os)) mixed (by kernel_rfl) (by kernel_rfl) (by kernel_rfl) (by kernel_rfl) hg.drew ?_
        refine RL.pure rfl rfl rfl rfl ?_
        refine RL.pure rfl rfl rfl rfl ?_
        refine RL.pure rfl rfl rfl rfl ?_
        refine RL.pure rfl rfl rfl rfl ?_
        refine RL.part 102 rfl (fun hc => ?_) (fun hc => ?_)
        · have hxj' : x ≤ j := by have := of_decide_eq_true hc; omega
          refine RL.pure rfl rfl rfl rfl ?_
          refine RL.pure rfl rfl rfl rfl ?_
          refine RL.idxR (x) rfl rfl rfl rfl sl49 rfl rfl (by omega) (by omega) ?_
          refine RL.loadRT (x) rfl rfl rfl rfl ty33 rfl hrow1 (fun w h => h.1) (by omega) ?_
          refine RL.pure rfl rfl rfl rfl ?_
          refine RL.pure rfl rfl rfl rfl ?_
          refine RL.idxR (a) rfl rfl rfl rfl sl49 rfl rfl (by omega) (by omega) ?_
          refine RL.loadRT (a) rfl rfl rfl rfl ty33 rfl hrow1 (fun w h => h.1) (by omega) ?_
          refine RL.callV rfl rfl rfl rfl rfl ca48 (Less_ct hg.drew) ?_
          rintro v w3 hg3 hax3 rfl
          refine ⟨hg3, ?_⟩
          refine RL.pure rfl rfl rfl rfl ?_
          refine RL.done ?_
          refine CW.cond rfl (fun hl => ?_) (fun hl => ?_)
          · refine CW.skip ?_
            refine CW.block (CW.plain ?_)
            refine RL.pure rfl rfl rfl rfl ?_
            refine RL.add rfl rfl rfl rfl rfl rfl ((by simp only [rng]; omega)) ?_
            refine RL.pure rfl rfl rfl rfl ?_
            refine RL.done ?_
            refine fun ac ha => ⟨k - 1, [(0, .slice (some ⟨g, 0, none⟩) n c), (1, i64 a), (10, i64 ((x : Int) + 1)), (11, i64 (j : Nat))], ha.sub ⟨rfl, rfl, rfl, rfl, trivial⟩, ⟨x + 1, hg3, hax2.trans ((Aux.drew _).trans hax3), by omega, by omega, by omega, by rw [hsc]; exact scanUp_step (p := fun x => ltI x d1[a]!) hxj' (by simpa using hl), rfl⟩, by omega⟩
          · refine CW.exit (fun ac ha => ⟨_, ha.sub (E' := [(0, .slice (some ⟨g, 0, none⟩) n c), (1, i64 a), (10, i64 (x : Nat)), (11, i64 (j : Nat))]) ⟨rfl, rfl, rfl, rfl, trivial⟩, x, hg3, hax2.trans ((Aux.drew _).trans hax3), hix, hxj, by rw [hsc]; exact scanUp_end (p := fun x => ltI x d1[a]!) (.inr (by simpa using hl)), rfl⟩)
        · have hxj' : ¬ x ≤ j := by have := of_decide_eq_false hc; omega
          refine RL.pass rfl rfl rfl ?_
          refine RL.pass rfl rfl rfl ?_
          refine RL.pass rfl rfl rfl ?_
          refine RL.pass rfl rfl rfl ?_
          refine RL.pass rfl rfl rfl ?_
          refine RL.pass rfl rfl rfl ?_
          refine RL.pass rfl rfl rfl ?_
          refine RL.pass rfl rfl rfl ?_
          refine RL.pass rfl rfl rfl ?_
          refine RL.pure rfl rfl rfl rfl ?_
          refine RL.done ?_
          refine CW.no rfl ?_
          refine CW.exit (fun ac ha => ⟨_, ha.sub (E' := [(0, .slice (some ⟨g, 0, none⟩) n c), (1, i64 a), (10, i64 (x : Nat)), (11, i64 (j : Nat))]) ⟨rfl, rfl, rfl, rfl, trivial⟩, x, hg.drew, hax2.trans (Aux.drew _), hix, hxj, by rw [hsc]; exact scanUp_end (p := fun x => ltI x d1[a]!) (.inl hxj'), rfl⟩)
      rintro E' w4 ⟨i3, hg4, hax4, hii3, hi3j, hup3, rfl⟩
      have h1i3 : 1 ≤ i3 := by omega
      refine CW.meet (fun E' w' => ∃ y, Good w' s (A1 :: os) ∧ Aux w w' ∧ y ≤ j ∧ (i3 ≤ y + 1 ∨ y = j) ∧ Go.Sort.scanDown (fun x => !ltI x d1[a]!) d1 i3 j = y ∧ E' = [(0, .slice (some ⟨g, 0, none⟩) n c), (1, i64 a), (10, i64 (i3 : Nat)), (11, i64 (y : Nat))]) ?_ ?_
      · clear hup hdown hpt
        refine CW.block (CW.loop (σ := Nat) (fun k E w' => ∃ y, Good w' s (A1 :: os) ∧ Aux w w' ∧ y ≤ j ∧ (i3 ≤ y + 1 ∨ y = j) ∧ y ≤ k ∧ Go.Sort.scanDown (fun x => !ltI x d1[a]!) d1 i3 j = Go.Sort.scanDown (fun x => !ltI x d1[a]!) d1 i3 y ∧ E = [(0, .slice (some ⟨g, 0, none⟩) n c), (1, i64 a), (10, i64 (i3 : Nat)), (11, i64 (y : Nat))])
          (fun k => k) j [(0, .slice (some ⟨g, 0, none⟩) n c), (1, i64 a), (10, i64 (i3 : Nat)), (11, i64 (j : Nat))] ⟨rfl, rfl, rfl, rfl, trivial⟩ ⟨j, hg4, hax4, Nat.le_refl _, .inr rfl, Nat.le_refl _, rfl, rfl⟩ ?_)
        rintro k E w2 ⟨y, hg, hax2, hyj, hiy, hk, hsc, rfl⟩
        refine CW.seq (CW.seq ?_)
        refine CW.draws [(true, 0), (true, 1), (true, 2), (true, 3), (true, 4), (true, 5), (true, 6), (true, 7), (true, 8), (true, 9), (true, 10), (true, 11), (false, 12), (true, 13), (true, 14)] (fun w' => Good w' s (A1 :: os)) mixed (by kernel_rfl) (by kernel_rfl) (by kernel_rfl) (by kernel_rfl) hg.drew ?_
        refine RL.pure rfl rfl rfl rfl ?_
        refine RL.pure rfl rfl rfl rfl ?_
        refine RL.pure rfl rfl rfl rfl ?_
        refine RL.pure rfl rfl rfl rfl ?_
        refine RL.part 118 rfl (fun hc => ?_) (fun hc => ?_)
        · have hxj' : i3 ≤ y := by have := of_decide_eq_true hc; omega
          refine RL.pure rfl rfl rfl rfl ?_
          refine RL.pure rfl rfl rfl rfl ?_
          refine RL.idxR (y) rfl rfl rfl rfl sl49 rfl rfl (by omega) (by omega) ?_
          refine RL.loadRT (y) rfl rfl rfl rfl ty33 rfl hrow1 (fun w h => h.1) (by omega) ?_
          refine RL.pure rfl rfl rfl rfl ?_
          refine RL.pure rfl rfl rfl rfl ?_
          refine RL.idxR (a) rfl rfl rfl rfl sl49 rfl rfl (by omega) (by omega) ?_
          refine RL.loadRT (a) rfl rfl rfl rfl ty33 rfl hrow1 (fun w h => h.1) (by omega) ?_
          refine RL.callV rfl rfl rfl rfl rfl ca48 (Less_ct hg.drew) ?_
          rintro v w3 hg3 hax3 rfl
          refine ⟨hg3, ?_⟩
          refine RL.pure rfl rfl rfl rfl ?_
          refine RL.pure rfl rfl rfl rfl ?_
          refine RL.done ?_
          refine CW.cond rfl (fun hl => ?_) (fun hl => ?_)
          · refine CW.skip ?_
            refine CW.block (CW.plain ?_)
            refine RL.pure rfl rfl rfl rfl ?_
            refine RL.sub rfl rfl rfl rfl rfl rfl ((by simp only [rng]; omega)) ?_
            refine RL.pure rfl rfl rfl rfl ?_
            refine RL.done ?_
            refine fun ac ha => ⟨k - 1, [(0, .slice (some ⟨g, 0, none⟩) n c), (1, i64 a), (10, i64 (i3 : Nat)), (11, i64 ((y - 1 : Nat) : Int))], ha.sub ⟨rfl, rfl, rfl, congrArg (fun z => some (i64 z)) (by omega), trivial⟩, ⟨y - 1, hg3, hax2.trans ((Aux.drew _).trans hax3), by omega, by omega, by omega, by rw [hsc]; exact scanDown_step (p := fun x => !ltI x d1[a]!) hxj' (by omega) (by simpa using hl), rfl⟩, by omega⟩
          · refine CW.exit (fun ac ha => ⟨_, ha.sub (E' := [(0, .slice (some ⟨g, 0, none⟩) n c), (1, i64 a), (10, i64 (i3 : Nat)), (11, i64 (y : Nat))]) ⟨rfl, rfl, rfl, rfl, trivial⟩, y, hg3, hax2.trans ((Aux.drew _).trans hax3), hyj, hiy, by rw [hsc]; exact scanDown_end (p := fun x => !ltI x d1[a]!) (.inr (by simpa using hl)), rfl⟩)
        · have hxj' : ¬ i3 ≤ y := by have := of_decide_eq_false hc; omega
          refine RL.pass rfl rfl rfl ?_
          refine RL.pass rfl rfl rfl ?_
          refine RL.pass rfl rfl rfl ?_
          refine RL.pass rfl rfl rfl ?_
          refine RL.pass rfl rfl rfl ?_
          refine RL.pass rfl rfl rfl ?_
          refine RL.pass rfl rfl rfl ?_
          refine RL.pass rfl rfl rfl ?_
          refine RL.pass rfl rfl rfl ?_
          refine RL.pass rfl rfl rfl ?_
          refine RL.pure rfl rfl rfl rfl ?_
          refine RL.done ?_
          refine CW.no rfl ?_
          refine CW.exit (fun ac ha => ⟨_, ha.sub (E' := [(0, .slice (some ⟨g, 0, none⟩) n c), (1, i64 a), (10, i64 (i3 : Nat)), (11, i64 (y : Nat))]) ⟨rfl, rfl, rfl, rfl, trivial⟩, y, hg.drew, hax2.trans (Aux.drew _), hyj, hiy, by rw [hsc]; exact scanDown_end (p := fun x => !ltI x d1[a]!) (.inl hxj'), rfl⟩)
      rintro E' w8 ⟨j3, hg8, hax8, hj3j, hij3, hdown3, rfl⟩
      have hloop := part_eq hup3 hdown3 hii3 hj3j
      refine CW.seq (CW.seq (CW.plain ?_))
      refine RL.pure rfl rfl rfl rfl ?_
      refine RL.pure rfl rfl rfl rfl ?_
      refine RL.pure rfl rfl rfl rfl ?_
      refine RL.done ?_
      refine CW.test rfl (fun h3 => ?_) (fun h3 => ?_)
      · have h3' : i3 > j3 := by omega
        refine CW.exit (fun ac ha => ⟨_, ha.sub (E' := [(0, .slice (some ⟨g, 0, none⟩) n c), (1, i64 a), (11, i64 (j3 : Nat))]) ⟨rfl, rfl, rfl, trivial⟩, A1, d1, j3, hg8, hax8, hrow1, hn1, by omega, by omega, by rw [heq, hloop, if_pos h3'], rfl⟩)
      · have h3' : ¬ i3 > j3 := by omega
        refine CW.skip ?_
        have hg := hg8
        have hrow := hrow1
        have hn := hn1
        refine CW.meet (fun E' w' => ∃ A', Good w' s (A' :: os) ∧ Aux w w' ∧ RowAt A' g rest (swp d1 i3 j3) ∧ E' = [(0, .slice (some ⟨g, 0, none⟩) n c), (1, i64 a), (10, i64 (i3 : Nat)), (11, i64 (j3 : Nat))]) ?_ ?_
        · skip
          refine CW.forks (.fork [(true, 0), (true, 1), (true, 2), (true, 3), (true, 4), (true, 5), (true, 6), (true, 8), (true, 9), (true, 10)] (.line [(false, 7), (false, 11), (true, 12), (false, 13), (true, 14), (false, 15)]) (.line [(false, 11), (false, 7), (true, 12), (false, 13), (true, 14), (false, 15)])) (fun _ => True) mixed (by kernel_rfl) (by kernel_rfl) (by kernel_rfl) (by kernel_rfl) trivial ?_
          refine RT.pre trivial ?_
          refine RL.pure rfl rfl rfl rfl ?_
          refine RL.pure rfl rfl rfl rfl ?_
          refine RL.pure rfl rfl rfl rfl ?_
          refine RL.pure rfl rfl rfl rfl ?_
          refine RL.pure rfl rfl rfl rfl ?_
          refine RL.pure rfl rfl rfl rfl ?_
          refine RL.idxR (j3) rfl rfl rfl rfl sl49 rfl rfl (by omega) (by omega) ?_
          refine RL.pure rfl rfl rfl rfl ?_
          refine RL.pure rfl rfl rfl rfl ?_
          refine RL.idxR (i3) rfl rfl rfl rfl sl49 rfl rfl (by omega) (by omega) ?_
          refine RL.done ?_
          refine RT.both (S := fun _ => True) trivial (RT.end_ (S := fun _ => True) trivial ?_) (RT.end_ (S := fun _ => True) trivial ?_)
          · refine RL.loadR (j3) rfl rfl rfl rfl ty33 rfl hrow hg.drew.1 (by omega) ?_
            refine RL.loadR (i3) rfl rfl rfl rfl ty33 rfl hrow hg.drew.1 (by omega) ?_
            refine RL.idxR (i3) rfl rfl rfl rfl sl49 rfl rfl (by omega) (by omega) ?_
            refine RL.storeR (i3) rfl rfl rfl ty33 rfl rfl hg.drew hrow (by omega) ?_
            intro ws1 As1 hgs1 haxs1 hrows1
            refine ⟨trivial, ?_⟩
            refine RL.idxR (j3) rfl rfl rfl rfl sl49 rfl rfl (by omega) (by omega) ?_
            refine RL.storeR (j3) rfl rfl rfl ty33 rfl rfl hgs1 hrows1 (by simp; omega) ?_
            intro ws2 As2 hgs2 haxs2 hrows2
            refine ⟨trivial, ?_⟩
            refine RL.done ?_
            exact fun ac ha => ⟨_, ha.sub (E' := [(0, .slice (some ⟨g, 0, none⟩) n c), (1, i64 a), (10, i64 (i3 : Nat)), (11, i64 (j3 : Nat))]) ⟨rfl, rfl, rfl, rfl, trivial⟩, As2, hgs2, hax8.trans ((Aux.drew _).trans (haxs1.trans haxs2)), hrows2, rfl⟩
          · refine RL.loadR (i3) rfl rfl rfl rfl ty33 rfl hrow hg.drew.1 (by omega) ?_
            refine RL.loadR (j3) rfl rfl rfl rfl ty33 rfl hrow hg.drew.1 (by omega) ?_
            refine RL.idxR (i3) rfl rfl rfl rfl sl49 rfl rfl (by omega) (by omega) ?_
            refine RL.storeR (i3) rfl rfl rfl ty33 rfl rfl hg.drew hrow (by omega) ?_
            intro ws1 As1 hgs1 haxs1 hrows1
            refine ⟨trivial, ?_⟩
            refine RL.idxR (j3) rfl rfl rfl rfl sl49 rfl rfl (by omega) (by omega) ?_
            refine RL.storeR (j3) rfl rfl rfl ty33 rfl rfl hgs1 hrows1 (by simp; omega) ?_
            intro ws2 As2 hgs2 haxs2 hrows2
            refine ⟨trivial, ?_⟩
            refine RL.done ?_
            exact fun ac ha => ⟨_, ha.sub (E' := [(0, .slice (some ⟨g, 0, none⟩) n c), (1, i64 a), (10, i64 (i3 : Nat)), (11, i64 (j3 : Nat))]) ⟨rfl, rfl, rfl, rfl, trivial⟩, As2, hgs2, hax8.trans ((Aux.drew _).trans (haxs1.trans haxs2)), hrows2, rfl⟩
        rintro E' w9 ⟨A9, hg9, hax9, hrow9, rfl⟩
        refine CW.seq (CW.plain ?_)
        refine RL.pure rfl rfl rfl rfl ?_
        refine RL.add rfl rfl rfl rfl rfl rfl ((by simp only [rng]; omega)) ?_
        refine RL.pure rfl rfl rfl rfl ?_
        refine RL.done ?_
        refine CW.plain ?_
        refine RL.pure rfl rfl rfl rfl ?_
        refine RL.sub rfl rfl rfl rfl rfl rfl ((by simp only [rng]; omega)) ?_
        refine RL.pure rfl rfl rfl rfl ?_
        refine RL.done ?_
        refine fun ac ha => ⟨k - 1, [(0, .slice (some ⟨g, 0, none⟩) n c), (1, i64 a), (10, i64 ((i3 + 1 : Nat) : Int)), (11, i64 ((j3 - 1 : Nat) : Int))], ha.sub ⟨rfl, rfl, rfl, congrArg (fun z => some (i64 z)) (by omega), trivial⟩, ⟨A9, _, i3 + 1, j3 - 1, hg9, hax9, hrow9, by rw [size_swp]; exact hn1, by omega, by omega, by omega, by omega, by omega, by rw [heq, hloop, if_neg h3'], rfl⟩, by omega⟩
    rintro E' w7 ⟨A7, d7, jf, hg, hax7, hrow, hn7, hajf, hjfn, hfin, rfl⟩
    have hn := hn7
    refine CW.meet (fun E' w' => ∃ A', Good w' s (A' :: os) ∧ Aux w w' ∧ RowAt A' g rest (swp d7 jf a) ∧ E' = [(11, i64 (jf : Nat))]) ?_ ?_
    · skip
      refine CW.forks (.fork [(true, 0), (true, 1), (true, 2), (true, 3), (true, 4), (true, 5), (true, 6), (true, 8), (true, 9), (true, 10)] (.line [(false, 7), (false, 11), (true, 12), (false, 13), (true, 14), (false, 15)]) (.line [(false, 11), (false, 7), (true, 12), (false, 13), (true, 14), (false, 15)])) (fun _ => True) mixed (by kernel_rfl) (by kernel_rfl) (by kernel_rfl) (by kernel_rfl) trivial ?_
      refine RT.pre trivial ?_
      refine RL.pure rfl rfl rfl rfl ?_
      refine RL.pure rfl rfl rfl rfl ?_
      refine RL.pure rfl rfl rfl rfl ?_
      refine RL.pure rfl rfl rfl rfl ?_
      refine RL.pure rfl rfl rfl rfl ?_
      refine RL.pure rfl rfl rfl rfl ?_
      refine RL.idxR (a) rfl rfl rfl rfl sl49 rfl rfl (by omega) (by omega) ?_
      refine RL.pure rfl rfl rfl rfl ?_
      refine RL.pure rfl rfl rfl rfl ?_
      refine RL.idxR (jf) rfl rfl rfl rfl sl49 rfl rfl (by omega) (by omega) ?_
      refine RL.done ?_
      refine RT.both (S := fun _ => True) trivial (RT.end_ (S := fun _ => True) trivial ?_) (RT.end_ (S := fun _ => True) trivial ?_)
      · refine RL.loadR (a) rfl rfl rfl rfl ty33 rfl hrow hg.drew.1 (by omega) ?_
        refine RL.loadR (jf) rfl rfl rfl rfl ty33 rfl hrow hg.drew.1 (by omega) ?_
        refine RL.idxR (jf) rfl rfl rfl rfl sl49 rfl rfl (by omega) (by omega) ?_
        refine RL.storeR (jf) rfl rfl rfl ty33 rfl rfl hg.drew hrow (by omega) ?_
        intro ws1 As1 hgs1 haxs1 hrows1
        refine ⟨trivial, ?_⟩
        refine RL.idxR (a) rfl rfl rfl rfl sl49 rfl rfl (by omega) (by omega) ?_
        refine RL.storeR (a) rfl rfl rfl ty33 rfl rfl hgs1 hrows1 (by simp; omega) ?_
        intro ws2 As2 hgs2 haxs2 hrows2
        refine ⟨trivial, ?_⟩
        refine RL.done ?_
        exact fun ac ha => ⟨_, ha.sub (E' := [(11, i64 (jf : Nat))]) ⟨rfl, trivial⟩, As2, hgs2, hax7.trans ((Aux.drew _).trans (haxs1.trans haxs2)), hrows2, rfl⟩
      · refine RL.loadR (jf) rfl rfl rfl rfl ty33 rfl hrow hg.drew.1 (by omega) ?_
        refine RL.loadR (a) rfl rfl rfl rfl ty33 rfl hrow hg.drew.1 (by omega) ?_
        refine RL.idxR (jf) rfl rfl rfl rfl sl49 rfl rfl (by omega) (by omega) ?_
        refine RL.storeR (jf) rfl rfl rfl ty33 rfl rfl hg.drew hrow (by omega) ?_
        intro ws1 As1 hgs1 haxs1 hrows1
        refine ⟨trivial, ?_⟩
        refine RL.idxR (a) rfl rfl rfl rfl sl49 rfl rfl (by omega) (by omega) ?_
        refine RL.storeR (a) rfl rfl rfl ty33 rfl rfl hgs1 hrows1 (by simp; omega) ?_
        intro ws2 As2 hgs2 haxs2 hrows2
        refine ⟨trivial, ?_⟩
        refine RL.done ?_
        exact fun ac ha => ⟨_, ha.sub (E' := [(11, i64 (jf : Nat))]) ⟨rfl, trivial⟩, As2, hgs2, hax7.trans ((Aux.drew _).trans (haxs1.trans haxs2)), hrows2, rfl⟩
    rintro E' w8 ⟨A8, hg8, hax8, hrow8, rfl⟩
    refine CW.seq (CW.plain ?_)
    refine RL.pure rfl rfl rfl rfl ?_
    refine RL.pure rfl rfl rfl rfl ?_
    refine RL.pure rfl rfl rfl rfl ?_
    refine RL.done ?_
    refine CW.ret (ret (vs := [_, _]) ⟨_, _, rfl, rfl, _, _, rfl, rfl, rfl⟩ (Post.mk (Le.refl _) hg8 hax8 ⟨rfl, ?_, ?_⟩))
    · rw [hpt, hfin]; rfl
    · rw [hpt, hfin]; exact hrow8
end Go.Lw
