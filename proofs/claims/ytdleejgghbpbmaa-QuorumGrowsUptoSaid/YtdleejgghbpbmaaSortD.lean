/-
  The sort's other partition, walked.
-/
import Derived.Test.YtdleejgghbpbmaaSortC
namespace Go.Lw
open Go.Proofs
open Go.Sort (swp size_swp)

-- a scan upwards: F, RC (the test's region), its order of operations, RI (the step's region), t-names: guard tg, idx/load 1 (at M1), idx/load 2 (at M2), call tc with contract arguments; TI TJ: the slots of i and j


set_option maxHeartbeats 1000000 in
set_option maxRecDepth 100000 in
theorem partitionEqual_ct {w : World} {s A : Res} {os : List Res} {g n c a b pivot : Nat} {rest : List Value} {d : Array Int} (hg : Good w s (A :: os)) (hrow : RowAt A g rest d) (hn : d.size = n) (hb : b ≤ n) (hap : a ≤ pivot) (hpb : pivot < b) (hsz : n < 2305843009213693952) :
    Calls Try.prog 49 #[.slice (some ⟨g, 0, none⟩) n c, i64 a, i64 b, i64 pivot] w
      (Post w s os fun s' A' r => s' = s ∧ r = i64 ((Go.Sort.partitionEqual ltI d a b pivot).1 : Nat) ∧ RowAt A' g rest (Go.Sort.partitionEqual ltI d a b pivot).2) := by
  refine enter (l := [.slice (some ⟨g, 0, none⟩) n c, i64 a, i64 b, i64 pivot]) Try.func49 rfl Try.ntmps49 rfl ?_
  refine CW.seq (CW.plain ?_)
  refine RL.pure rfl rfl rfl rfl ?_
  refine RL.done ?_
  refine CW.meet (fun E' w' => ∃ A', Good w' s (A' :: os) ∧ Aux w w' ∧ RowAt A' g rest (swp d a pivot) ∧ E' = [(0, .slice (some ⟨g, 0, none⟩) n c), (1, i64 a), (2, i64 b)]) ?_ ?_
  · skip
    refine CW.forks (.fork [(true, 0), (true, 1), (true, 2), (true, 3), (true, 4), (true, 5), (true, 6), (true, 8), (true, 9), (true, 10)] (.line [(false, 7), (false, 11), (true, 12), (false, 13), (true, 14), (false, 15)]) (.line [(false, 11), (false, 7), (true, 12), (false, 13), (true, 14), (false, 15)])) (fun _ => True) mixed (by kernel_rfl) (by kernel_rfl) (by kernel_rfl) (by kernel_rfl) trivial ?_
    refine RT.pre trivial ?_
    refine RL.pure rfl rfl rfl rfl ?_
    refine RL.pure rfl rfl rfl rfl ?_
    refine RL.pure rfl rfl rfl rfl ?_
    refine RL.pure rfl rfl rfl rfl ?_
    refine RL.pure rfl rfl rfl rfl ?_
    refine RL.pure rfl rfl rfl rfl ?_
    refine RL.idxR (pivot) rfl rfl rfl rfl sl49 rfl rfl (by omega) (by omega) ?_
    refine RL.pure rfl rfl rfl rfl ?_
    refine RL.pure rfl rfl rfl rfl ?_
    refine RL.idxR (a) rfl rfl rfl rfl sl49 rfl rfl (by omega) (by omega) ?_
    refine RL.done ?_
    refine RT.both (S := fun _ => True) trivial (RT.end_ (S := fun _ => True) trivial ?_) (RT.end_ (S := fun _ => True) trivial ?_)
    · refine RL.loadR (pivot) rfl rfl rfl rfl ty33 rfl hrow hg.drew.1 (by omega) ?_
      refine RL.loadR (a) rfl rfl rfl rfl ty33 rfl hrow hg.drew.1 (by omega) ?_
      refine RL.idxR (a) rfl rfl rfl rfl sl49 rfl rfl (by omega) (by omega) ?_
      refine RL.storeR (a) rfl rfl rfl ty33 rfl rfl hg.drew hrow (by omega) ?_
      intro ws1 As1 hgs1 haxs1 hrows1
      refine ⟨trivial, ?_⟩
      refine RL.idxR (pivot) rfl rfl rfl rfl sl49 rfl rfl (by omega) (by omega) ?_
      refine RL.storeR (pivot) rfl rfl rfl ty33 rfl rfl hgs1 hrows1 (by simp; omega) ?_
      intro ws2 As2 hgs2 haxs2 hrows2
      refine ⟨trivial, ?_⟩
      refine RL.done ?_
      exact fun ac ha => ⟨_, ha.sub (E' := [(0, .slice (some ⟨g, 0, none⟩) n c), (1, i64 a), (2, i64 b)]) ⟨rfl, rfl, rfl, trivial⟩, As2, hgs2, (Aux.drew _).trans (haxs1.trans haxs2), hrows2, rfl⟩
    · refine RL.loadR (a) rfl rfl rfl rfl ty33 rfl hrow hg.drew.1 (by omega) ?_
      refine RL.loadR (pivot) rfl rfl rfl rfl ty33 rfl hrow hg.drew.1 (by omega) ?_
      refine RL.idxR (a) rfl rfl rfl rfl sl49 rfl rfl (by omega) (by omega) ?_
      refine RL.storeR (a) rfl rfl rfl ty33 rfl rfl hg.drew hrow (by omega) ?_
      intro ws1 As1 hgs1 haxs1 hrows1
      refine ⟨trivial, ?_⟩
      refine RL.idxR (pivot) rfl rfl rfl rfl sl49 rfl rfl (by omega) (by omega) ?_
      refine RL.storeR (pivot) rfl rfl rfl ty33 rfl rfl hgs1 hrows1 (by simp; omega) ?_
      intro ws2 As2 hgs2 haxs2 hrows2
      refine ⟨trivial, ?_⟩
      refine RL.done ?_
      exact fun ac ha => ⟨_, ha.sub (E' := [(0, .slice (some ⟨g, 0, none⟩) n c), (1, i64 a), (2, i64 b)]) ⟨rfl, rfl, rfl, trivial⟩, As2, hgs2, (Aux.drew _).trans (haxs1.trans haxs2), hrows2, rfl⟩
  rintro E' w1 ⟨A0, hg0, hax0, hrow0, rfl⟩
  have hn0 : (swp d a pivot).size = n := by rw [size_swp]; exact hn
  have hpe : Go.Sort.partitionEqual ltI d a b pivot = Go.Sort.partEqLoop ltI a (a + 1) (b - 1) (swp d a pivot) := rfl
  generalize swp d a pivot = d0 at *
  refine CW.seq (CW.plain ?_)
  refine RL.pure rfl rfl rfl rfl ?_
  refine RL.add rfl rfl rfl rfl rfl rfl ((by simp only [rng]; omega)) ?_
  refine RL.pure rfl rfl rfl rfl ?_
  refine RL.sub rfl rfl rfl rfl rfl rfl ((by simp only [rng]; omega)) ?_
  refine RL.pure rfl rfl rfl rfl ?_
  refine RL.pure rfl rfl rfl rfl ?_
  refine RL.done ?_
  refine CW.meet (fun E' w' => ∃ A' dk f, Good w' s (A' :: os) ∧ Aux w w' ∧ RowAt A' g rest dk ∧ Go.Sort.partitionEqual ltI d a b pivot = (f, dk) ∧ E' = [(9, i64 (f : Nat))]) ?_ ?_
  · refine CW.block (CW.loop (σ := Nat) (fun k E w' => ∃ A' dk i j, Good w' s (A' :: os) ∧ Aux w w' ∧ RowAt A' g rest dk ∧ dk.size = n ∧ a < i ∧ i ≤ j + 2 ∧ a ≤ j ∧ j < n ∧ j + 2 - i ≤ k ∧ Go.Sort.partitionEqual ltI d a b pivot = Go.Sort.partEqLoop ltI a i j dk ∧ E = [(0, .slice (some ⟨g, 0, none⟩) n c), (1, i64 a), (9, i64 (i : Nat)), (10, i64 (j : Nat))])
      (fun k => k) (n + 2) [(0, .slice (some ⟨g, 0, none⟩) n c), (1, i64 a), (9, i64 ((a + 1 : Nat) : Int)), (10, i64 ((b - 1 : Nat) : Int))] ⟨rfl, rfl, rfl, congrArg (fun z => some (i64 z)) (by omega), trivial⟩ ⟨A0, d0, a + 1, b - 1, hg0, hax0, hrow0, hn0, by omega, by omega, by omega, by omega, by omega, hpe, rfl⟩ ?_)
    rintro k E w7 ⟨A1, d1, i, j, hg1, hax1, hrow1, hn1, hai, hij, haj, hjn, hk, heq, rfl⟩
    refine CW.block ?_
    refine CW.meet (fun E' w' => ∃ x, Good w' s (A1 :: os) ∧ Aux w w' ∧ i ≤ x ∧ x ≤ j + 1 + (i - (j + 1)) ∧ Go.Sort.scanUp (fun x => !ltI d1[a]! x) d1 j i = x ∧ E' = [(0, .slice (some ⟨g, 0, none⟩) n c), (1, i64 a), (9, i64 (x : Nat)), (10, i64 (j : Nat))]) ?_ ?_
    · skip
      refine CW.block (CW.loop (σ := Nat) (fun k E w' => ∃ x, Good w' s (A1 :: os) ∧ Aux w w' ∧ i ≤ x ∧ x ≤ j + 1 + (i - (j + 1)) ∧ j + 1 - x ≤ k ∧ Go.Sort.scanUp (fun x => !ltI d1[a]! x) d1 j i = Go.Sort.scanUp (fun x => !ltI d1[a]! x) d1 j x ∧ E = [(0, .slice (some ⟨g, 0, none⟩) n c), (1, i64 a), (9, i64 (x : Nat)), (10, i64 (j : Nat))])
        (fun k => k) (j + 1) [(0, .slice (some ⟨g, 0, none⟩) n c), (1, i64 a), (9, i64 (i : Nat)), (10, i64 (j : Nat))] ⟨rfl, rfl, rfl, rfl, trivial⟩ ⟨i, hg1, hax1, Nat.le_refl _, by omega, by omega, rfl, rfl⟩ ?_)
      rintro k E w2 ⟨x, hg, hax2, hix, hxj, hk, hsc, rfl⟩
      refine CW.seq (CW.seq ?_)
      refine CW.draws [(true, 0), (true, 1), (true, 2), (true, 3), (true, 4), (true, 5), (true, 6), (true, 7), (true, 8), (true, 9), (true, 10), (true, 11), (false, 12), (true, 13), (true, 14)] (fun w' => Good w' s (A1 :: os)) mixed (by kernel_rfl) (by kernel_rfl) (by kernel_rfl) (by kernel_rfl) hg.drew ?_
      refine RL.pure rfl rfl rfl rfl ?_
      refine RL.pure rfl rfl rfl rfl ?_
      refine RL.pure rfl rfl rfl rfl ?_
      refine RL.pure rfl rfl rfl rfl ?_
      refine RL.part 32 rfl (fun hc => ?_) (fun hc => ?_)
      · have hxj' : x ≤ j := by have := of_decide_eq_true hc; omega
        refine RL.pure rfl rfl rfl rfl ?_
        refine RL.pure rfl rfl rfl rfl ?_
        refine RL.idxR (a) rfl rfl rfl rfl sl49 rfl rfl (by omega) (by omega) ?_
        refine RL.loadRT (a) rfl rfl rfl rfl ty33 rfl hrow1 (fun w h => h.1) (by omega) ?_
        refine RL.pure rfl rfl rfl rfl ?_
        refine RL.pure rfl rfl rfl rfl ?_
        refine RL.idxR (x) rfl rfl rfl rfl sl49 rfl rfl (by omega) (by omega) ?_
        refine RL.loadRT (x) rfl rfl rfl rfl ty33 rfl hrow1 (fun w h => h.1) (by omega) ?_
        refine RL.callV rfl rfl rfl rfl rfl ca48 (Less_ct hg.drew) ?_
        rintro v w3 hg3 hax3 rfl
        refine ⟨hg3, ?_⟩
        refine RL.pure rfl rfl rfl rfl ?_
        refine RL.pure rfl rfl rfl rfl ?_
        refine RL.done ?_
        refine CW.cond rfl (fun hl => ?_) (fun hl => ?_)
        · refine CW.skip ?_
          refine CW.block (CW.plain ?_)
          refine RL.pure rfl rfl rfl rfl ?_
          refine RL.add rfl rfl rfl rfl rfl rfl ((by simp only [rng]; omega)) ?_
          refine RL.pure rfl rfl rfl rfl ?_
          refine RL.done ?_
          refine fun ac ha => ⟨k - 1, [(0, .slice (some ⟨g, 0, none⟩) n c), (1, i64 a), (9, i64 ((x : Int) + 1)), (10, i64 (j : Nat))], ha.sub ⟨rfl, rfl, rfl, rfl, trivial⟩, ⟨x + 1, hg3, hax2.trans ((Aux.drew _).trans hax3), by omega, by omega, by omega, by rw [hsc]; exact scanUp_step (p := fun x => !ltI d1[a]! x) hxj' (by simpa using hl), rfl⟩, by omega⟩
        · refine CW.exit (fun ac ha => ⟨_, ha.sub (E' := [(0, .slice (some ⟨g, 0, none⟩) n c), (1, i64 a), (9, i64 (x : Nat)), (10, i64 (j : Nat))]) ⟨rfl, rfl, rfl, rfl, trivial⟩, x, hg3, hax2.trans ((Aux.drew _).trans hax3), hix, hxj, by rw [hsc]; exact scanUp_end (p := fun x => !ltI d1[a]! x) (.inr (by simpa using hl)), rfl⟩)
      · have hxj' : ¬ x ≤ j := by have := of_decide_eq_false hc; omega
        refine RL.pass rfl rfl rfl ?_
        refine RL.pass rfl rfl rfl ?_
        refine RL.pass rfl rfl rfl ?_
        refine RL.pass rfl rfl rfl ?_
        refine RL.pass rfl rfl rfl ?_
        refine RL.pass rfl rfl rfl ?_
        refine RL.pass rfl rfl rfl ?_
        refine RL.pass rfl rfl rfl ?_
        refine RL.pass rfl rfl rfl ?_
        refine RL.pass rfl rfl rfl ?_
        refine RL.pure rfl rfl rfl rfl ?_
        refine RL.done ?_
        refine CW.no rfl ?_
        refine CW.exit (fun ac ha => ⟨_, ha.sub (E' := [(0, .slice (some ⟨g, 0, none⟩) n c), (1, i64 a), (9, i64 (x : Nat)), (10, i64 (j : Nat))]) ⟨rfl, rfl, rfl, rfl, trivial⟩, x, hg.drew, hax2.trans (Aux.drew _), hix, hxj, by rw [hsc]; exact scanUp_end (p := fun x => !ltI d1[a]! x) (.inl hxj'), rfl⟩)
    rintro E' w4 ⟨i2, hg4, hax4, hii2, hi2j, hup, rfl⟩
    have h1i : 1 ≤ i2 := by omega
    refine CW.meet (fun E' w' => ∃ y, Good w' s (A1 :: os) ∧ Aux w w' ∧ y ≤ j ∧ (i2 ≤ y + 1 ∨ y = j) ∧ Go.Sort.scanDown (fun x => ltI d1[a]! x) d1 i2 j = y ∧ E' = [(0, .slice (some ⟨g, 0, none⟩) n c), (1, i64 a), (9, i64 (i2 : Nat)), (10, i64 (y : Nat))]) ?_ ?_
    · skip
      refine CW.block (CW.loop (σ := Nat) (fun k E w' => ∃ y, Good w' s (A1 :: os) ∧ Aux w w' ∧ y ≤ j ∧ (i2 ≤ y + 1 ∨ y = j) ∧ y ≤ k ∧ Go.Sort.scanDown (fun x => ltI d1[a]! x) d1 i2 j = Go.Sort.scanDown (fun x => ltI d1[a]! x) d1 i2 y ∧ E = [(0, .slice (some ⟨g, 0, none⟩) n c), (1, i64 a), (9, i64 (i2 : Nat)), (10, i64 (y : Nat))])
        (fun k => k) j [(0, .slice (some ⟨g, 0, none⟩) n c), (1, i64 a), (9, i64 (i2 : Nat)), (10, i64 (j : Nat))] ⟨rfl, rfl, rfl, rfl, trivial⟩ ⟨j, hg4, hax4, Nat.le_refl _, .inr rfl, Nat.le_refl _, rfl, rfl⟩ ?_)
      rintro k E w2 ⟨y, hg, hax2, hyj, hiy, hk, hsc, rfl⟩
      refine CW.seq (CW.seq ?_)
      refine CW.draws [(true, 0), (true, 1), (true, 2), (true, 3), (true, 4), (true, 5), (true, 6), (true, 7), (true, 8), (true, 9), (true, 10), (true, 11), (false, 12), (true, 13)] (fun w' => Good w' s (A1 :: os)) mixed (by kernel_rfl) (by kernel_rfl) (by kernel_rfl) (by kernel_rfl) hg.drew ?_
      refine RL.pure rfl rfl rfl rfl ?_
      refine RL.pure rfl rfl rfl rfl ?_
      refine RL.pure rfl rfl rfl rfl ?_
      refine RL.pure rfl rfl rfl rfl ?_
      refine RL.part 49 rfl (fun hc => ?_) (fun hc => ?_)
      · have hxj' : i2 ≤ y := by have := of_decide_eq_true hc; omega
        refine RL.pure rfl rfl rfl rfl ?_
        refine RL.pure rfl rfl rfl rfl ?_
        refine RL.idxR (a) rfl rfl rfl rfl sl49 rfl rfl (by omega) (by omega) ?_
        refine RL.loadRT (a) rfl rfl rfl rfl ty33 rfl hrow1 (fun w h => h.1) (by omega) ?_
        refine RL.pure rfl rfl rfl rfl ?_
        refine RL.pure rfl rfl rfl rfl ?_
        refine RL.idxR (y) rfl rfl rfl rfl sl49 rfl rfl (by omega) (by omega) ?_
        refine RL.loadRT (y) rfl rfl rfl rfl ty33 rfl hrow1 (fun w h => h.1) (by omega) ?_
        refine RL.callV rfl rfl rfl rfl rfl ca48 (Less_ct hg.drew) ?_
        rintro v w3 hg3 hax3 rfl
        refine ⟨hg3, ?_⟩
        refine RL.pure rfl rfl rfl rfl ?_
        refine RL.done ?_
        refine CW.cond rfl (fun hl => ?_) (fun hl => ?_)
        · refine CW.skip ?_
          refine CW.block (CW.plain ?_)
          refine RL.pure rfl rfl rfl rfl ?_
          refine RL.sub rfl rfl rfl rfl rfl rfl ((by simp only [rng]; omega)) ?_
          refine RL.pure rfl rfl rfl rfl ?_
          refine RL.done ?_
          refine fun ac ha => ⟨k - 1, [(0, .slice (some ⟨g, 0, none⟩) n c), (1, i64 a), (9, i64 (i2 : Nat)), (10, i64 ((y - 1 : Nat) : Int))], ha.sub ⟨rfl, rfl, rfl, congrArg (fun z => some (i64 z)) (by omega), trivial⟩, ⟨y - 1, hg3, hax2.trans ((Aux.drew _).trans hax3), by omega, by omega, by omega, by rw [hsc]; exact scanDown_step (p := fun x => ltI d1[a]! x) hxj' (by omega) (by simpa using hl), rfl⟩, by omega⟩
        · refine CW.exit (fun ac ha => ⟨_, ha.sub (E' := [(0, .slice (some ⟨g, 0, none⟩) n c), (1, i64 a), (9, i64 (i2 : Nat)), (10, i64 (y : Nat))]) ⟨rfl, rfl, rfl, rfl, trivial⟩, y, hg3, hax2.trans ((Aux.drew _).trans hax3), hyj, hiy, by rw [hsc]; exact scanDown_end (p := fun x => ltI d1[a]! x) (.inr (by simpa using hl)), rfl⟩)
      · have hxj' : ¬ i2 ≤ y := by have := of_decide_eq_false hc; omega
        refine RL.pass rfl rfl rfl ?_
        refine RL.pass rfl rfl rfl ?_
        refine RL.pass rfl rfl rfl ?_
        refine RL.pass rfl rfl rfl ?_
        refine RL.pass rfl rfl rfl ?_
        refine RL.pass rfl rfl rfl ?_
        refine RL.pass rfl rfl rfl ?_
        refine RL.pass rfl rfl rfl ?_
        refine RL.pass rfl rfl rfl ?_
        refine RL.pure rfl rfl rfl rfl ?_
        refine RL.done ?_
        refine CW.no rfl ?_
        refine CW.exit (fun ac ha => ⟨_, ha.sub (E' := [(0, .slice (some ⟨g, 0, none⟩) n c), (1, i64 a), (9, i64 (i2 : Nat)), (10, i64 (y : Nat))]) ⟨rfl, rfl, rfl, rfl, trivial⟩, y, hg.drew, hax2.trans (Aux.drew _), hyj, hiy, by rw [hsc]; exact scanDown_end (p := fun x => ltI d1[a]! x) (.inl hxj'), rfl⟩)
    rintro E' w8 ⟨j2, hg8, hax8, hj2j, hij2, hdown, rfl⟩
    have hloop := partEq_eq hup hdown hii2 hj2j
    refine CW.seq (CW.seq (CW.plain ?_))
    refine RL.pure rfl rfl rfl rfl ?_
    refine RL.pure rfl rfl rfl rfl ?_
    refine RL.pure rfl rfl rfl rfl ?_
    refine RL.done ?_
    refine CW.test rfl (fun h3 => ?_) (fun h3 => ?_)
    · have h3' : i2 > j2 := by omega
      refine CW.exit (fun ac ha => ⟨_, ha.sub (E' := [(9, i64 (i2 : Nat))]) ⟨rfl, trivial⟩, A1, d1, i2, hg8, hax8, hrow1, by rw [heq, hloop, if_pos h3'], rfl⟩)
    · have h3' : ¬ i2 > j2 := by omega
      refine CW.skip ?_
      have hg := hg8
      have hrow := hrow1
      have hn := hn1
      refine CW.meet (fun E' w' => ∃ A', Good w' s (A' :: os) ∧ Aux w w' ∧ RowAt A' g rest (swp d1 i2 j2) ∧ E' = [(0, .slice (some ⟨g, 0, none⟩) n c), (1, i64 a), (9, i64 (i2 : Nat)), (10, i64 (j2 : Nat))]) ?_ ?_
      · skip
        refine CW.forks (.fork [(true, 0), (true, 1), (true, 2), (true, 3), (true, 4), (true, 5), (true, 6), (true, 8), (true, 9), (true, 10)] (.line [(false, 7), (false, 11), (true, 12), (false, 13), (true, 14), (false, 15)]) (.line [(false, 11), (false, 7), (true, 12), (false, 13), (true, 14), (false, 15)])) (fun _ => True) mixed (by kernel_rfl) (by kernel_rfl) (by kernel_rfl) (by kernel_rfl) trivial ?_
        refine RT.pre trivial ?_
        refine RL.pure rfl rfl rfl rfl ?_
        refine RL.pure rfl rfl rfl rfl ?_
        refine RL.pure rfl rfl rfl rfl ?_
        refine RL.pure rfl rfl rfl rfl ?_
        refine RL.pure rfl rfl rfl rfl ?_
        refine RL.pure rfl rfl rfl rfl ?_
        refine RL.idxR (j2) rfl rfl rfl rfl sl49 rfl rfl (by omega) (by omega) ?_
        refine RL.pure rfl rfl rfl rfl ?_
        refine RL.pure rfl rfl rfl rfl ?_
        refine RL.idxR (i2) rfl rfl rfl rfl sl49 rfl rfl (by omega) (by omega) ?_
        refine RL.done ?_
        refine RT.both (S := fun _ => True) trivial (RT.end_ (S := fun _ => True) trivial ?_) (RT.end_ (S := fun _ => True) trivial ?_)
        · refine RL.loadR (j2) rfl rfl rfl rfl ty33 rfl hrow hg.drew.1 (by omega) ?_
          refine RL.loadR (i2) rfl rfl rfl rfl ty33 rfl hrow hg.drew.1 (by omega) ?_
          refine RL.idxR (i2) rfl rfl rfl rfl sl49 rfl rfl (by omega) (by omega) ?_
          refine RL.storeR (i2) rfl rfl rfl ty33 rfl rfl hg.drew hrow (by omega) ?_
          intro ws1 As1 hgs1 haxs1 hrows1
          refine ⟨trivial, ?_⟩
          refine RL.idxR (j2) rfl rfl rfl rfl sl49 rfl rfl (by omega) (by omega) ?_
          refine RL.storeR (j2) rfl rfl rfl ty33 rfl rfl hgs1 hrows1 (by simp; omega) ?_
          intro ws2 As2 hgs2 haxs2 hrows2
          refine ⟨trivial, ?_⟩
          refine RL.done ?_
          exact fun ac ha => ⟨_, ha.sub (E' := [(0, .slice (some ⟨g, 0, none⟩) n c), (1, i64 a), (9, i64 (i2 : Nat)), (10, i64 (j2 : Nat))]) ⟨rfl, rfl, rfl, rfl, trivial⟩, As2, hgs2, hax8.trans ((Aux.drew _).trans (haxs1.trans haxs2)), hrows2, rfl⟩
        · refine RL.loadR (i2) rfl rfl rfl rfl ty33 rfl hrow hg.drew.1 (by omega) ?_
          refine RL.loadR (j2) rfl rfl rfl rfl ty33 rfl hrow hg.drew.1 (by omega) ?_
          refine RL.idxR (i2) rfl rfl rfl rfl sl49 rfl rfl (by omega) (by omega) ?_
          refine RL.storeR (i2) rfl rfl rfl ty33 rfl rfl hg.drew hrow (by omega) ?_
          intro ws1 As1 hgs1 haxs1 hrows1
          refine ⟨trivial, ?_⟩
          refine RL.idxR (j2) rfl rfl rfl rfl sl49 rfl rfl (by omega) (by omega) ?_
          refine RL.storeR (j2) rfl rfl rfl ty33 rfl rfl hgs1 hrows1 (by simp; omega) ?_
          intro ws2 As2 hgs2 haxs2 hrows2
          refine ⟨trivial, ?_⟩
          refine RL.done ?_
          exact fun ac ha => ⟨_, ha.sub (E' := [(0, .slice (some ⟨g, 0, none⟩) n c), (1, i64 a), (9, i64 (i2 : Nat)), (10, i64 (j2 : Nat))]) ⟨rfl, rfl, rfl, rfl, trivial⟩, As2, hgs2, hax8.trans ((Aux.drew _).trans (haxs1.trans haxs2)), hrows2, rfl⟩
      rintro E' w9 ⟨A9, hg9, hax9, hrow9, rfl⟩
      refine CW.seq (CW.plain ?_)
      refine RL.pure rfl rfl rfl rfl ?_
      refine RL.add rfl rfl rfl rfl rfl rfl ((by simp only [rng]; omega)) ?_
      refine RL.pure rfl rfl rfl rfl ?_
      refine RL.done ?_
      refine CW.plain ?_
      refine RL.pure rfl rfl rfl rfl ?_
      refine RL.sub rfl rfl rfl rfl rfl rfl ((by simp only [rng]; omega)) ?_
      refine RL.pure rfl rfl rfl rfl ?_
      refine RL.done ?_
      refine fun ac ha => ⟨k - 1, [(0, .slice (some ⟨g, 0, none⟩) n c), (1, i64 a), (9, i64 ((i2 + 1 : Nat) : Int)), (10, i64 ((j2 - 1 : Nat) : Int))], ha.sub ⟨rfl, rfl, rfl, congrArg (fun z => some (i64 z)) (by omega), trivial⟩, ⟨A9, _, i2 + 1, j2 - 1, hg9, hax9, hrow9, by rw [size_swp]; exact hn1, by omega, by omega, by omega, by omega, by omega, by rw [heq, hloop, if_neg h3'], rfl⟩, by omega⟩
  rintro E' w7 ⟨A7, d7, f, hg7, hax7, hrow7, hfin, rfl⟩
  refine CW.seq (CW.plain ?_)
  refine RL.pure rfl rfl rfl rfl ?_
  refine RL.pure rfl rfl rfl rfl ?_
  refine RL.done ?_
  refine CW.ret (ret (vs := [_]) ⟨_, _, rfl, rfl, rfl⟩ (Post.mk (Le.refl _) hg7 hax7 ⟨rfl, ?_, ?_⟩))
  · rw [hfin]; rfl
  · rw [hfin]; exact hrow7
end Go.Lw
