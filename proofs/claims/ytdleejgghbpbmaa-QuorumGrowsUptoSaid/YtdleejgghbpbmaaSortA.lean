/-
  The sort's small parts, walked: less, insertion, reversing, sifting, the heap.
-/
import Derived.Test.YtdleejgghbpbmaaSortRow
namespace Go.Lw
open Go.Proofs
open Go.Sort (swp size_swp)

abbrev SPost (w : World) (s : Res) (os : List Res) (g : Nat) (rest : List Value) (d : Array Int) : Ending → World → Prop := Post w s os fun s' A' r => s' = s ∧ r = .tuple #[] ∧ RowAt A' g rest d

set_option maxRecDepth 100000 in
theorem isNaN_ct {w : World} {s : Res} {os : List Res} {x : Int} (hg : Good w s os) : Calls Try.prog 66 #[.int KK x] w (PostV w s os fun r => r = .bool false) := by
  refine enter (l := [.int KK x]) Try.func66 rfl Try.ntmps66 rfl ?_
  refine CW.seq (CW.plain ?_)
  refine RL.pure rfl rfl rfl rfl ?_
  refine RL.done ?_
  refine CW.seq (CW.plain ?_)
  refine RL.pure rfl rfl rfl rfl ?_
  refine RL.pure rfl rfl rfl rfl ?_
  refine RL.pure rfl rfl rfl rfl ?_
  refine RL.pure rfl rfl rfl rfl ?_
  refine RL.done ?_
  exact CW.ret (ret (vs := [_]) ⟨_, _, rfl, rfl, rfl⟩ (PostV.mk hg (Aux.refl _) (congrArg Value.bool (by simp))))
set_option maxRecDepth 100000 in
theorem Less_ct {w : World} {s : Res} {os : List Res} {x y : Int} (hg : Good w s os) : Calls Try.prog 48 #[.int KK x, .int KK y] w (PostV w s os fun r => r = .bool (ltI x y)) := by
  refine enter (l := [.int KK x, .int KK y]) Try.func48 rfl Try.ntmps48 rfl ?_
  refine CW.seq (CW.plain ?_)
  refine RL.pure rfl rfl rfl rfl ?_
  refine RL.done ?_
  refine CW.seq (CW.plain ?_)
  refine RL.pure rfl rfl rfl rfl ?_
  refine RL.callV rfl rfl rfl rfl rfl ca66 (isNaN_ct hg) ?_
  rintro v w1 hg1 hax1 rfl
  refine ⟨trivial, ?_⟩
  refine RL.pure rfl rfl rfl rfl ?_
  refine RL.pass rfl rfl rfl ?_
  refine RL.pass rfl rfl rfl ?_
  refine RL.pass rfl rfl rfl ?_
  refine RL.pure rfl rfl rfl rfl ?_
  refine RL.pure rfl rfl rfl rfl ?_
  refine RL.pure rfl rfl rfl rfl ?_
  refine RL.pure rfl rfl rfl rfl ?_
  refine RL.pure rfl rfl rfl rfl ?_
  refine RL.pure rfl rfl rfl rfl ?_
  refine RL.pure rfl rfl rfl rfl ?_
  refine RL.done ?_
  exact CW.ret (ret (vs := [_]) ⟨_, _, rfl, rfl, rfl⟩ (PostV.mk hg1 hax1 rfl))

theorem insInner_step {a j : Nat} {d : Array Int} (h : a < j) (hl : ltI d[j]! d[j - 1]! = true) : Go.Sort.insInner ltI a j d = Go.Sort.insInner ltI a (j - 1) (swp d j (j - 1)) := by
  obtain ⟨j, rfl⟩ : ∃ i, j = i + 1 := ⟨j - 1, by omega⟩
  rw [Go.Sort.insInner]
  simp only [Nat.add_sub_cancel] at *
  rw [if_pos (by simp [hl]; omega)]
theorem insInner_end {a j : Nat} {d : Array Int} (h : ¬ a < j ∨ ltI d[j]! d[j - 1]! = false) : Go.Sort.insInner ltI a j d = d := by
  cases j with
  | zero => rfl
  | succ j =>
    rw [Go.Sort.insInner, if_neg]
    rcases h with h | h
    · simp; omega
    · simp only [Nat.add_sub_cancel] at h; simp [h]
theorem insOuter_step {a b i : Nat} {d : Array Int} (h : i < b) : Go.Sort.insOuter ltI a b i d = Go.Sort.insOuter ltI a b (i + 1) (Go.Sort.insInner ltI a i d) := by
  rw [Go.Sort.insOuter, if_pos h]
theorem insOuter_end {a b i : Nat} {d : Array Int} (h : ¬ i < b) : Go.Sort.insOuter ltI a b i d = d := by
  rw [Go.Sort.insOuter, if_neg h]


set_option maxRecDepth 100000 in
theorem insertionSort_ct {w : World} {s A : Res} {os : List Res} {g n c a b : Nat} {rest : List Value} {d : Array Int} (hg : Good w s (A :: os)) (hrow : RowAt A g rest d) (hn : d.size = n) (hb : b ≤ n) (hab : a ≤ n) (hsz : n < 4611686018427387904) :
    Calls Try.prog 42 #[.slice (some ⟨g, 0, none⟩) n c, i64 a, i64 b] w (SPost w s os g rest (Go.Sort.insertionSort ltI d a b)) := by
  refine enter (l := [.slice (some ⟨g, 0, none⟩) n c, i64 a, i64 b]) Try.func42 rfl Try.ntmps42 rfl ?_
  refine CW.seq (CW.plain ?_)
  refine RL.pure rfl rfl rfl rfl ?_
  refine RL.add rfl rfl rfl rfl rfl rfl ((by simp only [rng]; omega)) ?_
  refine RL.pure rfl rfl rfl rfl ?_
  refine RL.done ?_
  refine CW.block (CW.loop (σ := Nat) (fun k E w' => ∃ A' dk i, Good w' s (A' :: os) ∧ Aux w w' ∧ RowAt A' g rest dk ∧ dk.size = n ∧ a < i ∧ i ≤ n + 1 ∧ n + 1 - i ≤ k ∧ Go.Sort.insertionSort ltI d a b = Go.Sort.insOuter ltI a b i dk ∧ E = [(0, .slice (some ⟨g, 0, none⟩) n c), (1, i64 a), (2, i64 b), (6, i64 (i : Nat))])
    (fun k => k) (n + 1) [(0, .slice (some ⟨g, 0, none⟩) n c), (1, i64 a), (2, i64 b), (6, i64 ((a : Int) + 1))] ⟨rfl, rfl, rfl, rfl, trivial⟩ ⟨A, d, a + 1, hg, Aux.refl _, hrow, hn, by omega, by omega, by omega, rfl, rfl⟩ ?_)
  rintro k E w1 ⟨A1, d1, i, hg1, hax1, hrow1, hn1, hai, hin, hk, heq, rfl⟩
  refine CW.seq (CW.seq (CW.plain ?_))
  refine RL.pure rfl rfl rfl rfl ?_
  refine RL.pure rfl rfl rfl rfl ?_
  refine RL.pure rfl rfl rfl rfl ?_
  refine RL.done ?_
  refine CW.test rfl (fun h => ?_) (fun h => ?_)
  · refine CW.skip ?_
    have hib : i < b := by omega
    refine CW.seq (CW.block (CW.seq (CW.plain ?_)))
    refine RL.pure rfl rfl rfl rfl ?_
    refine RL.pure rfl rfl rfl rfl ?_
    refine RL.done ?_
    refine CW.block (CW.loop (σ := Nat) (fun j E w' => ∃ A' dk, Good w' s (A' :: os) ∧ Aux w w' ∧ RowAt A' g rest dk ∧ dk.size = n ∧ j ≤ i ∧ a ≤ j ∧ Go.Sort.insInner ltI a i d1 = Go.Sort.insInner ltI a j dk ∧ E = [(0, .slice (some ⟨g, 0, none⟩) n c), (1, i64 a), (2, i64 b), (6, i64 (i : Nat)), (7, i64 (j : Nat))])
      (fun j => j) i [(0, .slice (some ⟨g, 0, none⟩) n c), (1, i64 a), (2, i64 b), (6, i64 (i : Nat)), (7, i64 (i : Nat))] ⟨rfl, rfl, rfl, rfl, rfl, trivial⟩ ⟨A1, d1, hg1, hax1, hrow1, hn1, Nat.le_refl _, by omega, rfl, rfl⟩ ?_)
    rintro j E w2 ⟨A2, d2, hg, hax2, hrow, hn2, hji, haj, heq2, rfl⟩
    refine CW.seq (CW.seq ?_)
    refine CW.draws [(true, 0), (true, 1), (true, 2), (true, 3), (true, 4), (true, 5), (true, 6), (true, 7), (true, 8), (true, 9), (true, 10), (true, 11), (true, 12), (false, 13), (true, 14)] (fun w' => Good w' s (A2 :: os)) mixed (by kernel_rfl) (by kernel_rfl) (by kernel_rfl) (by kernel_rfl) hg.drew ?_
    refine RL.pure rfl rfl rfl rfl ?_
    refine RL.pure rfl rfl rfl rfl ?_
    refine RL.pure rfl rfl rfl rfl ?_
    refine RL.pure rfl rfl rfl rfl ?_
    refine RL.part 19 rfl (fun hc => ?_) (fun hc => ?_)
    · have haj' : a < j := by simpa using hc
      refine RL.pure rfl rfl rfl rfl ?_
      refine RL.pure rfl rfl rfl rfl ?_
      refine RL.idxR j rfl rfl rfl rfl sl49 rfl rfl rfl (by omega) ?_
      refine RL.loadRT j rfl rfl rfl rfl ty33 rfl hrow (fun w h => h.1) (by omega) ?_
      refine RL.pure rfl rfl rfl rfl ?_
      refine RL.pure rfl rfl rfl rfl ?_
      refine RL.sub rfl rfl rfl rfl rfl rfl ((by simp only [rng]; omega)) ?_
      refine RL.idxR (j - 1) rfl rfl rfl rfl sl49 rfl rfl (by omega) (by omega) ?_
      refine RL.loadRT (j - 1) rfl rfl rfl rfl ty33 rfl hrow (fun w h => h.1) (by omega) ?_
      refine RL.callV rfl rfl rfl rfl rfl ca48 (Less_ct hg.drew) ?_
      rintro v w3 hg3 hax3 rfl
      refine ⟨hg3, ?_⟩
      refine RL.pure rfl rfl rfl rfl ?_
      refine RL.done ?_
      have hg := hg3
      refine CW.cond rfl (fun hl => ?_) (fun hl => ?_)
      · refine CW.skip ?_
        refine CW.meet (fun E' w' => ∃ A', Good w' s (A' :: os) ∧ Aux w w' ∧ RowAt A' g rest (swp d2 j (j - 1)) ∧ E' = [(0, .slice (some ⟨g, 0, none⟩) n c), (1, i64 a), (2, i64 b), (6, i64 (i : Nat)), (7, i64 (j : Nat))]) ?_ ?_
        · refine CW.block ?_
          refine CW.forks (.fork [(true, 0), (true, 1), (true, 2), (true, 3), (true, 4), (true, 5), (true, 6), (true, 7), (true, 8), (true, 10), (true, 11), (true, 12)] (.line [(false, 9), (false, 13), (true, 14), (false, 15), (true, 16), (false, 17)]) (.line [(false, 13), (false, 9), (true, 14), (false, 15), (true, 16), (false, 17)])) (fun _ => True) mixed (by kernel_rfl) (by kernel_rfl) (by kernel_rfl) (by kernel_rfl) trivial ?_
          refine RT.pre trivial ?_
          refine RL.pure rfl rfl rfl rfl ?_
          refine RL.pure rfl rfl rfl rfl ?_
          refine RL.pure rfl rfl rfl rfl ?_
          refine RL.pure rfl rfl rfl rfl ?_
          refine RL.sub rfl rfl rfl rfl rfl rfl (by simp only [rng] at *; omega) ?_
          refine RL.pure rfl rfl rfl rfl ?_
          refine RL.pure rfl rfl rfl rfl ?_
          refine RL.sub rfl rfl rfl rfl rfl rfl (by simp only [rng] at *; omega) ?_
          refine RL.idxR (j - 1) rfl rfl rfl rfl sl49 rfl rfl (by omega) (by omega) ?_
          refine RL.pure rfl rfl rfl rfl ?_
          refine RL.pure rfl rfl rfl rfl ?_
          refine RL.idxR (j) rfl rfl rfl rfl sl49 rfl rfl (by omega) (by omega) ?_
          refine RL.done ?_
          refine RT.both (S := fun _ => True) trivial (RT.end_ (S := fun _ => True) trivial ?_) (RT.end_ (S := fun _ => True) trivial ?_)
          · refine RL.loadR (j - 1) rfl rfl rfl rfl ty33 rfl hrow hg.drew.1 (by omega) ?_
            refine RL.loadR (j) rfl rfl rfl rfl ty33 rfl hrow hg.drew.1 (by omega) ?_
            refine RL.idxR (j) rfl rfl rfl rfl sl49 rfl rfl (by omega) (by omega) ?_
            refine RL.storeR (j) rfl rfl rfl ty33 rfl rfl hg.drew hrow (by omega) ?_
            intro ws1 As1 hgs1 haxs1 hrows1
            refine ⟨trivial, ?_⟩
            refine RL.idxR (j - 1) rfl rfl rfl rfl sl49 rfl rfl (by omega) (by omega) ?_
            refine RL.storeR (j - 1) rfl rfl rfl ty33 rfl rfl hgs1 hrows1 (by simp; omega) ?_
            intro ws2 As2 hgs2 haxs2 hrows2
            refine ⟨trivial, ?_⟩
            refine RL.done ?_
            exact fun ac ha => ⟨_, ha.sub (E' := [(0, .slice (some ⟨g, 0, none⟩) n c), (1, i64 a), (2, i64 b), (6, i64 (i : Nat)), (7, i64 (j : Nat))]) ⟨rfl, rfl, rfl, rfl, rfl, trivial⟩, As2, hgs2, hax2.trans ((Aux.drew _).trans (hax3.trans ((Aux.drew _).trans (haxs1.trans haxs2)))), hrows2, rfl⟩
          · refine RL.loadR (j) rfl rfl rfl rfl ty33 rfl hrow hg.drew.1 (by omega) ?_
            refine RL.loadR (j - 1) rfl rfl rfl rfl ty33 rfl hrow hg.drew.1 (by omega) ?_
            refine RL.idxR (j) rfl rfl rfl rfl sl49 rfl rfl (by omega) (by omega) ?_
            refine RL.storeR (j) rfl rfl rfl ty33 rfl rfl hg.drew hrow (by omega) ?_
            intro ws1 As1 hgs1 haxs1 hrows1
            refine ⟨trivial, ?_⟩
            refine RL.idxR (j - 1) rfl rfl rfl rfl sl49 rfl rfl (by omega) (by omega) ?_
            refine RL.storeR (j - 1) rfl rfl rfl ty33 rfl rfl hgs1 hrows1 (by simp; omega) ?_
            intro ws2 As2 hgs2 haxs2 hrows2
            refine ⟨trivial, ?_⟩
            refine RL.done ?_
            exact fun ac ha => ⟨_, ha.sub (E' := [(0, .slice (some ⟨g, 0, none⟩) n c), (1, i64 a), (2, i64 b), (6, i64 (i : Nat)), (7, i64 (j : Nat))]) ⟨rfl, rfl, rfl, rfl, rfl, trivial⟩, As2, hgs2, hax2.trans ((Aux.drew _).trans (hax3.trans ((Aux.drew _).trans (haxs1.trans haxs2)))), hrows2, rfl⟩
        · rintro E' w5 ⟨A5, hg5, hax5, hrow5, rfl⟩
          refine CW.plain ?_
          refine RL.pure rfl rfl rfl rfl ?_
          refine RL.sub rfl rfl rfl rfl rfl rfl ((by simp only [rng]; omega)) ?_
          refine RL.pure rfl rfl rfl rfl ?_
          refine RL.done ?_
          refine fun ac ha => ⟨j - 1, [(0, .slice (some ⟨g, 0, none⟩) n c), (1, i64 a), (2, i64 b), (6, i64 (i : Nat)), (7, i64 ((j - 1 : Nat) : Int))], ha.sub ⟨rfl, rfl, rfl, rfl, congrArg (fun z => some (i64 z)) (by omega), trivial⟩, ⟨A5, _, hg5, hax5, hrow5, by rw [size_swp]; exact hn2, by omega, by omega, by rw [heq2]; exact insInner_step haj' hl, rfl⟩, by omega⟩
      · refine CW.exit ?_
        refine CW.plain ?_
        refine RL.pure rfl rfl rfl rfl ?_
        refine RL.add rfl rfl rfl rfl rfl rfl ((by simp only [rng]; omega)) ?_
        refine RL.pure rfl rfl rfl rfl ?_
        refine RL.done ?_
        have heq3 := heq2.trans (insInner_end (.inr hl))
        refine fun ac ha => ⟨k - 1, [(0, .slice (some ⟨g, 0, none⟩) n c), (1, i64 a), (2, i64 b), (6, i64 ((i : Int) + 1))], ha.sub ⟨rfl, rfl, rfl, rfl, trivial⟩, ⟨A2, d2, i + 1, hg3, hax2.trans ((Aux.drew _).trans hax3), hrow, hn2, by omega, by omega, by omega, by rw [heq, insOuter_step hib, heq3], rfl⟩, by omega⟩
    · have haj' : ¬ a < j := by simpa using hc
      refine RL.pass rfl rfl rfl ?_
      refine RL.pass rfl rfl rfl ?_
      refine RL.pass rfl rfl rfl ?_
      refine RL.pass rfl rfl rfl ?_
      refine RL.pass rfl rfl rfl ?_
      refine RL.pass rfl rfl rfl ?_
      refine RL.pass rfl rfl rfl ?_
      refine RL.pass rfl rfl rfl ?_
      refine RL.pass rfl rfl rfl ?_
      refine RL.pass rfl rfl rfl ?_
      refine RL.pure rfl rfl rfl rfl ?_
      refine RL.done ?_
      refine CW.no rfl ?_
      refine CW.exit ?_
      refine CW.plain ?_
      refine RL.pure rfl rfl rfl rfl ?_
      refine RL.add rfl rfl rfl rfl rfl rfl ((by simp only [rng]; omega)) ?_
      refine RL.pure rfl rfl rfl rfl ?_
      refine RL.done ?_
      have heq3 := heq2.trans (insInner_end (.inl haj'))
      refine fun ac ha => ⟨k - 1, [(0, .slice (some ⟨g, 0, none⟩) n c), (1, i64 a), (2, i64 b), (6, i64 ((i : Int) + 1))], ha.sub ⟨rfl, rfl, rfl, rfl, trivial⟩, ⟨A2, d2, i + 1, hg.drew, hax2.trans (Aux.drew _), hrow, hn2, by omega, by omega, by omega, by rw [heq, insOuter_step hib, heq3], rfl⟩, by omega⟩
  · refine CW.exit ?_
    refine fall (vs := []) rfl (Post.mk (Le.refl _) hg1 hax1 ⟨rfl, rfl, ?_⟩)
    rw [heq, insOuter_end (by omega)]
    exact hrow1
end Go.Lw
