/-
  The sort's small parts, walked: reversing, sifting, the heap.
-/
import Derived.Test.YtdleejgghbpbmaaSortA
namespace Go.Lw
open Go.Proofs
open Go.Sort (swp size_swp)

theorem reverse_step {i j : Nat} {d : Array Int} (h : i < j) : Go.Sort.reverseLoop i j d = Go.Sort.reverseLoop (i + 1) (j - 1) (swp d i j) := by rw [Go.Sort.reverseLoop, if_pos h]
theorem reverse_end {i j : Nat} {d : Array Int} (h : ¬ i < j) : Go.Sort.reverseLoop i j d = d := by rw [Go.Sort.reverseLoop, if_neg h]

set_option maxRecDepth 100000 in
theorem reverseRange_ct {w : World} {s A : Res} {os : List Res} {g n c a b : Nat} {rest : List Value} {d : Array Int} (hg : Good w s (A :: os)) (hrow : RowAt A g rest d) (hn : d.size = n) (hb : b ≤ n) (hab : a < b) (hsz : n < 4611686018427387904) :
    Calls Try.prog 46 #[.slice (some ⟨g, 0, none⟩) n c, i64 a, i64 b] w (SPost w s os g rest (Go.Sort.reverseRange d a b)) := by
  refine enter (l := [.slice (some ⟨g, 0, none⟩) n c, i64 a, i64 b]) Try.func46 rfl Try.ntmps46 rfl ?_
  refine CW.seq (CW.plain ?_)
  refine RL.pure rfl rfl rfl rfl ?_
  refine RL.pure rfl rfl rfl rfl ?_
  refine RL.done ?_
  refine CW.seq (CW.plain ?_)
  refine RL.pure rfl rfl rfl rfl ?_
  refine RL.sub rfl rfl rfl rfl rfl rfl ((by simp only [rng]; omega)) ?_
  refine RL.pure rfl rfl rfl rfl ?_
  refine RL.done ?_
  refine CW.block (CW.loop (σ := Nat) (fun k E w' => ∃ A' dk i j, Good w' s (A' :: os) ∧ Aux w w' ∧ RowAt A' g rest dk ∧ dk.size = n ∧ i ≤ j + 1 ∧ j < n ∧ j - i ≤ k ∧ Go.Sort.reverseRange d a b = Go.Sort.reverseLoop i j dk ∧ E = [(0, .slice (some ⟨g, 0, none⟩) n c), (6, i64 (i : Nat)), (7, i64 (j : Nat))])
    (fun k => k) n [(0, .slice (some ⟨g, 0, none⟩) n c), (6, i64 a), (7, i64 ((b - 1 : Nat) : Int))] ⟨rfl, rfl, congrArg (fun z => some (i64 z)) (by omega), trivial⟩ ⟨A, d, a, b - 1, hg, Aux.refl _, hrow, hn, by omega, by omega, by omega, rfl, rfl⟩ ?_)
  rintro k E w1 ⟨A1, d1, i, j, hg, hax1, hrow, hn1, hij, hjn, hk, heq, rfl⟩
  refine CW.seq (CW.seq (CW.plain ?_))
  refine RL.pure rfl rfl rfl rfl ?_
  refine RL.pure rfl rfl rfl rfl ?_
  refine RL.pure rfl rfl rfl rfl ?_
  refine RL.done ?_
  refine CW.test rfl (fun h => ?_) (fun h => ?_)
  · refine CW.skip ?_
    refine CW.block ?_
    refine CW.meet (fun E' w' => ∃ A', Good w' s (A' :: os) ∧ Aux w w' ∧ RowAt A' g rest (swp d1 i j) ∧ E' = [(0, .slice (some ⟨g, 0, none⟩) n c), (6, i64 (i : Nat)), (7, i64 (j : Nat))]) ?_ ?_
    · skip
      refine CW.forks (.fork [(true, 0), (true, 1), (true, 2), (true, 3), (true, 4), (true, 5), (true, 6), (true, 8), (true, 9), (true, 10)] (.line [(false, 7), (false, 11), (true, 12), (false, 13), (true, 14), (false, 15)]) (.line [(false, 11), (false, 7), (true, 12), (false, 13), (true, 14), (false, 15)])) (fun _ => True) mixed (by kernel_rfl) (by kernel_rfl) (by kernel_rfl) (by kernel_rfl) trivial ?_
      refine RT.pre trivial ?_
      refine RL.pure rfl rfl rfl rfl ?_
      refine RL.pure rfl rfl rfl rfl ?_
      refine RL.pure rfl rfl rfl rfl ?_
      refine RL.pure rfl rfl rfl rfl ?_
      refine RL.pure rfl rfl rfl rfl ?_
      refine RL.pure rfl rfl rfl rfl ?_
      refine RL.idxR (j) rfl rfl rfl rfl sl49 rfl rfl (by omega) (by omega) ?_
      refine RL.pure rfl rfl rfl rfl ?_
      refine RL.pure rfl rfl rfl rfl ?_
      refine RL.idxR (i) rfl rfl rfl rfl sl49 rfl rfl (by omega) (by omega) ?_
      refine RL.done ?_
      refine RT.both (S := fun _ => True) trivial (RT.end_ (S := fun _ => True) trivial ?_) (RT.end_ (S := fun _ => True) trivial ?_)
      · refine RL.loadR (j) rfl rfl rfl rfl ty33 rfl hrow hg.drew.1 (by omega) ?_
        refine RL.loadR (i) rfl rfl rfl rfl ty33 rfl hrow hg.drew.1 (by omega) ?_
        refine RL.idxR (i) rfl rfl rfl rfl sl49 rfl rfl (by omega) (by omega) ?_
        refine RL.storeR (i) rfl rfl rfl ty33 rfl rfl hg.drew hrow (by omega) ?_
        intro ws1 As1 hgs1 haxs1 hrows1
        refine ⟨trivial, ?_⟩
        refine RL.idxR (j) rfl rfl rfl rfl sl49 rfl rfl (by omega) (by omega) ?_
        refine RL.storeR (j) rfl rfl rfl ty33 rfl rfl hgs1 hrows1 (by simp; omega) ?_
        intro ws2 As2 hgs2 haxs2 hrows2
        refine ⟨trivial, ?_⟩
        refine RL.done ?_
        exact fun ac ha => ⟨_, ha.sub (E' := [(0, .slice (some ⟨g, 0, none⟩) n c), (6, i64 (i : Nat)), (7, i64 (j : Nat))]) ⟨rfl, rfl, rfl, trivial⟩, As2, hgs2, hax1.trans ((Aux.drew _).trans (haxs1.trans haxs2)), hrows2, rfl⟩
      · refine RL.loadR (i) rfl rfl rfl rfl ty33 rfl hrow hg.drew.1 (by omega) ?_
        refine RL.loadR (j) rfl rfl rfl rfl ty33 rfl hrow hg.drew.1 (by omega) ?_
        refine RL.idxR (i) rfl rfl rfl rfl sl49 rfl rfl (by omega) (by omega) ?_
        refine RL.storeR (i) rfl rfl rfl ty33 rfl rfl hg.drew hrow (by omega) ?_
        intro ws1 As1 hgs1 haxs1 hrows1
        refine ⟨trivial, ?_⟩
        refine RL.idxR (j) rfl rfl rfl rfl sl49 rfl rfl (by omega) (by omega) ?_
        refine RL.storeR (j) rfl rfl rfl ty33 rfl rfl hgs1 hrows1 (by simp; omega) ?_
        intro ws2 As2 hgs2 haxs2 hrows2
        refine ⟨trivial, ?_⟩
        refine RL.done ?_
        exact fun ac ha => ⟨_, ha.sub (E' := [(0, .slice (some ⟨g, 0, none⟩) n c), (6, i64 (i : Nat)), (7, i64 (j : Nat))]) ⟨rfl, rfl, rfl, trivial⟩, As2, hgs2, hax1.trans ((Aux.drew _).trans (haxs1.trans haxs2)), hrows2, rfl⟩
    · rintro E' w5 ⟨A5, hg5, hax5, hrow5, rfl⟩
      refine CW.seq (CW.plain ?_)
      refine RL.pure rfl rfl rfl rfl ?_
      refine RL.add rfl rfl rfl rfl rfl rfl ((by simp only [rng]; omega)) ?_
      refine RL.pure rfl rfl rfl rfl ?_
      refine RL.done ?_
      refine CW.plain ?_
      refine RL.pure rfl rfl rfl rfl ?_
      refine RL.sub rfl rfl rfl rfl rfl rfl ((by simp only [rng]; omega)) ?_
      refine RL.pure rfl rfl rfl rfl ?_
      refine RL.done ?_
      have hij' : i < j := by omega
      refine fun ac ha => ⟨k - 1, [(0, .slice (some ⟨g, 0, none⟩) n c), (6, i64 ((i + 1 : Nat) : Int)), (7, i64 ((j - 1 : Nat) : Int))], ha.sub ⟨rfl, rfl, congrArg (fun z => some (i64 z)) (by omega), trivial⟩, ⟨A5, _, i + 1, j - 1, hg5, hax5, hrow5, by rw [size_swp]; exact hn1, by omega, by omega, by omega, by rw [heq]; exact reverse_step hij', rfl⟩, by omega⟩
  · refine CW.exit ?_
    refine fall (vs := []) rfl (Post.mk (Le.refl _) hg hax1 ⟨rfl, rfl, ?_⟩)
    rw [heq, reverse_end (by omega)]
    exact hrow

/-! ### sifting -/
def sc (hi first root : Nat) (d : Array Int) : Nat := if 2 * root + 1 + 1 < hi ∧ ltI d[first + (2 * root + 1)]! d[first + (2 * root + 1) + 1]! = true then 2 * root + 2 else 2 * root + 1
theorem sift_eq {hi first root ch : Nat} {d : Array Int} (h : 2 * root + 1 < hi) (hs : sc hi first root d = ch) : Go.Sort.siftDown ltI hi first root d = if ltI d[first + root]! d[first + ch]! = true then Go.Sort.siftDown ltI hi first ch (swp d (first + root) (first + ch)) else d := by
  rw [Go.Sort.siftDown, dif_neg (by omega)]
  unfold sc at hs
  by_cases hc : 2 * root + 1 + 1 < hi ∧ ltI d[first + (2 * root + 1)]! d[first + (2 * root + 1) + 1]! = true
  · rw [if_pos hc] at hs
    rw [if_pos (by simpa using hc)]
    subst hs
    have h2 : 2 * root + 2 < hi := by omega
    cases hl : ltI d[first + root]! d[first + (2 * root + 2)]! <;> simp [h2]
  · rw [if_neg hc] at hs
    rw [if_neg (by simpa using hc)]
    subst hs
    cases hl : ltI d[first + root]! d[first + (2 * root + 1)]! <;> simp
theorem sift_end {hi first root : Nat} {d : Array Int} (h : hi ≤ 2 * root + 1) : Go.Sort.siftDown ltI hi first root d = d := by rw [Go.Sort.siftDown, dif_pos (by omega)]

set_option maxRecDepth 100000 in
theorem siftDown_ct {w : World} {s A : Res} {os : List Res} {g n c lo hi first : Nat} {rest : List Value} {d : Array Int} (hg : Good w s (A :: os)) (hrow : RowAt A g rest d) (hn : d.size = n) (hb : first + hi ≤ n) (hlo : lo ≤ n) (hsz : n < 2305843009213693952) :
    Calls Try.prog 61 #[.slice (some ⟨g, 0, none⟩) n c, i64 lo, i64 hi, i64 first] w (SPost w s os g rest (Go.Sort.siftDown ltI hi first lo d)) := by
  refine enter (l := [.slice (some ⟨g, 0, none⟩) n c, i64 lo, i64 hi, i64 first]) Try.func61 rfl Try.ntmps61 rfl ?_
  refine CW.seq (CW.plain ?_)
  refine RL.pure rfl rfl rfl rfl ?_
  refine RL.pure rfl rfl rfl rfl ?_
  refine RL.done ?_
  refine CW.block (CW.loop (σ := Nat) (fun k E w' => ∃ A' dk r, Good w' s (A' :: os) ∧ Aux w w' ∧ RowAt A' g rest dk ∧ dk.size = n ∧ r ≤ n ∧ hi - r ≤ k ∧ Go.Sort.siftDown ltI hi first lo d = Go.Sort.siftDown ltI hi first r dk ∧ E = [(0, .slice (some ⟨g, 0, none⟩) n c), (2, i64 hi), (3, i64 first), (8, i64 (r : Nat))])
    (fun k => k) n [(0, .slice (some ⟨g, 0, none⟩) n c), (2, i64 hi), (3, i64 first), (8, i64 lo)] ⟨rfl, rfl, rfl, rfl, trivial⟩ ⟨A, d, lo, hg, Aux.refl _, hrow, hn, hlo, by omega, rfl, rfl⟩ ?_)
  rintro k E w1 ⟨A1, d1, r, hg1, hax1, hrow, hn1, hrn, hk, heq, rfl⟩
  refine CW.block (CW.seq (CW.plain ?_))
  refine RL.pure rfl rfl rfl rfl ?_
  refine RL.mul rfl rfl rfl rfl rfl rfl ((by simp only [rng]; omega)) ?_
  refine RL.add rfl rfl rfl rfl rfl rfl ((by simp only [rng]; omega)) ?_
  refine RL.pure rfl rfl rfl rfl ?_
  refine RL.done ?_
  refine CW.seq (CW.seq (CW.plain ?_))
  refine RL.pure rfl rfl rfl rfl ?_
  refine RL.pure rfl rfl rfl rfl ?_
  refine RL.pure rfl rfl rfl rfl ?_
  refine RL.done ?_
  refine CW.test rfl (fun h => ?_) (fun h => ?_)
  · refine CW.exit ?_
    refine fall (vs := []) rfl (Post.mk (Le.refl _) hg1 hax1 ⟨rfl, rfl, ?_⟩)
    rw [heq, sift_end (by omega)]
    exact hrow
  · refine CW.skip ?_
    have hch : 2 * r + 1 < hi := by omega
    refine CW.meet (fun E' w' => ∃ ch, ch = sc hi first r d1 ∧ r < ch ∧ ch < hi ∧ Good w' s (A1 :: os) ∧ Aux w w' ∧ E' = [(0, .slice (some ⟨g, 0, none⟩) n c), (2, i64 hi), (3, i64 first), (8, i64 (r : Nat)), (9, i64 (ch : Nat))]) ?_ ?_
    · refine CW.seq ?_
      refine CW.draws [(true, 0), (true, 1), (true, 2), (true, 3), (true, 4), (true, 5), (true, 6), (true, 7), (true, 8), (true, 9), (true, 10), (true, 11), (true, 12), (true, 13), (true, 14), (true, 15), (true, 16), (true, 17), (false, 18), (true, 19)] (fun w' => Good w' s (A1 :: os)) mixed (by kernel_rfl) (by kernel_rfl) (by kernel_rfl) (by kernel_rfl) hg1.drew ?_
      refine RL.pure rfl rfl rfl rfl ?_
      refine RL.add rfl rfl rfl rfl rfl rfl ((by simp only [rng]; omega)) ?_
      refine RL.pure rfl rfl rfl rfl ?_
      refine RL.pure rfl rfl rfl rfl ?_
      refine RL.pure rfl rfl rfl rfl ?_
      refine RL.part 21 rfl (fun hc => ?_) (fun hc => ?_)
      · have h2 : 2 * r + 2 < hi := by have := of_decide_eq_true hc; omega
        refine RL.pure rfl rfl rfl rfl ?_
        refine RL.pure rfl rfl rfl rfl ?_
        refine RL.pure rfl rfl rfl rfl ?_
        refine RL.add rfl rfl rfl rfl rfl rfl ((by simp only [rng]; omega)) ?_
        refine RL.idxR (first + (2 * r + 1)) rfl rfl rfl rfl sl49 rfl rfl (by omega) (by omega) ?_
        refine RL.loadRT (first + (2 * r + 1)) rfl rfl rfl rfl ty33 rfl hrow (fun w h => h.1) (by omega) ?_
        refine RL.pure rfl rfl rfl rfl ?_
        refine RL.pure rfl rfl rfl rfl ?_
        refine RL.pure rfl rfl rfl rfl ?_
        refine RL.add rfl rfl rfl rfl rfl rfl ((by simp only [rng]; omega)) ?_
        refine RL.add rfl rfl rfl rfl rfl rfl ((by simp only [rng]; omega)) ?_
        refine RL.idxR (first + (2 * r + 1) + 1) rfl rfl rfl rfl sl49 rfl rfl (by omega) (by omega) ?_
        refine RL.loadRT (first + (2 * r + 1) + 1) rfl rfl rfl rfl ty33 rfl hrow (fun w h => h.1) (by omega) ?_
        refine RL.callV rfl rfl rfl rfl rfl ca48 (Less_ct hg1.drew) ?_
        rintro v w3 hg3 hax3 rfl
        refine ⟨hg3, ?_⟩
        refine RL.pure rfl rfl rfl rfl ?_
        refine RL.done ?_
        refine CW.cond rfl (fun hl => ?_) (fun hl => ?_)
        · refine CW.plain ?_
          refine RL.pure rfl rfl rfl rfl ?_
          refine RL.add rfl rfl rfl rfl rfl rfl ((by simp only [rng]; omega)) ?_
          refine RL.pure rfl rfl rfl rfl ?_
          refine RL.done ?_
          refine fun ac ha => ⟨_, ha.sub (E' := [(0, .slice (some ⟨g, 0, none⟩) n c), (2, i64 hi), (3, i64 first), (8, i64 (r : Nat)), (9, i64 ((2 * r + 2 : Nat) : Int))]) ⟨rfl, rfl, rfl, rfl, congrArg (fun z => some (i64 z)) (by omega), trivial⟩, _, by rw [sc, if_pos ⟨by omega, hl⟩], by omega, by omega, hg3, hax1.trans ((Aux.drew _).trans hax3), rfl⟩
        · refine CW.skip (fun ac ha => ⟨_, ha.sub (E' := [(0, .slice (some ⟨g, 0, none⟩) n c), (2, i64 hi), (3, i64 first), (8, i64 (r : Nat)), (9, i64 ((2 * r + 1 : Nat) : Int))]) ⟨rfl, rfl, rfl, rfl, congrArg (fun z => some (i64 z)) (by omega), trivial⟩, _, ?_, by omega, by omega, hg3, hax1.trans ((Aux.drew _).trans hax3), rfl⟩)
          rw [sc, if_neg (fun hh => by rw [hh.2] at hl; cases hl)]
      · have h2 : ¬ 2 * r + 2 < hi := by have := of_decide_eq_false hc; omega
        refine RL.pass rfl rfl rfl ?_
        refine RL.pass rfl rfl rfl ?_
        refine RL.pass rfl rfl rfl ?_
        refine RL.pass rfl rfl rfl ?_
        refine RL.pass rfl rfl rfl ?_
        refine RL.pass rfl rfl rfl ?_
        refine RL.pass rfl rfl rfl ?_
        refine RL.pass rfl rfl rfl ?_
        refine RL.pass rfl rfl rfl ?_
        refine RL.pass rfl rfl rfl ?_
        refine RL.pass rfl rfl rfl ?_
        refine RL.pass rfl rfl rfl ?_
        refine RL.pass rfl rfl rfl ?_
        refine RL.pass rfl rfl rfl ?_
        refine RL.pure rfl rfl rfl rfl ?_
        refine RL.done ?_
        refine CW.no rfl ?_
        refine CW.skip (fun ac ha => ⟨_, ha.sub (E' := [(0, .slice (some ⟨g, 0, none⟩) n c), (2, i64 hi), (3, i64 first), (8, i64 (r : Nat)), (9, i64 ((2 * r + 1 : Nat) : Int))]) ⟨rfl, rfl, rfl, rfl, congrArg (fun z => some (i64 z)) (by omega), trivial⟩, _, ?_, by omega, by omega, hg1.drew, hax1.trans (Aux.drew _), rfl⟩)
        rw [sc, if_neg (fun hh => h2 hh.1)]
    · rintro E' w4 ⟨ch, hsc, hrc, hchh, hg, hax4, rfl⟩
      refine CW.seq (CW.seq ?_)
      refine CW.draws [(true, 0), (true, 1), (true, 2), (true, 3), (true, 4), (true, 5), (true, 6), (true, 7), (true, 8), (true, 9), (true, 10), (true, 11), (false, 12), (true, 13)] (fun w' => Good w' s (A1 :: os)) mixed (by kernel_rfl) (by kernel_rfl) (by kernel_rfl) (by kernel_rfl) hg.drew ?_
      refine RL.pure rfl rfl rfl rfl ?_
      refine RL.pure rfl rfl rfl rfl ?_
      refine RL.pure rfl rfl rfl rfl ?_
      refine RL.add rfl rfl rfl rfl rfl rfl ((by simp only [rng]; omega)) ?_
      refine RL.idxR (first + r) rfl rfl rfl rfl sl49 rfl rfl (by omega) (by omega) ?_
      refine RL.loadRT (first + r) rfl rfl rfl rfl ty33 rfl hrow (fun w h => h.1) (by omega) ?_
      refine RL.pure rfl rfl rfl rfl ?_
      refine RL.pure rfl rfl rfl rfl ?_
      refine RL.pure rfl rfl rfl rfl ?_
      refine RL.add rfl rfl rfl rfl rfl rfl ((by simp only [rng]; omega)) ?_
      refine RL.idxR (first + ch) rfl rfl rfl rfl sl49 rfl rfl (by omega) (by omega) ?_
      refine RL.loadRT (first + ch) rfl rfl rfl rfl ty33 rfl hrow (fun w h => h.1) (by omega) ?_
      refine RL.callV rfl rfl rfl rfl rfl ca48 (Less_ct hg.drew) ?_
      rintro v w5 hg5 hax5 rfl
      refine ⟨hg5, ?_⟩
      refine RL.pure rfl rfl rfl rfl ?_
      refine RL.done ?_
      refine CW.cond rfl (fun hl => ?_) (fun hl => ?_)
      · have hl' : ltI d1[first + r]! d1[first + ch]! = false := by simpa using hl
        refine CW.ret (ret (vs := []) rfl (Post.mk (Le.refl _) hg5 (hax4.trans ((Aux.drew _).trans hax5)) ⟨rfl, rfl, ?_⟩))
        rw [heq, sift_eq hch hsc.symm, hl', if_neg (by simp)]
        exact hrow
      · have hl' : ltI d1[first + r]! d1[first + ch]! = true := by simpa using hl
        refine CW.skip ?_
        have hg := hg5
        refine CW.meet (fun E' w' => ∃ A', Good w' s (A' :: os) ∧ Aux w w' ∧ RowAt A' g rest (swp d1 (first + r) (first + ch)) ∧ E' = [(0, .slice (some ⟨g, 0, none⟩) n c), (2, i64 hi), (3, i64 first), (9, i64 (ch : Nat))]) ?_ ?_
        · skip
          refine CW.forks (.fork [(true, 0), (true, 1), (true, 2), (true, 3), (true, 4), (true, 5), (true, 6), (true, 7), (true, 8), (true, 9), (true, 10), (true, 11), (true, 12), (true, 14), (true, 15), (true, 16), (true, 17), (true, 18)] (.line [(false, 13), (false, 19), (true, 20), (false, 21), (true, 22), (false, 23)]) (.line [(false, 19), (false, 13), (true, 20), (false, 21), (true, 22), (false, 23)])) (fun _ => True) mixed (by kernel_rfl) (by kernel_rfl) (by kernel_rfl) (by kernel_rfl) trivial ?_
          refine RT.pre trivial ?_
          refine RL.pure rfl rfl rfl rfl ?_
          refine RL.pure rfl rfl rfl rfl ?_
          refine RL.pure rfl rfl rfl rfl ?_
          refine RL.add rfl rfl rfl rfl rfl rfl (by simp only [rng] at *; omega) ?_
          refine RL.pure rfl rfl rfl rfl ?_
          refine RL.pure rfl rfl rfl rfl ?_
          refine RL.pure rfl rfl rfl rfl ?_
          refine RL.add rfl rfl rfl rfl rfl rfl (by simp only [rng] at *; omega) ?_
          refine RL.pure rfl rfl rfl rfl ?_
          refine RL.pure rfl rfl rfl rfl ?_
          refine RL.pure rfl rfl rfl rfl ?_
          refine RL.add rfl rfl rfl rfl rfl rfl (by simp only [rng] at *; omega) ?_
          refine RL.idxR (first + ch) rfl rfl rfl rfl sl49 rfl rfl (by omega) (by omega) ?_
          refine RL.pure rfl rfl rfl rfl ?_
          refine RL.pure rfl rfl rfl rfl ?_
          refine RL.pure rfl rfl rfl rfl ?_
          refine RL.add rfl rfl rfl rfl rfl rfl (by simp only [rng] at *; omega) ?_
          refine RL.idxR (first + r) rfl rfl rfl rfl sl49 rfl rfl (by omega) (by omega) ?_
          refine RL.done ?_
          refine RT.both (S := fun _ => True) trivial (RT.end_ (S := fun _ => True) trivial ?_) (RT.end_ (S := fun _ => True) trivial ?_)
          · refine RL.loadR (first + ch) rfl rfl rfl rfl ty33 rfl hrow hg.drew.1 (by omega) ?_
            refine RL.loadR (first + r) rfl rfl rfl rfl ty33 rfl hrow hg.drew.1 (by omega) ?_
            refine RL.idxR (first + r) rfl rfl rfl rfl sl49 rfl rfl (by omega) (by omega) ?_
            refine RL.storeR (first + r) rfl rfl rfl ty33 rfl rfl hg.drew hrow (by omega) ?_
            intro ws1 As1 hgs1 haxs1 hrows1
            refine ⟨trivial, ?_⟩
            refine RL.idxR (first + ch) rfl rfl rfl rfl sl49 rfl rfl (by omega) (by omega) ?_
            refine RL.storeR (first + ch) rfl rfl rfl ty33 rfl rfl hgs1 hrows1 (by simp; omega) ?_
            intro ws2 As2 hgs2 haxs2 hrows2
            refine ⟨trivial, ?_⟩
            refine RL.done ?_
            exact fun ac ha => ⟨_, ha.sub (E' := [(0, .slice (some ⟨g, 0, none⟩) n c), (2, i64 hi), (3, i64 first), (9, i64 (ch : Nat))]) ⟨rfl, rfl, rfl, rfl, trivial⟩, As2, hgs2, hax4.trans ((Aux.drew _).trans (hax5.trans ((Aux.drew _).trans (haxs1.trans haxs2)))), hrows2, rfl⟩
          · refine RL.loadR (first + r) rfl rfl rfl rfl ty33 rfl hrow hg.drew.1 (by omega) ?_
            refine RL.loadR (first + ch) rfl rfl rfl rfl ty33 rfl hrow hg.drew.1 (by omega) ?_
            refine RL.idxR (first + r) rfl rfl rfl rfl sl49 rfl rfl (by omega) (by omega) ?_
            refine RL.storeR (first + r) rfl rfl rfl ty33 rfl rfl hg.drew hrow (by omega) ?_
            intro ws1 As1 hgs1 haxs1 hrows1
            refine ⟨trivial, ?_⟩
            refine RL.idxR (first + ch) rfl rfl rfl rfl sl49 rfl rfl (by omega) (by omega) ?_
            refine RL.storeR (first + ch) rfl rfl rfl ty33 rfl rfl hgs1 hrows1 (by simp; omega) ?_
            intro ws2 As2 hgs2 haxs2 hrows2
            refine ⟨trivial, ?_⟩
            refine RL.done ?_
            exact fun ac ha => ⟨_, ha.sub (E' := [(0, .slice (some ⟨g, 0, none⟩) n c), (2, i64 hi), (3, i64 first), (9, i64 (ch : Nat))]) ⟨rfl, rfl, rfl, rfl, trivial⟩, As2, hgs2, hax4.trans ((Aux.drew _).trans (hax5.trans ((Aux.drew _).trans (haxs1.trans haxs2)))), hrows2, rfl⟩
        · rintro E' w6 ⟨A6, hg6, hax6, hrow6, rfl⟩
          refine CW.plain ?_
          refine RL.pure rfl rfl rfl rfl ?_
          refine RL.pure rfl rfl rfl rfl ?_
          refine RL.done ?_
          refine fun ac ha => ⟨k - 1, [(0, .slice (some ⟨g, 0, none⟩) n c), (2, i64 hi), (3, i64 first), (8, i64 (ch : Nat))], ha.sub ⟨rfl, rfl, rfl, rfl, trivial⟩, ⟨A6, _, ch, hg6, hax6, hrow6, by rw [size_swp]; exact hn1, by omega, by omega, by rw [heq, sift_eq hch hsc.symm, if_pos hl'], rfl⟩, by omega⟩

/-! ### the heap -/
theorem sift_size (hi first lo : Nat) (d : Array Int) : (Go.Sort.siftDown ltI hi first lo d).size = d.size := by
  fun_induction Go.Sort.siftDown ltI hi first lo d <;> simp_all [size_swp]

set_option maxRecDepth 100000 in
theorem heapSort_ct {w : World} {s A : Res} {os : List Res} {g n c a b : Nat} {rest : List Value} {d : Array Int} (hg : Good w s (A :: os)) (hrow : RowAt A g rest d) (hn : d.size = n) (hb : b ≤ n) (hab : a < b) (hsz : n < 2305843009213693952) :
    Calls Try.prog 43 #[.slice (some ⟨g, 0, none⟩) n c, i64 a, i64 b] w (SPost w s os g rest (Go.Sort.heapSort ltI d a b)) := by
  refine enter (l := [.slice (some ⟨g, 0, none⟩) n c, i64 a, i64 b]) Try.func43 rfl Try.ntmps43 rfl ?_
  refine CW.seq (CW.plain ?_)
  refine RL.pure rfl rfl rfl rfl ?_
  refine RL.pure rfl rfl rfl rfl ?_
  refine RL.done ?_
  refine CW.seq (CW.plain ?_)
  refine RL.pure rfl rfl rfl rfl ?_
  refine RL.done ?_
  refine CW.seq (CW.plain ?_)
  refine RL.pure rfl rfl rfl rfl ?_
  refine RL.pure rfl rfl rfl rfl ?_
  refine RL.sub rfl rfl rfl rfl rfl rfl ((by simp only [rng]; omega)) ?_
  refine RL.pure rfl rfl rfl rfl ?_
  refine RL.done ?_
  refine CW.meet (fun E' w' => ∃ A' dk, Good w' s (A' :: os) ∧ Aux w w' ∧ RowAt A' g rest dk ∧ dk.size = n ∧ dk = Go.Sort.heapBuild ltI (b - a) a ((b - a - 1) / 2 + 1) d ∧ E' = [(0, .slice (some ⟨g, 0, none⟩) n c), (6, i64 a), (7, i64 0), (8, i64 ((b - a : Nat) : Int))]) ?_ ?_
  · refine CW.seq (CW.plain ?_)
    refine RL.pure rfl rfl rfl rfl ?_
    refine RL.sub rfl rfl rfl rfl rfl rfl ((by simp only [rng]; omega)) ?_
    refine RL.quo rfl rfl rfl rfl rfl rfl ((by omega)) ((by decide)) ((by simp only [rng]; omega)) ?_
    refine RL.pure rfl rfl rfl rfl ?_
    refine RL.done ?_
    refine CW.block (CW.loop (σ := Nat) (fun k E w' => ∃ A' dk, Good w' s (A' :: os) ∧ Aux w w' ∧ RowAt A' g rest dk ∧ dk.size = n ∧ k ≤ n ∧ Go.Sort.heapBuild ltI (b - a) a ((b - a - 1) / 2 + 1) d = Go.Sort.heapBuild ltI (b - a) a k dk ∧ E = [(0, .slice (some ⟨g, 0, none⟩) n c), (6, i64 a), (7, i64 0), (8, i64 ((b - a : Nat) : Int)), (9, i64 ((k : Int) - 1))])
      (fun k => k) ((b - a - 1) / 2 + 1) [(0, .slice (some ⟨g, 0, none⟩) n c), (6, i64 a), (7, i64 0), (8, i64 ((b - a : Nat) : Int)), (9, i64 ((((b - a - 1) / 2 + 1 : Nat) : Int) - 1))] ⟨rfl, rfl, rfl, congrArg (fun z => some (i64 z)) (by omega), congrArg (fun z => some (i64 z)) (by omega), trivial⟩ ⟨A, d, hg, Aux.refl _, hrow, hn, by omega, rfl, rfl⟩ ?_)
    rintro k E w1 ⟨A1, d1, hg1, hax1, hrow1, hn1, hkn, heq, rfl⟩
    refine CW.seq (CW.seq (CW.plain ?_))
    refine RL.pure rfl rfl rfl rfl ?_
    refine RL.pure rfl rfl rfl rfl ?_
    refine RL.done ?_
    refine CW.test rfl (fun h => ?_) (fun h => ?_)
    · refine CW.skip ?_
      obtain ⟨k, rfl⟩ : ∃ j, k = j + 1 := ⟨k - 1, by omega⟩
      refine CW.seq (CW.block (CW.plain ?_))
      refine RL.pure rfl rfl rfl rfl ?_
      refine RL.pure rfl rfl rfl rfl ?_
      refine RL.pure rfl rfl rfl rfl ?_
      refine RL.pure rfl rfl rfl rfl ?_
      have ek : (((k + 1 : Nat) : Int) - 1) = ((k : Nat) : Int) := by omega
      rw [ek]
      refine RL.call rfl rfl rfl rfl rfl ca61 (l := [.slice (some ⟨g, 0, none⟩) n c, i64 (k : Nat), i64 ((b - a : Nat) : Int), i64 a]) (siftDown_ct hg1 hrow1 hn1 (by omega) (by omega) hsz) ?_
      rintro v2 s2 A2 w2 hle2 hg2 hax2 ⟨rfl, rfl, hrow2⟩
      refine ⟨trivial, ?_⟩
      refine RL.done ?_
      refine CW.plain ?_
      refine RL.pure rfl rfl rfl rfl ?_
      refine RL.sub rfl rfl rfl rfl rfl rfl ((by simp only [rng]; omega)) ?_
      refine RL.pure rfl rfl rfl rfl ?_
      refine RL.done ?_
      refine fun ac ha => ⟨k, [(0, .slice (some ⟨g, 0, none⟩) n c), (6, i64 a), (7, i64 0), (8, i64 ((b - a : Nat) : Int)), (9, i64 ((k : Int) - 1))], ha.sub ⟨rfl, rfl, rfl, rfl, congrArg (fun z => some (i64 z)) (by omega), trivial⟩, ⟨A2, _, hg2, hax1.trans hax2, hrow2, by rw [sift_size]; exact hn1, by omega, by rw [heq, Go.Sort.heapBuild], rfl⟩, by omega⟩
    · refine CW.exit (fun ac ha => ⟨_, ha.sub (E' := [(0, .slice (some ⟨g, 0, none⟩) n c), (6, i64 a), (7, i64 0), (8, i64 ((b - a : Nat) : Int))]) ⟨rfl, rfl, rfl, rfl, trivial⟩, A1, d1, hg1, hax1, hrow1, hn1, ?_, rfl⟩)
      obtain rfl : k = 0 := by omega
      rw [heq]; rfl
  · rintro E' w1 ⟨A1, d1, hg1, hax1, hrow1, hn1, hd1, rfl⟩
    refine CW.seq (CW.plain ?_)
    refine RL.pure rfl rfl rfl rfl ?_
    refine RL.sub rfl rfl rfl rfl rfl rfl ((by simp only [rng]; omega)) ?_
    refine RL.pure rfl rfl rfl rfl ?_
    refine RL.done ?_
    refine CW.block (CW.loop (σ := Nat) (fun k E w' => ∃ A' dk, Good w' s (A' :: os) ∧ Aux w w' ∧ RowAt A' g rest dk ∧ dk.size = n ∧ k ≤ b - a ∧ Go.Sort.heapSort ltI d a b = Go.Sort.heapPop ltI a k dk ∧ E = [(0, .slice (some ⟨g, 0, none⟩) n c), (6, i64 a), (7, i64 0), (8, i64 ((b - a : Nat) : Int)), (10, i64 ((k : Int) - 1))])
      (fun k => k) (b - a) [(0, .slice (some ⟨g, 0, none⟩) n c), (6, i64 a), (7, i64 0), (8, i64 ((b - a : Nat) : Int)), (10, i64 (((b - a : Nat) : Int) - 1))] ⟨rfl, rfl, rfl, rfl, rfl, trivial⟩ ⟨A1, d1, hg1, hax1, hrow1, hn1, Nat.le_refl _, by rw [hd1, Go.Sort.heapSort], rfl⟩ ?_)
    rintro k E w2 ⟨A2, d2, hg, hax2, hrow, hn2, hkn, heq, rfl⟩
    refine CW.seq (CW.seq (CW.plain ?_))
    refine RL.pure rfl rfl rfl rfl ?_
    refine RL.pure rfl rfl rfl rfl ?_
    refine RL.done ?_
    refine CW.test rfl (fun h => ?_) (fun h => ?_)
    · refine CW.skip ?_
      obtain ⟨k, rfl⟩ : ∃ j, k = j + 1 := ⟨k - 1, by omega⟩
      refine CW.seq (CW.block ?_)
      refine CW.meet (fun E' w' => ∃ A', Good w' s (A' :: os) ∧ Aux w w' ∧ RowAt A' g rest (swp d2 a (a + k)) ∧ E' = [(0, .slice (some ⟨g, 0, none⟩) n c), (6, i64 a), (7, i64 0), (8, i64 ((b - a : Nat) : Int)), (10, i64 (((k + 1 : Nat) : Int) - 1))]) ?_ ?_
      · skip
        refine CW.forks (.fork [(true, 0), (true, 1), (true, 2), (true, 3), (true, 4), (true, 5), (true, 6), (true, 7), (true, 8), (true, 9), (true, 10), (true, 12), (true, 13), (true, 14)] (.line [(false, 11), (false, 15), (true, 16), (false, 17), (true, 18), (false, 19)]) (.line [(false, 15), (false, 11), (true, 16), (false, 17), (true, 18), (false, 19)])) (fun _ => True) mixed (by kernel_rfl) (by kernel_rfl) (by kernel_rfl) (by kernel_rfl) trivial ?_
        refine RT.pre trivial ?_
        refine RL.pure rfl rfl rfl rfl ?_
        refine RL.pure rfl rfl rfl rfl ?_
        refine RL.pure rfl rfl rfl rfl ?_
        refine RL.pure rfl rfl rfl rfl ?_
        refine RL.pure rfl rfl rfl rfl ?_
        refine RL.add rfl rfl rfl rfl rfl rfl (by simp only [rng] at *; omega) ?_
        refine RL.pure rfl rfl rfl rfl ?_
        refine RL.pure rfl rfl rfl rfl ?_
        refine RL.pure rfl rfl rfl rfl ?_
        refine RL.add rfl rfl rfl rfl rfl rfl (by simp only [rng] at *; omega) ?_
        refine RL.idxR (a + k) rfl rfl rfl rfl sl49 rfl rfl (by omega) (by omega) ?_
        refine RL.pure rfl rfl rfl rfl ?_
        refine RL.pure rfl rfl rfl rfl ?_
        refine RL.idxR (a) rfl rfl rfl rfl sl49 rfl rfl (by omega) (by omega) ?_
        refine RL.done ?_
        refine RT.both (S := fun _ => True) trivial (RT.end_ (S := fun _ => True) trivial ?_) (RT.end_ (S := fun _ => True) trivial ?_)
        · refine RL.loadR (a + k) rfl rfl rfl rfl ty33 rfl hrow hg.drew.1 (by omega) ?_
          refine RL.loadR (a) rfl rfl rfl rfl ty33 rfl hrow hg.drew.1 (by omega) ?_
          refine RL.idxR (a) rfl rfl rfl rfl sl49 rfl rfl (by omega) (by omega) ?_
          refine RL.storeR (a) rfl rfl rfl ty33 rfl rfl hg.drew hrow (by omega) ?_
          intro ws1 As1 hgs1 haxs1 hrows1
          refine ⟨trivial, ?_⟩
          refine RL.idxR (a + k) rfl rfl rfl rfl sl49 rfl rfl (by omega) (by omega) ?_
          refine RL.storeR (a + k) rfl rfl rfl ty33 rfl rfl hgs1 hrows1 (by simp; omega) ?_
          intro ws2 As2 hgs2 haxs2 hrows2
          refine ⟨trivial, ?_⟩
          refine RL.done ?_
          exact fun ac ha => ⟨_, ha.sub (E' := [(0, .slice (some ⟨g, 0, none⟩) n c), (6, i64 a), (7, i64 0), (8, i64 ((b - a : Nat) : Int)), (10, i64 (((k + 1 : Nat) : Int) - 1))]) ⟨rfl, rfl, rfl, rfl, rfl, trivial⟩, As2, hgs2, hax2.trans ((Aux.drew _).trans (haxs1.trans haxs2)), hrows2, rfl⟩
        · refine RL.loadR (a) rfl rfl rfl rfl ty33 rfl hrow hg.drew.1 (by omega) ?_
          refine RL.loadR (a + k) rfl rfl rfl rfl ty33 rfl hrow hg.drew.1 (by omega) ?_
          refine RL.idxR (a) rfl rfl rfl rfl sl49 rfl rfl (by omega) (by omega) ?_
          refine RL.storeR (a) rfl rfl rfl ty33 rfl rfl hg.drew hrow (by omega) ?_
          intro ws1 As1 hgs1 haxs1 hrows1
          refine ⟨trivial, ?_⟩
          refine RL.idxR (a + k) rfl rfl rfl rfl sl49 rfl rfl (by omega) (by omega) ?_
          refine RL.storeR (a + k) rfl rfl rfl ty33 rfl rfl hgs1 hrows1 (by simp; omega) ?_
          intro ws2 As2 hgs2 haxs2 hrows2
          refine ⟨trivial, ?_⟩
          refine RL.done ?_
          exact fun ac ha => ⟨_, ha.sub (E' := [(0, .slice (some ⟨g, 0, none⟩) n c), (6, i64 a), (7, i64 0), (8, i64 ((b - a : Nat) : Int)), (10, i64 (((k + 1 : Nat) : Int) - 1))]) ⟨rfl, rfl, rfl, rfl, rfl, trivial⟩, As2, hgs2, hax2.trans ((Aux.drew _).trans (haxs1.trans haxs2)), hrows2, rfl⟩
      · rintro E' w3 ⟨A3, hg3, hax3, hrow3, rfl⟩
        have hn3 : (swp d2 a (a + k)).size = n := by rw [size_swp]; exact hn2
        refine CW.plain ?_
        refine RL.pure rfl rfl rfl rfl ?_
        refine RL.pure rfl rfl rfl rfl ?_
        refine RL.pure rfl rfl rfl rfl ?_
        refine RL.pure rfl rfl rfl rfl ?_
        have ek : (((k + 1 : Nat) : Int) - 1) = ((k : Nat) : Int) := by omega
        rw [ek]
        refine RL.call rfl rfl rfl rfl rfl ca61 (l := [.slice (some ⟨g, 0, none⟩) n c, i64 ((0 : Nat) : Int), i64 (k : Nat), i64 a]) (siftDown_ct hg3 hrow3 hn3 (by omega) (by omega) hsz) ?_
        rintro v4 s4 A4 w4 hle4 hg4 hax4 ⟨rfl, rfl, hrow4⟩
        refine ⟨trivial, ?_⟩
        refine RL.done ?_
        refine CW.plain ?_
        refine RL.pure rfl rfl rfl rfl ?_
        refine RL.sub rfl rfl rfl rfl rfl rfl ((by simp only [rng]; omega)) ?_
        refine RL.pure rfl rfl rfl rfl ?_
        refine RL.done ?_
        refine fun ac ha => ⟨k, [(0, .slice (some ⟨g, 0, none⟩) n c), (6, i64 a), (7, i64 0), (8, i64 ((b - a : Nat) : Int)), (10, i64 ((k : Int) - 1))], ha.sub ⟨rfl, rfl, rfl, rfl, rfl, trivial⟩, ⟨A4, _, hg4, hax3.trans hax4, hrow4, by rw [sift_size]; exact hn3, by omega, by rw [heq, Go.Sort.heapPop], rfl⟩, by omega⟩
    · refine CW.exit ?_
      refine fall (vs := []) rfl (Post.mk (Le.refl _) hg hax2 ⟨rfl, rfl, ?_⟩)
      obtain rfl : k = 0 := by omega
      rw [heq]
      exact hrow
end Go.Lw
