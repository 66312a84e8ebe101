/-
  The sort's partial insertion, walked.
-/
import Derived.Test.YtdleejgghbpbmaaSortD
namespace Go.Lw
open Go.Proofs
open Go.Sort (swp size_swp)

theorem scanSorted_step {d : Array Int} {b i : Nat} (h : i < b) (hl : ltI d[i]! d[i - 1]! = false) : Go.Sort.scanSorted ltI d b i = Go.Sort.scanSorted ltI d b (i + 1) := by
  rw [Go.Sort.scanSorted, if_pos (by simp [h, hl])]
theorem scanSorted_end {d : Array Int} {b i : Nat} (h : ¬ i < b ∨ ltI d[i]! d[i - 1]! = true) : Go.Sort.scanSorted ltI d b i = i := by
  rw [Go.Sort.scanSorted, if_neg]
  rcases h with h | h
  · simp [h]
  · simp [h]
theorem shiftDown_step {d : Array Int} {j : Nat} (h : 1 ≤ j) (hl : ltI d[j]! d[j - 1]! = true) : Go.Sort.shiftDown ltI j d = Go.Sort.shiftDown ltI (j - 1) (swp d j (j - 1)) := by
  obtain ⟨j, rfl⟩ : ∃ m, j = m + 1 := ⟨j - 1, by omega⟩
  simp only [Nat.add_sub_cancel] at *
  rw [Go.Sort.shiftDown, if_neg (by simp [hl])]
theorem shiftDown_end {d : Array Int} {j : Nat} (h : ¬ 1 ≤ j ∨ ltI d[j]! d[j - 1]! = false) : Go.Sort.shiftDown ltI j d = d := by
  cases j with
  | zero => rfl
  | succ j =>
    rcases h with h | h
    · omega
    · simp only [Nat.add_sub_cancel] at h
      rw [Go.Sort.shiftDown, if_pos (by simp [h])]
theorem shiftUp_step {d : Array Int} {b j : Nat} (h : j < b) (hl : ltI d[j]! d[j - 1]! = true) : Go.Sort.shiftUp ltI b j d = Go.Sort.shiftUp ltI b (j + 1) (swp d j (j - 1)) := by
  rw [Go.Sort.shiftUp, if_pos h, if_neg (by simp [hl])]
theorem shiftUp_end {d : Array Int} {b j : Nat} (h : ¬ j < b ∨ ltI d[j]! d[j - 1]! = false) : Go.Sort.shiftUp ltI b j d = d := by
  rw [Go.Sort.shiftUp]
  by_cases hj : j < b
  · rw [if_pos hj, if_pos (by simpa [hj] using h)]
  · rw [if_neg hj]
def pd (a x : Nat) (d : Array Int) : Array Int := if x - a ≥ 2 then Go.Sort.shiftDown ltI (x - 1) (swp d x (x - 1)) else swp d x (x - 1)
def pu (b x : Nat) (d : Array Int) : Array Int := if b - x ≥ 2 then Go.Sort.shiftUp ltI b (x + 1) d else d
theorem pi_done {a b s i x : Nat} {d : Array Int} (h : Go.Sort.scanSorted ltI d b i = x) (hx : x = b) : Go.Sort.partialIns ltI a b (s + 1) i d = (d, true) := by
  simp only [Go.Sort.partialIns, h]; rw [if_pos hx]
theorem pi_short {a b s i x : Nat} {d : Array Int} (h : Go.Sort.scanSorted ltI d b i = x) (hx : ¬ x = b) (hs : b - a < 50) : Go.Sort.partialIns ltI a b (s + 1) i d = (d, false) := by
  simp only [Go.Sort.partialIns, h]; rw [if_neg hx, if_pos hs]
theorem pi_go {a b s i x : Nat} {d : Array Int} (h : Go.Sort.scanSorted ltI d b i = x) (hx : ¬ x = b) (hs : ¬ b - a < 50) : Go.Sort.partialIns ltI a b (s + 1) i d = Go.Sort.partialIns ltI a b s x (pu b x (pd a x d)) := by
  simp only [Go.Sort.partialIns, h]; rw [if_neg hx, if_neg hs]; rfl

set_option maxHeartbeats 1000000 in
set_option maxRecDepth 100000 in
theorem partialIns_ct {w : World} {s A : Res} {os : List Res} {g n c a b : Nat} {rest : List Value} {d : Array Int} (hg : Good w s (A :: os)) (hrow : RowAt A g rest d) (hn : d.size = n) (hb : b ≤ n) (hab : a < b) (hsz : n < 2305843009213693952) :
    Calls Try.prog 47 #[.slice (some ⟨g, 0, none⟩) n c, i64 a, i64 b] w
      (Post w s os fun s' A' r => s' = s ∧ r = .bool (Go.Sort.partialInsertionSort ltI d a b).2 ∧ RowAt A' g rest (Go.Sort.partialInsertionSort ltI d a b).1) := by
  refine enter (l := [.slice (some ⟨g, 0, none⟩) n c, i64 a, i64 b]) Try.func47 rfl Try.ntmps47 rfl ?_
  refine CW.seq (CW.plain ?_)
  refine RL.pure rfl rfl rfl rfl ?_
  refine RL.done ?_
  refine CW.seq (CW.plain ?_)
  refine RL.pure rfl rfl rfl rfl ?_
  refine RL.add rfl rfl rfl rfl rfl rfl ((by simp only [rng]; omega)) ?_
  refine RL.pure rfl rfl rfl rfl ?_
  refine RL.done ?_
  refine CW.seq (CW.seq (CW.plain ?_))
  refine RL.pure rfl rfl rfl rfl ?_
  refine RL.done ?_
  refine CW.block (CW.loop (σ := Nat) (fun st E w' => ∃ A' dk i, Good w' s (A' :: os) ∧ Aux w w' ∧ RowAt A' g rest dk ∧ dk.size = n ∧ a < i ∧ i ≤ b ∧ st ≤ 5 ∧ Go.Sort.partialInsertionSort ltI d a b = Go.Sort.partialIns ltI a b st i dk ∧ E = [(0, .slice (some ⟨g, 0, none⟩) n c), (1, i64 a), (2, i64 b), (7, i64 (i : Nat)), (8, i64 (5 - ((st : Nat) : Int)))])
    (fun st => st) 5 [(0, .slice (some ⟨g, 0, none⟩) n c), (1, i64 a), (2, i64 b), (7, i64 ((a + 1 : Nat) : Int)), (8, i64 (5 - ((5 : Nat) : Int)))] ⟨rfl, rfl, rfl, rfl, rfl, trivial⟩ ⟨A, d, a + 1, hg, Aux.refl _, hrow, hn, by omega, by omega, Nat.le_refl _, rfl, rfl⟩ ?_)
  rintro st E w1 ⟨A1, d1, i, hg1, hax1, hrow1, hn1, hai, hib, hst, heq, rfl⟩
  refine CW.seq (CW.seq (CW.plain ?_))
  refine RL.pure rfl rfl rfl rfl ?_
  refine RL.pure rfl rfl rfl rfl ?_
  refine RL.done ?_
  refine CW.test rfl (fun h => ?_) (fun h => ?_)
  · refine CW.skip ?_
    obtain ⟨st, rfl⟩ : ∃ m, st = m + 1 := ⟨st - 1, by omega⟩
    refine CW.meet (fun E' w' => ∃ x A' dk, Good w' s (A' :: os) ∧ Aux w w' ∧ RowAt A' g rest dk ∧ dk.size = n ∧ a < x ∧ x ≤ b ∧ Go.Sort.partialInsertionSort ltI d a b = Go.Sort.partialIns ltI a b st x dk ∧ E' = [(0, .slice (some ⟨g, 0, none⟩) n c), (1, i64 a), (2, i64 b), (7, i64 (x : Nat)), (8, i64 (5 - ((st + 1 : Nat) : Int)))]) ?_ ?_
    rotate_left
    · rintro E' w7 ⟨x, A7, d7, hg7, hax7, hrow7, hn7, hax', hxb, hfin, rfl⟩
      refine CW.plain ?_
      refine RL.pure rfl rfl rfl rfl ?_
      refine RL.add rfl rfl rfl rfl rfl rfl ((by simp only [rng]; omega)) ?_
      refine RL.pure rfl rfl rfl rfl ?_
      refine RL.done ?_
      refine fun ac ha => ⟨st, [(0, .slice (some ⟨g, 0, none⟩) n c), (1, i64 a), (2, i64 b), (7, i64 (x : Nat)), (8, i64 (5 - ((st : Nat) : Int)))], ha.sub ⟨rfl, rfl, rfl, rfl, congrArg (fun z => some (i64 z)) (by omega), trivial⟩, ⟨A7, d7, x, hg7, hax7, hrow7, hn7, by omega, hxb, by omega, hfin, rfl⟩, by omega⟩
    refine CW.block ?_
    -- the part that is sorted already
    refine CW.meet (fun E' w' => ∃ x, Good w' s (A1 :: os) ∧ Aux w w' ∧ i ≤ x ∧ x ≤ b ∧ Go.Sort.scanSorted ltI d1 b i = x ∧ E' = [(0, .slice (some ⟨g, 0, none⟩) n c), (1, i64 a), (2, i64 b), (7, i64 (x : Nat)), (8, i64 (5 - ((st + 1 : Nat) : Int)))]) ?_ ?_
    · refine CW.block (CW.loop (σ := Nat) (fun k E w' => ∃ x, Good w' s (A1 :: os) ∧ Aux w w' ∧ i ≤ x ∧ x ≤ b ∧ b - x ≤ k ∧ Go.Sort.scanSorted ltI d1 b i = Go.Sort.scanSorted ltI d1 b x ∧ E = [(0, .slice (some ⟨g, 0, none⟩) n c), (1, i64 a), (2, i64 b), (7, i64 (x : Nat)), (8, i64 (5 - ((st + 1 : Nat) : Int)))])
        (fun k => k) b [(0, .slice (some ⟨g, 0, none⟩) n c), (1, i64 a), (2, i64 b), (7, i64 (i : Nat)), (8, i64 (5 - ((st + 1 : Nat) : Int)))] ⟨rfl, rfl, rfl, rfl, rfl, trivial⟩ ⟨i, hg1, hax1, Nat.le_refl _, hib, by omega, rfl, rfl⟩ ?_)
      rintro k E w2 ⟨x, hg, hax2, hix, hxb, hk, hsc, rfl⟩
      refine CW.seq (CW.seq ?_)
      refine CW.draws [(true, 0), (true, 1), (true, 2), (true, 3), (true, 4), (true, 5), (true, 6), (true, 7), (true, 8), (true, 9), (true, 10), (true, 11), (true, 12), (false, 13), (true, 14), (true, 15)] (fun w' => Good w' s (A1 :: os)) mixed (by kernel_rfl) (by kernel_rfl) (by kernel_rfl) (by kernel_rfl) hg.drew ?_
      refine RL.pure rfl rfl rfl rfl ?_
      refine RL.pure rfl rfl rfl rfl ?_
      refine RL.pure rfl rfl rfl rfl ?_
      refine RL.pure rfl rfl rfl rfl ?_
      refine RL.part 20 rfl (fun hc => ?_) (fun hc => ?_)
      · have hxb' : x < b := by have := of_decide_eq_true hc; omega
        refine RL.pure rfl rfl rfl rfl ?_
        refine RL.pure rfl rfl rfl rfl ?_
        refine RL.idxR x rfl rfl rfl rfl sl49 rfl rfl rfl (by omega) ?_
        refine RL.loadRT x rfl rfl rfl rfl ty33 rfl hrow1 (fun w h => h.1) (by omega) ?_
        refine RL.pure rfl rfl rfl rfl ?_
        refine RL.pure rfl rfl rfl rfl ?_
        refine RL.sub rfl rfl rfl rfl rfl rfl ((by simp only [rng]; omega)) ?_
        refine RL.idxR (x - 1) rfl rfl rfl rfl sl49 rfl rfl (by omega) (by omega) ?_
        refine RL.loadRT (x - 1) rfl rfl rfl rfl ty33 rfl hrow1 (fun w h => h.1) (by omega) ?_
        refine RL.callV rfl rfl rfl rfl rfl ca48 (Less_ct hg.drew) ?_
        rintro v w3 hg3 hax3 rfl
        refine ⟨hg3, ?_⟩
        refine RL.pure rfl rfl rfl rfl ?_
        refine RL.pure rfl rfl rfl rfl ?_
        refine RL.done ?_
        refine CW.cond rfl (fun hl => ?_) (fun hl => ?_)
        · refine CW.skip ?_
          refine CW.block (CW.plain ?_)
          refine RL.pure rfl rfl rfl rfl ?_
          refine RL.add rfl rfl rfl rfl rfl rfl ((by simp only [rng]; omega)) ?_
          refine RL.pure rfl rfl rfl rfl ?_
          refine RL.done ?_
          refine fun ac ha => ⟨k - 1, [(0, .slice (some ⟨g, 0, none⟩) n c), (1, i64 a), (2, i64 b), (7, i64 ((x : Int) + 1)), (8, i64 (5 - ((st + 1 : Nat) : Int)))], ha.sub ⟨rfl, rfl, rfl, rfl, rfl, trivial⟩, ⟨x + 1, hg3, hax2.trans ((Aux.drew _).trans hax3), by omega, by omega, by omega, by rw [hsc]; exact scanSorted_step hxb' (by simpa using hl), rfl⟩, by omega⟩
        · refine CW.exit (fun ac ha => ⟨_, ha.sub (E' := [(0, .slice (some ⟨g, 0, none⟩) n c), (1, i64 a), (2, i64 b), (7, i64 (x : Nat)), (8, i64 (5 - ((st + 1 : Nat) : Int)))]) ⟨rfl, rfl, rfl, rfl, rfl, trivial⟩, x, hg3, hax2.trans ((Aux.drew _).trans hax3), hix, hxb, by rw [hsc]; exact scanSorted_end (.inr (by simpa using hl)), rfl⟩)
      · have hxb' : ¬ x < b := by have := of_decide_eq_false hc; omega
        refine RL.pass rfl rfl rfl ?_
        refine RL.pass rfl rfl rfl ?_
        refine RL.pass rfl rfl rfl ?_
        refine RL.pass rfl rfl rfl ?_
        refine RL.pass rfl rfl rfl ?_
        refine RL.pass rfl rfl rfl ?_
        refine RL.pass rfl rfl rfl ?_
        refine RL.pass rfl rfl rfl ?_
        refine RL.pass rfl rfl rfl ?_
        refine RL.pass rfl rfl rfl ?_
        refine RL.pass rfl rfl rfl ?_
        refine RL.pure rfl rfl rfl rfl ?_
        refine RL.done ?_
        refine CW.no rfl ?_
        refine CW.exit (fun ac ha => ⟨_, ha.sub (E' := [(0, .slice (some ⟨g, 0, none⟩) n c), (1, i64 a), (2, i64 b), (7, i64 (x : Nat)), (8, i64 (5 - ((st + 1 : Nat) : Int)))]) ⟨rfl, rfl, rfl, rfl, rfl, trivial⟩, x, hg.drew, hax2.trans (Aux.drew _), hix, hxb, by rw [hsc]; exact scanSorted_end (.inl hxb'), rfl⟩)
    rintro E' w4 ⟨x, hg4, hax4, hix, hxb, hsc, rfl⟩
    refine CW.seq (CW.seq (CW.plain ?_))
    refine RL.pure rfl rfl rfl rfl ?_
    refine RL.pure rfl rfl rfl rfl ?_
    refine RL.pure rfl rfl rfl rfl ?_
    refine RL.done ?_
    refine CW.eq rfl (fun he => ?_) (fun he => ?_)
    · refine CW.seq (CW.plain ?_)
      refine RL.pure rfl rfl rfl rfl ?_
      refine RL.done ?_
      have hpd := pi_done (a := a) (s := st) hsc (by omega)
      refine CW.ret (ret (vs := [_]) ⟨_, _, rfl, rfl, rfl⟩ (Post.mk (Le.refl _) hg4 hax4 ⟨rfl, ?_, ?_⟩))
      · rw [heq, hpd]; rfl
      · rw [heq, hpd]; exact hrow1
    have hxb2 : ¬ x = b := by omega
    refine CW.skip ?_
    refine CW.seq (CW.seq (CW.plain ?_))
    refine RL.pure rfl rfl rfl rfl ?_
    refine RL.pure rfl rfl rfl rfl ?_
    refine RL.sub rfl rfl rfl rfl rfl rfl ((by simp only [rng]; omega)) ?_
    refine RL.pure rfl rfl rfl rfl ?_
    refine RL.done ?_
    refine CW.test rfl (fun h5 => ?_) (fun h5 => ?_)
    · refine CW.seq (CW.plain ?_)
      refine RL.pure rfl rfl rfl rfl ?_
      refine RL.done ?_
      have hpd := pi_short (a := a) (s := st) hsc hxb2 (by omega)
      refine CW.ret (ret (vs := [_]) ⟨_, _, rfl, rfl, rfl⟩ (Post.mk (Le.refl _) hg4 hax4 ⟨rfl, ?_, ?_⟩))
      · rw [heq, hpd]; rfl
      · rw [heq, hpd]; exact hrow1
    refine CW.skip ?_
    have hgo := pi_go (a := a) (s := st) hsc hxb2 (by omega)
    have hg := hg4
    have hrow := hrow1
    have hn := hn1
    refine CW.meet (fun E' w' => ∃ A', Good w' s (A' :: os) ∧ Aux w w' ∧ RowAt A' g rest (swp d1 x (x - 1)) ∧ E' = [(0, .slice (some ⟨g, 0, none⟩) n c), (1, i64 a), (2, i64 b), (7, i64 (x : Nat)), (8, i64 (5 - ((st + 1 : Nat) : Int)))]) ?_ ?_
    · skip
      refine CW.forks (.fork [(true, 0), (true, 1), (true, 2), (true, 3), (true, 4), (true, 5), (true, 6), (true, 7), (true, 8), (true, 10), (true, 11), (true, 12)] (.line [(false, 9), (false, 13), (true, 14), (false, 15), (true, 16), (false, 17)]) (.line [(false, 13), (false, 9), (true, 14), (false, 15), (true, 16), (false, 17)])) (fun _ => True) mixed (by kernel_rfl) (by kernel_rfl) (by kernel_rfl) (by kernel_rfl) trivial ?_
      refine RT.pre trivial ?_
      refine RL.pure rfl rfl rfl rfl ?_
      refine RL.pure rfl rfl rfl rfl ?_
      refine RL.pure rfl rfl rfl rfl ?_
      refine RL.pure rfl rfl rfl rfl ?_
      refine RL.sub rfl rfl rfl rfl rfl rfl (by simp only [rng] at *; omega) ?_
      refine RL.pure rfl rfl rfl rfl ?_
      refine RL.pure rfl rfl rfl rfl ?_
      refine RL.sub rfl rfl rfl rfl rfl rfl (by simp only [rng] at *; omega) ?_
      refine RL.idxR (x - 1) rfl rfl rfl rfl sl49 rfl rfl (by omega) (by omega) ?_
      refine RL.pure rfl rfl rfl rfl ?_
      refine RL.pure rfl rfl rfl rfl ?_
      refine RL.idxR (x) rfl rfl rfl rfl sl49 rfl rfl (by omega) (by omega) ?_
      refine RL.done ?_
      refine RT.both (S := fun _ => True) trivial (RT.end_ (S := fun _ => True) trivial ?_) (RT.end_ (S := fun _ => True) trivial ?_)
      · refine RL.loadR (x - 1) rfl rfl rfl rfl ty33 rfl hrow hg.drew.1 (by omega) ?_
        refine RL.loadR (x) rfl rfl rfl rfl ty33 rfl hrow hg.drew.1 (by omega) ?_
        refine RL.idxR (x) rfl rfl rfl rfl sl49 rfl rfl (by omega) (by omega) ?_
        refine RL.storeR (x) rfl rfl rfl ty33 rfl rfl hg.drew hrow (by omega) ?_
        intro ws1 As1 hgs1 haxs1 hrows1
        refine ⟨trivial, ?_⟩
        refine RL.idxR (x - 1) rfl rfl rfl rfl sl49 rfl rfl (by omega) (by omega) ?_
        refine RL.storeR (x - 1) rfl rfl rfl ty33 rfl rfl hgs1 hrows1 (by simp; omega) ?_
        intro ws2 As2 hgs2 haxs2 hrows2
        refine ⟨trivial, ?_⟩
        refine RL.done ?_
        exact fun ac ha => ⟨_, ha.sub (E' := [(0, .slice (some ⟨g, 0, none⟩) n c), (1, i64 a), (2, i64 b), (7, i64 (x : Nat)), (8, i64 (5 - ((st + 1 : Nat) : Int)))]) ⟨rfl, rfl, rfl, rfl, rfl, trivial⟩, As2, hgs2, hax4.trans ((Aux.drew _).trans (haxs1.trans haxs2)), hrows2, rfl⟩
      · refine RL.loadR (x) rfl rfl rfl rfl ty33 rfl hrow hg.drew.1 (by omega) ?_
        refine RL.loadR (x - 1) rfl rfl rfl rfl ty33 rfl hrow hg.drew.1 (by omega) ?_
        refine RL.idxR (x) rfl rfl rfl rfl sl49 rfl rfl (by omega) (by omega) ?_
        refine RL.storeR (x) rfl rfl rfl ty33 rfl rfl hg.drew hrow (by omega) ?_
        intro ws1 As1 hgs1 haxs1 hrows1
        refine ⟨trivial, ?_⟩
        refine RL.idxR (x - 1) rfl rfl rfl rfl sl49 rfl rfl (by omega) (by omega) ?_
        refine RL.storeR (x - 1) rfl rfl rfl ty33 rfl rfl hgs1 hrows1 (by simp; omega) ?_
        intro ws2 As2 hgs2 haxs2 hrows2
        refine ⟨trivial, ?_⟩
        refine RL.done ?_
        exact fun ac ha => ⟨_, ha.sub (E' := [(0, .slice (some ⟨g, 0, none⟩) n c), (1, i64 a), (2, i64 b), (7, i64 (x : Nat)), (8, i64 (5 - ((st + 1 : Nat) : Int)))]) ⟨rfl, rfl, rfl, rfl, rfl, trivial⟩, As2, hgs2, hax4.trans ((Aux.drew _).trans (haxs1.trans haxs2)), hrows2, rfl⟩
    rintro E' w5 ⟨A5, hg5, hax5, hrow5, rfl⟩
    have hn5 : (swp d1 x (x - 1)).size = n := by rw [size_swp]; exact hn1
    -- the smaller one goes down
    refine CW.meet (fun E' w' => ∃ A' dk, Good w' s (A' :: os) ∧ Aux w w' ∧ RowAt A' g rest dk ∧ dk.size = n ∧ pd a x d1 = dk ∧ E' = [(0, .slice (some ⟨g, 0, none⟩) n c), (1, i64 a), (2, i64 b), (7, i64 (x : Nat)), (8, i64 (5 - ((st + 1 : Nat) : Int)))]) ?_ ?_
    · refine CW.seq (CW.plain ?_)
      refine RL.pure rfl rfl rfl rfl ?_
      refine RL.pure rfl rfl rfl rfl ?_
      refine RL.sub rfl rfl rfl rfl rfl rfl ((by simp only [rng]; omega)) ?_
      refine RL.pure rfl rfl rfl rfl ?_
      refine RL.done ?_
      refine CW.test rfl (fun h2 => ?_) (fun h2 => ?_)
      · have hpd : pd a x d1 = Go.Sort.shiftDown ltI (x - 1) (swp d1 x (x - 1)) := by rw [pd, if_pos (by omega)]
        refine CW.seq (CW.plain ?_)
        refine RL.pure rfl rfl rfl rfl ?_
        refine RL.sub rfl rfl rfl rfl rfl rfl ((by simp only [rng]; omega)) ?_
        refine RL.pure rfl rfl rfl rfl ?_
        refine RL.done ?_
        refine CW.block (CW.loop (σ := Nat) (fun j E w' => ∃ A' dk, Good w' s (A' :: os) ∧ Aux w w' ∧ RowAt A' g rest dk ∧ dk.size = n ∧ j < n ∧ pd a x d1 = Go.Sort.shiftDown ltI j dk ∧ E = [(0, .slice (some ⟨g, 0, none⟩) n c), (1, i64 a), (2, i64 b), (7, i64 (x : Nat)), (8, i64 (5 - ((st + 1 : Nat) : Int))), (9, i64 (j : Nat))])
          (fun j => j) (x - 1) [(0, .slice (some ⟨g, 0, none⟩) n c), (1, i64 a), (2, i64 b), (7, i64 (x : Nat)), (8, i64 (5 - ((st + 1 : Nat) : Int))), (9, i64 ((x - 1 : Nat) : Int))] ⟨rfl, rfl, rfl, rfl, rfl, congrArg (fun z => some (i64 z)) (by omega), trivial⟩ ⟨A5, _, hg5, hax5, hrow5, hn5, by omega, hpd, rfl⟩ ?_)
        rintro j E w6 ⟨A6, d6, hg, hax6, hrow, hn, hjn, hsd, rfl⟩
        refine CW.seq (CW.seq (CW.plain ?_))
        refine RL.pure rfl rfl rfl rfl ?_
        refine RL.pure rfl rfl rfl rfl ?_
        refine RL.done ?_
        refine CW.test rfl (fun hj => ?_) (fun hj => ?_)
        · refine CW.skip ?_
          have hj' : 1 ≤ j := by omega
          refine CW.meet (fun E' w' => ∃ A', ltI d6[j]! d6[j - 1]! = true ∧ Good w' s (A' :: os) ∧ Aux w w' ∧ RowAt A' g rest (swp d6 j (j - 1)) ∧ E' = [(0, .slice (some ⟨g, 0, none⟩) n c), (1, i64 a), (2, i64 b), (7, i64 (x : Nat)), (8, i64 (5 - ((st + 1 : Nat) : Int))), (9, i64 (j : Nat))]) ?_ ?_
          · refine CW.block (CW.seq (CW.seq ?_))
            refine CW.draws [(true, 0), (true, 1), (true, 2), (true, 3), (true, 4), (true, 5), (true, 6), (true, 7), (true, 8), (false, 9), (true, 10)] (fun w' => Good w' s (A6 :: os)) mixed (by kernel_rfl) (by kernel_rfl) (by kernel_rfl) (by kernel_rfl) hg.drew ?_
            refine RL.pure rfl rfl rfl rfl ?_
            refine RL.pure rfl rfl rfl rfl ?_
            refine RL.idxR j rfl rfl rfl rfl sl49 rfl rfl rfl (by omega) ?_
            refine RL.loadRT j rfl rfl rfl rfl ty33 rfl hrow (fun w h => h.1) (by omega) ?_
            refine RL.pure rfl rfl rfl rfl ?_
            refine RL.pure rfl rfl rfl rfl ?_
            refine RL.sub rfl rfl rfl rfl rfl rfl ((by simp only [rng]; omega)) ?_
            refine RL.idxR (j - 1) rfl rfl rfl rfl sl49 rfl rfl (by omega) (by omega) ?_
            refine RL.loadRT (j - 1) rfl rfl rfl rfl ty33 rfl hrow (fun w h => h.1) (by omega) ?_
            refine RL.callV rfl rfl rfl rfl rfl ca48 (Less_ct hg.drew) ?_
            rintro v w7 hg7 hax7 rfl
            refine ⟨hg7, ?_⟩
            refine RL.pure rfl rfl rfl rfl ?_
            refine RL.done ?_
            refine CW.cond rfl (fun hl => ?_) (fun hl => ?_)
            · refine CW.exit (fun ac ha => ⟨_, ha.sub (E' := [(0, .slice (some ⟨g, 0, none⟩) n c), (1, i64 a), (2, i64 b), (7, i64 (x : Nat)), (8, i64 (5 - ((st + 1 : Nat) : Int)))]) ⟨rfl, rfl, rfl, rfl, rfl, trivial⟩, A6, d6, hg7, hax6.trans ((Aux.drew _).trans hax7), hrow, hn, by rw [hsd]; exact shiftDown_end (.inr (by simpa using hl)), rfl⟩)
            · have hl' : ltI d6[j]! d6[j - 1]! = true := by simpa using hl
              refine CW.skip ?_
              have hg := hg7
              refine CW.forks (.fork [(true, 0), (true, 1), (true, 2), (true, 3), (true, 4), (true, 5), (true, 6), (true, 7), (true, 8), (true, 10), (true, 11), (true, 12)] (.line [(false, 9), (false, 13), (true, 14), (false, 15), (true, 16), (false, 17)]) (.line [(false, 13), (false, 9), (true, 14), (false, 15), (true, 16), (false, 17)])) (fun _ => True) mixed (by kernel_rfl) (by kernel_rfl) (by kernel_rfl) (by kernel_rfl) trivial ?_
              refine RT.pre trivial ?_
              refine RL.pure rfl rfl rfl rfl ?_
              refine RL.pure rfl rfl rfl rfl ?_
              refine RL.pure rfl rfl rfl rfl ?_
              refine RL.pure rfl rfl rfl rfl ?_
              refine RL.sub rfl rfl rfl rfl rfl rfl (by simp only [rng] at *; omega) ?_
              refine RL.pure rfl rfl rfl rfl ?_
              refine RL.pure rfl rfl rfl rfl ?_
              refine RL.sub rfl rfl rfl rfl rfl rfl (by simp only [rng] at *; omega) ?_
              refine RL.idxR (j - 1) rfl rfl rfl rfl sl49 rfl rfl (by omega) (by omega) ?_
              refine RL.pure rfl rfl rfl rfl ?_
              refine RL.pure rfl rfl rfl rfl ?_
              refine RL.idxR (j) rfl rfl rfl rfl sl49 rfl rfl (by omega) (by omega) ?_
              refine RL.done ?_
              refine RT.both (S := fun _ => True) trivial (RT.end_ (S := fun _ => True) trivial ?_) (RT.end_ (S := fun _ => True) trivial ?_)
              · refine RL.loadR (j - 1) rfl rfl rfl rfl ty33 rfl hrow hg.drew.1 (by omega) ?_
                refine RL.loadR (j) rfl rfl rfl rfl ty33 rfl hrow hg.drew.1 (by omega) ?_
                refine RL.idxR (j) rfl rfl rfl rfl sl49 rfl rfl (by omega) (by omega) ?_
                refine RL.storeR (j) rfl rfl rfl ty33 rfl rfl hg.drew hrow (by omega) ?_
                intro ws1 As1 hgs1 haxs1 hrows1
                refine ⟨trivial, ?_⟩
                refine RL.idxR (j - 1) rfl rfl rfl rfl sl49 rfl rfl (by omega) (by omega) ?_
                refine RL.storeR (j - 1) rfl rfl rfl ty33 rfl rfl hgs1 hrows1 (by simp; omega) ?_
                intro ws2 As2 hgs2 haxs2 hrows2
                refine ⟨trivial, ?_⟩
                refine RL.done ?_
                exact fun ac ha => ⟨_, ha.sub (E' := [(0, .slice (some ⟨g, 0, none⟩) n c), (1, i64 a), (2, i64 b), (7, i64 (x : Nat)), (8, i64 (5 - ((st + 1 : Nat) : Int))), (9, i64 (j : Nat))]) ⟨rfl, rfl, rfl, rfl, rfl, rfl, trivial⟩, As2, hl', hgs2, hax6.trans ((Aux.drew _).trans (hax7.trans ((Aux.drew _).trans (haxs1.trans haxs2)))), hrows2, rfl⟩
              · refine RL.loadR (j) rfl rfl rfl rfl ty33 rfl hrow hg.drew.1 (by omega) ?_
                refine RL.loadR (j - 1) rfl rfl rfl rfl ty33 rfl hrow hg.drew.1 (by omega) ?_
                refine RL.idxR (j) rfl rfl rfl rfl sl49 rfl rfl (by omega) (by omega) ?_
                refine RL.storeR (j) rfl rfl rfl ty33 rfl rfl hg.drew hrow (by omega) ?_
                intro ws1 As1 hgs1 haxs1 hrows1
                refine ⟨trivial, ?_⟩
                refine RL.idxR (j - 1) rfl rfl rfl rfl sl49 rfl rfl (by omega) (by omega) ?_
                refine RL.storeR (j - 1) rfl rfl rfl ty33 rfl rfl hgs1 hrows1 (by simp; omega) ?_
                intro ws2 As2 hgs2 haxs2 hrows2
                refine ⟨trivial, ?_⟩
                refine RL.done ?_
                exact fun ac ha => ⟨_, ha.sub (E' := [(0, .slice (some ⟨g, 0, none⟩) n c), (1, i64 a), (2, i64 b), (7, i64 (x : Nat)), (8, i64 (5 - ((st + 1 : Nat) : Int))), (9, i64 (j : Nat))]) ⟨rfl, rfl, rfl, rfl, rfl, rfl, trivial⟩, As2, hl', hgs2, hax6.trans ((Aux.drew _).trans (hax7.trans ((Aux.drew _).trans (haxs1.trans haxs2)))), hrows2, rfl⟩
          · rintro E' w8 ⟨A8, hl', hg8, hax8, hrow8, rfl⟩
            refine CW.plain ?_
            refine RL.pure rfl rfl rfl rfl ?_
            refine RL.sub rfl rfl rfl rfl rfl rfl ((by simp only [rng]; omega)) ?_
            refine RL.pure rfl rfl rfl rfl ?_
            refine RL.done ?_
            refine fun ac ha => ⟨j - 1, [(0, .slice (some ⟨g, 0, none⟩) n c), (1, i64 a), (2, i64 b), (7, i64 (x : Nat)), (8, i64 (5 - ((st + 1 : Nat) : Int))), (9, i64 ((j - 1 : Nat) : Int))], ha.sub ⟨rfl, rfl, rfl, rfl, rfl, congrArg (fun z => some (i64 z)) (by omega), trivial⟩, ⟨A8, _, hg8, hax8, hrow8, by rw [size_swp]; exact hn, by omega, by rw [hsd]; exact shiftDown_step hj' hl', rfl⟩, by omega⟩
        · refine CW.exit (fun ac ha => ⟨_, ha.sub (E' := [(0, .slice (some ⟨g, 0, none⟩) n c), (1, i64 a), (2, i64 b), (7, i64 (x : Nat)), (8, i64 (5 - ((st + 1 : Nat) : Int)))]) ⟨rfl, rfl, rfl, rfl, rfl, trivial⟩, A6, d6, hg, hax6, hrow, hn, by rw [hsd]; exact shiftDown_end (.inl (by omega)), rfl⟩)
      · refine CW.skip (fun ac ha => ⟨_, ha.sub (E' := [(0, .slice (some ⟨g, 0, none⟩) n c), (1, i64 a), (2, i64 b), (7, i64 (x : Nat)), (8, i64 (5 - ((st + 1 : Nat) : Int)))]) ⟨rfl, rfl, rfl, rfl, rfl, trivial⟩, A5, _, hg5, hax5, hrow5, hn5, by rw [pd, if_neg (by omega)], rfl⟩)
    rintro E' w6 ⟨A5, d5, hg5, hax5, hrow5, hn5, hpd, rfl⟩
    -- the greater one goes up
    refine CW.seq (CW.plain ?_)
    refine RL.pure rfl rfl rfl rfl ?_
    refine RL.pure rfl rfl rfl rfl ?_
    refine RL.sub rfl rfl rfl rfl rfl rfl ((by simp only [rng]; omega)) ?_
    refine RL.pure rfl rfl rfl rfl ?_
    refine RL.done ?_
    refine CW.test rfl (fun h2 => ?_) (fun h2 => ?_)
    · skip
      have hpu : pu b x d5 = Go.Sort.shiftUp ltI b (x + 1) d5 := by rw [pu, if_pos (by omega)]
      · refine CW.seq (CW.plain ?_)
        refine RL.pure rfl rfl rfl rfl ?_
        refine RL.add rfl rfl rfl rfl rfl rfl ((by simp only [rng]; omega)) ?_
        refine RL.pure rfl rfl rfl rfl ?_
        refine RL.done ?_
        refine CW.block (CW.loop (σ := Nat) (fun k E w' => ∃ A' dk j, Good w' s (A' :: os) ∧ Aux w w' ∧ RowAt A' g rest dk ∧ dk.size = n ∧ 1 ≤ j ∧ j ≤ n ∧ b - j ≤ k ∧ pu b x d5 = Go.Sort.shiftUp ltI b j dk ∧ E = [(0, .slice (some ⟨g, 0, none⟩) n c), (1, i64 a), (2, i64 b), (7, i64 (x : Nat)), (8, i64 (5 - ((st + 1 : Nat) : Int))), (10, i64 (j : Nat))])
          (fun k => k) b [(0, .slice (some ⟨g, 0, none⟩) n c), (1, i64 a), (2, i64 b), (7, i64 (x : Nat)), (8, i64 (5 - ((st + 1 : Nat) : Int))), (10, i64 ((x : Int) + 1))] ⟨rfl, rfl, rfl, rfl, rfl, rfl, trivial⟩ ⟨A5, _, x + 1, hg5, hax5, hrow5, hn5, by omega, by omega, by omega, hpu, rfl⟩ ?_)
        rintro k E w6 ⟨A6, d6, j, hg, hax6, hrow, hn, h1j, hjn, hk, hsd, rfl⟩
        refine CW.seq (CW.seq (CW.plain ?_))
        refine RL.pure rfl rfl rfl rfl ?_
        refine RL.pure rfl rfl rfl rfl ?_
        refine RL.pure rfl rfl rfl rfl ?_
        refine RL.done ?_
        refine CW.test rfl (fun hj => ?_) (fun hj => ?_)
        · refine CW.skip ?_
          have hj' : j < b := by omega
          refine CW.meet (fun E' w' => ∃ A', ltI d6[j]! d6[j - 1]! = true ∧ Good w' s (A' :: os) ∧ Aux w w' ∧ RowAt A' g rest (swp d6 j (j - 1)) ∧ E' = [(0, .slice (some ⟨g, 0, none⟩) n c), (1, i64 a), (2, i64 b), (7, i64 (x : Nat)), (8, i64 (5 - ((st + 1 : Nat) : Int))), (10, i64 (j : Nat))]) ?_ ?_
          · refine CW.block (CW.seq (CW.seq ?_))
            refine CW.draws [(true, 0), (true, 1), (true, 2), (true, 3), (true, 4), (true, 5), (true, 6), (true, 7), (true, 8), (false, 9), (true, 10)] (fun w' => Good w' s (A6 :: os)) mixed (by kernel_rfl) (by kernel_rfl) (by kernel_rfl) (by kernel_rfl) hg.drew ?_
            refine RL.pure rfl rfl rfl rfl ?_
            refine RL.pure rfl rfl rfl rfl ?_
            refine RL.idxR j rfl rfl rfl rfl sl49 rfl rfl rfl (by omega) ?_
            refine RL.loadRT j rfl rfl rfl rfl ty33 rfl hrow (fun w h => h.1) (by omega) ?_
            refine RL.pure rfl rfl rfl rfl ?_
            refine RL.pure rfl rfl rfl rfl ?_
            refine RL.sub rfl rfl rfl rfl rfl rfl ((by simp only [rng]; omega)) ?_
            refine RL.idxR (j - 1) rfl rfl rfl rfl sl49 rfl rfl (by omega) (by omega) ?_
            refine RL.loadRT (j - 1) rfl rfl rfl rfl ty33 rfl hrow (fun w h => h.1) (by omega) ?_
            refine RL.callV rfl rfl rfl rfl rfl ca48 (Less_ct hg.drew) ?_
            rintro v w7 hg7 hax7 rfl
            refine ⟨hg7, ?_⟩
            refine RL.pure rfl rfl rfl rfl ?_
            refine RL.done ?_
            refine CW.cond rfl (fun hl => ?_) (fun hl => ?_)
            · refine CW.exit (fun ac ha => ⟨_, ha.sub (E' := [(0, .slice (some ⟨g, 0, none⟩) n c), (1, i64 a), (2, i64 b), (7, i64 (x : Nat)), (8, i64 (5 - ((st + 1 : Nat) : Int)))]) ⟨rfl, rfl, rfl, rfl, rfl, trivial⟩, x, A6, d6, hg7, hax6.trans ((Aux.drew _).trans hax7), hrow, hn, by omega, hxb, by rw [heq, hgo, hpd, hsd, shiftUp_end (.inr (by simpa using hl))], rfl⟩)
            · have hl' : ltI d6[j]! d6[j - 1]! = true := by simpa using hl
              refine CW.skip ?_
              have hg := hg7
              refine CW.forks (.fork [(true, 0), (true, 1), (true, 2), (true, 3), (true, 4), (true, 5), (true, 6), (true, 7), (true, 8), (true, 10), (true, 11), (true, 12)] (.line [(false, 9), (false, 13), (true, 14), (false, 15), (true, 16), (false, 17)]) (.line [(false, 13), (false, 9), (true, 14), (false, 15), (true, 16), (false, 17)])) (fun _ => True) mixed (by kernel_rfl) (by kernel_rfl) (by kernel_rfl) (by kernel_rfl) trivial ?_
              refine RT.pre trivial ?_
              refine RL.pure rfl rfl rfl rfl ?_
              refine RL.pure rfl rfl rfl rfl ?_
              refine RL.pure rfl rfl rfl rfl ?_
              refine RL.pure rfl rfl rfl rfl ?_
              refine RL.sub rfl rfl rfl rfl rfl rfl (by simp only [rng] at *; omega) ?_
              refine RL.pure rfl rfl rfl rfl ?_
              refine RL.pure rfl rfl rfl rfl ?_
              refine RL.sub rfl rfl rfl rfl rfl rfl (by simp only [rng] at *; omega) ?_
              refine RL.idxR (j - 1) rfl rfl rfl rfl sl49 rfl rfl (by omega) (by omega) ?_
              refine RL.pure rfl rfl rfl rfl ?_
              refine RL.pure rfl rfl rfl rfl ?_
              refine RL.idxR (j) rfl rfl rfl rfl sl49 rfl rfl (by omega) (by omega) ?_
              refine RL.done ?_
              refine RT.both (S := fun _ => True) trivial (RT.end_ (S := fun _ => True) trivial ?_) (RT.end_ (S := fun _ => True) trivial ?_)
              · refine RL.loadR (j - 1) rfl rfl rfl rfl ty33 rfl hrow hg.drew.1 (by omega) ?_
                refine RL.loadR (j) rfl rfl rfl rfl ty33 rfl hrow hg.drew.1 (by omega) ?_
                refine RL.idxR (j) rfl rfl rfl rfl sl49 rfl rfl (by omega) (by omega) ?_
                refine RL.storeR (j) rfl rfl rfl ty33 rfl rfl hg.drew hrow (by omega) ?_
                intro ws1 As1 hgs1 haxs1 hrows1
                refine ⟨trivial, ?_⟩
                refine RL.idxR (j - 1) rfl rfl rfl rfl sl49 rfl rfl (by omega) (by omega) ?_
                refine RL.storeR (j - 1) rfl rfl rfl ty33 rfl rfl hgs1 hrows1 (by simp; omega) ?_
                intro ws2 As2 hgs2 haxs2 hrows2
                refine ⟨trivial, ?_⟩
                refine RL.done ?_
                exact fun ac ha => ⟨_, ha.sub (E' := [(0, .slice (some ⟨g, 0, none⟩) n c), (1, i64 a), (2, i64 b), (7, i64 (x : Nat)), (8, i64 (5 - ((st + 1 : Nat) : Int))), (10, i64 (j : Nat))]) ⟨rfl, rfl, rfl, rfl, rfl, rfl, trivial⟩, As2, hl', hgs2, hax6.trans ((Aux.drew _).trans (hax7.trans ((Aux.drew _).trans (haxs1.trans haxs2)))), hrows2, rfl⟩
              · refine RL.loadR (j) rfl rfl rfl rfl ty33 rfl hrow hg.drew.1 (by omega) ?_
                refine RL.loadR (j - 1) rfl rfl rfl rfl ty33 rfl hrow hg.drew.1 (by omega) ?_
                refine RL.idxR (j) rfl rfl rfl rfl sl49 rfl rfl (by omega) (by omega) ?_
                refine RL.storeR (j) rfl rfl rfl ty33 rfl rfl hg.drew hrow (by omega) ?_
                intro ws1 As1 hgs1 haxs1 hrows1
                refine ⟨trivial, ?_⟩
                refine RL.idxR (j - 1) rfl rfl rfl rfl sl49 rfl rfl (by omega) (by omega) ?_
                refine RL.storeR (j - 1) rfl rfl rfl ty33 rfl rfl hgs1 hrows1 (by simp; omega) ?_
                intro ws2 As2 hgs2 haxs2 hrows2
                refine ⟨trivial, ?_⟩
                refine RL.done ?_
                exact fun ac ha => ⟨_, ha.sub (E' := [(0, .slice (some ⟨g, 0, none⟩) n c), (1, i64 a), (2, i64 b), (7, i64 (x : Nat)), (8, i64 (5 - ((st + 1 : Nat) : Int))), (10, i64 (j : Nat))]) ⟨rfl, rfl, rfl, rfl, rfl, rfl, trivial⟩, As2, hl', hgs2, hax6.trans ((Aux.drew _).trans (hax7.trans ((Aux.drew _).trans (haxs1.trans haxs2)))), hrows2, rfl⟩
          · rintro E' w8 ⟨A8, hl', hg8, hax8, hrow8, rfl⟩
            refine CW.plain ?_
            refine RL.pure rfl rfl rfl rfl ?_
            refine RL.add rfl rfl rfl rfl rfl rfl ((by simp only [rng]; omega)) ?_
            refine RL.pure rfl rfl rfl rfl ?_
            refine RL.done ?_
            refine fun ac ha => ⟨k - 1, [(0, .slice (some ⟨g, 0, none⟩) n c), (1, i64 a), (2, i64 b), (7, i64 (x : Nat)), (8, i64 (5 - ((st + 1 : Nat) : Int))), (10, i64 ((j : Int) + 1))], ha.sub ⟨rfl, rfl, rfl, rfl, rfl, rfl, trivial⟩, ⟨A8, _, j + 1, hg8, hax8, hrow8, by rw [size_swp]; exact hn, by omega, by omega, by omega, by rw [hsd]; exact shiftUp_step hj' hl', rfl⟩, by omega⟩
        · refine CW.exit (fun ac ha => ⟨_, ha.sub (E' := [(0, .slice (some ⟨g, 0, none⟩) n c), (1, i64 a), (2, i64 b), (7, i64 (x : Nat)), (8, i64 (5 - ((st + 1 : Nat) : Int)))]) ⟨rfl, rfl, rfl, rfl, rfl, trivial⟩, x, A6, d6, hg, hax6, hrow, hn, by omega, hxb, by rw [heq, hgo, hpd, hsd, shiftUp_end (.inl (by omega))], rfl⟩)
    · refine CW.skip (fun ac ha => ⟨_, ha.sub (E' := [(0, .slice (some ⟨g, 0, none⟩) n c), (1, i64 a), (2, i64 b), (7, i64 (x : Nat)), (8, i64 (5 - ((st + 1 : Nat) : Int)))]) ⟨rfl, rfl, rfl, rfl, rfl, trivial⟩, x, A5, d5, hg5, hax5, hrow5, hn5, by omega, hxb, by rw [heq, hgo, hpd, pu, if_neg (by omega)], rfl⟩)
  · obtain rfl : st = 0 := by omega
    refine CW.exit (CW.seq (CW.plain ?_))
    refine RL.pure rfl rfl rfl rfl ?_
    refine RL.done ?_
    refine CW.ret (ret (vs := [_]) ⟨_, _, rfl, rfl, rfl⟩ (Post.mk (Le.refl _) hg1 hax1 ⟨rfl, ?_, ?_⟩))
    · rw [heq]; rfl
    · rw [heq]; exact hrow1
end Go.Lw
