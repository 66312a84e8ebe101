/-
  The sort: pdqsort: what comes of it is a sorted permutation.
-/
import Derived.Test.YtdleejgghbpbmaaSortG
import Derived.Sort.LotD3
namespace Go.Lw
open Go.Proofs
open Go.Sort (swp size_swp PermIn SortedIn Below permIn_trans round_eq round_part)

theorem swo : Go.Sort.SWO ltI := Go.Sort.swo_ltInt
theorem hpart : Go.Sort.partition_stmt ltI := Go.Sort.partition_holds _
theorem hpartEq : Go.Sort.partitionEqual_stmt ltI := Go.Sort.partitionEqual_holds _
abbrev Fin (a b : Nat) (d : Array Int) (a1 b1 : Nat) (d1 : Array Int) : Prop := ∀ R, PermIn a1 b1 d1 R → SortedIn ltI a1 b1 R → PermIn a b d R ∧ SortedIn ltI a b R
abbrev PPost (w : World) (s : Res) (os : List Res) (g : Nat) (rest : List Value) (a b : Nat) (d : Array Int) : Ending → World → Prop := Post w s os fun s' A' r => s' = s ∧ r = .tuple #[] ∧ ∃ d', PermIn a b d d' ∧ SortedIn ltI a b d' ∧ RowAt A' g rest d'

set_option maxHeartbeats 4000000 in
set_option maxRecDepth 100000 in
theorem pdq_ct (N : Nat) : ∀ {w : World} {s A : Res} {os : List Res} {g n c a b lim : Nat} {rest : List Value} {d : Array Int}, b - a ≤ N → Good w s (A :: os) → RowAt A g rest d → d.size = n → a ≤ b → b ≤ n → n < 2305843009213693952 → lim ≤ 64 → Below ltI a b d →
    Calls Try.prog 38 #[.slice (some ⟨g, 0, none⟩) n c, i64 a, i64 b, i64 lim] w (PPost w s os g rest a b d) := by
  induction N using Nat.strongRecOn with
  | _ N ih =>
  intro w s A os g n c a b lim rest d hN hg hrow hn hab hb hsz hlim hB
  refine enter (l := [.slice (some ⟨g, 0, none⟩) n c, i64 a, i64 b, i64 lim]) Try.func38 rfl Try.ntmps38 rfl ?_
  refine CW.seq (CW.plain ?_)
  refine RL.pure rfl rfl rfl rfl ?_
  refine RL.done ?_
  refine CW.seq (CW.plain ?_)
  refine RL.pure rfl rfl rfl rfl ?_
  refine RL.done ?_
  refine CW.block (CW.loop (σ := Nat) (fun k E w' => ∃ A1 d1 a1 b1 lim1 wb wp, Good w' s (A1 :: os) ∧ Aux w w' ∧ RowAt A1 g rest d1 ∧ d1.size = n ∧ a1 ≤ b1 ∧ b1 ≤ n ∧ b1 - a1 ≤ k ∧ k ≤ N ∧ lim1 ≤ 64 ∧ Below ltI a1 b1 d1 ∧ Fin a b d a1 b1 d1 ∧ E = [(0, .slice (some ⟨g, 0, none⟩) n c), (1, i64 (a1 : Nat)), (2, i64 (b1 : Nat)), (3, i64 (lim1 : Nat)), (8, .bool wb), (9, .bool wp)])
    (fun k => k) N [(0, .slice (some ⟨g, 0, none⟩) n c), (1, i64 a), (2, i64 b), (3, i64 lim), (8, .bool true), (9, .bool true)] ⟨rfl, rfl, rfl, rfl, rfl, rfl, trivial⟩ ⟨A, d, a, b, lim, true, true, hg, Aux.refl _, hrow, hn, hab, hb, hN, Nat.le_refl _, hlim, hB, fun R h1 h2 => ⟨h1, h2⟩, rfl⟩ ?_)
  rintro k E w0 ⟨A0, d0, a1, b1, lim0, wb, wp, hg0, hax0, hrow0, hn0, hab1, hb1, hk, hkN, hlim0, hB0, hfin, rfl⟩
  have hend : ∀ {w' : World} {A' : Res} {R : Array Int}, Good w' s (A' :: os) → Aux w w' → PermIn a1 b1 d0 R → SortedIn ltI a1 b1 R → RowAt A' g rest R → PPost w s os g rest a b d (.returned (.tuple #[])) w' := fun h1 h2 h3 h4 h5 => Post.mk (Le.refl _) h1 h2 ⟨rfl, rfl, _, (hfin _ h3 h4).1, (hfin _ h3 h4).2, h5⟩
  obtain ⟨L, hL⟩ : ∃ L, L = b1 - a1 := ⟨_, rfl⟩
  refine CW.block (CW.seq (CW.plain ?_))
  refine RL.pure rfl rfl rfl rfl ?_
  refine RL.pure rfl rfl rfl rfl ?_
  refine RL.sub rfl rfl rfl rfl rfl rfl ((by simp only [rng]; omega)) ?_
  refine RL.pure rfl rfl rfl rfl ?_
  refine RL.done ?_
  have eL : ((b1 : Int) - (a1 : Int)) = (L : Int) := by omega
  rw [eL]
  refine CW.seq (CW.seq (CW.plain ?_))
  refine RL.pure rfl rfl rfl rfl ?_
  refine RL.pure rfl rfl rfl rfl ?_
  refine RL.done ?_
  refine CW.test rfl (fun h12 => ?_) (fun h12 => ?_)
  · refine CW.seq (CW.plain ?_)
    refine RL.pure rfl rfl rfl rfl ?_
    refine RL.pure rfl rfl rfl rfl ?_
    refine RL.pure rfl rfl rfl rfl ?_
    refine RL.call rfl rfl rfl rfl rfl ca42 (insertionSort_ct hg0 hrow0 hn0 hb1 (by omega) (by omega)) ?_
    rintro v1 s1 A1 w1 hle1 hg1 hax1 ⟨rfl, rfl, hrow1⟩
    refine ⟨trivial, ?_⟩
    refine RL.done ?_
    have hi := Go.Sort.insertionSort_holds swo d0 a1 b1 hab1 (by omega)
    exact CW.ret (ret (vs := []) rfl (hend hg1 (hax0.trans hax1) hi.1 hi.2 hrow1))
  refine CW.skip ?_
  refine CW.seq (CW.seq (CW.plain ?_))
  refine RL.pure rfl rfl rfl rfl ?_
  refine RL.pure rfl rfl rfl rfl ?_
  refine RL.done ?_
  refine CW.eq rfl (fun hl0 => ?_) (fun hl0 => ?_)
  · refine CW.seq (CW.plain ?_)
    refine RL.pure rfl rfl rfl rfl ?_
    refine RL.pure rfl rfl rfl rfl ?_
    refine RL.pure rfl rfl rfl rfl ?_
    refine RL.call rfl rfl rfl rfl rfl ca43 (heapSort_ct hg0 hrow0 hn0 hb1 (by omega) hsz) ?_
    rintro v1 s1 A1 w1 hle1 hg1 hax1 ⟨rfl, rfl, hrow1⟩
    refine ⟨trivial, ?_⟩
    refine RL.done ?_
    have hi := Go.Sort.heapSort_holds swo d0 a1 b1 hab1 (by omega)
    exact CW.ret (ret (vs := []) rfl (hend hg1 (hax0.trans hax1) hi.1 hi.2 hrow1))
  refine CW.skip ?_
  -- the patterns are broken, or not
  refine CW.meet (fun E' w' => ∃ A1 d1 lim, Good w' s (A1 :: os) ∧ Aux w w' ∧ RowAt A1 g rest d1 ∧ PermIn a1 b1 d0 d1 ∧ lim ≤ 64 ∧ E' = [(0, .slice (some ⟨g, 0, none⟩) n c), (1, i64 (a1 : Nat)), (2, i64 (b1 : Nat)), (3, i64 (lim : Nat)), (8, .bool wb), (9, .bool wp), (10, i64 (L : Nat))]) ?_ ?_
  · refine CW.seq (CW.plain ?_)
    refine RL.pure rfl rfl rfl rfl ?_
    refine RL.pure rfl rfl rfl rfl ?_
    refine RL.done ?_
    refine CW.cond rfl (fun hw => ?_) (fun hw => ?_)
    · refine CW.seq (CW.plain ?_)
      refine RL.pure rfl rfl rfl rfl ?_
      refine RL.pure rfl rfl rfl rfl ?_
      refine RL.pure rfl rfl rfl rfl ?_
      refine RL.call rfl rfl rfl rfl rfl ca44 (breakPatterns_ct hg0 hrow0 hn0 hb1 (by omega) hsz) ?_
      rintro v1 s1 A1 w1 hle1 hg1 hax1 ⟨rfl, rfl, d1, hp1, hrow1⟩
      refine ⟨trivial, ?_⟩
      refine RL.done ?_
      refine CW.plain ?_
      refine RL.pure rfl rfl rfl rfl ?_
      refine RL.sub rfl rfl rfl rfl rfl rfl ((by simp only [rng]; omega)) ?_
      refine RL.pure rfl rfl rfl rfl ?_
      refine RL.done ?_
      exact fun ac ha => ⟨_, ha.sub (E' := [(0, .slice (some ⟨g, 0, none⟩) n c), (1, i64 (a1 : Nat)), (2, i64 (b1 : Nat)), (3, i64 ((lim0 - 1 : Nat) : Int)), (8, .bool wb), (9, .bool wp), (10, i64 (L : Nat))]) ⟨rfl, rfl, rfl, congrArg (fun z => some (i64 z)) (by omega), rfl, rfl, rfl, trivial⟩, A1, d1, lim0 - 1, hg1, hax0.trans hax1, hrow1, hp1, by omega, rfl⟩
    · exact CW.skip (fun ac ha => ⟨_, ha.sub (E' := [(0, .slice (some ⟨g, 0, none⟩) n c), (1, i64 (a1 : Nat)), (2, i64 (b1 : Nat)), (3, i64 (lim0 : Nat)), (8, .bool wb), (9, .bool wp), (10, i64 (L : Nat))]) ⟨rfl, rfl, rfl, rfl, rfl, rfl, rfl, trivial⟩, A0, d0, lim0, hg0, hax0, hrow0, Go.Sort.permIn_refl _ _ _, hlim0, rfl⟩)
  rintro E' w1 ⟨A1, d1, lim, hg1, hax1, hrow1, hp1, hlim1, rfl⟩
  have hn1 : d1.size = n := by rw [hp1.1]; exact hn0
  have hB1 : Below ltI a1 b1 d1 := hB0.perm (by omega) hp1
  refine CW.seq (CW.plain ?_)
  refine RL.pure rfl rfl rfl rfl ?_
  refine RL.pure rfl rfl rfl rfl ?_
  refine RL.pure rfl rfl rfl rfl ?_
  refine RL.callV rfl rfl rfl rfl rfl ca45 (choosePivot_ct hg1 hrow1 hn1 hb1 (by omega) hsz) ?_
  rintro v2 w2 hg2 hax2 ⟨q0, h0, rfl, hq0, hq0', hh0⟩
  refine ⟨trivial, ?_⟩
  refine RL.pure rfl rfl rfl rfl ?_
  refine RL.pure rfl rfl rfl rfl ?_
  refine RL.pure rfl rfl rfl rfl ?_
  refine RL.pure rfl rfl rfl rfl ?_
  refine RL.pure rfl rfl rfl rfl ?_
  refine RL.done ?_
  -- reversed, or not
  refine CW.meet (fun E' w' => ∃ A3 d3 q h, Good w' s (A3 :: os) ∧ Aux w w' ∧ RowAt A3 g rest d3 ∧ PermIn a1 b1 d1 d3 ∧ a1 ≤ q ∧ q < b1 ∧ E' = [(0, .slice (some ⟨g, 0, none⟩) n c), (1, i64 (a1 : Nat)), (2, i64 (b1 : Nat)), (3, i64 (lim : Nat)), (8, .bool wb), (9, .bool wp), (10, i64 (L : Nat)), (11, i64 (q : Nat)), (12, i64 (h : Nat))]) ?_ ?_
  · refine CW.seq (CW.plain ?_)
    refine RL.pure rfl rfl rfl rfl ?_
    refine RL.pure rfl rfl rfl rfl ?_
    refine RL.done ?_
    refine CW.eq rfl (fun hh => ?_) (fun hh => ?_)
    · refine CW.seq (CW.plain ?_)
      refine RL.pure rfl rfl rfl rfl ?_
      refine RL.pure rfl rfl rfl rfl ?_
      refine RL.pure rfl rfl rfl rfl ?_
      refine RL.call rfl rfl rfl rfl rfl ca46 (reverseRange_ct hg2 hrow1 hn1 hb1 (by omega) (by omega)) ?_
      rintro v3 s3 A3 w3 hle3 hg3 hax3 ⟨rfl, rfl, hrow3⟩
      refine ⟨trivial, ?_⟩
      refine RL.done ?_
      refine CW.seq (CW.plain ?_)
      refine RL.pure rfl rfl rfl rfl ?_
      refine RL.sub rfl rfl rfl rfl rfl rfl ((by simp only [rng]; omega)) ?_
      refine RL.pure rfl rfl rfl rfl ?_
      refine RL.pure rfl rfl rfl rfl ?_
      refine RL.sub rfl rfl rfl rfl rfl rfl ((by simp only [rng]; omega)) ?_
      refine RL.sub rfl rfl rfl rfl rfl rfl ((by simp only [rng]; omega)) ?_
      refine RL.pure rfl rfl rfl rfl ?_
      refine RL.done ?_
      refine CW.plain ?_
      refine RL.pure rfl rfl rfl rfl ?_
      refine RL.done ?_
      exact fun ac ha => ⟨_, ha.sub (E' := [(0, .slice (some ⟨g, 0, none⟩) n c), (1, i64 (a1 : Nat)), (2, i64 (b1 : Nat)), (3, i64 (lim : Nat)), (8, .bool wb), (9, .bool wp), (10, i64 (L : Nat)), (11, i64 ((b1 - 1 - (q0 - a1) : Nat) : Int)), (12, i64 1)]) ⟨rfl, rfl, rfl, rfl, rfl, rfl, rfl, congrArg (fun z => some (i64 z)) (by omega), rfl, trivial⟩, A3, _, b1 - 1 - (q0 - a1), 1, hg3, hax1.trans (hax2.trans hax3), hrow3, Go.Sort.reverseRange_holds d1 a1 b1 hab1 (by omega), by omega, by omega, rfl⟩
    · exact CW.skip (fun ac ha => ⟨_, ha.sub (E' := [(0, .slice (some ⟨g, 0, none⟩) n c), (1, i64 (a1 : Nat)), (2, i64 (b1 : Nat)), (3, i64 (lim : Nat)), (8, .bool wb), (9, .bool wp), (10, i64 (L : Nat)), (11, i64 (q0 : Nat)), (12, i64 (h0 : Nat))]) ⟨rfl, rfl, rfl, rfl, rfl, rfl, rfl, rfl, rfl, trivial⟩, A1, d1, q0, h0, hg2, hax1.trans hax2, hrow1, Go.Sort.permIn_refl _ _ _, hq0, hq0', rfl⟩)
  rintro E' w3 ⟨A3, d3, q, h, hg3, hax3, hrow3, hp3, hq, hq', rfl⟩
  have hn3 : d3.size = n := by rw [hp3.1]; exact hn1
  have hB3 : Below ltI a1 b1 d3 := hB1.perm (by omega) hp3
  have hp03 : PermIn a1 b1 d0 d3 := permIn_trans _ _ _ a1 b1 hp1 hp3
  -- sorted by a few steps, or not
  refine CW.meet (fun E' w' => ∃ A4 d4, Good w' s (A4 :: os) ∧ Aux w w' ∧ RowAt A4 g rest d4 ∧ PermIn a1 b1 d3 d4 ∧ E' = [(0, .slice (some ⟨g, 0, none⟩) n c), (1, i64 (a1 : Nat)), (2, i64 (b1 : Nat)), (3, i64 (lim : Nat)), (8, .bool wb), (9, .bool wp), (10, i64 (L : Nat)), (11, i64 (q : Nat))]) ?_ ?_
  · have hno : ∀ ac, At 134 [(0, .slice (some ⟨g, 0, none⟩) n c), (1, i64 (a1 : Nat)), (2, i64 (b1 : Nat)), (3, i64 (lim : Nat)), (8, .bool wb), (9, .bool wp), (10, i64 (L : Nat)), (11, i64 (q : Nat))] ac → ∃ E', At 134 E' ac ∧ ∃ A4 d4, Good w3 s (A4 :: os) ∧ Aux w w3 ∧ RowAt A4 g rest d4 ∧ PermIn a1 b1 d3 d4 ∧ E' = [(0, .slice (some ⟨g, 0, none⟩) n c), (1, i64 (a1 : Nat)), (2, i64 (b1 : Nat)), (3, i64 (lim : Nat)), (8, .bool wb), (9, .bool wp), (10, i64 (L : Nat)), (11, i64 (q : Nat))] := fun ac ha => ⟨_, ha, A3, d3, hg3, hax3, hrow3, Go.Sort.permIn_refl _ _ _, rfl⟩
    refine CW.seq (CW.plain ?_)
    refine RL.pure rfl rfl rfl rfl ?_
    refine RL.pure rfl rfl rfl rfl ?_
    refine RL.part 62 rfl (fun hw => ?_) (fun hw => ?_)
    · refine RL.pure rfl rfl rfl rfl ?_
      refine RL.pure rfl rfl rfl rfl ?_
      refine RL.pure rfl rfl rfl rfl ?_
      refine RL.part 65 rfl (fun hw2 => ?_) (fun hw2 => ?_)
      · refine RL.pure rfl rfl rfl rfl ?_
        refine RL.pure rfl rfl rfl rfl ?_
        refine RL.pure rfl rfl rfl rfl ?_
        refine RL.done ?_
        refine CW.cond rfl (fun hh => ?_) (fun hh => ?_)
        · refine CW.seq (CW.plain ?_)
          refine RL.pure rfl rfl rfl rfl ?_
          refine RL.pure rfl rfl rfl rfl ?_
          refine RL.pure rfl rfl rfl rfl ?_
          refine RL.call rfl rfl rfl rfl rfl ca47 (partialIns_ct hg3 hrow3 hn3 hb1 (by omega) hsz) ?_
          rintro v4 s4 A4 w4 hle4 hg4 hax4 ⟨rfl, rfl, hrow4⟩
          refine ⟨trivial, ?_⟩
          refine RL.done ?_
          have hi := Go.Sort.partialInsertionSort_holds swo d3 a1 b1 (by omega) (by omega) hB3
          refine CW.cond rfl (fun hd => ?_) (fun hd => ?_)
          · exact CW.ret (ret (vs := []) rfl (hend hg4 (hax3.trans hax4) (permIn_trans _ _ _ a1 b1 hp03 hi.1) (hi.2 hd) hrow4))
          · exact CW.skip (fun ac ha => ⟨_, ha.sub (E' := [(0, .slice (some ⟨g, 0, none⟩) n c), (1, i64 (a1 : Nat)), (2, i64 (b1 : Nat)), (3, i64 (lim : Nat)), (8, .bool wb), (9, .bool wp), (10, i64 (L : Nat)), (11, i64 (q : Nat))]) ⟨rfl, rfl, rfl, rfl, rfl, rfl, rfl, rfl, trivial⟩, A4, _, hg4, hax3.trans hax4, hrow4, hi.1, rfl⟩)
        · exact CW.skip (fun ac ha => hno ac (ha.sub ⟨rfl, rfl, rfl, rfl, rfl, rfl, rfl, rfl, trivial⟩))
      · refine RL.pass rfl rfl rfl ?_
        refine RL.pass rfl rfl rfl ?_
        refine RL.pure rfl rfl rfl rfl ?_
        refine RL.done ?_
        refine CW.no rfl ?_
        exact CW.skip (fun ac ha => hno ac (ha.sub ⟨rfl, rfl, rfl, rfl, rfl, rfl, rfl, rfl, trivial⟩))
    · refine RL.pass rfl rfl rfl ?_
      refine RL.pure rfl rfl rfl rfl ?_
      refine RL.pure rfl rfl rfl rfl ?_
      refine RL.pass rfl rfl rfl ?_
      refine RL.pass rfl rfl rfl ?_
      refine RL.pure rfl rfl rfl rfl ?_
      refine RL.done ?_
      refine CW.no rfl ?_
      exact CW.skip (fun ac ha => hno ac (ha.sub ⟨rfl, rfl, rfl, rfl, rfl, rfl, rfl, rfl, trivial⟩))
  rintro E' w4 ⟨A4, d4, hg4, hax4, hrow4, hp4, rfl⟩
  have hn4 : d4.size = n := by rw [hp4.1]; exact hn3
  have hB4 : Below ltI a1 b1 d4 := hB3.perm (by omega) hp4
  have hp04 : PermIn a1 b1 d0 d4 := permIn_trans _ _ _ a1 b1 hp03 hp4
  -- many that are alike, or not
  refine CW.meet (fun E' w' => Good w' s (A4 :: os) ∧ Aux w w' ∧ E' = [(0, .slice (some ⟨g, 0, none⟩) n c), (1, i64 (a1 : Nat)), (2, i64 (b1 : Nat)), (3, i64 (lim : Nat)), (8, .bool wb), (9, .bool wp), (10, i64 (L : Nat)), (11, i64 (q : Nat))]) ?_ ?_
  · refine CW.seq ?_
    refine CW.draws [(true, 0), (true, 1), (true, 2), (true, 3), (true, 4), (true, 5), (true, 6), (true, 7), (true, 8), (true, 9), (true, 10), (true, 11), (false, 12), (true, 13), (true, 14)] (fun w' => Good w' s (A4 :: os)) mixed (by kernel_rfl) (by kernel_rfl) (by kernel_rfl) (by kernel_rfl) hg4.drew ?_
    refine RL.pure rfl rfl rfl rfl ?_
    refine RL.pure rfl rfl rfl rfl ?_
    refine RL.pure rfl rfl rfl rfl ?_
    refine RL.part 75 rfl (fun ha0 => ?_) (fun ha0 => ?_)
    · have ha0' : 0 < a1 := by have := of_decide_eq_true ha0; omega
      refine RL.pure rfl rfl rfl rfl ?_
      refine RL.pure rfl rfl rfl rfl ?_
      refine RL.sub rfl rfl rfl rfl rfl rfl ((by simp only [rng]; omega)) ?_
      refine RL.idxR (a1 - 1) rfl rfl rfl rfl sl49 rfl rfl (by omega) (by omega) ?_
      refine RL.loadRT (a1 - 1) rfl rfl rfl rfl ty33 rfl hrow4 (fun w h => h.1) (by omega) ?_
      refine RL.pure rfl rfl rfl rfl ?_
      refine RL.pure rfl rfl rfl rfl ?_
      refine RL.idxR q rfl rfl rfl rfl sl49 rfl rfl rfl (by omega) ?_
      refine RL.loadRT q rfl rfl rfl rfl ty33 rfl hrow4 (fun w h => h.1) (by omega) ?_
      refine RL.callV rfl rfl rfl rfl rfl ca48 (Less_ct hg4.drew) ?_
      rintro v5 w5 hg5 hax5 rfl
      refine ⟨hg5, ?_⟩
      refine RL.pure rfl rfl rfl rfl ?_
      refine RL.pure rfl rfl rfl rfl ?_
      refine RL.done ?_
      refine CW.cond rfl (fun hl => ?_) (fun hl => ?_)
      · have hl' : ltI d4[a1 - 1]! d4[q]! = false := by simpa using hl
        obtain ⟨⟨mid, d6⟩, hx⟩ : ∃ x, Go.Sort.partitionEqual ltI d4 a1 b1 q = x := ⟨_, rfl⟩
        obtain ⟨hm1, hm2, hs6, hB6, hfin6⟩ := round_eq swo hpartEq ha0' hq hq' (by omega) hB4 hl' hx
        refine CW.seq (CW.plain ?_)
        refine RL.pure rfl rfl rfl rfl ?_
        refine RL.pure rfl rfl rfl rfl ?_
        refine RL.pure rfl rfl rfl rfl ?_
        refine RL.pure rfl rfl rfl rfl ?_
        refine RL.call rfl rfl rfl rfl rfl ca49 (partitionEqual_ct hg5 hrow4 hn4 hb1 hq hq' hsz) ?_
        rintro v6 s6 A6 w6 hle6 hg6 hax6 ⟨rfl, rfl, hrow6⟩
        refine ⟨trivial, ?_⟩
        refine RL.pure rfl rfl rfl rfl ?_
        refine RL.done ?_
        rw [hx] at hrow6
        rw [hx]
        refine CW.seq (CW.plain ?_)
        refine RL.pure rfl rfl rfl rfl ?_
        refine RL.pure rfl rfl rfl rfl ?_
        refine RL.done ?_
        refine CW.exit ?_
        refine fun ac ha => ⟨k - 1, [(0, .slice (some ⟨g, 0, none⟩) n c), (1, i64 (mid : Nat)), (2, i64 (b1 : Nat)), (3, i64 (lim : Nat)), (8, .bool wb), (9, .bool wp)], ha.sub ⟨rfl, rfl, rfl, rfl, rfl, rfl, trivial⟩, ⟨A6, d6, mid, b1, lim, wb, wp, hg6, hax4.trans ((Aux.drew _).trans (hax5.trans hax6)), hrow6, by rw [hs6]; exact hn4, hm2, hb1, by omega, by omega, hlim1, hB6, fun R h1 h2 => ?_, rfl⟩, by omega⟩
        obtain ⟨h3, h4⟩ := hfin6 R h1 h2
        exact hfin R (permIn_trans _ _ _ a1 b1 hp04 h3) h4
      · exact CW.skip (fun ac ha => ⟨_, ha.sub (E' := [(0, .slice (some ⟨g, 0, none⟩) n c), (1, i64 (a1 : Nat)), (2, i64 (b1 : Nat)), (3, i64 (lim : Nat)), (8, .bool wb), (9, .bool wp), (10, i64 (L : Nat)), (11, i64 (q : Nat))]) ⟨rfl, rfl, rfl, rfl, rfl, rfl, rfl, rfl, trivial⟩, hg5, hax4.trans ((Aux.drew _).trans hax5), rfl⟩)
    · refine RL.pass rfl rfl rfl ?_
      refine RL.pass rfl rfl rfl ?_
      refine RL.pass rfl rfl rfl ?_
      refine RL.pass rfl rfl rfl ?_
      refine RL.pass rfl rfl rfl ?_
      refine RL.pass rfl rfl rfl ?_
      refine RL.pass rfl rfl rfl ?_
      refine RL.pass rfl rfl rfl ?_
      refine RL.pass rfl rfl rfl ?_
      refine RL.pass rfl rfl rfl ?_
      refine RL.pass rfl rfl rfl ?_
      refine RL.pure rfl rfl rfl rfl ?_
      refine RL.done ?_
      refine CW.no rfl ?_
      exact CW.skip (fun ac ha => ⟨_, ha.sub (E' := [(0, .slice (some ⟨g, 0, none⟩) n c), (1, i64 (a1 : Nat)), (2, i64 (b1 : Nat)), (3, i64 (lim : Nat)), (8, .bool wb), (9, .bool wp), (10, i64 (L : Nat)), (11, i64 (q : Nat))]) ⟨rfl, rfl, rfl, rfl, rfl, rfl, rfl, rfl, trivial⟩, hg4.drew, hax4.trans (Aux.drew _), rfl⟩)
  rintro E' w5 ⟨hg5, hax5, rfl⟩
  obtain ⟨⟨mid, ap, d6⟩, hx⟩ : ∃ x, Go.Sort.partition ltI d4 a1 b1 q = x := ⟨_, rfl⟩
  obtain ⟨hm1, hm2, hs6, hBa, hBr, hleft, hright⟩ := round_part swo hpart hq hq' (by omega) hB4 hx
  refine CW.seq (CW.plain ?_)
  refine RL.pure rfl rfl rfl rfl ?_
  refine RL.pure rfl rfl rfl rfl ?_
  refine RL.pure rfl rfl rfl rfl ?_
  refine RL.pure rfl rfl rfl rfl ?_
  refine RL.call rfl rfl rfl rfl rfl ca50 (partition_ct hg5 hrow4 hn4 hb1 hq hq' hsz) ?_
  rintro v6 s6 A6 w6 hle6 hg6 hax6 ⟨rfl, rfl, hrow6⟩
  refine ⟨trivial, ?_⟩
  refine RL.pure rfl rfl rfl rfl ?_
  refine RL.pure rfl rfl rfl rfl ?_
  refine RL.pure rfl rfl rfl rfl ?_
  refine RL.pure rfl rfl rfl rfl ?_
  refine RL.pure rfl rfl rfl rfl ?_
  refine RL.done ?_
  simp only [hx] at hrow6 ⊢
  have hn6 : d6.size = n := by rw [hs6]; exact hn4
  refine CW.seq (CW.plain ?_)
  refine RL.pure rfl rfl rfl rfl ?_
  refine RL.pure rfl rfl rfl rfl ?_
  refine RL.done ?_
  refine CW.seq (CW.plain ?_)
  refine RL.pure rfl rfl rfl rfl ?_
  refine RL.pure rfl rfl rfl rfl ?_
  refine RL.sub rfl rfl rfl rfl rfl rfl ((by simp only [rng]; omega)) ?_
  refine RL.pure rfl rfl rfl rfl ?_
  refine RL.pure rfl rfl rfl rfl ?_
  refine RL.sub rfl rfl rfl rfl rfl rfl ((by simp only [rng]; omega)) ?_
  refine RL.pure rfl rfl rfl rfl ?_
  refine RL.pure rfl rfl rfl rfl ?_
  refine RL.done ?_
  refine CW.seq (CW.plain ?_)
  refine RL.pure rfl rfl rfl rfl ?_
  refine RL.quo rfl rfl rfl rfl rfl rfl ((by omega)) ((by decide)) ((by simp only [rng]; omega)) ?_
  refine RL.pure rfl rfl rfl rfl ?_
  refine RL.done ?_
  refine CW.seq (CW.plain ?_)
  refine RL.pure rfl rfl rfl rfl ?_
  refine RL.pure rfl rfl rfl rfl ?_
  refine RL.pure rfl rfl rfl rfl ?_
  refine RL.done ?_
  refine CW.test rfl (fun hlt => ?_) (fun hlt => ?_)
  · refine CW.seq (CW.plain ?_)
    refine RL.pure rfl rfl rfl rfl ?_
    refine RL.pure rfl rfl rfl rfl ?_
    refine RL.pure rfl rfl rfl rfl ?_
    refine RL.pure rfl rfl rfl rfl ?_
    refine RL.done ?_
    refine CW.seq (CW.plain ?_)
    refine RL.pure rfl rfl rfl rfl ?_
    refine RL.pure rfl rfl rfl rfl ?_
    refine RL.pure rfl rfl rfl rfl ?_
    refine RL.pure rfl rfl rfl rfl ?_
    refine RL.call rfl rfl rfl rfl rfl ca38 (ih (mid - a1) (by omega) (a := a1) (b := mid) (Nat.le_refl _) hg6 hrow6 hn6 hm1 (by omega) hsz hlim1 hBa) ?_
    rintro v7 s7 A7 w7 hle7 hg7 hax7 ⟨rfl, rfl, d7, hp7, hs7, hrow7⟩
    refine ⟨trivial, ?_⟩
    refine RL.done ?_
    obtain ⟨hBL, hfin7⟩ := hleft d7 hp7 hs7
    refine CW.plain ?_
    refine RL.pure rfl rfl rfl rfl ?_
    refine RL.add rfl rfl rfl rfl rfl rfl ((by simp only [rng]; omega)) ?_
    refine RL.pure rfl rfl rfl rfl ?_
    refine RL.done ?_
    refine fun ac ha => ⟨k - 1, [(0, .slice (some ⟨g, 0, none⟩) n c), (1, i64 ((mid + 1 : Nat) : Int)), (2, i64 (b1 : Nat)), (3, i64 (lim : Nat)), (8, .bool (decide ((mid : Int) - a1 ≥ (L : Int) / 8))), (9, .bool ap)], ha.sub ⟨rfl, rfl, rfl, rfl, rfl, rfl, trivial⟩, ⟨A7, d7, mid + 1, b1, lim, _, ap, hg7, hax5.trans (hax6.trans hax7), hrow7, by rw [hp7.1]; exact hn6, by omega, hb1, by omega, by omega, hlim1, hBL, fun R h1 h2 => ?_, rfl⟩, by omega⟩
    obtain ⟨h3, h4⟩ := hfin7 R h1 h2
    exact hfin R (permIn_trans _ _ _ a1 b1 hp04 h3) h4
  · refine CW.seq (CW.plain ?_)
    refine RL.pure rfl rfl rfl rfl ?_
    refine RL.pure rfl rfl rfl rfl ?_
    refine RL.pure rfl rfl rfl rfl ?_
    refine RL.pure rfl rfl rfl rfl ?_
    refine RL.done ?_
    refine CW.seq (CW.plain ?_)
    refine RL.pure rfl rfl rfl rfl ?_
    refine RL.pure rfl rfl rfl rfl ?_
    refine RL.add rfl rfl rfl rfl rfl rfl ((by simp only [rng]; omega)) ?_
    refine RL.pure rfl rfl rfl rfl ?_
    refine RL.pure rfl rfl rfl rfl ?_
    refine RL.call rfl rfl rfl rfl rfl ca38 (ih (b1 - (mid + 1)) (by omega) (a := mid + 1) (b := b1) (Nat.le_refl _) hg6 hrow6 hn6 (by omega) hb1 hsz hlim1 hBr) ?_
    rintro v7 s7 A7 w7 hle7 hg7 hax7 ⟨rfl, rfl, d7, hp7, hs7, hrow7⟩
    refine ⟨trivial, ?_⟩
    refine RL.done ?_
    obtain ⟨hBL, hfin7⟩ := hright d7 hp7 hs7
    refine CW.plain ?_
    refine RL.pure rfl rfl rfl rfl ?_
    refine RL.pure rfl rfl rfl rfl ?_
    refine RL.done ?_
    refine fun ac ha => ⟨k - 1, [(0, .slice (some ⟨g, 0, none⟩) n c), (1, i64 (a1 : Nat)), (2, i64 (mid : Nat)), (3, i64 (lim : Nat)), (8, .bool (decide ((b1 : Int) - mid ≥ (L : Int) / 8))), (9, .bool ap)], ha.sub ⟨rfl, rfl, rfl, rfl, rfl, rfl, trivial⟩, ⟨A7, d7, a1, mid, lim, _, ap, hg7, hax5.trans (hax6.trans hax7), hrow7, by rw [hp7.1]; exact hn6, hm1, by omega, by omega, by omega, hlim1, hBL, fun R h1 h2 => ?_, rfl⟩, by omega⟩
    obtain ⟨h3, h4⟩ := hfin7 R h1 h2
    exact hfin R (permIn_trans _ _ _ a1 b1 hp04 h3) h4

/-- slices.Sort. -/
theorem SortK_ct {w : World} {s A : Res} {os : List Res} {g n c : Nat} {rest : List Value} {d : Array Int} (hg : Good w s (A :: os)) (hrow : RowAt A g rest d) (hn : d.size = n) (hsz : n < 2305843009213693952) :
    Calls Try.prog 30 #[.slice (some ⟨g, 0, none⟩) n c] w (PPost w s os g rest 0 n d) := by
  refine enter (l := [.slice (some ⟨g, 0, none⟩) n c]) Try.func30 rfl Try.ntmps30 rfl ?_
  refine CW.seq (CW.plain ?_)
  refine RL.pure rfl rfl rfl rfl ?_
  refine RL.len rfl rfl rfl rfl sl49 rfl ?_
  refine RL.pure rfl rfl rfl rfl ?_
  refine RL.done ?_
  refine CW.plain ?_
  refine RL.pure rfl rfl rfl rfl ?_
  refine RL.pure rfl rfl rfl rfl ?_
  refine RL.pure rfl rfl rfl rfl ?_
  refine RL.conv rfl rfl rfl rfl Try.underlying3 Try.underlying56 rfl ((by simp only [rng]; omega)) ?_
  refine RL.callV rfl rfl rfl rfl rfl ca39 (Len_ct hg (by omega)) ?_
  rintro v1 w1 hg1 hax1 rfl
  refine ⟨trivial, ?_⟩
  refine RL.call rfl rfl rfl rfl rfl ca38 (pdq_ct n (a := 0) (b := n) (lim := Go.Sort.bitsLen n) (by omega) hg1 hrow hn (Nat.zero_le _) (Nat.le_refl _) hsz ((Go.Sort.bitsLen_le_iff n 64).2 (by omega)) (Or.inl rfl)) ?_
  rintro v2 s2 A2 w2 hle2 hg2 hax2 ⟨rfl, rfl, d2, hp2, hs2, hrow2⟩
  refine ⟨trivial, ?_⟩
  refine RL.done ?_
  exact fall (vs := []) rfl (Post.mk (Le.refl _) hg2 (hax1.trans hax2) ⟨rfl, rfl, d2, hp2, hs2, hrow2⟩)
end Go.Lw
