/-
  The sort's choice of a pivot: which one is left open; it lies in the part.
-/
import Derived.Test.YtdleejgghbpbmaaSortF
namespace Go.Lw
open Go.Proofs

/-- A counter. -/
abbrev Cnt (B : Res) (p : Nat) (k : Int) : Prop := B p = some (.cells #[i64 k] 3 (0, 0))

set_option maxRecDepth 100000 in
theorem order2_ct {w : World} {s A B : Res} {os : List Res} {g n c x y p : Nat} {k : Int} {rest : List Value} {d : Array Int} (hg : Good w s (B :: A :: os)) (hrow : RowAt A g rest d) (hB : Cnt B p k) (hn : d.size = n) (hx : x < n) (hy : y < n) (hk0 : 0 ≤ k) (hk : k < 1000) :
    Calls Try.prog 70 #[.slice (some ⟨g, 0, none⟩) n c, i64 x, i64 y, ptr p] w (Post w s (A :: os) fun s' B' r => s' = s ∧ ∃ k', k ≤ k' ∧ k' ≤ k + 1 ∧ Cnt B' p k' ∧ (r = .tuple #[i64 x, i64 y] ∨ r = .tuple #[i64 y, i64 x])) := by
  refine enter (l := [.slice (some ⟨g, 0, none⟩) n c, i64 x, i64 y, ptr p]) Try.func70 rfl Try.ntmps70 rfl ?_
  refine CW.seq (CW.plain ?_)
  refine RL.pure rfl rfl rfl rfl ?_
  refine RL.pure rfl rfl rfl rfl ?_
  refine RL.done ?_
  refine CW.seq (CW.seq ?_)
  refine CW.draws [(true, 0), (true, 1), (true, 2), (true, 3), (true, 4), (true, 5), (true, 6), (true, 7), (false, 8)] (fun w' => Good w' s (B :: A :: os)) mixed (by kernel_rfl) (by kernel_rfl) (by kernel_rfl) (by kernel_rfl) hg.drew ?_
  refine RL.pure rfl rfl rfl rfl ?_
  refine RL.pure rfl rfl rfl rfl ?_
  refine RL.idxR y rfl rfl rfl rfl sl49 rfl rfl rfl (by omega) ?_
  refine RL.loadRT y rfl rfl rfl rfl ty33 rfl hrow (fun w h => h.drop.1) (by omega) ?_
  refine RL.pure rfl rfl rfl rfl ?_
  refine RL.pure rfl rfl rfl rfl ?_
  refine RL.idxR x rfl rfl rfl rfl sl49 rfl rfl rfl (by omega) ?_
  refine RL.loadRT x rfl rfl rfl rfl ty33 rfl hrow (fun w h => h.drop.1) (by omega) ?_
  refine RL.callV rfl rfl rfl rfl rfl ca48 (Less_ct hg.drew) ?_
  rintro v w1 hg1 hax1 rfl
  refine ⟨hg1, ?_⟩
  refine RL.done ?_
  have hax := (Aux.drew w).trans hax1
  refine CW.cond rfl (fun hl => ?_) (fun hl => ?_)
  · refine CW.seq (CW.plain ?_)
    refine RL.pure rfl rfl rfl rfl ?_
    refine RL.pure rfl rfl rfl rfl ?_
    refine RL.load (j := 0) rfl rfl rfl rfl ty3 rfl (Holds.of hB) (hg1.1) rfl ?_
    refine RL.add rfl rfl rfl rfl rfl rfl ((by simp only [rng]; omega)) ?_
    refine RL.pure rfl rfl rfl rfl ?_
    refine RL.store (i := 0) (j := 0) rfl rfl rfl ty3 rfl rfl hg1 rfl (hB) rfl (by first | (simp [Value.cells, Value.oneCell']; done) | simp [Value.cells, Value.oneCell', putL]) (by first | exact Nat.le_of_ble_eq_true rfl | (simp; done) | (simp; omega) | omega) ?_
    rintro w2 hg2 hax2
    refine ⟨trivial, ?_⟩
    refine RL.done ?_
    refine CW.seq (CW.plain ?_)
    refine RL.pure rfl rfl rfl rfl ?_
    refine RL.pure rfl rfl rfl rfl ?_
    refine RL.pure rfl rfl rfl rfl ?_
    refine RL.pure rfl rfl rfl rfl ?_
    refine RL.done ?_
    exact CW.ret (ret (vs := [_, _]) ⟨_, _, rfl, rfl, _, _, rfl, rfl, rfl⟩ (Post.mk (Le.refl _) hg2 (hax.trans hax2) ⟨rfl, k + 1, by omega, by omega, put_same _ _ _, .inr rfl⟩))
  · refine CW.skip ?_
    refine CW.seq (CW.plain ?_)
    refine RL.pure rfl rfl rfl rfl ?_
    refine RL.pure rfl rfl rfl rfl ?_
    refine RL.pure rfl rfl rfl rfl ?_
    refine RL.pure rfl rfl rfl rfl ?_
    refine RL.done ?_
    exact CW.ret (ret (vs := [_, _]) ⟨_, _, rfl, rfl, _, _, rfl, rfl, rfl⟩ (Post.mk (Le.refl _) hg1 hax ⟨rfl, k, by omega, by omega, hB, .inl rfl⟩))
theorem order2_ct' {w : World} {s A B : Res} {os : List Res} {g n c x y p : Nat} {k : Int} {rest : List Value} {d : Array Int} (hg : Good w s (B :: A :: os)) (hrow : RowAt A g rest d) (hB : Cnt B p k) (hn : d.size = n) (hx : x < n) (hy : y < n) (hk0 : 0 ≤ k) (hk : k < 1000) :
    Calls Try.prog 70 #[.slice (some ⟨g, 0, none⟩) n c, i64 x, i64 y, ptr p] w (Post w s (A :: os) fun s' B' r => s' = s ∧ ∃ k', k ≤ k' ∧ k' ≤ k + 1 ∧ Cnt B' p k' ∧ ∃ u v : Nat, r = .tuple #[i64 u, i64 v] ∧ (u = x ∧ v = y ∨ u = y ∧ v = x)) := by
  refine (order2_ct hg hrow hB hn hx hy hk0 hk).mono ?_
  rintro e w' ⟨r, s', A', he, hle, hg', hax, hs, k', h1, h2, h3, h4⟩
  refine ⟨r, s', A', he, hle, hg', hax, hs, k', h1, h2, h3, ?_⟩
  rcases h4 with rfl | rfl
  · exact ⟨x, y, rfl, .inl ⟨rfl, rfl⟩⟩
  · exact ⟨y, x, rfl, .inr ⟨rfl, rfl⟩⟩

set_option maxRecDepth 100000 in
theorem median_ct {w : World} {s A B : Res} {os : List Res} {g n c x y z p : Nat} {k : Int} {rest : List Value} {d : Array Int} (hg : Good w s (B :: A :: os)) (hrow : RowAt A g rest d) (hB : Cnt B p k) (hn : d.size = n) (hx : x < n) (hy : y < n) (hz : z < n) (hk0 : 0 ≤ k) (hk : k < 900) :
    Calls Try.prog 65 #[.slice (some ⟨g, 0, none⟩) n c, i64 x, i64 y, i64 z, ptr p] w (Post w s (A :: os) fun s' B' r => s' = s ∧ ∃ k', k ≤ k' ∧ k' ≤ k + 3 ∧ Cnt B' p k' ∧ ∃ u : Nat, r = i64 u ∧ (u = x ∨ u = y ∨ u = z)) := by
  refine enter (l := [.slice (some ⟨g, 0, none⟩) n c, i64 x, i64 y, i64 z, ptr p]) Try.func65 rfl Try.ntmps65 rfl ?_
  refine CW.seq (CW.plain ?_)
  refine RL.pure rfl rfl rfl rfl ?_
  refine RL.done ?_
  refine CW.seq (CW.plain ?_)
  refine RL.pure rfl rfl rfl rfl ?_
  refine RL.pure rfl rfl rfl rfl ?_
  refine RL.pure rfl rfl rfl rfl ?_
  refine RL.pure rfl rfl rfl rfl ?_
  refine RL.call rfl rfl rfl rfl rfl ca70 (order2_ct' hg hrow hB hn hx hy hk0 (by omega)) ?_
  rintro v1 s1 B1 w1 hle1 hg1 hax1 ⟨rfl, k1, hk1, hk1', hB1, u1, u2, rfl, hu⟩
  refine ⟨trivial, ?_⟩
  refine RL.pure rfl rfl rfl rfl ?_
  refine RL.pure rfl rfl rfl rfl ?_
  refine RL.pure rfl rfl rfl rfl ?_
  refine RL.pure rfl rfl rfl rfl ?_
  refine RL.pure rfl rfl rfl rfl ?_
  refine RL.done ?_
  refine CW.seq (CW.plain ?_)
  refine RL.pure rfl rfl rfl rfl ?_
  refine RL.pure rfl rfl rfl rfl ?_
  refine RL.pure rfl rfl rfl rfl ?_
  refine RL.pure rfl rfl rfl rfl ?_
  refine RL.call rfl rfl rfl rfl rfl ca70 (order2_ct' (x := u2) (y := z) hg1 hrow hB1 hn (by omega) (by omega) (by omega) (by omega)) ?_
  rintro v2 s2 B2 w2 hle2 hg2 hax2 ⟨rfl, k2, hk2, hk2', hB2, u3, u4, rfl, hu2⟩
  refine ⟨trivial, ?_⟩
  refine RL.pure rfl rfl rfl rfl ?_
  refine RL.pure rfl rfl rfl rfl ?_
  refine RL.pure rfl rfl rfl rfl ?_
  refine RL.pure rfl rfl rfl rfl ?_
  refine RL.pure rfl rfl rfl rfl ?_
  refine RL.done ?_
  refine CW.seq (CW.plain ?_)
  refine RL.pure rfl rfl rfl rfl ?_
  refine RL.pure rfl rfl rfl rfl ?_
  refine RL.pure rfl rfl rfl rfl ?_
  refine RL.pure rfl rfl rfl rfl ?_
  refine RL.call rfl rfl rfl rfl rfl ca70 (order2_ct' (x := u1) (y := u3) hg2 hrow hB2 hn (by omega) (by omega) (by omega) (by omega)) ?_
  rintro v3 s3 B3 w3 hle3 hg3 hax3 ⟨rfl, k3, hk3, hk3', hB3, u5, u6, rfl, hu3⟩
  refine ⟨trivial, ?_⟩
  refine RL.pure rfl rfl rfl rfl ?_
  refine RL.pure rfl rfl rfl rfl ?_
  refine RL.pure rfl rfl rfl rfl ?_
  refine RL.pure rfl rfl rfl rfl ?_
  refine RL.pure rfl rfl rfl rfl ?_
  refine RL.done ?_
  refine CW.seq (CW.plain ?_)
  refine RL.pure rfl rfl rfl rfl ?_
  refine RL.pure rfl rfl rfl rfl ?_
  refine RL.done ?_
  exact CW.ret (ret (vs := [_]) ⟨_, _, rfl, rfl, rfl⟩ (Post.mk (Le.refl _) hg3 (hax1.trans (hax2.trans hax3)) ⟨rfl, k3, by omega, by omega, hB3, u6, rfl, by omega⟩))

set_option maxRecDepth 100000 in
theorem medianAdj_ct {w : World} {s A B : Res} {os : List Res} {g n c x p : Nat} {k : Int} {rest : List Value} {d : Array Int} (hg : Good w s (B :: A :: os)) (hrow : RowAt A g rest d) (hB : Cnt B p k) (hn : d.size = n) (h0 : 0 < x) (hx : x + 1 < n) (hk0 : 0 ≤ k) (hk : k < 900) (hsz : n < 2305843009213693952) :
    Calls Try.prog 64 #[.slice (some ⟨g, 0, none⟩) n c, i64 x, ptr p] w (Post w s (A :: os) fun s' B' r => s' = s ∧ ∃ k', k ≤ k' ∧ k' ≤ k + 3 ∧ Cnt B' p k' ∧ ∃ u : Nat, r = i64 u ∧ x ≤ u + 1 ∧ u ≤ x + 1) := by
  refine enter (l := [.slice (some ⟨g, 0, none⟩) n c, i64 x, ptr p]) Try.func64 rfl Try.ntmps64 rfl ?_
  refine CW.seq (CW.plain ?_)
  refine RL.pure rfl rfl rfl rfl ?_
  refine RL.done ?_
  refine CW.seq (CW.plain ?_)
  refine RL.pure rfl rfl rfl rfl ?_
  refine RL.pure rfl rfl rfl rfl ?_
  refine RL.sub rfl rfl rfl rfl rfl rfl ((by simp only [rng]; omega)) ?_
  refine RL.pure rfl rfl rfl rfl ?_
  refine RL.pure rfl rfl rfl rfl ?_
  refine RL.add rfl rfl rfl rfl rfl rfl ((by simp only [rng]; omega)) ?_
  refine RL.pure rfl rfl rfl rfl ?_
  have e1 : ((x : Int) - 1) = ((x - 1 : Nat) : Int) := by omega
  have e2 : ((x : Int) + 1) = ((x + 1 : Nat) : Int) := by omega
  rw [e1, e2]
  refine RL.call rfl rfl rfl rfl rfl ca65 (median_ct (x := x - 1) (y := x) (z := x + 1) hg hrow hB hn (by omega) (by omega) (by omega) hk0 hk) ?_
  rintro v1 s1 B1 w1 hle1 hg1 hax1 ⟨rfl, k1, hk1, hk1', hB1, u, rfl, hu⟩
  refine ⟨trivial, ?_⟩
  refine RL.pure rfl rfl rfl rfl ?_
  refine RL.done ?_
  exact CW.ret (ret (vs := [_]) ⟨_, _, rfl, rfl, rfl⟩ (Post.mk (Le.refl _) hg1 hax1 ⟨rfl, k1, hk1, hk1', hB1, u, rfl, by omega, by omega⟩))

set_option maxHeartbeats 1000000 in
set_option maxRecDepth 100000 in
theorem choosePivot_ct {w : World} {s A : Res} {os : List Res} {g n c a b : Nat} {rest : List Value} {d : Array Int} (hg : Good w s (A :: os)) (hrow : RowAt A g rest d) (hn : d.size = n) (hb : b ≤ n) (hab : a + 8 ≤ b) (hsz : n < 2305843009213693952) :
    Calls Try.prog 45 #[.slice (some ⟨g, 0, none⟩) n c, i64 a, i64 b] w (PostV w s (A :: os) fun r => ∃ (q h : Nat), r = .tuple #[i64 q, i64 h] ∧ a ≤ q ∧ q < b ∧ h ≤ 2) := by
  obtain ⟨L, hL⟩ : ∃ L, L = b - a := ⟨_, rfl⟩
  refine enter (l := [.slice (some ⟨g, 0, none⟩) n c, i64 a, i64 b]) Try.func45 rfl Try.ntmps45 rfl ?_
  refine CW.seq (CW.plain ?_)
  refine RL.pure rfl rfl rfl rfl ?_
  refine RL.pure rfl rfl rfl rfl ?_
  refine RL.done ?_
  refine CW.seq (CW.plain ?_)
  refine RL.pure rfl rfl rfl rfl ?_
  refine RL.pure rfl rfl rfl rfl ?_
  refine RL.sub rfl rfl rfl rfl rfl rfl ((by simp only [rng]; omega)) ?_
  refine RL.pure rfl rfl rfl rfl ?_
  refine RL.done ?_
  have eL : ((b : Int) - (a : Int)) = (L : Int) := by omega
  rw [eL]
  refine CW.seq (CW.plain ?_)
  refine RL.alloc rfl rfl rfl rfl ze3 hg ?_
  rintro p w1 hg1 hax1
  refine ⟨trivial, ?_⟩
  refine RL.done ?_
  refine CW.seq (CW.plain ?_)
  refine RL.pure rfl rfl rfl rfl ?_
  refine RL.pure rfl rfl rfl rfl ?_
  refine RL.quo rfl rfl rfl rfl rfl rfl ((by omega)) ((by decide)) ((by simp only [rng]; omega)) ?_
  refine RL.mul rfl rfl rfl rfl rfl rfl ((by simp only [rng]; omega)) ?_
  refine RL.add rfl rfl rfl rfl rfl rfl ((by simp only [rng]; omega)) ?_
  refine RL.pure rfl rfl rfl rfl ?_
  refine RL.done ?_
  refine CW.seq (CW.plain ?_)
  refine RL.pure rfl rfl rfl rfl ?_
  refine RL.pure rfl rfl rfl rfl ?_
  refine RL.quo rfl rfl rfl rfl rfl rfl ((by omega)) ((by decide)) ((by simp only [rng]; omega)) ?_
  refine RL.mul rfl rfl rfl rfl rfl rfl ((by simp only [rng]; omega)) ?_
  refine RL.add rfl rfl rfl rfl rfl rfl ((by simp only [rng]; omega)) ?_
  refine RL.pure rfl rfl rfl rfl ?_
  refine RL.done ?_
  refine CW.seq (CW.plain ?_)
  refine RL.pure rfl rfl rfl rfl ?_
  refine RL.pure rfl rfl rfl rfl ?_
  refine RL.quo rfl rfl rfl rfl rfl rfl ((by omega)) ((by decide)) ((by simp only [rng]; omega)) ?_
  refine RL.mul rfl rfl rfl rfl rfl rfl ((by simp only [rng]; omega)) ?_
  refine RL.add rfl rfl rfl rfl rfl rfl ((by simp only [rng]; omega)) ?_
  refine RL.pure rfl rfl rfl rfl ?_
  refine RL.done ?_
  obtain ⟨B0, hg0, hB0⟩ : ∃ B, Good w1 s (B :: A :: os) ∧ Cnt B p 0 := ⟨_, hg1, if_pos rfl⟩
  refine CW.meet (fun E' w' => ∃ (B : Res) (k : Int) (u : Nat), Good w' s (B :: A :: os) ∧ Aux w w' ∧ Cnt B p k ∧ a ≤ u ∧ u < b ∧ E' = [(9, ptr p), (11, i64 (u : Nat))]) ?_ ?_
  · refine CW.seq (CW.plain ?_)
    refine RL.pure rfl rfl rfl rfl ?_
    refine RL.pure rfl rfl rfl rfl ?_
    refine RL.done ?_
    refine CW.test rfl (fun h8 => ?_) (fun h8 => absurd (by omega) h8)
    refine CW.meet (fun E' w' => ∃ (B : Res) (k : Int) (x y z : Nat), Good w' s (B :: A :: os) ∧ Aux w w' ∧ Cnt B p k ∧ 0 ≤ k ∧ k ≤ 9 ∧ a ≤ x ∧ x < b ∧ a ≤ y ∧ y < b ∧ a ≤ z ∧ z < b ∧ E' = [(0, .slice (some ⟨g, 0, none⟩) n c), (9, ptr p), (10, i64 (x : Nat)), (11, i64 (y : Nat)), (12, i64 (z : Nat))]) ?_ ?_
    · refine CW.seq (CW.plain ?_)
      refine RL.pure rfl rfl rfl rfl ?_
      refine RL.pure rfl rfl rfl rfl ?_
      refine RL.done ?_
      refine CW.test rfl (fun h50 => ?_) (fun h50 => ?_)
      · refine CW.less [(0, .slice (some ⟨g, 0, none⟩) n c), (9, ptr p), (10, i64 ((a + L / 4 * 1 : Nat) : Int)), (11, i64 ((a + L / 4 * 2 : Nat) : Int)), (12, i64 ((a + L / 4 * 3 : Nat) : Int))] ⟨rfl, rfl, congrArg (fun z => some (i64 z)) (by omega), congrArg (fun z => some (i64 z)) (by omega), congrArg (fun z => some (i64 z)) (by omega), trivial⟩ ?_
        refine CW.seq (CW.plain ?_)
        refine RL.pure rfl rfl rfl rfl ?_
        refine RL.pure rfl rfl rfl rfl ?_
        refine RL.call rfl rfl rfl rfl rfl ca64 (medianAdj_ct (x := a + L / 4 * 1) hg0 hrow hB0 hn (by omega) (by omega) (by omega) (by omega) hsz) ?_
        rintro v2 s2 B2 w2 hle2 hg2 hax2 ⟨rfl, k2, hk2, hk2', hB2, u2, rfl, hu2, hu2'⟩
        refine ⟨trivial, ?_⟩
        refine RL.pure rfl rfl rfl rfl ?_
        refine RL.done ?_
        refine CW.seq (CW.plain ?_)
        refine RL.pure rfl rfl rfl rfl ?_
        refine RL.pure rfl rfl rfl rfl ?_
        refine RL.call rfl rfl rfl rfl rfl ca64 (medianAdj_ct (x := a + L / 4 * 2) hg2 hrow hB2 hn (by omega) (by omega) (by omega) (by omega) hsz) ?_
        rintro v3 s3 B3 w3 hle3 hg3 hax3 ⟨rfl, k3, hk3, hk3', hB3, u3, rfl, hu3, hu3'⟩
        refine ⟨trivial, ?_⟩
        refine RL.pure rfl rfl rfl rfl ?_
        refine RL.done ?_
        refine CW.plain ?_
        refine RL.pure rfl rfl rfl rfl ?_
        refine RL.pure rfl rfl rfl rfl ?_
        refine RL.call rfl rfl rfl rfl rfl ca64 (medianAdj_ct (x := a + L / 4 * 3) hg3 hrow hB3 hn (by omega) (by omega) (by omega) (by omega) hsz) ?_
        rintro v4 s4 B4 w4 hle4 hg4 hax4 ⟨rfl, k4, hk4, hk4', hB4, u4, rfl, hu4, hu4'⟩
        refine ⟨trivial, ?_⟩
        refine RL.pure rfl rfl rfl rfl ?_
        refine RL.done ?_
        exact fun ac ha => ⟨_, ha.sub (E' := [(0, .slice (some ⟨g, 0, none⟩) n c), (9, ptr p), (10, i64 (u2 : Nat)), (11, i64 (u3 : Nat)), (12, i64 (u4 : Nat))]) ⟨rfl, rfl, rfl, rfl, rfl, trivial⟩, B4, k4, u2, u3, u4, hg4, hax1.trans (hax2.trans (hax3.trans hax4)), hB4, by omega, by omega, by omega, by omega, by omega, by omega, by omega, by omega, rfl⟩
      · exact CW.skip (fun ac ha => ⟨_, ha.sub (E' := [(0, .slice (some ⟨g, 0, none⟩) n c), (9, ptr p), (10, i64 ((a + L / 4 * 1 : Nat) : Int)), (11, i64 ((a + L / 4 * 2 : Nat) : Int)), (12, i64 ((a + L / 4 * 3 : Nat) : Int))]) ⟨rfl, rfl, congrArg (fun z => some (i64 z)) (by omega), congrArg (fun z => some (i64 z)) (by omega), congrArg (fun z => some (i64 z)) (by omega), trivial⟩, B0, 0, _, _, _, hg0, hax1, hB0, by omega, by omega, by omega, by omega, by omega, by omega, by omega, by omega, rfl⟩)
    · rintro E' w5 ⟨B5, k5, x, y, z, hg5, hax5, hB5, hk50, hk59, hax', hxb, hay, hyb, haz, hzb, rfl⟩
      refine CW.plain ?_
      refine RL.pure rfl rfl rfl rfl ?_
      refine RL.pure rfl rfl rfl rfl ?_
      refine RL.pure rfl rfl rfl rfl ?_
      refine RL.pure rfl rfl rfl rfl ?_
      refine RL.call rfl rfl rfl rfl rfl ca65 (median_ct (x := x) (y := y) (z := z) hg5 hrow hB5 hn (by omega) (by omega) (by omega) hk50 (by omega)) ?_
      rintro v6 s6 B6 w6 hle6 hg6 hax6 ⟨rfl, k6, hk6, hk6', hB6, u6, rfl, hu6⟩
      refine ⟨trivial, ?_⟩
      refine RL.pure rfl rfl rfl rfl ?_
      refine RL.done ?_
      exact fun ac ha => ⟨_, ha.sub (E' := [(9, ptr p), (11, i64 (u6 : Nat))]) ⟨rfl, rfl, trivial⟩, B6, k6, u6, hg6, hax5.trans hax6, hB6, by omega, by omega, rfl⟩
  rintro E' w7 ⟨B7, k7, u, hg7, hax7, hB7, hau, hub, rfl⟩
  refine CW.seq (CW.plain ?_)
  refine RL.load (j := 0) rfl rfl rfl rfl ty3 rfl (Holds.of hB7) (hg7.1) rfl ?_
  refine RL.done ?_
  refine CW.block (CW.seq (CW.plain ?_))
  refine RL.pure rfl rfl rfl rfl ?_
  refine RL.pure rfl rfl rfl rfl ?_
  refine RL.done ?_
  refine CW.eq rfl (fun h0 => ?_) (fun h0 => ?_)
  · refine CW.seq (CW.plain ?_)
    refine RL.pure rfl rfl rfl rfl ?_
    refine RL.pure rfl rfl rfl rfl ?_
    refine RL.pure rfl rfl rfl rfl ?_
    refine RL.done ?_
    exact CW.ret (ret (vs := [_, _]) ⟨_, _, rfl, rfl, _, _, rfl, rfl, rfl⟩ (PostV.mk hg7.drop hax7 ⟨u, 1, rfl, hau, hub, by omega⟩))
  · refine CW.seq (CW.plain ?_)
    refine RL.pure rfl rfl rfl rfl ?_
    refine RL.pure rfl rfl rfl rfl ?_
    refine RL.done ?_
    refine CW.eq rfl (fun h12 => ?_) (fun h12 => ?_)
    · refine CW.seq (CW.plain ?_)
      refine RL.pure rfl rfl rfl rfl ?_
      refine RL.pure rfl rfl rfl rfl ?_
      refine RL.pure rfl rfl rfl rfl ?_
      refine RL.done ?_
      exact CW.ret (ret (vs := [_, _]) ⟨_, _, rfl, rfl, _, _, rfl, rfl, rfl⟩ (PostV.mk hg7.drop hax7 ⟨u, 2, rfl, hau, hub, by omega⟩))
    · refine CW.seq (CW.plain ?_)
      refine RL.pure rfl rfl rfl rfl ?_
      refine RL.pure rfl rfl rfl rfl ?_
      refine RL.pure rfl rfl rfl rfl ?_
      refine RL.done ?_
      exact CW.ret (ret (vs := [_, _]) ⟨_, _, rfl, rfl, _, _, rfl, rfl, rfl⟩ (PostV.mk hg7.drop hax7 ⟨u, 0, rfl, hau, hub, by omega⟩))
end Go.Lw
