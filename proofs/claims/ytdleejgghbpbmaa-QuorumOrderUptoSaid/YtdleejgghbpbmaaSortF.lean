/-
  The sort's shuffling: which row comes of it is left open; it is a permutation.
-/
import Derived.Test.YtdleejgghbpbmaaSortE
import Derived.Test.YtdleejgghbpbmaaSlLay
import Derived.Shelf.SortM.So_math_bits_LenIn
import Derived.Sort.EveryDepth
import Derived.Sort.WalkA14
import Derived.Sort.LotD1
namespace Go.Lw
open Go.Proofs
open Go.Sort (swp size_swp PermIn)

set_option maxRecDepth 100000 in
theorem Next_ct {w : World} {s A : Res} {os : List Res} {p : Nat} {x : Int} (hg : Good w s (A :: os)) (hp : A p = some (.cells #[.int .u64 x] 77 (0, 0))) :
    Calls Try.prog 63 #[ptr p] w (Post w s os fun s' A' r => s' = s ∧ ∃ y, rng .u64 y ∧ r = .int .u64 y ∧ A' p = some (.cells #[.int .u64 y] 77 (0, 0))) := by
  refine enter (l := [ptr p]) Try.func63 rfl Try.ntmps63 rfl ?_
  refine CW.seq (CW.plain ?_)
  refine RL.pure rfl rfl rfl rfl ?_
  refine RL.done ?_
  have hax := Aux.refl w
  refine CW.meet (fun E' w' => ∃ A' y, Good w' s (A' :: os) ∧ Aux w w' ∧ rng .u64 y ∧ A' p = some (.cells #[.int .u64 y] 77 (0, 0)) ∧ E' = [(0, ptr p)]) ?_ ?_
  · refine CW.forks (.fork [(true, 0), (true, 1), (true, 3), (true, 4)] (.line [(false, 2), (false, 5), (true, 6), (true, 7), (true, 8), (false, 9)]) (.line [(false, 5), (true, 6), (false, 2), (true, 7), (true, 8), (false, 9)])) (fun _ => True) mixed (by kernel_rfl) (by kernel_rfl) (by kernel_rfl) (by kernel_rfl) trivial ?_
    refine RT.pre trivial ?_
    refine RL.pure rfl rfl rfl rfl ?_
    refine RL.pure rfl rfl rfl rfl ?_
    refine RL.pure rfl rfl rfl rfl ?_
    refine RL.pure rfl rfl rfl rfl ?_
    refine RL.done ?_
    refine RT.both (S := fun _ => True) trivial (RT.end_ (S := fun _ => True) trivial ?_) (RT.end_ (S := fun _ => True) trivial ?_)
    · refine RL.load (j := 0) rfl rfl rfl rfl ty77 rfl (Holds.of hp) (hg.drew.1) rfl ?_
      refine RL.load (j := 0) rfl rfl rfl rfl ty77 rfl (Holds.of hp) (hg.drew.1) rfl ?_
      refine RL.shl 13 rfl rfl rfl rfl rfl rfl rfl (by decide) ?_
      refine RL.pure rfl rfl rfl rfl ?_
      refine RL.pure rfl rfl rfl rfl ?_
      refine RL.store (i := 0) (j := 0) rfl rfl rfl ty77 rfl rfl hg.drew rfl (hp) rfl (by first | (simp [Value.cells, Value.oneCell']; done) | simp [Value.cells, Value.oneCell', putL]) (by first | exact Nat.le_of_ble_eq_true rfl | (simp; done) | (simp; omega) | omega) ?_
      rintro w2 hg2 hax2
      refine ⟨trivial, ?_⟩
      refine RL.done ?_
      exact fun ac ha => ⟨_, ha.sub (E' := [(0, ptr p)]) ⟨rfl, trivial⟩, _, _, hg2, hax.trans ((Aux.drew _).trans hax2), rng_wrap _ _, put_same _ _ _, rfl⟩
    · refine RL.load (j := 0) rfl rfl rfl rfl ty77 rfl (Holds.of hp) (hg.drew.1) rfl ?_
      refine RL.shl 13 rfl rfl rfl rfl rfl rfl rfl (by decide) ?_
      refine RL.load (j := 0) rfl rfl rfl rfl ty77 rfl (Holds.of hp) (hg.drew.1) rfl ?_
      refine RL.pure rfl rfl rfl rfl ?_
      refine RL.pure rfl rfl rfl rfl ?_
      refine RL.store (i := 0) (j := 0) rfl rfl rfl ty77 rfl rfl hg.drew rfl (hp) rfl (by first | (simp [Value.cells, Value.oneCell']; done) | simp [Value.cells, Value.oneCell', putL]) (by first | exact Nat.le_of_ble_eq_true rfl | (simp; done) | (simp; omega) | omega) ?_
      rintro w2 hg2 hax2
      refine ⟨trivial, ?_⟩
      refine RL.done ?_
      exact fun ac ha => ⟨_, ha.sub (E' := [(0, ptr p)]) ⟨rfl, trivial⟩, _, _, hg2, hax.trans ((Aux.drew _).trans hax2), rng_wrap _ _, put_same _ _ _, rfl⟩
  rintro E' w' ⟨A', y, hg, hax, hy, hp, rfl⟩
  refine CW.meet (fun E' w' => ∃ A' y, Good w' s (A' :: os) ∧ Aux w w' ∧ rng .u64 y ∧ A' p = some (.cells #[.int .u64 y] 77 (0, 0)) ∧ E' = [(0, ptr p)]) ?_ ?_
  · refine CW.forks (.fork [(true, 0), (true, 1), (true, 3), (true, 4)] (.line [(false, 2), (false, 5), (true, 6), (true, 7), (true, 8), (false, 9)]) (.line [(false, 5), (true, 6), (false, 2), (true, 7), (true, 8), (false, 9)])) (fun _ => True) mixed (by kernel_rfl) (by kernel_rfl) (by kernel_rfl) (by kernel_rfl) trivial ?_
    refine RT.pre trivial ?_
    refine RL.pure rfl rfl rfl rfl ?_
    refine RL.pure rfl rfl rfl rfl ?_
    refine RL.pure rfl rfl rfl rfl ?_
    refine RL.pure rfl rfl rfl rfl ?_
    refine RL.done ?_
    refine RT.both (S := fun _ => True) trivial (RT.end_ (S := fun _ => True) trivial ?_) (RT.end_ (S := fun _ => True) trivial ?_)
    · refine RL.load (j := 0) rfl rfl rfl rfl ty77 rfl (Holds.of hp) (hg.drew.1) rfl ?_
      refine RL.load (j := 0) rfl rfl rfl rfl ty77 rfl (Holds.of hp) (hg.drew.1) rfl ?_
      refine RL.shr 7 rfl rfl rfl rfl rfl rfl rfl (by decide) ?_
      refine RL.pure rfl rfl rfl rfl ?_
      refine RL.pure rfl rfl rfl rfl ?_
      refine RL.store (i := 0) (j := 0) rfl rfl rfl ty77 rfl rfl hg.drew rfl (hp) rfl (by first | (simp [Value.cells, Value.oneCell']; done) | simp [Value.cells, Value.oneCell', putL]) (by first | exact Nat.le_of_ble_eq_true rfl | (simp; done) | (simp; omega) | omega) ?_
      rintro w2 hg2 hax2
      refine ⟨trivial, ?_⟩
      refine RL.done ?_
      exact fun ac ha => ⟨_, ha.sub (E' := [(0, ptr p)]) ⟨rfl, trivial⟩, _, _, hg2, hax.trans ((Aux.drew _).trans hax2), rng_wrap _ _, put_same _ _ _, rfl⟩
    · refine RL.load (j := 0) rfl rfl rfl rfl ty77 rfl (Holds.of hp) (hg.drew.1) rfl ?_
      refine RL.shr 7 rfl rfl rfl rfl rfl rfl rfl (by decide) ?_
      refine RL.load (j := 0) rfl rfl rfl rfl ty77 rfl (Holds.of hp) (hg.drew.1) rfl ?_
      refine RL.pure rfl rfl rfl rfl ?_
      refine RL.pure rfl rfl rfl rfl ?_
      refine RL.store (i := 0) (j := 0) rfl rfl rfl ty77 rfl rfl hg.drew rfl (hp) rfl (by first | (simp [Value.cells, Value.oneCell']; done) | simp [Value.cells, Value.oneCell', putL]) (by first | exact Nat.le_of_ble_eq_true rfl | (simp; done) | (simp; omega) | omega) ?_
      rintro w2 hg2 hax2
      refine ⟨trivial, ?_⟩
      refine RL.done ?_
      exact fun ac ha => ⟨_, ha.sub (E' := [(0, ptr p)]) ⟨rfl, trivial⟩, _, _, hg2, hax.trans ((Aux.drew _).trans hax2), rng_wrap _ _, put_same _ _ _, rfl⟩
  rintro E' w' ⟨A', y, hg, hax, hy, hp, rfl⟩
  refine CW.meet (fun E' w' => ∃ A' y, Good w' s (A' :: os) ∧ Aux w w' ∧ rng .u64 y ∧ A' p = some (.cells #[.int .u64 y] 77 (0, 0)) ∧ E' = [(0, ptr p)]) ?_ ?_
  · refine CW.forks (.fork [(true, 0), (true, 1), (true, 3), (true, 4)] (.line [(false, 2), (false, 5), (true, 6), (true, 7), (true, 8), (false, 9)]) (.line [(false, 5), (true, 6), (false, 2), (true, 7), (true, 8), (false, 9)])) (fun _ => True) mixed (by kernel_rfl) (by kernel_rfl) (by kernel_rfl) (by kernel_rfl) trivial ?_
    refine RT.pre trivial ?_
    refine RL.pure rfl rfl rfl rfl ?_
    refine RL.pure rfl rfl rfl rfl ?_
    refine RL.pure rfl rfl rfl rfl ?_
    refine RL.pure rfl rfl rfl rfl ?_
    refine RL.done ?_
    refine RT.both (S := fun _ => True) trivial (RT.end_ (S := fun _ => True) trivial ?_) (RT.end_ (S := fun _ => True) trivial ?_)
    · refine RL.load (j := 0) rfl rfl rfl rfl ty77 rfl (Holds.of hp) (hg.drew.1) rfl ?_
      refine RL.load (j := 0) rfl rfl rfl rfl ty77 rfl (Holds.of hp) (hg.drew.1) rfl ?_
      refine RL.shl 17 rfl rfl rfl rfl rfl rfl rfl (by decide) ?_
      refine RL.pure rfl rfl rfl rfl ?_
      refine RL.pure rfl rfl rfl rfl ?_
      refine RL.store (i := 0) (j := 0) rfl rfl rfl ty77 rfl rfl hg.drew rfl (hp) rfl (by first | (simp [Value.cells, Value.oneCell']; done) | simp [Value.cells, Value.oneCell', putL]) (by first | exact Nat.le_of_ble_eq_true rfl | (simp; done) | (simp; omega) | omega) ?_
      rintro w2 hg2 hax2
      refine ⟨trivial, ?_⟩
      refine RL.done ?_
      exact fun ac ha => ⟨_, ha.sub (E' := [(0, ptr p)]) ⟨rfl, trivial⟩, _, _, hg2, hax.trans ((Aux.drew _).trans hax2), rng_wrap _ _, put_same _ _ _, rfl⟩
    · refine RL.load (j := 0) rfl rfl rfl rfl ty77 rfl (Holds.of hp) (hg.drew.1) rfl ?_
      refine RL.shl 17 rfl rfl rfl rfl rfl rfl rfl (by decide) ?_
      refine RL.load (j := 0) rfl rfl rfl rfl ty77 rfl (Holds.of hp) (hg.drew.1) rfl ?_
      refine RL.pure rfl rfl rfl rfl ?_
      refine RL.pure rfl rfl rfl rfl ?_
      refine RL.store (i := 0) (j := 0) rfl rfl rfl ty77 rfl rfl hg.drew rfl (hp) rfl (by first | (simp [Value.cells, Value.oneCell']; done) | simp [Value.cells, Value.oneCell', putL]) (by first | exact Nat.le_of_ble_eq_true rfl | (simp; done) | (simp; omega) | omega) ?_
      rintro w2 hg2 hax2
      refine ⟨trivial, ?_⟩
      refine RL.done ?_
      exact fun ac ha => ⟨_, ha.sub (E' := [(0, ptr p)]) ⟨rfl, trivial⟩, _, _, hg2, hax.trans ((Aux.drew _).trans hax2), rng_wrap _ _, put_same _ _ _, rfl⟩
  rintro E' w' ⟨A', y, hg, hax, hy, hp, rfl⟩
  refine CW.seq (CW.plain ?_)
  refine RL.pure rfl rfl rfl rfl ?_
  refine RL.pure rfl rfl rfl rfl ?_
  refine RL.load (j := 0) rfl rfl rfl rfl ty77 rfl (Holds.of hp) (hg.1) rfl ?_
  refine RL.pure rfl rfl rfl rfl ?_
  refine RL.done ?_
  exact CW.ret (ret (vs := [_]) ⟨_, _, rfl, rfl, rfl⟩ (Post.mk (Le.refl _) hg hax ⟨rfl, y, hy, rfl, hp⟩))

theorem Len_plain (x : Int) (w : World) (h0 : 0 ≤ x) (h1 : x ≤ 18446744073709551615) : Calls Try.prog 39 #[.int .u64 x] w fun e w' => e = .returned (.int .i64 (Lib.bitLen x.toNat)) ∧ w' = w :=
  calls_of_every_depth fun D => AnySM.bits_LenIn { Try.sortI with } D x w h0 h1
theorem Len_ct {w : World} {s : Res} {os : List Res} {n : Nat} (hg : Good w s os) (hn : n < 18446744073709551616) : Calls Try.prog 39 #[.int .u64 n] w (PostV w s os fun r => r = i64 (Go.Sort.bitsLen n : Nat)) := by
  refine (Len_plain n w (by omega) (by omega)).mono ?_
  rintro e w' ⟨rfl, rfl⟩
  refine PostV.mk hg (Aux.refl _) ?_
  rw [Int.toNat_natCast, Go.Proofs.bitLen_eq _ (by omega)]

set_option maxRecDepth 100000 in
theorem nextPow_ct {w : World} {s : Res} {os : List Res} {n : Nat} (hg : Good w s os) (h0 : 0 < n) (hn : n < 2305843009213693952) :
    Calls Try.prog 62 #[i64 n] w (PostV w s os fun r => r = .int .u64 ((2 ^ Go.Sort.bitsLen n : Nat) : Int)) := by
  have h2 := Go.Sort.two_pow_bitsLen_le h0
  have h62 : Go.Sort.bitsLen n ≤ 61 := (Go.Sort.bitsLen_le_iff n 61).2 (by omega)
  refine enter (l := [i64 n]) Try.func62 rfl Try.ntmps62 rfl ?_
  refine CW.seq (CW.plain ?_)
  refine RL.pure rfl rfl rfl rfl ?_
  refine RL.done ?_
  refine CW.seq (CW.plain ?_)
  refine RL.pure rfl rfl rfl rfl ?_
  refine RL.conv rfl rfl rfl rfl Try.underlying3 Try.underlying56 rfl ((by simp only [rng]; omega)) ?_
  refine RL.callV rfl rfl rfl rfl rfl ca39 (Len_ct hg (by omega)) ?_
  rintro v w1 hg1 hax1 rfl
  refine ⟨trivial, ?_⟩
  refine RL.shl (Go.Sort.bitsLen n) rfl rfl rfl rfl rfl rfl (rfl) ((by simp [IntKind.bits]; omega)) ?_
  refine RL.pure rfl rfl rfl rfl ?_
  refine RL.done ?_
  refine CW.ret (ret (vs := [_]) ⟨_, _, rfl, rfl, rfl⟩ (PostV.mk hg1 hax1 (congrArg (Value.int .u64) ?_)))
  have e : (1 : Int) * 2 ^ Go.Sort.bitsLen n = ((2 ^ Go.Sort.bitsLen n : Nat) : Int) := by simp
  rw [e]
  generalize 2 ^ Go.Sort.bitsLen n = M at *
  exact rng.wrap (k := .u64) (by simp only [rng]; omega)

theorem and_le (x y : Int) (hy : 0 ≤ y) (hy2 : y < 18446744073709551616) : 0 ≤ IntKind.u64.wrap ((BitVec.ofInt IntKind.u64.bits x &&& BitVec.ofInt IntKind.u64.bits y).toNat) ∧ IntKind.u64.wrap ((BitVec.ofInt IntKind.u64.bits x &&& BitVec.ofInt IntKind.u64.bits y).toNat) ≤ y := by
  have h1 : (BitVec.ofInt IntKind.u64.bits x &&& BitVec.ofInt IntKind.u64.bits y).toNat ≤ (BitVec.ofInt IntKind.u64.bits y).toNat := by
    rw [BitVec.toNat_and]; exact Nat.and_le_right
  have h2 : (BitVec.ofInt IntKind.u64.bits y).toNat = y.toNat := by
    rw [BitVec.toNat_ofInt]
    simp only [IntKind.bits]
    omega
  rw [wrap_u64]
  omega

set_option maxHeartbeats 1000000 in
set_option maxRecDepth 100000 in
theorem breakPatterns_ct {w : World} {s A : Res} {os : List Res} {g n c a b : Nat} {rest : List Value} {d : Array Int} (hg : Good w s (A :: os)) (hrow : RowAt A g rest d) (hn : d.size = n) (hb : b ≤ n) (hab : a + 8 ≤ b) (hsz : n < 2305843009213693952) :
    Calls Try.prog 44 #[.slice (some ⟨g, 0, none⟩) n c, i64 a, i64 b] w (Post w s os fun s' A' r => s' = s ∧ r = .tuple #[] ∧ ∃ d', PermIn a b d d' ∧ RowAt A' g rest d') := by
  obtain ⟨L, hL⟩ : ∃ L, L = b - a := ⟨_, rfl⟩
  have h2 := Go.Sort.two_pow_bitsLen_le (n := L) (by omega)
  have hp1 : 1 ≤ 2 ^ Go.Sort.bitsLen L := Nat.one_le_two_pow
  refine enter (l := [.slice (some ⟨g, 0, none⟩) n c, i64 a, i64 b]) Try.func44 rfl Try.ntmps44 rfl ?_
  refine CW.seq (CW.plain ?_)
  refine RL.pure rfl rfl rfl rfl ?_
  refine RL.pure rfl rfl rfl rfl ?_
  refine RL.sub rfl rfl rfl rfl rfl rfl ((by simp only [rng]; omega)) ?_
  refine RL.pure rfl rfl rfl rfl ?_
  refine RL.done ?_
  have eL : ((b : Int) - (a : Int)) = (L : Int) := by omega
  rw [eL]
  refine CW.seq (CW.plain ?_)
  refine RL.pure rfl rfl rfl rfl ?_
  refine RL.pure rfl rfl rfl rfl ?_
  refine RL.done ?_
  refine CW.test rfl (fun h => ?_) (fun h => absurd (by omega) h)
  refine CW.seq (CW.plain ?_)
  refine RL.pure rfl rfl rfl rfl ?_
  refine RL.conv rfl rfl rfl rfl Try.underlying3 Try.underlying77 rfl ((by simp only [rng]; omega)) ?_
  refine RL.alloc rfl rfl rfl rfl ze77 hg ?_
  rintro p w1 hg1 hax1
  refine ⟨trivial, ?_⟩
  refine RL.store (i := 0) (j := 0) rfl rfl rfl ty77 rfl rfl hg1 rfl ((if_pos rfl)) rfl (by first | (simp [Value.cells, Value.oneCell']; done) | simp [Value.cells, Value.oneCell', putL]) (by first | exact Nat.le_of_ble_eq_true rfl | (simp; done) | (simp; omega) | omega) ?_
  rintro w2 hg2 hax2
  refine ⟨trivial, ?_⟩
  refine RL.done ?_
  obtain ⟨B2, x0, hg2', hB2⟩ : ∃ B x, Good w2 s (B :: A :: os) ∧ B p = some (.cells #[.int .u64 x] 77 (0, 0)) := ⟨_, _, hg2, put_same _ _ _⟩
  refine CW.seq (CW.plain ?_)
  refine RL.pure rfl rfl rfl rfl ?_
  refine RL.callV rfl rfl rfl rfl rfl ca62 (nextPow_ct (n := L) hg2' (by omega) (by omega)) ?_
  rintro v3 w3 hg3 hax3 rfl
  refine ⟨trivial, ?_⟩
  refine RL.pure rfl rfl rfl rfl ?_
  refine RL.done ?_
  refine CW.seq (CW.plain ?_)
  refine RL.pure rfl rfl rfl rfl ?_
  refine RL.pure rfl rfl rfl rfl ?_
  refine RL.quo rfl rfl rfl rfl rfl rfl ((by omega)) ((by decide)) ((by simp only [rng]; omega)) ?_
  refine RL.mul rfl rfl rfl rfl rfl rfl ((by simp only [rng]; omega)) ?_
  refine RL.add rfl rfl rfl rfl rfl rfl ((by simp only [rng]; omega)) ?_
  refine RL.sub rfl rfl rfl rfl rfl rfl ((by simp only [rng]; omega)) ?_
  refine RL.pure rfl rfl rfl rfl ?_
  refine RL.done ?_
  refine CW.block (CW.loop (σ := Nat) (fun k E w' => ∃ A' B' dk x i, Good w' s (B' :: A' :: os) ∧ Aux w w' ∧ B' p = some (.cells #[.int .u64 x] 77 (0, 0)) ∧ RowAt A' g rest dk ∧ PermIn a b d dk ∧ i + k = a + L / 4 * 2 + 2 ∧ k ≤ 3 ∧ E = [(0, .slice (some ⟨g, 0, none⟩) n c), (1, i64 a), (6, i64 (L : Nat)), (7, ptr p), (8, .int .u64 ((2 ^ Go.Sort.bitsLen L : Nat) : Int)), (9, i64 (i : Nat))])
    (fun k => k) 3 [(0, .slice (some ⟨g, 0, none⟩) n c), (1, i64 a), (6, i64 (L : Nat)), (7, ptr p), (8, .int .u64 ((2 ^ Go.Sort.bitsLen L : Nat) : Int)), (9, i64 ((a + L / 4 * 2 - 1 : Nat) : Int))] ⟨rfl, rfl, rfl, rfl, rfl, congrArg (fun z => some (i64 z)) (by omega), trivial⟩
    ⟨A, B2, d, x0, a + L / 4 * 2 - 1, hg3, hax1.trans (hax2.trans hax3), hB2, hrow, Go.Sort.permIn_refl _ _ _, by omega, Nat.le_refl _, rfl⟩ ?_)
  rintro k E w4 ⟨A4, B4, d4, x4, i, hg4, hax4, hB4, hrow4, hperm, hik, hk3, rfl⟩
  have hn4 : d4.size = n := by rw [hperm.1]; exact hn
  refine CW.seq (CW.seq (CW.plain ?_))
  refine RL.pure rfl rfl rfl rfl ?_
  refine RL.pure rfl rfl rfl rfl ?_
  refine RL.pure rfl rfl rfl rfl ?_
  refine RL.quo rfl rfl rfl rfl rfl rfl ((by omega)) ((by decide)) ((by simp only [rng]; omega)) ?_
  refine RL.mul rfl rfl rfl rfl rfl rfl ((by simp only [rng]; omega)) ?_
  refine RL.add rfl rfl rfl rfl rfl rfl ((by simp only [rng]; omega)) ?_
  refine RL.add rfl rfl rfl rfl rfl rfl ((by simp only [rng]; omega)) ?_
  refine RL.pure rfl rfl rfl rfl ?_
  refine RL.done ?_
  refine CW.test rfl (fun hi => ?_) (fun hi => ?_)
  · refine CW.skip ?_
    refine CW.meet (fun E' w' => ∃ A' B' dk x, Good w' s (B' :: A' :: os) ∧ Aux w w' ∧ B' p = some (.cells #[.int .u64 x] 77 (0, 0)) ∧ RowAt A' g rest dk ∧ PermIn a b d dk ∧ E' = [(0, .slice (some ⟨g, 0, none⟩) n c), (1, i64 a), (6, i64 (L : Nat)), (7, ptr p), (8, .int .u64 ((2 ^ Go.Sort.bitsLen L : Nat) : Int)), (9, i64 (i : Nat))]) ?_ ?_
    rotate_left
    · rintro E' w7 ⟨A7, B7, d7, x7, hg7, hax7, hB7, hrow7, hperm7, rfl⟩
      refine CW.plain ?_
      refine RL.pure rfl rfl rfl rfl ?_
      refine RL.add rfl rfl rfl rfl rfl rfl ((by simp only [rng]; omega)) ?_
      refine RL.pure rfl rfl rfl rfl ?_
      refine RL.done ?_
      refine fun ac ha => ⟨k - 1, [(0, .slice (some ⟨g, 0, none⟩) n c), (1, i64 a), (6, i64 (L : Nat)), (7, ptr p), (8, .int .u64 ((2 ^ Go.Sort.bitsLen L : Nat) : Int)), (9, i64 ((i + 1 : Nat) : Int))], ha.sub ⟨rfl, rfl, rfl, rfl, rfl, rfl, trivial⟩, ⟨A7, B7, d7, x7, i + 1, hg7, hax7, hB7, hrow7, hperm7, by omega, by omega, rfl⟩, by omega⟩
    refine CW.block (CW.seq (CW.plain ?_))
    refine RL.call rfl rfl rfl rfl rfl ca63 (Next_ct hg4 hB4) ?_
    rintro v5 s5 B5 w5 hle5 hg5 hax5 ⟨rfl, y, hy, rfl, hB5⟩
    refine ⟨trivial, ?_⟩
    refine RL.pure rfl rfl rfl rfl ?_
    refine RL.sub rfl rfl rfl rfl rfl rfl ((by simp only [rng]; omega)) ?_
    refine RL.pure rfl rfl rfl rfl ?_
    obtain ⟨hz0, hz1⟩ := and_le y (((2 ^ Go.Sort.bitsLen L : Nat) : Int) - 1) (by omega) (by omega)
    generalize IntKind.u64.wrap ((BitVec.ofInt IntKind.u64.bits y &&& BitVec.ofInt IntKind.u64.bits (((2 ^ Go.Sort.bitsLen L : Nat) : Int) - 1)).toNat) = z at *
    refine RL.conv rfl rfl rfl rfl Try.underlying56 Try.underlying3 rfl ((by simp only [rng]; omega)) ?_
    refine RL.pure rfl rfl rfl rfl ?_
    refine RL.done ?_
    refine CW.meet (fun E' w' => ∃ q : Nat, q < L ∧ w' = w5 ∧ E' = [(0, .slice (some ⟨g, 0, none⟩) n c), (1, i64 a), (6, i64 (L : Nat)), (7, ptr p), (8, .int .u64 ((2 ^ Go.Sort.bitsLen L : Nat) : Int)), (9, i64 (i : Nat)), (10, i64 (q : Nat))]) ?_ ?_
    · refine CW.seq (CW.plain ?_)
      refine RL.pure rfl rfl rfl rfl ?_
      refine RL.pure rfl rfl rfl rfl ?_
      refine RL.pure rfl rfl rfl rfl ?_
      refine RL.done ?_
      refine CW.test rfl (fun hq => ?_) (fun hq => ?_)
      · refine CW.plain ?_
        refine RL.pure rfl rfl rfl rfl ?_
        refine RL.pure rfl rfl rfl rfl ?_
        refine RL.sub rfl rfl rfl rfl rfl rfl ((by simp only [rng]; omega)) ?_
        refine RL.pure rfl rfl rfl rfl ?_
        refine RL.done ?_
        refine fun ac ha => ⟨[(0, .slice (some ⟨g, 0, none⟩) n c), (1, i64 a), (6, i64 (L : Nat)), (7, ptr p), (8, .int .u64 ((2 ^ Go.Sort.bitsLen L : Nat) : Int)), (9, i64 (i : Nat)), (10, i64 (((z - L).toNat : Nat) : Int))], ha.sub ⟨rfl, rfl, rfl, rfl, rfl, rfl, congrArg (fun z => some (i64 z)) (by omega), trivial⟩, (z - L).toNat, by omega, rfl, rfl⟩
      · refine CW.skip (fun ac ha => ⟨[(0, .slice (some ⟨g, 0, none⟩) n c), (1, i64 a), (6, i64 (L : Nat)), (7, ptr p), (8, .int .u64 ((2 ^ Go.Sort.bitsLen L : Nat) : Int)), (9, i64 (i : Nat)), (10, i64 ((z.toNat : Nat) : Int))], ha.sub ⟨rfl, rfl, rfl, rfl, rfl, rfl, congrArg (fun z => some (i64 z)) (by omega), trivial⟩, z.toNat, by omega, rfl, rfl⟩)
    rintro E' w6 ⟨q, hq, rfl, rfl⟩
    have hg := hg5.swap
    have hrow := hrow4
    have hn := hn4
    refine CW.forks (.fork [(true, 0), (true, 1), (true, 2), (true, 3), (true, 4), (true, 5), (true, 6), (true, 7), (true, 8), (true, 9), (true, 10), (true, 12), (true, 13), (true, 14)] (.line [(false, 11), (false, 15), (true, 16), (false, 17), (true, 18), (false, 19)]) (.line [(false, 15), (false, 11), (true, 16), (false, 17), (true, 18), (false, 19)])) (fun _ => True) mixed (by kernel_rfl) (by kernel_rfl) (by kernel_rfl) (by kernel_rfl) trivial ?_
    refine RT.pre trivial ?_
    refine RL.pure rfl rfl rfl rfl ?_
    refine RL.pure rfl rfl rfl rfl ?_
    refine RL.pure rfl rfl rfl rfl ?_
    refine RL.pure rfl rfl rfl rfl ?_
    refine RL.pure rfl rfl rfl rfl ?_
    refine RL.add rfl rfl rfl rfl rfl rfl (by simp only [rng] at *; omega) ?_
    refine RL.pure rfl rfl rfl rfl ?_
    refine RL.pure rfl rfl rfl rfl ?_
    refine RL.pure rfl rfl rfl rfl ?_
    refine RL.add rfl rfl rfl rfl rfl rfl (by simp only [rng] at *; omega) ?_
    refine RL.idxR (a + q) rfl rfl rfl rfl sl49 rfl rfl (by omega) (by omega) ?_
    refine RL.pure rfl rfl rfl rfl ?_
    refine RL.pure rfl rfl rfl rfl ?_
    refine RL.idxR (i) rfl rfl rfl rfl sl49 rfl rfl (by omega) (by omega) ?_
    refine RL.done ?_
    refine RT.both (S := fun _ => True) trivial (RT.end_ (S := fun _ => True) trivial ?_) (RT.end_ (S := fun _ => True) trivial ?_)
    · refine RL.loadR (a + q) rfl rfl rfl rfl ty33 rfl hrow hg.drew.1 (by omega) ?_
      refine RL.loadR (i) rfl rfl rfl rfl ty33 rfl hrow hg.drew.1 (by omega) ?_
      refine RL.idxR (i) rfl rfl rfl rfl sl49 rfl rfl (by omega) (by omega) ?_
      refine RL.storeR (i) rfl rfl rfl ty33 rfl rfl hg.drew hrow (by omega) ?_
      intro ws1 As1 hgs1 haxs1 hrows1
      refine ⟨trivial, ?_⟩
      refine RL.idxR (a + q) rfl rfl rfl rfl sl49 rfl rfl (by omega) (by omega) ?_
      refine RL.storeR (a + q) rfl rfl rfl ty33 rfl rfl hgs1 hrows1 (by simp; omega) ?_
      intro ws2 As2 hgs2 haxs2 hrows2
      refine ⟨trivial, ?_⟩
      refine RL.done ?_
      exact fun ac ha => ⟨_, ha.sub (E' := [(0, .slice (some ⟨g, 0, none⟩) n c), (1, i64 a), (6, i64 (L : Nat)), (7, ptr p), (8, .int .u64 ((2 ^ Go.Sort.bitsLen L : Nat) : Int)), (9, i64 (i : Nat))]) ⟨rfl, rfl, rfl, rfl, rfl, rfl, trivial⟩, As2, B5, _, y, hgs2.swap, hax4.trans (hax5.trans ((Aux.drew _).trans (haxs1.trans haxs2))), hB5, hrows2, Go.Sort.permIn_trans _ _ _ a b hperm (Go.Sort.swp_permIn _ a b _ _ (by omega) (by omega) (by omega) (by omega) (by omega)), rfl⟩
    · refine RL.loadR (i) rfl rfl rfl rfl ty33 rfl hrow hg.drew.1 (by omega) ?_
      refine RL.loadR (a + q) rfl rfl rfl rfl ty33 rfl hrow hg.drew.1 (by omega) ?_
      refine RL.idxR (i) rfl rfl rfl rfl sl49 rfl rfl (by omega) (by omega) ?_
      refine RL.storeR (i) rfl rfl rfl ty33 rfl rfl hg.drew hrow (by omega) ?_
      intro ws1 As1 hgs1 haxs1 hrows1
      refine ⟨trivial, ?_⟩
      refine RL.idxR (a + q) rfl rfl rfl rfl sl49 rfl rfl (by omega) (by omega) ?_
      refine RL.storeR (a + q) rfl rfl rfl ty33 rfl rfl hgs1 hrows1 (by simp; omega) ?_
      intro ws2 As2 hgs2 haxs2 hrows2
      refine ⟨trivial, ?_⟩
      refine RL.done ?_
      exact fun ac ha => ⟨_, ha.sub (E' := [(0, .slice (some ⟨g, 0, none⟩) n c), (1, i64 a), (6, i64 (L : Nat)), (7, ptr p), (8, .int .u64 ((2 ^ Go.Sort.bitsLen L : Nat) : Int)), (9, i64 (i : Nat))]) ⟨rfl, rfl, rfl, rfl, rfl, rfl, trivial⟩, As2, B5, _, y, hgs2.swap, hax4.trans (hax5.trans ((Aux.drew _).trans (haxs1.trans haxs2))), hB5, hrows2, Go.Sort.permIn_trans _ _ _ a b hperm (Go.Sort.swp_permIn _ a b _ _ (by omega) (by omega) (by omega) (by omega) (by omega)), rfl⟩

  · refine CW.exit ?_
    refine fall (vs := []) rfl (Post.mk (Le.refl _) hg4.drop hax4 ⟨rfl, rfl, d4, hperm, hrow4⟩)
end Go.Lw
