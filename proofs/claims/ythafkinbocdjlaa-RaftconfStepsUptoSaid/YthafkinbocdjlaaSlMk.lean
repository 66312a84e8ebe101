/-
  Go's slices at []int: Grow of nothing, Concat, IsSorted, Insert of one.
-/
import Derived.Test.YthafkinbocdjlaaSlFn
import Derived.Test.YthafkinbocdjlaaRules8
import Derived.Test.YthafkinbocdjlaaSlBs
import Derived.Lib.Overlaps
namespace Go.Lw
open Go.Proofs

set_option maxRecDepth 100000 in
theorem Grow_ct {w : World} {s : Res} {os : List Res} {k : Nat} (hg : Good w s os) (hk : k * 8 ≤ 140737488355328) :
    Calls Try.prog 55 #[.slice none 0 0, i64 (k : Nat)] w (Post w s os fun s' A v => s' = s ∧ ∃ a c, v = .slice a 0 c ∧ OwnI s' A a c []) := by
  refine enter (l := [.slice none 0 0, i64 (k : Nat)]) Try.func55 rfl Try.ntmps55 rfl ?_
  refine CW.seq (CW.plain ?_)
  refine RL.pure rfl rfl rfl rfl ?_
  refine RL.done ?_
  refine CW.seq (CW.seq (CW.plain ?_))
  refine RL.pure rfl rfl rfl rfl ?_
  refine RL.pure rfl rfl rfl rfl ?_
  refine RL.done ?_
  refine CW.test rfl (fun h => by omega) (fun _ => CW.skip ?_)
  have hz : IntKind.i64.wrap 0 = 0 := by decide
  refine CW.meet (fun E w' => ∃ A a c, E = [(0, .slice a 0 c)] ∧ Good w' s (A :: os) ∧ Aux w w' ∧ OwnI s A a c []) ?_ ?_
  · refine CW.seq (CW.plain ?_)
    refine RL.pure rfl rfl rfl rfl ?_
    refine RL.pure rfl rfl rfl rfl ?_
    refine RL.cap rfl rfl rfl rfl sl22 rfl ?_
    refine RL.pure rfl rfl rfl rfl ?_
    refine RL.len rfl rfl rfl rfl sl22 rfl ?_
    refine RL.sub rfl rfl rfl rfl rfl rfl (by simp [rng]) ?_
    refine RL.sub rfl rfl rfl rfl rfl rfl ((by simp only [rng]; omega)) ?_
    refine RL.pure rfl rfl rfl rfl ?_
    refine RL.done ?_
    refine CW.seq (CW.plain ?_)
    refine RL.pure rfl rfl rfl rfl ?_
    refine RL.pure rfl rfl rfl rfl ?_
    refine RL.done ?_
    refine CW.test rfl (fun h => ?_) (fun h => ?_)
    · have hk0 : 0 < k := by omega
      refine CW.plain ?_
      have e : ((k : Nat) : Int) - (((0 : Nat) : Int) - ((0 : Nat) : Int)) = ((k : Nat) : Int) := by omega
      rw [e]
      refine RL.pure rfl rfl rfl rfl ?_
      refine RL.pure rfl rfl rfl rfl ?_
      refine RL.cap rfl rfl rfl rfl sl22 rfl ?_
      refine RL.cutHi 0 rfl rfl rfl rfl sl22 rfl rfl rfl (Nat.le_refl _) ?_
      refine RL.pure rfl rfl rfl rfl ?_
      refine RL.appendZ (k := 0) (m := k) (olds := []) rfl rfl rfl rfl sl22 ze3 Try.underlying3 (by decide) rfl rfl (fun w' _ => by simp [Builtin.firstCells]) (by omega) hk0 (by omega) (by decide) hg ?_
      rintro g w1 c' hc1 hc2 hg1 hax1
      refine ⟨trivial, ?_⟩
      refine RL.pure rfl rfl rfl rfl ?_
      refine RL.len rfl rfl rfl rfl sl22 rfl ?_
      refine RL.cutHi 0 rfl rfl rfl rfl sl22 rfl rfl rfl (Nat.zero_le _) ?_
      refine RL.pure rfl rfl rfl rfl ?_
      refine RL.done ?_
      refine fun ac ha => ⟨[(0, .slice (some ⟨g, 0, none⟩) 0 c')], ha.sub ⟨rfl, trivial⟩, _, _, _, rfl, hg1, hax1, .inr ⟨g, _, rfl, if_pos rfl, Nat.zero_le _, hc2, ?_, by simp [Chunks]⟩⟩
      simp only [Array.size_append, size_zeroCells, List.size_toArray, List.length_nil, List.length_cons]
      omega
    · refine CW.skip ?_
      exact fun ac ha => ⟨[(0, .slice none 0 0)], ha.sub ⟨rfl, trivial⟩, Res.nil, none, 0, rfl, hg.nil, Aux.refl _, .inl ⟨rfl, rfl, rfl⟩⟩
  rintro E w2 ⟨A, a, c, rfl, hg2, hax2, hown⟩
  refine CW.seq (CW.plain ?_)
  refine RL.pure rfl rfl rfl rfl ?_
  refine RL.pure rfl rfl rfl rfl ?_
  refine RL.done ?_
  exact CW.ret (ret (vs := [_]) ⟨_, _, rfl, rfl, rfl⟩ (Post.mk (Le.refl _) hg2 hax2 ⟨rfl, a, c, rfl, hown⟩))

abbrev RInts : Res → List Value → List Int → Prop := RSl (RInt .i64) 1
theorem flat_take {L : List (List Int)} {k : Nat} (hk : k < L.length) : (L.take (k + 1)).flatten = (L.take k).flatten ++ L[k] := by
  rw [List.take_succ_eq_append_getElem hk, List.flatten_append]; simp
theorem flat_le {L : List (List Int)} (k : Nat) : (L.take k).flatten.length ≤ L.flatten.length := by
  conv => rhs; rw [← List.take_append_drop k L, List.flatten_append, List.length_append]
  omega

set_option maxRecDepth 100000 in
theorem Concat_ct {w : World} {s : Res} {os : List Res} {L : List (List Int)} {la : Option Addr} {lc : Nat} (hg : Good w s os) (hL : Imm RInts 1 s la lc L) (hb : L.flatten.length * 8 ≤ 140737488355328) :
    Calls Try.prog 38 #[.slice la L.length lc] w (Post w s os fun s' A v => s' = s ∧ ∃ a c, v = .slice a L.flatten.length c ∧ OwnI s' A a c L.flatten) := by
  have hlen := hL.le_max
  simp only [maxLen] at hlen
  refine enter (l := [.slice la L.length lc]) Try.func38 rfl Try.ntmps38 rfl ?_
  refine CW.seq (CW.plain ?_)
  refine RL.pure rfl rfl rfl rfl ?_
  refine RL.done ?_
  refine CW.seq (CW.plain ?_)
  refine RL.pure rfl rfl rfl rfl ?_
  refine RL.done ?_
  refine CW.meet (fun E w' => w' = w ∧ E = [(0, .slice la L.length lc), (3, i64 L.flatten.length)]) ?_ ?_
  · refine CW.seq (CW.plain ?_)
    refine RL.pure rfl rfl rfl rfl ?_
    refine RL.len rfl rfl rfl rfl sl65 rfl ?_
    refine RL.pure rfl rfl rfl rfl ?_
    refine RL.done ?_
    refine CW.block (CW.loop (σ := Nat) (fun j E w' => w' = w ∧ ∃ k : Nat, E = [(0, .slice la L.length lc), (3, i64 (L.take k).flatten.length), (9, .slice la L.length lc), (10, i64 L.length), (11, i64 k)] ∧ k + j = L.length)
      (fun j => j) L.length [(0, .slice la L.length lc), (3, i64 (L.take 0).flatten.length), (9, .slice la L.length lc), (10, i64 L.length), (11, i64 0)] ⟨rfl, rfl, rfl, rfl, rfl, trivial⟩ ⟨rfl, 0, rfl, by omega⟩ ?_)
    rintro j E w' ⟨rfl, k, rfl, hk⟩
    have hf := flat_le (L := L) k
    have hf1 := flat_le (L := L) (k + 1)
    refine CW.seq (CW.plain ?_)
    refine RL.pure rfl rfl rfl rfl ?_
    refine RL.done ?_
    refine CW.seq (CW.test rfl (fun h => CW.skip ?_) (fun h => CW.exit ?_))
    · have hkl : k < L.length := by omega
      have hft := flat_take hkl
      rw [hft, List.length_append] at hf1
      refine CW.seq (CW.block (CW.seq (CW.plain ?_)))
      refine RL.idx rfl rfl rfl rfl sl65 rfl rfl (hL) (by omega) ((by omega)) ?_
      rintro q vs hvl hH ⟨xa, xc, rfl, hxi⟩
      refine RL.load rfl rfl rfl rfl ty22 rfl (hH) (hg.sh) rfl ?_
      refine RL.pure rfl rfl rfl rfl ?_
      refine RL.done ?_
      have ek : L[((k : Nat) : Int).toNat]'(by omega) = L[k] := by simp
      rw [ek]
      refine CW.seq (CW.plain ?_)
      refine RL.pure rfl rfl rfl rfl ?_
      refine RL.pure rfl rfl rfl rfl ?_
      refine RL.len rfl rfl rfl rfl sl22 rfl ?_
      refine RL.add rfl rfl rfl rfl rfl rfl ((by simp only [rng]; omega)) ?_
      refine RL.pure rfl rfl rfl rfl ?_
      refine RL.done ?_
      refine CW.seq (CW.plain ?_)
      refine RL.pure rfl rfl rfl rfl ?_
      refine RL.pure rfl rfl rfl rfl ?_
      refine RL.done ?_
      refine CW.test rfl (fun h => by omega) (fun _ => CW.skip ?_)
      refine CW.plain ?_
      refine RL.add rfl rfl rfl rfl rfl rfl (by simp only [rng] at *; omega) ?_
      refine RL.pure rfl rfl rfl rfl ?_
      refine RL.done ?_
      cases j with
      | zero => omega
      | succ j =>
        refine fun ac ha => ⟨j, [(0, .slice la L.length lc), (3, i64 (L.take (k + 1)).flatten.length), (9, .slice la L.length lc), (10, i64 L.length), (11, i64 ((k : Int) + 1))], ha.sub ⟨rfl, ?_, rfl, rfl, rfl, trivial⟩, ⟨rfl, k + 1, rfl, by omega⟩, Nat.lt_succ_self j⟩
        rw [hft, List.length_append, Int.natCast_add]
        rfl
    · have hkl : k = L.length := by omega
      subst hkl
      exact fun ac ha => ⟨[(0, .slice la L.length lc), (3, i64 L.flatten.length)], ha.sub ⟨rfl, by rw [List.take_length]; rfl, trivial⟩, rfl, rfl⟩
  rintro E w1 ⟨rfl, rfl⟩
  refine CW.seq (CW.plain ?_)
  refine RL.pure rfl rfl rfl rfl ?_
  refine RL.call rfl rfl rfl rfl rfl ca55 (Grow_ct hg hb) ?_
  rintro v2 s2 A2 w2 hle2 hg2 hax2 ⟨rfl, a2, c2, rfl, ho2⟩
  refine ⟨trivial, ?_⟩
  refine RL.pure rfl rfl rfl rfl ?_
  refine RL.done ?_
  refine CW.meet (fun E w' => ∃ A a c, E = [(6, .slice a L.flatten.length c)] ∧ Good w' s2 (A :: os) ∧ Aux w1 w' ∧ OwnI s2 A a c L.flatten) ?_ ?_
  · refine CW.seq (CW.plain ?_)
    refine RL.pure rfl rfl rfl rfl ?_
    refine RL.len rfl rfl rfl rfl sl65 rfl ?_
    refine RL.pure rfl rfl rfl rfl ?_
    refine RL.done ?_
    refine CW.block (CW.loop (σ := Nat) (fun j E w' => ∃ A a c, ∃ k : Nat, E = [(6, .slice a (L.take k).flatten.length c), (25, .slice la L.length lc), (26, i64 L.length), (27, i64 k)] ∧ Good w' s2 (A :: os) ∧ Aux w1 w' ∧ OwnI s2 A a c (L.take k).flatten ∧ k + j = L.length)
      (fun j => j) L.length [(6, .slice a2 (L.take 0).flatten.length c2), (25, .slice la L.length lc), (26, i64 L.length), (27, i64 0)] ⟨rfl, rfl, rfl, rfl, trivial⟩ ⟨A2, a2, c2, 0, rfl, hg2, hax2, ho2, by omega⟩ ?_)
    rintro j E w3 ⟨A3, a3, c3, k, rfl, hg3, hax3, ho3, hk⟩
    have hf1 := flat_le (L := L) (k + 1)
    refine CW.seq (CW.plain ?_)
    refine RL.pure rfl rfl rfl rfl ?_
    refine RL.done ?_
    refine CW.seq (CW.test rfl (fun h => CW.skip ?_) (fun h => CW.exit ?_))
    · have hkl : k < L.length := by omega
      have hft := flat_take hkl
      rw [hft, List.length_append] at hf1
      refine CW.seq (CW.block (CW.seq (CW.plain ?_)))
      refine RL.idx rfl rfl rfl rfl sl65 rfl rfl (hL) (by omega) ((by omega)) ?_
      rintro q vs hvl hH ⟨xa, xc, rfl, hxi⟩
      refine RL.load rfl rfl rfl rfl ty22 rfl (hH) (hg3.sh) rfl ?_
      refine RL.pure rfl rfl rfl rfl ?_
      refine RL.done ?_
      have ek : L[((k : Nat) : Int).toNat]'(by omega) = L[k] := by simp
      rw [ek] at hxi ⊢
      refine CW.plain ?_
      refine RL.pure rfl rfl rfl rfl ?_
      refine RL.pure rfl rfl rfl rfl ?_
      obtain ⟨news, hsrc, hch⟩ := Src.row (c := xc) sl22 hxi.2.2 hg3.sh
      refine RL.append (i := 0) (ys := L[k]) rfl rfl rfl rfl sl22 ze3 rfl (by first | exact RInt.one _ | exact RStr.one | exact RBool.one | assumption) rfl rfl hg3 rfl ho3 (hsrc) (hch) ((by omega)) (by omega) ?_
      rintro a4 c4 A4 w4 hg4 hown4 hax4 hkeep4
      refine ⟨trivial, ?_⟩
      refine RL.pure rfl rfl rfl rfl ?_
      refine RL.done ?_
      refine CW.plain ?_
      refine RL.add rfl rfl rfl rfl rfl rfl (by simp only [rng] at *; omega) ?_
      refine RL.pure rfl rfl rfl rfl ?_
      refine RL.done ?_
      cases j with
      | zero => omega
      | succ j =>
        refine fun ac ha => ⟨j, [(6, .slice a4 (L.take (k + 1)).flatten.length c4), (25, .slice la L.length lc), (26, i64 L.length), (27, i64 ((k : Int) + 1))], ha.sub ⟨by rw [hft]; rfl, rfl, rfl, rfl, trivial⟩, ⟨A4, a4, c4, k + 1, rfl, hg4, hax3.trans hax4, by rw [hft]; exact hown4, by omega⟩, Nat.lt_succ_self j⟩
    · have hkl : k = L.length := by omega
      subst hkl
      rw [List.take_length] at ho3
      exact fun ac ha => ⟨[(6, .slice a3 L.flatten.length c3)], ha.sub ⟨by rw [List.take_length]; rfl, trivial⟩, A3, a3, c3, rfl, hg3, hax3, ho3⟩
  rintro E w5 ⟨A5, a5, c5, rfl, hg5, hax5, ho5⟩
  refine CW.seq (CW.plain ?_)
  refine RL.pure rfl rfl rfl rfl ?_
  refine RL.pure rfl rfl rfl rfl ?_
  refine RL.done ?_
  exact CW.ret (ret (vs := [_]) ⟨_, _, rfl, rfl, rfl⟩ (Post.mk (Le.refl _) hg5 hax5 ⟨rfl, a5, c5, rfl, ho5⟩))
/-- Two lists, as Concat is handed them. -/
theorem two_rows {s P : Res} {b : Nat} {xs ys : List Int} {xa ya : Option Addr} {xc yc : Nat} {el : TypeId} (hx : Ints s xa xc xs) (hy : Ints s ya yc ys) (hP : P b = some (.cells #[.slice xa xs.length xc, .slice ya ys.length yc] el (0, 0))) (hle : Le P s) :
    Imm RInts 1 s (some ⟨b, 0, none⟩) 2 [xs, ys] :=
  ⟨by simp, by decide, .inr ⟨_, rfl, _, (Holds.of hP).le hle, [.slice xa xs.length xc], [.slice ya ys.length yc], rfl, rfl, ⟨xa, xc, rfl, hx⟩, [.slice ya ys.length yc], [], rfl, rfl, ⟨ya, yc, rfl, hy⟩, rfl⟩⟩

theorem Concat2_ct {w : World} {s P : Res} {os : List Res} {b : Nat} {xs ys : List Int} {xa ya : Option Addr} {xc yc : Nat} {el : TypeId} (hg : Good w s os) (hx : Ints s xa xc xs) (hy : Ints s ya yc ys) (hP : P b = some (.cells #[.slice xa xs.length xc, .slice ya ys.length yc] el (0, 0))) (hle : Le P s)
    (hb : (xs.length + ys.length) * 8 ≤ 140737488355328) :
    Calls Try.prog 38 #[.slice (some ⟨b, 0, none⟩) 2 2] w (Post w s os fun s' A v => s' = s ∧ ∃ a c, v = .slice a (xs ++ ys).length c ∧ OwnI s' A a c (xs ++ ys)) := by
  have hfl : [xs, ys].flatten = xs ++ ys := by simp
  have h := Concat_ct (L := [xs, ys]) hg (two_rows hx hy hP hle) (by rw [hfl, List.length_append]; exact hb)
  rw [hfl] at h
  exact h

/-! ### IsSorted -/
theorem sorted_of_steps {xs : List Int} (h : ∀ j, (hj : j + 1 < xs.length) → xs[j] ≤ xs[j + 1]) : xs.Pairwise (· ≤ ·) := by
  rw [List.pairwise_iff_getElem]
  intro i j hi hj hij
  obtain ⟨d, rfl⟩ : ∃ d, j = i + 1 + d := ⟨j - (i + 1), by omega⟩
  induction d with
  | zero => exact h i (by omega)
  | succ d ih =>
    have h1 := ih (by omega) (by omega)
    have h2 := h (i + 1 + d) (by omega)
    exact Int.le_trans h1 h2
set_option maxRecDepth 100000 in
theorem IsSorted_ct {w : World} {s : Res} {os : List Res} {xs : List Int} {xa : Option Addr} {xc : Nat} (hg : Good w s os) (hx : Ints s xa xc xs) :
    Calls Try.prog 56 #[.slice xa xs.length xc] w (PostV w s os fun r => r = .bool (decide (xs.Pairwise (· ≤ ·)))) := by
  have hlen := hx.le_max
  simp only [maxLen] at hlen
  have hrg := hx.rng
  simp only [rng] at hrg
  refine enter (l := [.slice xa xs.length xc]) Try.func56 rfl Try.ntmps56 rfl ?_
  refine CW.seq (CW.plain ?_)
  refine RL.pure rfl rfl rfl rfl ?_
  refine RL.done ?_
  refine CW.seq (CW.seq (CW.plain ?_))
  refine RL.pure rfl rfl rfl rfl ?_
  refine RL.len rfl rfl rfl rfl sl22 rfl ?_
  refine RL.sub rfl rfl rfl rfl rfl rfl ((by simp only [rng]; omega)) ?_
  refine RL.pure rfl rfl rfl rfl ?_
  refine RL.done ?_
  refine CW.block (CW.loop (σ := Nat) (fun j E w' => Good w' s os ∧ Aux w w' ∧ ∃ i : Int, E = [(0, .slice xa xs.length xc), (3, i64 i)] ∧ i < xs.length ∧ i.toNat ≤ j ∧ -1 ≤ i ∧ ∀ k, (hk : k + 1 < xs.length) → i ≤ k → xs[k] ≤ xs[k + 1])
    (fun j => j) xs.length [(0, .slice xa xs.length xc), (3, i64 ((xs.length : Int) - 1))] ⟨rfl, rfl, trivial⟩ ⟨hg, Aux.refl _, _, rfl, by omega, by omega, by omega, fun k hk h => by omega⟩ ?_)
  rintro j E w1 ⟨hg1, hax1, i, rfl, hi, hj, hi1, hall⟩
  refine CW.seq (CW.seq (CW.plain ?_))
  refine RL.pure rfl rfl rfl rfl ?_
  refine RL.pure rfl rfl rfl rfl ?_
  refine RL.done ?_
  refine CW.test rfl (fun h => CW.skip ?_) (fun h => CW.exit ?_)
  · refine CW.seq (CW.block (CW.seq ?_))
    obtain ⟨k, rfl⟩ : ∃ k : Nat, i = ((k + 1 : Nat) : Int) := ⟨(i - 1).toNat, by omega⟩
    have hk : k + 1 < xs.length := by omega
    have hgD := hg1.drew
    refine CW.draws [(true, 0), (true, 1), (true, 2), (true, 3), (true, 4), (true, 5), (true, 6), (true, 7), (true, 8), (false, 9)] (fun w => Good w s os) mixed (by kernel_rfl) (by kernel_rfl) (by kernel_rfl) (by kernel_rfl) (hgD) ?_
    refine RL.pure rfl rfl rfl rfl ?_
    refine RL.pure rfl rfl rfl rfl ?_
    refine RL.idx rfl rfl rfl rfl sl22 rfl rfl (hx) (by omega) ((by omega)) ?_
    rintro q vs hvl hH ⟨rfl, hr⟩
    refine RL.loadT rfl rfl rfl rfl ty3 rfl (hH) (fun w h => h.sh) rfl ?_
    refine RL.pure rfl rfl rfl rfl ?_
    refine RL.pure rfl rfl rfl rfl ?_
    refine RL.sub rfl rfl rfl rfl rfl rfl ((by simp only [rng]; omega)) ?_
    refine RL.idx rfl rfl rfl rfl sl22 rfl rfl (hx) (by omega) ((by omega)) ?_
    rintro q2 vs2 hvl2 hH2 ⟨rfl, hr2⟩
    refine RL.loadT rfl rfl rfl rfl ty3 rfl (hH2) (fun w h => h.sh) rfl ?_
    refine RL.callV rfl rfl rfl rfl rfl ca60 (LessI_ct hgD) ?_
    rintro v2 w2 hg2 hax2 rfl
    refine ⟨hg2, ?_⟩
    have e1 : xs[((k + 1 : Nat) : Int).toNat]'(by omega) = xs[k + 1] := by simp
    have e2 : xs[(((k + 1 : Nat) : Int) - 1).toNat]'(by omega) = xs[k] := by
      congr 1; omega
    rw [e1, e2]
    refine RL.done ?_
    refine CW.test rfl (fun hc => ?_) (fun hc => ?_)
    · refine CW.seq (CW.plain ?_)
      refine RL.pure rfl rfl rfl rfl ?_
      refine RL.done ?_
      have hno : ¬ xs.Pairwise (· ≤ ·) := fun hp => by
        have := List.pairwise_iff_getElem.1 hp k (k + 1) (by omega) hk (by omega)
        omega
      exact CW.ret (ret (vs := [_]) ⟨_, _, rfl, rfl, rfl⟩ (PostV.mk hg2 (hax1.trans ((Aux.drew _).trans hax2)) (by rw [decide_eq_false hno]; rfl)))
    · refine CW.skip (CW.plain ?_)
      refine RL.pure rfl rfl rfl rfl ?_
      refine RL.sub rfl rfl rfl rfl rfl rfl ((by simp only [rng]; omega)) ?_
      refine RL.pure rfl rfl rfl rfl ?_
      refine RL.done ?_
      cases j with
      | zero => omega
      | succ j =>
        refine fun ac ha => ⟨j, [(0, .slice xa xs.length xc), (3, i64 (((k + 1 : Nat) : Int) - 1))], ha.sub ⟨rfl, rfl, trivial⟩, ⟨hg2, hax1.trans ((Aux.drew _).trans hax2), _, rfl, by omega, by omega, by omega, fun m hm hle => ?_⟩, Nat.lt_succ_self j⟩
        by_cases hmk : m = k
        · subst hmk; omega
        · exact hall m hm (by omega)
  · refine CW.seq (CW.plain ?_)
    refine RL.pure rfl rfl rfl rfl ?_
    refine RL.done ?_
    have hyes : xs.Pairwise (· ≤ ·) := sorted_of_steps (fun k hk => hall k hk (by omega))
    exact CW.ret (ret (vs := [_]) ⟨_, _, rfl, rfl, rfl⟩ (PostV.mk hg1 hax1 (by rw [decide_eq_true hyes]; rfl)))
end Go.Lw
