/-
  slices.BinarySearch at []int.
-/
import Derived.Test.YthafkinbocdjlaaSlInts
namespace Go.Lw
open Go.Proofs

set_option maxRecDepth 100000 in
theorem isNaNI_ct {w : World} {s : Res} {os : List Res} {x : Int} (hg : Good w s os) : Calls Try.prog 61 #[i64 x] w (PostV w s os fun r => r = .bool false) := by
  refine enter (l := [i64 x]) Try.func61 rfl Try.ntmps61 rfl ?_
  refine CW.seq (CW.plain ?_)
  refine RL.pure rfl rfl rfl rfl ?_
  refine RL.done ?_
  refine CW.seq (CW.plain ?_)
  refine RL.pure rfl rfl rfl rfl ?_
  refine RL.pure rfl rfl rfl rfl ?_
  refine RL.pure rfl rfl rfl rfl ?_
  refine RL.pure rfl rfl rfl rfl ?_
  refine RL.done ?_
  exact CW.ret (ret (vs := [_]) ⟨_, _, rfl, rfl, rfl⟩ (PostV.mk hg (Aux.refl _) (congrArg Value.bool (by simp))))
set_option maxRecDepth 100000 in
theorem cisNaNI_ct {w : World} {s : Res} {os : List Res} {x : Int} (hg : Good w s os) : Calls Try.prog 74 #[i64 x] w (PostV w s os fun r => r = .bool false) := by
  refine enter (l := [i64 x]) Try.func74 rfl Try.ntmps74 rfl ?_
  refine CW.seq (CW.plain ?_)
  refine RL.pure rfl rfl rfl rfl ?_
  refine RL.done ?_
  refine CW.seq (CW.plain ?_)
  refine RL.pure rfl rfl rfl rfl ?_
  refine RL.pure rfl rfl rfl rfl ?_
  refine RL.pure rfl rfl rfl rfl ?_
  refine RL.pure rfl rfl rfl rfl ?_
  refine RL.done ?_
  exact CW.ret (ret (vs := [_]) ⟨_, _, rfl, rfl, rfl⟩ (PostV.mk hg (Aux.refl _) (congrArg Value.bool (by simp))))
set_option maxRecDepth 100000 in
theorem LessI_ct {w : World} {s : Res} {os : List Res} {x y : Int} (hg : Good w s os) : Calls Try.prog 60 #[i64 x, i64 y] w (PostV w s os fun r => r = .bool (decide (x < y))) := by
  refine enter (l := [i64 x, i64 y]) Try.func60 rfl Try.ntmps60 rfl ?_
  refine CW.seq (CW.plain ?_)
  refine RL.pure rfl rfl rfl rfl ?_
  refine RL.done ?_
  refine CW.seq (CW.plain ?_)
  refine RL.pure rfl rfl rfl rfl ?_
  refine RL.callV rfl rfl rfl rfl rfl ca74 (cisNaNI_ct hg) ?_
  rintro v w1 hg1 hax1 rfl
  refine ⟨trivial, ?_⟩
  refine RL.pure rfl rfl rfl rfl ?_
  refine RL.pass rfl rfl rfl ?_
  refine RL.pass rfl rfl rfl ?_
  refine RL.pass rfl rfl rfl ?_
  refine RL.pure rfl rfl rfl rfl ?_
  refine RL.pure rfl rfl rfl rfl ?_
  refine RL.pure rfl rfl rfl rfl ?_
  refine RL.pure rfl rfl rfl rfl ?_
  refine RL.pure rfl rfl rfl rfl ?_
  refine RL.pure rfl rfl rfl rfl ?_
  refine RL.pure rfl rfl rfl rfl ?_
  refine RL.done ?_
  exact CW.ret (ret (vs := [_]) ⟨_, _, rfl, rfl, rfl⟩ (PostV.mk hg1 hax1 rfl))

/-- Where x would stand. -/
structure Place (v : List Int) (x : Int) (i : Nat) : Prop where
  le : i ≤ v.length
  lo : ∀ k, (h : k < v.length) → k < i → v[k] < x
  hi : ∀ k, (h : k < v.length) → i ≤ k → x ≤ v[k]
theorem Place.found {v : List Int} {x : Int} {i : Nat} (h : Place v x i) (hs : v.Pairwise (· < ·)) (hx : x ∈ v) : ∃ hi : i < v.length, v[i] = x := by
  obtain ⟨k, hk, rfl⟩ := List.getElem_of_mem hx
  have h1 : i ≤ k := by
    by_cases hc : i ≤ k
    · exact hc
    · have := h.lo k hk (by omega); omega
  have hi : i < v.length := by omega
  refine ⟨hi, ?_⟩
  have h2 := h.hi i hi (Nat.le_refl _)
  by_cases e : i = k
  · subst e; rfl
  · have := List.pairwise_iff_getElem.1 hs i k hi hk (by omega); omega

set_option maxHeartbeats 1000000 in
set_option maxRecDepth 100000 in
theorem BinarySearch_ct {w : World} {s : Res} {os : List Res} {v : List Int} {va : Option Addr} {vc : Nat} {x : Int} (hg : Good w s os) (hv : Ints s va vc v) (hs : v.Pairwise (· < ·)) (hb : v.length * 8 ≤ 140737488355328) :
    Calls Try.prog 50 #[.slice va v.length vc, i64 x] w (PostV w s os fun r => ∃ i : Nat, r = .tuple #[i64 i, .bool (decide (∃ h : i < v.length, v[i] = x))] ∧ Place v x i) := by
  have hsp := List.pairwise_iff_getElem.1 hs
  refine enter (l := [.slice va v.length vc, i64 x]) Try.func50 rfl Try.ntmps50 rfl ?_
  refine CW.seq (CW.plain ?_)
  refine RL.pure rfl rfl rfl rfl ?_
  refine RL.pure rfl rfl rfl rfl ?_
  refine RL.done ?_
  refine CW.seq (CW.plain ?_)
  refine RL.pure rfl rfl rfl rfl ?_
  refine RL.len rfl rfl rfl rfl sl22 rfl ?_
  refine RL.pure rfl rfl rfl rfl ?_
  refine RL.done ?_
  refine CW.seq (CW.plain ?_)
  refine RL.pure rfl rfl rfl rfl ?_
  refine RL.pure rfl rfl rfl rfl ?_
  refine RL.pure rfl rfl rfl rfl ?_
  refine RL.done ?_
  refine CW.meet (fun E' w' => ∃ i, Good w' s os ∧ Aux w w' ∧ Place v x i ∧ E' = [(0, .slice va v.length vc), (1, i64 x), (6, i64 v.length), (7, i64 (i : Nat))]) ?_ ?_
  · refine CW.block (CW.loop (σ := Nat) (fun k E w' => ∃ i j : Nat, Good w' s os ∧ Aux w w' ∧ i ≤ j ∧ j ≤ v.length ∧ j - i ≤ k ∧ (∀ m, (h : m < v.length) → m < i → v[m] < x) ∧ (∀ m, (h : m < v.length) → j ≤ m → x ≤ v[m]) ∧ E = [(0, .slice va v.length vc), (1, i64 x), (6, i64 v.length), (7, i64 (i : Nat)), (8, i64 (j : Nat))])
      (fun k => k) v.length [(0, .slice va v.length vc), (1, i64 x), (6, i64 v.length), (7, i64 0), (8, i64 v.length)] ⟨rfl, rfl, rfl, rfl, rfl, trivial⟩ ⟨0, v.length, hg, Aux.refl _, Nat.zero_le _, Nat.le_refl _, by omega, fun m h h2 => absurd h2 (by omega), fun m h h2 => absurd h2 (by omega), rfl⟩ ?_)
    rintro k E w1 ⟨i, j, hg1, hax1, hij, hj, hk, hlo, hhi, rfl⟩
    refine CW.seq (CW.seq (CW.plain ?_))
    refine RL.pure rfl rfl rfl rfl ?_
    refine RL.pure rfl rfl rfl rfl ?_
    refine RL.pure rfl rfl rfl rfl ?_
    refine RL.done ?_
    refine CW.test rfl (fun h => ?_) (fun h => ?_)
    · refine CW.skip ?_
      have hij' : i < j := by omega
      obtain ⟨m, hm⟩ : ∃ m, m = (i + j) / 2 := ⟨_, rfl⟩
      refine CW.block (CW.seq (CW.plain ?_))
      refine RL.pure rfl rfl rfl rfl ?_
      refine RL.pure rfl rfl rfl rfl ?_
      refine RL.add rfl rfl rfl rfl rfl rfl ((by simp only [rng]; omega)) ?_
      refine RL.conv rfl rfl rfl rfl Try.underlying3 Try.underlying68 rfl ((by simp only [rng]; omega)) ?_
      refine RL.shr 1 rfl rfl rfl rfl rfl rfl rfl (by decide) ?_
      refine RL.conv rfl rfl rfl rfl Try.underlying68 Try.underlying3 rfl ((by simp only [rng]; omega)) ?_
      refine RL.pure rfl rfl rfl rfl ?_
      refine RL.done ?_
      have em : ((i : Int) + (j : Int)) / 2 ^ 1 = (m : Int) := by omega
      rw [em]
      refine CW.seq (CW.plain ?_)
      refine RL.pure rfl rfl rfl rfl ?_
      refine RL.pure rfl rfl rfl rfl ?_
      refine RL.idx rfl rfl rfl rfl sl22 rfl rfl (hv) (by omega) (by omega) ?_
      rintro q vs hvl hH ⟨rfl, hr'⟩
      refine RL.load rfl rfl rfl rfl ty3 rfl (hH) (hg1.sh) rfl ?_
      refine RL.pure rfl rfl rfl rfl ?_
      refine RL.callV rfl rfl rfl rfl rfl ca60 (LessI_ct (x := v[(m : Int).toNat]'(by omega)) hg1) ?_
      rintro r2 w2 hg2 hax2 rfl
      refine ⟨trivial, ?_⟩
      refine RL.done ?_
      have hml : m < v.length := by omega
      refine CW.test rfl (fun hl => ?_) (fun hl => ?_)
      · have hl' : v[m] < x := hl
        refine CW.plain ?_
        refine RL.pure rfl rfl rfl rfl ?_
        refine RL.add rfl rfl rfl rfl rfl rfl ((by simp only [rng]; omega)) ?_
        refine RL.pure rfl rfl rfl rfl ?_
        refine RL.done ?_
        refine fun ac ha => ⟨k - 1, [(0, .slice va v.length vc), (1, i64 x), (6, i64 v.length), (7, i64 ((m + 1 : Nat) : Int)), (8, i64 (j : Nat))], ha.sub ⟨rfl, rfl, rfl, rfl, rfl, trivial⟩, ⟨m + 1, j, hg2, hax1.trans hax2, by omega, hj, by omega, fun z hz hz2 => ?_, hhi, rfl⟩, by omega⟩
        by_cases e : z = m
        · subst e; exact hl'
        · have := hsp z m hz hml (by omega); omega
      · have hl' : x ≤ v[m] := by have : ¬ v[m] < x := hl; omega
        refine CW.plain ?_
        refine RL.pure rfl rfl rfl rfl ?_
        refine RL.pure rfl rfl rfl rfl ?_
        refine RL.done ?_
        refine fun ac ha => ⟨k - 1, [(0, .slice va v.length vc), (1, i64 x), (6, i64 v.length), (7, i64 (i : Nat)), (8, i64 (m : Nat))], ha.sub ⟨rfl, rfl, rfl, rfl, rfl, trivial⟩, ⟨i, m, hg2, hax1.trans hax2, by omega, by omega, by omega, hlo, fun z hz hz2 => ?_, rfl⟩, by omega⟩
        by_cases e : z = m
        · subst e; exact hl'
        · have := hsp m z hml hz (by omega); omega
    · refine CW.exit (fun ac ha => ⟨_, ha.sub (E' := [(0, .slice va v.length vc), (1, i64 x), (6, i64 v.length), (7, i64 (i : Nat))]) ⟨rfl, rfl, rfl, rfl, trivial⟩, i, hg1, hax1, ⟨by omega, hlo, fun z hz hz2 => hhi z hz (by omega)⟩, rfl⟩)
  rintro E' w1 ⟨i, hg1, hax1, hp, rfl⟩
  have hle := hp.le
  refine CW.seq (CW.plain ?_)
  refine RL.pure rfl rfl rfl rfl ?_
  refine RL.pure rfl rfl rfl rfl ?_
  refine RL.pure rfl rfl rfl rfl ?_
  refine RL.pure rfl rfl rfl rfl ?_
  refine RL.pure rfl rfl rfl rfl ?_
  refine RL.part 35 rfl (fun hc => ?_) (fun hc => ?_)
  · have hi : i < v.length := by have := of_decide_eq_true hc; omega
    by_cases he : v[i] = x
    · have he' : (v[i] == x) = true := by simpa using he
      refine RL.pure rfl rfl rfl rfl ?_
      refine RL.pure rfl rfl rfl rfl ?_
      refine RL.idx rfl rfl rfl rfl sl22 rfl rfl (hv) (by omega) (by omega) ?_
      rintro q vs hvl hH ⟨rfl, hr'⟩
      refine RL.load rfl rfl rfl rfl ty3 rfl (hH) (hg1.sh) rfl ?_
      refine RL.pure rfl rfl rfl rfl ?_
      refine RL.as_ rfl rfl rfl rfl (.bool true) (congrArg Value.bool he') ?_
      refine RL.pure rfl rfl rfl rfl ?_
      refine RL.pass rfl rfl rfl ?_
      refine RL.pass rfl rfl rfl ?_
      refine RL.pass rfl rfl rfl ?_
      refine RL.pass rfl rfl rfl ?_
      refine RL.pass rfl rfl rfl ?_
      refine RL.pass rfl rfl rfl ?_
      refine RL.pass rfl rfl rfl ?_
      refine RL.pass rfl rfl rfl ?_
      refine RL.pass rfl rfl rfl ?_
      refine RL.pure rfl rfl rfl rfl ?_
      refine RL.pure rfl rfl rfl rfl ?_
      refine RL.pure rfl rfl rfl rfl ?_
      refine RL.pure rfl rfl rfl rfl ?_
      refine RL.done ?_
      exact CW.ret (ret (vs := [_, _]) ⟨_, _, rfl, rfl, _, _, rfl, rfl, rfl⟩ (PostV.mk hg1 hax1 ⟨i, by rw [decide_eq_true ⟨hi, he⟩]; rfl, hp⟩))
    · have he' : (v[i] == x) = false := by simpa using he
      refine RL.pure rfl rfl rfl rfl ?_
      refine RL.pure rfl rfl rfl rfl ?_
      refine RL.idx rfl rfl rfl rfl sl22 rfl rfl (hv) (by omega) (by omega) ?_
      rintro q vs hvl hH ⟨rfl, hr'⟩
      refine RL.load rfl rfl rfl rfl ty3 rfl (hH) (hg1.sh) rfl ?_
      refine RL.pure rfl rfl rfl rfl ?_
      refine RL.as_ rfl rfl rfl rfl (.bool false) (congrArg Value.bool he') ?_
      refine RL.pure rfl rfl rfl rfl ?_
      refine RL.pure rfl rfl rfl rfl ?_
      refine RL.pure rfl rfl rfl rfl ?_
      refine RL.idx rfl rfl rfl rfl sl22 rfl rfl (hv) (by omega) (by omega) ?_
      rintro q2 vs2 hvl2 hH2 ⟨rfl, hr2'⟩
      refine RL.load rfl rfl rfl rfl ty3 rfl (hH2) (hg1.sh) rfl ?_
      refine RL.callV rfl rfl rfl rfl rfl ca61 (isNaNI_ct hg1) ?_
      rintro r2 w2 hg2 hax2 rfl
      refine ⟨trivial, ?_⟩
      refine RL.pure rfl rfl rfl rfl ?_
      refine RL.pass rfl rfl rfl ?_
      refine RL.pass rfl rfl rfl ?_
      refine RL.pure rfl rfl rfl rfl ?_
      refine RL.pure rfl rfl rfl rfl ?_
      refine RL.pure rfl rfl rfl rfl ?_
      refine RL.pure rfl rfl rfl rfl ?_
      refine RL.pure rfl rfl rfl rfl ?_
      refine RL.done ?_
      exact CW.ret (ret (vs := [_, _]) ⟨_, _, rfl, rfl, _, _, rfl, rfl, rfl⟩ (PostV.mk hg2 (hax1.trans hax2) ⟨i, by rw [decide_eq_false (fun ⟨_, h⟩ => he h)]; rfl, hp⟩))
  · have hi : ¬ i < v.length := by have := of_decide_eq_false hc; omega
    refine RL.pass rfl rfl rfl ?_
    refine RL.pass rfl rfl rfl ?_
    refine RL.pass rfl rfl rfl ?_
    refine RL.pass rfl rfl rfl ?_
    refine RL.pass rfl rfl rfl ?_
    refine RL.pass rfl rfl rfl ?_
    refine RL.pass rfl rfl rfl ?_
    refine RL.pass rfl rfl rfl ?_
    refine RL.pass rfl rfl rfl ?_
    refine RL.pass rfl rfl rfl ?_
    refine RL.pass rfl rfl rfl ?_
    refine RL.pass rfl rfl rfl ?_
    refine RL.pass rfl rfl rfl ?_
    refine RL.pass rfl rfl rfl ?_
    refine RL.pass rfl rfl rfl ?_
    refine RL.pass rfl rfl rfl ?_
    refine RL.pass rfl rfl rfl ?_
    refine RL.pure rfl rfl rfl rfl ?_
    refine RL.pure rfl rfl rfl rfl ?_
    refine RL.pure rfl rfl rfl rfl ?_
    refine RL.done ?_
    exact CW.ret (ret (vs := [_, _]) ⟨_, _, rfl, rfl, _, _, rfl, rfl, rfl⟩ (PostV.mk hg1 hax1 ⟨i, by rw [decide_eq_false (fun ⟨h, _⟩ => hi h)]; rfl, hp⟩))
end Go.Lw
