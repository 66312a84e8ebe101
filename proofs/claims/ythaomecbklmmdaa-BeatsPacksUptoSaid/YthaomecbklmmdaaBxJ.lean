/-
  Beats: what is too much, by the document.
-/
import Derived.Test.YthaomecbklmmdaaBxI
namespace Go.Lw
open Go.Proofs
attribute [local irreducible] RL RA

set_option maxRecDepth 100000 in
theorem dLong_ct {w : World} {s : Res} {os : List Res} {vs : List Value} {m : Msg} (hg : Good w s os) (hm : RMsg s vs m) : Calls Try.prog 19 #[.agg vs.toArray] w (PostV w s os fun r => r = .bool (longP m)) := by
  obtain ⟨y, rfl, ho⟩ := hm
  have hle := ho.entries.le_max
  simp only [maxLen] at hle
  refine enter (l := [.agg (msgV m y).toArray]) Try.func19 rfl Try.ntmps19 rfl ?_
  refine CW.seq (CW.plain ?_)
  refine RL.box rfl rfl rfl rfl rfl hg ?_
  rintro p w1 hg1 hax1
  refine ⟨trivial, ?_⟩
  refine RL.pure rfl rfl rfl rfl ?_
  refine RL.done ?_
  have hH : Holds (Res.one p _) ⟨p, 0, none⟩ (msgV m y) := Holds.one p _ 40
  have hin := hg1.1
  refine CW.meet (fun E w' => E = [(1, ptr p)] ∧ Good w' s (Res.one p (.cells (msgV m y).toArray 40) :: os) ∧ Aux w w' ∧ longP m = m.entries.any longE) ?_ ?_
  · refine CW.seq (CW.plain ?_)
    refine RL.field rfl rfl rfl rfl fl40_6 rfl rfl ?_
    refine RL.load (j := 6) rfl rfl rfl rfl ty34 rfl (hH) (hin) rfl ?_
    refine RL.len rfl rfl rfl rfl sl34 rfl ?_
    refine RL.pure rfl rfl rfl rfl ?_
    refine RL.pure rfl rfl rfl rfl ?_
    refine RL.part 9 rfl (fun h9 => ?_) (fun h9 => ?_)
    · refine RL.pass rfl rfl rfl ?_
      refine RL.pass rfl rfl rfl ?_
      refine RL.pass rfl rfl rfl ?_
      refine RL.pass rfl rfl rfl ?_
      refine RL.pure rfl rfl rfl rfl ?_
      refine RL.pure rfl rfl rfl rfl ?_
      refine RL.pass rfl rfl rfl ?_
      refine RL.pass rfl rfl rfl ?_
      refine RL.pass rfl rfl rfl ?_
      refine RL.pass rfl rfl rfl ?_
      refine RL.pass rfl rfl rfl ?_
      refine RL.pure rfl rfl rfl rfl ?_
      refine RL.pure rfl rfl rfl rfl ?_
      refine RL.pass rfl rfl rfl ?_
      refine RL.pass rfl rfl rfl ?_
      refine RL.pass rfl rfl rfl ?_
      refine RL.pass rfl rfl rfl ?_
      refine RL.pass rfl rfl rfl ?_
      refine RL.pure rfl rfl rfl rfl ?_
      refine RL.done ?_
      refine CW.yes rfl (CW.seq (CW.plain ?_))
      refine RL.pure rfl rfl rfl rfl ?_
      refine RL.done ?_
      refine CW.ret (ret (vs := [_]) ⟨_, _, rfl, rfl, rfl⟩ (PostV.mk hg1.drop hax1 (congrArg Value.bool ?_)))
      clear hH hin hg1
      simp_all [longP, wideP]; try omega
    · refine RL.field rfl rfl rfl rfl fl40_11 rfl rfl ?_
      refine RL.load (j := 12) rfl rfl rfl rfl ty38 rfl (hH) (hin) rfl ?_
      refine RL.len rfl rfl rfl rfl sl38 rfl ?_
      refine RL.pure rfl rfl rfl rfl ?_
      refine RL.pure rfl rfl rfl rfl ?_
      refine RL.pure rfl rfl rfl rfl ?_
      refine RL.part 15 rfl (fun h15 => ?_) (fun h15 => ?_)
      · refine RL.pass rfl rfl rfl ?_
        refine RL.pass rfl rfl rfl ?_
        refine RL.pass rfl rfl rfl ?_
        refine RL.pass rfl rfl rfl ?_
        refine RL.pass rfl rfl rfl ?_
        refine RL.pure rfl rfl rfl rfl ?_
        refine RL.pure rfl rfl rfl rfl ?_
        refine RL.pass rfl rfl rfl ?_
        refine RL.pass rfl rfl rfl ?_
        refine RL.pass rfl rfl rfl ?_
        refine RL.pass rfl rfl rfl ?_
        refine RL.pass rfl rfl rfl ?_
        refine RL.pure rfl rfl rfl rfl ?_
        refine RL.done ?_
        refine CW.yes rfl (CW.seq (CW.plain ?_))
        refine RL.pure rfl rfl rfl rfl ?_
        refine RL.done ?_
        refine CW.ret (ret (vs := [_]) ⟨_, _, rfl, rfl, rfl⟩ (PostV.mk hg1.drop hax1 (congrArg Value.bool ?_)))
        clear hH hin hg1
        simp_all [longP, wideP]; try omega
      · refine RL.field rfl rfl rfl rfl fl40_10 rfl rfl ?_
        refine RL.field rfl rfl rfl rfl fl37_0 rfl rfl ?_
        refine RL.load (j := 10) rfl rfl rfl rfl ty35 rfl (hH) (hin) rfl ?_
        refine RL.len rfl rfl rfl rfl sl35 rfl ?_
        refine RL.pure rfl rfl rfl rfl ?_
        refine RL.pure rfl rfl rfl rfl ?_
        refine RL.pure rfl rfl rfl rfl ?_
        refine RL.part 22 rfl (fun h22 => ?_) (fun h22 => ?_)
        · refine RL.pass rfl rfl rfl ?_
          refine RL.pass rfl rfl rfl ?_
          refine RL.pass rfl rfl rfl ?_
          refine RL.pass rfl rfl rfl ?_
          refine RL.pass rfl rfl rfl ?_
          refine RL.pure rfl rfl rfl rfl ?_
          refine RL.done ?_
          refine CW.yes rfl (CW.seq (CW.plain ?_))
          refine RL.pure rfl rfl rfl rfl ?_
          refine RL.done ?_
          refine CW.ret (ret (vs := [_]) ⟨_, _, rfl, rfl, rfl⟩ (PostV.mk hg1.drop hax1 (congrArg Value.bool ?_)))
          clear hH hin hg1
          simp_all [longP, wideP]; try omega
        · refine RL.field rfl rfl rfl rfl fl40_10 rfl rfl ?_
          refine RL.field rfl rfl rfl rfl fl37_1 rfl rfl ?_
          refine RL.load (j := 11) rfl rfl rfl rfl ty35 rfl (hH) (hin) rfl ?_
          refine RL.len rfl rfl rfl rfl sl35 rfl ?_
          refine RL.pure rfl rfl rfl rfl ?_
          refine RL.pure rfl rfl rfl rfl ?_
          refine RL.done ?_
          refine CW.cond rfl (fun hh => CW.seq (CW.plain ?_)) (fun hh => CW.skip ?_)
          · skip
            refine RL.pure rfl rfl rfl rfl ?_
            refine RL.done ?_
            refine CW.ret (ret (vs := [_]) ⟨_, _, rfl, rfl, rfl⟩ (PostV.mk hg1.drop hax1 (congrArg Value.bool ?_)))
            have hh := of_decide_eq_true hh
            simp [longP, wideP, show 7 < m.conf.learners.length by omega]
          · have e1 := of_decide_eq_false hh
            have e2 := of_decide_eq_false h22
            exact fun ac ha => ⟨[(1, ptr p)], ha.sub ⟨rfl, trivial⟩, rfl, hg1, hax1, longP_entries (by have := of_decide_eq_false h9; omega) (by have := of_decide_eq_false h15; omega) (by rw [wideP, decide_eq_false (by omega), decide_eq_false (by omega)]; rfl)⟩
  rintro E w3 ⟨rfl, hg3, hax3, hlong⟩
  have hin := hg3.1
  rw [hlong]
  refine CW.seq (CW.seq (CW.plain ?_))
  refine RL.pure rfl rfl rfl rfl ?_
  refine RL.done ?_
  refine CW.block (CW.loop (σ := Nat) (fun j E w' => ∃ k : Nat, E = [(1, ptr p), (3, i64 k)] ∧ Good w' s (Res.one p (.cells (msgV m y).toArray 40) :: os) ∧ Aux w w' ∧ k + j = m.entries.length ∧ ∀ x ∈ m.entries.take k, longE x = false)
    (fun j => j) m.entries.length [(1, ptr p), (3, i64 0)] ⟨rfl, rfl, trivial⟩ ⟨0, rfl, hg3, hax3, by omega, by simp⟩ ?_)
  rintro j E w4 ⟨k, rfl, hg4, hax4, hk, hno⟩
  have hin := hg4.1
  refine CW.seq (CW.seq (CW.plain ?_))
  refine RL.pure rfl rfl rfl rfl ?_
  refine RL.field rfl rfl rfl rfl fl40_6 rfl rfl ?_
  refine RL.load (j := 6) rfl rfl rfl rfl ty34 rfl (hH) (hin) rfl ?_
  refine RL.len rfl rfl rfl rfl sl34 rfl ?_
  refine RL.pure rfl rfl rfl rfl ?_
  refine RL.done ?_
  refine CW.test rfl (fun h => CW.skip ?_) (fun h => CW.exit ?_)
  · have hkl : k < m.entries.length := by omega
    have ek : m.entries[((k : Nat) : Int).toNat]'(by omega) = m.entries[k] := by simp
    refine CW.seq (CW.block (CW.seq (CW.plain ?_)))
    refine RL.field rfl rfl rfl rfl fl40_6 rfl rfl ?_
    refine RL.load (j := 6) rfl rfl rfl rfl ty34 rfl (hH) (hin) rfl ?_
    refine RL.pure rfl rfl rfl rfl ?_
    refine RL.idx rfl rfl rfl rfl sl34 rfl rfl (ho.entries) (by omega) (by omega) ?_
    rintro q vs hvl hHe hre
    rw [ek] at hre
    generalize he : m.entries[k] = e at hre
    obtain ⟨a, c, a1, c1, a2, c2, rfl, r1, r2, r3, i1, i2, i3⟩ := id hre
    refine RL.loads (j := 0) (us := (entV e a c a1 c1 a2 c2)) rfl rfl rfl rfl ty66 rfl (hHe) (hg4.sh) rfl rfl ?_
    refine RL.alloc rfl rfl rfl rfl ze66 hg4 ?_
    rintro r w5 hg5 hax5
    refine ⟨trivial, ?_⟩
    refine RL.store (i := 0) (j := 0) rfl rfl rfl ty66 rfl rfl hg5 rfl (if_pos rfl) rfl (by first | (simp [Value.cells, Value.oneCell']; done) | simp [Value.cells, Value.oneCell', putL]) (by first | exact Nat.le_of_ble_eq_true rfl | (simp; done) | (simp; omega) | omega) ?_
    rintro w6 hg6 hax6
    refine ⟨trivial, ?_⟩
    refine RL.done ?_
    obtain ⟨R, hg6, hR⟩ : ∃ R, Good w6 s (R :: Res.one p (.cells (msgV m y).toArray 40) :: os) ∧ Holds R ⟨r, 0, none⟩ (entV e a c a1 c1 a2 c2) := ⟨_, hg6, Holds.of (put_same _ _ _)⟩
    have hinR := hg6.1
    have hax6 := hax4.trans (hax5.trans hax6)
    refine CW.seq (CW.plain ?_)
    refine RL.field rfl rfl rfl rfl fl66_3 rfl rfl ?_
    refine RL.load (j := 3) rfl rfl rfl rfl ty38 rfl (hR) (hinR) rfl ?_
    refine RL.len rfl rfl rfl rfl sl38 rfl ?_
    refine RL.pure rfl rfl rfl rfl ?_
    refine RL.pure rfl rfl rfl rfl ?_
    refine RL.part 45 rfl (fun h45 => ?_) (fun h45 => ?_)
    · refine RL.pass rfl rfl rfl ?_
      refine RL.pass rfl rfl rfl ?_
      refine RL.pass rfl rfl rfl ?_
      refine RL.pass rfl rfl rfl ?_
      refine RL.pass rfl rfl rfl ?_
      refine RL.pure rfl rfl rfl rfl ?_
      refine RL.pure rfl rfl rfl rfl ?_
      refine RL.pass rfl rfl rfl ?_
      refine RL.pass rfl rfl rfl ?_
      refine RL.pass rfl rfl rfl ?_
      refine RL.pass rfl rfl rfl ?_
      refine RL.pass rfl rfl rfl ?_
      refine RL.pure rfl rfl rfl rfl ?_
      refine RL.pure rfl rfl rfl rfl ?_
      refine RL.pass rfl rfl rfl ?_
      refine RL.pass rfl rfl rfl ?_
      refine RL.pass rfl rfl rfl ?_
      refine RL.pure rfl rfl rfl rfl ?_
      refine RL.pure rfl rfl rfl rfl ?_
      refine RL.pass rfl rfl rfl ?_
      refine RL.pass rfl rfl rfl ?_
      refine RL.pass rfl rfl rfl ?_
      refine RL.pure rfl rfl rfl rfl ?_
      refine RL.done ?_
      refine CW.yes rfl (CW.seq (CW.plain ?_))
      refine RL.pure rfl rfl rfl rfl ?_
      refine RL.done ?_
      refine CW.ret (ret (vs := [_]) ⟨_, _, rfl, rfl, rfl⟩ (PostV.mk hg6.drop.drop hax6 (congrArg Value.bool (any_at hkl ?_).symm)))
      clear hR hinR hH hin hHe
      rw [he]
      simp_all [longE, wideP]; try omega
    · refine RL.field rfl rfl rfl rfl fl66_4 rfl rfl ?_
      refine RL.field rfl rfl rfl rfl fl37_0 rfl rfl ?_
      refine RL.load (j := 4) rfl rfl rfl rfl ty35 rfl (hR) (hinR) rfl ?_
      refine RL.len rfl rfl rfl rfl sl35 rfl ?_
      refine RL.pure rfl rfl rfl rfl ?_
      refine RL.pure rfl rfl rfl rfl ?_
      refine RL.pure rfl rfl rfl rfl ?_
      refine RL.part 52 rfl (fun h52 => ?_) (fun h52 => ?_)
      · refine RL.pass rfl rfl rfl ?_
        refine RL.pass rfl rfl rfl ?_
        refine RL.pass rfl rfl rfl ?_
        refine RL.pass rfl rfl rfl ?_
        refine RL.pass rfl rfl rfl ?_
        refine RL.pure rfl rfl rfl rfl ?_
        refine RL.pure rfl rfl rfl rfl ?_
        refine RL.pass rfl rfl rfl ?_
        refine RL.pass rfl rfl rfl ?_
        refine RL.pass rfl rfl rfl ?_
        refine RL.pure rfl rfl rfl rfl ?_
        refine RL.pure rfl rfl rfl rfl ?_
        refine RL.pass rfl rfl rfl ?_
        refine RL.pass rfl rfl rfl ?_
        refine RL.pass rfl rfl rfl ?_
        refine RL.pure rfl rfl rfl rfl ?_
        refine RL.done ?_
        refine CW.yes rfl (CW.seq (CW.plain ?_))
        refine RL.pure rfl rfl rfl rfl ?_
        refine RL.done ?_
        refine CW.ret (ret (vs := [_]) ⟨_, _, rfl, rfl, rfl⟩ (PostV.mk hg6.drop.drop hax6 (congrArg Value.bool (any_at hkl ?_).symm)))
        clear hR hinR hH hin hHe
        rw [he]
        simp_all [longE, wideP]; try omega
      · refine RL.field rfl rfl rfl rfl fl66_4 rfl rfl ?_
        refine RL.field rfl rfl rfl rfl fl37_1 rfl rfl ?_
        refine RL.load (j := 5) rfl rfl rfl rfl ty35 rfl (hR) (hinR) rfl ?_
        refine RL.len rfl rfl rfl rfl sl35 rfl ?_
        refine RL.pure rfl rfl rfl rfl ?_
        refine RL.pure rfl rfl rfl rfl ?_
        refine RL.pure rfl rfl rfl rfl ?_
        refine RL.part 59 rfl (fun h59 => ?_) (fun h59 => ?_)
        · refine RL.pass rfl rfl rfl ?_
          refine RL.pass rfl rfl rfl ?_
          refine RL.pass rfl rfl rfl ?_
          refine RL.pure rfl rfl rfl rfl ?_
          refine RL.pure rfl rfl rfl rfl ?_
          refine RL.pass rfl rfl rfl ?_
          refine RL.pass rfl rfl rfl ?_
          refine RL.pass rfl rfl rfl ?_
          refine RL.pure rfl rfl rfl rfl ?_
          refine RL.done ?_
          refine CW.yes rfl (CW.seq (CW.plain ?_))
          refine RL.pure rfl rfl rfl rfl ?_
          refine RL.done ?_
          refine CW.ret (ret (vs := [_]) ⟨_, _, rfl, rfl, rfl⟩ (PostV.mk hg6.drop.drop hax6 (congrArg Value.bool (any_at hkl ?_).symm)))
          clear hR hinR hH hin hHe
          rw [he]
          simp_all [longE, wideP]; try omega
        · refine RL.field rfl rfl rfl rfl fl66_2 rfl rfl ?_
          refine RL.load (j := 2) rfl rfl rfl rfl ty64 rfl (hR) (hinR) rfl ?_
          refine RL.pure rfl rfl rfl rfl ?_
          refine RL.pure rfl rfl rfl rfl ?_
          refine RL.pure rfl rfl rfl rfl ?_
          refine RL.part 64 rfl (fun h64 => ?_) (fun h64 => ?_)
          · refine RL.pass rfl rfl rfl ?_
            refine RL.pass rfl rfl rfl ?_
            refine RL.pass rfl rfl rfl ?_
            refine RL.pure rfl rfl rfl rfl ?_
            refine RL.done ?_
            refine CW.yes rfl (CW.seq (CW.plain ?_))
            refine RL.pure rfl rfl rfl rfl ?_
            refine RL.done ?_
            refine CW.ret (ret (vs := [_]) ⟨_, _, rfl, rfl, rfl⟩ (PostV.mk hg6.drop.drop hax6 (congrArg Value.bool (any_at hkl ?_).symm)))
            clear hR hinR hH hin hHe
            rw [he]
            simp_all [longE, wideP]; try omega
          · refine RL.field rfl rfl rfl rfl fl66_2 rfl rfl ?_
            refine RL.load (j := 2) rfl rfl rfl rfl ty64 rfl (hR) (hinR) rfl ?_
            refine RL.pure rfl rfl rfl rfl ?_
            refine RL.pure rfl rfl rfl rfl ?_
            refine RL.done ?_
            refine CW.cond rfl (fun hh => CW.seq (CW.plain ?_)) (fun hh => CW.skip ?_)
            · skip
              refine RL.pure rfl rfl rfl rfl ?_
              refine RL.done ?_
              refine CW.ret (ret (vs := [_]) ⟨_, _, rfl, rfl, rfl⟩ (PostV.mk hg6.drop.drop hax6 (congrArg Value.bool (any_at hkl ?_).symm)))
              rw [he]
              simp [longE, of_decide_eq_true hh]
            have hle' : longE e = false := by
              have h5 := of_decide_eq_false hh
              have h6 := of_decide_eq_false h64
              have h7 := of_decide_eq_false h59
              have h8 := of_decide_eq_false h52
              have h9 := of_decide_eq_false h45
              simp [longE, wideP]; omega
            refine CW.plain ?_
            refine RL.pure rfl rfl rfl rfl ?_
            refine RL.add rfl rfl rfl rfl rfl rfl (by simp only [rng] at *; omega) ?_
            refine RL.pure rfl rfl rfl rfl ?_
            refine RL.done ?_
            cases j with
            | zero => omega
            | succ j =>
              refine fun ac ha => ⟨j, [(1, ptr p), (3, i64 ((k + 1 : Nat) : Int))], ha.sub ⟨rfl, rfl, trivial⟩, ⟨k + 1, rfl, hg6.drop, hax6, by omega, fun x hx => ?_⟩, Nat.lt_succ_self j⟩
              rw [List.take_succ_eq_append_getElem hkl] at hx
              rcases List.mem_append.1 hx with hx | hx
              · exact hno x hx
              · rw [List.mem_singleton.1 hx, he]; exact hle'
  · have hkl : k = m.entries.length := by omega
    rw [hkl, List.take_length] at hno
    refine CW.seq (CW.plain ?_)
    refine RL.pure rfl rfl rfl rfl ?_
    refine RL.done ?_
    exact CW.ret (ret (vs := [_]) ⟨_, _, rfl, rfl, rfl⟩ (PostV.mk hg4.drop hax4 (congrArg Value.bool (any_none hno).symm)))
end Go.Lw
