/-
  The law CodecReads, walked.
-/
import Derived.Test.YtcbifehmmfjioaaDoorCodecRs
import Derived.Test.YtcbifehmmfjioaaDoorCodecUn
namespace Go.Lw
open Go.Proofs
attribute [local irreducible] RL RA

theorem BadIs.place {st : RS} {bad : Int} (h : BadIs st bad) : bad = st.place := by
  cases hs : st.err with
  | none => rw [h.2 hs]; simp [RS.place, hs]
  | some q => rw [(h.1 q.1 q.2 hs).2.2]; simp [RS.place, hs]

set_option maxRecDepth 100000 in
theorem CodecReads_ct {w : World} {s : Res} {os : List Res} {xs : List Int} {l : List Step} {xa la : Option Addr} {xc lc : Nat} (hg : Good w s os) (hx : Imm (RInt .u8) 1 s xa xc xs) (hL : Imm RStep 2 s la lc l) (het : Et s) (hT : Holds s ⟨0, 0, none⟩ tabVs)
    (hl : xs.length ≤ 1048576) :
    Calls Tryd.prog 7 #[.slice xa xs.length xc, .slice la l.length lc] w (Post w s os fun _ _ r => r = .bool true) := by
  have hlm := hL.le_max
  simp only [maxLen] at hlm
  refine enter (l := [.slice xa xs.length xc, .slice la l.length lc]) Tryd.func7 rfl Tryd.ntmps7 rfl ?_
  refine CW.seq (CW.plain ?_)
  refine RL.pure rfl rfl rfl rfl ?_
  refine RL.done ?_
  refine CW.seq (CW.plain ?_)
  refine RL.call rfl rfl rfl rfl rfl ca11 (lives_ct hg hT) ?_
  rintro v0 s0 A0 w0 hle0 hg0 hax0 rfl
  refine ⟨trivial, ?_⟩
  refine RL.pure rfl rfl rfl rfl ?_
  refine RL.done ?_
  have hx := hx.up (RInt.up _) hle0
  refine CW.seq (CW.plain ?_)
  refine RL.buildSlice rfl rfl rfl rfl sl25 ze5 rfl rfl rfl rfl hg0.drop ?_
  rintro b1 w1 hg1 hax1
  refine ⟨trivial, ?_⟩
  refine RL.pure rfl rfl rfl rfl ?_
  obtain ⟨news, hsrc, hch⟩ := Src.imm sl25 hx hg1.sh
  refine RL.append (i := 0) (ys := xs) rfl rfl rfl rfl sl25 ze5 rfl (by first | exact RInt.one _ | exact RStr.one | exact RBool.one | assumption) rfl rfl hg1 rfl Own.fresh (hsrc) (hch) ((by simp; omega)) (by omega) ?_
  rintro a2 c2 O w2 hg2 hown hax2 hk2
  refine ⟨trivial, ?_⟩
  refine RL.pure rfl rfl rfl rfl ?_
  refine RL.done ?_
  obtain ⟨hg2, hown⟩ : Good w2 s0 (O :: os) ∧ Own (RInt .u8) 1 5 s0 O a2 c2 xs := ⟨hg2, hown⟩
  simp only [List.nil_append] at *
  refine CW.seq (CW.plain ?_)
  refine RL.pure rfl rfl rfl rfl ?_
  refine RL.call rfl rfl rfl rfl rfl ca15 (NewReader_ct hg2 (.inr (List.mem_cons_self)) hown.row (by omega)) ?_
  rintro v3 s3 R3 w3 hle3 hg3 hax3 ⟨p, rfl, hR3⟩
  refine ⟨trivial, ?_⟩
  refine RL.pure rfl rfl rfl rfl ?_
  refine RL.done ?_
  have hx3 := hx.up (RInt.up _) hle3
  refine CW.seq (CW.plain ?_)
  refine RL.pure rfl rfl rfl rfl ?_
  refine RL.build rfl rfl rfl rfl ze65 pl65 rfl rfl ?_
  refine RL.box rfl rfl rfl rfl rfl hg3 ?_
  rintro q w4 hg4 hax4
  refine ⟨trivial, ?_⟩
  refine RL.pure rfl rfl rfl rfl ?_
  refine RL.done ?_
  have hV4 : RrObj s3 (Res.one q (.cells #[.slice xa xs.length xc, .int .i64 0, .int .i64 0, .int .i64 0] 65)) q xs ⟨0, none⟩ := ⟨Int.le_refl _, by simp, xa, xc, 0, if_pos rfl, hx3, fun e k h => (nomatch h), fun _ => rfl⟩
  refine CW.seq (CW.seq (CW.plain ?_))
  have hO4 : In O w4 := hg4.mem (by simp)
  refine RL.pure rfl rfl rfl rfl ?_
  refine RL.pure rfl rfl rfl rfl ?_
  refine RL.pure rfl rfl rfl rfl ?_
  refine RL.pure rfl rfl rfl rfl ?_
  refine RL.ptrEq rfl rfl rfl rfl Tryd.underlying49 rfl rfl ?_
  refine RL.pure rfl rfl rfl rfl ?_
  refine RL.pure rfl rfl rfl rfl ?_
  refine RL.pure rfl rfl rfl rfl ?_
  refine RL.bts rfl rfl rfl rfl sl25 Tryd.underlying5 Tryd.underlying9 rfl (hown.row) (hO4) ?_
  refine RL.pure rfl rfl rfl rfl ?_
  refine RL.bts rfl rfl rfl rfl sl25 Tryd.underlying5 Tryd.underlying9 rfl (hx3.2.2) (hg4.sh) ?_
  refine RL.sNe rfl rfl rfl rfl rfl rfl ?_
  rw [beq_self_eq_true]
  refine RL.pure rfl rfl rfl rfl ?_
  refine RL.done ?_
  refine CW.no rfl (CW.skip ?_)
  obtain ⟨V, hVe⟩ : ∃ V, V = Res.one q (.cells #[.slice xa xs.length xc, .int .i64 0, .int .i64 0, .int .i64 0] 65) := ⟨_, rfl⟩
  rw [← hVe] at hV4
  have hg5 : Good w4 s3 (O :: R3 :: V :: os) := by
    rw [hVe]
    exact hg4.perm (((List.Perm.swap _ _ _).cons _).trans ((List.Perm.swap _ _ _).trans ((List.Perm.swap _ _ _).cons _)))
  have hax := hax0.trans (hax1.trans (hax2.trans (hax3.trans hax4)))
  refine CW.meet (fun E w' => E = [(1, .slice la l.length lc), (7, ptr p), (8, ptr q)] ∧ Good w' s3 (R3 :: V :: os) ∧ Aux w w') ?_ ?_
  · refine CW.seq (CW.plain ?_)
    refine RL.pure rfl rfl rfl rfl ?_
    refine RL.done ?_
    refine CW.block (CW.loop (σ := Nat) (fun j' E w' => ∃ D zs, ∃ m : Nat, E = [(1, .slice la l.length lc), (7, ptr p), (8, ptr q), (6, .slice a2 zs.length c2), (9, .int .i64 m)] ∧ Good w' s3 (D :: R3 :: V :: os) ∧ Aux w w' ∧ Own (RInt .u8) 1 5 s3 D a2 c2 zs ∧ m + j' = zs.length)
      (fun j' => j') xs.length [(1, .slice la l.length lc), (7, ptr p), (8, ptr q), (6, .slice a2 xs.length c2), (9, .int .i64 0)] ⟨rfl, rfl, rfl, rfl, rfl, trivial⟩ ⟨O, xs, 0, rfl, hg5, hax, hown.up (RInt.up _) hle3, by omega⟩ ?_)
    rintro j' E w5 ⟨D, zs, m, rfl, hg5, hax5, hown, hm⟩
    refine CW.seq (CW.seq (CW.plain ?_))
    refine RL.pure rfl rfl rfl rfl ?_
    refine RL.pure rfl rfl rfl rfl ?_
    refine RL.len rfl rfl rfl rfl sl25 rfl ?_
    refine RL.pure rfl rfl rfl rfl ?_
    refine RL.done ?_
    refine CW.test rfl (fun h' => ?_) (fun h' => CW.exit ?_)
    · refine CW.skip ?_
      have hml : m < zs.length := by omega
      have hcapm := hown.le_max
      simp only [maxLen] at hcapm
      have hcap := hown.le_cap
      refine CW.seq (CW.block (CW.plain ?_))
      refine RL.pure rfl rfl rfl rfl ?_
      refine RL.pure rfl rfl rfl rfl ?_
      refine RL.idxOwn rfl rfl rfl rfl sl25 rfl rfl hown (by omega) (by omega) ?_
      rintro g cs vs hb hC hcs hvl hcell ⟨rfl, hr⟩
      refine RL.load rfl rfl rfl rfl ty5 rfl (Holds.of hC) hg5.1 (hcell 0 _ rfl) ?_
      refine RL.pure rfl rfl rfl rfl ?_
      refine RL.idxOwn rfl rfl rfl rfl sl25 rfl rfl hown (by omega) (by omega) ?_
      rintro g' cs' vs' hb' hC' _ _ _ _
      rw [hb] at hb'
      cases hb'
      refine RL.store (i := 0) rfl rfl rfl ty5 rfl rfl hg5 rfl (hC) rfl (by first | (simp [Value.cells, Value.oneCell']; done) | simp [Value.cells, Value.oneCell', putL]) (by first | exact Nat.le_of_ble_eq_true rfl | (simp; done) | (simp; omega) | omega) ?_
      rintro w6 hg6 hax6
      refine ⟨trivial, ?_⟩
      refine RL.done ?_
      refine CW.plain ?_
      refine RL.pure rfl rfl rfl rfl ?_
      refine RL.add rfl rfl rfl rfl rfl rfl (by simp only [rng] at *; omega) ?_
      refine RL.pure rfl rfl rfl rfl ?_
      refine RL.done ?_
      cases j' with
      | zero => omega
      | succ j' =>
        have hset := Own.set (x := IntKind.u8.wrap (zs[m] + 1)) (vs := [.int .u8 (IntKind.u8.wrap (zs[m] + 1))]) (hb ▸ hown) hC hml rfl ⟨rfl, rng_wrap _ _⟩
        refine fun ac ha => ⟨j', [(1, .slice la l.length lc), (7, ptr p), (8, ptr q), (6, .slice a2 (zs.set m (IntKind.u8.wrap (zs[m] + 1))).length c2), (9, .int .i64 ((m : Int) + 1))], ha.sub ?_,
          ⟨_, zs.set m (IntKind.u8.wrap (zs[m] + 1)), m + 1, rfl, hg6, hax5.trans hax6, hb.symm ▸ hset, by rw [List.length_set]; omega⟩, Nat.lt_succ_self j'⟩
        rw [List.length_set]
        exact ⟨rfl, rfl, rfl, rfl, rfl, trivial⟩
    exact fun a ha => ⟨[(1, .slice la l.length lc), (7, ptr p), (8, ptr q)], ha.sub ⟨rfl, rfl, rfl, trivial⟩, rfl, hg5.drop, hax5⟩
  rintro E w5 ⟨rfl, hg5, hax5⟩
  have hle03 := hle0.trans hle3
  refine CW.meet (fun E w' => ∃ s' R V, E = [] ∧ Good w' s' (R :: V :: os) ∧ Le s s' ∧ Aux w w') ?_ ?_
  · refine CW.seq (CW.plain ?_)
    refine RL.pure rfl rfl rfl rfl ?_
    refine RL.done ?_
    refine CW.block (CW.loop (σ := Nat) (fun j E w' => ∃ s' R V st, ∃ k : Nat, E = [(1, .slice la l.length lc), (7, ptr p), (8, ptr q), (10, .int .i64 k)] ∧ Good w' s' (R :: V :: os) ∧ Le s s' ∧ Aux w w' ∧ RdObj s' R p xs st ∧ RrObj s' V q xs st ∧ k + j = l.length)
      (fun j => j) l.length [(1, .slice la l.length lc), (7, ptr p), (8, ptr q), (10, .int .i64 0)] ⟨rfl, rfl, rfl, rfl, trivial⟩ ⟨s3, R3, V, _, 0, rfl, hg5, hle03, hax5, hR3, hV4, by omega⟩ ?_)
    rintro j E w6 ⟨s6, R6, V6, st, k, rfl, hg6, hle6, hax6, hR6, hV6, hk⟩
    refine CW.seq (CW.seq (CW.plain ?_))
    refine RL.pure rfl rfl rfl rfl ?_
    refine RL.pure rfl rfl rfl rfl ?_
    refine RL.len rfl rfl rfl rfl sl62 rfl ?_
    refine RL.pure rfl rfl rfl rfl ?_
    refine RL.done ?_
    refine CW.test rfl (fun h => ?_) (fun h => CW.exit ?_)
    · refine CW.skip ?_
      have hkl : k < l.length := by omega
      refine CW.seq (CW.block (CW.seq (CW.plain ?_)))
      refine RL.pure rfl rfl rfl rfl ?_
      refine RL.pure rfl rfl rfl rfl ?_
      refine RL.pure rfl rfl rfl rfl ?_
      refine RL.pure rfl rfl rfl rfl ?_
      refine RL.idx rfl rfl rfl rfl sl62 rfl rfl (hL.up RStep.up hle6) (by omega) ((by omega)) ?_
      rintro q9 vs9 hvl9 hH9 ⟨rfl, hr9, hm9⟩
      refine RL.loads (j := 0) rfl rfl rfl rfl ty68 rfl (hH9) (hg6.sh) rfl rfl ?_
      refine RL.callG rfl rfl rfl rfl rfl ca24 (reads_ct (x := l[((k : Nat) : Int).toNat]) hg6 hR6 hV6 hr9 hm9 (by omega)) ?_
      rintro e7 w7 ⟨v7, s7, V7, R7, rfl, hle7, hg7, hax7, rfl, st7, hV7, hR7⟩
      refine ⟨_, rfl, trivial, ?_⟩
      refine RL.pure rfl rfl rfl rfl ?_
      refine RL.done ?_
      have hg7 := hg7.swap
      have het7 := het.le (hle6.trans hle7)
      refine CW.seq (CW.plain ?_)
      refine RL.pure rfl rfl rfl rfl ?_
      refine RL.callV rfl rfl rfl rfl rfl ca25 (Err_ct hg7 het7 hR7) ?_
      rintro v8 w8 hg8 hax8 rfl
      refine ⟨trivial, ?_⟩
      refine RL.pure rfl rfl rfl rfl ?_
      refine RL.pure rfl rfl rfl rfl ?_
      refine RL.pure rfl rfl rfl rfl ?_
      refine RL.pure rfl rfl rfl rfl ?_
      refine RL.pure rfl rfl rfl rfl ?_
      refine RL.done ?_
      refine CW.seq (CW.plain ?_)
      refine RL.pure rfl rfl rfl rfl ?_
      refine RL.callV rfl rfl rfl rfl rfl ca17 (RDone_ct hg8 het7 hR7) ?_
      rintro v9 w9 hg9 hax9 rfl
      refine ⟨trivial, ?_⟩
      refine RL.pure rfl rfl rfl rfl ?_
      refine RL.done ?_
      obtain ⟨k0, k1, ka, kc, bad, hp, hI, hbad⟩ := id hV7
      have hbp := hbad.place
      refine CW.seq (CW.plain ?_)
      refine RL.pure rfl rfl rfl rfl ?_
      refine RL.pure rfl rfl rfl rfl ?_
      refine RL.pure rfl rfl rfl rfl ?_
      refine RL.pure rfl rfl rfl rfl ?_
      refine RL.pure rfl rfl rfl rfl ?_
      refine RL.pure rfl rfl rfl rfl ?_
      refine RL.field rfl rfl rfl rfl fl65_2 rfl rfl ?_
      refine RL.load (j := 2) rfl rfl rfl rfl ty52 rfl (Holds.of hp) (hg9.drop.1) rfl ?_
      refine RL.pure rfl rfl rfl rfl ?_
      refine RL.part 77 rfl (fun hc => absurd hc (by simp [RS.errno])) (fun hc => ?_)
      refine RL.pure rfl rfl rfl rfl ?_
      refine RL.pure rfl rfl rfl rfl ?_
      refine RL.pure rfl rfl rfl rfl ?_
      refine RL.pure rfl rfl rfl rfl ?_
      refine RL.pure rfl rfl rfl rfl ?_
      refine RL.field rfl rfl rfl rfl fl65_3 rfl rfl ?_
      refine RL.load (j := 3) rfl rfl rfl rfl ty3 rfl (Holds.of hp) (hg9.drop.1) rfl ?_
      refine RL.pure rfl rfl rfl rfl ?_
      refine RL.part 85 rfl (fun hd => absurd hd (by simp [hbp])) (fun hd => ?_)
      refine RL.pure rfl rfl rfl rfl ?_
      refine RL.pure rfl rfl rfl rfl ?_
      refine RL.pure rfl rfl rfl rfl ?_
      refine RL.pure rfl rfl rfl rfl ?_
      refine RL.callV rfl rfl rfl rfl rfl ca26 (rRDone_ct hg9.swap hV7) ?_
      rintro v10 w10 hg10 hax10 rfl
      refine ⟨trivial, ?_⟩
      refine RL.pure rfl rfl rfl rfl ?_
      refine RL.part 91 rfl (fun he => absurd he (by simp)) (fun he => ?_)
      refine RL.pure rfl rfl rfl rfl ?_
      refine RL.done ?_
      refine CW.no rfl (CW.skip (CW.plain ?_))
      refine RL.pure rfl rfl rfl rfl ?_
      refine RL.add rfl rfl rfl rfl rfl rfl (by simp only [rng] at *; omega) ?_
      refine RL.pure rfl rfl rfl rfl ?_
      refine RL.done ?_
      cases j with
      | zero => omega
      | succ j => exact fun ac ha => ⟨j, [(1, .slice la l.length lc), (7, ptr p), (8, ptr q), (10, .int .i64 ((k : Int) + 1))], ha.sub ⟨rfl, rfl, rfl, rfl, trivial⟩, ⟨s7, R7, V7, st7, k + 1, rfl, hg10.swap, hle6.trans hle7, hax6.trans (hax7.trans (hax8.trans (hax9.trans hax10))), hR7, hV7, by omega⟩, Nat.lt_succ_self j⟩
    · exact fun ac ha => ⟨[], ha.sub trivial, s6, R6, V6, rfl, hg6, hle6, hax6⟩
  rintro E w11 ⟨s11, R11, V11, rfl, hg11, hle11, hax11⟩
  refine CW.seq (CW.plain ?_)
  refine RL.pure rfl rfl rfl rfl ?_
  refine RL.done ?_
  exact CW.ret (ret (vs := [_]) ⟨_, _, rfl, rfl, rfl⟩ (Post.mk hle11 hg11.drop hax11 rfl))
end Go.Lw
