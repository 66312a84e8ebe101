/-
  Numbers are read by the document's Reader.
-/
import Derived.Test.YthaomecbklmmdaaDoorOpCodecRu
namespace Go.Lw
open Go.Proofs
attribute [local irreducible] RL RA


set_option maxRecDepth 100000 in
theorem RrUint_ct {w : World} {s A : Res} {os : List Res} {p : Nat} {bs : List Int} {st : RS} (hg : Good w s (A :: os)) (hR : RrObj s A p bs st) :
    Calls Tryd.prog 45 #[ptr p] w (Post w s os fun s' A' r => r = .int .u64 (rdUint bs st).1 ∧ rng .u64 (rdUint bs st).1 ∧ RrObj s' A' p bs (rdUint bs st).2) := by
  have hR' := hR
  obtain ⟨h0, h1, a, c, bad, hp, hI, hv⟩ := hR'
  have hmax := hI.le_max
  simp only [maxLen] at hmax
  have hnil : ((st.err.map (·.1)).getD 0 != 0) = !st.err.isNone := by
    cases hs : st.err with
    | none => rfl
    | some q => obtain ⟨h2, _⟩ := hv.1 q.1 q.2 hs; simp [h2]
  refine enter (l := [ptr p]) Tryd.func45 rfl Tryd.ntmps45 rfl ?_
  refine CW.seq (CW.plain ?_)
  refine RL.pure rfl rfl rfl rfl ?_
  refine RL.done ?_
  refine CW.seq (CW.seq (CW.plain ?_))
  refine RL.pure rfl rfl rfl rfl ?_
  refine RL.pure rfl rfl rfl rfl ?_
  refine RL.field rfl rfl rfl rfl fl65_2 rfl rfl ?_
  refine RL.load rfl rfl rfl rfl ty27 rfl (Holds.of hp) (hg.1) rfl ?_
  refine RL.pure rfl rfl rfl rfl ?_
  refine RL.done ?_
  refine CW.cond rfl (fun hb => ?_) (fun hb => ?_)
  · refine CW.seq (CW.plain ?_)
    refine RL.pure rfl rfl rfl rfl ?_
    refine RL.done ?_
    have hst : rdUint bs st = (0, st) := by
      rw [hnil] at hb
      unfold rdUint
      cases hs : st.err with
      | none => rw [hs] at hb; simp at hb
      | some q => rfl
    exact CW.ret (ret (vs := [_]) ⟨_, _, rfl, rfl, rfl⟩ (Post.mk (Le.refl _) hg (Aux.refl _) (by rw [hst]; exact ⟨rfl, by simp [rng], hR⟩)))
  refine CW.skip ?_
  have herr : st.err = none := by
    rw [hnil] at hb
    cases hs : st.err with
    | none => rfl
    | some q => rw [hs] at hb; simp at hb
  have hst : rdUint bs st = match decF 0 0 (bs.drop st.pos.toNat) with | .inl e => (0, st.fail e) | .inr (v, n) => (v, ⟨st.pos + n, none⟩) := by simp only [rdUint, herr]; rfl
  have hrl : (bs.drop st.pos.toNat).length = bs.length - st.pos.toNat := by simp
  have hget : ∀ (k : Nat) (h : (st.pos + (k : Int)).toNat < bs.length) (h' : k < (bs.drop st.pos.toNat).length), bs[(st.pos + (k : Int)).toNat] = (bs.drop st.pos.toNat)[k] := by
    intro k h h'
    have e : (st.pos + (k : Int)).toNat = st.pos.toNat + k := by omega
    simp only [e, List.getElem_drop]
  generalize bs.drop st.pos.toNat = rest at hst hrl hget
  refine CW.seq (CW.plain ?_)
  refine RL.pure rfl rfl rfl rfl ?_
  refine RL.done ?_
  refine CW.seq (CW.plain ?_)
  refine RL.pure rfl rfl rfl rfl ?_
  refine RL.done ?_
  refine CW.block (CW.loop (σ := Nat) (fun j E w' => Good w' s (A :: os) ∧ Aux w w' ∧ ∃ k : Nat, ∃ u : Int, E = [(0, ptr p), (3, .int .u64 u), (4, .int .i64 k)] ∧ k + j = rest.length ∧ k ≤ 9 ∧ 0 ≤ u ∧ u < 2 ^ (7 * k) ∧ decF k u (rest.drop k) = decF 0 0 rest)
    (fun j => j) rest.length [(0, ptr p), (3, .int .u64 0), (4, .int .i64 0)] ⟨rfl, rfl, rfl, trivial⟩ ⟨hg, Aux.refl _, 0, 0, rfl, by omega, by omega, by omega, by simp, rfl⟩ ?_)
  rintro j E w1 ⟨hg1, hax1, k, u, rfl, hk, hk9, hu0, hu1, hdec⟩
  have hg2 := hg1.drew
  have hax2 := hax1.trans (Aux.drew w1)
  refine CW.seq (CW.block (CW.seq (CW.seq ?_)))
  refine CW.draws [(true, 0), (true, 1), (true, 2), (true, 3), (true, 4), (true, 5), (true, 6), (true, 7), (true, 8), (true, 9), (true, 10), (true, 11)] (fun w => Good w s (A :: os)) mixed (by kernel_rfl) (by kernel_rfl) (by kernel_rfl) (by kernel_rfl) (hg2) ?_
  refine RL.pure rfl rfl rfl rfl ?_
  refine RL.pure rfl rfl rfl rfl ?_
  refine RL.field rfl rfl rfl rfl fl65_1 rfl rfl ?_
  refine RL.loadT rfl rfl rfl rfl ty3 rfl (Holds.of hp) (fun w h => h.1) rfl ?_
  refine RL.pure rfl rfl rfl rfl ?_
  refine RL.add rfl rfl rfl rfl rfl rfl ((by simp only [rng]; omega)) ?_
  refine RL.pure rfl rfl rfl rfl ?_
  refine RL.pure rfl rfl rfl rfl ?_
  refine RL.field rfl rfl rfl rfl fl65_0 rfl rfl ?_
  refine RL.loadT rfl rfl rfl rfl ty22 rfl (Holds.of hp) (fun w h => h.1) rfl ?_
  refine RL.len rfl rfl rfl rfl sl22 rfl ?_
  refine RL.pure rfl rfl rfl rfl ?_
  refine RL.done ?_
  refine CW.test rfl (fun h => ?_) (fun h => ?_)
  · have hkl : k = rest.length := by omega
    rw [hkl, List.drop_length] at hdec
    simp only [decF] at hdec
    have hst' : rdUint bs st = (0, st.fail 11) := by rw [hst, ← hdec]
    refine CW.seq (CW.plain ?_)
    refine RL.pure rfl rfl rfl rfl ?_
    refine RL.pure rfl rfl rfl rfl ?_
    refine RL.pure rfl rfl rfl rfl ?_
    refine RL.field rfl rfl rfl rfl fl65_1 rfl rfl ?_
    refine RL.load rfl rfl rfl rfl ty3 rfl (Holds.of hp) (hg2.1) rfl ?_
    refine RL.call rfl rfl rfl rfl rfl ca46 (rfailAt_ct hg2 hR (e := 11) (by simp [rng]) ⟨h0, h1⟩) ?_
    rintro r s1 A1 w3 hle1 hg3 hax3 ⟨_, hA1⟩
    refine ⟨trivial, ?_⟩
    refine RL.done ?_
    refine CW.seq (CW.plain ?_)
    refine RL.pure rfl rfl rfl rfl ?_
    refine RL.done ?_
    exact CW.ret (ret (vs := [_]) ⟨_, _, rfl, rfl, rfl⟩ (Post.mk hle1 hg3 (hax2.trans hax3) (by rw [hst']; exact ⟨rfl, by simp [rng], hA1⟩)))
  refine CW.skip ?_
  have hkl : k < rest.length := by omega
  have hcr' := hI.rng bs[(st.pos + (k : Int)).toNat] (List.getElem_mem (by omega))
  rw [hget k (by omega) hkl] at hcr'
  have hcr : 0 ≤ rest[k] ∧ rest[k] < 256 := hcr'
  have hdk : rest.drop k = rest[k] :: rest.drop (k + 1) := List.drop_eq_getElem_cons hkl
  rw [hdk] at hdec
  simp only [decF] at hdec
  replace hg2 := hg2.drew
  replace hax2 := hax2.trans (Aux.drew _)
  refine CW.seq ?_
  refine CW.draws [(true, 0), (true, 1), (true, 2), (true, 3), (true, 4), (true, 5), (true, 6), (true, 7), (true, 8), (true, 9), (true, 10), (true, 11), (false, 12)] (fun w => Good w s (A :: os)) mixed (by kernel_rfl) (by kernel_rfl) (by kernel_rfl) (by kernel_rfl) (hg2) ?_
  refine RL.pure rfl rfl rfl rfl ?_
  refine RL.pure rfl rfl rfl rfl ?_
  refine RL.field rfl rfl rfl rfl fl65_0 rfl rfl ?_
  refine RL.loadT rfl rfl rfl rfl ty22 rfl (Holds.of hp) (fun w h => h.1) rfl ?_
  refine RL.pure rfl rfl rfl rfl ?_
  refine RL.pure rfl rfl rfl rfl ?_
  refine RL.field rfl rfl rfl rfl fl65_1 rfl rfl ?_
  refine RL.loadT rfl rfl rfl rfl ty3 rfl (Holds.of hp) (fun w h => h.1) rfl ?_
  refine RL.pure rfl rfl rfl rfl ?_
  refine RL.add rfl rfl rfl rfl rfl rfl ((by simp only [rng]; omega)) ?_
  refine RL.idx rfl rfl rfl rfl sl22 rfl rfl (hI) (by omega) (by omega) ?_
  rintro q vs hvl hH hRR
  rw [hget k (by omega) hkl] at hRR
  obtain ⟨rfl, hr⟩ := hRR
  refine RL.loadT rfl rfl rfl rfl ty5 rfl (hH) (fun w h => h.sh) rfl ?_
  refine RL.pure rfl rfl rfl rfl ?_
  refine RL.done ?_
  refine CW.meet (fun E w' => w' = w1.drew.drew ∧ ¬ (k = 9 ∧ rest[k] ≠ 1) ∧ E = [(0, ptr p), (3, .int .u64 u), (4, .int .i64 k), (5, .int .u8 rest[k])]) (CW.seq (CW.plain ?_)) ?_
  · refine RL.pure rfl rfl rfl rfl ?_
    refine RL.pure rfl rfl rfl rfl ?_
    refine RL.pure rfl rfl rfl rfl ?_
    refine RL.part 45 rfl (fun hb => ?_) (fun hb => ?_)
    · refine RL.pure rfl rfl rfl rfl ?_
      refine RL.pure rfl rfl rfl rfl ?_
      refine RL.pure rfl rfl rfl rfl ?_
      refine RL.done ?_
      refine CW.ne rfl (fun hne => ?_) (fun heq => ?_)
      · have hst' : rdUint bs st = (0, st.fail 12) := by
          rw [hst, ← hdec, if_pos ⟨by simp at hb; omega, hne⟩]
        refine CW.seq (CW.plain ?_)
        refine RL.pure rfl rfl rfl rfl ?_
        refine RL.pure rfl rfl rfl rfl ?_
        refine RL.pure rfl rfl rfl rfl ?_
        refine RL.field rfl rfl rfl rfl fl65_1 rfl rfl ?_
        refine RL.load rfl rfl rfl rfl ty3 rfl (Holds.of hp) (hg2.1) rfl ?_
        refine RL.call rfl rfl rfl rfl rfl ca46 (rfailAt_ct hg2 hR (e := 12) (by simp [rng]) ⟨h0, h1⟩) ?_
        rintro r s1 A1 w3 hle1 hg3 hax3 ⟨_, hA1⟩
        refine ⟨trivial, ?_⟩
        refine RL.done ?_
        refine CW.seq (CW.plain ?_)
        refine RL.pure rfl rfl rfl rfl ?_
        refine RL.done ?_
        exact CW.ret (ret (vs := [_]) ⟨_, _, rfl, rfl, rfl⟩ (Post.mk hle1 hg3 (hax2.trans hax3) (by rw [hst']; exact ⟨rfl, by simp [rng], hA1⟩)))
      · exact CW.skip fun ac ha => ⟨[(0, ptr p), (3, .int .u64 u), (4, .int .i64 k), (5, .int .u8 rest[k])], ha.sub ⟨rfl, rfl, rfl, rfl, trivial⟩, rfl, fun hh => hh.2 heq, rfl⟩
    · refine RL.pass rfl rfl rfl ?_
      refine RL.pass rfl rfl rfl ?_
      refine RL.pure rfl rfl rfl rfl ?_
      refine RL.done ?_
      refine CW.no rfl (CW.skip ?_)
      exact fun ac ha => ⟨[(0, ptr p), (3, .int .u64 u), (4, .int .i64 k), (5, .int .u8 rest[k])], ha.sub ⟨rfl, rfl, rfl, rfl, trivial⟩, rfl, fun hh => by rw [hh.1] at hb; simp at hb, rfl⟩
  rintro E w' ⟨rfl, hn9, rfl⟩
  rw [if_neg hn9] at hdec
  have hs7 := step7 k u rest[k] hk9 hu0 hu1 hcr (fun h9 => Classical.byContradiction fun hc => hn9 ⟨h9, hc⟩)
  have hwrap : IntKind.u64.wrap (rest[k] % 128 * 2 ^ (7 * k)) = rest[k] % 128 * 2 ^ (7 * k) := rng.wrap (by simp only [rng]; omega)
  refine CW.seq (CW.plain ?_)
  refine RL.pure rfl rfl rfl rfl ?_
  refine RL.pure rfl rfl rfl rfl ?_
  refine RL.as_ rfl rfl rfl rfl (.int .u8 (rest[k] % 128)) (congrArg (Value.int .u8) (and127b _ hcr')) ?_
  refine RL.conv rfl rfl rfl rfl Tryd.underlying5 Tryd.underlying36 rfl ((by simp only [rng]; omega)) ?_
  refine RL.pure rfl rfl rfl rfl ?_
  refine RL.mul rfl rfl rfl rfl rfl rfl ((by simp only [rng]; omega)) ?_
  refine RL.shl (7 * k) rfl rfl rfl rfl rfl rfl ((by omega)) ((by simp [IntKind.bits]; omega)) ?_
  rw [hwrap]
  refine RL.add rfl rfl rfl rfl rfl rfl ((by simp only [rng]; omega)) ?_
  refine RL.pure rfl rfl rfl rfl ?_
  refine RL.done ?_
  refine CW.seq (CW.plain ?_)
  refine RL.pure rfl rfl rfl rfl ?_
  refine RL.pure rfl rfl rfl rfl ?_
  refine RL.done ?_
  refine CW.test rfl (fun h128 => ?_) (fun h128 => ?_)
  · rw [if_neg (show ¬ (128 : Int) ≤ rest[k] by omega)] at hdec
    refine CW.meet (fun E w' => w' = w1.drew.drew ∧ ¬ (rest[k] = 0 ∧ 0 < k) ∧ E = [(0, ptr p), (3, .int .u64 (u + rest[k] % 128 * 2 ^ (7 * k))), (4, .int .i64 k)]) (CW.seq (CW.plain ?_)) ?_
    · refine RL.pure rfl rfl rfl rfl ?_
      refine RL.pure rfl rfl rfl rfl ?_
      refine RL.pure rfl rfl rfl rfl ?_
      refine RL.part 67 rfl (fun hb => ?_) (fun hb => ?_)
      · refine RL.pure rfl rfl rfl rfl ?_
        refine RL.pure rfl rfl rfl rfl ?_
        refine RL.pure rfl rfl rfl rfl ?_
        refine RL.done ?_
        refine CW.test rfl (fun hk0 => ?_) (fun hk0 => ?_)
        · have hst' : rdUint bs st = (0, st.fail 12) := by
            rw [hst, ← hdec, if_pos ⟨by simpa using hb, by omega⟩]
          refine CW.seq (CW.plain ?_)
          refine RL.pure rfl rfl rfl rfl ?_
          refine RL.pure rfl rfl rfl rfl ?_
          refine RL.pure rfl rfl rfl rfl ?_
          refine RL.field rfl rfl rfl rfl fl65_1 rfl rfl ?_
          refine RL.load rfl rfl rfl rfl ty3 rfl (Holds.of hp) (hg2.1) rfl ?_
          refine RL.call rfl rfl rfl rfl rfl ca46 (rfailAt_ct hg2 hR (e := 12) (by simp [rng]) ⟨h0, h1⟩) ?_
          rintro r s1 A1 w3 hle1 hg3 hax3 ⟨_, hA1⟩
          refine ⟨trivial, ?_⟩
          refine RL.done ?_
          refine CW.seq (CW.plain ?_)
          refine RL.pure rfl rfl rfl rfl ?_
          refine RL.done ?_
          exact CW.ret (ret (vs := [_]) ⟨_, _, rfl, rfl, rfl⟩ (Post.mk hle1 hg3 (hax2.trans hax3) (by rw [hst']; exact ⟨rfl, by simp [rng], hA1⟩)))
        · exact CW.skip fun ac ha => ⟨[(0, ptr p), (3, .int .u64 (u + rest[k] % 128 * 2 ^ (7 * k))), (4, .int .i64 k)], ha.sub ⟨rfl, rfl, rfl, trivial⟩, rfl, fun hh => hk0 (by omega), rfl⟩
      · refine RL.pass rfl rfl rfl ?_
        refine RL.pass rfl rfl rfl ?_
        refine RL.pure rfl rfl rfl rfl ?_
        refine RL.done ?_
        refine CW.no rfl (CW.skip ?_)
        exact fun ac ha => ⟨[(0, ptr p), (3, .int .u64 (u + rest[k] % 128 * 2 ^ (7 * k))), (4, .int .i64 k)], ha.sub ⟨rfl, rfl, rfl, trivial⟩, rfl, fun hh => by rw [hh.1] at hb; simp at hb, rfl⟩
    rintro E w' ⟨rfl, hn0, rfl⟩
    rw [if_neg hn0] at hdec
    have hst' : rdUint bs st = (u + rest[k] % 128 * 2 ^ (7 * k), ⟨st.pos + ((k + 1 : Nat) : Int), none⟩) := by rw [hst, ← hdec]
    refine CW.seq (CW.plain ?_)
    refine RL.pure rfl rfl rfl rfl ?_
    refine RL.pure rfl rfl rfl rfl ?_
    refine RL.pure rfl rfl rfl rfl ?_
    refine RL.field rfl rfl rfl rfl fl65_1 rfl rfl ?_
    refine RL.load rfl rfl rfl rfl ty3 rfl (Holds.of hp) (hg2.1) rfl ?_
    refine RL.pure rfl rfl rfl rfl ?_
    refine RL.add rfl rfl rfl rfl rfl rfl ((by simp only [rng]; omega)) ?_
    refine RL.add rfl rfl rfl rfl rfl rfl ((by simp only [rng]; omega)) ?_
    refine RL.pure rfl rfl rfl rfl ?_
    refine RL.field rfl rfl rfl rfl fl65_1 rfl rfl ?_
    refine RL.store (i := 0) rfl rfl rfl ty3 rfl rfl hg2 rfl (hp) rfl (by first | (simp [Value.cells, Value.oneCell']; done) | simp [Value.cells, Value.oneCell', putL]) (by first | exact Nat.le_of_ble_eq_true rfl | (simp; done) | (simp; omega) | omega) ?_
    rintro w3 hg3 hax3
    refine ⟨trivial, ?_⟩
    refine RL.done ?_
    refine CW.seq (CW.plain ?_)
    refine RL.pure rfl rfl rfl rfl ?_
    refine RL.pure rfl rfl rfl rfl ?_
    refine RL.done ?_
    refine CW.ret (ret (vs := [_]) ⟨_, _, rfl, rfl, rfl⟩ (Post.mk (Le.refl _) hg3 (hax2.trans hax3) ?_))
    rw [hst']
    refine ⟨rfl, by simp only [rng]; omega, ?_, ?_, a, c, bad, ?_, hI, fun e k' h => (by cases h), fun _ => hv.2 herr⟩
    · show 0 ≤ st.pos + ((k + 1 : Nat) : Int)
      omega
    · show st.pos + ((k + 1 : Nat) : Int) ≤ bs.length
      omega
    · rw [put_same]
      have e : st.pos + ((k + 1 : Nat) : Int) = st.pos + (k : Int) + 1 := by omega
      show _ = some (Obj.cells #[.slice a bs.length c, .int .i64 (st.pos + ((k + 1 : Nat) : Int)), .int .i64 0, .int .i64 bad] 65 (0, 0))
      rw [e, herr]
      rfl
  · refine CW.skip (CW.plain ?_)
    refine RL.pure rfl rfl rfl rfl ?_
    refine RL.add rfl rfl rfl rfl rfl rfl (by simp only [rng] at *; omega) ?_
    refine RL.pure rfl rfl rfl rfl ?_
    refine RL.done ?_
    rw [if_pos (show (128 : Int) ≤ rest[k] by omega)] at hdec
    have hk8 : k ≤ 8 := by
      rcases Nat.lt_or_ge k 9 with h' | h'
      · omega
      · have h9 : k = 9 := by omega
        have : rest[k] = 1 := Classical.byContradiction fun hc => hn9 ⟨h9, hc⟩
        omega
    cases j with
    | zero => omega
    | succ j =>
      refine fun ac ha => ⟨j, [(0, ptr p), (3, .int .u64 (u + rest[k] % 128 * 2 ^ (7 * k))), (4, .int .i64 ((k : Int) + 1))], ha.sub ⟨rfl, rfl, rfl, trivial⟩, ⟨hg2, hax2, k + 1, _, rfl, by omega, by omega, hs7.2.2.2.1, hs7.2.2.2.2 hk8, hdec⟩, Nat.lt_succ_self j⟩
end Go.Lw
