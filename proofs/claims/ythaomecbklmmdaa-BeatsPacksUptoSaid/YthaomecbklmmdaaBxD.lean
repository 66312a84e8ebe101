/-
  Beats: Pack, by the document.
-/
import Derived.Test.YthaomecbklmmdaaBxK
namespace Go.Lw
open Go.Proofs
attribute [local irreducible] RL RA

abbrev wireV (x : Wire) (y : Lay) : List Value := u64 x.group :: msgV x.msg y
def PackEnd (s A : Res) (v : Value) (r : List Packet × Int) : Prop := ∃ a c, v = .tuple #[.slice a r.1.length c, i64 r.2] ∧ Own RPacket 4 46 s A a c r.1
theorem PackEnd.bad {s A : Res} {e : Int} : PackEnd s A (.tuple #[nilSl, i64 e]) ([], e) := ⟨none, 0, rfl, .inl ⟨rfl, rfl, rfl⟩⟩

set_option maxHeartbeats 4000000 in
set_option maxRecDepth 100000 in
theorem dPack_ct {w : World} {s : Res} {os : List Res} {frm : Int} {l : List Wire} {la : Option Addr} {lc : Nat} (hg : Good w s os) (hl : Imm RWire 15 s la lc l) (hfr : rng .i64 frm) (hb : bulkW l + l.length ≤ 17592186044416) (hfit : ∀ x ∈ l, x.msg.fits) :
    Calls Try.prog 8 #[i64 frm, .slice la l.length lc] w (Post w s os fun s' A v => PackEnd s' A v (packP frm l)) := by
  have hone := RPacket.one
  refine enter (l := [i64 frm, .slice la l.length lc]) Try.func8 rfl Try.ntmps8 rfl ?_
  refine CW.seq (CW.plain ?_)
  refine RL.pure rfl rfl rfl rfl ?_
  refine RL.pure rfl rfl rfl rfl ?_
  refine RL.done ?_
  refine CW.seq (CW.plain ?_)
  refine RL.pure rfl rfl rfl rfl ?_
  refine RL.callV rfl rfl rfl rfl rfl ca17 (dNode_ct hg) ?_
  rintro v1 w1 hg1 hax1 rfl
  refine ⟨trivial, ?_⟩
  refine RL.pure rfl rfl rfl rfl ?_
  refine RL.done ?_
  refine CW.meet (fun E w' => E = [(0, i64 frm), (1, .slice la l.length lc), (6, .bool (node7 frm && !l.any (badW frm)))] ∧ Good w' s os ∧ Aux w w') ?_ ?_
  · refine CW.seq (CW.plain ?_)
    refine RL.pure rfl rfl rfl rfl ?_
    refine RL.done ?_
    refine CW.block (CW.loop (σ := Nat) (fun j E w' => ∃ k : Nat, E = [(0, i64 frm), (1, .slice la l.length lc), (6, .bool (node7 frm && !(l.take k).any (badW frm))), (7, i64 k)] ∧ Good w' s os ∧ Aux w w' ∧ k + j = l.length)
      (fun j => j) l.length [(0, i64 frm), (1, .slice la l.length lc), (6, .bool (node7 frm && !(l.take 0).any (badW frm))), (7, i64 0)] ⟨rfl, rfl, (congrArg some (congrArg Value.bool (by simp))), rfl, trivial⟩ ⟨0, rfl, hg1, hax1, by omega⟩ ?_)
    rintro j E w2 ⟨k, rfl, hg2, hax2, hk⟩
    refine CW.seq (CW.seq (CW.plain ?_))
    refine RL.pure rfl rfl rfl rfl ?_
    refine RL.pure rfl rfl rfl rfl ?_
    refine RL.len rfl rfl rfl rfl sl22 rfl ?_
    refine RL.pure rfl rfl rfl rfl ?_
    refine RL.done ?_
    refine CW.test rfl (fun h => CW.skip ?_) (fun h => CW.exit ?_)
    · have hkl : k < l.length := by omega
      have ek : l[((k : Nat) : Int).toNat]'(by omega) = l[k] := by simp
      have hany := any_take1 (badW frm) l k hkl
      refine CW.meet (fun E w' => E = [(0, i64 frm), (1, .slice la l.length lc), (6, .bool (node7 frm && !(l.take (k + 1)).any (badW frm))), (7, i64 k)] ∧ Good w' s os ∧ Aux w w') ?_ ?_
      · refine CW.block (CW.seq (CW.plain ?_))
        refine RL.pure rfl rfl rfl rfl ?_
        refine RL.pure rfl rfl rfl rfl ?_
        refine RL.idx rfl rfl rfl rfl sl22 rfl rfl (hl) (by omega) (by omega) ?_
        rintro q vs hvl hHe hre
        refine RL.field rfl rfl rfl rfl fl42_1 rfl rfl ?_
        rw [ek] at hre
        generalize he : l[k] = x at hre hany
        obtain ⟨y, rfl, hgr, ho⟩ := id hre
        refine RL.loads (j := 1) (us := (msgV x.msg y)) rfl rfl rfl rfl ty40 rfl (hHe) (hg2.sh) rfl rfl ?_
        refine RL.alloc rfl rfl rfl rfl ze40 hg2 ?_
        rintro r w3 hg3 hax3
        refine ⟨trivial, ?_⟩
        refine RL.store (i := 0) (j := 0) rfl rfl rfl ty40 rfl rfl hg3 rfl (if_pos rfl) rfl (by first | (simp [Value.cells, Value.oneCell']; done) | simp [Value.cells, Value.oneCell', putL]) (by first | exact Nat.le_of_ble_eq_true rfl | (simp; done) | (simp; omega) | omega) ?_
        rintro w4 hg4 hax4
        refine ⟨trivial, ?_⟩
        refine RL.done ?_
        obtain ⟨R, hg4, hR⟩ : ∃ R, Good w4 s (R :: os) ∧ Holds R ⟨r, 0, none⟩ (msgV x.msg y) := ⟨_, hg4, Holds.of (put_same _ _ _)⟩
        refine CW.seq (CW.plain ?_)
        refine RL.field rfl rfl rfl rfl fl40_2 rfl rfl ?_
        refine RL.load (j := 2) rfl rfl rfl rfl ty3 rfl (hR) (hg4.1) rfl ?_
        refine RL.callV rfl rfl rfl rfl rfl ca17 (dNode_ct hg4) ?_
        rintro v5 w5 hg5 hax5 rfl
        refine ⟨trivial, ?_⟩
        refine RL.pure rfl rfl rfl rfl ?_
        refine RL.done ?_
        refine CW.seq (CW.plain ?_)
        refine RL.field rfl rfl rfl rfl fl40_0 rfl rfl ?_
        refine RL.load (j := 0) rfl rfl rfl rfl ty33 rfl (hR) (hg5.1) rfl ?_
        refine RL.callV rfl rfl rfl rfl rfl ca18 (dKnown_ct hg5) ?_
        rintro v6 w6 hg6 hax6 rfl
        refine ⟨trivial, ?_⟩
        refine RL.pure rfl rfl rfl rfl ?_
        refine RL.done ?_
        have hin := hg6.1
        have hax6 := hax2.trans (hax3.trans (hax4.trans (hax5.trans hax6)))
        have hnew : (node7 frm && !((l.take k).any (badW frm) || badW frm x)) = ((node7 frm && !(l.take k).any (badW frm)) && !badW frm x) := by simp [Bool.not_or, Bool.and_assoc]
        rw [hany, hnew]
        generalize (node7 frm && !(l.take k).any (badW frm)) = ok at *
        refine CW.plain ?_
        refine RL.pure rfl rfl rfl rfl ?_
        refine RL.pure rfl rfl rfl rfl ?_
        refine RL.part 42 rfl (fun h42 => ?_) (fun h42 => ?_)
        · refine RL.field rfl rfl rfl rfl fl40_1 rfl rfl ?_
          refine RL.load (j := 1) rfl rfl rfl rfl ty3 rfl (hR) (hin) rfl ?_
          refine RL.pure rfl rfl rfl rfl ?_
          refine RL.pure rfl rfl rfl rfl ?_
          refine RL.pure rfl rfl rfl rfl ?_
          refine RL.pure rfl rfl rfl rfl ?_
          refine RL.part 48 rfl (fun h48 => ?_) (fun h48 => ?_)
          · refine RL.pure rfl rfl rfl rfl ?_
            refine RL.pure rfl rfl rfl rfl ?_
            refine RL.pure rfl rfl rfl rfl ?_
            refine RL.part 51 rfl (fun h51 => ?_) (fun h51 => ?_)
            · refine RL.field rfl rfl rfl rfl fl40_2 rfl rfl ?_
              refine RL.load (j := 2) rfl rfl rfl rfl ty3 rfl (hR) (hin) rfl ?_
              refine RL.pure rfl rfl rfl rfl ?_
              refine RL.pure rfl rfl rfl rfl ?_
              refine RL.pure rfl rfl rfl rfl ?_
              refine RL.pure rfl rfl rfl rfl ?_
              refine RL.part 57 rfl (fun h57 => ?_) (fun h57 => ?_)
              · refine RL.pure rfl rfl rfl rfl ?_
                refine RL.pure rfl rfl rfl rfl ?_
                refine RL.pure rfl rfl rfl rfl ?_
                refine RL.done ?_
                exact fun ac ha => ⟨[(0, i64 frm), (1, .slice la l.length lc), (6, .bool (ok && !badW frm x)), (7, i64 k)], ha.sub ⟨rfl, rfl, congrArg some (congrArg Value.bool (by simp_all [badW])), rfl, trivial⟩, rfl, hg6.drop, hax6⟩
              · refine RL.pass rfl rfl rfl ?_
                refine RL.pure rfl rfl rfl rfl ?_
                refine RL.pure rfl rfl rfl rfl ?_
                refine RL.done ?_
                exact fun ac ha => ⟨[(0, i64 frm), (1, .slice la l.length lc), (6, .bool (ok && !badW frm x)), (7, i64 k)], ha.sub ⟨rfl, rfl, congrArg some (congrArg Value.bool (by simp_all [badW])), rfl, trivial⟩, rfl, hg6.drop, hax6⟩
            · refine RL.pass rfl rfl rfl ?_
              refine RL.pass rfl rfl rfl ?_
              refine RL.pass rfl rfl rfl ?_
              refine RL.pass rfl rfl rfl ?_
              refine RL.pure rfl rfl rfl rfl ?_
              refine RL.pure rfl rfl rfl rfl ?_
              refine RL.pass rfl rfl rfl ?_
              refine RL.pure rfl rfl rfl rfl ?_
              refine RL.pure rfl rfl rfl rfl ?_
              refine RL.done ?_
              exact fun ac ha => ⟨[(0, i64 frm), (1, .slice la l.length lc), (6, .bool (ok && !badW frm x)), (7, i64 k)], ha.sub ⟨rfl, rfl, congrArg some (congrArg Value.bool (by simp_all [badW])), rfl, trivial⟩, rfl, hg6.drop, hax6⟩
          · refine RL.pass rfl rfl rfl ?_
            refine RL.pure rfl rfl rfl rfl ?_
            refine RL.pure rfl rfl rfl rfl ?_
            refine RL.pass rfl rfl rfl ?_
            refine RL.pass rfl rfl rfl ?_
            refine RL.pass rfl rfl rfl ?_
            refine RL.pass rfl rfl rfl ?_
            refine RL.pure rfl rfl rfl rfl ?_
            refine RL.pure rfl rfl rfl rfl ?_
            refine RL.pass rfl rfl rfl ?_
            refine RL.pure rfl rfl rfl rfl ?_
            refine RL.pure rfl rfl rfl rfl ?_
            refine RL.done ?_
            exact fun ac ha => ⟨[(0, i64 frm), (1, .slice la l.length lc), (6, .bool (ok && !badW frm x)), (7, i64 k)], ha.sub ⟨rfl, rfl, congrArg some (congrArg Value.bool (by simp_all [badW])), rfl, trivial⟩, rfl, hg6.drop, hax6⟩
        · refine RL.pass rfl rfl rfl ?_
          refine RL.pass rfl rfl rfl ?_
          refine RL.pass rfl rfl rfl ?_
          refine RL.pass rfl rfl rfl ?_
          refine RL.pure rfl rfl rfl rfl ?_
          refine RL.pure rfl rfl rfl rfl ?_
          refine RL.pass rfl rfl rfl ?_
          refine RL.pure rfl rfl rfl rfl ?_
          refine RL.pure rfl rfl rfl rfl ?_
          refine RL.pass rfl rfl rfl ?_
          refine RL.pass rfl rfl rfl ?_
          refine RL.pass rfl rfl rfl ?_
          refine RL.pass rfl rfl rfl ?_
          refine RL.pure rfl rfl rfl rfl ?_
          refine RL.pure rfl rfl rfl rfl ?_
          refine RL.pass rfl rfl rfl ?_
          refine RL.pure rfl rfl rfl rfl ?_
          refine RL.pure rfl rfl rfl rfl ?_
          refine RL.done ?_
          exact fun ac ha => ⟨[(0, i64 frm), (1, .slice la l.length lc), (6, .bool (ok && !badW frm x)), (7, i64 k)], ha.sub ⟨rfl, rfl, congrArg some (congrArg Value.bool (by simp_all [badW])), rfl, trivial⟩, rfl, hg6.drop, hax6⟩
      rintro E w7 ⟨rfl, hg7, hax7⟩
      refine CW.plain ?_
      refine RL.pure rfl rfl rfl rfl ?_
      refine RL.add rfl rfl rfl rfl rfl rfl (by simp only [rng] at *; omega) ?_
      refine RL.pure rfl rfl rfl rfl ?_
      refine RL.done ?_
      cases j with
      | zero => omega
      | succ j => exact fun ac ha => ⟨j, [(0, i64 frm), (1, .slice la l.length lc), (6, .bool (node7 frm && !(l.take (k + 1)).any (badW frm))), (7, i64 ((k + 1 : Nat) : Int))], ha.sub ⟨rfl, rfl, rfl, rfl, trivial⟩, ⟨k + 1, rfl, hg7, hax7, by omega⟩, Nat.lt_succ_self j⟩
    · have hkl : k = l.length := by omega
      rw [hkl, List.take_length]
      exact fun ac ha => ⟨[(0, i64 frm), (1, .slice la l.length lc), (6, .bool (node7 frm && !l.any (badW frm)))], ha.sub ⟨rfl, rfl, rfl, trivial⟩, rfl, hg2, hax2⟩
  rintro E w3 ⟨rfl, hg3, hax3⟩
  refine CW.seq (CW.seq (CW.plain ?_))
  refine RL.pure rfl rfl rfl rfl ?_
  refine RL.pure rfl rfl rfl rfl ?_
  refine RL.done ?_
  refine CW.cond rfl (fun hbad => CW.seq (CW.plain ?_)) (fun hok => CW.skip ?_)
  · refine RL.pure rfl rfl rfl rfl ?_
    refine RL.pure rfl rfl rfl rfl ?_
    refine RL.done ?_
    refine CW.ret (ret (vs := [_, _]) ⟨_, _, rfl, rfl, _, _, rfl, rfl, rfl⟩ (Post.mk (Le.refl _) hg3.nil hax3 ?_))
    have hp : packP frm l = ([], 1) := by
      rw [packP, if_pos]
      cases h1 : node7 frm <;> simp_all
    rw [hp]
    exact PackEnd.bad
  have hok : node7 frm = true ∧ l.any (badW frm) = false := by cases h1 : node7 frm <;> cases h2 : l.any (badW frm) <;> simp_all
  obtain ⟨ok1, ok2⟩ := hok
  refine CW.less (E' := [(0, i64 frm), (1, .slice la l.length lc)]) ⟨rfl, rfl, trivial⟩ ?_
  refine CW.seq (CW.plain ?_)
  refine RL.pure rfl rfl rfl rfl ?_
  refine RL.len rfl rfl rfl rfl sl22 rfl ?_
  refine RL.pure rfl rfl rfl rfl ?_
  refine RL.pure rfl rfl rfl rfl ?_
  refine RL.done ?_
  refine CW.meet (fun E w' => E = [(0, i64 frm), (1, .slice la l.length lc), (11, .bool (decide ((l.length : Int) > 4096) || l.any fun x => longP x.msg))] ∧ Good w' s os ∧ Aux w w') ?_ ?_
  · refine CW.seq (CW.plain ?_)
    refine RL.pure rfl rfl rfl rfl ?_
    refine RL.done ?_
    refine CW.block (CW.loop (σ := Nat) (fun j E w' => ∃ k : Nat, E = [(0, i64 frm), (1, .slice la l.length lc), (11, .bool (decide ((l.length : Int) > 4096) || (l.take k).any fun x => longP x.msg)), (12, i64 k)] ∧ Good w' s os ∧ Aux w w' ∧ k + j = l.length)
      (fun j => j) l.length [(0, i64 frm), (1, .slice la l.length lc), (11, .bool (decide ((l.length : Int) > 4096) || (l.take 0).any fun x => longP x.msg)), (12, i64 0)] ⟨rfl, rfl, (congrArg some (congrArg Value.bool (by simp))), rfl, trivial⟩ ⟨0, rfl, hg3, hax3, by omega⟩ ?_)
    rintro j E w4 ⟨k, rfl, hg4, hax4, hk⟩
    refine CW.seq (CW.seq (CW.plain ?_))
    refine RL.pure rfl rfl rfl rfl ?_
    refine RL.pure rfl rfl rfl rfl ?_
    refine RL.len rfl rfl rfl rfl sl22 rfl ?_
    refine RL.pure rfl rfl rfl rfl ?_
    refine RL.done ?_
    refine CW.test rfl (fun h => CW.skip ?_) (fun h => CW.exit ?_)
    · have hkl : k < l.length := by omega
      have ek : l[((k : Nat) : Int).toNat]'(by omega) = l[k] := by simp
      have hany := any_take1 (fun x : Wire => longP x.msg) l k hkl
      refine CW.meet (fun E w' => E = [(0, i64 frm), (1, .slice la l.length lc), (11, .bool (decide ((l.length : Int) > 4096) || (l.take (k + 1)).any fun x => longP x.msg)), (12, i64 k)] ∧ Good w' s os ∧ Aux w w') ?_ ?_
      · refine CW.block (CW.seq (CW.plain ?_))
        refine RL.pure rfl rfl rfl rfl ?_
        refine RL.pure rfl rfl rfl rfl ?_
        refine RL.idx rfl rfl rfl rfl sl22 rfl rfl (hl) (by omega) (by omega) ?_
        rintro q vs hvl hHe hre
        refine RL.field rfl rfl rfl rfl fl42_1 rfl rfl ?_
        rw [ek] at hre
        generalize he : l[k] = x at hre hany
        obtain ⟨y, rfl, hgr, ho⟩ := id hre
        refine RL.loads (j := 1) (us := (msgV x.msg y)) rfl rfl rfl rfl ty40 rfl (hHe) (hg4.sh) rfl rfl ?_
        refine RL.callV rfl rfl rfl rfl rfl ca19 (dLong_ct hg4 ⟨y, rfl, ho⟩) ?_
        rintro v5 w5 hg5 hax5 rfl
        refine ⟨trivial, ?_⟩
        refine RL.pure rfl rfl rfl rfl ?_
        refine RL.done ?_
        have hnew : (decide ((l.length : Int) > 4096) || ((l.take k).any (fun x => longP x.msg) || longP x.msg)) = ((decide ((l.length : Int) > 4096) || (l.take k).any fun x => longP x.msg) || longP x.msg) := by simp [Bool.or_assoc]
        rw [hany, hnew]
        generalize (decide ((l.length : Int) > 4096) || (l.take k).any fun x => longP x.msg) = much at *
        refine CW.plain ?_
        refine RL.pure rfl rfl rfl rfl ?_
        refine RL.pure rfl rfl rfl rfl ?_
        refine RL.part 78 rfl (fun h78 => ?_) (fun h78 => ?_)
        · refine RL.pass rfl rfl rfl ?_
          refine RL.pure rfl rfl rfl rfl ?_
          refine RL.pure rfl rfl rfl rfl ?_
          refine RL.done ?_
          exact fun ac ha => ⟨[(0, i64 frm), (1, .slice la l.length lc), (11, .bool (much || longP x.msg)), (12, i64 k)], ha.sub ⟨rfl, rfl, congrArg some (congrArg Value.bool (by simp_all)), rfl, trivial⟩, rfl, hg5, hax4.trans hax5⟩
        · refine RL.pure rfl rfl rfl rfl ?_
          refine RL.pure rfl rfl rfl rfl ?_
          refine RL.pure rfl rfl rfl rfl ?_
          refine RL.done ?_
          exact fun ac ha => ⟨[(0, i64 frm), (1, .slice la l.length lc), (11, .bool (much || longP x.msg)), (12, i64 k)], ha.sub ⟨rfl, rfl, congrArg some (congrArg Value.bool (by simp_all)), rfl, trivial⟩, rfl, hg5, hax4.trans hax5⟩
      rintro E w7 ⟨rfl, hg7, hax7⟩
      refine CW.plain ?_
      refine RL.pure rfl rfl rfl rfl ?_
      refine RL.add rfl rfl rfl rfl rfl rfl (by simp only [rng] at *; omega) ?_
      refine RL.pure rfl rfl rfl rfl ?_
      refine RL.done ?_
      cases j with
      | zero => omega
      | succ j => exact fun ac ha => ⟨j, [(0, i64 frm), (1, .slice la l.length lc), (11, .bool (decide ((l.length : Int) > 4096) || (l.take (k + 1)).any fun x => longP x.msg)), (12, i64 ((k + 1 : Nat) : Int))], ha.sub ⟨rfl, rfl, rfl, rfl, trivial⟩, ⟨k + 1, rfl, hg7, hax7, by omega⟩, Nat.lt_succ_self j⟩
    · have hkl : k = l.length := by omega
      rw [hkl, List.take_length]
      exact fun ac ha => ⟨[(0, i64 frm), (1, .slice la l.length lc), (11, .bool (decide ((l.length : Int) > 4096) || l.any fun x => longP x.msg))], ha.sub ⟨rfl, rfl, rfl, trivial⟩, rfl, hg4, hax4⟩
  rintro E w5 ⟨rfl, hg5, hax5⟩
  refine CW.seq (CW.seq (CW.plain ?_))
  refine RL.pure rfl rfl rfl rfl ?_
  refine RL.done ?_
  refine CW.cond rfl (fun hbad => CW.seq (CW.plain ?_)) (fun hmany => CW.skip ?_)
  · refine RL.pure rfl rfl rfl rfl ?_
    refine RL.pure rfl rfl rfl rfl ?_
    refine RL.done ?_
    refine CW.ret (ret (vs := [_, _]) ⟨_, _, rfl, rfl, _, _, rfl, rfl, rfl⟩ (Post.mk (Le.refl _) hg5.nil hax5 ?_))
    have hp : packP frm l = ([], 2) := by
      rw [packP, if_neg (by simp [ok1, ok2]), if_pos]
      rcases (Bool.or_eq_true _ _).mp hbad with h | h
      · exact .inl (by have := of_decide_eq_true h; omega)
      · exact .inr h
    rw [hp]
    exact PackEnd.bad
  have hp : packP frm l = (packUp frm l 7, 0) := by
    rw [packP, if_neg (by simp [ok1, ok2]), if_neg]
    obtain ⟨h1, h2⟩ := (Bool.or_eq_false_iff).1 hmany
    have h1 := of_decide_eq_false h1
    rintro (h | h)
    · omega
    · rw [h2] at h; cases h
  rw [hp]
  refine CW.less (E' := [(0, i64 frm), (1, .slice la l.length lc)]) ⟨rfl, rfl, trivial⟩ ?_
  refine CW.seq (CW.plain ?_)
  refine RL.pure rfl rfl rfl rfl ?_
  refine RL.done ?_
  refine CW.seq (CW.seq (CW.plain ?_))
  refine RL.pure rfl rfl rfl rfl ?_
  refine RL.done ?_
  refine CW.block (CW.loop (σ := Nat) (fun j E w' => ∃ s' O ao co, ∃ m : Nat, E = [(0, i64 frm), (1, .slice la l.length lc), (14, .slice ao (packUp frm l m).length co), (15, i64 ((m : Int) + 1))] ∧ Good w' s' (O :: os) ∧ Le s s' ∧ Aux w w' ∧ Own RPacket 4 46 s' O ao co (packUp frm l m) ∧ m + j = 7)
    (fun j => j) 7 [(0, i64 frm), (1, .slice la l.length lc), (14, nilSl), (15, i64 1)] ⟨rfl, rfl, rfl, rfl, trivial⟩ ⟨s, Res.nil, none, 0, 0, rfl, hg5.nil, Le.refl _, hax5, .inl ⟨rfl, rfl, rfl⟩, rfl⟩ ?_)
  clear hg1 hg3 hg5
  rintro j E w6 ⟨s6, O6, ao, co, m, rfl, hg6, hle6, hax6, ho6, hm⟩
  have hul := packUp_le frm l m
  refine CW.seq (CW.seq (CW.plain ?_))
  refine RL.pure rfl rfl rfl rfl ?_
  refine RL.pure rfl rfl rfl rfl ?_
  refine RL.done ?_
  refine CW.test rfl (fun h => CW.skip ?_) (fun h => CW.exit ?_)
  · have hm7 : m < 7 := by omega
    obtain ⟨F, hF⟩ : ∃ F : Nat → Int → List Wire, F = fun k kind => (l.take k).filter (mine ((m : Int) + 1) kind) := ⟨_, rfl⟩
    have F0 : ∀ kind, F 0 kind = [] := fun kind => by rw [hF]; rfl
    have FS : ∀ k (hk : k < l.length) kind, F (k + 1) kind = F k kind ++ if mine ((m : Int) + 1) kind l[k] = true then [l[k]] else [] := fun k hk kind => by
      rw [hF]; exact filter_take1 _ l k hk
    have FL : ∀ kind, packTo frm l ((m : Int) + 1) kind = if F l.length kind = [] then [] else [⟨frm, (m : Int) + 1, kind, encU (F l.length kind).length ++ encWs (F l.length kind)⟩] := fun kind => by
      rw [hF]; simp only [List.take_length]; rfl
    have FB : ∀ k (hk : k < l.length) kind, bulkW (F k kind) + l[k].bulk ≤ bulkW l := fun k hk kind => by
      have h1 := bulkW_filter (mine ((m : Int) + 1) kind) (l.take k)
      have h2 := bulkW_at l k hk
      rw [hF]; simp only; omega
    have FE : ∀ kind, (encWs (F l.length kind)).length ≤ bulkW l := fun kind => by
      have h1 := bulkW_filter (mine ((m : Int) + 1) kind) (l.take l.length)
      have h2 := bulkW_take l l.length
      have h3 := encWs_length (F l.length kind)
      rw [hF] at h3 ⊢; simp only at h3 ⊢; omega
    have FN : ∀ k kind, (F k kind).length ≤ l.length := fun k kind => by
      rw [hF]; exact Nat.le_trans (List.length_filter_le _ _) (by rw [List.length_take]; omega)
    have hll := hl.le_max
    simp only [maxLen] at hll
    clear hF
    refine CW.meet (fun E w' => ∃ s' O ao co, E = [(0, i64 frm), (1, .slice la l.length lc), (14, .slice ao (packUp frm l (m + 1)).length co), (15, i64 ((m : Int) + 1))] ∧ Good w' s' (O :: os) ∧ Le s6 s' ∧ Aux w w' ∧ Own RPacket 4 46 s' O ao co (packUp frm l (m + 1))) ?_ ?_
    · refine CW.block (CW.seq (CW.plain ?_))
      refine RL.pure rfl rfl rfl rfl ?_
      refine RL.done ?_
      refine CW.seq (CW.plain ?_)
      refine RL.pure rfl rfl rfl rfl ?_
      refine RL.done ?_
      refine CW.seq (CW.plain ?_)
      refine RL.pure rfl rfl rfl rfl ?_
      refine RL.done ?_
      refine CW.seq (CW.plain ?_)
      refine RL.pure rfl rfl rfl rfl ?_
      refine RL.done ?_
      refine CW.meet (fun E w' => ∃ s' One Two a2 c2 a1 c1, E = [(0, i64 frm), (1, .slice la l.length lc), (14, .slice ao (packUp frm l m).length co), (15, i64 ((m : Int) + 1)), (16, i64 (F l.length 2).length), (17, i64 (F l.length 1).length), (18, .slice a2 (encWs (F l.length 2)).length c2), (19, .slice a1 (encWs (F l.length 1)).length c1)] ∧ Good w' s' (One :: Two :: O6 :: os) ∧ Le s6 s' ∧ Aux w w' ∧ Own (RInt .u8) 1 5 s' One a2 c2 (encWs (F l.length 2)) ∧ Own (RInt .u8) 1 5 s' Two a1 c1 (encWs (F l.length 1))) ?_ ?_
      · refine CW.seq (CW.plain ?_)
        refine RL.pure rfl rfl rfl rfl ?_
        refine RL.done ?_
        refine CW.block (CW.loop (σ := Nat) (fun i E w' => ∃ s' One Two a2 c2 a1 c1, ∃ k : Nat, E = [(0, i64 frm), (1, .slice la l.length lc), (14, .slice ao (packUp frm l m).length co), (15, i64 ((m : Int) + 1)), (16, i64 (F k 2).length), (17, i64 (F k 1).length), (18, .slice a2 (encWs (F k 2)).length c2), (19, .slice a1 (encWs (F k 1)).length c1), (20, i64 k)] ∧ Good w' s' (One :: Two :: O6 :: os) ∧ Le s6 s' ∧ Aux w w' ∧ Own (RInt .u8) 1 5 s' One a2 c2 (encWs (F k 2)) ∧ Own (RInt .u8) 1 5 s' Two a1 c1 (encWs (F k 1)) ∧ k + i = l.length)
          (fun i => i) l.length [(0, i64 frm), (1, .slice la l.length lc), (14, .slice ao (packUp frm l m).length co), (15, i64 ((m : Int) + 1)), (16, i64 0), (17, i64 0), (18, nilSl), (19, nilSl), (20, i64 0)] ⟨rfl, rfl, rfl, rfl, rfl, rfl, rfl, rfl, rfl, trivial⟩ ⟨s6, Res.nil, Res.nil, none, 0, none, 0, 0, by rw [F0, F0]; rfl, hg6.nil.nil, Le.refl _, hax6, by rw [F0]; exact .inl ⟨rfl, rfl, rfl⟩, by rw [F0]; exact .inl ⟨rfl, rfl, rfl⟩, by omega⟩ ?_)
        rintro i E w8 ⟨s8, One, Two, a2, c2, a1, c1, k, rfl, hg8, hle8, hax8, o2, o1, hk⟩
        refine CW.seq (CW.seq (CW.plain ?_))
        refine RL.pure rfl rfl rfl rfl ?_
        refine RL.pure rfl rfl rfl rfl ?_
        refine RL.len rfl rfl rfl rfl sl22 rfl ?_
        refine RL.pure rfl rfl rfl rfl ?_
        refine RL.done ?_
        refine CW.test rfl (fun h => CW.skip ?_) (fun h => CW.exit ?_)
        · have hkl : k < l.length := by omega
          have ek : l[((k : Nat) : Int).toNat]'(by omega) = l[k] := by simp
          have hl8 := hl.up RWire.up (hle6.trans hle8)
          have S2 := FS k hkl 2
          have S1 := FS k hkl 1
          have B2 := FB k hkl 2
          have B1 := FB k hkl 1
          have N2 := FN k 2
          have N1 := FN k 1
          have L2 := encWs_length (F k 2)
          have L1 := encWs_length (F k 1)
          have hxf := hfit l[k] (List.getElem_mem hkl)
          refine CW.meet (fun E w' => ∃ s' One Two a2 c2 a1 c1, E = [(0, i64 frm), (1, .slice la l.length lc), (14, .slice ao (packUp frm l m).length co), (15, i64 ((m : Int) + 1)), (16, i64 (F (k + 1) 2).length), (17, i64 (F (k + 1) 1).length), (18, .slice a2 (encWs (F (k + 1) 2)).length c2), (19, .slice a1 (encWs (F (k + 1) 1)).length c1), (20, i64 k)] ∧ Good w' s' (One :: Two :: O6 :: os) ∧ Le s6 s' ∧ Aux w w' ∧ Own (RInt .u8) 1 5 s' One a2 c2 (encWs (F (k + 1) 2)) ∧ Own (RInt .u8) 1 5 s' Two a1 c1 (encWs (F (k + 1) 1))) ?_ ?_
          · refine CW.block (CW.seq (CW.seq (CW.plain ?_)))
            refine RL.pure rfl rfl rfl rfl ?_
            refine RL.pure rfl rfl rfl rfl ?_
            refine RL.idx rfl rfl rfl rfl sl22 rfl rfl (hl8) (by omega) ((by omega)) ?_
            rintro q vs hvl hHe hre
            refine RL.field rfl rfl rfl rfl fl42_1 rfl rfl ?_
            refine RL.field rfl rfl rfl rfl fl40_2 rfl rfl ?_
            rw [ek] at hre
            generalize he : l[k] = x at hre S2 S1 B2 B1 hxf
            obtain ⟨y, rfl, hgr, ho⟩ := id hre
            refine RL.load (j := 3) rfl rfl rfl rfl ty3 rfl (hHe) (hg8.sh) rfl ?_
            refine RL.pure rfl rfl rfl rfl ?_
            refine RL.pure rfl rfl rfl rfl ?_
            refine RL.done ?_
            refine CW.cond rfl (fun hne => CW.exit ?_) (fun hto => CW.skip ?_)
            · have hne : x.msg.to ≠ (m : Int) + 1 := by simpa using hne
              rw [if_neg (by simp [mine, hne]), List.append_nil] at S2 S1
              rw [← S2] at o2
              rw [← S1] at o1
              exact fun ac ha => ⟨[(0, i64 frm), (1, .slice la l.length lc), (14, .slice ao (packUp frm l m).length co), (15, i64 ((m : Int) + 1)), (16, i64 (F (k + 1) 2).length), (17, i64 (F (k + 1) 1).length), (18, .slice a2 (encWs (F (k + 1) 2)).length c2), (19, .slice a1 (encWs (F (k + 1) 1)).length c1), (20, i64 k)], ha.sub (by rw [S2, S1]; exact ⟨rfl, rfl, rfl, rfl, rfl, rfl, rfl, rfl, rfl, trivial⟩), s8, One, Two, a2, c2, a1, c1, rfl, hg8, hle8, hax8, o2, o1⟩
            have hto : x.msg.to = (m : Int) + 1 := by simpa using hto
            refine CW.seq (CW.plain ?_)
            refine RL.pure rfl rfl rfl rfl ?_
            refine RL.pure rfl rfl rfl rfl ?_
            refine RL.idx rfl rfl rfl rfl sl22 rfl rfl (hl8) (by omega) ((by omega)) ?_
            rintro q2 vs2 hvl2 hHe2 hre2
            refine RL.field rfl rfl rfl rfl fl42_1 rfl rfl ?_
            rw [ek, he] at hre2
            obtain ⟨y2, rfl, _, ho2⟩ := id hre2
            refine RL.loads (j := 1) (us := (msgV x.msg y2)) rfl rfl rfl rfl ty40 rfl (hHe2) (hg8.sh) rfl rfl ?_
            refine RL.callV rfl rfl rfl rfl rfl ca10 (dIs_ct hg8 ⟨y2, rfl, ho2⟩ hxf) ?_
            rintro v9 w9 hg9 hax9 rfl
            refine ⟨trivial, ?_⟩
            refine RL.pure rfl rfl rfl rfl ?_
            refine RL.done ?_
            refine CW.seq (CW.plain ?_)
            refine RL.pure rfl rfl rfl rfl ?_
            refine RL.done ?_
            refine CW.cond rfl (fun his => CW.seq (CW.plain ?_)) (fun his => CW.seq (CW.plain ?_))
            · have hk2 : kindOf x.msg = 2 := if_pos his
              rw [if_pos (by simp [mine, hto, hk2])] at S2
              rw [if_neg (by simp [mine, hto, hk2]), List.append_nil] at S1
              have hW : encWs (F (k + 1) 2) = encWs (F k 2) ++ encBeatD x := by rw [S2, encWs_append, encWs_one, encW, if_pos his, encBeatD_eq his]
              have hE := encBeat_length x
              rw [← encBeatD_eq his] at hE
              refine RL.pure rfl rfl rfl rfl ?_
              refine RL.add rfl rfl rfl rfl rfl rfl (by simp only [rng] at *; omega) ?_
              refine RL.pure rfl rfl rfl rfl ?_
              refine RL.done ?_
              refine CW.plain ?_
              refine RL.pure rfl rfl rfl rfl ?_
              refine RL.pure rfl rfl rfl rfl ?_
              refine RL.pure rfl rfl rfl rfl ?_
              refine RL.idx rfl rfl rfl rfl sl22 rfl rfl (hl8) (by omega) ((by omega)) ?_
              rintro q3 vs3 hvl3 hHe3 hre3
              rw [ek, he] at hre3
              obtain ⟨y3, rfl, _, _⟩ := id hre3
              refine RL.loads (j := 0) (us := (wireV x y3)) rfl rfl rfl rfl ty42 rfl (hHe3) (hg9.sh) rfl rfl ?_
              refine RL.call rfl rfl rfl rfl rfl ca20 (dBeat_ct hg9 hre3) ?_
              rintro r10 s10 B10 w10 hle10 hgb10 haxb10 ⟨ab10, cb10, rfl, hB10⟩
              refine ⟨trivial, ?_⟩
              obtain ⟨news10, hsrc10, hch10⟩ := Src.own sl38 hB10 hgb10.1
              refine RL.append (i := 1) (ys := encBeatD x) rfl rfl rfl rfl sl38 ze5 rfl (by first | exact RInt.one _ | exact RStr.one | exact RBool.one | assumption) rfl rfl hgb10 rfl (o2.up (RInt.up _) hle10) (hsrc10) (hch10) ((by omega)) (by omega) ?_
              rintro ai10 ci10 A10 wi10 hgc10 hown10 haxc10 hk10
              refine ⟨trivial, ?_⟩
              refine RL.pure rfl rfl rfl rfl ?_
              refine RL.done ?_
              rw [← hW] at hown10 ⊢
              rw [← S1] at o1
              exact fun ac ha => ⟨[(0, i64 frm), (1, .slice la l.length lc), (14, .slice ao (packUp frm l m).length co), (15, i64 ((m : Int) + 1)), (16, i64 (F (k + 1) 2).length), (17, i64 (F (k + 1) 1).length), (18, .slice ai10 (encWs (F (k + 1) 2)).length ci10), (19, .slice a1 (encWs (F (k + 1) 1)).length c1), (20, i64 k)], ha.sub ⟨rfl, rfl, rfl, rfl, (congrArg some (congrArg (Value.int .i64) (by rw [S2]; simp))), by rw [S1]; rfl, rfl, by rw [S1]; rfl, rfl, trivial⟩, s10, A10, Two, ai10, ci10, a1, c1, rfl, hgc10.drop, hle8.trans hle10, hax8.trans (hax9.trans (haxb10.trans haxc10)), hown10, o1.up (RInt.up _) hle10⟩
            · have hk1 : kindOf x.msg = 1 := if_neg (by rw [his]; decide)
              rw [if_pos (by simp [mine, hto, hk1])] at S1
              rw [if_neg (by simp [mine, hto, hk1]), List.append_nil] at S2
              have hW : encWs (F (k + 1) 1) = encWs (F k 1) ++ encFull x := by rw [S1, encWs_append, encWs_one, encW, if_neg (by rw [his]; decide)]
              have hE := encFull_length x
              refine RL.pure rfl rfl rfl rfl ?_
              refine RL.add rfl rfl rfl rfl rfl rfl (by simp only [rng] at *; omega) ?_
              refine RL.pure rfl rfl rfl rfl ?_
              refine RL.done ?_
              refine CW.plain ?_
              refine RL.pure rfl rfl rfl rfl ?_
              refine RL.pure rfl rfl rfl rfl ?_
              refine RL.pure rfl rfl rfl rfl ?_
              refine RL.idx rfl rfl rfl rfl sl22 rfl rfl (hl8) (by omega) ((by omega)) ?_
              rintro q3 vs3 hvl3 hHe3 hre3
              rw [ek, he] at hre3
              obtain ⟨y3, rfl, _, _⟩ := id hre3
              refine RL.loads (j := 0) (us := (wireV x y3)) rfl rfl rfl rfl ty42 rfl (hHe3) (hg9.sh) rfl rfl ?_
              refine RL.call rfl rfl rfl rfl rfl ca21 (dFull_ct hg9 hre3 (by omega)) ?_
              rintro r10 s10 B10 w10 hle10 hgb10 haxb10 ⟨ab10, cb10, rfl, hB10⟩
              refine ⟨trivial, ?_⟩
              obtain ⟨news10, hsrc10, hch10⟩ := Src.own sl38 hB10 hgb10.1
              refine RL.append (i := 2) (ys := encFull x) rfl rfl rfl rfl sl38 ze5 rfl (by first | exact RInt.one _ | exact RStr.one | exact RBool.one | assumption) rfl rfl hgb10 rfl (o1.up (RInt.up _) hle10) (hsrc10) (hch10) ((by omega)) (by omega) ?_
              rintro ai10 ci10 A10 wi10 hgc10 hown10 haxc10 hk10
              refine ⟨trivial, ?_⟩
              refine RL.pure rfl rfl rfl rfl ?_
              refine RL.done ?_
              rw [← hW] at hown10 ⊢
              rw [← S2] at o2
              exact fun ac ha => ⟨[(0, i64 frm), (1, .slice la l.length lc), (14, .slice ao (packUp frm l m).length co), (15, i64 ((m : Int) + 1)), (16, i64 (F (k + 1) 2).length), (17, i64 (F (k + 1) 1).length), (18, .slice a2 (encWs (F (k + 1) 2)).length c2), (19, .slice ai10 (encWs (F (k + 1) 1)).length ci10), (20, i64 k)], ha.sub ⟨rfl, rfl, rfl, rfl, by rw [S2]; rfl, (congrArg some (congrArg (Value.int .i64) (by rw [S1]; simp))), by rw [S2]; rfl, rfl, rfl, trivial⟩, s10, One, A10, a2, c2, ai10, ci10, rfl, hgc10.drop, hle8.trans hle10, hax8.trans (hax9.trans (haxb10.trans haxc10)), o2.up (RInt.up _) hle10, hown10⟩
          rintro E w9 ⟨s9, One9, Two9, a2', c2', a1', c1', rfl, hg9, hle9, hax9, o2', o1'⟩
          refine CW.plain ?_
          refine RL.pure rfl rfl rfl rfl ?_
          refine RL.add rfl rfl rfl rfl rfl rfl (by simp only [rng] at *; omega) ?_
          refine RL.pure rfl rfl rfl rfl ?_
          refine RL.done ?_
          cases i with
          | zero => omega
          | succ i => exact fun ac ha => ⟨i, [(0, i64 frm), (1, .slice la l.length lc), (14, .slice ao (packUp frm l m).length co), (15, i64 ((m : Int) + 1)), (16, i64 (F (k + 1) 2).length), (17, i64 (F (k + 1) 1).length), (18, .slice a2' (encWs (F (k + 1) 2)).length c2'), (19, .slice a1' (encWs (F (k + 1) 1)).length c1'), (20, i64 ((k + 1 : Nat) : Int))], ha.sub ⟨rfl, rfl, rfl, rfl, rfl, rfl, rfl, rfl, rfl, trivial⟩, ⟨s9, One9, Two9, a2', c2', a1', c1', k + 1, rfl, hg9, hle9, hax9, o2', o1', by omega⟩, Nat.lt_succ_self i⟩
        · have hkl : k = l.length := by omega
          rw [hkl] at o2 o1 ⊢
          exact fun ac ha => ⟨[(0, i64 frm), (1, .slice la l.length lc), (14, .slice ao (packUp frm l m).length co), (15, i64 ((m : Int) + 1)), (16, i64 (F l.length 2).length), (17, i64 (F l.length 1).length), (18, .slice a2 (encWs (F l.length 2)).length c2), (19, .slice a1 (encWs (F l.length 1)).length c1)], ha.sub ⟨rfl, rfl, rfl, rfl, rfl, rfl, rfl, rfl, trivial⟩, s8, One, Two, a2, c2, a1, c1, rfl, hg8, hle8, hax8, o2, o1⟩
      rintro E w9 ⟨s9, One, Two, a2, c2, a1, c1, rfl, hg9, hle9, hax9, o2, o1⟩
      have ho9 := ho6.up RPacket.up hle9
      have E2 := FE 2
      have E1 := FE 1
      have N2 := FN l.length 2
      have N1 := FN l.length 1
      have U2 := encU_length ((F l.length 2).length : Int)
      have U1 := encU_length ((F l.length 1).length : Int)
      have P2 := packTo_le frm l ((m : Int) + 1) 2
      refine CW.meet (fun E w' => ∃ s' Two O ao co, E = [(0, i64 frm), (1, .slice la l.length lc), (14, .slice ao (packUp frm l m ++ packTo frm l ((m : Int) + 1) 2).length co), (15, i64 ((m : Int) + 1)), (17, i64 (F l.length 1).length), (19, .slice a1 (encWs (F l.length 1)).length c1)] ∧ Good w' s' (Two :: O :: os) ∧ Le s9 s' ∧ Aux w w' ∧ Own (RInt .u8) 1 5 s' Two a1 c1 (encWs (F l.length 1)) ∧ Own RPacket 4 46 s' O ao co (packUp frm l m ++ packTo frm l ((m : Int) + 1) 2)) ?_ ?_
      · refine CW.seq (CW.plain ?_)
        refine RL.pure rfl rfl rfl rfl ?_
        refine RL.pure rfl rfl rfl rfl ?_
        refine RL.done ?_
        refine CW.test rfl (fun h => CW.plain ?_) (fun h => CW.skip ?_)
        · have e2 : packTo frm l ((m : Int) + 1) 2 = [⟨frm, (m : Int) + 1, 2, encU (F l.length 2).length ++ encWs (F l.length 2)⟩] := by rw [FL, if_neg (fun hn => by rw [hn] at h; simp at h)]
          refine RL.pure rfl rfl rfl rfl ?_
          refine RL.pure rfl rfl rfl rfl ?_
          refine RL.pure rfl rfl rfl rfl ?_
          refine RL.pure rfl rfl rfl rfl ?_
          refine RL.conv rfl rfl rfl rfl Try.underlying3 Try.underlying32 rfl ((by simp only [rng]; omega)) ?_
          refine RL.call rfl rfl rfl rfl rfl ca22 (rUint_ct (v := (F l.length 2).length) hg9 (by simp only [rng]; omega)) ?_
          rintro r10 s10 B10 w10 hle10 hgb10 haxb10 ⟨ab10, cb10, rfl, hB10⟩
          refine ⟨trivial, ?_⟩
          refine RL.pure rfl rfl rfl rfl ?_
          obtain ⟨news10, hsrc10, hch10⟩ := Src.own sl38 (o2.up (RInt.up _) hle10) hgb10.2.2.2.1
          refine RL.append (i := 0) (ys := (encWs (F l.length 2))) rfl rfl rfl rfl sl38 ze5 rfl (by first | exact RInt.one _ | exact RStr.one | exact RBool.one | assumption) rfl rfl hgb10 rfl hB10 (hsrc10) (hch10) ((by omega)) (by omega) ?_
          rintro ai10 ci10 A10 wi10 hgc10 hown10 haxc10 hk10
          refine ⟨trivial, ?_⟩
          refine RL.build rfl rfl rfl rfl ze46 pl46 rfl rfl ?_
          obtain ⟨s11, hg11, hle11, hq11⟩ := Good.letgo hgc10
          have him := hown10.imm (RInt.up _) hle11 hq11
          refine RL.buildSlice rfl rfl rfl rfl sl24 ze46 rfl rfl rfl rfl hg11 ?_
          rintro b12 w12 hg12 hax12
          refine ⟨trivial, ?_⟩
          refine RL.append (i := 3) (ys := [⟨frm, (m : Int) + 1, 2, encU (F l.length 2).length ++ encWs (F l.length 2)⟩]) rfl rfl rfl rfl sl24 ze46 rfl (by first | exact RInt.one _ | exact RStr.one | exact RBool.one | assumption) rfl rfl hg12 rfl ((ho9.up RPacket.up hle10).up RPacket.up hle11) ((Src.slice sl24 rfl (.inr ⟨_, rfl, Holds.one b12 _ 46⟩) hg12.1)) ((Chunks.single rfl ⟨ai10, ci10, rfl, hfr, by simp only [rng]; omega, by simp [rng], him⟩)) ((by simp; omega)) (by omega) ?_
          rintro ai13 ci13 A13 w13 hg13 hown13 hax13 hk13
          refine ⟨trivial, ?_⟩
          refine RL.pure rfl rfl rfl rfl ?_
          refine RL.done ?_
          rw [← e2] at hown13 ⊢
          exact fun ac ha => ⟨[(0, i64 frm), (1, .slice la l.length lc), (14, .slice ai13 (packUp frm l m ++ packTo frm l ((m : Int) + 1) 2).length ci13), (15, i64 ((m : Int) + 1)), (17, i64 (F l.length 1).length), (19, .slice a1 (encWs (F l.length 1)).length c1)], ha.sub ⟨rfl, rfl, rfl, rfl, rfl, rfl, trivial⟩, s11, Two, A13, ai13, ci13, rfl, hg13.drop.drop, hle10.trans hle11, hax9.trans (haxb10.trans (haxc10.trans (hax12.trans hax13))), (o1.up (RInt.up _) hle10).up (RInt.up _) hle11, hown13⟩
        · have hn : F l.length 2 = [] := List.length_eq_zero_iff.1 (by omega)
          have e2 : packTo frm l ((m : Int) + 1) 2 = [] := by rw [FL, if_pos hn]
          rw [e2, List.append_nil]
          exact fun ac ha => ⟨[(0, i64 frm), (1, .slice la l.length lc), (14, .slice ao (packUp frm l m).length co), (15, i64 ((m : Int) + 1)), (17, i64 (F l.length 1).length), (19, .slice a1 (encWs (F l.length 1)).length c1)], ha.sub ⟨rfl, rfl, rfl, rfl, rfl, rfl, trivial⟩, s9, Two, O6, ao, co, rfl, hg9.drop, Le.refl _, hax9, o1, ho9⟩
      rintro E w14 ⟨s14, Two14, O14, ao14, co14, rfl, hg14, hle14, hax14, o14, ho14⟩
      refine CW.seq (CW.plain ?_)
      refine RL.pure rfl rfl rfl rfl ?_
      refine RL.pure rfl rfl rfl rfl ?_
      refine RL.done ?_
      have hsucc : packUp frm l (m + 1) = packUp frm l m ++ packTo frm l ((m : Int) + 1) 2 ++ packTo frm l ((m : Int) + 1) 1 := (List.append_assoc _ _ _).symm
      have hpl : (packUp frm l m ++ packTo frm l ((m : Int) + 1) 2).length ≤ 100 := by rw [List.length_append]; omega
      refine CW.test rfl (fun h => CW.plain ?_) (fun h => CW.skip ?_)
      · have e1 : packTo frm l ((m : Int) + 1) 1 = [⟨frm, (m : Int) + 1, 1, encU (F l.length 1).length ++ encWs (F l.length 1)⟩] := by rw [FL, if_neg (fun hn => by rw [hn] at h; simp at h)]
        refine RL.pure rfl rfl rfl rfl ?_
        refine RL.pure rfl rfl rfl rfl ?_
        refine RL.pure rfl rfl rfl rfl ?_
        refine RL.pure rfl rfl rfl rfl ?_
        refine RL.conv rfl rfl rfl rfl Try.underlying3 Try.underlying32 rfl ((by simp only [rng]; omega)) ?_
        refine RL.call rfl rfl rfl rfl rfl ca22 (rUint_ct (v := (F l.length 1).length) hg14 (by simp only [rng]; omega)) ?_
        rintro r10 s10 B10 w10 hle10 hgb10 haxb10 ⟨ab10, cb10, rfl, hB10⟩
        refine ⟨trivial, ?_⟩
        refine RL.pure rfl rfl rfl rfl ?_
        obtain ⟨news10, hsrc10, hch10⟩ := Src.own sl38 (o14.up (RInt.up _) hle10) hgb10.2.2.2.1
        refine RL.append (i := 0) (ys := (encWs (F l.length 1))) rfl rfl rfl rfl sl38 ze5 rfl (by first | exact RInt.one _ | exact RStr.one | exact RBool.one | assumption) rfl rfl hgb10 rfl hB10 (hsrc10) (hch10) ((by omega)) (by omega) ?_
        rintro ai10 ci10 A10 wi10 hgc10 hown10 haxc10 hk10
        refine ⟨trivial, ?_⟩
        refine RL.build rfl rfl rfl rfl ze46 pl46 rfl rfl ?_
        obtain ⟨s11, hg11, hle11, hq11⟩ := Good.letgo hgc10
        have him := hown10.imm (RInt.up _) hle11 hq11
        refine RL.buildSlice rfl rfl rfl rfl sl24 ze46 rfl rfl rfl rfl hg11 ?_
        rintro b12 w12 hg12 hax12
        refine ⟨trivial, ?_⟩
        refine RL.append (i := 2) (ys := [⟨frm, (m : Int) + 1, 1, encU (F l.length 1).length ++ encWs (F l.length 1)⟩]) rfl rfl rfl rfl sl24 ze46 rfl (by first | exact RInt.one _ | exact RStr.one | exact RBool.one | assumption) rfl rfl hg12 rfl ((ho14.up RPacket.up hle10).up RPacket.up hle11) ((Src.slice sl24 rfl (.inr ⟨_, rfl, Holds.one b12 _ 46⟩) hg12.1)) ((Chunks.single rfl ⟨ai10, ci10, rfl, hfr, by simp only [rng]; omega, by simp [rng], him⟩)) ((by simp; omega)) (by omega) ?_
        rintro ai13 ci13 A13 w13 hg13 hown13 hax13 hk13
        refine ⟨trivial, ?_⟩
        refine RL.pure rfl rfl rfl rfl ?_
        refine RL.done ?_
        rw [← e1, ← hsucc] at hown13 ⊢
        exact fun ac ha => ⟨[(0, i64 frm), (1, .slice la l.length lc), (14, .slice ai13 (packUp frm l (m + 1)).length ci13), (15, i64 ((m : Int) + 1))], ha.sub ⟨rfl, rfl, rfl, rfl, trivial⟩, s11, A13, ai13, ci13, rfl, hg13.drop.drop, hle9.trans (hle14.trans (hle10.trans hle11)), hax14.trans (haxb10.trans (haxc10.trans (hax12.trans hax13))), hown13⟩
      · have hn : F l.length 1 = [] := List.length_eq_zero_iff.1 (by omega)
        have e1 : packTo frm l ((m : Int) + 1) 1 = [] := by rw [FL, if_pos hn]
        rw [e1, List.append_nil] at hsucc
        rw [← hsucc] at ho14 ⊢
        exact fun ac ha => ⟨[(0, i64 frm), (1, .slice la l.length lc), (14, .slice ao14 (packUp frm l (m + 1)).length co14), (15, i64 ((m : Int) + 1))], ha.sub ⟨rfl, rfl, rfl, rfl, trivial⟩, s14, O14, ao14, co14, rfl, hg14.drop, hle9.trans hle14, hax14, ho14⟩
    rintro E w20 ⟨s20, O20, ao20, co20, rfl, hg20, hle20, hax20, ho20⟩
    refine CW.plain ?_
    refine RL.pure rfl rfl rfl rfl ?_
    refine RL.add rfl rfl rfl rfl rfl rfl (by simp only [rng] at *; omega) ?_
    refine RL.pure rfl rfl rfl rfl ?_
    refine RL.done ?_
    cases j with
    | zero => omega
    | succ j => exact fun ac ha => ⟨j, [(0, i64 frm), (1, .slice la l.length lc), (14, .slice ao20 (packUp frm l (m + 1)).length co20), (15, i64 (((m + 1 : Nat) : Int) + 1))], ha.sub ⟨rfl, rfl, rfl, rfl, trivial⟩, ⟨s20, O20, ao20, co20, m + 1, rfl, hg20, hle6.trans hle20, hax20, ho20, by omega⟩, Nat.lt_succ_self j⟩
  · have hm7 : m = 7 := by omega
    rw [hm7] at ho6 ⊢
    refine CW.seq (CW.plain ?_)
    refine RL.pure rfl rfl rfl rfl ?_
    refine RL.pure rfl rfl rfl rfl ?_
    refine RL.pure rfl rfl rfl rfl ?_
    refine RL.done ?_
    exact CW.ret (ret (vs := [_, _]) ⟨_, _, rfl, rfl, _, _, rfl, rfl, rfl⟩ (Post.mk hle6 hg6 hax6 ⟨ao, co, rfl, ho6⟩))
end Go.Lw
