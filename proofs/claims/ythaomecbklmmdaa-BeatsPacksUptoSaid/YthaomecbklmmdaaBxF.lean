/-
  Beats: a message's bytes, by the document.
-/
import Derived.Test.YthaomecbklmmdaaBxP
namespace Go.Lw
open Go.Proofs
attribute [local irreducible] RL RA

def encBeatD (x : Wire) : List Int :=
  encU x.group ++ encB (decide (x.msg.kind = 6)) ++ encU x.msg.term ++ encU x.msg.index ++ if x.msg.kind = 6 then [] else encU x.msg.logTerm ++ encU x.msg.commit
theorem isP_kind {m : Msg} (h : isP m = true) : m.kind = 5 ∨ m.kind = 6 := by
  simp only [isP, Bool.and_eq_true, Bool.or_eq_true, decide_eq_true_eq] at h
  rcases h.2 with h | ⟨⟨h, _⟩, _⟩
  · exact .inl h
  · exact .inr h
theorem encBeatD_eq {x : Wire} (h : isP x.msg = true) : encBeatD x = encBeat x := by
  rcases isP_kind h with h | h <;> simp [encBeat, encBeatD, h]


set_option maxHeartbeats 1000000 in
set_option maxRecDepth 100000 in
theorem dBeat_ct {w : World} {s : Res} {os : List Res} {vs : List Value} {x : Wire} (hg : Good w s os) (hx : RWire s vs x) :
    Calls Try.prog 20 #[.agg vs.toArray] w (Post w s os fun s' A' r => BOwn s' A' r (encBeatD x)) := by
  obtain ⟨y, rfl, hgr, ho⟩ := hx
  have u1 := encU_length x.group
  have u2 := encU_length x.msg.term
  have u3 := encU_length x.msg.index
  have u4 := encU_length x.msg.logTerm
  have u5 := encU_length x.msg.commit
  have hbB : ∀ b, (encB b).length = 1 := fun b => rfl
  refine enter (l := [.agg (u64 x.group :: msgV x.msg y).toArray]) Try.func20 rfl Try.ntmps20 rfl ?_
  refine CW.seq (CW.plain ?_)
  refine RL.box rfl rfl rfl rfl rfl hg ?_
  rintro b w1 hgb hax1
  refine ⟨trivial, ?_⟩
  refine RL.pure rfl rfl rfl rfl ?_
  refine RL.done ?_
  obtain ⟨s1, hg1, hle1, hq1⟩ := Good.letgo hgb
  have hH : Holds s1 ⟨b, 0, none⟩ (u64 x.group :: msgV x.msg y) := (Holds.one b _ 42).le hq1
  refine CW.seq (CW.plain ?_)
  refine RL.field rfl rfl rfl rfl fl42_1 rfl rfl ?_
  refine RL.field rfl rfl rfl rfl fl40_0 rfl rfl ?_
  refine RL.load (j := 1) rfl rfl rfl rfl ty33 rfl (hH) (hg1.sh) rfl ?_
  refine RL.pure rfl rfl rfl rfl ?_
  refine RL.pure rfl rfl rfl rfl ?_
  refine RL.done ?_
  refine CW.seq (CW.plain ?_)
  refine RL.field rfl rfl rfl rfl fl42_0 rfl rfl ?_
  refine RL.load (j := 0) rfl rfl rfl rfl ty32 rfl (hH) (hg1.sh) rfl ?_
  refine RL.call rfl rfl rfl rfl rfl ca22 (rUint_ct hg1 hgr) ?_
  rintro r2 s2 A2 w2 hle2 hg2 hax2 ⟨a2, c2, rfl, hown2⟩
  refine ⟨trivial, ?_⟩
  refine RL.pure rfl rfl rfl rfl ?_
  refine RL.call rfl rfl rfl rfl rfl ca32 (rBool_ct (v := decide (x.msg.kind = 6)) hg2) ?_
  rintro r3 s3 B3 w3 hle3 hgb3 haxb3 ⟨ab3, cb3, rfl, hB3⟩
  refine ⟨trivial, ?_⟩
  obtain ⟨news3, hsrc3, hch3⟩ := Src.own sl38 hB3 hgb3.1
  refine RL.append (i := 1) (ys := encB (decide (x.msg.kind = 6))) rfl rfl rfl rfl sl38 ze5 rfl (by first | exact RInt.one _ | exact RStr.one | exact RBool.one | assumption) rfl rfl hgb3 rfl (hown2.up (RInt.up _) hle3) (hsrc3) (hch3) ((by simp only [hbB]; omega)) (by omega) ?_
  rintro ai3 ci3 A3 wi3 hgc3 hown3 haxc3 hk3
  refine ⟨trivial, ?_⟩
  refine RL.pure rfl rfl rfl rfl ?_
  refine RL.done ?_
  have hl3 := hle2.trans hle3
  have hx3 := hax1.trans (hax2.trans (haxb3.trans haxc3))
  have hg3 := hgc3.drop
  refine CW.seq (CW.plain ?_)
  refine RL.pure rfl rfl rfl rfl ?_
  refine RL.field rfl rfl rfl rfl fl42_1 rfl rfl ?_
  refine RL.field rfl rfl rfl rfl fl40_3 rfl rfl ?_
  refine RL.load (j := 4) rfl rfl rfl rfl ty32 rfl (hH.le hl3) (hg3.sh) rfl ?_
  refine RL.call rfl rfl rfl rfl rfl ca22 (rUint_ct hg3 ho.term) ?_
  rintro r4 s4 B4 w4 hle4 hgb4 haxb4 ⟨ab4, cb4, rfl, hB4⟩
  refine ⟨trivial, ?_⟩
  obtain ⟨news4, hsrc4, hch4⟩ := Src.own sl38 hB4 hgb4.1
  refine RL.append (i := 1) (ys := encU x.msg.term) rfl rfl rfl rfl sl38 ze5 rfl (by first | exact RInt.one _ | exact RStr.one | exact RBool.one | assumption) rfl rfl hgb4 rfl (hown3.up (RInt.up _) hle4) (hsrc4) (hch4) ((by simp only [List.length_append, hbB]; omega)) (by omega) ?_
  rintro ai4 ci4 A4 wi4 hgc4 hown4 haxc4 hk4
  refine ⟨trivial, ?_⟩
  refine RL.pure rfl rfl rfl rfl ?_
  refine RL.done ?_
  have hl4 := hl3.trans hle4
  have hx4 := hx3.trans (haxb4.trans haxc4)
  have hg4 := hgc4.drop
  refine CW.seq (CW.plain ?_)
  refine RL.pure rfl rfl rfl rfl ?_
  refine RL.field rfl rfl rfl rfl fl42_1 rfl rfl ?_
  refine RL.field rfl rfl rfl rfl fl40_4 rfl rfl ?_
  refine RL.load (j := 5) rfl rfl rfl rfl ty32 rfl (hH.le hl4) (hg4.sh) rfl ?_
  refine RL.call rfl rfl rfl rfl rfl ca22 (rUint_ct hg4 ho.index) ?_
  rintro r5 s5 B5 w5 hle5 hgb5 haxb5 ⟨ab5, cb5, rfl, hB5⟩
  refine ⟨trivial, ?_⟩
  obtain ⟨news5, hsrc5, hch5⟩ := Src.own sl38 hB5 hgb5.1
  refine RL.append (i := 1) (ys := encU x.msg.index) rfl rfl rfl rfl sl38 ze5 rfl (by first | exact RInt.one _ | exact RStr.one | exact RBool.one | assumption) rfl rfl hgb5 rfl (hown4.up (RInt.up _) hle5) (hsrc5) (hch5) ((by simp only [List.length_append, hbB]; omega)) (by omega) ?_
  rintro ai5 ci5 A5 wi5 hgc5 hown5 haxc5 hk5
  refine ⟨trivial, ?_⟩
  refine RL.pure rfl rfl rfl rfl ?_
  refine RL.done ?_
  have hl5 := hl4.trans hle5
  have hx5 := hx4.trans (haxb5.trans haxc5)
  have hg5 := hgc5.drop
  refine CW.meet (fun E w' => ∃ s' A' a c, E = [(4, .slice a (encBeatD x).length c)] ∧ Good w' s' (A' :: os) ∧ Le s1 s' ∧ Aux w w' ∧ Own (RInt .u8) 1 5 s' A' a c (encBeatD x)) ?_ ?_
  · refine CW.seq (CW.plain ?_)
    refine RL.pure rfl rfl rfl rfl ?_
    refine RL.pure rfl rfl rfl rfl ?_
    refine RL.done ?_
    refine CW.cond rfl (fun h => ?_) (fun h => CW.skip ?_)
    · have h6 : x.msg.kind ≠ 6 := by simpa using h
      refine CW.seq (CW.plain ?_)
      refine RL.pure rfl rfl rfl rfl ?_
      refine RL.field rfl rfl rfl rfl fl42_1 rfl rfl ?_
      refine RL.field rfl rfl rfl rfl fl40_5 rfl rfl ?_
      refine RL.load (j := 6) rfl rfl rfl rfl ty32 rfl (hH.le hl5) (hg5.sh) rfl ?_
      refine RL.call rfl rfl rfl rfl rfl ca22 (rUint_ct hg5 ho.logTerm) ?_
      rintro r6 s6 B6 w6 hle6 hgb6 haxb6 ⟨ab6, cb6, rfl, hB6⟩
      refine ⟨trivial, ?_⟩
      obtain ⟨news6, hsrc6, hch6⟩ := Src.own sl38 hB6 hgb6.1
      refine RL.append (i := 1) (ys := encU x.msg.logTerm) rfl rfl rfl rfl sl38 ze5 rfl (by first | exact RInt.one _ | exact RStr.one | exact RBool.one | assumption) rfl rfl hgb6 rfl (hown5.up (RInt.up _) hle6) (hsrc6) (hch6) ((by simp only [List.length_append, hbB]; omega)) (by omega) ?_
      rintro ai6 ci6 A6 wi6 hgc6 hown6 haxc6 hk6
      refine ⟨trivial, ?_⟩
      refine RL.pure rfl rfl rfl rfl ?_
      refine RL.done ?_
      have hl6 := hl5.trans hle6
      have hx6 := hx5.trans (haxb6.trans haxc6)
      have hg6 := hgc6.drop
      refine CW.plain ?_
      refine RL.pure rfl rfl rfl rfl ?_
      refine RL.field rfl rfl rfl rfl fl42_1 rfl rfl ?_
      refine RL.field rfl rfl rfl rfl fl40_7 rfl rfl ?_
      refine RL.load (j := 8) rfl rfl rfl rfl ty32 rfl (hH.le hl6) (hg6.sh) rfl ?_
      refine RL.call rfl rfl rfl rfl rfl ca22 (rUint_ct hg6 ho.commit) ?_
      rintro r7 s7 B7 w7 hle7 hgb7 haxb7 ⟨ab7, cb7, rfl, hB7⟩
      refine ⟨trivial, ?_⟩
      obtain ⟨news7, hsrc7, hch7⟩ := Src.own sl38 hB7 hgb7.1
      refine RL.append (i := 1) (ys := encU x.msg.commit) rfl rfl rfl rfl sl38 ze5 rfl (by first | exact RInt.one _ | exact RStr.one | exact RBool.one | assumption) rfl rfl hgb7 rfl (hown6.up (RInt.up _) hle7) (hsrc7) (hch7) ((by simp only [List.length_append, hbB]; omega)) (by omega) ?_
      rintro ai7 ci7 A7 wi7 hgc7 hown7 haxc7 hk7
      refine ⟨trivial, ?_⟩
      refine RL.pure rfl rfl rfl rfl ?_
      refine RL.done ?_
      have hl7 := hl6.trans hle7
      have hx7 := hx6.trans (haxb7.trans haxc7)
      have hg7 := hgc7.drop
      have e : encU x.group ++ encB (decide (x.msg.kind = 6)) ++ encU x.msg.term ++ encU x.msg.index ++ encU x.msg.logTerm ++ encU x.msg.commit = encBeatD x := by simp [encBeatD, h6]
      rw [e] at hown7 ⊢
      exact fun ac ha => ⟨[(4, .slice ai7 (encBeatD x).length ci7)], ha.sub ⟨rfl, trivial⟩, s7, A7, ai7, ci7, rfl, hg7, hl7, hx7, hown7⟩
    · have h6 : x.msg.kind = 6 := by simpa using h
      have e : encU x.group ++ encB (decide (x.msg.kind = 6)) ++ encU x.msg.term ++ encU x.msg.index = encBeatD x := by simp [encBeatD, h6]
      rw [e] at hown5 ⊢
      exact fun ac ha => ⟨[(4, .slice ai5 (encBeatD x).length ci5)], ha.sub ⟨rfl, trivial⟩, s5, A5, ai5, ci5, rfl, hg5, hl5, hx5, hown5⟩
  rintro E w20 ⟨s20, A20, a20, c20, rfl, hg20, hl20, hx20, hown20⟩
  refine CW.seq (CW.plain ?_)
  refine RL.pure rfl rfl rfl rfl ?_
  refine RL.pure rfl rfl rfl rfl ?_
  refine RL.done ?_
  exact CW.ret (ret (vs := [_]) ⟨_, _, rfl, rfl, rfl⟩ (Post.mk (hle1.trans hl20) hg20 hx20 ⟨_, _, rfl, hown20⟩))

set_option maxHeartbeats 2000000 in
set_option maxRecDepth 100000 in
theorem dFull_ct {w : World} {s : Res} {os : List Res} {vs : List Value} {x : Wire} (hg : Good w s os) (hx : RWire s vs x) (hl : x.bulk ≤ 35184372088832) :
    Calls Try.prog 21 #[.agg vs.toArray] w (Post w s os fun s' A' r => BOwn s' A' r (encFull x)) := by
  obtain ⟨y, rfl, hgr, ho⟩ := hx
  have u1 := encU_length x.group
  have u2 := encU_length x.msg.term
  have u3 := encU_length x.msg.index
  have u4 := encU_length x.msg.logTerm
  have u5 := encU_length x.msg.commit
  have u6 := encU_length x.msg.hint
  have u7 := encI_length x.msg.kind
  have u8 := encU_length (x.msg.entries.length : Int)
  have u9 := encEs_length x.msg.entries
  have u10 := encConf_length x.msg.conf
  have u11 := encT_length x.msg.data
  have hle := ho.entries.le_max
  simp only [maxLen] at hle
  simp only [Wire.bulk] at hl
  have hbB : ∀ b, (encB b).length = 1 := fun b => rfl
  refine enter (l := [.agg (u64 x.group :: msgV x.msg y).toArray]) Try.func21 rfl Try.ntmps21 rfl ?_
  refine CW.seq (CW.plain ?_)
  refine RL.box rfl rfl rfl rfl rfl hg ?_
  rintro b w0 hgb hax0
  refine ⟨trivial, ?_⟩
  refine RL.pure rfl rfl rfl rfl ?_
  refine RL.done ?_
  obtain ⟨s0, hg0, hle0, hq0⟩ := Good.letgo hgb
  have hW : Holds s0 ⟨b, 0, none⟩ (u64 x.group :: msgV x.msg y) := (Holds.one b _ 42).le hq0
  refine CW.seq (CW.plain ?_)
  refine RL.field rfl rfl rfl rfl fl42_1 rfl rfl ?_
  refine RL.loads (j := 1) (us := (msgV x.msg y)) rfl rfl rfl rfl ty40 rfl (hW) (hg0.sh) rfl rfl ?_
  refine RL.alloc rfl rfl rfl rfl ze40 hg0 ?_
  rintro r w1 hg1 hax1
  refine ⟨trivial, ?_⟩
  refine RL.store (i := 0) (j := 0) rfl rfl rfl ty40 rfl rfl hg1 rfl (if_pos rfl) rfl (by first | (simp [Value.cells, Value.oneCell']; done) | simp [Value.cells, Value.oneCell', putL]) (by first | exact Nat.le_of_ble_eq_true rfl | (simp; done) | (simp; omega) | omega) ?_
  rintro w1' hg1' hax1'
  refine ⟨trivial, ?_⟩
  refine RL.done ?_
  obtain ⟨s1, hg1, hle1, hq1⟩ := Good.letgo hg1'
  have hH : Holds s1 ⟨r, 0, none⟩ (msgV x.msg y) := (Holds.of (put_same _ _ _)).le hq1
  have hW := hW.le hle1
  have hx1 := hax0.trans (hax1.trans hax1')
  have ho := (ho.up hle0).up hle1
  have hgD := hg1.drew
  refine CW.seq ?_
  refine CW.draws [(true, 0), (true, 1), (true, 3), (true, 4), (false, 2), (false, 5), (false, 6), (false, 7)] (fun w => In s1 w) mixed (by kernel_rfl) (by kernel_rfl) (by kernel_rfl) (by kernel_rfl) (hgD.sh) ?_
  refine RL.field rfl rfl rfl rfl fl42_0 rfl rfl ?_
  refine RL.loadT (j := 0) rfl rfl rfl rfl ty32 rfl (hW) (fun w h => h) rfl ?_
  refine RL.field rfl rfl rfl rfl fl40_0 rfl rfl ?_
  refine RL.loadT (j := 0) rfl rfl rfl rfl ty33 rfl (hH) (fun w h => h) rfl ?_
  refine RL.call rfl rfl rfl rfl rfl ca22 (rUint_ct hgD hgr) ?_
  rintro r2 s2 A2 w2 hle2 hg2 hax2 ⟨a2, c2, rfl, hown2⟩
  refine ⟨hg2.sh.le hle2, ?_⟩
  refine RL.call rfl rfl rfl rfl rfl ca33 (rInt_ct hg2 ho.kind) ?_
  rintro r3 s3 B3 w3 hle3 hgb3 haxb3 ⟨ab3, cb3, rfl, hB3⟩
  refine ⟨hgb3.sh.le (hle2.trans hle3), ?_⟩
  obtain ⟨news3, hsrc3, hch3⟩ := Src.own sl38 hB3 hgb3.1
  refine RL.append (i := 1) (ys := encI x.msg.kind) rfl rfl rfl rfl sl38 ze5 rfl (by first | exact RInt.one _ | exact RStr.one | exact RBool.one | assumption) rfl rfl hgb3 rfl (hown2.up (RInt.up _) hle3) (hsrc3) (hch3) ((by omega)) (by omega) ?_
  rintro ai3 ci3 A3 wi3 hgc3 hown3 haxc3 hk3
  refine ⟨hgc3.sh.le (hle2.trans hle3), ?_⟩
  refine RL.pure rfl rfl rfl rfl ?_
  refine RL.done ?_
  have hl3 := hle2.trans hle3
  have hx3 := hx1.trans ((Aux.drew _).trans (hax2.trans (haxb3.trans haxc3)))
  have hg3 := hgc3.drop
  refine CW.seq (CW.plain ?_)
  refine RL.pure rfl rfl rfl rfl ?_
  refine RL.field rfl rfl rfl rfl fl40_3 rfl rfl ?_
  refine RL.load (j := 3) rfl rfl rfl rfl ty32 rfl (hH.le hl3) (hg3.sh) rfl ?_
  refine RL.call rfl rfl rfl rfl rfl ca22 (rUint_ct hg3 ho.term) ?_
  rintro r4 s4 B4 w4 hle4 hgb4 haxb4 ⟨ab4, cb4, rfl, hB4⟩
  refine ⟨trivial, ?_⟩
  obtain ⟨news4, hsrc4, hch4⟩ := Src.own sl38 hB4 hgb4.1
  refine RL.append (i := 1) (ys := encU x.msg.term) rfl rfl rfl rfl sl38 ze5 rfl (by first | exact RInt.one _ | exact RStr.one | exact RBool.one | assumption) rfl rfl hgb4 rfl (hown3.up (RInt.up _) hle4) (hsrc4) (hch4) ((by simp only [List.length_append]; omega)) (by omega) ?_
  rintro ai4 ci4 A4 wi4 hgc4 hown4 haxc4 hk4
  refine ⟨trivial, ?_⟩
  refine RL.pure rfl rfl rfl rfl ?_
  refine RL.done ?_
  have hl4 := hl3.trans hle4
  have hx4 := hx3.trans (haxb4.trans haxc4)
  have hg4 := hgc4.drop
  refine CW.seq (CW.plain ?_)
  refine RL.pure rfl rfl rfl rfl ?_
  refine RL.field rfl rfl rfl rfl fl40_4 rfl rfl ?_
  refine RL.load (j := 4) rfl rfl rfl rfl ty32 rfl (hH.le hl4) (hg4.sh) rfl ?_
  refine RL.call rfl rfl rfl rfl rfl ca22 (rUint_ct hg4 ho.index) ?_
  rintro r5 s5 B5 w5 hle5 hgb5 haxb5 ⟨ab5, cb5, rfl, hB5⟩
  refine ⟨trivial, ?_⟩
  obtain ⟨news5, hsrc5, hch5⟩ := Src.own sl38 hB5 hgb5.1
  refine RL.append (i := 1) (ys := encU x.msg.index) rfl rfl rfl rfl sl38 ze5 rfl (by first | exact RInt.one _ | exact RStr.one | exact RBool.one | assumption) rfl rfl hgb5 rfl (hown4.up (RInt.up _) hle5) (hsrc5) (hch5) ((by simp only [List.length_append]; omega)) (by omega) ?_
  rintro ai5 ci5 A5 wi5 hgc5 hown5 haxc5 hk5
  refine ⟨trivial, ?_⟩
  refine RL.pure rfl rfl rfl rfl ?_
  refine RL.done ?_
  have hl5 := hl4.trans hle5
  have hx5 := hx4.trans (haxb5.trans haxc5)
  have hg5 := hgc5.drop
  refine CW.seq (CW.plain ?_)
  refine RL.pure rfl rfl rfl rfl ?_
  refine RL.field rfl rfl rfl rfl fl40_5 rfl rfl ?_
  refine RL.load (j := 5) rfl rfl rfl rfl ty32 rfl (hH.le hl5) (hg5.sh) rfl ?_
  refine RL.call rfl rfl rfl rfl rfl ca22 (rUint_ct hg5 ho.logTerm) ?_
  rintro r6 s6 B6 w6 hle6 hgb6 haxb6 ⟨ab6, cb6, rfl, hB6⟩
  refine ⟨trivial, ?_⟩
  obtain ⟨news6, hsrc6, hch6⟩ := Src.own sl38 hB6 hgb6.1
  refine RL.append (i := 1) (ys := encU x.msg.logTerm) rfl rfl rfl rfl sl38 ze5 rfl (by first | exact RInt.one _ | exact RStr.one | exact RBool.one | assumption) rfl rfl hgb6 rfl (hown5.up (RInt.up _) hle6) (hsrc6) (hch6) ((by simp only [List.length_append]; omega)) (by omega) ?_
  rintro ai6 ci6 A6 wi6 hgc6 hown6 haxc6 hk6
  refine ⟨trivial, ?_⟩
  refine RL.pure rfl rfl rfl rfl ?_
  refine RL.done ?_
  have hl6 := hl5.trans hle6
  have hx6 := hx5.trans (haxb6.trans haxc6)
  have hg6 := hgc6.drop
  refine CW.seq (CW.plain ?_)
  refine RL.pure rfl rfl rfl rfl ?_
  refine RL.field rfl rfl rfl rfl fl40_6 rfl rfl ?_
  refine RL.load (j := 6) rfl rfl rfl rfl ty34 rfl (hH.le hl6) (hg6.sh) rfl ?_
  refine RL.len rfl rfl rfl rfl sl34 rfl ?_
  refine RL.conv rfl rfl rfl rfl Try.underlying3 Try.underlying32 rfl ((by simp only [rng]; omega)) ?_
  refine RL.call rfl rfl rfl rfl rfl ca22 (rUint_ct (v := x.msg.entries.length) hg6 (by simp only [rng]; omega)) ?_
  rintro r7 s7 B7 w7 hle7 hgb7 haxb7 ⟨ab7, cb7, rfl, hB7⟩
  refine ⟨trivial, ?_⟩
  obtain ⟨news7, hsrc7, hch7⟩ := Src.own sl38 hB7 hgb7.1
  refine RL.append (i := 1) (ys := encU x.msg.entries.length) rfl rfl rfl rfl sl38 ze5 rfl (by first | exact RInt.one _ | exact RStr.one | exact RBool.one | assumption) rfl rfl hgb7 rfl (hown6.up (RInt.up _) hle7) (hsrc7) (hch7) ((by simp only [List.length_append]; omega)) (by omega) ?_
  rintro ai7 ci7 A7 wi7 hgc7 hown7 haxc7 hk7
  refine ⟨trivial, ?_⟩
  refine RL.pure rfl rfl rfl rfl ?_
  refine RL.done ?_
  have hl7 := hl6.trans hle7
  have hx7 := hx6.trans (haxb7.trans haxc7)
  have hg7 := hgc7.drop
  have ho := ho.up hl7
  generalize hpre : encU x.group ++ encI x.msg.kind ++ encU x.msg.term ++ encU x.msg.index ++ encU x.msg.logTerm ++ encU x.msg.entries.length = pre at *
  have hpl : pre.length ≤ 60 := by rw [← hpre]; simp only [List.length_append]; omega
  refine CW.less (E' := [(3, ptr r), (4, .slice ai7 pre.length ci7)]) ⟨rfl, rfl, trivial⟩ ?_
  refine CW.meet (fun E w' => ∃ s' A' a c, E = [(3, ptr r), (4, .slice a (pre ++ encEs x.msg.entries).length c)] ∧ Good w' s' (A' :: os) ∧ Le s7 s' ∧ Aux w w' ∧ Own (RInt .u8) 1 5 s' A' a c (pre ++ encEs x.msg.entries)) ?_ ?_
  · refine CW.seq (CW.plain ?_)
    refine RL.pure rfl rfl rfl rfl ?_
    refine RL.done ?_
    refine CW.block (CW.loop (σ := Nat) (fun j E w' => ∃ s' A' a c, ∃ k : Nat, E = [(3, ptr r), (4, .slice a (pre ++ encEs (x.msg.entries.take k)).length c), (5, i64 k)] ∧ Good w' s' (A' :: os) ∧ Le s7 s' ∧ Aux w w' ∧ Own (RInt .u8) 1 5 s' A' a c (pre ++ encEs (x.msg.entries.take k)) ∧ k + j = x.msg.entries.length)
      (fun j => j) x.msg.entries.length [(3, ptr r), (4, .slice ai7 (pre ++ encEs (x.msg.entries.take 0)).length ci7), (5, i64 0)] ⟨rfl, by simp [encEs]; rfl, rfl, trivial⟩ ⟨s7, A7, ai7, ci7, 0, rfl, hg7, Le.refl _, hx7, by simpa [encEs] using hown7, by omega⟩ ?_)
    rintro j E w8 ⟨s8, A8, a8, c8, k, rfl, hg8, hle8, hx8, hown8, hk⟩
    refine CW.seq (CW.seq (CW.plain ?_))
    refine RL.pure rfl rfl rfl rfl ?_
    refine RL.field rfl rfl rfl rfl fl40_6 rfl rfl ?_
    refine RL.load (j := 6) rfl rfl rfl rfl ty34 rfl (hH.le (hl7.trans hle8)) (hg8.sh) rfl ?_
    refine RL.len rfl rfl rfl rfl sl34 rfl ?_
    refine RL.pure rfl rfl rfl rfl ?_
    refine RL.done ?_
    refine CW.test rfl (fun h => CW.skip ?_) (fun h => CW.exit ?_)
    · have hkl : k < x.msg.entries.length := by omega
      have ek : x.msg.entries[((k : Nat) : Int).toNat]'(by omega) = x.msg.entries[k] := by simp
      have h1 := encEs_length (x.msg.entries.take k)
      have h2 := bulkE_take x.msg.entries k hkl
      have h3 := encEntry_length x.msg.entries[k]
      have h4 := encEs_take x.msg.entries k hkl
      refine CW.seq (CW.block (CW.plain ?_))
      refine RL.pure rfl rfl rfl rfl ?_
      refine RL.field rfl rfl rfl rfl fl40_6 rfl rfl ?_
      refine RL.load (j := 6) rfl rfl rfl rfl ty34 rfl (hH.le (hl7.trans hle8)) (hg8.sh) rfl ?_
      refine RL.pure rfl rfl rfl rfl ?_
      refine RL.idx rfl rfl rfl rfl sl34 rfl rfl (ho.entries.up REntry.up hle8) (by omega) ((by omega)) ?_
      rintro qe vse hvle hHe hre
      rw [ek] at hre
      generalize x.msg.entries[k] = e at hre h2 h3 h4
      obtain ⟨ea, ec, e1, ec1, e2, ec2, rfl, _, _, _, _, _, _⟩ := id hre
      refine RL.loads (j := 0) (us := [u64 e.index, u64 e.term, i64 e.kind, .slice ea e.data.length ec, .slice e1 e.conf.voters.length ec1, .slice e2 e.conf.learners.length ec2]) rfl rfl rfl rfl ty66 rfl (hHe) (hg8.sh) rfl rfl ?_
      refine RL.call rfl rfl rfl rfl rfl ca34 (rEntry_ct hg8 hre (by simp only [Entry.bulk] at *; omega)) ?_
      rintro r9 s9 B9 w9 hle9 hgb9 haxb9 ⟨ab9, cb9, rfl, hB9⟩
      refine ⟨trivial, ?_⟩
      obtain ⟨news9, hsrc9, hch9⟩ := Src.own sl38 hB9 hgb9.1
      refine RL.append (i := 1) (ys := encEntry e) rfl rfl rfl rfl sl38 ze5 rfl (by first | exact RInt.one _ | exact RStr.one | exact RBool.one | assumption) rfl rfl hgb9 rfl (hown8.up (RInt.up _) hle9) (hsrc9) (hch9) ((by simp only [List.length_append, Entry.bulk] at *; omega)) (by omega) ?_
      rintro ai9 ci9 A9 wi9 hgc9 hown9 haxc9 hk9
      refine ⟨trivial, ?_⟩
      refine RL.pure rfl rfl rfl rfl ?_
      refine RL.done ?_
      refine CW.plain ?_
      refine RL.pure rfl rfl rfl rfl ?_
      refine RL.add rfl rfl rfl rfl rfl rfl (by simp only [rng] at *; omega) ?_
      refine RL.pure rfl rfl rfl rfl ?_
      refine RL.done ?_
      rw [List.append_assoc, ← h4] at hown9 ⊢
      cases j with
      | zero => omega
      | succ j => exact fun ac ha => ⟨j, [(3, ptr r), (4, .slice ai9 (pre ++ encEs (x.msg.entries.take (k + 1))).length ci9), (5, i64 ((k + 1 : Nat) : Int))], ha.sub ⟨rfl, rfl, rfl, trivial⟩, ⟨s9, A9, ai9, ci9, k + 1, rfl, hgc9.drop, hle8.trans hle9, hx8.trans (haxb9.trans haxc9), hown9, by omega⟩, Nat.lt_succ_self j⟩
    · have hkl : k = x.msg.entries.length := by omega
      rw [hkl, List.take_length] at hown8 ⊢
      exact fun ac ha => ⟨[(3, ptr r), (4, .slice a8 (pre ++ encEs x.msg.entries).length c8)], ha.sub ⟨rfl, rfl, trivial⟩, s8, A8, a8, c8, rfl, hg8, hle8, hx8, hown8⟩
  rintro E w11 ⟨s11, A11, ai11, ci11, rfl, hg11, hle11, hx11, hown11⟩
  have hl11 := hl7.trans hle11
  have ho := ho.up hle11
  refine CW.seq (CW.plain ?_)
  refine RL.pure rfl rfl rfl rfl ?_
  refine RL.field rfl rfl rfl rfl fl40_7 rfl rfl ?_
  refine RL.load (j := 7) rfl rfl rfl rfl ty32 rfl (hH.le hl11) (hg11.sh) rfl ?_
  refine RL.call rfl rfl rfl rfl rfl ca22 (rUint_ct hg11 ho.commit) ?_
  rintro r12 s12 B12 w12 hle12 hgb12 haxb12 ⟨ab12, cb12, rfl, hB12⟩
  refine ⟨trivial, ?_⟩
  obtain ⟨news12, hsrc12, hch12⟩ := Src.own sl38 hB12 hgb12.1
  refine RL.append (i := 1) (ys := encU x.msg.commit) rfl rfl rfl rfl sl38 ze5 rfl (by first | exact RInt.one _ | exact RStr.one | exact RBool.one | assumption) rfl rfl hgb12 rfl (hown11.up (RInt.up _) hle12) (hsrc12) (hch12) ((by simp only [List.length_append]; omega)) (by omega) ?_
  rintro ai12 ci12 A12 wi12 hgc12 hown12 haxc12 hk12
  refine ⟨trivial, ?_⟩
  refine RL.pure rfl rfl rfl rfl ?_
  refine RL.done ?_
  have hl12 := hl11.trans hle12
  have hx12 := hx11.trans (haxb12.trans haxc12)
  have hg12 := hgc12.drop
  refine CW.seq (CW.plain ?_)
  refine RL.pure rfl rfl rfl rfl ?_
  refine RL.field rfl rfl rfl rfl fl40_8 rfl rfl ?_
  refine RL.load (j := 8) rfl rfl rfl rfl ty4 rfl (hH.le hl12) (hg12.sh) rfl ?_
  refine RL.call rfl rfl rfl rfl rfl ca32 (rBool_ct hg12) ?_
  rintro r13 s13 B13 w13 hle13 hgb13 haxb13 ⟨ab13, cb13, rfl, hB13⟩
  refine ⟨trivial, ?_⟩
  obtain ⟨news13, hsrc13, hch13⟩ := Src.own sl38 hB13 hgb13.1
  refine RL.append (i := 1) (ys := encB x.msg.reject) rfl rfl rfl rfl sl38 ze5 rfl (by first | exact RInt.one _ | exact RStr.one | exact RBool.one | assumption) rfl rfl hgb13 rfl (hown12.up (RInt.up _) hle13) (hsrc13) (hch13) ((by simp only [List.length_append, hbB]; omega)) (by omega) ?_
  rintro ai13 ci13 A13 wi13 hgc13 hown13 haxc13 hk13
  refine ⟨trivial, ?_⟩
  refine RL.pure rfl rfl rfl rfl ?_
  refine RL.done ?_
  have hl13 := hl12.trans hle13
  have hx13 := hx12.trans (haxb13.trans haxc13)
  have hg13 := hgc13.drop
  refine CW.seq (CW.plain ?_)
  refine RL.pure rfl rfl rfl rfl ?_
  refine RL.field rfl rfl rfl rfl fl40_9 rfl rfl ?_
  refine RL.load (j := 9) rfl rfl rfl rfl ty32 rfl (hH.le hl13) (hg13.sh) rfl ?_
  refine RL.call rfl rfl rfl rfl rfl ca22 (rUint_ct hg13 ho.hint) ?_
  rintro r14 s14 B14 w14 hle14 hgb14 haxb14 ⟨ab14, cb14, rfl, hB14⟩
  refine ⟨trivial, ?_⟩
  obtain ⟨news14, hsrc14, hch14⟩ := Src.own sl38 hB14 hgb14.1
  refine RL.append (i := 1) (ys := encU x.msg.hint) rfl rfl rfl rfl sl38 ze5 rfl (by first | exact RInt.one _ | exact RStr.one | exact RBool.one | assumption) rfl rfl hgb14 rfl (hown13.up (RInt.up _) hle14) (hsrc14) (hch14) ((by simp only [List.length_append, hbB]; omega)) (by omega) ?_
  rintro ai14 ci14 A14 wi14 hgc14 hown14 haxc14 hk14
  refine ⟨trivial, ?_⟩
  refine RL.pure rfl rfl rfl rfl ?_
  refine RL.done ?_
  have hl14 := hl13.trans hle14
  have hx14 := hx13.trans (haxb14.trans haxc14)
  have hg14 := hgc14.drop
  have ho := ((ho.up hle12).up hle13).up hle14
  refine CW.seq (CW.plain ?_)
  refine RL.pure rfl rfl rfl rfl ?_
  refine RL.field rfl rfl rfl rfl fl40_10 rfl rfl ?_
  refine RL.loads (j := 10) (us := [.slice y.va x.msg.conf.voters.length y.vc, .slice y.la x.msg.conf.learners.length y.lc]) rfl rfl rfl rfl ty37 rfl (hH.le hl14) (hg14.sh) rfl rfl ?_
  refine RL.call rfl rfl rfl rfl rfl ca35 (rConf_ct hg14 ho.conf (by omega)) ?_
  rintro r15 s15 B15 w15 hle15 hgb15 haxb15 ⟨ab15, cb15, rfl, hB15⟩
  refine ⟨trivial, ?_⟩
  obtain ⟨news15, hsrc15, hch15⟩ := Src.own sl38 hB15 hgb15.1
  refine RL.append (i := 1) (ys := encConf x.msg.conf) rfl rfl rfl rfl sl38 ze5 rfl (by first | exact RInt.one _ | exact RStr.one | exact RBool.one | assumption) rfl rfl hgb15 rfl (hown14.up (RInt.up _) hle15) (hsrc15) (hch15) ((by simp only [List.length_append, hbB]; omega)) (by omega) ?_
  rintro ai15 ci15 A15 wi15 hgc15 hown15 haxc15 hk15
  refine ⟨trivial, ?_⟩
  refine RL.pure rfl rfl rfl rfl ?_
  refine RL.done ?_
  have hl15 := hl14.trans hle15
  have hx15 := hx14.trans (haxb15.trans haxc15)
  have hg15 := hgc15.drop
  refine CW.seq (CW.plain ?_)
  refine RL.pure rfl rfl rfl rfl ?_
  refine RL.field rfl rfl rfl rfl fl40_11 rfl rfl ?_
  refine RL.load (j := 12) rfl rfl rfl rfl ty38 rfl (hH.le hl15) (hg15.sh) rfl ?_
  refine RL.call rfl rfl rfl rfl rfl ca36 (rText_ct hg15 (ho.data.up (RInt.up _) hle15) (by omega)) ?_
  rintro r16 s16 B16 w16 hle16 hgb16 haxb16 ⟨ab16, cb16, rfl, hB16⟩
  refine ⟨trivial, ?_⟩
  obtain ⟨news16, hsrc16, hch16⟩ := Src.own sl38 hB16 hgb16.1
  refine RL.append (i := 1) (ys := encT x.msg.data) rfl rfl rfl rfl sl38 ze5 rfl (by first | exact RInt.one _ | exact RStr.one | exact RBool.one | assumption) rfl rfl hgb16 rfl (hown15.up (RInt.up _) hle16) (hsrc16) (hch16) ((by simp only [List.length_append, hbB]; omega)) (by omega) ?_
  rintro ai16 ci16 A16 wi16 hgc16 hown16 haxc16 hk16
  refine ⟨trivial, ?_⟩
  refine RL.pure rfl rfl rfl rfl ?_
  refine RL.done ?_
  have hl16 := hl15.trans hle16
  have hx16 := hx15.trans (haxb16.trans haxc16)
  have hg16 := hgc16.drop
  refine CW.seq (CW.plain ?_)
  refine RL.pure rfl rfl rfl rfl ?_
  refine RL.field rfl rfl rfl rfl fl40_12 rfl rfl ?_
  refine RL.load (j := 13) rfl rfl rfl rfl ty4 rfl (hH.le hl16) (hg16.sh) rfl ?_
  refine RL.call rfl rfl rfl rfl rfl ca32 (rBool_ct hg16) ?_
  rintro r17 s17 B17 w17 hle17 hgb17 haxb17 ⟨ab17, cb17, rfl, hB17⟩
  refine ⟨trivial, ?_⟩
  obtain ⟨news17, hsrc17, hch17⟩ := Src.own sl38 hB17 hgb17.1
  refine RL.append (i := 1) (ys := encB x.msg.done) rfl rfl rfl rfl sl38 ze5 rfl (by first | exact RInt.one _ | exact RStr.one | exact RBool.one | assumption) rfl rfl hgb17 rfl (hown16.up (RInt.up _) hle17) (hsrc17) (hch17) ((by simp only [List.length_append, hbB]; omega)) (by omega) ?_
  rintro ai17 ci17 A17 wi17 hgc17 hown17 haxc17 hk17
  refine ⟨trivial, ?_⟩
  refine RL.pure rfl rfl rfl rfl ?_
  refine RL.done ?_
  have hl17 := hl16.trans hle17
  have hx17 := hx16.trans (haxb17.trans haxc17)
  have hg17 := hgc17.drop
  have e : pre ++ encEs x.msg.entries ++ encU x.msg.commit ++ encB x.msg.reject ++ encU x.msg.hint ++ encConf x.msg.conf ++ encT x.msg.data ++ encB x.msg.done = encFull x := by rw [← hpre]; rfl
  rw [e] at hown17 ⊢
  exact CW.ret (ret (vs := [_]) ⟨_, _, rfl, rfl, rfl⟩ (Post.mk (hle0.trans (hle1.trans hl17)) hg17 hx17 ⟨_, _, rfl, hown17⟩))
end Go.Lw
