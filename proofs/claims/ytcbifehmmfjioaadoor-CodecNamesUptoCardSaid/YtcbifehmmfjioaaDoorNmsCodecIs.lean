/-
  The law CodecItems, walked.
-/
import Derived.Test.YtcbifehmmfjioaaDoorNmsCodecIr
namespace Go.Lw
open Go.Proofs
attribute [local irreducible] RL RA

theorem hard_eq (x : Hard) (w : World) : (binOp .eql 74 (.agg #[.int .u64 x.term, .int .i64 x.vote, .int .u64 x.commit]) (.agg #[.int .u64 x.term, .int .i64 x.vote, .int .u64 x.commit])).run Tryd.prog w = .ok (.bool true) w := by
  have u1 := Tryd.underlying3
  have a1 := Tryd.isAgg3
  have z1 := Tryd.sizeOf3
  have u2 := Tryd.underlying29
  have a2 := Tryd.isAgg29
  have z2 := Tryd.sizeOf29
  have hS : Tryd.prog.underlying 74 = some (.struct (Tryd.prog.fieldsOf 74)) := by kernel_rfl
  have hp : Tryd.prog.stoodInHeld 74 = false := by kernel_rfl
  rw [run_eql_struct, show (10000 : Nat) = 9999 + 1 from rfl, run_equalIn_agg w 9999 74 _ _ hS hp]
  simp only [Program.fieldsOf, Tryd.underlying74]
  go_simp

set_option maxRecDepth 100000 in
theorem SameItem_ct {w : World} {s : Res} {os : List Res} {x : Item} {us vs : List Value} (hg : Good w s os) (hu : RItem s us x) (hv : RItem s vs x) :
    Calls Tryd.prog 30 #[.agg us.toArray, .agg vs.toArray] w (Post w s os fun _ _ r => r = .bool true) := by
  obtain ⟨a1, a2, a3, b1, b2, b3, c1, c2, c3, d1, d2, d3, rfl, r1, r2, ⟨e1, e2, e3, e4, e5, e6⟩, ⟨h1, h2, h3⟩, r4, ⟨f1, f2, f3, f4, f5⟩⟩ := hu
  obtain ⟨A1, A2, A3, B1, B2, B3, C1, C2, C3, D1, D2, D3, rfl, _, _, ⟨_, _, _, E4, E5, E6⟩, _, _, ⟨_, _, F3, F4, F5⟩⟩ := hv
  refine enter (l := [.agg (itemCells x a1 a2 a3 b1 b2 b3 c1 c2 c3 d1 d2 d3).toArray, .agg (itemCells x A1 A2 A3 B1 B2 B3 C1 C2 C3 D1 D2 D3).toArray]) Tryd.func30 rfl Tryd.ntmps30 rfl ?_
  refine CW.seq (CW.plain ?_)
  refine RL.box rfl rfl rfl rfl rfl hg ?_
  rintro p2 w2 hg2 hax2
  refine ⟨trivial, ?_⟩
  refine RL.box rfl rfl rfl rfl rfl hg2 ?_
  rintro p3 w3 hg3 hax3
  refine ⟨trivial, ?_⟩
  refine RL.pure rfl rfl rfl rfl ?_
  refine RL.done ?_
  obtain ⟨s4, hg4, hle4, hq3⟩ := Good.letgo hg3
  obtain ⟨s5, hg3, hle5, hq2⟩ := Good.letgo hg4
  have hle := hle4.trans hle5
  have hH2 : Holds s5 ⟨p2, 0, none⟩ (itemCells x a1 a2 a3 b1 b2 b3 c1 c2 c3 d1 d2 d3) := (Holds.one p2 _ _).le hq2
  have hH3 : Holds s5 ⟨p3, 0, none⟩ (itemCells x A1 A2 A3 B1 B2 B3 C1 C2 C3 D1 D2 D3) := (Holds.one p3 _ _).le (hq3.trans hle5)
  simp only [itemCells] at hH2 hH3
  have hup : ∀ {k : IntKind} {a c ys}, Imm (RInt k) 1 s a c ys → Imm (RInt k) 1 s5 a c ys := fun h => h.up (RInt.up _) hle
  refine CW.seq (CW.plain ?_)
  refine RL.field rfl rfl rfl rfl fl76_2 rfl rfl ?_
  refine RL.loads (j := 2) (us := [.int .u64 x.entry.index, .int .u64 x.entry.term, .int .i64 x.entry.kind, .slice a1 x.entry.data.length c1, .slice a2 x.entry.conf.voters.length c2, .slice a3 x.entry.conf.learners.length c3]) rfl rfl rfl rfl ty35 rfl (hH2) (hg3.sh) rfl rfl ?_
  refine RL.field rfl rfl rfl rfl fl76_2 rfl rfl ?_
  refine RL.loads (j := 2) (us := [.int .u64 x.entry.index, .int .u64 x.entry.term, .int .i64 x.entry.kind, .slice A1 x.entry.data.length C1, .slice A2 x.entry.conf.voters.length C2, .slice A3 x.entry.conf.learners.length C3]) rfl rfl rfl rfl ty35 rfl (hH3) (hg3.sh) rfl rfl ?_
  refine RL.callV rfl rfl rfl rfl rfl ca65 (SameEntry_ct (x := x.entry) hg3 ⟨_, _, _, _, _, _, rfl, e1, e2, e3, hup e4, hup e5, hup e6⟩ ⟨_, _, _, _, _, _, rfl, e1, e2, e3, hup E4, hup E5, hup E6⟩) ?_
  rintro v6 w6 hg6 hax6 rfl
  refine ⟨trivial, ?_⟩
  refine RL.pure rfl rfl rfl rfl ?_
  refine RL.done ?_
  refine CW.seq (CW.plain ?_)
  refine RL.field rfl rfl rfl rfl fl76_5 rfl rfl ?_
  refine RL.loads (j := 12) (us := [.int .u64 x.snap.index, .int .u64 x.snap.term, .slice b2 x.snap.conf.voters.length d2, .slice b3 x.snap.conf.learners.length d3, .slice b1 x.snap.data.length d1]) rfl rfl rfl rfl ty37 rfl (hH2) (hg6.sh) rfl rfl ?_
  refine RL.field rfl rfl rfl rfl fl76_5 rfl rfl ?_
  refine RL.loads (j := 12) (us := [.int .u64 x.snap.index, .int .u64 x.snap.term, .slice B2 x.snap.conf.voters.length D2, .slice B3 x.snap.conf.learners.length D3, .slice B1 x.snap.data.length D1]) rfl rfl rfl rfl ty37 rfl (hH3) (hg6.sh) rfl rfl ?_
  refine RL.callV rfl rfl rfl rfl rfl ca68 (SameSnap_ct (x := x.snap) hg6 ⟨_, _, _, _, _, _, rfl, f1, f2, hup f3, hup f4, hup f5⟩ ⟨_, _, _, _, _, _, rfl, f1, f2, hup F3, hup F4, hup F5⟩) ?_
  rintro v7 w7 hg7 hax7 rfl
  refine ⟨trivial, ?_⟩
  refine RL.pure rfl rfl rfl rfl ?_
  refine RL.done ?_
  have hg3 := hg7
  refine CW.seq (CW.plain ?_)
  refine RL.pure rfl rfl rfl rfl ?_
  refine RL.pure rfl rfl rfl rfl ?_
  refine RL.pure rfl rfl rfl rfl ?_
  refine RL.pure rfl rfl rfl rfl ?_
  refine RL.pure rfl rfl rfl rfl ?_
  refine RL.field rfl rfl rfl rfl fl76_0 rfl rfl ?_
  refine RL.load (j := 0) rfl rfl rfl rfl ty72 rfl (hH2) (hg3.sh) rfl ?_
  refine RL.field rfl rfl rfl rfl fl76_0 rfl rfl ?_
  refine RL.load (j := 0) rfl rfl rfl rfl ty72 rfl (hH3) (hg3.sh) rfl ?_
  refine RL.pure rfl rfl rfl rfl ?_
  rw [beq_self_eq_true]
  refine RL.pure rfl rfl rfl rfl ?_
  refine RL.pure rfl rfl rfl rfl ?_
  refine RL.field rfl rfl rfl rfl fl76_1 rfl rfl ?_
  refine RL.load (j := 1) rfl rfl rfl rfl ty29 rfl (hH2) (hg3.sh) rfl ?_
  refine RL.field rfl rfl rfl rfl fl76_1 rfl rfl ?_
  refine RL.load (j := 1) rfl rfl rfl rfl ty29 rfl (hH3) (hg3.sh) rfl ?_
  refine RL.pure rfl rfl rfl rfl ?_
  rw [beq_self_eq_true]
  refine RL.pure rfl rfl rfl rfl ?_
  refine RL.pure rfl rfl rfl rfl ?_
  refine RL.field rfl rfl rfl rfl fl76_3 rfl rfl ?_
  refine RL.loads (j := 8) (us := [.int .u64 x.hard.term, .int .i64 x.hard.vote, .int .u64 x.hard.commit]) rfl rfl rfl rfl ty74 rfl (hH2) (hg3.sh) rfl rfl ?_
  refine RL.field rfl rfl rfl rfl fl76_3 rfl rfl ?_
  refine RL.loads (j := 8) (us := [.int .u64 x.hard.term, .int .i64 x.hard.vote, .int .u64 x.hard.commit]) rfl rfl rfl rfl ty74 rfl (hH3) (hg3.sh) rfl rfl ?_
  refine RL.stEq rfl rfl rfl rfl (by kernel_rfl) rfl rfl (hard_eq _) ?_
  refine RL.pure rfl rfl rfl rfl ?_
  refine RL.pure rfl rfl rfl rfl ?_
  refine RL.field rfl rfl rfl rfl fl76_4 rfl rfl ?_
  refine RL.load (j := 11) rfl rfl rfl rfl ty29 rfl (hH2) (hg3.sh) rfl ?_
  refine RL.field rfl rfl rfl rfl fl76_4 rfl rfl ?_
  refine RL.load (j := 11) rfl rfl rfl rfl ty29 rfl (hH3) (hg3.sh) rfl ?_
  refine RL.pure rfl rfl rfl rfl ?_
  rw [beq_self_eq_true]
  refine RL.pure rfl rfl rfl rfl ?_
  refine RL.pure rfl rfl rfl rfl ?_
  refine RL.done ?_
  exact CW.ret (ret (vs := [_]) ⟨_, _, rfl, rfl, rfl⟩ (Post.mk hle hg3.nil (hax2.trans (hax3.trans (hax6.trans hax7))) rfl))

set_option maxRecDepth 100000 in
theorem CodecItems_ct {w : World} {s : Res} {os : List Res} {vs : List Value} {x : Item} {bs : List Int} {xa : Option Addr} {xc : Nat} (hg : Good w s os) (hv : RItem s vs x) (hx : Imm (RInt .u8) 1 s xa xc bs) (het : Et s) (hT : Holds s ⟨0, 0, none⟩ tabVs)
    (hb : x.bulk ≤ 70368744177664) (hl : bs.length ≤ 1048576) :
    Calls Tryd.prog 8 #[.agg vs.toArray, .slice xa bs.length xc] w (Post w s os fun _ _ r => r = .bool true) := by
  have hv0 := hv
  obtain ⟨a1, a2, a3, b1, b2, b3, c1, c2, c3, d1, d2, d3, rfl, _⟩ := hv
  refine enter (l := [.agg (itemCells x a1 a2 a3 b1 b2 b3 c1 c2 c3 d1 d2 d3).toArray, .slice xa bs.length xc]) Tryd.func8 rfl Tryd.ntmps8 rfl ?_
  refine CW.seq (CW.plain ?_)
  refine RL.box rfl rfl rfl rfl rfl hg ?_
  rintro p w0 hg0 hax0
  refine ⟨trivial, ?_⟩
  refine RL.pure rfl rfl rfl rfl ?_
  refine RL.done ?_
  obtain ⟨s0, hg0, hle0, hH⟩ := boxed hg0
  have hH : Holds s0 ⟨p, 0, none⟩ (itemCells x a1 a2 a3 b1 b2 b3 c1 c2 c3 d1 d2 d3) := hH
  simp only [itemCells] at hH
  refine CW.seq (CW.plain ?_)
  refine RL.call rfl rfl rfl rfl rfl ca11 (lives_ct hg0 (hT.le hle0)) ?_
  rintro v1 s1 A1 w1 hle1 hg1 hax1 rfl
  refine ⟨trivial, ?_⟩
  refine RL.pure rfl rfl rfl rfl ?_
  refine RL.done ?_
  have hl1 := hle0.trans hle1
  have hH := hH.le hle1
  refine CW.seq (CW.plain ?_)
  refine RL.loads (j := 0) (us := (itemCells x a1 a2 a3 b1 b2 b3 c1 c2 c3 d1 d2 d3)) rfl rfl rfl rfl ty76 rfl (hH) (hg1.sh) rfl rfl ?_
  refine RL.call rfl rfl rfl rfl rfl ca27 (Item_ct hg1.drop (RItem.up _ _ _ _ hl1 hv0) hb) ?_
  rintro v2 s2 A2 w2 hle2 hg2 hax2 ⟨wa, wc, rfl, hown⟩
  refine ⟨trivial, ?_⟩
  refine RL.pure rfl rfl rfl rfl ?_
  refine RL.done ?_
  obtain ⟨s3, hg3, hle3, hA3⟩ := Good.letgo hg2
  have hl3 := hl1.trans (hle2.trans hle3)
  have hW := hown.imm (RInt.up _) hle3 hA3
  have hH := hH.le (hle2.trans hle3)
  have hx3 := hx.up (RInt.up _) hl3
  refine CW.seq (CW.plain ?_)
  refine RL.pure rfl rfl rfl rfl ?_
  refine RL.call rfl rfl rfl rfl rfl ca28 (ReadItem_ct hg3 (het.le hl3) (.inl rfl) hx3.2.2 (by omega)) ?_
  rintro v4 s4 A4 w4 hle4 hg4 hax4 ⟨us4, rfl, hv4⟩
  refine ⟨trivial, ?_⟩
  refine RL.pure rfl rfl rfl rfl ?_
  obtain ⟨g1, g2, g3, k1, k2, k3, m1, m2, m3, n1, n2, n3, rfl, _⟩ := id hv4
  refine RL.pure rfl rfl rfl rfl ?_
  refine RL.pure rfl rfl rfl rfl ?_
  refine RL.alloc rfl rfl rfl rfl ze76 hg4.drop ?_
  rintro p7 w5 hg5 hax5
  refine ⟨trivial, ?_⟩
  refine RL.store (i := 0) (j := 0) rfl rfl rfl ty76 rfl rfl hg5 rfl (if_pos rfl) rfl (by simp [itemCells, Value.cells, Value.oneCell']) (by decide) ?_
  rintro w6 hg6 hax6
  refine ⟨trivial, ?_⟩
  refine RL.pure rfl rfl rfl rfl ?_
  refine RL.done ?_
  obtain ⟨P7, hP7, hg6⟩ : ∃ P7, P7 p7 = some (.cells (itemCells (rdItem bs).1 g1 g2 g3 k1 k2 k3 m1 m2 m3 n1 n2 n3).toArray 76 (0, 0)) ∧ Good w6 s4 (P7 :: os) := ⟨_, put_same _ _ _, hg6⟩
  obtain ⟨s7, hg7, hle7, hq7⟩ := Good.letgo hg6
  have hl7 := hl3.trans (hle4.trans hle7)
  have hH7 : Holds s7 ⟨p7, 0, none⟩ (itemCells (rdItem bs).1 g1 g2 g3 k1 k2 k3 m1 m2 m3 n1 n2 n3) := (Holds.of hP7).le hq7
  have hv7 := RItem.up _ _ _ _ hle7 hv4
  refine CW.seq (CW.plain ?_)
  refine RL.pure rfl rfl rfl rfl ?_
  refine RL.call rfl rfl rfl rfl rfl ca29 (rReadItem_ct hg7 (hx.up (RInt.up _) hl7) (by omega)) ?_
  rintro v8 s8 A8 w8 hle8 hg8 hax8 ⟨us8, rfl, hv8⟩
  refine ⟨trivial, ?_⟩
  refine RL.pure rfl rfl rfl rfl ?_
  obtain ⟨G1, G2, G3, K1, K2, K3, M1, M2, M3, N1, N2, N3, rfl, _⟩ := id hv8
  refine RL.pure rfl rfl rfl rfl ?_
  refine RL.pure rfl rfl rfl rfl ?_
  refine RL.alloc rfl rfl rfl rfl ze76 hg8.drop ?_
  rintro p9 w9 hg9 hax9
  refine ⟨trivial, ?_⟩
  refine RL.store (i := 0) (j := 0) rfl rfl rfl ty76 rfl rfl hg9 rfl (if_pos rfl) rfl (by simp [itemCells, Value.cells, Value.oneCell']) (by decide) ?_
  rintro wa0 hga0 haxa0
  refine ⟨trivial, ?_⟩
  refine RL.pure rfl rfl rfl rfl ?_
  refine RL.done ?_
  obtain ⟨P9, hP9, hga0⟩ : ∃ P9, P9 p9 = some (.cells (itemCells (rdItem bs).1 G1 G2 G3 K1 K2 K3 M1 M2 M3 N1 N2 N3).toArray 76 (0, 0)) ∧ Good wa0 s8 (P9 :: os) := ⟨_, put_same _ _ _, hga0⟩
  obtain ⟨s10, hg10, hle10, hq10⟩ := Good.letgo hga0
  have hH9 : Holds s10 ⟨p9, 0, none⟩ (itemCells (rdItem bs).1 G1 G2 G3 K1 K2 K3 M1 M2 M3 N1 N2 N3) := (Holds.of hP9).le hq10
  have hl10 := hl7.trans (hle8.trans hle10)
  refine CW.seq (CW.plain ?_)
  refine RL.loads (j := 0) (us := (itemCells (rdItem bs).1 g1 g2 g3 k1 k2 k3 m1 m2 m3 n1 n2 n3)) rfl rfl rfl rfl ty76 rfl (hH7.le (hle8.trans hle10)) (hg10.sh) rfl rfl ?_
  refine RL.loads (j := 0) (us := (itemCells (rdItem bs).1 G1 G2 G3 K1 K2 K3 M1 M2 M3 N1 N2 N3)) rfl rfl rfl rfl ty76 rfl (hH9) (hg10.sh) rfl rfl ?_
  refine RL.call rfl rfl rfl rfl rfl ca30 (SameItem_ct hg10 (RItem.up _ _ _ _ (hle8.trans hle10) hv7) (RItem.up _ _ _ _ hle10 hv8)) ?_
  rintro v11 s11 A11 w11 hle11 hg11 hax11 rfl
  refine ⟨trivial, ?_⟩
  refine RL.pure rfl rfl rfl rfl ?_
  refine RL.done ?_
  have hl11 := hl10.trans hle11
  have hW := hW.up (RInt.up _) (hle4.trans (hle7.trans (hle8.trans (hle10.trans hle11))))
  have hH := hH.le (hle4.trans (hle7.trans (hle8.trans (hle10.trans hle11))))
  have hgD := hg11.drew.drop
  refine CW.seq ?_
  refine CW.draws [(true, 0), (true, 1), (true, 2), (true, 3), (true, 4), (false, 5), (false, 6), (true, 7), (true, 8), (true, 9), (true, 10), (true, 11), (true, 12), (true, 13), (true, 14), (true, 15), (true, 16), (false, 17)] (fun w => In s11 w) mixed (by kernel_rfl) (by kernel_rfl) (by kernel_rfl) (by kernel_rfl) (hgD.sh) ?_
  refine RL.pure rfl rfl rfl rfl ?_
  refine RL.pure rfl rfl rfl rfl ?_
  refine RL.pure rfl rfl rfl rfl ?_
  refine RL.btsT rfl rfl rfl rfl sl25 Tryd.underlying5 Tryd.underlying9 rfl (hW.2.2) (fun w h => h) ?_
  refine RL.loadsT (j := 0) (us := (itemCells x a1 a2 a3 b1 b2 b3 c1 c2 c3 d1 d2 d3)) rfl rfl rfl rfl ty76 rfl hH (fun w h => h) rfl rfl ?_
  refine RL.call rfl rfl rfl rfl rfl ca31 (rItem_ct hgD (RItem.up _ _ _ _ hl11 hv0) hb) ?_
  rintro v12 s12 A12 w12 hle12 hg12 hax12 ⟨ra, rc, rfl, hr12⟩
  refine ⟨(hg12.sh.le hle12), ?_⟩
  refine RL.bts rfl rfl rfl rfl sl25 Tryd.underlying5 Tryd.underlying9 rfl (hr12.row) (hg12.1) ?_
  refine RL.sEq rfl rfl rfl rfl rfl rfl ?_
  rw [beq_self_eq_true]
  refine RL.pure rfl rfl rfl rfl ?_
  refine RL.pure rfl rfl rfl rfl ?_
  refine RL.pure rfl rfl rfl rfl ?_
  refine RL.pure rfl rfl rfl rfl ?_
  refine RL.pure rfl rfl rfl rfl ?_
  refine RL.pure rfl rfl rfl rfl ?_
  refine RL.pure rfl rfl rfl rfl ?_
  refine RL.pure rfl rfl rfl rfl ?_
  rw [beq_self_eq_true]
  refine RL.pure rfl rfl rfl rfl ?_
  refine RL.pure rfl rfl rfl rfl ?_
  refine RL.done ?_
  exact CW.ret (ret (vs := [_]) ⟨_, _, rfl, rfl, rfl⟩ (Post.mk (hl11.trans hle12) hg12 (hax0.trans (hax1.trans (hax2.trans (hax4.trans (hax5.trans (hax6.trans (hax8.trans (hax9.trans (haxa0.trans (hax11.trans ((Aux.drew _).trans hax12))))))))))) rfl))
end Go.Lw
