/-
  Beats: the laws' own functions: own, head; Same.
-/
import Derived.Test.YthaomecbklmmdaaDoorOpBxQ
namespace Go.Lw
open Go.Proofs
attribute [local irreducible] RL RA

set_option maxHeartbeats 1000000 in
set_option maxRecDepth 100000 in
theorem own_ct {w : World} {s : Res} {os : List Res} {l : List Wire} {la : Option Addr} {lc : Nat} (hg : Good w s os) (hl : Imm RWire 15 s la lc l) (hb : l.length ≤ 549755813888) :
    Calls Tryd.prog 12 #[.slice la l.length lc] w (Post w s os fun s' A v => s' = s ∧ ∃ a c, v = .slice a l.length c ∧ Own RWire 15 44 s' A a c l) := by
  have hone := RWire.one
  refine enter (l := [.slice la l.length lc]) Tryd.func12 rfl Tryd.ntmps12 rfl ?_
  refine CW.seq (CW.plain ?_)
  refine RL.pure rfl rfl rfl rfl ?_
  refine RL.done ?_
  refine CW.seq (CW.plain ?_)
  refine RL.pure rfl rfl rfl rfl ?_
  refine RL.done ?_
  refine CW.seq (CW.seq (CW.plain ?_))
  refine RL.pure rfl rfl rfl rfl ?_
  refine RL.done ?_
  refine CW.block (CW.loop (σ := Nat) (fun j E w' => ∃ O ao co, ∃ k : Nat, E = [(0, .slice la l.length lc), (3, .slice ao (l.take k).length co), (4, i64 k)] ∧ Good w' s (O :: os) ∧ Aux w w' ∧ Own RWire 15 44 s O ao co (l.take k) ∧ k + j = l.length)
    (fun j => j) l.length [(0, .slice la l.length lc), (3, nilSl), (4, i64 0)] ⟨rfl, rfl, rfl, trivial⟩ ⟨Res.nil, none, 0, 0, rfl, hg.nil, Aux.refl _, .inl ⟨rfl, rfl, rfl⟩, by omega⟩ ?_)
  rintro j E w2 ⟨O, ao, co, k, rfl, hg2, hax2, ho, hk⟩
  refine CW.seq (CW.seq (CW.plain ?_))
  refine RL.pure rfl rfl rfl rfl ?_
  refine RL.pure rfl rfl rfl rfl ?_
  refine RL.len rfl rfl rfl rfl sl30 rfl ?_
  refine RL.pure rfl rfl rfl rfl ?_
  refine RL.done ?_
  refine CW.test rfl (fun h => CW.skip ?_) (fun h => CW.exit ?_)
  · have hkl : k < l.length := by omega
    have ek : l[((k : Nat) : Int).toNat]'(by omega) = l[k] := by simp
    have htk : l.take k ++ [l[k]] = l.take (k + 1) := (List.take_succ_eq_append_getElem hkl).symm
    have hgD := hg2.drew
    refine CW.seq (CW.block ?_)
    refine CW.draws [(true, 0), (true, 1), (true, 2), (true, 3), (true, 4), (true, 5), (true, 6), (true, 7), (true, 8), (true, 9), (true, 10), (true, 11), (false, 12), (false, 13), (false, 14)] (fun w => In s w) mixed (by kernel_rfl) (by kernel_rfl) (by kernel_rfl) (by kernel_rfl) (hgD.sh) ?_
    refine RL.pure rfl rfl rfl rfl ?_
    refine RL.pure rfl rfl rfl rfl ?_
    refine RL.pure rfl rfl rfl rfl ?_
    refine RL.idx rfl rfl rfl rfl sl30 rfl rfl (hl) (by omega) ((by omega)) ?_
    rintro q vs hvl hHe hre
    refine RL.field rfl rfl rfl rfl fl51_0 rfl rfl ?_
    rw [ek] at hre
    obtain ⟨y, rfl, hgr, ho1⟩ := id hre
    refine RL.loadT (j := 0) rfl rfl rfl rfl ty36 rfl (hHe) (fun w h => h) rfl ?_
    refine RL.pure rfl rfl rfl rfl ?_
    refine RL.pure rfl rfl rfl rfl ?_
    refine RL.idx rfl rfl rfl rfl sl30 rfl rfl (hl) (by omega) ((by omega)) ?_
    rintro q2 vs2 hvl2 hHe2 hre2
    refine RL.field rfl rfl rfl rfl fl51_1 rfl rfl ?_
    rw [ek] at hre2
    obtain ⟨y2, rfl, hgr2, ho2⟩ := id hre2
    refine RL.loadsT (j := 1) (us := (msgV l[k].msg y2)) rfl rfl rfl rfl ty42 rfl (hHe2) (fun w h => h) rfl rfl ?_
    refine RL.build rfl rfl rfl rfl ze44 pl44 rfl rfl ?_
    refine RL.buildSlice rfl rfl rfl rfl sl26 ze44 rfl rfl rfl rfl hgD ?_
    rintro b w3 hg3 hax3
    refine ⟨hg3.sh, ?_⟩
    refine RL.append (i := 1) (ys := [l[k]]) rfl rfl rfl rfl sl26 ze44 rfl (by first | exact RInt.one _ | exact RStr.one | exact RBool.one | assumption) rfl rfl hg3 rfl ho ((Src.slice sl26 rfl (.inr ⟨_, rfl, Holds.one b _ 44⟩) hg3.1)) ((Chunks.single rfl hre2)) ((by simp; omega)) (by omega) ?_
    rintro a4 c4 A4 w4 hg4 ho4 hax4 hk4
    refine ⟨hg4.sh, ?_⟩
    refine RL.pure rfl rfl rfl rfl ?_
    refine RL.done ?_
    rw [htk] at ho4 ⊢
    refine CW.plain ?_
    refine RL.pure rfl rfl rfl rfl ?_
    refine RL.add rfl rfl rfl rfl rfl rfl (by simp only [rng] at *; omega) ?_
    refine RL.pure rfl rfl rfl rfl ?_
    refine RL.done ?_
    cases j with
    | zero => omega
    | succ j => exact fun ac ha => ⟨j, [(0, .slice la l.length lc), (3, .slice a4 (l.take (k + 1)).length c4), (4, i64 ((k + 1 : Nat) : Int))], ha.sub ⟨rfl, rfl, rfl, trivial⟩, ⟨A4, a4, c4, k + 1, rfl, hg4.drop, hax2.trans ((Aux.drew _).trans (hax3.trans hax4)), ho4, by omega⟩, Nat.lt_succ_self j⟩
  · have hkl : k = l.length := by omega
    rw [hkl, List.take_length] at ho ⊢
    refine CW.seq (CW.plain ?_)
    refine RL.pure rfl rfl rfl rfl ?_
    refine RL.pure rfl rfl rfl rfl ?_
    refine RL.done ?_
    exact CW.ret (ret (vs := [_]) ⟨_, _, rfl, rfl, rfl⟩ (Post.mk (Le.refl _) hg2 hax2 ⟨rfl, ao, co, rfl, ho⟩))

/-! ### packets held against the same -/
set_option maxHeartbeats 1000000 in
set_option maxRecDepth 100000 in
theorem Same_ct {w : World} {s : Res} {os : List Res} {l : List Packet} {a b : Option Addr} {c d : Nat} (hg : Good w s os) (ha : Imm RPacket 4 s a c l) (hb : Imm RPacket 4 s b d l) :
    Calls Tryd.prog 14 #[.slice a l.length c, .slice b l.length d] w (PostV w s os fun r => r = .bool true) := by
  have hll := ha.le_max
  simp only [maxLen] at hll
  refine enter (l := [.slice a l.length c, .slice b l.length d]) Tryd.func14 rfl Tryd.ntmps14 rfl ?_
  refine CW.seq (CW.plain ?_)
  refine RL.pure rfl rfl rfl rfl ?_
  refine RL.done ?_
  refine CW.seq (CW.seq (CW.plain ?_))
  refine RL.pure rfl rfl rfl rfl ?_
  refine RL.len rfl rfl rfl rfl sl46 rfl ?_
  refine RL.pure rfl rfl rfl rfl ?_
  refine RL.len rfl rfl rfl rfl sl46 rfl ?_
  refine RL.as_ rfl rfl rfl rfl (.bool false) ((by show Value.bool (_ != _) = _; simp)) ?_
  refine RL.done ?_
  refine CW.no rfl (CW.skip ?_)
  refine CW.seq (CW.seq (CW.plain ?_))
  refine RL.pure rfl rfl rfl rfl ?_
  refine RL.done ?_
  refine CW.block (CW.loop (σ := Nat) (fun j E w' => ∃ k : Nat, E = [(0, .slice a l.length c), (1, .slice b l.length d), (5, i64 k)] ∧ Good w' s os ∧ Aux w w' ∧ k + j = l.length)
    (fun j => j) l.length [(0, .slice a l.length c), (1, .slice b l.length d), (5, i64 0)] ⟨rfl, rfl, rfl, trivial⟩ ⟨0, rfl, hg, Aux.refl _, by omega⟩ ?_)
  rintro j E w2 ⟨k, rfl, hg2, hax2, hk⟩
  refine CW.seq (CW.seq (CW.plain ?_))
  refine RL.pure rfl rfl rfl rfl ?_
  refine RL.pure rfl rfl rfl rfl ?_
  refine RL.len rfl rfl rfl rfl sl46 rfl ?_
  refine RL.pure rfl rfl rfl rfl ?_
  refine RL.done ?_
  refine CW.test rfl (fun h => CW.skip ?_) (fun h => CW.exit ?_)
  · have hkl : k < l.length := by omega
    have ek : l[((k : Nat) : Int).toNat]'(by omega) = l[k] := by simp
    have hgD := hg2.drew
    refine CW.seq (CW.block (CW.seq ?_))
    refine CW.draws [(true, 0), (true, 1), (true, 2), (true, 3), (true, 4), (true, 5), (true, 6), (true, 7), (true, 8), (true, 9), (true, 10), (true, 11), (true, 12), (true, 13), (true, 14), (true, 15), (true, 16), (true, 17), (true, 18), (true, 19), (true, 20), (true, 21), (true, 22), (true, 23), (true, 24), (true, 25), (true, 26), (true, 27), (true, 28), (true, 29), (true, 30), (true, 31), (true, 32), (true, 33), (true, 34), (true, 35), (true, 36), (true, 37), (true, 38), (true, 39), (true, 40), (true, 41), (true, 42), (true, 43), (true, 44), (true, 45), (true, 46), (true, 47), (true, 48), (true, 49), (true, 50), (true, 51)] (fun w => Good w s os) mixed (by kernel_rfl) (by kernel_rfl) (by kernel_rfl) (by kernel_rfl) (hgD) ?_
    refine RL.pure rfl rfl rfl rfl ?_
    refine RL.pure rfl rfl rfl rfl ?_
    refine RL.idx rfl rfl rfl rfl sl46 rfl rfl (ha) (by omega) ((by omega)) ?_
    rintro q1 vs1 hv1 hH1 ⟨x1, y1, rfl, _, _, _, _⟩
    refine RL.field rfl rfl rfl rfl fl24_0 rfl rfl ?_
    refine RL.loadT (j := 0) rfl rfl rfl rfl ty3 rfl (hH1) (fun w h => h.sh) rfl ?_
    refine RL.pure rfl rfl rfl rfl ?_
    refine RL.pure rfl rfl rfl rfl ?_
    refine RL.idx rfl rfl rfl rfl sl46 rfl rfl (hb) (by omega) ((by omega)) ?_
    rintro q2 vs2 hv2 hH2 ⟨x2, y2, rfl, _, _, _, _⟩
    refine RL.field rfl rfl rfl rfl fl24_0 rfl rfl ?_
    refine RL.loadT (j := 0) rfl rfl rfl rfl ty3 rfl (hH2) (fun w h => h.sh) rfl ?_
    refine RL.as_ rfl rfl rfl rfl (.bool false) ((by show Value.bool (_ != _) = _; simp)) ?_
    refine RL.pure rfl rfl rfl rfl ?_
    refine RL.pure rfl rfl rfl rfl ?_
    refine RL.pure rfl rfl rfl rfl ?_
    refine RL.idx rfl rfl rfl rfl sl46 rfl rfl (ha) (by omega) ((by omega)) ?_
    rintro q3 vs3 hv3 hH3 ⟨x3, y3, rfl, _, _, _, _⟩
    refine RL.field rfl rfl rfl rfl fl24_1 rfl rfl ?_
    refine RL.loadT (j := 1) rfl rfl rfl rfl ty3 rfl (hH3) (fun w h => h.sh) rfl ?_
    refine RL.pure rfl rfl rfl rfl ?_
    refine RL.pure rfl rfl rfl rfl ?_
    refine RL.idx rfl rfl rfl rfl sl46 rfl rfl (hb) (by omega) ((by omega)) ?_
    rintro q4 vs4 hv4 hH4 ⟨x4, y4, rfl, _, _, _, _⟩
    refine RL.field rfl rfl rfl rfl fl24_1 rfl rfl ?_
    refine RL.loadT (j := 1) rfl rfl rfl rfl ty3 rfl (hH4) (fun w h => h.sh) rfl ?_
    refine RL.as_ rfl rfl rfl rfl (.bool false) ((by show Value.bool (_ != _) = _; simp)) ?_
    refine RL.pure rfl rfl rfl rfl ?_
    refine RL.pure rfl rfl rfl rfl ?_
    refine RL.pure rfl rfl rfl rfl ?_
    refine RL.pure rfl rfl rfl rfl ?_
    refine RL.idx rfl rfl rfl rfl sl46 rfl rfl (ha) (by omega) ((by omega)) ?_
    rintro q5 vs5 hv5 hH5 ⟨x5, y5, rfl, _, _, _, _⟩
    refine RL.field rfl rfl rfl rfl fl24_2 rfl rfl ?_
    refine RL.loadT (j := 2) rfl rfl rfl rfl ty3 rfl (hH5) (fun w h => h.sh) rfl ?_
    refine RL.pure rfl rfl rfl rfl ?_
    refine RL.pure rfl rfl rfl rfl ?_
    refine RL.idx rfl rfl rfl rfl sl46 rfl rfl (hb) (by omega) ((by omega)) ?_
    rintro q6 vs6 hv6 hH6 ⟨x6, y6, rfl, _, _, _, _⟩
    refine RL.field rfl rfl rfl rfl fl24_2 rfl rfl ?_
    refine RL.loadT (j := 2) rfl rfl rfl rfl ty3 rfl (hH6) (fun w h => h.sh) rfl ?_
    refine RL.as_ rfl rfl rfl rfl (.bool false) ((by show Value.bool (_ != _) = _; simp)) ?_
    refine RL.pure rfl rfl rfl rfl ?_
    refine RL.pure rfl rfl rfl rfl ?_
    refine RL.pure rfl rfl rfl rfl ?_
    refine RL.pure rfl rfl rfl rfl ?_
    refine RL.idx rfl rfl rfl rfl sl46 rfl rfl (ha) (by omega) ((by omega)) ?_
    rintro q7 vs7 hv7 hH7 ⟨x7, y7, rfl, _, _, _, i7⟩
    refine RL.field rfl rfl rfl rfl fl24_3 rfl rfl ?_
    refine RL.loadT (j := 3) rfl rfl rfl rfl ty22 rfl (hH7) (fun w h => h.sh) rfl ?_
    refine RL.btsT rfl rfl rfl rfl sl22 Tryd.underlying5 Tryd.underlying9 rfl (i7.2.2) (fun w h => h.sh) ?_
    refine RL.pure rfl rfl rfl rfl ?_
    refine RL.pure rfl rfl rfl rfl ?_
    refine RL.idx rfl rfl rfl rfl sl46 rfl rfl (hb) (by omega) ((by omega)) ?_
    rintro q8 vs8 hv8 hH8 ⟨x8, y8, rfl, _, _, _, i8⟩
    refine RL.field rfl rfl rfl rfl fl24_3 rfl rfl ?_
    refine RL.loadT (j := 3) rfl rfl rfl rfl ty22 rfl (hH8) (fun w h => h.sh) rfl ?_
    refine RL.btsT rfl rfl rfl rfl sl22 Tryd.underlying5 Tryd.underlying9 rfl (i8.2.2) (fun w h => h.sh) ?_
    refine RL.sNe rfl rfl rfl rfl rfl rfl ?_
    rw [show (!((strOfNums l[((k : Nat) : Int).toNat].data).toList == (strOfNums l[((k : Nat) : Int).toNat].data).toList)) = false by simp]
    refine RL.pure rfl rfl rfl rfl ?_
    refine RL.done ?_
    refine CW.no rfl (CW.skip ?_)
    refine CW.plain ?_
    refine RL.pure rfl rfl rfl rfl ?_
    refine RL.add rfl rfl rfl rfl rfl rfl (by simp only [rng] at *; omega) ?_
    refine RL.pure rfl rfl rfl rfl ?_
    refine RL.done ?_
    cases j with
    | zero => omega
    | succ j => exact fun ac ha => ⟨j, [(0, .slice a l.length c), (1, .slice b l.length d), (5, i64 ((k + 1 : Nat) : Int))], ha.sub ⟨rfl, rfl, rfl, trivial⟩, ⟨k + 1, rfl, hgD, hax2.trans (Aux.drew _), by omega⟩, Nat.lt_succ_self j⟩
  · refine CW.seq (CW.plain ?_)
    refine RL.pure rfl rfl rfl rfl ?_
    refine RL.done ?_
    exact CW.ret (ret (vs := [_]) ⟨_, _, rfl, rfl, rfl⟩ (PostV.mk hg2 hax2 rfl))

/-! ### the live question -/
def headL : List Wire := [⟨5, ⟨5, 1, 2, 3, 0, 0, [], 0, false, 0, ⟨[], []⟩, [], false⟩⟩, ⟨6, ⟨3, 1, 2, 3, 0, 0, [], 0, false, 0, ⟨[], []⟩, [], false⟩⟩]
theorem head_pack : (packP 1 headL).2 = 0 ∧ (packP 1 headL).1.map (·.kind) = [2, 1] := by decide +kernel
theorem two_kinds : ∀ {ps : List Packet}, ps.map (·.kind) = [2, 1] → ∃ p1 p2, ps = [p1, p2] ∧ p1.kind = 2 ∧ p2.kind = 1
  | [], h => by simp at h
  | [_], h => by simp at h
  | [p1, p2], h => by
    simp only [List.map_cons, List.map_nil, List.cons.injEq, and_true] at h
    exact ⟨p1, p2, rfl, h.1, h.2⟩
  | _ :: _ :: _ :: _, h => by simp at h
set_option maxHeartbeats 1000000 in
set_option maxRecDepth 100000 in
theorem head11_ct {w : World} {s : Res} {os : List Res} (hg : Good w s os) : Calls Tryd.prog 6 #[] w (Post w s os fun _ _ r => r = .bool true) := by
  refine enter (l := []) Tryd.func6 rfl Tryd.ntmps6 rfl ?_
  refine CW.seq (CW.plain ?_)
  refine RL.pure rfl rfl rfl rfl ?_
  refine RL.done ?_
  refine CW.seq (CW.plain ?_)
  refine RL.build rfl rfl rfl rfl ze42 pl42 rfl rfl ?_
  refine RL.build rfl rfl rfl rfl ze44 pl44 rfl rfl ?_
  refine RL.build rfl rfl rfl rfl ze42 pl42 rfl rfl ?_
  refine RL.build rfl rfl rfl rfl ze44 pl44 rfl rfl ?_
  refine RL.buildSlice rfl rfl rfl rfl sl26 ze44 rfl rfl rfl rfl hg ?_
  rintro p w1 hg1 hax1
  refine ⟨trivial, ?_⟩
  obtain ⟨s2, hg2, hle2, hq2⟩ := Good.letgo hg1
  have hl : Imm RWire 15 s2 (some ⟨p, 0, none⟩) 2 headL := by
    refine ⟨by decide, by decide, .inr ⟨_, rfl, _, (Holds.of (if_pos rfl)).le hq2, ?_⟩⟩
    have hok : ∀ m : Msg, m.entries = [] → m.conf = ⟨[], []⟩ → m.data = [] → rng .i64 m.kind → rng .i64 m.frm → rng .i64 m.to → rng .u64 m.term → rng .u64 m.index → rng .u64 m.logTerm → rng .u64 m.commit → rng .u64 m.hint → MsgOk s2 m ⟨none, 0, none, 0, none, 0, none, 0⟩ := fun m h1 h2 h3 r1 r2 r3 r4 r5 r6 r7 r8 =>
      ⟨r1, r2, r3, r4, r5, r6, r7, r8, by rw [h1]; exact Imm.nil _ _ _ (Nat.zero_le _), by rw [h2]; exact Imm.nil _ _ _ (Nat.zero_le _), by rw [h2]; exact Imm.nil _ _ _ (Nat.zero_le _), by rw [h3]; exact Imm.nil _ _ _ (Nat.zero_le _)⟩
    exact ⟨_, _, rfl, rfl, ⟨⟨none, 0, none, 0, none, 0, none, 0⟩, rfl, by simp [rng], hok _ rfl rfl rfl (by simp [rng]) (by simp [rng]) (by simp [rng]) (by simp [rng]) (by simp [rng]) (by simp [rng]) (by simp [rng]) (by simp [rng])⟩,
      _, [], rfl, rfl, ⟨⟨none, 0, none, 0, none, 0, none, 0⟩, rfl, by simp [rng], hok _ rfl rfl rfl (by simp [rng]) (by simp [rng]) (by simp [rng]) (by simp [rng]) (by simp [rng]) (by simp [rng]) (by simp [rng]) (by simp [rng])⟩, rfl⟩
  have hfit : ∀ x ∈ headL, x.msg.fits := by
    intro x hx
    simp only [headL, List.mem_cons, List.not_mem_nil, or_false] at hx
    rcases hx with rfl | rfl <;> simp [Msg.fits, Msg.lens]
  have hbk : bulkW headL + headL.length ≤ 17592186044416 := by decide
  obtain ⟨h1, h2⟩ := head_pack
  refine RL.call rfl rfl rfl rfl rfl ca11 (Pack_ct (l := headL) hg2 hl (by simp [rng]) hbk hfit) ?_
  rintro v3 s3 A3 w3 hle3 hg3 hax3 ⟨a3, c3, rfl, ho3⟩
  refine ⟨trivial, ?_⟩
  rw [h1]
  generalize (packP 1 headL).1 = ps at *
  obtain ⟨p1, p2, rfl, e1, e2⟩ := two_kinds h2
  obtain ⟨s4, hg4, hle4, hq4⟩ := Good.letgo hg3
  have him := ho3.imm RPacket.up hle4 hq4
  refine RL.pure rfl rfl rfl rfl ?_
  refine RL.pure rfl rfl rfl rfl ?_
  refine RL.pure rfl rfl rfl rfl ?_
  refine RL.pure rfl rfl rfl rfl ?_
  refine RL.pure rfl rfl rfl rfl ?_
  refine RL.done ?_
  refine CW.seq (CW.plain ?_)
  refine RL.pure rfl rfl rfl rfl ?_
  refine RL.pure rfl rfl rfl rfl ?_
  refine RL.pure rfl rfl rfl rfl ?_
  refine RL.pure rfl rfl rfl rfl ?_
  refine RL.len rfl rfl rfl rfl sl46 rfl ?_
  refine RL.pure rfl rfl rfl rfl ?_
  refine RL.pure rfl rfl rfl rfl ?_
  refine RL.pure rfl rfl rfl rfl ?_
  refine RL.pure rfl rfl rfl rfl ?_
  refine RL.idx rfl rfl rfl rfl sl46 rfl rfl (him) (by decide) ((by simp)) ?_
  rintro q1 vs1 hv1 hH1 ⟨x1, y1, rfl, _, _, _, _⟩
  refine RL.field rfl rfl rfl rfl fl24_2 rfl rfl ?_
  refine RL.load (j := 2) rfl rfl rfl rfl ty3 rfl (hH1) (hg4.sh) rfl ?_
  refine RL.as_ rfl rfl rfl rfl (.bool true) ((congrArg Value.bool (beq_iff_eq.2 e1))) ?_
  refine RL.pure rfl rfl rfl rfl ?_
  refine RL.pure rfl rfl rfl rfl ?_
  refine RL.pure rfl rfl rfl rfl ?_
  refine RL.idx rfl rfl rfl rfl sl46 rfl rfl (him) (by decide) ((by simp)) ?_
  rintro q2 vs2 hv2 hH2 ⟨x2, y2, rfl, _, _, _, _⟩
  refine RL.field rfl rfl rfl rfl fl24_2 rfl rfl ?_
  refine RL.load (j := 2) rfl rfl rfl rfl ty3 rfl (hH2) (hg4.sh) rfl ?_
  refine RL.as_ rfl rfl rfl rfl (.bool true) ((congrArg Value.bool (beq_iff_eq.2 e2))) ?_
  refine RL.pure rfl rfl rfl rfl ?_
  refine RL.pure rfl rfl rfl rfl ?_
  refine RL.done ?_
  exact CW.ret (ret (vs := [_]) ⟨_, _, rfl, rfl, rfl⟩ (Post.mk (hle2.trans (hle3.trans hle4)) hg4.nil (hax1.trans hax3) rfl))
end Go.Lw
