/-
  The law CodecNames, walked.
-/
import Derived.Test.YtcbifehmmfjioaaDoorNmsCodecIs
import Derived.Test.YtcbifehmmfjioaaDoorNmsCodecUn
namespace Go.Lw
open Go.Proofs
attribute [local irreducible] RL RA

def bads : List ByteArray := [⟨#[128, 0]⟩, ⟨#[128]⟩, ⟨#[255, 255, 255, 255, 255, 255, 255, 255, 255, 255]⟩]
def wants3 : List Int := [12, 11, 12]
theorem bads_err : ∀ k, (h : k < 3) → (rdUint (nums (bads[k]'h)) ⟨0, none⟩).2.errno = wants3[k]'h ∧ (rdUint (nums (bads[k]'h)) ⟨0, none⟩).2.place = 0 ∧ (bads[k]'h).size ≤ maxLen ∧ (nums (bads[k]'h)).length ≤ 10 := by
  intro k h
  have : k = 0 ∨ k = 1 ∨ k = 2 := by omega
  rcases this with rfl | rfl | rfl
  · show (rdUint (nums ⟨#[128, 0]⟩) ⟨0, none⟩).2.errno = 12 ∧ (rdUint (nums ⟨#[128, 0]⟩) ⟨0, none⟩).2.place = 0 ∧ (⟨#[128, 0]⟩ : ByteArray).size ≤ maxLen ∧ (nums ⟨#[128, 0]⟩).length ≤ 10
    decide +kernel
  · show (rdUint (nums ⟨#[128]⟩) ⟨0, none⟩).2.errno = 11 ∧ (rdUint (nums ⟨#[128]⟩) ⟨0, none⟩).2.place = 0 ∧ (⟨#[128]⟩ : ByteArray).size ≤ maxLen ∧ (nums ⟨#[128]⟩).length ≤ 10
    decide +kernel
  · show (rdUint (nums ⟨#[255, 255, 255, 255, 255, 255, 255, 255, 255, 255]⟩) ⟨0, none⟩).2.errno = 12 ∧ (rdUint (nums ⟨#[255, 255, 255, 255, 255, 255, 255, 255, 255, 255]⟩) ⟨0, none⟩).2.place = 0 ∧ (⟨#[255, 255, 255, 255, 255, 255, 255, 255, 255, 255]⟩ : ByteArray).size ≤ maxLen ∧ (nums ⟨#[255, 255, 255, 255, 255, 255, 255, 255, 255, 255]⟩).length ≤ 10
    decide +kernel
def cut5 : Item := ⟨3, 5, Entry.zero, Hard.zero, 300, Snap.zero⟩
theorem u8_imm {s P : Res} {b : Nat} {l : List Int} {el : TypeId} (hr : ∀ x ∈ l, rng .u8 x) (hl : l.length ≤ 10) (hP : P b = some (.cells (l.map (Value.int .u8)).toArray el (0, 0))) (hle : Le P s) : Imm (RInt .u8) 1 s (some ⟨b, 0, none⟩) l.length l :=
  ⟨Nat.le_refl _, by simp only [maxLen]; omega, .inr ⟨_, rfl, _, (Holds.of hP).le hle, ints_chunks hr⟩⟩

set_option maxRecDepth 100000 in
theorem CodecNames_ct {w : World} {s : Res} {os : List Res} (hg : Good w s os) (het : Et s) (hT : Holds s ⟨0, 0, none⟩ tabVs) :
    Calls Tryd.prog 10 #[] w (Post w s os fun _ _ r => r = .bool true) := by
  refine enter (l := []) Tryd.func10 rfl Tryd.ntmps10 rfl ?_
  refine CW.seq (CW.plain ?_)
  refine RL.pure rfl rfl rfl rfl ?_
  refine RL.done ?_
  refine CW.seq (CW.plain ?_)
  refine RL.call rfl rfl rfl rfl rfl ca11 (lives_ct hg hT) ?_
  rintro v1 s1 A1 w1 hle1 hg1 hax1 rfl
  refine ⟨trivial, ?_⟩
  refine RL.pure rfl rfl rfl rfl ?_
  refine RL.done ?_
  refine CW.seq (CW.plain ?_)
  refine RL.call rfl rfl rfl rfl rfl ca18 (Frame_ct (xs := []) (xa := none) (xc := 0) hg1.drop (nilB s1) (hT.le hle1) (by simp)) ?_
  rintro v2 s2 A2 w2 hle2 hg2 hax2 ⟨fa, fc, rfl, hfr⟩
  refine ⟨trivial, ?_⟩
  refine RL.pure rfl rfl rfl rfl ?_
  refine RL.done ?_
  obtain ⟨s3, hg3, hle3, hA3⟩ := Good.letgo hg2
  have hF := hfr.imm (RInt.up _) hle3 hA3
  refine CW.seq (CW.plain ?_)
  refine RL.build rfl rfl rfl rfl ze76 pl76 rfl rfl ?_
  refine RL.call rfl rfl rfl rfl rfl ca27 (Item_ct (x := cut5) hg3 ⟨none, none, none, none, none, none, 0, 0, 0, 0, 0, 0, rfl, by simp [cut5, rng], by simp [cut5, rng], ⟨by simp [cut5, Entry.zero, rng], by simp [cut5, Entry.zero, rng], by simp [cut5, Entry.zero, rng], nilB _, nilI _, nilI _⟩, ⟨by simp [cut5, Hard.zero, rng], by simp [cut5, Hard.zero, rng], by simp [cut5, Hard.zero, rng]⟩, by simp [cut5, rng], by simp [cut5, Snap.zero, rng], by simp [cut5, Snap.zero, rng], nilB _, nilI _, nilI _⟩ (by decide)) ?_
  rintro v4 s4 A4 w4 hle4 hg4 hax4 ⟨ia, ic, rfl, hit⟩
  refine ⟨trivial, ?_⟩
  refine RL.pure rfl rfl rfl rfl ?_
  refine RL.done ?_
  obtain ⟨s5, hg5, hle5, hA5⟩ := Good.letgo hg4
  have hI := hit.imm (RInt.up _) hle5 hA5
  have hF := hF.up (RInt.up _) (hle4.trans hle5)
  refine CW.seq (CW.plain ?_)
  refine RL.buildSlice rfl rfl rfl rfl sl47 ze9 rfl rfl rfl rfl hg5 ?_
  rintro p6 w6 hg6 hax6
  refine ⟨trivial, ?_⟩
  refine RL.pure rfl rfl rfl rfl ?_
  refine RL.done ?_
  refine CW.seq (CW.plain ?_)
  refine RL.buildSlice rfl rfl rfl rfl sl84 ze52 rfl rfl rfl rfl hg6 ?_
  rintro p7 w7 hg7 hax7
  refine ⟨trivial, ?_⟩
  refine RL.pure rfl rfl rfl rfl ?_
  refine RL.done ?_
  obtain ⟨s8, hg8, hle8, hA8⟩ := Good.letgo hg7
  obtain ⟨s9, hg9, hle9, hA9⟩ := Good.letgo hg8
  have hB : Imm RStr 1 s9 (some ⟨p6, 0, none⟩) 3 bads := ⟨by decide, by decide, .inr ⟨_, rfl, _, (Holds.of (if_pos rfl)).le hA9, ⟨_, _, rfl, rfl, ⟨rfl, by decide⟩, _, _, rfl, rfl, ⟨rfl, by decide⟩, _, _, rfl, rfl, ⟨rfl, by decide⟩, rfl⟩⟩⟩
  have hW : Imm (RInt .i64) 1 s9 (some ⟨p7, 0, none⟩) 3 wants3 := ⟨by decide, by decide, .inr ⟨_, rfl, _, (Holds.of (if_pos rfl)).le (hA8.trans hle9), ints_chunks (k := .i64) (xs := wants3) (by simp [wants3, rng])⟩⟩
  have hl9 := hle1.trans (hle2.trans (hle3.trans (hle4.trans (hle5.trans (hle8.trans hle9)))))
  have hx9 := hax1.trans (hax2.trans (hax4.trans (hax6.trans hax7)))
  have hF := hF.up (RInt.up _) (hle8.trans hle9)
  have hI := hI.up (RInt.up _) (hle8.trans hle9)
  clear hg1 hg2 hg3 hg4 hg5 hg6 hg7 hg8
  refine CW.meet (fun E w' => ∃ s', E = [(1, .bool true), (2, .slice fa (frame []).length fc), (3, .slice ia (encItem cut5).length ic)] ∧ Good w' s' os ∧ Le s9 s' ∧ Aux w w') ?_ ?_
  · refine CW.seq (CW.plain ?_)
    refine RL.pure rfl rfl rfl rfl ?_
    refine RL.done ?_
    refine CW.block (CW.loop (σ := Nat) (fun j E w' => ∃ s', ∃ k : Nat, E = [(1, .bool true), (2, .slice fa (frame []).length fc), (3, .slice ia (encItem cut5).length ic), (4, .slice (some ⟨p6, 0, none⟩) bads.length 3), (5, .slice (some ⟨p7, 0, none⟩) wants3.length 3), (6, i64 k)] ∧ Good w' s' os ∧ Le s9 s' ∧ Aux w w' ∧ k + j = 3)
      (fun j => j) 3 [(1, .bool true), (2, .slice fa (frame []).length fc), (3, .slice ia (encItem cut5).length ic), (4, .slice (some ⟨p6, 0, none⟩) bads.length 3), (5, .slice (some ⟨p7, 0, none⟩) wants3.length 3), (6, i64 0)] ⟨rfl, rfl, rfl, rfl, rfl, rfl, trivial⟩
      ⟨s9, 0, rfl, hg9, Le.refl _, hx9, rfl⟩ ?_)
    rintro j E w10 ⟨s10, k, rfl, hg10, hle10, hax10, hk⟩
    refine CW.seq (CW.seq (CW.plain ?_))
    refine RL.pure rfl rfl rfl rfl ?_
    refine RL.pure rfl rfl rfl rfl ?_
    refine RL.len rfl rfl rfl rfl sl47 rfl ?_
    refine RL.pure rfl rfl rfl rfl ?_
    refine RL.done ?_
    have hb3 : bads.length = 3 := rfl
    rw [hb3]
    refine CW.test rfl (fun h => ?_) (fun h => CW.exit ?_)
    · refine CW.skip ?_
      have hk3 : k < 3 := by omega
      obtain ⟨f1, f2, f3, f4⟩ := bads_err k hk3
      have hB10 := hB.up RStr.up hle10
      have hW10 := hW.up (RInt.up _) hle10
      refine CW.seq (CW.block (CW.seq (CW.plain ?_)))
      refine RL.pure rfl rfl rfl rfl ?_
      refine RL.pure rfl rfl rfl rfl ?_
      refine RL.idx rfl rfl rfl rfl sl47 rfl rfl (hB10) (by omega) ((by rw [hb3]; omega)) ?_
      rintro q34 vs34 hvl34 hH34 ⟨rfl, hr34⟩
      refine RL.load rfl rfl rfl rfl ty9 rfl (hH34) (hg10.sh) rfl ?_
      refine RL.stb rfl rfl rfl rfl Tryd.underlying9 sl25 Tryd.underlying5 rfl (f3) hg10 ?_
      rintro a36 c36 s11 w11 hg11 hle11 hax11 im36
      refine ⟨trivial, ?_⟩
      refine RL.call rfl rfl rfl rfl rfl ca15 (NewReader_ct hg11 (.inl rfl) im36.2.2 (Nat.le_trans f4 (by decide))) ?_
      rintro v12 s12 A12 w12 hle12 hg12 hax12 ⟨p12, rfl, hR12⟩
      refine ⟨trivial, ?_⟩
      refine RL.pure rfl rfl rfl rfl ?_
      refine RL.done ?_
      refine CW.seq (CW.seq (CW.plain ?_))
      refine RL.pure rfl rfl rfl rfl ?_
      refine RL.ptrEq rfl rfl rfl rfl Tryd.underlying49 rfl rfl ?_
      refine RL.done ?_
      refine CW.no rfl (CW.skip ?_)
      refine CW.seq (CW.plain ?_)
      refine RL.pure rfl rfl rfl rfl ?_
      refine RL.call rfl rfl rfl rfl rfl ca16 (RdUint_ct hg12 hR12) ?_
      rintro v13 s13 A13 w13 hle13 hg13 hax13 ⟨_, _, hR13⟩
      refine ⟨trivial, ?_⟩
      refine RL.done ?_
      have hl13 := hle11.trans (hle12.trans hle13)
      refine CW.seq (CW.plain ?_)
      refine RL.pure rfl rfl rfl rfl ?_
      refine RL.callV rfl rfl rfl rfl rfl ca25 (Err_ct hg13 (het.le (hl9.trans (hle10.trans hl13))) hR13) ?_
      rintro v14 w14 hg14 hax14 rfl
      refine ⟨trivial, ?_⟩
      refine RL.pure rfl rfl rfl rfl ?_
      refine RL.pure rfl rfl rfl rfl ?_
      refine RL.pure rfl rfl rfl rfl ?_
      refine RL.pure rfl rfl rfl rfl ?_
      refine RL.pure rfl rfl rfl rfl ?_
      refine RL.done ?_
      have e1 : (rdUint (nums (bads[((k : Nat) : Int).toNat]'(by rw [hb3]; omega))) ⟨0, none⟩).2.errno = wants3[k]'hk3 := f1
      have e2 : (rdUint (nums (bads[((k : Nat) : Int).toNat]'(by rw [hb3]; omega))) ⟨0, none⟩).2.place = 0 := f2
      rw [e1, e2]
      have hW14 := hW10.up (RInt.up _) hl13
      refine CW.seq (CW.plain ?_)
      refine RL.pure rfl rfl rfl rfl ?_
      refine RL.pure rfl rfl rfl rfl ?_
      refine RL.pure rfl rfl rfl rfl ?_
      refine RL.idx rfl rfl rfl rfl sl84 rfl rfl (hW14) (by omega) ((show ((k : Nat) : Int) < (wants3.length : Nat) by rw [show wants3.length = 3 from rfl]; omega)) ?_
      rintro q50 vs50 hvl50 hH50 ⟨rfl, hr50⟩
      refine RL.load rfl rfl rfl rfl ty52 rfl (hH50) (hg14.sh) rfl ?_
      refine RL.as_ rfl rfl rfl rfl (.bool false) ((by show Value.bool (wants3[k]'hk3 != wants3[k]'hk3) = _; simp)) ?_
      refine RL.pure rfl rfl rfl rfl ?_
      refine RL.pure rfl rfl rfl rfl ?_
      refine RL.pure rfl rfl rfl rfl ?_
      refine RL.pure rfl rfl rfl rfl ?_
      refine RL.done ?_
      refine CW.no rfl (CW.skip ?_)
      refine CW.plain ?_
      refine RL.pure rfl rfl rfl rfl ?_
      refine RL.add rfl rfl rfl rfl rfl rfl (by simp only [rng] at *; omega) ?_
      refine RL.pure rfl rfl rfl rfl ?_
      refine RL.done ?_
      cases j with
      | zero => omega
      | succ j =>
        refine fun ac ha => ⟨j, [(1, .bool true), (2, .slice fa (frame []).length fc), (3, .slice ia (encItem cut5).length ic), (4, .slice (some ⟨p6, 0, none⟩) bads.length 3), (5, .slice (some ⟨p7, 0, none⟩) wants3.length 3), (6, i64 ((k + 1 : Nat) : Int))], ha.sub ⟨rfl, rfl, rfl, rfl, rfl, rfl, trivial⟩,
          ⟨s13, k + 1, rfl, hg14.drop, hle10.trans hl13, hax10.trans (hax11.trans (hax12.trans (hax13.trans hax14))), by omega⟩, Nat.lt_succ_self j⟩
    · exact fun ac ha => ⟨[(1, .bool true), (2, .slice fa (frame []).length fc), (3, .slice ia (encItem cut5).length ic)], ha.sub ⟨rfl, rfl, rfl, trivial⟩, s10, rfl, hg10, hle10, hax10⟩
  clear hg9 hx9 hB hW
  rintro E w20 ⟨s20, rfl, hg20, hle20, hax20⟩
  have hl20 := hl9.trans hle20
  have hF := hF.up (RInt.up _) hle20
  have hI := hI.up (RInt.up _) hle20
  refine CW.seq (CW.plain ?_)
  refine RL.buildSlice rfl rfl rfl rfl sl25 ze5 rfl rfl rfl rfl hg20 ?_
  rintro p21 w21 hg21 hax21
  refine ⟨trivial, ?_⟩
  obtain ⟨s22, hg22, hle22, hA22⟩ := Good.letgo hg21
  have im22 := u8_imm (l := [4, 0, 0, 0, 0]) (by simp [rng]) (by decide) (if_pos rfl) hA22
  refine RL.call rfl rfl rfl rfl rfl ca15 (NewReader_ct (xs := [4, 0, 0, 0, 0]) hg22 (.inl rfl) im22.2.2 (by decide)) ?_
  rintro v23 s23 A23 w23 hle23 hg23 hax23 ⟨p23, rfl, hR23⟩
  refine ⟨trivial, ?_⟩
  refine RL.pure rfl rfl rfl rfl ?_
  refine RL.done ?_
  refine CW.seq (CW.seq (CW.plain ?_))
  refine RL.pure rfl rfl rfl rfl ?_
  refine RL.ptrEq rfl rfl rfl rfl Tryd.underlying49 rfl rfl ?_
  refine RL.done ?_
  refine CW.no rfl (CW.skip ?_)
  refine CW.seq (CW.plain ?_)
  refine RL.pure rfl rfl rfl rfl ?_
  refine RL.call rfl rfl rfl rfl rfl ca33 (RdCount_ct hg23 hR23 (by simp [rng])) ?_
  rintro v24 s24 A24 w24 hle24 hg24 hax24 ⟨_, hR24⟩
  refine ⟨trivial, ?_⟩
  refine RL.done ?_
  have hl24 := hl20.trans (hle22.trans (hle23.trans hle24))
  refine CW.seq (CW.plain ?_)
  refine RL.pure rfl rfl rfl rfl ?_
  refine RL.callV rfl rfl rfl rfl rfl ca25 (Err_ct hg24 (het.le hl24) hR24) ?_
  rintro v25 w25 hg25 hax25 rfl
  refine ⟨trivial, ?_⟩
  refine RL.pure rfl rfl rfl rfl ?_
  refine RL.pure rfl rfl rfl rfl ?_
  refine RL.pure rfl rfl rfl rfl ?_
  refine RL.pure rfl rfl rfl rfl ?_
  refine RL.pure rfl rfl rfl rfl ?_
  refine RL.done ?_
  have e13 : (rdCount [4, 0, 0, 0, 0] ⟨0, none⟩ 3).2.errno = 13 := by decide +kernel
  rw [e13]
  refine CW.seq (CW.plain ?_)
  refine RL.buildSlice rfl rfl rfl rfl sl25 ze5 rfl rfl rfl rfl hg25.drop ?_
  rintro p26 w26 hg26 hax26
  refine ⟨trivial, ?_⟩
  obtain ⟨s27, hg27, hle27, hA27⟩ := Good.letgo hg26
  have im27 := u8_imm (l := [0, 1]) (by simp [rng]) (by decide) (if_pos rfl) hA27
  refine RL.call rfl rfl rfl rfl rfl ca15 (NewReader_ct (xs := [0, 1]) hg27 (.inl rfl) im27.2.2 (by decide)) ?_
  rintro v28 s28 A28 w28 hle28 hg28 hax28 ⟨p28, rfl, hR28⟩
  refine ⟨trivial, ?_⟩
  refine RL.pure rfl rfl rfl rfl ?_
  refine RL.done ?_
  refine CW.seq (CW.seq (CW.plain ?_))
  refine RL.pure rfl rfl rfl rfl ?_
  refine RL.ptrEq rfl rfl rfl rfl Tryd.underlying49 rfl rfl ?_
  refine RL.done ?_
  refine CW.no rfl (CW.skip ?_)
  refine CW.seq (CW.plain ?_)
  refine RL.pure rfl rfl rfl rfl ?_
  refine RL.call rfl rfl rfl rfl rfl ca34 (RdBool_ct hg28 hR28) ?_
  rintro v29 s29 A29 w29 hle29 hg29 hax29 ⟨_, hR29⟩
  refine ⟨trivial, ?_⟩
  refine RL.done ?_
  have hl29 := hl24.trans (hle27.trans (hle28.trans hle29))
  refine CW.seq (CW.plain ?_)
  refine RL.pure rfl rfl rfl rfl ?_
  refine RL.callV rfl rfl rfl rfl rfl ca17 (RDone_ct hg29 (het.le hl29) hR29) ?_
  rintro v30 w30 hg30 hax30 rfl
  refine ⟨trivial, ?_⟩
  refine RL.pure rfl rfl rfl rfl ?_
  refine RL.done ?_
  have e15 : (if (rdBool [0, 1] ⟨0, none⟩).2.errno = 0 ∧ (rdBool [0, 1] ⟨0, none⟩).2.pos < (([0, 1] : List Int).length : Int) then (15 : Int) else (rdBool [0, 1] ⟨0, none⟩).2.errno) = 15 := by decide +kernel
  rw [e15]
  refine CW.seq (CW.plain ?_)
  refine RL.buildSlice rfl rfl rfl rfl sl25 ze5 rfl rfl rfl rfl hg30.drop ?_
  rintro p31 w31 hg31 hax31
  refine ⟨trivial, ?_⟩
  obtain ⟨s32, hg32, hle32, hA32⟩ := Good.letgo hg31
  have im32 := u8_imm (l := [12, 0]) (by simp [rng]) (by decide) (if_pos rfl) hA32
  have hl32 := hl29.trans hle32
  refine RL.call rfl rfl rfl rfl rfl ca28 (ReadItem_ct (bs := [12, 0]) hg32 (het.le hl32) (.inl rfl) im32.2.2 (by decide)) ?_
  rintro v33 s33 A33 w33 hle33 hg33 hax33 ⟨us33, rfl, hv33⟩
  refine ⟨trivial, ?_⟩
  refine RL.pure rfl rfl rfl rfl ?_
  obtain ⟨g1, g2, g3, k1, k2, k3, m1, m2, m3, n1, n2, n3, rfl, _⟩ := id hv33
  refine RL.pure rfl rfl rfl rfl ?_
  refine RL.pure rfl rfl rfl rfl ?_
  refine RL.alloc rfl rfl rfl rfl ze76 hg33.drop ?_
  rintro p34 w34 hg34 hax34
  refine ⟨trivial, ?_⟩
  refine RL.store (i := 0) (j := 0) rfl rfl rfl ty76 rfl rfl hg34 rfl (if_pos rfl) rfl (by simp [itemCells, Value.cells, Value.oneCell']) (by decide) ?_
  rintro w35 hg35 hax35
  refine ⟨trivial, ?_⟩
  refine RL.pure rfl rfl rfl rfl ?_
  refine RL.done ?_
  have e16 : (rdItem [12, 0]).2 = 16 := by decide +kernel
  rw [e16]
  refine CW.seq (CW.plain ?_)
  refine RL.buildSlice rfl rfl rfl rfl sl25 ze5 rfl rfl rfl rfl hg35.drop ?_
  rintro p36 w36 hg36 hax36
  refine ⟨trivial, ?_⟩
  obtain ⟨s37, hg37, hle37, hA37⟩ := Good.letgo hg36
  have im37 := u8_imm (l := [0, 0, 0, 0, 1]) (by simp [rng]) (by decide) (if_pos rfl) hA37
  have hl37 := hl32.trans (hle33.trans hle37)
  refine RL.callG rfl rfl rfl rfl rfl ca19 (Unframe_ct (xs := [0, 0, 0, 0, 1]) hg37 (het.le hl37) (hT.le hl37) (.inl rfl) im37.2.2 (by decide)) ?_
  rintro e38 w38 ⟨v38, s38, B38, A38, rfl, hle38, hg38, hax38, v381, v382, rfl, ⟨a381, c381, rfl, h381⟩, a382, c382, rfl, h382⟩
  refine ⟨_, rfl, trivial, ?_⟩
  refine RL.pure rfl rfl rfl rfl ?_
  refine RL.pure rfl rfl rfl rfl ?_
  refine RL.pure rfl rfl rfl rfl ?_
  refine RL.pure rfl rfl rfl rfl ?_
  refine RL.pure rfl rfl rfl rfl ?_
  refine RL.pure rfl rfl rfl rfl ?_
  refine RL.pure rfl rfl rfl rfl ?_
  refine RL.done ?_
  have e14 : (unf [0, 0, 0, 0, 1]).2.2 = 14 := by decide +kernel
  rw [e14]
  have hup := hle22.trans (hle23.trans (hle24.trans (hle27.trans (hle28.trans (hle29.trans (hle32.trans (hle33.trans (hle37.trans hle38))))))))
  have hF := hF.up (RInt.up _) hup
  have hI := hI.up (RInt.up _) hup
  have q1 : ((strOfNums (frame [])).toList == (⟨#[0, 0, 0, 0, 0]⟩ : ByteArray).toList) = true := by decide +kernel
  have q2 : ((strOfNums (encItem cut5)).toList == (⟨#[6, 5, 172, 2]⟩ : ByteArray).toList) = true := by decide +kernel
  refine CW.seq (CW.plain ?_)
  refine RL.pure rfl rfl rfl rfl ?_
  refine RL.pure rfl rfl rfl rfl ?_
  refine RL.pure rfl rfl rfl rfl ?_
  refine RL.bts rfl rfl rfl rfl sl25 Tryd.underlying5 Tryd.underlying9 rfl (hF.2.2) (hg38.sh) ?_
  refine RL.sEq rfl rfl rfl rfl rfl rfl ?_
  rw [q1]
  refine RL.pure rfl rfl rfl rfl ?_
  refine RL.pure rfl rfl rfl rfl ?_
  refine RL.pure rfl rfl rfl rfl ?_
  refine RL.bts rfl rfl rfl rfl sl25 Tryd.underlying5 Tryd.underlying9 rfl (hI.2.2) (hg38.sh) ?_
  refine RL.sEq rfl rfl rfl rfl rfl rfl ?_
  rw [q2]
  refine RL.pure rfl rfl rfl rfl ?_
  refine RL.pure rfl rfl rfl rfl ?_
  refine RL.pure rfl rfl rfl rfl ?_
  refine RL.pure rfl rfl rfl rfl ?_
  refine RL.pure rfl rfl rfl rfl ?_
  refine RL.pure rfl rfl rfl rfl ?_
  refine RL.pure rfl rfl rfl rfl ?_
  refine RL.pure rfl rfl rfl rfl ?_
  refine RL.pure rfl rfl rfl rfl ?_
  refine RL.pure rfl rfl rfl rfl ?_
  refine RL.pure rfl rfl rfl rfl ?_
  refine RL.pure rfl rfl rfl rfl ?_
  refine RL.pure rfl rfl rfl rfl ?_
  refine RL.pure rfl rfl rfl rfl ?_
  refine RL.pure rfl rfl rfl rfl ?_
  refine RL.pure rfl rfl rfl rfl ?_
  refine RL.pure rfl rfl rfl rfl ?_
  refine RL.pure rfl rfl rfl rfl ?_
  refine RL.done ?_
  exact CW.ret (ret (vs := [_]) ⟨_, _, rfl, rfl, rfl⟩ (Post.mk (hl37.trans hle38) hg38.drop.drop.nil (hax20.trans (hax21.trans (hax23.trans (hax24.trans (hax25.trans (hax26.trans (hax28.trans (hax29.trans (hax30.trans (hax31.trans (hax33.trans (hax34.trans (hax35.trans (hax36.trans hax38)))))))))))))) rfl))
end Go.Lw
