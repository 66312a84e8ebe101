/-
  The law CodecPrefix, walked.
-/
import Derived.Test.YtcbifehmmfjioaaDoorCodecPx
import Derived.Test.YtcbifehmmfjioaaDoorCodecRo
namespace Go.Lw
open Go.Proofs
attribute [local irreducible] RL RA

def ones (l : List Int) : List ByteArray := l.map fun v => strOfNums (encU v)
theorem ones_take {l : List Int} {k : Nat} (hk : k < l.length) : ones (l.take (k + 1)) = ones (l.take k) ++ [strOfNums (encU l[k])] := by
  rw [ones, List.take_succ_eq_append_getElem hk, List.map_append]
  rfl
theorem ones_length (l : List Int) : (ones l).length = l.length := by simp [ones]
theorem one_size (v : Int) : (strOfNums (encU v)).size = (encU v).length := strOf_size _
theorem ones_get {l : List Int} {k : Nat} (hk : k < (ones l).length) : (ones l)[k] = strOfNums (encU (l[k]'(by simpa [ones] using hk))) := by simp [ones]


set_option maxRecDepth 100000 in
theorem CodecPrefix_ct {w : World} {s : Res} {os : List Res} {l : List Int} {xa : Option Addr} {xc : Nat} (hg : Good w s os) (hx : Imm (RInt .u64) 1 s xa xc l) (het : Et s) (hT : Holds s ⟨0, 0, none⟩ tabVs)
    (hl : l.length ≤ 1048576) :
    Calls Tryd.prog 4 #[.slice xa l.length xc] w (Post w s os fun _ _ r => r = .bool true) := by
  have hrl := hx.rng
  simp only [rng] at hrl
  refine enter (l := [.slice xa l.length xc]) Tryd.func4 rfl Tryd.ntmps4 rfl ?_
  refine CW.seq (CW.plain ?_)
  refine RL.pure rfl rfl rfl rfl ?_
  refine RL.done ?_
  refine CW.seq (CW.plain ?_)
  refine RL.call rfl rfl rfl rfl rfl ca11 (lives_ct hg hT) ?_
  rintro v0 s0 A0 w0 hle0 hg0 hax0 rfl
  refine ⟨trivial, ?_⟩
  refine RL.pure rfl rfl rfl rfl ?_
  refine RL.done ?_
  have hx := hx.up (RInt.up _) hle0
  refine CW.seq (CW.plain ?_)
  refine RL.build rfl rfl rfl rfl ze27 pl27 rfl rfl ?_
  refine RL.box rfl rfl rfl rfl rfl hg0.drop ?_
  rintro p w1 hg1 hax1
  refine ⟨trivial, ?_⟩
  refine RL.pure rfl rfl rfl rfl ?_
  refine RL.done ?_
  have hA1 : WObj s0 (Res.one p (.cells #[.slice none 0 0] 27)) p [] := ⟨none, 0, if_pos rfl, Own.nil _ _ _ _ _⟩
  refine CW.seq (CW.plain ?_)
  refine RL.pure rfl rfl rfl rfl ?_
  refine RL.done ?_
  refine CW.meet (fun E w' => ∃ s' A B a c, E = [(0, .slice xa l.length xc), (2, .bool false), (3, .bool true), (4, ptr p), (5, .slice a (ones l).length c)] ∧ Good w' s' (A :: B :: os) ∧ Le s0 s' ∧ Aux w w' ∧ WObj s' A p (encUs l) ∧ Own RStr 1 9 s' B a c (ones l)) ?_ ?_
  · refine CW.seq (CW.plain ?_)
    refine RL.pure rfl rfl rfl rfl ?_
    refine RL.done ?_
    refine CW.block (CW.loop (σ := Nat) (fun j E w' => ∃ s' A B a c, ∃ k : Nat, E = [(0, .slice xa l.length xc), (2, .bool false), (3, .bool true), (4, ptr p), (5, .slice a (ones (l.take k)).length c), (6, .int .i64 k)] ∧ Good w' s' (A :: B :: os) ∧ Le s0 s' ∧ Aux w w' ∧ WObj s' A p (encUs (l.take k)) ∧ Own RStr 1 9 s' B a c (ones (l.take k)) ∧ k + j = l.length)
      (fun j => j) l.length [(0, .slice xa l.length xc), (2, .bool false), (3, .bool true), (4, ptr p), (5, .slice none (ones (l.take 0)).length 0), (6, .int .i64 0)] ⟨rfl, rfl, rfl, rfl, rfl, rfl, trivial⟩
      ⟨s0, _, Res.nil, none, 0, 0, rfl, hg1.nil.swap, Le.refl _, hax0.trans hax1, hA1, Own.nil _ _ _ _ _, by omega⟩ ?_)
    rintro j E w2 ⟨s2, A2, B2, a, c, k, rfl, hg2, hle2, hax2, hA2, hB2, hk⟩
    refine CW.seq (CW.seq (CW.plain ?_))
    refine RL.pure rfl rfl rfl rfl ?_
    refine RL.pure rfl rfl rfl rfl ?_
    refine RL.len rfl rfl rfl rfl sl46 rfl ?_
    refine RL.pure rfl rfl rfl rfl ?_
    refine RL.done ?_
    refine CW.test rfl (fun h => ?_) (fun h => CW.exit ?_)
    · refine CW.skip ?_
      have hkl : k < l.length := by omega
      have hxr := hrl _ (List.getElem_mem hkl)
      have hb1 := encUs_length (l.take k)
      have hb2 : (l.take k).length = k := by simp; omega
      have hx2 := hx.up (RInt.up _) hle2
      refine CW.seq (CW.block (CW.seq (CW.plain ?_)))
      refine RL.pure rfl rfl rfl rfl ?_
      refine RL.pure rfl rfl rfl rfl ?_
      refine RL.pure rfl rfl rfl rfl ?_
      refine RL.idx rfl rfl rfl rfl sl46 rfl rfl (hx2) (by omega) ((by omega)) ?_
      rintro q24 vs24 hvl24 hH24 ⟨rfl, hr24⟩
      refine RL.load rfl rfl rfl rfl ty29 rfl (hH24) (hg2.sh) rfl ?_
      refine RL.call rfl rfl rfl rfl rfl ca14 (Uint_ct hg2 hA2 hr24 (by omega)) ?_
      rintro v3 s3 A3 w3 hle3 hg3 hax3 ⟨_, hA3⟩
      refine ⟨trivial, ?_⟩
      refine RL.done ?_
      refine CW.seq (CW.plain ?_)
      refine RL.build rfl rfl rfl rfl ze27 pl27 rfl rfl ?_
      refine RL.box rfl rfl rfl rfl rfl hg3 ?_
      rintro q w4 hg4 hax4
      refine ⟨trivial, ?_⟩
      refine RL.pure rfl rfl rfl rfl ?_
      refine RL.done ?_
      have hV4 : WObj s3 (Res.one q (.cells #[.slice none 0 0] 27)) q [] := ⟨none, 0, if_pos rfl, Own.nil _ _ _ _ _⟩
      have hx3 := hx2.up (RInt.up _) hle3
      refine CW.seq (CW.plain ?_)
      refine RL.pure rfl rfl rfl rfl ?_
      refine RL.pure rfl rfl rfl rfl ?_
      refine RL.pure rfl rfl rfl rfl ?_
      refine RL.idx rfl rfl rfl rfl sl46 rfl rfl (hx3) (by omega) ((by omega)) ?_
      rintro q32 vs32 hvl32 hH32 ⟨rfl, hr32⟩
      refine RL.load rfl rfl rfl rfl ty29 rfl (hH32) (hg4.sh) rfl ?_
      refine RL.call rfl rfl rfl rfl rfl ca14 (Uint_ct hg4 hV4 hr32 (by simp)) ?_
      rintro v5 s5 V5 w5 hle5 hg5 hax5 ⟨_, hV5⟩
      refine ⟨trivial, ?_⟩
      refine RL.done ?_
      have hB5 := (hB2.up RStr.up (hle3.trans hle5))
      have he5 := encU_length l[k]
      refine CW.plain ?_
      refine RL.pure rfl rfl rfl rfl ?_
      refine RL.pure rfl rfl rfl rfl ?_
      refine RL.call rfl rfl rfl rfl rfl ca13 (Done_ct hg5 hV5 (by simp only [List.nil_append]; exact Nat.le_trans he5.2 (by decide))) ?_
      rintro v6 s6 C6 w6 hle6 hg6 hax6 ⟨a6, c6, rfl, hC6⟩
      refine ⟨trivial, ?_⟩
      refine RL.bts rfl rfl rfl rfl sl25 Tryd.underlying5 Tryd.underlying9 rfl (hC6.row) (hg6.1) ?_
      refine RL.buildSlice rfl rfl rfl rfl sl47 ze9 rfl rfl rfl rfl hg6 ?_
      rintro b7 w7 hg7 hax7
      refine ⟨trivial, ?_⟩
      refine RL.append (i := 4) (ys := [strOfNums (encU l[k])]) rfl rfl rfl rfl sl47 ze9 rfl (by first | exact RInt.one _ | exact RStr.one | exact RBool.one | assumption) rfl rfl hg7 rfl (hB5.up RStr.up hle6) ((Src.slice sl47 rfl (.inr ⟨_, rfl, Holds.one b7 _ 9⟩) hg7.1)) (Chunks.single rfl ⟨rfl, (by rw [one_size]; exact Nat.le_trans he5.2 (by decide))⟩) ((by rw [ones_length]; simp; omega)) (by omega) ?_
      rintro a8 c8 B8 w8 hg8 hB8 hax8 hk8
      refine ⟨trivial, ?_⟩
      refine RL.pure rfl rfl rfl rfl ?_
      refine RL.done ?_
      refine CW.plain ?_
      refine RL.pure rfl rfl rfl rfl ?_
      refine RL.add rfl rfl rfl rfl rfl rfl (by simp only [rng] at *; omega) ?_
      refine RL.pure rfl rfl rfl rfl ?_
      refine RL.done ?_
      cases j with
      | zero => omega
      | succ j =>
        rw [← ones_take hkl] at hB8 ⊢
        exact fun ac ha => ⟨j, [(0, .slice xa l.length xc), (2, .bool false), (3, .bool true), (4, ptr p), (5, .slice a8 (ones (l.take (k + 1))).length c8), (6, .int .i64 ((k : Int) + 1))], ha.sub ⟨rfl, rfl, rfl, rfl, rfl, rfl, trivial⟩,
          ⟨s6, A3, B8, a8, c8, k + 1, rfl, hg8.drop.drop.drop, hle2.trans (hle3.trans (hle5.trans hle6)), hax2.trans (hax3.trans (hax4.trans (hax5.trans (hax6.trans (hax7.trans hax8))))), by rw [encUs_take hkl]; exact hA3.up (hle5.trans hle6), hB8, by omega⟩, Nat.lt_succ_self j⟩
    · have hkl : k = l.length := by omega
      subst hkl
      rw [List.take_length] at hA2 hB2 ⊢
      exact fun ac ha => ⟨[(0, .slice xa l.length xc), (2, .bool false), (3, .bool true), (4, ptr p), (5, .slice a (ones l).length c)], ha.sub ⟨rfl, rfl, rfl, rfl, rfl, trivial⟩, s2, A2, B2, a, c, rfl, hg2, hle2, hax2, hA2, hB2⟩
  rintro E w2 ⟨s2, A2, B2, a, c, rfl, hg2, hle2, hax2, hA2, hB2⟩
  have hbl := encUs_length l
  refine CW.seq (CW.plain ?_)
  refine RL.pure rfl rfl rfl rfl ?_
  refine RL.call rfl rfl rfl rfl rfl ca13 (Done_ct hg2 hA2 (by omega)) ?_
  rintro v3 s3 C3 w3 hle3 hg3 hax3 ⟨a3, c3, rfl, hC3⟩
  refine ⟨trivial, ?_⟩
  refine RL.call rfl rfl rfl rfl rfl ca15 (NewReader_ct hg3 (.inr (List.mem_cons_self)) hC3.row (by omega)) ?_
  rintro v4 s4 R4 w4 hle4 hg4 hax4 ⟨r, rfl, hR4⟩
  refine ⟨trivial, ?_⟩
  refine RL.pure rfl rfl rfl rfl ?_
  refine RL.done ?_
  obtain ⟨s5, hg5, hle5, hB5⟩ := (hg4.dropNext.dropNext).shareNext
  have hle05 := hle2.trans (hle3.trans (hle4.trans hle5))
  have hone : Imm RStr 1 s5 a c (ones l) := (hB2.up RStr.up (hle3.trans hle4)).imm RStr.up hle5 hB5
  have hx := hx.up (RInt.up _) hle05
  have het := het.le (hle0.trans hle05)
  have hR5 : RdObj s5 R4 r (encUs l) ⟨((encUs (l.take 0)).length : Nat), none⟩ := by
    obtain ⟨h0, h1, a', c', v, hp, hI, hv⟩ := hR4
    exact ⟨h0, h1, a', c', v, hp, hI.up (RInt.up _) hle5, hv.up hle5⟩
  have hax4 := hax2.trans (hax3.trans hax4)
  refine CW.seq (CW.seq (CW.plain ?_))
  refine RL.pure rfl rfl rfl rfl ?_
  refine RL.pure rfl rfl rfl rfl ?_
  refine RL.pure rfl rfl rfl rfl ?_
  refine RL.pure rfl rfl rfl rfl ?_
  refine RL.ptrEq rfl rfl rfl rfl Tryd.underlying49 rfl rfl ?_
  refine RL.pure rfl rfl rfl rfl ?_
  refine RL.done ?_
  refine CW.no rfl (CW.skip ?_)
  refine CW.meet (fun E w' => ∃ s' R, E = [(2, .bool false), (8, ptr r)] ∧ Good w' s' (R :: os) ∧ Le s5 s' ∧ Aux w w' ∧ RdObj s' R r (encUs l) ⟨((encUs l).length : Nat), none⟩) ?_ ?_
  · refine CW.seq (CW.plain ?_)
    refine RL.pure rfl rfl rfl rfl ?_
    refine RL.done ?_
    refine CW.block (CW.loop (σ := Nat) (fun j E w' => ∃ s' R, ∃ k : Nat, E = [(0, .slice xa l.length xc), (2, .bool false), (5, .slice a (ones l).length c), (8, ptr r), (9, .int .i64 k)] ∧ Good w' s' (R :: os) ∧ Le s5 s' ∧ Aux w w' ∧ RdObj s' R r (encUs l) ⟨((encUs (l.take k)).length : Nat), none⟩ ∧ k + j = l.length)
      (fun j => j) l.length [(0, .slice xa l.length xc), (2, .bool false), (5, .slice a (ones l).length c), (8, ptr r), (9, .int .i64 0)] ⟨rfl, rfl, rfl, rfl, rfl, trivial⟩ ⟨s5, R4, 0, rfl, hg5, Le.refl _, hax4, hR5, by omega⟩ ?_)
    rintro j E w6 ⟨s6, R6, k, rfl, hg6, hle6, hax6, hR6, hk⟩
    refine CW.seq (CW.seq (CW.plain ?_))
    refine RL.pure rfl rfl rfl rfl ?_
    refine RL.pure rfl rfl rfl rfl ?_
    refine RL.len rfl rfl rfl rfl sl46 rfl ?_
    refine RL.pure rfl rfl rfl rfl ?_
    refine RL.done ?_
    refine CW.test rfl (fun h => ?_) (fun h => CW.exit ?_)
    · refine CW.skip ?_
      have hkl : k < l.length := by omega
      refine CW.seq (CW.block (CW.seq (CW.seq ?_)))
      refine CW.draws [(true, 0), (true, 2), (true, 3), (true, 4), (true, 5), (false, 1), (true, 6)] (fun w => In s5 w) mixed (by kernel_rfl) (by kernel_rfl) (by kernel_rfl) (by kernel_rfl) ((In.le hg6.drew.sh hle6)) ?_
      refine RL.pure rfl rfl rfl rfl ?_
      refine RL.pure rfl rfl rfl rfl ?_
      refine RL.pure rfl rfl rfl rfl ?_
      refine RL.idx rfl rfl rfl rfl sl46 rfl rfl (hx) (by omega) ((by omega)) ?_
      rintro qt60 vst60 hvlt60 hHt60 ⟨hvt60, hrt60⟩
      change _ = [Value.int .u64 (l[k]'(by omega))] at hvt60
      subst hvt60
      refine RL.loadT (j := 0) rfl rfl rfl rfl ty29 rfl (hHt60) (fun w h => h) rfl ?_
      refine RL.call rfl rfl rfl rfl rfl ca16 (RdUint_ct hg6.drew hR6) ?_
      rintro v7 s7 R7 w7 hle7 hg7 hax7 ⟨rfl, hr7, hR7⟩
      refine ⟨(In.le hg7.sh (hle6.trans hle7)), ?_⟩
      refine RL.pure rfl rfl rfl rfl ?_
      refine RL.done ?_
      rw [rd_encUs hkl hrl] at hR7 ⊢
      refine CW.ne rfl (fun h' => absurd rfl h') (fun _ => CW.skip ?_)
      refine CW.seq (CW.plain ?_)
      refine RL.pure rfl rfl rfl rfl ?_
      refine RL.done ?_
      refine CW.block (CW.loop (σ := Nat) (fun j2 E w' => ∃ i : Nat, E = [(0, .slice xa l.length xc), (2, .bool false), (5, .slice a (ones l).length c), (8, ptr r), (9, .int .i64 k), (10, .int .i64 i)] ∧ Good w' s7 (R7 :: os) ∧ Aux w w' ∧ i + j2 = k) (fun j2 => j2) k
        [(0, .slice xa l.length xc), (2, .bool false), (5, .slice a (ones l).length c), (8, ptr r), (9, .int .i64 k), (10, .int .i64 0)] ⟨rfl, rfl, rfl, rfl, rfl, rfl, trivial⟩ ⟨0, rfl, hg7, hax6.trans ((Aux.drew _).trans hax7), by omega⟩ ?_)
      rintro j2 E w8 ⟨i, rfl, hg8, hax8, hi⟩
      refine CW.seq (CW.seq (CW.plain ?_))
      refine RL.pure rfl rfl rfl rfl ?_
      refine RL.pure rfl rfl rfl rfl ?_
      refine RL.pure rfl rfl rfl rfl ?_
      refine RL.done ?_
      refine CW.test rfl (fun h2 => ?_) (fun h2 => CW.exit ?_)
      · refine CW.skip ?_
        have hil : i < l.length := by omega
        have hgg : ∀ {w'}, Good w' s7 (R7 :: os) → In s5 w' := fun hh => In.le hh.sh (hle6.trans hle7)
        refine CW.seq (CW.block (CW.meet (fun E w' => E = [(0, .slice xa l.length xc), (2, .bool false), (5, .slice a (ones l).length c), (8, ptr r), (9, .int .i64 k), (10, .int .i64 i)] ∧ Good w' s7 (R7 :: os) ∧ Aux w w') ?_ ?_))
        · refine CW.seq ?_
          have hg9 := hg8.drew
          have hax9 := hax8.trans (Aux.drew _)
          refine CW.draws [(true, 0), (true, 1), (true, 2), (true, 3), (true, 4), (true, 5), (true, 6), (true, 7), (true, 8), (true, 9), (true, 10), (true, 11), (true, 12), (true, 13), (true, 14), (true, 15), (true, 16), (true, 17), (true, 18), (true, 19), (true, 20), (true, 21), (true, 22), (true, 23), (true, 24), (true, 25), (true, 26), (true, 27), (true, 28), (true, 29), (true, 30), (true, 31), (true, 32), (true, 33), (true, 34), (true, 35), (true, 36), (true, 37), (true, 38), (true, 39), (true, 40), (true, 41), (true, 42), (true, 43), (true, 44), (true, 45)] (fun w => In s5 w) mixed (by kernel_rfl) (by kernel_rfl) (by kernel_rfl) (by kernel_rfl) ((hgg hg9)) ?_
          refine RL.pure rfl rfl rfl rfl ?_
          refine RL.pure rfl rfl rfl rfl ?_
          refine RL.idx rfl rfl rfl rfl sl46 rfl rfl (hx) (by omega) ((by omega)) ?_
          rintro qt70 vst70 hvlt70 hHt70 ⟨hvt70, hrt70⟩
          change _ = [Value.int .u64 (l[i]'(by omega))] at hvt70
          subst hvt70
          refine RL.loadT (j := 0) rfl rfl rfl rfl ty29 rfl (hHt70) (fun w h => h) rfl ?_
          refine RL.pure rfl rfl rfl rfl ?_
          refine RL.pure rfl rfl rfl rfl ?_
          refine RL.idx rfl rfl rfl rfl sl46 rfl rfl (hx) (by omega) ((by omega)) ?_
          rintro qt74 vst74 hvlt74 hHt74 ⟨hvt74, hrt74⟩
          change _ = [Value.int .u64 (l[k]'(by omega))] at hvt74
          subst hvt74
          refine RL.loadT (j := 0) rfl rfl rfl rfl ty29 rfl (hHt74) (fun w h => h) rfl ?_
          refine RL.pure rfl rfl rfl rfl ?_
          refine RL.part 76 rfl (fun hc6 => ?_) (fun hc6 => ?_)
          · have hc6 : l[i] ≤ l[k] := by simpa using hc6
            have hm6 := enc_mono (hrl _ (List.getElem_mem hil)).1 hc6
            refine RL.pure rfl rfl rfl rfl ?_
            refine RL.pure rfl rfl rfl rfl ?_
            refine RL.pure rfl rfl rfl rfl ?_
            refine RL.idx rfl rfl rfl rfl sl47 rfl rfl (hone) (by omega) ((by rw [ones_length]; omega)) ?_
            rintro qt80 vst80 hvlt80 hHt80 ⟨hvt80, hrt80⟩
            rw [ones_get] at hvt80
            change _ = [Value.string (strOfNums (encU (l[i]'(by omega))))] at hvt80
            subst hvt80
            refine RL.loadT (j := 0) rfl rfl rfl rfl ty9 rfl (hHt80) (fun w h => h) rfl ?_
            refine RL.lens rfl rfl rfl rfl Tryd.underlying9 rfl ?_
            refine RL.pure rfl rfl rfl rfl ?_
            refine RL.pure rfl rfl rfl rfl ?_
            refine RL.idx rfl rfl rfl rfl sl47 rfl rfl (hone) (by omega) ((by rw [ones_length]; omega)) ?_
            rintro qt85 vst85 hvlt85 hHt85 ⟨hvt85, hrt85⟩
            rw [ones_get] at hvt85
            change _ = [Value.string (strOfNums (encU (l[k]'(by omega))))] at hvt85
            subst hvt85
            refine RL.loadT (j := 0) rfl rfl rfl rfl ty9 rfl (hHt85) (fun w h => h) rfl ?_
            refine RL.lens rfl rfl rfl rfl Tryd.underlying9 rfl ?_
            refine RL.pure rfl rfl rfl rfl ?_
            refine RL.part 88 rfl (fun hc8 => ?_) (fun hc8 => ?_)
            · exfalso
              have := of_decide_eq_true hc8
              simp only [one_size] at this
              omega
            · refine RL.pure rfl rfl rfl rfl ?_
              refine RL.pure rfl rfl rfl rfl ?_
              refine RL.pure rfl rfl rfl rfl ?_
              refine RL.pure rfl rfl rfl rfl ?_
              refine RL.idx rfl rfl rfl rfl sl46 rfl rfl (hx) (by omega) ((by omega)) ?_
              rintro qt93 vst93 hvlt93 hHt93 ⟨hvt93, hrt93⟩
              change _ = [Value.int .u64 (l[i]'(by omega))] at hvt93
              subst hvt93
              refine RL.loadT (j := 0) rfl rfl rfl rfl ty29 rfl (hHt93) (fun w h => h) rfl ?_
              refine RL.pure rfl rfl rfl rfl ?_
              refine RL.pure rfl rfl rfl rfl ?_
              refine RL.idx rfl rfl rfl rfl sl46 rfl rfl (hx) (by omega) ((by omega)) ?_
              rintro qt97 vst97 hvlt97 hHt97 ⟨hvt97, hrt97⟩
              change _ = [Value.int .u64 (l[k]'(by omega))] at hvt97
              subst hvt97
              refine RL.loadT (j := 0) rfl rfl rfl rfl ty29 rfl (hHt97) (fun w h => h) rfl ?_
              refine RL.pure rfl rfl rfl rfl ?_
              refine RL.part 99 rfl (fun hc9 => ?_) (fun hc9 => ?_)
              · have hc9 : l[k] ≤ l[i] := by simpa using hc9
                have hm := enc_mono (hrl _ (List.getElem_mem hkl)).1 hc9
                refine RL.pure rfl rfl rfl rfl ?_
                refine RL.pure rfl rfl rfl rfl ?_
                refine RL.pure rfl rfl rfl rfl ?_
                refine RL.idx rfl rfl rfl rfl sl47 rfl rfl (hone) (by omega) ((by rw [ones_length]; omega)) ?_
                rintro qt103 vst103 hvlt103 hHt103 ⟨hvt103, hrt103⟩
                rw [ones_get] at hvt103
                change _ = [Value.string (strOfNums (encU (l[i]'(by omega))))] at hvt103
                subst hvt103
                refine RL.loadT (j := 0) rfl rfl rfl rfl ty9 rfl (hHt103) (fun w h => h) rfl ?_
                refine RL.lens rfl rfl rfl rfl Tryd.underlying9 rfl ?_
                refine RL.pure rfl rfl rfl rfl ?_
                refine RL.pure rfl rfl rfl rfl ?_
                refine RL.idx rfl rfl rfl rfl sl47 rfl rfl (hone) (by omega) ((by rw [ones_length]; omega)) ?_
                rintro qt108 vst108 hvlt108 hHt108 ⟨hvt108, hrt108⟩
                rw [ones_get] at hvt108
                change _ = [Value.string (strOfNums (encU (l[k]'(by omega))))] at hvt108
                subst hvt108
                refine RL.loadT (j := 0) rfl rfl rfl rfl ty9 rfl (hHt108) (fun w h => h) rfl ?_
                refine RL.lens rfl rfl rfl rfl Tryd.underlying9 rfl ?_
                refine RL.pure rfl rfl rfl rfl ?_
                refine RL.part 111 rfl (fun hcB => ?_) (fun hcB => ?_)
                · exfalso
                  have := of_decide_eq_true hcB
                  simp only [one_size] at this
                  omega
                · refine RL.pure rfl rfl rfl rfl ?_
                  refine RL.pure rfl rfl rfl rfl ?_
                  refine RL.done ?_
                  refine CW.no rfl (CW.skip ?_)
                  exact fun ac ha => ⟨[(0, .slice xa l.length xc), (2, .bool false), (5, .slice a (ones l).length c), (8, ptr r), (9, .int .i64 k), (10, .int .i64 i)], ha.sub ⟨rfl, rfl, rfl, rfl, rfl, rfl, trivial⟩, rfl, hg9, hax9⟩
              · refine RL.pure rfl rfl rfl rfl ?_
                refine RL.pass rfl rfl rfl ?_
                refine RL.pass rfl rfl rfl ?_
                refine RL.pass rfl rfl rfl ?_
                refine RL.pass rfl rfl rfl ?_
                refine RL.pass rfl rfl rfl ?_
                refine RL.pass rfl rfl rfl ?_
                refine RL.pass rfl rfl rfl ?_
                refine RL.pass rfl rfl rfl ?_
                refine RL.pass rfl rfl rfl ?_
                refine RL.pass rfl rfl rfl ?_
                refine RL.pass rfl rfl rfl ?_
                refine RL.pure rfl rfl rfl rfl ?_
                refine RL.pure rfl rfl rfl rfl ?_
                refine RL.done ?_
                refine CW.no rfl (CW.skip ?_)
                exact fun ac ha => ⟨[(0, .slice xa l.length xc), (2, .bool false), (5, .slice a (ones l).length c), (8, ptr r), (9, .int .i64 k), (10, .int .i64 i)], ha.sub ⟨rfl, rfl, rfl, rfl, rfl, rfl, trivial⟩, rfl, hg9, hax9⟩
          · refine RL.pure rfl rfl rfl rfl ?_
            refine RL.pass rfl rfl rfl ?_
            refine RL.pass rfl rfl rfl ?_
            refine RL.pass rfl rfl rfl ?_
            refine RL.pass rfl rfl rfl ?_
            refine RL.pass rfl rfl rfl ?_
            refine RL.pass rfl rfl rfl ?_
            refine RL.pass rfl rfl rfl ?_
            refine RL.pass rfl rfl rfl ?_
            refine RL.pass rfl rfl rfl ?_
            refine RL.pass rfl rfl rfl ?_
            refine RL.pass rfl rfl rfl ?_
            refine RL.pure rfl rfl rfl rfl ?_
            refine RL.pure rfl rfl rfl rfl ?_
            refine RL.pure rfl rfl rfl rfl ?_
            refine RL.pure rfl rfl rfl rfl ?_
            refine RL.idx rfl rfl rfl rfl sl46 rfl rfl (hx) (by omega) ((by omega)) ?_
            rintro qt93 vst93 hvlt93 hHt93 ⟨hvt93, hrt93⟩
            change _ = [Value.int .u64 (l[i]'(by omega))] at hvt93
            subst hvt93
            refine RL.loadT (j := 0) rfl rfl rfl rfl ty29 rfl (hHt93) (fun w h => h) rfl ?_
            refine RL.pure rfl rfl rfl rfl ?_
            refine RL.pure rfl rfl rfl rfl ?_
            refine RL.idx rfl rfl rfl rfl sl46 rfl rfl (hx) (by omega) ((by omega)) ?_
            rintro qt97 vst97 hvlt97 hHt97 ⟨hvt97, hrt97⟩
            change _ = [Value.int .u64 (l[k]'(by omega))] at hvt97
            subst hvt97
            refine RL.loadT (j := 0) rfl rfl rfl rfl ty29 rfl (hHt97) (fun w h => h) rfl ?_
            refine RL.pure rfl rfl rfl rfl ?_
            refine RL.part 99 rfl (fun hc9 => ?_) (fun hc9 => ?_)
            · have hc9 : l[k] ≤ l[i] := by simpa using hc9
              have hm := enc_mono (hrl _ (List.getElem_mem hkl)).1 hc9
              refine RL.pure rfl rfl rfl rfl ?_
              refine RL.pure rfl rfl rfl rfl ?_
              refine RL.pure rfl rfl rfl rfl ?_
              refine RL.idx rfl rfl rfl rfl sl47 rfl rfl (hone) (by omega) ((by rw [ones_length]; omega)) ?_
              rintro qt103 vst103 hvlt103 hHt103 ⟨hvt103, hrt103⟩
              rw [ones_get] at hvt103
              change _ = [Value.string (strOfNums (encU (l[i]'(by omega))))] at hvt103
              subst hvt103
              refine RL.loadT (j := 0) rfl rfl rfl rfl ty9 rfl (hHt103) (fun w h => h) rfl ?_
              refine RL.lens rfl rfl rfl rfl Tryd.underlying9 rfl ?_
              refine RL.pure rfl rfl rfl rfl ?_
              refine RL.pure rfl rfl rfl rfl ?_
              refine RL.idx rfl rfl rfl rfl sl47 rfl rfl (hone) (by omega) ((by rw [ones_length]; omega)) ?_
              rintro qt108 vst108 hvlt108 hHt108 ⟨hvt108, hrt108⟩
              rw [ones_get] at hvt108
              change _ = [Value.string (strOfNums (encU (l[k]'(by omega))))] at hvt108
              subst hvt108
              refine RL.loadT (j := 0) rfl rfl rfl rfl ty9 rfl (hHt108) (fun w h => h) rfl ?_
              refine RL.lens rfl rfl rfl rfl Tryd.underlying9 rfl ?_
              refine RL.pure rfl rfl rfl rfl ?_
              refine RL.part 111 rfl (fun hcB => ?_) (fun hcB => ?_)
              · exfalso
                have := of_decide_eq_true hcB
                simp only [one_size] at this
                omega
              · refine RL.pure rfl rfl rfl rfl ?_
                refine RL.pure rfl rfl rfl rfl ?_
                refine RL.done ?_
                refine CW.no rfl (CW.skip ?_)
                exact fun ac ha => ⟨[(0, .slice xa l.length xc), (2, .bool false), (5, .slice a (ones l).length c), (8, ptr r), (9, .int .i64 k), (10, .int .i64 i)], ha.sub ⟨rfl, rfl, rfl, rfl, rfl, rfl, trivial⟩, rfl, hg9, hax9⟩
            · refine RL.pure rfl rfl rfl rfl ?_
              refine RL.pass rfl rfl rfl ?_
              refine RL.pass rfl rfl rfl ?_
              refine RL.pass rfl rfl rfl ?_
              refine RL.pass rfl rfl rfl ?_
              refine RL.pass rfl rfl rfl ?_
              refine RL.pass rfl rfl rfl ?_
              refine RL.pass rfl rfl rfl ?_
              refine RL.pass rfl rfl rfl ?_
              refine RL.pass rfl rfl rfl ?_
              refine RL.pass rfl rfl rfl ?_
              refine RL.pass rfl rfl rfl ?_
              refine RL.pure rfl rfl rfl rfl ?_
              refine RL.pure rfl rfl rfl rfl ?_
              refine RL.done ?_
              refine CW.no rfl (CW.skip ?_)
              exact fun ac ha => ⟨[(0, .slice xa l.length xc), (2, .bool false), (5, .slice a (ones l).length c), (8, ptr r), (9, .int .i64 k), (10, .int .i64 i)], ha.sub ⟨rfl, rfl, rfl, rfl, rfl, rfl, trivial⟩, rfl, hg9, hax9⟩
        rintro E w10 ⟨rfl, hg10, hax10⟩
        refine CW.seq ?_
        refine CW.draws [(true, 0), (true, 1), (true, 2), (true, 3), (true, 4), (true, 5), (true, 6), (true, 7), (true, 8), (true, 9), (true, 10), (false, 11)] (fun w => In s5 w) mixed (by kernel_rfl) (by kernel_rfl) (by kernel_rfl) (by kernel_rfl) ((hgg hg10.drew)) ?_
        refine RL.pure rfl rfl rfl rfl ?_
        refine RL.pure rfl rfl rfl rfl ?_
        refine RL.idx rfl rfl rfl rfl sl47 rfl rfl (hone) (by omega) ((by rw [ones_length]; omega)) ?_
        rintro qt116 vst116 hvlt116 hHt116 ⟨hvt116, hrt116⟩
        rw [ones_get] at hvt116
        change _ = [Value.string (strOfNums (encU (l[i]'(by omega))))] at hvt116
        subst hvt116
        refine RL.loadT (j := 0) rfl rfl rfl rfl ty9 rfl (hHt116) (fun w h => h) rfl ?_
        refine RL.lens rfl rfl rfl rfl Tryd.underlying9 rfl ?_
        refine RL.pure rfl rfl rfl rfl ?_
        refine RL.pure rfl rfl rfl rfl ?_
        refine RL.idx rfl rfl rfl rfl sl47 rfl rfl (hone) (by omega) ((by rw [ones_length]; omega)) ?_
        rintro qt121 vst121 hvlt121 hHt121 ⟨hvt121, hrt121⟩
        rw [ones_get] at hvt121
        change _ = [Value.string (strOfNums (encU (l[k]'(by omega))))] at hvt121
        subst hvt121
        refine RL.loadT (j := 0) rfl rfl rfl rfl ty9 rfl (hHt121) (fun w h => h) rfl ?_
        refine RL.lens rfl rfl rfl rfl Tryd.underlying9 rfl ?_
        refine RL.min rfl rfl rfl rfl rfl rfl ?_
        refine RL.pure rfl rfl rfl rfl ?_
        refine RL.done ?_
        have hmin : (if ((strOfNums (encU l[k])).size : Int) < (strOfNums (encU l[i])).size then ((strOfNums (encU l[k])).size : Int) else (strOfNums (encU l[i])).size) = ((min (encU l[i]).length (encU l[k]).length : Nat) : Int) := by
          rw [one_size, one_size]
          split <;> omega
        generalize hn : min (encU l[i]).length (encU l[k]).length = n at hmin
        rw [hmin]
        have hn1 : n ≤ (encU l[i]).length := by omega
        have hn2 : n ≤ (encU l[k]).length := by omega
        have hgB := hg10.drew
        refine CW.seq ?_
        refine CW.draws [(true, 0), (true, 1), (true, 2), (true, 3), (true, 4), (true, 5), (true, 6), (true, 7), (true, 8), (true, 9), (true, 10), (true, 11), (true, 12), (true, 13), (true, 14), (true, 15), (true, 16), (true, 17), (true, 18), (true, 19), (true, 20), (true, 21), (true, 22)] (fun w => In s5 w) mixed (by kernel_rfl) (by kernel_rfl) (by kernel_rfl) (by kernel_rfl) ((hgg hgB.drew)) ?_
        refine RL.pure rfl rfl rfl rfl ?_
        refine RL.pure rfl rfl rfl rfl ?_
        refine RL.idx rfl rfl rfl rfl sl47 rfl rfl (hone) (by omega) ((by rw [ones_length]; omega)) ?_
        rintro qt127 vst127 hvlt127 hHt127 ⟨hvt127, hrt127⟩
        rw [ones_get] at hvt127
        change _ = [Value.string (strOfNums (encU (l[i]'(by omega))))] at hvt127
        subst hvt127
        refine RL.loadT (j := 0) rfl rfl rfl rfl ty9 rfl (hHt127) (fun w h => h) rfl ?_
        refine RL.pure rfl rfl rfl rfl ?_
        refine RL.strcut rfl rfl rfl rfl Tryd.underlying9 rfl rfl (by omega) (by omega) ?_
        refine RL.pure rfl rfl rfl rfl ?_
        refine RL.pure rfl rfl rfl rfl ?_
        refine RL.idx rfl rfl rfl rfl sl47 rfl rfl (hone) (by omega) ((by rw [ones_length]; omega)) ?_
        rintro qt133 vst133 hvlt133 hHt133 ⟨hvt133, hrt133⟩
        rw [ones_get] at hvt133
        change _ = [Value.string (strOfNums (encU (l[k]'(by omega))))] at hvt133
        subst hvt133
        refine RL.loadT (j := 0) rfl rfl rfl rfl ty9 rfl (hHt133) (fun w h => h) rfl ?_
        refine RL.pure rfl rfl rfl rfl ?_
        refine RL.strcut rfl rfl rfl rfl Tryd.underlying9 rfl rfl (by omega) (by omega) ?_
        refine RL.sEq rfl rfl rfl rfl rfl rfl ?_
        refine RL.pure rfl rfl rfl rfl ?_
        refine RL.pure rfl rfl rfl rfl ?_
        refine RL.idx rfl rfl rfl rfl sl46 rfl rfl (hx) (by omega) ((by omega)) ?_
        rintro qt140 vst140 hvlt140 hHt140 ⟨hvt140, hrt140⟩
        change _ = [Value.int .u64 (l[i]'(by omega))] at hvt140
        subst hvt140
        refine RL.loadT (j := 0) rfl rfl rfl rfl ty29 rfl (hHt140) (fun w h => h) rfl ?_
        refine RL.pure rfl rfl rfl rfl ?_
        refine RL.pure rfl rfl rfl rfl ?_
        refine RL.idx rfl rfl rfl rfl sl46 rfl rfl (hx) (by omega) ((by omega)) ?_
        rintro qt144 vst144 hvlt144 hHt144 ⟨hvt144, hrt144⟩
        change _ = [Value.int .u64 (l[k]'(by omega))] at hvt144
        subst hvt144
        refine RL.loadT (j := 0) rfl rfl rfl rfl ty29 rfl (hHt144) (fun w h => h) rfl ?_
        refine RL.pure rfl rfl rfl rfl ?_
        refine RL.bNe rfl rfl rfl rfl Tryd.underlying4 rfl rfl ?_
        refine RL.part 147 rfl (fun hcE => ?_) (fun hcE => ?_)
        · exfalso
          have hi0 := hrl _ (List.getElem_mem hil)
          have hk0 := hrl _ (List.getElem_mem hkl)
          rw [str_beq (fun x hx => encU_rng hi0.1 hi0.2 x (List.mem_of_mem_take hx)) (fun x hx => encU_rng hk0.1 hk0.2 x (List.mem_of_mem_take hx))] at hcE
          have hiff := enc_pre hi0.1 hi0.2 hk0.1 hk0.2 hn.symm
          have e : (l[i] == l[k]) = decide ((encU l[i]).take ((n : Int)).toNat = (encU l[k]).take ((n : Int)).toNat) := by
            rw [Bool.eq_iff_iff]
            simp only [beq_iff_eq, decide_eq_true_eq]
            exact hiff.symm
          rw [e] at hcE
          simp at hcE
        · refine RL.done ?_
          refine CW.no rfl (CW.skip (CW.plain ?_))
          refine RL.pure rfl rfl rfl rfl ?_
          refine RL.add rfl rfl rfl rfl rfl rfl (by simp only [rng] at *; omega) ?_
          refine RL.pure rfl rfl rfl rfl ?_
          refine RL.done ?_
          cases j2 with
          | zero => omega
          | succ j2 =>
            exact fun ac ha => ⟨j2, [(0, .slice xa l.length xc), (2, .bool false), (5, .slice a (ones l).length c), (8, ptr r), (9, .int .i64 k), (10, .int .i64 ((i : Int) + 1))], ha.sub ⟨rfl, rfl, rfl, rfl, rfl, rfl, trivial⟩, ⟨i + 1, rfl, hgB.drew, hax10.trans ((Aux.drew _).trans (Aux.drew _)), by omega⟩, Nat.lt_succ_self j2⟩
      · refine CW.plain ?_
        refine RL.pure rfl rfl rfl rfl ?_
        refine RL.add rfl rfl rfl rfl rfl rfl (by simp only [rng] at *; omega) ?_
        refine RL.pure rfl rfl rfl rfl ?_
        refine RL.done ?_
        cases j with
        | zero => omega
        | succ j =>
          exact fun ac ha => ⟨j, [(0, .slice xa l.length xc), (2, .bool false), (5, .slice a (ones l).length c), (8, ptr r), (9, .int .i64 ((k : Int) + 1))], ha.sub ⟨rfl, rfl, rfl, rfl, rfl, trivial⟩, ⟨s7, R7, k + 1, rfl, hg8, hle6.trans hle7, hax8, hR7, by omega⟩, Nat.lt_succ_self j⟩
    · have hkl : k = l.length := by omega
      subst hkl
      rw [List.take_length] at hR6
      exact fun ac ha => ⟨[(2, .bool false), (8, ptr r)], ha.sub ⟨rfl, rfl, trivial⟩, s6, R6, rfl, hg6, hle6, hax6, hR6⟩
  rintro E w11 ⟨s11, R11, rfl, hg11, hle11, hax11, hR11⟩
  refine CW.seq (CW.plain ?_)
  refine RL.pure rfl rfl rfl rfl ?_
  refine RL.callV rfl rfl rfl rfl rfl ca17 (RDone_ct hg11 (het.le hle11) hR11) ?_
  rintro v12 w12 hg12 hax12 rfl
  refine ⟨trivial, ?_⟩
  refine RL.pure rfl rfl rfl rfl ?_
  refine RL.pure rfl rfl rfl rfl ?_
  refine RL.done ?_
  have hfin : (if (⟨((encUs l).length : Nat), none⟩ : RS).errno = 0 ∧ (⟨((encUs l).length : Nat), none⟩ : RS).pos < ((encUs l).length : Int) then (15 : Int) else (⟨((encUs l).length : Nat), none⟩ : RS).errno) = 0 := by
    rw [if_neg (fun hh => Int.lt_irrefl _ hh.2)]
    rfl
  rw [hfin]
  exact CW.ret (ret (vs := [_]) ⟨_, _, rfl, rfl, rfl⟩ (Post.mk (hle0.trans (hle05.trans hle11)) hg12 (hax11.trans hax12) rfl))
end Go.Lw
