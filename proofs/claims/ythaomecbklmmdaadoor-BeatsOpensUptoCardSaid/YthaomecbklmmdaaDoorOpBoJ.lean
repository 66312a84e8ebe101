/-
  BeatsOpens: Open of any packet tells the document's messages, or the error; the packet stays.
-/
import Derived.Test.YthaomecbklmmdaaDoorOpBoI
namespace Go.Lw
open Go.Proofs
attribute [local irreducible] RL RA

set_option maxHeartbeats 4000000 in
set_option maxRecDepth 100000 in
theorem BeatsOpens_ct {w : World} {s : Res} {os : List Res} {vs : List Value} {x : Packet} (hg : Good w s os) (het : Et s) (hx : RPacket s vs x) (hl : x.data.length ≤ 1048576) :
    Calls Tryd.prog 3 #[.agg vs.toArray] w (Post w s os fun _ _ r => r = .bool true) := by
  have hx0 := hx
  obtain ⟨da, dc, rfl, hr1, hr2, hr3, hI⟩ := hx
  refine enter (l := [.agg (pkV x da dc).toArray]) Tryd.func3 rfl Tryd.ntmps3 rfl ?_
  refine CW.seq (CW.plain ?_)
  refine RL.box rfl rfl rfl rfl rfl hg ?_
  rintro b1 w1 hg1 hax1
  refine ⟨trivial, ?_⟩
  refine RL.pure rfl rfl rfl rfl ?_
  refine RL.done ?_
  obtain ⟨B, hB⟩ : ∃ B : Res, B = Res.one b1 (.cells (pkV x da dc).toArray 24) := ⟨_, rfl⟩
  have hH : Holds B ⟨b1, 0, none⟩ (pkV x da dc) := by rw [hB]; exact Holds.one b1 _ 24
  replace hg1 : Good w1 s (B :: os) := by rw [hB]; exact hg1
  refine CW.seq (CW.plain ?_)
  refine RL.call rfl rfl rfl rfl rfl ca6 (head11_ct hg1) ?_
  rintro v2 s2 A2 w2 hle2 hg2_ hax2 rfl
  refine ⟨trivial, ?_⟩
  refine RL.pure rfl rfl rfl rfl ?_
  refine RL.done ?_
  have hg2 := hg2_.drop
  have hI2 := hI.up (RInt.up _) hle2
  refine CW.seq (CW.plain ?_)
  refine RL.loads (j := 0) (us := (pkV x da dc)) rfl rfl rfl rfl ty24 rfl (hH) (hg2.1) rfl rfl ?_
  refine RL.alloc rfl rfl rfl rfl ze24 hg2 ?_
  rintro b4 w3 hg3 hax3
  refine ⟨trivial, ?_⟩
  refine RL.store (i := 0) (j := 0) rfl rfl rfl ty24 rfl rfl hg3 rfl (if_pos rfl) rfl (by first | (simp [Value.cells, Value.oneCell']; done) | simp [Value.cells, Value.oneCell', putL]) (by first | exact Nat.le_of_ble_eq_true rfl | (simp; done) | (simp; omega) | omega) ?_
  rintro w4 hg4 hax4
  refine ⟨trivial, ?_⟩
  refine RL.done ?_
  obtain ⟨C, hg4, hC⟩ : ∃ C, Good w4 s2 (C :: B :: os) ∧ C b4 = some (.cells (pkV x da dc).toArray 24 (0, 0)) := ⟨_, hg4, put_same _ _ _⟩
  have hx4 := hax1.trans (hax2.trans (hax3.trans hax4))
  clear hg1 hg2 hg2_ hg3
  refine CW.meet (fun E w' => ∃ s' C' a c, E = [(1, ptr b1), (3, .bool true), (4, ptr b4)] ∧ Good w' s' (C' :: B :: os) ∧ Le s2 s' ∧ Aux w w' ∧ Imm (RInt .u8) 1 s' a c (x.data ++ [77]) ∧ C' b4 = some (.cells (pkV x a c).toArray 24 (0, 0))) ?_ ?_
  · have hgD := hg4.drew
    refine CW.forks (.fork [(true, 1), (true, 2), (true, 6), (true, 7), (true, 8)] (.fork [(false, 0)] (.line [(false, 3), (false, 4), (false, 5), (true, 9), (true, 10), (false, 11)]) (.line [(false, 4), (false, 3), (false, 5), (true, 9), (true, 10), (false, 11)])) (.line [(false, 4), (false, 0), (false, 3), (false, 5), (true, 9), (true, 10), (false, 11)])) (fun w => In B w) mixed (by kernel_rfl) (by kernel_rfl) (by kernel_rfl) (by kernel_rfl) (hgD.mem (by simp)) ?_
    refine RT.pre (S := fun w => In B w) (hgD.mem (by simp)) ?_
    refine RL.field rfl rfl rfl rfl fl24_3 rfl rfl ?_
    refine RL.loadT (j := 3) rfl rfl rfl rfl ty22 rfl (hH) (fun w h => h) rfl ?_
    refine RL.field rfl rfl rfl rfl fl24_3 rfl rfl ?_
    refine RL.loadT (j := 3) rfl rfl rfl rfl ty22 rfl (hH) (fun w h => h) rfl ?_
    refine RL.len rfl rfl rfl rfl sl22 rfl ?_
    refine RL.done ?_
    refine RT.both (S := fun w => In B w) (hgD.mem (by simp)) (RT.pre (S := fun w => In B w) (hgD.mem (by simp)) ?_) (RT.end_ (S := fun w => In B w) (hgD.mem (by simp)) ?_)
    · refine RL.buildSlice rfl rfl rfl rfl sl22 ze5 rfl rfl rfl rfl hgD ?_
      rintro p14 w14 hg14 hax14
      refine ⟨hg14.mem (by simp), ?_⟩
      refine RL.done ?_
      refine RT.both (S := fun w => In B w) (hg14.mem (by simp)) (RT.end_ (S := fun w => In B w) (hg14.mem (by simp)) ?_) (RT.end_ (S := fun w => In B w) (hg14.mem (by simp)) ?_)
      · obtain ⟨news17, hsrc17, hch17⟩ := Src.row (c := dc) sl22 hI2.2.2 hg14.sh
        refine RL.append (i := 0) (ys := x.data) rfl rfl rfl rfl sl22 ze5 rfl (by first | exact RInt.one _ | exact RStr.one | exact RBool.one | assumption) rfl rfl hg14 rfl (Own.fresh) (hsrc17) (hch17) ((by simp only [List.length_nil]; omega)) (by omega) ?_
        rintro a17 c17 A17 w17 hg17 ho17 hax17 hk17
        refine ⟨hg17.mem (by simp), ?_⟩
        refine RL.buildSlice rfl rfl rfl rfl sl22 ze5 rfl rfl rfl rfl hg17 ?_
        rintro p18 w18 hg18 hax18
        refine ⟨hg18.mem (by simp), ?_⟩
        obtain ⟨news19, hsrc19, hch19⟩ := Src.row (c := 1) (ys := [77]) (R := RInt .u8) (s := s2) sl22 (.inr ⟨_, rfl, _, Holds.one p18 #[.int .u8 77] 5, Chunks.single rfl ⟨rfl, by simp [rng]⟩⟩) (hg18.mem (by first | exact .head _ | exact .tail _ (.head _)))
        refine RL.append (i := 1) (ys := [77]) rfl rfl rfl rfl sl22 ze5 rfl (by first | exact RInt.one _ | exact RStr.one | exact RBool.one | assumption) rfl rfl hg18 rfl (ho17) (hsrc19) (hch19) ((by simp only [List.length_append, List.length_nil, List.length_singleton]; omega)) (by omega) ?_
        rintro a19 c19 A19 w19 hg19 ho19 hax19 hk19
        refine ⟨hg19.mem (by simp), ?_⟩
        refine RL.reslice (s := s2.join A19) (xs := x.data ++ [77]) rfl rfl rfl rfl sl22 rfl rfl (ho19.imm (RInt.up _) (Res.le_join_left _ _) (Res.le_join_right (hg19.far (r := A19) (by simp)).symm)) (by omega) (by simp only [List.length_append, List.length_singleton]; omega) ?_
        rintro a23 hI23
        refine RL.field rfl rfl rfl rfl fl24_3 rfl rfl ?_
        refine RL.store (i := 2) (j := 3) rfl rfl rfl ty22 rfl rfl hg19 rfl (hC) rfl (by first | (simp [Value.cells, Value.oneCell']; done) | simp [Value.cells, Value.oneCell', putL]) (by first | exact Nat.le_of_ble_eq_true rfl | (simp; done) | (simp; omega) | omega) ?_
        rintro w30 hg30 hax30
        refine ⟨hg30.mem (by simp), ?_⟩
        refine RL.done ?_
        have hgS := Good.share (hg30.front 1 rfl)
        exact fun ac ha => ⟨[(1, ptr b1), (3, .bool true), (4, ptr b4)], ha.sub ⟨rfl, rfl, rfl, trivial⟩, _, _, a23, c19, rfl, hgS.drop, Res.le_join_left _ _, (hx4.trans (Aux.drew _)).trans ((hax14).trans ((hax17).trans ((hax18).trans ((hax19).trans (hax30))))), hI23, put_same _ _ _⟩
      · refine RL.buildSlice rfl rfl rfl rfl sl22 ze5 rfl rfl rfl rfl hg14 ?_
        rintro p18 w18 hg18 hax18
        refine ⟨hg18.mem (by simp), ?_⟩
        obtain ⟨news17, hsrc17, hch17⟩ := Src.row (c := dc) sl22 hI2.2.2 hg18.sh
        refine RL.append (i := 1) (ys := x.data) rfl rfl rfl rfl sl22 ze5 rfl (by first | exact RInt.one _ | exact RStr.one | exact RBool.one | assumption) rfl rfl hg18 rfl (Own.fresh) (hsrc17) (hch17) ((by simp only [List.length_nil]; omega)) (by omega) ?_
        rintro a17 c17 A17 w17 hg17 ho17 hax17 hk17
        refine ⟨hg17.mem (by simp), ?_⟩
        obtain ⟨news19, hsrc19, hch19⟩ := Src.row (c := 1) (ys := [77]) (R := RInt .u8) (s := s2) sl22 (.inr ⟨_, rfl, _, Holds.one p18 #[.int .u8 77] 5, Chunks.single rfl ⟨rfl, by simp [rng]⟩⟩) (hg17.mem (by first | exact .head _ | exact .tail _ (.head _)))
        refine RL.append (i := 1) (ys := [77]) rfl rfl rfl rfl sl22 ze5 rfl (by first | exact RInt.one _ | exact RStr.one | exact RBool.one | assumption) rfl rfl hg17 rfl (ho17) (hsrc19) (hch19) ((by simp only [List.length_append, List.length_nil, List.length_singleton]; omega)) (by omega) ?_
        rintro a19 c19 A19 w19 hg19 ho19 hax19 hk19
        refine ⟨hg19.mem (by simp), ?_⟩
        refine RL.reslice (s := s2.join A19) (xs := x.data ++ [77]) rfl rfl rfl rfl sl22 rfl rfl (ho19.imm (RInt.up _) (Res.le_join_left _ _) (Res.le_join_right (hg19.far (r := A19) (by simp)).symm)) (by omega) (by simp only [List.length_append, List.length_singleton]; omega) ?_
        rintro a23 hI23
        refine RL.field rfl rfl rfl rfl fl24_3 rfl rfl ?_
        refine RL.store (i := 2) (j := 3) rfl rfl rfl ty22 rfl rfl hg19 rfl (hC) rfl (by first | (simp [Value.cells, Value.oneCell']; done) | simp [Value.cells, Value.oneCell', putL]) (by first | exact Nat.le_of_ble_eq_true rfl | (simp; done) | (simp; omega) | omega) ?_
        rintro w30 hg30 hax30
        refine ⟨hg30.mem (by simp), ?_⟩
        refine RL.done ?_
        have hgS := Good.share (hg30.front 1 rfl)
        exact fun ac ha => ⟨[(1, ptr b1), (3, .bool true), (4, ptr b4)], ha.sub ⟨rfl, rfl, rfl, trivial⟩, _, _, a23, c19, rfl, hgS.drop, Res.le_join_left _ _, (hx4.trans (Aux.drew _)).trans ((hax14).trans ((hax18).trans ((hax17).trans ((hax19).trans (hax30))))), hI23, put_same _ _ _⟩
    · refine RL.buildSlice rfl rfl rfl rfl sl22 ze5 rfl rfl rfl rfl hgD ?_
      rintro p18 w18 hg18 hax18
      refine ⟨hg18.mem (by simp), ?_⟩
      refine RL.buildSlice rfl rfl rfl rfl sl22 ze5 rfl rfl rfl rfl hg18 ?_
      rintro p14 w14 hg14 hax14
      refine ⟨hg14.mem (by simp), ?_⟩
      obtain ⟨news17, hsrc17, hch17⟩ := Src.row (c := dc) sl22 hI2.2.2 hg14.sh
      refine RL.append (i := 0) (ys := x.data) rfl rfl rfl rfl sl22 ze5 rfl (by first | exact RInt.one _ | exact RStr.one | exact RBool.one | assumption) rfl rfl hg14 rfl (Own.fresh) (hsrc17) (hch17) ((by simp only [List.length_nil]; omega)) (by omega) ?_
      rintro a17 c17 A17 w17 hg17 ho17 hax17 hk17
      refine ⟨hg17.mem (by simp), ?_⟩
      obtain ⟨news19, hsrc19, hch19⟩ := Src.row (c := 1) (ys := [77]) (R := RInt .u8) (s := s2) sl22 (.inr ⟨_, rfl, _, Holds.one p18 #[.int .u8 77] 5, Chunks.single rfl ⟨rfl, by simp [rng]⟩⟩) (hg17.mem (by first | exact .head _ | exact .tail _ (.head _)))
      refine RL.append (i := 0) (ys := [77]) rfl rfl rfl rfl sl22 ze5 rfl (by first | exact RInt.one _ | exact RStr.one | exact RBool.one | assumption) rfl rfl hg17 rfl (ho17) (hsrc19) (hch19) ((by simp only [List.length_append, List.length_nil, List.length_singleton]; omega)) (by omega) ?_
      rintro a19 c19 A19 w19 hg19 ho19 hax19 hk19
      refine ⟨hg19.mem (by simp), ?_⟩
      refine RL.reslice (s := s2.join A19) (xs := x.data ++ [77]) rfl rfl rfl rfl sl22 rfl rfl (ho19.imm (RInt.up _) (Res.le_join_left _ _) (Res.le_join_right (hg19.far (r := A19) (by simp)).symm)) (by omega) (by simp only [List.length_append, List.length_singleton]; omega) ?_
      rintro a23 hI23
      refine RL.field rfl rfl rfl rfl fl24_3 rfl rfl ?_
      refine RL.store (i := 2) (j := 3) rfl rfl rfl ty22 rfl rfl hg19 rfl (hC) rfl (by first | (simp [Value.cells, Value.oneCell']; done) | simp [Value.cells, Value.oneCell', putL]) (by first | exact Nat.le_of_ble_eq_true rfl | (simp; done) | (simp; omega) | omega) ?_
      rintro w30 hg30 hax30
      refine ⟨hg30.mem (by simp), ?_⟩
      refine RL.done ?_
      have hgS := Good.share (hg30.front 0 rfl)
      exact fun ac ha => ⟨[(1, ptr b1), (3, .bool true), (4, ptr b4)], ha.sub ⟨rfl, rfl, rfl, trivial⟩, _, _, a23, c19, rfl, hgS.drop, Res.le_join_left _ _, (hx4.trans (Aux.drew _)).trans ((hax18).trans ((hax14).trans ((hax17).trans ((hax19).trans (hax30))))), hI23, put_same _ _ _⟩
  clear hg4 hC
  rintro E w5 ⟨s5, C5, a5, c5, rfl, hg5, hle5, hx5, hI5, hC5⟩
  have hle05 := hle2.trans hle5
  have hy5 : RPacket s5 (pkV x a5 c5) x := ⟨a5, c5, rfl, hr1, hr2, hr3, hI5.front⟩
  rcases ho : openP x with ⟨ws, e⟩
  refine CW.seq (CW.plain ?_)
  refine RL.loads (j := 0) (us := (pkV x a5 c5)) rfl rfl rfl rfl ty24 rfl (Holds.of hC5) (hg5.1) rfl rfl ?_
  refine RL.call rfl rfl rfl rfl rfl ca7 (Open_ct hg5 (het.le hle05) hy5 (by omega)) ?_
  rintro v6 s6 L w6 hle6 hg6 hax6 ⟨a6, c6, rfl, ho6⟩
  refine ⟨trivial, ?_⟩
  refine RL.pure rfl rfl rfl rfl ?_
  rw [ho] at ho6 ⊢
  refine RL.pure rfl rfl rfl rfl ?_
  refine RL.pure rfl rfl rfl rfl ?_
  refine RL.pure rfl rfl rfl rfl ?_
  refine RL.pure rfl rfl rfl rfl ?_
  refine RL.done ?_
  refine CW.seq (CW.plain ?_)
  refine RL.loads (j := 0) (us := (pkV x da dc)) rfl rfl rfl rfl ty24 rfl (hH) (hg6.mem (by simp)) rfl rfl ?_
  refine RL.call rfl rfl rfl rfl rfl ca8 (dOpen_ct hg6 (RPacket.up _ _ _ _ (hle05.trans hle6) hx0) (by omega)) ?_
  rintro v7 s7 M w7 hle7 hg7 hax7 ⟨a7, c7, rfl, ho7⟩
  refine ⟨trivial, ?_⟩
  refine RL.pure rfl rfl rfl rfl ?_
  rw [ho] at ho7 ⊢
  refine RL.pure rfl rfl rfl rfl ?_
  refine RL.pure rfl rfl rfl rfl ?_
  refine RL.pure rfl rfl rfl rfl ?_
  refine RL.pure rfl rfl rfl rfl ?_
  refine RL.done ?_
  obtain ⟨s8, hg8, hle8, hq8⟩ := Good.letgo hg7
  have iM : Imm RWire 15 s8 a7 c7 ws := ho7.imm RWire.up hle8 hq8
  obtain ⟨s9, hg9, hle9, hq9⟩ := Good.letgo hg8
  have hle69 := hle7.trans (hle8.trans hle9)
  have iL : Imm RWire 15 s9 a6 c6 ws := ho6.wire.imm RWire.up hle69 hq9
  have hwl : ws.length ≤ 4096 := by
    unfold openP at ho
    split at ho
    · cases ho; simp
    · simp only at ho
      split at ho
      · cases ho; simp
      · obtain ⟨h1, _⟩ := Prod.mk.inj ho
        rw [← h1]
        have hlen : ∀ (n : Nat) (st : RS) (xs : List Wire), (rdWs x.kind x.frm x.to x.data n st xs).1.length ≤ xs.length + n := by
          intro n
          induction n with
          | zero => intro st xs; simp [rdWs]
          | succ n ih =>
            intro st xs
            rw [rdWs]
            split
            · have := ih (rdW x.kind x.data st).2 (xs ++ [setFT x.frm x.to (rdW x.kind x.data st).1])
              simp only [List.length_append, List.length_singleton] at this; omega
            · simp
        have h2 := hlen (rdCount x.data ⟨0, none⟩ 4096).1.toNat (st0P x.data) []
        have h3 := rdCount_le (bs := x.data) (st := ⟨0, none⟩) (most := 4096) (by decide)
        simp only [List.length_nil] at h2
        omega
  refine CW.seq (CW.plain ?_)
  refine RL.pure rfl rfl rfl rfl ?_
  refine RL.call rfl rfl rfl rfl rfl ca10 (theirs_ct (l := ws) hg9 iL (by omega)) ?_
  rintro v10 s10 A10 w10 hle10 hg10 hax10 ⟨_, a10, c10, rfl, ho10⟩
  refine ⟨trivial, ?_⟩
  refine RL.pure rfl rfl rfl rfl ?_
  obtain ⟨s11, hg11, hle11, hq11⟩ := Good.letgo hg10
  have ith : Imm RWire 15 s11 a10 c10 ws := ho10.imm RWire.up hle11 hq11
  refine RL.callV rfl rfl rfl rfl rfl ca9 (Same11_ct (xs := ws) hg11 ith (iM.up RWire.up (hle9.trans (hle10.trans hle11)))) ?_
  rintro v12 w12 hg12 hax12 rfl
  refine ⟨trivial, ?_⟩
  refine RL.pure rfl rfl rfl rfl ?_
  refine RL.done ?_
  have hx12 := hx5.trans (hax6.trans (hax7.trans (hax10.trans hax12)))
  have hle911 := hle10.trans hle11
  have hLs : Le L s11 := hq9.trans hle911
  have hgA := hg12.back_own hLs
  have hle6A : Le s6 (s11.without L) := fun b o hb => Res.without_some ((hle69.trans hle911) _ _ hb) (hg6.2.1.symm b (by rw [hb]; simp))
  obtain ⟨D, hD⟩ : ∃ D : Res, D = (s11.without L).without s5 := ⟨_, rfl⟩
  have hDle : Le D (s11.without L) := by rw [hD]; exact Res.without_le _ _
  have hgB := hgA.back_own hDle
  obtain ⟨sB, hsB⟩ : ∃ sB : Res, sB = (s11.without L).without D := ⟨_, rfl⟩
  rw [← hsB] at hgB
  have hle5B : Le s5 sB := fun b o hb => by
    rw [hsB]
    refine Res.without_some (hle6A _ _ (hle6 _ _ hb)) ?_
    rw [hD]; unfold Res.without; rw [hb]
  have hoL : Own (RFlat D) 15 44 sB L a6 c6 ws := ho6.imp2 fun vs x h => RFlat.of h fun b o h0 h1 => by
    rw [hD]; exact Res.without_some (hle6A _ _ h1) h0
  clear hg5 hg6 hg7 hg8 hg9 hg10 hg11 hg12 hgA
  have hxB := hI.up (RInt.up _) (hle05.trans hle5B)
  have hyB := hI5.up (RInt.up _) hle5B
  refine CW.meet (fun E w' => ∃ D', E = [(1, ptr b1), (3, .bool true), (4, ptr b4), (6, i64 e), (8, i64 e), (9, .bool true)] ∧ Good w' sB (D' :: L :: C5 :: B :: os) ∧ Aux w w') ?_ ?_
  · refine CW.seq (CW.plain ?_)
    refine RL.pure rfl rfl rfl rfl ?_
    refine RL.done ?_
    refine CW.block (CW.loop (σ := Nat) (fun j E w' => ∃ D', ∃ k : Nat, E = [(1, ptr b1), (3, .bool true), (4, ptr b4), (5, .slice a6 ws.length c6), (6, i64 e), (8, i64 e), (9, .bool true), (10, i64 (k : Int))] ∧ Good w' sB (D' :: L :: C5 :: B :: os) ∧ Aux w w' ∧ (∀ a c n, UR D a c n → UR D' a c n) ∧ k + j = ws.length) (fun j => j) ws.length
      [(1, ptr b1), (3, .bool true), (4, ptr b4), (5, .slice a6 ws.length c6), (6, i64 e), (8, i64 e), (9, .bool true), (10, i64 0)] ⟨rfl, rfl, rfl, rfl, rfl, rfl, rfl, rfl, trivial⟩ ⟨D, 0, rfl, hgB, hx12, fun _ _ _ h => h, by omega⟩ ?_)
    clear hgB hx12
    rintro j E w13 ⟨D13, k, rfl, hg13, hx13, hU13, hk⟩
    refine CW.seq (CW.seq (CW.plain ?_))
    refine RL.pure rfl rfl rfl rfl ?_
    refine RL.pure rfl rfl rfl rfl ?_
    refine RL.len rfl rfl rfl rfl sl26 rfl ?_
    refine RL.pure rfl rfl rfl rfl ?_
    refine RL.done ?_
    refine CW.test rfl (fun h => CW.skip ?_) (fun h => CW.exit ?_)
    rotate_left
    · exact fun ac ha => ⟨[(1, ptr b1), (3, .bool true), (4, ptr b4), (6, i64 e), (8, i64 e), (9, .bool true)], ha.sub ⟨rfl, rfl, rfl, rfl, rfl, rfl, trivial⟩, D13, rfl, hg13, hx13⟩
    have hkl : k < ws.length := by omega
    have ek : ws[((k : Nat) : Int).toNat]'(by omega) = ws[k] := by simp
    obtain ⟨X, hX⟩ : ∃ X : Wire, X = ws[k] := ⟨_, rfl⟩
    refine CW.meet (fun E w' => ∃ D', E = [(1, ptr b1), (3, .bool true), (4, ptr b4), (5, .slice a6 ws.length c6), (6, i64 e), (8, i64 e), (9, .bool true), (10, i64 (k : Int))] ∧ Good w' sB (D' :: L :: C5 :: B :: os) ∧ Aux w w' ∧ (∀ a c n, UR D a c n → UR D' a c n)) ?_ ?_
    · refine CW.block (CW.seq (CW.plain ?_))
      refine RL.pure rfl rfl rfl rfl ?_
      refine RL.done ?_
      refine CW.block (CW.loop (σ := Nat) (fun j E w' => ∃ D', ∃ q : Nat, E = [(1, ptr b1), (3, .bool true), (4, ptr b4), (5, .slice a6 ws.length c6), (6, i64 e), (8, i64 e), (9, .bool true), (10, i64 (k : Int)), (11, i64 (q : Int))] ∧ Good w' sB (D' :: L :: C5 :: B :: os) ∧ Aux w w' ∧ (∀ a c n, UR D a c n → UR D' a c n) ∧ q + j = X.msg.data.length) (fun j => j) X.msg.data.length
        [(1, ptr b1), (3, .bool true), (4, ptr b4), (5, .slice a6 ws.length c6), (6, i64 e), (8, i64 e), (9, .bool true), (10, i64 (k : Int)), (11, i64 0)] ⟨rfl, rfl, rfl, rfl, rfl, rfl, rfl, rfl, rfl, trivial⟩ ⟨D13, 0, rfl, hg13, hx13, hU13, by omega⟩ ?_)
      clear hg13 hx13 hU13
      rintro j2 E w14 ⟨D14, q, rfl, hg14, hx14, hU14, hq⟩
      have hJ : In (sB.join L) w14 := hg14.swap.share.sh
      have iF : Imm (RFlat D) 15 (sB.join L) a6 c6 ws := hoL.imm (RFlat.up D) (Res.le_join_left _ _) (Res.le_join_right (hg14.swap.2.1).symm)
      refine CW.seq (CW.seq (CW.plain ?_))
      refine RL.pure rfl rfl rfl rfl ?_
      refine RL.pure rfl rfl rfl rfl ?_
      refine RL.pure rfl rfl rfl rfl ?_
      refine RL.idx rfl rfl rfl rfl sl26 rfl rfl (iF) (by omega) ((by omega)) ?_
      rintro q1 vs1 hvl1 hH1 hre1
      refine RL.field rfl rfl rfl rfl fl44_1 rfl rfl ?_
      refine RL.field rfl rfl rfl rfl fl42_11 rfl rfl ?_
      rw [ek, ← hX] at hre1
      obtain ⟨y, rfl, hu⟩ := id hre1
      refine RL.load (j := 13) rfl rfl rfl rfl ty22 rfl (hH1) (hJ) rfl ?_
      refine RL.len rfl rfl rfl rfl sl22 rfl ?_
      refine RL.pure rfl rfl rfl rfl ?_
      refine RL.done ?_
      refine CW.test rfl (fun h => CW.skip ?_) (fun h => CW.exit ?_)
      rotate_left
      · exact fun ac ha => ⟨[(1, ptr b1), (3, .bool true), (4, ptr b4), (5, .slice a6 ws.length c6), (6, i64 e), (8, i64 e), (9, .bool true), (10, i64 (k : Int))], ha.sub ⟨rfl, rfl, rfl, rfl, rfl, rfl, rfl, rfl, trivial⟩, D14, rfl, hg14, hx14, hU14⟩
      have hqn : q < X.msg.data.length := by omega
      refine CW.seq (CW.block (CW.plain ?_))
      refine RL.pure rfl rfl rfl rfl ?_
      refine RL.pure rfl rfl rfl rfl ?_
      refine RL.idx rfl rfl rfl rfl sl26 rfl rfl (iF) (by omega) ((by omega)) ?_
      rintro q2 vs2 hvl2 hH2 hre2
      refine RL.field rfl rfl rfl rfl fl44_1 rfl rfl ?_
      refine RL.field rfl rfl rfl rfl fl42_11 rfl rfl ?_
      rw [ek, ← hX] at hre2
      obtain ⟨y2, rfl, hu2⟩ := id hre2
      refine RL.load (j := 13) rfl rfl rfl rfl ty22 rfl (hH2) (hJ) rfl ?_
      refine RL.pure rfl rfl rfl rfl ?_
      have hur : UR D14 y2.da y2.dc X.msg.data.length := by
        rcases hu2 with hu2 | hu2
        · rw [hu2] at hqn; simp at hqn
        · exact hU14 _ _ _ hu2
      obtain ⟨zs, hz1, hz2⟩ := hur.own (s := Res.nil)
      have hzc := hz2.le_cap
      have hzm := hz2.le_max
      simp only [maxLen] at hzm
      refine RL.idxOwn rfl rfl rfl rfl sl22 (congrArg (fun n => some (Value.slice y2.da n y2.dc)) hz1.symm) rfl hz2 (by omega) (by omega) ?_
      rintro g1 cs1 us1 hg1' hDg hcs1 hus1 hul1 ⟨rfl, hrv⟩
      refine RL.load (j := ((q : Nat) : Int).toNat * 1) rfl rfl rfl rfl ty5 rfl (Holds.of hDg) hg14.1 (hul1 0 _ rfl) ?_
      refine RL.addw rfl rfl rfl rfl rfl rfl ?_
      refine RL.idxOwn rfl rfl rfl rfl sl22 (congrArg (fun n => some (Value.slice y2.da n y2.dc)) hz1.symm) rfl hz2 (by omega) (by omega) ?_
      rintro g2 cs2 us2 hg2' hDg2 hcs2 hus2 hul2 _
      refine RL.store (i := 0) (j := (((q : Nat) : Int).toNat * 1)) rfl rfl rfl ty5 rfl rfl hg14 rfl (hDg2) rfl (by first | (simp [Value.cells, Value.oneCell']; done) | simp [Value.cells, Value.oneCell', putL]) (by first | exact Nat.le_of_ble_eq_true rfl | (simp; done) | (simp; omega) | omega) ?_
      rintro w15 hg15 hax15
      refine ⟨trivial, ?_⟩
      refine RL.done ?_
      refine CW.plain ?_
      refine RL.pure rfl rfl rfl rfl ?_
      refine RL.add rfl rfl rfl rfl rfl rfl (by simp only [rng] at *; omega) ?_
      refine RL.pure rfl rfl rfl rfl ?_
      refine RL.done ?_
      cases j2 with
      | zero => omega
      | succ j2 => exact fun ac ha => ⟨j2, [(1, ptr b1), (3, .bool true), (4, ptr b4), (5, .slice a6 ws.length c6), (6, i64 e), (8, i64 e), (9, .bool true), (10, i64 (k : Int)), (11, i64 ((q + 1 : Nat) : Int))], ha.sub ⟨rfl, rfl, rfl, rfl, rfl, rfl, rfl, rfl, rfl, trivial⟩, ⟨_, q + 1, rfl, hg15, hx14.trans hax15, fun a c n h => (hU14 a c n h).put hDg2 (by omega) (rng_wrap8 _), by omega⟩, Nat.lt_succ_self j2⟩
    rintro E w16 ⟨D16, rfl, hg16, hx16, hU16⟩
    refine CW.plain ?_
    refine RL.pure rfl rfl rfl rfl ?_
    refine RL.add rfl rfl rfl rfl rfl rfl (by simp only [rng] at *; omega) ?_
    refine RL.pure rfl rfl rfl rfl ?_
    refine RL.done ?_
    cases j with
    | zero => omega
    | succ j => exact fun ac ha => ⟨j, [(1, ptr b1), (3, .bool true), (4, ptr b4), (5, .slice a6 ws.length c6), (6, i64 e), (8, i64 e), (9, .bool true), (10, i64 ((k + 1 : Nat) : Int))], ha.sub ⟨rfl, rfl, rfl, rfl, rfl, rfl, rfl, rfl, trivial⟩, ⟨D16, k + 1, rfl, hg16, hx16, hU16, by omega⟩, Nat.lt_succ_self j⟩
  rintro E w17 ⟨D17, rfl, hg17, hx17⟩
  refine CW.seq ?_
  refine CW.draws [(true, 0), (true, 1), (true, 2), (true, 3), (true, 4), (true, 5), (true, 6), (true, 7), (true, 8), (true, 9), (true, 10), (true, 11), (true, 12), (true, 13), (true, 14), (true, 15), (true, 16), (true, 17), (true, 18), (true, 19), (true, 20), (true, 21), (true, 22), (true, 23), (true, 24), (true, 25), (true, 26), (true, 27), (true, 28), (true, 29), (true, 30), (true, 31), (true, 32), (true, 33)] (fun w => Good w sB (D17 :: L :: C5 :: B :: os)) mixed (by kernel_rfl) (by kernel_rfl) (by kernel_rfl) (by kernel_rfl) (hg17.drew) ?_
  refine RL.pure rfl rfl rfl rfl ?_
  refine RL.pure rfl rfl rfl rfl ?_
  refine RL.pure rfl rfl rfl rfl ?_
  refine RL.pure rfl rfl rfl rfl ?_
  refine RL.pure rfl rfl rfl rfl ?_
  refine RL.pure rfl rfl rfl rfl ?_
  refine RL.pure rfl rfl rfl rfl ?_
  refine RL.pure rfl rfl rfl rfl ?_
  rw [beq_self_eq_true]
  refine RL.pure rfl rfl rfl rfl ?_
  refine RL.pure rfl rfl rfl rfl ?_
  refine RL.field rfl rfl rfl rfl fl24_3 rfl rfl ?_
  refine RL.loadT (j := 3) rfl rfl rfl rfl ty22 rfl (Holds.of hC5) (fun w h => h.mem (r := C5) (by simp)) rfl ?_
  refine RL.btsT rfl rfl rfl rfl sl22 Tryd.underlying5 Tryd.underlying9 rfl (hyB.front.2.2) (fun w h => h.sh) ?_
  refine RL.field rfl rfl rfl rfl fl24_3 rfl rfl ?_
  refine RL.loadT (j := 3) rfl rfl rfl rfl ty22 rfl (hH) (fun w h => h.mem (r := B) (by simp)) rfl ?_
  refine RL.btsT rfl rfl rfl rfl sl22 Tryd.underlying5 Tryd.underlying9 rfl (hxB.2.2) (fun w h => h.sh) ?_
  refine RL.sEq rfl rfl rfl rfl rfl rfl ?_
  rw [beq_self_eq_true]
  refine RL.pure rfl rfl rfl rfl ?_
  refine RL.pure rfl rfl rfl rfl ?_
  refine RL.field rfl rfl rfl rfl fl24_3 rfl rfl ?_
  refine RL.loadT (j := 3) rfl rfl rfl rfl ty22 rfl (Holds.of hC5) (fun w h => h.mem (r := C5) (by simp)) rfl ?_
  refine RL.field rfl rfl rfl rfl fl24_3 rfl rfl ?_
  refine RL.loadT (j := 3) rfl rfl rfl rfl ty22 rfl (hH) (fun w h => h.mem (r := B) (by simp)) rfl ?_
  refine RL.len rfl rfl rfl rfl sl22 rfl ?_
  refine RL.as_ rfl rfl rfl rfl (i64 ((x.data ++ [77]).length : Int)) ((by rw [List.length_append, List.length_singleton]; exact congrArg (Value.int .i64) (rng.wrap (by simp only [rng]; omega)))) ?_
  refine RL.reslice (s := sB) (xs := x.data ++ [77]) rfl rfl rfl rfl sl22 rfl rfl hyB (by omega) (by omega) ?_
  rintro a92 hI92
  refine RL.field rfl rfl rfl rfl fl24_3 rfl rfl ?_
  refine RL.loadT (j := 3) rfl rfl rfl rfl ty22 rfl (hH) (fun w h => h.mem (r := B) (by simp)) rfl ?_
  refine RL.len rfl rfl rfl rfl sl22 rfl ?_
  refine RL.idx rfl rfl rfl rfl sl22 rfl rfl (hI92) ((by omega)) ((by simp only [List.length_append, List.length_singleton]; omega)) ?_
  rintro q3 vs3 hvl3 hH3 ⟨rfl, hr9⟩
  refine RL.loadT (j := 0) rfl rfl rfl rfl ty5 rfl (hH3) (fun w h => h.sh) rfl ?_
  refine RL.as_ rfl rfl rfl rfl (.bool true) ((congrArg Value.bool (by simp))) ?_
  refine RL.pure rfl rfl rfl rfl ?_
  refine RL.pure rfl rfl rfl rfl ?_
  refine RL.done ?_
  exact CW.ret (ret (vs := [_]) ⟨_, _, rfl, rfl, rfl⟩ (Post.mk (hle05.trans hle5B) hg17.drew.dropNext.dropNext.dropNext (hx17.trans (Aux.drew _)) rfl))
end Go.Lw
