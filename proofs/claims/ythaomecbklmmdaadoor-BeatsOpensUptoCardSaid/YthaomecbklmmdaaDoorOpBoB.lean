/-
  Beats: a full message is read, by the program.
-/
import Derived.Test.YthaomecbklmmdaaDoorOpBoA
namespace Go.Lw
open Go.Proofs
attribute [local irreducible] RL RA

theorem COut.cells {s : Res} {v : Value} {x : Conf} (h : COut s v x) : ∃ a c b d, v = .agg #[.slice a x.voters.length c, .slice b x.learners.length d] ∧ Imm (RInt .i64) 1 s a c x.voters ∧ Imm (RInt .i64) 1 s b d x.learners := by
  obtain ⟨vs, rfl, a, c, b, d, rfl, h1, h2⟩ := h
  exact ⟨a, c, b, d, rfl, h1, h2⟩
theorem rdEs_len (bs : List Int) : ∀ (n : Nat) (st : RS) (xs : List Entry), (rdEs bs n st xs).1.length = xs.length + n
  | 0, _, _ => by simp [rdEs]
  | n + 1, st, xs => by rw [rdEs, rdEs_len bs n]; simp; omega
theorem rdCount_le {bs : List Int} {st : RS} {most : Int} (hm : 0 ≤ most) : 0 ≤ (rdCount bs st most).1 ∧ (rdCount bs st most).1 ≤ most := rdCount_rng bs st most hm
theorem rdBytes_len (bs : List Int) (st : RS) (most : Int) : (rdBytes bs st most).1.length ≤ bs.length := by
  unfold rdBytes
  split
  · simp
  · simp only [List.length_take, List.length_drop]; omega
theorem rdIs_len (bs : List Int) : ∀ (n : Nat) (st : RS) (xs : List Int), (rdIs bs n st xs).1.length ≤ xs.length + n
  | 0, _, _ => by simp [rdIs]
  | n + 1, st, xs => by
    unfold rdIs
    split
    · have := rdIs_len bs n (rdInt bs st).2 (xs ++ [(rdInt bs st).1])
      simp only [List.length_append, List.length_singleton] at this; omega
    · simp
theorem rdInts_len (bs : List Int) (st : RS) : (rdInts bs st).1.length ≤ 7 := by
  have h := rdCount_rng bs st 7 (by decide)
  have h2 := rdIs_len bs (rdCount bs st 7).1.toNat (rdCount bs st 7).2 []
  simp only [List.length_nil, Nat.zero_add] at h2
  unfold rdInts
  dsimp only
  split
  · omega
  · simp
theorem rdConf_len (bs : List Int) (st : RS) : (rdConf bs st).1.voters.length ≤ 7 ∧ (rdConf bs st).1.learners.length ≤ 7 := by
  have h1 := rdInts_len bs st
  have h2 := rdInts_len bs (rdInts bs st).2
  unfold rdConf
  dsimp only
  split
  · exact ⟨h1, h2⟩
  · exact ⟨by simp, by simp⟩

set_option maxHeartbeats 2000000 in
set_option maxRecDepth 100000 in
theorem full_ct {w : World} {s A : Res} {os : List Res} {p : Nat} {bs : List Int} {st : RS} (hg : Good w s (A :: os)) (hR : RdObj s A p bs st) (hl : bs.length ≤ 35184372088832) :
    Calls Tryd.prog 15 #[ptr p] w (Post w s os fun s' A' r => SOut (RWireF s) s' r (rdFull bs st).1 ∧ RdObj s' A' p bs (rdFull bs st).2) := by
  have hone := REntry.one
  rcases e0 : rdUint bs st with ⟨g, st0⟩
  rcases e1 : rdInt bs st0 with ⟨k, st1⟩
  rcases e2 : rdUint bs st1 with ⟨t, st2⟩
  rcases e3 : rdUint bs st2 with ⟨i, st3⟩
  rcases e4 : rdUint bs st3 with ⟨lt, st4⟩
  rcases e5 : rdCount bs st4 8 with ⟨n, st5⟩
  rcases e6 : rdEs bs n.toNat st5 [] with ⟨es, st6⟩
  rcases e7 : rdUint bs st6 with ⟨cm, st7⟩
  rcases e8 : rdBool bs st7 with ⟨rj, st8⟩
  rcases e9 : rdUint bs st8 with ⟨hi, st9⟩
  rcases e10 : rdConf bs st9 with ⟨cf, st10⟩
  rcases e11 : rdBytes bs st10 262144 with ⟨da, st11⟩
  rcases e12 : rdBool bs st11 with ⟨dn, st12⟩
  have hrd : rdFull0 bs st = (⟨g, mkMsg k t i lt es cm rj hi cf da dn⟩, st12) := by simp only [rdFull0, e0, e1, e2, e3, e4, e5, e6, e7, e8, e9, e10, e11, e12]
  have hn := rdCount_le (bs := bs) (st := st4) (most := 8) (by decide)
  rw [e5] at hn
  simp only at hn
  have hel := rdEs_len bs n.toNat st5 []
  rw [e6] at hel
  simp only [List.length_nil, Nat.zero_add] at hel
  rw [rdFull, hrd]
  simp only
  refine enter (l := [ptr p]) Tryd.func15 rfl Tryd.ntmps15 rfl ?_
  refine CW.seq (CW.plain ?_)
  refine RL.alloc rfl rfl rfl rfl ze44 hg ?_
  rintro b2 w1 hg1 hax1
  refine ⟨trivial, ?_⟩
  refine RL.done ?_
  have hg1 := hg1.swap
  refine CW.seq (CW.plain ?_)
  refine RL.pure rfl rfl rfl rfl ?_
  refine RL.call rfl rfl rfl rfl rfl ca36 ((by have hh := RdUint_ct hg1 hR; rw [e0] at hh; exact hh)) ?_
  rintro v2 s2 A2 w2 hle2 hg2 hax2 ⟨rfl, hr2, hA2⟩
  refine ⟨trivial, ?_⟩
  refine RL.build rfl rfl rfl rfl ze44 pl44 rfl rfl ?_
  refine RL.alloc rfl rfl rfl rfl ze44 hg2 ?_
  rintro b3 w3 hg3 hax3
  refine ⟨trivial, ?_⟩
  refine RL.store (i := 0) (j := 0) rfl rfl rfl ty44 rfl rfl hg3 rfl (if_pos rfl) rfl (by first | (simp [Value.cells, Value.oneCell']; done) | simp [Value.cells, Value.oneCell', putL]) (by first | exact Nat.le_of_ble_eq_true rfl | (simp; done) | (simp; omega) | omega) ?_
  rintro w4 hg4 hax4
  refine ⟨trivial, ?_⟩
  refine RL.done ?_
  obtain ⟨T4, hg4, hT4⟩ : ∃ T, Good w4 s2 (A2 :: T :: Res.one b2 (.cells (wv 0 0 0 0 0 0 0 nilSl 0 false 0 nilSl nilSl nilSl false).toArray 44) :: os) ∧ T b3 = some (.cells (wv g 0 0 0 0 0 0 nilSl 0 false 0 nilSl nilSl nilSl false).toArray 44 (0, 0)) := ⟨_, hg4.swap, put_same _ _ _⟩
  have hx4 := hax1.trans (hax2.trans (hax3.trans hax4))
  refine CW.seq (CW.plain ?_)
  refine RL.field rfl rfl rfl rfl fl44_1 rfl rfl ?_
  refine RL.pure rfl rfl rfl rfl ?_
  refine RL.done ?_
  refine CW.seq (CW.plain ?_)
  refine RL.pure rfl rfl rfl rfl ?_
  refine RL.pure rfl rfl rfl rfl ?_
  refine RL.call rfl rfl rfl rfl rfl ca37 ((by have hh := RdInt_ct hg4 hA2; rw [e1] at hh; exact hh)) ?_
  rintro v5 s5 A5 w5 hle5 hg5 hax5 ⟨rfl, hr5, hA5⟩
  refine ⟨trivial, ?_⟩
  refine RL.pure rfl rfl rfl rfl ?_
  refine RL.field rfl rfl rfl rfl fl42_0 rfl rfl ?_
  refine RL.store (i := 1) (j := 1) rfl rfl rfl ty35 rfl rfl hg5 rfl (hT4) rfl (by first | (simp [Value.cells, Value.oneCell']; done) | simp [Value.cells, Value.oneCell', putL]) (by first | exact Nat.le_of_ble_eq_true rfl | (simp; done) | (simp; omega) | omega) ?_
  rintro w6 hg6 hax6
  refine ⟨trivial, ?_⟩
  refine RL.done ?_
  refine CW.seq (CW.plain ?_)
  refine RL.pure rfl rfl rfl rfl ?_
  refine RL.pure rfl rfl rfl rfl ?_
  refine RL.pure rfl rfl rfl rfl ?_
  refine RL.pure rfl rfl rfl rfl ?_
  refine RL.call rfl rfl rfl rfl rfl ca36 ((by have hh := RdUint_ct hg6 hA5; rw [e2] at hh; exact hh)) ?_
  rintro v7 s7 A7 w7 hle7 hg7 hax7 ⟨rfl, hr7, hA7⟩
  refine ⟨trivial, ?_⟩
  refine RL.pure rfl rfl rfl rfl ?_
  refine RL.call rfl rfl rfl rfl rfl ca36 ((by have hh := RdUint_ct hg7 hA7; rw [e3] at hh; exact hh)) ?_
  rintro v8 s8 A8 w8 hle8 hg8 hax8 ⟨rfl, hr8, hA8⟩
  refine ⟨trivial, ?_⟩
  refine RL.pure rfl rfl rfl rfl ?_
  refine RL.call rfl rfl rfl rfl rfl ca36 ((by have hh := RdUint_ct hg8 hA8; rw [e4] at hh; exact hh)) ?_
  rintro v9 s9 A9 w9 hle9 hg9 hax9 ⟨rfl, hr9, hA9⟩
  refine ⟨trivial, ?_⟩
  refine RL.pure rfl rfl rfl rfl ?_
  refine RL.field rfl rfl rfl rfl fl42_3 rfl rfl ?_
  refine RL.store (i := 1) (j := 4) rfl rfl rfl ty36 rfl rfl hg9 rfl (put_same _ _ _) rfl (by first | (simp [Value.cells, Value.oneCell']; done) | simp [Value.cells, Value.oneCell', putL]) (by first | exact Nat.le_of_ble_eq_true rfl | (simp; done) | (simp; omega) | omega) ?_
  rintro w10 hg10 hax10
  refine ⟨trivial, ?_⟩
  refine RL.pure rfl rfl rfl rfl ?_
  refine RL.field rfl rfl rfl rfl fl42_4 rfl rfl ?_
  refine RL.store (i := 1) (j := 5) rfl rfl rfl ty36 rfl rfl hg10 rfl (put_same _ _ _) rfl (by first | (simp [Value.cells, Value.oneCell']; done) | simp [Value.cells, Value.oneCell', putL]) (by first | exact Nat.le_of_ble_eq_true rfl | (simp; done) | (simp; omega) | omega) ?_
  rintro w11 hg11 hax11
  refine ⟨trivial, ?_⟩
  refine RL.pure rfl rfl rfl rfl ?_
  refine RL.field rfl rfl rfl rfl fl42_5 rfl rfl ?_
  refine RL.store (i := 1) (j := 6) rfl rfl rfl ty36 rfl rfl hg11 rfl (put_same _ _ _) rfl (by first | (simp [Value.cells, Value.oneCell']; done) | simp [Value.cells, Value.oneCell', putL]) (by first | exact Nat.le_of_ble_eq_true rfl | (simp; done) | (simp; omega) | omega) ?_
  rintro w12 hg12 hax12
  refine ⟨trivial, ?_⟩
  refine RL.done ?_
  obtain ⟨T12, hgz12, hT12⟩ : ∃ T, Good w12 s9 (A9 :: T :: Res.one b2 (.cells (wv 0 0 0 0 0 0 0 nilSl 0 false 0 nilSl nilSl nilSl false).toArray 44) :: os) ∧ T b3 = some (.cells (wv g k 0 0 t i lt nilSl 0 false 0 nilSl nilSl nilSl false).toArray 44 (0, 0)) := ⟨_, hg12, put_same _ _ _⟩
  have hx12 := hx4.trans (hax5.trans (hax6.trans (hax7.trans (hax8.trans (hax9.trans (hax10.trans (hax11.trans hax12)))))))
  have hl9 := hle2.trans (hle5.trans (hle7.trans (hle8.trans hle9)))
  clear hg1 hg2 hg3 hg4 hg5 hg6 hg7 hg8 hg9 hg10 hg11 hg12
  refine CW.meet (fun E w' => ∃ s' A' T L ea ec, E = [(0, ptr p), (2, ptr b2), (3, ptr b3), (4, at1 b3)] ∧ Good w' s' (A' :: T :: L :: Res.one b2 (.cells (wv 0 0 0 0 0 0 0 nilSl 0 false 0 nilSl nilSl nilSl false).toArray 44) :: os) ∧ Le s9 s' ∧ Aux w w' ∧ RdObj s' A' p bs st6 ∧
      T b3 = some (.cells (wv g k 0 0 t i lt (.slice ea es.length ec) 0 false 0 nilSl nilSl nilSl false).toArray 44 (0, 0)) ∧ Own REntry 6 84 s' L ea ec es) ?_ ?_
  · refine CW.seq (CW.plain ?_)
    refine RL.pure rfl rfl rfl rfl ?_
    refine RL.call rfl rfl rfl rfl rfl ca19 ((by have hh := RdCount_ct (most := 8) hgz12 hA9 (by simp [rng]); rw [e5] at hh; exact hh)) ?_
    rintro v13 s13 A13 w13 hle13 hg13 hax13 ⟨rfl, hA13⟩
    refine ⟨trivial, ?_⟩
    refine RL.pure rfl rfl rfl rfl ?_
    refine RL.done ?_
    have hgL : Good w13 s13 (A13 :: T12 :: Res.nil :: Res.one b2 (.cells (wv 0 0 0 0 0 0 0 nilSl 0 false 0 nilSl nilSl nilSl false).toArray 44) :: os) := (Good.nil hg13).perm (List.Perm.trans (List.Perm.swap _ _ _) ((List.Perm.swap _ _ _).cons A13))
    refine CW.block (CW.loop (σ := Nat) (fun j E w' => ∃ s' A' T L ea ec stc xs, ∃ q : Nat, E = [(0, ptr p), (2, ptr b2), (3, ptr b3), (4, at1 b3), (30, i64 n), (31, i64 q)] ∧ Good w' s' (A' :: T :: L :: Res.one b2 (.cells (wv 0 0 0 0 0 0 0 nilSl 0 false 0 nilSl nilSl nilSl false).toArray 44) :: os) ∧ Le s9 s' ∧ Aux w w' ∧ RdObj s' A' p bs stc ∧
        T b3 = some (.cells (wv g k 0 0 t i lt (.slice ea xs.length ec) 0 false 0 nilSl nilSl nilSl false).toArray 44 (0, 0)) ∧ Own REntry 6 84 s' L ea ec xs ∧ rdEs bs j stc xs = (es, st6) ∧ q + j = n.toNat ∧ xs.length = q)
      (fun j => j) n.toNat [(0, ptr p), (2, ptr b2), (3, ptr b3), (4, at1 b3), (30, i64 n), (31, i64 0)] ⟨rfl, rfl, rfl, rfl, rfl, rfl, trivial⟩ ⟨s13, A13, T12, Res.nil, none, 0, st5, [], 0, rfl, hgL, hle13, hx12.trans hax13, hA13, hT12, .inl ⟨rfl, rfl, rfl⟩, e6, by omega, rfl⟩ ?_)
    clear hg13 hgL hA13
    rintro j E w6 ⟨s6, A6, T6, L6, ea, ec, stc, xs, q, rfl, hg6, hle6, hx6, hA6, hT6, ho6, hrest, hq, hxl⟩
    refine CW.seq (CW.plain ?_)
    refine RL.pure rfl rfl rfl rfl ?_
    refine RL.done ?_
    refine CW.seq (CW.test rfl (fun h => CW.skip ?_) (fun h => CW.exit ?_))
    · have hgD := hg6.drew
      cases j with
      | zero => omega
      | succ j =>
        rw [rdEs] at hrest
        refine CW.seq (CW.block ?_)
        refine CW.forks (.fork [(true, 0), (true, 1), (true, 2), (true, 3), (true, 5)] (.line [(false, 4), (false, 6), (false, 7), (false, 8), (true, 9), (true, 10), (false, 11)]) (.fork [(false, 6)] (.line [(false, 4), (false, 7), (false, 8), (true, 9), (true, 10), (false, 11)]) (.line [(false, 7), (false, 4), (false, 8), (true, 9), (true, 10), (false, 11)]))) (fun w => In s6 w) mixed (by kernel_rfl) (by kernel_rfl) (by kernel_rfl) (by kernel_rfl) (hgD.sh) ?_
        refine RT.pre (S := fun w => In s6 w) (hgD.sh) ?_
        refine RL.pure rfl rfl rfl rfl ?_
        refine RL.pure rfl rfl rfl rfl ?_
        refine RL.pure rfl rfl rfl rfl ?_
        refine RL.field rfl rfl rfl rfl fl42_6 rfl rfl ?_
        refine RL.pure rfl rfl rfl rfl ?_
        refine RL.done ?_
        refine RT.both (S := fun w => In s6 w) (hgD.sh) (RT.end_ (S := fun w => In s6 w) (hgD.sh) ?_) (RT.pre (S := fun w => In s6 w) (hgD.sh) ?_)
        · refine RL.load (j := 7) rfl rfl rfl rfl ty37 rfl (Holds.of hT6) (hgD.mem (by simp)) rfl ?_
          refine RL.call rfl rfl rfl rfl rfl ca38 (RdEntry_ct hgD hA6 (by omega)) ?_
          rintro v9 s9' A9' w9' hle9' hg9' hax9' ⟨⟨vse, rfl, ya, yc, y1, y2, y3, y4, rfl, hre⟩, hA9'⟩
          refine ⟨hg9'.sh.le hle9', ?_⟩
          refine RL.buildSlice rfl rfl rfl rfl sl37 ze84 rfl rfl rfl rfl hg9' ?_
          rintro p40 w40 hg40 hax40
          refine ⟨hg40.sh.le hle9', ?_⟩
          refine RL.append (i := 3) (ys := [(rdEntry bs stc).1]) rfl rfl rfl rfl sl37 ze84 rfl (by first | exact RInt.one _ | exact RStr.one | exact RBool.one | assumption) rfl rfl hg40 rfl (ho6.up REntry.up hle9') ((Src.slice sl37 rfl (.inr ⟨_, rfl, Holds.one p40 _ 84⟩) hg40.1)) ((Chunks.single rfl ⟨ya, yc, y1, y2, y3, y4, rfl, hre⟩)) ((by simp only [List.length_singleton]; omega)) (by omega) ?_
          rintro a41 c41 L41 w41 hg41 ho41 hax41 hk41
          refine ⟨hg41.sh.le hle9', ?_⟩
          refine RL.pure rfl rfl rfl rfl ?_
          refine RL.field rfl rfl rfl rfl fl42_6 rfl rfl ?_
          refine RL.store (i := 2) (j := 7) rfl rfl rfl ty37 rfl rfl hg41 rfl (hT6) rfl (by first | (simp [Value.cells, Value.oneCell']; done) | simp [Value.cells, Value.oneCell', putL]) (by first | exact Nat.le_of_ble_eq_true rfl | (simp; done) | (simp; omega) | omega) ?_
          rintro wS hgS haxS
          refine ⟨hgS.sh.le hle9', ?_⟩
          refine RL.done ?_
          refine CW.plain ?_
          refine RL.add rfl rfl rfl rfl rfl rfl (by simp only [rng] at *; omega) ?_
          refine RL.pure rfl rfl rfl rfl ?_
          refine RL.done ?_
          exact fun ac ha => ⟨j, [(0, ptr p), (2, ptr b2), (3, ptr b3), (4, at1 b3), (30, i64 n), (31, i64 ((q + 1 : Nat) : Int))], ha.sub ⟨rfl, rfl, rfl, rfl, rfl, rfl, trivial⟩, ⟨s9', A9', _, L41, a41, c41, _, _, q + 1, rfl, hgS.drop, hle6.trans hle9', (hx6.trans (Aux.drew _)).trans ((hax9').trans ((hax40).trans ((hax41).trans (haxS)))), hA9', put_same _ _ _, ho41, hrest, by omega, by simp [hxl]⟩, Nat.lt_succ_self j⟩
        · refine RL.call rfl rfl rfl rfl rfl ca38 (RdEntry_ct hgD hA6 (by omega)) ?_
          rintro v9 s9' A9' w9' hle9' hg9' hax9' ⟨⟨vse, rfl, ya, yc, y1, y2, y3, y4, rfl, hre⟩, hA9'⟩
          refine ⟨hg9'.sh.le hle9', ?_⟩
          refine RL.done ?_
          refine RT.both (S := fun w => In s6 w) (hg9'.sh.le hle9') (RT.end_ (S := fun w => In s6 w) (hg9'.sh.le hle9') ?_) (RT.end_ (S := fun w => In s6 w) (hg9'.sh.le hle9') ?_)
          · refine RL.load (j := 7) rfl rfl rfl rfl ty37 rfl (Holds.of hT6) (hg9'.mem (by simp)) rfl ?_
            refine RL.buildSlice rfl rfl rfl rfl sl37 ze84 rfl rfl rfl rfl hg9' ?_
            rintro p40 w40 hg40 hax40
            refine ⟨hg40.sh.le hle9', ?_⟩
            refine RL.append (i := 3) (ys := [(rdEntry bs stc).1]) rfl rfl rfl rfl sl37 ze84 rfl (by first | exact RInt.one _ | exact RStr.one | exact RBool.one | assumption) rfl rfl hg40 rfl (ho6.up REntry.up hle9') ((Src.slice sl37 rfl (.inr ⟨_, rfl, Holds.one p40 _ 84⟩) hg40.1)) ((Chunks.single rfl ⟨ya, yc, y1, y2, y3, y4, rfl, hre⟩)) ((by simp only [List.length_singleton]; omega)) (by omega) ?_
            rintro a41 c41 L41 w41 hg41 ho41 hax41 hk41
            refine ⟨hg41.sh.le hle9', ?_⟩
            refine RL.pure rfl rfl rfl rfl ?_
            refine RL.field rfl rfl rfl rfl fl42_6 rfl rfl ?_
            refine RL.store (i := 2) (j := 7) rfl rfl rfl ty37 rfl rfl hg41 rfl (hT6) rfl (by first | (simp [Value.cells, Value.oneCell']; done) | simp [Value.cells, Value.oneCell', putL]) (by first | exact Nat.le_of_ble_eq_true rfl | (simp; done) | (simp; omega) | omega) ?_
            rintro wS hgS haxS
            refine ⟨hgS.sh.le hle9', ?_⟩
            refine RL.done ?_
            refine CW.plain ?_
            refine RL.add rfl rfl rfl rfl rfl rfl (by simp only [rng] at *; omega) ?_
            refine RL.pure rfl rfl rfl rfl ?_
            refine RL.done ?_
            exact fun ac ha => ⟨j, [(0, ptr p), (2, ptr b2), (3, ptr b3), (4, at1 b3), (30, i64 n), (31, i64 ((q + 1 : Nat) : Int))], ha.sub ⟨rfl, rfl, rfl, rfl, rfl, rfl, trivial⟩, ⟨s9', A9', _, L41, a41, c41, _, _, q + 1, rfl, hgS.drop, hle6.trans hle9', (hx6.trans (Aux.drew _)).trans ((hax9').trans ((hax40).trans ((hax41).trans (haxS)))), hA9', put_same _ _ _, ho41, hrest, by omega, by simp [hxl]⟩, Nat.lt_succ_self j⟩
          · refine RL.buildSlice rfl rfl rfl rfl sl37 ze84 rfl rfl rfl rfl hg9' ?_
            rintro p40 w40 hg40 hax40
            refine ⟨hg40.sh.le hle9', ?_⟩
            refine RL.load (j := 7) rfl rfl rfl rfl ty37 rfl (Holds.of hT6) (hg40.mem (by simp)) rfl ?_
            refine RL.append (i := 3) (ys := [(rdEntry bs stc).1]) rfl rfl rfl rfl sl37 ze84 rfl (by first | exact RInt.one _ | exact RStr.one | exact RBool.one | assumption) rfl rfl hg40 rfl (ho6.up REntry.up hle9') ((Src.slice sl37 rfl (.inr ⟨_, rfl, Holds.one p40 _ 84⟩) hg40.1)) ((Chunks.single rfl ⟨ya, yc, y1, y2, y3, y4, rfl, hre⟩)) ((by simp only [List.length_singleton]; omega)) (by omega) ?_
            rintro a41 c41 L41 w41 hg41 ho41 hax41 hk41
            refine ⟨hg41.sh.le hle9', ?_⟩
            refine RL.pure rfl rfl rfl rfl ?_
            refine RL.field rfl rfl rfl rfl fl42_6 rfl rfl ?_
            refine RL.store (i := 2) (j := 7) rfl rfl rfl ty37 rfl rfl hg41 rfl (hT6) rfl (by first | (simp [Value.cells, Value.oneCell']; done) | simp [Value.cells, Value.oneCell', putL]) (by first | exact Nat.le_of_ble_eq_true rfl | (simp; done) | (simp; omega) | omega) ?_
            rintro wS hgS haxS
            refine ⟨hgS.sh.le hle9', ?_⟩
            refine RL.done ?_
            refine CW.plain ?_
            refine RL.add rfl rfl rfl rfl rfl rfl (by simp only [rng] at *; omega) ?_
            refine RL.pure rfl rfl rfl rfl ?_
            refine RL.done ?_
            exact fun ac ha => ⟨j, [(0, ptr p), (2, ptr b2), (3, ptr b3), (4, at1 b3), (30, i64 n), (31, i64 ((q + 1 : Nat) : Int))], ha.sub ⟨rfl, rfl, rfl, rfl, rfl, rfl, trivial⟩, ⟨s9', A9', _, L41, a41, c41, _, _, q + 1, rfl, hgS.drop, hle6.trans hle9', (hx6.trans (Aux.drew _)).trans ((hax9').trans ((hax40).trans ((hax41).trans (haxS)))), hA9', put_same _ _ _, ho41, hrest, by omega, by simp [hxl]⟩, Nat.lt_succ_self j⟩
    · have hj : j = 0 := by omega
      subst hj
      obtain ⟨rfl, rfl⟩ := Prod.mk.inj (show (xs, stc) = (es, st6) from hrest)
      exact fun ac ha => ⟨[(0, ptr p), (2, ptr b2), (3, ptr b3), (4, at1 b3)], ha.sub ⟨rfl, rfl, rfl, rfl, trivial⟩, s6, A6, T6, L6, ea, ec, rfl, hg6, hle6, hx6, hA6, hT6, ho6⟩
  rintro E w13 ⟨s13, A13, T13, L13, ea, ec, rfl, hgq, hl13, hx13, hA13, hT13, ho13⟩
  obtain ⟨s14, hg14, hle14, hq14⟩ := Good.letgo (hgq.front 2 rfl)
  have ies := ho13.imm REntry.up hle14 hq14
  have hA14 := hA13.up hle14
  have hg14 : Good w13 s14 (A13 :: T13 :: Res.one b2 (.cells (wv 0 0 0 0 0 0 0 nilSl 0 false 0 nilSl nilSl nilSl false).toArray 44) :: os) := hg14
  have hl14 := hl9.trans (hl13.trans hle14)
  refine CW.seq (CW.plain ?_)
  refine RL.pure rfl rfl rfl rfl ?_
  refine RL.pure rfl rfl rfl rfl ?_
  refine RL.pure rfl rfl rfl rfl ?_
  refine RL.pure rfl rfl rfl rfl ?_
  refine RL.call rfl rfl rfl rfl rfl ca36 ((by have hh := RdUint_ct hg14 hA14; rw [e7] at hh; exact hh)) ?_
  rintro v15 s15 A15 w15 hle15 hg15 hax15 ⟨rfl, hr15, hA15⟩
  refine ⟨trivial, ?_⟩
  refine RL.pure rfl rfl rfl rfl ?_
  refine RL.call rfl rfl rfl rfl rfl ca39 ((by have hh := RdBool_ct hg15 hA15; rw [e8] at hh; exact hh)) ?_
  rintro v16 s16 A16 w16 hle16 hg16 hax16 ⟨rfl, hA16⟩
  refine ⟨trivial, ?_⟩
  refine RL.pure rfl rfl rfl rfl ?_
  refine RL.call rfl rfl rfl rfl rfl ca36 ((by have hh := RdUint_ct hg16 hA16; rw [e9] at hh; exact hh)) ?_
  rintro v17 s17 A17 w17 hle17 hg17 hax17 ⟨rfl, hr17, hA17⟩
  refine ⟨trivial, ?_⟩
  refine RL.pure rfl rfl rfl rfl ?_
  refine RL.field rfl rfl rfl rfl fl42_7 rfl rfl ?_
  refine RL.store (i := 1) (j := 8) rfl rfl rfl ty36 rfl rfl hg17 rfl (hT13) rfl (by first | (simp [Value.cells, Value.oneCell']; done) | simp [Value.cells, Value.oneCell', putL]) (by first | exact Nat.le_of_ble_eq_true rfl | (simp; done) | (simp; omega) | omega) ?_
  rintro w18 hg18 hax18
  refine ⟨trivial, ?_⟩
  refine RL.pure rfl rfl rfl rfl ?_
  refine RL.field rfl rfl rfl rfl fl42_8 rfl rfl ?_
  refine RL.store (i := 1) (j := 9) rfl rfl rfl ty4 rfl rfl hg18 rfl (put_same _ _ _) rfl (by first | (simp [Value.cells, Value.oneCell']; done) | simp [Value.cells, Value.oneCell', putL]) (by first | exact Nat.le_of_ble_eq_true rfl | (simp; done) | (simp; omega) | omega) ?_
  rintro w19 hg19 hax19
  refine ⟨trivial, ?_⟩
  refine RL.pure rfl rfl rfl rfl ?_
  refine RL.field rfl rfl rfl rfl fl42_9 rfl rfl ?_
  refine RL.store (i := 1) (j := 10) rfl rfl rfl ty36 rfl rfl hg19 rfl (put_same _ _ _) rfl (by first | (simp [Value.cells, Value.oneCell']; done) | simp [Value.cells, Value.oneCell', putL]) (by first | exact Nat.le_of_ble_eq_true rfl | (simp; done) | (simp; omega) | omega) ?_
  rintro w20 hg20 hax20
  refine ⟨trivial, ?_⟩
  refine RL.done ?_
  obtain ⟨T20, hgz20, hT20⟩ : ∃ T, Good w20 s17 (A17 :: T :: Res.one b2 (.cells (wv 0 0 0 0 0 0 0 nilSl 0 false 0 nilSl nilSl nilSl false).toArray 44) :: os) ∧ T b3 = some (.cells (wv g k 0 0 t i lt (.slice ea es.length ec) cm rj hi nilSl nilSl nilSl false).toArray 44 (0, 0)) := ⟨_, hg20, put_same _ _ _⟩
  have hx20 := hx13.trans (hax15.trans (hax16.trans (hax17.trans (hax18.trans (hax19.trans hax20)))))
  have hl17 := hl14.trans (hle15.trans (hle16.trans hle17))
  have hle1417 := hle15.trans (hle16.trans hle17)
  clear hg14 hg15 hg16 hg17 hg18 hg19 hg20
  refine CW.seq (CW.plain ?_)
  refine RL.pure rfl rfl rfl rfl ?_
  refine RL.pure rfl rfl rfl rfl ?_
  refine RL.pure rfl rfl rfl rfl ?_
  refine RL.pure rfl rfl rfl rfl ?_
  refine RL.call rfl rfl rfl rfl rfl ca40 ((by have hh := RdConf_ct hgz20 hA17; rw [e10] at hh; exact hh)) ?_
  rintro v21 s21 A21 w21 hle21 hg21 hax21 ⟨⟨vs21, rfl, va, vc, la, lc, rfl, i21, j21⟩, hA21⟩
  refine ⟨trivial, ?_⟩
  refine RL.pure rfl rfl rfl rfl ?_
  refine RL.callG rfl rfl rfl rfl rfl ca41 ((by have hh := RdBytes_ct (most := 262144) hg21 hA21 (by simp [rng]) (by omega); rw [e11] at hh; exact hh)) ?_
  rintro e22 w22 ⟨v22, s22, B22, A22, rfl, hle22, hg22, hax22, ⟨dda, ddc, rfl, hB22⟩, hA22⟩
  refine ⟨_, rfl, trivial, ?_⟩
  refine RL.pure rfl rfl rfl rfl ?_
  obtain ⟨s23, hg23, hle23, hq23⟩ := Good.letgo hg22
  have ida := hB22.imm (RInt.up _) hle23 hq23
  have hfr := hB22.newRow hg22 (hl17.trans (hle21.trans hle22)) hq23
  refine RL.call rfl rfl rfl rfl rfl ca39 ((by have hh := RdBool_ct hg23 (hA22.up hle23); rw [e12] at hh; exact hh)) ?_
  rintro v24 s24 A24 w24 hle24 hg24 hax24 ⟨rfl, hA24⟩
  refine ⟨trivial, ?_⟩
  refine RL.pure rfl rfl rfl rfl ?_
  refine RL.field rfl rfl rfl rfl fl42_10 rfl rfl ?_
  refine RL.store (i := 1) (j := 11) rfl rfl rfl ty40 rfl rfl hg24 rfl (hT20) rfl (by first | (simp [Value.cells, Value.oneCell']; done) | simp [Value.cells, Value.oneCell', putL]) (by first | exact Nat.le_of_ble_eq_true rfl | (simp; done) | (simp; omega) | omega) ?_
  rintro w25 hg25 hax25
  refine ⟨trivial, ?_⟩
  refine RL.pure rfl rfl rfl rfl ?_
  refine RL.field rfl rfl rfl rfl fl42_11 rfl rfl ?_
  refine RL.store (i := 1) (j := 13) rfl rfl rfl ty22 rfl rfl hg25 rfl (put_same _ _ _) rfl (by first | (simp [Value.cells, Value.oneCell']; done) | simp [Value.cells, Value.oneCell', putL]) (by first | exact Nat.le_of_ble_eq_true rfl | (simp; done) | (simp; omega) | omega) ?_
  rintro w26 hg26 hax26
  refine ⟨trivial, ?_⟩
  refine RL.pure rfl rfl rfl rfl ?_
  refine RL.field rfl rfl rfl rfl fl42_12 rfl rfl ?_
  refine RL.store (i := 1) (j := 14) rfl rfl rfl ty4 rfl rfl hg26 rfl (put_same _ _ _) rfl (by first | (simp [Value.cells, Value.oneCell']; done) | simp [Value.cells, Value.oneCell', putL]) (by first | exact Nat.le_of_ble_eq_true rfl | (simp; done) | (simp; omega) | omega) ?_
  rintro w27 hg27 hax27
  refine ⟨trivial, ?_⟩
  refine RL.done ?_
  obtain ⟨y, hy⟩ : ∃ y : Lay, y = ⟨ea, ec, va, vc, la, lc, dda, ddc⟩ := ⟨_, rfl⟩
  obtain ⟨X, hX⟩ : ∃ X : Wire, X = ⟨g, mkMsg k t i lt es cm rj hi cf da dn⟩ := ⟨_, rfl⟩
  obtain ⟨T27, hgz27, hT27⟩ : ∃ T, Good w27 s24 (A24 :: T :: Res.one b2 (.cells (wv 0 0 0 0 0 0 0 nilSl 0 false 0 nilSl nilSl nilSl false).toArray 44) :: os) ∧ T b3 = some (.cells (wireV X y).toArray 44 (0, 0)) := by
    subst hy; subst hX; exact ⟨_, hg27, put_same _ _ _⟩
  have hx27 := hx20.trans (hax21.trans (hax22.trans (hax24.trans (hax25.trans (hax26.trans hax27)))))
  have hle1724 := hle21.trans (hle22.trans (hle23.trans hle24))
  have hl24 := hl17.trans hle1724
  have hok : MsgOk s24 X.msg y := by
    subst hy; subst hX
    exact ⟨hr5, by simp [rng, mkMsg], by simp [rng, mkMsg], hr7, hr8, hr9, hr15, hr17, (ies.up REntry.up hle1417).up REntry.up hle1724, i21.up (RInt.up _) (hle22.trans (hle23.trans hle24)), j21.up (RInt.up _) (hle22.trans (hle23.trans hle24)), ida.up (RInt.up _) hle24⟩
  have hW : RWireF s s24 (wireV X y) X := ⟨y, rfl, by subst hX; exact hr2, hok, by subst hy; subst hX; exact hfr.up hle24⟩
  have hfit : X.msg.fits := by
    have h1 := rdBytes_len bs st10 262144
    rw [e11] at h1
    have h2 := rdConf_len bs st9
    rw [e10] at h2
    simp only at h1 h2
    subst hX
    simp only [Msg.fits, Msg.lens, mkMsg]; omega
  have hxx : (⟨g, mkMsg k t i lt es cm rj hi cf da dn⟩ : Wire) = X := hX.symm
  rw [hxx]
  rw [show mkMsg k t i lt es cm rj hi cf da dn = X.msg from by rw [hX]]
  refine CW.less (E' := [(0, ptr p), (2, ptr b2), (3, ptr b3), (4, at1 b3)]) ⟨rfl, rfl, rfl, rfl, trivial⟩ ?_
  clear hg21 hg22 hg23 hg24 hg25 hg26 hg27
  refine CW.meet (fun E w' => ∃ s' A', E = [(2, ptr b2), (3, ptr b3)] ∧ Good w' s' (A' :: T27 :: Res.one b2 (.cells (wv 0 0 0 0 0 0 0 nilSl 0 false 0 nilSl nilSl nilSl false).toArray 44) :: os) ∧ Le s24 s' ∧ Aux w w' ∧ RdObj s' A' p bs (if oddP X.msg = true then st12.fail 111 else st12)) ?_ ?_
  · refine CW.seq (CW.plain ?_)
    refine RL.pure rfl rfl rfl rfl ?_
    refine RL.pure rfl rfl rfl rfl ?_
    refine RL.loads (j := 1) (us := (msgV X.msg y)) rfl rfl rfl rfl ty42 rfl (Holds.of hT27) (hgz27.2.2.2.1) rfl rfl ?_
    refine RL.callV rfl rfl rfl rfl rfl ca32 (Is_ct hgz27 ⟨y, rfl, hok⟩ hfit) ?_
    rintro v28 w28 hg28 hax28 rfl
    refine ⟨trivial, ?_⟩
    refine RL.pure rfl rfl rfl rfl ?_
    refine RL.part 79 rfl (fun h79 => ?_) (fun h79 => ?_)
    · refine RL.pass rfl rfl rfl ?_
      refine RL.pass rfl rfl rfl ?_
      refine RL.pass rfl rfl rfl ?_
      refine RL.pass rfl rfl rfl ?_
      refine RL.pass rfl rfl rfl ?_
      refine RL.pass rfl rfl rfl ?_
      refine RL.pure rfl rfl rfl rfl ?_
      refine RL.done ?_
      refine CW.yes rfl (CW.plain ?_)
      refine RL.pure rfl rfl rfl rfl ?_
      refine RL.call rfl rfl rfl rfl rfl ca20 (Fail_ct (e := 111) hg28 hA24 (by simp [rng])) ?_
      rintro v30 s30 A30 w30 hle30 hg30 hax30 ⟨_, hA30⟩
      refine ⟨trivial, ?_⟩
      refine RL.done ?_
      rw [if_pos (by simp [oddP, h79])]
      exact fun ac ha => ⟨[(2, ptr b2), (3, ptr b3)], ha.sub ⟨rfl, rfl, trivial⟩, s30, A30, rfl, hg30, hle30, hx27.trans (hax28.trans hax30), hA30⟩
    · refine RL.pure rfl rfl rfl rfl ?_
      refine RL.pure rfl rfl rfl rfl ?_
      refine RL.field rfl rfl rfl rfl fl42_0 rfl rfl ?_
      refine RL.load (j := 1) rfl rfl rfl rfl ty35 rfl (Holds.of hT27) (hg28.2.2.2.1) rfl ?_
      refine RL.callV rfl rfl rfl rfl rfl ca30 (bKnown_ct hg28) ?_
      rintro v29 w29 hg29 hax29 rfl
      refine ⟨trivial, ?_⟩
      refine RL.pure rfl rfl rfl rfl ?_
      refine RL.pure rfl rfl rfl rfl ?_
      refine RL.done ?_
      refine CW.cond rfl (fun hh => CW.plain ?_) (fun hh => CW.skip ?_)
      · skip
        refine RL.pure rfl rfl rfl rfl ?_
        refine RL.call rfl rfl rfl rfl rfl ca20 (Fail_ct (e := 111) hg29 hA24 (by simp [rng])) ?_
        rintro v30 s30 A30 w30 hle30 hg30 hax30 ⟨_, hA30⟩
        refine ⟨trivial, ?_⟩
        refine RL.done ?_
        rw [if_pos (by simp only [oddP]; rw [h79]; exact hh)]
        exact fun ac ha => ⟨[(2, ptr b2), (3, ptr b3)], ha.sub ⟨rfl, rfl, trivial⟩, s30, A30, rfl, hg30, hle30, hx27.trans (hax28.trans (hax29.trans hax30)), hA30⟩
      · rw [if_neg (by simp only [oddP]; rw [h79, show (!known9 X.msg.kind) = false from hh]; decide)]
        exact fun ac ha => ⟨[(2, ptr b2), (3, ptr b3)], ha.sub ⟨rfl, rfl, trivial⟩, s24, A24, rfl, hg29, Le.refl _, hx27.trans (hax28.trans hax29), hA24⟩
  rintro E w31 ⟨s31, A31, rfl, hg31, hle31, hx31, hA31⟩
  refine CW.seq (CW.plain ?_)
  refine RL.loads (j := 0) (us := (wireV X y)) rfl rfl rfl rfl ty44 rfl (Holds.of hT27) (hg31.2.2.2.1) rfl rfl ?_
  refine RL.store (i := 2) (j := 0) rfl rfl rfl ty44 rfl rfl hg31 rfl (if_pos rfl) rfl (by first | (simp [Value.cells, Value.oneCell']; done) | simp [Value.cells, Value.oneCell', putL]) (by first | exact Nat.le_of_ble_eq_true rfl | (simp; done) | (simp; omega) | omega) ?_
  rintro w32 hg32 hax32
  refine ⟨trivial, ?_⟩
  refine RL.done ?_
  exact CW.ret (ret (vs := [_]) ⟨_, _, _, rfl, rfl, loadVar_agg ty44 (put_same _ _ _) hg32.2.2.2.2.2.2.1 rfl, rfl⟩ (Post.mk (hl24.trans hle31) hg32.dropNext.dropNext (hx31.trans hax32) ⟨⟨_, rfl, RWireF.up _ _ _ _ _ hle31 hW⟩, hA31⟩))
end Go.Lw
