/-
  The law CodecReads, walked: one step.
-/
import Derived.Test.YtcbifehmmfjioaaDoorNmsCodecRq
import Derived.Laws.StructEq
namespace Go.Lw
open Go.Proofs
attribute [local irreducible] RL RA

theorem Good.back3 {w : World} {s X A V : Res} {os : List Res} (h : Good w s (X :: A :: V :: os)) : Good w s (A :: V :: X :: os) :=
  h.perm ((List.Perm.swap A X _).trans ((List.Perm.swap V X _).cons A))
theorem Good.drop3 {w : World} {s X A V : Res} {os : List Res} (h : Good w s (A :: V :: X :: os)) : Good w s (A :: V :: os) :=
  (h.perm (List.perm_middle (l₁ := [A, V]))).drop

theorem range_eq (x : Range) (w : World) : (binOp .eql 39 (.agg #[.string x.lo, .string x.hi]) (.agg #[.string x.lo, .string x.hi])).run Tryd.prog w = .ok (.bool true) w := by
  have u1 := Tryd.underlying9
  have a1 := Tryd.isAgg9
  have z1 := Tryd.sizeOf9
  have hS : Tryd.prog.underlying 39 = some (.struct (Tryd.prog.fieldsOf 39)) := by kernel_rfl
  have hp : Tryd.prog.stoodInHeld 39 = false := by kernel_rfl
  rw [run_eql_struct, show (10000 : Nat) = 9999 + 1 from rfl, run_equalIn_agg w 9999 39 _ _ hS hp]
  simp only [Program.fieldsOf, Tryd.underlying39]
  go_simp
section
variable {P : Program} {n : Nat} {ops : Array Oper} {Q : Exit → Act → World → Prop} {S : World → Prop} {rest : List (Bool × Oper)} {E : Env} {w : World} {o : Oper} {d : Nat} {v : Value} {x y : Operand} {T : Bool}
theorem RL.stEq {t yt : TypeId} {us vs : Array Value} (hg : wants ops E o = some true) (hd : o.dst = some d) (hb : Nat.blt d n = true) (ho : o.op = .binOp .eql t x y yt) (hm : P.eqGuardType P.depth t = false)
    (hx : ev E x = some (.agg us)) (hy : ev E y = some (.agg vs)) (hr : ∀ w, (binOp .eql t (.agg us) (.agg vs)).run P w = .ok v w) (h : RL P n ops Q S rest ((d, v) :: E) w) : RL P n ops Q S ((T, o) :: rest) E w := by
  refine RL.val hg hd hb (fun w ac ha => ?_) h
  unfold execOp
  simp only [ho, ha.ev hx, ha.ev hy, Sem.run_bind, run_eqGuard_agg _ _ _ _ _ _ _ hm, Result.andThen_ok]
  simp [hr w]
end

structure Step where
  kind : Int
  most : Int
def RStep : Res → List Value → Step → Prop := fun _ vs x => vs = [.int .i64 x.kind, .int .i64 x.most] ∧ rng .i64 x.kind ∧ rng .i64 x.most
theorem RStep.up : Up RStep := fun _ _ _ _ _ h => h


set_option maxRecDepth 100000 in
theorem reads_ct {w : World} {s A V : Res} {os : List Res} {p q : Nat} {bs : List Int} {st : RS} {x : Step} (hg : Good w s (A :: V :: os)) (hR : RdObj s A p bs st) (hV : RrObj s V q bs st) (_hk : rng .i64 x.kind) (hm : rng .i64 x.most) (hl : bs.length ≤ 140737488355328) :
    Calls Tryd.prog 24 #[ptr p, ptr q, .agg #[.int .i64 x.kind, .int .i64 x.most]] w (Post2 w s os fun s' B A' r => r = .bool true ∧ ∃ st', RrObj s' B q bs st' ∧ RdObj s' A' p bs st') := by
  refine enter (l := [ptr p, ptr q, .agg #[.int .i64 x.kind, .int .i64 x.most]]) Tryd.func24 rfl Tryd.ntmps24 rfl ?_
  refine CW.seq (CW.plain ?_)
  refine RL.box rfl rfl rfl rfl rfl hg ?_
  rintro bx w0 hg0 hax0
  refine ⟨trivial, ?_⟩
  refine RL.pure rfl rfl rfl rfl ?_
  refine RL.done ?_
  have hg0 := hg0.back3
  have hX : Holds (Res.one bx (.cells (Value.agg #[.int .i64 x.kind, .int .i64 x.most]).cells 68)) ⟨bx, 0, none⟩ [.int .i64 x.kind, .int .i64 x.most] := Holds.one bx _ _
  obtain ⟨X, hXe⟩ : ∃ X, X = Res.one bx (.cells (Value.agg #[.int .i64 x.kind, .int .i64 x.most]).cells 68) := ⟨_, rfl⟩
  have hg0 : Good w0 s (A :: V :: X :: os) := by rw [hXe]; exact hg0
  rw [← hXe] at hX
  have hin : ∀ {w' s' Y Z}, Good w' s' (Y :: Z :: X :: os) → In X w' := fun h => h.mem (by simp)
  refine CW.seq (CW.seq (CW.plain ?_))
  refine RL.field rfl rfl rfl rfl fl68_0 rfl rfl ?_
  refine RL.load (j := 0) rfl rfl rfl rfl ty3 rfl (hX) ((hin hg0)) rfl ?_
  refine RL.done ?_
  refine CW.block (CW.seq (CW.plain ?_))
  refine RL.pure rfl rfl rfl rfl ?_
  refine RL.pure rfl rfl rfl rfl ?_
  refine RL.done ?_
  refine CW.eq rfl (fun h => ?_) (fun h => ?_)
  · refine CW.seq (CW.plain ?_)
    refine RL.pure rfl rfl rfl rfl ?_
    refine RL.call rfl rfl rfl rfl rfl ca16 (RdUint_ct hg0 hR) ?_
    rintro r1 s1 A1 w1 hle1 hg1 hax1 ⟨rfl, hr1, hA1⟩
    refine ⟨trivial, ?_⟩
    refine RL.pure rfl rfl rfl rfl ?_
    refine RL.call rfl rfl rfl rfl rfl ca55 (RrUint_ct hg1.swap (hV.up hle1)) ?_
    rintro r2 s2 V2 w2 hle2 hg2 hax2 ⟨rfl, hr2, hV2⟩
    refine ⟨trivial, ?_⟩
    refine RL.pure rfl rfl rfl rfl ?_
    rw [beq_self_eq_true]
    refine RL.pure rfl rfl rfl rfl ?_
    refine RL.done ?_
    exact CW.ret (ret (vs := [_]) ⟨_, _, rfl, rfl, rfl⟩ (Post2.mk (hle1.trans hle2) hg2.drop3 (hax0.trans (hax1.trans hax2)) ⟨rfl, _, hV2, hA1.up hle2⟩))
  refine CW.seq (CW.plain ?_)
  refine RL.pure rfl rfl rfl rfl ?_
  refine RL.pure rfl rfl rfl rfl ?_
  refine RL.done ?_
  refine CW.eq rfl (fun h => ?_) (fun h => ?_)
  · refine CW.seq (CW.plain ?_)
    refine RL.pure rfl rfl rfl rfl ?_
    refine RL.call rfl rfl rfl rfl rfl ca56 (RdInt_ct hg0 hR) ?_
    rintro r1 s1 A1 w1 hle1 hg1 hax1 ⟨rfl, hr1, hA1⟩
    refine ⟨trivial, ?_⟩
    refine RL.pure rfl rfl rfl rfl ?_
    refine RL.call rfl rfl rfl rfl rfl ca57 (RrInt_ct hg1.swap (hV.up hle1)) ?_
    rintro r2 s2 V2 w2 hle2 hg2 hax2 ⟨rfl, hr2, hV2⟩
    refine ⟨trivial, ?_⟩
    refine RL.pure rfl rfl rfl rfl ?_
    rw [beq_self_eq_true]
    refine RL.pure rfl rfl rfl rfl ?_
    refine RL.done ?_
    exact CW.ret (ret (vs := [_]) ⟨_, _, rfl, rfl, rfl⟩ (Post2.mk (hle1.trans hle2) hg2.drop3 (hax0.trans (hax1.trans hax2)) ⟨rfl, _, hV2, hA1.up hle2⟩))
  refine CW.seq (CW.plain ?_)
  refine RL.pure rfl rfl rfl rfl ?_
  refine RL.pure rfl rfl rfl rfl ?_
  refine RL.done ?_
  refine CW.eq rfl (fun h => ?_) (fun h => ?_)
  · refine CW.seq (CW.plain ?_)
    refine RL.pure rfl rfl rfl rfl ?_
    refine RL.call rfl rfl rfl rfl rfl ca34 (RdBool_ct hg0 hR) ?_
    rintro r1 s1 A1 w1 hle1 hg1 hax1 ⟨rfl, hA1⟩
    refine ⟨trivial, ?_⟩
    refine RL.pure rfl rfl rfl rfl ?_
    refine RL.call rfl rfl rfl rfl rfl ca58 (RrBool_ct hg1.swap (hV.up hle1)) ?_
    rintro r2 s2 V2 w2 hle2 hg2 hax2 ⟨rfl, hV2⟩
    refine ⟨trivial, ?_⟩
    refine RL.bEq rfl rfl rfl rfl Tryd.underlying4 rfl rfl ?_
    rw [beq_self_eq_true]
    refine RL.pure rfl rfl rfl rfl ?_
    refine RL.done ?_
    exact CW.ret (ret (vs := [_]) ⟨_, _, rfl, rfl, rfl⟩ (Post2.mk (hle1.trans hle2) hg2.drop3 (hax0.trans (hax1.trans hax2)) ⟨rfl, _, hV2, hA1.up hle2⟩))
  refine CW.seq (CW.plain ?_)
  refine RL.pure rfl rfl rfl rfl ?_
  refine RL.pure rfl rfl rfl rfl ?_
  refine RL.done ?_
  refine CW.eq rfl (fun h => ?_) (fun h => ?_)
  · refine CW.seq ?_
    have hgD := hg0.drew
    refine CW.forks (.fork [(true, 0), (true, 1), (true, 2), (true, 5), (true, 6), (true, 7), (false, 3)] (.line [(false, 4), (false, 8), (false, 9), (false, 10), (false, 11)]) (.fork [(false, 8)] (.line [(false, 4), (false, 9), (false, 10), (false, 11)]) (.line [(false, 9), (false, 4), (false, 10), (false, 11)]))) (fun w => In X w) mixed (by kernel_rfl) (by kernel_rfl) (by kernel_rfl) (by kernel_rfl) (hin hgD) ?_
    refine RT.pre (S := fun w => In X w) (hin hgD) ?_
    refine RL.pure rfl rfl rfl rfl ?_
    refine RL.field rfl rfl rfl rfl fl68_1 rfl rfl ?_
    refine RL.loadT (j := 1) rfl rfl rfl rfl ty3 rfl (hX) (fun w h => h) rfl ?_
    refine RL.pure rfl rfl rfl rfl ?_
    refine RL.field rfl rfl rfl rfl fl68_1 rfl rfl ?_
    refine RL.loadT (j := 1) rfl rfl rfl rfl ty3 rfl (hX) (fun w h => h) rfl ?_
    refine RL.callG rfl rfl rfl rfl rfl ca59 (RdBytes_ct hgD hR hm hl) ?_
    rintro e1 w1 ⟨v1, s1, B1, A1, rfl, hle1, hg1, hax1, ⟨a1, c1, rfl, hB1⟩, hA1⟩
    refine ⟨_, rfl, (hg1.mem (by simp)), ?_⟩
    refine RL.done ?_
    have hin1 : In X w1 := hg1.mem (by simp)
    have hVB : Good w1 s1 (V :: B1 :: A1 :: X :: os) := hg1.third
    have hend : ∀ {w2 s2 B2 V2}, Le s1 s2 → Good w2 s2 (B2 :: V2 :: B1 :: A1 :: X :: os) → Good w2 s2 (V2 :: A1 :: os) := fun _ h => ((h.drop.dropNext).drop3)
    refine RT.both (S := fun w => In X w) hin1 (RT.end_ (S := fun w => In X w) hin1 ?_) (RT.pre (S := fun w => In X w) hin1 ?_)
    · refine RL.bts rfl rfl rfl rfl sl25 Tryd.underlying5 Tryd.underlying9 rfl (hB1.row) (hg1.1) ?_
      refine RL.callG rfl rfl rfl rfl rfl ca60 (RrBytes_ct hVB (hV.up hle1) hm hl) ?_
      rintro e2 w2 ⟨v2, s2, B2, V2, rfl, hle2, hg2, hax2, ⟨a2, c2, rfl, hB2⟩, hV2⟩
      refine ⟨_, rfl, (hg2.mem (by simp)), ?_⟩
      refine RL.bts rfl rfl rfl rfl sl25 Tryd.underlying5 Tryd.underlying9 rfl (hB2.row) (hg2.1) ?_
      refine RL.sEq rfl rfl rfl rfl rfl rfl ?_
      rw [beq_self_eq_true]
      refine RL.pure rfl rfl rfl rfl ?_
      refine RL.done ?_
      exact CW.ret (ret (vs := [_]) ⟨_, _, rfl, rfl, rfl⟩ (Post2.mk (hle1.trans hle2) (hend hle2 hg2) (hax0.trans ((Aux.drew _).trans (hax1.trans hax2))) ⟨rfl, _, hV2, hA1.up hle2⟩))
    · refine RL.callG rfl rfl rfl rfl rfl ca60 (RrBytes_ct hVB (hV.up hle1) hm hl) ?_
      rintro e2 w2 ⟨v2, s2, B2, V2, rfl, hle2, hg2, hax2, ⟨a2, c2, rfl, hB2⟩, hV2⟩
      refine ⟨_, rfl, (hg2.mem (by simp)), ?_⟩
      refine RL.done ?_
      have hin2 : In X w2 := hg2.mem (by simp)
      have hB12 : In B1 w2 := hg2.mem (by simp)
      refine RT.both (S := fun w => In X w) hin2 (RT.end_ (S := fun w => In X w) hin2 ?_) (RT.end_ (S := fun w => In X w) hin2 ?_)
      · refine RL.bts rfl rfl rfl rfl sl25 Tryd.underlying5 Tryd.underlying9 rfl (hB1.row) (hB12) ?_
        refine RL.bts rfl rfl rfl rfl sl25 Tryd.underlying5 Tryd.underlying9 rfl (hB2.row) (hg2.1) ?_
        refine RL.sEq rfl rfl rfl rfl rfl rfl ?_
        rw [beq_self_eq_true]
        refine RL.pure rfl rfl rfl rfl ?_
        refine RL.done ?_
        exact CW.ret (ret (vs := [_]) ⟨_, _, rfl, rfl, rfl⟩ (Post2.mk (hle1.trans hle2) (hend hle2 hg2) (hax0.trans ((Aux.drew _).trans (hax1.trans hax2))) ⟨rfl, _, hV2, hA1.up hle2⟩))
      · refine RL.bts rfl rfl rfl rfl sl25 Tryd.underlying5 Tryd.underlying9 rfl (hB2.row) (hg2.1) ?_
        refine RL.bts rfl rfl rfl rfl sl25 Tryd.underlying5 Tryd.underlying9 rfl (hB1.row) (hB12) ?_
        refine RL.sEq rfl rfl rfl rfl rfl rfl ?_
        rw [beq_self_eq_true]
        refine RL.pure rfl rfl rfl rfl ?_
        refine RL.done ?_
        exact CW.ret (ret (vs := [_]) ⟨_, _, rfl, rfl, rfl⟩ (Post2.mk (hle1.trans hle2) (hend hle2 hg2) (hax0.trans ((Aux.drew _).trans (hax1.trans hax2))) ⟨rfl, _, hV2, hA1.up hle2⟩))
  refine CW.seq (CW.plain ?_)
  refine RL.pure rfl rfl rfl rfl ?_
  refine RL.pure rfl rfl rfl rfl ?_
  refine RL.done ?_
  refine CW.eq rfl (fun h => ?_) (fun h => ?_)
  · refine CW.seq ?_
    have hgD := hg0.drew
    refine CW.draws [(true, 0), (true, 1), (true, 2), (true, 4), (true, 5), (true, 6), (false, 3), (false, 7), (false, 8), (true, 9), (false, 10)] (fun w => In X w) mixed (by kernel_rfl) (by kernel_rfl) (by kernel_rfl) (by kernel_rfl) ((hin hgD)) ?_
    refine RL.pure rfl rfl rfl rfl ?_
    refine RL.field rfl rfl rfl rfl fl68_1 rfl rfl ?_
    refine RL.loadT (j := 1) rfl rfl rfl rfl ty3 rfl (hX) (fun w h => h) rfl ?_
    refine RL.pure rfl rfl rfl rfl ?_
    refine RL.field rfl rfl rfl rfl fl68_1 rfl rfl ?_
    refine RL.loadT (j := 1) rfl rfl rfl rfl ty3 rfl (hX) (fun w h => h) rfl ?_
    refine RL.call rfl rfl rfl rfl rfl ca61 (RdString_ct hgD hR hm hl) ?_
    rintro r1 s1 A1 w1 hle1 hg1 hax1 ⟨rfl, hr1, hA1⟩
    refine ⟨(hin hg1), ?_⟩
    refine RL.callG rfl rfl rfl rfl rfl ca60 (RrBytes_ct hg1.swap (hV.up hle1) hm hl) ?_
    rintro e2 w2 ⟨v2, s2, B2, V2, rfl, hle2, hg2, hax2, ⟨a2, c2, rfl, hB2⟩, hV2⟩
    refine ⟨_, rfl, (hg2.mem (by simp)), ?_⟩
    refine RL.bts rfl rfl rfl rfl sl25 Tryd.underlying5 Tryd.underlying9 rfl (hB2.row) (hg2.1) ?_
    refine RL.sEq rfl rfl rfl rfl rfl rfl ?_
    rw [beq_self_eq_true]
    refine RL.pure rfl rfl rfl rfl ?_
    refine RL.done ?_
    exact CW.ret (ret (vs := [_]) ⟨_, _, rfl, rfl, rfl⟩ (Post2.mk (hle1.trans hle2) hg2.drop.drop3 (hax0.trans ((Aux.drew _).trans (hax1.trans hax2))) ⟨rfl, _, hV2, hA1.up hle2⟩))
  refine CW.seq (CW.plain ?_)
  refine RL.pure rfl rfl rfl rfl ?_
  refine RL.pure rfl rfl rfl rfl ?_
  refine RL.done ?_
  refine CW.eq rfl (fun h => ?_) (fun h => ?_)
  · refine CW.seq (CW.plain ?_)
    refine RL.pure rfl rfl rfl rfl ?_
    refine RL.call rfl rfl rfl rfl rfl ca63 (RdConf_ct hg0 hR) ?_
    rintro r1 s1 A1 w1 hle1 hg1 hax1 ⟨⟨us1, rfl, hu1⟩, hA1⟩
    refine ⟨trivial, ?_⟩
    refine RL.pure rfl rfl rfl rfl ?_
    refine RL.call rfl rfl rfl rfl rfl ca64 (RrConf_ct hg1.swap (hV.up hle1)) ?_
    rintro r2 s2 V2 w2 hle2 hg2 hax2 ⟨⟨us2, rfl, hu2⟩, hV2⟩
    refine ⟨trivial, ?_⟩
    refine RL.callV rfl rfl rfl rfl rfl ca62 (SameConf_ct hg2 (RConf.up _ _ _ _ hle2 hu1) hu2) ?_
    rintro v3 w3 hg3 hax3 rfl
    refine ⟨trivial, ?_⟩
    refine RL.pure rfl rfl rfl rfl ?_
    refine RL.done ?_
    exact CW.ret (ret (vs := [_]) ⟨_, _, rfl, rfl, rfl⟩ (Post2.mk (hle1.trans hle2) hg3.drop3 (hax0.trans (hax1.trans (hax2.trans hax3))) ⟨rfl, _, hV2, hA1.up hle2⟩))
  refine CW.seq (CW.plain ?_)
  refine RL.pure rfl rfl rfl rfl ?_
  refine RL.pure rfl rfl rfl rfl ?_
  refine RL.done ?_
  refine CW.eq rfl (fun h => ?_) (fun h => ?_)
  · refine CW.seq (CW.plain ?_)
    refine RL.pure rfl rfl rfl rfl ?_
    refine RL.call rfl rfl rfl rfl rfl ca66 (RdEntry_ct hg0 hR hl) ?_
    rintro r1 s1 A1 w1 hle1 hg1 hax1 ⟨⟨us1, rfl, hu1⟩, hA1⟩
    refine ⟨trivial, ?_⟩
    refine RL.pure rfl rfl rfl rfl ?_
    refine RL.call rfl rfl rfl rfl rfl ca67 (RrEntry_ct hg1.swap (hV.up hle1) hl) ?_
    rintro r2 s2 V2 w2 hle2 hg2 hax2 ⟨⟨us2, rfl, hu2⟩, hV2⟩
    refine ⟨trivial, ?_⟩
    refine RL.callV rfl rfl rfl rfl rfl ca65 (SameEntry_ct hg2 (REntry.up _ _ _ _ hle2 hu1) hu2) ?_
    rintro v3 w3 hg3 hax3 rfl
    refine ⟨trivial, ?_⟩
    refine RL.pure rfl rfl rfl rfl ?_
    refine RL.done ?_
    exact CW.ret (ret (vs := [_]) ⟨_, _, rfl, rfl, rfl⟩ (Post2.mk (hle1.trans hle2) hg3.drop3 (hax0.trans (hax1.trans (hax2.trans hax3))) ⟨rfl, _, hV2, hA1.up hle2⟩))
  refine CW.seq (CW.plain ?_)
  refine RL.pure rfl rfl rfl rfl ?_
  refine RL.pure rfl rfl rfl rfl ?_
  refine RL.done ?_
  refine CW.eq rfl (fun h => ?_) (fun h => ?_)
  · refine CW.seq (CW.plain ?_)
    refine RL.pure rfl rfl rfl rfl ?_
    refine RL.call rfl rfl rfl rfl rfl ca69 (RdSnap_ct hg0 hR hl) ?_
    rintro r1 s1 A1 w1 hle1 hg1 hax1 ⟨⟨us1, rfl, hu1⟩, hA1⟩
    refine ⟨trivial, ?_⟩
    refine RL.pure rfl rfl rfl rfl ?_
    refine RL.call rfl rfl rfl rfl rfl ca70 (RrSnap_ct hg1.swap (hV.up hle1) hl) ?_
    rintro r2 s2 V2 w2 hle2 hg2 hax2 ⟨⟨us2, rfl, hu2⟩, hV2⟩
    refine ⟨trivial, ?_⟩
    refine RL.callV rfl rfl rfl rfl rfl ca68 (SameSnap_ct hg2 (RSnap.up _ _ _ _ hle2 hu1) hu2) ?_
    rintro v3 w3 hg3 hax3 rfl
    refine ⟨trivial, ?_⟩
    refine RL.pure rfl rfl rfl rfl ?_
    refine RL.done ?_
    exact CW.ret (ret (vs := [_]) ⟨_, _, rfl, rfl, rfl⟩ (Post2.mk (hle1.trans hle2) hg3.drop3 (hax0.trans (hax1.trans (hax2.trans hax3))) ⟨rfl, _, hV2, hA1.up hle2⟩))
  refine CW.seq (CW.plain ?_)
  refine RL.pure rfl rfl rfl rfl ?_
  refine RL.pure rfl rfl rfl rfl ?_
  refine RL.done ?_
  refine CW.eq rfl (fun h => ?_) (fun h => ?_)
  · refine CW.seq (CW.plain ?_)
    refine RL.pure rfl rfl rfl rfl ?_
    refine RL.call rfl rfl rfl rfl rfl ca71 (RdRange_ct hg0 hR hl) ?_
    rintro r1 s1 A1 w1 hle1 hg1 hax1 ⟨⟨us1, rfl, rfl, _⟩, hA1⟩
    refine ⟨trivial, ?_⟩
    refine RL.pure rfl rfl rfl rfl ?_
    refine RL.call rfl rfl rfl rfl rfl ca72 (RrRange_ct hg1.swap (hV.up hle1) hl) ?_
    rintro r2 s2 V2 w2 hle2 hg2 hax2 ⟨⟨us2, rfl, rfl, _⟩, hV2⟩
    refine ⟨trivial, ?_⟩
    refine RL.stEq rfl rfl rfl rfl (by kernel_rfl) rfl rfl (range_eq _) ?_
    refine RL.pure rfl rfl rfl rfl ?_
    refine RL.done ?_
    exact CW.ret (ret (vs := [_]) ⟨_, _, rfl, rfl, rfl⟩ (Post2.mk (hle1.trans hle2) hg2.drop3 (hax0.trans (hax1.trans hax2)) ⟨rfl, _, hV2, hA1.up hle2⟩))
  refine CW.seq (CW.plain ?_)
  refine RL.pure rfl rfl rfl rfl ?_
  refine RL.pure rfl rfl rfl rfl ?_
  refine RL.done ?_
  refine CW.eq rfl (fun h => ?_) (fun h => ?_)
  · refine CW.seq ?_
    have hgD := hg0.drew
    refine CW.draws [(true, 0), (true, 1), (true, 2), (true, 4), (true, 5), (true, 6), (false, 3), (false, 7), (true, 8), (false, 9)] (fun w => In X w) mixed (by kernel_rfl) (by kernel_rfl) (by kernel_rfl) (by kernel_rfl) ((hin hgD)) ?_
    refine RL.pure rfl rfl rfl rfl ?_
    refine RL.field rfl rfl rfl rfl fl68_1 rfl rfl ?_
    refine RL.loadT (j := 1) rfl rfl rfl rfl ty3 rfl (hX) (fun w h => h) rfl ?_
    refine RL.pure rfl rfl rfl rfl ?_
    refine RL.field rfl rfl rfl rfl fl68_1 rfl rfl ?_
    refine RL.loadT (j := 1) rfl rfl rfl rfl ty3 rfl (hX) (fun w h => h) rfl ?_
    refine RL.call rfl rfl rfl rfl rfl ca33 (RdCount_ct hgD hR hm) ?_
    rintro r1 s1 A1 w1 hle1 hg1 hax1 ⟨rfl, hA1⟩
    refine ⟨(hin hg1), ?_⟩
    refine RL.call rfl rfl rfl rfl rfl ca73 (RrCount_ct hg1.swap (hV.up hle1) hm) ?_
    rintro r2 s2 V2 w2 hle2 hg2 hax2 ⟨rfl, hV2⟩
    refine ⟨(hin hg2), ?_⟩
    refine RL.pure rfl rfl rfl rfl ?_
    rw [beq_self_eq_true]
    refine RL.pure rfl rfl rfl rfl ?_
    refine RL.done ?_
    exact CW.ret (ret (vs := [_]) ⟨_, _, rfl, rfl, rfl⟩ (Post2.mk (hle1.trans hle2) hg2.drop3 (hax0.trans ((Aux.drew _).trans (hax1.trans hax2))) ⟨rfl, _, hV2, hA1.up hle2⟩))
  refine CW.seq (CW.plain ?_)
  refine RL.pure rfl rfl rfl rfl ?_
  refine RL.pure rfl rfl rfl rfl ?_
  refine RL.done ?_
  refine CW.eq rfl (fun h => ?_) (fun h => ?_)
  · refine CW.seq (CW.plain ?_)
    refine RL.pure rfl rfl rfl rfl ?_
    refine RL.field rfl rfl rfl rfl fl68_1 rfl rfl ?_
    refine RL.load (j := 1) rfl rfl rfl rfl ty3 rfl (hX) ((hin hg0)) rfl ?_
    refine RL.call rfl rfl rfl rfl rfl ca54 (Fail_ct hg0 hR hm) ?_
    rintro r1 s1 A1 w1 hle1 hg1 hax1 ⟨_, hA1⟩
    refine ⟨trivial, ?_⟩
    refine RL.done ?_
    refine CW.seq (CW.plain ?_)
    refine RL.pure rfl rfl rfl rfl ?_
    refine RL.field rfl rfl rfl rfl fl68_1 rfl rfl ?_
    refine RL.load (j := 1) rfl rfl rfl rfl ty3 rfl (hX) ((hin hg1)) rfl ?_
    refine RL.call rfl rfl rfl rfl rfl ca74 (rFail_ct hg1.swap (hV.up hle1) hm) ?_
    rintro r2 s2 V2 w2 hle2 hg2 hax2 ⟨_, hV2⟩
    refine ⟨trivial, ?_⟩
    refine RL.done ?_
    refine CW.seq (CW.plain ?_)
    refine RL.pure rfl rfl rfl rfl ?_
    refine RL.done ?_
    exact CW.ret (ret (vs := [_]) ⟨_, _, rfl, rfl, rfl⟩ (Post2.mk (hle1.trans hle2) hg2.drop3 (hax0.trans (hax1.trans hax2)) ⟨rfl, _, hV2, hA1.up hle2⟩))
  refine CW.skip (CW.seq (CW.plain ?_))
  refine RL.pure rfl rfl rfl rfl ?_
  refine RL.call rfl rfl rfl rfl rfl ca76 (RdRecord_ct hg0 hR hl) ?_
  rintro r1 s1 A1 w1 hle1 hg1 hax1 ⟨⟨us1, rfl, hu1⟩, hA1⟩
  refine ⟨trivial, ?_⟩
  refine RL.pure rfl rfl rfl rfl ?_
  refine RL.call rfl rfl rfl rfl rfl ca77 (RrRecord_ct hg1.swap (hV.up hle1) hl) ?_
  rintro r2 s2 V2 w2 hle2 hg2 hax2 ⟨⟨us2, rfl, hu2⟩, hV2⟩
  refine ⟨trivial, ?_⟩
  refine RL.callV rfl rfl rfl rfl rfl ca75 (SameRecord_ct hg2 (RRecord.up _ _ _ _ hle2 hu1) hu2) ?_
  rintro v3 w3 hg3 hax3 rfl
  refine ⟨trivial, ?_⟩
  refine RL.pure rfl rfl rfl rfl ?_
  refine RL.done ?_
  exact CW.ret (ret (vs := [_]) ⟨_, _, rfl, rfl, rfl⟩ (Post2.mk (hle1.trans hle2) hg3.drop3 (hax0.trans (hax1.trans (hax2.trans hax3))) ⟨rfl, _, hV2, hA1.up hle2⟩))
end Go.Lw
