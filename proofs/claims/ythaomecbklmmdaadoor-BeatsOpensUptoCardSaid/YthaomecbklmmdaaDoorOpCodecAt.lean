/-
  errors.As at an error of the codec: what it sets.
-/
import Derived.Test.YthaomecbklmmdaaDoorOpCodecAs3
import Derived.Test.YthaomecbklmmdaaDoorOpCodecRk
namespace Go.Lw
open Go.Proofs
attribute [local irreducible] RL RA

theorem ta_wA (v : Value) (w : World) : (Instr.typeAssert (.iface 94 v) 90 137 true).run Tryd.prog w = .ok (.tuple #[.nilIface, .bool false]) w :=
  run_typeAssert_lacksB Tryd.underlying137 (by kernel_rfl) (by kernel_rfl) v _ w
theorem ta_wU (v : Value) (w : World) : (Instr.typeAssert (.iface 94 v) 90 140 true).run Tryd.prog w = .ok (.tuple #[.iface 94 v, .bool true]) w :=
  run_typeAssert_hasB Tryd.underlying140 (by kernel_rfl) v _ w

set_option maxRecDepth 100000 in
theorem Unwrap_ct {w : World} {s : Res} {os : List Res} {q : Nat} {e k : Int} (hg : Good w s os) (hq : Holds s ⟨q, 0, none⟩ [.int .i64 k, .iface 27 (.int .i64 e)]) :
    Calls Tryd.prog 99 #[ptr q] w (PostV w s os fun r => r = .iface 27 (.int .i64 e)) := by
  refine enter (l := [ptr q]) Tryd.func99 rfl Tryd.ntmps99 rfl ?_
  refine CW.seq (CW.plain ?_)
  refine RL.pure rfl rfl rfl rfl ?_
  refine RL.done ?_
  refine CW.seq (CW.plain ?_)
  refine RL.pure rfl rfl rfl rfl ?_
  refine RL.pure rfl rfl rfl rfl ?_
  refine RL.field rfl rfl rfl rfl fl99_1 rfl rfl ?_
  refine RL.load rfl rfl rfl rfl ty90 rfl (hq) (hg.sh) rfl ?_
  refine RL.pure rfl rfl rfl rfl ?_
  refine RL.done ?_
  exact CW.ret (ret (vs := [_]) ⟨_, _, rfl, rfl, rfl⟩ (PostV.mk hg (Aux.refl _) rfl))

abbrev rv (t a fl : Nat) : Value := .agg #[.pointer (some ⟨1, t, none⟩), .pointer (some ⟨a, 0, none⟩), .int .u64 fl]

set_option maxRecDepth 100000 in
/-- The first of the chain is what is asked for. -/
theorem as_w {w : World} {s A V : Res} {os : List Res} {t a q : Nat} {old : Value} (hg : Good w s (A :: V :: os)) (hA : A t = some (.cells #[old] 94 (0, 0))) (hV : V a = some (.cells #[ptr t] 96 (0, 0))) :
    Calls Tryd.prog 69 #[.iface 94 (ptr q), .iface 96 (ptr t), rv 96 a 150, rt 94] w
      (Post w s (V :: os) fun s' A' r => r = .bool true ∧ s' = s ∧ A' = A.put t (.cells #[ptr q] 94 (0, 0))) := by
  refine enter (l := [.iface 94 (ptr q), .iface 96 (ptr t), rv 96 a 150, rt 94]) Tryd.func69 rfl Tryd.ntmps69 rfl ?_
  refine CW.seq (CW.plain ?_)
  refine RL.box rfl rfl rfl rfl rfl hg ?_
  rintro b w1 hg1 hax1
  refine ⟨trivial, ?_⟩
  refine RL.pure rfl rfl rfl rfl ?_
  refine RL.done ?_
  refine CW.block (CW.loop (σ := Unit) (fun _ E w' => E = [(0, .iface 94 (ptr q)), (3, rt 94), (6, ptr b)] ∧ w' = w1) (fun _ => 0) () [(0, .iface 94 (ptr q)), (3, rt 94), (6, ptr b)] ⟨rfl, rfl, rfl, trivial⟩ ⟨rfl, rfl⟩ ?_)
  rintro _ E w1 ⟨rfl, rfl⟩
  refine CW.block (CW.seq (CW.seq (CW.plain ?_)))
  refine RL.pure rfl rfl rfl rfl ?_
  refine RL.ext rfl rfl rfl rfl rfl (typeOf_w _ _) ⟨trivial, ?_⟩
  refine RL.pure rfl rfl rfl rfl ?_
  refine RL.extI rfl rfl rfl rfl rfl rfl (asg_ww _) ⟨trivial, ?_⟩
  refine RL.done ?_
  refine CW.yes rfl (CW.seq (CW.plain ?_))
  have hw1 := hg1.mem (r := V) (by simp)
  have hla : w1.heap[a]? = some (.cells #[ptr t] 96 (0, 0)) := hw1 a _ hV
  have hca : w1.cell? ⟨a, 0, none⟩ = some (ptr t) := by simp [World.cell?, hla]
  have hg2 : Good _ s (Res.one _ _ :: A :: V :: os) := (hg1.drop).alloc (.cells #[ptr q] 94)
  have hg3 : Good (w1.alloc (.cells #[ptr q] 94)) s (A :: Res.one w1.heap.size (.cells #[ptr q] 94) :: V :: os) := hg2.swap
  have hb : (w1.alloc (.cells #[ptr q] 94)).cell? ⟨w1.heap.size, 0, none⟩ = some (ptr q) := by
    have := hg2.1 w1.heap.size _ (if_pos rfl)
    unfold World.cell?
    rw [this]
    rfl
  obtain ⟨hg4, hax4, ht, hf⟩ := hg3.setOne (v := ptr q) hA rfl
  refine RL.loads (j := 0) rfl rfl rfl rfl ty116 rfl ((show Holds _ ⟨b, 0, none⟩ [.pointer (some ⟨1, 96, none⟩), ptr a, .int .u64 150] from Holds.of (if_pos rfl))) (hg1.1) rfl rfl ?_
  refine RL.ext rfl rfl rfl rfl rfl (elem_w _ _ _ hca) ⟨trivial, ?_⟩
  refine RL.pure rfl rfl rfl rfl ?_
  refine RL.ext rfl rfl rfl rfl rfl (vof_w _ _) ⟨trivial, ?_⟩
  refine RL.ext rfl rfl rfl rfl rfl (set_w _ _ _ _ _ hb ht hf) ⟨trivial, ?_⟩
  refine RL.done ?_
  refine CW.seq (CW.plain ?_)
  refine RL.pure rfl rfl rfl rfl ?_
  refine RL.done ?_
  exact CW.ret (ret (vs := [_]) ⟨_, _, rfl, rfl, rfl⟩ (Post.mk (Le.refl _) (hg4.swap.drop) (hax1.trans ((Aux.alloc _ _).trans hax4)) ⟨rfl, rfl, rfl⟩))

set_option maxRecDepth 100000 in
/-- What the first wraps is what is asked for. -/
theorem as_e {w : World} {s A V : Res} {os : List Res} {t a q : Nat} {old : Value} {e k : Int} (hg : Good w s (A :: V :: os)) (hq : Holds s ⟨q, 0, none⟩ [.int .i64 k, .iface 27 (.int .i64 e)])
    (hA : A t = some (.cells #[old] 27 (0, 0))) (hV : V a = some (.cells #[ptr t] 97 (0, 0))) :
    Calls Tryd.prog 69 #[.iface 94 (ptr q), .iface 97 (ptr t), rv 97 a 150, rt 27] w
      (Post w s (V :: os) fun s' A' r => r = .bool true ∧ s' = s ∧ A' = A.put t (.cells #[.int .i64 e] 27 (0, 0))) := by
  refine enter (l := [.iface 94 (ptr q), .iface 97 (ptr t), rv 97 a 150, rt 27]) Tryd.func69 rfl Tryd.ntmps69 rfl ?_
  refine CW.seq (CW.plain ?_)
  refine RL.box rfl rfl rfl rfl rfl hg ?_
  rintro b w0 hg0 hax0
  refine ⟨trivial, ?_⟩
  refine RL.pure rfl rfl rfl rfl ?_
  refine RL.done ?_
  refine CW.block (CW.loop (σ := Bool) (fun r E w' => E = [(0, if r then .iface 94 (ptr q) else .iface 27 (.int .i64 e)), (3, rt 27), (6, ptr b)] ∧ Good w' s (Res.one b (.cells (rv 97 a 150).cells 116) :: A :: V :: os) ∧ Aux w w')
    (fun r => r.toNat) true [(0, .iface 94 (ptr q)), (3, rt 27), (6, ptr b)] ⟨rfl, rfl, rfl, trivial⟩ ⟨rfl, hg0, hax0⟩ ?_)
  rintro r E w1 ⟨rfl, hg1, hax1⟩
  cases r with
  | true =>
    refine CW.block (CW.seq (CW.seq (CW.plain ?_)))
    refine RL.pure rfl rfl rfl rfl ?_
    refine RL.ext rfl rfl rfl rfl rfl (typeOf_w _ _) ⟨trivial, ?_⟩
    refine RL.pure rfl rfl rfl rfl ?_
    refine RL.extI rfl rfl rfl rfl rfl rfl (asg_we _) ⟨trivial, ?_⟩
    refine RL.done ?_
    refine CW.no rfl (CW.skip ?_)
    refine CW.seq (CW.seq (CW.plain ?_))
    refine RL.pure rfl rfl rfl rfl ?_
    refine RL.tassert rfl rfl rfl rfl rfl (ta_wA _) ?_
    refine RL.pure rfl rfl rfl rfl ?_
    refine RL.pure rfl rfl rfl rfl ?_
    refine RL.pure rfl rfl rfl rfl ?_
    refine RL.pure rfl rfl rfl rfl ?_
    refine RL.pure rfl rfl rfl rfl ?_
    refine RL.done ?_
    refine CW.seq (CW.plain ?_)
    refine RL.pure rfl rfl rfl rfl ?_
    refine RL.pure rfl rfl rfl rfl ?_
    refine RL.pass rfl rfl rfl ?_
    refine RL.pass rfl rfl rfl ?_
    refine RL.pass rfl rfl rfl ?_
    refine RL.pure rfl rfl rfl rfl ?_
    refine RL.done ?_
    refine CW.no rfl (CW.skip ?_)
    refine CW.seq (CW.plain ?_)
    refine RL.pure rfl rfl rfl rfl ?_
    refine RL.done ?_
    refine CW.block (CW.seq (CW.plain ?_))
    refine RL.tassert rfl rfl rfl rfl rfl (ta_wU _) ?_
    refine RL.pure rfl rfl rfl rfl ?_
    refine RL.pure rfl rfl rfl rfl ?_
    refine RL.done ?_
    refine CW.yes rfl (CW.seq (CW.plain ?_))
    refine RL.pure rfl rfl rfl rfl ?_
    refine RL.done ?_
    refine CW.seq (CW.plain ?_)
    refine RL.pure rfl rfl rfl rfl ?_
    refine RL.callI rfl rfl rfl rfl rfl rfl (unw _ _) (Unwrap_ct hg1 hq) ?_
    rintro _ w2 ⟨v, rfl, hg2, hax2, rfl⟩
    refine ⟨_, rfl, trivial, ?_⟩
    refine RL.pure rfl rfl rfl rfl ?_
    refine RL.done ?_
    refine CW.seq (CW.plain ?_)
    refine RL.pure rfl rfl rfl rfl ?_
    refine RL.ifEq rfl rfl rfl rfl Tryd.underlying90 rfl (.inr ⟨_, _, rfl⟩) ?_
    refine RL.done ?_
    refine CW.no rfl (CW.skip ?_)
    exact fun a ha => ⟨false, [(0, .iface 27 (.int .i64 e)), (3, rt 27), (6, ptr b)], ha.sub ⟨rfl, rfl, rfl, trivial⟩, ⟨rfl, hg2, hax1.trans hax2⟩, Nat.lt_succ_self _⟩
  | false =>
    refine CW.block (CW.seq (CW.seq (CW.plain ?_)))
    refine RL.pure rfl rfl rfl rfl ?_
    refine RL.ext rfl rfl rfl rfl rfl (typeOf_e _ _) ⟨trivial, ?_⟩
    refine RL.pure rfl rfl rfl rfl ?_
    refine RL.extI rfl rfl rfl rfl rfl rfl (asg_ee _) ⟨trivial, ?_⟩
    refine RL.done ?_
    refine CW.yes rfl (CW.seq (CW.plain ?_))
    have hw1 := hg1.mem (r := V) (by simp)
    have hla : w1.heap[a]? = some (.cells #[ptr t] 97 (0, 0)) := hw1 a _ hV
    have hca : w1.cell? ⟨a, 0, none⟩ = some (ptr t) := by simp [World.cell?, hla]
    have hg2 : Good _ s (Res.one _ _ :: A :: V :: os) := (hg1.drop).alloc (.cells #[.int .i64 e] 27)
    have hg3 : Good (w1.alloc (.cells #[.int .i64 e] 27)) s (A :: Res.one w1.heap.size (.cells #[.int .i64 e] 27) :: V :: os) := hg2.swap
    have hb : (w1.alloc (.cells #[.int .i64 e] 27)).cell? ⟨w1.heap.size, 0, none⟩ = some (.int .i64 e) := by
      have := hg2.1 w1.heap.size _ (if_pos rfl)
      unfold World.cell?
      rw [this]
      rfl
    obtain ⟨hg4, hax4, ht, hf⟩ := hg3.setOne (v := .int .i64 e) hA rfl
    refine RL.loads (j := 0) rfl rfl rfl rfl ty116 rfl ((show Holds _ ⟨b, 0, none⟩ [.pointer (some ⟨1, 97, none⟩), ptr a, .int .u64 150] from Holds.of (if_pos rfl))) (hg1.1) rfl rfl ?_
    refine RL.ext rfl rfl rfl rfl rfl (elem_e _ _ _ hca) ⟨trivial, ?_⟩
    refine RL.pure rfl rfl rfl rfl ?_
    refine RL.ext rfl rfl rfl rfl rfl (vof_e _ _) ⟨trivial, ?_⟩
    refine RL.ext rfl rfl rfl rfl rfl (set_e _ _ _ _ _ hb ht hf) ⟨trivial, ?_⟩
    refine RL.done ?_
    refine CW.seq (CW.plain ?_)
    refine RL.pure rfl rfl rfl rfl ?_
    refine RL.done ?_
    exact CW.ret (ret (vs := [_]) ⟨_, _, rfl, rfl, rfl⟩ (Post.mk (Le.refl _) (hg4.swap.drop) (hax1.trans ((Aux.alloc _ _).trans hax4)) ⟨rfl, rfl, rfl⟩))

/-- errors.errorType as the text lays it. -/
def Et (s : Res) : Prop := Holds s ⟨0, 0, none⟩ [rt 90]

set_option maxRecDepth 100000 in
theorem As_w {w : World} {s A : Res} {os : List Res} {t q : Nat} {old : Value} {e k : Int} (hg : Good w s (A :: os)) (het : Et s) (hq : Holds s ⟨q, 0, none⟩ [.int .i64 k, .iface 27 (.int .i64 e)])
    (hA : A t = some (.cells #[old] 94 (0, 0))) :
    Calls Tryd.prog 44 #[.iface 94 (ptr q), .iface 96 (ptr t)] w (Post w s os fun s' A' r => r = .bool true ∧ s' = s ∧ A' = A.put t (.cells #[ptr q] 94 (0, 0))) := by
  refine enter (l := [.iface 94 (ptr q), .iface 96 (ptr t)]) Tryd.func44 rfl Tryd.ntmps44 rfl ?_
  refine CW.seq (CW.plain ?_)
  refine RL.pure rfl rfl rfl rfl ?_
  refine RL.done ?_
  refine CW.seq (CW.seq (CW.plain ?_))
  refine RL.pure rfl rfl rfl rfl ?_
  refine RL.ifEq rfl rfl rfl rfl Tryd.underlying90 rfl (.inr ⟨_, _, rfl⟩) ?_
  refine RL.done ?_
  refine CW.no rfl (CW.skip ?_)
  refine CW.seq (CW.seq (CW.plain ?_))
  refine RL.pure rfl rfl rfl rfl ?_
  refine RL.ifEq rfl rfl rfl rfl Tryd.underlying20 rfl (.inr ⟨_, _, rfl⟩) ?_
  refine RL.done ?_
  refine CW.no rfl (CW.skip ?_)
  have hg1 : Good _ s (Res.one _ _ :: A :: os) := hg.alloc (.cells #[ptr t] 96)
  refine CW.seq (CW.plain ?_)
  refine RL.pure rfl rfl rfl rfl ?_
  refine RL.ext rfl rfl rfl rfl rfl (vof_tw _ _) ⟨trivial, ?_⟩
  refine RL.alloc rfl rfl rfl rfl ze116 hg1 ?_
  rintro b w2 hg2 hax2
  refine ⟨trivial, ?_⟩
  refine RL.store (i := 0) (j := 0) rfl rfl rfl ty116 rfl rfl hg2 rfl (if_pos rfl) rfl (by first | (simp [Value.cells, Value.oneCell']; done) | simp [Value.cells, Value.oneCell', putL]) (by first | exact Nat.le_of_ble_eq_true rfl | (simp; done) | (simp; omega) | omega) ?_
  rintro w3 hg3 hax3
  refine ⟨trivial, ?_⟩
  refine RL.done ?_
  obtain ⟨B, hg3, hb⟩ : ∃ B, Good w3 s (B :: Res.one w.heap.size (.cells #[ptr t] 96) :: A :: os) ∧ Holds B ⟨b, 0, none⟩ [.pointer (some ⟨1, 96, none⟩), ptr w.heap.size, .int .u64 150] := ⟨_, hg3, Holds.of (put_same _ _ _)⟩
  have hca : w3.cell? ⟨w.heap.size, 0, none⟩ = some (ptr t) := by
    have hla : w3.heap[w.heap.size]? = some (.cells #[ptr t] 96) := hg3.drop.1 w.heap.size _ (if_pos rfl)
    unfold World.cell?
    rw [hla]
    rfl
  refine CW.seq (CW.plain ?_)
  refine RL.loads (j := 0) rfl rfl rfl rfl ty116 rfl (hb) (hg3.1) rfl rfl ?_
  refine RL.ext rfl rfl rfl rfl rfl (typ_w _ _) ⟨trivial, ?_⟩
  refine RL.pure rfl rfl rfl rfl ?_
  refine RL.done ?_
  refine CW.seq (CW.seq (CW.plain ?_))
  refine RL.pure rfl rfl rfl rfl ?_
  refine RL.extI rfl rfl rfl rfl rfl rfl (kind_p _) ⟨trivial, ?_⟩
  refine RL.pure rfl rfl rfl rfl ?_
  refine RL.pure rfl rfl rfl rfl ?_
  refine RL.loads (j := 0) rfl rfl rfl rfl ty116 rfl (hb) (hg3.1) rfl rfl ?_
  refine RL.ext rfl rfl rfl rfl rfl (isNil_w _ _ _ hca) ⟨trivial, ?_⟩
  refine RL.pure rfl rfl rfl rfl ?_
  refine RL.done ?_
  refine CW.no rfl (CW.skip ?_)
  refine CW.seq (CW.plain ?_)
  refine RL.pure rfl rfl rfl rfl ?_
  refine RL.extI rfl rfl rfl rfl rfl rfl (elem_p _) ⟨trivial, ?_⟩
  refine RL.pure rfl rfl rfl rfl ?_
  refine RL.done ?_
  refine CW.seq (CW.seq (CW.plain ?_))
  refine RL.pure rfl rfl rfl rfl ?_
  refine RL.extI rfl rfl rfl rfl rfl rfl (kind_w _) ⟨trivial, ?_⟩
  refine RL.pure rfl rfl rfl rfl ?_
  refine RL.pure rfl rfl rfl rfl ?_
  refine RL.pure rfl rfl rfl rfl ?_
  refine RL.load (j := 0) rfl rfl rfl rfl ty119 rfl (het) (hg3.sh) rfl ?_
  refine RL.extI rfl rfl rfl rfl rfl rfl (impl_w _) ⟨trivial, ?_⟩
  refine RL.pure rfl rfl rfl rfl ?_
  refine RL.pure rfl rfl rfl rfl ?_
  refine RL.done ?_
  refine CW.no rfl (CW.skip ?_)
  refine CW.seq (CW.plain ?_)
  have hg4 : Good w3 s (A :: Res.one w.heap.size (.cells #[ptr t] 96) :: B :: os) := (hg3.swap.perm ((List.Perm.swap _ _ _).cons _)).swap
  refine RL.pure rfl rfl rfl rfl ?_
  refine RL.pure rfl rfl rfl rfl ?_
  refine RL.loads (j := 0) rfl rfl rfl rfl ty116 rfl (hb) (hg3.1) rfl rfl ?_
  refine RL.pure rfl rfl rfl rfl ?_
  refine RL.call rfl rfl rfl rfl rfl ca69 (as_w hg4  hA (if_pos rfl)) ?_
  rintro r s5 A5 w5 hle5 hg5 hax5 ⟨rfl, rfl, rfl⟩
  refine ⟨trivial, ?_⟩
  refine RL.pure rfl rfl rfl rfl ?_
  refine RL.done ?_
  exact CW.ret (ret (vs := [_]) ⟨_, _, rfl, rfl, rfl⟩ (Post.mk (Le.refl _) hg5.dropNext.dropNext ((Aux.alloc _ _).trans (hax2.trans (hax3.trans hax5))) ⟨rfl, rfl, rfl⟩))
set_option maxRecDepth 100000 in
theorem As_e {w : World} {s A : Res} {os : List Res} {t q : Nat} {old : Value} {e k : Int} (hg : Good w s (A :: os)) (het : Et s) (hq : Holds s ⟨q, 0, none⟩ [.int .i64 k, .iface 27 (.int .i64 e)])
    (hA : A t = some (.cells #[old] 27 (0, 0))) :
    Calls Tryd.prog 44 #[.iface 94 (ptr q), .iface 97 (ptr t)] w (Post w s os fun s' A' r => r = .bool true ∧ s' = s ∧ A' = A.put t (.cells #[.int .i64 e] 27 (0, 0))) := by
  refine enter (l := [.iface 94 (ptr q), .iface 97 (ptr t)]) Tryd.func44 rfl Tryd.ntmps44 rfl ?_
  refine CW.seq (CW.plain ?_)
  refine RL.pure rfl rfl rfl rfl ?_
  refine RL.done ?_
  refine CW.seq (CW.seq (CW.plain ?_))
  refine RL.pure rfl rfl rfl rfl ?_
  refine RL.ifEq rfl rfl rfl rfl Tryd.underlying90 rfl (.inr ⟨_, _, rfl⟩) ?_
  refine RL.done ?_
  refine CW.no rfl (CW.skip ?_)
  refine CW.seq (CW.seq (CW.plain ?_))
  refine RL.pure rfl rfl rfl rfl ?_
  refine RL.ifEq rfl rfl rfl rfl Tryd.underlying20 rfl (.inr ⟨_, _, rfl⟩) ?_
  refine RL.done ?_
  refine CW.no rfl (CW.skip ?_)
  have hg1 : Good _ s (Res.one _ _ :: A :: os) := hg.alloc (.cells #[ptr t] 97)
  refine CW.seq (CW.plain ?_)
  refine RL.pure rfl rfl rfl rfl ?_
  refine RL.ext rfl rfl rfl rfl rfl (vof_te _ _) ⟨trivial, ?_⟩
  refine RL.alloc rfl rfl rfl rfl ze116 hg1 ?_
  rintro b w2 hg2 hax2
  refine ⟨trivial, ?_⟩
  refine RL.store (i := 0) (j := 0) rfl rfl rfl ty116 rfl rfl hg2 rfl (if_pos rfl) rfl (by first | (simp [Value.cells, Value.oneCell']; done) | simp [Value.cells, Value.oneCell', putL]) (by first | exact Nat.le_of_ble_eq_true rfl | (simp; done) | (simp; omega) | omega) ?_
  rintro w3 hg3 hax3
  refine ⟨trivial, ?_⟩
  refine RL.done ?_
  obtain ⟨B, hg3, hb⟩ : ∃ B, Good w3 s (B :: Res.one w.heap.size (.cells #[ptr t] 97) :: A :: os) ∧ Holds B ⟨b, 0, none⟩ [.pointer (some ⟨1, 97, none⟩), ptr w.heap.size, .int .u64 150] := ⟨_, hg3, Holds.of (put_same _ _ _)⟩
  have hca : w3.cell? ⟨w.heap.size, 0, none⟩ = some (ptr t) := by
    have hla : w3.heap[w.heap.size]? = some (.cells #[ptr t] 97) := hg3.drop.1 w.heap.size _ (if_pos rfl)
    unfold World.cell?
    rw [hla]
    rfl
  refine CW.seq (CW.plain ?_)
  refine RL.loads (j := 0) rfl rfl rfl rfl ty116 rfl (hb) (hg3.1) rfl rfl ?_
  refine RL.ext rfl rfl rfl rfl rfl (typ_e _ _) ⟨trivial, ?_⟩
  refine RL.pure rfl rfl rfl rfl ?_
  refine RL.done ?_
  refine CW.seq (CW.seq (CW.plain ?_))
  refine RL.pure rfl rfl rfl rfl ?_
  refine RL.extI rfl rfl rfl rfl rfl rfl (kind_pe _) ⟨trivial, ?_⟩
  refine RL.pure rfl rfl rfl rfl ?_
  refine RL.pure rfl rfl rfl rfl ?_
  refine RL.loads (j := 0) rfl rfl rfl rfl ty116 rfl (hb) (hg3.1) rfl rfl ?_
  refine RL.ext rfl rfl rfl rfl rfl (isNil_e _ _ _ hca) ⟨trivial, ?_⟩
  refine RL.pure rfl rfl rfl rfl ?_
  refine RL.done ?_
  refine CW.no rfl (CW.skip ?_)
  refine CW.seq (CW.plain ?_)
  refine RL.pure rfl rfl rfl rfl ?_
  refine RL.extI rfl rfl rfl rfl rfl rfl (elem_pe _) ⟨trivial, ?_⟩
  refine RL.pure rfl rfl rfl rfl ?_
  refine RL.done ?_
  refine CW.seq (CW.seq (CW.plain ?_))
  refine RL.pure rfl rfl rfl rfl ?_
  refine RL.extI rfl rfl rfl rfl rfl rfl (kind_e _) ⟨trivial, ?_⟩
  refine RL.pure rfl rfl rfl rfl ?_
  refine RL.pure rfl rfl rfl rfl ?_
  refine RL.pure rfl rfl rfl rfl ?_
  refine RL.load (j := 0) rfl rfl rfl rfl ty119 rfl (het) (hg3.sh) rfl ?_
  refine RL.extI rfl rfl rfl rfl rfl rfl (impl_e _) ⟨trivial, ?_⟩
  refine RL.pure rfl rfl rfl rfl ?_
  refine RL.pure rfl rfl rfl rfl ?_
  refine RL.done ?_
  refine CW.no rfl (CW.skip ?_)
  refine CW.seq (CW.plain ?_)
  have hg4 : Good w3 s (A :: Res.one w.heap.size (.cells #[ptr t] 97) :: B :: os) := (hg3.swap.perm ((List.Perm.swap _ _ _).cons _)).swap
  refine RL.pure rfl rfl rfl rfl ?_
  refine RL.pure rfl rfl rfl rfl ?_
  refine RL.loads (j := 0) rfl rfl rfl rfl ty116 rfl (hb) (hg3.1) rfl rfl ?_
  refine RL.pure rfl rfl rfl rfl ?_
  refine RL.call rfl rfl rfl rfl rfl ca69 (as_e hg4 hq hA (if_pos rfl)) ?_
  rintro r s5 A5 w5 hle5 hg5 hax5 ⟨rfl, rfl, rfl⟩
  refine ⟨trivial, ?_⟩
  refine RL.pure rfl rfl rfl rfl ?_
  refine RL.done ?_
  exact CW.ret (ret (vs := [_]) ⟨_, _, rfl, rfl, rfl⟩ (Post.mk (Le.refl _) hg5.dropNext.dropNext ((Aux.alloc _ _).trans (hax2.trans (hax3.trans hax5))) ⟨rfl, rfl, rfl⟩))
end Go.Lw
