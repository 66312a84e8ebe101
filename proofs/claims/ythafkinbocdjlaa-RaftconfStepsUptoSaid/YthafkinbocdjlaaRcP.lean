/-
  Configurations: what a path's steps hang on: the function values.
-/
import Derived.Test.YthafkinbocdjlaaRcF
import Derived.Test.YthafkinbocdjlaaStEq
import Derived.Test.YthafkinbocdjlaaRules9
namespace Go.Lw
open Go.Proofs
attribute [local irreducible] RL RA

abbrev plW (a b : Bool) : Value := .agg #[.bool a, .bool b]
theorem plc_eq (a b c d : Bool) (w : World) : (binOp .eql 52 (plW a b) (plW c d)).run Try.prog w = .ok (.bool (a == c && b == d)) w := by
  have u1 := Try.underlying4
  have a1 := Try.isAgg4
  have z1 := Try.sizeOf4
  have hS : Try.prog.underlying 52 = some (.struct (Try.prog.fieldsOf 52)) := by kernel_rfl
  have hp : Try.prog.stoodInHeld 52 = false := by kernel_rfl
  rw [run_eql_struct, show (10000 : Nat) = 9999 + 1 from rfl, run_equalIn_agg w 9999 52 _ _ hS hp]
  simp only [Program.fieldsOf, Try.underlying52]
  cases a <;> cases b <;> cases c <;> cases d <;> go_simp
theorem plc_ne (a b c d : Bool) (w : World) : (binOp .neq 52 (plW a b) (plW c d)).run Try.prog w = .ok (.bool (!(a == c && b == d))) w := by
  have u1 := Try.underlying4
  have a1 := Try.isAgg4
  have z1 := Try.sizeOf4
  have hS : Try.prog.underlying 52 = some (.struct (Try.prog.fieldsOf 52)) := by kernel_rfl
  have hp : Try.prog.stoodInHeld 52 = false := by kernel_rfl
  rw [run_neq_struct, show (10000 : Nat) = 9999 + 1 from rfl, run_equalIn_agg w 9999 52 _ _ hS hp]
  simp only [Program.fieldsOf, Try.underlying52]
  cases a <;> cases b <;> cases c <;> cases d <;> go_simp

abbrev Way := Bool → Bool → Bool → Bool → Bool
def fallsW : Way := fun a _ _ d => a && d
def addW : Way := fun a b c d => (a == false && b == false) && !(c == false && d == false)
def votesW : Way := fun a _ c _ => c && !a
def goesW : Way := fun a b c d => (!(a == false && b == false) && (c == false && d == false)) || (a && d)
/-- A function value tells it, of a place and another one. -/
def TellsW (P : Program) (g : Nat) (cap : Array Value) (s : Res) (p : Way) : Prop :=
  ∀ (a b c d : Bool) (w : World) (s' : Res) (os : List Res), Le s s' → Good w s' os → Calls P g (#[plW a b, plW c d] ++ cap) w (PostV w s' os fun r => r = .bool (p a b c d))

set_option maxRecDepth 100000 in
theorem falls_tells {s : Res} : TellsW Try.prog 33 #[] s fallsW := fun a b c d w s' os _ hg => by
  show Calls Try.prog 33 #[plW a b, plW c d] w _
  refine enter (l := [plW a b, plW c d]) Try.func33 rfl Try.ntmps33 rfl ?_
  refine CW.seq (CW.plain ?_)
  refine RL.box rfl rfl rfl rfl rfl hg ?_
  rintro p w1 hg1 hax1
  refine ⟨trivial, ?_⟩
  refine RL.box rfl rfl rfl rfl rfl hg1 ?_
  rintro q w2 hg2 hax2
  refine ⟨trivial, ?_⟩
  refine RL.pure rfl rfl rfl rfl ?_
  refine RL.done ?_
  refine CW.seq (CW.plain ?_)
  cases a with
  | true =>
    refine RL.field rfl rfl rfl rfl fl52_0 rfl rfl ?_
    refine RL.load rfl rfl rfl rfl ty4 rfl (Holds.one p _ 52) (hg2.2.2.2.1) rfl ?_
    refine RL.pure rfl rfl rfl rfl ?_
    refine RL.field rfl rfl rfl rfl fl52_1 rfl rfl ?_
    refine RL.load (j := 1) rfl rfl rfl rfl ty4 rfl (Holds.one q _ 52) (hg2.1) rfl ?_
    refine RL.pure rfl rfl rfl rfl ?_
    refine RL.pure rfl rfl rfl rfl ?_
    refine RL.done ?_
    exact CW.ret (ret (vs := [_]) ⟨_, _, rfl, rfl, rfl⟩ (PostV.mk hg2.drop.drop (hax1.trans hax2) rfl))
  | false =>
    refine RL.field rfl rfl rfl rfl fl52_0 rfl rfl ?_
    refine RL.load rfl rfl rfl rfl ty4 rfl (Holds.one p _ 52) (hg2.2.2.2.1) rfl ?_
    refine RL.pure rfl rfl rfl rfl ?_
    refine RL.pass rfl rfl rfl ?_
    refine RL.pass rfl rfl rfl ?_
    refine RL.pure rfl rfl rfl rfl ?_
    refine RL.pure rfl rfl rfl rfl ?_
    refine RL.done ?_
    exact CW.ret (ret (vs := [_]) ⟨_, _, rfl, rfl, rfl⟩ (PostV.mk hg2.drop.drop (hax1.trans hax2) rfl))

set_option maxRecDepth 100000 in
theorem votes_tells {s : Res} : TellsW Try.prog 35 #[] s votesW := fun a b c d w s' os _ hg => by
  show Calls Try.prog 35 #[plW a b, plW c d] w _
  refine enter (l := [plW a b, plW c d]) Try.func35 rfl Try.ntmps35 rfl ?_
  refine CW.seq (CW.plain ?_)
  refine RL.box rfl rfl rfl rfl rfl hg ?_
  rintro p w1 hg1 hax1
  refine ⟨trivial, ?_⟩
  refine RL.box rfl rfl rfl rfl rfl hg1 ?_
  rintro q w2 hg2 hax2
  refine ⟨trivial, ?_⟩
  refine RL.pure rfl rfl rfl rfl ?_
  refine RL.done ?_
  refine CW.seq (CW.plain ?_)
  cases c with
  | true =>
    refine RL.field rfl rfl rfl rfl fl52_0 rfl rfl ?_
    refine RL.load rfl rfl rfl rfl ty4 rfl (Holds.one q _ 52) (hg2.1) rfl ?_
    refine RL.pure rfl rfl rfl rfl ?_
    refine RL.field rfl rfl rfl rfl fl52_0 rfl rfl ?_
    refine RL.load rfl rfl rfl rfl ty4 rfl (Holds.one p _ 52) (hg2.2.2.2.1) rfl ?_
    refine RL.pure rfl rfl rfl rfl ?_
    refine RL.pure rfl rfl rfl rfl ?_
    refine RL.pure rfl rfl rfl rfl ?_
    refine RL.done ?_
    exact CW.ret (ret (vs := [_]) ⟨_, _, rfl, rfl, rfl⟩ (PostV.mk hg2.drop.drop (hax1.trans hax2) rfl))
  | false =>
    refine RL.field rfl rfl rfl rfl fl52_0 rfl rfl ?_
    refine RL.load rfl rfl rfl rfl ty4 rfl (Holds.one q _ 52) (hg2.1) rfl ?_
    refine RL.pure rfl rfl rfl rfl ?_
    refine RL.pass rfl rfl rfl ?_
    refine RL.pass rfl rfl rfl ?_
    refine RL.pass rfl rfl rfl ?_
    refine RL.pure rfl rfl rfl rfl ?_
    refine RL.pure rfl rfl rfl rfl ?_
    refine RL.done ?_
    exact CW.ret (ret (vs := [_]) ⟨_, _, rfl, rfl, rfl⟩ (PostV.mk hg2.drop.drop (hax1.trans hax2) rfl))

set_option maxRecDepth 100000 in
theorem add_tells {s : Res} {n : Nat} (hn : Holds s ⟨n, 0, none⟩ [.bool false, .bool false]) : TellsW Try.prog 34 #[ptr n] s addW := fun a b c d w s' os hl hg => by
  have hn := hn.le hl
  show Calls Try.prog 34 #[plW a b, plW c d, ptr n] w _
  refine enter (l := [plW a b, plW c d, ptr n]) Try.func34 rfl Try.ntmps34 rfl ?_
  refine CW.seq (CW.plain ?_)
  refine RL.box rfl rfl rfl rfl rfl hg ?_
  rintro p w1 hg1 hax1
  refine ⟨trivial, ?_⟩
  refine RL.box rfl rfl rfl rfl rfl hg1 ?_
  rintro q w2 hg2 hax2
  refine ⟨trivial, ?_⟩
  refine RL.pure rfl rfl rfl rfl ?_
  refine RL.done ?_
  refine CW.seq (CW.plain ?_)
  refine RL.loads (j := 0) (us := [.bool a, .bool b]) rfl rfl rfl rfl ty52 rfl (Holds.one p _ 52) (hg2.2.2.2.1) rfl rfl ?_
  refine RL.loads (j := 0) (us := [.bool false, .bool false]) rfl rfl rfl rfl ty52 rfl (hn) (hg2.sh) rfl rfl ?_
  refine RL.stEq rfl rfl rfl rfl (by kernel_rfl) rfl rfl (plc_eq a b false false) ?_
  refine RL.pure rfl rfl rfl rfl ?_
  refine RL.part 9 rfl (fun h => ?_) (fun h => ?_)
  · refine RL.loads (j := 0) (us := [.bool c, .bool d]) rfl rfl rfl rfl ty52 rfl (Holds.one q _ 52) (hg2.1) rfl rfl ?_
    refine RL.loads (j := 0) (us := [.bool false, .bool false]) rfl rfl rfl rfl ty52 rfl (hn) (hg2.sh) rfl rfl ?_
    refine RL.stNe rfl rfl rfl rfl (by kernel_rfl) rfl rfl (plc_ne c d false false) ?_
    refine RL.pure rfl rfl rfl rfl ?_
    refine RL.pure rfl rfl rfl rfl ?_
    refine RL.done ?_
    exact CW.ret (ret (vs := [_]) ⟨_, _, rfl, rfl, rfl⟩ (PostV.mk hg2.drop.drop (hax1.trans hax2) (congrArg Value.bool (by simp only [addW]; rw [h, Bool.true_and]))))
  · refine RL.pass rfl rfl rfl ?_
    refine RL.pass rfl rfl rfl ?_
    refine RL.pass rfl rfl rfl ?_
    refine RL.pure rfl rfl rfl rfl ?_
    refine RL.pure rfl rfl rfl rfl ?_
    refine RL.done ?_
    exact CW.ret (ret (vs := [_]) ⟨_, _, rfl, rfl, rfl⟩ (PostV.mk hg2.drop.drop (hax1.trans hax2) (congrArg Value.bool (by simp only [addW]; rw [h, Bool.false_and]))))

set_option maxRecDepth 100000 in
theorem goes_tells {s : Res} {n f : Nat} (hn : Holds s ⟨n, 0, none⟩ [.bool false, .bool false]) (hf : Holds s ⟨f, 0, none⟩ [.func (.func 33) #[] #[]]) : TellsW Try.prog 36 #[ptr n, ptr f] s goesW := fun a b c d w s' os hl hg => by
  have hn := hn.le hl
  have hf := hf.le hl
  show Calls Try.prog 36 #[plW a b, plW c d, ptr n, ptr f] w _
  refine enter (l := [plW a b, plW c d, ptr n, ptr f]) Try.func36 rfl Try.ntmps36 rfl ?_
  refine CW.seq (CW.plain ?_)
  refine RL.box rfl rfl rfl rfl rfl hg ?_
  rintro p w1 hg1 hax1
  refine ⟨trivial, ?_⟩
  refine RL.box rfl rfl rfl rfl rfl hg1 ?_
  rintro q w2 hg2 hax2
  refine ⟨trivial, ?_⟩
  refine RL.pure rfl rfl rfl rfl ?_
  refine RL.done ?_
  refine CW.seq (CW.plain ?_)
  refine RL.loads (j := 0) (us := [.bool a, .bool b]) rfl rfl rfl rfl ty52 rfl (Holds.one p _ 52) (hg2.2.2.2.1) rfl rfl ?_
  refine RL.loads (j := 0) (us := [.bool false, .bool false]) rfl rfl rfl rfl ty52 rfl (hn) (hg2.sh) rfl rfl ?_
  refine RL.stNe rfl rfl rfl rfl (by kernel_rfl) rfl rfl (plc_ne a b false false) ?_
  refine RL.pure rfl rfl rfl rfl ?_
  refine RL.part 10 rfl (fun h => ?_) (fun h => ?_)
  · refine RL.loads (j := 0) (us := [.bool c, .bool d]) rfl rfl rfl rfl ty52 rfl (Holds.one q _ 52) (hg2.1) rfl rfl ?_
    refine RL.loads (j := 0) (us := [.bool false, .bool false]) rfl rfl rfl rfl ty52 rfl (hn) (hg2.sh) rfl rfl ?_
    refine RL.stEq rfl rfl rfl rfl (by kernel_rfl) rfl rfl (plc_eq c d false false) ?_
    refine RL.pure rfl rfl rfl rfl ?_
    refine RL.pure rfl rfl rfl rfl ?_
    refine RL.part 15 rfl (fun h2 => ?_) (fun h2 => ?_)
    · refine RL.pass rfl rfl rfl ?_
      refine RL.pass rfl rfl rfl ?_
      refine RL.pass rfl rfl rfl ?_
      refine RL.pass rfl rfl rfl ?_
      refine RL.pure rfl rfl rfl rfl ?_
      refine RL.pure rfl rfl rfl rfl ?_
      refine RL.done ?_
      exact CW.ret (ret (vs := [_]) ⟨_, _, rfl, rfl, rfl⟩ (PostV.mk hg2.drop.drop (hax1.trans hax2) (congrArg Value.bool (by simp only [goesW]; rw [h, h2]; rfl))))
    · refine RL.load (j := 0) rfl rfl rfl rfl ty50 rfl (hf) (hg2.sh) rfl ?_
      refine RL.loads (j := 0) (us := [.bool a, .bool b]) rfl rfl rfl rfl ty52 rfl (Holds.one p _ 52) (hg2.2.2.2.1) rfl rfl ?_
      refine RL.loads (j := 0) (us := [.bool c, .bool d]) rfl rfl rfl rfl ty52 rfl (Holds.one q _ 52) (hg2.1) rfl rfl ?_
      refine RL.callF rfl rfl rfl rfl rfl rfl ca33 (falls_tells a b c d w2 s' _ (Le.refl _) hg2) ?_
      rintro e w3 ⟨v3, rfl, hg3, hax3, rfl⟩
      refine ⟨_, rfl, trivial, ?_⟩
      refine RL.pure rfl rfl rfl rfl ?_
      refine RL.pure rfl rfl rfl rfl ?_
      refine RL.done ?_
      exact CW.ret (ret (vs := [_]) ⟨_, _, rfl, rfl, rfl⟩ (PostV.mk hg3.drop.drop (hax1.trans (hax2.trans hax3)) (congrArg Value.bool (by simp only [goesW, fallsW]; rw [h, h2]; rfl))))
  · refine RL.pass rfl rfl rfl ?_
    refine RL.pass rfl rfl rfl ?_
    refine RL.pass rfl rfl rfl ?_
    refine RL.pure rfl rfl rfl rfl ?_
    refine RL.pure rfl rfl rfl rfl ?_
    refine RL.load (j := 0) rfl rfl rfl rfl ty50 rfl (hf) (hg2.sh) rfl ?_
    refine RL.loads (j := 0) (us := [.bool a, .bool b]) rfl rfl rfl rfl ty52 rfl (Holds.one p _ 52) (hg2.2.2.2.1) rfl rfl ?_
    refine RL.loads (j := 0) (us := [.bool c, .bool d]) rfl rfl rfl rfl ty52 rfl (Holds.one q _ 52) (hg2.1) rfl rfl ?_
    refine RL.callF rfl rfl rfl rfl rfl rfl ca33 (falls_tells a b c d w2 s' _ (Le.refl _) hg2) ?_
    rintro e w3 ⟨v3, rfl, hg3, hax3, rfl⟩
    refine ⟨_, rfl, trivial, ?_⟩
    refine RL.pure rfl rfl rfl rfl ?_
    refine RL.pure rfl rfl rfl rfl ?_
    refine RL.done ?_
    exact CW.ret (ret (vs := [_]) ⟨_, _, rfl, rfl, rfl⟩ (PostV.mk hg3.drop.drop (hax1.trans (hax2.trans hax3)) (congrArg Value.bool (by simp only [goesW, fallsW]; rw [h]; rfl))))
end Go.Lw
