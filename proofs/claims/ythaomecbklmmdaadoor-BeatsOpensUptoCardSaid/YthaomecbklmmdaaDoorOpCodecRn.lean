/-
  New readers; texts as strings; what no error tells.
-/
import Derived.Test.YthaomecbklmmdaaDoorOpCodecRe
namespace Go.Lw
open Go.Proofs
attribute [local irreducible] RL RA

set_option maxRecDepth 100000 in
theorem NewReader_ct {w : World} {s r : Res} {os : List Res} {xs : List Int} {xa : Option Addr} {xc : Nat} (hg : Good w s os) (hr : r = s ∨ r ∈ os) (hx : xs = [] ∨ ∃ ad, xa = some ad ∧ Row (RInt .u8) 1 r s ad xs) (hl : xs.length ≤ 140737488355328) :
    Calls Tryd.prog 18 #[.slice xa xs.length xc] w (Post w s os fun s' A v => ∃ p, v = ptr p ∧ RdObj s' A p xs ⟨0, none⟩) := by
  refine enter (l := [.slice xa xs.length xc]) Tryd.func18 rfl Tryd.ntmps18 rfl ?_
  refine CW.seq (CW.plain ?_)
  refine RL.pure rfl rfl rfl rfl ?_
  refine RL.done ?_
  refine CW.seq (CW.plain ?_)
  refine RL.pure rfl rfl rfl rfl ?_
  refine RL.call rfl rfl rfl rfl rfl ca42 (CloneB_ct hg hr hx hl) ?_
  rintro v s1 B w1 hle1 hg1 hax1 ⟨a, c, rfl, hB⟩
  refine ⟨trivial, ?_⟩
  refine RL.build rfl rfl rfl rfl ze92 pl92 rfl rfl ?_
  refine RL.box rfl rfl rfl rfl rfl hg1 ?_
  rintro p w2 hg2 hax2
  refine ⟨trivial, ?_⟩
  refine RL.pure rfl rfl rfl rfl ?_
  refine RL.done ?_
  obtain ⟨s3, hg3, hle3, hB3⟩ := hg2.shareNext
  refine CW.ret (ret (vs := [_]) ⟨_, _, rfl, rfl, rfl⟩ (Post.mk (hle1.trans hle3) hg3 (hax1.trans hax2) ⟨p, rfl, Int.le_refl _, ?_, a, c, .nilIface, if_pos rfl, hB.imm (RInt.up _) hle3 hB3, rfl⟩))
  show (0 : Int) ≤ xs.length
  omega

set_option maxRecDepth 100000 in
theorem As_nil {w : World} {t : Value} {s : Res} {os : List Res} (hg : Good w s os) : Calls Tryd.prog 44 #[.nilIface, t] w (PostV w s os fun r => r = .bool false) := by
  refine enter (l := [.nilIface, t]) Tryd.func44 rfl Tryd.ntmps44 rfl ?_
  refine CW.seq (CW.plain ?_)
  refine RL.pure rfl rfl rfl rfl ?_
  refine RL.done ?_
  refine CW.seq (CW.seq (CW.plain ?_))
  refine RL.pure rfl rfl rfl rfl ?_
  refine RL.ifEq rfl rfl rfl rfl Tryd.underlying90 rfl (.inl rfl) ?_
  refine RL.done ?_
  refine CW.yes rfl ?_
  refine CW.seq (CW.plain ?_)
  refine RL.pure rfl rfl rfl rfl ?_
  refine RL.done ?_
  exact CW.ret (ret (vs := [_]) ⟨_, _, rfl, rfl, rfl⟩ (PostV.mk hg (Aux.refl _) rfl))
end Go.Lw
