/-
  The document's Reader fails.
-/
import Derived.Test.YthaomecbklmmdaaDoorOpBrE
namespace Go.Lw
open Go.Proofs
attribute [local irreducible] RL RA

set_option maxRecDepth 100000 in
theorem rFail_ct {w : World} {s A : Res} {os : List Res} {p : Nat} {bs : List Int} {st : RS} {e : Int} (hg : Good w s (A :: os)) (hR : RrObj s A p bs st) (he : rng .i64 e) :
    Calls Tryd.prog 25 #[ptr p, .int .i64 e] w (Post w s os fun s' A' r => r = .tuple #[] ∧ RrObj s' A' p bs (st.fail e)) := by
  obtain ⟨h0, h1, a, c, bad, hp, hI, hv⟩ := id hR
  refine enter (l := [ptr p, .int .i64 e]) Tryd.func25 rfl Tryd.ntmps25 rfl ?_
  refine CW.plain ?_
  refine RL.pure rfl rfl rfl rfl ?_
  refine RL.pure rfl rfl rfl rfl ?_
  refine RL.pure rfl rfl rfl rfl ?_
  refine RL.pure rfl rfl rfl rfl ?_
  refine RL.field rfl rfl rfl rfl fl65_1 rfl rfl ?_
  refine RL.load rfl rfl rfl rfl ty3 rfl (Holds.of hp) (hg.1) rfl ?_
  refine RL.call rfl rfl rfl rfl rfl ca46 (rfailAt_ct hg hR he ⟨h0, h1⟩) ?_
  rintro r s1 A1 w1 hle1 hg1 hax1 ⟨_, h⟩
  refine ⟨trivial, ?_⟩
  refine RL.done ?_
  exact fall (vs := []) rfl (Post.mk hle1 hg1 hax1 ⟨rfl, h⟩)
end Go.Lw
