/-
  Reader.Err, Reader.Done, of both sides.
-/
import Derived.Test.YthaomecbklmmdaaDoorOpCodecAt
import Derived.Test.YthaomecbklmmdaaDoorOpCodecRl
namespace Go.Lw
open Go.Proofs
attribute [local irreducible] RL RA

def RS.errno (st : RS) : Int := (st.err.map (·.1)).getD 0
def RS.place (st : RS) : Int := (st.err.map (·.2)).getD 0
theorem RErr.rng {s : Res} {v : Value} {e : Option (Int × Int)} (h : RErr s v e) : Lw.rng .i64 ((e.map (·.1)).getD 0) := by
  cases e with
  | none => simp [Lw.rng]
  | some p => exact h.2.1

set_option maxRecDepth 100000 in
theorem Err_ct {w : World} {s A : Res} {os : List Res} {p : Nat} {bs : List Int} {st : RS} (hg : Good w s (A :: os)) (het : Et s) (hR : RdObj s A p bs st) :
    Calls Tryd.prog 21 #[ptr p] w (PostV w s (A :: os) fun r => r = .tuple #[.int .i64 st.errno, .int .i64 st.place]) := by
  obtain ⟨h0, h1, a, c, v, hp, hI, hv⟩ := hR
  refine enter (l := [ptr p]) Tryd.func21 rfl Tryd.ntmps21 rfl ?_
  refine CW.seq (CW.plain ?_)
  refine RL.pure rfl rfl rfl rfl ?_
  refine RL.pure rfl rfl rfl rfl ?_
  refine RL.done ?_
  refine CW.seq (CW.plain ?_)
  refine RL.alloc rfl rfl rfl rfl ze94 hg ?_
  rintro b1 w1 hg1 hax1
  refine ⟨trivial, ?_⟩
  refine RL.done ?_
  refine CW.seq (CW.plain ?_)
  refine RL.alloc rfl rfl rfl rfl ze27 hg1 ?_
  rintro b2 w2 hg2 hax2
  refine ⟨trivial, ?_⟩
  refine RL.done ?_
  have hax12 := hax1.trans hax2
  refine CW.seq (CW.seq (CW.plain ?_))
  rcases hst : st.err with _ | ⟨e, k⟩
  · rw [hst] at hv
    have hv : v = .nilIface := hv
    subst hv
    refine RL.pure rfl rfl rfl rfl ?_
    refine RL.pure rfl rfl rfl rfl ?_
    refine RL.field rfl rfl rfl rfl fl92_2 rfl rfl ?_
    refine RL.load rfl rfl rfl rfl ty90 rfl (Holds.of hp) (hg2.mem (r := A) (by simp)) rfl ?_
    refine RL.iface rfl rfl rfl rfl (by kernel_rfl) rfl ?_
    refine RL.callV rfl rfl rfl rfl rfl ca44 (As_nil hg2) ?_
    rintro v3 w3 hg3 hax3 rfl
    refine ⟨trivial, ?_⟩
    refine RL.pure rfl rfl rfl rfl ?_
    refine RL.pass rfl rfl rfl ?_
    refine RL.pass rfl rfl rfl ?_
    refine RL.pass rfl rfl rfl ?_
    refine RL.pass rfl rfl rfl ?_
    refine RL.pass rfl rfl rfl ?_
    refine RL.pass rfl rfl rfl ?_
    refine RL.pure rfl rfl rfl rfl ?_
    refine RL.done ?_
    refine CW.no rfl (CW.skip ?_)
    refine CW.seq (CW.plain ?_)
    refine RL.pure rfl rfl rfl rfl ?_
    refine RL.pure rfl rfl rfl rfl ?_
    refine RL.done ?_
    refine CW.ret (ret (vs := [_, _]) ⟨_, _, rfl, rfl, _, _, rfl, rfl, rfl⟩ (PostV.mk hg3.drop.drop (hax12.trans hax3) ?_))
    simp only [RS.errno, RS.place, hst]
    rfl
  · rw [hst] at hv
    obtain ⟨h0e, hre, hrk, q, rfl, hq⟩ := hv
    refine RL.pure rfl rfl rfl rfl ?_
    refine RL.pure rfl rfl rfl rfl ?_
    refine RL.field rfl rfl rfl rfl fl92_2 rfl rfl ?_
    refine RL.load rfl rfl rfl rfl ty90 rfl (Holds.of hp) (hg2.mem (r := A) (by simp)) rfl ?_
    refine RL.iface rfl rfl rfl rfl (by kernel_rfl) rfl ?_
    refine RL.call rfl rfl rfl rfl rfl ca44 (As_w hg2.swap het hq (if_pos rfl)) ?_
    rintro v3 s3 A3 w3 hle3 hg3 hax3 ⟨rfl, rfl, rfl⟩
    refine ⟨trivial, ?_⟩
    refine RL.pure rfl rfl rfl rfl ?_
    refine RL.pure rfl rfl rfl rfl ?_
    refine RL.pure rfl rfl rfl rfl ?_
    refine RL.field rfl rfl rfl rfl fl92_2 rfl rfl ?_
    refine RL.load rfl rfl rfl rfl ty90 rfl (Holds.of hp) (hg3.mem (r := A) (by simp)) rfl ?_
    refine RL.iface rfl rfl rfl rfl (by kernel_rfl) rfl ?_
    refine RL.call rfl rfl rfl rfl rfl ca44 (As_e hg3.swap het hq (if_pos rfl)) ?_
    rintro v4 s4 A4 w4 hle4 hg4 hax4 ⟨rfl, rfl, rfl⟩
    refine ⟨trivial, ?_⟩
    refine RL.pure rfl rfl rfl rfl ?_
    refine RL.done ?_
    refine CW.yes rfl (CW.seq ?_)
    have hW := (by simp [RS.errno, hst] : st.errno = e)
    have hK := (by simp [RS.place, hst] : st.place = k)
    have hgd := hg4.drew
    refine CW.draws [(true, 0), (true, 1), (true, 2), (true, 3), (true, 4), (false, 5), (false, 6)] (fun w => Good w s4 (Res.put (Res.one b2 _) b2 _ :: Res.put (Res.one b1 _) b1 _ :: A :: os)) mixed (by kernel_rfl) (by kernel_rfl) (by kernel_rfl) (by kernel_rfl) (hgd) ?_
    refine RL.loadT (j := 0) rfl rfl rfl rfl ty27 rfl (Holds.of (put_same _ _ _)) (fun w h => h.1) rfl ?_
    refine RL.loadT (j := 0) rfl rfl rfl rfl ty94 rfl (Holds.of (put_same _ _ _)) (fun w h => h.mem (List.mem_cons_of_mem _ List.mem_cons_self)) rfl ?_
    refine RL.pure rfl rfl rfl rfl ?_
    refine RL.field rfl rfl rfl rfl fl99_0 rfl rfl ?_
    refine RL.loadT rfl rfl rfl rfl ty3 rfl (hq) (fun w h => h.sh) rfl ?_
    refine RL.pure rfl rfl rfl rfl ?_
    refine RL.pure rfl rfl rfl rfl ?_
    refine RL.done ?_
    exact CW.ret (ret (vs := [_, _]) ⟨_, _, rfl, rfl, _, _, rfl, rfl, rfl⟩ (PostV.mk hg4.drew.drop.drop (hax12.trans (hax3.trans (hax4.trans (Aux.drew _)))) (by rw [hW, hK]; rfl)))

set_option maxRecDepth 100000 in
theorem RDone_ct {w : World} {s A : Res} {os : List Res} {p : Nat} {bs : List Int} {st : RS} (hg : Good w s (A :: os)) (het : Et s) (hR : RdObj s A p bs st) :
    Calls Tryd.prog 22 #[ptr p] w (PostV w s (A :: os) fun r => r = .int .i64 (if st.errno = 0 ∧ st.pos < bs.length then 15 else st.errno)) := by
  obtain ⟨h0, h1, a, c, v, hp, hI, hv⟩ := id hR
  refine enter (l := [ptr p]) Tryd.func22 rfl Tryd.ntmps22 rfl ?_
  refine CW.seq (CW.plain ?_)
  refine RL.pure rfl rfl rfl rfl ?_
  refine RL.done ?_
  refine CW.seq (CW.plain ?_)
  refine RL.pure rfl rfl rfl rfl ?_
  refine RL.callV rfl rfl rfl rfl rfl ca21 (Err_ct hg het hR) ?_
  rintro v1 w1 hg1 hax1 rfl
  refine ⟨trivial, ?_⟩
  refine RL.pure rfl rfl rfl rfl ?_
  refine RL.pure rfl rfl rfl rfl ?_
  refine RL.pure rfl rfl rfl rfl ?_
  refine RL.pure rfl rfl rfl rfl ?_
  refine RL.pure rfl rfl rfl rfl ?_
  refine RL.done ?_
  refine CW.seq (CW.seq ?_)
  refine CW.draws [(true, 0), (true, 1), (true, 2), (true, 3), (true, 4), (true, 5), (true, 6), (true, 7), (true, 8), (true, 9), (true, 10), (true, 11), (true, 12), (true, 13)] (fun w => Good w s (A :: os)) mixed (by kernel_rfl) (by kernel_rfl) (by kernel_rfl) (by kernel_rfl) (hg1.drew) ?_
  refine RL.pure rfl rfl rfl rfl ?_
  refine RL.pure rfl rfl rfl rfl ?_
  refine RL.pure rfl rfl rfl rfl ?_
  refine RL.part 12 rfl (fun h => ?_) (fun h => ?_)
  · have h : st.errno = 0 := by simpa using h
    refine RL.pure rfl rfl rfl rfl ?_
    refine RL.pure rfl rfl rfl rfl ?_
    refine RL.field rfl rfl rfl rfl fl92_1 rfl rfl ?_
    refine RL.loadT rfl rfl rfl rfl ty3 rfl (Holds.of hp) (fun w h => h.1) rfl ?_
    refine RL.pure rfl rfl rfl rfl ?_
    refine RL.pure rfl rfl rfl rfl ?_
    refine RL.field rfl rfl rfl rfl fl92_0 rfl rfl ?_
    refine RL.loadT (j := 0) rfl rfl rfl rfl ty22 rfl (Holds.of hp) (fun w h => h.1) rfl ?_
    refine RL.len rfl rfl rfl rfl sl22 rfl ?_
    refine RL.pure rfl rfl rfl rfl ?_
    refine RL.pure rfl rfl rfl rfl ?_
    refine RL.done ?_
    refine CW.test rfl (fun hl => ?_) (fun hl => ?_)
    · refine CW.seq (CW.plain ?_)
      refine RL.pure rfl rfl rfl rfl ?_
      refine RL.done ?_
      exact CW.ret (ret (vs := [_]) ⟨_, _, rfl, rfl, rfl⟩ (PostV.mk hg1.drew (hax1.trans (Aux.drew _)) (by rw [if_pos ⟨h, hl⟩]; rfl)))
    · refine CW.skip (CW.seq (CW.plain ?_))
      refine RL.pure rfl rfl rfl rfl ?_
      refine RL.pure rfl rfl rfl rfl ?_
      refine RL.done ?_
      exact CW.ret (ret (vs := [_]) ⟨_, _, rfl, rfl, rfl⟩ (PostV.mk hg1.drew (hax1.trans (Aux.drew _)) (by rw [if_neg fun z => hl z.2]; rfl)))
  · have h : ¬ st.errno = 0 := by simpa using h
    refine RL.pass rfl rfl rfl ?_
    refine RL.pass rfl rfl rfl ?_
    refine RL.pass rfl rfl rfl ?_
    refine RL.pass rfl rfl rfl ?_
    refine RL.pass rfl rfl rfl ?_
    refine RL.pass rfl rfl rfl ?_
    refine RL.pass rfl rfl rfl ?_
    refine RL.pass rfl rfl rfl ?_
    refine RL.pass rfl rfl rfl ?_
    refine RL.pass rfl rfl rfl ?_
    refine RL.pure rfl rfl rfl rfl ?_
    refine RL.done ?_
    refine CW.no rfl (CW.skip (CW.seq (CW.plain ?_)))
    refine RL.pure rfl rfl rfl rfl ?_
    refine RL.pure rfl rfl rfl rfl ?_
    refine RL.done ?_
    exact CW.ret (ret (vs := [_]) ⟨_, _, rfl, rfl, rfl⟩ (PostV.mk hg1.drew (hax1.trans (Aux.drew _)) (by rw [if_neg fun z => h z.1]; rfl)))

set_option maxRecDepth 100000 in
theorem rRDone_ct {w : World} {s A : Res} {os : List Res} {p : Nat} {bs : List Int} {st : RS} (hg : Good w s (A :: os)) (hR : RrObj s A p bs st) :
    Calls Tryd.prog 28 #[ptr p] w (PostV w s (A :: os) fun r => r = .int .i64 (if st.errno = 0 ∧ st.pos < bs.length then 15 else st.errno)) := by
  obtain ⟨h0, h1, a, c, bad, hp, hI, hv⟩ := id hR
  refine enter (l := [ptr p]) Tryd.func28 rfl Tryd.ntmps28 rfl ?_
  refine CW.seq (CW.plain ?_)
  refine RL.pure rfl rfl rfl rfl ?_
  refine RL.done ?_
  refine CW.seq (CW.seq ?_)
  refine CW.draws [(true, 0), (true, 1), (true, 2), (true, 3), (true, 4), (true, 5), (true, 6), (true, 7), (true, 8), (true, 9), (true, 10), (true, 11), (true, 12), (true, 13), (true, 14), (true, 15), (true, 16)] (fun w => Good w s (A :: os)) mixed (by kernel_rfl) (by kernel_rfl) (by kernel_rfl) (by kernel_rfl) (hg.drew) ?_
  refine RL.pure rfl rfl rfl rfl ?_
  refine RL.pure rfl rfl rfl rfl ?_
  refine RL.field rfl rfl rfl rfl fl65_2 rfl rfl ?_
  refine RL.loadT rfl rfl rfl rfl ty27 rfl (Holds.of hp) (fun w h => h.1) rfl ?_
  refine RL.pure rfl rfl rfl rfl ?_
  refine RL.pure rfl rfl rfl rfl ?_
  refine RL.part 8 rfl (fun h => ?_) (fun h => ?_)
  · have h : st.errno = 0 := by simpa [RS.errno] using h
    refine RL.pure rfl rfl rfl rfl ?_
    refine RL.pure rfl rfl rfl rfl ?_
    refine RL.field rfl rfl rfl rfl fl65_1 rfl rfl ?_
    refine RL.loadT rfl rfl rfl rfl ty3 rfl (Holds.of hp) (fun w h => h.1) rfl ?_
    refine RL.pure rfl rfl rfl rfl ?_
    refine RL.pure rfl rfl rfl rfl ?_
    refine RL.field rfl rfl rfl rfl fl65_0 rfl rfl ?_
    refine RL.loadT (j := 0) rfl rfl rfl rfl ty22 rfl (Holds.of hp) (fun w h => h.1) rfl ?_
    refine RL.len rfl rfl rfl rfl sl22 rfl ?_
    refine RL.pure rfl rfl rfl rfl ?_
    refine RL.pure rfl rfl rfl rfl ?_
    refine RL.done ?_
    refine CW.test rfl (fun hl => ?_) (fun hl => ?_)
    · refine CW.seq (CW.plain ?_)
      refine RL.pure rfl rfl rfl rfl ?_
      refine RL.done ?_
      exact CW.ret (ret (vs := [_]) ⟨_, _, rfl, rfl, rfl⟩ (PostV.mk hg.drew (Aux.drew _) (by rw [if_pos ⟨h, hl⟩]; rfl)))
    · refine CW.skip (CW.seq (CW.plain ?_))
      refine RL.pure rfl rfl rfl rfl ?_
      refine RL.pure rfl rfl rfl rfl ?_
      refine RL.field rfl rfl rfl rfl fl65_2 rfl rfl ?_
      refine RL.load rfl rfl rfl rfl ty27 rfl (Holds.of hp) (hg.1) rfl ?_
      refine RL.pure rfl rfl rfl rfl ?_
      refine RL.done ?_
      exact CW.ret (ret (vs := [_]) ⟨_, _, rfl, rfl, rfl⟩ (PostV.mk hg.drew (Aux.drew _) (by rw [if_neg fun z => hl z.2]; rfl)))
  · have h : ¬ st.errno = 0 := by simpa [RS.errno] using h
    refine RL.pass rfl rfl rfl ?_
    refine RL.pass rfl rfl rfl ?_
    refine RL.pass rfl rfl rfl ?_
    refine RL.pass rfl rfl rfl ?_
    refine RL.pass rfl rfl rfl ?_
    refine RL.pass rfl rfl rfl ?_
    refine RL.pass rfl rfl rfl ?_
    refine RL.pass rfl rfl rfl ?_
    refine RL.pass rfl rfl rfl ?_
    refine RL.pass rfl rfl rfl ?_
    refine RL.pure rfl rfl rfl rfl ?_
    refine RL.done ?_
    refine CW.no rfl (CW.skip (CW.seq (CW.plain ?_)))
    refine RL.pure rfl rfl rfl rfl ?_
    refine RL.pure rfl rfl rfl rfl ?_
    refine RL.field rfl rfl rfl rfl fl65_2 rfl rfl ?_
    refine RL.load rfl rfl rfl rfl ty27 rfl (Holds.of hp) (hg.1) rfl ?_
    refine RL.pure rfl rfl rfl rfl ?_
    refine RL.done ?_
    exact CW.ret (ret (vs := [_]) ⟨_, _, rfl, rfl, rfl⟩ (PostV.mk hg.drew (Aux.drew _) (by rw [if_neg fun z => h z.1]; rfl)))
end Go.Lw
