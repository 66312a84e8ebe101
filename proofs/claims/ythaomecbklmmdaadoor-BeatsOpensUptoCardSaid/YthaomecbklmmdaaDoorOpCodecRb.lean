/-
  Signed numbers, bools, counts and texts are read.
-/
import Derived.Test.YthaomecbklmmdaaDoorOpCodecRr
namespace Go.Lw
open Go.Proofs
attribute [local irreducible] RL RA

def rdInt (bs : List Int) (st : RS) : Int × RS := (if (rdUint bs st).1 % 2 = 1 then -((rdUint bs st).1 / 2) - 1 else (rdUint bs st).1 / 2, (rdUint bs st).2)
theorem rdInt_rng (bs : List Int) (st : RS) (h : rng .u64 (rdUint bs st).1) : rng .i64 (rdInt bs st).1 := by
  simp only [rng, rdInt] at *
  split <;> omega

theorem and1 (x : Int) (_h : rng .u64 x) : IntKind.u64.wrap ((BitVec.ofInt IntKind.u64.bits x &&& BitVec.ofInt IntKind.u64.bits 1).toNat) = x % 2 := by
  change IntKind.u64.wrap ((BitVec.ofInt 64 x &&& BitVec.ofInt 64 1).toNat) = _
  have e : (BitVec.ofInt 64 1).toNat = 2 ^ 1 - 1 := by decide
  rw [BitVec.toNat_and, e, Nat.and_two_pow_sub_one_eq_mod, BitVec.toNat_ofInt, wrap_u64]
  omega
theorem wrap_i64 (v : Int) (h : rng .i64 v) : IntKind.i64.wrap v = v := h.wrap
theorem zag (v : Int) (h : rng .u64 v) : IntKind.i64.wrap ((BitVec.ofInt IntKind.i64.bits (v / 2) ^^^ BitVec.ofInt IntKind.i64.bits (-(v % 2))).toNat) = if v % 2 = 1 then -(v / 2) - 1 else v / 2 := by
  simp only [rng] at h
  change IntKind.i64.wrap ((BitVec.ofInt 64 _ ^^^ BitVec.ofInt 64 _).toNat) = _
  have hw : ∀ z : Int, IntKind.i64.wrap z = if z % 18446744073709551616 < 9223372036854775808 then z % 18446744073709551616 else z % 18446744073709551616 - 18446744073709551616 := by
    intro z
    simp only [IntKind.wrap, IntKind.bits, IntKind.signed]
    simp
    split <;> split <;> omega
  by_cases hv : v % 2 = 1
  · rw [if_pos hv, hv]
    have e3 : BitVec.ofInt 64 (-1) = BitVec.allOnes 64 := by decide
    rw [e3, BitVec.xor_allOnes, BitVec.toNat_not, BitVec.toNat_ofInt, hw]
    split <;> omega
  · rw [if_neg hv]
    have hv0 : v % 2 = 0 := by omega
    rw [hv0]
    have e3 : BitVec.ofInt 64 (-0) = 0#64 := by decide
    rw [e3, BitVec.xor_zero, BitVec.toNat_ofInt, hw]
    split <;> omega

set_option maxRecDepth 100000 in
theorem RdInt_ct {w : World} {s A : Res} {os : List Res} {p : Nat} {bs : List Int} {st : RS} (hg : Good w s (A :: os)) (hR : RdObj s A p bs st) :
    Calls Tryd.prog 37 #[ptr p] w (Post w s os fun s' A' r => r = .int .i64 (rdInt bs st).1 ∧ rng .i64 (rdInt bs st).1 ∧ RdObj s' A' p bs (rdInt bs st).2) := by
  refine enter (l := [ptr p]) Tryd.func37 rfl Tryd.ntmps37 rfl ?_
  refine CW.seq (CW.plain ?_)
  refine RL.pure rfl rfl rfl rfl ?_
  refine RL.done ?_
  refine CW.seq (CW.plain ?_)
  refine RL.pure rfl rfl rfl rfl ?_
  refine RL.call rfl rfl rfl rfl rfl ca36 (RdUint_ct hg hR) ?_
  rintro r s1 A1 w1 hle1 hg1 hax1 ⟨rfl, hr, hA1⟩
  refine ⟨trivial, ?_⟩
  refine RL.pure rfl rfl rfl rfl ?_
  refine RL.done ?_
  refine CW.seq (CW.plain ?_)
  have hr' := hr
  simp only [rng] at hr'
  refine RL.pure rfl rfl rfl rfl ?_
  refine RL.shr 1 rfl rfl rfl rfl rfl rfl rfl (by decide) ?_
  refine RL.conv rfl rfl rfl rfl Tryd.underlying36 Tryd.underlying3 rfl ((by simp only [rng]; omega)) ?_
  refine RL.pure rfl rfl rfl rfl ?_
  refine RL.as_ rfl rfl rfl rfl (.int .u64 ((rdUint bs st).1 % 2)) (congrArg (Value.int .u64) (and1 _ hr)) ?_
  refine RL.conv rfl rfl rfl rfl Tryd.underlying36 Tryd.underlying3 rfl ((by simp only [rng]; omega)) ?_
  refine RL.neg rfl rfl rfl rfl rfl ((by simp only [rng]; omega)) ?_
  refine RL.as_ rfl rfl rfl rfl (.int .i64 (rdInt bs st).1) (congrArg (Value.int .i64) (zag _ hr)) ?_
  refine RL.pure rfl rfl rfl rfl ?_
  refine RL.done ?_
  exact CW.ret (ret (vs := [_]) ⟨_, _, rfl, rfl, rfl⟩ (Post.mk hle1 hg1 hax1 ⟨rfl, rdInt_rng _ _ hr, hA1⟩))

set_option maxRecDepth 100000 in
theorem RrInt_ct {w : World} {s A : Res} {os : List Res} {p : Nat} {bs : List Int} {st : RS} (hg : Good w s (A :: os)) (hR : RrObj s A p bs st) :
    Calls Tryd.prog 48 #[ptr p] w (Post w s os fun s' A' r => r = .int .i64 (rdInt bs st).1 ∧ rng .i64 (rdInt bs st).1 ∧ RrObj s' A' p bs (rdInt bs st).2) := by
  refine enter (l := [ptr p]) Tryd.func48 rfl Tryd.ntmps48 rfl ?_
  refine CW.seq (CW.plain ?_)
  refine RL.pure rfl rfl rfl rfl ?_
  refine RL.done ?_
  refine CW.seq (CW.plain ?_)
  refine RL.pure rfl rfl rfl rfl ?_
  refine RL.call rfl rfl rfl rfl rfl ca45 (RrUint_ct hg hR) ?_
  rintro r s1 A1 w1 hle1 hg1 hax1 ⟨rfl, hr, hA1⟩
  refine ⟨trivial, ?_⟩
  refine RL.pure rfl rfl rfl rfl ?_
  refine RL.done ?_
  have hr' := hr
  simp only [rng] at hr'
  refine CW.seq (CW.seq (CW.plain ?_))
  refine RL.pure rfl rfl rfl rfl ?_
  refine RL.rem rfl rfl rfl rfl rfl rfl (hr'.1) (by omega) ?_
  refine RL.pure rfl rfl rfl rfl ?_
  refine RL.done ?_
  refine CW.eq rfl (fun h => ?_) (fun h => ?_)
  · refine CW.seq (CW.plain ?_)
    refine RL.pure rfl rfl rfl rfl ?_
    refine RL.quo rfl rfl rfl rfl rfl rfl (hr'.1) (by omega) (hr) ?_
    refine RL.conv rfl rfl rfl rfl Tryd.underlying36 Tryd.underlying3 rfl ((by simp only [rng]; omega)) ?_
    refine RL.neg rfl rfl rfl rfl rfl ((by simp only [rng]; omega)) ?_
    refine RL.sub rfl rfl rfl rfl rfl rfl ((by simp only [rng]; omega)) ?_
    refine RL.pure rfl rfl rfl rfl ?_
    refine RL.done ?_
    have e : (rdInt bs st).1 = -((rdUint bs st).1 / 2) - 1 := by simp only [rdInt]; rw [if_pos h]
    exact CW.ret (ret (vs := [_]) ⟨_, _, rfl, rfl, rfl⟩ (Post.mk hle1 hg1 hax1 ⟨by rw [e]; rfl, rdInt_rng _ _ hr, hA1⟩))
  · refine CW.skip ?_
    refine CW.seq (CW.plain ?_)
    refine RL.pure rfl rfl rfl rfl ?_
    refine RL.quo rfl rfl rfl rfl rfl rfl (hr'.1) (by omega) (hr) ?_
    refine RL.conv rfl rfl rfl rfl Tryd.underlying36 Tryd.underlying3 rfl ((by simp only [rng]; omega)) ?_
    refine RL.pure rfl rfl rfl rfl ?_
    refine RL.done ?_
    have e : (rdInt bs st).1 = (rdUint bs st).1 / 2 := by simp only [rdInt]; rw [if_neg h]
    exact CW.ret (ret (vs := [_]) ⟨_, _, rfl, rfl, rfl⟩ (Post.mk hle1 hg1 hax1 ⟨by rw [e]; rfl, rdInt_rng _ _ hr, hA1⟩))

/-! ### bools -/
def rdBool (bs : List Int) (st : RS) : Bool × RS :=
  match st.err with
  | some _ => (false, st)
  | none => match bs.drop st.pos.toNat with
    | [] => (false, st.fail 11)
    | c :: _ => if 1 < c then (false, st.fail 16) else (c == 1, ⟨st.pos + 1, none⟩)
theorem rdBool_some {bs : List Int} {st : RS} (h : st.err.isNone = false) : rdBool bs st = (false, st) := by
  unfold rdBool
  cases hs : st.err with
  | none => rw [hs] at h; cases h
  | some q => rfl
theorem rdBool_end {bs : List Int} {st : RS} (h : st.err.isNone = true) (hp : st.pos = bs.length) : rdBool bs st = (false, st.fail 11) := by
  unfold rdBool
  cases hs : st.err with
  | some q => rw [hs] at h; cases h
  | none =>
    have : bs.drop st.pos.toNat = [] := by rw [hp]; simp
    simp only [this]
theorem rdBool_at {bs : List Int} {st : RS} (h : st.err.isNone = true) (hp : st.pos.toNat < bs.length) : rdBool bs st = if 1 < bs[st.pos.toNat] then (false, st.fail 16) else (bs[st.pos.toNat] == 1, ⟨st.pos + 1, none⟩) := by
  unfold rdBool
  cases hs : st.err with
  | some q => rw [hs] at h; cases h
  | none =>
    have : bs.drop st.pos.toNat = bs[st.pos.toNat] :: bs.drop (st.pos.toNat + 1) := List.drop_eq_getElem_cons hp
    simp only [this]

set_option maxRecDepth 100000 in
theorem RdBool_ct {w : World} {s A : Res} {os : List Res} {p : Nat} {bs : List Int} {st : RS} (hg : Good w s (A :: os)) (hR : RdObj s A p bs st) :
    Calls Tryd.prog 39 #[ptr p] w (Post w s os fun s' A' r => r = .bool (rdBool bs st).1 ∧ RdObj s' A' p bs (rdBool bs st).2) := by
  have hR' := hR
  obtain ⟨h0, h1, a, c, v, hp, hI, hv⟩ := hR'
  have hmax := hI.le_max
  simp only [maxLen] at hmax
  have hnil := hv.nil
  refine enter (l := [ptr p]) Tryd.func39 rfl Tryd.ntmps39 rfl ?_
  refine CW.seq (CW.plain ?_)
  refine RL.pure rfl rfl rfl rfl ?_
  refine RL.done ?_
  refine CW.seq (CW.block (CW.seq (CW.plain ?_)))
  refine RL.pure rfl rfl rfl rfl ?_
  refine RL.pure rfl rfl rfl rfl ?_
  refine RL.field rfl rfl rfl rfl fl92_2 rfl rfl ?_
  refine RL.load rfl rfl rfl rfl ty90 rfl (Holds.of hp) (hg.1) rfl ?_
  refine RL.ifNe rfl rfl rfl rfl Tryd.underlying90 rfl (hv.isI) ?_
  refine RL.pure rfl rfl rfl rfl ?_
  refine RL.done ?_
  refine CW.cond rfl (fun hb => ?_) (fun hb => ?_)
  · refine CW.seq (CW.plain ?_)
    refine RL.pure rfl rfl rfl rfl ?_
    refine RL.done ?_
    have hst := rdBool_some (bs := bs) (st := st) (by rw [hnil] at hb; simpa using hb)
    exact CW.ret (ret (vs := [_]) ⟨_, _, rfl, rfl, rfl⟩ (Post.mk (Le.refl _) hg (Aux.refl _) (by rw [hst]; exact ⟨rfl, hR⟩)))
  have herr : st.err.isNone = true := by rw [hnil] at hb; simpa using hb
  refine CW.seq ?_
  refine CW.draws [(true, 0), (true, 1), (true, 2), (true, 3), (true, 4), (true, 5), (true, 6), (true, 7), (true, 8), (true, 9), (false, 10)] (fun w => Good w s (A :: os)) mixed (by kernel_rfl) (by kernel_rfl) (by kernel_rfl) (by kernel_rfl) (hg.drew) ?_
  refine RL.pure rfl rfl rfl rfl ?_
  refine RL.pure rfl rfl rfl rfl ?_
  refine RL.field rfl rfl rfl rfl fl92_1 rfl rfl ?_
  refine RL.loadT rfl rfl rfl rfl ty3 rfl (Holds.of hp) (fun w h => h.1) rfl ?_
  refine RL.pure rfl rfl rfl rfl ?_
  refine RL.pure rfl rfl rfl rfl ?_
  refine RL.field rfl rfl rfl rfl fl92_0 rfl rfl ?_
  refine RL.loadT rfl rfl rfl rfl ty22 rfl (Holds.of hp) (fun w h => h.1) rfl ?_
  refine RL.len rfl rfl rfl rfl sl22 rfl ?_
  refine RL.pure rfl rfl rfl rfl ?_
  refine RL.pure rfl rfl rfl rfl ?_
  refine RL.done ?_
  refine CW.eq rfl (fun hb => ?_) (fun hb => ?_)
  · refine CW.seq (CW.plain ?_)
    refine RL.pure rfl rfl rfl rfl ?_
    refine RL.call rfl rfl rfl rfl rfl ca20 (Fail_ct hg.drew hR (e := 11) (by simp [rng])) ?_
    rintro r s1 A1 w1 hle1 hg1 hax1 ⟨_, hA1⟩
    refine ⟨trivial, ?_⟩
    refine RL.done ?_
    refine CW.seq (CW.plain ?_)
    refine RL.pure rfl rfl rfl rfl ?_
    refine RL.done ?_
    have hst := rdBool_end herr hb
    exact CW.ret (ret (vs := [_]) ⟨_, _, rfl, rfl, rfl⟩ (Post.mk hle1 hg1 ((Aux.drew _).trans hax1) (by rw [hst]; exact ⟨rfl, hA1⟩)))
  have hlt : st.pos.toNat < bs.length := by omega
  have hst := rdBool_at herr hlt
  have hg2 := hg.drew.drew
  refine CW.seq ?_
  refine CW.draws [(true, 0), (true, 1), (true, 2), (true, 3), (true, 4), (true, 5), (true, 6), (true, 7), (true, 8), (true, 9), (true, 10), (false, 11)] (fun w => Good w s (A :: os)) mixed (by kernel_rfl) (by kernel_rfl) (by kernel_rfl) (by kernel_rfl) (hg2) ?_
  refine RL.pure rfl rfl rfl rfl ?_
  refine RL.pure rfl rfl rfl rfl ?_
  refine RL.field rfl rfl rfl rfl fl92_0 rfl rfl ?_
  refine RL.loadT rfl rfl rfl rfl ty22 rfl (Holds.of hp) (fun w h => h.1) rfl ?_
  refine RL.pure rfl rfl rfl rfl ?_
  refine RL.pure rfl rfl rfl rfl ?_
  refine RL.field rfl rfl rfl rfl fl92_1 rfl rfl ?_
  refine RL.loadT rfl rfl rfl rfl ty3 rfl (Holds.of hp) (fun w h => h.1) rfl ?_
  refine RL.idx rfl rfl rfl rfl sl22 rfl rfl (hI) (h0) (by omega) ?_
  rintro q vs hvl hH ⟨rfl, hr⟩
  refine RL.loadT rfl rfl rfl rfl ty5 rfl (hH) (fun w h => h.sh) rfl ?_
  refine RL.pure rfl rfl rfl rfl ?_
  refine RL.pure rfl rfl rfl rfl ?_
  refine RL.done ?_
  refine CW.test rfl (fun hb1 => ?_) (fun hb1 => ?_)
  · refine CW.seq (CW.plain ?_)
    refine RL.pure rfl rfl rfl rfl ?_
    refine RL.call rfl rfl rfl rfl rfl ca20 (Fail_ct hg2 hR (e := 16) (by simp [rng])) ?_
    rintro r s1 A1 w1 hle1 hg1 hax1 ⟨_, hA1⟩
    refine ⟨trivial, ?_⟩
    refine RL.done ?_
    refine CW.seq (CW.plain ?_)
    refine RL.pure rfl rfl rfl rfl ?_
    refine RL.done ?_
    rw [if_pos (show 1 < bs[st.pos.toNat] from hb1)] at hst
    exact CW.ret (ret (vs := [_]) ⟨_, _, rfl, rfl, rfl⟩ (Post.mk hle1 hg1 ((Aux.drew _).trans ((Aux.drew _).trans hax1)) (by rw [hst]; exact ⟨rfl, hA1⟩)))
  rw [if_neg (show ¬ 1 < bs[st.pos.toNat] from hb1)] at hst
  refine CW.skip (CW.seq (CW.plain ?_))
  refine RL.pure rfl rfl rfl rfl ?_
  refine RL.pure rfl rfl rfl rfl ?_
  refine RL.field rfl rfl rfl rfl fl92_1 rfl rfl ?_
  refine RL.load rfl rfl rfl rfl ty3 rfl (Holds.of hp) (hg2.1) rfl ?_
  refine RL.add rfl rfl rfl rfl rfl rfl ((by simp only [rng]; omega)) ?_
  refine RL.pure rfl rfl rfl rfl ?_
  refine RL.field rfl rfl rfl rfl fl92_1 rfl rfl ?_
  refine RL.store (i := 0) rfl rfl rfl ty3 rfl rfl hg2 rfl (hp) rfl (by first | (simp [Value.cells, Value.oneCell']; done) | simp [Value.cells, Value.oneCell', putL]) (by first | exact Nat.le_of_ble_eq_true rfl | (simp; done) | (simp; omega) | omega) ?_
  rintro w3 hg3 hax3
  refine ⟨trivial, ?_⟩
  refine RL.done ?_
  refine CW.seq ?_
  refine CW.draws [(true, 0), (true, 1), (true, 2), (true, 3), (true, 4), (true, 5), (true, 6), (true, 7), (true, 8), (true, 9), (true, 10), (true, 11), (false, 12)] (fun w => Good w s (A.put p (.cells #[.slice a bs.length c, .int .i64 (st.pos + 1), v] 92 (0, 0)) :: os)) mixed (by kernel_rfl) (by kernel_rfl) (by kernel_rfl) (by kernel_rfl) (hg3.drew) ?_
  refine RL.pure rfl rfl rfl rfl ?_
  refine RL.pure rfl rfl rfl rfl ?_
  refine RL.field rfl rfl rfl rfl fl92_0 rfl rfl ?_
  refine RL.loadT rfl rfl rfl rfl ty22 rfl ((Holds.of (put_same _ _ _))) (fun w h => h.1) rfl ?_
  refine RL.pure rfl rfl rfl rfl ?_
  refine RL.pure rfl rfl rfl rfl ?_
  refine RL.field rfl rfl rfl rfl fl92_1 rfl rfl ?_
  refine RL.loadT rfl rfl rfl rfl ty3 rfl ((Holds.of (put_same _ _ _))) (fun w h => h.1) rfl ?_
  refine RL.sub rfl rfl rfl rfl rfl rfl ((by simp only [rng]; omega)) ?_
  refine RL.idx rfl rfl rfl rfl sl22 rfl rfl (hI) (by omega) (by omega) ?_
  rintro q vs hvl hH ⟨rfl, hr2⟩
  refine RL.loadT rfl rfl rfl rfl ty5 rfl (hH) (fun w h => h.sh) rfl ?_
  refine RL.pure rfl rfl rfl rfl ?_
  refine RL.pure rfl rfl rfl rfl ?_
  refine RL.done ?_
  have e : (st.pos + 1 - 1).toNat = st.pos.toNat := by omega
  refine CW.ret (ret (vs := [_]) ⟨_, _, rfl, rfl, rfl⟩ (Post.mk (Le.refl _) hg3.drew ((Aux.drew _).trans ((Aux.drew _).trans (hax3.trans (Aux.drew _)))) ?_))
  rw [hst]
  refine ⟨by simp only [whole, e], ?_, ?_, a, c, v, put_same _ _ _, hI, ?_⟩
  · show 0 ≤ st.pos + 1
    omega
  · show st.pos + 1 ≤ bs.length
    omega
  · cases hs : st.err with
    | some q => rw [hs] at herr; cases herr
    | none => rw [hs] at hv; exact hv
end Go.Lw
