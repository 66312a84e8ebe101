/-
  The Writer: by the program (printed by beatsw.py out of the codec texts).
-/
import Derived.Test.YthaomecbklmmdaaDoorOpA1
import Derived.Test.YthaomecbklmmdaaDoorOpA2
import Derived.Test.YthaomecbklmmdaaDoorOpCodecTy
namespace Go.Lw
open Go.Proofs
attribute [local irreducible] RL RA

/-- A Writer at block p that has put these bytes. -/
def WObj (s A : Res) (p : Nat) (bs : List Int) : Prop := ∃ a c, A p = some (.cells #[.slice a bs.length c] 74 (0, 0)) ∧ Own (RInt .u8) 1 5 s A a c bs
theorem WObj.up {s s' A : Res} {p : Nat} {bs : List Int} (h : WObj s A p bs) (hl : Le s s') : WObj s' A p bs :=
  let ⟨a, c, h1, h2⟩ := h
  ⟨a, c, h1, h2.up (RInt.up _) hl⟩
set_option maxRecDepth 100000 in
theorem Uint_ct {w : World} {s A : Res} {os : List Res} {p : Nat} {bs : List Int} {v : Int} (hg : Good w s (A :: os)) (hA : WObj s A p bs) (hv : rng .u64 v) (hl : bs.length + 10 ≤ 140737488355328) :
    Calls Tryd.prog 55 #[ptr p, .int .u64 v] w (Post w s os fun s' A' r => r = .tuple #[] ∧ WObj s' A' p (bs ++ encU v)) := by
  refine enter (l := [ptr p, .int .u64 v]) Tryd.func55 rfl Tryd.ntmps55 rfl ?_
  refine CW.seq (CW.block (CW.loop (σ := Nat) (fun k E w' => ∃ s' A' u bs', E = [(0, ptr p), (1, .int .u64 u)] ∧ Good w' s' (A' :: os) ∧ Le s s' ∧ Aux w w' ∧ WObj s' A' p bs' ∧ rng .u64 u ∧ bs' ++ encF k u = bs ++ encU v ∧ bs'.length + k = bs.length + 9 ∧ u < 128 ^ (k + 1))
    (fun k => k) 9 [(0, ptr p), (1, .int .u64 v)] ⟨rfl, rfl, trivial⟩ ⟨s, A, v, bs, rfl, hg, Le.refl _, Aux.refl _, hA, hv, rfl, rfl, by simp only [rng] at hv; omega⟩ ?_))
  rintro k E w1 ⟨s1, A1, u, bs1, rfl, hg1, hle1, hax1, hA1, hu, he, hk, hlt⟩
  obtain ⟨a, c, hp, hown⟩ := hA1
  refine CW.seq (CW.seq (CW.plain ?_))
  refine RL.pure rfl rfl rfl rfl ?_
  refine RL.pure rfl rfl rfl rfl ?_
  refine RL.done ?_
  refine CW.test rfl (fun h => ?_) (fun h => ?_)
  · refine CW.skip ?_
    refine CW.seq (CW.block (CW.plain ?_))
    refine RL.pure rfl rfl rfl rfl ?_
    refine RL.pure rfl rfl rfl rfl ?_
    refine RL.pure rfl rfl rfl rfl ?_
    refine RL.field rfl rfl rfl rfl fl74_0 rfl rfl ?_
    refine RL.load rfl rfl rfl rfl ty22 rfl (Holds.of hp) (hg1.1) rfl ?_
    refine RL.pure rfl rfl rfl rfl ?_
    refine RL.convw rfl rfl rfl rfl Tryd.underlying36 Tryd.underlying5 rfl ?_
    refine RL.as_ rfl rfl rfl rfl (.int .u8 (u % 128 + 128)) ((by rw [or128 _ (rng_wrap .u8 u), wrap_u8]; congr 1; omega)) ?_
    refine RL.buildSlice rfl rfl rfl rfl sl22 ze5 rfl rfl rfl rfl hg1 ?_
    rintro b w2 hg2 hax2
    refine ⟨trivial, ?_⟩
    refine RL.append (i := 1) (ys := [u % 128 + 128]) rfl rfl rfl rfl sl22 ze5 rfl (by first | exact RInt.one _ | exact RStr.one | exact RBool.one | assumption) rfl rfl hg2 rfl hown ((Src.slice sl22 rfl (.inr ⟨_, rfl, Holds.one b _ 5⟩) hg2.1)) (Chunks.single rfl ⟨rfl, by (simp only [rng]; omega)⟩) (by (simp; omega)) (by omega) ?_
    rintro a2 c2 A2 w3 hg3 hown3 hax3 hkeep
    refine ⟨trivial, ?_⟩
    have hfar := hown.far hp (by decide)
    have hp2 := (hkeep p (by rw [hp]; simp) hfar).trans hp
    have hfar2 := hown3.far hp2 (by decide)
    refine RL.pure rfl rfl rfl rfl ?_
    refine RL.field rfl rfl rfl rfl fl74_0 rfl rfl ?_
    refine RL.store (i := 0) rfl rfl rfl ty22 rfl rfl hg3.drop rfl (hp2) rfl (by first | (simp [Value.cells, Value.oneCell']; done) | simp [Value.cells, Value.oneCell', putL]) (by first | exact Nat.le_of_ble_eq_true rfl | (simp; done) | (simp; omega) | omega) ?_
    rintro w4 hg4 hax4
    refine ⟨trivial, ?_⟩
    refine RL.done ?_
    refine CW.plain ?_
    refine RL.pure rfl rfl rfl rfl ?_
    refine RL.shr 7 rfl rfl rfl rfl rfl rfl rfl (by decide) ?_
    refine RL.pure rfl rfl rfl rfl ?_
    refine RL.done ?_
    cases k with
    | zero => simp only [rng] at *; omega
    | succ k =>
      refine fun ac ha => ⟨k, [(0, ptr p), (1, .int .u64 (u / 2 ^ 7))], ha.sub ⟨rfl, rfl, trivial⟩, ⟨s1, _, u / 2 ^ 7, bs1 ++ [u % 128 + 128], rfl, hg4, hle1, hax1.trans (hax2.trans (hax3.trans hax4)), ⟨a2, c2, put_same _ _ _, hown3.put hfar2 _⟩, ?_, ?_, ?_, ?_⟩, Nat.lt_succ_self k⟩
      · simp only [rng] at *; omega
      · rw [← he]; simp only [encF, if_neg (show ¬ u < 128 by omega), List.append_assoc]; rfl
      · simp; omega
      · omega
  · refine CW.exit (CW.plain ?_)
    refine RL.pure rfl rfl rfl rfl ?_
    refine RL.pure rfl rfl rfl rfl ?_
    refine RL.pure rfl rfl rfl rfl ?_
    refine RL.field rfl rfl rfl rfl fl74_0 rfl rfl ?_
    refine RL.load rfl rfl rfl rfl ty22 rfl (Holds.of hp) (hg1.1) rfl ?_
    refine RL.pure rfl rfl rfl rfl ?_
    refine RL.convw rfl rfl rfl rfl Tryd.underlying36 Tryd.underlying5 rfl ?_
    refine RL.buildSlice rfl rfl rfl rfl sl22 ze5 rfl rfl rfl rfl hg1 ?_
    rintro b w2 hg2 hax2
    refine ⟨trivial, ?_⟩
    refine RL.append (i := 1) (ys := [IntKind.u8.wrap u]) rfl rfl rfl rfl sl22 ze5 rfl (by first | exact RInt.one _ | exact RStr.one | exact RBool.one | assumption) rfl rfl hg2 rfl hown ((Src.slice sl22 rfl (.inr ⟨_, rfl, Holds.one b _ 5⟩) hg2.1)) (Chunks.single rfl ⟨rfl, rng_wrap _ _⟩) (by (simp; omega)) (by omega) ?_
    rintro a2 c2 A2 w3 hg3 hown3 hax3 hkeep
    refine ⟨trivial, ?_⟩
    have hfar := hown.far hp (by decide)
    have hp2 := (hkeep p (by rw [hp]; simp) hfar).trans hp
    have hfar2 := hown3.far hp2 (by decide)
    refine RL.pure rfl rfl rfl rfl ?_
    refine RL.field rfl rfl rfl rfl fl74_0 rfl rfl ?_
    refine RL.store (i := 0) rfl rfl rfl ty22 rfl rfl hg3.drop rfl (hp2) rfl (by first | (simp [Value.cells, Value.oneCell']; done) | simp [Value.cells, Value.oneCell', putL]) (by first | exact Nat.le_of_ble_eq_true rfl | (simp; done) | (simp; omega) | omega) ?_
    rintro w4 hg4 hax4
    refine ⟨trivial, ?_⟩
    refine RL.done ?_
    have h128 : u < 128 := by simpa using h
    have hlast : encF k u = [IntKind.u8.wrap u] := by
      rw [wrap_u8]
      simp only [rng] at hu
      cases k <;> simp [encF, h128] <;> omega
    refine fall (vs := []) rfl (Post.mk hle1 hg4 (hax1.trans (hax2.trans (hax3.trans hax4))) ⟨rfl, ?_⟩)
    rw [← he, hlast]
    exact ⟨a2, c2, put_same _ _ _, hown3.put hfar2 _⟩
def encT (xs : List Int) : List Int := encU xs.length ++ xs
def encB (b : Bool) : List Int := [if b then 1 else 0]
def encI (v : Int) : List Int := encU (if v < 0 then -2 * v - 1 else 2 * v)
/-- Bytes in an array of one's own. -/
def BOwn (s A : Res) (r : Value) (bs : List Int) : Prop := ∃ a c, r = .slice a bs.length c ∧ Own (RInt .u8) 1 5 s A a c bs
def encIs (xs : List Int) : List Int := xs.flatMap encI
def encN (xs : List Int) : List Int := encU xs.length ++ encIs xs
def encConf (c : Conf) : List Int := encN c.voters ++ encN c.learners
def encEntry (e : Entry) : List Int := encU e.index ++ encU e.term ++ encI e.kind ++ encT e.data ++ encConf e.conf
theorem encI_length (v : Int) : (encI v).length ≤ 10 := (encU_length _).2
theorem encIs_length (xs : List Int) : (encIs xs).length ≤ 10 * xs.length := by
  induction xs with
  | nil => simp [encIs]
  | cons x xs ih =>
    have := encI_length x
    simp only [encIs, List.flatMap_cons, List.length_append, List.length_cons] at *
    omega
theorem encN_length (xs : List Int) : (encN xs).length ≤ 10 + 10 * xs.length := by
  have h1 := encIs_length xs
  have h2 := encU_length (xs.length : Int)
  simp only [encN, List.length_append]; omega
theorem encT_length (xs : List Int) : (encT xs).length ≤ 10 + xs.length := by
  have h2 := encU_length (xs.length : Int)
  simp only [encT, List.length_append]; omega
theorem encConf_length (c : Conf) : (encConf c).length ≤ 20 + 10 * c.voters.length + 10 * c.learners.length := by
  have h1 := encN_length c.voters
  have h2 := encN_length c.learners
  simp only [encConf, List.length_append]; omega
theorem encIs_snoc (xs : List Int) (k : Nat) (hk : k < xs.length) : encIs (xs.take (k + 1)) = encIs (xs.take k) ++ encI xs[k] := by
  rw [← List.take_append_getElem hk, encIs, List.flatMap_append]
  simp [encIs]
set_option maxRecDepth 100000 in
theorem CloneB_ct {w : World} {s r : Res} {os : List Res} {xs : List Int} {xa : Option Addr} {xc : Nat} (hg : Good w s os) (hr : r = s ∨ r ∈ os) (hx : xs = [] ∨ ∃ ad, xa = some ad ∧ Row (RInt .u8) 1 r s ad xs) (hl : xs.length ≤ 140737488355328) :
    Calls Tryd.prog 42 #[.slice xa xs.length xc] w (Post w s os fun s' A r => BOwn s' A r xs) := by
  refine enter (l := [.slice xa xs.length xc]) Tryd.func42 rfl Tryd.ntmps42 rfl ?_
  refine CW.seq (CW.plain ?_)
  refine RL.pure rfl rfl rfl rfl ?_
  refine RL.done ?_
  refine CW.seq (CW.seq (CW.plain ?_))
  refine RL.pure rfl rfl rfl rfl ?_
  refine RL.nilEq rfl rfl rfl rfl sl22 rfl rfl ?_
  refine RL.done ?_
  refine CW.cond rfl (fun h => ?_) (fun h => ?_)
  · refine CW.seq (CW.plain ?_)
    refine RL.pure rfl rfl rfl rfl ?_
    refine RL.done ?_
    have hnil : xs = [] := by
      rcases hx with hx | ⟨ad, rfl, _⟩
      · exact hx
      · cases h
    subst hnil
    exact CW.ret (ret (vs := [_]) ⟨_, _, rfl, rfl, rfl⟩ (Post.mk (Le.refl _) hg.nil (Aux.refl _) ⟨none, 0, rfl, Own.nil _ _ _ _ _⟩))
  · refine CW.skip ?_
    refine CW.seq (CW.plain ?_)
    refine RL.buildSlice rfl rfl rfl rfl sl22 ze5 rfl rfl rfl rfl hg ?_
    rintro b w1 hg1 hax1
    refine ⟨trivial, ?_⟩
    refine RL.pure rfl rfl rfl rfl ?_
    obtain ⟨news, hsrc, hch⟩ := Src.row (c := xc) sl22 hx (hg1.drop.has hr)
    have hown0 : Own (RInt .u8) 1 5 s (Res.one b (.cells #[] 5)) (some ⟨b, 0, none⟩) 0 [] := .inr ⟨b, #[], rfl, if_pos rfl, Nat.le_refl _, Nat.zero_le _, rfl, rfl⟩
    refine RL.append (i := 0) (ys := xs) rfl rfl rfl rfl sl22 ze5 rfl (by first | exact RInt.one _ | exact RStr.one | exact RBool.one | assumption) rfl rfl hg1 rfl hown0 (hsrc) (hch) ((by simp; omega)) (by omega) ?_
    rintro a2 c2 A2 w2 hg2 hown2 hax2 hkeep
    refine ⟨trivial, ?_⟩
    refine RL.pure rfl rfl rfl rfl ?_
    refine RL.done ?_
    exact CW.ret (ret (vs := [_]) ⟨_, _, rfl, rfl, rfl⟩ (Post.mk (Le.refl _) hg2 (hax1.trans hax2) ⟨a2, c2, rfl, hown2⟩))
set_option maxRecDepth 100000 in
theorem Done_ct {w : World} {s A : Res} {os : List Res} {p : Nat} {bs : List Int} (hg : Good w s (A :: os)) (hA : WObj s A p bs) (hl : bs.length ≤ 140737488355328) :
    Calls Tryd.prog 61 #[ptr p] w (Post w s (A :: os) fun s' B r => BOwn s' B r bs) := by
  obtain ⟨a, c, hp, hown⟩ := hA
  refine enter (l := [ptr p]) Tryd.func61 rfl Tryd.ntmps61 rfl ?_
  refine CW.seq (CW.plain ?_)
  refine RL.pure rfl rfl rfl rfl ?_
  refine RL.done ?_
  refine CW.seq (CW.plain ?_)
  refine RL.pure rfl rfl rfl rfl ?_
  refine RL.pure rfl rfl rfl rfl ?_
  refine RL.field rfl rfl rfl rfl fl74_0 rfl rfl ?_
  refine RL.load rfl rfl rfl rfl ty22 rfl (Holds.of hp) (hg.1) rfl ?_
  refine RL.call rfl rfl rfl rfl rfl ca42 (CloneB_ct (r := A) hg (.inr (by simp)) hown.row hl) ?_
  rintro v s1 B w1 hle1 hg1 hax1 hB
  refine ⟨trivial, ?_⟩
  refine RL.pure rfl rfl rfl rfl ?_
  refine RL.done ?_
  exact CW.ret (ret (vs := [_]) ⟨_, _, rfl, rfl, rfl⟩ (Post.mk hle1 hg1 hax1 hB))
end Go.Lw
