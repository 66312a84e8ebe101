/-
  The Writer in a box (printed by beatsw.py out of the codec texts).
-/
import Derived.Test.YthaomecbklmmdaaDoorOpBwW
namespace Go.Lw
open Go.Proofs
attribute [local irreducible] RL RA

abbrev at1 (p : Nat) : Value := .pointer (some ⟨p, 1, none⟩)
/-- A box at block p: a number, and a Writer that has put these bytes. -/
def BObj (s A : Res) (p : Nat) (mn : Int) (bs : List Int) : Prop := ∃ a c, A p = some (.cells #[i64 mn, .slice a bs.length c] 76 (0, 0)) ∧ Own (RInt .u8) 1 5 s A a c bs
theorem BObj.up {s s' A : Res} {p : Nat} {mn : Int} {bs : List Int} (h : BObj s A p mn bs) (hl : Le s s') : BObj s' A p mn bs :=
  let ⟨a, c, h1, h2⟩ := h
  ⟨a, c, h1, h2.up (RInt.up _) hl⟩
set_option maxRecDepth 100000 in
theorem bUint_ct {w : World} {s A : Res} {os : List Res} {p : Nat} {mn : Int} {bs : List Int} {v : Int} (hg : Good w s (A :: os)) (hA : BObj s A p mn bs) (hv : rng .u64 v) (hl : bs.length + 10 ≤ 140737488355328) :
    Calls Tryd.prog 55 #[at1 p, .int .u64 v] w (Post w s os fun s' A' r => r = .tuple #[] ∧ BObj s' A' p mn (bs ++ encU v)) := by
  refine enter (l := [at1 p, .int .u64 v]) Tryd.func55 rfl Tryd.ntmps55 rfl ?_
  refine CW.seq (CW.block (CW.loop (σ := Nat) (fun k E w' => ∃ s' A' u bs', E = [(0, at1 p), (1, .int .u64 u)] ∧ Good w' s' (A' :: os) ∧ Le s s' ∧ Aux w w' ∧ BObj s' A' p mn bs' ∧ rng .u64 u ∧ bs' ++ encF k u = bs ++ encU v ∧ bs'.length + k = bs.length + 9 ∧ u < 128 ^ (k + 1))
    (fun k => k) 9 [(0, at1 p), (1, .int .u64 v)] ⟨rfl, rfl, trivial⟩ ⟨s, A, v, bs, rfl, hg, Le.refl _, Aux.refl _, hA, hv, rfl, rfl, by simp only [rng] at hv; omega⟩ ?_))
  rintro k E w1 ⟨s1, A1, u, bs1, rfl, hg1, hle1, hax1, hA1, hu, he, hk, hlt⟩
  obtain ⟨a, c, hp, hown⟩ := hA1
  refine CW.seq (CW.seq (CW.plain ?_))
  refine RL.pure rfl rfl rfl rfl ?_
  refine RL.pure rfl rfl rfl rfl ?_
  refine RL.done ?_
  refine CW.test rfl (fun h => ?_) (fun h => ?_)
  · refine CW.skip ?_
    refine CW.seq (CW.block (CW.plain ?_))
    refine RL.pure rfl rfl rfl rfl ?_
    refine RL.pure rfl rfl rfl rfl ?_
    refine RL.pure rfl rfl rfl rfl ?_
    refine RL.field rfl rfl rfl rfl fl74_0 rfl rfl ?_
    refine RL.load (j := 1) rfl rfl rfl rfl ty22 rfl (Holds.of hp) (hg1.1) rfl ?_
    refine RL.pure rfl rfl rfl rfl ?_
    refine RL.convw rfl rfl rfl rfl Tryd.underlying36 Tryd.underlying5 rfl ?_
    refine RL.as_ rfl rfl rfl rfl (.int .u8 (u % 128 + 128)) ((by rw [or128 _ (rng_wrap .u8 u), wrap_u8]; congr 1; omega)) ?_
    refine RL.buildSlice rfl rfl rfl rfl sl22 ze5 rfl rfl rfl rfl hg1 ?_
    rintro b w2 hg2 hax2
    refine ⟨trivial, ?_⟩
    refine RL.append (i := 1) (ys := [u % 128 + 128]) rfl rfl rfl rfl sl22 ze5 rfl (by first | exact RInt.one _ | exact RStr.one | exact RBool.one | assumption) rfl rfl hg2 rfl hown ((Src.slice sl22 rfl (.inr ⟨_, rfl, Holds.one b _ 5⟩) hg2.1)) (Chunks.single rfl ⟨rfl, by (simp only [rng]; omega)⟩) (by (simp; omega)) (by omega) ?_
    rintro a2 c2 A2 w3 hg3 hown3 hax3 hkeep
    refine ⟨trivial, ?_⟩
    have hfar := hown.far hp (by decide)
    have hp2 := (hkeep p (by rw [hp]; simp) hfar).trans hp
    have hfar2 := hown3.far hp2 (by decide)
    refine RL.pure rfl rfl rfl rfl ?_
    refine RL.field rfl rfl rfl rfl fl74_0 rfl rfl ?_
    refine RL.store (i := 0) (j := 1) rfl rfl rfl ty22 rfl rfl hg3.drop rfl (hp2) rfl (by first | (simp [Value.cells, Value.oneCell']; done) | simp [Value.cells, Value.oneCell', putL]) (by first | exact Nat.le_of_ble_eq_true rfl | (simp; done) | (simp; omega) | omega) ?_
    rintro w4 hg4 hax4
    refine ⟨trivial, ?_⟩
    refine RL.done ?_
    refine CW.plain ?_
    refine RL.pure rfl rfl rfl rfl ?_
    refine RL.shr 7 rfl rfl rfl rfl rfl rfl rfl (by decide) ?_
    refine RL.pure rfl rfl rfl rfl ?_
    refine RL.done ?_
    cases k with
    | zero => simp only [rng] at *; omega
    | succ k =>
      refine fun ac ha => ⟨k, [(0, at1 p), (1, .int .u64 (u / 2 ^ 7))], ha.sub ⟨rfl, rfl, trivial⟩, ⟨s1, _, u / 2 ^ 7, bs1 ++ [u % 128 + 128], rfl, hg4, hle1, hax1.trans (hax2.trans (hax3.trans hax4)), ⟨a2, c2, put_same _ _ _, hown3.put hfar2 _⟩, ?_, ?_, ?_, ?_⟩, Nat.lt_succ_self k⟩
      · simp only [rng] at *; omega
      · rw [← he]; simp only [encF, if_neg (show ¬ u < 128 by omega), List.append_assoc]; rfl
      · simp; omega
      · omega
  · refine CW.exit (CW.plain ?_)
    refine RL.pure rfl rfl rfl rfl ?_
    refine RL.pure rfl rfl rfl rfl ?_
    refine RL.pure rfl rfl rfl rfl ?_
    refine RL.field rfl rfl rfl rfl fl74_0 rfl rfl ?_
    refine RL.load (j := 1) rfl rfl rfl rfl ty22 rfl (Holds.of hp) (hg1.1) rfl ?_
    refine RL.pure rfl rfl rfl rfl ?_
    refine RL.convw rfl rfl rfl rfl Tryd.underlying36 Tryd.underlying5 rfl ?_
    refine RL.buildSlice rfl rfl rfl rfl sl22 ze5 rfl rfl rfl rfl hg1 ?_
    rintro b w2 hg2 hax2
    refine ⟨trivial, ?_⟩
    refine RL.append (i := 1) (ys := [IntKind.u8.wrap u]) rfl rfl rfl rfl sl22 ze5 rfl (by first | exact RInt.one _ | exact RStr.one | exact RBool.one | assumption) rfl rfl hg2 rfl hown ((Src.slice sl22 rfl (.inr ⟨_, rfl, Holds.one b _ 5⟩) hg2.1)) (Chunks.single rfl ⟨rfl, rng_wrap _ _⟩) (by (simp; omega)) (by omega) ?_
    rintro a2 c2 A2 w3 hg3 hown3 hax3 hkeep
    refine ⟨trivial, ?_⟩
    have hfar := hown.far hp (by decide)
    have hp2 := (hkeep p (by rw [hp]; simp) hfar).trans hp
    have hfar2 := hown3.far hp2 (by decide)
    refine RL.pure rfl rfl rfl rfl ?_
    refine RL.field rfl rfl rfl rfl fl74_0 rfl rfl ?_
    refine RL.store (i := 0) (j := 1) rfl rfl rfl ty22 rfl rfl hg3.drop rfl (hp2) rfl (by first | (simp [Value.cells, Value.oneCell']; done) | simp [Value.cells, Value.oneCell', putL]) (by first | exact Nat.le_of_ble_eq_true rfl | (simp; done) | (simp; omega) | omega) ?_
    rintro w4 hg4 hax4
    refine ⟨trivial, ?_⟩
    refine RL.done ?_
    have h128 : u < 128 := by simpa using h
    have hlast : encF k u = [IntKind.u8.wrap u] := by
      rw [wrap_u8]
      simp only [rng] at hu
      cases k <;> simp [encF, h128] <;> omega
    refine fall (vs := []) rfl (Post.mk hle1 hg4 (hax1.trans (hax2.trans (hax3.trans hax4))) ⟨rfl, ?_⟩)
    rw [← he, hlast]
    exact ⟨a2, c2, put_same _ _ _, hown3.put hfar2 _⟩
set_option maxRecDepth 100000 in
theorem bBytes_ct {w : World} {s A : Res} {os : List Res} {p : Nat} {mn : Int} {bs : List Int} {xs : List Int} {xa : Option Addr} {xc : Nat} (hg : Good w s (A :: os)) (hA : BObj s A p mn bs) (hx : Imm (RInt .u8) 1 s xa xc xs) (hl : bs.length + 10 + xs.length ≤ 140737488355328) :
    Calls Tryd.prog 60 #[at1 p, .slice xa xs.length xc] w (Post w s os fun s' A' r => r = .tuple #[] ∧ BObj s' A' p mn (bs ++ encT xs)) := by
  refine enter (l := [at1 p, .slice xa xs.length xc]) Tryd.func60 rfl Tryd.ntmps60 rfl ?_
  refine CW.seq (CW.plain ?_)
  refine RL.pure rfl rfl rfl rfl ?_
  refine RL.pure rfl rfl rfl rfl ?_
  refine RL.len rfl rfl rfl rfl sl22 rfl ?_
  refine RL.conv rfl rfl rfl rfl Tryd.underlying3 Tryd.underlying36 rfl ((by simp only [rng]; omega)) ?_
  refine RL.call rfl rfl rfl rfl rfl ca55 (bUint_ct hg hA (by simp only [rng]; omega) (by omega)) ?_
  rintro v s1 A1 w1 hle1 hg1 hax1 ⟨_, a, c, hp, hown⟩
  refine ⟨trivial, ?_⟩
  refine RL.done ?_
  refine CW.plain ?_
  have hu := encU_length (xs.length : Int)
  obtain ⟨news, hsrc, hch⟩ := Src.imm sl22 (hx.up (RInt.up _) hle1) hg1.sh
  refine RL.pure rfl rfl rfl rfl ?_
  refine RL.pure rfl rfl rfl rfl ?_
  refine RL.pure rfl rfl rfl rfl ?_
  refine RL.field rfl rfl rfl rfl fl74_0 rfl rfl ?_
  refine RL.load (j := 1) rfl rfl rfl rfl ty22 rfl (Holds.of hp) (hg1.1) rfl ?_
  refine RL.pure rfl rfl rfl rfl ?_
  refine RL.append (i := 0) (ys := xs) rfl rfl rfl rfl sl22 ze5 rfl (by first | exact RInt.one _ | exact RStr.one | exact RBool.one | assumption) rfl rfl hg1 rfl hown (hsrc) (hch) (by (simp; omega)) (by omega) ?_
  rintro a2 c2 A2 w3 hg3 hown3 hax3 hkeep
  refine ⟨trivial, ?_⟩
  have hfar := hown.far hp (by decide)
  have hp2 := (hkeep p (by rw [hp]; simp) hfar).trans hp
  have hfar2 := hown3.far hp2 (by decide)
  refine RL.pure rfl rfl rfl rfl ?_
  refine RL.field rfl rfl rfl rfl fl74_0 rfl rfl ?_
  refine RL.store (i := 0) (j := 1) rfl rfl rfl ty22 rfl rfl hg3 rfl (hp2) rfl (by first | (simp [Value.cells, Value.oneCell']; done) | simp [Value.cells, Value.oneCell', putL]) (by first | exact Nat.le_of_ble_eq_true rfl | (simp; done) | (simp; omega) | omega) ?_
  rintro w4 hg4 hax4
  refine ⟨trivial, ?_⟩
  refine RL.done ?_
  refine fall (vs := []) rfl (Post.mk hle1 hg4 (hax1.trans (hax3.trans hax4)) ⟨rfl, ?_⟩)
  have e : bs ++ encT xs = bs ++ encU (xs.length : Int) ++ xs := by simp [encT]
  rw [e]
  exact ⟨a2, c2, put_same _ _ _, hown3.put hfar2 _⟩
set_option maxRecDepth 100000 in
theorem bBool_ct {w : World} {s A : Res} {os : List Res} {p : Nat} {mn : Int} {bs : List Int} {v : Bool} (hg : Good w s (A :: os)) (hA : BObj s A p mn bs) (hl : bs.length + 10 ≤ 140737488355328) :
    Calls Tryd.prog 56 #[at1 p, .bool v] w (Post w s os fun s' A' r => r = .tuple #[] ∧ BObj s' A' p mn (bs ++ encB v)) := by
  refine enter (l := [at1 p, .bool v]) Tryd.func56 rfl Tryd.ntmps56 rfl ?_
  obtain ⟨a, c, hp, hown⟩ := hA
  refine CW.seq (CW.plain ?_)
  refine RL.pure rfl rfl rfl rfl ?_
  refine RL.done ?_
  refine CW.meet (fun E w' => w' = w ∧ E = [(0, at1 p), (4, .int .u8 (if v then 1 else 0))]) (CW.seq (CW.plain ?_)) ?_
  · refine RL.pure rfl rfl rfl rfl ?_
    refine RL.done ?_
    refine CW.cond rfl (fun h => CW.plain ?_) (fun h => CW.skip ?_)
    · refine RL.pure rfl rfl rfl rfl ?_
      refine RL.done ?_
      exact fun ac ha => ⟨[(0, at1 p), (4, .int .u8 (if v then 1 else 0))], ha.sub ⟨rfl, by rw [h]; rfl, trivial⟩, rfl, rfl⟩
    · exact fun ac ha => ⟨[(0, at1 p), (4, .int .u8 (if v then 1 else 0))], ha.sub ⟨rfl, by rw [h]; rfl, trivial⟩, rfl, rfl⟩
  rintro E w' ⟨rfl, rfl⟩
  refine CW.plain ?_
  refine RL.pure rfl rfl rfl rfl ?_
  refine RL.pure rfl rfl rfl rfl ?_
  refine RL.pure rfl rfl rfl rfl ?_
  refine RL.field rfl rfl rfl rfl fl74_0 rfl rfl ?_
  refine RL.load (j := 1) rfl rfl rfl rfl ty22 rfl (Holds.of hp) (hg.1) rfl ?_
  refine RL.pure rfl rfl rfl rfl ?_
  refine RL.buildSlice rfl rfl rfl rfl sl22 ze5 rfl rfl rfl rfl hg ?_
  rintro b w2 hg2 hax2
  refine ⟨trivial, ?_⟩
  refine RL.append (i := 1) (ys := [if v then 1 else 0]) rfl rfl rfl rfl sl22 ze5 rfl (by first | exact RInt.one _ | exact RStr.one | exact RBool.one | assumption) rfl rfl hg2 rfl hown ((Src.slice sl22 rfl (.inr ⟨_, rfl, Holds.one b _ 5⟩) hg2.1)) (Chunks.single rfl ⟨rfl, by (cases v <;> simp [rng])⟩) (by (simp; omega)) (by omega) ?_
  rintro a2 c2 A2 w3 hg3 hown3 hax3 hkeep
  refine ⟨trivial, ?_⟩
  have hfar := hown.far hp (by decide)
  have hp2 := (hkeep p (by rw [hp]; simp) hfar).trans hp
  have hfar2 := hown3.far hp2 (by decide)
  refine RL.pure rfl rfl rfl rfl ?_
  refine RL.field rfl rfl rfl rfl fl74_0 rfl rfl ?_
  refine RL.store (i := 0) (j := 1) rfl rfl rfl ty22 rfl rfl hg3.drop rfl (hp2) rfl (by first | (simp [Value.cells, Value.oneCell']; done) | simp [Value.cells, Value.oneCell', putL]) (by first | exact Nat.le_of_ble_eq_true rfl | (simp; done) | (simp; omega) | omega) ?_
  rintro w4 hg4 hax4
  refine ⟨trivial, ?_⟩
  refine RL.done ?_
  refine fall (vs := []) rfl (Post.mk (Le.refl _) hg4 (hax2.trans (hax3.trans hax4)) ⟨rfl, ?_⟩)
  exact ⟨a2, c2, put_same _ _ _, hown3.put hfar2 _⟩
set_option maxRecDepth 100000 in
theorem bInt_ct {w : World} {s A : Res} {os : List Res} {p : Nat} {mn : Int} {bs : List Int} {v : Int} (hg : Good w s (A :: os)) (hA : BObj s A p mn bs) (hv : rng .i64 v) (hl : bs.length + 10 ≤ 140737488355328) :
    Calls Tryd.prog 57 #[at1 p, .int .i64 v] w (Post w s os fun s' A' r => r = .tuple #[] ∧ BObj s' A' p mn (bs ++ encI v)) := by
  refine enter (l := [at1 p, .int .i64 v]) Tryd.func57 rfl Tryd.ntmps57 rfl ?_
  refine CW.plain ?_
  refine RL.pure rfl rfl rfl rfl ?_
  refine RL.pure rfl rfl rfl rfl ?_
  refine RL.convw rfl rfl rfl rfl Tryd.underlying3 Tryd.underlying36 rfl ?_
  refine RL.shl 1 rfl rfl rfl rfl rfl rfl rfl (by decide) ?_
  refine RL.pure rfl rfl rfl rfl ?_
  refine RL.shr 63 rfl rfl rfl rfl rfl rfl rfl (by decide) ?_
  refine RL.convw rfl rfl rfl rfl Tryd.underlying3 Tryd.underlying36 rfl ?_
  refine RL.as_ rfl rfl rfl rfl (.int .u64 (if v < 0 then -2 * v - 1 else 2 * v)) (congrArg (Value.int .u64) (zig v hv)) ?_
  refine RL.call rfl rfl rfl rfl rfl ca55 (bUint_ct hg hA (by simp only [rng] at *; split <;> omega) hl) ?_
  rintro v s1 A1 w1 hle1 hg1 hax1 ⟨_, hA1⟩
  refine ⟨trivial, ?_⟩
  refine RL.done ?_
  exact fall (vs := []) rfl (Post.mk hle1 hg1 hax1 ⟨rfl, hA1⟩)
set_option maxRecDepth 100000 in
theorem bints_ct {w : World} {s A : Res} {os : List Res} {p : Nat} {mn : Int} {bs : List Int} {xs : List Int} {xa : Option Addr} {xc : Nat} (hg : Good w s (A :: os)) (hA : BObj s A p mn bs) (hx : Imm (RInt .i64) 1 s xa xc xs) (hl : bs.length + 10 + 10 * xs.length ≤ 140737488355328) :
    Calls Tryd.prog 73 #[at1 p, .slice xa xs.length xc] w (Post w s os fun s' A' r => r = .tuple #[] ∧ BObj s' A' p mn (bs ++ encN xs)) := by
  refine enter (l := [at1 p, .slice xa xs.length xc]) Tryd.func73 rfl Tryd.ntmps73 rfl ?_
  have hu := encU_length (xs.length : Int)
  refine CW.seq (CW.plain ?_)
  refine RL.pure rfl rfl rfl rfl ?_
  refine RL.pure rfl rfl rfl rfl ?_
  refine RL.len rfl rfl rfl rfl sl38 rfl ?_
  refine RL.conv rfl rfl rfl rfl Tryd.underlying3 Tryd.underlying36 rfl ((by simp only [rng]; omega)) ?_
  refine RL.call rfl rfl rfl rfl rfl ca55 (bUint_ct hg hA (by simp only [rng]; omega) (by omega)) ?_
  rintro v s1 A1 w1 hle1 hg1 hax1 ⟨_, hA1⟩
  refine ⟨trivial, ?_⟩
  refine RL.done ?_
  refine CW.seq (CW.plain ?_)
  refine RL.pure rfl rfl rfl rfl ?_
  refine RL.len rfl rfl rfl rfl sl38 rfl ?_
  refine RL.pure rfl rfl rfl rfl ?_
  refine RL.done ?_
  refine CW.block (CW.loop (σ := Nat) (fun j E w' => ∃ s' A' , ∃ k : Nat, E = [(0, at1 p), (11, .slice xa xs.length xc), (12, .int .i64 xs.length), (13, .int .i64 k)] ∧ Good w' s' (A' :: os) ∧ Le s s' ∧ Aux w w' ∧ BObj s' A' p mn (bs ++ encU xs.length ++ encIs (xs.take k)) ∧ k + j = xs.length)
    (fun j => j) xs.length [(0, at1 p), (11, .slice xa xs.length xc), (12, .int .i64 xs.length), (13, .int .i64 0)] ⟨rfl, rfl, rfl, rfl, trivial⟩ ⟨s1, A1, 0, rfl, hg1, hle1, hax1, by simpa [encIs] using hA1, by omega⟩ ?_)
  rintro j E w2 ⟨s2, A2, k, rfl, hg2, hle2, hax2, hA2, hk⟩
  refine CW.seq (CW.plain ?_)
  refine RL.pure rfl rfl rfl rfl ?_
  refine RL.done ?_
  refine CW.seq (CW.test rfl (fun h => ?_) (fun h => ?_))
  · refine CW.skip ?_
    have hkl : k < xs.length := by omega
    have hxr := hx.rng
    have hlk := encIs_length (xs.take k)
    have hlk' : (xs.take k).length = k := by simp; omega
    refine CW.seq (CW.block (CW.seq (CW.plain ?_)))
    refine RL.idx rfl rfl rfl rfl sl38 rfl rfl (hx.up (RInt.up _) hle2) (by omega) (by omega) ?_
    rintro q vs hvl hH ⟨rfl, hr⟩
    refine RL.load rfl rfl rfl rfl ty3 rfl (hH) (hg2.sh) rfl ?_
    refine RL.pure rfl rfl rfl rfl ?_
    refine RL.done ?_
    refine CW.plain ?_
    refine RL.pure rfl rfl rfl rfl ?_
    refine RL.pure rfl rfl rfl rfl ?_
    refine RL.call rfl rfl rfl rfl rfl ca57 (bInt_ct hg2 hA2 hr (by simp only [List.length_append]; omega)) ?_
    rintro v3 s3 A3 w3 hle3 hg3 hax3 ⟨_, hA3⟩
    refine ⟨trivial, ?_⟩
    refine RL.done ?_
    refine CW.plain ?_
    refine RL.add rfl rfl rfl rfl rfl rfl (by simp only [rng] at *; omega) ?_
    refine RL.pure rfl rfl rfl rfl ?_
    refine RL.done ?_
    cases j with
    | zero => omega
    | succ j =>
      refine fun ac ha => ⟨j, [(0, at1 p), (11, .slice xa xs.length xc), (12, .int .i64 xs.length), (13, .int .i64 ((k : Int) + 1))], ha.sub ⟨rfl, rfl, rfl, rfl, trivial⟩, ⟨s3, A3, k + 1, rfl, hg3, hle2.trans hle3, hax2.trans hax3, ?_, by omega⟩, Nat.lt_succ_self j⟩
      rw [encIs_snoc xs k hkl, ← List.append_assoc]
      exact hA3
  · refine CW.exit ?_
    have hkl : k = xs.length := by omega
    subst hkl
    refine fall (vs := []) rfl (Post.mk hle2 hg2 hax2 ⟨rfl, ?_⟩)
    rw [encN, ← List.append_assoc]
    simpa using hA2
set_option maxRecDepth 100000 in
theorem bConf_ct {w : World} {s A : Res} {os : List Res} {p : Nat} {mn : Int} {bs : List Int} {vs : List Value} {x : Conf} (hg : Good w s (A :: os)) (hA : BObj s A p mn bs) (hx : RConf s vs x) (hl : bs.length + 20 + 10 * x.voters.length + 10 * x.learners.length ≤ 140737488355328) :
    Calls Tryd.prog 59 #[at1 p, .agg vs.toArray] w (Post w s os fun s' A' r => r = .tuple #[] ∧ BObj s' A' p mn (bs ++ encConf x)) := by
  have u1 := encN_length x.voters
  obtain ⟨a, c, a', c', rfl, i1, i2⟩ := hx
  refine enter (l := [at1 p, .agg #[.slice a x.voters.length c, .slice a' x.learners.length c']]) Tryd.func59 rfl Tryd.ntmps59 rfl ?_
  refine CW.seq (CW.plain ?_)
  refine RL.box rfl rfl rfl rfl rfl hg ?_
  rintro b w1 hgb hax1
  refine ⟨trivial, ?_⟩
  refine RL.done ?_
  obtain ⟨s1, hg1, hle1, hH⟩ := boxed hgb
  have hl1 : Le s1 s1 := Le.refl _
  have hx1 := hax1
  have hA1 := hA.up hle1
  refine CW.seq (CW.plain ?_)
  refine RL.pure rfl rfl rfl rfl ?_
  refine RL.field rfl rfl rfl rfl fl40_0 rfl rfl ?_
  refine RL.load rfl rfl rfl rfl ty38 rfl (hH.le hl1) (hg1.sh) rfl ?_
  refine RL.call rfl rfl rfl rfl rfl ca73 (bints_ct hg1 hA1 (i1.up (RInt.up _) hle1) (by omega)) ?_
  rintro v2 s2 A2 w2 hle2 hg2 hax2 ⟨_, hA2⟩
  refine ⟨trivial, ?_⟩
  refine RL.done ?_
  have hl2 := hl1.trans hle2
  have hx2 := hx1.trans hax2
  refine CW.plain ?_
  refine RL.pure rfl rfl rfl rfl ?_
  refine RL.field rfl rfl rfl rfl fl40_1 rfl rfl ?_
  refine RL.load rfl rfl rfl rfl ty38 rfl (hH.le hl2) (hg2.sh) rfl ?_
  refine RL.call rfl rfl rfl rfl rfl ca73 (bints_ct hg2 hA2 (i2.up (RInt.up _) (hle1.trans hl2)) (by simp only [List.length_append]; omega)) ?_
  rintro v3 s3 A3 w3 hle3 hg3 hax3 ⟨_, hA3⟩
  refine ⟨trivial, ?_⟩
  refine RL.done ?_
  have hl3 := hl2.trans hle3
  have hx3 := hx2.trans hax3
  refine fall (vs := []) rfl (Post.mk (hle1.trans hl3) hg3 hx3 ⟨rfl, ?_⟩)
  simpa only [encConf, List.append_assoc] using hA3
set_option maxRecDepth 100000 in
theorem bEntry_ct {w : World} {s A : Res} {os : List Res} {p : Nat} {mn : Int} {bs : List Int} {vs : List Value} {x : Entry} (hg : Good w s (A :: os)) (hA : BObj s A p mn bs) (hx : REntry s vs x) (hl : bs.length + 60 + x.data.length + 10 * x.conf.voters.length + 10 * x.conf.learners.length ≤ 140737488355328) :
    Calls Tryd.prog 58 #[at1 p, .agg vs.toArray] w (Post w s os fun s' A' r => r = .tuple #[] ∧ BObj s' A' p mn (bs ++ encEntry x)) := by
  have u1 := encU_length x.index
  have u2 := encU_length x.term
  have u3 := encI_length x.kind
  have u4 := encT_length x.data
  obtain ⟨a, c, a1, c1, a2, c2, rfl, r1, r2, r3, i1, i2, i3⟩ := hx
  refine enter (l := [at1 p, .agg #[.int .u64 x.index, .int .u64 x.term, .int .i64 x.kind, .slice a x.data.length c, .slice a1 x.conf.voters.length c1, .slice a2 x.conf.learners.length c2]]) Tryd.func58 rfl Tryd.ntmps58 rfl ?_
  refine CW.seq (CW.plain ?_)
  refine RL.box rfl rfl rfl rfl rfl hg ?_
  rintro b w1 hgb hax1
  refine ⟨trivial, ?_⟩
  refine RL.done ?_
  obtain ⟨s1, hg1, hle1, hH⟩ := boxed hgb
  have hl1 : Le s1 s1 := Le.refl _
  have hx1 := hax1
  have hA1 := hA.up hle1
  refine CW.seq (CW.plain ?_)
  refine RL.pure rfl rfl rfl rfl ?_
  refine RL.field rfl rfl rfl rfl fl84_0 rfl rfl ?_
  refine RL.load rfl rfl rfl rfl ty36 rfl (hH.le hl1) (hg1.sh) rfl ?_
  refine RL.call rfl rfl rfl rfl rfl ca55 (bUint_ct hg1 hA1 r1 (by omega)) ?_
  rintro v2 s2 A2 w2 hle2 hg2 hax2 ⟨_, hA2⟩
  refine ⟨trivial, ?_⟩
  refine RL.done ?_
  have hl2 := hl1.trans hle2
  have hx2 := hx1.trans hax2
  refine CW.seq (CW.plain ?_)
  refine RL.pure rfl rfl rfl rfl ?_
  refine RL.field rfl rfl rfl rfl fl84_1 rfl rfl ?_
  refine RL.load rfl rfl rfl rfl ty36 rfl (hH.le hl2) (hg2.sh) rfl ?_
  refine RL.call rfl rfl rfl rfl rfl ca55 (bUint_ct hg2 hA2 r2 (by simp only [List.length_append]; omega)) ?_
  rintro v3 s3 A3 w3 hle3 hg3 hax3 ⟨_, hA3⟩
  refine ⟨trivial, ?_⟩
  refine RL.done ?_
  have hl3 := hl2.trans hle3
  have hx3 := hx2.trans hax3
  refine CW.seq (CW.plain ?_)
  refine RL.pure rfl rfl rfl rfl ?_
  refine RL.field rfl rfl rfl rfl fl84_2 rfl rfl ?_
  refine RL.load rfl rfl rfl rfl ty82 rfl (hH.le hl3) (hg3.sh) rfl ?_
  refine RL.call rfl rfl rfl rfl rfl ca57 (bInt_ct hg3 hA3 r3 (by simp only [List.length_append]; omega)) ?_
  rintro v4 s4 A4 w4 hle4 hg4 hax4 ⟨_, hA4⟩
  refine ⟨trivial, ?_⟩
  refine RL.done ?_
  have hl4 := hl3.trans hle4
  have hx4 := hx3.trans hax4
  refine CW.seq (CW.plain ?_)
  refine RL.pure rfl rfl rfl rfl ?_
  refine RL.field rfl rfl rfl rfl fl84_3 rfl rfl ?_
  refine RL.load rfl rfl rfl rfl ty22 rfl (hH.le hl4) (hg4.sh) rfl ?_
  refine RL.call rfl rfl rfl rfl rfl ca60 (bBytes_ct hg4 hA4 (i1.up (RInt.up _) (hle1.trans hl4)) (by simp only [List.length_append]; omega)) ?_
  rintro v5 s5 A5 w5 hle5 hg5 hax5 ⟨_, hA5⟩
  refine ⟨trivial, ?_⟩
  refine RL.done ?_
  have hl5 := hl4.trans hle5
  have hx5 := hx4.trans hax5
  refine CW.plain ?_
  refine RL.pure rfl rfl rfl rfl ?_
  refine RL.field rfl rfl rfl rfl fl84_4 rfl rfl ?_
  refine RL.loads rfl rfl rfl rfl ty40 rfl (hH.le hl5) (hg5.sh) rfl rfl ?_
  refine RL.call rfl rfl rfl rfl rfl ca59 (bConf_ct (x := x.conf) hg5 hA5 ⟨a1, c1, a2, c2, rfl, i2.up (RInt.up _) (hle1.trans hl5), i3.up (RInt.up _) (hle1.trans hl5)⟩ (by simp only [List.length_append]; omega)) ?_
  rintro v6 s6 A6 w6 hle6 hg6 hax6 ⟨_, hA6⟩
  refine ⟨trivial, ?_⟩
  refine RL.done ?_
  have hl6 := hl5.trans hle6
  have hx6 := hx5.trans hax6
  refine fall (vs := []) rfl (Post.mk (hle1.trans hl6) hg6 hx6 ⟨rfl, ?_⟩)
  simpa only [encEntry, List.append_assoc] using hA6
set_option maxRecDepth 100000 in
theorem bDone_ct {w : World} {s A : Res} {os : List Res} {p : Nat} {mn : Int} {bs : List Int} (hg : Good w s (A :: os)) (hA : BObj s A p mn bs) (hl : bs.length ≤ 140737488355328) :
    Calls Tryd.prog 61 #[at1 p] w (Post w s (A :: os) fun s' B r => BOwn s' B r bs) := by
  obtain ⟨a, c, hp, hown⟩ := hA
  refine enter (l := [at1 p]) Tryd.func61 rfl Tryd.ntmps61 rfl ?_
  refine CW.seq (CW.plain ?_)
  refine RL.pure rfl rfl rfl rfl ?_
  refine RL.done ?_
  refine CW.seq (CW.plain ?_)
  refine RL.pure rfl rfl rfl rfl ?_
  refine RL.pure rfl rfl rfl rfl ?_
  refine RL.field rfl rfl rfl rfl fl74_0 rfl rfl ?_
  refine RL.load (j := 1) rfl rfl rfl rfl ty22 rfl (Holds.of hp) (hg.1) rfl ?_
  refine RL.call rfl rfl rfl rfl rfl ca42 (CloneB_ct (r := A) hg (.inr (by simp)) hown.row hl) ?_
  rintro v s1 B w1 hle1 hg1 hax1 hB
  refine ⟨trivial, ?_⟩
  refine RL.pure rfl rfl rfl rfl ?_
  refine RL.done ?_
  exact CW.ret (ret (vs := [_]) ⟨_, _, rfl, rfl, rfl⟩ (Post.mk hle1 hg1 hax1 hB))
end Go.Lw
