/-
  The codec's Writer: what each method puts behind the bytes.
-/
import Derived.Test.YtcbifehmmfjioaaDoorNmsA1
import Derived.Test.YtcbifehmmfjioaaDoorNmsA2
namespace Go.Lw
open Go.Proofs

/-- A Writer at block p that has put these bytes. -/
def WObj (s A : Res) (p : Nat) (bs : List Int) : Prop := ∃ a c, A p = some (.cells #[.slice a bs.length c] 27 (0, 0)) ∧ Own (RInt .u8) 1 5 s A a c bs
theorem WObj.up {s s' A : Res} {p : Nat} {bs : List Int} (h : WObj s A p bs) (hl : Le s s') : WObj s' A p bs :=
  let ⟨a, c, h1, h2⟩ := h
  ⟨a, c, h1, h2.up (RInt.up _) hl⟩


set_option maxRecDepth 100000 in
theorem Uint_ct {w : World} {s A : Res} {os : List Res} {p : Nat} {bs : List Int} {v : Int} (hg : Good w s (A :: os)) (hA : WObj s A p bs) (hv : rng .u64 v) (hl : bs.length + 10 ≤ 140737488355328) :
    Calls Tryd.prog 14 #[ptr p, .int .u64 v] w (Post w s os fun s' A' r => r = .tuple #[] ∧ WObj s' A' p (bs ++ encU v)) := by
  refine enter (l := [ptr p, .int .u64 v]) Tryd.func14 rfl Tryd.ntmps14 rfl ?_
  refine CW.seq (CW.block (CW.loop (σ := Nat) (fun k E w' => ∃ s' A' u bs', E = [(0, ptr p), (1, .int .u64 u)] ∧ Good w' s' (A' :: os) ∧ Le s s' ∧ Aux w w' ∧ WObj s' A' p bs' ∧ rng .u64 u ∧ bs' ++ encF k u = bs ++ encU v ∧ bs'.length + k = bs.length + 9 ∧ u < 128 ^ (k + 1))
    (fun k => k) 9 [(0, ptr p), (1, .int .u64 v)] ⟨rfl, rfl, trivial⟩ ⟨s, A, v, bs, rfl, hg, Le.refl _, Aux.refl _, hA, hv, rfl, rfl, by simp only [rng] at hv; omega⟩ ?_))
  rintro k E w1 ⟨s1, A1, u, bs1, rfl, hg1, hle1, hax1, hA1, hu, he, hk, hlt⟩
  obtain ⟨a, c, hp, hown⟩ := hA1
  refine CW.seq (CW.seq (CW.plain ?_))
  refine RL.pure rfl rfl rfl rfl ?_
  refine RL.pure rfl rfl rfl rfl ?_
  refine RL.done ?_
  refine CW.test rfl (fun h => ?_) (fun h => ?_)
  · refine CW.skip ?_
    refine CW.seq (CW.block (CW.plain ?_))
    refine RL.pure rfl rfl rfl rfl ?_
    refine RL.pure rfl rfl rfl rfl ?_
    refine RL.pure rfl rfl rfl rfl ?_
    refine RL.field rfl rfl rfl rfl fl27_0 rfl rfl ?_
    refine RL.load rfl rfl rfl rfl ty25 rfl (Holds.of hp) (hg1.1) rfl ?_
    refine RL.pure rfl rfl rfl rfl ?_
    refine RL.convw rfl rfl rfl rfl Tryd.underlying29 Tryd.underlying5 rfl ?_
    refine RL.as_ rfl rfl rfl rfl (.int .u8 (u % 128 + 128)) ((by rw [or128 _ (rng_wrap .u8 u), wrap_u8]; congr 1; omega)) ?_
    refine RL.buildSlice rfl rfl rfl rfl sl25 ze5 rfl rfl rfl rfl hg1 ?_
    rintro b w2 hg2 hax2
    refine ⟨trivial, ?_⟩
    refine RL.append (i := 1) (ys := [u % 128 + 128]) rfl rfl rfl rfl sl25 ze5 rfl (by first | exact RInt.one _ | exact RStr.one | exact RBool.one | assumption) rfl rfl hg2 rfl hown ((Src.slice sl25 rfl (.inr ⟨_, rfl, Holds.one b _ 5⟩) hg2.1)) (Chunks.single rfl ⟨rfl, by (simp only [rng]; omega)⟩) (by (simp; omega)) (by omega) ?_
    rintro a2 c2 A2 w3 hg3 hown3 hax3 hkeep
    refine ⟨trivial, ?_⟩
    have hfar := hown.far hp (by decide)
    have hp2 := (hkeep p (by rw [hp]; simp) hfar).trans hp
    have hfar2 := hown3.far hp2 (by decide)
    refine RL.pure rfl rfl rfl rfl ?_
    refine RL.field rfl rfl rfl rfl fl27_0 rfl rfl ?_
    refine RL.store (i := 0) rfl rfl rfl ty25 rfl rfl hg3.drop rfl (hp2) rfl (by first | (simp [Value.cells, Value.oneCell']; done) | simp [Value.cells, Value.oneCell', putL]) (by first | exact Nat.le_of_ble_eq_true rfl | (simp; done) | (simp; omega) | omega) ?_
    rintro w4 hg4 hax4
    refine ⟨trivial, ?_⟩
    refine RL.done ?_
    refine CW.plain ?_
    refine RL.pure rfl rfl rfl rfl ?_
    refine RL.shr 7 rfl rfl rfl rfl rfl rfl rfl (by decide) ?_
    refine RL.pure rfl rfl rfl rfl ?_
    refine RL.done ?_
    cases k with
    | zero => simp only [rng] at *; omega
    | succ k =>
      refine fun ac ha => ⟨k, [(0, ptr p), (1, .int .u64 (u / 2 ^ 7))], ha.sub ⟨rfl, rfl, trivial⟩, ⟨s1, _, u / 2 ^ 7, bs1 ++ [u % 128 + 128], rfl, hg4, hle1, hax1.trans (hax2.trans (hax3.trans hax4)), ⟨a2, c2, put_same _ _ _, hown3.put hfar2 _⟩, ?_, ?_, ?_, ?_⟩, Nat.lt_succ_self k⟩
      · simp only [rng] at *; omega
      · rw [← he]; simp only [encF, if_neg (show ¬ u < 128 by omega), List.append_assoc]; rfl
      · simp; omega
      · omega
  · refine CW.exit (CW.plain ?_)
    refine RL.pure rfl rfl rfl rfl ?_
    refine RL.pure rfl rfl rfl rfl ?_
    refine RL.pure rfl rfl rfl rfl ?_
    refine RL.field rfl rfl rfl rfl fl27_0 rfl rfl ?_
    refine RL.load rfl rfl rfl rfl ty25 rfl (Holds.of hp) (hg1.1) rfl ?_
    refine RL.pure rfl rfl rfl rfl ?_
    refine RL.convw rfl rfl rfl rfl Tryd.underlying29 Tryd.underlying5 rfl ?_
    refine RL.buildSlice rfl rfl rfl rfl sl25 ze5 rfl rfl rfl rfl hg1 ?_
    rintro b w2 hg2 hax2
    refine ⟨trivial, ?_⟩
    refine RL.append (i := 1) (ys := [IntKind.u8.wrap u]) rfl rfl rfl rfl sl25 ze5 rfl (by first | exact RInt.one _ | exact RStr.one | exact RBool.one | assumption) rfl rfl hg2 rfl hown ((Src.slice sl25 rfl (.inr ⟨_, rfl, Holds.one b _ 5⟩) hg2.1)) (Chunks.single rfl ⟨rfl, rng_wrap _ _⟩) (by (simp; omega)) (by omega) ?_
    rintro a2 c2 A2 w3 hg3 hown3 hax3 hkeep
    refine ⟨trivial, ?_⟩
    have hfar := hown.far hp (by decide)
    have hp2 := (hkeep p (by rw [hp]; simp) hfar).trans hp
    have hfar2 := hown3.far hp2 (by decide)
    refine RL.pure rfl rfl rfl rfl ?_
    refine RL.field rfl rfl rfl rfl fl27_0 rfl rfl ?_
    refine RL.store (i := 0) rfl rfl rfl ty25 rfl rfl hg3.drop rfl (hp2) rfl (by first | (simp [Value.cells, Value.oneCell']; done) | simp [Value.cells, Value.oneCell', putL]) (by first | exact Nat.le_of_ble_eq_true rfl | (simp; done) | (simp; omega) | omega) ?_
    rintro w4 hg4 hax4
    refine ⟨trivial, ?_⟩
    refine RL.done ?_
    have h128 : u < 128 := by simpa using h
    have hlast : encF k u = [IntKind.u8.wrap u] := by
      rw [wrap_u8]
      simp only [rng] at hu
      cases k <;> simp [encF, h128] <;> omega
    refine fall (vs := []) rfl (Post.mk hle1 hg4 (hax1.trans (hax2.trans (hax3.trans hax4))) ⟨rfl, ?_⟩)
    rw [← he, hlast]
    exact ⟨a2, c2, put_same _ _ _, hown3.put hfar2 _⟩

/-! ### texts -/
def encT (xs : List Int) : List Int := encU xs.length ++ xs

set_option maxRecDepth 100000 in
theorem String_ct {w : World} {s A : Res} {os : List Res} {p : Nat} {bs : List Int} {b : ByteArray} (hg : Good w s (A :: os)) (hA : WObj s A p bs) (hl : bs.length + 10 + b.size ≤ 140737488355328) :
    Calls Tryd.prog 35 #[ptr p, .string b] w (Post w s os fun s' A' r => r = .tuple #[] ∧ WObj s' A' p (bs ++ encT (nums b))) := by
  refine enter (l := [ptr p, .string b]) Tryd.func35 rfl Tryd.ntmps35 rfl ?_
  refine CW.seq (CW.plain ?_)
  refine RL.pure rfl rfl rfl rfl ?_
  refine RL.pure rfl rfl rfl rfl ?_
  refine RL.lens rfl rfl rfl rfl Tryd.underlying9 rfl ?_
  refine RL.conv rfl rfl rfl rfl Tryd.underlying3 Tryd.underlying29 rfl ((by simp only [rng]; omega)) ?_
  refine RL.call rfl rfl rfl rfl rfl ca14 (Uint_ct hg hA (by simp only [rng]; omega) (by omega)) ?_
  rintro v s1 A1 w1 hle1 hg1 hax1 ⟨_, a, c, hp, hown⟩
  refine ⟨trivial, ?_⟩
  refine RL.done ?_
  refine CW.plain ?_
  have hn := nums_length b
  have hu := encU_length (b.size : Int)
  refine RL.pure rfl rfl rfl rfl ?_
  refine RL.pure rfl rfl rfl rfl ?_
  refine RL.pure rfl rfl rfl rfl ?_
  refine RL.field rfl rfl rfl rfl fl27_0 rfl rfl ?_
  refine RL.load rfl rfl rfl rfl ty25 rfl (Holds.of hp) (hg1.1) rfl ?_
  refine RL.pure rfl rfl rfl rfl ?_
  refine RL.append (i := 0) (ys := nums b) rfl rfl rfl rfl sl25 ze5 rfl (by first | exact RInt.one _ | exact RStr.one | exact RBool.one | assumption) rfl rfl hg1 rfl hown ((Src.str Tryd.underlying9)) (nums_chunks b _) (by (simp; omega)) (by omega) ?_
  rintro a2 c2 A2 w3 hg3 hown3 hax3 hkeep
  refine ⟨trivial, ?_⟩
  have hfar := hown.far hp (by decide)
  have hp2 := (hkeep p (by rw [hp]; simp) hfar).trans hp
  have hfar2 := hown3.far hp2 (by decide)
  refine RL.pure rfl rfl rfl rfl ?_
  refine RL.field rfl rfl rfl rfl fl27_0 rfl rfl ?_
  refine RL.store (i := 0) rfl rfl rfl ty25 rfl rfl hg3 rfl (hp2) rfl (by first | (simp [Value.cells, Value.oneCell']; done) | simp [Value.cells, Value.oneCell', putL]) (by first | exact Nat.le_of_ble_eq_true rfl | (simp; done) | (simp; omega) | omega) ?_
  rintro w4 hg4 hax4
  refine ⟨trivial, ?_⟩
  refine RL.done ?_
  refine fall (vs := []) rfl (Post.mk hle1 hg4 (hax1.trans (hax3.trans hax4)) ⟨rfl, ?_⟩)
  have e : bs ++ encT (nums b) = bs ++ encU (b.size : Int) ++ nums b := by simp [encT, hn]
  rw [e]
  exact ⟨a2, c2, put_same _ _ _, hown3.put hfar2 _⟩

set_option maxRecDepth 100000 in
theorem Bytes_ct {w : World} {s A : Res} {os : List Res} {p : Nat} {bs : List Int} {xs : List Int} {xa : Option Addr} {xc : Nat} (hg : Good w s (A :: os)) (hA : WObj s A p bs) (hx : Imm (RInt .u8) 1 s xa xc xs) (hl : bs.length + 10 + xs.length ≤ 140737488355328) :
    Calls Tryd.prog 41 #[ptr p, .slice xa xs.length xc] w (Post w s os fun s' A' r => r = .tuple #[] ∧ WObj s' A' p (bs ++ encT xs)) := by
  refine enter (l := [ptr p, .slice xa xs.length xc]) Tryd.func41 rfl Tryd.ntmps41 rfl ?_
  refine CW.seq (CW.plain ?_)
  refine RL.pure rfl rfl rfl rfl ?_
  refine RL.pure rfl rfl rfl rfl ?_
  refine RL.len rfl rfl rfl rfl sl25 rfl ?_
  refine RL.conv rfl rfl rfl rfl Tryd.underlying3 Tryd.underlying29 rfl ((by simp only [rng]; omega)) ?_
  refine RL.call rfl rfl rfl rfl rfl ca14 (Uint_ct hg hA (by simp only [rng]; omega) (by omega)) ?_
  rintro v s1 A1 w1 hle1 hg1 hax1 ⟨_, a, c, hp, hown⟩
  refine ⟨trivial, ?_⟩
  refine RL.done ?_
  refine CW.plain ?_
  have hu := encU_length (xs.length : Int)
  obtain ⟨news, hsrc, hch⟩ := Src.imm sl25 (hx.up (RInt.up _) hle1) hg1.sh
  refine RL.pure rfl rfl rfl rfl ?_
  refine RL.pure rfl rfl rfl rfl ?_
  refine RL.pure rfl rfl rfl rfl ?_
  refine RL.field rfl rfl rfl rfl fl27_0 rfl rfl ?_
  refine RL.load rfl rfl rfl rfl ty25 rfl (Holds.of hp) (hg1.1) rfl ?_
  refine RL.pure rfl rfl rfl rfl ?_
  refine RL.append (i := 0) (ys := xs) rfl rfl rfl rfl sl25 ze5 rfl (by first | exact RInt.one _ | exact RStr.one | exact RBool.one | assumption) rfl rfl hg1 rfl hown (hsrc) (hch) (by (simp; omega)) (by omega) ?_
  rintro a2 c2 A2 w3 hg3 hown3 hax3 hkeep
  refine ⟨trivial, ?_⟩
  have hfar := hown.far hp (by decide)
  have hp2 := (hkeep p (by rw [hp]; simp) hfar).trans hp
  have hfar2 := hown3.far hp2 (by decide)
  refine RL.pure rfl rfl rfl rfl ?_
  refine RL.field rfl rfl rfl rfl fl27_0 rfl rfl ?_
  refine RL.store (i := 0) rfl rfl rfl ty25 rfl rfl hg3 rfl (hp2) rfl (by first | (simp [Value.cells, Value.oneCell']; done) | simp [Value.cells, Value.oneCell', putL]) (by first | exact Nat.le_of_ble_eq_true rfl | (simp; done) | (simp; omega) | omega) ?_
  rintro w4 hg4 hax4
  refine ⟨trivial, ?_⟩
  refine RL.done ?_
  refine fall (vs := []) rfl (Post.mk hle1 hg4 (hax1.trans (hax3.trans hax4)) ⟨rfl, ?_⟩)
  have e : bs ++ encT xs = bs ++ encU (xs.length : Int) ++ xs := by simp [encT]
  rw [e]
  exact ⟨a2, c2, put_same _ _ _, hown3.put hfar2 _⟩

/-! ### a bool -/
def encB (b : Bool) : List Int := [if b then 1 else 0]
set_option maxRecDepth 100000 in
theorem Bool_ct {w : World} {s A : Res} {os : List Res} {p : Nat} {bs : List Int} {v : Bool} (hg : Good w s (A :: os)) (hA : WObj s A p bs) (hl : bs.length + 10 ≤ 140737488355328) :
    Calls Tryd.prog 39 #[ptr p, .bool v] w (Post w s os fun s' A' r => r = .tuple #[] ∧ WObj s' A' p (bs ++ encB v)) := by
  refine enter (l := [ptr p, .bool v]) Tryd.func39 rfl Tryd.ntmps39 rfl ?_
  obtain ⟨a, c, hp, hown⟩ := hA
  refine CW.seq (CW.plain ?_)
  refine RL.pure rfl rfl rfl rfl ?_
  refine RL.done ?_
  refine CW.meet (fun E w' => w' = w ∧ E = [(0, ptr p), (4, .int .u8 (if v then 1 else 0))]) (CW.seq (CW.plain ?_)) ?_
  · refine RL.pure rfl rfl rfl rfl ?_
    refine RL.done ?_
    refine CW.cond rfl (fun h => CW.plain ?_) (fun h => CW.skip ?_)
    · refine RL.pure rfl rfl rfl rfl ?_
      refine RL.done ?_
      exact fun ac ha => ⟨[(0, ptr p), (4, .int .u8 (if v then 1 else 0))], ha.sub ⟨rfl, by rw [h]; rfl, trivial⟩, rfl, rfl⟩
    · exact fun ac ha => ⟨[(0, ptr p), (4, .int .u8 (if v then 1 else 0))], ha.sub ⟨rfl, by rw [h]; rfl, trivial⟩, rfl, rfl⟩
  rintro E w' ⟨rfl, rfl⟩
  refine CW.plain ?_
  refine RL.pure rfl rfl rfl rfl ?_
  refine RL.pure rfl rfl rfl rfl ?_
  refine RL.pure rfl rfl rfl rfl ?_
  refine RL.field rfl rfl rfl rfl fl27_0 rfl rfl ?_
  refine RL.load rfl rfl rfl rfl ty25 rfl (Holds.of hp) (hg.1) rfl ?_
  refine RL.pure rfl rfl rfl rfl ?_
  refine RL.buildSlice rfl rfl rfl rfl sl25 ze5 rfl rfl rfl rfl hg ?_
  rintro b w2 hg2 hax2
  refine ⟨trivial, ?_⟩
  refine RL.append (i := 1) (ys := [if v then 1 else 0]) rfl rfl rfl rfl sl25 ze5 rfl (by first | exact RInt.one _ | exact RStr.one | exact RBool.one | assumption) rfl rfl hg2 rfl hown ((Src.slice sl25 rfl (.inr ⟨_, rfl, Holds.one b _ 5⟩) hg2.1)) (Chunks.single rfl ⟨rfl, by (cases v <;> simp [rng])⟩) (by (simp; omega)) (by omega) ?_
  rintro a2 c2 A2 w3 hg3 hown3 hax3 hkeep
  refine ⟨trivial, ?_⟩
  have hfar := hown.far hp (by decide)
  have hp2 := (hkeep p (by rw [hp]; simp) hfar).trans hp
  have hfar2 := hown3.far hp2 (by decide)
  refine RL.pure rfl rfl rfl rfl ?_
  refine RL.field rfl rfl rfl rfl fl27_0 rfl rfl ?_
  refine RL.store (i := 0) rfl rfl rfl ty25 rfl rfl hg3.drop rfl (hp2) rfl (by first | (simp [Value.cells, Value.oneCell']; done) | simp [Value.cells, Value.oneCell', putL]) (by first | exact Nat.le_of_ble_eq_true rfl | (simp; done) | (simp; omega) | omega) ?_
  rintro w4 hg4 hax4
  refine ⟨trivial, ?_⟩
  refine RL.done ?_
  refine fall (vs := []) rfl (Post.mk (Le.refl _) hg4 (hax2.trans (hax3.trans hax4)) ⟨rfl, ?_⟩)
  exact ⟨a2, c2, put_same _ _ _, hown3.put hfar2 _⟩

/-! ### the bytes -/
end Go.Lw
