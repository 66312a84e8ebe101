/-
  The law CodecWrites: the walk.
-/
import Derived.Test.YtcbifehmmfjioaaDoorNmsCodecL
namespace Go.Lw
open Go.Proofs

def encAll (xs : List Thing) : List Int := xs.flatMap encThing
def bulkAll (xs : List Thing) : Nat := (xs.map Thing.bulk).sum
theorem encThing_length (x : Thing) : (encThing x).length ≤ x.bulk := by
  have h1 := encU_length x.u
  have h2 := encI_length x.i
  have h3 := encT_length x.text
  have h4 := encConf_length x.conf
  have h5 := encConf_length x.entry.conf
  have h6 := encT_length x.entry.data
  have h7 := encConf_length x.snap.conf
  have h8 := encT_length x.snap.data
  have h9 := encT_length (nums x.range.lo)
  have h10 := encT_length (nums x.range.hi)
  have h11 := encT_length (nums x.record.key)
  have h12 := encT_length x.record.value
  have h13 := encU_length x.entry.index
  have h14 := encU_length x.entry.term
  have h15 := encI_length x.entry.kind
  have h16 := encU_length x.snap.index
  have h17 := encU_length x.snap.term
  have h18 := encU_length x.record.offset
  have h19 := encU_length x.record.producer
  have h20 := encU_length x.record.seq
  simp only [nums_length] at h9 h10 h11
  simp only [encThing, Thing.bulk]
  repeat' split
  all_goals try simp only [encB, encEntry, encSnap, encRange, encRecord, List.length_append, List.length_cons, List.length_nil]
  all_goals omega
theorem encAll_take (xs : List Thing) (k : Nat) (hk : k < xs.length) : encAll (xs.take (k + 1)) = encAll (xs.take k) ++ encThing xs[k] := by
  rw [← List.take_append_getElem hk, encAll, List.flatMap_append]
  simp [encAll]
theorem encAll_bulk (xs : List Thing) : (encAll xs).length ≤ bulkAll xs := by
  induction xs with
  | nil => simp [encAll]
  | cons x xs ih =>
    have := encThing_length x
    simp only [encAll, bulkAll, List.flatMap_cons, List.length_append, List.map_cons, List.sum_cons] at *
    omega
theorem bulkAll_take (xs : List Thing) (k : Nat) (hk : k < xs.length) : bulkAll (xs.take k) + xs[k].bulk ≤ bulkAll xs := by
  have e : xs = xs.take k ++ (xs[k] :: xs.drop (k + 1)) := by simp
  have h : bulkAll xs = bulkAll (xs.take k) + (xs[k].bulk + bulkAll (xs.drop (k + 1))) := by
    conv => lhs; rw [e]
    simp only [bulkAll, List.map_append, List.sum_append, List.map_cons, List.sum_cons]
  omega
theorem strOf_append (xs ys : List Int) : strOfNums xs ++ strOfNums ys = strOfNums (xs ++ ys) := by
  simp [strOfNums, ByteArray.ext_iff]
theorem strOf_size (xs : List Int) : (strOfNums xs).size = xs.length := by
  simp [strOfNums, ByteArray.size]

set_option maxRecDepth 100000 in
theorem CodecWrites_ct {w : World} {s : Res} {os : List Res} {xs : List Thing} {xa : Option Addr} {xc : Nat} (hg : Good w s os) (hx : Imm RThing 25 s xa xc xs) (hT : Holds s ⟨0, 0, none⟩ tabVs) (hl : bulkAll xs ≤ 70368744177664) :
    Calls Tryd.prog 3 #[.slice xa xs.length xc] w (Post w s os fun _ _ r => r = .bool true) := by
  refine enter (l := [.slice xa xs.length xc]) Tryd.func3 rfl Tryd.ntmps3 rfl ?_
  refine CW.seq (CW.plain ?_)
  refine RL.pure rfl rfl rfl rfl ?_
  refine RL.done ?_
  refine CW.seq (CW.plain ?_)
  refine RL.call rfl rfl rfl rfl rfl ca11 (lives_ct hg hT) ?_
  rintro v0 s0 A0 w0 hle0 hg0 hax0 rfl
  refine ⟨trivial, ?_⟩
  refine RL.pure rfl rfl rfl rfl ?_
  refine RL.done ?_
  refine CW.seq (CW.plain ?_)
  refine RL.build rfl rfl rfl rfl ze27 pl27 rfl rfl ?_
  refine RL.box rfl rfl rfl rfl rfl hg0.drop ?_
  rintro p w1 hg1 hax1
  refine ⟨trivial, ?_⟩
  refine RL.pure rfl rfl rfl rfl ?_
  refine RL.done ?_
  have hA1 : WObj s0 (Res.one p (.cells #[.slice none 0 0] 27)) p [] := ⟨none, 0, if_pos rfl, Own.nil _ _ _ _ _⟩
  refine CW.seq (CW.plain ?_)
  refine RL.pure rfl rfl rfl rfl ?_
  refine RL.done ?_
  have hup := hx
  have hbk := fun k hk => bulkAll_take xs k hk
  refine CW.meet (fun E w' => ∃ s' A', E = [(3, .bool true), (4, ptr p), (5, .string (strOfNums (encAll xs)))] ∧ Good w' s' (A' :: os) ∧ Le s s' ∧ Aux w w' ∧ WObj s' A' p (encAll xs)) ?_ ?_
  · refine CW.seq (CW.plain ?_)
    refine RL.pure rfl rfl rfl rfl ?_
    refine RL.done ?_
    refine CW.block (CW.loop (σ := Nat) (fun j E w' => ∃ s' A', ∃ k : Nat, E = [(0, .slice xa xs.length xc), (2, .bool false), (3, .bool true), (4, ptr p), (5, .string (strOfNums (encAll (xs.take k)))), (6, .int .i64 k)] ∧ Good w' s' (A' :: os) ∧ Le s s' ∧ Aux w w' ∧ WObj s' A' p (encAll (xs.take k)) ∧ k + j = xs.length)
      (fun j => j) xs.length [(0, .slice xa xs.length xc), (2, .bool false), (3, .bool true), (4, ptr p), (5, .string (strOfNums (encAll (xs.take 0)))), (6, .int .i64 0)] ⟨rfl, rfl, rfl, rfl, rfl, rfl, trivial⟩
      ⟨s0, _, 0, rfl, hg1, hle0, hax0.trans hax1, hA1, by omega⟩ ?_)
    rintro j E w2 ⟨s2, A2, k, rfl, hg2, hle2, hax2, hA2, hk⟩
    refine CW.seq (CW.seq (CW.plain ?_))
    refine RL.pure rfl rfl rfl rfl ?_
    refine RL.pure rfl rfl rfl rfl ?_
    refine RL.len rfl rfl rfl rfl sl22 rfl ?_
    refine RL.pure rfl rfl rfl rfl ?_
    refine RL.done ?_
    refine CW.test rfl (fun h => ?_) (fun h => ?_)
    · refine CW.skip ?_
      have hkl : k < xs.length := by omega
      have hb1 := hbk k hkl
      have hb2 := encAll_bulk (xs.take k)
      have hb3 := encThing_length xs[k]
      refine CW.seq (CW.block (CW.seq (CW.plain ?_)))
      refine RL.pure rfl rfl rfl rfl ?_
      refine RL.pure rfl rfl rfl rfl ?_
      refine RL.pure rfl rfl rfl rfl ?_
      refine RL.pure rfl rfl rfl rfl ?_
      refine RL.idx rfl rfl rfl rfl sl22 rfl rfl (hx.up RThing.up hle2) (by omega) (by omega) ?_
      rintro q vs hvl hH hR
      refine RL.loads (us := vs) rfl rfl rfl rfl ty43 rfl hH hg2.sh (by rw [List.drop_zero, ← hvl, List.take_length]) hvl ?_
      refine RL.callG rfl rfl rfl rfl rfl ca12 (writes_ct (x := xs[k]) hg2 hA2 hR (by omega)) ?_
      rintro e3 w3 ⟨v3, s3, B3, A3, rfl, hle3, hg3, hax3, hA3, ⟨b3, c3, rfl, hB3⟩⟩
      refine ⟨_, rfl, trivial, ?_⟩
      refine RL.bts rfl rfl rfl rfl sl25 Tryd.underlying5 Tryd.underlying9 rfl (hB3.row) (hg3.1) ?_
      refine RL.sAdd rfl rfl rfl rfl rfl rfl ((by simp only [strOf_size]; omega)) ?_
      refine RL.pure rfl rfl rfl rfl ?_
      refine RL.done ?_
      refine CW.seq (CW.plain ?_)
      refine RL.pure rfl rfl rfl rfl ?_
      refine RL.call rfl rfl rfl rfl rfl ca13 (Done_ct hg3.drop hA3 (by simp only [List.length_append]; omega)) ?_
      rintro v4 s4 B4 w4 hle4 hg4 hax4 ⟨b4, c4, rfl, hB4⟩
      refine ⟨trivial, ?_⟩
      refine RL.pure rfl rfl rfl rfl ?_
      refine RL.done ?_
      refine CW.seq (CW.seq (CW.plain ?_))
      refine RL.pure rfl rfl rfl rfl ?_
      refine RL.bts rfl rfl rfl rfl sl25 Tryd.underlying5 Tryd.underlying9 rfl (hB4.row) (hg4.1) ?_
      refine RL.pure rfl rfl rfl rfl ?_
      rw [strOf_append]
      refine RL.sNe rfl rfl rfl rfl rfl rfl ?_
      rw [beq_self_eq_true]
      refine RL.done ?_
      refine CW.no rfl (CW.skip ?_)
      refine CW.seq (CW.plain ?_)
      refine RL.pure rfl rfl rfl rfl ?_
      refine RL.done ?_
      rw [← encAll_take xs k hkl] at hB4 hA3 ⊢
      generalize hys : encAll (xs.take (k + 1)) = ys0 at hB4 ⊢
      have hlen0 := hB4.le_max
      simp only [maxLen] at hlen0
      refine CW.block (CW.loop (σ := Nat) (fun j' E w' => ∃ C ys, ∃ m : Nat, E = [(0, .slice xa xs.length xc), (2, .bool false), (3, .bool true), (4, ptr p), (5, .string (strOfNums ys0)), (6, .int .i64 k), (7, .slice b4 ys.length c4), (8, .int .i64 m)] ∧ Good w' s4 (C :: A3 :: os) ∧ Aux w w' ∧ Own (RInt .u8) 1 5 s4 C b4 c4 ys ∧ m + j' = ys.length ∧ ys.length = ys0.length)
        (fun j' => j') ys0.length [(0, .slice xa xs.length xc), (2, .bool false), (3, .bool true), (4, ptr p), (5, .string (strOfNums ys0)), (6, .int .i64 k), (7, .slice b4 ys0.length c4), (8, .int .i64 0)] ⟨rfl, rfl, rfl, rfl, rfl, rfl, rfl, rfl, trivial⟩
        ⟨B4, ys0, 0, rfl, hg4, hax2.trans (hax3.trans hax4), hB4, by omega, rfl⟩ ?_)
      rintro j' E w5 ⟨C, ys, m, rfl, hg5, hax5, hown, hm, hyl⟩
      refine CW.seq (CW.seq (CW.plain ?_))
      refine RL.pure rfl rfl rfl rfl ?_
      refine RL.pure rfl rfl rfl rfl ?_
      refine RL.len rfl rfl rfl rfl sl25 rfl ?_
      refine RL.pure rfl rfl rfl rfl ?_
      refine RL.done ?_
      refine CW.test rfl (fun h' => ?_) (fun h' => ?_)
      · refine CW.skip ?_
        have hml : m < ys.length := by omega
        have hcap := hown.le_cap
        refine CW.seq (CW.block (CW.plain ?_))
        refine RL.pure rfl rfl rfl rfl ?_
        refine RL.pure rfl rfl rfl rfl ?_
        refine RL.idxOwn rfl rfl rfl rfl sl25 rfl rfl hown (by omega) (by omega) ?_
        rintro g cs vs hb hC hcs hvl hcell ⟨rfl, hr⟩
        refine RL.load rfl rfl rfl rfl ty5 rfl (Holds.of hC) hg5.1 (hcell 0 _ rfl) ?_
        refine RL.pure rfl rfl rfl rfl ?_
        refine RL.idxOwn rfl rfl rfl rfl sl25 rfl rfl hown (by omega) (by omega) ?_
        rintro g' cs' vs' hb' hC' _ _ _ _
        rw [hb] at hb'
        cases hb'
        refine RL.store (i := 0) rfl rfl rfl ty5 rfl rfl hg5 rfl (hC) rfl (by first | (simp [Value.cells, Value.oneCell']; done) | simp [Value.cells, Value.oneCell', putL]) (by first | exact Nat.le_of_ble_eq_true rfl | (simp; done) | (simp; omega) | omega) ?_
        rintro w6 hg6 hax6
        refine ⟨trivial, ?_⟩
        refine RL.done ?_
        refine CW.plain ?_
        refine RL.pure rfl rfl rfl rfl ?_
        refine RL.add rfl rfl rfl rfl rfl rfl (by simp only [rng] at *; omega) ?_
        refine RL.pure rfl rfl rfl rfl ?_
        refine RL.done ?_
        cases j' with
        | zero => omega
        | succ j' =>
          have hset := Own.set (x := IntKind.u8.wrap (ys[m] + 1)) (vs := [.int .u8 (IntKind.u8.wrap (ys[m] + 1))]) (hb ▸ hown) hC hml rfl ⟨rfl, rng_wrap _ _⟩
          refine fun ac ha => ⟨j', [(0, .slice xa xs.length xc), (2, .bool false), (3, .bool true), (4, ptr p), (5, .string (strOfNums ys0)), (6, .int .i64 k), (7, .slice b4 (ys.set m (IntKind.u8.wrap (ys[m] + 1))).length c4), (8, .int .i64 ((m : Int) + 1))], ha.sub ⟨rfl, rfl, rfl, rfl, rfl, rfl, by rw [List.length_set]; rfl, rfl, trivial⟩,
            ⟨_, ys.set m (IntKind.u8.wrap (ys[m] + 1)), m + 1, rfl, hg6, hax5.trans hax6, hb.symm ▸ hset, by rw [List.length_set]; omega, by rw [List.length_set]; exact hyl⟩, Nat.lt_succ_self j'⟩
      · refine CW.exit (CW.plain ?_)
        have hxl := hx.le_max
        simp only [maxLen] at hxl
        refine RL.pure rfl rfl rfl rfl ?_
        refine RL.add rfl rfl rfl rfl rfl rfl (by simp only [rng] at *; omega) ?_
        refine RL.pure rfl rfl rfl rfl ?_
        refine RL.done ?_
        subst hys
        cases j with
        | zero => omega
        | succ j =>
          refine fun ac ha => ⟨j, [(0, .slice xa xs.length xc), (2, .bool false), (3, .bool true), (4, ptr p), (5, .string (strOfNums (encAll (xs.take (k + 1))))), (6, .int .i64 ((k : Int) + 1))], ha.sub ⟨rfl, rfl, rfl, rfl, rfl, rfl, trivial⟩, ⟨s4, A3, k + 1, rfl, hg5.drop, hle2.trans (hle3.trans hle4), hax5, hA3.up hle4, by omega⟩, Nat.lt_succ_self j⟩
    · refine CW.exit ?_
      have hkl : k = xs.length := by omega
      subst hkl
      rw [List.take_length] at hA2 ⊢
      exact fun ac ha => ⟨[(3, .bool true), (4, ptr p), (5, .string (strOfNums (encAll xs)))], ha.sub ⟨rfl, rfl, rfl, trivial⟩, s2, A2, rfl, hg2, hle2, hax2, hA2⟩
  rintro E w2 ⟨s2, A2, rfl, hg2, hle2, hax2, hA2⟩
  refine CW.seq (CW.plain ?_)
  have hb2 := encAll_bulk xs
  refine RL.pure rfl rfl rfl rfl ?_
  refine RL.pure rfl rfl rfl rfl ?_
  refine RL.pure rfl rfl rfl rfl ?_
  refine RL.call rfl rfl rfl rfl rfl ca13 (Done_ct hg2 hA2 (by omega)) ?_
  rintro v4 s4 B4 w4 hle4 hg4 hax4 ⟨b4, c4, rfl, hB4⟩
  refine ⟨trivial, ?_⟩
  refine RL.bts rfl rfl rfl rfl sl25 Tryd.underlying5 Tryd.underlying9 rfl (hB4.row) (hg4.1) ?_
  refine RL.pure rfl rfl rfl rfl ?_
  refine RL.sEq rfl rfl rfl rfl rfl rfl ?_
  rw [beq_self_eq_true]
  refine RL.pure rfl rfl rfl rfl ?_
  refine RL.pure rfl rfl rfl rfl ?_
  refine RL.done ?_
  exact CW.ret (ret (vs := [_]) ⟨_, _, rfl, rfl, rfl⟩ (Post.mk (hle2.trans hle4) hg4.drop.drop.nil (hax2.trans hax4) rfl))
end Go.Lw
