/-
  Beats: a message's bytes; a box: put, bytes.
-/
import Derived.Test.YthaomecbklmmdaaDoorOpBxT
namespace Go.Lw
open Go.Proofs
attribute [local irreducible] RL RA

def encBeat (x : Wire) : List Int :=
  encU x.group ++ encB (decide (x.msg.kind = 6)) ++ encU x.msg.term ++ encU x.msg.index ++ if x.msg.kind = 5 then encU x.msg.logTerm ++ encU x.msg.commit else []
def encEs (xs : List Entry) : List Int := xs.flatMap encEntry
def encFull (x : Wire) : List Int :=
  encU x.group ++ encI x.msg.kind ++ encU x.msg.term ++ encU x.msg.index ++ encU x.msg.logTerm ++ encU x.msg.entries.length ++ encEs x.msg.entries ++ encU x.msg.commit ++ encB x.msg.reject ++ encU x.msg.hint ++ encConf x.msg.conf ++ encT x.msg.data ++ encB x.msg.done
def Entry.bulk (e : Entry) : Nat := 60 + e.data.length + 10 * e.conf.voters.length + 10 * e.conf.learners.length
def bulkE (xs : List Entry) : Nat := (xs.map Entry.bulk).sum
def Wire.bulk (x : Wire) : Nat := 300 + bulkE x.msg.entries + x.msg.data.length + 10 * x.msg.conf.voters.length + 10 * x.msg.conf.learners.length
theorem encEntry_length (e : Entry) : (encEntry e).length ≤ e.bulk := by
  have u1 := encU_length e.index
  have u2 := encU_length e.term
  have u3 := encI_length e.kind
  have u4 := encT_length e.data
  have u5 := encConf_length e.conf
  simp only [encEntry, Entry.bulk, List.length_append]; omega
theorem encEs_length : ∀ xs : List Entry, (encEs xs).length ≤ bulkE xs
  | [] => Nat.le_refl _
  | x :: xs => by
    have := encEs_length xs
    have := encEntry_length x
    simp only [encEs, bulkE, List.flatMap_cons, List.length_append, List.map_cons, List.sum_cons] at *; omega
theorem encEs_take (xs : List Entry) (k : Nat) (hk : k < xs.length) : encEs (xs.take (k + 1)) = encEs (xs.take k) ++ encEntry xs[k] := by
  simp only [encEs, List.take_succ_eq_append_getElem hk, List.flatMap_append, List.flatMap_cons, List.flatMap_nil, List.append_nil]
theorem bulkE_take (xs : List Entry) (k : Nat) (hk : k < xs.length) : bulkE (xs.take k) + xs[k].bulk ≤ bulkE xs := by
  have e : xs = xs.take k ++ xs[k] :: xs.drop (k + 1) := by rw [List.getElem_cons_drop]; exact (List.take_append_drop k xs).symm
  have : bulkE xs = bulkE (xs.take k) + (xs[k].bulk + bulkE (xs.drop (k + 1))) := by
    conv => lhs; rw [e]
    simp only [bulkE, List.map_append, List.sum_append, List.map_cons, List.sum_cons]
  omega

set_option maxHeartbeats 2000000 in
set_option maxRecDepth 100000 in
theorem put_ct {w : World} {s A : Res} {os : List Res} {p : Nat} {mn kind : Int} {bs : List Int} {vs : List Value} {x : Wire} (hg : Good w s (A :: os)) (hA : BObj s A p mn bs) (hx : RWire s vs x) (hmn : 0 ≤ mn ∧ mn < 1000000000000) (hl : bs.length + x.bulk ≤ 70368744177664) :
    Calls Tryd.prog 33 #[ptr p, i64 kind, .agg vs.toArray] w (Post w s os fun s' A' r => r = .tuple #[] ∧ BObj s' A' p (mn + 1) (bs ++ if kind = 2 then encBeat x else encFull x)) := by
  obtain ⟨y, rfl, hgr, ho⟩ := hx
  have u1 := encU_length x.group
  have u2 := encU_length x.msg.term
  have u3 := encU_length x.msg.index
  have u4 := encU_length x.msg.logTerm
  have u5 := encU_length x.msg.commit
  have u6 := encU_length x.msg.hint
  have u7 := encI_length x.msg.kind
  have u8 := encU_length (x.msg.entries.length : Int)
  have u9 := encEs_length x.msg.entries
  have u10 := encConf_length x.msg.conf
  have u11 := encT_length x.msg.data
  have hle := ho.entries.le_max
  simp only [maxLen] at hle
  simp only [Wire.bulk] at hl
  have hbB : ∀ b, (encB b).length = 1 := fun b => rfl
  refine enter (l := [ptr p, i64 kind, .agg (u64 x.group :: msgV x.msg y).toArray]) Tryd.func33 rfl Tryd.ntmps33 rfl ?_
  refine CW.seq (CW.plain ?_)
  refine RL.box rfl rfl rfl rfl rfl hg ?_
  rintro q w1 hg1 hax1
  refine ⟨trivial, ?_⟩
  refine RL.done ?_
  obtain ⟨s1, hg1, hle1, hq1⟩ := Good.letgo hg1
  have hX : Holds s1 ⟨q, 0, none⟩ (u64 x.group :: msgV x.msg y) := (Holds.one q _ 44).le hq1
  obtain ⟨a, c, hp, hown⟩ := hA.up hle1
  have hfar := hown.far hp (by decide)
  refine CW.seq (CW.plain ?_)
  refine RL.pure rfl rfl rfl rfl ?_
  refine RL.pure rfl rfl rfl rfl ?_
  refine RL.field rfl rfl rfl rfl fl76_0 rfl rfl ?_
  refine RL.load (j := 0) rfl rfl rfl rfl ty3 rfl (Holds.of hp) (hg1.1) rfl ?_
  refine RL.add rfl rfl rfl rfl rfl rfl (by simp only [rng] at *; omega) ?_
  refine RL.pure rfl rfl rfl rfl ?_
  refine RL.field rfl rfl rfl rfl fl76_0 rfl rfl ?_
  refine RL.store (i := 0) (j := 0) rfl rfl rfl ty3 rfl rfl hg1 rfl (hp) rfl (by first | (simp [Value.cells, Value.oneCell']; done) | simp [Value.cells, Value.oneCell', putL]) (by first | exact Nat.le_of_ble_eq_true rfl | (simp; done) | (simp; omega) | omega) ?_
  rintro w2 hg2 hax2
  refine ⟨trivial, ?_⟩
  refine RL.done ?_
  obtain ⟨A2, hg2, hB2⟩ : ∃ A2, Good w2 s1 (A2 :: os) ∧ BObj s1 A2 p (mn + 1) bs := ⟨_, hg2, a, c, put_same _ _ _, hown.put hfar _⟩
  refine CW.seq (CW.plain ?_)
  refine RL.field rfl rfl rfl rfl fl44_1 rfl rfl ?_
  refine RL.loads (j := 1) (us := (msgV x.msg y)) rfl rfl rfl rfl ty42 rfl (hX) (hg2.sh) rfl rfl ?_
  refine RL.alloc rfl rfl rfl rfl ze42 hg2 ?_
  rintro r w3 hg3 hax3
  refine ⟨trivial, ?_⟩
  refine RL.store (i := 0) (j := 0) rfl rfl rfl ty42 rfl rfl hg3 rfl (if_pos rfl) rfl (by first | (simp [Value.cells, Value.oneCell']; done) | simp [Value.cells, Value.oneCell', putL]) (by first | exact Nat.le_of_ble_eq_true rfl | (simp; done) | (simp; omega) | omega) ?_
  rintro w4 hg4 hax4
  refine ⟨trivial, ?_⟩
  refine RL.done ?_
  obtain ⟨s5, hg5, hle5, hq5⟩ := Good.letgo hg4
  have hMs5 : Holds s5 ⟨r, 0, none⟩ (msgV x.msg y) := (Holds.of (put_same _ _ _)).le hq5
  have hX := hX.le hle5
  have hB5 := hB2.up hle5
  have ho := (ho.up hle1).up hle5
  have hl5 := hle1.trans hle5
  have hx5 := hax1.trans (hax2.trans (hax3.trans hax4))
  clear hg1 hg2 hg3 hg4 hB2 hp hown hfar
  refine CW.seq ?_
  have hgD := hg5.drew
  refine CW.draws [(true, 0), (true, 1), (true, 2), (true, 3), (true, 4), (false, 5)] (fun w => In s5 w) mixed (by kernel_rfl) (by kernel_rfl) (by kernel_rfl) (by kernel_rfl) (hgD.sh) ?_
  refine RL.pure rfl rfl rfl rfl ?_
  refine RL.pure rfl rfl rfl rfl ?_
  refine RL.field rfl rfl rfl rfl fl76_1 rfl rfl ?_
  refine RL.field rfl rfl rfl rfl fl44_0 rfl rfl ?_
  refine RL.loadT (j := 0) rfl rfl rfl rfl ty36 rfl (hX) (fun w h => h) rfl ?_
  refine RL.call rfl rfl rfl rfl rfl ca55 (bUint_ct hgD hB5 hgr (by omega)) ?_
  rintro v6 s6 A6 w6 hle6 hg6 hax6 ⟨_, hB6⟩
  refine ⟨hg6.sh.le hle6, ?_⟩
  refine RL.done ?_
  have hMs6 := hMs5.le hle6
  have hl6 := hl5.trans hle6
  have hx6 := hx5.trans ((Aux.drew _).trans hax6)
  have ho := ho.up hle6
  clear hg5 hgD
  refine CW.seq (CW.seq (CW.plain ?_))
  refine RL.pure rfl rfl rfl rfl ?_
  refine RL.pure rfl rfl rfl rfl ?_
  refine RL.done ?_
  refine CW.eq rfl (fun hk => ?_) (fun hk => CW.skip ?_)
  · rw [if_pos hk]
    refine CW.seq ?_
    have hgD := hg6.drew
    refine CW.draws [(true, 0), (true, 1), (true, 2), (true, 3), (true, 4), (true, 5), (false, 6)] (fun w => In s6 w) mixed (by kernel_rfl) (by kernel_rfl) (by kernel_rfl) (by kernel_rfl) (hgD.sh) ?_
    refine RL.pure rfl rfl rfl rfl ?_
    refine RL.pure rfl rfl rfl rfl ?_
    refine RL.field rfl rfl rfl rfl fl76_1 rfl rfl ?_
    refine RL.field rfl rfl rfl rfl fl42_0 rfl rfl ?_
    refine RL.loadT (j := 0) rfl rfl rfl rfl ty35 rfl (hMs6) (fun w h => h) rfl ?_
    refine RL.pure rfl rfl rfl rfl ?_
    refine RL.call rfl rfl rfl rfl rfl ca56 (bBool_ct (v := decide (x.msg.kind = 6)) hgD hB6 (by simp only [List.length_append]; omega)) ?_
    rintro v7 s7 A7 w7 hle7 hg7 hax7 ⟨_, hB7⟩
    refine ⟨hg7.sh.le hle7, ?_⟩
    refine RL.done ?_
    have hMs7 := hMs6.le hle7
    have hl7 := hl6.trans hle7
    have hx7 := hx6.trans ((Aux.drew _).trans hax7)
    refine CW.seq ?_
    have hgD8 := hg7.drew
    refine CW.draws [(true, 0), (true, 1), (true, 2), (true, 3), (true, 4), (false, 5)] (fun w => In s7 w) mixed (by kernel_rfl) (by kernel_rfl) (by kernel_rfl) (by kernel_rfl) (hgD8.sh) ?_
    refine RL.pure rfl rfl rfl rfl ?_
    refine RL.pure rfl rfl rfl rfl ?_
    refine RL.field rfl rfl rfl rfl fl76_1 rfl rfl ?_
    refine RL.field rfl rfl rfl rfl fl42_3 rfl rfl ?_
    refine RL.loadT (j := 3) rfl rfl rfl rfl ty36 rfl (hMs7) (fun w h => h) rfl ?_
    refine RL.call rfl rfl rfl rfl rfl ca55 (bUint_ct hgD8 hB7 ho.term (by simp only [List.length_append, hbB]; omega)) ?_
    rintro v8 s8 A8 w8 hle8 hg8 hax8 ⟨_, hB8⟩
    refine ⟨hg8.sh.le hle8, ?_⟩
    refine RL.done ?_
    have hMs8 := hMs7.le hle8
    have hl8 := hl7.trans hle8
    have hx8 := hx7.trans ((Aux.drew _).trans hax8)
    refine CW.seq ?_
    have hgD9 := hg8.drew
    refine CW.draws [(true, 0), (true, 1), (true, 2), (true, 3), (true, 4), (false, 5)] (fun w => In s8 w) mixed (by kernel_rfl) (by kernel_rfl) (by kernel_rfl) (by kernel_rfl) (hgD9.sh) ?_
    refine RL.pure rfl rfl rfl rfl ?_
    refine RL.pure rfl rfl rfl rfl ?_
    refine RL.field rfl rfl rfl rfl fl76_1 rfl rfl ?_
    refine RL.field rfl rfl rfl rfl fl42_4 rfl rfl ?_
    refine RL.loadT (j := 4) rfl rfl rfl rfl ty36 rfl (hMs8) (fun w h => h) rfl ?_
    refine RL.call rfl rfl rfl rfl rfl ca55 (bUint_ct hgD9 hB8 ho.index (by simp only [List.length_append, hbB]; omega)) ?_
    rintro v9 s9 A9 w9 hle9 hg9 hax9 ⟨_, hB9⟩
    refine ⟨hg9.sh.le hle9, ?_⟩
    refine RL.done ?_
    have hMs9 := hMs8.le hle9
    have hl9 := hl8.trans hle9
    have hx9 := hx8.trans ((Aux.drew _).trans hax9)
    refine CW.meet (fun E w' => ∃ s' A', Good w' s' (A' :: os) ∧ Le s s' ∧ Aux w w' ∧ BObj s' A' p (mn + 1) (bs ++ encBeat x) ∧ E = []) ?_ ?_
    · refine CW.seq (CW.plain ?_)
      refine RL.field rfl rfl rfl rfl fl42_0 rfl rfl ?_
      refine RL.load (j := 0) rfl rfl rfl rfl ty35 rfl (hMs9) (hg9.sh) rfl ?_
      refine RL.pure rfl rfl rfl rfl ?_
      refine RL.done ?_
      refine CW.eq rfl (fun h5 => ?_) (fun h5 => CW.skip ?_)
      · skip
        refine CW.seq ?_
        have hgD10 := hg9.drew
        refine CW.draws [(true, 0), (true, 1), (true, 2), (true, 3), (true, 4), (false, 5)] (fun w => In s9 w) mixed (by kernel_rfl) (by kernel_rfl) (by kernel_rfl) (by kernel_rfl) (hgD10.sh) ?_
        refine RL.pure rfl rfl rfl rfl ?_
        refine RL.pure rfl rfl rfl rfl ?_
        refine RL.field rfl rfl rfl rfl fl76_1 rfl rfl ?_
        refine RL.field rfl rfl rfl rfl fl42_5 rfl rfl ?_
        refine RL.loadT (j := 5) rfl rfl rfl rfl ty36 rfl (hMs9) (fun w h => h) rfl ?_
        refine RL.call rfl rfl rfl rfl rfl ca55 (bUint_ct hgD10 hB9 ho.logTerm (by simp only [List.length_append, hbB]; omega)) ?_
        rintro v10 s10 A10 w10 hle10 hg10 hax10 ⟨_, hB10⟩
        refine ⟨hg10.sh.le hle10, ?_⟩
        refine RL.done ?_
        have hMs10 := hMs9.le hle10
        have hl10 := hl9.trans hle10
        have hx10 := hx9.trans ((Aux.drew _).trans hax10)
        have hgD11 := hg10.drew
        refine CW.draws [(true, 0), (true, 1), (true, 2), (true, 3), (true, 4), (false, 5)] (fun w => In s10 w) mixed (by kernel_rfl) (by kernel_rfl) (by kernel_rfl) (by kernel_rfl) (hgD11.sh) ?_
        refine RL.pure rfl rfl rfl rfl ?_
        refine RL.pure rfl rfl rfl rfl ?_
        refine RL.field rfl rfl rfl rfl fl76_1 rfl rfl ?_
        refine RL.field rfl rfl rfl rfl fl42_7 rfl rfl ?_
        refine RL.loadT (j := 7) rfl rfl rfl rfl ty36 rfl (hMs10) (fun w h => h) rfl ?_
        refine RL.call rfl rfl rfl rfl rfl ca55 (bUint_ct hgD11 hB10 ho.commit (by simp only [List.length_append, hbB]; omega)) ?_
        rintro v11 s11 A11 w11 hle11 hg11 hax11 ⟨_, hB11⟩
        refine ⟨hg11.sh.le hle11, ?_⟩
        refine RL.done ?_
        exact fun ac ha => ⟨[], ha.sub (E' := []) trivial, s11, A11, hg11, hl10.trans hle11, hx10.trans ((Aux.drew _).trans hax11), by simpa only [encBeat, if_pos h5, List.append_assoc] using hB11, rfl⟩
      · exact fun ac ha => ⟨[], ha.sub (E' := []) trivial, s9, A9, hg9, hl9, hx9, by simpa only [encBeat, if_neg h5, List.append_assoc, List.append_nil] using hB9, rfl⟩
    rintro E w20 ⟨s20, A20, hg20, hl20, hx20, hB20, rfl⟩
    exact CW.ret (ret (vs := []) rfl (Post.mk hl20 hg20 hx20 ⟨rfl, hB20⟩))
  · rw [if_neg hk]
    refine CW.seq ?_
    have hgD7 := hg6.drew
    refine CW.draws [(true, 0), (true, 1), (true, 2), (true, 3), (true, 4), (false, 5)] (fun w => In s6 w) mixed (by kernel_rfl) (by kernel_rfl) (by kernel_rfl) (by kernel_rfl) (hgD7.sh) ?_
    refine RL.pure rfl rfl rfl rfl ?_
    refine RL.pure rfl rfl rfl rfl ?_
    refine RL.field rfl rfl rfl rfl fl76_1 rfl rfl ?_
    refine RL.field rfl rfl rfl rfl fl42_0 rfl rfl ?_
    refine RL.loadT (j := 0) rfl rfl rfl rfl ty35 rfl (hMs6) (fun w h => h) rfl ?_
    refine RL.call rfl rfl rfl rfl rfl ca57 (bInt_ct hgD7 hB6 ho.kind (by simp only [List.length_append, hbB]; omega)) ?_
    rintro v7 s7 A7 w7 hle7 hg7 hax7 ⟨_, hB7⟩
    refine ⟨hg7.sh.le hle7, ?_⟩
    refine RL.done ?_
    have hMs7 := hMs6.le hle7
    have hl7 := hl6.trans hle7
    have hx7 := hx6.trans ((Aux.drew _).trans hax7)
    refine CW.seq ?_
    have hgD8 := hg7.drew
    refine CW.draws [(true, 0), (true, 1), (true, 2), (true, 3), (true, 4), (false, 5)] (fun w => In s7 w) mixed (by kernel_rfl) (by kernel_rfl) (by kernel_rfl) (by kernel_rfl) (hgD8.sh) ?_
    refine RL.pure rfl rfl rfl rfl ?_
    refine RL.pure rfl rfl rfl rfl ?_
    refine RL.field rfl rfl rfl rfl fl76_1 rfl rfl ?_
    refine RL.field rfl rfl rfl rfl fl42_3 rfl rfl ?_
    refine RL.loadT (j := 3) rfl rfl rfl rfl ty36 rfl (hMs7) (fun w h => h) rfl ?_
    refine RL.call rfl rfl rfl rfl rfl ca55 (bUint_ct hgD8 hB7 ho.term (by simp only [List.length_append, hbB]; omega)) ?_
    rintro v8 s8 A8 w8 hle8 hg8 hax8 ⟨_, hB8⟩
    refine ⟨hg8.sh.le hle8, ?_⟩
    refine RL.done ?_
    have hMs8 := hMs7.le hle8
    have hl8 := hl7.trans hle8
    have hx8 := hx7.trans ((Aux.drew _).trans hax8)
    refine CW.seq ?_
    have hgD9 := hg8.drew
    refine CW.draws [(true, 0), (true, 1), (true, 2), (true, 3), (true, 4), (false, 5)] (fun w => In s8 w) mixed (by kernel_rfl) (by kernel_rfl) (by kernel_rfl) (by kernel_rfl) (hgD9.sh) ?_
    refine RL.pure rfl rfl rfl rfl ?_
    refine RL.pure rfl rfl rfl rfl ?_
    refine RL.field rfl rfl rfl rfl fl76_1 rfl rfl ?_
    refine RL.field rfl rfl rfl rfl fl42_4 rfl rfl ?_
    refine RL.loadT (j := 4) rfl rfl rfl rfl ty36 rfl (hMs8) (fun w h => h) rfl ?_
    refine RL.call rfl rfl rfl rfl rfl ca55 (bUint_ct hgD9 hB8 ho.index (by simp only [List.length_append, hbB]; omega)) ?_
    rintro v9 s9 A9 w9 hle9 hg9 hax9 ⟨_, hB9⟩
    refine ⟨hg9.sh.le hle9, ?_⟩
    refine RL.done ?_
    have hMs9 := hMs8.le hle9
    have hl9 := hl8.trans hle9
    have hx9 := hx8.trans ((Aux.drew _).trans hax9)
    refine CW.seq ?_
    have hgD10 := hg9.drew
    refine CW.draws [(true, 0), (true, 1), (true, 2), (true, 3), (true, 4), (false, 5)] (fun w => In s9 w) mixed (by kernel_rfl) (by kernel_rfl) (by kernel_rfl) (by kernel_rfl) (hgD10.sh) ?_
    refine RL.pure rfl rfl rfl rfl ?_
    refine RL.pure rfl rfl rfl rfl ?_
    refine RL.field rfl rfl rfl rfl fl76_1 rfl rfl ?_
    refine RL.field rfl rfl rfl rfl fl42_5 rfl rfl ?_
    refine RL.loadT (j := 5) rfl rfl rfl rfl ty36 rfl (hMs9) (fun w h => h) rfl ?_
    refine RL.call rfl rfl rfl rfl rfl ca55 (bUint_ct hgD10 hB9 ho.logTerm (by simp only [List.length_append, hbB]; omega)) ?_
    rintro v10 s10 A10 w10 hle10 hg10 hax10 ⟨_, hB10⟩
    refine ⟨hg10.sh.le hle10, ?_⟩
    refine RL.done ?_
    have hMs10 := hMs9.le hle10
    have hl10 := hl9.trans hle10
    have hx10 := hx9.trans ((Aux.drew _).trans hax10)
    refine CW.seq ?_
    have hgD := hg10.drew
    refine CW.draws [(true, 0), (true, 1), (true, 2), (true, 3), (true, 4), (true, 5), (true, 6), (false, 7)] (fun w => In s10 w) mixed (by kernel_rfl) (by kernel_rfl) (by kernel_rfl) (by kernel_rfl) (hgD.sh) ?_
    refine RL.pure rfl rfl rfl rfl ?_
    refine RL.pure rfl rfl rfl rfl ?_
    refine RL.field rfl rfl rfl rfl fl76_1 rfl rfl ?_
    refine RL.field rfl rfl rfl rfl fl42_6 rfl rfl ?_
    refine RL.loadT (j := 6) rfl rfl rfl rfl ty37 rfl (hMs10) (fun w h => h) rfl ?_
    refine RL.len rfl rfl rfl rfl sl37 rfl ?_
    refine RL.conv rfl rfl rfl rfl Tryd.underlying3 Tryd.underlying36 rfl ((by simp only [rng]; omega)) ?_
    refine RL.call rfl rfl rfl rfl rfl ca55 (bUint_ct (v := x.msg.entries.length) hgD hB10 (by simp only [rng]; omega) (by simp only [List.length_append, hbB]; omega)) ?_
    rintro v11 s11 A11 w11 hle11 hg11 hax11 ⟨_, hB11⟩
    refine ⟨hg11.sh.le hle11, ?_⟩
    refine RL.done ?_
    have hMs11 := hMs10.le hle11
    have hl11 := hl10.trans hle11
    have hx11 := hx10.trans ((Aux.drew _).trans hax11)
    have ho := (((((ho.up hle7).up hle8).up hle9).up hle10).up hle11)
    refine CW.less (E' := [(0, ptr p), (6, ptr r)]) ⟨rfl, rfl, trivial⟩ ?_
    refine CW.meet (fun E w' => ∃ s' A', E = [(0, ptr p), (6, ptr r)] ∧ Good w' s' (A' :: os) ∧ Le s11 s' ∧ Aux w w' ∧ BObj s' A' p (mn + 1) (bs ++ encU x.group ++ encI x.msg.kind ++ encU x.msg.term ++ encU x.msg.index ++ encU x.msg.logTerm ++ encU x.msg.entries.length ++ encEs x.msg.entries)) ?_ ?_
    · refine CW.seq (CW.plain ?_)
      refine RL.field rfl rfl rfl rfl fl42_6 rfl rfl ?_
      refine RL.load (j := 6) rfl rfl rfl rfl ty37 rfl (hMs11) (hg11.sh) rfl ?_
      refine RL.len rfl rfl rfl rfl sl37 rfl ?_
      refine RL.pure rfl rfl rfl rfl ?_
      refine RL.done ?_
      refine CW.block (CW.loop (σ := Nat) (fun j E w' => ∃ s' A', ∃ k : Nat, E = [(0, ptr p), (6, ptr r), (93, i64 x.msg.entries.length), (94, i64 k)] ∧ Good w' s' (A' :: os) ∧ Le s11 s' ∧ Aux w w' ∧ BObj s' A' p (mn + 1) (bs ++ encU x.group ++ encI x.msg.kind ++ encU x.msg.term ++ encU x.msg.index ++ encU x.msg.logTerm ++ encU x.msg.entries.length ++ encEs (x.msg.entries.take k)) ∧ k + j = x.msg.entries.length)
        (fun j => j) x.msg.entries.length [(0, ptr p), (6, ptr r), (93, i64 x.msg.entries.length), (94, i64 0)] ⟨rfl, rfl, rfl, rfl, trivial⟩ ⟨s11, A11, 0, rfl, hg11, Le.refl _, hx11, by simpa [encEs] using hB11, by omega⟩ ?_)
      rintro j E w12 ⟨s12, A12, k, rfl, hg12, hle12, hx12, hB12, hk2⟩
      refine CW.seq (CW.plain ?_)
      refine RL.pure rfl rfl rfl rfl ?_
      refine RL.done ?_
      refine CW.seq (CW.test rfl (fun h => CW.skip ?_) (fun h => CW.exit ?_))
      · have hkl : k < x.msg.entries.length := by omega
        have ek : x.msg.entries[((k : Nat) : Int).toNat]'(by omega) = x.msg.entries[k] := by simp
        have hMs12 := hMs11.le hle12
        have h1 := encEs_length (x.msg.entries.take k)
        have h2 := bulkE_take x.msg.entries k hkl
        have hgD := hg12.drew
        refine CW.seq (CW.block (CW.seq (CW.plain ?_)))
        refine RL.pure rfl rfl rfl rfl ?_
        refine RL.pure rfl rfl rfl rfl ?_
        refine RL.done ?_
        refine CW.draws [(true, 0), (true, 1), (true, 2), (true, 3), (true, 4), (true, 5), (true, 6), (true, 7), (false, 8)] (fun w => In s12 w) mixed (by kernel_rfl) (by kernel_rfl) (by kernel_rfl) (by kernel_rfl) (hgD.sh) ?_
        refine RL.pure rfl rfl rfl rfl ?_
        refine RL.pure rfl rfl rfl rfl ?_
        refine RL.field rfl rfl rfl rfl fl76_1 rfl rfl ?_
        refine RL.field rfl rfl rfl rfl fl42_6 rfl rfl ?_
        refine RL.loadT (j := 6) rfl rfl rfl rfl ty37 rfl (hMs12) (fun w h => h) rfl ?_
        refine RL.pure rfl rfl rfl rfl ?_
        refine RL.idx rfl rfl rfl rfl sl37 rfl rfl (ho.entries.up REntry.up hle12) (by omega) ((by omega)) ?_
        rintro qe vse hvle hHe hre
        rw [ek] at hre
        generalize he : x.msg.entries[k] = e at hre h2
        obtain ⟨ea, ec, e1, ec1, e2, ec2, rfl, _, _, _, _, _, _⟩ := id hre
        refine RL.loadsT (j := 0) (us := [u64 e.index, u64 e.term, i64 e.kind, .slice ea e.data.length ec, .slice e1 e.conf.voters.length ec1, .slice e2 e.conf.learners.length ec2]) rfl rfl rfl rfl ty84 rfl (hHe) (fun w h => h) rfl rfl ?_
        refine RL.call rfl rfl rfl rfl rfl ca58 (bEntry_ct hgD hB12 hre (by simp only [List.length_append, Entry.bulk] at *; omega)) ?_
        rintro v13 s13 A13 w13 hle13 hg13 hax13 ⟨_, hB13⟩
        refine ⟨hg13.sh.le hle13, ?_⟩
        refine RL.done ?_
        refine CW.plain ?_
        refine RL.add rfl rfl rfl rfl rfl rfl (by simp only [rng] at *; omega) ?_
        refine RL.pure rfl rfl rfl rfl ?_
        refine RL.done ?_
        cases j with
        | zero => omega
        | succ j => exact fun ac ha => ⟨j, [(0, ptr p), (6, ptr r), (93, i64 x.msg.entries.length), (94, i64 ((k + 1 : Nat) : Int))], ha.sub ⟨rfl, rfl, rfl, rfl, trivial⟩, ⟨s13, A13, k + 1, rfl, hg13, hle12.trans hle13, hx12.trans ((Aux.drew _).trans hax13), by rw [encEs_take _ _ hkl, he, ← List.append_assoc]; exact hB13, by omega⟩, Nat.lt_succ_self j⟩
      · have hkl : k = x.msg.entries.length := by omega
        rw [hkl, List.take_length] at hB12
        exact fun ac ha => ⟨[(0, ptr p), (6, ptr r)], ha.sub ⟨rfl, rfl, trivial⟩, s12, A12, rfl, hg12, hle12, hx12, hB12⟩
    rintro E w20 ⟨s20, A20, rfl, hg20, hle20, hx20, hB20⟩
    have hMs20 := hMs11.le hle20
    have hl20 := hl11.trans hle20
    have ho := ho.up hle20
    refine CW.seq ?_
    have hgD21 := hg20.drew
    refine CW.draws [(true, 0), (true, 1), (true, 2), (true, 3), (true, 4), (false, 5)] (fun w => In s20 w) mixed (by kernel_rfl) (by kernel_rfl) (by kernel_rfl) (by kernel_rfl) (hgD21.sh) ?_
    refine RL.pure rfl rfl rfl rfl ?_
    refine RL.pure rfl rfl rfl rfl ?_
    refine RL.field rfl rfl rfl rfl fl76_1 rfl rfl ?_
    refine RL.field rfl rfl rfl rfl fl42_7 rfl rfl ?_
    refine RL.loadT (j := 7) rfl rfl rfl rfl ty36 rfl (hMs20) (fun w h => h) rfl ?_
    refine RL.call rfl rfl rfl rfl rfl ca55 (bUint_ct hgD21 hB20 ho.commit (by simp only [List.length_append, hbB]; omega)) ?_
    rintro v21 s21 A21 w21 hle21 hg21 hax21 ⟨_, hB21⟩
    refine ⟨hg21.sh.le hle21, ?_⟩
    refine RL.done ?_
    have hMs21 := hMs20.le hle21
    have hl21 := hl20.trans hle21
    have hx21 := hx20.trans ((Aux.drew _).trans hax21)
    refine CW.seq ?_
    have hgD22 := hg21.drew
    refine CW.draws [(true, 0), (true, 1), (true, 2), (true, 3), (true, 4), (false, 5)] (fun w => In s21 w) mixed (by kernel_rfl) (by kernel_rfl) (by kernel_rfl) (by kernel_rfl) (hgD22.sh) ?_
    refine RL.pure rfl rfl rfl rfl ?_
    refine RL.pure rfl rfl rfl rfl ?_
    refine RL.field rfl rfl rfl rfl fl76_1 rfl rfl ?_
    refine RL.field rfl rfl rfl rfl fl42_8 rfl rfl ?_
    refine RL.loadT (j := 8) rfl rfl rfl rfl ty4 rfl (hMs21) (fun w h => h) rfl ?_
    refine RL.call rfl rfl rfl rfl rfl ca56 (bBool_ct hgD22 hB21 (by simp only [List.length_append, hbB]; omega)) ?_
    rintro v22 s22 A22 w22 hle22 hg22 hax22 ⟨_, hB22⟩
    refine ⟨hg22.sh.le hle22, ?_⟩
    refine RL.done ?_
    have hMs22 := hMs21.le hle22
    have hl22 := hl21.trans hle22
    have hx22 := hx21.trans ((Aux.drew _).trans hax22)
    refine CW.seq ?_
    have hgD23 := hg22.drew
    refine CW.draws [(true, 0), (true, 1), (true, 2), (true, 3), (true, 4), (false, 5)] (fun w => In s22 w) mixed (by kernel_rfl) (by kernel_rfl) (by kernel_rfl) (by kernel_rfl) (hgD23.sh) ?_
    refine RL.pure rfl rfl rfl rfl ?_
    refine RL.pure rfl rfl rfl rfl ?_
    refine RL.field rfl rfl rfl rfl fl76_1 rfl rfl ?_
    refine RL.field rfl rfl rfl rfl fl42_9 rfl rfl ?_
    refine RL.loadT (j := 9) rfl rfl rfl rfl ty36 rfl (hMs22) (fun w h => h) rfl ?_
    refine RL.call rfl rfl rfl rfl rfl ca55 (bUint_ct hgD23 hB22 ho.hint (by simp only [List.length_append, hbB]; omega)) ?_
    rintro v23 s23 A23 w23 hle23 hg23 hax23 ⟨_, hB23⟩
    refine ⟨hg23.sh.le hle23, ?_⟩
    refine RL.done ?_
    have hMs23 := hMs22.le hle23
    have hl23 := hl22.trans hle23
    have hx23 := hx22.trans ((Aux.drew _).trans hax23)
    have ho := ((ho.up hle21).up hle22).up hle23
    refine CW.seq ?_
    have hgD24 := hg23.drew
    refine CW.draws [(true, 0), (true, 1), (true, 2), (true, 3), (true, 4), (false, 5)] (fun w => In s23 w) mixed (by kernel_rfl) (by kernel_rfl) (by kernel_rfl) (by kernel_rfl) (hgD24.sh) ?_
    refine RL.pure rfl rfl rfl rfl ?_
    refine RL.pure rfl rfl rfl rfl ?_
    refine RL.field rfl rfl rfl rfl fl76_1 rfl rfl ?_
    refine RL.field rfl rfl rfl rfl fl42_10 rfl rfl ?_
    refine RL.loadsT (j := 10) (us := [.slice y.va x.msg.conf.voters.length y.vc, .slice y.la x.msg.conf.learners.length y.lc]) rfl rfl rfl rfl ty40 rfl (hMs23) (fun w h => h) rfl rfl ?_
    refine RL.call rfl rfl rfl rfl rfl ca59 (bConf_ct hgD24 hB23 ho.conf (by simp only [List.length_append, hbB]; omega)) ?_
    rintro v24 s24 A24 w24 hle24 hg24 hax24 ⟨_, hB24⟩
    refine ⟨hg24.sh.le hle24, ?_⟩
    refine RL.done ?_
    have hMs24 := hMs23.le hle24
    have hl24 := hl23.trans hle24
    have hx24 := hx23.trans ((Aux.drew _).trans hax24)
    refine CW.seq ?_
    have hgD25 := hg24.drew
    refine CW.draws [(true, 0), (true, 1), (true, 2), (true, 3), (true, 4), (false, 5)] (fun w => In s24 w) mixed (by kernel_rfl) (by kernel_rfl) (by kernel_rfl) (by kernel_rfl) (hgD25.sh) ?_
    refine RL.pure rfl rfl rfl rfl ?_
    refine RL.pure rfl rfl rfl rfl ?_
    refine RL.field rfl rfl rfl rfl fl76_1 rfl rfl ?_
    refine RL.field rfl rfl rfl rfl fl42_11 rfl rfl ?_
    refine RL.loadT (j := 12) rfl rfl rfl rfl ty22 rfl (hMs24) (fun w h => h) rfl ?_
    refine RL.call rfl rfl rfl rfl rfl ca60 (bBytes_ct hgD25 hB24 (ho.data.up (RInt.up _) hle24) (by simp only [List.length_append, hbB]; omega)) ?_
    rintro v25 s25 A25 w25 hle25 hg25 hax25 ⟨_, hB25⟩
    refine ⟨hg25.sh.le hle25, ?_⟩
    refine RL.done ?_
    have hMs25 := hMs24.le hle25
    have hl25 := hl24.trans hle25
    have hx25 := hx24.trans ((Aux.drew _).trans hax25)
    have hgD := hg25.drew
    refine CW.draws [(true, 0), (true, 1), (true, 2), (true, 3), (true, 4), (false, 5)] (fun w => In s25 w) mixed (by kernel_rfl) (by kernel_rfl) (by kernel_rfl) (by kernel_rfl) (hgD.sh) ?_
    refine RL.pure rfl rfl rfl rfl ?_
    refine RL.pure rfl rfl rfl rfl ?_
    refine RL.field rfl rfl rfl rfl fl76_1 rfl rfl ?_
    refine RL.field rfl rfl rfl rfl fl42_12 rfl rfl ?_
    refine RL.loadT (j := 13) rfl rfl rfl rfl ty4 rfl (hMs25) (fun w h => h) rfl ?_
    refine RL.call rfl rfl rfl rfl rfl ca56 (bBool_ct hgD hB25 (by simp only [List.length_append, hbB]; omega)) ?_
    rintro v26 s26 A26 w26 hle26 hg26 hax26 ⟨_, hB26⟩
    refine ⟨hg26.sh.le hle26, ?_⟩
    refine RL.done ?_
    exact fall (vs := []) rfl (Post.mk (hl25.trans hle26) hg26 (hx25.trans ((Aux.drew _).trans hax26)) ⟨rfl, by simpa only [encFull, List.append_assoc] using hB26⟩)

set_option maxRecDepth 100000 in
theorem bytes_ct {w : World} {s A : Res} {os : List Res} {p : Nat} {mn : Int} {bs : List Int} (hg : Good w s (A :: os)) (hA : BObj s A p mn bs) (hmn : 0 ≤ mn ∧ mn < 1000000000000) (hl : bs.length ≤ 70368744177664) :
    Calls Tryd.prog 34 #[ptr p] w (Post w s (A :: os) fun s' B r => BOwn s' B r (encU mn ++ bs)) := by
  have u1 := encU_length mn
  obtain ⟨a, c, hp, hown⟩ := id hA
  refine enter (l := [ptr p]) Tryd.func34 rfl Tryd.ntmps34 rfl ?_
  refine CW.seq (CW.plain ?_)
  refine RL.pure rfl rfl rfl rfl ?_
  refine RL.done ?_
  refine CW.seq (CW.plain ?_)
  refine RL.alloc rfl rfl rfl rfl ze74 hg ?_
  rintro q w1 hg1 hax1
  refine ⟨trivial, ?_⟩
  refine RL.done ?_
  have hW : WObj s (Res.one q (.cells #[nilSl] 74)) q [] := ⟨none, 0, if_pos rfl, .inl ⟨rfl, rfl, rfl⟩⟩
  refine CW.seq (CW.plain ?_)
  refine RL.pure rfl rfl rfl rfl ?_
  refine RL.pure rfl rfl rfl rfl ?_
  refine RL.field rfl rfl rfl rfl fl76_0 rfl rfl ?_
  refine RL.load (j := 0) rfl rfl rfl rfl ty3 rfl (Holds.of hp) (hg1.2.2.2.1) rfl ?_
  refine RL.conv rfl rfl rfl rfl Tryd.underlying3 Tryd.underlying36 rfl ((by simp only [rng]; omega)) ?_
  refine RL.call rfl rfl rfl rfl rfl ca55 (Uint_ct hg1 hW (by simp only [rng]; omega) (by simp)) ?_
  rintro v2 s2 W2 w2 hle2 hg2 hax2 ⟨_, hW2⟩
  refine ⟨trivial, ?_⟩
  refine RL.done ?_
  rw [List.nil_append] at hW2
  have hA2 := hA.up hle2
  have hgD := hg2.drew
  refine CW.seq ?_
  refine CW.draws [(true, 1), (true, 2), (true, 3), (false, 0), (false, 4), (false, 5), (false, 6)] (fun w => In s2 w) mixed (by kernel_rfl) (by kernel_rfl) (by kernel_rfl) (by kernel_rfl) (hgD.sh) ?_
  refine RL.pure rfl rfl rfl rfl ?_
  refine RL.pure rfl rfl rfl rfl ?_
  refine RL.field rfl rfl rfl rfl fl76_1 rfl rfl ?_
  refine RL.call rfl rfl rfl rfl rfl ca61 (Done_ct hgD hW2 (by omega)) ?_
  rintro v3 s3 B3 w3 hle3 hg3 hax3 ⟨b3, c3, rfl, ho3⟩
  refine ⟨hg3.sh.le hle3, ?_⟩
  refine RL.call rfl rfl rfl rfl rfl ca61 (bDone_ct ((hg3.front 2 rfl)) (hA2.up hle3) (by omega)) ?_
  rintro v4 s4 B4 w4 hle4 hg4 hax4 ⟨b4, c4, rfl, ho4⟩
  refine ⟨hg4.sh.le (hle3.trans hle4), ?_⟩
  obtain ⟨s5, hg5, hle5, hq5⟩ := Good.letgo hg4
  have hi4 := ho4.imm (RInt.up _) hle5 hq5
  have ho3' := (ho3.up (RInt.up _) hle4).up (RInt.up _) hle5
  obtain ⟨news, hsrc, hch⟩ := Src.row (c := c4) sl22 hi4.2.2 hg5.sh
  refine RL.append (i := 1) (ys := bs) rfl rfl rfl rfl sl22 ze5 rfl (by first | exact RInt.one _ | exact RStr.one | exact RBool.one | assumption) rfl rfl hg5 rfl ho3' (hsrc) (hch) ((by omega)) (by omega) ?_
  rintro a6 c6 A6 w6 hg6 ho6 hax6 hk6
  refine ⟨hg6.sh.le (hle3.trans (hle4.trans hle5)), ?_⟩
  refine RL.pure rfl rfl rfl rfl ?_
  refine RL.done ?_
  exact CW.ret (ret (vs := [_]) ⟨_, _, rfl, rfl, rfl⟩ (Post.mk (hle2.trans (hle3.trans (hle4.trans hle5))) (Good.swap (A := A) (B := A6) (Good.drop (hg6.front 2 rfl))) (hax1.trans (hax2.trans ((Aux.drew _).trans (hax3.trans (hax4.trans hax6))))) ⟨a6, c6, rfl, ho6⟩))
end Go.Lw
