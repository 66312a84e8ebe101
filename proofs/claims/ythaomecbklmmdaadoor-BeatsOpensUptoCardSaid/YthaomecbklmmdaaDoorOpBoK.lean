/-
  PLAIN: what Open reads makes the packet again. No program in sight.
-/
import Derived.Test.YthaomecbklmmdaaDoorOpBrK
namespace Go.Lw

section
variable {bs : List Int} {st : RS}
theorem rdBool_err (h : (rdBool bs st).2.err.isNone = true) : st.err.isNone = true := by
  cases hn : st.err.isNone with
  | true => rfl
  | false => rw [rdBool_some hn, hn] at h; cases h
theorem rdBool_took (hr : ∀ x ∈ bs, rng .u8 x) (hs : St bs st) (h : (rdBool bs st).2.err.isNone = true) : Took bs st (rdBool bs st).2 (encB (rdBool bs st).1) := by
  have hn := isNone_eq (rdBool_err h)
  obtain ⟨s0, s1⟩ := hs
  unfold rdBool at h ⊢
  simp only [hn] at h ⊢
  cases hd : bs.drop st.pos.toNat with
  | nil => rw [hd] at h; simp [RS.fail, RS.failAt, hn] at h
  | cons c tl =>
    rw [hd] at h
    simp only at h ⊢
    split at h
    · simp [RS.fail, RS.failAt, hn] at h
    · rename_i h1
      rw [if_neg h1]
      have hc : rng .u8 c := hr c (List.mem_of_mem_drop (by rw [hd]; simp))
      simp only [rng] at hc
      have hlen : (bs.drop st.pos.toNat).length = tl.length + 1 := by rw [hd]; rfl
      rw [List.length_drop] at hlen
      refine ⟨rfl, ?_, ?_, ?_, ?_⟩
      · show 0 ≤ st.pos + 1
        omega
      · show st.pos + 1 ≤ bs.length
        omega
      · show st.pos + 1 = st.pos + 1
        rfl
      · show bs.drop st.pos.toNat = encB (c == 1) ++ bs.drop (st.pos + 1).toNat
        rw [show (st.pos + 1).toNat = st.pos.toNat + 1 by omega, ← List.drop_drop, hd]
        rcases (by omega : c = 0 ∨ c = 1) with rfl | rfl <;> rfl
theorem rdEntry_err (h : (rdEntry bs st).2.err.isNone = true) : st.err.isNone = true := rdUint_err (rdUint_err (rdInt_err (rdKind_err (rdBytes_err (rdConf_err h)))))
theorem rdEntry_took2 (hr : ∀ x ∈ bs, rng .u8 x) (hs : St bs st) (h : (rdEntry bs st).2.err.isNone = true) : Took bs st (rdEntry bs st).2 (encEntry (rdEntry bs st).1) ∧ longE (rdEntry bs st).1 = false := by
  unfold rdEntry at h ⊢
  simp only at h ⊢
  have h4 := rdConf_err h
  have h3 := rdBytes_err h4
  have h2 := rdInt_err (rdKind_err h3)
  have h1 := rdUint_err h2
  obtain ⟨a, ar⟩ := rdUint_took hr hs h1
  obtain ⟨b, br⟩ := rdUint_took hr a.st h2
  obtain ⟨c, c1, c2, cr⟩ := rdKind_took hr b.st h3
  obtain ⟨d, d1, d2⟩ := rdBytes_took hr c.st h4
  obtain ⟨e, e1, e2, e3⟩ := rdConf_took hr d.st h
  simp only [h, if_true]
  refine ⟨?_, ?_⟩
  · have := (((a.trans b).trans c).trans d).trans e
    simpa [encEntry] using this
  · simp only [longE, wideP, Bool.or_eq_false_iff, decide_eq_false_iff_not]
    exact ⟨⟨⟨by omega, by omega, by omega⟩, by omega⟩, by omega⟩
theorem rdEs_err : ∀ {n : Nat} {st : RS} {xs : List Entry}, (rdEs bs n st xs).2.err.isNone = true → st.err.isNone = true
  | 0, _, _, h => h
  | n + 1, _, _, h => rdEntry_err (rdEs_err (n := n) h)
theorem rdEs_took (hr : ∀ x ∈ bs, rng .u8 x) : ∀ {n : Nat} {st : RS} {xs : List Entry}, St bs st → (rdEs bs n st xs).2.err.isNone = true →
    ∃ ys, (rdEs bs n st xs).1 = xs ++ ys ∧ ys.length = n ∧ Took bs st (rdEs bs n st xs).2 (encEs ys) ∧ ∀ y ∈ ys, longE y = false
  | 0, st, xs, hs, h => ⟨[], by simp [rdEs], rfl, ⟨isNone_eq h, hs.1, hs.2, by simp [rdEs, encEs], by simp [rdEs, encEs]⟩, by simp⟩
  | n + 1, st, xs, hs, h => by
    simp only [rdEs] at h ⊢
    obtain ⟨t, tr⟩ := rdEntry_took2 hr hs (rdEs_err h)
    obtain ⟨ys, e1, e2, e3, e4⟩ := rdEs_took hr t.st h
    refine ⟨(rdEntry bs st).1 :: ys, by rw [e1]; simp, by simp [e2], ?_, ?_⟩
    · have := t.trans e3
      simpa [encEs] using this
    · intro y hy
      rcases List.mem_cons.1 hy with rfl | hy
      · exact tr
      · exact e4 y hy
/-- A message as it is read: nothing of it too long. -/
def Fine (k : Int) (x : Wire) : Prop := kindOf x.msg = k ∧ known9 x.msg.kind = true ∧ longP x.msg = false
theorem rdBeat_err (h : (rdBeat bs st).2.err.isNone = true) : (rdUint bs (rdUint bs (rdBool bs (rdUint bs st).2).2).2).2.err.isNone = true := by
  unfold rdBeat at h
  simp only at h
  split at h
  · exact h
  · exact rdUint_err (rdUint_err h)
theorem rdBeat_took (hr : ∀ x ∈ bs, rng .u8 x) (hs : St bs st) (h : (rdBeat bs st).2.err.isNone = true) : Took bs st (rdBeat bs st).2 (encW (rdBeat bs st).1) ∧ Fine 2 (rdBeat bs st).1 := by
  have h4 := rdBeat_err h
  have h3 := rdUint_err h4
  have h2 := rdUint_err h3
  have h1 := rdBool_err h2
  obtain ⟨a, ar⟩ := rdUint_took hr hs h1
  have b := rdBool_took hr a.st h2
  obtain ⟨c, cr⟩ := rdUint_took hr b.st h3
  obtain ⟨d, dr⟩ := rdUint_took hr c.st h4
  unfold rdBeat at h ⊢
  simp only at h ⊢
  split at h
  · rename_i hb
    rw [if_pos hb]
    refine ⟨?_, by simp [kindOf, isP, mkMsg, Msg.lens], by simp [mkMsg, known9], by simp [mkMsg, longP, wideP]⟩
    have := ((a.trans b).trans c).trans d
    simpa [encW, isP, mkMsg, Msg.lens, encBeat, hb] using this
  · rename_i hb
    rw [if_neg hb]
    have h5 := rdUint_err h
    obtain ⟨e, er⟩ := rdUint_took hr d.st h5
    obtain ⟨f, fr⟩ := rdUint_took hr e.st h
    refine ⟨?_, by simp [kindOf, isP, mkMsg, Msg.lens], by simp [mkMsg, known9], by simp [mkMsg, longP, wideP]⟩
    have := ((((a.trans b).trans c).trans d).trans e).trans f
    simpa [encW, isP, mkMsg, Msg.lens, encBeat, hb] using this
theorem rdFull_err0 (h : (rdFull bs st).2.err.isNone = true) : (rdFull0 bs st).2.err.isNone = true ∧ oddP (rdFull0 bs st).1.msg = false := by
  unfold rdFull at h
  simp only at h
  split at h
  · rw [RS.fail, failAt_some (by decide)] at h; cases h
  · rename_i ho
    exact ⟨h, by simpa using ho⟩
theorem rdFull_took (hr : ∀ x ∈ bs, rng .u8 x) (hs : St bs st) (h : (rdFull bs st).2.err.isNone = true) : Took bs st (rdFull bs st).2 (encW (rdFull bs st).1) ∧ Fine 1 (rdFull bs st).1 := by
  obtain ⟨h0, ho⟩ := rdFull_err0 h
  have e2 : (rdFull bs st).2 = (rdFull0 bs st).2 := by simp only [rdFull, ho, Bool.false_eq_true, if_false]
  rw [e2, show (rdFull bs st).1 = (rdFull0 bs st).1 from rfl]
  simp only [oddP, Bool.or_eq_false_iff, Bool.not_eq_false'] at ho
  obtain ⟨hp, hk⟩ := ho
  have he : encW (rdFull0 bs st).1 = encFull (rdFull0 bs st).1 := by simp only [encW, hp, Bool.false_eq_true, if_false]
  rw [he]
  have hd : (rdFull0 bs st).2.err.isNone = true := h0
  unfold rdFull0 at h0
  simp only at h0
  have g11 := rdBool_err h0
  have g10 := rdBytes_err g11
  have g9 := rdConf_err g10
  have g8 := rdUint_err g9
  have g7 := rdBool_err g8
  have g6 := rdUint_err g7
  have g5 := rdEs_err g6
  have g4 := rdCount_err g5
  have g3 := rdUint_err g4
  have g2 := rdUint_err g3
  have g1 := rdUint_err g2
  have g0 := rdInt_err g1
  obtain ⟨a, _⟩ := rdUint_took hr hs g0
  obtain ⟨b, _⟩ := rdInt_took hr a.st g1
  obtain ⟨c, _⟩ := rdUint_took hr b.st g2
  obtain ⟨d, _⟩ := rdUint_took hr c.st g3
  obtain ⟨e, _⟩ := rdUint_took hr d.st g4
  obtain ⟨f, f1, f2, _⟩ := rdCount_took hr e.st g5
  obtain ⟨ys, y1, y2, g, y3⟩ := rdEs_took hr f.st g6
  obtain ⟨i, _⟩ := rdUint_took hr g.st g7
  have j := rdBool_took hr i.st g8
  obtain ⟨k, _⟩ := rdUint_took hr j.st g9
  obtain ⟨l, l1, l2, _⟩ := rdConf_took hr k.st g10
  obtain ⟨m, m1, _⟩ := rdBytes_took hr l.st g11
  have n := rdBool_took hr m.st h0
  rw [List.nil_append] at y1
  refine ⟨?_, by rw [kindOf, hp]; simp, hk, ?_⟩
  · have := a.trans b |>.trans c |>.trans d |>.trans e |>.trans f |>.trans g |>.trans i |>.trans j |>.trans k |>.trans l |>.trans m |>.trans n
    simp only [encFull, rdFull0, mkMsg, y1]
    rw [y2]
    rw [show (((rdCount bs (rdUint bs (rdUint bs (rdUint bs (rdInt bs (rdUint bs st).2).2).2).2).2 8).1.toNat : Nat) : Int) = (rdCount bs (rdUint bs (rdUint bs (rdUint bs (rdInt bs (rdUint bs st).2).2).2).2).2 8).1 by omega]
    exact this
  · simp only [longP, rdFull0, mkMsg, y1, wideP, Bool.or_eq_false_iff, decide_eq_false_iff_not, List.any_eq_false]
    refine ⟨⟨⟨by omega, by omega⟩, by omega, by omega⟩, fun y hy => by rw [y3 y hy]; decide⟩
theorem rdW_err {k : Int} (h : (rdW k bs st).2.err.isNone = true) : st.err.isNone = true := by
  unfold rdW at h
  split at h
  · exact rdUint_err (rdBool_err (rdUint_err (rdUint_err (rdBeat_err h))))
  · have h0 := (rdFull_err0 h).1
    unfold rdFull0 at h0
    exact rdUint_err <| rdInt_err <| rdUint_err <| rdUint_err <| rdUint_err <| rdCount_err <| rdEs_err <| rdUint_err <| rdBool_err <| rdUint_err <| rdConf_err <| rdBytes_err <| rdBool_err h0
theorem rdW_took {k : Int} (hk : k = 1 ∨ k = 2) (hr : ∀ x ∈ bs, rng .u8 x) (hs : St bs st) (h : (rdW k bs st).2.err.isNone = true) : Took bs st (rdW k bs st).2 (encW (rdW k bs st).1) ∧ Fine k (rdW k bs st).1 := by
  unfold rdW at h ⊢
  rcases hk with rfl | rfl
  · exact rdFull_took hr hs h
  · exact rdBeat_took hr hs h
theorem encW_set (frm to : Int) (x : Wire) : encW (setFT frm to x) = encW x := rfl
theorem Fine.set {k : Int} {x : Wire} (h : Fine k x) (frm to : Int) : Fine k (setFT frm to x) := h
theorem rdWs_err {k frm to : Int} : ∀ {n : Nat} {st : RS} {xs : List Wire}, (rdWs k frm to bs n st xs).2.err.isNone = true → st.err.isNone = true
  | 0, _, _, h => h
  | n + 1, st, xs, h => by
    cases hn : st.err.isNone with
    | true => rfl
    | false => rw [rdWs, hn] at h; simp only [Bool.false_eq_true, if_false] at h; rw [hn] at h; cases h
theorem rdWs_took {k frm to : Int} (hk : k = 1 ∨ k = 2) (hr : ∀ x ∈ bs, rng .u8 x) : ∀ {n : Nat} {st : RS} {xs : List Wire}, St bs st → (rdWs k frm to bs n st xs).2.err.isNone = true →
    ∃ ys, (rdWs k frm to bs n st xs).1 = xs ++ ys ∧ ys.length = n ∧ Took bs st (rdWs k frm to bs n st xs).2 (encWs ys) ∧ ∀ y ∈ ys, Fine k y ∧ y.msg.frm = frm ∧ y.msg.to = to
  | 0, st, xs, hs, h => ⟨[], by simp [rdWs], rfl, ⟨isNone_eq h, hs.1, hs.2, by simp [rdWs, encWs], by simp [rdWs, encWs]⟩, by simp⟩
  | n + 1, st, xs, hs, h => by
    have hn := rdWs_err h
    simp only [rdWs, hn, if_true] at h ⊢
    obtain ⟨t, tr⟩ := rdW_took hk hr hs (rdWs_err h)
    obtain ⟨ys, e1, e2, e3, e4⟩ := rdWs_took hk hr t.st h
    refine ⟨setFT frm to (rdW k bs st).1 :: ys, by rw [e1]; simp, by simp [e2], ?_, ?_⟩
    · have := t.trans e3
      simpa [encWs, encW_set] using this
    · intro y hy
      rcases List.mem_cons.1 hy with rfl | hy
      · exact ⟨tr.set _ _, rfl, rfl⟩
      · exact e4 y hy
end

theorem Nz.bool {bs : List Int} {st : RS} (h : Nz st) : Nz (rdBool bs st).2 := by
  unfold rdBool
  split
  · exact h
  · split
    · exact h.failAt
    · split
      · exact h.failAt
      · exact Nz.none
theorem Nz.es {bs : List Int} : ∀ {n : Nat} {st : RS} {xs : List Entry}, Nz st → Nz (rdEs bs n st xs).2
  | 0, _, _, h => h
  | n + 1, _, _, h => Nz.es (n := n) h.entry
theorem Nz.w {k : Int} {bs : List Int} {st : RS} (h : Nz st) : Nz (rdW k bs st).2 := by
  unfold rdW
  split
  · unfold rdBeat
    simp only
    split
    · exact h.uint.bool.uint.uint
    · exact h.uint.bool.uint.uint.uint.uint
  · have h0 : Nz (rdFull0 bs st).2 := Nz.bool (Nz.bytes (Nz.conf (Nz.uint (Nz.bool (Nz.uint (Nz.es h.uint.int.uint.uint.uint.count))))))
    unfold rdFull
    simp only
    split
    · exact h0.failAt
    · exact h0
theorem Nz.ws {k frm to : Int} {bs : List Int} : ∀ {n : Nat} {st : RS} {xs : List Wire}, Nz st → Nz (rdWs k frm to bs n st xs).2
  | 0, _, _, h => h
  | n + 1, st, xs, h => by
    simp only [rdWs]
    split
    · exact Nz.ws h.w
    · exact h

theorem packTo_none {frm : Int} {l : List Wire} {to kind : Int} (h : ∀ x ∈ l, ¬ (x.msg.to = to ∧ kindOf x.msg = kind)) : packTo frm l to kind = [] := by
  unfold packTo
  rw [if_pos]
  rw [List.filter_eq_nil_iff]
  intro x hx hm
  simp only [mine, Bool.and_eq_true, decide_eq_true_eq] at hm
  exact h x hx hm
theorem packTo_all {frm : Int} {l : List Wire} {to kind : Int} (hl : l ≠ []) (h : ∀ x ∈ l, x.msg.to = to ∧ kindOf x.msg = kind) : packTo frm l to kind = [⟨frm, to, kind, encU l.length ++ encWs l⟩] := by
  have hf : l.filter (mine to kind) = l := by
    rw [List.filter_eq_self]
    intro x hx
    simp only [mine, Bool.and_eq_true, decide_eq_true_eq]
    exact h x hx
  unfold packTo
  rw [hf, if_neg hl]
theorem packUp_all {frm : Int} {l : List Wire} {to kind : Int} (hl : l ≠ []) (hk : kind = 1 ∨ kind = 2) (h0 : 1 ≤ to) (h : ∀ x ∈ l, x.msg.to = to ∧ kindOf x.msg = kind) : ∀ n : Nat, packUp frm l n = if to ≤ n then [⟨frm, to, kind, encU l.length ++ encWs l⟩] else []
  | 0 => by rw [packUp, if_neg (by omega)]
  | n + 1 => by
    rw [packUp, packUp_all hl hk h0 h n]
    by_cases e : to = (n : Int) + 1
    · subst e
      rw [if_neg (by omega), if_pos (by omega)]
      rcases hk with rfl | rfl
      · rw [packTo_none (kind := 2) (fun x hx hm => by have := (h x hx).2; omega), packTo_all hl h]; rfl
      · rw [packTo_all hl h, packTo_none (kind := 1) (fun x hx hm => by have := (h x hx).2; omega)]; rfl
    · rw [packTo_none (fun x hx hm => e ((h x hx).1.symm.trans hm.1)), packTo_none (fun x hx hm => e ((h x hx).1.symm.trans hm.1))]
      by_cases h2 : to ≤ n
      · rw [if_pos h2, if_pos (by omega)]; rfl
      · rw [if_neg h2, if_neg (by omega)]; rfl
/-- What Open reads makes the packet again. -/
theorem open_pack {p : Packet} {l : List Wire} (hr : ∀ x ∈ p.data, rng .u8 x) (h : openP p = (l, 0)) : packP p.frm l = ([p], 0) ∧ l.length ≤ 4096 ∧ (encWs l).length ≤ p.data.length ∧ ∀ y ∈ l, longP y.msg = false := by
  unfold openP at h
  split at h
  · cases h
  rename_i hb
  simp only at h
  split at h
  · rename_i hd
    exact absurd (congrArg Prod.snd h) hd
  rename_i hd
  have hd : doneOf p.data (rdWs p.kind p.frm p.to p.data (rdCount p.data ⟨0, none⟩ 4096).1.toNat (st0P p.data) []).2 = 0 := by omega
  have hl := congrArg Prod.fst h
  simp only at hl
  simp only [badP, Bool.or_eq_true, not_or, Bool.not_eq_true, Bool.not_eq_false', decide_eq_false_iff_not, Bool.and_eq_false_iff, Decidable.not_not] at hb
  obtain ⟨⟨⟨hb1, hb2⟩, hb3⟩, hb4⟩ := hb
  have hnz0 : Nz (st0P p.data) := by
    unfold st0P
    have hc : Nz (rdCount p.data ⟨0, none⟩ 4096).2 := Nz.none.count
    split
    · exact hc.failAt
    · exact hc
  obtain ⟨he, hpos⟩ := done_ok (Nz.ws hnz0) hd
  have he0 := rdWs_err he
  have hn0 : (rdCount p.data ⟨0, none⟩ 4096).1 ≠ 0 := by
    intro e
    unfold st0P at he0
    rw [if_pos e, RS.fail, failAt_some (by decide)] at he0
    cases he0
  have hst : st0P p.data = (rdCount p.data ⟨0, none⟩ 4096).2 := by unfold st0P; rw [if_neg hn0]
  rw [hst] at he he0 hpos hl
  obtain ⟨c, c0, c1, _⟩ := rdCount_took hr (st := ⟨0, none⟩) ⟨Int.le_refl 0, (by omega : (0 : Int) ≤ p.data.length)⟩ he0
  obtain ⟨ys, y1, y2, t, y3⟩ := rdWs_took hb4 hr c.st he
  rw [List.nil_append, hl] at y1
  subst y1
  have hall := (c.trans t).is
  have htl : p.data.drop (rdWs p.kind p.frm p.to p.data (rdCount p.data ⟨0, none⟩ 4096).1.toNat (rdCount p.data ⟨0, none⟩ 4096).2 []).2.pos.toNat = [] := List.drop_eq_nil_of_le (by omega)
  rw [htl, List.append_nil] at hall
  simp only [Int.toNat_zero, List.drop_zero] at hall
  rw [show (rdCount p.data ⟨0, none⟩ 4096).1 = (l.length : Int) by omega] at hall
  have hln : l ≠ [] := by
    intro e
    rw [e] at y2
    simp only [List.length_nil] at y2
    omega
  refine ⟨?_, by omega, by rw [hall]; simp, fun y hy => (y3 y hy).1.2.2⟩
  have hto : 1 ≤ p.to ∧ p.to ≤ 7 := by simpa [node7] using hb2
  unfold packP
  rw [if_neg, if_neg, packUp_all hln hb4 hto.1 (fun x hx => ⟨(y3 x hx).2.2, (y3 x hx).1.1⟩), if_pos (by omega), ← hall]
  · rintro (h1 | h1)
    · omega
    · obtain ⟨x, hx, hlx⟩ := List.any_eq_true.1 h1
      rw [(y3 x hx).1.2.2] at hlx; cases hlx
  · rintro (h1 | h1)
    · rw [hb1] at h1; cases h1
    · obtain ⟨x, hx, hlx⟩ := List.any_eq_true.1 h1
      obtain ⟨⟨f1, f2, f3⟩, f4, f5⟩ := y3 x hx
      simp only [badW, f2, f4, f5, hb2, Bool.not_true, Bool.or_false, decide_not, Bool.or_eq_true, decide_eq_true_eq, decide_true, Bool.false_eq_true, false_or] at hlx
      exact hb3 hlx.symm
end Go.Lw
