/-
  Quorum: Commit, by the program.
-/
import Derived.Test.YtdleejgghbpbmaaQuorumH
namespace Go.Lw
open Go.Proofs
open Go.Sort (swp size_swp PermIn)

section
variable {P : Program} {n : Nat} {ops : Array Oper} {Q : Exit → Act → World → Prop} {S : World → Prop} {rest' : List (Bool × Oper)} {E : Env} {w : World} {o : Oper} {q : Nat} {s : Res} {os : List Res} {x y : Operand}
/-- A new row of zeros. -/
theorem RL.makeRow {t : TypeId} {by_ m : Nat} (hg : wants ops E o = some true) (hd : o.dst = some q) (hb : Nat.blt q n = true) (ho : o.op = .makeSlice t x y) (ht : slc P t = some (ET, 1, by_)) (hz : zer P ET = some [Value.int KK 0])
    (hx : ev E x = some (i64 (m : Nat))) (hy : ev E y = some (i64 (m : Nat))) (hm : by_ * m ≤ 281474976710656) (h63 : m ≤ 9223372036854775807) (hG : Good w s os)
    (h : ∀ b A w', Good w' s (A :: os) → Aux w w' → RowAt A b [] (Array.replicate m 0) → S w' ∧ RL P n ops Q S rest' ((q, .slice (some ⟨b, 0, none⟩) m m) :: E) w') : RL P n ops Q S ((false, o) :: rest') E w := by
  obtain ⟨hu, inf, hi, hsz, hby⟩ := slc_spec ht
  unfold zer at hz
  cases hzz : inf.zero with
  | none => simp [hi, hzz] at hz
  | some u =>
    simp [hi, hzz] at hz
    have hrun := run_make (P := P) w t ET inf u hu hi hzz .i64 .i64 (m : Int) (m : Int) (by omega) (Int.le_refl _) (by rw [hby]; omega) (by omega)
    have hcells : (madeCells u.cells ((m : Int).toNat * inf.size)) = ((Array.replicate m (0 : Int)).toList.map (Value.int KK) ++ []).toArray := by
      have hu2 : u.cells = #[Value.int KK 0] := by
        apply Array.ext'
        simpa using hz
      rw [hu2, hsz, Int.toNat_natCast, Nat.mul_one]
      apply Array.ext
      · simp [madeCells]
      · intro j h1 h2
        simp [madeCells]
        rw [Nat.mod_one]
        rfl
    rw [hcells] at hrun
    obtain ⟨h1, h2⟩ := h w.heap.size _ _ (hG.alloc _) (Aux.alloc w _) (if_pos rfl)
    refine RL.step hg hd hb (fun ac ha => ?_) h1 h2
    unfold execOp
    simp only [ho, ha.ev hx, ha.ev hy]
    simp [hrun]
end

theorem upd_row {v : List Int} {f f' : Int → Int} {i : Nat} {x m : Int} (hi : i < v.length) (hv : v[i] = x) (hs : v.Pairwise (· < ·)) (hf : ∀ y, f' y = if x == y then mx (f y) m else f y) :
    ((v.map f).toArray).setIfInBounds i (mx (f x) m) = (v.map f').toArray := by
  apply Array.ext
  · simp
  · intro j h1 h2
    have hj : j < v.length := by simpa using h2
    rw [Array.getElem_setIfInBounds (by simpa using hj)]
    simp only [List.getElem_toArray, List.getElem_map]
    by_cases e : i = j
    · subst e
      rw [if_pos rfl, hf, hv, if_pos (by simp)]
    · rw [if_neg e, hf, if_neg]
      have hsp := List.pairwise_iff_getElem.1 hs
      rcases Nat.lt_or_gt_of_ne e with h | h
      · have := hsp i j hi hj h; simp; omega
      · have := hsp j i hj hi h; simp; omega
theorem keep_row {v : List Int} {f f' : Int → Int} {x m : Int} (hx : x ∉ v) (hf : ∀ y, f' y = if x == y then mx (f y) m else f y) : v.map f' = v.map f := by
  apply List.map_congr_left
  intro y hy
  rw [hf, if_neg]
  simp
  intro e
  subst e
  exact hx hy
theorem row_bang {v : List Int} {f : Int → Int} {i : Nat} (hi : i < v.length) : ((v.map f).toArray)[i]! = f v[i] := by
  rw [getElem!_pos _ i (by simpa using hi)]; simp

/-- c is what is committed. -/
abbrev CPost (w : World) (s : Res) (os : List Res) (xs : List Int) (l : List Peer) : Ending → World → Prop := Post w s os fun _ _ r => ∃ c, r = .int .u64 c ∧ Com ((uniq xs).map (matchP l)) c

set_option maxHeartbeats 1000000 in
set_option maxRecDepth 100000 in
theorem Commit_ct {w : World} {s : Res} {os : List Res} {xs : List Int} {l : List Peer} {xa la : Option Addr} {xc lc : Nat} (hg : Good w s os) (hx : Ints s xa xc xs) (hl : Peers s la lc l) (hb : xs.length * 8 ≤ 140737488355328) :
    Calls Try.prog 17 #[.slice xa xs.length xc, .slice la l.length lc] w (CPost w s os xs l) := by
  have hul := uniq_le xs
  have hst := uniq_strict xs
  have hll := hl.le_max
  simp only [maxLen] at hll
  refine enter (l := [.slice xa xs.length xc, .slice la l.length lc]) Try.func17 rfl Try.ntmps17 rfl ?_
  refine CW.seq (CW.plain ?_)
  refine RL.pure rfl rfl rfl rfl ?_
  refine RL.done ?_
  refine CW.seq (CW.plain ?_)
  refine RL.pure rfl rfl rfl rfl ?_
  refine RL.call rfl rfl rfl rfl rfl ca19 (once_ct hg hx hb) ?_
  rintro v2 s2 A2 w2 hle2 hg2 hax2 ⟨rfl, a2, c2, rfl, ho2⟩
  refine ⟨trivial, ?_⟩
  refine RL.pure rfl rfl rfl rfl ?_
  refine RL.done ?_
  obtain ⟨s3, hg3, hle3, hA3⟩ := hg2.letgo
  have hv : Ints s3 a2 c2 (uniq xs) := ho2.imm (RInt.up _) hle3 hA3
  have hl3 : Peers s3 la lc l := hl.up RPeer.up hle3
  unfold CPost
  generalize uniq xs = V at *
  refine CW.seq (CW.seq (CW.plain ?_))
  refine RL.pure rfl rfl rfl rfl ?_
  refine RL.len rfl rfl rfl rfl sl22 rfl ?_
  refine RL.pure rfl rfl rfl rfl ?_
  refine RL.done ?_
  refine CW.eq rfl (fun h0 => ?_) (fun h0 => ?_)
  · refine CW.seq (CW.plain ?_)
    refine RL.pure rfl rfl rfl rfl ?_
    refine RL.done ?_
    have hnil : V = [] := List.eq_nil_of_length_eq_zero (by omega)
    exact CW.ret (ret (vs := [_]) ⟨_, _, rfl, rfl, rfl⟩ (Post.mk hle3 hg3.nil hax2 ⟨0, rfl, .inl ⟨by rw [hnil]; rfl, rfl⟩⟩))
  refine CW.skip ?_
  refine CW.seq (CW.plain ?_)
  refine RL.pure rfl rfl rfl rfl ?_
  refine RL.len rfl rfl rfl rfl sl22 rfl ?_
  refine RL.makeRow (m := V.length) rfl rfl rfl rfl sl49 ze33 rfl rfl (by omega) (by omega) hg3 ?_
  rintro b A4 w4 hg4 hax4 hrow4
  refine ⟨trivial, ?_⟩
  refine RL.pure rfl rfl rfl rfl ?_
  refine RL.done ?_
  refine CW.seq (CW.seq (CW.plain ?_))
  refine RL.pure rfl rfl rfl rfl ?_
  refine RL.len rfl rfl rfl rfl sl32 rfl ?_
  refine RL.pure rfl rfl rfl rfl ?_
  refine RL.done ?_
  have hrow0 : RowAt A4 b [] (V.map (matchP (l.take 0))).toArray := by
    have e : (V.map (matchP (l.take 0))).toArray = Array.replicate V.length 0 := by
      apply Array.ext
      · simp
      · intro j h1 h2
        simp [matchP]
    rw [e]; exact hrow4
  refine CW.block (CW.loop (σ := Nat) (fun j E w' => ∃ A', Good w' s3 (A' :: os) ∧ Aux w w' ∧ ∃ k : Nat, RowAt A' b [] (V.map (matchP (l.take k))).toArray ∧ k + j = l.length ∧ E = [(5, .slice a2 V.length c2), (6, .slice (some ⟨b, 0, none⟩) V.length V.length), (19, .slice la l.length lc), (20, i64 l.length), (21, i64 k)])
    (fun j => j) l.length [(5, .slice a2 V.length c2), (6, .slice (some ⟨b, 0, none⟩) V.length V.length), (19, .slice la l.length lc), (20, i64 l.length), (21, i64 0)] ⟨rfl, rfl, rfl, rfl, rfl, trivial⟩ ⟨A4, hg4, hax2.trans hax4, 0, hrow0, by omega, rfl⟩ ?_)
  rintro j E w5 ⟨A5, hg5, hax5, k, hrow5, hk, rfl⟩
  refine CW.seq (CW.plain ?_)
  refine RL.pure rfl rfl rfl rfl ?_
  refine RL.done ?_
  refine CW.seq (CW.test rfl (fun h => ?_) (fun h => ?_))
  · refine CW.skip ?_
    have hkl : k < l.length := by omega
    have hstep : ∀ y, matchP (l.take (k + 1)) y = if l[k].node == y then mx (matchP (l.take k) y) l[k].mat else matchP (l.take k) y := fun y => by rw [matchP_take l y k hkl]; rfl
    obtain ⟨j, rfl⟩ : ∃ m, j = m + 1 := ⟨j - 1, by omega⟩
    refine CW.meet (fun E' w' => ∃ A', Good w' s3 (A' :: os) ∧ Aux w w' ∧ RowAt A' b [] (V.map (matchP (l.take (k + 1)))).toArray ∧ E' = [(5, .slice a2 V.length c2), (6, .slice (some ⟨b, 0, none⟩) V.length V.length), (19, .slice la l.length lc), (20, i64 l.length), (21, i64 k)]) ?_ ?_
    rotate_left
    · rintro E' w6 ⟨A6, hg6, hax6, hrow6, rfl⟩
      refine CW.plain ?_
      refine RL.add rfl rfl rfl rfl rfl rfl ((by simp only [rng]; omega)) ?_
      refine RL.pure rfl rfl rfl rfl ?_
      refine RL.done ?_
      exact fun ac ha => ⟨j, [(5, .slice a2 V.length c2), (6, .slice (some ⟨b, 0, none⟩) V.length V.length), (19, .slice la l.length lc), (20, i64 l.length), (21, i64 ((k : Int) + 1))], ha.sub ⟨rfl, rfl, rfl, rfl, rfl, trivial⟩, ⟨A6, hg6, hax6, k + 1, hrow6, by omega, rfl⟩, Nat.lt_succ_self j⟩
    refine CW.block (CW.seq (CW.plain ?_))
    refine RL.idx rfl rfl rfl rfl sl32 rfl rfl (hl3) (by omega) (by omega) ?_
    rintro q vs hvl hH ⟨rfl, hr1, hr2, hr3⟩
    refine RL.loads rfl rfl rfl rfl ty36 rfl (hH) (hg5.sh) rfl rfl ?_
    refine RL.alloc rfl rfl rfl rfl ze36 hg5 ?_
    rintro p w6 hg6 hax6
    refine ⟨trivial, ?_⟩
    refine RL.store (i := 0) (j := 0) rfl rfl rfl ty36 rfl rfl hg6 rfl ((if_pos rfl)) rfl (by first | (simp [Value.cells, Value.oneCell']; done) | simp [Value.cells, Value.oneCell', putL]) (by first | exact Nat.le_of_ble_eq_true rfl | (simp; done) | (simp; omega) | omega) ?_
    rintro w7 hg7 hax7
    refine ⟨trivial, ?_⟩
    refine RL.done ?_
    obtain ⟨B7, hg7', hB7⟩ : ∃ B, Good w7 s3 (B :: A5 :: os) ∧ B p = some (.cells #[i64 l[k].node, .int .u64 l[k].next, .int .u64 l[k].mat] 36 (0, 0)) := ⟨_, hg7, put_same _ _ _⟩
    refine CW.seq (CW.plain ?_)
    refine RL.pure rfl rfl rfl rfl ?_
    refine RL.field rfl rfl rfl rfl fl36_0 rfl rfl ?_
    refine RL.load rfl rfl rfl rfl ty3 rfl (Holds.of hB7) (hg7'.1) rfl ?_
    refine RL.callV rfl rfl rfl rfl rfl ca29 (BinarySearch_ct (x := l[k].node) hg7' hv hst (by omega)) ?_
    rintro v8 w8 hg8 hax8 ⟨i, rfl, hpl⟩
    refine ⟨trivial, ?_⟩
    refine RL.pure rfl rfl rfl rfl ?_
    refine RL.pure rfl rfl rfl rfl ?_
    refine RL.pure rfl rfl rfl rfl ?_
    refine RL.pure rfl rfl rfl rfl ?_
    refine RL.pure rfl rfl rfl rfl ?_
    refine RL.done ?_
    refine CW.seq (CW.plain ?_)
    refine RL.pure rfl rfl rfl rfl ?_
    refine RL.done ?_
    refine CW.cond rfl (fun hf => ?_) (fun hf => ?_)
    · obtain ⟨hi, hvi⟩ := of_decide_eq_true hf
      have hrb : ((V.map (matchP (l.take k))).toArray)[i]! = matchP (l.take k) l[k].node := by rw [row_bang hi, hvi]
      have hsz : ((V.map (matchP (l.take k))).toArray).size = V.length := by simp
      refine CW.forks (.fork [(true, 0), (true, 1), (true, 2), (true, 3), (true, 4), (true, 6)] (.line [(false, 5), (false, 7), (true, 8), (true, 9), (false, 10)]) (.line [(false, 7), (false, 5), (true, 8), (true, 9), (false, 10)])) (fun _ => True) mixed (by kernel_rfl) (by kernel_rfl) (by kernel_rfl) (by kernel_rfl) trivial ?_
      refine RT.pre trivial ?_
      refine RL.pure rfl rfl rfl rfl ?_
      refine RL.pure rfl rfl rfl rfl ?_
      refine RL.pure rfl rfl rfl rfl ?_
      refine RL.pure rfl rfl rfl rfl ?_
      refine RL.idxR i rfl rfl rfl rfl sl49 rfl rfl rfl hi ?_
      refine RL.field rfl rfl rfl rfl fl36_2 rfl rfl ?_
      refine RL.done ?_
      refine RT.both (S := fun _ => True) trivial (RT.end_ (S := fun _ => True) trivial ?_) (RT.end_ (S := fun _ => True) trivial ?_)
      · refine RL.loadR i rfl rfl rfl rfl ty33 rfl hrow5 hg8.drew.drop.1 (by rw [hsz]; exact hi) ?_
        refine RL.load rfl rfl rfl rfl ty33 rfl (Holds.of hB7) (hg8.drew.1) rfl ?_
        refine RL.max rfl rfl rfl rfl rfl rfl ?_
        refine RL.idxR i rfl rfl rfl rfl sl49 rfl rfl rfl hi ?_
        refine RL.storeR i rfl rfl rfl ty33 rfl rfl hg8.drew.swap hrow5 (by rw [hsz]; exact hi) ?_
        intro w9 A9 hg9 hax9 hrow9
        refine ⟨trivial, ?_⟩
        refine RL.done ?_
        exact fun ac ha => ⟨_, ha.sub (E' := [(5, .slice a2 V.length c2), (6, .slice (some ⟨b, 0, none⟩) V.length V.length), (19, .slice la l.length lc), (20, i64 l.length), (21, i64 k)]) ⟨rfl, rfl, rfl, rfl, rfl, trivial⟩, A9, hg9.dropNext, hax5.trans (hax6.trans (hax7.trans (hax8.trans ((Aux.drew _).trans hax9)))), by rw [← upd_row (f := matchP (l.take k)) hi hvi hst hstep, ← hrb]; exact hrow9, rfl⟩
      · refine RL.load rfl rfl rfl rfl ty33 rfl (Holds.of hB7) (hg8.drew.1) rfl ?_
        refine RL.loadR i rfl rfl rfl rfl ty33 rfl hrow5 hg8.drew.drop.1 (by rw [hsz]; exact hi) ?_
        refine RL.max rfl rfl rfl rfl rfl rfl ?_
        refine RL.idxR i rfl rfl rfl rfl sl49 rfl rfl rfl hi ?_
        refine RL.storeR i rfl rfl rfl ty33 rfl rfl hg8.drew.swap hrow5 (by rw [hsz]; exact hi) ?_
        intro w9 A9 hg9 hax9 hrow9
        refine ⟨trivial, ?_⟩
        refine RL.done ?_
        exact fun ac ha => ⟨_, ha.sub (E' := [(5, .slice a2 V.length c2), (6, .slice (some ⟨b, 0, none⟩) V.length V.length), (19, .slice la l.length lc), (20, i64 l.length), (21, i64 k)]) ⟨rfl, rfl, rfl, rfl, rfl, trivial⟩, A9, hg9.dropNext, hax5.trans (hax6.trans (hax7.trans (hax8.trans ((Aux.drew _).trans hax9)))), by rw [← upd_row (f := matchP (l.take k)) hi hvi hst hstep, ← hrb]; exact hrow9, rfl⟩
    · have hno : l[k].node ∉ V := fun hm => of_decide_eq_false hf (hpl.found hst hm)
      refine CW.skip (fun ac ha => ⟨_, ha.sub (E' := [(5, .slice a2 V.length c2), (6, .slice (some ⟨b, 0, none⟩) V.length V.length), (19, .slice la l.length lc), (20, i64 l.length), (21, i64 k)]) ⟨rfl, rfl, rfl, rfl, rfl, trivial⟩, A5, hg8.drop, hax5.trans (hax6.trans (hax7.trans hax8)), ?_, rfl⟩)
      rw [keep_row hno hstep]; exact hrow5
  · refine CW.exit ?_
    have hkl : k = l.length := by omega
    rw [hkl, List.take_length] at hrow5
    refine CW.seq (CW.plain ?_)
    refine RL.pure rfl rfl rfl rfl ?_
    refine RL.call rfl rfl rfl rfl rfl ca30 (SortK_ct (n := V.length) hg5 hrow5 (by simp) (by omega)) ?_
    rintro v6 s6 A6 w6 hle6 hg6 hax6 ⟨rfl, rfl, d, hpd, hsd, hrow6⟩
    refine ⟨trivial, ?_⟩
    refine RL.done ?_
    have hsz : d.size = V.length := by rw [hpd.1]; simp
    obtain ⟨hm1, hm2⟩ := most_le (n := V.length) (by omega)
    obtain ⟨K, hK⟩ : ∃ K : Nat, most (V.length : Int) = K := ⟨(most (V.length : Int)).toNat, by omega⟩
    rw [hK] at hm1 hm2
    refine CW.seq (CW.plain ?_)
    refine RL.pure rfl rfl rfl rfl ?_
    refine RL.pure rfl rfl rfl rfl ?_
    refine RL.len rfl rfl rfl rfl sl49 rfl ?_
    refine RL.pure rfl rfl rfl rfl ?_
    refine RL.len rfl rfl rfl rfl sl49 rfl ?_
    refine RL.callV rfl rfl rfl rfl rfl ca13 (Most_ct hg6 (rng_len (by omega))) ?_
    rintro v7 w7 hg7 hax7 rfl
    refine ⟨trivial, ?_⟩
    rw [hK]
    refine RL.sub rfl rfl rfl rfl rfl rfl ((by simp only [rng]; omega)) ?_
    refine RL.idxR (V.length - K) rfl rfl rfl rfl sl49 rfl rfl (by omega) (by omega) ?_
    refine RL.loadR (V.length - K) rfl rfl rfl rfl ty33 rfl hrow6 hg7.1 (by omega) ?_
    refine RL.pure rfl rfl rfl rfl ?_
    refine RL.done ?_
    refine CW.ret (ret (vs := [_]) ⟨_, _, rfl, rfl, rfl⟩ (Post.mk hle3 hg7 (hax5.trans (hax6.trans hax7)) ⟨_, rfl, .inr ⟨by intro e; simp at e; subst e; simp at h0, ?_⟩⟩))
    have hperm : d.toList.Perm (V.map (matchP l)) := by
      have h3 := hpd.2.2
      rw [← hsz, Array.extract_size] at h3
      have e : ((V.map (matchP l)).toArray.extract 0 d.size) = (V.map (matchP l)).toArray := by
        have : d.size = ((V.map (matchP l)).toArray).size := by rw [hsz]; simp
        rw [this, Array.extract_size]
      rw [e] at h3
      simpa using h3
    have := sorted_isK (K := K) hperm (fun i j hij hj => by
      have := hsd i j (Nat.zero_le _) hij (by omega)
      simp only [ltI, Go.Sort.ltInt, decide_eq_false_iff_not] at this
      omega) (by omega) (by omega)
    rw [hsz] at this
    rw [List.length_map, hK]
    exact this
end Go.Lw
