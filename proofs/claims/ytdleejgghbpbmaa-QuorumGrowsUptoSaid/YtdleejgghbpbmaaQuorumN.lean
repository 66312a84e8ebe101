/-
  Quorum: the law QuorumOrder: walked.
-/
import Derived.Test.YtdleejgghbpbmaaQuorumK
namespace Go.Lw
open Go.Proofs

theorem hasP_rev (xs ys : List Int) : hasP (uniq xs.reverse) ys.reverse = hasP (uniq xs) ys := by
  have h : (uniq xs.reverse).Perm (uniq xs) := (List.perm_ext_iff_of_nodup (uniq_nodup _) (uniq_nodup _)).2 fun y => by rw [uniq_mem, uniq_mem, List.mem_reverse]
  rw [hasP_perm h]
  simp only [hasP, List.mem_reverse]
theorem com_rev {xs : List Int} {l : List Peer} {c d : Int} (h : Com ((uniq xs.reverse).map (matchP l.reverse)) c) (k : Com ((uniq xs).map (matchP l)) d) : c = d := by
  have hp : (uniq xs.reverse).Perm (uniq xs) := (List.perm_ext_iff_of_nodup (uniq_nodup _) (uniq_nodup _)).2 fun y => by rw [uniq_mem, uniq_mem, List.mem_reverse]
  refine h.unique k ?_
  have e : matchP l.reverse = matchP l := funext (matchP_rev l)
  rw [e]
  exact hp.map _

set_option maxHeartbeats 2000000 in
set_option maxRecDepth 100000 in
theorem QuorumOrder_ct {w : World} {s : Res} {os : List Res} {xs ys : List Int} {l : List Peer} {xa ya la : Option Addr} {xc yc lc : Nat} (hg : Good w s os) (hx : Ints s xa xc xs) (hy : Ints s ya yc ys) (hl : Peers s la lc l) (hb : xs.length * 8 ≤ 140737488355328) (hb2 : ys.length * 8 ≤ 140737488355328) (hb3 : l.length * 24 ≤ 140737488355328) :
    Calls Try.prog 9 #[.slice xa xs.length xc, .slice ya ys.length yc, .slice la l.length lc] w (Post w s os fun _ _ r => r = .bool true) := by
  have hone := RPeer.one
  refine enter (l := [.slice xa xs.length xc, .slice ya ys.length yc, .slice la l.length lc]) Try.func9 rfl Try.ntmps9 rfl ?_
  refine CW.seq (CW.plain ?_)
  refine RL.pure rfl rfl rfl rfl ?_
  refine RL.done ?_
  refine CW.seq (CW.plain ?_)
  refine RL.call rfl rfl rfl rfl rfl ca10 (head_ct hg) ?_
  rintro v1 s1 A1 w1 hle1 hg1 hax1 rfl
  refine ⟨trivial, ?_⟩
  refine RL.pure rfl rfl rfl rfl ?_
  refine RL.done ?_
  have hx1 := hx.up (RInt.up _) hle1
  have hy1 := hy.up (RInt.up _) hle1
  have hl1 := hl.up RPeer.up hle1
  refine CW.seq (CW.plain ?_)
  refine RL.pure rfl rfl rfl rfl ?_
  refine RL.done ?_
  refine CW.seq (CW.plain ?_)
  refine RL.pure rfl rfl rfl rfl ?_
  refine RL.done ?_
  refine CW.seq (CW.plain ?_)
  refine RL.pure rfl rfl rfl rfl ?_
  refine RL.done ?_

  -- the voters, from the end
  refine CW.meet (fun E' w' => ∃ A' a' c', Good w' s1 (A' :: os) ∧ Aux w w' ∧ Own (RInt .i64) 1 3 s1 A' a' c' xs.reverse ∧ E' = [(0, .slice xa xs.length xc), (1, .slice ya ys.length yc), (2, .slice la l.length lc), (7, .bool true), (9, .slice none 0 0), (10, .slice none 0 0), (8, .slice a' xs.length c')]) ?_ ?_
  · refine CW.seq (CW.plain ?_)
    refine RL.pure rfl rfl rfl rfl ?_
    refine RL.len rfl rfl rfl rfl sl22 rfl ?_
    refine RL.sub rfl rfl rfl rfl rfl rfl ((by simp only [rng]; omega)) ?_
    refine RL.pure rfl rfl rfl rfl ?_
    refine RL.done ?_
    refine CW.block (CW.loop (σ := Nat) (fun k E w' => ∃ A' a' c' n', Good w' s1 (A' :: os) ∧ Aux w w' ∧ Own (RInt .i64) 1 3 s1 A' a' c' (xs.drop k).reverse ∧ k ≤ xs.length ∧ n' = (xs.drop k).reverse.length ∧ E = [(0, .slice xa xs.length xc), (1, .slice ya ys.length yc), (2, .slice la l.length lc), (7, .bool true), (9, .slice none 0 0), (10, .slice none 0 0), (8, .slice a' n' c'), (11, i64 ((k : Int) - 1))])
      (fun k => k) xs.length [(0, .slice xa xs.length xc), (1, .slice ya ys.length yc), (2, .slice la l.length lc), (7, .bool true), (9, .slice none 0 0), (10, .slice none 0 0), (8, .slice none 0 0), (11, i64 ((xs.length : Int) - 1))] ⟨rfl, rfl, rfl, rfl, rfl, rfl, rfl, rfl, trivial⟩ ⟨Res.nil, none, 0, 0, (hg1.drop).nil, hax1, .inl ⟨rfl, rfl, by simp⟩, Nat.le_refl _, by simp, rfl⟩ ?_)
    rintro k E w2 ⟨A2, a2, c2, n2, hg2, hax2, ho2, hk, hn2, rfl⟩
    refine CW.seq (CW.seq (CW.plain ?_))
    refine RL.pure rfl rfl rfl rfl ?_
    refine RL.pure rfl rfl rfl rfl ?_
    refine RL.done ?_
    refine CW.test rfl (fun h => ?_) (fun h => ?_)
    · refine CW.skip ?_
      obtain ⟨k, rfl⟩ : ∃ j, k = j + 1 := ⟨k - 1, by omega⟩
      have hkl : k < xs.length := by omega
      have edrop : xs.drop k = xs[k] :: xs.drop (k + 1) := (List.drop_eq_getElem_cons hkl)
      have erev : (xs.drop (k + 1)).reverse ++ [xs[k]] = (xs.drop k).reverse := by rw [edrop, List.reverse_cons]
      have ek : (((k + 1 : Nat) : Int) - 1) = (k : Int) := by omega
      have hlen2 : (xs.drop (k + 1)).reverse.length = xs.length - (k + 1) := by simp
      refine CW.seq (CW.block (CW.plain ?_))
      refine RL.pure rfl rfl rfl rfl ?_
      refine RL.pure rfl rfl rfl rfl ?_
      refine RL.pure rfl rfl rfl rfl ?_
      rw [ek]
      refine RL.idx rfl rfl rfl rfl sl22 rfl rfl (hx1) (by omega) (by omega) ?_
      rintro q vs hvl hH ⟨rfl, hr'⟩
      refine RL.load rfl rfl rfl rfl ty3 rfl (hH) (hg2.sh) rfl ?_
      refine RL.buildSlice rfl rfl rfl rfl sl22 ze3 rfl rfl rfl rfl hg2 ?_
      rintro b3 w3 hg3 hax3
      refine ⟨trivial, ?_⟩
      rw [hn2]
      refine RL.append (i := 1) (ys := [xs[(k : Int).toNat]]) rfl rfl rfl rfl sl22 ze3 rfl (by first | exact RInt.one _ | exact RStr.one | exact RBool.one | assumption) rfl rfl hg3 rfl ho2 ((Src.slice sl22 rfl (.inr ⟨_, rfl, Holds.one b3 _ 3⟩) hg3.1)) ((ints_chunks (k := .i64) (xs := [xs[(k : Int).toNat]]) (by simpa using hr'))) ((by simp only [List.length_cons, List.length_nil]; omega)) (by omega) ?_
      rintro a4 c4 A4 w4 hg4 ho4 hax4 hk4
      refine ⟨trivial, ?_⟩
      refine RL.pure rfl rfl rfl rfl ?_
      refine RL.done ?_
      refine CW.plain ?_
      refine RL.pure rfl rfl rfl rfl ?_
      refine RL.sub rfl rfl rfl rfl rfl rfl ((by simp only [rng]; omega)) ?_
      refine RL.pure rfl rfl rfl rfl ?_
      refine RL.done ?_
      have ho5 : Own (RInt .i64) 1 3 s1 A4 a4 c4 (xs.drop k).reverse := by rw [← erev]; exact ho4
      refine fun ac ha => ⟨k, [(0, .slice xa xs.length xc), (1, .slice ya ys.length yc), (2, .slice la l.length lc), (7, .bool true), (9, .slice none 0 0), (10, .slice none 0 0), (8, .slice a4 (xs.drop k).reverse.length c4), (11, i64 ((k : Int) - 1))], ha.sub ⟨rfl, rfl, rfl, rfl, rfl, rfl, by rw [← erev]; rfl, rfl, trivial⟩, ⟨A4, a4, c4, _, hg4.drop, hax2.trans (hax3.trans hax4), ho5, by omega, rfl, rfl⟩, by omega⟩
    · obtain rfl : k = 0 := by omega
      rw [List.drop_zero] at ho2 hn2
      refine CW.exit (fun ac ha => ⟨_, ha.sub (E' := [(0, .slice xa xs.length xc), (1, .slice ya ys.length yc), (2, .slice la l.length lc), (7, .bool true), (9, .slice none 0 0), (10, .slice none 0 0), (8, .slice a2 xs.length c2)]) ⟨rfl, rfl, rfl, rfl, rfl, rfl, by rw [hn2, List.length_reverse]; rfl, trivial⟩, A2, a2, c2, hg2, hax2, ho2, rfl⟩)
  rintro E' w5 ⟨A5, a5, c5, hg5, hax5, ho5, rfl⟩
  obtain ⟨s5, hs5, hle5, hA5⟩ := hg5.letgo
  have him5 : Imm (RInt .i64) 1 s5 a5 c5 xs.reverse := ho5.imm (RInt.up _) hle5 hA5

  have hx5 := hx1.up (RInt.up _) hle5
  have hy5 := hy1.up (RInt.up _) hle5
  have hl5 := hl1.up RPeer.up hle5

  -- some, from the end
  refine CW.meet (fun E' w' => ∃ A' a' c', Good w' s5 (A' :: os) ∧ Aux w w' ∧ Own (RInt .i64) 1 3 s5 A' a' c' ys.reverse ∧ E' = [(0, .slice xa xs.length xc), (1, .slice ya ys.length yc), (2, .slice la l.length lc), (7, .bool true), (8, .slice a5 xs.length c5), (10, .slice none 0 0), (9, .slice a' ys.length c')]) ?_ ?_
  · refine CW.seq (CW.plain ?_)
    refine RL.pure rfl rfl rfl rfl ?_
    refine RL.len rfl rfl rfl rfl sl22 rfl ?_
    refine RL.sub rfl rfl rfl rfl rfl rfl ((by simp only [rng]; omega)) ?_
    refine RL.pure rfl rfl rfl rfl ?_
    refine RL.done ?_
    refine CW.block (CW.loop (σ := Nat) (fun k E w' => ∃ A' a' c' n', Good w' s5 (A' :: os) ∧ Aux w w' ∧ Own (RInt .i64) 1 3 s5 A' a' c' (ys.drop k).reverse ∧ k ≤ ys.length ∧ n' = (ys.drop k).reverse.length ∧ E = [(0, .slice xa xs.length xc), (1, .slice ya ys.length yc), (2, .slice la l.length lc), (7, .bool true), (8, .slice a5 xs.length c5), (10, .slice none 0 0), (9, .slice a' n' c'), (12, i64 ((k : Int) - 1))])
      (fun k => k) ys.length [(0, .slice xa xs.length xc), (1, .slice ya ys.length yc), (2, .slice la l.length lc), (7, .bool true), (8, .slice a5 xs.length c5), (10, .slice none 0 0), (9, .slice none 0 0), (12, i64 ((ys.length : Int) - 1))] ⟨rfl, rfl, rfl, rfl, rfl, rfl, rfl, rfl, trivial⟩ ⟨Res.nil, none, 0, 0, (hs5).nil, hax5, .inl ⟨rfl, rfl, by simp⟩, Nat.le_refl _, by simp, rfl⟩ ?_)
    rintro k E w2 ⟨A2, a2, c2, n2, hg2, hax2, ho2, hk, hn2, rfl⟩
    refine CW.seq (CW.seq (CW.plain ?_))
    refine RL.pure rfl rfl rfl rfl ?_
    refine RL.pure rfl rfl rfl rfl ?_
    refine RL.done ?_
    refine CW.test rfl (fun h => ?_) (fun h => ?_)
    · refine CW.skip ?_
      obtain ⟨k, rfl⟩ : ∃ j, k = j + 1 := ⟨k - 1, by omega⟩
      have hkl : k < ys.length := by omega
      have edrop : ys.drop k = ys[k] :: ys.drop (k + 1) := (List.drop_eq_getElem_cons hkl)
      have erev : (ys.drop (k + 1)).reverse ++ [ys[k]] = (ys.drop k).reverse := by rw [edrop, List.reverse_cons]
      have ek : (((k + 1 : Nat) : Int) - 1) = (k : Int) := by omega
      have hlen2 : (ys.drop (k + 1)).reverse.length = ys.length - (k + 1) := by simp
      refine CW.seq (CW.block (CW.plain ?_))
      refine RL.pure rfl rfl rfl rfl ?_
      refine RL.pure rfl rfl rfl rfl ?_
      refine RL.pure rfl rfl rfl rfl ?_
      rw [ek]
      refine RL.idx rfl rfl rfl rfl sl22 rfl rfl (hy5) (by omega) (by omega) ?_
      rintro q vs hvl hH ⟨rfl, hr'⟩
      refine RL.load rfl rfl rfl rfl ty3 rfl (hH) (hg2.sh) rfl ?_
      refine RL.buildSlice rfl rfl rfl rfl sl22 ze3 rfl rfl rfl rfl hg2 ?_
      rintro b3 w3 hg3 hax3
      refine ⟨trivial, ?_⟩
      rw [hn2]
      refine RL.append (i := 1) (ys := [ys[(k : Int).toNat]]) rfl rfl rfl rfl sl22 ze3 rfl (by first | exact RInt.one _ | exact RStr.one | exact RBool.one | assumption) rfl rfl hg3 rfl ho2 ((Src.slice sl22 rfl (.inr ⟨_, rfl, Holds.one b3 _ 3⟩) hg3.1)) ((ints_chunks (k := .i64) (xs := [ys[(k : Int).toNat]]) (by simpa using hr'))) ((by simp only [List.length_cons, List.length_nil]; omega)) (by omega) ?_
      rintro a4 c4 A4 w4 hg4 ho4 hax4 hk4
      refine ⟨trivial, ?_⟩
      refine RL.pure rfl rfl rfl rfl ?_
      refine RL.done ?_
      refine CW.plain ?_
      refine RL.pure rfl rfl rfl rfl ?_
      refine RL.sub rfl rfl rfl rfl rfl rfl ((by simp only [rng]; omega)) ?_
      refine RL.pure rfl rfl rfl rfl ?_
      refine RL.done ?_
      have ho5 : Own (RInt .i64) 1 3 s5 A4 a4 c4 (ys.drop k).reverse := by rw [← erev]; exact ho4
      refine fun ac ha => ⟨k, [(0, .slice xa xs.length xc), (1, .slice ya ys.length yc), (2, .slice la l.length lc), (7, .bool true), (8, .slice a5 xs.length c5), (10, .slice none 0 0), (9, .slice a4 (ys.drop k).reverse.length c4), (12, i64 ((k : Int) - 1))], ha.sub ⟨rfl, rfl, rfl, rfl, rfl, rfl, by rw [← erev]; rfl, rfl, trivial⟩, ⟨A4, a4, c4, _, hg4.drop, hax2.trans (hax3.trans hax4), ho5, by omega, rfl, rfl⟩, by omega⟩
    · obtain rfl : k = 0 := by omega
      rw [List.drop_zero] at ho2 hn2
      refine CW.exit (fun ac ha => ⟨_, ha.sub (E' := [(0, .slice xa xs.length xc), (1, .slice ya ys.length yc), (2, .slice la l.length lc), (7, .bool true), (8, .slice a5 xs.length c5), (10, .slice none 0 0), (9, .slice a2 ys.length c2)]) ⟨rfl, rfl, rfl, rfl, rfl, rfl, by rw [hn2, List.length_reverse]; rfl, trivial⟩, A2, a2, c2, hg2, hax2, ho2, rfl⟩)
  rintro E' w6 ⟨A6, a6, c6, hg6, hax6, ho6, rfl⟩
  obtain ⟨s6, hs6, hle6, hA6⟩ := hg6.letgo
  have him6 : Imm (RInt .i64) 1 s6 a6 c6 ys.reverse := ho6.imm (RInt.up _) hle6 hA6

  have hx6 := hx5.up (RInt.up _) hle6
  have hy6 := hy5.up (RInt.up _) hle6
  have hl6 := hl5.up RPeer.up hle6
  have him56 := him5.up (RInt.up _) hle6

  -- the peers, from the end
  refine CW.meet (fun E' w' => ∃ A' a' c', Good w' s6 (A' :: os) ∧ Aux w w' ∧ Own RPeer 3 36 s6 A' a' c' l.reverse ∧ E' = [(0, .slice xa xs.length xc), (1, .slice ya ys.length yc), (2, .slice la l.length lc), (7, .bool true), (8, .slice a5 xs.length c5), (9, .slice a6 ys.length c6), (10, .slice a' l.length c')]) ?_ ?_
  · refine CW.seq (CW.plain ?_)
    refine RL.pure rfl rfl rfl rfl ?_
    refine RL.len rfl rfl rfl rfl sl32 rfl ?_
    refine RL.sub rfl rfl rfl rfl rfl rfl ((by simp only [rng]; omega)) ?_
    refine RL.pure rfl rfl rfl rfl ?_
    refine RL.done ?_
    refine CW.block (CW.loop (σ := Nat) (fun k E w' => ∃ A' a' c' n', Good w' s6 (A' :: os) ∧ Aux w w' ∧ Own RPeer 3 36 s6 A' a' c' (l.drop k).reverse ∧ k ≤ l.length ∧ n' = (l.drop k).reverse.length ∧ E = [(0, .slice xa xs.length xc), (1, .slice ya ys.length yc), (2, .slice la l.length lc), (7, .bool true), (8, .slice a5 xs.length c5), (9, .slice a6 ys.length c6), (10, .slice a' n' c'), (13, i64 ((k : Int) - 1))])
      (fun k => k) l.length [(0, .slice xa xs.length xc), (1, .slice ya ys.length yc), (2, .slice la l.length lc), (7, .bool true), (8, .slice a5 xs.length c5), (9, .slice a6 ys.length c6), (10, .slice none 0 0), (13, i64 ((l.length : Int) - 1))] ⟨rfl, rfl, rfl, rfl, rfl, rfl, rfl, rfl, trivial⟩ ⟨Res.nil, none, 0, 0, (hs6).nil, hax6, .inl ⟨rfl, rfl, by simp⟩, Nat.le_refl _, by simp, rfl⟩ ?_)
    rintro k E w2 ⟨A2, a2, c2, n2, hg2, hax2, ho2, hk, hn2, rfl⟩
    refine CW.seq (CW.seq (CW.plain ?_))
    refine RL.pure rfl rfl rfl rfl ?_
    refine RL.pure rfl rfl rfl rfl ?_
    refine RL.done ?_
    refine CW.test rfl (fun h => ?_) (fun h => ?_)
    · refine CW.skip ?_
      obtain ⟨k, rfl⟩ : ∃ j, k = j + 1 := ⟨k - 1, by omega⟩
      have hkl : k < l.length := by omega
      have edrop : l.drop k = l[k] :: l.drop (k + 1) := (List.drop_eq_getElem_cons hkl)
      have erev : (l.drop (k + 1)).reverse ++ [l[k]] = (l.drop k).reverse := by rw [edrop, List.reverse_cons]
      have ek : (((k + 1 : Nat) : Int) - 1) = (k : Int) := by omega
      have hlen2 : (l.drop (k + 1)).reverse.length = l.length - (k + 1) := by simp
      refine CW.seq (CW.block (CW.plain ?_))
      refine RL.pure rfl rfl rfl rfl ?_
      refine RL.pure rfl rfl rfl rfl ?_
      refine RL.pure rfl rfl rfl rfl ?_
      rw [ek]
      refine RL.idx rfl rfl rfl rfl sl32 rfl rfl (hl6) (by omega) (by omega) ?_
      rintro q vs hvl hH ⟨rfl, hr1, hr2, hr3⟩
      refine RL.loads rfl rfl rfl rfl ty36 rfl (hH) (hg2.sh) rfl rfl ?_
      refine RL.buildSlice rfl rfl rfl rfl sl32 ze36 rfl rfl rfl rfl hg2 ?_
      rintro b3 w3 hg3 hax3
      refine ⟨trivial, ?_⟩
      rw [hn2]
      refine RL.append (i := 1) (ys := [l[(k : Int).toNat]]) rfl rfl rfl rfl sl32 ze36 rfl (by first | exact RInt.one _ | exact RStr.one | exact RBool.one | assumption) rfl rfl hg3 rfl ho2 ((Src.slice sl32 rfl (.inr ⟨_, rfl, Holds.one b3 _ 36⟩) hg3.1)) ((Chunks.single (vs := [i64 l[(k : Int).toNat].node, .int .u64 l[(k : Int).toNat].next, .int .u64 l[(k : Int).toNat].mat]) rfl ⟨rfl, hr1, hr2, hr3⟩)) ((by simp only [List.length_cons, List.length_nil]; omega)) (by omega) ?_
      rintro a4 c4 A4 w4 hg4 ho4 hax4 hk4
      refine ⟨trivial, ?_⟩
      refine RL.pure rfl rfl rfl rfl ?_
      refine RL.done ?_
      refine CW.plain ?_
      refine RL.pure rfl rfl rfl rfl ?_
      refine RL.sub rfl rfl rfl rfl rfl rfl ((by simp only [rng]; omega)) ?_
      refine RL.pure rfl rfl rfl rfl ?_
      refine RL.done ?_
      have ho5 : Own RPeer 3 36 s6 A4 a4 c4 (l.drop k).reverse := by rw [← erev]; exact ho4
      refine fun ac ha => ⟨k, [(0, .slice xa xs.length xc), (1, .slice ya ys.length yc), (2, .slice la l.length lc), (7, .bool true), (8, .slice a5 xs.length c5), (9, .slice a6 ys.length c6), (10, .slice a4 (l.drop k).reverse.length c4), (13, i64 ((k : Int) - 1))], ha.sub ⟨rfl, rfl, rfl, rfl, rfl, rfl, by rw [← erev]; rfl, rfl, trivial⟩, ⟨A4, a4, c4, _, hg4.drop, hax2.trans (hax3.trans hax4), ho5, by omega, rfl, rfl⟩, by omega⟩
    · obtain rfl : k = 0 := by omega
      rw [List.drop_zero] at ho2 hn2
      refine CW.exit (fun ac ha => ⟨_, ha.sub (E' := [(0, .slice xa xs.length xc), (1, .slice ya ys.length yc), (2, .slice la l.length lc), (7, .bool true), (8, .slice a5 xs.length c5), (9, .slice a6 ys.length c6), (10, .slice a2 l.length c2)]) ⟨rfl, rfl, rfl, rfl, rfl, rfl, by rw [hn2, List.length_reverse]; rfl, trivial⟩, A2, a2, c2, hg2, hax2, ho2, rfl⟩)
  rintro E' w7 ⟨A7, a7, c7, hg7, hax7, ho7, rfl⟩
  obtain ⟨s7, hs7, hle7, hA7⟩ := hg7.letgo
  have him7 : Imm RPeer 3 s7 a7 c7 l.reverse := ho7.imm RPeer.up hle7 hA7

  have hx7 := hx6.up (RInt.up _) hle7
  have hy7 := hy6.up (RInt.up _) hle7
  have hl7 := hl6.up RPeer.up hle7
  have hv7 := him56.up (RInt.up _) hle7
  have hs7' := him6.up (RInt.up _) hle7
  have hle17 := hle1.trans (hle5.trans (hle6.trans hle7))
  refine CW.seq (CW.plain ?_)
  refine RL.pure rfl rfl rfl rfl ?_
  refine RL.pure rfl rfl rfl rfl ?_
  refine RL.pure rfl rfl rfl rfl ?_
  refine RL.pure rfl rfl rfl rfl ?_
  refine RL.call rfl rfl rfl rfl rfl ca11 (Has_ct' (xs := xs.reverse) (ys := ys.reverse) hs7 hv7 hs7' (by rw [List.length_reverse]; exact hb) (by rw [List.length_reverse]) (by rw [List.length_reverse])) ?_
  rintro v8 s8 A8 w8 hle8 hg8 hax8 rfl
  refine ⟨trivial, ?_⟩
  refine RL.pure rfl rfl rfl rfl ?_
  refine RL.pure rfl rfl rfl rfl ?_
  refine RL.call rfl rfl rfl rfl rfl ca11 (Has_ct hg8 (hx7.up (RInt.up _) hle8) (hy7.up (RInt.up _) hle8) hb) ?_
  rintro v9 s9 A9 w9 hle9 hg9 hax9 rfl
  refine ⟨trivial, ?_⟩
  refine RL.bEq rfl rfl rfl rfl Try.underlying4 rfl rfl ?_
  have hE : (hasP (uniq xs.reverse) ys.reverse == hasP (uniq xs) ys) = true := by rw [hasP_rev]; exact beq_self_eq_true _
  rw [hE]
  refine RL.pure rfl rfl rfl rfl ?_
  refine RL.pure rfl rfl rfl rfl ?_
  refine RL.pure rfl rfl rfl rfl ?_
  refine RL.pure rfl rfl rfl rfl ?_
  have hct := Commit_ct (xs := xs.reverse) (l := l.reverse) hg9 ((hv7.up (RInt.up _) hle8).up (RInt.up _) hle9) ((him7.up RPeer.up hle8).up RPeer.up hle9) (by rw [List.length_reverse]; exact hb)
  rw [List.length_reverse, List.length_reverse] at hct
  refine RL.call rfl rfl rfl rfl rfl ca17 (hct) ?_
  rintro v10 s10 A10 w10 hle10 hg10 hax10 ⟨c, rfl, hcom⟩
  refine ⟨trivial, ?_⟩
  refine RL.pure rfl rfl rfl rfl ?_
  refine RL.pure rfl rfl rfl rfl ?_
  refine RL.call rfl rfl rfl rfl rfl ca17 (Commit_ct hg10 (((hx7.up (RInt.up _) hle8).up (RInt.up _) hle9).up (RInt.up _) hle10) (((hl7.up RPeer.up hle8).up RPeer.up hle9).up RPeer.up hle10) hb) ?_
  rintro v11 s11 A11 w11 hle11 hg11 hax11 ⟨c', rfl, hcom'⟩
  refine ⟨trivial, ?_⟩
  refine RL.pure rfl rfl rfl rfl ?_
  refine RL.pure rfl rfl rfl rfl ?_
  refine RL.pure rfl rfl rfl rfl ?_
  refine RL.done ?_
  have e : c = c' := com_rev hcom hcom'
  subst e
  exact CW.ret (ret (vs := [_]) ⟨_, _, rfl, rfl, rfl⟩ (Post.mk (hle17.trans (hle8.trans (hle9.trans (hle10.trans hle11)))) hg11.drop.drop.drop (hax7.trans (hax8.trans (hax9.trans (hax10.trans hax11)))) (congrArg Value.bool (beq_self_eq_true c))))
end Go.Lw
