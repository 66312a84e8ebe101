/-
  slices.Insert at []int: one number into a list of one's own.
-/
import Derived.Test.YthafkinbocdjlaaSlMk
namespace Go.Lw
open Go.Proofs

theorem overlaps_no {w : World} {s A V : Res} {os : List Res} {g vb l m1 c1 m2 c2 : Nat} {cs vs : Array Value} {el el2 : TypeId} (hg : Good w s (A :: os)) (hA : A g = some (.cells cs el (0, 0))) (hV : V ∈ os) (hv : V vb = some (.cells vs el2 (0, 0))) (hcs : cs.size ≠ 0) :
    (callFunc 62 #[.slice (some ⟨vb, 0, none⟩) m1 c1, .slice (some ⟨g, l, none⟩) m2 c2]).run Try.prog w = .ok (.value (.bool false)) w := by
  have hne : vb ≠ g := fun e => by
    have h1 := hg.2.2.1 V hV g (by rw [hA]; simp)
    rw [e, h1] at hv; cases hv
  have hwg := hg.1 g _ hA
  have hwv := hg.drop.mem hV vb _ hv
  rw [run_callFunc_extern Try.func62 (by kernel_rfl) (by kernel_rfl) (by kernel_rfl) (e := Extern.SlicesOverlaps.overlaps #[22, 22] #[4]) (by kernel_rfl),
    Lib.run_overlaps_apart w 22 4 3 Try.underlying22 1 Try.sizeOf3 ⟨vb, 0, none⟩ ⟨g, l, none⟩ m1 c1 m2 c2 hne el2 el vs.size cs.size (by simp [World.shape?, hwv]) (by simp [World.shape?, hwg]) hcs (by simp [World.frozen?, hwv]) (by simp [World.frozen?, hwv])]
  rfl

theorem row_split {cs : Array Value} {xs : List Int} {i : Nat} (h : cs.toList.take xs.length = xs.map (Value.int .i64)) (hi : i ≤ xs.length) : cs.toList.take i = (xs.take i).map (Value.int .i64) := by
  have := congrArg (List.take i) h
  rwa [List.take_take, Nat.min_eq_left hi, ← List.map_take] at this
theorem row_rest {cs : Array Value} {xs : List Int} {i : Nat} (h : cs.toList.take xs.length = xs.map (Value.int .i64)) : (cs.toList.take xs.length).drop i = (xs.drop i).map (Value.int .i64) := by
  rw [h, ← List.map_drop]

set_option maxRecDepth 100000 in
theorem Insert_ct {w : World} {s A V : Res} {os : List Res} {xs : List Int} {a : Option Addr} {c i vb : Nat} {v : Int} (hg : Good w s (A :: os)) (ho : OwnI s A a c xs) (hV : V ∈ os) (hv : V vb = some (.cells #[i64 v] 3 (0, 0))) (hi : i ≤ xs.length) (hb : (xs.length + 1) * 8 ≤ 140737488355328) (hvr : rng .i64 v) :
    Calls Try.prog 51 #[.slice a xs.length c, i64 (i : Nat), .slice (some ⟨vb, 0, none⟩) 1 1] w
      (Post w s os fun s' A' r => s' = s ∧ ∃ a' c', r = .slice a' (xs.take i ++ v :: xs.drop i).length c' ∧ OwnI s' A' a' c' (xs.take i ++ v :: xs.drop i)) := by
  have hlc := ho.le_cap
  have hcm := ho.le_max
  have hxr : ∀ x ∈ xs, rng .i64 x := by
    rcases ho with ⟨_, _, rfl⟩ | ⟨g, cs, _, _, _, _, _, hch⟩
    · simp
    · exact (int_chunks hch).2
  have hnr : ∀ x ∈ xs.take i ++ v :: xs.drop i, rng .i64 x := fun x hx => by
    rcases List.mem_append.1 hx with hx | hx
    · exact hxr x (List.mem_of_mem_take hx)
    · rcases List.mem_cons.1 hx with rfl | hx
      · exact hvr
      · exact hxr x (List.mem_of_mem_drop hx)
  have hlen : (xs.take i ++ v :: xs.drop i).length = xs.length + 1 := by simp only [List.length_append, List.length_cons, List.length_take, List.length_drop]; omega
  have hVH : Holds V ⟨vb, 0, none⟩ [i64 v] := Holds.of hv
  have c0 : ∀ w', (Builtin.lenOf (.slice (some ⟨vb, 0, none⟩) 1 1)).run Try.prog w' = .ok 1 w' := fun w' => by simp [Builtin.lenOf]
  refine enter (l := [.slice a xs.length c, i64 (i : Nat), .slice (some ⟨vb, 0, none⟩) 1 1]) Try.func51 rfl Try.ntmps51 rfl ?_
  refine CW.seq (CW.plain ?_)
  refine RL.pure rfl rfl rfl rfl ?_
  refine RL.done ?_
  refine CW.seq (CW.plain ?_)
  refine RL.pure rfl rfl rfl rfl ?_
  refine RL.pure rfl rfl rfl rfl ?_
  refine RL.cut i xs.length rfl rfl rfl rfl sl22 rfl (.inr ⟨_, _, rfl, rfl⟩) (.inl ⟨rfl, rfl⟩) hi hlc ?_
  refine RL.done ?_
  refine CW.seq (CW.plain ?_)
  refine RL.pure rfl rfl rfl rfl ?_
  refine RL.len rfl rfl rfl rfl sl22 rfl ?_
  refine RL.pure rfl rfl rfl rfl ?_
  refine RL.done ?_
  refine CW.seq (CW.seq (CW.plain ?_))
  refine RL.pure rfl rfl rfl rfl ?_
  refine RL.pure rfl rfl rfl rfl ?_
  refine RL.done ?_
  refine CW.no rfl (CW.skip ?_)
  refine CW.seq (CW.plain ?_)
  refine RL.pure rfl rfl rfl rfl ?_
  refine RL.len rfl rfl rfl rfl sl22 rfl ?_
  refine RL.pure rfl rfl rfl rfl ?_
  refine RL.done ?_
  refine CW.seq (CW.seq (CW.plain ?_))
  refine RL.pure rfl rfl rfl rfl ?_
  refine RL.pure rfl rfl rfl rfl ?_
  refine RL.pure rfl rfl rfl rfl ?_
  refine RL.done ?_
  refine CW.eq rfl (fun he => ?_) (fun he => ?_)
  · have hie : i = xs.length := by omega
    subst hie
    refine CW.seq (CW.plain ?_)
    refine RL.pure rfl rfl rfl rfl ?_
    refine RL.pure rfl rfl rfl rfl ?_
    refine RL.append (i := 0) (ys := [v]) rfl rfl rfl rfl sl22 ze3 rfl (by first | exact RInt.one _ | exact RStr.one | exact RBool.one | assumption) rfl rfl hg rfl ho ((Src.slice sl22 rfl (.inr ⟨_, rfl, hVH⟩) (hg.drop.mem hV))) ((ints_chunks (k := .i64) (xs := [v]) (by simpa using hvr))) ((by simpa using hb)) (by omega) ?_
    rintro a1 c1 A1 w1 hg1 hown1 hax1 hk1
    refine ⟨trivial, ?_⟩
    refine RL.pure rfl rfl rfl rfl ?_
    refine RL.done ?_
    have e : xs.take xs.length ++ v :: xs.drop xs.length = xs ++ [v] := by simp
    rw [e]
    exact CW.ret (ret (vs := [_]) ⟨_, _, rfl, rfl, rfl⟩ (Post.mk (Le.refl _) hg1 hax1 ⟨rfl, a1, c1, rfl, hown1⟩))
  have hlt : i < xs.length := by omega
  refine CW.skip ?_
  rcases ho with ⟨_, _, rfl⟩ | ⟨g, cs, rfl, hA, hl, hc, hcs, hch⟩
  · simp at hlt
  obtain ⟨hcx, _⟩ := int_chunks hch
  simp only [Nat.mul_one] at hcx hcs
  have hcn : cs.toList.length = cs.size := Array.length_toList
  have hrest := row_rest (i := i) hcx
  have hdl : (xs.drop i).length = xs.length - i := List.length_drop
  have holdH : Holds A ⟨g, i, none⟩ ((xs.drop i).map (Value.int .i64)) := ⟨cs, 3, (0, 0), hA, rfl, fun j u hu => by
    rw [← hrest, List.getElem?_drop, List.getElem?_take] at hu
    split at hu
    · simpa using hu
    · cases hu⟩
  have hone : ∀ ys : List Int, ∀ z ∈ ys.map (Value.int .i64), z.oneCell' = true := fun ys z hz => by
    obtain ⟨y, _, rfl⟩ := List.mem_map.1 hz; rfl
  refine CW.seq (CW.seq (CW.plain ?_))
  refine RL.pure rfl rfl rfl rfl ?_
  refine RL.pure rfl rfl rfl rfl ?_
  refine RL.add rfl rfl rfl rfl rfl rfl ((by simp only [rng]; omega)) ?_
  refine RL.pure rfl rfl rfl rfl ?_
  refine RL.cap rfl rfl rfl rfl sl22 rfl ?_
  refine RL.pure rfl rfl rfl rfl ?_
  refine RL.done ?_
  refine CW.test rfl (fun hroom => ?_) (fun hroom => ?_)
  · -- no room: a new row
    have hroom : c < xs.length + 1 := by omega
    refine CW.seq (CW.plain ?_)
    have e39 : ((xs.length : Nat) : Int) + ((1 : Nat) : Int) - ((i : Nat) : Int) = ((xs.length + 1 - i : Nat) : Int) := by omega
    have hik : i + (xs.length + 1 - i) = xs.length + 1 := by omega
    refine RL.pure rfl rfl rfl rfl ?_
    refine RL.pure rfl rfl rfl rfl ?_
    refine RL.cutHi i rfl rfl rfl rfl sl22 rfl rfl rfl (by omega) ?_
    refine RL.pure rfl rfl rfl rfl ?_
    refine RL.pure rfl rfl rfl rfl ?_
    refine RL.add rfl rfl rfl rfl rfl rfl ((by simp only [rng]; omega)) ?_
    refine RL.pure rfl rfl rfl rfl ?_
    refine RL.sub rfl rfl rfl rfl rfl rfl ((by simp only [rng]; omega)) ?_
    rw [e39]
    refine RL.appendZ (k := i) (m := xs.length + 1 - i) (olds := (xs.take i).map (Value.int .i64)) rfl rfl rfl rfl sl22 ze3 Try.underlying3 (by decide) rfl rfl (fun w' hw' => ?_) (by omega) (by omega) (by rw [hik]; exact hb) (by decide) hg ?_
    · refine run_first (r := A) ⟨cs, 3, (0, 0), hA, rfl, fun j u hu => ?_⟩ (fun b x hx => by rw [hw']; exact hg.1 b x hx) (by rw [List.length_map, List.length_take]; omega)
      rw [← row_split hcx hi, List.getElem?_take] at hu
      split at hu
      · simpa using hu
      · cases hu
    rintro g2 w2 c2 hc1 hc2 hg2 hax2
    rw [hik]
    refine ⟨trivial, ?_⟩
    refine RL.pure rfl rfl rfl rfl ?_
    refine RL.done ?_
    obtain ⟨N, hN⟩ : ∃ N, N = ((xs.take i).map (Value.int .i64)).toArray ++ Builtin.zeroCells #[i64 0] (xs.length + 1 - i) ++ Builtin.zeroCells #[i64 0] (c2 - (i + (xs.length + 1 - i))) := ⟨_, rfl⟩
    have hNs : N.size = c2 := by rw [hN]; simp only [Array.size_append, List.size_toArray, List.length_map, List.length_take, size_zeroCells, List.length_cons, List.length_nil]; omega
    have hNt : N.toList.take i = (xs.take i).map (Value.int .i64) := by
      rw [hN]; simp only [Array.toList_append, List.append_assoc]
      exact List.take_left' (by rw [List.length_map, List.length_take]; omega)
    have hNN : (Builtin.zeroCells [i64 0].toArray = Builtin.zeroCells #[i64 0]) := rfl
    rw [show (((xs.take i).map (Value.int .i64)).toArray ++ Builtin.zeroCells [Value.int .i64 0].toArray (xs.length + 1 - i) ++ Builtin.zeroCells [Value.int .i64 0].toArray (c2 - (i + (xs.length + 1 - i)))) = N from hN.symm] at hg2
    have hln : N.toList.length = N.size := Array.length_toList
    refine CW.seq (CW.plain ?_)
    refine RL.pure rfl rfl rfl rfl ?_
    refine RL.pure rfl rfl rfl rfl ?_
    refine RL.cutLo i rfl rfl rfl rfl sl22 rfl rfl rfl (by omega) (by omega) (by omega) ?_
    refine RL.pure rfl rfl rfl rfl ?_
    refine RL.copy 1 (i := 0) (m := 1) (news := [i64 v]) rfl rfl rfl rfl sl22 rfl rfl c0 (Nat.min_eq_left (by omega)) ?_ hg2 rfl (if_pos rfl) (by rw [hNs]; simp only [List.length_cons, List.length_nil]; omega) (by simp [Value.oneCell']) ?_
    · exact run_first hVH (hg2.drop.drop.mem hV) rfl
    rintro w3 hg3 hax3
    refine ⟨trivial, ?_⟩
    refine RL.done ?_
    have hP3 := put_same (Res.one g2 (.cells N 3)) g2 (.cells (spl N (0 + i * 1) [i64 v]) 3 (0, 0))
    have hs3 : (spl N (0 + i * 1) [i64 v]).size = N.size := spl_size (by simp only [List.length_cons, List.length_nil]; omega)
    refine CW.seq ?_
    have hgD := hg3.drew
    have e49 : ((i : Nat) : Int) + ((1 : Nat) : Int) = ((i + 1 : Nat) : Int) := by omega
    refine CW.draws [(true, 0), (true, 1), (true, 2), (true, 3), (true, 4), (true, 5), (true, 6), (true, 7), (false, 8)] (fun w => True) mixed (by kernel_rfl) (by kernel_rfl) (by kernel_rfl) (by kernel_rfl) (trivial) ?_
    refine RL.pure rfl rfl rfl rfl ?_
    refine RL.pure rfl rfl rfl rfl ?_
    refine RL.pure rfl rfl rfl rfl ?_
    refine RL.add rfl rfl rfl rfl rfl rfl ((by simp only [rng]; omega)) ?_
    rw [e49]
    refine RL.cutLo (i + 1) rfl rfl rfl rfl sl22 rfl rfl rfl (by omega) (by omega) (by omega) ?_
    refine RL.pure rfl rfl rfl rfl ?_
    refine RL.pure rfl rfl rfl rfl ?_
    refine RL.cutLo i rfl rfl rfl rfl sl22 rfl rfl rfl (by omega) (by omega) (by omega) ?_
    refine RL.copy (xs.length - i) (i := 0) (m := xs.length - i) (news := (xs.drop i).map (Value.int .i64)) rfl rfl rfl rfl sl22 rfl rfl (fun w' => by simp [Builtin.lenOf]) (Nat.min_eq_left (by omega)) ?_ hgD rfl hP3 (by rw [hs3, hNs, List.length_map]; omega) (hone _) ?_
    · exact run_first (by simpa using holdH) hgD.drop.1 (by rw [List.length_map]; omega)
    rintro w4 hg4 hax4
    refine ⟨trivial, ?_⟩
    refine RL.done ?_
    refine CW.seq (CW.plain ?_)
    refine RL.pure rfl rfl rfl rfl ?_
    refine RL.pure rfl rfl rfl rfl ?_
    refine RL.done ?_
    refine CW.ret (ret (vs := [_]) ⟨_, _, rfl, rfl, rfl⟩ (Post.mk (Le.refl _) hg4.dropNext (hax2.trans (hax3.trans ((Aux.drew _).trans hax4))) ⟨rfl, some ⟨g2, 0, none⟩, c2, by rw [hlen]; rfl, .inr ⟨g2, _, rfl, put_same _ _ _, by rw [hlen]; omega, hc2, ?_, ?_⟩⟩))
    · rw [spl_size (by rw [hs3, hNs, List.length_map]; omega), hs3, hNs, Nat.mul_one]
    · have hfin := spl_two (N := N) (i := i) (a := i64 v) (r := (xs.drop i).map (Value.int .i64)) (by rw [hNs, List.length_map]; omega)
      rw [hNt] at hfin
      simp only [Nat.zero_add, Nat.mul_one, hlen]
      rw [List.length_map, show i + 1 + (xs.drop i).length = xs.length + 1 by omega] at hfin
      rw [hfin]
      have := chunks_int (s := s) hnr
      simpa using this
  · -- in place
    have hroom : xs.length + 1 ≤ c := by omega
    refine CW.skip (CW.seq (CW.plain ?_))
    have e59 : ((xs.length : Nat) : Int) + ((1 : Nat) : Int) = ((xs.length + 1 : Nat) : Int) := by omega
    have e65 : ((i : Nat) : Int) + ((1 : Nat) : Int) = ((i + 1 : Nat) : Int) := by omega
    refine RL.pure rfl rfl rfl rfl ?_
    refine RL.pure rfl rfl rfl rfl ?_
    refine RL.pure rfl rfl rfl rfl ?_
    refine RL.add rfl rfl rfl rfl rfl rfl ((by simp only [rng]; omega)) ?_
    rw [e59]
    refine RL.cutHi (xs.length + 1) rfl rfl rfl rfl sl22 rfl rfl rfl hroom ?_
    refine RL.pure rfl rfl rfl rfl ?_
    refine RL.done ?_
    refine CW.seq (CW.seq (CW.plain ?_))
    refine RL.pure rfl rfl rfl rfl ?_
    refine RL.pure rfl rfl rfl rfl ?_
    refine RL.pure rfl rfl rfl rfl ?_
    refine RL.pure rfl rfl rfl rfl ?_
    refine RL.add rfl rfl rfl rfl rfl rfl ((by simp only [rng]; omega)) ?_
    rw [e65]
    refine RL.cut (i + 1) (xs.length + 1) rfl rfl rfl rfl sl22 rfl (.inr ⟨_, _, rfl, rfl⟩) (.inl ⟨rfl, rfl⟩) (by omega) (by omega) ?_
    rw [if_neg (show ¬ c = i + 1 by omega), Option.map_some, addLit]
    refine RL.ext rfl rfl rfl rfl rfl (overlaps_no hg hA hV hv (by omega)) ⟨trivial, ?_⟩
    refine RL.pure rfl rfl rfl rfl ?_
    refine RL.done ?_
    refine CW.yes rfl ?_
    refine CW.seq ?_
    have hgD := hg.drew
    refine CW.draws [(true, 0), (true, 1), (true, 2), (true, 3), (true, 4), (true, 5), (true, 6), (true, 7), (false, 8)] (fun w => True) mixed (by kernel_rfl) (by kernel_rfl) (by kernel_rfl) (by kernel_rfl) (trivial) ?_
    refine RL.pure rfl rfl rfl rfl ?_
    refine RL.pure rfl rfl rfl rfl ?_
    refine RL.pure rfl rfl rfl rfl ?_
    refine RL.add rfl rfl rfl rfl rfl rfl ((by simp only [rng]; omega)) ?_
    rw [e65]
    refine RL.cutLo (i + 1) rfl rfl rfl rfl sl22 rfl rfl rfl (by omega) (by omega) (by omega) ?_
    refine RL.pure rfl rfl rfl rfl ?_
    refine RL.pure rfl rfl rfl rfl ?_
    refine RL.cutLo i rfl rfl rfl rfl sl22 rfl rfl rfl (by omega) (by omega) (by omega) ?_
    refine RL.copy (xs.length - i) (i := 0) (m := xs.length + 1 - i) (news := (xs.drop i).map (Value.int .i64)) rfl rfl rfl rfl sl22 rfl rfl (fun w' => by simp [Builtin.lenOf]) ((Nat.min_eq_right (by omega)).trans (by omega)) ?_ hgD rfl hA (by rw [List.length_map]; omega) (hone _) ?_
    · exact run_first (by simpa using holdH) hgD.1 (by rw [List.length_map]; omega)
    rintro w3 hg3 hax3
    refine ⟨trivial, ?_⟩
    refine RL.done ?_
    have hP3 := put_same A g (.cells (spl cs (0 + (i + 1) * 1) ((xs.drop i).map (Value.int .i64))) 3 (0, 0))
    have hs3 : (spl cs (0 + (i + 1) * 1) ((xs.drop i).map (Value.int .i64))).size = cs.size := spl_size (by rw [List.length_map]; omega)
    refine CW.seq (CW.plain ?_)
    refine RL.pure rfl rfl rfl rfl ?_
    refine RL.pure rfl rfl rfl rfl ?_
    refine RL.cutLo i rfl rfl rfl rfl sl22 rfl rfl rfl (by omega) (by omega) (by omega) ?_
    refine RL.pure rfl rfl rfl rfl ?_
    refine RL.copy 1 (i := 0) (m := 1) (news := [i64 v]) rfl rfl rfl rfl sl22 rfl rfl c0 (Nat.min_eq_left (by omega)) ?_ hg3 rfl hP3 (by rw [hs3]; simp only [List.length_cons, List.length_nil]; omega) (by simp [Value.oneCell']) ?_
    · exact run_first hVH (hg3.drop.mem hV) rfl
    rintro w4 hg4 hax4
    refine ⟨trivial, ?_⟩
    refine RL.done ?_
    refine CW.seq (CW.plain ?_)
    refine RL.pure rfl rfl rfl rfl ?_
    refine RL.pure rfl rfl rfl rfl ?_
    refine RL.done ?_
    refine CW.ret (ret (vs := [_]) ⟨_, _, rfl, rfl, rfl⟩ (Post.mk (Le.refl _) hg4 ((Aux.drew _).trans (hax3.trans hax4)) ⟨rfl, some ⟨g, 0, none⟩, c, by rw [hlen]; rfl, .inr ⟨g, _, rfl, put_same _ _ _, by rw [hlen]; exact hroom, hc, ?_, ?_⟩⟩))
    · rw [spl_size (by rw [hs3]; simp only [List.length_cons, List.length_nil]; omega), hs3, hcs, Nat.mul_one]
    · have hfin := spl_owt (N := cs) (i := i) (a := i64 v) (r := (xs.drop i).map (Value.int .i64)) (by rw [List.length_map]; omega)
      rw [row_split hcx hi] at hfin
      simp only [Nat.zero_add, Nat.mul_one, hlen]
      rw [List.length_map, show i + 1 + (xs.drop i).length = xs.length + 1 by omega] at hfin
      rw [hfin]
      have := chunks_int (s := s) hnr
      simpa using this
end Go.Lw
