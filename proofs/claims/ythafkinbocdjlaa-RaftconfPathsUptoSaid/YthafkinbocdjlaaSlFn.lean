/-
  Go's slices at []int with a function value: IndexFunc, ContainsFunc, DeleteFunc.
-/
import Derived.Test.YthafkinbocdjlaaSlInts
import Derived.Test.YthafkinbocdjlaaRules10
namespace Go.Lw
open Go.Proofs

/-- A function value tells p, whatever the memory. -/
def Tells (P : Program) (g : Nat) (cap : Array Value) (s : Res) (p : Int → Bool) : Prop :=
  ∀ (x : Int) (w : World) (s' : Res) (os : List Res), Le s s' → Good w s' os → Calls P g (#[i64 x] ++ cap) w (PostV w s' os fun r => r = .bool (p x))
theorem Tells.up {P : Program} {g : Nat} {cap : Array Value} {s s' : Res} {p : Int → Bool} (h : Tells P g cap s p) (hl : Le s s') : Tells P g cap s' p := fun x w s2 os h2 hg => h x w s2 os (hl.trans h2) hg

theorem take_all {xs : List Int} {k : Nat} {q : Int → Prop} (hkl : k < xs.length) (h : ∀ x ∈ xs.take k, q x) (hk : q xs[k]) : ∀ x ∈ xs.take (k + 1), q x := by
  intro x hx
  rw [List.take_succ_eq_append_getElem hkl] at hx
  rcases List.mem_append.1 hx with hx | hx
  · exact h x hx
  · obtain rfl := List.mem_singleton.1 hx; exact hk

set_option maxRecDepth 100000 in
theorem IndexFunc_ct {w : World} {s : Res} {os : List Res} {xs : List Int} {xa : Option Addr} {xc g : Nat} {cap : Array Value} {p : Int → Bool} (hg : Good w s os) (hx : Ints s xa xc xs) (hc : callable Try.prog g = true) (hp : Tells Try.prog g cap s p) :
    Calls Try.prog 54 #[.slice xa xs.length xc, .func (.func g) #[] cap] w
      (PostV w s os fun r => (r = i64 (-1) ∧ ∀ x ∈ xs, p x = false) ∨ ∃ (k : Nat) (h : k < xs.length), r = i64 k ∧ p xs[k] = true ∧ ∀ x ∈ xs.take k, p x = false) := by
  refine enter (l := [.slice xa xs.length xc, .func (.func g) #[] cap]) Try.func54 rfl Try.ntmps54 rfl ?_
  refine CW.seq (CW.plain ?_)
  refine RL.pure rfl rfl rfl rfl ?_
  refine RL.done ?_
  refine CW.seq (CW.seq (CW.plain ?_))
  refine RL.pure rfl rfl rfl rfl ?_
  refine RL.len rfl rfl rfl rfl sl22 rfl ?_
  refine RL.pure rfl rfl rfl rfl ?_
  refine RL.done ?_
  have hlen := hx.le_max
  simp only [maxLen] at hlen
  refine CW.block (CW.loop (σ := Nat) (fun j E w' => Good w' s os ∧ Aux w w' ∧ ∃ k : Nat, E = [(0, .slice xa xs.length xc), (1, .func (.func g) #[] cap), (7, i64 xs.length), (8, i64 k)] ∧ k + j = xs.length ∧ ∀ x ∈ xs.take k, p x = false)
    (fun j => j) xs.length [(0, .slice xa xs.length xc), (1, .func (.func g) #[] cap), (7, i64 xs.length), (8, i64 0)] ⟨rfl, rfl, rfl, rfl, trivial⟩ ⟨hg, Aux.refl _, 0, rfl, by omega, by simp⟩ ?_)
  rintro j E w1 ⟨hg1, hax1, k, rfl, hk, hno⟩
  refine CW.seq (CW.plain ?_)
  refine RL.pure rfl rfl rfl rfl ?_
  refine RL.done ?_
  refine CW.seq (CW.test rfl (fun h => ?_) (fun h => ?_))
  · refine CW.skip ?_
    have hkl : k < xs.length := by omega
    refine CW.seq (CW.block (CW.seq (CW.plain ?_)))
    refine RL.pure rfl rfl rfl rfl ?_
    refine RL.pure rfl rfl rfl rfl ?_
    refine RL.done ?_
    refine CW.seq (CW.plain ?_)
    refine RL.pure rfl rfl rfl rfl ?_
    refine RL.pure rfl rfl rfl rfl ?_
    refine RL.pure rfl rfl rfl rfl ?_
    refine RL.idx rfl rfl rfl rfl sl22 rfl rfl (hx) (by omega) (by omega) ?_
    rintro q vs hvl hH ⟨rfl, hr'⟩
    refine RL.load rfl rfl rfl rfl ty3 rfl (hH) (hg1.sh) rfl ?_
    refine RL.callF rfl rfl rfl rfl rfl rfl hc (hp xs[k] w1 s os (Le.refl _) hg1) ?_
    rintro e w2 ⟨v2, rfl, hg2, hax2, rfl⟩
    refine ⟨_, rfl, trivial, ?_⟩
    refine RL.done ?_
    refine CW.cond rfl (fun hb => ?_) (fun hb => ?_)
    · refine CW.seq (CW.plain ?_)
      refine RL.pure rfl rfl rfl rfl ?_
      refine RL.pure rfl rfl rfl rfl ?_
      refine RL.done ?_
      exact CW.ret (ret (vs := [_]) ⟨_, _, rfl, rfl, rfl⟩ (PostV.mk hg2 (hax1.trans hax2) (.inr ⟨k, hkl, rfl, hb, hno⟩)))
    · refine CW.skip ?_
      refine CW.plain ?_
      refine RL.add rfl rfl rfl rfl rfl rfl (by simp only [rng] at *; omega) ?_
      refine RL.pure rfl rfl rfl rfl ?_
      refine RL.done ?_
      cases j with
      | zero => omega
      | succ j =>
        refine fun ac ha => ⟨j, [(0, .slice xa xs.length xc), (1, .func (.func g) #[] cap), (7, i64 xs.length), (8, i64 ((k : Int) + 1))], ha.sub ⟨rfl, rfl, rfl, rfl, trivial⟩, ⟨hg2, hax1.trans hax2, k + 1, rfl, by omega, take_all hkl hno hb⟩, Nat.lt_succ_self j⟩
  · refine CW.exit (CW.seq (CW.plain ?_))
    have hkl : k = xs.length := by omega
    refine RL.pure rfl rfl rfl rfl ?_
    refine RL.done ?_
    rw [hkl, List.take_length] at hno
    exact CW.ret (ret (vs := [_]) ⟨_, _, rfl, rfl, rfl⟩ (PostV.mk hg1 hax1 (.inl ⟨rfl, hno⟩)))

set_option maxRecDepth 100000 in
theorem ContainsFunc_ct {w : World} {s : Res} {os : List Res} {xs : List Int} {xa : Option Addr} {xc g : Nat} {cap : Array Value} {p : Int → Bool} (hg : Good w s os) (hx : Ints s xa xc xs) (hc : callable Try.prog g = true) (hp : Tells Try.prog g cap s p) :
    Calls Try.prog 37 #[.slice xa xs.length xc, .func (.func g) #[] cap] w (PostV w s os fun r => r = .bool (xs.any p)) := by
  refine enter (l := [.slice xa xs.length xc, .func (.func g) #[] cap]) Try.func37 rfl Try.ntmps37 rfl ?_
  refine CW.seq (CW.plain ?_)
  refine RL.pure rfl rfl rfl rfl ?_
  refine RL.done ?_
  refine CW.seq (CW.plain ?_)
  refine RL.pure rfl rfl rfl rfl ?_
  refine RL.pure rfl rfl rfl rfl ?_
  refine RL.callV rfl rfl rfl rfl rfl ca54 (IndexFunc_ct hg hx hc hp) ?_
  rintro v w1 hg1 hax1 (⟨rfl, hno⟩ | ⟨k, hkl, rfl, hk, _⟩)
  · refine ⟨trivial, ?_⟩
    refine RL.pure rfl rfl rfl rfl ?_
    refine RL.pure rfl rfl rfl rfl ?_
    refine RL.done ?_
    have : xs.any p = false := List.any_eq_false.2 (fun x hx => by simp [hno x hx])
    exact CW.ret (ret (vs := [_]) ⟨_, _, rfl, rfl, rfl⟩ (PostV.mk hg1 hax1 (by rw [this]; rfl)))
  · refine ⟨trivial, ?_⟩
    refine RL.pure rfl rfl rfl rfl ?_
    refine RL.pure rfl rfl rfl rfl ?_
    refine RL.done ?_
    have : xs.any p = true := List.any_eq_true.2 ⟨_, List.getElem_mem hkl, hk⟩
    have h0 : decide ((k : Int) ≥ 0) = true := by simp
    exact CW.ret (ret (vs := [_]) ⟨_, _, rfl, rfl, rfl⟩ (PostV.mk hg1 hax1 (by rw [this]; exact congrArg Value.bool h0)))

/-! ### DeleteFunc -/
theorem filter_take {xs : List Int} {p : Int → Bool} {j : Nat} (h : j < xs.length) : (xs.take (j + 1)).filter p = (xs.take j).filter p ++ if p xs[j] = true then [xs[j]] else [] := by
  rw [List.take_succ_eq_append_getElem h, List.filter_append]
  congr 1
  simp only [List.filter_cons, List.filter_nil]
theorem set_take_drop {ys zs : List Int} {v : Int} {i : Nat} (hi : i < ys.length) (h : ys.take i = zs) : (ys.set i v).take (i + 1) = zs ++ [v] := by
  rw [List.take_succ_eq_append_getElem (by simpa using hi), List.getElem_set_self, List.take_set_of_le (Nat.le_refl _), h]

set_option maxRecDepth 100000 in
theorem DeleteFunc_ct {w : World} {s A : Res} {os : List Res} {xs : List Int} {a : Option Addr} {c g : Nat} {cap : Array Value} {p : Int → Bool} (hg : Good w s (A :: os)) (ho : OwnI s A a c xs) (hc : callable Try.prog g = true) (hp : Tells Try.prog g cap s p) :
    Calls Try.prog 52 #[.slice a xs.length c, .func (.func g) #[] cap] w (Post w s os fun s' A' r => s' = s ∧ r = .slice a (xs.filter fun x => !p x).length c ∧ OwnI s' A' a c (xs.filter fun x => !p x)) := by
  have hlen := ho.le_max
  simp only [maxLen] at hlen
  have hlc := ho.le_cap
  obtain ⟨hl1, hl2, hl3, hl4⟩ := hg.lend
  have himm := ho.imm (RInt.up _) hl2 hl3
  refine enter (l := [.slice a xs.length c, .func (.func g) #[] cap]) Try.func52 rfl Try.ntmps52 rfl ?_
  refine CW.seq (CW.plain ?_)
  refine RL.pure rfl rfl rfl rfl ?_
  refine RL.done ?_
  refine CW.seq (CW.plain ?_)
  refine RL.pure rfl rfl rfl rfl ?_
  refine RL.pure rfl rfl rfl rfl ?_
  refine RL.callV rfl rfl rfl rfl rfl ca54 (IndexFunc_ct hl1 himm hc (hp.up hl2)) ?_
  rintro v w1 hg1' hax1 hv
  have hg1 := hl4 _ hg1'
  refine ⟨trivial, ?_⟩
  clear hl1 hl2 hl3 hl4 himm hg1'
  rcases hv with ⟨rfl, hno⟩ | ⟨k, hkl, rfl, hk, hno⟩
  · refine RL.pure rfl rfl rfl rfl ?_
    refine RL.done ?_
    refine CW.seq (CW.seq (CW.plain ?_))
    refine RL.pure rfl rfl rfl rfl ?_
    refine RL.pure rfl rfl rfl rfl ?_
    refine RL.done ?_
    refine CW.yes rfl (CW.seq (CW.plain ?_))
    refine RL.pure rfl rfl rfl rfl ?_
    refine RL.pure rfl rfl rfl rfl ?_
    refine RL.done ?_
    have e : (xs.filter fun x => !p x) = xs := List.filter_eq_self.2 (fun x hx => by simp [hno x hx])
    exact CW.ret (ret (vs := [_]) ⟨_, _, rfl, rfl, rfl⟩ (Post.mk (Le.refl _) hg1 hax1 (by rw [e]; exact ⟨rfl, rfl, ho⟩)))
  refine RL.pure rfl rfl rfl rfl ?_
  refine RL.done ?_
  refine CW.seq (CW.seq (CW.plain ?_))
  refine RL.pure rfl rfl rfl rfl ?_
  refine RL.pure rfl rfl rfl rfl ?_
  refine RL.done ?_
  refine CW.eq rfl (fun h => by omega) (fun _ => CW.skip ?_)
  have hf0 : (xs.take (k + 1)).filter (fun x => !p x) = xs.take k := by
    rw [filter_take hkl, hk]
    simp only [Bool.not_true, Bool.false_eq_true, if_false, List.append_nil]
    exact List.filter_eq_self.2 (fun x hx => by simp [hno x hx])
  refine CW.meet (fun E w' => ∃ A' ys, E = [(0, .slice a xs.length c), (5, i64 (xs.filter fun x => !p x).length)] ∧ Good w' s (A' :: os) ∧ Aux w w' ∧ OwnI s A' a c ys ∧ ys.length = xs.length ∧ ys.take (xs.filter fun x => !p x).length = (xs.filter fun x => !p x) ∧ (xs.filter fun x => !p x).length < xs.length) ?_ ?_
  · refine CW.seq (CW.plain ?_)
    refine RL.pure rfl rfl rfl rfl ?_
    refine RL.add rfl rfl rfl rfl rfl rfl (by simp only [rng] at *; omega) ?_
    refine RL.pure rfl rfl rfl rfl ?_
    refine RL.done ?_
    refine CW.block (CW.loop (σ := Nat) (fun n E w' => ∃ A' ys, ∃ i j : Nat, E = [(0, .slice a xs.length c), (1, .func (.func g) #[] cap), (5, i64 i), (6, i64 j)] ∧ Good w' s (A' :: os) ∧ Aux w w' ∧ OwnI s A' a c ys ∧ ys.length = xs.length ∧ j + n = xs.length ∧ i < j ∧
        ys.take i = (xs.take j).filter (fun x => !p x) ∧ ys.drop j = xs.drop j)
      (fun n => n) (xs.length - (k + 1)) [(0, .slice a xs.length c), (1, .func (.func g) #[] cap), (5, i64 k), (6, i64 ((k : Int) + 1))] ⟨rfl, rfl, rfl, rfl, trivial⟩
      ⟨A, xs, k, k + 1, rfl, hg1, hax1, ho, rfl, by omega, by omega, hf0.symm, rfl⟩ ?_)
    rintro n E w2 ⟨A2, ys, i, j, rfl, hg2, hax2, ho2, hyl, hn, hij, hyt, hyd⟩
    refine CW.seq (CW.seq (CW.plain ?_))
    refine RL.pure rfl rfl rfl rfl ?_
    refine RL.pure rfl rfl rfl rfl ?_
    refine RL.len rfl rfl rfl rfl sl22 rfl ?_
    refine RL.pure rfl rfl rfl rfl ?_
    refine RL.done ?_
    refine CW.test rfl (fun h => ?_) (fun h => CW.exit ?_)
    · refine CW.skip ?_
      have hjl : j < xs.length := by omega
      have hyj : ys[j]'(by omega) = xs[j] := by
        have h1 : (ys.drop j)[0]? = (xs.drop j)[0]? := by rw [hyd]
        rw [List.getElem?_drop, List.getElem?_drop, Nat.add_zero, List.getElem?_eq_getElem (by omega), List.getElem?_eq_getElem hjl] at h1
        exact Option.some.inj h1
      have hyd1 : ys.drop (j + 1) = xs.drop (j + 1) := by rw [← List.drop_drop, ← List.drop_drop, hyd]
      have hsl : some (Value.slice a xs.length c) = some (Value.slice a ys.length c) := by rw [hyl]
      refine CW.seq (CW.block (CW.seq (CW.plain ?_)))
      refine RL.pure rfl rfl rfl rfl ?_
      refine RL.pure rfl rfl rfl rfl ?_
      refine RL.idxOwn rfl rfl rfl rfl sl22 hsl rfl ho2 (by omega) (by omega) ?_
      rintro q cs vs hb hC hcs hvl hcell ⟨rfl, hr⟩
      refine RL.load rfl rfl rfl rfl ty3 rfl (Holds.of hC) hg2.1 (hcell 0 _ rfl) ?_
      refine RL.pure rfl rfl rfl rfl ?_
      refine RL.done ?_
      have ej : ys[((j : Nat) : Int).toNat]'(by omega) = xs[j] := by simpa using hyj
      rw [ej]
      refine CW.seq (CW.plain ?_)
      refine RL.pure rfl rfl rfl rfl ?_
      refine RL.pure rfl rfl rfl rfl ?_
      refine RL.callF rfl rfl rfl rfl rfl rfl hc (hp xs[j] w2 s (A2 :: os) (Le.refl _) hg2) ?_
      rintro e w3 ⟨v3, rfl, hg3, hax3, rfl⟩
      refine ⟨_, rfl, trivial, ?_⟩
      refine RL.pure rfl rfl rfl rfl ?_
      refine RL.done ?_
      refine CW.cond rfl (fun hb => ?_) (fun hb => ?_)
      · refine CW.seq (CW.plain ?_)
        refine RL.pure rfl rfl rfl rfl ?_
        refine RL.pure rfl rfl rfl rfl ?_
        refine RL.pure rfl rfl rfl rfl ?_
        refine RL.idxOwn rfl rfl rfl rfl sl22 hsl rfl ho2 (by omega) (by omega) ?_
        rintro q' cs' vs' hb' hC' hcs' hvl' hcell' _
        refine RL.store (i := 0) rfl rfl rfl ty3 rfl rfl hg3 rfl (hC') rfl (by first | (simp [Value.cells, Value.oneCell']; done) | simp [Value.cells, Value.oneCell', putL]) (by first | exact Nat.le_of_ble_eq_true rfl | (simp; done) | (simp; omega) | omega) ?_
        rintro w4 hg4 hax4
        refine ⟨trivial, ?_⟩
        refine RL.done ?_
        have hset := Own.set (x := xs[j]) (vs := [i64 xs[j]]) (hb' ▸ ho2) hC' (show i < ys.length by omega) rfl ⟨rfl, ej ▸ hr⟩
        refine CW.plain ?_
        refine RL.pure rfl rfl rfl rfl ?_
        refine RL.add rfl rfl rfl rfl rfl rfl (by simp only [rng] at *; omega) ?_
        refine RL.pure rfl rfl rfl rfl ?_
        refine RL.done ?_
        refine CW.plain ?_
        refine RL.pure rfl rfl rfl rfl ?_
        refine RL.add rfl rfl rfl rfl rfl rfl (by simp only [rng] at *; omega) ?_
        refine RL.pure rfl rfl rfl rfl ?_
        refine RL.done ?_
        cases n with
        | zero => omega
        | succ n =>
          refine fun ac ha => ⟨n, [(0, .slice a xs.length c), (1, .func (.func g) #[] cap), (5, i64 ((i + 1 : Nat) : Int)), (6, i64 ((j + 1 : Nat) : Int))], ha.sub ⟨rfl, rfl, rfl, rfl, trivial⟩,
            ⟨_, ys.set i xs[j], i + 1, j + 1, rfl, hg4, hax2.trans (hax3.trans hax4), hb' ▸ hset, by simp [hyl], by omega, by omega, ?_, ?_⟩, Nat.lt_succ_self n⟩
          · rw [set_take_drop (by omega) hyt, filter_take hjl, if_pos hb]
          · rw [List.drop_set_of_lt (by omega), hyd1]
      · refine CW.skip ?_
        refine CW.plain ?_
        refine RL.pure rfl rfl rfl rfl ?_
        refine RL.add rfl rfl rfl rfl rfl rfl (by simp only [rng] at *; omega) ?_
        refine RL.pure rfl rfl rfl rfl ?_
        refine RL.done ?_
        cases n with
        | zero => omega
        | succ n =>
          refine fun ac ha => ⟨n, [(0, .slice a xs.length c), (1, .func (.func g) #[] cap), (5, i64 (i : Int)), (6, i64 ((j + 1 : Nat) : Int))], ha.sub ⟨rfl, rfl, rfl, rfl, trivial⟩,
            ⟨A2, ys, i, j + 1, rfl, hg3, hax2.trans hax3, ho2, hyl, by omega, by omega, ?_, hyd1⟩, Nat.lt_succ_self n⟩
          rw [filter_take hjl, if_neg (by rw [hb]; decide), List.append_nil, hyt]
    · have hjl : j = xs.length := by omega
      subst hjl
      rw [List.take_length] at hyt
      have hil : (xs.filter fun x => !p x).length = i := by rw [← hyt, List.length_take]; omega
      refine fun ac ha => ⟨[(0, .slice a xs.length c), (5, i64 (xs.filter fun x => !p x).length)], ha.sub ⟨rfl, by rw [hil]; rfl, trivial⟩, A2, ys, rfl, hg2, hax2, ho2, hyl, by rw [hil, hyt], by omega⟩
  rintro E w5 ⟨A5, ys, rfl, hg5, hax5, ho5, hyl, hyt, hlt⟩
  generalize (xs.filter fun x => !p x) = zs at hyt hlt ⊢
  rcases ho5 with ⟨_, _, rfl⟩ | ⟨q, cs, rfl, hA5, hl5, hc5, hcs5, hch5⟩
  · simp at hyl; omega
  have hfit : 0 + zs.length * 1 + (xs.length - zs.length) * [i64 0].length ≤ cs.size := by
    rw [hcs5]; simp only [List.length_cons, List.length_nil]; omega
  refine CW.seq (CW.plain ?_)
  refine RL.pure rfl rfl rfl rfl ?_
  refine RL.pure rfl rfl rfl rfl ?_
  refine RL.cutLo zs.length rfl rfl rfl rfl sl22 rfl rfl rfl (by omega) (by omega) (by omega) ?_
  refine RL.clear (i := 0) rfl rfl rfl sl22 ze3 rfl hg5 rfl hA5 hfit (by simp [Value.oneCell']) ?_
  rintro w6 hg6 hax6
  refine ⟨trivial, ?_⟩
  refine RL.done ?_
  refine CW.seq (CW.plain ?_)
  refine RL.pure rfl rfl rfl rfl ?_
  refine RL.pure rfl rfl rfl rfl ?_
  refine RL.cutHi zs.length rfl rfl rfl rfl sl22 rfl rfl rfl (by omega) ?_
  refine RL.pure rfl rfl rfl rfl ?_
  refine RL.done ?_
  have hown : OwnI s A5 (some ⟨q, 0, none⟩) c zs := by
    have e : zs ++ ys.drop zs.length = ys := by
      have := List.take_append_drop zs.length ys
      rw [hyt] at this
      exact this
    have h1 : OwnI s A5 (some ⟨q, 0, none⟩) c (zs ++ ys.drop zs.length) := by
      rw [e]
      exact .inr ⟨q, cs, rfl, hA5, hl5, hc5, hcs5, hch5⟩
    exact h1.front
  have hzl : (Builtin.zeroCells #[i64 0] (xs.length - zs.length)).toList.length = xs.length - zs.length := by simp [size_zeroCells]
  simp only [List.length_cons, List.length_nil] at hfit
  have htail := hown.tail hA5 (ds := spl cs (0 + zs.length * 1) (Builtin.zeroCells #[i64 0] (xs.length - zs.length)).toList) (spl_size (by rw [hzl]; omega)) (by
    simp only [Nat.zero_add, Nat.mul_one] at hfit ⊢
    rw [List.append_assoc, List.take_left' (by rw [List.length_take]; have : cs.toList.length = cs.size := Array.length_toList; omega)])
  exact CW.ret (ret (vs := [_]) ⟨_, _, rfl, rfl, rfl⟩ (Post.mk (Le.refl _) hg6 (hax5.trans hax6) ⟨rfl, rfl, htail⟩))
end Go.Lw
