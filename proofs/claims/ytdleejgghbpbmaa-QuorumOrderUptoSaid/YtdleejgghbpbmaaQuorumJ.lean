/-
  Quorum: the laws QuorumCommits, QuorumGrows, QuorumOrder: walked.
-/
import Derived.Test.YtdleejgghbpbmaaQuorumI
import Derived.Laws.StructEq
namespace Go.Lw
open Go.Proofs

theorem Com.perm {M M' : List Int} {c : Int} (h : Com M c) (hp : M.Perm M') : Com M' c := by
  rcases h with ⟨rfl, rfl⟩ | ⟨h1, h2⟩
  · exact .inl ⟨List.nil_perm.1 hp, rfl⟩
  · exact .inr ⟨fun e => by subst e; exact h1 (List.perm_nil.1 hp), by rw [← hp.length_eq]; exact h2.perm hp⟩

/-! ### a struct against itself -/
theorem peer_ne (p : Peer) (w : World) : (binOp .neq 36 (.agg #[i64 p.node, .int .u64 p.next, .int .u64 p.mat]) (.agg #[i64 p.node, .int .u64 p.next, .int .u64 p.mat])).run Try.prog w = .ok (.bool false) w := by
  have u1 := Try.underlying3
  have a1 := Try.isAgg3
  have z1 := Try.sizeOf3
  have u2 := Try.underlying33
  have a2 := Try.isAgg33
  have z2 := Try.sizeOf33
  have hS : Try.prog.underlying 36 = some (.struct (Try.prog.fieldsOf 36)) := by kernel_rfl
  have hp : Try.prog.stoodInHeld 36 = false := by kernel_rfl
  rw [run_neq_struct, show (10000 : Nat) = 9999 + 1 from rfl, run_equalIn_agg w 9999 36 _ _ hS hp]
  simp only [Program.fieldsOf, Try.underlying36]
  go_simp
section
variable {P : Program} {n : Nat} {ops : Array Oper} {Q : Exit → Act → World → Prop} {S : World → Prop} {rest : List (Bool × Oper)} {E : Env} {w : World} {o : Oper} {d : Nat} {v : Value} {x y : Operand} {T : Bool}
theorem RL.stNe {t yt : TypeId} {us vs : Array Value} (hg : wants ops E o = some true) (hd : o.dst = some d) (hb : Nat.blt d n = true) (ho : o.op = .binOp .neq t x y yt) (hm : P.eqGuardType P.depth t = false)
    (hx : ev E x = some (.agg us)) (hy : ev E y = some (.agg vs)) (hr : ∀ w, (binOp .neq t (.agg us) (.agg vs)).run P w = .ok v w) (h : RL P n ops Q S rest ((d, v) :: E) w) : RL P n ops Q S ((T, o) :: rest) E w := by
  refine RL.val hg hd hb (fun w ac ha => ?_) h
  unfold execOp
  simp only [ho, ha.ev hx, ha.ev hy, Sem.run_bind, run_eqGuard_agg _ _ _ _ _ _ _ hm, Result.andThen_ok]
  simp [hr w]
end

set_option maxRecDepth 100000 in
theorem QuorumCommits_ct {w : World} {s : Res} {os : List Res} {xs : List Int} {l : List Peer} {xa la : Option Addr} {xc lc : Nat} (hg : Good w s os) (hx : Ints s xa xc xs) (hl : Peers s la lc l) (hb : xs.length * 8 ≤ 140737488355328) :
    Calls Try.prog 7 #[.slice xa xs.length xc, .slice la l.length lc] w (Post w s os fun _ _ r => r = .bool true) := by
  have hone := RPeer.one
  refine enter (l := [.slice xa xs.length xc, .slice la l.length lc]) Try.func7 rfl Try.ntmps7 rfl ?_
  refine CW.seq (CW.plain ?_)
  refine RL.pure rfl rfl rfl rfl ?_
  refine RL.done ?_
  refine CW.seq (CW.plain ?_)
  refine RL.call rfl rfl rfl rfl rfl ca10 (head_ct hg) ?_
  rintro v1 s1 A1 w1 hle1 hg1 hax1 rfl
  refine ⟨trivial, ?_⟩
  refine RL.pure rfl rfl rfl rfl ?_
  refine RL.done ?_
  have hx1 := hx.up (RInt.up _) hle1
  have hl1 := hl.up RPeer.up hle1
  refine CW.meet (fun E' w' => w' = w1 ∧ l.length ≤ 500 ∧ E' = [(0, .slice xa xs.length xc), (1, .slice la l.length lc), (5, .bool true)]) ?_ ?_
  · refine CW.seq (CW.plain ?_)
    by_cases h1 : (xs.length : Int) > 500
    · refine RL.pure rfl rfl rfl rfl ?_
      refine RL.len rfl rfl rfl rfl sl22 rfl ?_
      refine RL.as_ rfl rfl rfl rfl (.bool true) (congrArg Value.bool (decide_eq_true h1)) ?_
      refine RL.pure rfl rfl rfl rfl ?_
      refine RL.pass rfl rfl rfl ?_
      refine RL.pass rfl rfl rfl ?_
      refine RL.pass rfl rfl rfl ?_
      refine RL.pure rfl rfl rfl rfl ?_
      refine RL.done ?_
      refine CW.yes rfl ?_
      refine CW.seq (CW.plain ?_)
      refine RL.pure rfl rfl rfl rfl ?_
      refine RL.pure rfl rfl rfl rfl ?_
      refine RL.done ?_
      exact CW.ret (ret (vs := [_]) ⟨_, _, rfl, rfl, rfl⟩ (Post.mk hle1 hg1 hax1 rfl))
    · refine RL.pure rfl rfl rfl rfl ?_
      refine RL.len rfl rfl rfl rfl sl22 rfl ?_
      refine RL.as_ rfl rfl rfl rfl (.bool false) (congrArg Value.bool (decide_eq_false h1)) ?_
      refine RL.pure rfl rfl rfl rfl ?_
      refine RL.pure rfl rfl rfl rfl ?_
      refine RL.len rfl rfl rfl rfl sl32 rfl ?_
      refine RL.pure rfl rfl rfl rfl ?_
      refine RL.pure rfl rfl rfl rfl ?_
      refine RL.done ?_
      refine CW.test rfl (fun h2 => ?_) (fun h2 => ?_)
      · refine CW.seq (CW.plain ?_)
        refine RL.pure rfl rfl rfl rfl ?_
        refine RL.pure rfl rfl rfl rfl ?_
        refine RL.done ?_
        exact CW.ret (ret (vs := [_]) ⟨_, _, rfl, rfl, rfl⟩ (Post.mk hle1 hg1 hax1 rfl))
      · exact CW.skip (fun ac ha => ⟨_, ha.sub (E' := [(0, .slice xa xs.length xc), (1, .slice la l.length lc), (5, .bool true)]) ⟨rfl, rfl, rfl, trivial⟩, rfl, by omega, rfl⟩)
  rintro E' w' ⟨rfl, hl500, rfl⟩
  refine CW.seq (CW.plain ?_)
  refine RL.buildSlice rfl rfl rfl rfl sl32 ze36 rfl rfl rfl rfl hg1.drop ?_
  rintro b2 w2 hg2 hax2
  refine ⟨trivial, ?_⟩
  refine RL.pure rfl rfl rfl rfl ?_
  obtain ⟨news, hsrc, hch⟩ := Src.row (c := lc) sl32 hl1.2.2 hg2.sh
  refine RL.append (i := 0) (ys := l) rfl rfl rfl rfl sl32 ze36 rfl (by first | exact RInt.one _ | exact RStr.one | exact RBool.one | assumption) rfl rfl hg2 rfl (Own.fresh (R := RPeer) (sz := 3) (el := 36) (s := s1) (b := b2)) (hsrc) (hch) ((by simp; omega)) (by omega) ?_
  rintro a3 c3 A3 w3 hg3 hown3 hax3 hk3
  refine ⟨trivial, ?_⟩
  refine RL.pure rfl rfl rfl rfl ?_
  refine RL.done ?_
  obtain ⟨s4, hg4, hle4, hA4⟩ := hg3.letgo
  have hown : Peers s4 a3 c3 l := hown3.imm RPeer.up hle4 hA4
  refine CW.seq (CW.plain ?_)
  refine RL.pure rfl rfl rfl rfl ?_
  refine RL.pure rfl rfl rfl rfl ?_
  refine RL.call rfl rfl rfl rfl rfl ca17 (Commit_ct (l := l) hg4 (hx1.up (RInt.up _) hle4) hown hb) ?_
  rintro v5 s5 A5 w5 hle5 hg5 hax5 ⟨c, rfl, hcom⟩
  refine ⟨trivial, ?_⟩
  refine RL.pure rfl rfl rfl rfl ?_
  refine RL.done ?_
  have hO := hown.up RPeer.up hle5
  have hL := (hl1.up RPeer.up hle4).up RPeer.up hle5
  refine CW.seq (CW.seq (CW.plain ?_))
  refine RL.pure rfl rfl rfl rfl ?_
  refine RL.done ?_
  refine CW.block (CW.loop (σ := Nat) (fun j E w' => Good w' s5 os ∧ Aux w w' ∧ ∃ k : Nat, E = [(0, .slice xa xs.length xc), (1, .slice la l.length lc), (5, .bool true), (6, .slice a3 l.length c3), (7, .int .u64 c), (8, i64 k)] ∧ k + j = l.length)
    (fun j => j) l.length [(0, .slice xa xs.length xc), (1, .slice la l.length lc), (5, .bool true), (6, .slice a3 l.length c3), (7, .int .u64 c), (8, i64 0)] ⟨rfl, rfl, rfl, rfl, rfl, rfl, trivial⟩ ⟨hg5.drop, hax1.trans (hax2.trans (hax3.trans hax5)), 0, rfl, by omega⟩ ?_)
  rintro j E w6 ⟨hg6, hax6, k, rfl, hk⟩
  refine CW.seq (CW.seq (CW.plain ?_))
  refine RL.pure rfl rfl rfl rfl ?_
  refine RL.pure rfl rfl rfl rfl ?_
  refine RL.len rfl rfl rfl rfl sl32 rfl ?_
  refine RL.pure rfl rfl rfl rfl ?_
  refine RL.done ?_
  refine CW.test rfl (fun h => ?_) (fun h => ?_)
  · refine CW.skip ?_
    have hkl : k < l.length := by omega
    refine CW.seq (CW.block (CW.seq ?_))
    refine CW.draws [(true, 0), (true, 1), (true, 2), (true, 3), (true, 4), (true, 5), (true, 6), (true, 7), (true, 8)] (fun w => Good w s5 os) mixed (by kernel_rfl) (by kernel_rfl) (by kernel_rfl) (by kernel_rfl) (hg6.drew) ?_
    refine RL.pure rfl rfl rfl rfl ?_
    refine RL.pure rfl rfl rfl rfl ?_
    refine RL.idx rfl rfl rfl rfl sl32 rfl rfl (hO) (by omega) (by omega) ?_
    rintro q5 vs5 hvl5 hH5 ⟨rfl, hr51, hr52, hr53⟩
    refine RL.loadsT rfl rfl rfl rfl ty36 rfl (hH5) (fun w h => h.sh) rfl rfl ?_
    refine RL.pure rfl rfl rfl rfl ?_
    refine RL.pure rfl rfl rfl rfl ?_
    refine RL.idx rfl rfl rfl rfl sl32 rfl rfl (hL) (by omega) (by omega) ?_
    rintro q6 vs6 hvl6 hH6 ⟨rfl, hr61, hr62, hr63⟩
    refine RL.loadsT rfl rfl rfl rfl ty36 rfl (hH6) (fun w h => h.sh) rfl rfl ?_
    refine RL.stNe rfl rfl rfl rfl (by kernel_rfl) rfl rfl (peer_ne l[(k : Int).toNat]) ?_
    refine RL.done ?_
    refine CW.no rfl ?_
    refine CW.skip ?_
    refine CW.plain ?_
    refine RL.pure rfl rfl rfl rfl ?_
    refine RL.add rfl rfl rfl rfl rfl rfl (by simp only [rng] at *; omega) ?_
    refine RL.pure rfl rfl rfl rfl ?_
    refine RL.done ?_
    cases j with
    | zero => omega
    | succ j =>
      exact fun ac ha => ⟨j, [(0, .slice xa xs.length xc), (1, .slice la l.length lc), (5, .bool true), (6, .slice a3 l.length c3), (7, .int .u64 c), (8, i64 ((k : Int) + 1))], ha.sub ⟨rfl, rfl, rfl, rfl, rfl, rfl, trivial⟩, ⟨hg6.drew, hax6.trans (Aux.drew _), k + 1, rfl, by omega⟩, Nat.lt_succ_self j⟩
  · refine CW.exit (CW.seq (CW.plain ?_))
    have hle15 := hle1.trans (hle4.trans hle5)
    refine RL.pure rfl rfl rfl rfl ?_
    refine RL.pure rfl rfl rfl rfl ?_
    refine RL.pure rfl rfl rfl rfl ?_
    refine RL.pure rfl rfl rfl rfl ?_
    refine RL.pure rfl rfl rfl rfl ?_
    refine RL.call rfl rfl rfl rfl rfl ca18 (rCommit_ct hg6 (hx.up (RInt.up _) hle15) hL hb) ?_
    rintro v7 s7 A7 w7 hle7 hg7 hax7 rfl
    refine ⟨trivial, ?_⟩
    refine RL.pure rfl rfl rfl rfl ?_
    refine RL.pure rfl rfl rfl rfl ?_
    refine RL.pure rfl rfl rfl rfl ?_
    refine RL.done ?_
    have hbest : bestF (onceR xs) (matchP l) = c := best_com (fun x => (matchP_spec l x).1) (hcom.perm ((once_perm xs).symm.map _))
    exact CW.ret (ret (vs := [_]) ⟨_, _, rfl, rfl, rfl⟩ (Post.mk (hle15.trans hle7) hg7 (hax6.trans hax7) (congrArg Value.bool (by rw [hbest]; exact beq_self_eq_true c))))

def setMat (l : List Peer) (k : Nat) (m : Int) : List Peer :=
  match l[k]? with
  | some p => l.set k { p with mat := m }
  | none => l
theorem setMat_set (l : List Peer) (k : Nat) (m : Int) (h : k < l.length) : setMat l k m = l.set k { l[k] with mat := m } := by
  simp only [setMat, List.getElem?_eq_getElem h]
theorem matchP_grows {l : List Peer} {k : Nat} {m : Int} (h : k < l.length) (hm : l[k].mat ≤ m) (x : Int) : matchP l x ≤ matchP (setMat l k m) x := by
  rw [setMat_set l k m h]
  obtain ⟨h1, h2, h3⟩ := matchP_spec l x
  obtain ⟨k1, k2, k3⟩ := matchP_spec (l.set k { l[k] with mat := m }) x
  rcases h3 with h3 | ⟨p, hp, hn, he⟩
  · omega
  · obtain ⟨i, hi, rfl⟩ := List.getElem_of_mem hp
    by_cases e : k = i
    · subst e
      have h5 : m ≤ _ := k2 { l[k] with mat := m } (List.mem_set hi _) hn
      omega
    · have hm2 : l[i] ∈ l.set k { l[k] with mat := m } := by
        have hi2 : i < (l.set k { l[k] with mat := m }).length := by simpa using hi
        have : (l.set k { l[k] with mat := m })[i]'hi2 = l[i] := by rw [List.getElem_set, if_neg e]
        rw [← this]
        exact List.getElem_mem _
      have h5 := k2 _ hm2 hn
      omega
end Go.Lw
