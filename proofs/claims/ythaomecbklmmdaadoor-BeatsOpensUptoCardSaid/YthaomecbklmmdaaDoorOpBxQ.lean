/-
  Beats: Pack, by the program.
-/
import Derived.Test.YthaomecbklmmdaaDoorOpBxQa
namespace Go.Lw
open Go.Proofs
attribute [local irreducible] RL RA

theorem zero_run {P : Program} {t : TypeId} {v : Value} (h : (P.info? t).bind (·.zero) = some v) (w : World) : (zeroValue t).run P w = .ok v w := by
  cases hi : P.info? t with
  | none => rw [hi] at h; cases h
  | some i =>
    rw [hi] at h
    have hz : i.zero = some v := h
    simp [zeroValue, typeInfo, hi, hz]
theorem MapAt.le {A A' : Res} {g : Nat} {l : List (Int × Value)} (h : MapAt A g l) (hl : Le A A') : MapAt A' g l :=
  let ⟨es, c, h1, h2⟩ := h
  ⟨es, c, hl _ _ h1, h2⟩
theorem any_bad {α : Type} {p : α → Bool} {l : List α} {k : Nat} (hk : k < l.length) (h : p l[k] = true) : l.any p = true := List.any_eq_true.2 ⟨_, List.getElem_mem hk, h⟩
theorem encW_kind (x : Wire) : (if kindOf x.msg = 2 then encBeat x else encFull x) = encW x := by
  unfold kindOf encW
  by_cases h : isP x.msg = true
  · rw [if_pos h, if_pos h, if_pos rfl]
  · rw [if_neg h, if_neg h, if_neg (by decide)]
theorem kind_two (m : Msg) : kindOf m = 2 ∨ kindOf m = 1 := by unfold kindOf; split <;> simp
theorem PSt.get {bs : List Box} {Mk Mo : Res} {os : List Res} {i : Nat} (hi : i < bs.length) : (Mk :: Mo :: (bs.map (·.A) ++ os))[2 + i]? = some bs[i].A := by
  rw [show 2 + i = i + 1 + 1 by omega, List.getElem?_cons_succ, List.getElem?_cons_succ, List.getElem?_append_left (by simpa using hi)]
  simp [hi]
abbrev outer (m2 m1 : Nat) : List (Int × Value) := [] ++ [(2, .map (some m2))] ++ [(1, .map (some m1))]

theorem ent_find (bs : List Box) (κ τ : Int) : (∃ i, ∃ hi : i < bs.length, bs[i].to = τ ∧ bs[i].kind = κ ∧ (τ, ptr bs[i].p) ∈ ent bs κ) ∨ ∀ p ∈ ent bs κ, p.1 ≠ τ := by
  by_cases hex : ∃ b ∈ bs, b.kind = κ ∧ b.to = τ
  · obtain ⟨b, hb, h1, h2⟩ := hex
    obtain ⟨i, hi, rfl⟩ := List.getElem_of_mem hb
    exact .inl ⟨i, hi, h2, h1, ent_mem.2 ⟨_, hb, h1, by rw [h2]⟩⟩
  · refine .inr fun p hp e => ?_
    obtain ⟨b, hb, h1, rfl⟩ := ent_mem.1 hp
    exact hex ⟨b, hb, h1, e⟩
theorem ent_none {l : List Wire} {bs : List Box} (hall : ∀ x ∈ l, ∃ b ∈ bs, b.to = x.msg.to ∧ b.kind = kindOf x.msg) {κ τ : Int} (hno : ∀ p ∈ ent bs κ, p.1 ≠ τ) : l.filter (mine τ κ) = [] := by
  refine List.filter_eq_nil_iff.2 fun x hx hm => ?_
  obtain ⟨h1, h2⟩ := mine_iff.1 hm
  obtain ⟨b, hb, b1, b2⟩ := hall x hx
  exact hno _ (ent_mem.2 ⟨b, hb, b2.trans h2, rfl⟩) (b1.trans h1)
theorem good_mid {w : World} {s O : Res} {os : List Res} : ∀ {X : List Res}, Good w s (O :: (X ++ os)) → Good w s (O :: os)
  | [], h => h
  | _ :: X, h => good_mid (X := X) h.dropNext
theorem get3 {bs : List Box} {O Mk Mo : Res} {os : List Res} {i : Nat} (hi : i < bs.length) : (O :: Mk :: Mo :: (bs.map (·.A) ++ os))[3 + i]? = some bs[i].A := by
  rw [show 3 + i = 2 + i + 1 by omega, List.getElem?_cons_succ]
  exact PSt.get hi
def outs (frm : Int) (l : List Wire) (m q : Nat) : List Packet := packUp frm l m ++ ((if 1 ≤ q then packTo frm l ((m : Int) + 1) 2 else []) ++ (if 2 ≤ q then packTo frm l ((m : Int) + 1) 1 else []))
theorem outs_zero (frm : Int) (l : List Wire) (m : Nat) : outs frm l m 0 = packUp frm l m := by simp [outs]
theorem outs_two (frm : Int) (l : List Wire) (m : Nat) : outs frm l m 2 = packUp frm l (m + 1) := by simp [outs, packUp]
theorem outs_le (frm : Int) (l : List Wire) (m q : Nat) : (outs frm l m q).length ≤ 2 * m + 2 := by
  have h1 := packUp_le frm l m
  have h2 := packTo_le frm l ((m : Int) + 1) 2
  have h3 := packTo_le frm l ((m : Int) + 1) 1
  simp only [outs, List.length_append]
  split <;> split <;> (try simp only [List.length_nil]) <;> omega

set_option maxHeartbeats 4000000 in
set_option maxRecDepth 100000 in
theorem Pack_ct {w : World} {s : Res} {os : List Res} {frm : Int} {l : List Wire} {la : Option Addr} {lc : Nat} (hg : Good w s os) (hl : Imm RWire 15 s la lc l) (hfr : rng .i64 frm) (hb : bulkW l + l.length ≤ 17592186044416) (hfit : ∀ x ∈ l, x.msg.fits) :
    Calls Tryd.prog 11 #[i64 frm, .slice la l.length lc] w (Post w s os fun s' A v => PackEnd s' A v (packP frm l)) := by
  have hone := RPacket.one
  have hll := hl.le_max
  simp only [maxLen] at hll
  refine enter (l := [i64 frm, .slice la l.length lc]) Tryd.func11 rfl Tryd.ntmps11 rfl ?_
  refine CW.seq (CW.plain ?_)
  refine RL.pure rfl rfl rfl rfl ?_
  refine RL.pure rfl rfl rfl rfl ?_
  refine RL.done ?_
  refine CW.seq (CW.seq (CW.plain ?_))
  refine RL.pure rfl rfl rfl rfl ?_
  refine RL.callV rfl rfl rfl rfl rfl ca16 (bNode_ct hg) ?_
  rintro v1 w1 hg1 hax1 rfl
  refine ⟨trivial, ?_⟩
  refine RL.pure rfl rfl rfl rfl ?_
  refine RL.done ?_
  refine CW.cond rfl (fun hno => CW.seq (CW.plain ?_)) (fun hno => CW.skip ?_)
  · refine RL.pure rfl rfl rfl rfl ?_
    refine RL.pure rfl rfl rfl rfl ?_
    refine RL.done ?_
    refine CW.ret (ret (vs := [_, _]) ⟨_, _, rfl, rfl, _, _, rfl, rfl, rfl⟩ (Post.mk (Le.refl _) hg1.nil hax1 ?_))
    have hp : packP frm l = ([], 1) := by rw [packP, if_pos (.inl (by simpa using hno))]
    rw [hp]
    exact PackEnd.bad
  have ok1 : node7 frm = true := by simpa using hno
  refine CW.seq (CW.plain ?_)
  refine RL.pure rfl rfl rfl rfl ?_
  refine RL.len rfl rfl rfl rfl sl26 rfl ?_
  refine RL.pure rfl rfl rfl rfl ?_
  refine RL.pure rfl rfl rfl rfl ?_
  refine RL.done ?_
  refine CW.less (E' := [(0, i64 frm), (1, .slice la l.length lc), (6, .bool (decide ((l.length : Int) > 4096)))]) ⟨rfl, rfl, rfl, trivial⟩ ?_
  refine CW.meet (fun E w' => E = [(0, i64 frm), (1, .slice la l.length lc), (6, .bool (decide ((l.length : Int) > 4096) || l.any fun x => longP x.msg))] ∧ Good w' s os ∧ Aux w w' ∧ l.any (badW frm) = false) ?_ ?_
  · refine CW.seq (CW.plain ?_)
    refine RL.pure rfl rfl rfl rfl ?_
    refine RL.len rfl rfl rfl rfl sl26 rfl ?_
    refine RL.pure rfl rfl rfl rfl ?_
    refine RL.done ?_
    refine CW.block (CW.loop (σ := Nat) (fun j E w' => ∃ k : Nat, E = [(0, i64 frm), (1, .slice la l.length lc), (6, .bool (decide ((l.length : Int) > 4096) || (l.take k).any fun x => longP x.msg)), (27, .slice la l.length lc), (28, i64 l.length), (29, i64 k)] ∧ Good w' s os ∧ Aux w w' ∧ (l.take k).any (badW frm) = false ∧ k + j = l.length)
      (fun j => j) l.length [(0, i64 frm), (1, .slice la l.length lc), (6, .bool (decide ((l.length : Int) > 4096) || (l.take 0).any fun x => longP x.msg)), (27, .slice la l.length lc), (28, i64 l.length), (29, i64 0)] ⟨rfl, rfl, (congrArg some (congrArg Value.bool (by simp))), rfl, rfl, rfl, trivial⟩ ⟨0, rfl, hg1, hax1, rfl, by omega⟩ ?_)
    rintro j E w2 ⟨k, rfl, hg2, hax2, hno2, hk⟩
    refine CW.seq (CW.plain ?_)
    refine RL.pure rfl rfl rfl rfl ?_
    refine RL.done ?_
    refine CW.seq (CW.test rfl (fun h => CW.skip ?_) (fun h => CW.exit ?_))
    · have hkl : k < l.length := by omega
      have ek : l[((k : Nat) : Int).toNat]'(by omega) = l[k] := by simp
      have hany := any_take1 (badW frm) l k hkl
      have hany2 := any_take1 (fun x : Wire => longP x.msg) l k hkl
      have hbad1 : badW frm l[k] = true → l.any (badW frm) = true := any_bad hkl
      rw [hno2, Bool.false_or] at hany
      refine CW.meet (fun E w' => E = [(0, i64 frm), (1, .slice la l.length lc), (6, .bool (decide ((l.length : Int) > 4096) || (l.take (k + 1)).any fun x => longP x.msg)), (27, .slice la l.length lc), (28, i64 l.length), (29, i64 k)] ∧ Good w' s os ∧ Aux w w' ∧ (l.take (k + 1)).any (badW frm) = false) ?_ ?_
      · refine CW.block (CW.seq (CW.plain ?_))
        refine RL.idx rfl rfl rfl rfl sl26 rfl rfl (hl) (by omega) (by omega) ?_
        rintro q vs hvl hHe hre
        rw [ek] at hre
        generalize he : l[k] = x at hre hany hany2 hbad1
        obtain ⟨y, rfl, hgr, ho⟩ := id hre
        refine RL.loads (j := 0) (us := (wireV x y)) rfl rfl rfl rfl ty44 rfl (hHe) (hg2.sh) rfl rfl ?_
        refine RL.alloc rfl rfl rfl rfl ze44 hg2 ?_
        rintro r w3 hg3 hax3
        refine ⟨trivial, ?_⟩
        refine RL.store (i := 0) (j := 0) rfl rfl rfl ty44 rfl rfl hg3 rfl (if_pos rfl) rfl (by first | (simp [Value.cells, Value.oneCell']; done) | simp [Value.cells, Value.oneCell', putL]) (by first | exact Nat.le_of_ble_eq_true rfl | (simp; done) | (simp; omega) | omega) ?_
        rintro w4 hg4 hax4
        refine ⟨trivial, ?_⟩
        refine RL.done ?_
        obtain ⟨R, hg4, hR⟩ : ∃ R, Good w4 s (R :: os) ∧ Holds R ⟨r, 0, none⟩ (wireV x y) := ⟨_, hg4, Holds.of (put_same _ _ _)⟩
        have hax4 := hax2.trans (hax3.trans hax4)
        rw [hany, hany2]
        have hor : (decide ((l.length : Int) > 4096) || ((l.take k).any (fun x => longP x.msg) || longP x.msg)) = ((decide ((l.length : Int) > 4096) || (l.take k).any fun x => longP x.msg) || longP x.msg) := by simp [Bool.or_assoc]
        rw [hor]
        generalize (decide ((l.length : Int) > 4096) || (l.take k).any fun x => longP x.msg) = much at *
        have hin := hg4.1
        refine CW.meet (fun E w' => E = [(0, i64 frm), (1, .slice la l.length lc), (6, .bool much), (8, ptr r), (27, .slice la l.length lc), (28, i64 l.length), (29, i64 k)] ∧ Good w' s (R :: os) ∧ Aux w w' ∧ badW frm x = false) ?_ ?_
        · refine CW.seq (CW.plain ?_)
          refine RL.field rfl rfl rfl rfl fl44_1 rfl rfl ?_
          refine RL.field rfl rfl rfl rfl fl42_1 rfl rfl ?_
          refine RL.load (j := 2) rfl rfl rfl rfl ty3 rfl (hR) (hin) rfl ?_
          refine RL.pure rfl rfl rfl rfl ?_
          refine RL.pure rfl rfl rfl rfl ?_
          refine RL.pure rfl rfl rfl rfl ?_
          refine RL.part 38 rfl (fun h38 => ?_) (fun h38 => ?_)
          · refine RL.pass rfl rfl rfl ?_
            refine RL.pass rfl rfl rfl ?_
            refine RL.pass rfl rfl rfl ?_
            refine RL.pass rfl rfl rfl ?_
            refine RL.pass rfl rfl rfl ?_
            refine RL.pure rfl rfl rfl rfl ?_
            refine RL.pure rfl rfl rfl rfl ?_
            refine RL.pass rfl rfl rfl ?_
            refine RL.pass rfl rfl rfl ?_
            refine RL.pass rfl rfl rfl ?_
            refine RL.pass rfl rfl rfl ?_
            refine RL.pass rfl rfl rfl ?_
            refine RL.pure rfl rfl rfl rfl ?_
            refine RL.pure rfl rfl rfl rfl ?_
            refine RL.pass rfl rfl rfl ?_
            refine RL.pass rfl rfl rfl ?_
            refine RL.pass rfl rfl rfl ?_
            refine RL.pass rfl rfl rfl ?_
            refine RL.pass rfl rfl rfl ?_
            refine RL.pure rfl rfl rfl rfl ?_
            refine RL.done ?_
            refine CW.yes rfl (CW.seq (CW.plain ?_))
            refine RL.pure rfl rfl rfl rfl ?_
            refine RL.pure rfl rfl rfl rfl ?_
            refine RL.done ?_
            have hp : packP frm l = ([], 1) := by
              have hbx : badW frm x = true := by clear hR hin hHe hg4; simp_all [badW]
              rw [packP, if_pos (.inr (hbad1 hbx))]
            rw [hp]
            first
              | exact CW.ret (ret (vs := [_, _]) ⟨_, _, rfl, rfl, _, _, rfl, rfl, rfl⟩ (Post.mk (Le.refl _) hg5.drop.nil (hax4.trans hax5) PackEnd.bad))
              | exact CW.ret (ret (vs := [_, _]) ⟨_, _, rfl, rfl, _, _, rfl, rfl, rfl⟩ (Post.mk (Le.refl _) hg4.drop.nil hax4 PackEnd.bad))
          · refine RL.field rfl rfl rfl rfl fl44_1 rfl rfl ?_
            refine RL.field rfl rfl rfl rfl fl42_2 rfl rfl ?_
            refine RL.load (j := 3) rfl rfl rfl rfl ty3 rfl (hR) (hin) rfl ?_
            refine RL.callV rfl rfl rfl rfl rfl ca16 (bNode_ct hg4) ?_
            rintro v5 w5 hg5 hax5 rfl
            refine ⟨trivial, ?_⟩
            refine RL.pure rfl rfl rfl rfl ?_
            refine RL.pure rfl rfl rfl rfl ?_
            refine RL.pure rfl rfl rfl rfl ?_
            refine RL.part 45 rfl (fun h45 => ?_) (fun h45 => ?_)
            · refine RL.pass rfl rfl rfl ?_
              refine RL.pass rfl rfl rfl ?_
              refine RL.pass rfl rfl rfl ?_
              refine RL.pass rfl rfl rfl ?_
              refine RL.pass rfl rfl rfl ?_
              refine RL.pure rfl rfl rfl rfl ?_
              refine RL.pure rfl rfl rfl rfl ?_
              refine RL.pass rfl rfl rfl ?_
              refine RL.pass rfl rfl rfl ?_
              refine RL.pass rfl rfl rfl ?_
              refine RL.pass rfl rfl rfl ?_
              refine RL.pass rfl rfl rfl ?_
              refine RL.pure rfl rfl rfl rfl ?_
              refine RL.done ?_
              refine CW.yes rfl (CW.seq (CW.plain ?_))
              refine RL.pure rfl rfl rfl rfl ?_
              refine RL.pure rfl rfl rfl rfl ?_
              refine RL.done ?_
              have hp : packP frm l = ([], 1) := by
                have hbx : badW frm x = true := by clear hR hin hHe hg4; simp_all [badW]
                rw [packP, if_pos (.inr (hbad1 hbx))]
              rw [hp]
              first
                | exact CW.ret (ret (vs := [_, _]) ⟨_, _, rfl, rfl, _, _, rfl, rfl, rfl⟩ (Post.mk (Le.refl _) hg5.drop.nil (hax4.trans hax5) PackEnd.bad))
                | exact CW.ret (ret (vs := [_, _]) ⟨_, _, rfl, rfl, _, _, rfl, rfl, rfl⟩ (Post.mk (Le.refl _) hg4.drop.nil hax4 PackEnd.bad))
            · refine RL.field rfl rfl rfl rfl fl44_1 rfl rfl ?_
              refine RL.field rfl rfl rfl rfl fl42_2 rfl rfl ?_
              refine RL.load (j := 3) rfl rfl rfl rfl ty3 rfl (hR) (hg5.1) rfl ?_
              refine RL.pure rfl rfl rfl rfl ?_
              refine RL.pure rfl rfl rfl rfl ?_
              refine RL.pure rfl rfl rfl rfl ?_
              refine RL.pure rfl rfl rfl rfl ?_
              refine RL.part 52 rfl (fun h52 => ?_) (fun h52 => ?_)
              · refine RL.pass rfl rfl rfl ?_
                refine RL.pass rfl rfl rfl ?_
                refine RL.pass rfl rfl rfl ?_
                refine RL.pass rfl rfl rfl ?_
                refine RL.pass rfl rfl rfl ?_
                refine RL.pure rfl rfl rfl rfl ?_
                refine RL.done ?_
                refine CW.yes rfl (CW.seq (CW.plain ?_))
                refine RL.pure rfl rfl rfl rfl ?_
                refine RL.pure rfl rfl rfl rfl ?_
                refine RL.done ?_
                have hp : packP frm l = ([], 1) := by
                  have hbx : badW frm x = true := by clear hR hin hHe hg4; simp_all [badW]
                  rw [packP, if_pos (.inr (hbad1 hbx))]
                rw [hp]
                first
                  | exact CW.ret (ret (vs := [_, _]) ⟨_, _, rfl, rfl, _, _, rfl, rfl, rfl⟩ (Post.mk (Le.refl _) hg5.drop.nil (hax4.trans hax5) PackEnd.bad))
                  | exact CW.ret (ret (vs := [_, _]) ⟨_, _, rfl, rfl, _, _, rfl, rfl, rfl⟩ (Post.mk (Le.refl _) hg4.drop.nil hax4 PackEnd.bad))
              · refine RL.field rfl rfl rfl rfl fl44_1 rfl rfl ?_
                refine RL.field rfl rfl rfl rfl fl42_0 rfl rfl ?_
                refine RL.load (j := 1) rfl rfl rfl rfl ty35 rfl (hR) (hg5.1) rfl ?_
                refine RL.callV rfl rfl rfl rfl rfl ca30 (bKnown_ct hg5) ?_
                rintro v6 w6 hg6 hax6 rfl
                refine ⟨trivial, ?_⟩
                refine RL.pure rfl rfl rfl rfl ?_
                refine RL.pure rfl rfl rfl rfl ?_
                refine RL.done ?_
                refine CW.cond rfl (fun hh => CW.seq (CW.plain ?_)) (fun hh => CW.skip ?_)
                · skip
                  refine RL.pure rfl rfl rfl rfl ?_
                  refine RL.pure rfl rfl rfl rfl ?_
                  refine RL.done ?_
                  have hp : packP frm l = ([], 1) := by
                    have hbx : badW frm x = true := by clear hR hin hHe hg4 hg5 hg6; simp_all [badW]
                    rw [packP, if_pos (.inr (hbad1 hbx))]
                  rw [hp]
                  exact CW.ret (ret (vs := [_, _]) ⟨_, _, rfl, rfl, _, _, rfl, rfl, rfl⟩ (Post.mk (Le.refl _) hg6.drop.nil (hax4.trans (hax5.trans hax6)) PackEnd.bad))
                · have hbx : badW frm x = false := by clear hR hin hHe hg4 hg5; simp_all [badW]
                  exact fun ac ha => ⟨[(0, i64 frm), (1, .slice la l.length lc), (6, .bool much), (8, ptr r), (27, .slice la l.length lc), (28, i64 l.length), (29, i64 k)], ha.sub ⟨rfl, rfl, rfl, rfl, rfl, rfl, rfl, trivial⟩, rfl, hg6, hax4.trans (hax5.trans hax6), hbx⟩
        rintro E w7 ⟨rfl, hg7, hax7, hbx⟩
        have hin := hg7.1
        rw [hbx]
        refine CW.plain ?_
        refine RL.pure rfl rfl rfl rfl ?_
        refine RL.pure rfl rfl rfl rfl ?_
        refine RL.part 60 rfl (fun h60 => ?_) (fun h60 => ?_)
        · refine RL.pass rfl rfl rfl ?_
          refine RL.pass rfl rfl rfl ?_
          refine RL.pass rfl rfl rfl ?_
          refine RL.pure rfl rfl rfl rfl ?_
          refine RL.pure rfl rfl rfl rfl ?_
          refine RL.done ?_
          exact fun ac ha => ⟨[(0, i64 frm), (1, .slice la l.length lc), (6, .bool (much || longP x.msg)), (27, .slice la l.length lc), (28, i64 l.length), (29, i64 k)], ha.sub ⟨rfl, rfl, congrArg some (congrArg Value.bool (by simp_all)), rfl, rfl, rfl, trivial⟩, rfl, hg7.drop, hax7, rfl⟩
        · refine RL.field rfl rfl rfl rfl fl44_1 rfl rfl ?_
          refine RL.loads (j := 1) (us := (msgV x.msg y)) rfl rfl rfl rfl ty42 rfl (hR) (hin) rfl rfl ?_
          refine RL.callV rfl rfl rfl rfl rfl ca31 (long_ct hg7 ⟨y, rfl, ho⟩) ?_
          rintro v8 w8 hg8 hax8 rfl
          refine ⟨trivial, ?_⟩
          refine RL.pure rfl rfl rfl rfl ?_
          refine RL.pure rfl rfl rfl rfl ?_
          refine RL.done ?_
          exact fun ac ha => ⟨[(0, i64 frm), (1, .slice la l.length lc), (6, .bool (much || longP x.msg)), (27, .slice la l.length lc), (28, i64 l.length), (29, i64 k)], ha.sub ⟨rfl, rfl, congrArg some (congrArg Value.bool (by simp_all)), rfl, rfl, rfl, trivial⟩, rfl, hg8.drop, hax7.trans hax8, rfl⟩
      rintro E w7 ⟨rfl, hg7, hax7, hno7⟩
      refine CW.plain ?_
      refine RL.add rfl rfl rfl rfl rfl rfl (by simp only [rng] at *; omega) ?_
      refine RL.pure rfl rfl rfl rfl ?_
      refine RL.done ?_
      cases j with
      | zero => omega
      | succ j => exact fun ac ha => ⟨j, [(0, i64 frm), (1, .slice la l.length lc), (6, .bool (decide ((l.length : Int) > 4096) || (l.take (k + 1)).any fun x => longP x.msg)), (27, .slice la l.length lc), (28, i64 l.length), (29, i64 ((k + 1 : Nat) : Int))], ha.sub ⟨rfl, rfl, rfl, rfl, rfl, rfl, trivial⟩, ⟨k + 1, rfl, hg7, hax7, hno7, by omega⟩, Nat.lt_succ_self j⟩
    · have hkl : k = l.length := by omega
      rw [hkl, List.take_length] at hno2 ⊢
      exact fun ac ha => ⟨[(0, i64 frm), (1, .slice la l.length lc), (6, .bool (decide ((l.length : Int) > 4096) || l.any fun x => longP x.msg))], ha.sub ⟨rfl, rfl, rfl, trivial⟩, rfl, hg2, hax2, hno2⟩
  rintro E w5 ⟨rfl, hg5, hax5, ok2⟩
  refine CW.seq (CW.seq (CW.plain ?_))
  refine RL.pure rfl rfl rfl rfl ?_
  refine RL.done ?_
  refine CW.cond rfl (fun hbad => CW.seq (CW.plain ?_)) (fun hmany => CW.skip ?_)
  · refine RL.pure rfl rfl rfl rfl ?_
    refine RL.pure rfl rfl rfl rfl ?_
    refine RL.done ?_
    refine CW.ret (ret (vs := [_, _]) ⟨_, _, rfl, rfl, _, _, rfl, rfl, rfl⟩ (Post.mk (Le.refl _) hg5.nil hax5 ?_))
    have hp : packP frm l = ([], 2) := by
      rw [packP, if_neg (by simp [ok1, ok2]), if_pos]
      rcases (Bool.or_eq_true _ _).mp hbad with h | h
      · exact .inl (by have := of_decide_eq_true h; omega)
      · exact .inr h
    rw [hp]
    exact PackEnd.bad
  obtain ⟨hm1, hm2⟩ := (Bool.or_eq_false_iff).1 hmany
  have hm1 := of_decide_eq_false hm1
  have hp : packP frm l = (packUp frm l 7, 0) := by
    rw [packP, if_neg (by simp [ok1, ok2]), if_neg]
    rintro (h | h)
    · omega
    · rw [hm2] at h; cases h
  rw [hp]
  refine CW.less (E' := [(0, i64 frm), (1, .slice la l.length lc)]) ⟨rfl, rfl, trivial⟩ ?_
  refine CW.seq (CW.plain ?_)
  refine RL.makeMap rfl rfl rfl rfl hg5 ?_
  rintro bo w6 hg6 hax6
  refine ⟨trivial, ?_⟩
  refine RL.makeMap rfl rfl rfl rfl hg6 ?_
  rintro m2 w7 hg7 hax7
  refine ⟨trivial, ?_⟩
  refine RL.mapNew (i := 1) (l := []) rfl rfl (.inr rfl) Tryd.underlying70 Tryd.underlying3 rfl rfl rfl hg7 rfl (MapAt.nil bo) (by simp [rng]) (by simp) ?_
  rintro O1 w8 hg8 hax8 hO1 _
  refine ⟨trivial, ?_⟩
  refine RL.makeMap rfl rfl rfl rfl hg8 ?_
  rintro m1 w9 hg9 hax9
  refine ⟨trivial, ?_⟩
  refine RL.mapNew (i := 2) rfl rfl (.inr rfl) Tryd.underlying70 Tryd.underlying3 rfl rfl rfl hg9 rfl hO1 (by simp [rng]) (by simp) ?_
  rintro O2 w10 hg10 hax10 hO2 _
  refine ⟨trivial, ?_⟩
  refine RL.pure rfl rfl rfl rfl ?_
  refine RL.pure rfl rfl rfl rfl ?_
  refine RL.done ?_
  obtain ⟨s11, hg11, hle11, hq11⟩ := Good.letgo (hg10.front 2 rfl)
  have hO : MapAt s11 bo (outer m2 m1) := hO2.le hq11
  have hg11 : Good w10 s11 (Res.one m1 (.map #[] 0) :: Res.one m2 (.map #[] 0) :: os) := hg11
  have hax11 := hax5.trans (hax6.trans (hax7.trans (hax8.trans (hax9.trans hax10))))
  have hl := hl.up RWire.up hle11
  have hst0 : PSt s11 w10 os (l.take 0) 2 1 m2 m1 (Res.one m2 (.map #[] 0)) (Res.one m1 (.map #[] 0)) [] :=
    ⟨hg11.swap, MapAt.nil _, MapAt.nil _, fun _ h => (by cases h), fun _ h => (by cases h), fun _ h => (by cases h), List.nodup_nil⟩
  clear hg1 hg5 hg6 hg7 hg8 hg9 hg10 hg11
  refine CW.meet (fun E w' => ∃ s' M2 M1 bs, E = [(0, i64 frm), (9, .map (some bo))] ∧ PSt s' w' os l 2 1 m2 m1 M2 M1 bs ∧ (∀ b ∈ bs, b.ms ≠ []) ∧ Le s11 s' ∧ Aux w w') ?_ ?_
  · refine CW.seq (CW.plain ?_)
    refine RL.pure rfl rfl rfl rfl ?_
    refine RL.len rfl rfl rfl rfl sl26 rfl ?_
    refine RL.pure rfl rfl rfl rfl ?_
    refine RL.done ?_
    refine CW.block (CW.loop (σ := Nat) (fun j E w' => ∃ s' M2 M1 bs, ∃ k : Nat, E = [(0, i64 frm), (9, .map (some bo)), (71, .slice la l.length lc), (72, i64 l.length), (73, i64 k)] ∧ PSt s' w' os (l.take k) 2 1 m2 m1 M2 M1 bs ∧ (∀ b ∈ bs, b.ms ≠ []) ∧ Le s11 s' ∧ Aux w w' ∧ k + j = l.length)
      (fun j => j) l.length [(0, i64 frm), (9, .map (some bo)), (71, .slice la l.length lc), (72, i64 l.length), (73, i64 0)] ⟨rfl, rfl, rfl, rfl, rfl, trivial⟩ ⟨s11, _, _, [], 0, rfl, hst0, fun _ h => (by cases h), Le.refl _, hax11, by omega⟩ ?_)
    rintro j E w6 ⟨s6, M2, M1, bs, k, rfl, hSt6, hful6, hle6, hax6, hk⟩
    refine CW.seq (CW.plain ?_)
    refine RL.pure rfl rfl rfl rfl ?_
    refine RL.done ?_
    refine CW.seq (CW.test rfl (fun h => CW.skip ?_) (fun h => CW.exit ?_))
    · have hkl : k < l.length := by omega
      have ek : l[((k : Nat) : Int).toNat]'(by omega) = l[k] := by simp
      have hxf := hfit l[k] (List.getElem_mem hkl)
      have hbk := bulkW_at l k hkl
      have hbad := List.any_eq_false.1 ok2 l[k] (List.getElem_mem hkl)
      have hg6 := hSt6.good
      refine CW.seq (CW.block (CW.seq (CW.plain ?_)))
      refine RL.idx rfl rfl rfl rfl sl26 rfl rfl (hl.up RWire.up hle6) (by omega) ((by omega)) ?_
      rintro q vs hvl hHe hre
      rw [ek] at hre
      have htk : l.take k ++ [l[k]] = l.take (k + 1) := (List.take_succ_eq_append_getElem hkl).symm
      generalize he : l[k] = x at hre hxf hbk hbad htk
      obtain ⟨y, rfl, hgr, ho⟩ := id hre
      refine RL.loads (j := 0) (us := (wireV x y)) rfl rfl rfl rfl ty44 rfl (hHe) (hg6.sh) rfl rfl ?_
      refine RL.alloc rfl rfl rfl rfl ze44 hg6 ?_
      rintro r w7 hg7 hax7
      refine ⟨trivial, ?_⟩
      refine RL.store (i := 0) (j := 0) rfl rfl rfl ty44 rfl rfl hg7 rfl (if_pos rfl) rfl (by first | (simp [Value.cells, Value.oneCell']; done) | simp [Value.cells, Value.oneCell', putL]) (by first | exact Nat.le_of_ble_eq_true rfl | (simp; done) | (simp; omega) | omega) ?_
      rintro w8 hg8 hax8
      refine ⟨trivial, ?_⟩
      refine RL.done ?_
      obtain ⟨s9, hg9, hle9, hq9⟩ := Good.letgo hg8
      have hR : Holds s9 ⟨r, 0, none⟩ (wireV x y) := (Holds.of (put_same _ _ _)).le hq9
      have hSt9 := hSt6.le hle9 hg9
      have hle69 := hle6.trans hle9
      have hax9 := hax6.trans (hax7.trans hax8)
      have hre9 := RWire.up _ _ _ _ hle9 hre
      have ho9 := ho.up hle9
      have hto : rng .i64 x.msg.to := ho.to
      clear hg6 hg7 hg8
      refine CW.seq (CW.plain ?_)
      refine RL.pure rfl rfl rfl rfl ?_
      refine RL.done ?_
      refine CW.meet (fun E w' => E = [(0, i64 frm), (9, .map (some bo)), (11, ptr r), (12, i64 (kindOf x.msg)), (71, .slice la l.length lc), (72, i64 l.length), (73, i64 k)] ∧ PSt s9 w' os (l.take k) 2 1 m2 m1 M2 M1 bs ∧ Aux w w') ?_ ?_
      · refine CW.seq (CW.plain ?_)
        refine RL.field rfl rfl rfl rfl fl44_1 rfl rfl ?_
        refine RL.loads (j := 1) (us := (msgV x.msg y)) rfl rfl rfl rfl ty42 rfl (hR) (hg9.sh) rfl rfl ?_
        refine RL.callV rfl rfl rfl rfl rfl ca32 (Is_ct hg9 ⟨y, rfl, ho9⟩ hxf) ?_
        rintro v10 w10 hg10 hax10 rfl
        refine ⟨trivial, ?_⟩
        refine RL.done ?_
        refine CW.cond rfl (fun his => CW.plain ?_) (fun his => CW.skip ?_)
        · refine RL.pure rfl rfl rfl rfl ?_
          refine RL.done ?_
          have hk2 : kindOf x.msg = 2 := if_pos his
          rw [hk2]
          exact fun ac ha => ⟨_, ha.sub (E' := [(0, i64 frm), (9, .map (some bo)), (11, ptr r), (12, i64 2), (71, .slice la l.length lc), (72, i64 l.length), (73, i64 k)]) ⟨rfl, rfl, rfl, rfl, rfl, rfl, rfl, trivial⟩, rfl, hSt9.le (Le.refl _) hg10, hax9.trans hax10⟩
        · have hk1 : kindOf x.msg = 1 := if_neg (by rw [his]; decide)
          rw [hk1]
          exact fun ac ha => ⟨_, ha.sub (E' := [(0, i64 frm), (9, .map (some bo)), (11, ptr r), (12, i64 1), (71, .slice la l.length lc), (72, i64 l.length), (73, i64 k)]) ⟨rfl, rfl, rfl, rfl, rfl, rfl, rfl, trivial⟩, rfl, hSt9.le (Le.refl _) hg10, hax9.trans hax10⟩
      clear hg9 hSt9 hax9 hSt6
      rintro E w9 ⟨rfl, hSt9, hax9⟩
      obtain ⟨κ', mk, mo, Mk, Mo, hStk, hmk, hne, hback⟩ : ∃ κ' mk mo Mk Mo, PSt s9 w9 os (l.take k) (kindOf x.msg) κ' mk mo Mk Mo bs ∧ (kindOf x.msg, Value.map (some mk)) ∈ outer m2 m1 ∧ κ' ≠ kindOf x.msg ∧
          ∀ s' w' l' Mk' bs', PSt s' w' os l' (kindOf x.msg) κ' mk mo Mk' Mo bs' → ∃ M2' M1', PSt s' w' os l' 2 1 m2 m1 M2' M1' bs' := by
        rcases kind_two x.msg with hk2 | hk1
        · rw [hk2]; exact ⟨1, m2, m1, M2, M1, hSt9, by simp, by decide, fun _ _ _ _ _ h => ⟨_, _, h⟩⟩
        · rw [hk1]; exact ⟨2, m1, m2, M1, M2, hSt9.swap, by simp, by decide, fun _ _ _ _ _ h => ⟨_, _, h.swap⟩⟩
      clear hSt9
      rcases hStk.find x.msg.to with ⟨i9, hi9, e19, e29, hmem⟩ | hno
      · refine CW.seq (CW.plain ?_)
        refine RL.pure rfl rfl rfl rfl ?_
        refine RL.pure rfl rfl rfl rfl ?_
        refine RL.look (u := .map (some mk)) rfl rfl rfl rfl Tryd.underlying70 Tryd.underlying3 rfl rfl (hO.le hle69) hStk.good.sh hmk ?_
        refine RL.field rfl rfl rfl rfl fl44_1 rfl rfl ?_
        refine RL.field rfl rfl rfl rfl fl42_2 rfl rfl ?_
        refine RL.load (j := 3) rfl rfl rfl rfl ty3 rfl (hR) (hStk.good.sh) rfl ?_
        refine RL.look (u := ptr bs[i9].p) rfl rfl rfl rfl Tryd.underlying69 Tryd.underlying3 rfl rfl hStk.mapk hStk.good.1 hmem ?_
        refine RL.pure rfl rfl rfl rfl ?_
        refine RL.pure rfl rfl rfl rfl ?_
        refine RL.pure rfl rfl rfl rfl ?_
        refine RL.pure rfl rfl rfl rfl ?_
        refine RL.pure rfl rfl rfl rfl ?_
        refine RL.done ?_
        refine CW.seq (CW.seq (CW.plain ?_))
        refine RL.pure rfl rfl rfl rfl ?_
        refine RL.pure rfl rfl rfl rfl ?_
        refine RL.done ?_
        refine CW.no rfl (CW.skip ?_)
        obtain ⟨bs9, hp9', hSt9, hful9⟩ : ∃ bs9, bs9 = bs ∧ PSt s9 w9 os (l.take k) (kindOf x.msg) κ' mk mo Mk Mo bs9 ∧ ∀ jj (h : jj < bs9.length), jj ≠ i9 → bs9[jj].ms ≠ [] := ⟨bs, rfl, hStk, fun jj h _ => hful6 _ (List.getElem_mem h)⟩
        subst hp9'
        have hp9 : bs9[i9].p = bs9[i9].p := rfl
        refine CW.less (E' := [(0, i64 frm), (9, .map (some bo)), (11, ptr r), (12, i64 (kindOf x.msg)), (13, ptr bs9[i9].p), (71, .slice la l.length lc), (72, i64 l.length), (73, i64 k)]) ⟨rfl, rfl, rfl, rfl, by rw [hp9]; rfl, rfl, rfl, rfl, trivial⟩ ?_
        have hms := hSt9.mine _ (List.getElem_mem hi9)
        have hml : bs9[i9].ms.length ≤ l.length := by
          rw [hms]; exact Nat.le_trans (List.length_filter_le _ _) (by rw [List.length_take]; omega)
        have hel : (encWs bs9[i9].ms).length ≤ bulkW (l.take k) := by
          rw [hms]; exact Nat.le_trans (encWs_length _) (bulkW_filter _ _)
        refine CW.plain ?_
        refine RL.pure rfl rfl rfl rfl ?_
        refine RL.pure rfl rfl rfl rfl ?_
        refine RL.loads (j := 0) (us := (wireV x y)) rfl rfl rfl rfl ty44 rfl (hR) (hSt9.good.sh) rfl rfl ?_
        refine RL.call rfl rfl rfl rfl rfl ca33 (put_ct (kind := kindOf x.msg) (hSt9.good.front (2 + i9) (PSt.get hi9)) (hSt9.obj _ (List.getElem_mem hi9)) hre9 (by omega) (by omega)) ?_
        rintro v10 s10 A10 w10 hle10 hg10 hax10 ⟨_, hB10⟩
        refine ⟨trivial, ?_⟩
        refine RL.done ?_
        obtain ⟨M2', M1', hSt10⟩ := hback _ _ _ _ _ (hSt9.put hi9 e19 e29 hle10 hg10 (by rw [encW_kind] at hB10; exact hB10))
        rw [htk] at hSt10
        refine CW.plain ?_
        refine RL.add rfl rfl rfl rfl rfl rfl (by simp only [rng] at *; omega) ?_
        refine RL.pure rfl rfl rfl rfl ?_
        refine RL.done ?_
        cases j with
        | zero => omega
        | succ j =>
          refine fun ac ha => ⟨j, [(0, i64 frm), (9, .map (some bo)), (71, .slice la l.length lc), (72, i64 l.length), (73, i64 ((k + 1 : Nat) : Int))], ha.sub ⟨rfl, rfl, rfl, rfl, rfl, trivial⟩, ⟨s10, M2', M1', _, k + 1, rfl, hSt10, fun b hb => ?_, hle69.trans hle10, hax9.trans hax10, by omega⟩, Nat.lt_succ_self j⟩
          obtain ⟨jj, hjj, rfl⟩ := List.getElem_of_mem hb
          rw [List.getElem_set]
          split
          · simp
          · rename_i hne
            exact hful9 jj (by simpa using hjj) (fun e => hne e.symm)
      · refine CW.seq (CW.plain ?_)
        refine RL.pure rfl rfl rfl rfl ?_
        refine RL.pure rfl rfl rfl rfl ?_
        refine RL.look (u := .map (some mk)) rfl rfl rfl rfl Tryd.underlying70 Tryd.underlying3 rfl rfl (hO.le hle69) hStk.good.sh hmk ?_
        refine RL.field rfl rfl rfl rfl fl44_1 rfl rfl ?_
        refine RL.field rfl rfl rfl rfl fl42_2 rfl rfl ?_
        refine RL.load (j := 3) rfl rfl rfl rfl ty3 rfl (hR) (hStk.good.sh) rfl ?_
        refine RL.lookNo (u := .pointer none) rfl rfl rfl rfl Tryd.underlying69 Tryd.underlying3 (zero_run (by kernel_rfl)) rfl rfl hStk.mapk hStk.good.1 hto hno ?_
        refine RL.pure rfl rfl rfl rfl ?_
        refine RL.pure rfl rfl rfl rfl ?_
        refine RL.pure rfl rfl rfl rfl ?_
        refine RL.pure rfl rfl rfl rfl ?_
        refine RL.pure rfl rfl rfl rfl ?_
        refine RL.done ?_
        refine CW.seq (CW.seq (CW.plain ?_))
        refine RL.pure rfl rfl rfl rfl ?_
        refine RL.pure rfl rfl rfl rfl ?_
        refine RL.done ?_
        refine CW.yes rfl (CW.seq (CW.plain ?_))
        refine RL.build rfl rfl rfl rfl ze76 pl76 rfl rfl ?_
        refine RL.box rfl rfl rfl rfl rfl hStk.good ?_
        rintro pb w10 hg10 hax10
        refine ⟨trivial, ?_⟩
        refine RL.pure rfl rfl rfl rfl ?_
        refine RL.done ?_
        refine CW.plain ?_
        refine RL.pure rfl rfl rfl rfl ?_
        refine RL.pure rfl rfl rfl rfl ?_
        refine RL.look (u := .map (some mk)) rfl rfl rfl rfl Tryd.underlying70 Tryd.underlying3 rfl rfl (hO.le hle69) hg10.sh hmk ?_
        refine RL.field rfl rfl rfl rfl fl44_1 rfl rfl ?_
        refine RL.field rfl rfl rfl rfl fl42_2 rfl rfl ?_
        refine RL.load (j := 3) rfl rfl rfl rfl ty3 rfl (hR) (hg10.sh) rfl ?_
        refine RL.pure rfl rfl rfl rfl ?_
        refine RL.mapNew (i := 1) rfl rfl (.inl rfl) Tryd.underlying69 Tryd.underlying3 rfl rfl rfl hg10 rfl hStk.mapk hto hno ?_
        rintro Mk' w11 hg11 hax11 hmk' _
        refine ⟨trivial, ?_⟩
        refine RL.done ?_
        have hN : BObj s9 (Res.one pb (.cells #[i64 0, nilSl] 76)) pb 0 [] := ⟨none, 0, if_pos rfl, .inl ⟨rfl, rfl, rfl⟩⟩
        have hStn := hStk.new hne hno hg11 hmk' hN
        obtain ⟨bs9, i9, hi9, e19, e29, hp9, hSt9, hful9⟩ : ∃ bs9 : List Box, ∃ i9, ∃ hi9 : i9 < bs9.length, bs9[i9].to = x.msg.to ∧ bs9[i9].kind = kindOf x.msg ∧ bs9[i9].p = pb ∧ PSt s9 w11 os (l.take k) (kindOf x.msg) κ' mk mo Mk' Mo bs9 ∧ ∀ jj (h : jj < bs9.length), jj ≠ i9 → bs9[jj].ms ≠ [] := by
          refine ⟨_, bs.length, by simp, by simp, by simp, by simp, hStn, fun jj h hne => ?_⟩
          have hjb : jj < bs.length := by simp at h; omega
          rw [List.getElem_append_left hjb]
          exact hful6 _ (List.getElem_mem hjb)
        have hax11 := hax9.trans (hax10.trans hax11)
        clear hax10
        refine CW.less (E' := [(0, i64 frm), (9, .map (some bo)), (11, ptr r), (12, i64 (kindOf x.msg)), (13, ptr bs9[i9].p), (71, .slice la l.length lc), (72, i64 l.length), (73, i64 k)]) ⟨rfl, rfl, rfl, rfl, by rw [hp9]; rfl, rfl, rfl, rfl, trivial⟩ ?_
        have hms := hSt9.mine _ (List.getElem_mem hi9)
        have hml : bs9[i9].ms.length ≤ l.length := by
          rw [hms]; exact Nat.le_trans (List.length_filter_le _ _) (by rw [List.length_take]; omega)
        have hel : (encWs bs9[i9].ms).length ≤ bulkW (l.take k) := by
          rw [hms]; exact Nat.le_trans (encWs_length _) (bulkW_filter _ _)
        refine CW.plain ?_
        refine RL.pure rfl rfl rfl rfl ?_
        refine RL.pure rfl rfl rfl rfl ?_
        refine RL.loads (j := 0) (us := (wireV x y)) rfl rfl rfl rfl ty44 rfl (hR) (hSt9.good.sh) rfl rfl ?_
        refine RL.call rfl rfl rfl rfl rfl ca33 (put_ct (kind := kindOf x.msg) (hSt9.good.front (2 + i9) (PSt.get hi9)) (hSt9.obj _ (List.getElem_mem hi9)) hre9 (by omega) (by omega)) ?_
        rintro v10 s10 A10 w10 hle10 hg10 hax10 ⟨_, hB10⟩
        refine ⟨trivial, ?_⟩
        refine RL.done ?_
        obtain ⟨M2', M1', hSt10⟩ := hback _ _ _ _ _ (hSt9.put hi9 e19 e29 hle10 hg10 (by rw [encW_kind] at hB10; exact hB10))
        rw [htk] at hSt10
        refine CW.plain ?_
        refine RL.add rfl rfl rfl rfl rfl rfl (by simp only [rng] at *; omega) ?_
        refine RL.pure rfl rfl rfl rfl ?_
        refine RL.done ?_
        cases j with
        | zero => omega
        | succ j =>
          refine fun ac ha => ⟨j, [(0, i64 frm), (9, .map (some bo)), (71, .slice la l.length lc), (72, i64 l.length), (73, i64 ((k + 1 : Nat) : Int))], ha.sub ⟨rfl, rfl, rfl, rfl, rfl, trivial⟩, ⟨s10, M2', M1', _, k + 1, rfl, hSt10, fun b hb => ?_, hle69.trans hle10, hax11.trans hax10, by omega⟩, Nat.lt_succ_self j⟩
          obtain ⟨jj, hjj, rfl⟩ := List.getElem_of_mem hb
          rw [List.getElem_set]
          split
          · simp
          · rename_i hne
            exact hful9 jj (by simpa using hjj) (fun e => hne e.symm)
    · have hkl : k = l.length := by omega
      rw [hkl, List.take_length] at hSt6
      exact fun ac ha => ⟨[(0, i64 frm), (9, .map (some bo))], ha.sub ⟨rfl, rfl, trivial⟩, s6, M2, M1, bs, rfl, hSt6, hful6, hle6, hax6⟩
  rintro E w12 ⟨s12, M2, M1, bs, rfl, hSt, hful, hle12, hax12⟩
  have hO := hO.le hle12
  have hle := hle11.trans hle12
  have hmapk := hSt.mapk
  have hmapo := hSt.mapo
  have hgood : Good w12 s12 (Res.nil :: M2 :: M1 :: (bs.map (·.A) ++ os)) := hSt.good.nil
  refine CW.seq (CW.plain ?_)
  refine RL.pure rfl rfl rfl rfl ?_
  refine RL.done ?_
  refine CW.seq (CW.seq (CW.plain ?_))
  refine RL.pure rfl rfl rfl rfl ?_
  refine RL.done ?_
  refine CW.block (CW.loop (σ := Nat) (fun j E w' => ∃ s' O ao co, ∃ m : Nat, E = [(0, i64 frm), (9, .map (some bo)), (15, .slice ao (packUp frm l m).length co), (106, i64 m)] ∧ Good w' s' (O :: M2 :: M1 :: (bs.map (·.A) ++ os)) ∧ Le s12 s' ∧ Aux w w' ∧ Own RPacket 4 24 s' O ao co (packUp frm l m) ∧ m + j = 7)
    (fun j => j) 7 [(0, i64 frm), (9, .map (some bo)), (15, nilSl), (106, i64 0)] ⟨rfl, rfl, rfl, rfl, trivial⟩ ⟨s12, Res.nil, none, 0, 0, rfl, hgood, Le.refl _, hax12, .inl ⟨rfl, rfl, rfl⟩, rfl⟩ ?_)
  rintro j E w6 ⟨s6, O6, ao, co, m, rfl, hg6, hle6, hax6, ho6, hm⟩
  refine CW.seq (CW.plain ?_)
  refine RL.pure rfl rfl rfl rfl ?_
  refine RL.done ?_
  refine CW.seq (CW.test rfl (fun h => CW.skip ?_) (fun h => CW.exit ?_))
  · have hm7 : m < 7 := by omega
    refine CW.meet (fun E w' => ∃ s' O ao co, E = [(0, i64 frm), (9, .map (some bo)), (15, .slice ao (packUp frm l (m + 1)).length co), (106, i64 m)] ∧ Good w' s' (O :: M2 :: M1 :: (bs.map (·.A) ++ os)) ∧ Le s6 s' ∧ Aux w w' ∧ Own RPacket 4 24 s' O ao co (packUp frm l (m + 1))) ?_ ?_
    · refine CW.block (CW.seq (CW.plain ?_))
      refine RL.pure rfl rfl rfl rfl ?_
      refine RL.pure rfl rfl rfl rfl ?_
      refine RL.done ?_
      refine CW.seq (CW.plain ?_)
      refine RL.buildSlice rfl rfl rfl rfl sl38 ze3 rfl rfl rfl rfl hg6 ?_
      rintro kb w7 hg7 hax7
      refine ⟨trivial, ?_⟩
      refine RL.len rfl rfl rfl rfl sl38 rfl ?_
      refine RL.pure rfl rfl rfl rfl ?_
      refine RL.done ?_
      obtain ⟨s8, hg8, hle8, hq8⟩ := Good.letgo hg7
      have hK : Imm (RInt .i64) 1 s8 (some ⟨kb, 0, none⟩) 2 [2, 1] := ⟨by decide, by decide, .inr ⟨_, rfl, _, (Holds.of (if_pos rfl)).le hq8, ints_chunks (k := .i64) (xs := [2, 1]) (by simp [rng])⟩⟩
      have ho8 := ho6.up RPacket.up hle8
      rw [← outs_zero] at ho8 ⊢
      refine CW.block (CW.loop (σ := Nat) (fun i E w' => ∃ s' O ao co, ∃ q : Nat, E = [(0, i64 frm), (9, .map (some bo)), (15, .slice ao (outs frm l m q).length co), (16, i64 m), (106, i64 m), (109, .slice (some ⟨kb, 0, none⟩) 2 2), (110, i64 2), (111, i64 q)] ∧ Good w' s' (O :: M2 :: M1 :: (bs.map (·.A) ++ os)) ∧ Le s8 s' ∧ Aux w w' ∧ Own RPacket 4 24 s' O ao co (outs frm l m q) ∧ q + i = 2)
        (fun i => i) 2 [(0, i64 frm), (9, .map (some bo)), (15, .slice ao (outs frm l m 0).length co), (16, i64 m), (106, i64 m), (109, .slice (some ⟨kb, 0, none⟩) 2 2), (110, i64 2), (111, i64 0)] ⟨rfl, rfl, rfl, rfl, rfl, rfl, rfl, rfl, trivial⟩ ⟨s8, O6, ao, co, 0, rfl, hg8, Le.refl _, hax6.trans hax7, ho8, rfl⟩ ?_)
      clear hg7 hg8 ho8
      rintro i E w9 ⟨s9, O9, a9, c9, q, rfl, hg9, hle9, hax9, ho9, hq⟩
      refine CW.seq (CW.plain ?_)
      refine RL.pure rfl rfl rfl rfl ?_
      refine RL.done ?_
      refine CW.seq (CW.test rfl (fun h => CW.skip ?_) (fun h => CW.exit ?_))
      · have hq2 : q < 2 := by omega
        have hol := outs_le frm l m q
        have hle129 := hle6.trans (hle8.trans hle9)
        obtain ⟨κ, mk, Mk, hκ, hmem, hMk, hMM, hstep, hκr⟩ : ∃ κ mk Mk, ([2, 1] : List Int)[((q : Nat) : Int).toNat]'(by simp; omega) = κ ∧ (κ, Value.map (some mk)) ∈ outer m2 m1 ∧ MapAt Mk mk (ent bs κ) ∧ (Mk = M2 ∨ Mk = M1) ∧ outs frm l m q ++ packTo frm l ((m : Int) + 1) κ = outs frm l m (q + 1) ∧ rng .i64 κ := by
          rcases (show q = 0 ∨ q = 1 by omega) with rfl | rfl
          · exact ⟨2, m2, M2, rfl, by simp, hmapk, .inl rfl, by simp [outs], by simp [rng]⟩
          · exact ⟨1, m1, M1, rfl, by simp, hmapo, .inr rfl, by simp [outs], by simp [rng]⟩
        have hin9 : In Mk w9 := hg9.mem (by rcases hMM with rfl | rfl <;> simp)
        refine CW.meet (fun E w' => ∃ s' O ao co, E = [(0, i64 frm), (9, .map (some bo)), (15, .slice ao (outs frm l m (q + 1)).length co), (16, i64 m), (106, i64 m), (109, .slice (some ⟨kb, 0, none⟩) 2 2), (110, i64 2), (111, i64 q)] ∧ Good w' s' (O :: M2 :: M1 :: (bs.map (·.A) ++ os)) ∧ Le s9 s' ∧ Aux w w' ∧ Own RPacket 4 24 s' O ao co (outs frm l m (q + 1))) ?_ ?_
        · refine CW.block (CW.seq (CW.plain ?_))
          refine RL.idx rfl rfl rfl rfl sl38 rfl rfl (hK.up (RInt.up _) hle9) (by omega) ((by simp; omega)) ?_
          rintro qe vse hvle hHe ⟨rfl, hr⟩
          rw [hκ] at hHe
          refine RL.load (j := 0) rfl rfl rfl rfl ty3 rfl (hHe) (hg9.sh) rfl ?_
          refine RL.pure rfl rfl rfl rfl ?_
          refine RL.done ?_
          rcases ent_find bs κ ((m : Int) + 1) with ⟨i9, hi9, e19, e29, hmm⟩ | hno
          · have hms := hSt.mine _ (List.getElem_mem hi9)
            rw [e19, e29] at hms
            have hne : l.filter (mine ((m : Int) + 1) κ) ≠ [] := hms ▸ hful _ (List.getElem_mem hi9)
            have hpt : packTo frm l ((m : Int) + 1) κ = [⟨frm, (m : Int) + 1, κ, encU bs[i9].ms.length ++ encWs bs[i9].ms⟩] := by rw [packTo, if_neg hne, ← hms]
            have hml : bs[i9].ms.length ≤ l.length := by rw [hms]; exact List.length_filter_le _ _
            have hel : (encWs bs[i9].ms).length ≤ bulkW l := by rw [hms]; exact Nat.le_trans (encWs_length _) (bulkW_filter _ _)
            have hget := get3 (bs := bs) (O := O9) (Mk := M2) (Mo := M1) (os := os) hi9
            refine CW.seq (CW.plain ?_)
            refine RL.pure rfl rfl rfl rfl ?_
            refine RL.pure rfl rfl rfl rfl ?_
            refine RL.look (u := .map (some mk)) rfl rfl rfl rfl Tryd.underlying70 Tryd.underlying3 rfl rfl (hO.le hle129) hg9.sh hmem ?_
            refine RL.pure rfl rfl rfl rfl ?_
            refine RL.add rfl rfl rfl rfl rfl rfl (by simp only [rng] at *; omega) ?_
            refine RL.look (u := ptr bs[i9].p) rfl rfl rfl rfl Tryd.underlying69 Tryd.underlying3 rfl rfl hMk hin9 hmm ?_
            refine RL.pure rfl rfl rfl rfl ?_
            refine RL.pure rfl rfl rfl rfl ?_
            refine RL.pure rfl rfl rfl rfl ?_
            refine RL.pure rfl rfl rfl rfl ?_
            refine RL.pure rfl rfl rfl rfl ?_
            refine RL.done ?_
            refine CW.seq (CW.plain ?_)
            refine RL.pure rfl rfl rfl rfl ?_
            refine RL.done ?_
            refine CW.yes rfl (CW.plain ?_)
            refine RL.pure rfl rfl rfl rfl ?_
            refine RL.pure rfl rfl rfl rfl ?_
            refine RL.pure rfl rfl rfl rfl ?_
            refine RL.add rfl rfl rfl rfl rfl rfl (by simp only [rng] at *; omega) ?_
            refine RL.pure rfl rfl rfl rfl ?_
            refine RL.pure rfl rfl rfl rfl ?_
            refine RL.call rfl rfl rfl rfl rfl ca34 (bytes_ct (hg9.front (3 + i9) hget) ((hSt.obj _ (List.getElem_mem hi9)).up hle129) (by omega) (by omega)) ?_
            rintro v10 s10 B10 w10 hle10 hg10 hax10 ⟨ab, cb, rfl, hB⟩
            refine ⟨trivial, ?_⟩
            refine RL.build rfl rfl rfl rfl ze24 pl24 rfl rfl ?_
            obtain ⟨s11', hg11, hle11', hq11⟩ := Good.letgo hg10
            have him := hB.imm (RInt.up _) hle11' hq11
            have hgz : Good w10 s11' (O9 :: M2 :: M1 :: (bs.map (·.A) ++ os)) := Good.perm (perm_pick (3 + i9) _ _ hget).symm hg11
            refine RL.buildSlice rfl rfl rfl rfl sl46 ze24 rfl rfl rfl rfl hgz ?_
            rintro b13 w13 hg13 hax13
            refine ⟨trivial, ?_⟩
            refine RL.append (i := 1) (ys := [⟨frm, (m : Int) + 1, κ, encU bs[i9].ms.length ++ encWs bs[i9].ms⟩]) rfl rfl rfl rfl sl46 ze24 rfl (by first | exact RInt.one _ | exact RStr.one | exact RBool.one | assumption) rfl rfl hg13 rfl ((ho9.up RPacket.up hle10).up RPacket.up hle11') ((Src.slice sl46 rfl (.inr ⟨_, rfl, Holds.one b13 _ 24⟩) hg13.1)) ((Chunks.single rfl ⟨ab, cb, rfl, hfr, by simp only [rng]; omega, hκr, him⟩)) ((by simp; omega)) (by omega) ?_
            rintro a14 c14 A14 w14 hg14 ho14 hax14 hk14
            refine ⟨trivial, ?_⟩
            refine RL.pure rfl rfl rfl rfl ?_
            refine RL.done ?_
            rw [← hpt, hstep] at ho14 ⊢
            exact fun ac ha => ⟨[(0, i64 frm), (9, .map (some bo)), (15, .slice a14 (outs frm l m (q + 1)).length c14), (16, i64 m), (106, i64 m), (109, .slice (some ⟨kb, 0, none⟩) 2 2), (110, i64 2), (111, i64 q)], ha.sub ⟨rfl, rfl, rfl, rfl, rfl, rfl, rfl, rfl, trivial⟩, s11', A14, a14, c14, rfl, hg14.drop, hle10.trans hle11', hax9.trans (hax10.trans (hax13.trans hax14)), ho14⟩
          · have hpt : packTo frm l ((m : Int) + 1) κ = [] := by rw [packTo, if_pos (ent_none hSt.all hno)]
            refine CW.seq (CW.plain ?_)
            refine RL.pure rfl rfl rfl rfl ?_
            refine RL.pure rfl rfl rfl rfl ?_
            refine RL.look (u := .map (some mk)) rfl rfl rfl rfl Tryd.underlying70 Tryd.underlying3 rfl rfl (hO.le hle129) hg9.sh hmem ?_
            refine RL.pure rfl rfl rfl rfl ?_
            refine RL.add rfl rfl rfl rfl rfl rfl (by simp only [rng] at *; omega) ?_
            refine RL.lookNo (u := .pointer none) rfl rfl rfl rfl Tryd.underlying69 Tryd.underlying3 (zero_run (by kernel_rfl)) rfl rfl hMk hin9 (by simp only [rng]; omega) hno ?_
            refine RL.pure rfl rfl rfl rfl ?_
            refine RL.pure rfl rfl rfl rfl ?_
            refine RL.pure rfl rfl rfl rfl ?_
            refine RL.pure rfl rfl rfl rfl ?_
            refine RL.pure rfl rfl rfl rfl ?_
            refine RL.done ?_
            refine CW.seq (CW.plain ?_)
            refine RL.pure rfl rfl rfl rfl ?_
            refine RL.done ?_
            refine CW.no rfl (CW.skip ?_)
            rw [hpt, List.append_nil] at hstep
            rw [← hstep]
            exact fun ac ha => ⟨[(0, i64 frm), (9, .map (some bo)), (15, .slice a9 (outs frm l m q).length c9), (16, i64 m), (106, i64 m), (109, .slice (some ⟨kb, 0, none⟩) 2 2), (110, i64 2), (111, i64 q)], ha.sub ⟨rfl, rfl, rfl, rfl, rfl, rfl, rfl, rfl, trivial⟩, s9, O9, a9, c9, rfl, hg9, Le.refl _, hax9, ho9⟩
        rintro E w15 ⟨s15, O15, a15, c15, rfl, hg15, hle15, hax15, ho15⟩
        refine CW.plain ?_
        refine RL.add rfl rfl rfl rfl rfl rfl (by simp only [rng] at *; omega) ?_
        refine RL.pure rfl rfl rfl rfl ?_
        refine RL.done ?_
        cases i with
        | zero => omega
        | succ i => exact fun ac ha => ⟨i, [(0, i64 frm), (9, .map (some bo)), (15, .slice a15 (outs frm l m (q + 1)).length c15), (16, i64 m), (106, i64 m), (109, .slice (some ⟨kb, 0, none⟩) 2 2), (110, i64 2), (111, i64 ((q + 1 : Nat) : Int))], ha.sub ⟨rfl, rfl, rfl, rfl, rfl, rfl, rfl, rfl, trivial⟩, ⟨s15, O15, a15, c15, q + 1, rfl, hg15, hle9.trans hle15, hax15, ho15, by omega⟩, Nat.lt_succ_self i⟩
      · have hq2 : q = 2 := by omega
        rw [hq2, outs_two] at ho9 ⊢
        exact fun ac ha => ⟨[(0, i64 frm), (9, .map (some bo)), (15, .slice a9 (packUp frm l (m + 1)).length c9), (106, i64 m)], ha.sub ⟨rfl, rfl, rfl, rfl, trivial⟩, s9, O9, a9, c9, rfl, hg9, hle8.trans hle9, hax9, ho9⟩
    rintro E w20 ⟨s20, O20, ao20, co20, rfl, hg20, hle20, hax20, ho20⟩
    refine CW.plain ?_
    refine RL.add rfl rfl rfl rfl rfl rfl (by simp only [rng] at *; omega) ?_
    refine RL.pure rfl rfl rfl rfl ?_
    refine RL.done ?_
    cases j with
    | zero => omega
    | succ j => exact fun ac ha => ⟨j, [(0, i64 frm), (9, .map (some bo)), (15, .slice ao20 (packUp frm l (m + 1)).length co20), (106, i64 ((m + 1 : Nat) : Int))], ha.sub ⟨rfl, rfl, rfl, rfl, trivial⟩, ⟨s20, O20, ao20, co20, m + 1, rfl, hg20, hle6.trans hle20, hax20, ho20, by omega⟩, Nat.lt_succ_self j⟩
  · have hm7 : m = 7 := by omega
    rw [hm7] at ho6 ⊢
    refine CW.seq (CW.plain ?_)
    refine RL.pure rfl rfl rfl rfl ?_
    refine RL.pure rfl rfl rfl rfl ?_
    refine RL.pure rfl rfl rfl rfl ?_
    refine RL.done ?_
    exact CW.ret (ret (vs := [_, _]) ⟨_, _, rfl, rfl, _, _, rfl, rfl, rfl⟩ (Post.mk (hle.trans hle6) (good_mid (X := M2 :: M1 :: bs.map (·.A)) hg6) hax6 ⟨ao, co, rfl, ho6⟩))
end Go.Lw
