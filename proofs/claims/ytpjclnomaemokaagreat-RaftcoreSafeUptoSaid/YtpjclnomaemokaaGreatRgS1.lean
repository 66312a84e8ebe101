/-
  Parts of the proof of RaftcoreSafeUptoSaid: Facts, KeO, KfK, KfL, KfN.
-/
import Derived.Test.YtpjclnomaemokaaGreatRgA6
import Derived.Test.YtpjclnomaemokaaGreatProg
set_option maxRecDepth 100000
set_option maxHeartbeats 16000000
set_option linter.all false
namespace Go.Lw
open Go.Proofs
instance ca17:Ca Tryz.prog 17:=⟨by kernel_rfl⟩
instance ca43:Ca Tryz.prog 43:=⟨by kernel_rfl⟩
end Go.Lw
namespace Go.Lw.Safe
section
variable {n c:Nat} {c0:Conf} {g:G} {w:Wd}
theorem CutAt.seek {F:List Entry} {L:Log} {b:Nat} (h:CutAt c0 F L b) (hi:Idx F) {x:Int} (hx:(seekP L x).2=true):∃ k:Nat,x=1+k∧b≤k∧k≤F.length∧(seekP L x).1=tAt F k:=by
 unfold seekP at hx ⊢
 split at hx
 ·
  rename_i he
  rw[if_pos he]
  exact⟨b,by have:=h.index;omega,Nat.le_refl _,h.le,h.term⟩
 ·
  rename_i he
  rw[if_neg he]
  split at hx
  ·
   rename_i e hf
   obtain⟨q,hq,hqe⟩:=List.getElem_of_mem (List.mem_of_find?_eq_some hf)
   have hF:=h.get.1 (List.getElem?_eq_getElem hq)
   rw[hqe] at hF
   have hei:e.index=x:=of_decide_eq_true (List.find?_some (p:=fun e:Entry=>decide (e.index=x)) hf)
   have hix:=hi _ _ hF
   refine⟨b+q+1,by omega,by omega,by have:=get_lt hF;omega,?_⟩
   show e.term=tAt F (b+q+1)
   unfold tAt
   rw[if_neg (by omega),show b+q+1-1=b+q by omega,hF];rfl
  ·
   cases hx
theorem logs_match (hI:Inv c0 g) {i j:Int} {r q:Raft} (hr:NInv c0 g i r) (hq:NInv c0 g j q) {p:Nat} {e:Entry} (he:r.log.entries[p]?=some e) (hs:seekP q.log e.index=(e.term,true)) {p':Nat} (hp:p'≤p) {x y:Entry} (hx:r.log.entries[p']?=some x) (hy:y∈q.log.entries) (hxy:y.index=x.index):y=x:=by
 rcases hr.log with ⟨h1,-⟩ | ⟨b,κ,h1,-⟩
 ·
  rw[h1.2.2.2] at he;cases he
 rcases hq.log with ⟨k1,-⟩ | ⟨b',κ',k1,-⟩
 ·
  rw[k1.2.2.2] at hy;cases hy
 have heF:=h1.get.1 he
 have hxF:=h1.get.1 hx
 obtain⟨k,a1,a2,a3,a4⟩:=k1.seek hq.idx (x:=e.index) (by rw[hs])
 have hei:=hr.idx _ _ heF
 have hxi:=hr.idx _ _ hxF
 have hk:k=b+p+1:=by omega
 subst hk
 rw[hs] at a4
 have hm:=hI.match_ hr.sits hq.sits (k:=b+p+1) (by have:=get_lt heF;omega) a3 (by
  rw[←a4]
  unfold tAt
  rw[if_neg (by omega),show b+p+1-1=b+p by omega,heF];rfl)
 obtain⟨z,hz,hze⟩:=List.getElem_of_mem hy
 have hyF:=k1.get.1 (List.getElem?_eq_getElem hz)
 rw[hze] at hyF
 have hyi:=hq.idx _ _ hyF
 have hpos:b'+z=b+p':=by omega
 rw[hpos] at hyF
 have e1:=get_take hxF (show b+p'<b+p+1 by omega)
 have e2:=get_take hyF (show b+p'<b+p+1 by omega)
 rw[hm] at e1
 rw[e1] at e2
 exact (Option.some.inj e2).symm
end
end Go.Lw.Safe
namespace Go.Lw
open Go.Proofs
attribute [local irreducible] RL RA
theorem Fnd.here {l:List Entry} {i:Int} {k:Nat} (h:Fnd l i k []) (hk:k<l.length) (hi:l[k].index≥i):Fnd l i (k+1) [l[k]]:=⟨Nat.le_refl _,fun z=>(by cases z),fun y hy=>by
 rw[List.mem_singleton.1 hy]
 exact⟨k,List.getElem?_eq_getElem hk,hi,h.2.1 rfl⟩⟩
section
variable {w:World} {s r:Res} {os:List Res}
theorem RefSlice_ct {l:Log} {h:Hd} {i:Int} (hg:Good w s os) (hl:LogAt s s l h) (hS:l.small) (hla:0≤(lastP l).1∧(lastP l).1≤1073741824) :
  Calls Tryz.prog 43 #[logA l h,u64 i,i64 1] w (Post w s os fun s' _ q=>∃ ys a c e,q = .tuple #[.slice a ys.length c,i64 e]∧Imm REntry 6 s' a c ys∧ys.length≤1∧(ys≠[]→l.base.index<i)∧∀ y∈ys,First l.entries i y):=by
 have hlen:=hS.2.2.2
 have hl0:=hl
 refine enter (l:=[logA l h,u64 i,i64 1]) Tryz.func43 rfl Tryz.ntmps43 rfl ?_
 refine go 3 ?_
 rintro b1 w1 Q1 (hg1:Good _ s (Q1::os)) hax1 hb1
 refine go 8 ?_
 refine zw (RefLast_ct hg1 hl) ?_
 rintro v2 w2 (hg2:Good _ s (Q1::os)) hax2 rfl
 refine go 16 ?_
 refine RL.part 22 rfl (fun h22=>?_) (fun h22=>?_)
 ·
  refine go 12 ?_
  refine CW.ret (zr2 ?_)
  exact Post.mq (hg2.drop).nil ⟨[],none,0,61,rfl,Imm.nil _ _ _ (Nat.zero_le _),Nat.zero_le _,fun z=>absurd rfl z,fun y hy=>(by cases hy)⟩
 ·
  refine go 6 ?_
  refine CW.cond rfl (fun h27=>?_) (fun h27=>?_)
  ·
   refine go 5 ?_
   refine CW.ret (zr2 ?_)
   exact Post.mq (hg2.drop).nil ⟨[],none,0,61,rfl,Imm.nil _ _ _ (Nat.zero_le _),Nat.zero_le _,fun z=>absurd rfl z,fun y hy=>(by cases hy)⟩
  ·
   have hbi:l.base.index<i:=by have h9:¬ (i≤l.base.index):=decide_f h22;omega
   refine go 11 ?_
   refine CW.loop (σ:=Nat) (fun j E w'=>∃ s' A' a' c' ys,∃ k:Nat,Good w' s' (A'::Q1::os)∧Aux w w'∧Le s s'∧E=[(1,u64 i),(2,i64 1),(3,ptr b1),(10,.slice a' ys.length c'),(11,i64 k)]∧k+j=l.entries.length∧Own REntry 6 65 s' A' a' c' ys∧Fnd l.entries i k ys) (fun j=>j) l.entries.length [(1,u64 i),(2,i64 1),(3,ptr b1),(10,.slice none 0 0),(11,i64 0)] ⟨rfl,rfl,rfl,rfl,rfl,trivial⟩ ⟨s,Res.nil,none,0,[],0,hg2.nil,(hax1.trans hax2),(Le.refl _),rfl,by omega,Own.nil _ _ _ _ _,Fnd.none _ _⟩ ?_
   rintro j E wL ⟨sL,AL,aL,cL,ys,k,hgL,haxL,hleL,rfl,hk,hoR,hFd⟩
   have hl:=(hl.up hleL).mem hleL
   refine go 9 ?_
   refine RL.part 33 rfl (fun h33=>?_) (fun h33=>?_)
   ·
    refine go 6 ?_
    refine CW.cond rfl (fun h38=>?_) (fun h38=>?_)
    ·
     have hlt:k<l.entries.length:=by have h9:(k:Int)<(l.entries.length:Int):=decide_t h33;omega
     have hys:ys=[]:=by have h9:(ys.length:Int)<1:=decide_t h38;exact List.eq_nil_of_length_eq_zero (by omega)
     subst hys
     refine go 8 ?_
     refine RL.idxL rfl rfl rfl rfl sl31.out rfl rfl hl.entries (by omega) (by omega) ?_
     rintro q vs hvl hH ⟨ea,ec,ea1,ec1,ea2,ec2,rfl,er1,er2,er3,eh1,eh2,eh3⟩
     refine go 1 ?_
     refine RL.load (j:=0) rfl rfl rfl rfl ty22.out rfl (hH) (hgL.sh) rfl ?_
     refine go 3 ?_
     refine CW.cond rfl (fun h48=>?_) (fun h48=>?_)
     ·
      refine go 5 ?_
      refine RL.idxL rfl rfl rfl rfl sl31.out rfl rfl hl.entries (by omega) (by omega) ?_
      rintro q2 vs2 hvl2 hH2 hE2
      have hE2':=hE2
      obtain⟨fa,fc,fa1,fc1,fa2,fc2,rfl,fr1,fr2,fr3,fh1,fh2,fh3⟩:=hE2'
      refine RL.loads (j:=0) (us:=_) rfl rfl rfl rfl ty65.out rfl (hH2) (hgL.sh) rfl rfl ?_
      refine go 1 ?_
      refine zc (RefClone_ct hgL hE2 (hS.2.2.1 _ (List.getElem_mem _))) ?_
      rintro v3 s3 B3 w3 hle3 (hg3:Good _ s3 (B3::AL::Q1::os)) hax3 ⟨us,rfl,hU⟩
      have hg3:=hg3.drop
      have hoR:=hoR.up REntry.up hle3
      obtain⟨ua,uc,ua1,uc1,ua2,uc2,rfl,hU2⟩:=hU
      refine go 2 ?_
      rintro b4 w4 Q4 (hg4:Good _ s3 (Q4::AL::Q1::os)) hax4 hb4
      refine go 1 ?_
      obtain⟨news5,hsrc5,hch5⟩:=(one_news (R:=REntry) (xs:=[l.entries[k]]) sl31.out hb4 (hg4.mem (by simp)) (Chunks.single rfl ⟨_,_,_,_,_,_,rfl,hU2⟩))
      refine RL.append2 (i:=1) (xs:=[]) (ys:=[l.entries[k]]) rfl rfl rfl rfl sl31.out ze65.out rfl REntry.one (rfl) rfl hg4 rfl (hoR) hsrc5 hch5 ((by simp only[List.length_singleton,List.length_nil];omega)) (by omega) ?_
      rintro a5 c5 A5 w5 (hg5:Good _ s3 (Q4::A5::Q1::os)) ho5 hax5 hk5 hn5
      have hoN:=ho5
      refine go 8 ?_
      cases j with
      | zero=>omega
      | succ j=>exact fun ac ha=>⟨j,[(1,u64 i),(2,i64 1),(3,ptr b1),(10,.slice _ ([l.entries[k]]:List Entry).length _),(11,i64 ((k:Int)+1))],ha.sub ⟨rfl,rfl,rfl,rfl,rfl,trivial⟩,⟨_,_,_,_,_,k+1,(((hg5.front 2 rfl).front 2 rfl).dropAt 2),(haxL.trans (hax3.trans (hax4.trans hax5))),(hleL.trans hle3),rfl,by omega,hoN,hFd.here hlt (decide_t h48)⟩,Nat.lt_succ_self j⟩
     ·
      refine go 6 ?_
      cases j with
      | zero=>omega
      | succ j=>exact fun ac ha=>⟨j,[(1,u64 i),(2,i64 1),(3,ptr b1),(10,.slice aL ([]:List Entry).length cL),(11,i64 ((k:Int)+1))],ha.sub ⟨rfl,rfl,rfl,rfl,rfl,trivial⟩,⟨_,_,_,_,_,k+1,((hgL.front 1 rfl).front 1 rfl),haxL,hleL,rfl,by omega,hoR,hFd.over hlt (decide_f h48)⟩,Nat.lt_succ_self j⟩
    ·
     refine go 7 ?_
     refine CW.ret (zr2 ?_)
     obtain⟨s1,hs1,hl1,hm1⟩:=hgL.letgo
     exact Post.mk (hleL.trans hl1) hs1.drop.nil haxL ⟨ys,aL,cL,0,rfl,hoR.imm REntry.up hl1 hm1,hFd.1,fun _=>hbi,hFd.2.2⟩
   ·
    refine go 14 ?_
    refine CW.ret (zr2 ?_)
    obtain⟨s1,hs1,hl1,hm1⟩:=hgL.letgo
    exact Post.mk (hleL.trans hl1) hs1.drop.nil haxL ⟨ys,aL,cL,0,rfl,hoR.imm REntry.up hl1 hm1,hFd.1,fun _=>hbi,hFd.2.2⟩
end
end Go.Lw
namespace Go.Lw
open Go.Proofs
open Safe (Wd WInv MInv G takenT)
attribute [local irreducible] RL RA
theorem first_index {c:Nat} {l:Log} (h:LFit c l) (hc:c≤1073741824) {i:Int} {y:Entry} (hF:First l.entries i y) (hb:l.base.index<i):y∈l.entries∧y.index=i:=by
 obtain⟨k,hk,hi,hb4⟩:=hF
 have hr:=h.run k y hk
 have hl:=h.low
 have hx:=h.index
 have hkl:=(List.getElem?_eq_some_iff.1 hk).1
 have hcn:=h.count
 simp only[p61,rng] at hl hx
 rw[wrap_id (by omega) (by omega)] at hr
 refine⟨List.mem_of_getElem? hk,?_⟩
 cases k with
 | zero=>omega
 | succ k =>
  have h1:=List.getElem?_eq_getElem (l:=l.entries) (i:=k) (by omega)
  have h2:=hb4 k _ (Nat.lt_succ_self k) h1
  have h3:=h.run k _ h1
  rw[wrap_id (by omega) (by omega)] at h3
  omega
theorem last_range {n c:Nat} {c0:Conf} {g:G} {i:Int} {r:Raft} (h:Safe.NodeOk c0 g n i r) (hs:∀ t,(g.hist t).length≤c) (hc:c≤1000):0≤(lastP r.log).1∧(lastP r.log).1≤1073741824:=by
 have h1:=Safe.NodeOk.last_le h.inv hs
 have h2:=h.sound.low
 have h3:=h.sound.high
 have h4:=h.fit.log.index
 simp only[rng] at h4
 omega
section
variable {w:World} {s:Res} {os:List Res}
theorem matches_ct {n c:Nat} {c0:Conf} {g:G} {P:WP} {p:Nat} {W:Wd} {a:WA} (hg:Good w s (P.os++os)) (hw:WAt s P p W a) (hW:WInv n c0 g c W) (hc:c≤1000) :
  Calls Tryz.prog 17 #[ptr p] w (WPost w s os p (.bool true) W):=by
 have hsl:=hW.len
 have hs7:=hW.seven
 have hc0:=hw.cells
 refine enter (l:=[ptr p]) Tryz.func17 rfl Tryz.ntmps17 rfl ?_
 refine go 10 ?_
 refine CW.loop (σ:=Nat) (fun j E w'=>∃ s',∃ k:Nat,Good w' s' (P.W::P.S::P.K::P.B::P.L::P.T::P.D::P.X::(P.E++os))∧Aux w w'∧Le s s'∧E=[(0,ptr p),(3,i64 k)]∧k+j=W.s.length) (fun j=>j) W.s.length [(0,ptr p),(3,i64 0)] ⟨rfl,rfl,trivial⟩ ⟨s,0,((((((((hg.front 7 rfl).front 7 rfl).front 7 rfl).front 7 rfl).front 7 rfl).front 7 rfl).front 7 rfl).front 7 rfl),(Aux.refl _),(Le.refl _),rfl,by omega⟩ ?_
 rintro j E wL ⟨sL,k,hgL,haxL,hleL,rfl,hk⟩
 have hw0:=hw.up hleL
 refine go 11 ?_
 refine CW.cond rfl (fun h19=>?_) (fun h19=>?_)
 ·
  have h9:(k:Int)<(W.s.length:Int):=decide_t h19
  have hlt:k<W.s.length:=by omega
  refine go 8 ?_
  refine CW.loop (σ:=Nat) (fun j E w'=>∃ s',∃ m:Nat,Good w' s' (P.W::P.S::P.K::P.B::P.L::P.T::P.D::P.X::(P.E++os))∧Aux w w'∧Le s s'∧E=[(0,ptr p),(3,i64 k),(4,i64 m)]∧m+j=k) (fun j=>j) k [(0,ptr p),(3,i64 k),(4,i64 0)] ⟨rfl,rfl,rfl,trivial⟩ ⟨_,0,((((((((hgL.front 7 rfl).front 7 rfl).front 7 rfl).front 7 rfl).front 7 rfl).front 7 rfl).front 7 rfl).front 7 rfl),haxL,hleL,rfl,by omega⟩ ?_
  rintro j1 E wM ⟨sM,m,hgM,haxM,hleM,rfl,hm⟩
  have hw1:=hw.up hleM
  refine go 7 ?_
  refine CW.cond rfl (fun h24=>?_) (fun h24=>?_)
  ·
   have h10:(m:Int)<(k:Int):=decide_t h24
   have hlm:m<W.s.length:=by omega
   have hNk:=hW.node k _ (List.getElem?_eq_getElem hlt)
   have hNm:=hW.node m _ (List.getElem?_eq_getElem hlm)
   have hck:=hNk.fit.log.count
   refine go 10 ?_
   refine RL.idxL rfl rfl rfl rfl sl81.out rfl rfl hw1.S.lies (by omega) (by omega) ?_
   rintro q vs hvl hH ⟨hh,rfl,hRA⟩
   have hRA:RaftAt sM W.s[k] hh:=hRA
   have hH:Holds P.S q (raftV W.s[k] hh):=hH
   refine go 1 ?_
   refine RL.loads (j:=4) (us:=(logV W.s[k].log hh)) rfl rfl rfl rfl ty33.out rfl (hH) (hgM.mem (by simp)) rfl rfl ?_
   refine go 1 ?_
   rintro b1 w1 Q1 (hg1:Good _ sM (Q1::P.W::P.S::P.K::P.B::P.L::P.T::P.D::P.X::(P.E++os))) hax1 hb1
   refine go 2 ?_
   rintro w2 Q2 (hg2:Good _ sM (Q2::P.W::P.S::P.K::P.B::P.L::P.T::P.D::P.X::(P.E++os))) hax2 hb2
   refine go 9 ?_
   refine RL.idxL rfl rfl rfl rfl sl81.out rfl rfl hw1.S.lies (by omega) (by omega) ?_
   rintro q2 vs2 hvl2 hH2 ⟨hh2,rfl,hRA2⟩
   have hRA2:RaftAt sM W.s[m] hh2:=hRA2
   have hH2:Holds P.S q2 (raftV W.s[m] hh2):=hH2
   refine go 1 ?_
   refine RL.loads (j:=4) (us:=(logV W.s[m].log hh2)) rfl rfl rfl rfl ty33.out rfl (hH2) (hg2.mem (by simp)) rfl rfl ?_
   refine go 1 ?_
   rintro b3 w3 Q3 (hg3:Good _ sM (Q3::Q2::P.W::P.S::P.K::P.B::P.L::P.T::P.D::P.X::(P.E++os))) hax3 hb3
   refine go 2 ?_
   rintro w4 Q4 (hg4:Good _ sM (Q4::Q2::P.W::P.S::P.K::P.B::P.L::P.T::P.D::P.X::(P.E++os))) hax4 hb4
   refine go 11 ?_
   have hc5:=hb2
   have hc6:=hb4
   refine CW.loop (σ:=Nat) (fun j E w'=>∃ s',∃ v:Int,Good w' s' (Q4::Q2::P.W::P.S::P.K::P.B::P.L::P.T::P.D::P.X::(P.E++os))∧Aux w w'∧Le s s'∧Le sM s'∧E=[(0,ptr p),(3,i64 k),(4,i64 m),(5,ptr b1),(6,ptr b3),(7,i64 v)]∧v+1=j∧v<W.s[k].log.entries.length) (fun j=>j) W.s[k].log.entries.length [(0,ptr p),(3,i64 k),(4,i64 m),(5,ptr b1),(6,ptr b3),(7,i64 ((W.s[k].log.entries.length:Int)-1))] ⟨rfl,rfl,rfl,rfl,rfl,rfl,trivial⟩ ⟨_,_,((((((((((hg4.front 9 rfl).front 9 rfl).front 9 rfl).front 9 rfl).front 9 rfl).front 9 rfl).front 9 rfl).front 9 rfl).front 9 rfl).front 9 rfl),(haxM.trans (hax1.trans (hax2.trans (hax3.trans hax4)))),hleM,Le.refl _,rfl,by omega,by omega⟩ ?_
   rintro j2 E wN ⟨sN,v,hgN,haxN,hleN,hleX,rfl,hv1,hv2⟩
   have hRA:=hRA.up hleX
   have hRA2:=hRA2.up hleX
   refine go 6 ?_
   refine CW.cond rfl (fun h48=>?_) (fun h48=>?_)
   ·
    have h11:v≥0:=decide_t h48
    obtain⟨u,rfl⟩:∃ u:Nat,v=u:=⟨v.toNat,by omega⟩
    have hlu:u<W.s[k].log.entries.length:=by omega
    refine go 4 ?_
    have hg5:=hgN.drew
    refine CW.draws [(true,0),(true,1),(true,2),(true,3),(true,4),(true,5),(true,6),(false,7),(true,8),(true,9),(true,10),(false,11),(false,12)] (fun w=>At1 b3 _ w∧At1 b1 _ w∧In sN w∧True) mixed (by kernel_rfl) (by kernel_rfl) (by kernel_rfl) (by kernel_rfl) (⟨hg5.at1 (by simp) hc6,hg5.at1 (by simp) hc5,hg5.sh,trivial⟩) ?_
    refine go 4 ?_
    refine RL.idxL rfl rfl rfl rfl sl31.out rfl rfl hRA.log.entries (by omega) (show ((u:Nat):Int)<(W.s[k].log.entries.length:Int) by omega) ?_
    rintro q3 vs3 hvl3 hH3 ⟨ea,ec,ea1,ec1,ea2,ec2,rfl,er1,er2,er3,eh1,eh2,eh3⟩
    refine go 1 ?_
    refine RL.loadT (j:=0) rfl rfl rfl rfl ty22.out rfl (hH3) (fun w h=>h.2.2.1) rfl ?_
    refine go 1 ?_
    refine zw (RefTerm_ct (l:=W.s[m].log) (h:=hh2) hg5 hRA2.log) ?_
    rintro v6 w6 (hg6:Good _ sN (Q4::Q2::P.W::P.S::P.K::P.B::P.L::P.T::P.D::P.X::(P.E++os))) hax6 rfl
    refine⟨⟨hg6.at1 (by simp) hc6,hg6.at1 (by simp) hc5,hg6.sh,trivial⟩,?_⟩
    refine go 12 ?_
    refine RL.part 64 rfl (fun h64=>?_) (fun h64=>?_)
    ·
     refine go 17 ?_
     cases j2 with
     | zero=>omega
     | succ j2=>exact fun ac ha=>⟨j2,[(0,ptr p),(3,i64 k),(4,i64 m),(5,ptr b1),(6,ptr b3),(7,i64 ((u:Int)-1))],ha.sub ⟨rfl,rfl,rfl,rfl,rfl,rfl,trivial⟩,⟨_,_,((((((((((hg6.front 9 rfl).front 9 rfl).front 9 rfl).front 9 rfl).front 9 rfl).front 9 rfl).front 9 rfl).front 9 rfl).front 9 rfl).front 9 rfl),(haxN.trans ((Aux.drew _).trans hax6)),hleN,hleX,rfl,by omega,by omega⟩,Nat.lt_succ_self j2⟩
    ·
     refine go 4 ?_
     refine RL.idxL rfl rfl rfl rfl sl31.out rfl rfl hRA.log.entries (by omega) (show ((u:Nat):Int)<(W.s[k].log.entries.length:Int) by omega) ?_
     rintro q4 vs4 hvl4 hH4 ⟨fa,fc,fa1,fc1,fa2,fc2,rfl,fr1,fr2,fr3,fh1,fh2,fh3⟩
     refine go 1 ?_
     refine RL.load (j:=1) rfl rfl rfl rfl ty22.out rfl (hH4) (hg6.sh) rfl ?_
     refine go 3 ?_
     refine CW.cond rfl (fun h73=>?_) (fun h73=>?_)
     ·
      refine go 6 ?_
      cases j2 with
      | zero=>omega
      | succ j2=>exact fun ac ha=>⟨j2,[(0,ptr p),(3,i64 k),(4,i64 m),(5,ptr b1),(6,ptr b3),(7,i64 ((u:Int)-1))],ha.sub ⟨rfl,rfl,rfl,rfl,rfl,rfl,trivial⟩,⟨_,_,((((((((((hg6.front 9 rfl).front 9 rfl).front 9 rfl).front 9 rfl).front 9 rfl).front 9 rfl).front 9 rfl).front 9 rfl).front 9 rfl).front 9 rfl),(haxN.trans ((Aux.drew _).trans hax6)),hleN,hleX,rfl,by omega,by omega⟩,Nat.lt_succ_self j2⟩
     ·
      have hse:seekP W.s[m].log W.s[k].log.entries[u].index=(W.s[k].log.entries[u].term,true):=by
       have h12:(!(seekP W.s[m].log W.s[k].log.entries[u].index).2)=false:=h64
       have h13:((seekP W.s[m].log W.s[k].log.entries[u].index).1 != W.s[k].log.entries[u].term)=false:=h73
       exact Prod.ext (by simpa using h13) (by simpa using h12)
      refine go 7 ?_
      refine CW.loop (σ:=Nat) (fun j E w'=>∃ s',∃ x:Nat,Good w' s' (Q4::Q2::P.W::P.S::P.K::P.B::P.L::P.T::P.D::P.X::(P.E++os))∧Aux w w'∧Le s s'∧Le sN s'∧E=[(0,ptr p),(3,i64 k),(4,i64 m),(5,ptr b1),(6,ptr b3),(7,i64 u),(10,i64 x)]∧x+j=u+1) (fun j=>j) (u+1) [(0,ptr p),(3,i64 k),(4,i64 m),(5,ptr b1),(6,ptr b3),(7,i64 u),(10,i64 0)] ⟨rfl,rfl,rfl,rfl,rfl,rfl,rfl,trivial⟩ ⟨_,0,((((((((((hg6.front 9 rfl).front 9 rfl).front 9 rfl).front 9 rfl).front 9 rfl).front 9 rfl).front 9 rfl).front 9 rfl).front 9 rfl).front 9 rfl),(haxN.trans ((Aux.drew _).trans hax6)),hleN,Le.refl _,rfl,by omega⟩ ?_
      rintro j3 E wO ⟨sO,x,hgO,haxO,hleO,hleY,rfl,hx⟩
      have hRA:=hRA.up hleY
      have hRA2:=hRA2.up hleY
      refine go 7 ?_
      refine CW.cond rfl (fun h76=>?_) (fun h76=>?_)
      ·
       have h14:(x:Int)≤(u:Int):=decide_t h76
       have hlx:x<W.s[k].log.entries.length:=by omega
       refine go 4 ?_
       have hg7:=hgO.drew
       refine CW.draws [(true,0),(true,1),(true,2),(true,3),(true,4),(true,5),(true,6),(false,7),(true,8),(true,9),(true,10),(false,11),(false,12)] (fun w=>At1 b3 _ w∧At1 b1 _ w∧In sO w∧True) mixed (by kernel_rfl) (by kernel_rfl) (by kernel_rfl) (by kernel_rfl) (⟨hg7.at1 (by simp) hc6,hg7.at1 (by simp) hc5,(hg7.sh).le (Le.refl _),trivial⟩) ?_
       refine go 4 ?_
       refine RL.idxL rfl rfl rfl rfl sl31.out rfl rfl hRA.log.entries (by omega) (show ((x:Nat):Int)<(W.s[k].log.entries.length:Int) by omega) ?_
       rintro q5 vs5 hvl5 hH5 ⟨ga,gc,ga1,gc1,ga2,gc2,rfl,gr1,gr2,gr3,gh1,gh2,gh3⟩
       refine go 1 ?_
       refine RL.loadT (j:=0) rfl rfl rfl rfl ty22.out rfl (hH5) (fun w h=>h.2.2.1) rfl ?_
       refine go 1 ?_
       refine zc (RefSlice_ct (l:=W.s[m].log) (h:=hh2) hg7 hRA2.log (hNm.fit.log.small (by omega)) (last_range hNm hW.size hc)) ?_
       rintro v8 s8 B8 w8 hle8 (hg8:Good _ s8 (B8::Q4::Q2::P.W::P.S::P.K::P.B::P.L::P.T::P.D::P.X::(P.E++os))) hax8 ⟨ys,ya,yc,ye,rfl,hIy,hy1,hyb,hyF⟩
       have hg8:=hg8.drop
       have hRA:=hRA.up hle8
       have hRA2:=hRA2.up hle8
       have hle87:=hle8
       refine⟨⟨hg8.at1 (by simp) hc6,hg8.at1 (by simp) hc5,(hg8.sh).le hle8,trivial⟩,?_⟩
       refine go 7 ?_
       have hg9:=hg8.drew
       refine CW.draws [(true,0),(true,1),(true,2),(true,3),(true,4),(true,5),(true,6),(true,7),(true,8),(true,9),(true,10),(true,11),(true,12),(true,13),(true,14),(true,15),(false,16),(true,17),(true,18)] (fun w=>At1 b1 _ w∧In s8 w∧True) mixed (by kernel_rfl) (by kernel_rfl) (by kernel_rfl) (by kernel_rfl) (⟨hg9.at1 (by simp) hc5,hg9.sh,trivial⟩) ?_
       refine go 3 ?_
       refine RL.part 92 rfl (fun h92=>?_) (fun h92=>?_)
       ·
        refine go 5 ?_
        refine RL.part 97 rfl (fun h97=>?_) (fun h97=>?_)
        ·
         refine go 1 ?_
         have hl1:ys.length=1:=by have h15:((ys.length:Int)==1)=true:=h97;have h16:=eq_of_beq h15;omega
         refine RL.idxL rfl rfl rfl rfl sl31.out rfl rfl hIy.lies (by omega) (by omega) ?_
         rintro q6 vs6 hvl6 hH6 hE6
         have hE6':=hE6
         obtain⟨ta,tc,ta1,tc1,ta2,tc2,rfl,tr1,tr2,tr3,th1,th2,th3⟩:=hE6'
         refine RL.loadsT (j:=0) (us:=_) rfl rfl rfl rfl ty65.out rfl (hH6) (fun w h=>h.2.1) rfl rfl ?_
         refine go 3 ?_
         refine RL.idxL rfl rfl rfl rfl sl31.out rfl rfl hRA.log.entries (by omega) (show ((x:Nat):Int)<(W.s[k].log.entries.length:Int) by omega) ?_
         rintro q7 vs7 hvl7 hH7 hE7
         have hE7':=hE7
         obtain⟨va,vc,va1,vc1,va2,vc2,rfl,vr1,vr2,vr3,vh1,vh2,vh3⟩:=hE7'
         refine RL.loadsT (j:=0) (us:=_) rfl rfl rfl rfl ty65.out rfl (hH7) (fun w h=>h.2.1) rfl rfl ?_
         obtain⟨hmem,hix⟩:=first_index hNm.fit.log (by omega) (hyF _ (List.getElem_mem (show 0<ys.length by omega))) (hyb (fun z=>by rw[z] at hl1;cases hl1))
         have heq:ys[0]=W.s[k].log.entries[x]:=Safe.logs_match hW.inv hNk.inv hNm.inv (List.getElem?_eq_getElem hlu) hse (show x≤u by omega) (List.getElem?_eq_getElem hlx) hmem hix
         refine go 1 ?_
         refine zw (RefSame_ct (x:=ys[0]) hg9 hE6 (REntry.of_eq heq hE7)) ?_
         rintro v10 w10 (hg10:Good _ s8 (Q4::Q2::P.W::P.S::P.K::P.B::P.L::P.T::P.D::P.X::(P.E++os))) hax10 rfl
         refine⟨⟨hg10.at1 (by simp) hc5,hg10.sh,trivial⟩,?_⟩
         refine go 3 ?_
         refine CW.cond rfl (fun h108=>?_) (fun h108=>?_)
         ·
          simp at h108
         ·
          refine go 6 ?_
          cases j3 with
          | zero=>omega
          | succ j3=>exact fun ac ha=>⟨j3,[(0,ptr p),(3,i64 k),(4,i64 m),(5,ptr b1),(6,ptr b3),(7,i64 u),(10,i64 ((x:Int)+1))],ha.sub ⟨rfl,rfl,rfl,rfl,rfl,rfl,rfl,trivial⟩,⟨_,x+1,((((((((((hg10.front 9 rfl).front 9 rfl).front 9 rfl).front 9 rfl).front 9 rfl).front 9 rfl).front 9 rfl).front 9 rfl).front 9 rfl).front 9 rfl),(haxO.trans ((Aux.drew _).trans (hax8.trans ((Aux.drew _).trans hax10)))),(hleO.trans hle8),hleY.trans hle87,rfl,by omega⟩,Nat.lt_succ_self j3⟩
        ·
         refine go 19 ?_
         cases j3 with
         | zero=>omega
         | succ j3=>exact fun ac ha=>⟨j3,[(0,ptr p),(3,i64 k),(4,i64 m),(5,ptr b1),(6,ptr b3),(7,i64 u),(10,i64 ((x:Int)+1))],ha.sub ⟨rfl,rfl,rfl,rfl,rfl,rfl,rfl,trivial⟩,⟨_,x+1,((((((((((hg9.front 9 rfl).front 9 rfl).front 9 rfl).front 9 rfl).front 9 rfl).front 9 rfl).front 9 rfl).front 9 rfl).front 9 rfl).front 9 rfl),(haxO.trans ((Aux.drew _).trans (hax8.trans (Aux.drew _)))),(hleO.trans hle8),hleY.trans hle87,rfl,by omega⟩,Nat.lt_succ_self j3⟩
       ·
        refine go 24 ?_
        cases j3 with
        | zero=>omega
        | succ j3=>exact fun ac ha=>⟨j3,[(0,ptr p),(3,i64 k),(4,i64 m),(5,ptr b1),(6,ptr b3),(7,i64 u),(10,i64 ((x:Int)+1))],ha.sub ⟨rfl,rfl,rfl,rfl,rfl,rfl,rfl,trivial⟩,⟨_,x+1,((((((((((hg9.front 9 rfl).front 9 rfl).front 9 rfl).front 9 rfl).front 9 rfl).front 9 rfl).front 9 rfl).front 9 rfl).front 9 rfl).front 9 rfl),(haxO.trans ((Aux.drew _).trans (hax8.trans (Aux.drew _)))),(hleO.trans hle8),hleY.trans hle87,rfl,by omega⟩,Nat.lt_succ_self j3⟩
      ·
       refine go 7 ?_
       cases j1 with
       | zero=>omega
       | succ j1=>exact fun ac ha=>⟨j1,[(0,ptr p),(3,i64 k),(4,i64 ((m:Int)+1))],ha.sub ⟨rfl,rfl,rfl,trivial⟩,⟨_,m+1,((((((((((hgO.front 9 rfl).front 9 rfl).front 9 rfl).front 9 rfl).front 9 rfl).front 9 rfl).front 9 rfl).front 9 rfl).dropAt 8).dropAt 8),haxO,hleO,rfl,by omega⟩,Nat.lt_succ_self j1⟩
   ·
    refine go 6 ?_
    cases j1 with
    | zero=>omega
    | succ j1=>exact fun ac ha=>⟨j1,[(0,ptr p),(3,i64 k),(4,i64 ((m:Int)+1))],ha.sub ⟨rfl,rfl,rfl,trivial⟩,⟨_,m+1,((((((((((hgN.front 9 rfl).front 9 rfl).front 9 rfl).front 9 rfl).front 9 rfl).front 9 rfl).front 9 rfl).front 9 rfl).dropAt 8).dropAt 8),haxN,hleN,rfl,by omega⟩,Nat.lt_succ_self j1⟩
  ·
   refine go 6 ?_
   cases j with
   | zero=>omega
   | succ j=>exact fun ac ha=>⟨j,[(0,ptr p),(3,i64 ((k:Int)+1))],ha.sub ⟨rfl,rfl,trivial⟩,⟨_,k+1,((((((((hgM.front 7 rfl).front 7 rfl).front 7 rfl).front 7 rfl).front 7 rfl).front 7 rfl).front 7 rfl).front 7 rfl),haxM,hleM,rfl,by omega⟩,Nat.lt_succ_self j⟩
 ·
  refine go 5 ?_
  refine CW.ret (zr1 ?_)
  exact⟨_,P,a,rfl,hleL,((((((((hgL.front 7 rfl).front 7 rfl).front 7 rfl).front 7 rfl).front 7 rfl).front 7 rfl).front 7 rfl).front 7 rfl),haxL,hw0⟩
end
end Go.Lw
namespace Go.Lw
open Go.Proofs
open Safe (Wd WInv MInv G takenT)
attribute [local irreducible] RL RA
section
variable {w:World} {s:Res} {os:List Res}
theorem RaftcoreSafe_ct {nodes voters:Int} {l:List RawAct} {la:Option Addr} {lc:Nat} (hg:Good w s os) (h1:rng .i64 nodes) (h2:rng .i64 voters) (hl:Imm RAct 5 s la lc l) (hn:l.length≤1048576) :
  Calls Tryz.prog 4 #[i64 nodes,i64 voters,.slice la l.length lc] w (Post w s os fun _ _ q=>q = .bool true):=by
 refine enter (l:=[i64 nodes,i64 voters,.slice la l.length lc]) Tryz.func4 rfl Tryz.ntmps4 rfl ?_
 refine go 7 ?_
 refine zc (Head_ct hg) ?_
 rintro v1 s1 B1 w1 hle1 (hg1:Good _ s1 (B1::os)) hax1 rfl
 have hg1:=hg1.drop
 refine go 7 ?_
 refine zw (pick2_ct (n:=5) hg1 h1 (by omega) (by omega)) ?_
 rintro v2 w2 (hg2:Good _ s1 (os)) hax2 ⟨k5,hk5,rfl⟩
 refine go 2 ?_
 rw[show (1:Int)+(k5:Int)=((k5+1:Nat):Int) by omega]
 refine go 8 ?_
 refine zw (pick2_ct (n:=k5+1) hg2 h2 (by omega) (by omega)) ?_
 rintro v3 w3 (hg3:Good _ s1 (os)) hax3 ⟨kv,hkv,rfl⟩
 refine go 2 ?_
 rw[show (1:Int)+(kv:Int)=((kv+1:Nat):Int) by omega]
 refine RL.callG rfl rfl rfl rfl rfl ca15.out (Made_ct (n:=k5+1) (m:=kv+1) hg3 (by omega) (by omega) (by omega)) ?_
 rintro eM wM ⟨sM,P,p,a,W,rfl,hleM,hgM,haxM,hw,hW,hz1,hz2,hz3⟩
 refine⟨_,rfl,trivial,?_⟩
 refine go 12 ?_
 refine RL.part 28 rfl (fun h28=>?_) (fun h28=>?_)
 ·
  simp at h28
 ·
  refine go 4 ?_
  refine CW.cond rfl (fun h31=>?_) (fun h31=>?_)
  ·
   simp at h31
  ·
   refine go 7 ?_
   refine CW.loop (σ:=Nat) (fun j E w'=>∃ s' P a W g,∃ k:Nat,Good w' s' (P.W::P.S::P.K::P.B::P.L::P.T::P.D::P.X::(P.E++os))∧Aux w w'∧Le s s'∧E=[(2,.slice la l.length lc),(9,ptr p),(11,i64 k)]∧k+j=l.length∧k≤400∧WAt s' P p W a∧WInv (k5+1) (cN (kv+1)) g k W∧W.told.length≤1048576*k∧W.term.length≤k∧W.snap.length≤k) (fun j=>j) l.length [(2,.slice la l.length lc),(9,ptr p),(11,i64 0)] ⟨rfl,rfl,rfl,trivial⟩ ⟨_,P,a,W,_,0,((((((((hgM.front 7 rfl).front 7 rfl).front 7 rfl).front 7 rfl).front 7 rfl).front 7 rfl).front 7 rfl).front 7 rfl),(hax1.trans (hax2.trans (hax3.trans haxM))),(hle1.trans hleM),rfl,by omega,by omega,hw,hW,by rw[hz1];exact Nat.le_refl _,by rw[hz2];exact Nat.le_refl _,by rw[hz3];exact Nat.le_refl _⟩ ?_
   rintro j E wL ⟨sL,P,a,W,g,k,hgL,haxL,hleL,rfl,hk,hk4,hw,hW,hz1,hz2,hz3⟩
   have hl:=hl.up RAct.up hleL
   refine go 8 ?_
   refine RL.part 36 rfl (fun h36=>?_) (fun h36=>?_)
   ·
    refine go 4 ?_
    refine CW.cond rfl (fun h39=>?_) (fun h39=>?_)
    ·
     have hlt:k<l.length:=by have h9:(k:Int)<(l.length:Int):=decide_t h36;omega
     have hl4:k<400:=by have h9:(k:Int)<400:=decide_t h39;omega
     refine go 8 ?_
     refine RL.idxL rfl rfl rfl rfl sl69.out rfl rfl hl.lies (by omega) (by omega) ?_
     rintro q vs hvl hH ⟨xa,xc,rfl,hx⟩
     refine RL.loads (j:=0) (us:=_) rfl rfl rfl rfl ty76.out rfl (hH) (hgL.sh) rfl rfl ?_
     have hgk:Good _ sL (P.os++os):=hgL
     refine RL.callG rfl rfl rfl rfl rfl ca16.out (Do_ct hgk hw hW (by omega) hx (by omega) ⟨by omega,by omega⟩ (by omega)) ?_
     rintro e3 w3 ⟨W3,g3,hd3,s3,P3,a3,rfl,hle3,hgE,haxE,hw3⟩
     have hd1:=hd3.told
     have hd2:=hd3.term
     have hd4:=hd3.snap
     refine⟨_,rfl,trivial,?_⟩
     refine go 13 ?_
     refine RL.rem rfl rfl rfl rfl rfl rfl ((by omega)) ((by decide)) ?_
     refine go 2 ?_
     refine RL.part 53 rfl (fun h53=>?_) (fun h53=>?_)
     ·
      refine go 1 ?_
      have hgk:Good _ s3 (P3.os++os):=hgE
      refine RL.callG rfl rfl rfl rfl rfl ca17.out (matches_ct hgk hw3 hd3.inv (by omega)) ?_
      rintro e4 w4 ⟨s4,P4,a4,rfl,hle4,hgF,haxF,hw4⟩
      refine⟨_,rfl,trivial,?_⟩
      refine go 10 ?_
      cases j with
      | zero=>omega
      | succ j=>exact fun ac ha=>⟨j,[(2,.slice la l.length lc),(9,ptr p),(11,i64 ((k:Int)+1))],ha.sub ⟨rfl,rfl,rfl,trivial⟩,⟨_,P4,a4,W3,g3,k+1,((((((((hgF.front 7 rfl).front 7 rfl).front 7 rfl).front 7 rfl).front 7 rfl).front 7 rfl).front 7 rfl).front 7 rfl),(haxL.trans (haxE.trans haxF)),(hleL.trans (hle3.trans hle4)),rfl,by omega,by omega,hw4,hd3.inv,by omega,by omega,by omega⟩,Nat.lt_succ_self j⟩
     ·
      refine go 12 ?_
      cases j with
      | zero=>omega
      | succ j=>exact fun ac ha=>⟨j,[(2,.slice la l.length lc),(9,ptr p),(11,i64 ((k:Int)+1))],ha.sub ⟨rfl,rfl,rfl,trivial⟩,⟨_,P3,a3,W3,g3,k+1,((((((((hgE.front 7 rfl).front 7 rfl).front 7 rfl).front 7 rfl).front 7 rfl).front 7 rfl).front 7 rfl).front 7 rfl),(haxL.trans haxE),(hleL.trans hle3),rfl,by omega,by omega,hw3,hd3.inv,by omega,by omega,by omega⟩,Nat.lt_succ_self j⟩
    ·
     refine go 4 ?_
     have hgk:Good _ sL (P.os++os):=hgL
     refine RL.callG rfl rfl rfl rfl rfl ca17.out (matches_ct hgk hw hW (by omega)) ?_
     rintro e4 w4 ⟨s4,P4,a4,rfl,hle4,hgF,haxF,hw4⟩
     refine⟨_,rfl,trivial,?_⟩
     refine go 2 ?_
     refine CW.ret (zr1 ?_)
     exact Post.mq (Good.dropL ((((((((hgF.drop).drop).drop).drop).drop).drop).drop).drop)).nil rfl
   ·
    refine go 9 ?_
    have hgk:Good _ sL (P.os++os):=hgL
    refine RL.callG rfl rfl rfl rfl rfl ca17.out (matches_ct hgk hw hW (by omega)) ?_
    rintro e4 w4 ⟨s4,P4,a4,rfl,hle4,hgF,haxF,hw4⟩
    refine⟨_,rfl,trivial,?_⟩
    refine go 2 ?_
    refine CW.ret (zr1 ?_)
    exact Post.mq (Good.dropL ((((((((hgF.drop).drop).drop).drop).drop).drop).drop).drop)).nil rfl
end
section
variable {H:Type} {enc:TypeId × Value→H} {W:World}
end
end Go.Lw
