/-
  Parts of the proof of RaftcoreOnceUptoSaid: Facts, KdE, KdF, KfO.
-/
import Derived.Test.YtpjclnomaemokaaGreatRgA6
import Derived.Test.YtpjclnomaemokaaGreatProg
set_option maxRecDepth 100000
set_option maxHeartbeats 16000000
set_option linter.all false
namespace Go.Lw
open Go.Proofs
instance sl80:Fk slc Tryz.prog 80 (90,3,24):=⟨by kernel_rfl⟩
instance ty90:Fk tyc Tryz.prog 90 (true,3):=⟨by kernel_rfl⟩
instance ze90:Fk zer Tryz.prog 90 [Go.Value.int Go.IntKind.i64 (0),Go.Value.int Go.IntKind.i64 (0),Go.Value.int Go.IntKind.u64 (0)]:=⟨by kernel_rfl⟩
instance pl90:Fk plc Tryz.prog 90 [(0,1),(1,1),(2,1)]:=⟨by kernel_rfl⟩
instance fl90_0:Fl Tryz.prog 90 0 (0,1):=⟨by kernel_rfl⟩
instance fl90_1:Fl Tryz.prog 90 1 (1,1):=⟨by kernel_rfl⟩
instance fl90_2:Fl Tryz.prog 90 2 (2,1):=⟨by kernel_rfl⟩
instance ca20:Ca Tryz.prog 20:=⟨by kernel_rfl⟩
instance ca21:Ca Tryz.prog 21:=⟨by kernel_rfl⟩
end Go.Lw
namespace Go.Lw
open Go.Proofs
attribute [local irreducible] RL RA
theorem uptoL_all {l:Log} {upto:Int} (h:∀ e∈l.entries,e.index≤upto):uptoL l upto=l:=by
 unfold uptoL
 rw[List.filter_eq_self.2 fun e he=>by simpa using h e he]
section
variable {w:World} {s:Res} {os:List Res}
theorem RefUpto_ct {l:Log} {h:Hd} {upto:Int} (hg:Good w s os) (hl:LogAt s s l h) (hS:l.small) (_:rng .u64 upto) (hle:∀ e∈l.entries,e.index≤upto) :
  Calls Tryz.prog 48 #[logA l h,u64 upto] w (Post w s os fun s' _ q=>∃ vs,q = .tuple #[.agg vs.toArray,u64 (confP l).2]∧RConf s' vs (confP l).1):=by
 have:=RefUptoX_ct (upto:=upto) hg hl hS
 rwa[uptoL_all hle] at this
theorem RefConf_ct {l:Log} {h:Hd} (hg:Good w s os) (hl:LogAt s s l h) (hS:l.small) (hle:∀ e∈l.entries,e.index≤(lastP l).1) :
  Calls Tryz.prog 20 #[logA l h] w (Post w s os fun s' _ q=>∃ vs,q = .tuple #[.agg vs.toArray,u64 (confP l).2]∧RConf s' vs (confP l).1):=by
 refine enter (l:=[logA l h]) Tryz.func20 rfl Tryz.ntmps20 rfl ?_
 refine go 3 ?_
 rintro b13 w13 Q13 (hg13:Good _ s (Q13::os)) hax13 hb13
 refine go 2 ?_
 rintro b14 w14 Q14 (hg14:Good _ s (Q14::Q13::os)) hax14 hb14
 refine go 7 ?_
 refine zw (RefLast_ct hg14 hl) ?_
 rintro v15 w15 (hg15:Good _ s (Q14::Q13::os)) hax15 rfl
 refine go 12 ?_
 refine zc (RefUpto_ct hg15 hl hS hl.last_rng.1 hle) ?_
 rintro v16 s16 B16 w16 hle16 (hg16:Good _ s16 (B16::Q14::Q13::os)) hax16 ⟨vs13,rfl,hC13⟩
 have hg16:=hg16.drop
 obtain⟨ua,uc,ub,ud,rfl,hua,hub⟩:=hC13
 refine go 4 ?_
 rintro w17 Q17 (hg17:Good _ s16 (Q17::Q13::os)) hax17 hb17
 refine go 3 ?_
 refine CW.ret (ret (vs:=[_,_]) ⟨_,_,_,rfl,rfl,zl hb17,_,_,rfl,rfl,rfl⟩ ?_)
 exact Post.mq ((hg17.drop).drop).nil ⟨_,rfl,⟨ua,uc,ub,ud,rfl,hua,hub⟩⟩
end
end Go.Lw
namespace Go.Lw
open Go.Proofs
attribute [local irreducible] RL RA
theorem LFit.le_last {c:Nat} {l:Log} (h:LFit c l) (hc:c≤1099511627776):∀ e∈l.entries,e.index≤(lastP l).1:=fun e he=>by
 have hx:=h.runX hc
 obtain⟨k,hk,rfl⟩:=List.getElem_of_mem he
 have h1:=hx k _ (List.getElem?_eq_getElem hk)
 have h2:=hx.last
 omega
end Go.Lw
namespace Go.Lw
open Go.Proofs
open Safe (Wd WInv MInv G takenT)
attribute [local irreducible] RL RA
def RGave:Res→List Value→Int × Int × Int→Prop:=fun _ vs x=>vs=[i64 x.1,i64 x.2.1,u64 x.2.2]∧rng .i64 x.1∧rng .i64 x.2.1∧rng .u64 x.2.2
theorem RGave.up:Up RGave:=fun _ _ _ _ _ h=>h
theorem RGave.one:One RGave:=fun _ _ _ ⟨h1,_⟩ v hv=>by
 subst h1
 simp only[List.mem_cons,List.not_mem_nil,or_false] at hv
 rcases hv with rfl | rfl | rfl<;>rfl
def Given (g:G) (l:List (Int × Int × Int)):Prop:=∀ x∈l,g.vote x.1 x.2.2=x.2.1∧x.2.1≠0
theorem Given.up {g g':G} {l:List (Int × Int × Int)} (h:Given g l) (hg:∀ j t,g.vote j t≠0→g'.vote j t=g.vote j t):Given g' l:=fun x hx=>by
 obtain⟨h1,h2⟩:=h x hx
 exact⟨(hg _ _ (by rw[h1];exact h2)).trans h1,h2⟩
theorem Given.add {g:G} {l:List (Int × Int × Int)} (h:Given g l) {x:Int × Int × Int} (hx:g.vote x.1 x.2.2=x.2.1∧x.2.1≠0):Given g (l++[x]):=fun y hy=>by
 rcases List.mem_append.1 hy with hy | hy
 ·
  exact h y hy
 ·
  rw[List.mem_singleton.1 hy];exact hx
theorem mem_news {α:Type} {l old news:List α} (h:l=old++news) {x:Nat} (hx:x<l.length) (ho:old.length≤x):l[x]∈news:=by
 subst h
 rw[List.getElem_append_right ho]
 exact List.getElem_mem _
section
variable {w:World} {s:Res} {os:List Res}
theorem In_ct {xs:List Int} {xa:Option Addr} {xc:Nat} {v:Int} (hg:Good w s os) (hx:Ints s xa xc xs) :
  Calls Tryz.prog 21 #[.slice xa xs.length xc,i64 v] w (PostV w s os fun r=>r = .bool (decide (v∈xs))):=by
 have hmx:=hx.le_max
 simp only[maxLen] at hmx
 refine enter (l:=[.slice xa xs.length xc,i64 v]) Tryz.func21 rfl Tryz.ntmps21 rfl ?_
 refine go 10 ?_
 refine CW.loop (σ:=Nat) (fun j E w'=>∃ k:Nat,Good w' s os∧Aux w w'∧E=[(0,.slice xa xs.length xc),(1,i64 v),(5,i64 k)]∧k+j=xs.length∧v∉xs.take k) (fun j=>j) xs.length [(0,.slice xa xs.length xc),(1,i64 v),(5,i64 0)] ⟨rfl,rfl,rfl,trivial⟩ ⟨0,hg,(Aux.refl _),rfl,by omega,by simp⟩ ?_
 rintro j E wL ⟨k,hgL,haxL,rfl,hk,hni⟩
 refine go 8 ?_
 refine CW.cond rfl (fun h9=>?_) (fun h9=>?_)
 ·
  have hlt:k<xs.length:=by have h10:(k:Int)<(xs.length:Int):=decide_t h9;omega
  refine go 7 ?_
  refine RL.idxL rfl rfl rfl rfl sl25.out rfl rfl hx.lies (by omega) (by omega) ?_
  rintro q vs hvl hH ⟨rfl,hr⟩
  refine RL.load (j:=0) rfl rfl rfl rfl ty3.out rfl (hH) (hgL.sh) rfl ?_
  refine go 3 ?_
  refine CW.cond rfl (fun h17=>?_) (fun h17=>?_)
  ·
   refine go 4 ?_
   refine CW.ret (zr1 ?_)
   have heq:xs[k]=v:=by simpa using h17
   exact PostV.mq hgL (by rw[decide_eq_true (heq▸List.getElem_mem hlt)];rfl)
  ·
   refine go 6 ?_
   cases j with
   | zero=>omega
   | succ j=>exact fun ac ha=>⟨j,[(0,.slice xa xs.length xc),(1,i64 v),(5,i64 ((k:Int)+1))],ha.sub ⟨rfl,rfl,rfl,trivial⟩,⟨k+1,hgL,haxL,rfl,by omega,by rw[List.take_succ_eq_append_getElem hlt];simp only[List.mem_append,List.mem_singleton];rintro (h | h);exact hni h;rw[h] at h17;simp at h17⟩,Nat.lt_succ_self j⟩
 ·
  refine go 5 ?_
  refine CW.ret (zr1 ?_)
  have hkl:k=xs.length:=by have h10:¬ (k:Int)<(xs.length:Int):=decide_f h9;omega
  exact PostV.mq hgL (by rw[decide_eq_false (by rw[hkl,List.take_length] at hni;exact hni)];rfl)
theorem RaftcoreOnce_ct {nodes voters:Int} {l:List RawAct} {la:Option Addr} {lc:Nat} (hg:Good w s os) (h1:rng .i64 nodes) (h2:rng .i64 voters) (hl:Imm RAct 5 s la lc l) (hn:l.length≤1048576) :
  Calls Tryz.prog 6 #[i64 nodes,i64 voters,.slice la l.length lc] w (Post w s os fun _ _ q=>q = .bool true):=by
 refine enter (l:=[i64 nodes,i64 voters,.slice la l.length lc]) Tryz.func6 rfl Tryz.ntmps6 rfl ?_
 refine go 7 ?_
 refine zc (Head_ct hg) ?_
 rintro v1 s1 B1 w1 hle1 (hg1:Good _ s1 (B1::os)) hax1 rfl
 have hg1:=hg1.drop
 refine go 7 ?_
 refine zw (pick2_ct (n:=5) hg1 h1 (by omega) (by omega)) ?_
 rintro v2 w2 (hg2:Good _ s1 (os)) hax2 ⟨k5,hk5,rfl⟩
 refine go 2 ?_
 rw[show (1:Int)+(k5:Int)=((k5+1:Nat):Int) by omega]
 refine go 8 ?_
 refine zw (pick2_ct (n:=k5+1) hg2 h2 (by omega) (by omega)) ?_
 rintro v3 w3 (hg3:Good _ s1 (os)) hax3 ⟨kv,hkv,rfl⟩
 refine go 2 ?_
 rw[show (1:Int)+(kv:Int)=((kv+1:Nat):Int) by omega]
 refine RL.callG rfl rfl rfl rfl rfl ca15.out (Made_ct (n:=k5+1) (m:=kv+1) hg3 (by omega) (by omega) (by omega)) ?_
 rintro eM wM ⟨sM,P,p,a,W,rfl,hleM,hgM,haxM,hw,hW,hz1,hz2,hz3⟩
 refine⟨_,rfl,trivial,?_⟩
 refine go 12 ?_
 refine RL.part 36 rfl (fun h36=>?_) (fun h36=>?_)
 ·
  simp at h36
 ·
  refine go 4 ?_
  refine CW.cond rfl (fun h39=>?_) (fun h39=>?_)
  ·
   simp at h39
  ·
   refine go 11 ?_
   refine CW.loop (σ:=Nat) (fun j E w'=>∃ s' P a W g V va vc vl,∃ k:Nat,Good w' s' (V::P.W::P.S::P.K::P.B::P.L::P.T::P.D::P.X::(P.E++os))∧Aux w w'∧Le s s'∧E=[(2,.slice la l.length lc),(8,i64 ((k5+1:Nat):Int)),(9,ptr p),(11,.slice va vl.length vc),(12,i64 k)]∧k+j=l.length∧k≤300∧WAt s' P p W a∧WInv (k5+1) (cN (kv+1)) g k W∧W.told.length≤1048576*k∧W.term.length≤k∧W.snap.length≤k∧Own RGave 3 90 s' V va vc vl∧Given g vl∧vl.length≤400*k) (fun j=>j) l.length [(2,.slice la l.length lc),(8,i64 ((k5+1:Nat):Int)),(9,ptr p),(11,.slice none 0 0),(12,i64 0)] ⟨rfl,rfl,rfl,rfl,rfl,trivial⟩ ⟨_,P,a,W,_,Res.nil,none,0,[],0,(((((((((hgM.front 7 rfl).front 7 rfl).front 7 rfl).front 7 rfl).front 7 rfl).front 7 rfl).front 7 rfl).front 7 rfl)).nil,(hax1.trans (hax2.trans (hax3.trans haxM))),(hle1.trans hleM),rfl,by omega,by omega,hw,hW,by rw[hz1];exact Nat.le_refl _,by rw[hz2];exact Nat.le_refl _,by rw[hz3];exact Nat.le_refl _,Own.nil _ _ _ _ _,fun x hx=>(by cases hx),Nat.le_refl _⟩ ?_
   rintro j E wL ⟨sL,P,a,W,g,V,va,vc,vl,k,hgL,haxL,hleL,rfl,hk,hk4,hw,hW,hz1,hz2,hz3,hoV,hGv,hvl⟩
   have hl:=hl.up RAct.up hleL
   have hcW:=hw.cells
   refine go 8 ?_
   refine RL.part 44 rfl (fun h44=>?_) (fun h44=>?_)
   ·
    refine go 4 ?_
    refine CW.cond rfl (fun h47=>?_) (fun h47=>?_)
    ·
     have hlt:k<l.length:=by have h9:(k:Int)<(l.length:Int):=decide_t h44;omega
     have hl4:k<300:=by have h9:(k:Int)<300:=decide_t h47;omega
     refine go 17 ?_
     refine RL.idxL rfl rfl rfl rfl sl69.out rfl rfl hl.lies (by omega) (by omega) ?_
     rintro q vs hvl' hH ⟨xa,xc,rfl,hx⟩
     refine RL.loads (j:=0) (us:=_) rfl rfl rfl rfl ty76.out rfl (hH) (hgL.sh) rfl rfl ?_
     have hgk:Good _ sL (P.os++([V]++os)):=WP.rot (bs:=[V]) (P:=P) hgL
     refine RL.callG rfl rfl rfl rfl rfl ca16.out (Do_ct hgk hw hW (by omega) hx (by omega) ⟨by omega,by omega⟩ (by omega)) ?_
     rintro e3 w3 ⟨W3,g3,hd3,s3,P3,a3,rfl,hle3,hgk3,haxE,hw3⟩
     have hgE:Good w3 s3 (V::P3.W::P3.S::P3.K::P3.B::P3.L::P3.T::P3.D::P3.X::(P3.E++os)):=WP.unrot (bs:=[V]) hgk3
     have hd1:=hd3.told
     have hd2:=hd3.term
     have hd4:=hd3.snap
     have hW3:=hd3.inv
     have hbl:=hW3.blen
     have hsl:=hW3.len
     have hGv:=hGv.up hd3.vote
     have hoV:=hoV.up RGave.up hle3
     obtain⟨old,news,hb1,hb2,hb3⟩:=hd3.bag
     have hcX:=hw3.cells
     refine⟨_,rfl,trivial,?_⟩
     refine go 18 ?_
     refine RL.min rfl rfl rfl rfl rfl rfl ?_
     obtain⟨b0,hb0,hb4⟩:∃ b0:Nat,(if ((W3.bag.length:Nat):Int)<((W.bag.length:Nat):Int) then ((W3.bag.length:Nat):Int) else ((W.bag.length:Nat):Int))=(b0:Int)∧((b0=W3.bag.length)∨(old.length≤b0∧b0≤W3.bag.length)):=by
      split
      ·
       exact⟨_,rfl,.inl rfl⟩
      ·
       exact⟨_,rfl,.inr ⟨hb2,by omega⟩⟩
     rw[hb0]
     refine go 3 ?_
     refine CW.loop (σ:=Nat) (fun j E w'=>∃ s' V va vc vl,∃ x:Nat,Good w' s' (V::P3.W::P3.S::P3.K::P3.B::P3.L::P3.T::P3.D::P3.X::(P3.E++os))∧Aux w w'∧Le s s'∧Le s3 s'∧E=[(2,.slice la l.length lc),(8,i64 ((k5+1:Nat):Int)),(9,ptr p),(11,.slice va vl.length vc),(12,i64 k),(15,i64 x)]∧x+j=W3.bag.length∧b0≤x∧Own RGave 3 90 s' V va vc vl∧Given g3 vl∧vl.length≤400*k+x) (fun j=>j) (W3.bag.length-b0) [(2,.slice la l.length lc),(8,i64 ((k5+1:Nat):Int)),(9,ptr p),(11,.slice va vl.length vc),(12,i64 k),(15,i64 b0)] ⟨rfl,rfl,rfl,rfl,rfl,rfl,trivial⟩ ⟨_,V,va,vc,vl,b0,(((((((((hgE.front 8 rfl).front 8 rfl).front 8 rfl).front 8 rfl).front 8 rfl).front 8 rfl).front 8 rfl).front 8 rfl).front 8 rfl),(haxL.trans haxE),(hleL.trans hle3),Le.refl _,rfl,by omega,by omega,hoV,hGv,by omega⟩ ?_
     rintro j1 E wM ⟨sM,V,va,vc,vl,x,hgM,haxM,hleM,hleN,rfl,hx1,hx2,hoV,hGv,hvl⟩
     have hw3:=hw3.up hleN
     refine go 11 ?_
     refine CW.cond rfl (fun h76=>?_) (fun h76=>?_)
     ·
      have h9:(x:Int)<(W3.bag.length:Int):=decide_t h76
      have hxl:x<W3.bag.length:=by omega
      have hmem:W3.bag[x]∈news:=mem_news hb1 hxl (by omega)
      obtain⟨qn,rq,hq1,hq2,hq3⟩:=hb3 _ hmem
      have hql:qn<W3.s.length:=(List.getElem?_eq_some_iff.1 hq1).1
      have hmi:=hW3.bag _ (List.getElem_mem hxl)
      refine go 10 ?_
      refine RL.idxL rfl rfl rfl rfl sl48.out rfl rfl hw3.B.lies (by omega) (by omega) ?_
      rintro q vs hvl2 hH ⟨y,rfl,hm⟩
      have hm:MsgOk sM W3.bag[x] y:=hm
      have hH:Holds P3.B q (msgV W3.bag[x] y):=hH
      refine RL.loads (j:=0) (us:=_) rfl rfl rfl rfl ty56.out rfl (hH) (hgM.mem (by simp)) rfl rfl ?_
      refine go 1 ?_
      rintro b4 w4 Q4 (hg4:Good _ sM (Q4::V::P3.W::P3.S::P3.K::P3.B::P3.L::P3.T::P3.D::P3.X::(P3.E++os))) hax4 hb4
      refine go 2 ?_
      rintro w5 Q5 (hg5:Good _ sM (Q5::V::P3.W::P3.S::P3.K::P3.B::P3.L::P3.T::P3.D::P3.X::(P3.E++os))) hax5 hb5
      refine go 9 ?_
      refine RL.part 89 rfl (fun h89=>?_) (fun h89=>?_)
      ·
       have h10:W3.bag[x].frm<1:=decide_t h89;omega
      ·
       refine go 6 ?_
       refine CW.cond rfl (fun h94=>?_) (fun h94=>?_)
       ·
        have h10:W3.bag[x].frm>((k5+1:Nat):Int):=decide_t h94;omega
       ·
        refine go 1 ?_
        have hc16:=hb5
        refine CW.meet (fun E' w'=>∃ s',E'=[(2,.slice la l.length lc),(8,i64 ((k5+1:Nat):Int)),(9,ptr p),(11,.slice va vl.length vc),(12,i64 k),(15,i64 x),(16,ptr b4)]∧Good w' s' (Q5::V::P3.W::P3.S::P3.K::P3.B::P3.L::P3.T::P3.D::P3.X::(P3.E++os))∧Aux w w'∧Le s s'∧Le sM s') ?_ ?_
        ·
         refine go 6 ?_
         refine RL.part 98 rfl (fun h98=>?_) (fun h98=>?_)
         ·
          refine go 7 ?_
          have hg6:=hg5.drew
          refine CW.forks (.fork [(true,0),(true,1),(true,2),(true,3),(true,4),(true,5),(true,6),(true,7),(true,8),(true,9)] (.line [(false,10),(true,11),(true,12),(true,13),(false,14),(false,15),(false,16)]) (.line [(false,14),(false,10),(true,11),(true,12),(true,13),(false,15),(false,16)])) (fun w=>At1 p _ w∧At1 b4 _ w∧In P3.S w∧True) mixed (by kernel_rfl) (by kernel_rfl) (by kernel_rfl) (by kernel_rfl) (⟨hg6.at1 (by simp) hcX,hg6.at1 (by simp) hb5,hg6.mem (by simp),trivial⟩) ?_
          refine RT.pre (S:=fun w=>At1 p _ w∧At1 b4 _ w∧In P3.S w∧True) (⟨hg6.at1 (by simp) hcX,hg6.at1 (by simp) hb5,hg6.mem (by simp),trivial⟩) ?_
          refine go 7 ?_
          rw[show W3.bag[x].frm-1=((qn:Nat):Int) by omega]
          refine RL.idxL rfl rfl rfl rfl sl81.out rfl rfl hw3.S.lies (by omega) (by omega) ?_
          rintro q5 vs5 hvl5 hH5 ⟨hh,rfl,hRA⟩
          have hRA:RaftAt sM W3.s[qn] hh:=hRA
          have hH5:Holds P3.S q5 (raftV W3.s[qn] hh):=hH5
          have hrq:W3.s[qn]=rq:=(List.getElem?_eq_some_iff.1 hq1).2
          have hno:=hW3.node qn _ (List.getElem?_eq_getElem hql)
          refine go 1 ?_
          refine RL.loadsT (j:=4) (us:=(logV W3.s[qn].log hh)) rfl rfl rfl rfl ty33.out rfl (hH5) (fun w h=>h.2.2.1) rfl rfl ?_
          refine go 1 ?_
          refine RT.both (S:=fun w=>At1 p _ w∧At1 b4 _ w∧In P3.S w∧True) (⟨hg6.at1 (by simp) hcX,hg6.at1 (by simp) hb5,hg6.mem (by simp),trivial⟩) (RT.end_ (S:=fun w=>At1 p _ w∧At1 b4 _ w∧In P3.S w∧True) (⟨hg6.at1 (by simp) hcX,hg6.at1 (by simp) hb5,hg6.mem (by simp),trivial⟩) ?_) (RT.end_ (S:=fun w=>At1 p _ w∧At1 b4 _ w∧In P3.S w∧True) (⟨hg6.at1 (by simp) hcX,hg6.at1 (by simp) hb5,hg6.mem (by simp),trivial⟩) ?_)
          ·
           refine go 1 ?_
           refine zc (RefConf_ct hg6 hRA.log (hno.fit.log.small (by omega)) (hno.fit.log.le_last (by omega))) ?_
           rintro v7 s7 B7 w7 hle7 (hg7:Good _ s7 (B7::Q5::V::P3.W::P3.S::P3.K::P3.B::P3.L::P3.T::P3.D::P3.X::(P3.E++os))) hax7 ⟨vs14,rfl,hC14⟩
           have hg7:=hg7.drop
           obtain⟨ua,uc,ub,ud,rfl,hua,hub⟩:=hC14
           refine go 5 ?_
           rintro b8 w8 Q8 (hg8:Good _ s7 (Q8::Q5::V::P3.W::P3.S::P3.K::P3.B::P3.L::P3.T::P3.D::P3.X::(P3.E++os))) hax8 hb8
           refine go 2 ?_
           rintro w9 Q9 (hg9:Good _ s7 (Q9::Q5::V::P3.W::P3.S::P3.K::P3.B::P3.L::P3.T::P3.D::P3.X::(P3.E++os))) hax9 hb9
           refine go 10 ?_
           refine zw (In_ct hg9 hua) ?_
           rintro v10 w10 (hg10:Good _ s7 (Q9::Q5::V::P3.W::P3.S::P3.K::P3.B::P3.L::P3.T::P3.D::P3.X::(P3.E++os))) hax10 rfl
           refine go 3 ?_
           refine CW.cond rfl (fun h122=>?_) (fun h122=>?_)
           ·
            have hk3:W3.bag[x].kind=3:=by simpa using h98
            have hin:=hq3 (.inr hk3)
            rw[←hrq] at hin
            simp[hq2,hin] at h122
           ·
            refine go 1 ?_
            exact fun ac ha=>⟨[(2,.slice la l.length lc),(8,i64 ((k5+1:Nat):Int)),(9,ptr p),(11,.slice va vl.length vc),(12,i64 k),(15,i64 x),(16,ptr b4)],ha.sub ⟨rfl,rfl,rfl,rfl,rfl,rfl,rfl,trivial⟩,⟨_,rfl,(((((((((((hg10.front 10 rfl).front 10 rfl).front 10 rfl).front 10 rfl).front 10 rfl).front 10 rfl).front 10 rfl).front 10 rfl).front 10 rfl).front 10 rfl).dropAt 10),(haxM.trans (hax4.trans (hax5.trans ((Aux.drew _).trans (hax7.trans (hax8.trans (hax9.trans hax10))))))),(hleM.trans hle7),hle7⟩⟩
          ·
           refine go 1 ?_
           rintro b11 w11 Q11 (hg11:Good _ sM (Q11::Q5::V::P3.W::P3.S::P3.K::P3.B::P3.L::P3.T::P3.D::P3.X::(P3.E++os))) hax11 hb11
           refine go 2 ?_
           refine zc (RefConf_ct hg11 hRA.log (hno.fit.log.small (by omega)) (hno.fit.log.le_last (by omega))) ?_
           rintro v12 s12 B12 w12 hle12 (hg12:Good _ s12 (B12::Q11::Q5::V::P3.W::P3.S::P3.K::P3.B::P3.L::P3.T::P3.D::P3.X::(P3.E++os))) hax12 ⟨vs14,rfl,hC14⟩
           have hg12:=hg12.drop
           obtain⟨ua,uc,ub,ud,rfl,hua,hub⟩:=hC14
           refine go 5 ?_
           rintro w13 Q13 (hg13:Good _ s12 (Q13::Q5::V::P3.W::P3.S::P3.K::P3.B::P3.L::P3.T::P3.D::P3.X::(P3.E++os))) hax13 hb13
           refine go 10 ?_
           refine zw (In_ct hg13 hua) ?_
           rintro v14 w14 (hg14:Good _ s12 (Q13::Q5::V::P3.W::P3.S::P3.K::P3.B::P3.L::P3.T::P3.D::P3.X::(P3.E++os))) hax14 rfl
           refine go 3 ?_
           refine CW.cond rfl (fun h122=>?_) (fun h122=>?_)
           ·
            have hk3:W3.bag[x].kind=3:=by simpa using h98
            have hin:=hq3 (.inr hk3)
            rw[←hrq] at hin
            simp[hq2,hin] at h122
           ·
            refine go 1 ?_
            exact fun ac ha=>⟨[(2,.slice la l.length lc),(8,i64 ((k5+1:Nat):Int)),(9,ptr p),(11,.slice va vl.length vc),(12,i64 k),(15,i64 x),(16,ptr b4)],ha.sub ⟨rfl,rfl,rfl,rfl,rfl,rfl,rfl,trivial⟩,⟨_,rfl,(((((((((((hg14.front 10 rfl).front 10 rfl).front 10 rfl).front 10 rfl).front 10 rfl).front 10 rfl).front 10 rfl).front 10 rfl).front 10 rfl).front 10 rfl).dropAt 10),(haxM.trans (hax4.trans (hax5.trans ((Aux.drew _).trans (hax11.trans (hax12.trans (hax13.trans hax14))))))),(hleM.trans hle12),hle12⟩⟩
         ·
          refine go 5 ?_
          refine CW.cond rfl (fun h102=>?_) (fun h102=>?_)
          ·
           refine go 1 ?_
           have hg15:=hg5.drew
           refine CW.forks (.fork [(true,0),(true,1),(true,2),(true,3),(true,4),(true,5),(true,6),(true,7),(true,8),(true,9)] (.line [(false,10),(true,11),(true,12),(true,13),(false,14),(false,15),(false,16)]) (.line [(false,14),(false,10),(true,11),(true,12),(true,13),(false,15),(false,16)])) (fun w=>At1 p _ w∧At1 b4 _ w∧In P3.S w∧True) mixed (by kernel_rfl) (by kernel_rfl) (by kernel_rfl) (by kernel_rfl) (⟨hg15.at1 (by simp) hcX,hg15.at1 (by simp) hb5,hg15.mem (by simp),trivial⟩) ?_
           refine RT.pre (S:=fun w=>At1 p _ w∧At1 b4 _ w∧In P3.S w∧True) (⟨hg15.at1 (by simp) hcX,hg15.at1 (by simp) hb5,hg15.mem (by simp),trivial⟩) ?_
           refine go 7 ?_
           rw[show W3.bag[x].frm-1=((qn:Nat):Int) by omega]
           refine RL.idxL rfl rfl rfl rfl sl81.out rfl rfl hw3.S.lies (by omega) (by omega) ?_
           rintro q5 vs5 hvl5 hH5 ⟨hh,rfl,hRA⟩
           have hRA:RaftAt sM W3.s[qn] hh:=hRA
           have hH5:Holds P3.S q5 (raftV W3.s[qn] hh):=hH5
           have hrq:W3.s[qn]=rq:=(List.getElem?_eq_some_iff.1 hq1).2
           have hno:=hW3.node qn _ (List.getElem?_eq_getElem hql)
           refine go 1 ?_
           refine RL.loadsT (j:=4) (us:=(logV W3.s[qn].log hh)) rfl rfl rfl rfl ty33.out rfl (hH5) (fun w h=>h.2.2.1) rfl rfl ?_
           refine go 1 ?_
           refine RT.both (S:=fun w=>At1 p _ w∧At1 b4 _ w∧In P3.S w∧True) (⟨hg15.at1 (by simp) hcX,hg15.at1 (by simp) hb5,hg15.mem (by simp),trivial⟩) (RT.end_ (S:=fun w=>At1 p _ w∧At1 b4 _ w∧In P3.S w∧True) (⟨hg15.at1 (by simp) hcX,hg15.at1 (by simp) hb5,hg15.mem (by simp),trivial⟩) ?_) (RT.end_ (S:=fun w=>At1 p _ w∧At1 b4 _ w∧In P3.S w∧True) (⟨hg15.at1 (by simp) hcX,hg15.at1 (by simp) hb5,hg15.mem (by simp),trivial⟩) ?_)
           ·
            refine go 1 ?_
            refine zc (RefConf_ct hg15 hRA.log (hno.fit.log.small (by omega)) (hno.fit.log.le_last (by omega))) ?_
            rintro v16 s16 B16 w16 hle16 (hg16:Good _ s16 (B16::Q5::V::P3.W::P3.S::P3.K::P3.B::P3.L::P3.T::P3.D::P3.X::(P3.E++os))) hax16 ⟨vs14,rfl,hC14⟩
            have hg16:=hg16.drop
            obtain⟨ua,uc,ub,ud,rfl,hua,hub⟩:=hC14
            refine go 5 ?_
            rintro b17 w17 Q17 (hg17:Good _ s16 (Q17::Q5::V::P3.W::P3.S::P3.K::P3.B::P3.L::P3.T::P3.D::P3.X::(P3.E++os))) hax17 hb17
            refine go 2 ?_
            rintro w18 Q18 (hg18:Good _ s16 (Q18::Q5::V::P3.W::P3.S::P3.K::P3.B::P3.L::P3.T::P3.D::P3.X::(P3.E++os))) hax18 hb18
            refine go 10 ?_
            refine zw (In_ct hg18 hua) ?_
            rintro v19 w19 (hg19:Good _ s16 (Q18::Q5::V::P3.W::P3.S::P3.K::P3.B::P3.L::P3.T::P3.D::P3.X::(P3.E++os))) hax19 rfl
            refine go 3 ?_
            refine CW.cond rfl (fun h122=>?_) (fun h122=>?_)
            ·
             have hk3:W3.bag[x].kind=1:=by simpa using h102
             have hin:=hq3 (.inl hk3)
             rw[←hrq] at hin
             simp[hq2,hin] at h122
            ·
             refine go 1 ?_
             exact fun ac ha=>⟨[(2,.slice la l.length lc),(8,i64 ((k5+1:Nat):Int)),(9,ptr p),(11,.slice va vl.length vc),(12,i64 k),(15,i64 x),(16,ptr b4)],ha.sub ⟨rfl,rfl,rfl,rfl,rfl,rfl,rfl,trivial⟩,⟨_,rfl,(((((((((((hg19.front 10 rfl).front 10 rfl).front 10 rfl).front 10 rfl).front 10 rfl).front 10 rfl).front 10 rfl).front 10 rfl).front 10 rfl).front 10 rfl).dropAt 10),(haxM.trans (hax4.trans (hax5.trans ((Aux.drew _).trans (hax16.trans (hax17.trans (hax18.trans hax19))))))),(hleM.trans hle16),hle16⟩⟩
           ·
            refine go 1 ?_
            rintro b20 w20 Q20 (hg20:Good _ sM (Q20::Q5::V::P3.W::P3.S::P3.K::P3.B::P3.L::P3.T::P3.D::P3.X::(P3.E++os))) hax20 hb20
            refine go 2 ?_
            refine zc (RefConf_ct hg20 hRA.log (hno.fit.log.small (by omega)) (hno.fit.log.le_last (by omega))) ?_
            rintro v21 s21 B21 w21 hle21 (hg21:Good _ s21 (B21::Q20::Q5::V::P3.W::P3.S::P3.K::P3.B::P3.L::P3.T::P3.D::P3.X::(P3.E++os))) hax21 ⟨vs14,rfl,hC14⟩
            have hg21:=hg21.drop
            obtain⟨ua,uc,ub,ud,rfl,hua,hub⟩:=hC14
            refine go 5 ?_
            rintro w22 Q22 (hg22:Good _ s21 (Q22::Q5::V::P3.W::P3.S::P3.K::P3.B::P3.L::P3.T::P3.D::P3.X::(P3.E++os))) hax22 hb22
            refine go 10 ?_
            refine zw (In_ct hg22 hua) ?_
            rintro v23 w23 (hg23:Good _ s21 (Q22::Q5::V::P3.W::P3.S::P3.K::P3.B::P3.L::P3.T::P3.D::P3.X::(P3.E++os))) hax23 rfl
            refine go 3 ?_
            refine CW.cond rfl (fun h122=>?_) (fun h122=>?_)
            ·
             have hk3:W3.bag[x].kind=1:=by simpa using h102
             have hin:=hq3 (.inl hk3)
             rw[←hrq] at hin
             simp[hq2,hin] at h122
            ·
             refine go 1 ?_
             exact fun ac ha=>⟨[(2,.slice la l.length lc),(8,i64 ((k5+1:Nat):Int)),(9,ptr p),(11,.slice va vl.length vc),(12,i64 k),(15,i64 x),(16,ptr b4)],ha.sub ⟨rfl,rfl,rfl,rfl,rfl,rfl,rfl,trivial⟩,⟨_,rfl,(((((((((((hg23.front 10 rfl).front 10 rfl).front 10 rfl).front 10 rfl).front 10 rfl).front 10 rfl).front 10 rfl).front 10 rfl).front 10 rfl).front 10 rfl).dropAt 10),(haxM.trans (hax4.trans (hax5.trans ((Aux.drew _).trans (hax20.trans (hax21.trans (hax22.trans hax23))))))),(hleM.trans hle21),hle21⟩⟩
          ·
           refine go 1 ?_
           exact fun ac ha=>⟨[(2,.slice la l.length lc),(8,i64 ((k5+1:Nat):Int)),(9,ptr p),(11,.slice va vl.length vc),(12,i64 k),(15,i64 x),(16,ptr b4)],ha.sub ⟨rfl,rfl,rfl,rfl,rfl,rfl,rfl,trivial⟩,⟨_,rfl,((((((((((hg5.front 9 rfl).front 9 rfl).front 9 rfl).front 9 rfl).front 9 rfl).front 9 rfl).front 9 rfl).front 9 rfl).front 9 rfl).front 9 rfl),(haxM.trans (hax4.trans hax5)),hleM,(Le.refl _)⟩⟩
        rintro E20 w20 ⟨s20,rfl,hgP,haxP,hleP,hleQ⟩
        have hw3:=hw3.up hleQ
        have hoV:=hoV.up RGave.up hleQ
        refine go 7 ?_
        refine RL.part 126 rfl (fun h126=>?_) (fun h126=>?_)
        ·
         refine go 11 ?_
         cases j1 with
         | zero=>omega
         | succ j1=>exact fun ac ha=>⟨j1,[(2,.slice la l.length lc),(8,i64 ((k5+1:Nat):Int)),(9,ptr p),(11,.slice va vl.length vc),(12,i64 k),(15,i64 ((x:Int)+1))],ha.sub ⟨rfl,rfl,rfl,rfl,rfl,rfl,trivial⟩,⟨_,V,va,vc,vl,x+1,((((((((((hgP.front 9 rfl).front 9 rfl).front 9 rfl).front 9 rfl).front 9 rfl).front 9 rfl).front 9 rfl).front 9 rfl).front 9 rfl).dropAt 9),haxP,hleP,hleN.trans hleQ,rfl,by omega,by omega,hoV,hGv,by (try simp only[List.length_append,List.length_singleton]);omega⟩,Nat.lt_succ_self j1⟩
        ·
         refine go 4 ?_
         refine CW.cond rfl (fun h129=>?_) (fun h129=>?_)
         ·
          refine go 6 ?_
          cases j1 with
          | zero=>omega
          | succ j1=>exact fun ac ha=>⟨j1,[(2,.slice la l.length lc),(8,i64 ((k5+1:Nat):Int)),(9,ptr p),(11,.slice va vl.length vc),(12,i64 k),(15,i64 ((x:Int)+1))],ha.sub ⟨rfl,rfl,rfl,rfl,rfl,rfl,trivial⟩,⟨_,V,va,vc,vl,x+1,((((((((((hgP.front 9 rfl).front 9 rfl).front 9 rfl).front 9 rfl).front 9 rfl).front 9 rfl).front 9 rfl).front 9 rfl).front 9 rfl).dropAt 9),haxP,hleP,hleN.trans hleQ,rfl,by omega,by omega,hoV,hGv,by (try simp only[List.length_append,List.length_singleton]);omega⟩,Nat.lt_succ_self j1⟩
         ·
          refine go 11 ?_
          rintro b24 w24 Q24 (hg24:Good _ s20 (Q24::Q5::V::P3.W::P3.S::P3.K::P3.B::P3.L::P3.T::P3.D::P3.X::(P3.E++os))) hax24 hb24
          refine go 2 ?_
          rintro w25 Q25 (hg25:Good _ s20 (Q25::Q5::V::P3.W::P3.S::P3.K::P3.B::P3.L::P3.T::P3.D::P3.X::(P3.E++os))) hax25 hb25
          refine go 8 ?_
          have hk4:W3.bag[x].kind=4:=by simpa using h126
          have hrj:W3.bag[x].reject=false:=by simpa using h129
          have hvo:=hmi.1.voted hk4 hrj
          have hc19:=hb25
          refine CW.loop (σ:=Nat) (fun j E w'=>∃ y:Nat,Good w' s20 (Q25::V::P3.W::P3.S::P3.K::P3.B::P3.L::P3.T::P3.D::P3.X::(P3.E++os))∧Aux w w'∧E=[(2,.slice la l.length lc),(8,i64 ((k5+1:Nat):Int)),(9,ptr p),(11,.slice va vl.length vc),(12,i64 k),(15,i64 x),(19,ptr b24),(20,i64 y)]∧y+j=vl.length) (fun j=>j) vl.length [(2,.slice la l.length lc),(8,i64 ((k5+1:Nat):Int)),(9,ptr p),(11,.slice va vl.length vc),(12,i64 k),(15,i64 x),(19,ptr b24),(20,i64 0)] ⟨rfl,rfl,rfl,rfl,rfl,rfl,rfl,rfl,trivial⟩ ⟨0,(((((((((((hg25.front 10 rfl).front 10 rfl).front 10 rfl).front 10 rfl).front 10 rfl).front 10 rfl).front 10 rfl).front 10 rfl).front 10 rfl).front 9 rfl).dropAt 10),(haxP.trans (hax24.trans hax25)),rfl,by omega⟩ ?_
          rintro j2 E wN ⟨y2,hgN,haxN,rfl,hy2⟩
          refine go 8 ?_
          refine CW.cond rfl (fun h140=>?_) (fun h140=>?_)
          ·
           have hlt2:y2<vl.length:=by have h9:(y2:Int)<(vl.length:Int):=decide_t h140;omega
           refine go 4 ?_
           have hg26:=hgN.drew
           refine CW.dw [1,3,5,7,9,11,13,15,17,19,21,23,25,27,29,31,33,35,37,39,41,43,45,47,49,51,53,55] (fun w=>At1 b24 _ w∧In V w∧True) ?_
           refine go 2 ?_
           refine RL.idxL rfl rfl rfl rfl sl80.out rfl rfl hoV.lies (by omega) (by omega) ?_
           rintro q6 vs6 hvl6 hH6 ⟨rfl,hr1,hr2,hr3⟩
           refine go 1 ?_
           refine RL.loadT (j:=0) rfl rfl rfl rfl ty3.out rfl (hH6) (fun w h=>h.2.1) rfl ?_
           refine go 4 ?_
           refine RL.part 151 rfl (fun h151=>?_) (fun h151=>?_)
           ·
            refine go 2 ?_
            refine RL.idxL rfl rfl rfl rfl sl80.out rfl rfl hoV.lies (by omega) (by omega) ?_
            rintro q7 vs7 hvl7 hH7 ⟨rfl,_⟩
            refine go 1 ?_
            refine RL.loadT (j:=2) rfl rfl rfl rfl ty22.out rfl (hH7) (fun w h=>h.2.1) rfl ?_
            refine go 5 ?_
            refine RL.part 161 rfl (fun h161=>?_) (fun h161=>?_)
            ·
             refine go 2 ?_
             refine RL.idxL rfl rfl rfl rfl sl80.out rfl rfl hoV.lies (by omega) (by omega) ?_
             rintro q8 vs8 hvl8 hH8 ⟨rfl,_⟩
             refine go 1 ?_
             refine RL.loadT (j:=1) rfl rfl rfl rfl ty3.out rfl (hH8) (fun w h=>h.2.1) rfl ?_
             refine go 5 ?_
             refine CW.cond rfl (fun h170=>?_) (fun h170=>?_)
             ·
              have e1:vl[y2].1=W3.bag[x].frm:=by simpa using h151
              have e2:vl[y2].2.2=W3.bag[x].term:=by simpa using h161
              have e3:=(hGv _ (List.getElem_mem hlt2)).1
              rw[e1,e2,hvo.1] at e3
              simp[e3] at h170
             ·
              refine go 6 ?_
              cases j2 with
              | zero=>omega
              | succ j2=>exact fun ac ha=>⟨j2,[(2,.slice la l.length lc),(8,i64 ((k5+1:Nat):Int)),(9,ptr p),(11,.slice va vl.length vc),(12,i64 k),(15,i64 x),(19,ptr b24),(20,i64 ((y2:Int)+1))],ha.sub ⟨rfl,rfl,rfl,rfl,rfl,rfl,rfl,rfl,trivial⟩,⟨y2+1,((((((((((hg26.front 9 rfl).front 9 rfl).front 9 rfl).front 9 rfl).front 9 rfl).front 9 rfl).front 9 rfl).front 9 rfl).front 9 rfl).front 9 rfl),(haxN.trans (Aux.drew _)),rfl,by omega⟩,Nat.lt_succ_self j2⟩
            ·
             refine go 17 ?_
             cases j2 with
             | zero=>omega
             | succ j2=>exact fun ac ha=>⟨j2,[(2,.slice la l.length lc),(8,i64 ((k5+1:Nat):Int)),(9,ptr p),(11,.slice va vl.length vc),(12,i64 k),(15,i64 x),(19,ptr b24),(20,i64 ((y2:Int)+1))],ha.sub ⟨rfl,rfl,rfl,rfl,rfl,rfl,rfl,rfl,trivial⟩,⟨y2+1,((((((((((hg26.front 9 rfl).front 9 rfl).front 9 rfl).front 9 rfl).front 9 rfl).front 9 rfl).front 9 rfl).front 9 rfl).front 9 rfl).front 9 rfl),(haxN.trans (Aux.drew _)),rfl,by omega⟩,Nat.lt_succ_self j2⟩
           ·
            refine go 27 ?_
            cases j2 with
            | zero=>omega
            | succ j2=>exact fun ac ha=>⟨j2,[(2,.slice la l.length lc),(8,i64 ((k5+1:Nat):Int)),(9,ptr p),(11,.slice va vl.length vc),(12,i64 k),(15,i64 x),(19,ptr b24),(20,i64 ((y2:Int)+1))],ha.sub ⟨rfl,rfl,rfl,rfl,rfl,rfl,rfl,rfl,trivial⟩,⟨y2+1,((((((((((hg26.front 9 rfl).front 9 rfl).front 9 rfl).front 9 rfl).front 9 rfl).front 9 rfl).front 9 rfl).front 9 rfl).front 9 rfl).front 9 rfl),(haxN.trans (Aux.drew _)),rfl,by omega⟩,Nat.lt_succ_self j2⟩
          ·
           refine go 5 ?_
           rintro b27 w27 Q27 (hg27:Good _ s20 (Q27::Q25::V::P3.W::P3.S::P3.K::P3.B::P3.L::P3.T::P3.D::P3.X::(P3.E++os))) hax27 hb27
           refine go 1 ?_
           obtain⟨news28,hsrc28,hch28⟩:=(one_news (R:=RGave) (xs:=[(W3.bag[x].frm,W3.bag[x].to,W3.bag[x].term)]) sl80.out hb27 (hg27.mem (by simp)) (Chunks.single rfl ⟨rfl,hm.frm,hm.to,hm.term⟩))
           refine RL.append2 (i:=2) (xs:=vl) (ys:=[(W3.bag[x].frm,W3.bag[x].to,W3.bag[x].term)]) rfl rfl rfl rfl sl80.out ze90.out rfl RGave.one (rfl) rfl hg27 rfl (hoV) hsrc28 hch28 ((by simp only[List.length_singleton];omega)) (by omega) ?_
           rintro a28 c28 A28 w28 (hg28:Good _ s20 (Q27::Q25::A28::P3.W::P3.S::P3.K::P3.B::P3.L::P3.T::P3.D::P3.X::(P3.E++os))) ho28 hax28 hk28 hn28
           have hoG:=ho28
           refine go 8 ?_
           cases j1 with
           | zero=>omega
           | succ j1=>exact fun ac ha=>⟨j1,[(2,.slice la l.length lc),(8,i64 ((k5+1:Nat):Int)),(9,ptr p),(11,.slice _ (vl++[(W3.bag[x].frm,W3.bag[x].to,W3.bag[x].term)]).length _),(12,i64 k),(15,i64 ((x:Int)+1))],ha.sub ⟨rfl,rfl,rfl,rfl,rfl,rfl,trivial⟩,⟨_,_,_,_,_,x+1,(((((((((((hg28.front 10 rfl).front 10 rfl).front 10 rfl).front 10 rfl).front 10 rfl).front 10 rfl).front 10 rfl).front 10 rfl).front 10 rfl).dropAt 9).dropAt 9),(haxN.trans (hax27.trans hax28)),hleP,hleN.trans hleQ,rfl,by omega,by omega,hoG,hGv.add hvo,by (try simp only[List.length_append,List.length_singleton]);omega⟩,Nat.lt_succ_self j1⟩
     ·
      refine go 6 ?_
      cases j with
      | zero=>omega
      | succ j=>exact fun ac ha=>⟨j,[(2,.slice la l.length lc),(8,i64 ((k5+1:Nat):Int)),(9,ptr p),(11,.slice va vl.length vc),(12,i64 ((k:Int)+1))],ha.sub ⟨rfl,rfl,rfl,rfl,rfl,trivial⟩,⟨_,P3,a3,W3,g3,V,va,vc,vl,k+1,(((((((((hgM.front 8 rfl).front 8 rfl).front 8 rfl).front 8 rfl).front 8 rfl).front 8 rfl).front 8 rfl).front 8 rfl).front 8 rfl),haxM,hleM,rfl,by omega,by omega,hw3,hd3.inv,by omega,by omega,by omega,hoV,hGv,by omega⟩,Nat.lt_succ_self j⟩
    ·
     refine go 5 ?_
     refine CW.ret (zr1 ?_)
     exact Post.mq (Good.dropL (((((((((hgL.drop).drop).drop).drop).drop).drop).drop).drop).drop)).nil rfl
   ·
    refine go 10 ?_
    refine CW.ret (zr1 ?_)
    exact Post.mq (Good.dropL (((((((((hgL.drop).drop).drop).drop).drop).drop).drop).drop).drop)).nil rfl
end
end Go.Lw
