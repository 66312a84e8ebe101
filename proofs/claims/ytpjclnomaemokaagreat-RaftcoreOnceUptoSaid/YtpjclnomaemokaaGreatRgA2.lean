/-
  Parts of the proof of the laws RaftcoreSafeUptoSaid, RaftcoreOnceUptoSaid: SortB, SortC, SortD, SortE, SortF, SortG, SortH, QuorumG, SlBs, QuorumH, QuorumI, SlFn, Rules8, SlMk, SlIn, RcA, RcB, RcC, RcD, RcE, RcF, RcG, KcT, KcQ, RowM, KcN, KcC.
-/
import Derived.Test.YtpjclnomaemokaaGreatRgA1
import Derived.Shelf.SortM.So_math_bits_LenIn
import Derived.Sort.EveryDepth
import Derived.Sort.WalkA14
import Derived.Sort.LotD1
import Derived.Sort.LotD3
import Derived.Laws.MakeOwn
import Derived.Laws.Externs
import Derived.Lib.Overlaps
set_option maxRecDepth 100000
set_option maxHeartbeats 16000000
set_option linter.all false
namespace Go.Lw
open Go.Proofs
open Go.Sort (swp size_swp)
theorem reverse_step {i j:Nat} {d:Array Int} (h:i<j):Go.Sort.reverseLoop i j d=Go.Sort.reverseLoop (i+1) (j-1) (swp d i j):=by rw[Go.Sort.reverseLoop,if_pos h]
theorem reverse_end {i j:Nat} {d:Array Int} (h:¬ i<j):Go.Sort.reverseLoop i j d=d:=by rw[Go.Sort.reverseLoop,if_neg h]
theorem reverseRange_ct {w:World} {s A:Res} {os:List Res} {g n c a b:Nat} {rest:List Value} {d:Array Int} (hg:Good w s (A::os)) (hrow:RowAt A g rest d) (hn:d.size=n) (hb:b≤n) (hab:a<b) (hsz:n<4611686018427387904) :
  Calls Tryz.prog 195 #[.slice (some ⟨g,0,none⟩) n c,i64 a,i64 b] w (SPost w s os g rest (Go.Sort.reverseRange d a b)):=by
 refine enter (l:=[.slice (some ⟨g,0,none⟩) n c,i64 a,i64 b]) Tryz.func195 rfl Tryz.ntmps195 rfl ?_
 refine go 11 ?_
 refine CW.block (CW.loop (σ:=Nat) (fun k E w'=>∃ A' dk i j,Good w' s (A'::os)∧Aux w w'∧RowAt A' g rest dk∧dk.size=n∧i≤j+1∧j<n∧j-i≤k∧Go.Sort.reverseRange d a b=Go.Sort.reverseLoop i j dk∧E=[(0,.slice (some ⟨g,0,none⟩) n c),(6,i64 (i:Nat)),(7,i64 (j:Nat))])
  (fun k=>k) n [(0,.slice (some ⟨g,0,none⟩) n c),(6,i64 a),(7,i64 ((b-1:Nat):Int))] ⟨rfl,rfl,congrArg (fun z=>some (i64 z)) (by omega),trivial⟩ ⟨A,d,a,b-1,hg,Aux.refl _,hrow,hn,by omega,by omega,by omega,rfl,rfl⟩ ?_)
 rintro k E w1 ⟨A1,d1,i,j,hg,hax1,hrow,hn1,hij,hjn,hk,heq,rfl⟩
 refine CW.seq (CW.seq (CW.plain ?_))
 refine go 4 ?_
 refine CW.test rfl (fun h=>?_) (fun h=>?_)
 ·
  refine CW.skip ?_
  refine go 1 ?_
  refine CW.meet (fun E' w'=>∃ A',Good w' s (A'::os)∧Aux w w'∧RowAt A' g rest (swp d1 i j)∧E'=[(0,.slice (some ⟨g,0,none⟩) n c),(6,i64 (i:Nat)),(7,i64 (j:Nat))]) ?_ ?_
  ·
   refine CW.forks (.fork [(true,0),(true,1),(true,2),(true,3),(true,4),(true,5),(true,6),(true,8),(true,9),(true,10)] (.line [(false,7),(false,11),(true,12),(false,13),(true,14),(false,15)]) (.line [(false,11),(false,7),(true,12),(false,13),(true,14),(false,15)])) (fun _=>True) mixed (by kernel_rfl) (by kernel_rfl) (by kernel_rfl) (by kernel_rfl) trivial ?_
   refine RT.pre trivial ?_
   refine go 6 ?_
   refine RL.idxR (j) rfl rfl rfl rfl sl83.out rfl rfl (by omega) (by omega) ?_
   refine go 2 ?_
   refine RL.idxR (i) rfl rfl rfl rfl sl83.out rfl rfl (by omega) (by omega) ?_
   refine go 1 ?_
   refine RT.both (S:=fun _=>True) trivial (RT.end_ (S:=fun _=>True) trivial ?_) (RT.end_ (S:=fun _=>True) trivial ?_)
   ·
    refine RL.loadR (j) rfl rfl rfl rfl ty22.out rfl hrow hg.drew.1 (by omega) ?_
    refine RL.loadR (i) rfl rfl rfl rfl ty22.out rfl hrow hg.drew.1 (by omega) ?_
    refine RL.idxR (i) rfl rfl rfl rfl sl83.out rfl rfl (by omega) (by omega) ?_
    refine RL.storeR (i) rfl rfl rfl ty22.out rfl rfl hg.drew hrow (by omega) ?_
    intro ws1 As1 hgs1 haxs1 hrows1
    refine go 1 ?_
    refine RL.idxR (j) rfl rfl rfl rfl sl83.out rfl rfl (by omega) (by omega) ?_
    refine RL.storeR (j) rfl rfl rfl ty22.out rfl rfl hgs1 hrows1 (by simp;omega) ?_
    intro ws2 As2 hgs2 haxs2 hrows2
    refine go 2 ?_
    exact fun ac ha=>⟨_,ha.sub (E':=[(0,.slice (some ⟨g,0,none⟩) n c),(6,i64 (i:Nat)),(7,i64 (j:Nat))]) ⟨rfl,rfl,rfl,trivial⟩,As2,hgs2,hax1.trans ((Aux.drew _).trans (haxs1.trans haxs2)),hrows2,rfl⟩
   ·
    refine RL.loadR (i) rfl rfl rfl rfl ty22.out rfl hrow hg.drew.1 (by omega) ?_
    refine RL.loadR (j) rfl rfl rfl rfl ty22.out rfl hrow hg.drew.1 (by omega) ?_
    refine RL.idxR (i) rfl rfl rfl rfl sl83.out rfl rfl (by omega) (by omega) ?_
    refine RL.storeR (i) rfl rfl rfl ty22.out rfl rfl hg.drew hrow (by omega) ?_
    intro ws1 As1 hgs1 haxs1 hrows1
    refine go 1 ?_
    refine RL.idxR (j) rfl rfl rfl rfl sl83.out rfl rfl (by omega) (by omega) ?_
    refine RL.storeR (j) rfl rfl rfl ty22.out rfl rfl hgs1 hrows1 (by simp;omega) ?_
    intro ws2 As2 hgs2 haxs2 hrows2
    refine go 2 ?_
    exact fun ac ha=>⟨_,ha.sub (E':=[(0,.slice (some ⟨g,0,none⟩) n c),(6,i64 (i:Nat)),(7,i64 (j:Nat))]) ⟨rfl,rfl,rfl,trivial⟩,As2,hgs2,hax1.trans ((Aux.drew _).trans (haxs1.trans haxs2)),hrows2,rfl⟩
  ·
   rintro E' w5 ⟨A5,hg5,hax5,hrow5,rfl⟩
   refine go 11 ?_
   have hij':i<j:=by omega
   refine fun ac ha=>⟨k-1,[(0,.slice (some ⟨g,0,none⟩) n c),(6,i64 ((i+1:Nat):Int)),(7,i64 ((j-1:Nat):Int))],ha.sub ⟨rfl,rfl,congrArg (fun z=>some (i64 z)) (by omega),trivial⟩,⟨A5,_,i+1,j-1,hg5,hax5,hrow5,by rw[size_swp];exact hn1,by omega,by omega,by omega,by rw[heq];exact reverse_step hij',rfl⟩,by omega⟩
 ·
  refine CW.exit ?_
  refine fall (vs:=[]) rfl (Post.mk (Le.refl _) hg hax1 ⟨rfl,rfl,?_⟩)
  rw[heq,reverse_end (by omega)]
  exact hrow
def sc (hi first root:Nat) (d:Array Int):Nat:=if 2*root+1+1<hi∧ltI d[first+(2*root+1)]! d[first+(2*root+1)+1]! = true then 2*root+2 else 2*root+1
theorem sift_eq {hi first root ch:Nat} {d:Array Int} (h:2*root+1<hi) (hs:sc hi first root d=ch):Go.Sort.siftDown ltI hi first root d=if ltI d[first+root]! d[first+ch]! = true then Go.Sort.siftDown ltI hi first ch (swp d (first+root) (first+ch)) else d:=by
 rw[Go.Sort.siftDown,dif_neg (by omega)]
 unfold sc at hs
 by_cases hc:2*root+1+1<hi∧ltI d[first+(2*root+1)]! d[first+(2*root+1)+1]! = true
 ·
  rw[if_pos hc] at hs
  rw[if_pos (by simpa using hc)]
  subst hs
  have h2:2*root+2<hi:=by omega
  cases hl:ltI d[first+root]! d[first+(2*root+2)]! <;> simp[h2]
 ·
  rw[if_neg hc] at hs
  rw[if_neg (by simpa using hc)]
  subst hs
  cases hl:ltI d[first+root]! d[first+(2*root+1)]! <;> simp
theorem sift_end {hi first root:Nat} {d:Array Int} (h:hi≤2*root+1):Go.Sort.siftDown ltI hi first root d=d:=by rw[Go.Sort.siftDown,dif_pos (by omega)]
theorem siftDown_ct {w:World} {s A:Res} {os:List Res} {g n c lo hi first:Nat} {rest:List Value} {d:Array Int} (hg:Good w s (A::os)) (hrow:RowAt A g rest d) (hn:d.size=n) (hb:first+hi≤n) (hlo:lo≤n) (hsz:n<2305843009213693952) :
  Calls Tryz.prog 206 #[.slice (some ⟨g,0,none⟩) n c,i64 lo,i64 hi,i64 first] w (SPost w s os g rest (Go.Sort.siftDown ltI hi first lo d)):=by
 refine enter (l:=[.slice (some ⟨g,0,none⟩) n c,i64 lo,i64 hi,i64 first]) Tryz.func206 rfl Tryz.ntmps206 rfl ?_
 refine go 5 ?_
 refine CW.block (CW.loop (σ:=Nat) (fun k E w'=>∃ A' dk r,Good w' s (A'::os)∧Aux w w'∧RowAt A' g rest dk∧dk.size=n∧r≤n∧hi-r≤k∧Go.Sort.siftDown ltI hi first lo d=Go.Sort.siftDown ltI hi first r dk∧E=[(0,.slice (some ⟨g,0,none⟩) n c),(2,i64 hi),(3,i64 first),(8,i64 (r:Nat))])
  (fun k=>k) n [(0,.slice (some ⟨g,0,none⟩) n c),(2,i64 hi),(3,i64 first),(8,i64 lo)] ⟨rfl,rfl,rfl,rfl,trivial⟩ ⟨A,d,lo,hg,Aux.refl _,hrow,hn,hlo,by omega,rfl,rfl⟩ ?_)
 rintro k E w1 ⟨A1,d1,r,hg1,hax1,hrow,hn1,hrn,hk,heq,rfl⟩
 refine CW.block (CW.seq (CW.plain ?_))
 refine go 1 ?_
 refine RL.mul rfl rfl rfl rfl rfl rfl ((by simp only[rng];omega)) ?_
 refine go 3 ?_
 refine CW.seq (CW.seq (CW.plain ?_))
 refine go 4 ?_
 refine CW.test rfl (fun h=>?_) (fun h=>?_)
 ·
  refine CW.exit ?_
  refine fall (vs:=[]) rfl (Post.mk (Le.refl _) hg1 hax1 ⟨rfl,rfl,?_⟩)
  rw[heq,sift_end (by omega)]
  exact hrow
 ·
  refine CW.skip ?_
  have hch:2*r+1<hi:=by omega
  refine CW.meet (fun E' w'=>∃ ch,ch=sc hi first r d1∧r<ch∧ch<hi∧Good w' s (A1::os)∧Aux w w'∧E'=[(0,.slice (some ⟨g,0,none⟩) n c),(2,i64 hi),(3,i64 first),(8,i64 (r:Nat)),(9,i64 (ch:Nat))]) ?_ ?_
  ·
   refine CW.seq ?_
   refine CW.draws [(true,0),(true,1),(true,2),(true,3),(true,4),(true,5),(true,6),(true,7),(true,8),(true,9),(true,10),(true,11),(true,12),(true,13),(true,14),(true,15),(true,16),(true,17),(false,18),(true,19)] (fun w'=>Good w' s (A1::os)) mixed (by kernel_rfl) (by kernel_rfl) (by kernel_rfl) (by kernel_rfl) hg1.drew ?_
   refine go 5 ?_
   refine RL.part 21 rfl (fun hc=>?_) (fun hc=>?_)
   ·
    have h2:2*r+2<hi:=by have:=of_decide_eq_true hc;omega
    refine go 4 ?_
    refine RL.idxR (first+(2*r+1)) rfl rfl rfl rfl sl83.out rfl rfl (by omega) (by omega) ?_
    refine RL.loadRT (first+(2*r+1)) rfl rfl rfl rfl ty22.out rfl hrow (fun w h=>h.1) (by omega) ?_
    refine go 5 ?_
    refine RL.idxR (first+(2*r+1)+1) rfl rfl rfl rfl sl83.out rfl rfl (by omega) (by omega) ?_
    refine RL.loadRT (first+(2*r+1)+1) rfl rfl rfl rfl ty22.out rfl hrow (fun w h=>h.1) (by omega) ?_
    refine go 1 ?_
    refine zw (Less_ct hg1.drew) ?_
    rintro v w3 hg3 hax3 rfl
    refine⟨hg3,?_⟩
    refine go 2 ?_
    refine CW.cond rfl (fun hl=>?_) (fun hl=>?_)
    ·
     refine CW.plain ?_
     refine go 4 ?_
     refine fun ac ha=>⟨_,ha.sub (E':=[(0,.slice (some ⟨g,0,none⟩) n c),(2,i64 hi),(3,i64 first),(8,i64 (r:Nat)),(9,i64 ((2*r+2:Nat):Int))]) ⟨rfl,rfl,rfl,rfl,congrArg (fun z=>some (i64 z)) (by omega),trivial⟩,_,by rw[sc,if_pos ⟨by omega,hl⟩],by omega,by omega,hg3,hax1.trans ((Aux.drew _).trans hax3),rfl⟩
    ·
     refine CW.skip (fun ac ha=>⟨_,ha.sub (E':=[(0,.slice (some ⟨g,0,none⟩) n c),(2,i64 hi),(3,i64 first),(8,i64 (r:Nat)),(9,i64 ((2*r+1:Nat):Int))]) ⟨rfl,rfl,rfl,rfl,congrArg (fun z=>some (i64 z)) (by omega),trivial⟩,_,?_,by omega,by omega,hg3,hax1.trans ((Aux.drew _).trans hax3),rfl⟩)
     rw[sc,if_neg (fun hh=>by rw[hh.2] at hl;cases hl)]
   ·
    have h2:¬ 2*r+2<hi:=by have:=of_decide_eq_false hc;omega
    refine go 16 ?_
    refine CW.no rfl ?_
    refine CW.skip (fun ac ha=>⟨_,ha.sub (E':=[(0,.slice (some ⟨g,0,none⟩) n c),(2,i64 hi),(3,i64 first),(8,i64 (r:Nat)),(9,i64 ((2*r+1:Nat):Int))]) ⟨rfl,rfl,rfl,rfl,congrArg (fun z=>some (i64 z)) (by omega),trivial⟩,_,?_,by omega,by omega,hg1.drew,hax1.trans (Aux.drew _),rfl⟩)
    rw[sc,if_neg (fun hh=>h2 hh.1)]
  ·
   rintro E' w4 ⟨ch,hsc,hrc,hchh,hg,hax4,rfl⟩
   refine CW.seq (CW.seq ?_)
   refine CW.draws [(true,0),(true,1),(true,2),(true,3),(true,4),(true,5),(true,6),(true,7),(true,8),(true,9),(true,10),(true,11),(false,12),(true,13)] (fun w'=>Good w' s (A1::os)) mixed (by kernel_rfl) (by kernel_rfl) (by kernel_rfl) (by kernel_rfl) hg.drew ?_
   refine go 4 ?_
   refine RL.idxR (first+r) rfl rfl rfl rfl sl83.out rfl rfl (by omega) (by omega) ?_
   refine RL.loadRT (first+r) rfl rfl rfl rfl ty22.out rfl hrow (fun w h=>h.1) (by omega) ?_
   refine go 4 ?_
   refine RL.idxR (first+ch) rfl rfl rfl rfl sl83.out rfl rfl (by omega) (by omega) ?_
   refine RL.loadRT (first+ch) rfl rfl rfl rfl ty22.out rfl hrow (fun w h=>h.1) (by omega) ?_
   refine go 1 ?_
   refine zw (Less_ct hg.drew) ?_
   rintro v w5 hg5 hax5 rfl
   refine⟨hg5,?_⟩
   refine go 2 ?_
   refine CW.cond rfl (fun hl=>?_) (fun hl=>?_)
   ·
    have hl':ltI d1[first+r]! d1[first+ch]! = false:=by simpa using hl
    refine CW.ret (ret (vs:=[]) rfl (Post.mk (Le.refl _) hg5 (hax4.trans ((Aux.drew _).trans hax5)) ⟨rfl,rfl,?_⟩))
    rw[heq,sift_eq hch hsc.symm,hl',if_neg (by simp)]
    exact hrow
   ·
    have hl':ltI d1[first+r]! d1[first+ch]! = true:=by simpa using hl
    refine go 1 ?_
    have hg:=hg5
    refine CW.meet (fun E' w'=>∃ A',Good w' s (A'::os)∧Aux w w'∧RowAt A' g rest (swp d1 (first+r) (first+ch))∧E'=[(0,.slice (some ⟨g,0,none⟩) n c),(2,i64 hi),(3,i64 first),(9,i64 (ch:Nat))]) ?_ ?_
    ·
     refine CW.forks (.fork [(true,0),(true,1),(true,2),(true,3),(true,4),(true,5),(true,6),(true,7),(true,8),(true,9),(true,10),(true,11),(true,12),(true,14),(true,15),(true,16),(true,17),(true,18)] (.line [(false,13),(false,19),(true,20),(false,21),(true,22),(false,23)]) (.line [(false,19),(false,13),(true,20),(false,21),(true,22),(false,23)])) (fun _=>True) mixed (by kernel_rfl) (by kernel_rfl) (by kernel_rfl) (by kernel_rfl) trivial ?_
     refine RT.pre trivial ?_
     refine go 12 ?_
     refine RL.idxR (first+ch) rfl rfl rfl rfl sl83.out rfl rfl (by omega) (by omega) ?_
     refine go 4 ?_
     refine RL.idxR (first+r) rfl rfl rfl rfl sl83.out rfl rfl (by omega) (by omega) ?_
     refine go 1 ?_
     refine RT.both (S:=fun _=>True) trivial (RT.end_ (S:=fun _=>True) trivial ?_) (RT.end_ (S:=fun _=>True) trivial ?_)
     ·
      refine RL.loadR (first+ch) rfl rfl rfl rfl ty22.out rfl hrow hg.drew.1 (by omega) ?_
      refine RL.loadR (first+r) rfl rfl rfl rfl ty22.out rfl hrow hg.drew.1 (by omega) ?_
      refine RL.idxR (first+r) rfl rfl rfl rfl sl83.out rfl rfl (by omega) (by omega) ?_
      refine RL.storeR (first+r) rfl rfl rfl ty22.out rfl rfl hg.drew hrow (by omega) ?_
      intro ws1 As1 hgs1 haxs1 hrows1
      refine go 1 ?_
      refine RL.idxR (first+ch) rfl rfl rfl rfl sl83.out rfl rfl (by omega) (by omega) ?_
      refine RL.storeR (first+ch) rfl rfl rfl ty22.out rfl rfl hgs1 hrows1 (by simp;omega) ?_
      intro ws2 As2 hgs2 haxs2 hrows2
      refine go 2 ?_
      exact fun ac ha=>⟨_,ha.sub (E':=[(0,.slice (some ⟨g,0,none⟩) n c),(2,i64 hi),(3,i64 first),(9,i64 (ch:Nat))]) ⟨rfl,rfl,rfl,rfl,trivial⟩,As2,hgs2,hax4.trans ((Aux.drew _).trans (hax5.trans ((Aux.drew _).trans (haxs1.trans haxs2)))),hrows2,rfl⟩
     ·
      refine RL.loadR (first+r) rfl rfl rfl rfl ty22.out rfl hrow hg.drew.1 (by omega) ?_
      refine RL.loadR (first+ch) rfl rfl rfl rfl ty22.out rfl hrow hg.drew.1 (by omega) ?_
      refine RL.idxR (first+r) rfl rfl rfl rfl sl83.out rfl rfl (by omega) (by omega) ?_
      refine RL.storeR (first+r) rfl rfl rfl ty22.out rfl rfl hg.drew hrow (by omega) ?_
      intro ws1 As1 hgs1 haxs1 hrows1
      refine go 1 ?_
      refine RL.idxR (first+ch) rfl rfl rfl rfl sl83.out rfl rfl (by omega) (by omega) ?_
      refine RL.storeR (first+ch) rfl rfl rfl ty22.out rfl rfl hgs1 hrows1 (by simp;omega) ?_
      intro ws2 As2 hgs2 haxs2 hrows2
      refine go 2 ?_
      exact fun ac ha=>⟨_,ha.sub (E':=[(0,.slice (some ⟨g,0,none⟩) n c),(2,i64 hi),(3,i64 first),(9,i64 (ch:Nat))]) ⟨rfl,rfl,rfl,rfl,trivial⟩,As2,hgs2,hax4.trans ((Aux.drew _).trans (hax5.trans ((Aux.drew _).trans (haxs1.trans haxs2)))),hrows2,rfl⟩
    ·
     rintro E' w6 ⟨A6,hg6,hax6,hrow6,rfl⟩
     refine go 4 ?_
     refine fun ac ha=>⟨k-1,[(0,.slice (some ⟨g,0,none⟩) n c),(2,i64 hi),(3,i64 first),(8,i64 (ch:Nat))],ha.sub ⟨rfl,rfl,rfl,rfl,trivial⟩,⟨A6,_,ch,hg6,hax6,hrow6,by rw[size_swp];exact hn1,by omega,by omega,by rw[heq,sift_eq hch hsc.symm,if_pos hl'],rfl⟩,by omega⟩
theorem sift_size (hi first lo:Nat) (d:Array Int):(Go.Sort.siftDown ltI hi first lo d).size=d.size:=by
 fun_induction Go.Sort.siftDown ltI hi first lo d<;>simp_all [size_swp]
theorem heapSort_ct {w:World} {s A:Res} {os:List Res} {g n c a b:Nat} {rest:List Value} {d:Array Int} (hg:Good w s (A::os)) (hrow:RowAt A g rest d) (hn:d.size=n) (hb:b≤n) (hab:a<b) (hsz:n<2305843009213693952) :
  Calls Tryz.prog 192 #[.slice (some ⟨g,0,none⟩) n c,i64 a,i64 b] w (SPost w s os g rest (Go.Sort.heapSort ltI d a b)):=by
 refine enter (l:=[.slice (some ⟨g,0,none⟩) n c,i64 a,i64 b]) Tryz.func192 rfl Tryz.ntmps192 rfl ?_
 refine go 16 ?_
 refine CW.meet (fun E' w'=>∃ A' dk,Good w' s (A'::os)∧Aux w w'∧RowAt A' g rest dk∧dk.size=n∧dk=Go.Sort.heapBuild ltI (b-a) a ((b-a-1) / 2+1) d∧E'=[(0,.slice (some ⟨g,0,none⟩) n c),(6,i64 a),(7,i64 0),(8,i64 ((b-a:Nat):Int))]) ?_ ?_
 ·
  refine CW.seq (CW.plain ?_)
  refine go 2 ?_
  refine RL.quo rfl rfl rfl rfl rfl rfl ((by omega)) ((by decide)) ((by simp only[rng];omega)) ?_
  refine go 2 ?_
  refine CW.block (CW.loop (σ:=Nat) (fun k E w'=>∃ A' dk,Good w' s (A'::os)∧Aux w w'∧RowAt A' g rest dk∧dk.size=n∧k≤n∧Go.Sort.heapBuild ltI (b-a) a ((b-a-1) / 2+1) d=Go.Sort.heapBuild ltI (b-a) a k dk∧E=[(0,.slice (some ⟨g,0,none⟩) n c),(6,i64 a),(7,i64 0),(8,i64 ((b-a:Nat):Int)),(9,i64 ((k:Int)-1))])
   (fun k=>k) ((b-a-1) / 2+1) [(0,.slice (some ⟨g,0,none⟩) n c),(6,i64 a),(7,i64 0),(8,i64 ((b-a:Nat):Int)),(9,i64 ((((b-a-1) / 2+1:Nat):Int)-1))] ⟨rfl,rfl,rfl,congrArg (fun z=>some (i64 z)) (by omega),congrArg (fun z=>some (i64 z)) (by omega),trivial⟩ ⟨A,d,hg,Aux.refl _,hrow,hn,by omega,rfl,rfl⟩ ?_)
  rintro k E w1 ⟨A1,d1,hg1,hax1,hrow1,hn1,hkn,heq,rfl⟩
  refine CW.seq (CW.seq (CW.plain ?_))
  refine go 3 ?_
  refine CW.test rfl (fun h=>?_) (fun h=>?_)
  ·
   refine CW.skip ?_
   obtain⟨k,rfl⟩:∃ j,k=j+1:=⟨k-1,by omega⟩
   refine CW.seq (CW.block (CW.plain ?_))
   refine go 4 ?_
   have ek:(((k+1:Nat):Int)-1)=((k:Nat):Int):=by omega
   rw[ek]
   refine go 1 ?_
   refine zc (l:=[.slice (some ⟨g,0,none⟩) n c,i64 (k:Nat),i64 ((b-a:Nat):Int),i64 a]) (siftDown_ct hg1 hrow1 hn1 (by omega) (by omega) hsz) ?_
   rintro v2 s2 A2 w2 hle2 hg2 hax2 ⟨rfl,rfl,hrow2⟩
   refine go 7 ?_
   refine fun ac ha=>⟨k,[(0,.slice (some ⟨g,0,none⟩) n c),(6,i64 a),(7,i64 0),(8,i64 ((b-a:Nat):Int)),(9,i64 ((k:Int)-1))],ha.sub ⟨rfl,rfl,rfl,rfl,congrArg (fun z=>some (i64 z)) (by omega),trivial⟩,⟨A2,_,hg2,hax1.trans hax2,hrow2,by rw[sift_size];exact hn1,by omega,by rw[heq,Go.Sort.heapBuild],rfl⟩,by omega⟩
  ·
   refine CW.exit (fun ac ha=>⟨_,ha.sub (E':=[(0,.slice (some ⟨g,0,none⟩) n c),(6,i64 a),(7,i64 0),(8,i64 ((b-a:Nat):Int))]) ⟨rfl,rfl,rfl,rfl,trivial⟩,A1,d1,hg1,hax1,hrow1,hn1,?_,rfl⟩)
   obtain rfl:k=0:=by omega
   rw[heq];rfl
 ·
  rintro E' w1 ⟨A1,d1,hg1,hax1,hrow1,hn1,hd1,rfl⟩
  refine go 6 ?_
  refine CW.block (CW.loop (σ:=Nat) (fun k E w'=>∃ A' dk,Good w' s (A'::os)∧Aux w w'∧RowAt A' g rest dk∧dk.size=n∧k≤b-a∧Go.Sort.heapSort ltI d a b=Go.Sort.heapPop ltI a k dk∧E=[(0,.slice (some ⟨g,0,none⟩) n c),(6,i64 a),(7,i64 0),(8,i64 ((b-a:Nat):Int)),(10,i64 ((k:Int)-1))])
   (fun k=>k) (b-a) [(0,.slice (some ⟨g,0,none⟩) n c),(6,i64 a),(7,i64 0),(8,i64 ((b-a:Nat):Int)),(10,i64 (((b-a:Nat):Int)-1))] ⟨rfl,rfl,rfl,rfl,rfl,trivial⟩ ⟨A1,d1,hg1,hax1,hrow1,hn1,Nat.le_refl _,by rw[hd1,Go.Sort.heapSort],rfl⟩ ?_)
  rintro k E w2 ⟨A2,d2,hg,hax2,hrow,hn2,hkn,heq,rfl⟩
  refine CW.seq (CW.seq (CW.plain ?_))
  refine go 3 ?_
  refine CW.test rfl (fun h=>?_) (fun h=>?_)
  ·
   refine CW.skip ?_
   obtain⟨k,rfl⟩:∃ j,k=j+1:=⟨k-1,by omega⟩
   refine CW.seq (CW.block ?_)
   refine CW.meet (fun E' w'=>∃ A',Good w' s (A'::os)∧Aux w w'∧RowAt A' g rest (swp d2 a (a+k))∧E'=[(0,.slice (some ⟨g,0,none⟩) n c),(6,i64 a),(7,i64 0),(8,i64 ((b-a:Nat):Int)),(10,i64 (((k+1:Nat):Int)-1))]) ?_ ?_
   ·
    refine CW.forks (.fork [(true,0),(true,1),(true,2),(true,3),(true,4),(true,5),(true,6),(true,7),(true,8),(true,9),(true,10),(true,12),(true,13),(true,14)] (.line [(false,11),(false,15),(true,16),(false,17),(true,18),(false,19)]) (.line [(false,15),(false,11),(true,16),(false,17),(true,18),(false,19)])) (fun _=>True) mixed (by kernel_rfl) (by kernel_rfl) (by kernel_rfl) (by kernel_rfl) trivial ?_
    refine RT.pre trivial ?_
    refine go 10 ?_
    refine RL.idxR (a+k) rfl rfl rfl rfl sl83.out rfl rfl (by omega) (by omega) ?_
    refine go 2 ?_
    refine RL.idxR (a) rfl rfl rfl rfl sl83.out rfl rfl (by omega) (by omega) ?_
    refine go 1 ?_
    refine RT.both (S:=fun _=>True) trivial (RT.end_ (S:=fun _=>True) trivial ?_) (RT.end_ (S:=fun _=>True) trivial ?_)
    ·
     refine RL.loadR (a+k) rfl rfl rfl rfl ty22.out rfl hrow hg.drew.1 (by omega) ?_
     refine RL.loadR (a) rfl rfl rfl rfl ty22.out rfl hrow hg.drew.1 (by omega) ?_
     refine RL.idxR (a) rfl rfl rfl rfl sl83.out rfl rfl (by omega) (by omega) ?_
     refine RL.storeR (a) rfl rfl rfl ty22.out rfl rfl hg.drew hrow (by omega) ?_
     intro ws1 As1 hgs1 haxs1 hrows1
     refine go 1 ?_
     refine RL.idxR (a+k) rfl rfl rfl rfl sl83.out rfl rfl (by omega) (by omega) ?_
     refine RL.storeR (a+k) rfl rfl rfl ty22.out rfl rfl hgs1 hrows1 (by simp;omega) ?_
     intro ws2 As2 hgs2 haxs2 hrows2
     refine go 2 ?_
     exact fun ac ha=>⟨_,ha.sub (E':=[(0,.slice (some ⟨g,0,none⟩) n c),(6,i64 a),(7,i64 0),(8,i64 ((b-a:Nat):Int)),(10,i64 (((k+1:Nat):Int)-1))]) ⟨rfl,rfl,rfl,rfl,rfl,trivial⟩,As2,hgs2,hax2.trans ((Aux.drew _).trans (haxs1.trans haxs2)),hrows2,rfl⟩
    ·
     refine RL.loadR (a) rfl rfl rfl rfl ty22.out rfl hrow hg.drew.1 (by omega) ?_
     refine RL.loadR (a+k) rfl rfl rfl rfl ty22.out rfl hrow hg.drew.1 (by omega) ?_
     refine RL.idxR (a) rfl rfl rfl rfl sl83.out rfl rfl (by omega) (by omega) ?_
     refine RL.storeR (a) rfl rfl rfl ty22.out rfl rfl hg.drew hrow (by omega) ?_
     intro ws1 As1 hgs1 haxs1 hrows1
     refine go 1 ?_
     refine RL.idxR (a+k) rfl rfl rfl rfl sl83.out rfl rfl (by omega) (by omega) ?_
     refine RL.storeR (a+k) rfl rfl rfl ty22.out rfl rfl hgs1 hrows1 (by simp;omega) ?_
     intro ws2 As2 hgs2 haxs2 hrows2
     refine go 2 ?_
     exact fun ac ha=>⟨_,ha.sub (E':=[(0,.slice (some ⟨g,0,none⟩) n c),(6,i64 a),(7,i64 0),(8,i64 ((b-a:Nat):Int)),(10,i64 (((k+1:Nat):Int)-1))]) ⟨rfl,rfl,rfl,rfl,rfl,trivial⟩,As2,hgs2,hax2.trans ((Aux.drew _).trans (haxs1.trans haxs2)),hrows2,rfl⟩
   ·
    rintro E' w3 ⟨A3,hg3,hax3,hrow3,rfl⟩
    have hn3:(swp d2 a (a+k)).size=n:=by rw[size_swp];exact hn2
    refine go 5 ?_
    have ek:(((k+1:Nat):Int)-1)=((k:Nat):Int):=by omega
    rw[ek]
    refine go 1 ?_
    refine zc (l:=[.slice (some ⟨g,0,none⟩) n c,i64 ((0:Nat):Int),i64 (k:Nat),i64 a]) (siftDown_ct hg3 hrow3 hn3 (by omega) (by omega) hsz) ?_
    rintro v4 s4 A4 w4 hle4 hg4 hax4 ⟨rfl,rfl,hrow4⟩
    refine go 7 ?_
    refine fun ac ha=>⟨k,[(0,.slice (some ⟨g,0,none⟩) n c),(6,i64 a),(7,i64 0),(8,i64 ((b-a:Nat):Int)),(10,i64 ((k:Int)-1))],ha.sub ⟨rfl,rfl,rfl,rfl,rfl,trivial⟩,⟨A4,_,hg4,hax3.trans hax4,hrow4,by rw[sift_size];exact hn3,by omega,by rw[heq,Go.Sort.heapPop],rfl⟩,by omega⟩
  ·
   refine CW.exit ?_
   refine fall (vs:=[]) rfl (Post.mk (Le.refl _) hg hax2 ⟨rfl,rfl,?_⟩)
   obtain rfl:k=0:=by omega
   rw[heq]
   exact hrow
end Go.Lw
namespace Go.Lw
open Go.Proofs
open Go.Sort (swp size_swp)
theorem scanUp_step {p:Int→Bool} {d:Array Int} {j i:Nat} (h:i≤j) (hp:p d[i]! = true):Go.Sort.scanUp p d j i=Go.Sort.scanUp p d j (i+1):=by
 rw[Go.Sort.scanUp,if_pos (by simp[h,hp])]
theorem scanUp_end {p:Int→Bool} {d:Array Int} {j i:Nat} (h:¬ i≤j∨p d[i]! = false):Go.Sort.scanUp p d j i=i:=by
 rw[Go.Sort.scanUp,if_neg]
 rcases h with h | h
 ·
  simp[h]
 ·
  simp[h]
theorem scanDown_step {p:Int→Bool} {d:Array Int} {j i:Nat} (h:i≤j) (hi:1≤i) (hp:p d[j]! = true):Go.Sort.scanDown p d i j=Go.Sort.scanDown p d i (j-1):=by
 obtain⟨j,rfl⟩:∃ m,j=m+1:=⟨j-1,by omega⟩
 rw[Go.Sort.scanDown,if_pos (by simp[h,hp])]
 rfl
theorem scanDown_end {p:Int→Bool} {d:Array Int} {j i:Nat} (h:¬ i≤j∨p d[j]! = false):Go.Sort.scanDown p d i j=j:=by
 cases j with
 | zero=>rfl
 | succ j =>
  rw[Go.Sort.scanDown,if_neg]
  rcases h with h | h
  ·
   simp[h]
  ·
   simp[h]
theorem part_eq {a i j:Nat} {d:Array Int} {i2 j2:Nat} (h1:Go.Sort.scanUp (fun x=>ltI x d[a]!) d j i=i2) (h2:Go.Sort.scanDown (fun x=> !ltI x d[a]!) d i2 j=j2) (hi:i≤i2) (hj:j2≤j) :
  Go.Sort.partLoop ltI a i j d=if i2>j2 then (j2,d) else Go.Sort.partLoop ltI a (i2+1) (j2-1) (swp d i2 j2):=by
 conv=>lhs;rw[Go.Sort.partLoop]
 simp only[h1,h2]
 by_cases hc:i2>j2
 ·
  rw[if_pos hc,if_pos hc]
 ·
  rw[if_neg hc,if_neg hc,dif_pos (by omega)]
theorem partEq_eq {a i j:Nat} {d:Array Int} {i2 j2:Nat} (h1:Go.Sort.scanUp (fun x=> !ltI d[a]! x) d j i=i2) (h2:Go.Sort.scanDown (fun x=>ltI d[a]! x) d i2 j=j2) (hi:i≤i2) (hj:j2≤j) :
  Go.Sort.partEqLoop ltI a i j d=if i2>j2 then (i2,d) else Go.Sort.partEqLoop ltI a (i2+1) (j2-1) (swp d i2 j2):=by
 conv=>lhs;rw[Go.Sort.partEqLoop]
 simp only[h1,h2]
 by_cases hc:i2>j2
 ·
  rw[if_pos hc,if_pos hc]
 ·
  rw[if_neg hc,if_neg hc,dif_pos (by omega)]
-- a scan upwards: F, RC (the test's region), its order of operations, RI (the step's region), t-names: guard tg, idx/load 1 (at M1), idx/load 2 (at M2), call tc with contract arguments; TI TJ: the slots of i and j
theorem partition_hit {d:Array Int} {a b pivot i j:Nat} (h1:Go.Sort.scanUp (fun x=>ltI x (swp d a pivot)[a]!) (swp d a pivot) (b-1) (a+1)=i) (h2:Go.Sort.scanDown (fun x=> !ltI x (swp d a pivot)[a]!) (swp d a pivot) i (b-1)=j) (h:i>j) :
  Go.Sort.partition ltI d a b pivot=(j,true,swp (swp d a pivot) j a):=by
 simp only[Go.Sort.partition,h1,h2]
 rw[if_pos h]
theorem partition_miss {d:Array Int} {a b pivot i j:Nat} (h1:Go.Sort.scanUp (fun x=>ltI x (swp d a pivot)[a]!) (swp d a pivot) (b-1) (a+1)=i) (h2:Go.Sort.scanDown (fun x=> !ltI x (swp d a pivot)[a]!) (swp d a pivot) i (b-1)=j) (h:¬ i>j) :
  Go.Sort.partition ltI d a b pivot=((Go.Sort.partLoop ltI a (i+1) (j-1) (swp (swp d a pivot) i j)).1,false,swp (Go.Sort.partLoop ltI a (i+1) (j-1) (swp (swp d a pivot) i j)).2 (Go.Sort.partLoop ltI a (i+1) (j-1) (swp (swp d a pivot) i j)).1 a):=by
 simp only[Go.Sort.partition,h1,h2]
 rw[if_neg h]
theorem partition_ct {w:World} {s A:Res} {os:List Res} {g n c a b pivot:Nat} {rest:List Value} {d:Array Int} (hg:Good w s (A::os)) (hrow:RowAt A g rest d) (hn:d.size=n) (hb:b≤n) (hap:a≤pivot) (hpb:pivot<b) (hsz:n<2305843009213693952) :
  Calls Tryz.prog 199 #[.slice (some ⟨g,0,none⟩) n c,i64 a,i64 b,i64 pivot] w
   (Post w s os fun s' A' r=>s'=s∧r = .tuple #[i64 ((Go.Sort.partition ltI d a b pivot).1:Nat),.bool (Go.Sort.partition ltI d a b pivot).2.1]∧RowAt A' g rest (Go.Sort.partition ltI d a b pivot).2.2):=by
 refine enter (l:=[.slice (some ⟨g,0,none⟩) n c,i64 a,i64 b,i64 pivot]) Tryz.func199 rfl Tryz.ntmps199 rfl ?_
 refine go 5 ?_
 refine CW.meet (fun E' w'=>∃ A',Good w' s (A'::os)∧Aux w w'∧RowAt A' g rest (swp d a pivot)∧E'=[(0,.slice (some ⟨g,0,none⟩) n c),(1,i64 a),(2,i64 b)]) ?_ ?_
 ·
  refine CW.forks (.fork [(true,0),(true,1),(true,2),(true,3),(true,4),(true,5),(true,6),(true,8),(true,9),(true,10)] (.line [(false,7),(false,11),(true,12),(false,13),(true,14),(false,15)]) (.line [(false,11),(false,7),(true,12),(false,13),(true,14),(false,15)])) (fun _=>True) mixed (by kernel_rfl) (by kernel_rfl) (by kernel_rfl) (by kernel_rfl) trivial ?_
  refine RT.pre trivial ?_
  refine go 6 ?_
  refine RL.idxR (pivot) rfl rfl rfl rfl sl83.out rfl rfl (by omega) (by omega) ?_
  refine go 2 ?_
  refine RL.idxR (a) rfl rfl rfl rfl sl83.out rfl rfl (by omega) (by omega) ?_
  refine go 1 ?_
  refine RT.both (S:=fun _=>True) trivial (RT.end_ (S:=fun _=>True) trivial ?_) (RT.end_ (S:=fun _=>True) trivial ?_)
  ·
   refine RL.loadR (pivot) rfl rfl rfl rfl ty22.out rfl hrow hg.drew.1 (by omega) ?_
   refine RL.loadR (a) rfl rfl rfl rfl ty22.out rfl hrow hg.drew.1 (by omega) ?_
   refine RL.idxR (a) rfl rfl rfl rfl sl83.out rfl rfl (by omega) (by omega) ?_
   refine RL.storeR (a) rfl rfl rfl ty22.out rfl rfl hg.drew hrow (by omega) ?_
   intro ws1 As1 hgs1 haxs1 hrows1
   refine go 1 ?_
   refine RL.idxR (pivot) rfl rfl rfl rfl sl83.out rfl rfl (by omega) (by omega) ?_
   refine RL.storeR (pivot) rfl rfl rfl ty22.out rfl rfl hgs1 hrows1 (by simp;omega) ?_
   intro ws2 As2 hgs2 haxs2 hrows2
   refine go 2 ?_
   exact fun ac ha=>⟨_,ha.sub (E':=[(0,.slice (some ⟨g,0,none⟩) n c),(1,i64 a),(2,i64 b)]) ⟨rfl,rfl,rfl,trivial⟩,As2,hgs2,(Aux.drew _).trans (haxs1.trans haxs2),hrows2,rfl⟩
  ·
   refine RL.loadR (a) rfl rfl rfl rfl ty22.out rfl hrow hg.drew.1 (by omega) ?_
   refine RL.loadR (pivot) rfl rfl rfl rfl ty22.out rfl hrow hg.drew.1 (by omega) ?_
   refine RL.idxR (a) rfl rfl rfl rfl sl83.out rfl rfl (by omega) (by omega) ?_
   refine RL.storeR (a) rfl rfl rfl ty22.out rfl rfl hg.drew hrow (by omega) ?_
   intro ws1 As1 hgs1 haxs1 hrows1
   refine go 1 ?_
   refine RL.idxR (pivot) rfl rfl rfl rfl sl83.out rfl rfl (by omega) (by omega) ?_
   refine RL.storeR (pivot) rfl rfl rfl ty22.out rfl rfl hgs1 hrows1 (by simp;omega) ?_
   intro ws2 As2 hgs2 haxs2 hrows2
   refine go 2 ?_
   exact fun ac ha=>⟨_,ha.sub (E':=[(0,.slice (some ⟨g,0,none⟩) n c),(1,i64 a),(2,i64 b)]) ⟨rfl,rfl,rfl,trivial⟩,As2,hgs2,(Aux.drew _).trans (haxs1.trans haxs2),hrows2,rfl⟩
 rintro E' w1 ⟨A1,hg1,hax1,hrow1,rfl⟩
 have hn1:(swp d a pivot).size=n:=by rw[size_swp];exact hn
 generalize hd1:swp d a pivot=d1 at *
 refine go 9 ?_
 obtain⟨i,hi⟩:∃ i,i=a+1:=⟨_,rfl⟩
 obtain⟨j,hj⟩:∃ j,j=b-1:=⟨_,rfl⟩
 refine CW.less [(0,.slice (some ⟨g,0,none⟩) n c),(1,i64 a),(10,i64 (i:Nat)),(11,i64 (j:Nat))] ⟨rfl,rfl,congrArg (fun z=>some (i64 z)) (by omega),congrArg (fun z=>some (i64 z)) (by omega),trivial⟩ ?_
 refine CW.meet (fun E' w'=>∃ x,Good w' s (A1::os)∧Aux w w'∧i≤x∧x≤j+1+(i-(j+1))∧Go.Sort.scanUp (fun x=>ltI x d1[a]!) d1 j i=x∧E'=[(0,.slice (some ⟨g,0,none⟩) n c),(1,i64 a),(10,i64 (x:Nat)),(11,i64 (j:Nat))]) ?_ ?_
 ·
  refine CW.block (CW.loop (σ:=Nat) (fun k E w'=>∃ x,Good w' s (A1::os)∧Aux w w'∧i≤x∧x≤j+1+(i-(j+1))∧j+1-x≤k∧Go.Sort.scanUp (fun x=>ltI x d1[a]!) d1 j i=Go.Sort.scanUp (fun x=>ltI x d1[a]!) d1 j x∧E=[(0,.slice (some ⟨g,0,none⟩) n c),(1,i64 a),(10,i64 (x:Nat)),(11,i64 (j:Nat))])
   (fun k=>k) (j+1) [(0,.slice (some ⟨g,0,none⟩) n c),(1,i64 a),(10,i64 (i:Nat)),(11,i64 (j:Nat))] ⟨rfl,rfl,rfl,rfl,trivial⟩ ⟨i,hg1,hax1,Nat.le_refl _,by omega,by omega,rfl,rfl⟩ ?_)
  rintro k E w2 ⟨x,hg,hax2,hix,hxj,hk,hsc,rfl⟩
  refine CW.seq (CW.seq ?_)
  refine CW.draws [(true,0),(true,1),(true,2),(true,3),(true,4),(true,5),(true,6),(true,7),(true,8),(true,9),(true,10),(true,11),(false,12),(true,13)] (fun w'=>Good w' s (A1::os)) mixed (by kernel_rfl) (by kernel_rfl) (by kernel_rfl) (by kernel_rfl) hg.drew ?_
  refine go 4 ?_
  refine RL.part 33 rfl (fun hc=>?_) (fun hc=>?_)
  ·
   have hxj':x≤j:=by have:=of_decide_eq_true hc;omega
   refine go 2 ?_
   refine RL.idxR (x) rfl rfl rfl rfl sl83.out rfl rfl (by omega) (by omega) ?_
   refine RL.loadRT (x) rfl rfl rfl rfl ty22.out rfl hrow1 (fun w h=>h.1) (by omega) ?_
   refine go 2 ?_
   refine RL.idxR (a) rfl rfl rfl rfl sl83.out rfl rfl (by omega) (by omega) ?_
   refine RL.loadRT (a) rfl rfl rfl rfl ty22.out rfl hrow1 (fun w h=>h.1) (by omega) ?_
   refine go 1 ?_
   refine zw (Less_ct hg.drew) ?_
   rintro v w3 hg3 hax3 rfl
   refine⟨hg3,?_⟩
   refine go 2 ?_
   refine CW.cond rfl (fun hl=>?_) (fun hl=>?_)
   ·
    refine CW.skip ?_
    refine CW.block (CW.plain ?_)
    refine go 4 ?_
    refine fun ac ha=>⟨k-1,[(0,.slice (some ⟨g,0,none⟩) n c),(1,i64 a),(10,i64 ((x:Int)+1)),(11,i64 (j:Nat))],ha.sub ⟨rfl,rfl,rfl,rfl,trivial⟩,⟨x+1,hg3,hax2.trans ((Aux.drew _).trans hax3),by omega,by omega,by omega,by rw[hsc];exact scanUp_step (p:=fun x=>ltI x d1[a]!) hxj' (by simpa using hl),rfl⟩,by omega⟩
   ·
    refine CW.exit (fun ac ha=>⟨_,ha.sub (E':=[(0,.slice (some ⟨g,0,none⟩) n c),(1,i64 a),(10,i64 (x:Nat)),(11,i64 (j:Nat))]) ⟨rfl,rfl,rfl,rfl,trivial⟩,x,hg3,hax2.trans ((Aux.drew _).trans hax3),hix,hxj,by rw[hsc];exact scanUp_end (p:=fun x=>ltI x d1[a]!) (.inr (by simpa using hl)),rfl⟩)
  ·
   have hxj':¬ x≤j:=by have:=of_decide_eq_false hc;omega
   refine go 11 ?_
   refine CW.no rfl ?_
   refine CW.exit (fun ac ha=>⟨_,ha.sub (E':=[(0,.slice (some ⟨g,0,none⟩) n c),(1,i64 a),(10,i64 (x:Nat)),(11,i64 (j:Nat))]) ⟨rfl,rfl,rfl,rfl,trivial⟩,x,hg.drew,hax2.trans (Aux.drew _),hix,hxj,by rw[hsc];exact scanUp_end (p:=fun x=>ltI x d1[a]!) (.inl hxj'),rfl⟩)
 rintro E' w4 ⟨i2,hg4,hax4,hii2,hi2j,hup,rfl⟩
 have h1i:1≤i2:=by omega
 refine CW.meet (fun E' w'=>∃ y,Good w' s (A1::os)∧Aux w w'∧y≤j∧(i2≤y+1∨y=j)∧Go.Sort.scanDown (fun x=> !ltI x d1[a]!) d1 i2 j=y∧E'=[(0,.slice (some ⟨g,0,none⟩) n c),(1,i64 a),(10,i64 (i2:Nat)),(11,i64 (y:Nat))]) ?_ ?_
 ·
  refine CW.block (CW.loop (σ:=Nat) (fun k E w'=>∃ y,Good w' s (A1::os)∧Aux w w'∧y≤j∧(i2≤y+1∨y=j)∧y≤k∧Go.Sort.scanDown (fun x=> !ltI x d1[a]!) d1 i2 j=Go.Sort.scanDown (fun x=> !ltI x d1[a]!) d1 i2 y∧E=[(0,.slice (some ⟨g,0,none⟩) n c),(1,i64 a),(10,i64 (i2:Nat)),(11,i64 (y:Nat))])
   (fun k=>k) j [(0,.slice (some ⟨g,0,none⟩) n c),(1,i64 a),(10,i64 (i2:Nat)),(11,i64 (j:Nat))] ⟨rfl,rfl,rfl,rfl,trivial⟩ ⟨j,hg4,hax4,Nat.le_refl _,.inr rfl,Nat.le_refl _,rfl,rfl⟩ ?_)
  rintro k E w2 ⟨y,hg,hax2,hyj,hiy,hk,hsc,rfl⟩
  refine CW.seq (CW.seq ?_)
  refine CW.draws [(true,0),(true,1),(true,2),(true,3),(true,4),(true,5),(true,6),(true,7),(true,8),(true,9),(true,10),(true,11),(false,12),(true,13),(true,14)] (fun w'=>Good w' s (A1::os)) mixed (by kernel_rfl) (by kernel_rfl) (by kernel_rfl) (by kernel_rfl) hg.drew ?_
  refine go 4 ?_
  refine RL.part 49 rfl (fun hc=>?_) (fun hc=>?_)
  ·
   have hxj':i2≤y:=by have:=of_decide_eq_true hc;omega
   refine go 2 ?_
   refine RL.idxR (y) rfl rfl rfl rfl sl83.out rfl rfl (by omega) (by omega) ?_
   refine RL.loadRT (y) rfl rfl rfl rfl ty22.out rfl hrow1 (fun w h=>h.1) (by omega) ?_
   refine go 2 ?_
   refine RL.idxR (a) rfl rfl rfl rfl sl83.out rfl rfl (by omega) (by omega) ?_
   refine RL.loadRT (a) rfl rfl rfl rfl ty22.out rfl hrow1 (fun w h=>h.1) (by omega) ?_
   refine go 1 ?_
   refine zw (Less_ct hg.drew) ?_
   rintro v w3 hg3 hax3 rfl
   refine⟨hg3,?_⟩
   refine go 3 ?_
   refine CW.cond rfl (fun hl=>?_) (fun hl=>?_)
   ·
    refine CW.skip ?_
    refine CW.block (CW.plain ?_)
    refine go 4 ?_
    refine fun ac ha=>⟨k-1,[(0,.slice (some ⟨g,0,none⟩) n c),(1,i64 a),(10,i64 (i2:Nat)),(11,i64 ((y-1:Nat):Int))],ha.sub ⟨rfl,rfl,rfl,congrArg (fun z=>some (i64 z)) (by omega),trivial⟩,⟨y-1,hg3,hax2.trans ((Aux.drew _).trans hax3),by omega,by omega,by omega,by rw[hsc];exact scanDown_step (p:=fun x=> !ltI x d1[a]!) hxj' (by omega) (by simpa using hl),rfl⟩,by omega⟩
   ·
    refine CW.exit (fun ac ha=>⟨_,ha.sub (E':=[(0,.slice (some ⟨g,0,none⟩) n c),(1,i64 a),(10,i64 (i2:Nat)),(11,i64 (y:Nat))]) ⟨rfl,rfl,rfl,rfl,trivial⟩,y,hg3,hax2.trans ((Aux.drew _).trans hax3),hyj,hiy,by rw[hsc];exact scanDown_end (p:=fun x=> !ltI x d1[a]!) (.inr (by simpa using hl)),rfl⟩)
  ·
   have hxj':¬ i2≤y:=by have:=of_decide_eq_false hc;omega
   refine go 12 ?_
   refine CW.no rfl ?_
   refine CW.exit (fun ac ha=>⟨_,ha.sub (E':=[(0,.slice (some ⟨g,0,none⟩) n c),(1,i64 a),(10,i64 (i2:Nat)),(11,i64 (y:Nat))]) ⟨rfl,rfl,rfl,rfl,trivial⟩,y,hg.drew,hax2.trans (Aux.drew _),hyj,hiy,by rw[hsc];exact scanDown_end (p:=fun x=> !ltI x d1[a]!) (.inl hxj'),rfl⟩)
 rintro E' w5 ⟨j2,hg5,hax5,hj2j,hij2,hdown,rfl⟩
 refine CW.seq (CW.seq (CW.plain ?_))
 refine go 4 ?_
 subst hi hj hd1
 refine CW.test rfl (fun h=>?_) (fun h=>?_)
 ·
  have hh:i2>j2:=by omega
  have hpt:=partition_hit hup hdown hh
  have hg:=hg5
  have hrow:=hrow1
  have hn:=hn1
  refine CW.meet (fun E' w'=>∃ A',Good w' s (A'::os)∧Aux w w'∧RowAt A' g rest (swp (swp d a pivot) j2 a)∧E'=[(11,i64 (j2:Nat))]) ?_ ?_
  ·
   refine CW.forks (.fork [(true,0),(true,1),(true,2),(true,3),(true,4),(true,5),(true,6),(true,8),(true,9),(true,10)] (.line [(false,7),(false,11),(true,12),(false,13),(true,14),(false,15)]) (.line [(false,11),(false,7),(true,12),(false,13),(true,14),(false,15)])) (fun _=>True) mixed (by kernel_rfl) (by kernel_rfl) (by kernel_rfl) (by kernel_rfl) trivial ?_
   refine RT.pre trivial ?_
   refine go 6 ?_
   refine RL.idxR (a) rfl rfl rfl rfl sl83.out rfl rfl (by omega) (by omega) ?_
   refine go 2 ?_
   refine RL.idxR (j2) rfl rfl rfl rfl sl83.out rfl rfl (by omega) (by omega) ?_
   refine go 1 ?_
   refine RT.both (S:=fun _=>True) trivial (RT.end_ (S:=fun _=>True) trivial ?_) (RT.end_ (S:=fun _=>True) trivial ?_)
   ·
    refine RL.loadR (a) rfl rfl rfl rfl ty22.out rfl hrow hg.drew.1 (by omega) ?_
    refine RL.loadR (j2) rfl rfl rfl rfl ty22.out rfl hrow hg.drew.1 (by omega) ?_
    refine RL.idxR (j2) rfl rfl rfl rfl sl83.out rfl rfl (by omega) (by omega) ?_
    refine RL.storeR (j2) rfl rfl rfl ty22.out rfl rfl hg.drew hrow (by omega) ?_
    intro ws1 As1 hgs1 haxs1 hrows1
    refine go 1 ?_
    refine RL.idxR (a) rfl rfl rfl rfl sl83.out rfl rfl (by omega) (by omega) ?_
    refine RL.storeR (a) rfl rfl rfl ty22.out rfl rfl hgs1 hrows1 (by simp;omega) ?_
    intro ws2 As2 hgs2 haxs2 hrows2
    refine go 2 ?_
    exact fun ac ha=>⟨_,ha.sub (E':=[(11,i64 (j2:Nat))]) ⟨rfl,trivial⟩,As2,hgs2,hax5.trans ((Aux.drew _).trans (haxs1.trans haxs2)),hrows2,rfl⟩
   ·
    refine RL.loadR (j2) rfl rfl rfl rfl ty22.out rfl hrow hg.drew.1 (by omega) ?_
    refine RL.loadR (a) rfl rfl rfl rfl ty22.out rfl hrow hg.drew.1 (by omega) ?_
    refine RL.idxR (j2) rfl rfl rfl rfl sl83.out rfl rfl (by omega) (by omega) ?_
    refine RL.storeR (j2) rfl rfl rfl ty22.out rfl rfl hg.drew hrow (by omega) ?_
    intro ws1 As1 hgs1 haxs1 hrows1
    refine go 1 ?_
    refine RL.idxR (a) rfl rfl rfl rfl sl83.out rfl rfl (by omega) (by omega) ?_
    refine RL.storeR (a) rfl rfl rfl ty22.out rfl rfl hgs1 hrows1 (by simp;omega) ?_
    intro ws2 As2 hgs2 haxs2 hrows2
    refine go 2 ?_
    exact fun ac ha=>⟨_,ha.sub (E':=[(11,i64 (j2:Nat))]) ⟨rfl,trivial⟩,As2,hgs2,hax5.trans ((Aux.drew _).trans (haxs1.trans haxs2)),hrows2,rfl⟩
  rintro E' w6 ⟨A6,hg6,hax6,hrow6,rfl⟩
  refine go 6 ?_
  refine CW.ret (ret (vs:=[_,_]) ⟨_,_,rfl,rfl,_,_,rfl,rfl,rfl⟩ (Post.mk (Le.refl _) hg6 hax6 ⟨rfl,?_,?_⟩))
  ·
   rw[hpt];rfl
  ·
   rw[hpt];exact hrow6
 ·
  have hh:¬ i2>j2:=by omega
  have hpt:=partition_miss hup hdown hh
  refine go 1 ?_
  have hg:=hg5
  have hrow:=hrow1
  have hn:=hn1
  refine CW.meet (fun E' w'=>∃ A',Good w' s (A'::os)∧Aux w w'∧RowAt A' g rest (swp (swp d a pivot) i2 j2)∧E'=[(0,.slice (some ⟨g,0,none⟩) n c),(1,i64 a),(10,i64 (i2:Nat)),(11,i64 (j2:Nat))]) ?_ ?_
  ·
   refine CW.forks (.fork [(true,0),(true,1),(true,2),(true,3),(true,4),(true,5),(true,6),(true,8),(true,9),(true,10)] (.line [(false,7),(false,11),(true,12),(false,13),(true,14),(false,15)]) (.line [(false,11),(false,7),(true,12),(false,13),(true,14),(false,15)])) (fun _=>True) mixed (by kernel_rfl) (by kernel_rfl) (by kernel_rfl) (by kernel_rfl) trivial ?_
   refine RT.pre trivial ?_
   refine go 6 ?_
   refine RL.idxR (j2) rfl rfl rfl rfl sl83.out rfl rfl (by omega) (by omega) ?_
   refine go 2 ?_
   refine RL.idxR (i2) rfl rfl rfl rfl sl83.out rfl rfl (by omega) (by omega) ?_
   refine go 1 ?_
   refine RT.both (S:=fun _=>True) trivial (RT.end_ (S:=fun _=>True) trivial ?_) (RT.end_ (S:=fun _=>True) trivial ?_)
   ·
    refine RL.loadR (j2) rfl rfl rfl rfl ty22.out rfl hrow hg.drew.1 (by omega) ?_
    refine RL.loadR (i2) rfl rfl rfl rfl ty22.out rfl hrow hg.drew.1 (by omega) ?_
    refine RL.idxR (i2) rfl rfl rfl rfl sl83.out rfl rfl (by omega) (by omega) ?_
    refine RL.storeR (i2) rfl rfl rfl ty22.out rfl rfl hg.drew hrow (by omega) ?_
    intro ws1 As1 hgs1 haxs1 hrows1
    refine go 1 ?_
    refine RL.idxR (j2) rfl rfl rfl rfl sl83.out rfl rfl (by omega) (by omega) ?_
    refine RL.storeR (j2) rfl rfl rfl ty22.out rfl rfl hgs1 hrows1 (by simp;omega) ?_
    intro ws2 As2 hgs2 haxs2 hrows2
    refine go 2 ?_
    exact fun ac ha=>⟨_,ha.sub (E':=[(0,.slice (some ⟨g,0,none⟩) n c),(1,i64 a),(10,i64 (i2:Nat)),(11,i64 (j2:Nat))]) ⟨rfl,rfl,rfl,rfl,trivial⟩,As2,hgs2,hax5.trans ((Aux.drew _).trans (haxs1.trans haxs2)),hrows2,rfl⟩
   ·
    refine RL.loadR (i2) rfl rfl rfl rfl ty22.out rfl hrow hg.drew.1 (by omega) ?_
    refine RL.loadR (j2) rfl rfl rfl rfl ty22.out rfl hrow hg.drew.1 (by omega) ?_
    refine RL.idxR (i2) rfl rfl rfl rfl sl83.out rfl rfl (by omega) (by omega) ?_
    refine RL.storeR (i2) rfl rfl rfl ty22.out rfl rfl hg.drew hrow (by omega) ?_
    intro ws1 As1 hgs1 haxs1 hrows1
    refine go 1 ?_
    refine RL.idxR (j2) rfl rfl rfl rfl sl83.out rfl rfl (by omega) (by omega) ?_
    refine RL.storeR (j2) rfl rfl rfl ty22.out rfl rfl hgs1 hrows1 (by simp;omega) ?_
    intro ws2 As2 hgs2 haxs2 hrows2
    refine go 2 ?_
    exact fun ac ha=>⟨_,ha.sub (E':=[(0,.slice (some ⟨g,0,none⟩) n c),(1,i64 a),(10,i64 (i2:Nat)),(11,i64 (j2:Nat))]) ⟨rfl,rfl,rfl,rfl,trivial⟩,As2,hgs2,hax5.trans ((Aux.drew _).trans (haxs1.trans haxs2)),hrows2,rfl⟩
  rintro E' w6 ⟨A6,hg6,hax6,hrow6,rfl⟩
  have hn6:(swp (swp d a pivot) i2 j2).size=n:=by rw[size_swp];exact hn1
  refine go 12 ?_
  generalize hd0:swp (swp d a pivot) i2 j2=d0 at *
  refine CW.meet (fun E' w'=>∃ A' dk jf,Good w' s (A'::os)∧Aux w w'∧RowAt A' g rest dk∧dk.size=n∧a≤jf∧jf<n∧Go.Sort.partLoop ltI a (i2+1) (j2-1) d0=(jf,dk)∧E'=[(0,.slice (some ⟨g,0,none⟩) n c),(1,i64 a),(11,i64 (jf:Nat))]) ?_ ?_
  ·
   refine CW.block (CW.loop (σ:=Nat) (fun k E w'=>∃ A' dk i j,Good w' s (A'::os)∧Aux w w'∧RowAt A' g rest dk∧dk.size=n∧a<i∧i≤j+2∧a≤j∧j<n∧j+2-i≤k∧Go.Sort.partLoop ltI a (i2+1) (j2-1) d0=Go.Sort.partLoop ltI a i j dk∧E=[(0,.slice (some ⟨g,0,none⟩) n c),(1,i64 a),(10,i64 (i:Nat)),(11,i64 (j:Nat))])
    (fun k=>k) (n+2) [(0,.slice (some ⟨g,0,none⟩) n c),(1,i64 a),(10,i64 ((i2+1:Nat):Int)),(11,i64 ((j2-1:Nat):Int))] ⟨rfl,rfl,rfl,congrArg (fun z=>some (i64 z)) (by omega),trivial⟩ ⟨A6,d0,i2+1,j2-1,hg6,hax6,hrow6,hn6,by omega,by omega,by omega,by omega,by omega,rfl,rfl⟩ ?_)
   rintro k E w7 ⟨A1,d1,i,j,hg1,hax1,hrow1,hn1,hai,hij,haj,hjn,hk,heq,rfl⟩
   refine go 1 ?_
   refine CW.meet (fun E' w'=>∃ x,Good w' s (A1::os)∧Aux w w'∧i≤x∧x≤j+1+(i-(j+1))∧Go.Sort.scanUp (fun x=>ltI x d1[a]!) d1 j i=x∧E'=[(0,.slice (some ⟨g,0,none⟩) n c),(1,i64 a),(10,i64 (x:Nat)),(11,i64 (j:Nat))]) ?_ ?_
   ·
    clear hup hdown hpt
    refine CW.block (CW.loop (σ:=Nat) (fun k E w'=>∃ x,Good w' s (A1::os)∧Aux w w'∧i≤x∧x≤j+1+(i-(j+1))∧j+1-x≤k∧Go.Sort.scanUp (fun x=>ltI x d1[a]!) d1 j i=Go.Sort.scanUp (fun x=>ltI x d1[a]!) d1 j x∧E=[(0,.slice (some ⟨g,0,none⟩) n c),(1,i64 a),(10,i64 (x:Nat)),(11,i64 (j:Nat))])
     (fun k=>k) (j+1) [(0,.slice (some ⟨g,0,none⟩) n c),(1,i64 a),(10,i64 (i:Nat)),(11,i64 (j:Nat))] ⟨rfl,rfl,rfl,rfl,trivial⟩ ⟨i,hg1,hax1,Nat.le_refl _,by omega,by omega,rfl,rfl⟩ ?_)
    rintro k E w2 ⟨x,hg,hax2,hix,hxj,hk,hsc,rfl⟩
    refine CW.seq (CW.seq ?_)
    refine CW.draws [(true,0),(true,1),(true,2),(true,3),(true,4),(true,5),(true,6),(true,7),(true,8),(true,9),(true,10),(true,11),(false,12),(true,13)] (fun w'=>Good w' s (A1::os)) mixed (by kernel_rfl) (by kernel_rfl) (by kernel_rfl) (by kernel_rfl) hg.drew ?_
    refine go 4 ?_
    refine RL.part 102 rfl (fun hc=>?_) (fun hc=>?_)
    ·
     have hxj':x≤j:=by have:=of_decide_eq_true hc;omega
     refine go 2 ?_
     refine RL.idxR (x) rfl rfl rfl rfl sl83.out rfl rfl (by omega) (by omega) ?_
     refine RL.loadRT (x) rfl rfl rfl rfl ty22.out rfl hrow1 (fun w h=>h.1) (by omega) ?_
     refine go 2 ?_
     refine RL.idxR (a) rfl rfl rfl rfl sl83.out rfl rfl (by omega) (by omega) ?_
     refine RL.loadRT (a) rfl rfl rfl rfl ty22.out rfl hrow1 (fun w h=>h.1) (by omega) ?_
     refine go 1 ?_
     refine zw (Less_ct hg.drew) ?_
     rintro v w3 hg3 hax3 rfl
     refine⟨hg3,?_⟩
     refine go 2 ?_
     refine CW.cond rfl (fun hl=>?_) (fun hl=>?_)
     ·
      refine CW.skip ?_
      refine CW.block (CW.plain ?_)
      refine go 4 ?_
      refine fun ac ha=>⟨k-1,[(0,.slice (some ⟨g,0,none⟩) n c),(1,i64 a),(10,i64 ((x:Int)+1)),(11,i64 (j:Nat))],ha.sub ⟨rfl,rfl,rfl,rfl,trivial⟩,⟨x+1,hg3,hax2.trans ((Aux.drew _).trans hax3),by omega,by omega,by omega,by rw[hsc];exact scanUp_step (p:=fun x=>ltI x d1[a]!) hxj' (by simpa using hl),rfl⟩,by omega⟩
     ·
      refine CW.exit (fun ac ha=>⟨_,ha.sub (E':=[(0,.slice (some ⟨g,0,none⟩) n c),(1,i64 a),(10,i64 (x:Nat)),(11,i64 (j:Nat))]) ⟨rfl,rfl,rfl,rfl,trivial⟩,x,hg3,hax2.trans ((Aux.drew _).trans hax3),hix,hxj,by rw[hsc];exact scanUp_end (p:=fun x=>ltI x d1[a]!) (.inr (by simpa using hl)),rfl⟩)
    ·
     have hxj':¬ x≤j:=by have:=of_decide_eq_false hc;omega
     refine go 11 ?_
     refine CW.no rfl ?_
     refine CW.exit (fun ac ha=>⟨_,ha.sub (E':=[(0,.slice (some ⟨g,0,none⟩) n c),(1,i64 a),(10,i64 (x:Nat)),(11,i64 (j:Nat))]) ⟨rfl,rfl,rfl,rfl,trivial⟩,x,hg.drew,hax2.trans (Aux.drew _),hix,hxj,by rw[hsc];exact scanUp_end (p:=fun x=>ltI x d1[a]!) (.inl hxj'),rfl⟩)
   rintro E' w4 ⟨i3,hg4,hax4,hii3,hi3j,hup3,rfl⟩
   have h1i3:1≤i3:=by omega
   refine CW.meet (fun E' w'=>∃ y,Good w' s (A1::os)∧Aux w w'∧y≤j∧(i3≤y+1∨y=j)∧Go.Sort.scanDown (fun x=> !ltI x d1[a]!) d1 i3 j=y∧E'=[(0,.slice (some ⟨g,0,none⟩) n c),(1,i64 a),(10,i64 (i3:Nat)),(11,i64 (y:Nat))]) ?_ ?_
   ·
    clear hup hdown hpt
    refine CW.block (CW.loop (σ:=Nat) (fun k E w'=>∃ y,Good w' s (A1::os)∧Aux w w'∧y≤j∧(i3≤y+1∨y=j)∧y≤k∧Go.Sort.scanDown (fun x=> !ltI x d1[a]!) d1 i3 j=Go.Sort.scanDown (fun x=> !ltI x d1[a]!) d1 i3 y∧E=[(0,.slice (some ⟨g,0,none⟩) n c),(1,i64 a),(10,i64 (i3:Nat)),(11,i64 (y:Nat))])
     (fun k=>k) j [(0,.slice (some ⟨g,0,none⟩) n c),(1,i64 a),(10,i64 (i3:Nat)),(11,i64 (j:Nat))] ⟨rfl,rfl,rfl,rfl,trivial⟩ ⟨j,hg4,hax4,Nat.le_refl _,.inr rfl,Nat.le_refl _,rfl,rfl⟩ ?_)
    rintro k E w2 ⟨y,hg,hax2,hyj,hiy,hk,hsc,rfl⟩
    refine CW.seq (CW.seq ?_)
    refine CW.draws [(true,0),(true,1),(true,2),(true,3),(true,4),(true,5),(true,6),(true,7),(true,8),(true,9),(true,10),(true,11),(false,12),(true,13),(true,14)] (fun w'=>Good w' s (A1::os)) mixed (by kernel_rfl) (by kernel_rfl) (by kernel_rfl) (by kernel_rfl) hg.drew ?_
    refine go 4 ?_
    refine RL.part 118 rfl (fun hc=>?_) (fun hc=>?_)
    ·
     have hxj':i3≤y:=by have:=of_decide_eq_true hc;omega
     refine go 2 ?_
     refine RL.idxR (y) rfl rfl rfl rfl sl83.out rfl rfl (by omega) (by omega) ?_
     refine RL.loadRT (y) rfl rfl rfl rfl ty22.out rfl hrow1 (fun w h=>h.1) (by omega) ?_
     refine go 2 ?_
     refine RL.idxR (a) rfl rfl rfl rfl sl83.out rfl rfl (by omega) (by omega) ?_
     refine RL.loadRT (a) rfl rfl rfl rfl ty22.out rfl hrow1 (fun w h=>h.1) (by omega) ?_
     refine go 1 ?_
     refine zw (Less_ct hg.drew) ?_
     rintro v w3 hg3 hax3 rfl
     refine⟨hg3,?_⟩
     refine go 3 ?_
     refine CW.cond rfl (fun hl=>?_) (fun hl=>?_)
     ·
      refine CW.skip ?_
      refine CW.block (CW.plain ?_)
      refine go 4 ?_
      refine fun ac ha=>⟨k-1,[(0,.slice (some ⟨g,0,none⟩) n c),(1,i64 a),(10,i64 (i3:Nat)),(11,i64 ((y-1:Nat):Int))],ha.sub ⟨rfl,rfl,rfl,congrArg (fun z=>some (i64 z)) (by omega),trivial⟩,⟨y-1,hg3,hax2.trans ((Aux.drew _).trans hax3),by omega,by omega,by omega,by rw[hsc];exact scanDown_step (p:=fun x=> !ltI x d1[a]!) hxj' (by omega) (by simpa using hl),rfl⟩,by omega⟩
     ·
      refine CW.exit (fun ac ha=>⟨_,ha.sub (E':=[(0,.slice (some ⟨g,0,none⟩) n c),(1,i64 a),(10,i64 (i3:Nat)),(11,i64 (y:Nat))]) ⟨rfl,rfl,rfl,rfl,trivial⟩,y,hg3,hax2.trans ((Aux.drew _).trans hax3),hyj,hiy,by rw[hsc];exact scanDown_end (p:=fun x=> !ltI x d1[a]!) (.inr (by simpa using hl)),rfl⟩)
    ·
     have hxj':¬ i3≤y:=by have:=of_decide_eq_false hc;omega
     refine go 12 ?_
     refine CW.no rfl ?_
     refine CW.exit (fun ac ha=>⟨_,ha.sub (E':=[(0,.slice (some ⟨g,0,none⟩) n c),(1,i64 a),(10,i64 (i3:Nat)),(11,i64 (y:Nat))]) ⟨rfl,rfl,rfl,rfl,trivial⟩,y,hg.drew,hax2.trans (Aux.drew _),hyj,hiy,by rw[hsc];exact scanDown_end (p:=fun x=> !ltI x d1[a]!) (.inl hxj'),rfl⟩)
   rintro E' w8 ⟨j3,hg8,hax8,hj3j,hij3,hdown3,rfl⟩
   have hloop:=part_eq hup3 hdown3 hii3 hj3j
   refine CW.seq (CW.seq (CW.plain ?_))
   refine go 4 ?_
   refine CW.test rfl (fun h3=>?_) (fun h3=>?_)
   ·
    have h3':i3>j3:=by omega
    refine CW.exit (fun ac ha=>⟨_,ha.sub (E':=[(0,.slice (some ⟨g,0,none⟩) n c),(1,i64 a),(11,i64 (j3:Nat))]) ⟨rfl,rfl,rfl,trivial⟩,A1,d1,j3,hg8,hax8,hrow1,hn1,by omega,by omega,by rw[heq,hloop,if_pos h3'],rfl⟩)
   ·
    have h3':¬ i3>j3:=by omega
    refine go 1 ?_
    have hg:=hg8
    have hrow:=hrow1
    have hn:=hn1
    refine CW.meet (fun E' w'=>∃ A',Good w' s (A'::os)∧Aux w w'∧RowAt A' g rest (swp d1 i3 j3)∧E'=[(0,.slice (some ⟨g,0,none⟩) n c),(1,i64 a),(10,i64 (i3:Nat)),(11,i64 (j3:Nat))]) ?_ ?_
    ·
     refine CW.forks (.fork [(true,0),(true,1),(true,2),(true,3),(true,4),(true,5),(true,6),(true,8),(true,9),(true,10)] (.line [(false,7),(false,11),(true,12),(false,13),(true,14),(false,15)]) (.line [(false,11),(false,7),(true,12),(false,13),(true,14),(false,15)])) (fun _=>True) mixed (by kernel_rfl) (by kernel_rfl) (by kernel_rfl) (by kernel_rfl) trivial ?_
     refine RT.pre trivial ?_
     refine go 6 ?_
     refine RL.idxR (j3) rfl rfl rfl rfl sl83.out rfl rfl (by omega) (by omega) ?_
     refine go 2 ?_
     refine RL.idxR (i3) rfl rfl rfl rfl sl83.out rfl rfl (by omega) (by omega) ?_
     refine go 1 ?_
     refine RT.both (S:=fun _=>True) trivial (RT.end_ (S:=fun _=>True) trivial ?_) (RT.end_ (S:=fun _=>True) trivial ?_)
     ·
      refine RL.loadR (j3) rfl rfl rfl rfl ty22.out rfl hrow hg.drew.1 (by omega) ?_
      refine RL.loadR (i3) rfl rfl rfl rfl ty22.out rfl hrow hg.drew.1 (by omega) ?_
      refine RL.idxR (i3) rfl rfl rfl rfl sl83.out rfl rfl (by omega) (by omega) ?_
      refine RL.storeR (i3) rfl rfl rfl ty22.out rfl rfl hg.drew hrow (by omega) ?_
      intro ws1 As1 hgs1 haxs1 hrows1
      refine go 1 ?_
      refine RL.idxR (j3) rfl rfl rfl rfl sl83.out rfl rfl (by omega) (by omega) ?_
      refine RL.storeR (j3) rfl rfl rfl ty22.out rfl rfl hgs1 hrows1 (by simp;omega) ?_
      intro ws2 As2 hgs2 haxs2 hrows2
      refine go 2 ?_
      exact fun ac ha=>⟨_,ha.sub (E':=[(0,.slice (some ⟨g,0,none⟩) n c),(1,i64 a),(10,i64 (i3:Nat)),(11,i64 (j3:Nat))]) ⟨rfl,rfl,rfl,rfl,trivial⟩,As2,hgs2,hax8.trans ((Aux.drew _).trans (haxs1.trans haxs2)),hrows2,rfl⟩
     ·
      refine RL.loadR (i3) rfl rfl rfl rfl ty22.out rfl hrow hg.drew.1 (by omega) ?_
      refine RL.loadR (j3) rfl rfl rfl rfl ty22.out rfl hrow hg.drew.1 (by omega) ?_
      refine RL.idxR (i3) rfl rfl rfl rfl sl83.out rfl rfl (by omega) (by omega) ?_
      refine RL.storeR (i3) rfl rfl rfl ty22.out rfl rfl hg.drew hrow (by omega) ?_
      intro ws1 As1 hgs1 haxs1 hrows1
      refine go 1 ?_
      refine RL.idxR (j3) rfl rfl rfl rfl sl83.out rfl rfl (by omega) (by omega) ?_
      refine RL.storeR (j3) rfl rfl rfl ty22.out rfl rfl hgs1 hrows1 (by simp;omega) ?_
      intro ws2 As2 hgs2 haxs2 hrows2
      refine go 2 ?_
      exact fun ac ha=>⟨_,ha.sub (E':=[(0,.slice (some ⟨g,0,none⟩) n c),(1,i64 a),(10,i64 (i3:Nat)),(11,i64 (j3:Nat))]) ⟨rfl,rfl,rfl,rfl,trivial⟩,As2,hgs2,hax8.trans ((Aux.drew _).trans (haxs1.trans haxs2)),hrows2,rfl⟩
    rintro E' w9 ⟨A9,hg9,hax9,hrow9,rfl⟩
    refine go 11 ?_
    refine fun ac ha=>⟨k-1,[(0,.slice (some ⟨g,0,none⟩) n c),(1,i64 a),(10,i64 ((i3+1:Nat):Int)),(11,i64 ((j3-1:Nat):Int))],ha.sub ⟨rfl,rfl,rfl,congrArg (fun z=>some (i64 z)) (by omega),trivial⟩,⟨A9,_,i3+1,j3-1,hg9,hax9,hrow9,by rw[size_swp];exact hn1,by omega,by omega,by omega,by omega,by omega,by rw[heq,hloop,if_neg h3'],rfl⟩,by omega⟩
  rintro E' w7 ⟨A7,d7,jf,hg,hax7,hrow,hn7,hajf,hjfn,hfin,rfl⟩
  have hn:=hn7
  refine CW.meet (fun E' w'=>∃ A',Good w' s (A'::os)∧Aux w w'∧RowAt A' g rest (swp d7 jf a)∧E'=[(11,i64 (jf:Nat))]) ?_ ?_
  ·
   refine CW.forks (.fork [(true,0),(true,1),(true,2),(true,3),(true,4),(true,5),(true,6),(true,8),(true,9),(true,10)] (.line [(false,7),(false,11),(true,12),(false,13),(true,14),(false,15)]) (.line [(false,11),(false,7),(true,12),(false,13),(true,14),(false,15)])) (fun _=>True) mixed (by kernel_rfl) (by kernel_rfl) (by kernel_rfl) (by kernel_rfl) trivial ?_
   refine RT.pre trivial ?_
   refine go 6 ?_
   refine RL.idxR (a) rfl rfl rfl rfl sl83.out rfl rfl (by omega) (by omega) ?_
   refine go 2 ?_
   refine RL.idxR (jf) rfl rfl rfl rfl sl83.out rfl rfl (by omega) (by omega) ?_
   refine go 1 ?_
   refine RT.both (S:=fun _=>True) trivial (RT.end_ (S:=fun _=>True) trivial ?_) (RT.end_ (S:=fun _=>True) trivial ?_)
   ·
    refine RL.loadR (a) rfl rfl rfl rfl ty22.out rfl hrow hg.drew.1 (by omega) ?_
    refine RL.loadR (jf) rfl rfl rfl rfl ty22.out rfl hrow hg.drew.1 (by omega) ?_
    refine RL.idxR (jf) rfl rfl rfl rfl sl83.out rfl rfl (by omega) (by omega) ?_
    refine RL.storeR (jf) rfl rfl rfl ty22.out rfl rfl hg.drew hrow (by omega) ?_
    intro ws1 As1 hgs1 haxs1 hrows1
    refine go 1 ?_
    refine RL.idxR (a) rfl rfl rfl rfl sl83.out rfl rfl (by omega) (by omega) ?_
    refine RL.storeR (a) rfl rfl rfl ty22.out rfl rfl hgs1 hrows1 (by simp;omega) ?_
    intro ws2 As2 hgs2 haxs2 hrows2
    refine go 2 ?_
    exact fun ac ha=>⟨_,ha.sub (E':=[(11,i64 (jf:Nat))]) ⟨rfl,trivial⟩,As2,hgs2,hax7.trans ((Aux.drew _).trans (haxs1.trans haxs2)),hrows2,rfl⟩
   ·
    refine RL.loadR (jf) rfl rfl rfl rfl ty22.out rfl hrow hg.drew.1 (by omega) ?_
    refine RL.loadR (a) rfl rfl rfl rfl ty22.out rfl hrow hg.drew.1 (by omega) ?_
    refine RL.idxR (jf) rfl rfl rfl rfl sl83.out rfl rfl (by omega) (by omega) ?_
    refine RL.storeR (jf) rfl rfl rfl ty22.out rfl rfl hg.drew hrow (by omega) ?_
    intro ws1 As1 hgs1 haxs1 hrows1
    refine go 1 ?_
    refine RL.idxR (a) rfl rfl rfl rfl sl83.out rfl rfl (by omega) (by omega) ?_
    refine RL.storeR (a) rfl rfl rfl ty22.out rfl rfl hgs1 hrows1 (by simp;omega) ?_
    intro ws2 As2 hgs2 haxs2 hrows2
    refine go 2 ?_
    exact fun ac ha=>⟨_,ha.sub (E':=[(11,i64 (jf:Nat))]) ⟨rfl,trivial⟩,As2,hgs2,hax7.trans ((Aux.drew _).trans (haxs1.trans haxs2)),hrows2,rfl⟩
  rintro E' w8 ⟨A8,hg8,hax8,hrow8,rfl⟩
  refine go 6 ?_
  refine CW.ret (ret (vs:=[_,_]) ⟨_,_,rfl,rfl,_,_,rfl,rfl,rfl⟩ (Post.mk (Le.refl _) hg8 hax8 ⟨rfl,?_,?_⟩))
  ·
   rw[hpt,hfin];rfl
  ·
   rw[hpt,hfin];exact hrow8
end Go.Lw
namespace Go.Lw
open Go.Proofs
open Go.Sort (swp size_swp)
-- a scan upwards: F, RC (the test's region), its order of operations, RI (the step's region), t-names: guard tg, idx/load 1 (at M1), idx/load 2 (at M2), call tc with contract arguments; TI TJ: the slots of i and j
theorem partitionEqual_ct {w:World} {s A:Res} {os:List Res} {g n c a b pivot:Nat} {rest:List Value} {d:Array Int} (hg:Good w s (A::os)) (hrow:RowAt A g rest d) (hn:d.size=n) (hb:b≤n) (hap:a≤pivot) (hpb:pivot<b) (hsz:n<2305843009213693952) :
  Calls Tryz.prog 198 #[.slice (some ⟨g,0,none⟩) n c,i64 a,i64 b,i64 pivot] w
   (Post w s os fun s' A' r=>s'=s∧r=i64 ((Go.Sort.partitionEqual ltI d a b pivot).1:Nat)∧RowAt A' g rest (Go.Sort.partitionEqual ltI d a b pivot).2):=by
 refine enter (l:=[.slice (some ⟨g,0,none⟩) n c,i64 a,i64 b,i64 pivot]) Tryz.func198 rfl Tryz.ntmps198 rfl ?_
 refine go 4 ?_
 refine CW.meet (fun E' w'=>∃ A',Good w' s (A'::os)∧Aux w w'∧RowAt A' g rest (swp d a pivot)∧E'=[(0,.slice (some ⟨g,0,none⟩) n c),(1,i64 a),(2,i64 b)]) ?_ ?_
 ·
  refine CW.forks (.fork [(true,0),(true,1),(true,2),(true,3),(true,4),(true,5),(true,6),(true,8),(true,9),(true,10)] (.line [(false,7),(false,11),(true,12),(false,13),(true,14),(false,15)]) (.line [(false,11),(false,7),(true,12),(false,13),(true,14),(false,15)])) (fun _=>True) mixed (by kernel_rfl) (by kernel_rfl) (by kernel_rfl) (by kernel_rfl) trivial ?_
  refine RT.pre trivial ?_
  refine go 6 ?_
  refine RL.idxR (pivot) rfl rfl rfl rfl sl83.out rfl rfl (by omega) (by omega) ?_
  refine go 2 ?_
  refine RL.idxR (a) rfl rfl rfl rfl sl83.out rfl rfl (by omega) (by omega) ?_
  refine go 1 ?_
  refine RT.both (S:=fun _=>True) trivial (RT.end_ (S:=fun _=>True) trivial ?_) (RT.end_ (S:=fun _=>True) trivial ?_)
  ·
   refine RL.loadR (pivot) rfl rfl rfl rfl ty22.out rfl hrow hg.drew.1 (by omega) ?_
   refine RL.loadR (a) rfl rfl rfl rfl ty22.out rfl hrow hg.drew.1 (by omega) ?_
   refine RL.idxR (a) rfl rfl rfl rfl sl83.out rfl rfl (by omega) (by omega) ?_
   refine RL.storeR (a) rfl rfl rfl ty22.out rfl rfl hg.drew hrow (by omega) ?_
   intro ws1 As1 hgs1 haxs1 hrows1
   refine go 1 ?_
   refine RL.idxR (pivot) rfl rfl rfl rfl sl83.out rfl rfl (by omega) (by omega) ?_
   refine RL.storeR (pivot) rfl rfl rfl ty22.out rfl rfl hgs1 hrows1 (by simp;omega) ?_
   intro ws2 As2 hgs2 haxs2 hrows2
   refine go 2 ?_
   exact fun ac ha=>⟨_,ha.sub (E':=[(0,.slice (some ⟨g,0,none⟩) n c),(1,i64 a),(2,i64 b)]) ⟨rfl,rfl,rfl,trivial⟩,As2,hgs2,(Aux.drew _).trans (haxs1.trans haxs2),hrows2,rfl⟩
  ·
   refine RL.loadR (a) rfl rfl rfl rfl ty22.out rfl hrow hg.drew.1 (by omega) ?_
   refine RL.loadR (pivot) rfl rfl rfl rfl ty22.out rfl hrow hg.drew.1 (by omega) ?_
   refine RL.idxR (a) rfl rfl rfl rfl sl83.out rfl rfl (by omega) (by omega) ?_
   refine RL.storeR (a) rfl rfl rfl ty22.out rfl rfl hg.drew hrow (by omega) ?_
   intro ws1 As1 hgs1 haxs1 hrows1
   refine go 1 ?_
   refine RL.idxR (pivot) rfl rfl rfl rfl sl83.out rfl rfl (by omega) (by omega) ?_
   refine RL.storeR (pivot) rfl rfl rfl ty22.out rfl rfl hgs1 hrows1 (by simp;omega) ?_
   intro ws2 As2 hgs2 haxs2 hrows2
   refine go 2 ?_
   exact fun ac ha=>⟨_,ha.sub (E':=[(0,.slice (some ⟨g,0,none⟩) n c),(1,i64 a),(2,i64 b)]) ⟨rfl,rfl,rfl,trivial⟩,As2,hgs2,(Aux.drew _).trans (haxs1.trans haxs2),hrows2,rfl⟩
 rintro E' w1 ⟨A0,hg0,hax0,hrow0,rfl⟩
 have hn0:(swp d a pivot).size=n:=by rw[size_swp];exact hn
 have hpe:Go.Sort.partitionEqual ltI d a b pivot=Go.Sort.partEqLoop ltI a (a+1) (b-1) (swp d a pivot):=rfl
 generalize swp d a pivot=d0 at *
 refine go 9 ?_
 refine CW.meet (fun E' w'=>∃ A' dk f,Good w' s (A'::os)∧Aux w w'∧RowAt A' g rest dk∧Go.Sort.partitionEqual ltI d a b pivot=(f,dk)∧E'=[(9,i64 (f:Nat))]) ?_ ?_
 ·
  refine CW.block (CW.loop (σ:=Nat) (fun k E w'=>∃ A' dk i j,Good w' s (A'::os)∧Aux w w'∧RowAt A' g rest dk∧dk.size=n∧a<i∧i≤j+2∧a≤j∧j<n∧j+2-i≤k∧Go.Sort.partitionEqual ltI d a b pivot=Go.Sort.partEqLoop ltI a i j dk∧E=[(0,.slice (some ⟨g,0,none⟩) n c),(1,i64 a),(9,i64 (i:Nat)),(10,i64 (j:Nat))])
   (fun k=>k) (n+2) [(0,.slice (some ⟨g,0,none⟩) n c),(1,i64 a),(9,i64 ((a+1:Nat):Int)),(10,i64 ((b-1:Nat):Int))] ⟨rfl,rfl,rfl,congrArg (fun z=>some (i64 z)) (by omega),trivial⟩ ⟨A0,d0,a+1,b-1,hg0,hax0,hrow0,hn0,by omega,by omega,by omega,by omega,by omega,hpe,rfl⟩ ?_)
  rintro k E w7 ⟨A1,d1,i,j,hg1,hax1,hrow1,hn1,hai,hij,haj,hjn,hk,heq,rfl⟩
  refine go 1 ?_
  refine CW.meet (fun E' w'=>∃ x,Good w' s (A1::os)∧Aux w w'∧i≤x∧x≤j+1+(i-(j+1))∧Go.Sort.scanUp (fun x=> !ltI d1[a]! x) d1 j i=x∧E'=[(0,.slice (some ⟨g,0,none⟩) n c),(1,i64 a),(9,i64 (x:Nat)),(10,i64 (j:Nat))]) ?_ ?_
  ·
   refine CW.block (CW.loop (σ:=Nat) (fun k E w'=>∃ x,Good w' s (A1::os)∧Aux w w'∧i≤x∧x≤j+1+(i-(j+1))∧j+1-x≤k∧Go.Sort.scanUp (fun x=> !ltI d1[a]! x) d1 j i=Go.Sort.scanUp (fun x=> !ltI d1[a]! x) d1 j x∧E=[(0,.slice (some ⟨g,0,none⟩) n c),(1,i64 a),(9,i64 (x:Nat)),(10,i64 (j:Nat))])
    (fun k=>k) (j+1) [(0,.slice (some ⟨g,0,none⟩) n c),(1,i64 a),(9,i64 (i:Nat)),(10,i64 (j:Nat))] ⟨rfl,rfl,rfl,rfl,trivial⟩ ⟨i,hg1,hax1,Nat.le_refl _,by omega,by omega,rfl,rfl⟩ ?_)
   rintro k E w2 ⟨x,hg,hax2,hix,hxj,hk,hsc,rfl⟩
   refine CW.seq (CW.seq ?_)
   refine CW.draws [(true,0),(true,1),(true,2),(true,3),(true,4),(true,5),(true,6),(true,7),(true,8),(true,9),(true,10),(true,11),(false,12),(true,13),(true,14)] (fun w'=>Good w' s (A1::os)) mixed (by kernel_rfl) (by kernel_rfl) (by kernel_rfl) (by kernel_rfl) hg.drew ?_
   refine go 4 ?_
   refine RL.part 32 rfl (fun hc=>?_) (fun hc=>?_)
   ·
    have hxj':x≤j:=by have:=of_decide_eq_true hc;omega
    refine go 2 ?_
    refine RL.idxR (a) rfl rfl rfl rfl sl83.out rfl rfl (by omega) (by omega) ?_
    refine RL.loadRT (a) rfl rfl rfl rfl ty22.out rfl hrow1 (fun w h=>h.1) (by omega) ?_
    refine go 2 ?_
    refine RL.idxR (x) rfl rfl rfl rfl sl83.out rfl rfl (by omega) (by omega) ?_
    refine RL.loadRT (x) rfl rfl rfl rfl ty22.out rfl hrow1 (fun w h=>h.1) (by omega) ?_
    refine go 1 ?_
    refine zw (Less_ct hg.drew) ?_
    rintro v w3 hg3 hax3 rfl
    refine⟨hg3,?_⟩
    refine go 3 ?_
    refine CW.cond rfl (fun hl=>?_) (fun hl=>?_)
    ·
     refine CW.skip ?_
     refine CW.block (CW.plain ?_)
     refine go 4 ?_
     refine fun ac ha=>⟨k-1,[(0,.slice (some ⟨g,0,none⟩) n c),(1,i64 a),(9,i64 ((x:Int)+1)),(10,i64 (j:Nat))],ha.sub ⟨rfl,rfl,rfl,rfl,trivial⟩,⟨x+1,hg3,hax2.trans ((Aux.drew _).trans hax3),by omega,by omega,by omega,by rw[hsc];exact scanUp_step (p:=fun x=> !ltI d1[a]! x) hxj' (by simpa using hl),rfl⟩,by omega⟩
    ·
     refine CW.exit (fun ac ha=>⟨_,ha.sub (E':=[(0,.slice (some ⟨g,0,none⟩) n c),(1,i64 a),(9,i64 (x:Nat)),(10,i64 (j:Nat))]) ⟨rfl,rfl,rfl,rfl,trivial⟩,x,hg3,hax2.trans ((Aux.drew _).trans hax3),hix,hxj,by rw[hsc];exact scanUp_end (p:=fun x=> !ltI d1[a]! x) (.inr (by simpa using hl)),rfl⟩)
   ·
    have hxj':¬ x≤j:=by have:=of_decide_eq_false hc;omega
    refine go 12 ?_
    refine CW.no rfl ?_
    refine CW.exit (fun ac ha=>⟨_,ha.sub (E':=[(0,.slice (some ⟨g,0,none⟩) n c),(1,i64 a),(9,i64 (x:Nat)),(10,i64 (j:Nat))]) ⟨rfl,rfl,rfl,rfl,trivial⟩,x,hg.drew,hax2.trans (Aux.drew _),hix,hxj,by rw[hsc];exact scanUp_end (p:=fun x=> !ltI d1[a]! x) (.inl hxj'),rfl⟩)
  rintro E' w4 ⟨i2,hg4,hax4,hii2,hi2j,hup,rfl⟩
  have h1i:1≤i2:=by omega
  refine CW.meet (fun E' w'=>∃ y,Good w' s (A1::os)∧Aux w w'∧y≤j∧(i2≤y+1∨y=j)∧Go.Sort.scanDown (fun x=>ltI d1[a]! x) d1 i2 j=y∧E'=[(0,.slice (some ⟨g,0,none⟩) n c),(1,i64 a),(9,i64 (i2:Nat)),(10,i64 (y:Nat))]) ?_ ?_
  ·
   refine CW.block (CW.loop (σ:=Nat) (fun k E w'=>∃ y,Good w' s (A1::os)∧Aux w w'∧y≤j∧(i2≤y+1∨y=j)∧y≤k∧Go.Sort.scanDown (fun x=>ltI d1[a]! x) d1 i2 j=Go.Sort.scanDown (fun x=>ltI d1[a]! x) d1 i2 y∧E=[(0,.slice (some ⟨g,0,none⟩) n c),(1,i64 a),(9,i64 (i2:Nat)),(10,i64 (y:Nat))])
    (fun k=>k) j [(0,.slice (some ⟨g,0,none⟩) n c),(1,i64 a),(9,i64 (i2:Nat)),(10,i64 (j:Nat))] ⟨rfl,rfl,rfl,rfl,trivial⟩ ⟨j,hg4,hax4,Nat.le_refl _,.inr rfl,Nat.le_refl _,rfl,rfl⟩ ?_)
   rintro k E w2 ⟨y,hg,hax2,hyj,hiy,hk,hsc,rfl⟩
   refine CW.seq (CW.seq ?_)
   refine CW.draws [(true,0),(true,1),(true,2),(true,3),(true,4),(true,5),(true,6),(true,7),(true,8),(true,9),(true,10),(true,11),(false,12),(true,13)] (fun w'=>Good w' s (A1::os)) mixed (by kernel_rfl) (by kernel_rfl) (by kernel_rfl) (by kernel_rfl) hg.drew ?_
   refine go 4 ?_
   refine RL.part 49 rfl (fun hc=>?_) (fun hc=>?_)
   ·
    have hxj':i2≤y:=by have:=of_decide_eq_true hc;omega
    refine go 2 ?_
    refine RL.idxR (a) rfl rfl rfl rfl sl83.out rfl rfl (by omega) (by omega) ?_
    refine RL.loadRT (a) rfl rfl rfl rfl ty22.out rfl hrow1 (fun w h=>h.1) (by omega) ?_
    refine go 2 ?_
    refine RL.idxR (y) rfl rfl rfl rfl sl83.out rfl rfl (by omega) (by omega) ?_
    refine RL.loadRT (y) rfl rfl rfl rfl ty22.out rfl hrow1 (fun w h=>h.1) (by omega) ?_
    refine go 1 ?_
    refine zw (Less_ct hg.drew) ?_
    rintro v w3 hg3 hax3 rfl
    refine⟨hg3,?_⟩
    refine go 2 ?_
    refine CW.cond rfl (fun hl=>?_) (fun hl=>?_)
    ·
     refine CW.skip ?_
     refine CW.block (CW.plain ?_)
     refine go 4 ?_
     refine fun ac ha=>⟨k-1,[(0,.slice (some ⟨g,0,none⟩) n c),(1,i64 a),(9,i64 (i2:Nat)),(10,i64 ((y-1:Nat):Int))],ha.sub ⟨rfl,rfl,rfl,congrArg (fun z=>some (i64 z)) (by omega),trivial⟩,⟨y-1,hg3,hax2.trans ((Aux.drew _).trans hax3),by omega,by omega,by omega,by rw[hsc];exact scanDown_step (p:=fun x=>ltI d1[a]! x) hxj' (by omega) (by simpa using hl),rfl⟩,by omega⟩
    ·
     refine CW.exit (fun ac ha=>⟨_,ha.sub (E':=[(0,.slice (some ⟨g,0,none⟩) n c),(1,i64 a),(9,i64 (i2:Nat)),(10,i64 (y:Nat))]) ⟨rfl,rfl,rfl,rfl,trivial⟩,y,hg3,hax2.trans ((Aux.drew _).trans hax3),hyj,hiy,by rw[hsc];exact scanDown_end (p:=fun x=>ltI d1[a]! x) (.inr (by simpa using hl)),rfl⟩)
   ·
    have hxj':¬ i2≤y:=by have:=of_decide_eq_false hc;omega
    refine go 11 ?_
    refine CW.no rfl ?_
    refine CW.exit (fun ac ha=>⟨_,ha.sub (E':=[(0,.slice (some ⟨g,0,none⟩) n c),(1,i64 a),(9,i64 (i2:Nat)),(10,i64 (y:Nat))]) ⟨rfl,rfl,rfl,rfl,trivial⟩,y,hg.drew,hax2.trans (Aux.drew _),hyj,hiy,by rw[hsc];exact scanDown_end (p:=fun x=>ltI d1[a]! x) (.inl hxj'),rfl⟩)
  rintro E' w8 ⟨j2,hg8,hax8,hj2j,hij2,hdown,rfl⟩
  have hloop:=partEq_eq hup hdown hii2 hj2j
  refine CW.seq (CW.seq (CW.plain ?_))
  refine go 4 ?_
  refine CW.test rfl (fun h3=>?_) (fun h3=>?_)
  ·
   have h3':i2>j2:=by omega
   refine CW.exit (fun ac ha=>⟨_,ha.sub (E':=[(9,i64 (i2:Nat))]) ⟨rfl,trivial⟩,A1,d1,i2,hg8,hax8,hrow1,by rw[heq,hloop,if_pos h3'],rfl⟩)
  ·
   have h3':¬ i2>j2:=by omega
   refine go 1 ?_
   have hg:=hg8
   have hrow:=hrow1
   have hn:=hn1
   refine CW.meet (fun E' w'=>∃ A',Good w' s (A'::os)∧Aux w w'∧RowAt A' g rest (swp d1 i2 j2)∧E'=[(0,.slice (some ⟨g,0,none⟩) n c),(1,i64 a),(9,i64 (i2:Nat)),(10,i64 (j2:Nat))]) ?_ ?_
   ·
    refine CW.forks (.fork [(true,0),(true,1),(true,2),(true,3),(true,4),(true,5),(true,6),(true,8),(true,9),(true,10)] (.line [(false,7),(false,11),(true,12),(false,13),(true,14),(false,15)]) (.line [(false,11),(false,7),(true,12),(false,13),(true,14),(false,15)])) (fun _=>True) mixed (by kernel_rfl) (by kernel_rfl) (by kernel_rfl) (by kernel_rfl) trivial ?_
    refine RT.pre trivial ?_
    refine go 6 ?_
    refine RL.idxR (j2) rfl rfl rfl rfl sl83.out rfl rfl (by omega) (by omega) ?_
    refine go 2 ?_
    refine RL.idxR (i2) rfl rfl rfl rfl sl83.out rfl rfl (by omega) (by omega) ?_
    refine go 1 ?_
    refine RT.both (S:=fun _=>True) trivial (RT.end_ (S:=fun _=>True) trivial ?_) (RT.end_ (S:=fun _=>True) trivial ?_)
    ·
     refine RL.loadR (j2) rfl rfl rfl rfl ty22.out rfl hrow hg.drew.1 (by omega) ?_
     refine RL.loadR (i2) rfl rfl rfl rfl ty22.out rfl hrow hg.drew.1 (by omega) ?_
     refine RL.idxR (i2) rfl rfl rfl rfl sl83.out rfl rfl (by omega) (by omega) ?_
     refine RL.storeR (i2) rfl rfl rfl ty22.out rfl rfl hg.drew hrow (by omega) ?_
     intro ws1 As1 hgs1 haxs1 hrows1
     refine go 1 ?_
     refine RL.idxR (j2) rfl rfl rfl rfl sl83.out rfl rfl (by omega) (by omega) ?_
     refine RL.storeR (j2) rfl rfl rfl ty22.out rfl rfl hgs1 hrows1 (by simp;omega) ?_
     intro ws2 As2 hgs2 haxs2 hrows2
     refine go 2 ?_
     exact fun ac ha=>⟨_,ha.sub (E':=[(0,.slice (some ⟨g,0,none⟩) n c),(1,i64 a),(9,i64 (i2:Nat)),(10,i64 (j2:Nat))]) ⟨rfl,rfl,rfl,rfl,trivial⟩,As2,hgs2,hax8.trans ((Aux.drew _).trans (haxs1.trans haxs2)),hrows2,rfl⟩
    ·
     refine RL.loadR (i2) rfl rfl rfl rfl ty22.out rfl hrow hg.drew.1 (by omega) ?_
     refine RL.loadR (j2) rfl rfl rfl rfl ty22.out rfl hrow hg.drew.1 (by omega) ?_
     refine RL.idxR (i2) rfl rfl rfl rfl sl83.out rfl rfl (by omega) (by omega) ?_
     refine RL.storeR (i2) rfl rfl rfl ty22.out rfl rfl hg.drew hrow (by omega) ?_
     intro ws1 As1 hgs1 haxs1 hrows1
     refine go 1 ?_
     refine RL.idxR (j2) rfl rfl rfl rfl sl83.out rfl rfl (by omega) (by omega) ?_
     refine RL.storeR (j2) rfl rfl rfl ty22.out rfl rfl hgs1 hrows1 (by simp;omega) ?_
     intro ws2 As2 hgs2 haxs2 hrows2
     refine go 2 ?_
     exact fun ac ha=>⟨_,ha.sub (E':=[(0,.slice (some ⟨g,0,none⟩) n c),(1,i64 a),(9,i64 (i2:Nat)),(10,i64 (j2:Nat))]) ⟨rfl,rfl,rfl,rfl,trivial⟩,As2,hgs2,hax8.trans ((Aux.drew _).trans (haxs1.trans haxs2)),hrows2,rfl⟩
   rintro E' w9 ⟨A9,hg9,hax9,hrow9,rfl⟩
   refine go 11 ?_
   refine fun ac ha=>⟨k-1,[(0,.slice (some ⟨g,0,none⟩) n c),(1,i64 a),(9,i64 ((i2+1:Nat):Int)),(10,i64 ((j2-1:Nat):Int))],ha.sub ⟨rfl,rfl,rfl,congrArg (fun z=>some (i64 z)) (by omega),trivial⟩,⟨A9,_,i2+1,j2-1,hg9,hax9,hrow9,by rw[size_swp];exact hn1,by omega,by omega,by omega,by omega,by omega,by rw[heq,hloop,if_neg h3'],rfl⟩,by omega⟩
 rintro E' w7 ⟨A7,d7,f,hg7,hax7,hrow7,hfin,rfl⟩
 refine go 5 ?_
 refine CW.ret (ret (vs:=[_]) ⟨_,_,rfl,rfl,rfl⟩ (Post.mk (Le.refl _) hg7 hax7 ⟨rfl,?_,?_⟩))
 ·
  rw[hfin];rfl
 ·
  rw[hfin];exact hrow7
end Go.Lw
namespace Go.Lw
open Go.Proofs
open Go.Sort (swp size_swp)
theorem scanSorted_step {d:Array Int} {b i:Nat} (h:i<b) (hl:ltI d[i]! d[i-1]! = false):Go.Sort.scanSorted ltI d b i=Go.Sort.scanSorted ltI d b (i+1):=by
 rw[Go.Sort.scanSorted,if_pos (by simp[h,hl])]
theorem scanSorted_end {d:Array Int} {b i:Nat} (h:¬ i<b∨ltI d[i]! d[i-1]! = true):Go.Sort.scanSorted ltI d b i=i:=by
 rw[Go.Sort.scanSorted,if_neg]
 rcases h with h | h
 ·
  simp[h]
 ·
  simp[h]
theorem shiftDown_step {d:Array Int} {j:Nat} (h:1≤j) (hl:ltI d[j]! d[j-1]! = true):Go.Sort.shiftDown ltI j d=Go.Sort.shiftDown ltI (j-1) (swp d j (j-1)):=by
 obtain⟨j,rfl⟩:∃ m,j=m+1:=⟨j-1,by omega⟩
 simp only[Nat.add_sub_cancel] at *
 rw[Go.Sort.shiftDown,if_neg (by simp[hl])]
theorem shiftDown_end {d:Array Int} {j:Nat} (h:¬ 1≤j∨ltI d[j]! d[j-1]! = false):Go.Sort.shiftDown ltI j d=d:=by
 cases j with
 | zero=>rfl
 | succ j =>
  rcases h with h | h
  ·
   omega
  ·
   simp only[Nat.add_sub_cancel] at h
   rw[Go.Sort.shiftDown,if_pos (by simp[h])]
theorem shiftUp_step {d:Array Int} {b j:Nat} (h:j<b) (hl:ltI d[j]! d[j-1]! = true):Go.Sort.shiftUp ltI b j d=Go.Sort.shiftUp ltI b (j+1) (swp d j (j-1)):=by
 rw[Go.Sort.shiftUp,if_pos h,if_neg (by simp[hl])]
theorem shiftUp_end {d:Array Int} {b j:Nat} (h:¬ j<b∨ltI d[j]! d[j-1]! = false):Go.Sort.shiftUp ltI b j d=d:=by
 rw[Go.Sort.shiftUp]
 by_cases hj:j<b
 ·
  rw[if_pos hj,if_pos (by simpa [hj] using h)]
 ·
  rw[if_neg hj]
def pd (a x:Nat) (d:Array Int):Array Int:=if x-a≥2 then Go.Sort.shiftDown ltI (x-1) (swp d x (x-1)) else swp d x (x-1)
def pu (b x:Nat) (d:Array Int):Array Int:=if b-x≥2 then Go.Sort.shiftUp ltI b (x+1) d else d
theorem pi_done {a b s i x:Nat} {d:Array Int} (h:Go.Sort.scanSorted ltI d b i=x) (hx:x=b):Go.Sort.partialIns ltI a b (s+1) i d=(d,true):=by
 simp only[Go.Sort.partialIns,h];rw[if_pos hx]
theorem pi_short {a b s i x:Nat} {d:Array Int} (h:Go.Sort.scanSorted ltI d b i=x) (hx:¬ x=b) (hs:b-a<50):Go.Sort.partialIns ltI a b (s+1) i d=(d,false):=by
 simp only[Go.Sort.partialIns,h];rw[if_neg hx,if_pos hs]
theorem pi_go {a b s i x:Nat} {d:Array Int} (h:Go.Sort.scanSorted ltI d b i=x) (hx:¬ x=b) (hs:¬ b-a<50):Go.Sort.partialIns ltI a b (s+1) i d=Go.Sort.partialIns ltI a b s x (pu b x (pd a x d)):=by
 simp only[Go.Sort.partialIns,h];rw[if_neg hx,if_neg hs];rfl
theorem partialIns_ct {w:World} {s A:Res} {os:List Res} {g n c a b:Nat} {rest:List Value} {d:Array Int} (hg:Good w s (A::os)) (hrow:RowAt A g rest d) (hn:d.size=n) (hb:b≤n) (hab:a<b) (hsz:n<2305843009213693952) :
  Calls Tryz.prog 196 #[.slice (some ⟨g,0,none⟩) n c,i64 a,i64 b] w
   (Post w s os fun s' A' r=>s'=s∧r = .bool (Go.Sort.partialInsertionSort ltI d a b).2∧RowAt A' g rest (Go.Sort.partialInsertionSort ltI d a b).1):=by
 refine enter (l:=[.slice (some ⟨g,0,none⟩) n c,i64 a,i64 b]) Tryz.func196 rfl Tryz.ntmps196 rfl ?_
 refine go 10 ?_
 refine CW.seq (CW.seq (CW.plain ?_))
 refine go 2 ?_
 refine CW.block (CW.loop (σ:=Nat) (fun st E w'=>∃ A' dk i,Good w' s (A'::os)∧Aux w w'∧RowAt A' g rest dk∧dk.size=n∧a<i∧i≤b∧st≤5∧Go.Sort.partialInsertionSort ltI d a b=Go.Sort.partialIns ltI a b st i dk∧E=[(0,.slice (some ⟨g,0,none⟩) n c),(1,i64 a),(2,i64 b),(7,i64 (i:Nat)),(8,i64 (5-((st:Nat):Int)))])
  (fun st=>st) 5 [(0,.slice (some ⟨g,0,none⟩) n c),(1,i64 a),(2,i64 b),(7,i64 ((a+1:Nat):Int)),(8,i64 (5-((5:Nat):Int)))] ⟨rfl,rfl,rfl,rfl,rfl,trivial⟩ ⟨A,d,a+1,hg,Aux.refl _,hrow,hn,by omega,by omega,Nat.le_refl _,rfl,rfl⟩ ?_)
 rintro st E w1 ⟨A1,d1,i,hg1,hax1,hrow1,hn1,hai,hib,hst,heq,rfl⟩
 refine CW.seq (CW.seq (CW.plain ?_))
 refine go 3 ?_
 refine CW.test rfl (fun h=>?_) (fun h=>?_)
 ·
  refine CW.skip ?_
  obtain⟨st,rfl⟩:∃ m,st=m+1:=⟨st-1,by omega⟩
  refine CW.meet (fun E' w'=>∃ x A' dk,Good w' s (A'::os)∧Aux w w'∧RowAt A' g rest dk∧dk.size=n∧a<x∧x≤b∧Go.Sort.partialInsertionSort ltI d a b=Go.Sort.partialIns ltI a b st x dk∧E'=[(0,.slice (some ⟨g,0,none⟩) n c),(1,i64 a),(2,i64 b),(7,i64 (x:Nat)),(8,i64 (5-((st+1:Nat):Int)))]) ?_ ?_
  rotate_left
  ·
   rintro E' w7 ⟨x,A7,d7,hg7,hax7,hrow7,hn7,hax',hxb,hfin,rfl⟩
   refine go 5 ?_
   refine fun ac ha=>⟨st,[(0,.slice (some ⟨g,0,none⟩) n c),(1,i64 a),(2,i64 b),(7,i64 (x:Nat)),(8,i64 (5-((st:Nat):Int)))],ha.sub ⟨rfl,rfl,rfl,rfl,congrArg (fun z=>some (i64 z)) (by omega),trivial⟩,⟨A7,d7,x,hg7,hax7,hrow7,hn7,by omega,hxb,by omega,hfin,rfl⟩,by omega⟩
  refine go 1 ?_
  -- the part that is sorted already
  refine CW.meet (fun E' w'=>∃ x,Good w' s (A1::os)∧Aux w w'∧i≤x∧x≤b∧Go.Sort.scanSorted ltI d1 b i=x∧E'=[(0,.slice (some ⟨g,0,none⟩) n c),(1,i64 a),(2,i64 b),(7,i64 (x:Nat)),(8,i64 (5-((st+1:Nat):Int)))]) ?_ ?_
  ·
   refine CW.block (CW.loop (σ:=Nat) (fun k E w'=>∃ x,Good w' s (A1::os)∧Aux w w'∧i≤x∧x≤b∧b-x≤k∧Go.Sort.scanSorted ltI d1 b i=Go.Sort.scanSorted ltI d1 b x∧E=[(0,.slice (some ⟨g,0,none⟩) n c),(1,i64 a),(2,i64 b),(7,i64 (x:Nat)),(8,i64 (5-((st+1:Nat):Int)))])
    (fun k=>k) b [(0,.slice (some ⟨g,0,none⟩) n c),(1,i64 a),(2,i64 b),(7,i64 (i:Nat)),(8,i64 (5-((st+1:Nat):Int)))] ⟨rfl,rfl,rfl,rfl,rfl,trivial⟩ ⟨i,hg1,hax1,Nat.le_refl _,hib,by omega,rfl,rfl⟩ ?_)
   rintro k E w2 ⟨x,hg,hax2,hix,hxb,hk,hsc,rfl⟩
   refine CW.seq (CW.seq ?_)
   refine CW.draws [(true,0),(true,1),(true,2),(true,3),(true,4),(true,5),(true,6),(true,7),(true,8),(true,9),(true,10),(true,11),(true,12),(false,13),(true,14),(true,15)] (fun w'=>Good w' s (A1::os)) mixed (by kernel_rfl) (by kernel_rfl) (by kernel_rfl) (by kernel_rfl) hg.drew ?_
   refine go 4 ?_
   refine RL.part 20 rfl (fun hc=>?_) (fun hc=>?_)
   ·
    have hxb':x<b:=by have:=of_decide_eq_true hc;omega
    refine go 2 ?_
    refine RL.idxR x rfl rfl rfl rfl sl83.out rfl rfl rfl (by omega) ?_
    refine RL.loadRT x rfl rfl rfl rfl ty22.out rfl hrow1 (fun w h=>h.1) (by omega) ?_
    refine go 3 ?_
    refine RL.idxR (x-1) rfl rfl rfl rfl sl83.out rfl rfl (by omega) (by omega) ?_
    refine RL.loadRT (x-1) rfl rfl rfl rfl ty22.out rfl hrow1 (fun w h=>h.1) (by omega) ?_
    refine go 1 ?_
    refine zw (Less_ct hg.drew) ?_
    rintro v w3 hg3 hax3 rfl
    refine⟨hg3,?_⟩
    refine go 3 ?_
    refine CW.cond rfl (fun hl=>?_) (fun hl=>?_)
    ·
     refine CW.skip ?_
     refine CW.block (CW.plain ?_)
     refine go 4 ?_
     refine fun ac ha=>⟨k-1,[(0,.slice (some ⟨g,0,none⟩) n c),(1,i64 a),(2,i64 b),(7,i64 ((x:Int)+1)),(8,i64 (5-((st+1:Nat):Int)))],ha.sub ⟨rfl,rfl,rfl,rfl,rfl,trivial⟩,⟨x+1,hg3,hax2.trans ((Aux.drew _).trans hax3),by omega,by omega,by omega,by rw[hsc];exact scanSorted_step hxb' (by simpa using hl),rfl⟩,by omega⟩
    ·
     refine CW.exit (fun ac ha=>⟨_,ha.sub (E':=[(0,.slice (some ⟨g,0,none⟩) n c),(1,i64 a),(2,i64 b),(7,i64 (x:Nat)),(8,i64 (5-((st+1:Nat):Int)))]) ⟨rfl,rfl,rfl,rfl,rfl,trivial⟩,x,hg3,hax2.trans ((Aux.drew _).trans hax3),hix,hxb,by rw[hsc];exact scanSorted_end (.inr (by simpa using hl)),rfl⟩)
   ·
    have hxb':¬ x<b:=by have:=of_decide_eq_false hc;omega
    refine go 13 ?_
    refine CW.no rfl ?_
    refine CW.exit (fun ac ha=>⟨_,ha.sub (E':=[(0,.slice (some ⟨g,0,none⟩) n c),(1,i64 a),(2,i64 b),(7,i64 (x:Nat)),(8,i64 (5-((st+1:Nat):Int)))]) ⟨rfl,rfl,rfl,rfl,rfl,trivial⟩,x,hg.drew,hax2.trans (Aux.drew _),hix,hxb,by rw[hsc];exact scanSorted_end (.inl hxb'),rfl⟩)
  rintro E' w4 ⟨x,hg4,hax4,hix,hxb,hsc,rfl⟩
  refine CW.seq (CW.seq (CW.plain ?_))
  refine go 4 ?_
  refine CW.eq rfl (fun he=>?_) (fun he=>?_)
  ·
   refine CW.seq (CW.plain ?_)
   refine go 2 ?_
   have hpd:=pi_done (a:=a) (s:=st) hsc (by omega)
   refine CW.ret (ret (vs:=[_]) ⟨_,_,rfl,rfl,rfl⟩ (Post.mk (Le.refl _) hg4 hax4 ⟨rfl,?_,?_⟩))
   ·
    rw[heq,hpd];rfl
   ·
    rw[heq,hpd];exact hrow1
  have hxb2:¬ x=b:=by omega
  refine go 1 ?_
  refine CW.seq (CW.seq (CW.plain ?_))
  refine go 5 ?_
  refine CW.test rfl (fun h5=>?_) (fun h5=>?_)
  ·
   refine CW.seq (CW.plain ?_)
   refine go 2 ?_
   have hpd:=pi_short (a:=a) (s:=st) hsc hxb2 (by omega)
   refine CW.ret (ret (vs:=[_]) ⟨_,_,rfl,rfl,rfl⟩ (Post.mk (Le.refl _) hg4 hax4 ⟨rfl,?_,?_⟩))
   ·
    rw[heq,hpd];rfl
   ·
    rw[heq,hpd];exact hrow1
  refine go 1 ?_
  have hgo:=pi_go (a:=a) (s:=st) hsc hxb2 (by omega)
  have hg:=hg4
  have hrow:=hrow1
  have hn:=hn1
  refine CW.meet (fun E' w'=>∃ A',Good w' s (A'::os)∧Aux w w'∧RowAt A' g rest (swp d1 x (x-1))∧E'=[(0,.slice (some ⟨g,0,none⟩) n c),(1,i64 a),(2,i64 b),(7,i64 (x:Nat)),(8,i64 (5-((st+1:Nat):Int)))]) ?_ ?_
  ·
   refine CW.forks (.fork [(true,0),(true,1),(true,2),(true,3),(true,4),(true,5),(true,6),(true,7),(true,8),(true,10),(true,11),(true,12)] (.line [(false,9),(false,13),(true,14),(false,15),(true,16),(false,17)]) (.line [(false,13),(false,9),(true,14),(false,15),(true,16),(false,17)])) (fun _=>True) mixed (by kernel_rfl) (by kernel_rfl) (by kernel_rfl) (by kernel_rfl) trivial ?_
   refine RT.pre trivial ?_
   refine go 8 ?_
   refine RL.idxR (x-1) rfl rfl rfl rfl sl83.out rfl rfl (by omega) (by omega) ?_
   refine go 2 ?_
   refine RL.idxR (x) rfl rfl rfl rfl sl83.out rfl rfl (by omega) (by omega) ?_
   refine go 1 ?_
   refine RT.both (S:=fun _=>True) trivial (RT.end_ (S:=fun _=>True) trivial ?_) (RT.end_ (S:=fun _=>True) trivial ?_)
   ·
    refine RL.loadR (x-1) rfl rfl rfl rfl ty22.out rfl hrow hg.drew.1 (by omega) ?_
    refine RL.loadR (x) rfl rfl rfl rfl ty22.out rfl hrow hg.drew.1 (by omega) ?_
    refine RL.idxR (x) rfl rfl rfl rfl sl83.out rfl rfl (by omega) (by omega) ?_
    refine RL.storeR (x) rfl rfl rfl ty22.out rfl rfl hg.drew hrow (by omega) ?_
    intro ws1 As1 hgs1 haxs1 hrows1
    refine go 1 ?_
    refine RL.idxR (x-1) rfl rfl rfl rfl sl83.out rfl rfl (by omega) (by omega) ?_
    refine RL.storeR (x-1) rfl rfl rfl ty22.out rfl rfl hgs1 hrows1 (by simp;omega) ?_
    intro ws2 As2 hgs2 haxs2 hrows2
    refine go 2 ?_
    exact fun ac ha=>⟨_,ha.sub (E':=[(0,.slice (some ⟨g,0,none⟩) n c),(1,i64 a),(2,i64 b),(7,i64 (x:Nat)),(8,i64 (5-((st+1:Nat):Int)))]) ⟨rfl,rfl,rfl,rfl,rfl,trivial⟩,As2,hgs2,hax4.trans ((Aux.drew _).trans (haxs1.trans haxs2)),hrows2,rfl⟩
   ·
    refine RL.loadR (x) rfl rfl rfl rfl ty22.out rfl hrow hg.drew.1 (by omega) ?_
    refine RL.loadR (x-1) rfl rfl rfl rfl ty22.out rfl hrow hg.drew.1 (by omega) ?_
    refine RL.idxR (x) rfl rfl rfl rfl sl83.out rfl rfl (by omega) (by omega) ?_
    refine RL.storeR (x) rfl rfl rfl ty22.out rfl rfl hg.drew hrow (by omega) ?_
    intro ws1 As1 hgs1 haxs1 hrows1
    refine go 1 ?_
    refine RL.idxR (x-1) rfl rfl rfl rfl sl83.out rfl rfl (by omega) (by omega) ?_
    refine RL.storeR (x-1) rfl rfl rfl ty22.out rfl rfl hgs1 hrows1 (by simp;omega) ?_
    intro ws2 As2 hgs2 haxs2 hrows2
    refine go 2 ?_
    exact fun ac ha=>⟨_,ha.sub (E':=[(0,.slice (some ⟨g,0,none⟩) n c),(1,i64 a),(2,i64 b),(7,i64 (x:Nat)),(8,i64 (5-((st+1:Nat):Int)))]) ⟨rfl,rfl,rfl,rfl,rfl,trivial⟩,As2,hgs2,hax4.trans ((Aux.drew _).trans (haxs1.trans haxs2)),hrows2,rfl⟩
  rintro E' w5 ⟨A5,hg5,hax5,hrow5,rfl⟩
  have hn5:(swp d1 x (x-1)).size=n:=by rw[size_swp];exact hn1
  -- the smaller one goes down
  refine CW.meet (fun E' w'=>∃ A' dk,Good w' s (A'::os)∧Aux w w'∧RowAt A' g rest dk∧dk.size=n∧pd a x d1=dk∧E'=[(0,.slice (some ⟨g,0,none⟩) n c),(1,i64 a),(2,i64 b),(7,i64 (x:Nat)),(8,i64 (5-((st+1:Nat):Int)))]) ?_ ?_
  ·
   refine CW.seq (CW.plain ?_)
   refine go 5 ?_
   refine CW.test rfl (fun h2=>?_) (fun h2=>?_)
   ·
    have hpd:pd a x d1=Go.Sort.shiftDown ltI (x-1) (swp d1 x (x-1)):=by rw[pd,if_pos (by omega)]
    refine go 6 ?_
    refine CW.block (CW.loop (σ:=Nat) (fun j E w'=>∃ A' dk,Good w' s (A'::os)∧Aux w w'∧RowAt A' g rest dk∧dk.size=n∧j<n∧pd a x d1=Go.Sort.shiftDown ltI j dk∧E=[(0,.slice (some ⟨g,0,none⟩) n c),(1,i64 a),(2,i64 b),(7,i64 (x:Nat)),(8,i64 (5-((st+1:Nat):Int))),(9,i64 (j:Nat))])
     (fun j=>j) (x-1) [(0,.slice (some ⟨g,0,none⟩) n c),(1,i64 a),(2,i64 b),(7,i64 (x:Nat)),(8,i64 (5-((st+1:Nat):Int))),(9,i64 ((x-1:Nat):Int))] ⟨rfl,rfl,rfl,rfl,rfl,congrArg (fun z=>some (i64 z)) (by omega),trivial⟩ ⟨A5,_,hg5,hax5,hrow5,hn5,by omega,hpd,rfl⟩ ?_)
    rintro j E w6 ⟨A6,d6,hg,hax6,hrow,hn,hjn,hsd,rfl⟩
    refine CW.seq (CW.seq (CW.plain ?_))
    refine go 3 ?_
    refine CW.test rfl (fun hj=>?_) (fun hj=>?_)
    ·
     refine CW.skip ?_
     have hj':1≤j:=by omega
     refine CW.meet (fun E' w'=>∃ A',ltI d6[j]! d6[j-1]! = true∧Good w' s (A'::os)∧Aux w w'∧RowAt A' g rest (swp d6 j (j-1))∧E'=[(0,.slice (some ⟨g,0,none⟩) n c),(1,i64 a),(2,i64 b),(7,i64 (x:Nat)),(8,i64 (5-((st+1:Nat):Int))),(9,i64 (j:Nat))]) ?_ ?_
     ·
      refine CW.block (CW.seq (CW.seq ?_))
      refine CW.draws [(true,0),(true,1),(true,2),(true,3),(true,4),(true,5),(true,6),(true,7),(true,8),(false,9),(true,10)] (fun w'=>Good w' s (A6::os)) mixed (by kernel_rfl) (by kernel_rfl) (by kernel_rfl) (by kernel_rfl) hg.drew ?_
      refine go 2 ?_
      refine RL.idxR j rfl rfl rfl rfl sl83.out rfl rfl rfl (by omega) ?_
      refine RL.loadRT j rfl rfl rfl rfl ty22.out rfl hrow (fun w h=>h.1) (by omega) ?_
      refine go 3 ?_
      refine RL.idxR (j-1) rfl rfl rfl rfl sl83.out rfl rfl (by omega) (by omega) ?_
      refine RL.loadRT (j-1) rfl rfl rfl rfl ty22.out rfl hrow (fun w h=>h.1) (by omega) ?_
      refine go 1 ?_
      refine zw (Less_ct hg.drew) ?_
      rintro v w7 hg7 hax7 rfl
      refine⟨hg7,?_⟩
      refine go 2 ?_
      refine CW.cond rfl (fun hl=>?_) (fun hl=>?_)
      ·
       refine CW.exit (fun ac ha=>⟨_,ha.sub (E':=[(0,.slice (some ⟨g,0,none⟩) n c),(1,i64 a),(2,i64 b),(7,i64 (x:Nat)),(8,i64 (5-((st+1:Nat):Int)))]) ⟨rfl,rfl,rfl,rfl,rfl,trivial⟩,A6,d6,hg7,hax6.trans ((Aux.drew _).trans hax7),hrow,hn,by rw[hsd];exact shiftDown_end (.inr (by simpa using hl)),rfl⟩)
      ·
       have hl':ltI d6[j]! d6[j-1]! = true:=by simpa using hl
       refine go 1 ?_
       have hg:=hg7
       refine CW.forks (.fork [(true,0),(true,1),(true,2),(true,3),(true,4),(true,5),(true,6),(true,7),(true,8),(true,10),(true,11),(true,12)] (.line [(false,9),(false,13),(true,14),(false,15),(true,16),(false,17)]) (.line [(false,13),(false,9),(true,14),(false,15),(true,16),(false,17)])) (fun _=>True) mixed (by kernel_rfl) (by kernel_rfl) (by kernel_rfl) (by kernel_rfl) trivial ?_
       refine RT.pre trivial ?_
       refine go 8 ?_
       refine RL.idxR (j-1) rfl rfl rfl rfl sl83.out rfl rfl (by omega) (by omega) ?_
       refine go 2 ?_
       refine RL.idxR (j) rfl rfl rfl rfl sl83.out rfl rfl (by omega) (by omega) ?_
       refine go 1 ?_
       refine RT.both (S:=fun _=>True) trivial (RT.end_ (S:=fun _=>True) trivial ?_) (RT.end_ (S:=fun _=>True) trivial ?_)
       ·
        refine RL.loadR (j-1) rfl rfl rfl rfl ty22.out rfl hrow hg.drew.1 (by omega) ?_
        refine RL.loadR (j) rfl rfl rfl rfl ty22.out rfl hrow hg.drew.1 (by omega) ?_
        refine RL.idxR (j) rfl rfl rfl rfl sl83.out rfl rfl (by omega) (by omega) ?_
        refine RL.storeR (j) rfl rfl rfl ty22.out rfl rfl hg.drew hrow (by omega) ?_
        intro ws1 As1 hgs1 haxs1 hrows1
        refine go 1 ?_
        refine RL.idxR (j-1) rfl rfl rfl rfl sl83.out rfl rfl (by omega) (by omega) ?_
        refine RL.storeR (j-1) rfl rfl rfl ty22.out rfl rfl hgs1 hrows1 (by simp;omega) ?_
        intro ws2 As2 hgs2 haxs2 hrows2
        refine go 2 ?_
        exact fun ac ha=>⟨_,ha.sub (E':=[(0,.slice (some ⟨g,0,none⟩) n c),(1,i64 a),(2,i64 b),(7,i64 (x:Nat)),(8,i64 (5-((st+1:Nat):Int))),(9,i64 (j:Nat))]) ⟨rfl,rfl,rfl,rfl,rfl,rfl,trivial⟩,As2,hl',hgs2,hax6.trans ((Aux.drew _).trans (hax7.trans ((Aux.drew _).trans (haxs1.trans haxs2)))),hrows2,rfl⟩
       ·
        refine RL.loadR (j) rfl rfl rfl rfl ty22.out rfl hrow hg.drew.1 (by omega) ?_
        refine RL.loadR (j-1) rfl rfl rfl rfl ty22.out rfl hrow hg.drew.1 (by omega) ?_
        refine RL.idxR (j) rfl rfl rfl rfl sl83.out rfl rfl (by omega) (by omega) ?_
        refine RL.storeR (j) rfl rfl rfl ty22.out rfl rfl hg.drew hrow (by omega) ?_
        intro ws1 As1 hgs1 haxs1 hrows1
        refine go 1 ?_
        refine RL.idxR (j-1) rfl rfl rfl rfl sl83.out rfl rfl (by omega) (by omega) ?_
        refine RL.storeR (j-1) rfl rfl rfl ty22.out rfl rfl hgs1 hrows1 (by simp;omega) ?_
        intro ws2 As2 hgs2 haxs2 hrows2
        refine go 2 ?_
        exact fun ac ha=>⟨_,ha.sub (E':=[(0,.slice (some ⟨g,0,none⟩) n c),(1,i64 a),(2,i64 b),(7,i64 (x:Nat)),(8,i64 (5-((st+1:Nat):Int))),(9,i64 (j:Nat))]) ⟨rfl,rfl,rfl,rfl,rfl,rfl,trivial⟩,As2,hl',hgs2,hax6.trans ((Aux.drew _).trans (hax7.trans ((Aux.drew _).trans (haxs1.trans haxs2)))),hrows2,rfl⟩
     ·
      rintro E' w8 ⟨A8,hl',hg8,hax8,hrow8,rfl⟩
      refine go 5 ?_
      refine fun ac ha=>⟨j-1,[(0,.slice (some ⟨g,0,none⟩) n c),(1,i64 a),(2,i64 b),(7,i64 (x:Nat)),(8,i64 (5-((st+1:Nat):Int))),(9,i64 ((j-1:Nat):Int))],ha.sub ⟨rfl,rfl,rfl,rfl,rfl,congrArg (fun z=>some (i64 z)) (by omega),trivial⟩,⟨A8,_,hg8,hax8,hrow8,by rw[size_swp];exact hn,by omega,by rw[hsd];exact shiftDown_step hj' hl',rfl⟩,by omega⟩
    ·
     refine CW.exit (fun ac ha=>⟨_,ha.sub (E':=[(0,.slice (some ⟨g,0,none⟩) n c),(1,i64 a),(2,i64 b),(7,i64 (x:Nat)),(8,i64 (5-((st+1:Nat):Int)))]) ⟨rfl,rfl,rfl,rfl,rfl,trivial⟩,A6,d6,hg,hax6,hrow,hn,by rw[hsd];exact shiftDown_end (.inl (by omega)),rfl⟩)
   ·
    refine CW.skip (fun ac ha=>⟨_,ha.sub (E':=[(0,.slice (some ⟨g,0,none⟩) n c),(1,i64 a),(2,i64 b),(7,i64 (x:Nat)),(8,i64 (5-((st+1:Nat):Int)))]) ⟨rfl,rfl,rfl,rfl,rfl,trivial⟩,A5,_,hg5,hax5,hrow5,hn5,by rw[pd,if_neg (by omega)],rfl⟩)
  rintro E' w6 ⟨A5,d5,hg5,hax5,hrow5,hn5,hpd,rfl⟩
  -- the greater one goes up
  refine go 7 ?_
  refine CW.test rfl (fun h2=>?_) (fun h2=>?_)
  ·
   have hpu:pu b x d5=Go.Sort.shiftUp ltI b (x+1) d5:=by rw[pu,if_pos (by omega)]
   ·
    refine CW.seq (CW.plain ?_)
    refine go 4 ?_
    refine CW.block (CW.loop (σ:=Nat) (fun k E w'=>∃ A' dk j,Good w' s (A'::os)∧Aux w w'∧RowAt A' g rest dk∧dk.size=n∧1≤j∧j≤n∧b-j≤k∧pu b x d5=Go.Sort.shiftUp ltI b j dk∧E=[(0,.slice (some ⟨g,0,none⟩) n c),(1,i64 a),(2,i64 b),(7,i64 (x:Nat)),(8,i64 (5-((st+1:Nat):Int))),(10,i64 (j:Nat))])
     (fun k=>k) b [(0,.slice (some ⟨g,0,none⟩) n c),(1,i64 a),(2,i64 b),(7,i64 (x:Nat)),(8,i64 (5-((st+1:Nat):Int))),(10,i64 ((x:Int)+1))] ⟨rfl,rfl,rfl,rfl,rfl,rfl,trivial⟩ ⟨A5,_,x+1,hg5,hax5,hrow5,hn5,by omega,by omega,by omega,hpu,rfl⟩ ?_)
    rintro k E w6 ⟨A6,d6,j,hg,hax6,hrow,hn,h1j,hjn,hk,hsd,rfl⟩
    refine CW.seq (CW.seq (CW.plain ?_))
    refine go 4 ?_
    refine CW.test rfl (fun hj=>?_) (fun hj=>?_)
    ·
     refine CW.skip ?_
     have hj':j<b:=by omega
     refine CW.meet (fun E' w'=>∃ A',ltI d6[j]! d6[j-1]! = true∧Good w' s (A'::os)∧Aux w w'∧RowAt A' g rest (swp d6 j (j-1))∧E'=[(0,.slice (some ⟨g,0,none⟩) n c),(1,i64 a),(2,i64 b),(7,i64 (x:Nat)),(8,i64 (5-((st+1:Nat):Int))),(10,i64 (j:Nat))]) ?_ ?_
     ·
      refine CW.block (CW.seq (CW.seq ?_))
      refine CW.draws [(true,0),(true,1),(true,2),(true,3),(true,4),(true,5),(true,6),(true,7),(true,8),(false,9),(true,10)] (fun w'=>Good w' s (A6::os)) mixed (by kernel_rfl) (by kernel_rfl) (by kernel_rfl) (by kernel_rfl) hg.drew ?_
      refine go 2 ?_
      refine RL.idxR j rfl rfl rfl rfl sl83.out rfl rfl rfl (by omega) ?_
      refine RL.loadRT j rfl rfl rfl rfl ty22.out rfl hrow (fun w h=>h.1) (by omega) ?_
      refine go 3 ?_
      refine RL.idxR (j-1) rfl rfl rfl rfl sl83.out rfl rfl (by omega) (by omega) ?_
      refine RL.loadRT (j-1) rfl rfl rfl rfl ty22.out rfl hrow (fun w h=>h.1) (by omega) ?_
      refine go 1 ?_
      refine zw (Less_ct hg.drew) ?_
      rintro v w7 hg7 hax7 rfl
      refine⟨hg7,?_⟩
      refine go 2 ?_
      refine CW.cond rfl (fun hl=>?_) (fun hl=>?_)
      ·
       refine CW.exit (fun ac ha=>⟨_,ha.sub (E':=[(0,.slice (some ⟨g,0,none⟩) n c),(1,i64 a),(2,i64 b),(7,i64 (x:Nat)),(8,i64 (5-((st+1:Nat):Int)))]) ⟨rfl,rfl,rfl,rfl,rfl,trivial⟩,x,A6,d6,hg7,hax6.trans ((Aux.drew _).trans hax7),hrow,hn,by omega,hxb,by rw[heq,hgo,hpd,hsd,shiftUp_end (.inr (by simpa using hl))],rfl⟩)
      ·
       have hl':ltI d6[j]! d6[j-1]! = true:=by simpa using hl
       refine go 1 ?_
       have hg:=hg7
       refine CW.forks (.fork [(true,0),(true,1),(true,2),(true,3),(true,4),(true,5),(true,6),(true,7),(true,8),(true,10),(true,11),(true,12)] (.line [(false,9),(false,13),(true,14),(false,15),(true,16),(false,17)]) (.line [(false,13),(false,9),(true,14),(false,15),(true,16),(false,17)])) (fun _=>True) mixed (by kernel_rfl) (by kernel_rfl) (by kernel_rfl) (by kernel_rfl) trivial ?_
       refine RT.pre trivial ?_
       refine go 8 ?_
       refine RL.idxR (j-1) rfl rfl rfl rfl sl83.out rfl rfl (by omega) (by omega) ?_
       refine go 2 ?_
       refine RL.idxR (j) rfl rfl rfl rfl sl83.out rfl rfl (by omega) (by omega) ?_
       refine go 1 ?_
       refine RT.both (S:=fun _=>True) trivial (RT.end_ (S:=fun _=>True) trivial ?_) (RT.end_ (S:=fun _=>True) trivial ?_)
       ·
        refine RL.loadR (j-1) rfl rfl rfl rfl ty22.out rfl hrow hg.drew.1 (by omega) ?_
        refine RL.loadR (j) rfl rfl rfl rfl ty22.out rfl hrow hg.drew.1 (by omega) ?_
        refine RL.idxR (j) rfl rfl rfl rfl sl83.out rfl rfl (by omega) (by omega) ?_
        refine RL.storeR (j) rfl rfl rfl ty22.out rfl rfl hg.drew hrow (by omega) ?_
        intro ws1 As1 hgs1 haxs1 hrows1
        refine go 1 ?_
        refine RL.idxR (j-1) rfl rfl rfl rfl sl83.out rfl rfl (by omega) (by omega) ?_
        refine RL.storeR (j-1) rfl rfl rfl ty22.out rfl rfl hgs1 hrows1 (by simp;omega) ?_
        intro ws2 As2 hgs2 haxs2 hrows2
        refine go 2 ?_
        exact fun ac ha=>⟨_,ha.sub (E':=[(0,.slice (some ⟨g,0,none⟩) n c),(1,i64 a),(2,i64 b),(7,i64 (x:Nat)),(8,i64 (5-((st+1:Nat):Int))),(10,i64 (j:Nat))]) ⟨rfl,rfl,rfl,rfl,rfl,rfl,trivial⟩,As2,hl',hgs2,hax6.trans ((Aux.drew _).trans (hax7.trans ((Aux.drew _).trans (haxs1.trans haxs2)))),hrows2,rfl⟩
       ·
        refine RL.loadR (j) rfl rfl rfl rfl ty22.out rfl hrow hg.drew.1 (by omega) ?_
        refine RL.loadR (j-1) rfl rfl rfl rfl ty22.out rfl hrow hg.drew.1 (by omega) ?_
        refine RL.idxR (j) rfl rfl rfl rfl sl83.out rfl rfl (by omega) (by omega) ?_
        refine RL.storeR (j) rfl rfl rfl ty22.out rfl rfl hg.drew hrow (by omega) ?_
        intro ws1 As1 hgs1 haxs1 hrows1
        refine go 1 ?_
        refine RL.idxR (j-1) rfl rfl rfl rfl sl83.out rfl rfl (by omega) (by omega) ?_
        refine RL.storeR (j-1) rfl rfl rfl ty22.out rfl rfl hgs1 hrows1 (by simp;omega) ?_
        intro ws2 As2 hgs2 haxs2 hrows2
        refine go 2 ?_
        exact fun ac ha=>⟨_,ha.sub (E':=[(0,.slice (some ⟨g,0,none⟩) n c),(1,i64 a),(2,i64 b),(7,i64 (x:Nat)),(8,i64 (5-((st+1:Nat):Int))),(10,i64 (j:Nat))]) ⟨rfl,rfl,rfl,rfl,rfl,rfl,trivial⟩,As2,hl',hgs2,hax6.trans ((Aux.drew _).trans (hax7.trans ((Aux.drew _).trans (haxs1.trans haxs2)))),hrows2,rfl⟩
     ·
      rintro E' w8 ⟨A8,hl',hg8,hax8,hrow8,rfl⟩
      refine go 5 ?_
      refine fun ac ha=>⟨k-1,[(0,.slice (some ⟨g,0,none⟩) n c),(1,i64 a),(2,i64 b),(7,i64 (x:Nat)),(8,i64 (5-((st+1:Nat):Int))),(10,i64 ((j:Int)+1))],ha.sub ⟨rfl,rfl,rfl,rfl,rfl,rfl,trivial⟩,⟨A8,_,j+1,hg8,hax8,hrow8,by rw[size_swp];exact hn,by omega,by omega,by omega,by rw[hsd];exact shiftUp_step hj' hl',rfl⟩,by omega⟩
    ·
     refine CW.exit (fun ac ha=>⟨_,ha.sub (E':=[(0,.slice (some ⟨g,0,none⟩) n c),(1,i64 a),(2,i64 b),(7,i64 (x:Nat)),(8,i64 (5-((st+1:Nat):Int)))]) ⟨rfl,rfl,rfl,rfl,rfl,trivial⟩,x,A6,d6,hg,hax6,hrow,hn,by omega,hxb,by rw[heq,hgo,hpd,hsd,shiftUp_end (.inl (by omega))],rfl⟩)
  ·
   refine CW.skip (fun ac ha=>⟨_,ha.sub (E':=[(0,.slice (some ⟨g,0,none⟩) n c),(1,i64 a),(2,i64 b),(7,i64 (x:Nat)),(8,i64 (5-((st+1:Nat):Int)))]) ⟨rfl,rfl,rfl,rfl,rfl,trivial⟩,x,A5,d5,hg5,hax5,hrow5,hn5,by omega,hxb,by rw[heq,hgo,hpd,pu,if_neg (by omega)],rfl⟩)
 ·
  obtain rfl:st=0:=by omega
  refine CW.exit (CW.seq (CW.plain ?_))
  refine go 2 ?_
  refine CW.ret (ret (vs:=[_]) ⟨_,_,rfl,rfl,rfl⟩ (Post.mk (Le.refl _) hg1 hax1 ⟨rfl,?_,?_⟩))
  ·
   rw[heq];rfl
  ·
   rw[heq];exact hrow1
end Go.Lw
namespace Go.Lw
open Go.Proofs
open Go.Sort (swp size_swp PermIn)
theorem Next_ct {w:World} {s A:Res} {os:List Res} {p:Nat} {x:Int} (hg:Good w s (A::os)) (hp:A p=some (.cells #[.int .u64 x] 221 (0,0))) :
  Calls Tryz.prog 203 #[ptr p] w (Post w s os fun s' A' r=>s'=s∧∃ y,rng .u64 y∧r = .int .u64 y∧A' p=some (.cells #[.int .u64 y] 221 (0,0))):=by
 refine enter (l:=[ptr p]) Tryz.func203 rfl Tryz.ntmps203 rfl ?_
 refine go 4 ?_
 have hax:=Aux.refl w
 refine CW.meet (fun E' w'=>∃ A' y,Good w' s (A'::os)∧Aux w w'∧rng .u64 y∧A' p=some (.cells #[.int .u64 y] 221 (0,0))∧E'=[(0,ptr p)]) ?_ ?_
 ·
  refine CW.forks (.fork [(true,0),(true,1),(true,3),(true,4)] (.line [(false,2),(false,5),(true,6),(true,7),(true,8),(false,9)]) (.line [(false,5),(true,6),(false,2),(true,7),(true,8),(false,9)])) (fun _=>True) mixed (by kernel_rfl) (by kernel_rfl) (by kernel_rfl) (by kernel_rfl) trivial ?_
  refine RT.pre trivial ?_
  refine go 5 ?_
  refine RT.both (S:=fun _=>True) trivial (RT.end_ (S:=fun _=>True) trivial ?_) (RT.end_ (S:=fun _=>True) trivial ?_)
  ·
   refine RL.load (j:=0) rfl rfl rfl rfl ty221.out rfl (Holds.of hp) (hg.drew.1) rfl ?_
   refine RL.load (j:=0) rfl rfl rfl rfl ty221.out rfl (Holds.of hp) (hg.drew.1) rfl ?_
   refine RL.shl 13 rfl rfl rfl rfl rfl rfl rfl (by decide) ?_
   refine go 2 ?_
   refine RL.store (i:=0) (j:=0) rfl rfl rfl ty221.out rfl rfl hg.drew rfl (hp) rfl (by first | (simp[Value.cells,Value.oneCell'];done) | simp[Value.cells,Value.oneCell',putL]) (by first | exact Nat.le_of_ble_eq_true rfl | (simp;done) | (simp;omega) | omega) ?_
   rintro w2 hg2 hax2
   refine go 2 ?_
   exact fun ac ha=>⟨_,ha.sub (E':=[(0,ptr p)]) ⟨rfl,trivial⟩,_,_,hg2,hax.trans ((Aux.drew _).trans hax2),rng_wrap _ _,put_same _ _ _,rfl⟩
  ·
   refine RL.load (j:=0) rfl rfl rfl rfl ty221.out rfl (Holds.of hp) (hg.drew.1) rfl ?_
   refine RL.shl 13 rfl rfl rfl rfl rfl rfl rfl (by decide) ?_
   refine RL.load (j:=0) rfl rfl rfl rfl ty221.out rfl (Holds.of hp) (hg.drew.1) rfl ?_
   refine go 2 ?_
   refine RL.store (i:=0) (j:=0) rfl rfl rfl ty221.out rfl rfl hg.drew rfl (hp) rfl (by first | (simp[Value.cells,Value.oneCell'];done) | simp[Value.cells,Value.oneCell',putL]) (by first | exact Nat.le_of_ble_eq_true rfl | (simp;done) | (simp;omega) | omega) ?_
   rintro w2 hg2 hax2
   refine go 2 ?_
   exact fun ac ha=>⟨_,ha.sub (E':=[(0,ptr p)]) ⟨rfl,trivial⟩,_,_,hg2,hax.trans ((Aux.drew _).trans hax2),rng_wrap _ _,put_same _ _ _,rfl⟩
 rintro E' w' ⟨A',y,hg,hax,hy,hp,rfl⟩
 refine CW.meet (fun E' w'=>∃ A' y,Good w' s (A'::os)∧Aux w w'∧rng .u64 y∧A' p=some (.cells #[.int .u64 y] 221 (0,0))∧E'=[(0,ptr p)]) ?_ ?_
 ·
  refine CW.forks (.fork [(true,0),(true,1),(true,3),(true,4)] (.line [(false,2),(false,5),(true,6),(true,7),(true,8),(false,9)]) (.line [(false,5),(true,6),(false,2),(true,7),(true,8),(false,9)])) (fun _=>True) mixed (by kernel_rfl) (by kernel_rfl) (by kernel_rfl) (by kernel_rfl) trivial ?_
  refine RT.pre trivial ?_
  refine go 5 ?_
  refine RT.both (S:=fun _=>True) trivial (RT.end_ (S:=fun _=>True) trivial ?_) (RT.end_ (S:=fun _=>True) trivial ?_)
  ·
   refine RL.load (j:=0) rfl rfl rfl rfl ty221.out rfl (Holds.of hp) (hg.drew.1) rfl ?_
   refine RL.load (j:=0) rfl rfl rfl rfl ty221.out rfl (Holds.of hp) (hg.drew.1) rfl ?_
   refine RL.shr 7 rfl rfl rfl rfl rfl rfl rfl (by decide) ?_
   refine go 2 ?_
   refine RL.store (i:=0) (j:=0) rfl rfl rfl ty221.out rfl rfl hg.drew rfl (hp) rfl (by first | (simp[Value.cells,Value.oneCell'];done) | simp[Value.cells,Value.oneCell',putL]) (by first | exact Nat.le_of_ble_eq_true rfl | (simp;done) | (simp;omega) | omega) ?_
   rintro w2 hg2 hax2
   refine go 2 ?_
   exact fun ac ha=>⟨_,ha.sub (E':=[(0,ptr p)]) ⟨rfl,trivial⟩,_,_,hg2,hax.trans ((Aux.drew _).trans hax2),rng_wrap _ _,put_same _ _ _,rfl⟩
  ·
   refine RL.load (j:=0) rfl rfl rfl rfl ty221.out rfl (Holds.of hp) (hg.drew.1) rfl ?_
   refine RL.shr 7 rfl rfl rfl rfl rfl rfl rfl (by decide) ?_
   refine RL.load (j:=0) rfl rfl rfl rfl ty221.out rfl (Holds.of hp) (hg.drew.1) rfl ?_
   refine go 2 ?_
   refine RL.store (i:=0) (j:=0) rfl rfl rfl ty221.out rfl rfl hg.drew rfl (hp) rfl (by first | (simp[Value.cells,Value.oneCell'];done) | simp[Value.cells,Value.oneCell',putL]) (by first | exact Nat.le_of_ble_eq_true rfl | (simp;done) | (simp;omega) | omega) ?_
   rintro w2 hg2 hax2
   refine go 2 ?_
   exact fun ac ha=>⟨_,ha.sub (E':=[(0,ptr p)]) ⟨rfl,trivial⟩,_,_,hg2,hax.trans ((Aux.drew _).trans hax2),rng_wrap _ _,put_same _ _ _,rfl⟩
 rintro E' w' ⟨A',y,hg,hax,hy,hp,rfl⟩
 refine CW.meet (fun E' w'=>∃ A' y,Good w' s (A'::os)∧Aux w w'∧rng .u64 y∧A' p=some (.cells #[.int .u64 y] 221 (0,0))∧E'=[(0,ptr p)]) ?_ ?_
 ·
  refine CW.forks (.fork [(true,0),(true,1),(true,3),(true,4)] (.line [(false,2),(false,5),(true,6),(true,7),(true,8),(false,9)]) (.line [(false,5),(true,6),(false,2),(true,7),(true,8),(false,9)])) (fun _=>True) mixed (by kernel_rfl) (by kernel_rfl) (by kernel_rfl) (by kernel_rfl) trivial ?_
  refine RT.pre trivial ?_
  refine go 5 ?_
  refine RT.both (S:=fun _=>True) trivial (RT.end_ (S:=fun _=>True) trivial ?_) (RT.end_ (S:=fun _=>True) trivial ?_)
  ·
   refine RL.load (j:=0) rfl rfl rfl rfl ty221.out rfl (Holds.of hp) (hg.drew.1) rfl ?_
   refine RL.load (j:=0) rfl rfl rfl rfl ty221.out rfl (Holds.of hp) (hg.drew.1) rfl ?_
   refine RL.shl 17 rfl rfl rfl rfl rfl rfl rfl (by decide) ?_
   refine go 2 ?_
   refine RL.store (i:=0) (j:=0) rfl rfl rfl ty221.out rfl rfl hg.drew rfl (hp) rfl (by first | (simp[Value.cells,Value.oneCell'];done) | simp[Value.cells,Value.oneCell',putL]) (by first | exact Nat.le_of_ble_eq_true rfl | (simp;done) | (simp;omega) | omega) ?_
   rintro w2 hg2 hax2
   refine go 2 ?_
   exact fun ac ha=>⟨_,ha.sub (E':=[(0,ptr p)]) ⟨rfl,trivial⟩,_,_,hg2,hax.trans ((Aux.drew _).trans hax2),rng_wrap _ _,put_same _ _ _,rfl⟩
  ·
   refine RL.load (j:=0) rfl rfl rfl rfl ty221.out rfl (Holds.of hp) (hg.drew.1) rfl ?_
   refine RL.shl 17 rfl rfl rfl rfl rfl rfl rfl (by decide) ?_
   refine RL.load (j:=0) rfl rfl rfl rfl ty221.out rfl (Holds.of hp) (hg.drew.1) rfl ?_
   refine go 2 ?_
   refine RL.store (i:=0) (j:=0) rfl rfl rfl ty221.out rfl rfl hg.drew rfl (hp) rfl (by first | (simp[Value.cells,Value.oneCell'];done) | simp[Value.cells,Value.oneCell',putL]) (by first | exact Nat.le_of_ble_eq_true rfl | (simp;done) | (simp;omega) | omega) ?_
   rintro w2 hg2 hax2
   refine go 2 ?_
   exact fun ac ha=>⟨_,ha.sub (E':=[(0,ptr p)]) ⟨rfl,trivial⟩,_,_,hg2,hax.trans ((Aux.drew _).trans hax2),rng_wrap _ _,put_same _ _ _,rfl⟩
 rintro E' w' ⟨A',y,hg,hax,hy,hp,rfl⟩
 refine go 4 ?_
 refine RL.load (j:=0) rfl rfl rfl rfl ty221.out rfl (Holds.of hp) (hg.1) rfl ?_
 refine go 2 ?_
 exact CW.ret (ret (vs:=[_]) ⟨_,_,rfl,rfl,rfl⟩ (Post.mk (Le.refl _) hg hax ⟨rfl,y,hy,rfl,hp⟩))
theorem Len_plain (x:Int) (w:World) (h0:0≤x) (h1:x≤18446744073709551615):Calls Tryz.prog 178 #[.int .u64 x] w fun e w'=>e = .returned (.int .i64 (Lib.bitLen x.toNat))∧w'=w :=
 calls_of_every_depth fun D=>AnySM.bits_LenIn { Tryz.sortI with } D x w h0 h1
theorem Len_ct {w:World} {s:Res} {os:List Res} {n:Nat} (hg:Good w s os) (hn:n<18446744073709551616):Calls Tryz.prog 178 #[.int .u64 n] w (PostV w s os fun r=>r=i64 (Go.Sort.bitsLen n:Nat)):=by
 refine (Len_plain n w (by omega) (by omega)).mono ?_
 rintro e w' ⟨rfl,rfl⟩
 refine PostV.mq hg ?_
 rw[Int.toNat_natCast,Go.Proofs.bitLen_eq _ (by omega)]
theorem nextPow_ct {w:World} {s:Res} {os:List Res} {n:Nat} (hg:Good w s os) (h0:0<n) (hn:n<2305843009213693952) :
  Calls Tryz.prog 202 #[i64 n] w (PostV w s os fun r=>r = .int .u64 ((2 ^ Go.Sort.bitsLen n:Nat):Int)):=by
 have h2:=Go.Sort.two_pow_bitsLen_le h0
 have h62:Go.Sort.bitsLen n≤61:=(Go.Sort.bitsLen_le_iff n 61).2 (by omega)
 refine enter (l:=[i64 n]) Tryz.func202 rfl Tryz.ntmps202 rfl ?_
 refine go 7 ?_
 refine RL.conv rfl rfl rfl rfl Tryz.underlying3 Tryz.underlying200 rfl ((by simp only[rng];omega)) ?_
 refine go 1 ?_
 refine zw (Len_ct hg (by omega)) ?_
 rintro v w1 hg1 hax1 rfl
 refine go 1 ?_
 refine RL.shl (Go.Sort.bitsLen n) rfl rfl rfl rfl rfl rfl (rfl) ((by simp[IntKind.bits];omega)) ?_
 refine go 2 ?_
 refine CW.ret (ret (vs:=[_]) ⟨_,_,rfl,rfl,rfl⟩ (PostV.mk hg1 hax1 (congrArg (Value.int .u64) ?_)))
 have e:(1:Int)*2 ^ Go.Sort.bitsLen n=((2 ^ Go.Sort.bitsLen n:Nat):Int):=by simp
 rw[e]
 generalize 2 ^ Go.Sort.bitsLen n=M at *
 exact rng.wrap (k:= .u64) (by simp only[rng];omega)
theorem and_le (x y:Int) (hy:0≤y) (hy2:y<18446744073709551616):0≤IntKind.u64.wrap ((BitVec.ofInt IntKind.u64.bits x &&& BitVec.ofInt IntKind.u64.bits y).toNat)∧IntKind.u64.wrap ((BitVec.ofInt IntKind.u64.bits x &&& BitVec.ofInt IntKind.u64.bits y).toNat)≤y:=by
 have h1:(BitVec.ofInt IntKind.u64.bits x &&& BitVec.ofInt IntKind.u64.bits y).toNat≤(BitVec.ofInt IntKind.u64.bits y).toNat:=by
  rw[BitVec.toNat_and];exact Nat.and_le_right
 have h2:(BitVec.ofInt IntKind.u64.bits y).toNat=y.toNat:=by
  rw[BitVec.toNat_ofInt]
  simp only[IntKind.bits]
  omega
 rw[wrap_u64]
 omega
theorem breakPatterns_ct {w:World} {s A:Res} {os:List Res} {g n c a b:Nat} {rest:List Value} {d:Array Int} (hg:Good w s (A::os)) (hrow:RowAt A g rest d) (hn:d.size=n) (hb:b≤n) (hab:a+8≤b) (hsz:n<2305843009213693952) :
  Calls Tryz.prog 193 #[.slice (some ⟨g,0,none⟩) n c,i64 a,i64 b] w (Post w s os fun s' A' r=>s'=s∧r = .tuple #[]∧∃ d',PermIn a b d d'∧RowAt A' g rest d'):=by
 obtain⟨L,hL⟩:∃ L,L=b-a:=⟨_,rfl⟩
 have h2:=Go.Sort.two_pow_bitsLen_le (n:=L) (by omega)
 have hp1:1≤2 ^ Go.Sort.bitsLen L:=Nat.one_le_two_pow
 refine enter (l:=[.slice (some ⟨g,0,none⟩) n c,i64 a,i64 b]) Tryz.func193 rfl Tryz.ntmps193 rfl ?_
 refine go 7 ?_
 have eL:((b:Int)-(a:Int))=(L:Int):=by omega
 rw[eL]
 refine go 5 ?_
 refine CW.test rfl (fun h=>?_) (fun h=>absurd (by omega) h)
 refine go 3 ?_
 refine RL.conv rfl rfl rfl rfl Tryz.underlying3 Tryz.underlying221 rfl ((by simp only[rng];omega)) ?_
 refine RL.alloc rfl rfl rfl rfl ze221.out hg ?_
 rintro p w1 hg1 hax1
 refine go 1 ?_
 refine RL.store (i:=0) (j:=0) rfl rfl rfl ty221.out rfl rfl hg1 rfl ((if_pos rfl)) rfl (by first | (simp[Value.cells,Value.oneCell'];done) | simp[Value.cells,Value.oneCell',putL]) (by first | exact Nat.le_of_ble_eq_true rfl | (simp;done) | (simp;omega) | omega) ?_
 rintro w2 hg2 hax2
 refine go 2 ?_
 obtain⟨B2,x0,hg2',hB2⟩:∃ B x,Good w2 s (B::A::os)∧B p=some (.cells #[.int .u64 x] 221 (0,0)):=⟨_,_,hg2,put_same _ _ _⟩
 refine go 4 ?_
 refine zw (nextPow_ct (n:=L) hg2' (by omega) (by omega)) ?_
 rintro v3 w3 hg3 hax3 rfl
 refine go 7 ?_
 refine RL.quo rfl rfl rfl rfl rfl rfl ((by omega)) ((by decide)) ((by simp only[rng];omega)) ?_
 refine RL.mul rfl rfl rfl rfl rfl rfl ((by simp only[rng];omega)) ?_
 refine go 4 ?_
 refine CW.block (CW.loop (σ:=Nat) (fun k E w'=>∃ A' B' dk x i,Good w' s (B'::A'::os)∧Aux w w'∧B' p=some (.cells #[.int .u64 x] 221 (0,0))∧RowAt A' g rest dk∧PermIn a b d dk∧i+k=a+L / 4*2+2∧k≤3∧E=[(0,.slice (some ⟨g,0,none⟩) n c),(1,i64 a),(6,i64 (L:Nat)),(7,ptr p),(8,.int .u64 ((2 ^ Go.Sort.bitsLen L:Nat):Int)),(9,i64 (i:Nat))])
  (fun k=>k) 3 [(0,.slice (some ⟨g,0,none⟩) n c),(1,i64 a),(6,i64 (L:Nat)),(7,ptr p),(8,.int .u64 ((2 ^ Go.Sort.bitsLen L:Nat):Int)),(9,i64 ((a+L / 4*2-1:Nat):Int))] ⟨rfl,rfl,rfl,rfl,rfl,congrArg (fun z=>some (i64 z)) (by omega),trivial⟩
  ⟨A,B2,d,x0,a+L / 4*2-1,hg3,hax1.trans (hax2.trans hax3),hB2,hrow,Go.Sort.permIn_refl _ _ _,by omega,Nat.le_refl _,rfl⟩ ?_)
 rintro k E w4 ⟨A4,B4,d4,x4,i,hg4,hax4,hB4,hrow4,hperm,hik,hk3,rfl⟩
 have hn4:d4.size=n:=by rw[hperm.1];exact hn
 refine CW.seq (CW.seq (CW.plain ?_))
 refine go 3 ?_
 refine RL.quo rfl rfl rfl rfl rfl rfl ((by omega)) ((by decide)) ((by simp only[rng];omega)) ?_
 refine RL.mul rfl rfl rfl rfl rfl rfl ((by simp only[rng];omega)) ?_
 refine go 4 ?_
 refine CW.test rfl (fun hi=>?_) (fun hi=>?_)
 ·
  refine CW.skip ?_
  refine CW.meet (fun E' w'=>∃ A' B' dk x,Good w' s (B'::A'::os)∧Aux w w'∧B' p=some (.cells #[.int .u64 x] 221 (0,0))∧RowAt A' g rest dk∧PermIn a b d dk∧E'=[(0,.slice (some ⟨g,0,none⟩) n c),(1,i64 a),(6,i64 (L:Nat)),(7,ptr p),(8,.int .u64 ((2 ^ Go.Sort.bitsLen L:Nat):Int)),(9,i64 (i:Nat))]) ?_ ?_
  rotate_left
  ·
   rintro E' w7 ⟨A7,B7,d7,x7,hg7,hax7,hB7,hrow7,hperm7,rfl⟩
   refine go 5 ?_
   refine fun ac ha=>⟨k-1,[(0,.slice (some ⟨g,0,none⟩) n c),(1,i64 a),(6,i64 (L:Nat)),(7,ptr p),(8,.int .u64 ((2 ^ Go.Sort.bitsLen L:Nat):Int)),(9,i64 ((i+1:Nat):Int))],ha.sub ⟨rfl,rfl,rfl,rfl,rfl,rfl,trivial⟩,⟨A7,B7,d7,x7,i+1,hg7,hax7,hB7,hrow7,hperm7,by omega,by omega,rfl⟩,by omega⟩
  refine CW.block (CW.seq (CW.plain ?_))
  refine go 1 ?_
  refine zc (Next_ct hg4 hB4) ?_
  rintro v5 s5 B5 w5 hle5 hg5 hax5 ⟨rfl,y,hy,rfl,hB5⟩
  refine go 4 ?_
  obtain⟨hz0,hz1⟩:=and_le y (((2 ^ Go.Sort.bitsLen L:Nat):Int)-1) (by omega) (by omega)
  generalize IntKind.u64.wrap ((BitVec.ofInt IntKind.u64.bits y &&& BitVec.ofInt IntKind.u64.bits (((2 ^ Go.Sort.bitsLen L:Nat):Int)-1)).toNat)=z at *
  refine RL.conv rfl rfl rfl rfl Tryz.underlying200 Tryz.underlying3 rfl ((by simp only[rng];omega)) ?_
  refine go 2 ?_
  refine CW.meet (fun E' w'=>∃ q:Nat,q<L∧w'=w5∧E'=[(0,.slice (some ⟨g,0,none⟩) n c),(1,i64 a),(6,i64 (L:Nat)),(7,ptr p),(8,.int .u64 ((2 ^ Go.Sort.bitsLen L:Nat):Int)),(9,i64 (i:Nat)),(10,i64 (q:Nat))]) ?_ ?_
  ·
   refine CW.seq (CW.plain ?_)
   refine go 4 ?_
   refine CW.test rfl (fun hq=>?_) (fun hq=>?_)
   ·
    refine CW.plain ?_
    refine go 5 ?_
    refine fun ac ha=>⟨[(0,.slice (some ⟨g,0,none⟩) n c),(1,i64 a),(6,i64 (L:Nat)),(7,ptr p),(8,.int .u64 ((2 ^ Go.Sort.bitsLen L:Nat):Int)),(9,i64 (i:Nat)),(10,i64 (((z-L).toNat:Nat):Int))],ha.sub ⟨rfl,rfl,rfl,rfl,rfl,rfl,congrArg (fun z=>some (i64 z)) (by omega),trivial⟩,(z-L).toNat,by omega,rfl,rfl⟩
   ·
    refine CW.skip (fun ac ha=>⟨[(0,.slice (some ⟨g,0,none⟩) n c),(1,i64 a),(6,i64 (L:Nat)),(7,ptr p),(8,.int .u64 ((2 ^ Go.Sort.bitsLen L:Nat):Int)),(9,i64 (i:Nat)),(10,i64 ((z.toNat:Nat):Int))],ha.sub ⟨rfl,rfl,rfl,rfl,rfl,rfl,congrArg (fun z=>some (i64 z)) (by omega),trivial⟩,z.toNat,by omega,rfl,rfl⟩)
  rintro E' w6 ⟨q,hq,rfl,rfl⟩
  have hg:=hg5.swap
  have hrow:=hrow4
  have hn:=hn4
  refine CW.forks (.fork [(true,0),(true,1),(true,2),(true,3),(true,4),(true,5),(true,6),(true,7),(true,8),(true,9),(true,10),(true,12),(true,13),(true,14)] (.line [(false,11),(false,15),(true,16),(false,17),(true,18),(false,19)]) (.line [(false,15),(false,11),(true,16),(false,17),(true,18),(false,19)])) (fun _=>True) mixed (by kernel_rfl) (by kernel_rfl) (by kernel_rfl) (by kernel_rfl) trivial ?_
  refine RT.pre trivial ?_
  refine go 10 ?_
  refine RL.idxR (a+q) rfl rfl rfl rfl sl83.out rfl rfl (by omega) (by omega) ?_
  refine go 2 ?_
  refine RL.idxR (i) rfl rfl rfl rfl sl83.out rfl rfl (by omega) (by omega) ?_
  refine go 1 ?_
  refine RT.both (S:=fun _=>True) trivial (RT.end_ (S:=fun _=>True) trivial ?_) (RT.end_ (S:=fun _=>True) trivial ?_)
  ·
   refine RL.loadR (a+q) rfl rfl rfl rfl ty22.out rfl hrow hg.drew.1 (by omega) ?_
   refine RL.loadR (i) rfl rfl rfl rfl ty22.out rfl hrow hg.drew.1 (by omega) ?_
   refine RL.idxR (i) rfl rfl rfl rfl sl83.out rfl rfl (by omega) (by omega) ?_
   refine RL.storeR (i) rfl rfl rfl ty22.out rfl rfl hg.drew hrow (by omega) ?_
   intro ws1 As1 hgs1 haxs1 hrows1
   refine go 1 ?_
   refine RL.idxR (a+q) rfl rfl rfl rfl sl83.out rfl rfl (by omega) (by omega) ?_
   refine RL.storeR (a+q) rfl rfl rfl ty22.out rfl rfl hgs1 hrows1 (by simp;omega) ?_
   intro ws2 As2 hgs2 haxs2 hrows2
   refine go 2 ?_
   exact fun ac ha=>⟨_,ha.sub (E':=[(0,.slice (some ⟨g,0,none⟩) n c),(1,i64 a),(6,i64 (L:Nat)),(7,ptr p),(8,.int .u64 ((2 ^ Go.Sort.bitsLen L:Nat):Int)),(9,i64 (i:Nat))]) ⟨rfl,rfl,rfl,rfl,rfl,rfl,trivial⟩,As2,B5,_,y,hgs2.swap,hax4.trans (hax5.trans ((Aux.drew _).trans (haxs1.trans haxs2))),hB5,hrows2,Go.Sort.permIn_trans _ _ _ a b hperm (Go.Sort.swp_permIn _ a b _ _ (by omega) (by omega) (by omega) (by omega) (by omega)),rfl⟩
  ·
   refine RL.loadR (i) rfl rfl rfl rfl ty22.out rfl hrow hg.drew.1 (by omega) ?_
   refine RL.loadR (a+q) rfl rfl rfl rfl ty22.out rfl hrow hg.drew.1 (by omega) ?_
   refine RL.idxR (i) rfl rfl rfl rfl sl83.out rfl rfl (by omega) (by omega) ?_
   refine RL.storeR (i) rfl rfl rfl ty22.out rfl rfl hg.drew hrow (by omega) ?_
   intro ws1 As1 hgs1 haxs1 hrows1
   refine go 1 ?_
   refine RL.idxR (a+q) rfl rfl rfl rfl sl83.out rfl rfl (by omega) (by omega) ?_
   refine RL.storeR (a+q) rfl rfl rfl ty22.out rfl rfl hgs1 hrows1 (by simp;omega) ?_
   intro ws2 As2 hgs2 haxs2 hrows2
   refine go 2 ?_
   exact fun ac ha=>⟨_,ha.sub (E':=[(0,.slice (some ⟨g,0,none⟩) n c),(1,i64 a),(6,i64 (L:Nat)),(7,ptr p),(8,.int .u64 ((2 ^ Go.Sort.bitsLen L:Nat):Int)),(9,i64 (i:Nat))]) ⟨rfl,rfl,rfl,rfl,rfl,rfl,trivial⟩,As2,B5,_,y,hgs2.swap,hax4.trans (hax5.trans ((Aux.drew _).trans (haxs1.trans haxs2))),hB5,hrows2,Go.Sort.permIn_trans _ _ _ a b hperm (Go.Sort.swp_permIn _ a b _ _ (by omega) (by omega) (by omega) (by omega) (by omega)),rfl⟩
 ·
  refine CW.exit ?_
  refine fall (vs:=[]) rfl (Post.mk (Le.refl _) hg4.drop hax4 ⟨rfl,rfl,d4,hperm,hrow4⟩)
end Go.Lw
namespace Go.Lw
open Go.Proofs
abbrev Cnt (B:Res) (p:Nat) (k:Int):Prop:=B p=some (.cells #[i64 k] 3 (0,0))
theorem order2_ct {w:World} {s A B:Res} {os:List Res} {g n c x y p:Nat} {k:Int} {rest:List Value} {d:Array Int} (hg:Good w s (B::A::os)) (hrow:RowAt A g rest d) (hB:Cnt B p k) (hn:d.size=n) (hx:x<n) (hy:y<n) (hk0:0≤k) (hk:k<1000) :
  Calls Tryz.prog 211 #[.slice (some ⟨g,0,none⟩) n c,i64 x,i64 y,ptr p] w (Post w s (A::os) fun s' B' r=>s'=s∧∃ k',k≤k'∧k'≤k+1∧Cnt B' p k'∧(r = .tuple #[i64 x,i64 y]∨r = .tuple #[i64 y,i64 x])):=by
 refine enter (l:=[.slice (some ⟨g,0,none⟩) n c,i64 x,i64 y,ptr p]) Tryz.func211 rfl Tryz.ntmps211 rfl ?_
 refine go 5 ?_
 refine CW.seq (CW.seq ?_)
 refine CW.draws [(true,0),(true,1),(true,2),(true,3),(true,4),(true,5),(true,6),(true,7),(false,8)] (fun w'=>Good w' s (B::A::os)) mixed (by kernel_rfl) (by kernel_rfl) (by kernel_rfl) (by kernel_rfl) hg.drew ?_
 refine go 2 ?_
 refine RL.idxR y rfl rfl rfl rfl sl83.out rfl rfl rfl (by omega) ?_
 refine RL.loadRT y rfl rfl rfl rfl ty22.out rfl hrow (fun w h=>h.drop.1) (by omega) ?_
 refine go 2 ?_
 refine RL.idxR x rfl rfl rfl rfl sl83.out rfl rfl rfl (by omega) ?_
 refine RL.loadRT x rfl rfl rfl rfl ty22.out rfl hrow (fun w h=>h.drop.1) (by omega) ?_
 refine go 1 ?_
 refine zw (Less_ct hg.drew) ?_
 rintro v w1 hg1 hax1 rfl
 refine⟨hg1,?_⟩
 refine go 1 ?_
 have hax:=(Aux.drew w).trans hax1
 refine CW.cond rfl (fun hl=>?_) (fun hl=>?_)
 ·
  refine CW.seq (CW.plain ?_)
  refine go 2 ?_
  refine RL.load (j:=0) rfl rfl rfl rfl ty3.out rfl (Holds.of hB) (hg1.1) rfl ?_
  refine go 2 ?_
  refine RL.store (i:=0) (j:=0) rfl rfl rfl ty3.out rfl rfl hg1 rfl (hB) rfl (by first | (simp[Value.cells,Value.oneCell'];done) | simp[Value.cells,Value.oneCell',putL]) (by first | exact Nat.le_of_ble_eq_true rfl | (simp;done) | (simp;omega) | omega) ?_
  rintro w2 hg2 hax2
  refine go 9 ?_
  exact CW.ret (ret (vs:=[_,_]) ⟨_,_,rfl,rfl,_,_,rfl,rfl,rfl⟩ (Post.mk (Le.refl _) hg2 (hax.trans hax2) ⟨rfl,k+1,by omega,by omega,put_same _ _ _,.inr rfl⟩))
 ·
  refine CW.skip ?_
  refine go 7 ?_
  exact CW.ret (ret (vs:=[_,_]) ⟨_,_,rfl,rfl,_,_,rfl,rfl,rfl⟩ (Post.mk (Le.refl _) hg1 hax ⟨rfl,k,by omega,by omega,hB,.inl rfl⟩))
theorem order2_ct' {w:World} {s A B:Res} {os:List Res} {g n c x y p:Nat} {k:Int} {rest:List Value} {d:Array Int} (hg:Good w s (B::A::os)) (hrow:RowAt A g rest d) (hB:Cnt B p k) (hn:d.size=n) (hx:x<n) (hy:y<n) (hk0:0≤k) (hk:k<1000) :
  Calls Tryz.prog 211 #[.slice (some ⟨g,0,none⟩) n c,i64 x,i64 y,ptr p] w (Post w s (A::os) fun s' B' r=>s'=s∧∃ k',k≤k'∧k'≤k+1∧Cnt B' p k'∧∃ u v:Nat,r = .tuple #[i64 u,i64 v]∧(u=x∧v=y∨u=y∧v=x)):=by
 refine (order2_ct hg hrow hB hn hx hy hk0 hk).mono ?_
 rintro e w' ⟨r,s',A',he,hle,hg',hax,hs,k',h1,h2,h3,h4⟩
 refine⟨r,s',A',he,hle,hg',hax,hs,k',h1,h2,h3,?_⟩
 rcases h4 with rfl | rfl
 ·
  exact⟨x,y,rfl,.inl ⟨rfl,rfl⟩⟩
 ·
  exact⟨y,x,rfl,.inr ⟨rfl,rfl⟩⟩
theorem median_ct {w:World} {s A B:Res} {os:List Res} {g n c x y z p:Nat} {k:Int} {rest:List Value} {d:Array Int} (hg:Good w s (B::A::os)) (hrow:RowAt A g rest d) (hB:Cnt B p k) (hn:d.size=n) (hx:x<n) (hy:y<n) (hz:z<n) (hk0:0≤k) (hk:k<900) :
  Calls Tryz.prog 208 #[.slice (some ⟨g,0,none⟩) n c,i64 x,i64 y,i64 z,ptr p] w (Post w s (A::os) fun s' B' r=>s'=s∧∃ k',k≤k'∧k'≤k+3∧Cnt B' p k'∧∃ u:Nat,r=i64 u∧(u=x∨u=y∨u=z)):=by
 refine enter (l:=[.slice (some ⟨g,0,none⟩) n c,i64 x,i64 y,i64 z,ptr p]) Tryz.func208 rfl Tryz.ntmps208 rfl ?_
 refine go 11 ?_
 refine zc (order2_ct' hg hrow hB hn hx hy hk0 (by omega)) ?_
 rintro v1 s1 B1 w1 hle1 hg1 hax1 ⟨rfl,k1,hk1,hk1',hB1,u1,u2,rfl,hu⟩
 refine go 14 ?_
 refine zc (order2_ct' (x:=u2) (y:=z) hg1 hrow hB1 hn (by omega) (by omega) (by omega) (by omega)) ?_
 rintro v2 s2 B2 w2 hle2 hg2 hax2 ⟨rfl,k2,hk2,hk2',hB2,u3,u4,rfl,hu2⟩
 refine go 14 ?_
 refine zc (order2_ct' (x:=u1) (y:=u3) hg2 hrow hB2 hn (by omega) (by omega) (by omega) (by omega)) ?_
 rintro v3 s3 B3 w3 hle3 hg3 hax3 ⟨rfl,k3,hk3,hk3',hB3,u5,u6,rfl,hu3⟩
 refine go 12 ?_
 exact CW.ret (ret (vs:=[_]) ⟨_,_,rfl,rfl,rfl⟩ (Post.mk (Le.refl _) hg3 (hax1.trans (hax2.trans hax3)) ⟨rfl,k3,by omega,by omega,hB3,u6,rfl,by omega⟩))
theorem medianAdj_ct {w:World} {s A B:Res} {os:List Res} {g n c x p:Nat} {k:Int} {rest:List Value} {d:Array Int} (hg:Good w s (B::A::os)) (hrow:RowAt A g rest d) (hB:Cnt B p k) (hn:d.size=n) (h0:0<x) (hx:x+1<n) (hk0:0≤k) (hk:k<900) (hsz:n<2305843009213693952) :
  Calls Tryz.prog 207 #[.slice (some ⟨g,0,none⟩) n c,i64 x,ptr p] w (Post w s (A::os) fun s' B' r=>s'=s∧∃ k',k≤k'∧k'≤k+3∧Cnt B' p k'∧∃ u:Nat,r=i64 u∧x≤u+1∧u≤x+1):=by
 refine enter (l:=[.slice (some ⟨g,0,none⟩) n c,i64 x,ptr p]) Tryz.func207 rfl Tryz.ntmps207 rfl ?_
 refine go 13 ?_
 have e1:((x:Int)-1)=((x-1:Nat):Int):=by omega
 have e2:((x:Int)+1)=((x+1:Nat):Int):=by omega
 rw[e1,e2]
 refine go 1 ?_
 refine zc (median_ct (x:=x-1) (y:=x) (z:=x+1) hg hrow hB hn (by omega) (by omega) (by omega) hk0 hk) ?_
 rintro v1 s1 B1 w1 hle1 hg1 hax1 ⟨rfl,k1,hk1,hk1',hB1,u,rfl,hu⟩
 refine go 3 ?_
 exact CW.ret (ret (vs:=[_]) ⟨_,_,rfl,rfl,rfl⟩ (Post.mk (Le.refl _) hg1 hax1 ⟨rfl,k1,hk1,hk1',hB1,u,rfl,by omega,by omega⟩))
theorem choosePivot_ct {w:World} {s A:Res} {os:List Res} {g n c a b:Nat} {rest:List Value} {d:Array Int} (hg:Good w s (A::os)) (hrow:RowAt A g rest d) (hn:d.size=n) (hb:b≤n) (hab:a+8≤b) (hsz:n<2305843009213693952) :
  Calls Tryz.prog 194 #[.slice (some ⟨g,0,none⟩) n c,i64 a,i64 b] w (PostV w s (A::os) fun r=>∃ (q h:Nat),r = .tuple #[i64 q,i64 h]∧a≤q∧q<b∧h≤2):=by
 obtain⟨L,hL⟩:∃ L,L=b-a:=⟨_,rfl⟩
 refine enter (l:=[.slice (some ⟨g,0,none⟩) n c,i64 a,i64 b]) Tryz.func194 rfl Tryz.ntmps194 rfl ?_
 refine go 12 ?_
 have eL:((b:Int)-(a:Int))=(L:Int):=by omega
 rw[eL]
 refine go 2 ?_
 refine RL.alloc rfl rfl rfl rfl ze3.out hg ?_
 rintro p w1 hg1 hax1
 refine go 6 ?_
 refine RL.quo rfl rfl rfl rfl rfl rfl ((by omega)) ((by decide)) ((by simp only[rng];omega)) ?_
 refine RL.mul rfl rfl rfl rfl rfl rfl ((by simp only[rng];omega)) ?_
 refine go 7 ?_
 refine RL.quo rfl rfl rfl rfl rfl rfl ((by omega)) ((by decide)) ((by simp only[rng];omega)) ?_
 refine RL.mul rfl rfl rfl rfl rfl rfl ((by simp only[rng];omega)) ?_
 refine go 7 ?_
 refine RL.quo rfl rfl rfl rfl rfl rfl ((by omega)) ((by decide)) ((by simp only[rng];omega)) ?_
 refine RL.mul rfl rfl rfl rfl rfl rfl ((by simp only[rng];omega)) ?_
 refine go 3 ?_
 obtain⟨B0,hg0,hB0⟩:∃ B,Good w1 s (B::A::os)∧Cnt B p 0:=⟨_,hg1,if_pos rfl⟩
 refine CW.meet (fun E' w'=>∃ (B:Res) (k:Int) (u:Nat),Good w' s (B::A::os)∧Aux w w'∧Cnt B p k∧a≤u∧u<b∧E'=[(9,ptr p),(11,i64 (u:Nat))]) ?_ ?_
 ·
  refine CW.seq (CW.plain ?_)
  refine go 3 ?_
  refine CW.test rfl (fun h8=>?_) (fun h8=>absurd (by omega) h8)
  refine CW.meet (fun E' w'=>∃ (B:Res) (k:Int) (x y z:Nat),Good w' s (B::A::os)∧Aux w w'∧Cnt B p k∧0≤k∧k≤9∧a≤x∧x<b∧a≤y∧y<b∧a≤z∧z<b∧E'=[(0,.slice (some ⟨g,0,none⟩) n c),(9,ptr p),(10,i64 (x:Nat)),(11,i64 (y:Nat)),(12,i64 (z:Nat))]) ?_ ?_
  ·
   refine CW.seq (CW.plain ?_)
   refine go 3 ?_
   refine CW.test rfl (fun h50=>?_) (fun h50=>?_)
   ·
    refine CW.less [(0,.slice (some ⟨g,0,none⟩) n c),(9,ptr p),(10,i64 ((a+L / 4*1:Nat):Int)),(11,i64 ((a+L / 4*2:Nat):Int)),(12,i64 ((a+L / 4*3:Nat):Int))] ⟨rfl,rfl,congrArg (fun z=>some (i64 z)) (by omega),congrArg (fun z=>some (i64 z)) (by omega),congrArg (fun z=>some (i64 z)) (by omega),trivial⟩ ?_
    refine go 5 ?_
    refine zc (medianAdj_ct (x:=a+L / 4*1) hg0 hrow hB0 hn (by omega) (by omega) (by omega) (by omega) hsz) ?_
    rintro v2 s2 B2 w2 hle2 hg2 hax2 ⟨rfl,k2,hk2,hk2',hB2,u2,rfl,hu2,hu2'⟩
    refine go 8 ?_
    refine zc (medianAdj_ct (x:=a+L / 4*2) hg2 hrow hB2 hn (by omega) (by omega) (by omega) (by omega) hsz) ?_
    rintro v3 s3 B3 w3 hle3 hg3 hax3 ⟨rfl,k3,hk3,hk3',hB3,u3,rfl,hu3,hu3'⟩
    refine go 7 ?_
    refine zc (medianAdj_ct (x:=a+L / 4*3) hg3 hrow hB3 hn (by omega) (by omega) (by omega) (by omega) hsz) ?_
    rintro v4 s4 B4 w4 hle4 hg4 hax4 ⟨rfl,k4,hk4,hk4',hB4,u4,rfl,hu4,hu4'⟩
    refine go 3 ?_
    exact fun ac ha=>⟨_,ha.sub (E':=[(0,.slice (some ⟨g,0,none⟩) n c),(9,ptr p),(10,i64 (u2:Nat)),(11,i64 (u3:Nat)),(12,i64 (u4:Nat))]) ⟨rfl,rfl,rfl,rfl,rfl,trivial⟩,B4,k4,u2,u3,u4,hg4,hax1.trans (hax2.trans (hax3.trans hax4)),hB4,by omega,by omega,by omega,by omega,by omega,by omega,by omega,by omega,rfl⟩
   ·
    exact CW.skip (fun ac ha=>⟨_,ha.sub (E':=[(0,.slice (some ⟨g,0,none⟩) n c),(9,ptr p),(10,i64 ((a+L / 4*1:Nat):Int)),(11,i64 ((a+L / 4*2:Nat):Int)),(12,i64 ((a+L / 4*3:Nat):Int))]) ⟨rfl,rfl,congrArg (fun z=>some (i64 z)) (by omega),congrArg (fun z=>some (i64 z)) (by omega),congrArg (fun z=>some (i64 z)) (by omega),trivial⟩,B0,0,_,_,_,hg0,hax1,hB0,by omega,by omega,by omega,by omega,by omega,by omega,by omega,by omega,rfl⟩)
  ·
   rintro E' w5 ⟨B5,k5,x,y,z,hg5,hax5,hB5,hk50,hk59,hax',hxb,hay,hyb,haz,hzb,rfl⟩
   refine go 6 ?_
   refine zc (median_ct (x:=x) (y:=y) (z:=z) hg5 hrow hB5 hn (by omega) (by omega) (by omega) hk50 (by omega)) ?_
   rintro v6 s6 B6 w6 hle6 hg6 hax6 ⟨rfl,k6,hk6,hk6',hB6,u6,rfl,hu6⟩
   refine go 3 ?_
   exact fun ac ha=>⟨_,ha.sub (E':=[(9,ptr p),(11,i64 (u6:Nat))]) ⟨rfl,rfl,trivial⟩,B6,k6,u6,hg6,hax5.trans hax6,hB6,by omega,by omega,rfl⟩
 rintro E' w7 ⟨B7,k7,u,hg7,hax7,hB7,hau,hub,rfl⟩
 refine go 2 ?_
 refine RL.load (j:=0) rfl rfl rfl rfl ty3.out rfl (Holds.of hB7) (hg7.1) rfl ?_
 refine go 1 ?_
 refine CW.block (CW.seq (CW.plain ?_))
 refine go 3 ?_
 refine CW.eq rfl (fun h0=>?_) (fun h0=>?_)
 ·
  refine CW.seq (CW.plain ?_)
  refine go 4 ?_
  exact CW.ret (ret (vs:=[_,_]) ⟨_,_,rfl,rfl,_,_,rfl,rfl,rfl⟩ (PostV.mk hg7.drop hax7 ⟨u,1,rfl,hau,hub,by omega⟩))
 ·
  refine CW.seq (CW.plain ?_)
  refine go 3 ?_
  refine CW.eq rfl (fun h12=>?_) (fun h12=>?_)
  ·
   refine CW.seq (CW.plain ?_)
   refine go 4 ?_
   exact CW.ret (ret (vs:=[_,_]) ⟨_,_,rfl,rfl,_,_,rfl,rfl,rfl⟩ (PostV.mk hg7.drop hax7 ⟨u,2,rfl,hau,hub,by omega⟩))
  ·
   refine CW.seq (CW.plain ?_)
   refine go 4 ?_
   exact CW.ret (ret (vs:=[_,_]) ⟨_,_,rfl,rfl,_,_,rfl,rfl,rfl⟩ (PostV.mk hg7.drop hax7 ⟨u,0,rfl,hau,hub,by omega⟩))
end Go.Lw
namespace Go.Lw
open Go.Proofs
open Go.Sort (swp size_swp PermIn SortedIn Below permIn_trans round_eq round_part)
theorem swo:Go.Sort.SWO ltI:=Go.Sort.swo_ltInt
theorem hpart:Go.Sort.partition_stmt ltI:=Go.Sort.partition_holds _
theorem hpartEq:Go.Sort.partitionEqual_stmt ltI:=Go.Sort.partitionEqual_holds _
abbrev Fin (a b:Nat) (d:Array Int) (a1 b1:Nat) (d1:Array Int):Prop:=∀ R,PermIn a1 b1 d1 R→SortedIn ltI a1 b1 R→PermIn a b d R∧SortedIn ltI a b R
abbrev PPost (w:World) (s:Res) (os:List Res) (g:Nat) (rest:List Value) (a b:Nat) (d:Array Int):Ending→World→Prop:=Post w s os fun s' A' r=>s'=s∧r = .tuple #[]∧∃ d',PermIn a b d d'∧SortedIn ltI a b d'∧RowAt A' g rest d'
theorem pdq_ct (N:Nat):∀ {w:World} {s A:Res} {os:List Res} {g n c a b lim:Nat} {rest:List Value} {d:Array Int},b-a≤N→Good w s (A::os)→RowAt A g rest d→d.size=n→a≤b→b≤n→n<2305843009213693952→lim≤64→Below ltI a b d →
  Calls Tryz.prog 179 #[.slice (some ⟨g,0,none⟩) n c,i64 a,i64 b,i64 lim] w (PPost w s os g rest a b d):=by
 induction N using Nat.strongRecOn with
 | _ N ih =>
 intro w s A os g n c a b lim rest d hN hg hrow hn hab hb hsz hlim hB
 refine enter (l:=[.slice (some ⟨g,0,none⟩) n c,i64 a,i64 b,i64 lim]) Tryz.func179 rfl Tryz.ntmps179 rfl ?_
 refine go 8 ?_
 refine CW.block (CW.loop (σ:=Nat) (fun k E w'=>∃ A1 d1 a1 b1 lim1 wb wp,Good w' s (A1::os)∧Aux w w'∧RowAt A1 g rest d1∧d1.size=n∧a1≤b1∧b1≤n∧b1-a1≤k∧k≤N∧lim1≤64∧Below ltI a1 b1 d1∧Fin a b d a1 b1 d1∧E=[(0,.slice (some ⟨g,0,none⟩) n c),(1,i64 (a1:Nat)),(2,i64 (b1:Nat)),(3,i64 (lim1:Nat)),(8,.bool wb),(9,.bool wp)])
  (fun k=>k) N [(0,.slice (some ⟨g,0,none⟩) n c),(1,i64 a),(2,i64 b),(3,i64 lim),(8,.bool true),(9,.bool true)] ⟨rfl,rfl,rfl,rfl,rfl,rfl,trivial⟩ ⟨A,d,a,b,lim,true,true,hg,Aux.refl _,hrow,hn,hab,hb,hN,Nat.le_refl _,hlim,hB,fun R h1 h2=>⟨h1,h2⟩,rfl⟩ ?_)
 rintro k E w0 ⟨A0,d0,a1,b1,lim0,wb,wp,hg0,hax0,hrow0,hn0,hab1,hb1,hk,hkN,hlim0,hB0,hfin,rfl⟩
 have hend:∀ {w':World} {A':Res} {R:Array Int},Good w' s (A'::os)→Aux w w'→PermIn a1 b1 d0 R→SortedIn ltI a1 b1 R→RowAt A' g rest R→PPost w s os g rest a b d (.returned (.tuple #[])) w':=fun h1 h2 h3 h4 h5=>Post.mk (Le.refl _) h1 h2 ⟨rfl,rfl,_,(hfin _ h3 h4).1,(hfin _ h3 h4).2,h5⟩
 obtain⟨L,hL⟩:∃ L,L=b1-a1:=⟨_,rfl⟩
 refine CW.block (CW.seq (CW.plain ?_))
 refine go 5 ?_
 have eL:((b1:Int)-(a1:Int))=(L:Int):=by omega
 rw[eL]
 refine CW.seq (CW.seq (CW.plain ?_))
 refine go 3 ?_
 refine CW.test rfl (fun h12=>?_) (fun h12=>?_)
 ·
  refine CW.seq (CW.plain ?_)
  refine go 4 ?_
  refine zc (insertionSort_ct hg0 hrow0 hn0 hb1 (by omega) (by omega)) ?_
  rintro v1 s1 A1 w1 hle1 hg1 hax1 ⟨rfl,rfl,hrow1⟩
  refine go 2 ?_
  have hi:=Go.Sort.insertionSort_holds swo d0 a1 b1 hab1 (by omega)
  exact CW.ret (ret (vs:=[]) rfl (hend hg1 (hax0.trans hax1) hi.1 hi.2 hrow1))
 refine go 1 ?_
 refine CW.seq (CW.seq (CW.plain ?_))
 refine go 3 ?_
 refine CW.eq rfl (fun hl0=>?_) (fun hl0=>?_)
 ·
  refine CW.seq (CW.plain ?_)
  refine go 4 ?_
  refine zc (heapSort_ct hg0 hrow0 hn0 hb1 (by omega) hsz) ?_
  rintro v1 s1 A1 w1 hle1 hg1 hax1 ⟨rfl,rfl,hrow1⟩
  refine go 2 ?_
  have hi:=Go.Sort.heapSort_holds swo d0 a1 b1 hab1 (by omega)
  exact CW.ret (ret (vs:=[]) rfl (hend hg1 (hax0.trans hax1) hi.1 hi.2 hrow1))
 refine go 1 ?_
 -- the patterns are broken, or not
 refine CW.meet (fun E' w'=>∃ A1 d1 lim,Good w' s (A1::os)∧Aux w w'∧RowAt A1 g rest d1∧PermIn a1 b1 d0 d1∧lim≤64∧E'=[(0,.slice (some ⟨g,0,none⟩) n c),(1,i64 (a1:Nat)),(2,i64 (b1:Nat)),(3,i64 (lim:Nat)),(8,.bool wb),(9,.bool wp),(10,i64 (L:Nat))]) ?_ ?_
 ·
  refine CW.seq (CW.plain ?_)
  refine go 3 ?_
  refine CW.cond rfl (fun hw=>?_) (fun hw=>?_)
  ·
   refine CW.seq (CW.plain ?_)
   refine go 4 ?_
   refine zc (breakPatterns_ct hg0 hrow0 hn0 hb1 (by omega) hsz) ?_
   rintro v1 s1 A1 w1 hle1 hg1 hax1 ⟨rfl,rfl,d1,hp1,hrow1⟩
   refine go 7 ?_
   exact fun ac ha=>⟨_,ha.sub (E':=[(0,.slice (some ⟨g,0,none⟩) n c),(1,i64 (a1:Nat)),(2,i64 (b1:Nat)),(3,i64 ((lim0-1:Nat):Int)),(8,.bool wb),(9,.bool wp),(10,i64 (L:Nat))]) ⟨rfl,rfl,rfl,congrArg (fun z=>some (i64 z)) (by omega),rfl,rfl,rfl,trivial⟩,A1,d1,lim0-1,hg1,hax0.trans hax1,hrow1,hp1,by omega,rfl⟩
  ·
   exact CW.skip (fun ac ha=>⟨_,ha.sub (E':=[(0,.slice (some ⟨g,0,none⟩) n c),(1,i64 (a1:Nat)),(2,i64 (b1:Nat)),(3,i64 (lim0:Nat)),(8,.bool wb),(9,.bool wp),(10,i64 (L:Nat))]) ⟨rfl,rfl,rfl,rfl,rfl,rfl,rfl,trivial⟩,A0,d0,lim0,hg0,hax0,hrow0,Go.Sort.permIn_refl _ _ _,hlim0,rfl⟩)
 rintro E' w1 ⟨A1,d1,lim,hg1,hax1,hrow1,hp1,hlim1,rfl⟩
 have hn1:d1.size=n:=by rw[hp1.1];exact hn0
 have hB1:Below ltI a1 b1 d1:=hB0.perm (by omega) hp1
 refine go 6 ?_
 refine zw (choosePivot_ct hg1 hrow1 hn1 hb1 (by omega) hsz) ?_
 rintro v2 w2 hg2 hax2 ⟨q0,h0,rfl,hq0,hq0',hh0⟩
 refine go 7 ?_
 -- reversed, or not
 refine CW.meet (fun E' w'=>∃ A3 d3 q h,Good w' s (A3::os)∧Aux w w'∧RowAt A3 g rest d3∧PermIn a1 b1 d1 d3∧a1≤q∧q<b1∧E'=[(0,.slice (some ⟨g,0,none⟩) n c),(1,i64 (a1:Nat)),(2,i64 (b1:Nat)),(3,i64 (lim:Nat)),(8,.bool wb),(9,.bool wp),(10,i64 (L:Nat)),(11,i64 (q:Nat)),(12,i64 (h:Nat))]) ?_ ?_
 ·
  refine CW.seq (CW.plain ?_)
  refine go 3 ?_
  refine CW.eq rfl (fun hh=>?_) (fun hh=>?_)
  ·
   refine CW.seq (CW.plain ?_)
   refine go 4 ?_
   refine zc (reverseRange_ct hg2 hrow1 hn1 hb1 (by omega) (by omega)) ?_
   rintro v3 s3 A3 w3 hle3 hg3 hax3 ⟨rfl,rfl,hrow3⟩
   refine go 15 ?_
   exact fun ac ha=>⟨_,ha.sub (E':=[(0,.slice (some ⟨g,0,none⟩) n c),(1,i64 (a1:Nat)),(2,i64 (b1:Nat)),(3,i64 (lim:Nat)),(8,.bool wb),(9,.bool wp),(10,i64 (L:Nat)),(11,i64 ((b1-1-(q0-a1):Nat):Int)),(12,i64 1)]) ⟨rfl,rfl,rfl,rfl,rfl,rfl,rfl,congrArg (fun z=>some (i64 z)) (by omega),rfl,trivial⟩,A3,_,b1-1-(q0-a1),1,hg3,hax1.trans (hax2.trans hax3),hrow3,Go.Sort.reverseRange_holds d1 a1 b1 hab1 (by omega),by omega,by omega,rfl⟩
  ·
   exact CW.skip (fun ac ha=>⟨_,ha.sub (E':=[(0,.slice (some ⟨g,0,none⟩) n c),(1,i64 (a1:Nat)),(2,i64 (b1:Nat)),(3,i64 (lim:Nat)),(8,.bool wb),(9,.bool wp),(10,i64 (L:Nat)),(11,i64 (q0:Nat)),(12,i64 (h0:Nat))]) ⟨rfl,rfl,rfl,rfl,rfl,rfl,rfl,rfl,rfl,trivial⟩,A1,d1,q0,h0,hg2,hax1.trans hax2,hrow1,Go.Sort.permIn_refl _ _ _,hq0,hq0',rfl⟩)
 rintro E' w3 ⟨A3,d3,q,h,hg3,hax3,hrow3,hp3,hq,hq',rfl⟩
 have hn3:d3.size=n:=by rw[hp3.1];exact hn1
 have hB3:Below ltI a1 b1 d3:=hB1.perm (by omega) hp3
 have hp03:PermIn a1 b1 d0 d3:=permIn_trans _ _ _ a1 b1 hp1 hp3
 -- sorted by a few steps, or not
 refine CW.meet (fun E' w'=>∃ A4 d4,Good w' s (A4::os)∧Aux w w'∧RowAt A4 g rest d4∧PermIn a1 b1 d3 d4∧E'=[(0,.slice (some ⟨g,0,none⟩) n c),(1,i64 (a1:Nat)),(2,i64 (b1:Nat)),(3,i64 (lim:Nat)),(8,.bool wb),(9,.bool wp),(10,i64 (L:Nat)),(11,i64 (q:Nat))]) ?_ ?_
 ·
  have hno:∀ ac,At 134 [(0,.slice (some ⟨g,0,none⟩) n c),(1,i64 (a1:Nat)),(2,i64 (b1:Nat)),(3,i64 (lim:Nat)),(8,.bool wb),(9,.bool wp),(10,i64 (L:Nat)),(11,i64 (q:Nat))] ac→∃ E',At 134 E' ac∧∃ A4 d4,Good w3 s (A4::os)∧Aux w w3∧RowAt A4 g rest d4∧PermIn a1 b1 d3 d4∧E'=[(0,.slice (some ⟨g,0,none⟩) n c),(1,i64 (a1:Nat)),(2,i64 (b1:Nat)),(3,i64 (lim:Nat)),(8,.bool wb),(9,.bool wp),(10,i64 (L:Nat)),(11,i64 (q:Nat))]:=fun ac ha=>⟨_,ha,A3,d3,hg3,hax3,hrow3,Go.Sort.permIn_refl _ _ _,rfl⟩
  refine go 4 ?_
  refine RL.part 62 rfl (fun hw=>?_) (fun hw=>?_)
  ·
   refine RL.pure rfl rfl rfl rfl ?_
   refine go 2 ?_
   refine RL.part 65 rfl (fun hw2=>?_) (fun hw2=>?_)
   ·
    refine RL.pure rfl rfl rfl rfl ?_
    refine go 3 ?_
    refine CW.cond rfl (fun hh=>?_) (fun hh=>?_)
    ·
     refine CW.seq (CW.plain ?_)
     refine go 4 ?_
     refine zc (partialIns_ct hg3 hrow3 hn3 hb1 (by omega) hsz) ?_
     rintro v4 s4 A4 w4 hle4 hg4 hax4 ⟨rfl,rfl,hrow4⟩
     refine go 2 ?_
     have hi:=Go.Sort.partialInsertionSort_holds swo d3 a1 b1 (by omega) (by omega) hB3
     refine CW.cond rfl (fun hd=>?_) (fun hd=>?_)
     ·
      exact CW.ret (ret (vs:=[]) rfl (hend hg4 (hax3.trans hax4) (permIn_trans _ _ _ a1 b1 hp03 hi.1) (hi.2 hd) hrow4))
     ·
      exact CW.skip (fun ac ha=>⟨_,ha.sub (E':=[(0,.slice (some ⟨g,0,none⟩) n c),(1,i64 (a1:Nat)),(2,i64 (b1:Nat)),(3,i64 (lim:Nat)),(8,.bool wb),(9,.bool wp),(10,i64 (L:Nat)),(11,i64 (q:Nat))]) ⟨rfl,rfl,rfl,rfl,rfl,rfl,rfl,rfl,trivial⟩,A4,_,hg4,hax3.trans hax4,hrow4,hi.1,rfl⟩)
    ·
     exact CW.skip (fun ac ha=>hno ac (ha.sub ⟨rfl,rfl,rfl,rfl,rfl,rfl,rfl,rfl,trivial⟩))
   ·
    refine RL.pass rfl rfl rfl ?_
    refine go 3 ?_
    refine CW.no rfl ?_
    exact CW.skip (fun ac ha=>hno ac (ha.sub ⟨rfl,rfl,rfl,rfl,rfl,rfl,rfl,rfl,trivial⟩))
  ·
   refine RL.pass rfl rfl rfl ?_
   refine go 6 ?_
   refine CW.no rfl ?_
   exact CW.skip (fun ac ha=>hno ac (ha.sub ⟨rfl,rfl,rfl,rfl,rfl,rfl,rfl,rfl,trivial⟩))
 rintro E' w4 ⟨A4,d4,hg4,hax4,hrow4,hp4,rfl⟩
 have hn4:d4.size=n:=by rw[hp4.1];exact hn3
 have hB4:Below ltI a1 b1 d4:=hB3.perm (by omega) hp4
 have hp04:PermIn a1 b1 d0 d4:=permIn_trans _ _ _ a1 b1 hp03 hp4
 -- many that are alike, or not
 refine CW.meet (fun E' w'=>Good w' s (A4::os)∧Aux w w'∧E'=[(0,.slice (some ⟨g,0,none⟩) n c),(1,i64 (a1:Nat)),(2,i64 (b1:Nat)),(3,i64 (lim:Nat)),(8,.bool wb),(9,.bool wp),(10,i64 (L:Nat)),(11,i64 (q:Nat))]) ?_ ?_
 ·
  refine CW.seq ?_
  refine CW.draws [(true,0),(true,1),(true,2),(true,3),(true,4),(true,5),(true,6),(true,7),(true,8),(true,9),(true,10),(true,11),(false,12),(true,13),(true,14)] (fun w'=>Good w' s (A4::os)) mixed (by kernel_rfl) (by kernel_rfl) (by kernel_rfl) (by kernel_rfl) hg4.drew ?_
  refine go 3 ?_
  refine RL.part 75 rfl (fun ha0=>?_) (fun ha0=>?_)
  ·
   have ha0':0<a1:=by have:=of_decide_eq_true ha0;omega
   refine go 3 ?_
   refine RL.idxR (a1-1) rfl rfl rfl rfl sl83.out rfl rfl (by omega) (by omega) ?_
   refine RL.loadRT (a1-1) rfl rfl rfl rfl ty22.out rfl hrow4 (fun w h=>h.1) (by omega) ?_
   refine go 2 ?_
   refine RL.idxR q rfl rfl rfl rfl sl83.out rfl rfl rfl (by omega) ?_
   refine RL.loadRT q rfl rfl rfl rfl ty22.out rfl hrow4 (fun w h=>h.1) (by omega) ?_
   refine go 1 ?_
   refine zw (Less_ct hg4.drew) ?_
   rintro v5 w5 hg5 hax5 rfl
   refine⟨hg5,?_⟩
   refine go 3 ?_
   refine CW.cond rfl (fun hl=>?_) (fun hl=>?_)
   ·
    have hl':ltI d4[a1-1]! d4[q]! = false:=by simpa using hl
    obtain⟨⟨mid,d6⟩,hx⟩:∃ x,Go.Sort.partitionEqual ltI d4 a1 b1 q=x:=⟨_,rfl⟩
    obtain⟨hm1,hm2,hs6,hB6,hfin6⟩:=round_eq swo hpartEq ha0' hq hq' (by omega) hB4 hl' hx
    refine go 7 ?_
    refine zc (partitionEqual_ct hg5 hrow4 hn4 hb1 hq hq' hsz) ?_
    rintro v6 s6 A6 w6 hle6 hg6 hax6 ⟨rfl,rfl,hrow6⟩
    refine go 3 ?_
    rw[hx] at hrow6
    rw[hx]
    refine go 6 ?_
    refine fun ac ha=>⟨k-1,[(0,.slice (some ⟨g,0,none⟩) n c),(1,i64 (mid:Nat)),(2,i64 (b1:Nat)),(3,i64 (lim:Nat)),(8,.bool wb),(9,.bool wp)],ha.sub ⟨rfl,rfl,rfl,rfl,rfl,rfl,trivial⟩,⟨A6,d6,mid,b1,lim,wb,wp,hg6,hax4.trans ((Aux.drew _).trans (hax5.trans hax6)),hrow6,by rw[hs6];exact hn4,hm2,hb1,by omega,by omega,hlim1,hB6,fun R h1 h2=>?_,rfl⟩,by omega⟩
    obtain⟨h3,h4⟩:=hfin6 R h1 h2
    exact hfin R (permIn_trans _ _ _ a1 b1 hp04 h3) h4
   ·
    exact CW.skip (fun ac ha=>⟨_,ha.sub (E':=[(0,.slice (some ⟨g,0,none⟩) n c),(1,i64 (a1:Nat)),(2,i64 (b1:Nat)),(3,i64 (lim:Nat)),(8,.bool wb),(9,.bool wp),(10,i64 (L:Nat)),(11,i64 (q:Nat))]) ⟨rfl,rfl,rfl,rfl,rfl,rfl,rfl,rfl,trivial⟩,hg5,hax4.trans ((Aux.drew _).trans hax5),rfl⟩)
  ·
   refine RL.pass rfl rfl rfl ?_
   refine go 12 ?_
   refine CW.no rfl ?_
   exact CW.skip (fun ac ha=>⟨_,ha.sub (E':=[(0,.slice (some ⟨g,0,none⟩) n c),(1,i64 (a1:Nat)),(2,i64 (b1:Nat)),(3,i64 (lim:Nat)),(8,.bool wb),(9,.bool wp),(10,i64 (L:Nat)),(11,i64 (q:Nat))]) ⟨rfl,rfl,rfl,rfl,rfl,rfl,rfl,rfl,trivial⟩,hg4.drew,hax4.trans (Aux.drew _),rfl⟩)
 rintro E' w5 ⟨hg5,hax5,rfl⟩
 obtain⟨⟨mid,ap,d6⟩,hx⟩:∃ x,Go.Sort.partition ltI d4 a1 b1 q=x:=⟨_,rfl⟩
 obtain⟨hm1,hm2,hs6,hBa,hBr,hleft,hright⟩:=round_part swo hpart hq hq' (by omega) hB4 hx
 refine go 7 ?_
 refine zc (partition_ct hg5 hrow4 hn4 hb1 hq hq' hsz) ?_
 rintro v6 s6 A6 w6 hle6 hg6 hax6 ⟨rfl,rfl,hrow6⟩
 refine go 7 ?_
 simp only[hx] at hrow6 ⊢
 have hn6:d6.size=n:=by rw[hs6];exact hn4
 refine go 19 ?_
 refine RL.quo rfl rfl rfl rfl rfl rfl ((by omega)) ((by decide)) ((by simp only[rng];omega)) ?_
 refine go 8 ?_
 refine CW.test rfl (fun hlt=>?_) (fun hlt=>?_)
 ·
  refine CW.seq (CW.plain ?_)
  refine go 12 ?_
  refine zc (ih (mid-a1) (by omega) (a:=a1) (b:=mid) (Nat.le_refl _) hg6 hrow6 hn6 hm1 (by omega) hsz hlim1 hBa) ?_
  rintro v7 s7 A7 w7 hle7 hg7 hax7 ⟨rfl,rfl,d7,hp7,hs7,hrow7⟩
  refine go 2 ?_
  obtain⟨hBL,hfin7⟩:=hleft d7 hp7 hs7
  refine go 5 ?_
  refine fun ac ha=>⟨k-1,[(0,.slice (some ⟨g,0,none⟩) n c),(1,i64 ((mid+1:Nat):Int)),(2,i64 (b1:Nat)),(3,i64 (lim:Nat)),(8,.bool (decide ((mid:Int)-a1≥(L:Int) / 8))),(9,.bool ap)],ha.sub ⟨rfl,rfl,rfl,rfl,rfl,rfl,trivial⟩,⟨A7,d7,mid+1,b1,lim,_,ap,hg7,hax5.trans (hax6.trans hax7),hrow7,by rw[hp7.1];exact hn6,by omega,hb1,by omega,by omega,hlim1,hBL,fun R h1 h2=>?_,rfl⟩,by omega⟩
  obtain⟨h3,h4⟩:=hfin7 R h1 h2
  exact hfin R (permIn_trans _ _ _ a1 b1 hp04 h3) h4
 ·
  refine CW.seq (CW.plain ?_)
  refine go 13 ?_
  refine zc (ih (b1-(mid+1)) (by omega) (a:=mid+1) (b:=b1) (Nat.le_refl _) hg6 hrow6 hn6 (by omega) hb1 hsz hlim1 hBr) ?_
  rintro v7 s7 A7 w7 hle7 hg7 hax7 ⟨rfl,rfl,d7,hp7,hs7,hrow7⟩
  refine go 2 ?_
  obtain⟨hBL,hfin7⟩:=hright d7 hp7 hs7
  refine go 4 ?_
  refine fun ac ha=>⟨k-1,[(0,.slice (some ⟨g,0,none⟩) n c),(1,i64 (a1:Nat)),(2,i64 (mid:Nat)),(3,i64 (lim:Nat)),(8,.bool (decide ((b1:Int)-mid≥(L:Int) / 8))),(9,.bool ap)],ha.sub ⟨rfl,rfl,rfl,rfl,rfl,rfl,trivial⟩,⟨A7,d7,a1,mid,lim,_,ap,hg7,hax5.trans (hax6.trans hax7),hrow7,by rw[hp7.1];exact hn6,hm1,by omega,by omega,by omega,hlim1,hBL,fun R h1 h2=>?_,rfl⟩,by omega⟩
  obtain⟨h3,h4⟩:=hfin7 R h1 h2
  exact hfin R (permIn_trans _ _ _ a1 b1 hp04 h3) h4
theorem SortK_ct {w:World} {s A:Res} {os:List Res} {g n c:Nat} {rest:List Value} {d:Array Int} (hg:Good w s (A::os)) (hrow:RowAt A g rest d) (hn:d.size=n) (hsz:n<2305843009213693952) :
  Calls Tryz.prog 165 #[.slice (some ⟨g,0,none⟩) n c] w (PPost w s os g rest 0 n d):=by
 refine enter (l:=[.slice (some ⟨g,0,none⟩) n c]) Tryz.func165 rfl Tryz.ntmps165 rfl ?_
 refine go 10 ?_
 refine RL.conv rfl rfl rfl rfl Tryz.underlying3 Tryz.underlying200 rfl ((by simp only[rng];omega)) ?_
 refine go 1 ?_
 refine zw (Len_ct hg (by omega)) ?_
 rintro v1 w1 hg1 hax1 rfl
 refine go 2 ?_
 refine zc (pdq_ct n (a:=0) (b:=n) (lim:=Go.Sort.bitsLen n) (by omega) hg1 hrow hn (Nat.zero_le _) (Nat.le_refl _) hsz ((Go.Sort.bitsLen_le_iff n 64).2 (by omega)) (Or.inl rfl)) ?_
 rintro v2 s2 A2 w2 hle2 hg2 hax2 ⟨rfl,rfl,d2,hp2,hs2,hrow2⟩
 refine go 2 ?_
 exact fall (vs:=[]) rfl (Post.mk (Le.refl _) hg2 (hax1.trans hax2) ⟨rfl,rfl,d2,hp2,hs2,hrow2⟩)
end Go.Lw
namespace Go.Lw
open Go.Proofs
def RPeer:Res→List Value→Peer→Prop:=fun _ vs x=>vs=[i64 x.node,.int .u64 x.next,.int .u64 x.mat]∧rng .i64 x.node∧rng .u64 x.next∧rng .u64 x.mat
theorem RPeer.up:Up RPeer:=fun _ _ _ _ _ h=>h
theorem RPeer.one:One RPeer:=fun _ vs x h v hv=>by rw[h.1] at hv;simp at hv;rcases hv with rfl | rfl | rfl<;>rfl
abbrev Peers (s:Res) (a:Option Addr) (c:Nat) (xs:List Peer):Prop:=Imm RPeer 3 s a c xs
theorem Peers.rng {s:Res} {a:Option Addr} {c:Nat} {xs:List Peer} (h:Peers s a c xs):∀ p∈xs,Lw.rng .u64 p.mat:=by
 intro p hp
 obtain⟨i,hi,rfl⟩:=List.getElem_of_mem hp
 rcases h.2.2 with rfl | ⟨ad,rfl,hr⟩
 ·
  simp at hi
 ·
  obtain⟨vs,_,_,hR⟩:=hr.get (List.getElem?_eq_getElem hi)
  exact hR.2.2.2
theorem matchP_rng {l:List Peer} (h:∀ p∈l,Lw.rng .u64 p.mat) (x:Int):Lw.rng .u64 (matchP l x):=by
 obtain⟨h1,h2,h3⟩:=matchP_spec l x
 rcases h3 with h3 | ⟨p,hp,_,he⟩
 ·
  rw[h3];simp only[Lw.rng];omega
 ·
  rw[←he];exact h p hp
end Go.Lw
namespace Go.Lw
open Go.Proofs
theorem isNaNI_ct {w:World} {s:Res} {os:List Res} {x:Int} (hg:Good w s os):Calls Tryz.prog 174 #[i64 x] w (PostV w s os fun r=>r = .bool false):=by
 refine enter (l:=[i64 x]) Tryz.func174 rfl Tryz.ntmps174 rfl ?_
 refine go 11 ?_
 exact CW.ret (ret (vs:=[_]) ⟨_,_,rfl,rfl,rfl⟩ (PostV.mk hg (Aux.refl _) (congrArg Value.bool (by simp))))
theorem cisNaNI_ct {w:World} {s:Res} {os:List Res} {x:Int} (hg:Good w s os):Calls Tryz.prog 167 #[i64 x] w (PostV w s os fun r=>r = .bool false):=by
 refine enter (l:=[i64 x]) Tryz.func167 rfl Tryz.ntmps167 rfl ?_
 refine go 11 ?_
 exact CW.ret (ret (vs:=[_]) ⟨_,_,rfl,rfl,rfl⟩ (PostV.mk hg (Aux.refl _) (congrArg Value.bool (by simp))))
theorem LessI_ct {w:World} {s:Res} {os:List Res} {x y:Int} (hg:Good w s os):Calls Tryz.prog 146 #[i64 x,i64 y] w (PostV w s os fun r=>r = .bool (decide (x<y))):=by
 refine enter (l:=[i64 x,i64 y]) Tryz.func146 rfl Tryz.ntmps146 rfl ?_
 refine go 8 ?_
 refine zw (cisNaNI_ct hg) ?_
 rintro v w1 hg1 hax1 rfl
 refine go 13 ?_
 exact CW.ret (ret (vs:=[_]) ⟨_,_,rfl,rfl,rfl⟩ (PostV.mk hg1 hax1 rfl))
structure Place (v:List Int) (x:Int) (i:Nat):Prop where
 le:i≤v.length
 lo:∀ k,(h:k<v.length)→k<i→v[k]<x
 hi:∀ k,(h:k<v.length)→i≤k→x≤v[k]
theorem Place.found {v:List Int} {x:Int} {i:Nat} (h:Place v x i) (hs:v.Pairwise (· < ·)) (hx:x∈v):∃ hi:i<v.length,v[i]=x:=by
 obtain⟨k,hk,rfl⟩:=List.getElem_of_mem hx
 have h1:i≤k:=by
  by_cases hc:i≤k
  ·
   exact hc
  ·
   have:=h.lo k hk (by omega);omega
 have hi:i<v.length:=by omega
 refine⟨hi,?_⟩
 have h2:=h.hi i hi (Nat.le_refl _)
 by_cases e:i=k
 ·
  subst e;rfl
 ·
  have:=List.pairwise_iff_getElem.1 hs i k hi hk (by omega);omega
theorem BinarySearch_ct {w:World} {s:Res} {os:List Res} {v:List Int} {va:Option Addr} {vc:Nat} {x:Int} (hg:Good w s os) (hv:Ints s va vc v) (hs:v.Pairwise (· < ·)) (hb:v.length*8≤140737488355328) :
  Calls Tryz.prog 159 #[.slice va v.length vc,i64 x] w (PostV w s os fun r=>∃ i:Nat,r = .tuple #[i64 i,.bool (decide (∃ h:i<v.length,v[i]=x))]∧Place v x i):=by
 have hsp:=List.pairwise_iff_getElem.1 hs
 refine enter (l:=[.slice va v.length vc,i64 x]) Tryz.func159 rfl Tryz.ntmps159 rfl ?_
 refine go 17 ?_
 refine CW.meet (fun E' w'=>∃ i,Good w' s os∧Aux w w'∧Place v x i∧E'=[(0,.slice va v.length vc),(1,i64 x),(6,i64 v.length),(7,i64 (i:Nat))]) ?_ ?_
 ·
  refine CW.block (CW.loop (σ:=Nat) (fun k E w'=>∃ i j:Nat,Good w' s os∧Aux w w'∧i≤j∧j≤v.length∧j-i≤k∧(∀ m,(h:m<v.length)→m<i→v[m]<x)∧(∀ m,(h:m<v.length)→j≤m→x≤v[m])∧E=[(0,.slice va v.length vc),(1,i64 x),(6,i64 v.length),(7,i64 (i:Nat)),(8,i64 (j:Nat))])
   (fun k=>k) v.length [(0,.slice va v.length vc),(1,i64 x),(6,i64 v.length),(7,i64 0),(8,i64 v.length)] ⟨rfl,rfl,rfl,rfl,rfl,trivial⟩ ⟨0,v.length,hg,Aux.refl _,Nat.zero_le _,Nat.le_refl _,by omega,fun m h h2=>absurd h2 (by omega),fun m h h2=>absurd h2 (by omega),rfl⟩ ?_)
  rintro k E w1 ⟨i,j,hg1,hax1,hij,hj,hk,hlo,hhi,rfl⟩
  refine CW.seq (CW.seq (CW.plain ?_))
  refine go 4 ?_
  refine CW.test rfl (fun h=>?_) (fun h=>?_)
  ·
   refine CW.skip ?_
   have hij':i<j:=by omega
   obtain⟨m,hm⟩:∃ m,m=(i+j) / 2:=⟨_,rfl⟩
   refine CW.block (CW.seq (CW.plain ?_))
   refine go 3 ?_
   refine RL.conv rfl rfl rfl rfl Tryz.underlying3 Tryz.underlying200 rfl ((by simp only[rng];omega)) ?_
   refine RL.shr 1 rfl rfl rfl rfl rfl rfl rfl (by decide) ?_
   refine RL.conv rfl rfl rfl rfl Tryz.underlying200 Tryz.underlying3 rfl ((by simp only[rng];omega)) ?_
   refine go 2 ?_
   have em:((i:Int)+(j:Int)) / 2 ^ 1=(m:Int):=by omega
   rw[em]
   refine go 4 ?_
   refine RL.idx rfl rfl rfl rfl sl25.out rfl rfl (hv) (by omega) (by omega) ?_
   rintro q vs hvl hH ⟨rfl,hr'⟩
   refine RL.load rfl rfl rfl rfl ty3.out rfl (hH) (hg1.sh) rfl ?_
   refine go 2 ?_
   refine zw (LessI_ct (x:=v[(m:Int).toNat]'(by omega)) hg1) ?_
   rintro r2 w2 hg2 hax2 rfl
   refine go 2 ?_
   have hml:m<v.length:=by omega
   refine CW.test rfl (fun hl=>?_) (fun hl=>?_)
   ·
    have hl':v[m]<x:=hl
    refine go 5 ?_
    refine fun ac ha=>⟨k-1,[(0,.slice va v.length vc),(1,i64 x),(6,i64 v.length),(7,i64 ((m+1:Nat):Int)),(8,i64 (j:Nat))],ha.sub ⟨rfl,rfl,rfl,rfl,rfl,trivial⟩,⟨m+1,j,hg2,hax1.trans hax2,by omega,hj,by omega,fun z hz hz2=>?_,hhi,rfl⟩,by omega⟩
    by_cases e:z=m
    ·
     subst e;exact hl'
    ·
     have:=hsp z m hz hml (by omega);omega
   ·
    have hl':x≤v[m]:=by have:¬ v[m]<x:=hl;omega
    refine go 4 ?_
    refine fun ac ha=>⟨k-1,[(0,.slice va v.length vc),(1,i64 x),(6,i64 v.length),(7,i64 (i:Nat)),(8,i64 (m:Nat))],ha.sub ⟨rfl,rfl,rfl,rfl,rfl,trivial⟩,⟨i,m,hg2,hax1.trans hax2,by omega,by omega,by omega,hlo,fun z hz hz2=>?_,rfl⟩,by omega⟩
    by_cases e:z=m
    ·
     subst e;exact hl'
    ·
     have:=hsp m z hml hz (by omega);omega
  ·
   refine CW.exit (fun ac ha=>⟨_,ha.sub (E':=[(0,.slice va v.length vc),(1,i64 x),(6,i64 v.length),(7,i64 (i:Nat))]) ⟨rfl,rfl,rfl,rfl,trivial⟩,i,hg1,hax1,⟨by omega,hlo,fun z hz hz2=>hhi z hz (by omega)⟩,rfl⟩)
 rintro E' w1 ⟨i,hg1,hax1,hp,rfl⟩
 have hle:=hp.le
 refine go 7 ?_
 refine RL.part 35 rfl (fun hc=>?_) (fun hc=>?_)
 ·
  have hi:i<v.length:=by have:=of_decide_eq_true hc;omega
  by_cases he:v[i]=x
  ·
   have he':(v[i]==x)=true:=by simpa using he
   refine go 2 ?_
   refine RL.idx rfl rfl rfl rfl sl25.out rfl rfl (hv) (by omega) (by omega) ?_
   rintro q vs hvl hH ⟨rfl,hr'⟩
   refine RL.load rfl rfl rfl rfl ty3.out rfl (hH) (hg1.sh) rfl ?_
   refine go 1 ?_
   refine RL.as_ rfl rfl rfl rfl (.bool true) (congrArg Value.bool he') ?_
   refine go 15 ?_
   exact CW.ret (ret (vs:=[_,_]) ⟨_,_,rfl,rfl,_,_,rfl,rfl,rfl⟩ (PostV.mk hg1 hax1 ⟨i,by rw[decide_eq_true ⟨hi,he⟩];rfl,hp⟩))
  ·
   have he':(v[i]==x)=false:=by simpa using he
   refine go 2 ?_
   refine RL.idx rfl rfl rfl rfl sl25.out rfl rfl (hv) (by omega) (by omega) ?_
   rintro q vs hvl hH ⟨rfl,hr'⟩
   refine RL.load rfl rfl rfl rfl ty3.out rfl (hH) (hg1.sh) rfl ?_
   refine go 1 ?_
   refine RL.as_ rfl rfl rfl rfl (.bool false) (congrArg Value.bool he') ?_
   refine go 3 ?_
   refine RL.idx rfl rfl rfl rfl sl25.out rfl rfl (hv) (by omega) (by omega) ?_
   rintro q2 vs2 hvl2 hH2 ⟨rfl,hr2'⟩
   refine RL.load rfl rfl rfl rfl ty3.out rfl (hH2) (hg1.sh) rfl ?_
   refine go 1 ?_
   refine zw (isNaNI_ct hg1) ?_
   rintro r2 w2 hg2 hax2 rfl
   refine go 10 ?_
   exact CW.ret (ret (vs:=[_,_]) ⟨_,_,rfl,rfl,_,_,rfl,rfl,rfl⟩ (PostV.mk hg2 (hax1.trans hax2) ⟨i,by rw[decide_eq_false (fun ⟨_,h⟩=>he h)];rfl,hp⟩))
 ·
  have hi:¬ i<v.length:=by have:=of_decide_eq_false hc;omega
  refine go 21 ?_
  exact CW.ret (ret (vs:=[_,_]) ⟨_,_,rfl,rfl,_,_,rfl,rfl,rfl⟩ (PostV.mk hg1 hax1 ⟨i,by rw[decide_eq_false (fun ⟨h,_⟩=>hi h)];rfl,hp⟩))
end Go.Lw
/-
 Quorum: what a majority has, by the program.
-/
namespace Go.Lw
open Go.Proofs
open Go.Sort (swp size_swp PermIn)
section
variable {P:Program} {n:Nat} {ops:Array Oper} {Q:Exit→Act→World→Prop} {S:World→Prop} {rest':List (Bool × Oper)} {E:Env} {w:World} {o:Oper} {q:Nat} {s:Res} {os:List Res} {x y:Operand}
theorem RL.makeRow {t:TypeId} {by_ m:Nat} (hg:wants ops E o=some true) (hd:o.dst=some q) (hb:Nat.blt q n=true) (ho:o.op = .makeSlice t x y) (ht:slc P t=some (ET,1,by_)) (hz:zer P ET=some [Value.int KK 0])
  (hx:ev E x=some (i64 (m:Nat))) (hy:ev E y=some (i64 (m:Nat))) (hm:by_*m≤281474976710656) (h63:m≤9223372036854775807) (hG:Good w s os)
  (h:∀ b A w',Good w' s (A::os)→Aux w w'→RowAt A b [] (Array.replicate m 0)→S w'∧RL P n ops Q S rest' ((q,.slice (some ⟨b,0,none⟩) m m)::E) w'):RL P n ops Q S ((false,o)::rest') E w:=by
 obtain⟨hu,inf,hi,hsz,hby⟩:=slc_spec ht
 unfold zer at hz
 cases hzz:inf.zero with
 | none=>simp[hi,hzz] at hz
 | some u =>
  simp[hi,hzz] at hz
  have hrun:=run_make (P:=P) w t ET inf u hu hi hzz .i64 .i64 (m:Int) (m:Int) (by omega) (Int.le_refl _) (by rw[hby];omega) (by omega)
  have hcells:(madeCells u.cells ((m:Int).toNat*inf.size))=((Array.replicate m (0:Int)).toList.map (Value.int KK)++[]).toArray:=by
   have hu2:u.cells = #[Value.int KK 0]:=by
    apply Array.ext'
    simpa using hz
   rw[hu2,hsz,Int.toNat_natCast,Nat.mul_one]
   apply Array.ext
   ·
    simp[madeCells]
   ·
    intro j h1 h2
    simp[madeCells]
    rw[Nat.mod_one]
    rfl
  rw[hcells] at hrun
  obtain⟨h1,h2⟩:=h w.heap.size _ _ (hG.alloc _) (Aux.alloc w _) (if_pos rfl)
  refine RL.step hg hd hb (fun ac ha=>?_) h1 h2
  unfold execOp
  simp only[ho,ha.ev hx,ha.ev hy]
  simp[hrun]
end
theorem upd_row {v:List Int} {f f':Int→Int} {i:Nat} {x m:Int} (hi:i<v.length) (hv:v[i]=x) (hs:v.Pairwise (· < ·)) (hf:∀ y,f' y=if x==y then mx (f y) m else f y) :
  ((v.map f).toArray).setIfInBounds i (mx (f x) m)=(v.map f').toArray:=by
 apply Array.ext
 ·
  simp
 ·
  intro j h1 h2
  have hj:j<v.length:=by simpa using h2
  rw[Array.getElem_setIfInBounds (by simpa using hj)]
  simp only[List.getElem_toArray,List.getElem_map]
  by_cases e:i=j
  ·
   subst e
   rw[if_pos rfl,hf,hv,if_pos (by simp)]
  ·
   rw[if_neg e,hf,if_neg]
   have hsp:=List.pairwise_iff_getElem.1 hs
   rcases Nat.lt_or_gt_of_ne e with h | h
   ·
    have:=hsp i j hi hj h;simp;omega
   ·
    have:=hsp j i hj hi h;simp;omega
theorem keep_row {v:List Int} {f f':Int→Int} {x m:Int} (hx:x∉v) (hf:∀ y,f' y=if x==y then mx (f y) m else f y):v.map f'=v.map f:=by
 apply List.map_congr_left
 intro y hy
 rw[hf,if_neg]
 simp
 intro e
 subst e
 exact hx hy
theorem row_bang {v:List Int} {f:Int→Int} {i:Nat} (hi:i<v.length):((v.map f).toArray)[i]! = f v[i]:=by
 rw[getElem!_pos _ i (by simpa using hi)];simp
abbrev CPost (w:World) (s:Res) (os:List Res) (xs:List Int) (l:List Peer):Ending→World→Prop:=Post w s os fun _ _ r=>∃ c,r = .int .u64 c∧Com ((uniq xs).map (matchP l)) c
theorem Commit_ct {w:World} {s:Res} {os:List Res} {xs:List Int} {l:List Peer} {xa la:Option Addr} {xc lc:Nat} (hg:Good w s os) (hx:Ints s xa xc xs) (hl:Peers s la lc l) (hb:xs.length*8≤140737488355328) :
  Calls Tryz.prog 145 #[.slice xa xs.length xc,.slice la l.length lc] w (CPost w s os xs l):=by
 have hul:=uniq_le xs
 have hst:=uniq_strict xs
 have hll:=hl.le_max
 simp only[maxLen] at hll
 refine enter (l:=[.slice xa xs.length xc,.slice la l.length lc]) Tryz.func145 rfl Tryz.ntmps145 rfl ?_
 refine go 8 ?_
 refine zc (once_ct hg hx hb) ?_
 rintro v2 s2 A2 w2 hle2 hg2 hax2 ⟨rfl,a2,c2,rfl,ho2⟩
 refine go 3 ?_
 obtain⟨s3,hg3,hle3,hA3⟩:=hg2.letgo
 have hv:Ints s3 a2 c2 (uniq xs):=ho2.imm (RInt.up _) hle3 hA3
 have hl3:Peers s3 la lc l:=hl.up RPeer.up hle3
 unfold CPost
 generalize uniq xs=V at *
 refine CW.seq (CW.seq (CW.plain ?_))
 refine go 4 ?_
 refine CW.eq rfl (fun h0=>?_) (fun h0=>?_)
 ·
  refine CW.seq (CW.plain ?_)
  refine go 2 ?_
  have hnil:V=[]:=List.eq_nil_of_length_eq_zero (by omega)
  exact CW.ret (ret (vs:=[_]) ⟨_,_,rfl,rfl,rfl⟩ (Post.mk hle3 hg3.nil hax2 ⟨0,rfl,.inl ⟨by rw[hnil];rfl,rfl⟩⟩))
 refine go 5 ?_
 refine RL.makeRow (m:=V.length) rfl rfl rfl rfl sl83.out ze22.out rfl rfl (by omega) (by omega) hg3 ?_
 rintro b A4 w4 hg4 hax4 hrow4
 refine go 3 ?_
 refine CW.seq (CW.seq (CW.plain ?_))
 refine go 4 ?_
 have hrow0:RowAt A4 b [] (V.map (matchP (l.take 0))).toArray:=by
  have e:(V.map (matchP (l.take 0))).toArray=Array.replicate V.length 0:=by
   apply Array.ext
   ·
    simp
   ·
    intro j h1 h2
    simp[matchP]
  rw[e];exact hrow4
 refine CW.block (CW.loop (σ:=Nat) (fun j E w'=>∃ A',Good w' s3 (A'::os)∧Aux w w'∧∃ k:Nat,RowAt A' b [] (V.map (matchP (l.take k))).toArray∧k+j=l.length∧E=[(5,.slice a2 V.length c2),(6,.slice (some ⟨b,0,none⟩) V.length V.length),(19,.slice la l.length lc),(20,i64 l.length),(21,i64 k)])
  (fun j=>j) l.length [(5,.slice a2 V.length c2),(6,.slice (some ⟨b,0,none⟩) V.length V.length),(19,.slice la l.length lc),(20,i64 l.length),(21,i64 0)] ⟨rfl,rfl,rfl,rfl,rfl,trivial⟩ ⟨A4,hg4,hax2.trans hax4,0,hrow0,by omega,rfl⟩ ?_)
 rintro j E w5 ⟨A5,hg5,hax5,k,hrow5,hk,rfl⟩
 refine go 4 ?_
 refine CW.seq (CW.test rfl (fun h=>?_) (fun h=>?_))
 ·
  refine CW.skip ?_
  have hkl:k<l.length:=by omega
  have hstep:∀ y,matchP (l.take (k+1)) y=if l[k].node==y then mx (matchP (l.take k) y) l[k].mat else matchP (l.take k) y:=fun y=>by rw[matchP_take l y k hkl];rfl
  obtain⟨j,rfl⟩:∃ m,j=m+1:=⟨j-1,by omega⟩
  refine CW.meet (fun E' w'=>∃ A',Good w' s3 (A'::os)∧Aux w w'∧RowAt A' b [] (V.map (matchP (l.take (k+1)))).toArray∧E'=[(5,.slice a2 V.length c2),(6,.slice (some ⟨b,0,none⟩) V.length V.length),(19,.slice la l.length lc),(20,i64 l.length),(21,i64 k)]) ?_ ?_
  rotate_left
  ·
   rintro E' w6 ⟨A6,hg6,hax6,hrow6,rfl⟩
   refine go 4 ?_
   exact fun ac ha=>⟨j,[(5,.slice a2 V.length c2),(6,.slice (some ⟨b,0,none⟩) V.length V.length),(19,.slice la l.length lc),(20,i64 l.length),(21,i64 ((k:Int)+1))],ha.sub ⟨rfl,rfl,rfl,rfl,rfl,trivial⟩,⟨A6,hg6,hax6,k+1,hrow6,by omega,rfl⟩,Nat.lt_succ_self j⟩
  refine CW.block (CW.seq (CW.plain ?_))
  refine RL.idx rfl rfl rfl rfl sl40.out rfl rfl (hl3) (by omega) (by omega) ?_
  rintro q vs hvl hH ⟨rfl,hr1,hr2,hr3⟩
  refine RL.loads rfl rfl rfl rfl ty136.out rfl (hH) (hg5.sh) rfl rfl ?_
  refine RL.alloc rfl rfl rfl rfl ze136.out hg5 ?_
  rintro p w6 hg6 hax6
  refine go 1 ?_
  refine RL.store (i:=0) (j:=0) rfl rfl rfl ty136.out rfl rfl hg6 rfl ((if_pos rfl)) rfl (by first | (simp[Value.cells,Value.oneCell'];done) | simp[Value.cells,Value.oneCell',putL]) (by first | exact Nat.le_of_ble_eq_true rfl | (simp;done) | (simp;omega) | omega) ?_
  rintro w7 hg7 hax7
  refine go 2 ?_
  obtain⟨B7,hg7',hB7⟩:∃ B,Good w7 s3 (B::A5::os)∧B p=some (.cells #[i64 l[k].node,.int .u64 l[k].next,.int .u64 l[k].mat] 136 (0,0)):=⟨_,hg7,put_same _ _ _⟩
  refine go 4 ?_
  refine RL.load rfl rfl rfl rfl ty3.out rfl (Holds.of hB7) (hg7'.1) rfl ?_
  refine go 1 ?_
  refine zw (BinarySearch_ct (x:=l[k].node) hg7' hv hst (by omega)) ?_
  rintro v8 w8 hg8 hax8 ⟨i,rfl,hpl⟩
  refine go 11 ?_
  refine CW.cond rfl (fun hf=>?_) (fun hf=>?_)
  ·
   obtain⟨hi,hvi⟩:=of_decide_eq_true hf
   have hrb:((V.map (matchP (l.take k))).toArray)[i]! = matchP (l.take k) l[k].node:=by rw[row_bang hi,hvi]
   have hsz:((V.map (matchP (l.take k))).toArray).size=V.length:=by simp
   refine CW.forks (.fork [(true,0),(true,1),(true,2),(true,3),(true,4),(true,6)] (.line [(false,5),(false,7),(true,8),(true,9),(false,10)]) (.line [(false,7),(false,5),(true,8),(true,9),(false,10)])) (fun _=>True) mixed (by kernel_rfl) (by kernel_rfl) (by kernel_rfl) (by kernel_rfl) trivial ?_
   refine RT.pre trivial ?_
   refine go 4 ?_
   refine RL.idxR i rfl rfl rfl rfl sl83.out rfl rfl rfl hi ?_
   refine go 2 ?_
   refine RT.both (S:=fun _=>True) trivial (RT.end_ (S:=fun _=>True) trivial ?_) (RT.end_ (S:=fun _=>True) trivial ?_)
   ·
    refine RL.loadR i rfl rfl rfl rfl ty22.out rfl hrow5 hg8.drew.drop.1 (by rw[hsz];exact hi) ?_
    refine RL.load rfl rfl rfl rfl ty22.out rfl (Holds.of hB7) (hg8.drew.1) rfl ?_
    refine RL.max rfl rfl rfl rfl rfl rfl ?_
    refine RL.idxR i rfl rfl rfl rfl sl83.out rfl rfl rfl hi ?_
    refine RL.storeR i rfl rfl rfl ty22.out rfl rfl hg8.drew.swap hrow5 (by rw[hsz];exact hi) ?_
    intro w9 A9 hg9 hax9 hrow9
    refine go 2 ?_
    exact fun ac ha=>⟨_,ha.sub (E':=[(5,.slice a2 V.length c2),(6,.slice (some ⟨b,0,none⟩) V.length V.length),(19,.slice la l.length lc),(20,i64 l.length),(21,i64 k)]) ⟨rfl,rfl,rfl,rfl,rfl,trivial⟩,A9,hg9.dropNext,hax5.trans (hax6.trans (hax7.trans (hax8.trans ((Aux.drew _).trans hax9)))),by rw[←upd_row (f:=matchP (l.take k)) hi hvi hst hstep,← hrb];exact hrow9,rfl⟩
   ·
    refine RL.load rfl rfl rfl rfl ty22.out rfl (Holds.of hB7) (hg8.drew.1) rfl ?_
    refine RL.loadR i rfl rfl rfl rfl ty22.out rfl hrow5 hg8.drew.drop.1 (by rw[hsz];exact hi) ?_
    refine RL.max rfl rfl rfl rfl rfl rfl ?_
    refine RL.idxR i rfl rfl rfl rfl sl83.out rfl rfl rfl hi ?_
    refine RL.storeR i rfl rfl rfl ty22.out rfl rfl hg8.drew.swap hrow5 (by rw[hsz];exact hi) ?_
    intro w9 A9 hg9 hax9 hrow9
    refine go 2 ?_
    exact fun ac ha=>⟨_,ha.sub (E':=[(5,.slice a2 V.length c2),(6,.slice (some ⟨b,0,none⟩) V.length V.length),(19,.slice la l.length lc),(20,i64 l.length),(21,i64 k)]) ⟨rfl,rfl,rfl,rfl,rfl,trivial⟩,A9,hg9.dropNext,hax5.trans (hax6.trans (hax7.trans (hax8.trans ((Aux.drew _).trans hax9)))),by rw[←upd_row (f:=matchP (l.take k)) hi hvi hst hstep,← hrb];exact hrow9,rfl⟩
  ·
   have hno:l[k].node∉V:=fun hm=>of_decide_eq_false hf (hpl.found hst hm)
   refine CW.skip (fun ac ha=>⟨_,ha.sub (E':=[(5,.slice a2 V.length c2),(6,.slice (some ⟨b,0,none⟩) V.length V.length),(19,.slice la l.length lc),(20,i64 l.length),(21,i64 k)]) ⟨rfl,rfl,rfl,rfl,rfl,trivial⟩,A5,hg8.drop,hax5.trans (hax6.trans (hax7.trans hax8)),?_,rfl⟩)
   rw[keep_row hno hstep];exact hrow5
 ·
  refine CW.exit ?_
  have hkl:k=l.length:=by omega
  rw[hkl,List.take_length] at hrow5
  refine go 4 ?_
  refine zc (SortK_ct (n:=V.length) hg5 hrow5 (by simp) (by omega)) ?_
  rintro v6 s6 A6 w6 hle6 hg6 hax6 ⟨rfl,rfl,d,hpd,hsd,hrow6⟩
  refine go 2 ?_
  have hsz:d.size=V.length:=by rw[hpd.1];simp
  obtain⟨hm1,hm2⟩:=most_le (n:=V.length) (by omega)
  obtain⟨K,hK⟩:∃ K:Nat,most (V.length:Int)=K:=⟨(most (V.length:Int)).toNat,by omega⟩
  rw[hK] at hm1 hm2
  refine go 8 ?_
  refine zw (Most_ct hg6 (rng_len (by omega))) ?_
  rintro v7 w7 hg7 hax7 rfl
  refine go 1 ?_
  rw[hK]
  refine go 1 ?_
  refine RL.idxR (V.length-K) rfl rfl rfl rfl sl83.out rfl rfl (by omega) (by omega) ?_
  refine RL.loadR (V.length-K) rfl rfl rfl rfl ty22.out rfl hrow6 hg7.1 (by omega) ?_
  refine go 2 ?_
  refine CW.ret (ret (vs:=[_]) ⟨_,_,rfl,rfl,rfl⟩ (Post.mk hle3 hg7 (hax5.trans (hax6.trans hax7)) ⟨_,rfl,.inr ⟨by intro e;simp at e;subst e;simp at h0,?_⟩⟩))
  have hperm:d.toList.Perm (V.map (matchP l)):=by
   have h3:=hpd.2.2
   rw[←hsz,Array.extract_size] at h3
   have e:((V.map (matchP l)).toArray.extract 0 d.size)=(V.map (matchP l)).toArray:=by
    have:d.size=((V.map (matchP l)).toArray).size:=by rw[hsz];simp
    rw[this,Array.extract_size]
   rw[e] at h3
   simpa using h3
  have:=sorted_isK (K:=K) hperm (fun i j hij hj=>by
   have:=hsd i j (Nat.zero_le _) hij (by omega)
   simp only[ltI,Go.Sort.ltInt,decide_eq_false_iff_not] at this
   omega) (by omega) (by omega)
  rw[hsz] at this
  rw[List.length_map,hK]
  exact this
end Go.Lw
namespace Go.Lw
open Go.Proofs
def Tells (P:Program) (g:Nat) (cap:Array Value) (s:Res) (p:Int→Bool):Prop :=
 ∀ (x:Int) (w:World) (s':Res) (os:List Res),Le s s'→Good w s' os→Calls P g (#[i64 x]++cap) w (PostV w s' os fun r=>r = .bool (p x))
theorem Tells.up {P:Program} {g:Nat} {cap:Array Value} {s s':Res} {p:Int→Bool} (h:Tells P g cap s p) (hl:Le s s'):Tells P g cap s' p:=fun x w s2 os h2 hg=>h x w s2 os (hl.trans h2) hg
theorem take_all {xs:List Int} {k:Nat} {q:Int→Prop} (hkl:k<xs.length) (h:∀ x∈xs.take k,q x) (hk:q xs[k]):∀ x∈xs.take (k+1),q x:=by
 intro x hx
 rw[List.take_succ_eq_append_getElem hkl] at hx
 rcases List.mem_append.1 hx with hx | hx
 ·
  exact h x hx
 ·
  obtain rfl:=List.mem_singleton.1 hx;exact hk
theorem IndexFunc_ct {w:World} {s:Res} {os:List Res} {xs:List Int} {xa:Option Addr} {xc g:Nat} {cap:Array Value} {p:Int→Bool} (hg:Good w s os) (hx:Ints s xa xc xs) (hc:callable Tryz.prog g=true) (hp:Tells Tryz.prog g cap s p) :
  Calls Tryz.prog 123 #[.slice xa xs.length xc,.func (.func g) #[] cap] w
   (PostV w s os fun r=>(r=i64 (-1)∧∀ x∈xs,p x=false)∨∃ (k:Nat) (h:k<xs.length),r=i64 k∧p xs[k]=true∧∀ x∈xs.take k,p x=false):=by
 refine enter (l:=[.slice xa xs.length xc,.func (.func g) #[] cap]) Tryz.func123 rfl Tryz.ntmps123 rfl ?_
 refine go 4 ?_
 refine CW.seq (CW.seq (CW.plain ?_))
 refine go 4 ?_
 have hlen:=hx.le_max
 simp only[maxLen] at hlen
 refine CW.block (CW.loop (σ:=Nat) (fun j E w'=>Good w' s os∧Aux w w'∧∃ k:Nat,E=[(0,.slice xa xs.length xc),(1,.func (.func g) #[] cap),(7,i64 xs.length),(8,i64 k)]∧k+j=xs.length∧∀ x∈xs.take k,p x=false)
  (fun j=>j) xs.length [(0,.slice xa xs.length xc),(1,.func (.func g) #[] cap),(7,i64 xs.length),(8,i64 0)] ⟨rfl,rfl,rfl,rfl,trivial⟩ ⟨hg,Aux.refl _,0,rfl,by omega,by simp⟩ ?_)
 rintro j E w1 ⟨hg1,hax1,k,rfl,hk,hno⟩
 refine go 4 ?_
 refine CW.seq (CW.test rfl (fun h=>?_) (fun h=>?_))
 ·
  refine CW.skip ?_
  have hkl:k<xs.length:=by omega
  refine CW.seq (CW.block (CW.seq (CW.plain ?_)))
  refine go 8 ?_
  refine RL.idx rfl rfl rfl rfl sl25.out rfl rfl (hx) (by omega) (by omega) ?_
  rintro q vs hvl hH ⟨rfl,hr'⟩
  refine RL.load rfl rfl rfl rfl ty3.out rfl (hH) (hg1.sh) rfl ?_
  refine RL.callF rfl rfl rfl rfl rfl rfl hc (hp xs[k] w1 s os (Le.refl _) hg1) ?_
  rintro e w2 ⟨v2,rfl,hg2,hax2,rfl⟩
  refine⟨_,rfl,trivial,?_⟩
  refine go 1 ?_
  refine CW.cond rfl (fun hb=>?_) (fun hb=>?_)
  ·
   refine CW.seq (CW.plain ?_)
   refine go 3 ?_
   exact CW.ret (ret (vs:=[_]) ⟨_,_,rfl,rfl,rfl⟩ (PostV.mk hg2 (hax1.trans hax2) (.inr ⟨k,hkl,rfl,hb,hno⟩)))
  ·
   refine CW.skip ?_
   refine go 4 ?_
   cases j with
   | zero=>omega
   | succ j =>
    refine fun ac ha=>⟨j,[(0,.slice xa xs.length xc),(1,.func (.func g) #[] cap),(7,i64 xs.length),(8,i64 ((k:Int)+1))],ha.sub ⟨rfl,rfl,rfl,rfl,trivial⟩,⟨hg2,hax1.trans hax2,k+1,rfl,by omega,take_all hkl hno hb⟩,Nat.lt_succ_self j⟩
 ·
  refine CW.exit (CW.seq (CW.plain ?_))
  have hkl:k=xs.length:=by omega
  refine go 2 ?_
  rw[hkl,List.take_length] at hno
  exact CW.ret (ret (vs:=[_]) ⟨_,_,rfl,rfl,rfl⟩ (PostV.mk hg1 hax1 (.inl ⟨rfl,hno⟩)))
theorem ContainsFunc_ct {w:World} {s:Res} {os:List Res} {xs:List Int} {xa:Option Addr} {xc g:Nat} {cap:Array Value} {p:Int→Bool} (hg:Good w s os) (hx:Ints s xa xc xs) (hc:callable Tryz.prog g=true) (hp:Tells Tryz.prog g cap s p) :
  Calls Tryz.prog 91 #[.slice xa xs.length xc,.func (.func g) #[] cap] w (PostV w s os fun r=>r = .bool (xs.any p)):=by
 refine enter (l:=[.slice xa xs.length xc,.func (.func g) #[] cap]) Tryz.func91 rfl Tryz.ntmps91 rfl ?_
 refine go 9 ?_
 refine zw (IndexFunc_ct hg hx hc hp) ?_
 rintro v w1 hg1 hax1 (⟨rfl,hno⟩ | ⟨k,hkl,rfl,hk,_⟩)
 ·
  refine⟨trivial,?_⟩
  refine go 3 ?_
  have:xs.any p=false:=List.any_eq_false.2 (fun x hx=>by simp[hno x hx])
  exact CW.ret (ret (vs:=[_]) ⟨_,_,rfl,rfl,rfl⟩ (PostV.mk hg1 hax1 (by rw[this];rfl)))
 ·
  refine⟨trivial,?_⟩
  refine go 3 ?_
  have:xs.any p=true:=List.any_eq_true.2 ⟨_,List.getElem_mem hkl,hk⟩
  have h0:decide ((k:Int)≥0)=true:=by simp
  exact CW.ret (ret (vs:=[_]) ⟨_,_,rfl,rfl,rfl⟩ (PostV.mk hg1 hax1 (by rw[this];exact congrArg Value.bool h0)))
theorem filter_take {xs:List Int} {p:Int→Bool} {j:Nat} (h:j<xs.length):(xs.take (j+1)).filter p=(xs.take j).filter p++if p xs[j]=true then [xs[j]] else []:=by
 rw[List.take_succ_eq_append_getElem h,List.filter_append]
 congr 1
 simp only[List.filter_cons,List.filter_nil]
theorem set_take_drop {ys zs:List Int} {v:Int} {i:Nat} (hi:i<ys.length) (h:ys.take i=zs):(ys.set i v).take (i+1)=zs++[v]:=by
 rw[List.take_succ_eq_append_getElem (by simpa using hi),List.getElem_set_self,List.take_set_of_le (Nat.le_refl _),h]
theorem DeleteFunc_ct {w:World} {s A:Res} {os:List Res} {xs:List Int} {a:Option Addr} {c g:Nat} {cap:Array Value} {p:Int→Bool} (hg:Good w s (A::os)) (ho:OwnI s A a c xs) (hc:callable Tryz.prog g=true) (hp:Tells Tryz.prog g cap s p) :
  Calls Tryz.prog 161 #[.slice a xs.length c,.func (.func g) #[] cap] w (Post w s os fun s' A' r=>s'=s∧r = .slice a (xs.filter fun x=> !p x).length c∧OwnI s' A' a c (xs.filter fun x=> !p x)):=by
 have hlen:=ho.le_max
 simp only[maxLen] at hlen
 have hlc:=ho.le_cap
 obtain⟨hl1,hl2,hl3,hl4⟩:=hg.lend
 have himm:=ho.imm (RInt.up _) hl2 hl3
 refine enter (l:=[.slice a xs.length c,.func (.func g) #[] cap]) Tryz.func161 rfl Tryz.ntmps161 rfl ?_
 refine go 9 ?_
 refine zw (IndexFunc_ct hl1 himm hc (hp.up hl2)) ?_
 rintro v w1 hg1' hax1 hv
 have hg1:=hl4 _ hg1'
 refine go 1 ?_
 clear hl1 hl2 hl3 hl4 himm hg1'
 rcases hv with ⟨rfl,hno⟩ | ⟨k,hkl,rfl,hk,hno⟩
 ·
  refine RL.pure rfl rfl rfl rfl ?_
  refine go 1 ?_
  refine CW.seq (CW.seq (CW.plain ?_))
  refine go 3 ?_
  refine CW.yes rfl (CW.seq (CW.plain ?_))
  refine go 3 ?_
  have e:(xs.filter fun x=> !p x)=xs:=List.filter_eq_self.2 (fun x hx=>by simp[hno x hx])
  exact CW.ret (ret (vs:=[_]) ⟨_,_,rfl,rfl,rfl⟩ (Post.mk (Le.refl _) hg1 hax1 (by rw[e];exact⟨rfl,rfl,ho⟩)))
 refine go 2 ?_
 refine CW.seq (CW.seq (CW.plain ?_))
 refine go 3 ?_
 refine CW.eq rfl (fun h=>by omega) (fun _=>CW.skip ?_)
 have hf0:(xs.take (k+1)).filter (fun x=> !p x)=xs.take k:=by
  rw[filter_take hkl,hk]
  simp only[Bool.not_true,Bool.false_eq_true,if_false,List.append_nil]
  exact List.filter_eq_self.2 (fun x hx=>by simp[hno x hx])
 refine CW.meet (fun E w'=>∃ A' ys,E=[(0,.slice a xs.length c),(5,i64 (xs.filter fun x=> !p x).length)]∧Good w' s (A'::os)∧Aux w w'∧OwnI s A' a c ys∧ys.length=xs.length∧ys.take (xs.filter fun x=> !p x).length=(xs.filter fun x=> !p x)∧(xs.filter fun x=> !p x).length<xs.length) ?_ ?_
 ·
  refine CW.seq (CW.plain ?_)
  refine go 4 ?_
  refine CW.block (CW.loop (σ:=Nat) (fun n E w'=>∃ A' ys,∃ i j:Nat,E=[(0,.slice a xs.length c),(1,.func (.func g) #[] cap),(5,i64 i),(6,i64 j)]∧Good w' s (A'::os)∧Aux w w'∧OwnI s A' a c ys∧ys.length=xs.length∧j+n=xs.length∧i<j ∧
    ys.take i=(xs.take j).filter (fun x=> !p x)∧ys.drop j=xs.drop j)
   (fun n=>n) (xs.length-(k+1)) [(0,.slice a xs.length c),(1,.func (.func g) #[] cap),(5,i64 k),(6,i64 ((k:Int)+1))] ⟨rfl,rfl,rfl,rfl,trivial⟩
   ⟨A,xs,k,k+1,rfl,hg1,hax1,ho,rfl,by omega,by omega,hf0.symm,rfl⟩ ?_)
  rintro n E w2 ⟨A2,ys,i,j,rfl,hg2,hax2,ho2,hyl,hn,hij,hyt,hyd⟩
  refine CW.seq (CW.seq (CW.plain ?_))
  refine go 5 ?_
  refine CW.test rfl (fun h=>?_) (fun h=>CW.exit ?_)
  ·
   refine CW.skip ?_
   have hjl:j<xs.length:=by omega
   have hyj:ys[j]'(by omega)=xs[j]:=by
    have h1:(ys.drop j)[0]?=(xs.drop j)[0]?:=by rw[hyd]
    rw[List.getElem?_drop,List.getElem?_drop,Nat.add_zero,List.getElem?_eq_getElem (by omega),List.getElem?_eq_getElem hjl] at h1
    exact Option.some.inj h1
   have hyd1:ys.drop (j+1)=xs.drop (j+1):=by rw[←List.drop_drop,← List.drop_drop,hyd]
   have hsl:some (Value.slice a xs.length c)=some (Value.slice a ys.length c):=by rw[hyl]
   refine CW.seq (CW.block (CW.seq (CW.plain ?_)))
   refine go 2 ?_
   refine RL.idxOwn rfl rfl rfl rfl sl25.out hsl rfl ho2 (by omega) (by omega) ?_
   rintro q cs vs hb hC hcs hvl hcell ⟨rfl,hr⟩
   refine RL.load rfl rfl rfl rfl ty3.out rfl (Holds.of hC) hg2.1 (hcell 0 _ rfl) ?_
   refine go 2 ?_
   have ej:ys[((j:Nat):Int).toNat]'(by omega)=xs[j]:=by simpa using hyj
   rw[ej]
   refine go 4 ?_
   refine RL.callF rfl rfl rfl rfl rfl rfl hc (hp xs[j] w2 s (A2::os) (Le.refl _) hg2) ?_
   rintro e w3 ⟨v3,rfl,hg3,hax3,rfl⟩
   refine⟨_,rfl,trivial,?_⟩
   refine go 2 ?_
   refine CW.cond rfl (fun hb=>?_) (fun hb=>?_)
   ·
    refine CW.seq (CW.plain ?_)
    refine go 3 ?_
    refine RL.idxOwn rfl rfl rfl rfl sl25.out hsl rfl ho2 (by omega) (by omega) ?_
    rintro q' cs' vs' hb' hC' hcs' hvl' hcell' _
    refine RL.store (i:=0) rfl rfl rfl ty3.out rfl rfl hg3 rfl (hC') rfl (by first | (simp[Value.cells,Value.oneCell'];done) | simp[Value.cells,Value.oneCell',putL]) (by first | exact Nat.le_of_ble_eq_true rfl | (simp;done) | (simp;omega) | omega) ?_
    rintro w4 hg4 hax4
    refine go 2 ?_
    have hset:=Own.set (x:=xs[j]) (vs:=[i64 xs[j]]) (hb'▸ho2) hC' (show i<ys.length by omega) rfl ⟨rfl,ej▸hr⟩
    refine go 10 ?_
    cases n with
    | zero=>omega
    | succ n =>
     refine fun ac ha=>⟨n,[(0,.slice a xs.length c),(1,.func (.func g) #[] cap),(5,i64 ((i+1:Nat):Int)),(6,i64 ((j+1:Nat):Int))],ha.sub ⟨rfl,rfl,rfl,rfl,trivial⟩,
      ⟨_,ys.set i xs[j],i+1,j+1,rfl,hg4,hax2.trans (hax3.trans hax4),hb'▸hset,by simp[hyl],by omega,by omega,?_,?_⟩,Nat.lt_succ_self n⟩
     ·
      rw[set_take_drop (by omega) hyt,filter_take hjl,if_pos hb]
     ·
      rw[List.drop_set_of_lt (by omega),hyd1]
   ·
    refine CW.skip ?_
    refine go 5 ?_
    cases n with
    | zero=>omega
    | succ n =>
     refine fun ac ha=>⟨n,[(0,.slice a xs.length c),(1,.func (.func g) #[] cap),(5,i64 (i:Int)),(6,i64 ((j+1:Nat):Int))],ha.sub ⟨rfl,rfl,rfl,rfl,trivial⟩,
      ⟨A2,ys,i,j+1,rfl,hg3,hax2.trans hax3,ho2,hyl,by omega,by omega,?_,hyd1⟩,Nat.lt_succ_self n⟩
     rw[filter_take hjl,if_neg (by rw[hb];decide),List.append_nil,hyt]
  ·
   have hjl:j=xs.length:=by omega
   subst hjl
   rw[List.take_length] at hyt
   have hil:(xs.filter fun x=> !p x).length=i:=by rw[←hyt,List.length_take];omega
   refine fun ac ha=>⟨[(0,.slice a xs.length c),(5,i64 (xs.filter fun x=> !p x).length)],ha.sub ⟨rfl,by rw[hil];rfl,trivial⟩,A2,ys,rfl,hg2,hax2,ho2,hyl,by rw[hil,hyt],by omega⟩
 rintro E w5 ⟨A5,ys,rfl,hg5,hax5,ho5,hyl,hyt,hlt⟩
 generalize (xs.filter fun x=> !p x)=zs at hyt hlt ⊢
 rcases ho5 with ⟨_,_,rfl⟩ | ⟨q,cs,rfl,hA5,hl5,hc5,hcs5,hch5⟩
 ·
  simp at hyl;omega
 have hfit:0+zs.length*1+(xs.length-zs.length)*[i64 0].length≤cs.size:=by
  rw[hcs5];simp only[List.length_cons,List.length_nil];omega
 refine go 4 ?_
 refine RL.cutLo zs.length rfl rfl rfl rfl sl25.out rfl rfl rfl (by omega) (by omega) (by omega) ?_
 refine RL.clear (i:=0) rfl rfl rfl sl25.out ze3.out rfl hg5 rfl hA5 hfit (by simp[Value.oneCell']) ?_
 rintro w6 hg6 hax6
 refine go 6 ?_
 refine RL.cutHi zs.length rfl rfl rfl rfl sl25.out rfl rfl rfl (by omega) ?_
 refine go 2 ?_
 have hown:OwnI s A5 (some ⟨q,0,none⟩) c zs:=by
  have e:zs++ys.drop zs.length=ys:=by
   have:=List.take_append_drop zs.length ys
   rw[hyt] at this
   exact this
  have h1:OwnI s A5 (some ⟨q,0,none⟩) c (zs++ys.drop zs.length):=by
   rw[e]
   exact .inr ⟨q,cs,rfl,hA5,hl5,hc5,hcs5,hch5⟩
  exact h1.front
 have hzl:(Builtin.zeroCells #[i64 0] (xs.length-zs.length)).toList.length=xs.length-zs.length:=by simp[size_zeroCells]
 simp only[List.length_cons,List.length_nil] at hfit
 have htail:=hown.tail hA5 (ds:=spl cs (0+zs.length*1) (Builtin.zeroCells #[i64 0] (xs.length-zs.length)).toList) (spl_size (by rw[hzl];omega)) (by
  simp only[Nat.zero_add,Nat.mul_one] at hfit ⊢
  rw[List.append_assoc,List.take_left' (by rw[List.length_take];have:cs.toList.length=cs.size:=Array.length_toList;omega)])
 exact CW.ret (ret (vs:=[_]) ⟨_,_,rfl,rfl,rfl⟩ (Post.mk (Le.refl _) hg6 (hax5.trans hax6) ⟨rfl,rfl,htail⟩))
end Go.Lw
namespace Go.Lw
section
variable {P:Program} {n:Nat} {ops:Array Oper} {Q:Exit→Act→World→Prop} {S:World→Prop} {rest:List (Bool × Oper)} {E:Env} {w w':World} {o:Oper} {d:Nat} {v:Value}
variable {s A:Res} {os:List Res} {x y:Operand} {T:Bool}
theorem call_func_run {f:FuncId} {args:Array Operand} {ats:Array TypeId} {l:List Value} {nx:Result Next} (ho:o.op = .call { callee:= .value (.func f),args:=args,argTypes:=ats }) (hl:evs E args.toList=some l)
  (h:(callFunc f l.toArray).run P w=nx) (ac:Act) (ha:At n E ac):(execOp ac.eval o).run P w=nx:=by
 have hargs:(args.map ac.eval)=l.toArray:=by
  rw[←Array.toArray_toList (xs:=args),List.map_toArray,ha.evs hl]
 have hev:ac.eval (.func f) = .func (.func f) #[] #[]:=rfl
 unfold execOp
 simp only[ho]
 simp only[resolve,hargs,hev,Deferred.ofValue,invoke,Sem.run_bind,Sem.run_pure,Result.andThen_ok,Array.append_empty,Array.empty_append,h]
theorem RL.ext {f:FuncId} {args:Array Operand} {ats:Array TypeId} {l:List Value} (hg:wants ops E o=some true) (hd:o.dst=some d) (hb:Nat.blt d n=true)
  (ho:o.op = .call { callee:= .value (.func f),args:=args,argTypes:=ats }) (hl:evs E args.toList=some l) (hc:(callFunc f l.toArray).run P w = .ok (.value v) w')
  (h:S w'∧RL P n ops Q S rest ((d,v)::E) w'):RL P n ops Q S ((false,o)::rest) E w :=
 RL.step hg hd hb (fun ac ha=>call_func_run ho hl hc ac ha) h.1 h.2
end
end Go.Lw
namespace Go.Lw
open Go.Proofs
theorem Grow_ct {w:World} {s:Res} {os:List Res} {k:Nat} (hg:Good w s os) (hk:k*8≤140737488355328) :
  Calls Tryz.prog 124 #[.slice none 0 0,i64 (k:Nat)] w (Post w s os fun s' A v=>s'=s∧∃ a c,v = .slice a 0 c∧OwnI s' A a c []):=by
 refine enter (l:=[.slice none 0 0,i64 (k:Nat)]) Tryz.func124 rfl Tryz.ntmps124 rfl ?_
 refine go 4 ?_
 refine CW.seq (CW.seq (CW.plain ?_))
 refine go 3 ?_
 refine CW.test rfl (fun h=>by omega) (fun _=>CW.skip ?_)
 have hz:IntKind.i64.wrap 0=0:=by decide
 refine CW.meet (fun E w'=>∃ A a c,E=[(0,.slice a 0 c)]∧Good w' s (A::os)∧Aux w w'∧OwnI s A a c []) ?_ ?_
 ·
  refine CW.seq (CW.plain ?_)
  refine go 2 ?_
  refine RL.cap rfl rfl rfl rfl sl25.out rfl ?_
  refine go 2 ?_
  refine RL.sub rfl rfl rfl rfl rfl rfl (by simp[rng]) ?_
  refine go 8 ?_
  refine CW.test rfl (fun h=>?_) (fun h=>?_)
  ·
   have hk0:0<k:=by omega
   refine go 1 ?_
   have e:((k:Nat):Int)-(((0:Nat):Int)-((0:Nat):Int))=((k:Nat):Int):=by omega
   rw[e]
   refine go 2 ?_
   refine RL.cap rfl rfl rfl rfl sl25.out rfl ?_
   refine RL.cutHi 0 rfl rfl rfl rfl sl25.out rfl rfl rfl (Nat.le_refl _) ?_
   refine go 1 ?_
   refine RL.appendZ (k:=0) (m:=k) (olds:=[]) rfl rfl rfl rfl sl25.out ze3.out Tryz.underlying3 (by decide) rfl rfl (fun w' _=>by simp[Builtin.firstCells]) (by omega) hk0 (by omega) (by decide) hg ?_
   rintro g w1 c' hc1 hc2 hg1 hax1
   refine go 3 ?_
   refine RL.cutHi 0 rfl rfl rfl rfl sl25.out rfl rfl rfl (Nat.zero_le _) ?_
   refine go 2 ?_
   refine fun ac ha=>⟨[(0,.slice (some ⟨g,0,none⟩) 0 c')],ha.sub ⟨rfl,trivial⟩,_,_,_,rfl,hg1,hax1,.inr ⟨g,_,rfl,if_pos rfl,Nat.zero_le _,hc2,?_,by simp[Chunks]⟩⟩
   simp only[Array.size_append,size_zeroCells,List.size_toArray,List.length_nil,List.length_cons]
   omega
  ·
   refine CW.skip ?_
   exact fun ac ha=>⟨[(0,.slice none 0 0)],ha.sub ⟨rfl,trivial⟩,Res.nil,none,0,rfl,hg.nil,Aux.refl _,.inl ⟨rfl,rfl,rfl⟩⟩
 rintro E w2 ⟨A,a,c,rfl,hg2,hax2,hown⟩
 refine go 5 ?_
 exact CW.ret (ret (vs:=[_]) ⟨_,_,rfl,rfl,rfl⟩ (Post.mk (Le.refl _) hg2 hax2 ⟨rfl,a,c,rfl,hown⟩))
abbrev RInts:Res→List Value→List Int→Prop:=RSl (RInt .i64) 1
theorem flat_take {L:List (List Int)} {k:Nat} (hk:k<L.length):(L.take (k+1)).flatten=(L.take k).flatten++L[k]:=by
 rw[List.take_succ_eq_append_getElem hk,List.flatten_append];simp
theorem flat_le {L:List (List Int)} (k:Nat):(L.take k).flatten.length≤L.flatten.length:=by
 conv=>rhs;rw[←List.take_append_drop k L,List.flatten_append,List.length_append]
 omega
theorem Concat_ct {w:World} {s:Res} {os:List Res} {L:List (List Int)} {la:Option Addr} {lc:Nat} (hg:Good w s os) (hL:Imm RInts 1 s la lc L) (hb:L.flatten.length*8≤140737488355328) :
  Calls Tryz.prog 92 #[.slice la L.length lc] w (Post w s os fun s' A v=>s'=s∧∃ a c,v = .slice a L.flatten.length c∧OwnI s' A a c L.flatten):=by
 have hlen:=hL.le_max
 simp only[maxLen] at hlen
 refine enter (l:=[.slice la L.length lc]) Tryz.func92 rfl Tryz.ntmps92 rfl ?_
 refine go 8 ?_
 refine CW.meet (fun E w'=>w'=w∧E=[(0,.slice la L.length lc),(3,i64 L.flatten.length)]) ?_ ?_
 ·
  refine CW.seq (CW.plain ?_)
  refine go 4 ?_
  refine CW.block (CW.loop (σ:=Nat) (fun j E w'=>w'=w∧∃ k:Nat,E=[(0,.slice la L.length lc),(3,i64 (L.take k).flatten.length),(9,.slice la L.length lc),(10,i64 L.length),(11,i64 k)]∧k+j=L.length)
   (fun j=>j) L.length [(0,.slice la L.length lc),(3,i64 (L.take 0).flatten.length),(9,.slice la L.length lc),(10,i64 L.length),(11,i64 0)] ⟨rfl,rfl,rfl,rfl,rfl,trivial⟩ ⟨rfl,0,rfl,by omega⟩ ?_)
  rintro j E w' ⟨rfl,k,rfl,hk⟩
  have hf:=flat_le (L:=L) k
  have hf1:=flat_le (L:=L) (k+1)
  refine go 4 ?_
  refine CW.seq (CW.test rfl (fun h=>CW.skip ?_) (fun h=>CW.exit ?_))
  ·
   have hkl:k<L.length:=by omega
   have hft:=flat_take hkl
   rw[hft,List.length_append] at hf1
   refine CW.seq (CW.block (CW.seq (CW.plain ?_)))
   refine RL.idx rfl rfl rfl rfl sl168.out rfl rfl (hL) (by omega) ((by omega)) ?_
   rintro q vs hvl hH ⟨xa,xc,rfl,hxi⟩
   refine RL.load rfl rfl rfl rfl ty25.out rfl (hH) (hg.sh) rfl ?_
   refine go 2 ?_
   have ek:L[((k:Nat):Int).toNat]'(by omega)=L[k]:=by simp
   rw[ek]
   refine go 13 ?_
   refine CW.test rfl (fun h=>by omega) (fun _=>CW.skip ?_)
   refine go 4 ?_
   cases j with
   | zero=>omega
   | succ j =>
    refine fun ac ha=>⟨j,[(0,.slice la L.length lc),(3,i64 (L.take (k+1)).flatten.length),(9,.slice la L.length lc),(10,i64 L.length),(11,i64 ((k:Int)+1))],ha.sub ⟨rfl,?_,rfl,rfl,rfl,trivial⟩,⟨rfl,k+1,rfl,by omega⟩,Nat.lt_succ_self j⟩
    rw[hft,List.length_append,Int.natCast_add]
    rfl
  ·
   have hkl:k=L.length:=by omega
   subst hkl
   exact fun ac ha=>⟨[(0,.slice la L.length lc),(3,i64 L.flatten.length)],ha.sub ⟨rfl,by rw[List.take_length];rfl,trivial⟩,rfl,rfl⟩
 rintro E w1 ⟨rfl,rfl⟩
 refine go 4 ?_
 refine zc (Grow_ct hg hb) ?_
 rintro v2 s2 A2 w2 hle2 hg2 hax2 ⟨rfl,a2,c2,rfl,ho2⟩
 refine go 3 ?_
 refine CW.meet (fun E w'=>∃ A a c,E=[(6,.slice a L.flatten.length c)]∧Good w' s2 (A::os)∧Aux w1 w'∧OwnI s2 A a c L.flatten) ?_ ?_
 ·
  refine CW.seq (CW.plain ?_)
  refine go 4 ?_
  refine CW.block (CW.loop (σ:=Nat) (fun j E w'=>∃ A a c,∃ k:Nat,E=[(6,.slice a (L.take k).flatten.length c),(25,.slice la L.length lc),(26,i64 L.length),(27,i64 k)]∧Good w' s2 (A::os)∧Aux w1 w'∧OwnI s2 A a c (L.take k).flatten∧k+j=L.length)
   (fun j=>j) L.length [(6,.slice a2 (L.take 0).flatten.length c2),(25,.slice la L.length lc),(26,i64 L.length),(27,i64 0)] ⟨rfl,rfl,rfl,rfl,trivial⟩ ⟨A2,a2,c2,0,rfl,hg2,hax2,ho2,by omega⟩ ?_)
  rintro j E w3 ⟨A3,a3,c3,k,rfl,hg3,hax3,ho3,hk⟩
  have hf1:=flat_le (L:=L) (k+1)
  refine go 4 ?_
  refine CW.seq (CW.test rfl (fun h=>CW.skip ?_) (fun h=>CW.exit ?_))
  ·
   have hkl:k<L.length:=by omega
   have hft:=flat_take hkl
   rw[hft,List.length_append] at hf1
   refine CW.seq (CW.block (CW.seq (CW.plain ?_)))
   refine RL.idx rfl rfl rfl rfl sl168.out rfl rfl (hL) (by omega) ((by omega)) ?_
   rintro q vs hvl hH ⟨xa,xc,rfl,hxi⟩
   refine RL.load rfl rfl rfl rfl ty25.out rfl (hH) (hg3.sh) rfl ?_
   refine go 2 ?_
   have ek:L[((k:Nat):Int).toNat]'(by omega)=L[k]:=by simp
   rw[ek] at hxi ⊢
   refine go 3 ?_
   obtain⟨news,hsrc,hch⟩:=Src.row (c:=xc) sl25.out hxi.2.2 hg3.sh
   refine RL.append (i:=0) (ys:=L[k]) rfl rfl rfl rfl sl25.out ze3.out rfl (by first | exact RInt.one _ | exact RStr.one | exact RBool.one | assumption) rfl rfl hg3 rfl ho3 (hsrc) (hch) ((by omega)) (by omega) ?_
   rintro a4 c4 A4 w4 hg4 hown4 hax4 hkeep4
   refine go 7 ?_
   cases j with
   | zero=>omega
   | succ j =>
    refine fun ac ha=>⟨j,[(6,.slice a4 (L.take (k+1)).flatten.length c4),(25,.slice la L.length lc),(26,i64 L.length),(27,i64 ((k:Int)+1))],ha.sub ⟨by rw[hft];rfl,rfl,rfl,rfl,trivial⟩,⟨A4,a4,c4,k+1,rfl,hg4,hax3.trans hax4,by rw[hft];exact hown4,by omega⟩,Nat.lt_succ_self j⟩
  ·
   have hkl:k=L.length:=by omega
   subst hkl
   rw[List.take_length] at ho3
   exact fun ac ha=>⟨[(6,.slice a3 L.flatten.length c3)],ha.sub ⟨by rw[List.take_length];rfl,trivial⟩,A3,a3,c3,rfl,hg3,hax3,ho3⟩
 rintro E w5 ⟨A5,a5,c5,rfl,hg5,hax5,ho5⟩
 refine go 5 ?_
 exact CW.ret (ret (vs:=[_]) ⟨_,_,rfl,rfl,rfl⟩ (Post.mk (Le.refl _) hg5 hax5 ⟨rfl,a5,c5,rfl,ho5⟩))
theorem two_rows {s P:Res} {b:Nat} {xs ys:List Int} {xa ya:Option Addr} {xc yc:Nat} {el:TypeId} (hx:Ints s xa xc xs) (hy:Ints s ya yc ys) (hP:P b=some (.cells #[.slice xa xs.length xc,.slice ya ys.length yc] el (0,0))) (hle:Le P s) :
  Imm RInts 1 s (some ⟨b,0,none⟩) 2 [xs,ys] :=
 ⟨by simp,by decide,.inr ⟨_,rfl,_,(Holds.of hP).le hle,[.slice xa xs.length xc],[.slice ya ys.length yc],rfl,rfl,⟨xa,xc,rfl,hx⟩,[.slice ya ys.length yc],[],rfl,rfl,⟨ya,yc,rfl,hy⟩,rfl⟩⟩
theorem Concat2_ct {w:World} {s P:Res} {os:List Res} {b:Nat} {xs ys:List Int} {xa ya:Option Addr} {xc yc:Nat} {el:TypeId} (hg:Good w s os) (hx:Ints s xa xc xs) (hy:Ints s ya yc ys) (hP:P b=some (.cells #[.slice xa xs.length xc,.slice ya ys.length yc] el (0,0))) (hle:Le P s)
  (hb:(xs.length+ys.length)*8≤140737488355328) :
  Calls Tryz.prog 92 #[.slice (some ⟨b,0,none⟩) 2 2] w (Post w s os fun s' A v=>s'=s∧∃ a c,v = .slice a (xs++ys).length c∧OwnI s' A a c (xs++ys)):=by
 have hfl:[xs,ys].flatten=xs++ys:=by simp
 have h:=Concat_ct (L:=[xs,ys]) hg (two_rows hx hy hP hle) (by rw[hfl,List.length_append];exact hb)
 rw[hfl] at h
 exact h
theorem sorted_of_steps {xs:List Int} (h:∀ j,(hj:j+1<xs.length)→xs[j]≤xs[j+1]):xs.Pairwise (· ≤ ·):=by
 rw[List.pairwise_iff_getElem]
 intro i j hi hj hij
 obtain⟨d,rfl⟩:∃ d,j=i+1+d:=⟨j-(i+1),by omega⟩
 induction d with
 | zero=>exact h i (by omega)
 | succ d ih =>
  have h1:=ih (by omega) (by omega)
  have h2:=h (i+1+d) (by omega)
  exact Int.le_trans h1 h2
theorem IsSorted_ct {w:World} {s:Res} {os:List Res} {xs:List Int} {xa:Option Addr} {xc:Nat} (hg:Good w s os) (hx:Ints s xa xc xs) :
  Calls Tryz.prog 125 #[.slice xa xs.length xc] w (PostV w s os fun r=>r = .bool (decide (xs.Pairwise (· ≤ ·)))):=by
 have hlen:=hx.le_max
 simp only[maxLen] at hlen
 have hrg:=hx.rng
 simp only[rng] at hrg
 refine enter (l:=[.slice xa xs.length xc]) Tryz.func125 rfl Tryz.ntmps125 rfl ?_
 refine go 4 ?_
 refine CW.seq (CW.seq (CW.plain ?_))
 refine go 5 ?_
 refine CW.block (CW.loop (σ:=Nat) (fun j E w'=>Good w' s os∧Aux w w'∧∃ i:Int,E=[(0,.slice xa xs.length xc),(3,i64 i)]∧i<xs.length∧i.toNat≤j ∧ -1≤i∧∀ k,(hk:k+1<xs.length)→i≤k→xs[k]≤xs[k+1])
  (fun j=>j) xs.length [(0,.slice xa xs.length xc),(3,i64 ((xs.length:Int)-1))] ⟨rfl,rfl,trivial⟩ ⟨hg,Aux.refl _,_,rfl,by omega,by omega,by omega,fun k hk h=>by omega⟩ ?_)
 rintro j E w1 ⟨hg1,hax1,i,rfl,hi,hj,hi1,hall⟩
 refine CW.seq (CW.seq (CW.plain ?_))
 refine go 3 ?_
 refine CW.test rfl (fun h=>CW.skip ?_) (fun h=>CW.exit ?_)
 ·
  refine CW.seq (CW.block (CW.seq ?_))
  obtain⟨k,rfl⟩:∃ k:Nat,i=((k+1:Nat):Int):=⟨(i-1).toNat,by omega⟩
  have hk:k+1<xs.length:=by omega
  have hgD:=hg1.drew
  refine CW.draws [(true,0),(true,1),(true,2),(true,3),(true,4),(true,5),(true,6),(true,7),(true,8),(false,9)] (fun w=>Good w s os) mixed (by kernel_rfl) (by kernel_rfl) (by kernel_rfl) (by kernel_rfl) (hgD) ?_
  refine go 2 ?_
  refine RL.idx rfl rfl rfl rfl sl25.out rfl rfl (hx) (by omega) ((by omega)) ?_
  rintro q vs hvl hH ⟨rfl,hr⟩
  refine RL.loadT rfl rfl rfl rfl ty3.out rfl (hH) (fun w h=>h.sh) rfl ?_
  refine go 3 ?_
  refine RL.idx rfl rfl rfl rfl sl25.out rfl rfl (hx) (by omega) ((by omega)) ?_
  rintro q2 vs2 hvl2 hH2 ⟨rfl,hr2⟩
  refine RL.loadT rfl rfl rfl rfl ty3.out rfl (hH2) (fun w h=>h.sh) rfl ?_
  refine go 1 ?_
  refine zw (LessI_ct hgD) ?_
  rintro v2 w2 hg2 hax2 rfl
  refine⟨hg2,?_⟩
  have e1:xs[((k+1:Nat):Int).toNat]'(by omega)=xs[k+1]:=by simp
  have e2:xs[(((k+1:Nat):Int)-1).toNat]'(by omega)=xs[k]:=by
   congr 1;omega
  rw[e1,e2]
  refine go 1 ?_
  refine CW.test rfl (fun hc=>?_) (fun hc=>?_)
  ·
   refine CW.seq (CW.plain ?_)
   refine go 2 ?_
   have hno:¬ xs.Pairwise (· ≤ ·):=fun hp=>by
    have:=List.pairwise_iff_getElem.1 hp k (k+1) (by omega) hk (by omega)
    omega
   exact CW.ret (ret (vs:=[_]) ⟨_,_,rfl,rfl,rfl⟩ (PostV.mk hg2 (hax1.trans ((Aux.drew _).trans hax2)) (by rw[decide_eq_false hno];rfl)))
  ·
   refine CW.skip (CW.plain ?_)
   refine go 4 ?_
   cases j with
   | zero=>omega
   | succ j =>
    refine fun ac ha=>⟨j,[(0,.slice xa xs.length xc),(3,i64 (((k+1:Nat):Int)-1))],ha.sub ⟨rfl,rfl,trivial⟩,⟨hg2,hax1.trans ((Aux.drew _).trans hax2),_,rfl,by omega,by omega,by omega,fun m hm hle=>?_⟩,Nat.lt_succ_self j⟩
    by_cases hmk:m=k
    ·
     subst hmk;omega
    ·
     exact hall m hm (by omega)
 ·
  refine CW.seq (CW.plain ?_)
  refine go 2 ?_
  have hyes:xs.Pairwise (· ≤ ·):=sorted_of_steps (fun k hk=>hall k hk (by omega))
  exact CW.ret (ret (vs:=[_]) ⟨_,_,rfl,rfl,rfl⟩ (PostV.mk hg1 hax1 (by rw[decide_eq_true hyes];rfl)))
end Go.Lw
namespace Go.Lw
open Go.Proofs
theorem overlaps_no {w:World} {s A V:Res} {os:List Res} {g vb l m1 c1 m2 c2:Nat} {cs vs:Array Value} {el el2:TypeId} (hg:Good w s (A::os)) (hA:A g=some (.cells cs el (0,0))) (hV:V∈os) (hv:V vb=some (.cells vs el2 (0,0))) (hcs:cs.size≠0) :
  (callFunc 175 #[.slice (some ⟨vb,0,none⟩) m1 c1,.slice (some ⟨g,l,none⟩) m2 c2]).run Tryz.prog w = .ok (.value (.bool false)) w:=by
 have hne:vb≠g:=fun e=>by
  have h1:=hg.2.2.1 V hV g (by rw[hA];simp)
  rw[e,h1] at hv;cases hv
 have hwg:=hg.1 g _ hA
 have hwv:=hg.drop.mem hV vb _ hv
 rw[run_callFunc_extern Tryz.func175 (by kernel_rfl) (by kernel_rfl) (by kernel_rfl) (e:=Extern.SlicesOverlaps.overlaps #[25,25] #[4]) (by kernel_rfl),
  Lib.run_overlaps_apart w 25 4 3 Tryz.underlying25 1 Tryz.sizeOf3 ⟨vb,0,none⟩ ⟨g,l,none⟩ m1 c1 m2 c2 hne el2 el vs.size cs.size (by simp[World.shape?,hwv]) (by simp[World.shape?,hwg]) hcs (by simp[World.frozen?,hwv]) (by simp[World.frozen?,hwv])]
 rfl
theorem row_split {cs:Array Value} {xs:List Int} {i:Nat} (h:cs.toList.take xs.length=xs.map (Value.int .i64)) (hi:i≤xs.length):cs.toList.take i=(xs.take i).map (Value.int .i64):=by
 have:=congrArg (List.take i) h
 rwa[List.take_take,Nat.min_eq_left hi,← List.map_take] at this
theorem row_rest {cs:Array Value} {xs:List Int} {i:Nat} (h:cs.toList.take xs.length=xs.map (Value.int .i64)):(cs.toList.take xs.length).drop i=(xs.drop i).map (Value.int .i64):=by
 rw[h,← List.map_drop]
theorem Insert_ct {w:World} {s A V:Res} {os:List Res} {xs:List Int} {a:Option Addr} {c i vb:Nat} {v:Int} (hg:Good w s (A::os)) (ho:OwnI s A a c xs) (hV:V∈os) (hv:V vb=some (.cells #[i64 v] 3 (0,0))) (hi:i≤xs.length) (hb:(xs.length+1)*8≤140737488355328) (hvr:rng .i64 v) :
  Calls Tryz.prog 160 #[.slice a xs.length c,i64 (i:Nat),.slice (some ⟨vb,0,none⟩) 1 1] w
   (Post w s os fun s' A' r=>s'=s∧∃ a' c',r = .slice a' (xs.take i++v::xs.drop i).length c'∧OwnI s' A' a' c' (xs.take i++v::xs.drop i)):=by
 have hlc:=ho.le_cap
 have hcm:=ho.le_max
 have hxr:∀ x∈xs,rng .i64 x:=by
  rcases ho with ⟨_,_,rfl⟩ | ⟨g,cs,_,_,_,_,_,hch⟩
  ·
   simp
  ·
   exact (int_chunks hch).2
 have hnr:∀ x∈xs.take i++v::xs.drop i,rng .i64 x:=fun x hx=>by
  rcases List.mem_append.1 hx with hx | hx
  ·
   exact hxr x (List.mem_of_mem_take hx)
  ·
   rcases List.mem_cons.1 hx with rfl | hx
   ·
    exact hvr
   ·
    exact hxr x (List.mem_of_mem_drop hx)
 have hlen:(xs.take i++v::xs.drop i).length=xs.length+1:=by simp only[List.length_append,List.length_cons,List.length_take,List.length_drop];omega
 have hVH:Holds V ⟨vb,0,none⟩ [i64 v]:=Holds.of hv
 have c0:∀ w',(Builtin.lenOf (.slice (some ⟨vb,0,none⟩) 1 1)).run Tryz.prog w' = .ok 1 w':=fun w'=>by simp[Builtin.lenOf]
 refine enter (l:=[.slice a xs.length c,i64 (i:Nat),.slice (some ⟨vb,0,none⟩) 1 1]) Tryz.func160 rfl Tryz.ntmps160 rfl ?_
 refine go 8 ?_
 refine RL.cut i xs.length rfl rfl rfl rfl sl25.out rfl (.inr ⟨_,_,rfl,rfl⟩) (.inl ⟨rfl,rfl⟩) hi hlc ?_
 refine go 7 ?_
 refine CW.seq (CW.seq (CW.plain ?_))
 refine go 3 ?_
 refine CW.no rfl (CW.skip ?_)
 refine go 6 ?_
 refine CW.seq (CW.seq (CW.plain ?_))
 refine go 4 ?_
 refine CW.eq rfl (fun he=>?_) (fun he=>?_)
 ·
  have hie:i=xs.length:=by omega
  subst hie
  refine go 4 ?_
  refine RL.append (i:=0) (ys:=[v]) rfl rfl rfl rfl sl25.out ze3.out rfl (by first | exact RInt.one _ | exact RStr.one | exact RBool.one | assumption) rfl rfl hg rfl ho ((Src.slice sl25.out rfl (.inr ⟨_,rfl,hVH⟩) (hg.drop.mem hV))) ((ints_chunks (k:= .i64) (xs:=[v]) (by simpa using hvr))) ((by simpa using hb)) (by omega) ?_
  rintro a1 c1 A1 w1 hg1 hown1 hax1 hk1
  refine go 3 ?_
  have e:xs.take xs.length++v::xs.drop xs.length=xs++[v]:=by simp
  rw[e]
  exact CW.ret (ret (vs:=[_]) ⟨_,_,rfl,rfl,rfl⟩ (Post.mk (Le.refl _) hg1 hax1 ⟨rfl,a1,c1,rfl,hown1⟩))
 have hlt:i<xs.length:=by omega
 refine go 1 ?_
 rcases ho with ⟨_,_,rfl⟩ | ⟨g,cs,rfl,hA,hl,hc,hcs,hch⟩
 ·
  simp at hlt
 obtain⟨hcx,_⟩:=int_chunks hch
 simp only[Nat.mul_one] at hcx hcs
 have hcn:cs.toList.length=cs.size:=Array.length_toList
 have hrest:=row_rest (i:=i) hcx
 have hdl:(xs.drop i).length=xs.length-i:=List.length_drop
 have holdH:Holds A ⟨g,i,none⟩ ((xs.drop i).map (Value.int .i64)):=⟨cs,3,(0,0),hA,rfl,fun j u hu=>by
  rw[←hrest,List.getElem?_drop,List.getElem?_take] at hu
  split at hu
  ·
   simpa using hu
  ·
   cases hu⟩
 have hone:∀ ys:List Int,∀ z∈ys.map (Value.int .i64),z.oneCell'=true:=fun ys z hz=>by
  obtain⟨y,_,rfl⟩:=List.mem_map.1 hz;rfl
 refine CW.seq (CW.seq (CW.plain ?_))
 refine go 4 ?_
 refine RL.cap rfl rfl rfl rfl sl25.out rfl ?_
 refine go 2 ?_
 refine CW.test rfl (fun hroom=>?_) (fun hroom=>?_)
 ·
  -- no room: a new row
  have hroom:c<xs.length+1:=by omega
  refine go 2 ?_
  have e39:((xs.length:Nat):Int)+((1:Nat):Int)-((i:Nat):Int)=((xs.length+1-i:Nat):Int):=by omega
  have hik:i+(xs.length+1-i)=xs.length+1:=by omega
  refine go 2 ?_
  refine RL.cutHi i rfl rfl rfl rfl sl25.out rfl rfl rfl (by omega) ?_
  refine go 5 ?_
  rw[e39]
  refine RL.appendZ (k:=i) (m:=xs.length+1-i) (olds:=(xs.take i).map (Value.int .i64)) rfl rfl rfl rfl sl25.out ze3.out Tryz.underlying3 (by decide) rfl rfl (fun w' hw'=>?_) (by omega) (by omega) (by rw[hik];exact hb) (by decide) hg ?_
  ·
   refine run_first (r:=A) ⟨cs,3,(0,0),hA,rfl,fun j u hu=>?_⟩ (fun b x hx=>by rw[hw'];exact hg.1 b x hx) (by rw[List.length_map,List.length_take];omega)
   rw[←row_split hcx hi,List.getElem?_take] at hu
   split at hu
   ·
    simpa using hu
   ·
    cases hu
  rintro g2 w2 c2 hc1 hc2 hg2 hax2
  rw[hik]
  refine go 3 ?_
  obtain⟨N,hN⟩:∃ N,N=((xs.take i).map (Value.int .i64)).toArray++Builtin.zeroCells #[i64 0] (xs.length+1-i)++Builtin.zeroCells #[i64 0] (c2-(i+(xs.length+1-i))):=⟨_,rfl⟩
  have hNs:N.size=c2:=by rw[hN];simp only[Array.size_append,List.size_toArray,List.length_map,List.length_take,size_zeroCells,List.length_cons,List.length_nil];omega
  have hNt:N.toList.take i=(xs.take i).map (Value.int .i64):=by
   rw[hN];simp only[Array.toList_append,List.append_assoc]
   exact List.take_left' (by rw[List.length_map,List.length_take];omega)
  have hNN:(Builtin.zeroCells [i64 0].toArray=Builtin.zeroCells #[i64 0]):=rfl
  rw[show (((xs.take i).map (Value.int .i64)).toArray++Builtin.zeroCells [Value.int .i64 0].toArray (xs.length+1-i)++Builtin.zeroCells [Value.int .i64 0].toArray (c2-(i+(xs.length+1-i))))=N from hN.symm] at hg2
  have hln:N.toList.length=N.size:=Array.length_toList
  refine go 4 ?_
  refine RL.cutLo i rfl rfl rfl rfl sl25.out rfl rfl rfl (by omega) (by omega) (by omega) ?_
  refine go 1 ?_
  refine RL.copy 1 (i:=0) (m:=1) (news:=[i64 v]) rfl rfl rfl rfl sl25.out rfl rfl c0 (Nat.min_eq_left (by omega)) ?_ hg2 rfl (if_pos rfl) (by rw[hNs];simp only[List.length_cons,List.length_nil];omega) (by simp[Value.oneCell']) ?_
  ·
   exact run_first hVH (hg2.drop.drop.mem hV) rfl
  rintro w3 hg3 hax3
  refine go 2 ?_
  have hP3:=put_same (Res.one g2 (.cells N 3)) g2 (.cells (spl N (0+i*1) [i64 v]) 3 (0,0))
  have hs3:(spl N (0+i*1) [i64 v]).size=N.size:=spl_size (by simp only[List.length_cons,List.length_nil];omega)
  refine go 1 ?_
  have hgD:=hg3.drew
  have e49:((i:Nat):Int)+((1:Nat):Int)=((i+1:Nat):Int):=by omega
  refine CW.dw [1,3,5,7,9,11,13,15,16] (fun w=>True) ?_
  refine go 4 ?_
  rw[e49]
  refine RL.cutLo (i+1) rfl rfl rfl rfl sl25.out rfl rfl rfl (by omega) (by omega) (by omega) ?_
  refine go 2 ?_
  refine RL.cutLo i rfl rfl rfl rfl sl25.out rfl rfl rfl (by omega) (by omega) (by omega) ?_
  refine RL.copy (xs.length-i) (i:=0) (m:=xs.length-i) (news:=(xs.drop i).map (Value.int .i64)) rfl rfl rfl rfl sl25.out rfl rfl (fun w'=>by simp[Builtin.lenOf]) (Nat.min_eq_left (by omega)) ?_ hgD rfl hP3 (by rw[hs3,hNs,List.length_map];omega) (hone _) ?_
  ·
   exact run_first (by simpa using holdH) hgD.drop.1 (by rw[List.length_map];omega)
  rintro w4 hg4 hax4
  refine go 7 ?_
  refine CW.ret (ret (vs:=[_]) ⟨_,_,rfl,rfl,rfl⟩ (Post.mk (Le.refl _) hg4.dropNext (hax2.trans (hax3.trans ((Aux.drew _).trans hax4))) ⟨rfl,some ⟨g2,0,none⟩,c2,by rw[hlen];rfl,.inr ⟨g2,_,rfl,put_same _ _ _,by rw[hlen];omega,hc2,?_,?_⟩⟩))
  ·
   rw[spl_size (by rw[hs3,hNs,List.length_map];omega),hs3,hNs,Nat.mul_one]
  ·
   have hfin:=spl_two (N:=N) (i:=i) (a:=i64 v) (r:=(xs.drop i).map (Value.int .i64)) (by rw[hNs,List.length_map];omega)
   rw[hNt] at hfin
   simp only[Nat.zero_add,Nat.mul_one,hlen]
   rw[List.length_map,show i+1+(xs.drop i).length=xs.length+1 by omega] at hfin
   rw[hfin]
   have:=chunks_int (s:=s) hnr
   simpa using this
 ·
  -- in place
  have hroom:xs.length+1≤c:=by omega
  refine CW.skip (CW.seq (CW.plain ?_))
  have e59:((xs.length:Nat):Int)+((1:Nat):Int)=((xs.length+1:Nat):Int):=by omega
  have e65:((i:Nat):Int)+((1:Nat):Int)=((i+1:Nat):Int):=by omega
  refine go 4 ?_
  rw[e59]
  refine RL.cutHi (xs.length+1) rfl rfl rfl rfl sl25.out rfl rfl rfl hroom ?_
  refine go 2 ?_
  refine CW.seq (CW.seq (CW.plain ?_))
  refine go 5 ?_
  rw[e65]
  refine RL.cut (i+1) (xs.length+1) rfl rfl rfl rfl sl25.out rfl (.inr ⟨_,_,rfl,rfl⟩) (.inl ⟨rfl,rfl⟩) (by omega) (by omega) ?_
  rw[if_neg (show ¬ c=i+1 by omega),Option.map_some,addLit]
  refine RL.ext rfl rfl rfl rfl rfl (overlaps_no hg hA hV hv (by omega)) ⟨trivial,?_⟩
  refine go 2 ?_
  refine CW.yes rfl ?_
  refine go 1 ?_
  have hgD:=hg.drew
  refine CW.dw [1,3,5,7,9,11,13,15,16] (fun w=>True) ?_
  refine go 4 ?_
  rw[e65]
  refine RL.cutLo (i+1) rfl rfl rfl rfl sl25.out rfl rfl rfl (by omega) (by omega) (by omega) ?_
  refine go 2 ?_
  refine RL.cutLo i rfl rfl rfl rfl sl25.out rfl rfl rfl (by omega) (by omega) (by omega) ?_
  refine RL.copy (xs.length-i) (i:=0) (m:=xs.length+1-i) (news:=(xs.drop i).map (Value.int .i64)) rfl rfl rfl rfl sl25.out rfl rfl (fun w'=>by simp[Builtin.lenOf]) ((Nat.min_eq_right (by omega)).trans (by omega)) ?_ hgD rfl hA (by rw[List.length_map];omega) (hone _) ?_
  ·
   exact run_first (by simpa using holdH) hgD.1 (by rw[List.length_map];omega)
  rintro w3 hg3 hax3
  refine go 2 ?_
  have hP3:=put_same A g (.cells (spl cs (0+(i+1)*1) ((xs.drop i).map (Value.int .i64))) 3 (0,0))
  have hs3:(spl cs (0+(i+1)*1) ((xs.drop i).map (Value.int .i64))).size=cs.size:=spl_size (by rw[List.length_map];omega)
  refine go 4 ?_
  refine RL.cutLo i rfl rfl rfl rfl sl25.out rfl rfl rfl (by omega) (by omega) (by omega) ?_
  refine go 1 ?_
  refine RL.copy 1 (i:=0) (m:=1) (news:=[i64 v]) rfl rfl rfl rfl sl25.out rfl rfl c0 (Nat.min_eq_left (by omega)) ?_ hg3 rfl hP3 (by rw[hs3];simp only[List.length_cons,List.length_nil];omega) (by simp[Value.oneCell']) ?_
  ·
   exact run_first hVH (hg3.drop.mem hV) rfl
  rintro w4 hg4 hax4
  refine go 7 ?_
  refine CW.ret (ret (vs:=[_]) ⟨_,_,rfl,rfl,rfl⟩ (Post.mk (Le.refl _) hg4 ((Aux.drew _).trans (hax3.trans hax4)) ⟨rfl,some ⟨g,0,none⟩,c,by rw[hlen];rfl,.inr ⟨g,_,rfl,put_same _ _ _,by rw[hlen];exact hroom,hc,?_,?_⟩⟩))
  ·
   rw[spl_size (by rw[hs3];simp only[List.length_cons,List.length_nil];omega),hs3,hcs,Nat.mul_one]
  ·
   have hfin:=spl_owt (N:=cs) (i:=i) (a:=i64 v) (r:=(xs.drop i).map (Value.int .i64)) (by rw[List.length_map];omega)
   rw[row_split hcx hi] at hfin
   simp only[Nat.zero_add,Nat.mul_one,hlen]
   rw[List.length_map,show i+1+(xs.drop i).length=xs.length+1 by omega] at hfin
   rw[hfin]
   have:=chunks_int (s:=s) hnr
   simpa using this
end Go.Lw
namespace Go.Lw
open Go.Proofs
def node7 (n:Int):Bool:=decide (1≤n∧n≤7)
def risesP (xs:List Int):Bool:=decide (xs.Pairwise (· < ·))
def checkP (c:Conf):Int :=
 if (c.voters++c.learners).any (fun n=> !node7 n)=true then 81
 else if risesP c.voters=false∨risesP c.learners=false then 1
 else if c.voters.any (fun n=>decide (n∈c.learners))=true then 82
 else if c.voters.length=0 then 84
 else 0
def Conf.fits (c:Conf):Prop:=(c.voters.length+c.learners.length+1)*8≤140737488355328
theorem compact_full {xs:List Int} (hs:xs.Pairwise (· ≤ ·)):(Lib.compact xs).length=xs.length↔xs.Pairwise (· < ·):=by
 simp only[Lib.compact,Lib.compactUpTo,List.length_map]
 constructor
 ·
  intro h
  have h0:((List.range xs.length).filter (Lib.keeps xs.toArray)).length=(List.range xs.length).length:=by rw[h,List.length_range]
  have hall:=List.length_filter_eq_length_iff.1 h0
  have hstep:∀ k,(hk:k+1<xs.length)→xs[k]<xs[k+1]:=fun k hk=>by
   have h1:=hall (k+1) (List.mem_range.2 hk)
   have h2:xs[k+1]≠xs[k]:=by
    have:k<xs.length:=by omega
    simpa [Lib.keeps,hk,this] using h1
   have h3:=List.pairwise_iff_getElem.1 hs k (k+1) (by omega) hk (by omega)
   omega
  rw[List.pairwise_iff_getElem]
  intro i j hi hj hij
  obtain⟨d,rfl⟩:∃ d,j=i+1+d:=⟨j-(i+1),by omega⟩
  induction d with
  | zero=>exact hstep i (by omega)
  | succ d ih =>
   have h1:=ih (by omega) (by omega)
   have h2:=hstep (i+1+d) (by omega)
   exact Int.lt_trans h1 h2
 ·
  intro h
  have hall:∀ i∈List.range xs.length,Lib.keeps xs.toArray i=true:=fun i hi=>by
   have hi:=List.mem_range.1 hi
   by_cases h0:i=0
   ·
    simp[Lib.keeps,h0]
   ·
    have h1:i-1<xs.length:=by omega
    have h2:=List.pairwise_iff_getElem.1 h (i-1) i h1 hi (by omega)
    simp[Lib.keeps,h0,hi,h1]
    omega
  have h2:=List.length_filter_eq_length_iff.2 hall
  rw[h2,List.length_range]
theorem rcNode_ct {w:World} {s:Res} {os:List Res} {n:Int} (hg:Good w s os):Calls Tryz.prog 94 #[i64 n] w (PostV w s os fun r=>r = .bool (node7 n)):=by
 refine enter (l:=[i64 n]) Tryz.func94 rfl Tryz.ntmps94 rfl ?_
 refine go 9 ?_
 refine RL.part 5 rfl (fun h=>?_) (fun h=>?_)
 ·
  have h:n≥1:=of_decide_eq_true h
  refine go 5 ?_
  exact CW.ret (ret (vs:=[_]) ⟨_,_,rfl,rfl,rfl⟩ (PostV.mk hg (Aux.refl _) (congrArg Value.bool (by simp only[node7];exact decide_eq_decide.2 ⟨fun h2=>⟨h,h2⟩,fun h2=>h2.2⟩))))
 ·
  have h:¬ n≥1:=of_decide_eq_false h
  refine go 5 ?_
  exact CW.ret (ret (vs:=[_]) ⟨_,_,rfl,rfl,rfl⟩ (PostV.mk hg (Aux.refl _) (congrArg Value.bool (by rw[node7,decide_eq_false (fun h2=>h h2.1)]))))
theorem Votes_ct {w:World} {s:Res} {os:List Res} {vs:List Value} {c:Conf} {n:Int} (hg:Good w s os) (hc:RConf s vs c) :
  Calls Tryz.prog 139 #[.agg vs.toArray,i64 n] w (PostV w s os fun r=>r = .bool (decide (n∈c.voters))):=by
 obtain⟨a,ac,b,bc,rfl,i1,i2⟩:=hc
 refine enter (l:=[.agg #[.slice a c.voters.length ac,.slice b c.learners.length bc],i64 n]) Tryz.func139 rfl Tryz.ntmps139 rfl ?_
 refine go 2 ?_
 refine RL.box rfl rfl rfl rfl rfl hg ?_
 rintro p w1 hg1 hax1
 refine go 6 ?_
 refine RL.load rfl rfl rfl rfl ty25.out rfl (Holds.one p _ 27) (hg1.1) rfl ?_
 refine go 2 ?_
 refine zw (Contains_ct hg1 i1) ?_
 rintro v2 w2 hg2 hax2 rfl
 refine go 3 ?_
 exact CW.ret (ret (vs:=[_]) ⟨_,_,rfl,rfl,rfl⟩ (PostV.mk hg2.drop (hax1.trans hax2) rfl))
theorem Learns_ct {w:World} {s:Res} {os:List Res} {vs:List Value} {c:Conf} {n:Int} (hg:Good w s os) (hc:RConf s vs c) :
  Calls Tryz.prog 97 #[.agg vs.toArray,i64 n] w (PostV w s os fun r=>r = .bool (decide (n∈c.learners))):=by
 obtain⟨a,ac,b,bc,rfl,i1,i2⟩:=hc
 refine enter (l:=[.agg #[.slice a c.voters.length ac,.slice b c.learners.length bc],i64 n]) Tryz.func97 rfl Tryz.ntmps97 rfl ?_
 refine go 2 ?_
 refine RL.box rfl rfl rfl rfl rfl hg ?_
 rintro p w1 hg1 hax1
 refine go 6 ?_
 refine RL.load (j:=1) rfl rfl rfl rfl ty25.out rfl (Holds.one p _ 27) (hg1.1) rfl ?_
 refine go 2 ?_
 refine zw (Contains_ct hg1 i2) ?_
 rintro v2 w2 hg2 hax2 rfl
 refine go 3 ?_
 exact CW.ret (ret (vs:=[_]) ⟨_,_,rfl,rfl,rfl⟩ (PostV.mk hg2.drop (hax1.trans hax2) rfl))
theorem rises_ct {w:World} {s:Res} {os:List Res} {xs:List Int} {xa:Option Addr} {xc:Nat} (hg:Good w s os) (hx:Ints s xa xc xs) (hb:xs.length*8≤140737488355328) :
  Calls Tryz.prog 95 #[.slice xa xs.length xc] w (PostV w s os fun r=>r = .bool (risesP xs)):=by
 refine enter (l:=[.slice xa xs.length xc]) Tryz.func95 rfl Tryz.ntmps95 rfl ?_
 refine go 8 ?_
 refine zw (IsSorted_ct hg hx) ?_
 rintro v1 w1 hg1 hax1 rfl
 refine go 2 ?_
 refine RL.part 5 rfl (fun h=>?_) (fun h=>?_)
 ·
  have hs:xs.Pairwise (· ≤ ·):=of_decide_eq_true h
  refine go 2 ?_
  refine zc (Clone_ct hg1 (.inl rfl) hx.2.2 hb) ?_
  rintro v2 s2 A2 w2 hle2 hg2 hax2 ⟨rfl,a2,c2,rfl,ho2⟩
  refine go 2 ?_
  refine zc (Compact_ct hg2 ho2) ?_
  rintro v3 s3 A3 w3 hle3 hg3 hax3 ⟨rfl,rfl,ho3⟩
  refine go 8 ?_
  refine CW.ret (ret (vs:=[_]) ⟨_,_,rfl,rfl,rfl⟩ (PostV.mk hg3.drop (hax1.trans (hax2.trans hax3)) (congrArg Value.bool ?_)))
  rw[risesP,Bool.eq_iff_iff]
  have:=compact_full hs
  simp only[beq_iff_eq,decide_eq_true_eq]
  rw[←this]
  omega
 ·
  have hs:¬ xs.Pairwise (· ≤ ·):=of_decide_eq_false h
  refine go 10 ?_
  exact CW.ret (ret (vs:=[_]) ⟨_,_,rfl,rfl,rfl⟩ (PostV.mk hg1 hax1 (congrArg Value.bool (by rw[risesP,decide_eq_false (fun h2=>hs (h2.imp (fun h3=>Int.le_of_lt h3)))]))))
theorem notNode_tells {s:Res}:Tells Tryz.prog 93 #[] s (fun n=> !node7 n):=fun n w s' os _ hg=>by
 show Calls Tryz.prog 93 #[i64 n] w _
 refine enter (l:=[i64 n]) Tryz.func93 rfl Tryz.ntmps93 rfl ?_
 refine go 8 ?_
 refine zw (rcNode_ct hg) ?_
 rintro v1 w1 hg1 hax1 rfl
 refine go 4 ?_
 exact CW.ret (ret (vs:=[_]) ⟨_,_,rfl,rfl,rfl⟩ (PostV.mk hg1 hax1 rfl))
theorem learns_tells {s:Res} {vs:List Value} {c:Conf} {b:Nat} (hc:RConf s vs c) (hb:Holds s ⟨b,0,none⟩ vs):Tells Tryz.prog 96 #[ptr b] s (fun n=>decide (n∈c.learners)):=fun n w s' os hl hg=>by
 show Calls Tryz.prog 96 #[i64 n,ptr b] w _
 have hb:=hb.le hl
 have hc':=RConf.up _ _ _ _ hl hc
 obtain⟨a,ac,b',bc,rfl,i1,i2⟩:=hc
 refine enter (l:=[i64 n,ptr b]) Tryz.func96 rfl Tryz.ntmps96 rfl ?_
 refine go 6 ?_
 refine RL.loads (j:=0) (us:=[.slice a c.voters.length ac,.slice b' c.learners.length bc]) rfl rfl rfl rfl ty27.out rfl (hb) (hg.sh) rfl rfl ?_
 refine go 2 ?_
 refine zw (Learns_ct hg hc') ?_
 rintro v1 w1 hg1 hax1 rfl
 refine go 3 ?_
 exact CW.ret (ret (vs:=[_]) ⟨_,_,rfl,rfl,rfl⟩ (PostV.mk hg1 hax1 rfl))
theorem Check_ct {w:World} {s:Res} {os:List Res} {vs:List Value} {c:Conf} (hg:Good w s os) (hc:RConf s vs c) (hb:c.fits) :
  Calls Tryz.prog 60 #[.agg vs.toArray] w (Post w s os fun _ _ r=>r=i64 (checkP c)):=by
 have hc0:=hc
 simp only[Conf.fits] at hb
 obtain⟨a,ac,b,bc,rfl,i1,i2⟩:=hc
 refine enter (l:=[.agg #[.slice a c.voters.length ac,.slice b c.learners.length bc]]) Tryz.func60 rfl Tryz.ntmps60 rfl ?_
 refine go 2 ?_
 refine RL.box rfl rfl rfl rfl rfl hg ?_
 rintro p w1 hg1 hax1
 refine go 3 ?_
 obtain⟨s1,hg1,hle1,hq1⟩:=Good.letgo hg1
 have hH:Holds s1 ⟨p,0,none⟩ [.slice a c.voters.length ac,.slice b c.learners.length bc]:=(Holds.one p _ _).le hq1
 have i1:=i1.up (RInt.up _) hle1
 have i2:=i2.up (RInt.up _) hle1
 have hc1:=RConf.up _ _ _ _ hle1 hc0
 refine CW.seq (CW.block (CW.seq (CW.plain ?_)))
 refine go 1 ?_
 refine RL.load (j:=0) rfl rfl rfl rfl ty25.out rfl (hH) (hg1.sh) rfl ?_
 refine go 1 ?_
 refine RL.load (j:=1) rfl rfl rfl rfl ty25.out rfl (hH) (hg1.sh) rfl ?_
 refine RL.buildSlice rfl rfl rfl rfl sl168.out ze25.out rfl rfl rfl rfl hg1 ?_
 rintro p2 w2 hg2 hax2
 refine go 1 ?_
 obtain⟨s3,hg3,hle3,hq3⟩:=Good.letgo hg2
 refine go 1 ?_
 refine zc (Concat2_ct hg3 (i1.up (RInt.up _) hle3) (i2.up (RInt.up _) hle3) (if_pos rfl) hq3 (by omega)) ?_
 rintro v4 s4 A4 w4 hle4 hg4 hax4 ⟨rfl,a4,c4,rfl,ho4⟩
 refine go 1 ?_
 obtain⟨s5,hg5,hle5,hA5⟩:=Good.letgo hg4
 have him:=ho4.imm (RInt.up _) hle5 hA5
 have hl5:=hle3.trans hle5
 refine go 1 ?_
 refine zw (ContainsFunc_ct hg5 him ca93.out notNode_tells) ?_
 rintro v6 w6 hg6 hax6 rfl
 refine go 3 ?_
 have hx6:=hax1.trans (hax2.trans (hax4.trans hax6))
 have hH:=hH.le hl5
 have i1:=i1.up (RInt.up _) hl5
 have i2:=i2.up (RInt.up _) hl5
 have hl:=hle1.trans hl5
 refine CW.cond rfl (fun hbad=>?_) (fun hbad=>?_)
 ·
  refine CW.seq (CW.plain ?_)
  refine go 2 ?_
  exact CW.ret (ret (vs:=[_]) ⟨_,_,rfl,rfl,rfl⟩ (Post.mk hl hg6.nil hx6 (by rw[checkP,if_pos hbad];rfl)))
 refine go 3 ?_
 refine RL.load (j:=0) rfl rfl rfl rfl ty25.out rfl (hH) (hg6.sh) rfl ?_
 refine go 1 ?_
 refine zw (rises_ct hg6 i1 (by omega)) ?_
 rintro v7 w7 hg7 hax7 rfl
 refine go 3 ?_
 have hx7:=hx6.trans hax7
 refine RL.part 16 rfl (fun h=>?_) (fun h=>?_)
 ·
  refine RL.pass rfl rfl rfl ?_
  refine go 6 ?_
  refine CW.yes rfl (CW.seq (CW.plain ?_))
  refine go 2 ?_
  exact CW.ret (ret (vs:=[_]) ⟨_,_,rfl,rfl,rfl⟩ (Post.mk hl hg7.nil hx7 (by rw[checkP,if_neg (by rw[hbad];decide),if_pos (.inl (by simpa using h))];rfl)))
 have hr1:risesP c.voters=true:=by simpa using h
 refine go 1 ?_
 refine RL.load (j:=1) rfl rfl rfl rfl ty25.out rfl (hH) (hg7.sh) rfl ?_
 refine go 1 ?_
 refine zw (rises_ct hg7 i2 (by omega)) ?_
 rintro v8 w8 hg8 hax8 rfl
 refine go 5 ?_
 have hx8:=hx7.trans hax8
 refine CW.cond rfl (fun h2=>?_) (fun h2=>?_)
 ·
  refine CW.seq (CW.plain ?_)
  refine go 2 ?_
  exact CW.ret (ret (vs:=[_]) ⟨_,_,rfl,rfl,rfl⟩ (Post.mk hl hg8.nil hx8 (by rw[checkP,if_neg (by rw[hbad];decide),if_pos (.inr (by simpa using h2))];rfl)))
 have hr2:risesP c.learners=true:=by simpa using h2
 refine go 3 ?_
 refine RL.load (j:=0) rfl rfl rfl rfl ty25.out rfl (hH) (hg8.sh) rfl ?_
 refine RL.makeF rfl rfl rfl rfl rfl ?_
 refine go 1 ?_
 refine zw (ContainsFunc_ct hg8 i1 ca96.out (learns_tells (RConf.up _ _ _ _ hl5 hc1) hH)) ?_
 rintro v9 w9 hg9 hax9 rfl
 refine go 3 ?_
 have hx9:=hx8.trans hax9
 have hno:¬ (risesP c.voters=false∨risesP c.learners=false):=by rw[hr1,hr2];simp
 refine CW.cond rfl (fun h3=>?_) (fun h3=>?_)
 ·
  refine CW.seq (CW.plain ?_)
  refine go 2 ?_
  exact CW.ret (ret (vs:=[_]) ⟨_,_,rfl,rfl,rfl⟩ (Post.mk hl hg9.nil hx9 (by rw[checkP,if_neg (by rw[hbad];decide),if_neg hno,if_pos h3];rfl)))
 refine go 3 ?_
 refine RL.load (j:=0) rfl rfl rfl rfl ty25.out rfl (hH) (hg9.sh) rfl ?_
 refine go 4 ?_
 refine CW.eq rfl (fun h4=>?_) (fun h4=>?_)
 ·
  refine CW.seq (CW.plain ?_)
  refine go 2 ?_
  exact CW.ret (ret (vs:=[_]) ⟨_,_,rfl,rfl,rfl⟩ (Post.mk hl hg9.nil hx9 (by rw[checkP,if_neg (by rw[hbad];decide),if_neg hno,if_neg (by rw[h3];decide),if_pos (by omega)];rfl)))
 refine CW.skip (CW.seq (CW.plain ?_))
 refine go 2 ?_
 exact CW.ret (ret (vs:=[_]) ⟨_,_,rfl,rfl,rfl⟩ (Post.mk hl hg9.nil hx9 (by rw[checkP,if_neg (by rw[hbad];decide),if_neg hno,if_neg (by rw[h3];decide),if_neg (by omega)];rfl)))
end Go.Lw
namespace Go.Lw
open Go.Proofs
def insP (n:Int) (l:List Int):List Int:=l.filter (fun x=>decide (x<n))++n::l.filter (fun x=> !decide (x<n))
def delP (n:Int) (l:List Int):List Int:=l.filter fun x=> !decide (x=n)
def Conf.none:Conf:=⟨[],[]⟩
def applyP (c:Conf) (k n:Int):Conf × Int :=
 if checkP c≠0 then (Conf.none,checkP c)
 else if node7 n=false then (Conf.none,81)
 else if k=1 then (if n∈c.voters∨n∈c.learners then (Conf.none,82) else (⟨c.voters,insP n c.learners⟩,0))
 else if k=2 then (if n∈c.learners then (⟨insP n c.voters,delP n c.learners⟩,0) else (Conf.none,83))
 else if k=3 then
  (if n∈c.voters∧c.voters.length=1 then (Conf.none,84)
  else if n∈c.voters then (⟨delP n c.voters,delP n c.learners⟩,0)
  else if n∈c.learners then (⟨c.voters,delP n c.learners⟩,0)
  else (Conf.none,83))
 else (Conf.none,1)
theorem place_ins {l:List Int} {n:Int} {i:Nat} (h:Place l n i):l.take i++n::l.drop i=insP n l:=by
 have h1:∀ x∈l.take i,x<n:=fun x hx=>by
  obtain⟨k,hk,rfl⟩:=List.getElem_of_mem hx
  rw[List.length_take] at hk
  rw[List.getElem_take]
  exact h.lo k (by omega) (by omega)
 have h2:∀ x∈l.drop i,¬ x<n:=fun x hx=>by
  obtain⟨k,hk,rfl⟩:=List.getElem_of_mem hx
  rw[List.length_drop] at hk
  rw[List.getElem_drop]
  have:=h.hi (i+k) (by omega) (by omega)
  omega
 rw[insP]
 conv=>rhs;rw[←List.take_append_drop i l]
 rw[List.filter_append,List.filter_append]
 rw[List.filter_eq_self.2 (fun x hx=>by simp[h1 x hx]),List.filter_eq_nil_iff.2 (fun x hx=>by simpa using h2 x hx),List.append_nil]
 rw[List.filter_eq_nil_iff.2 (fun x hx=>by simpa using h1 x hx),List.filter_eq_self.2 (fun x hx=>by simpa using h2 x hx),List.nil_append]
theorem insP_length (n:Int) (l:List Int):(insP n l).length=l.length+1:=by
 have key:∀ l:List Int,(l.filter (fun x=>decide (x<n))).length+(l.filter (fun x=> !decide (x<n))).length=l.length:=by
  intro l
  induction l with
  | nil=>rfl
  | cons x l ih =>
   simp only[List.filter_cons]
   by_cases h:x<n<;>simp[h]<;>omega
 have:=key l
 simp only[insP,List.length_append,List.length_cons]
 omega
theorem with_ct {w:World} {s:Res} {os:List Res} {xs:List Int} {xa:Option Addr} {xc:Nat} {n:Int} (hg:Good w s os) (hx:Ints s xa xc xs) (hs:xs.Pairwise (· < ·)) (hn:rng .i64 n) (hb:(xs.length+1)*8≤140737488355328) :
  Calls Tryz.prog 140 #[.slice xa xs.length xc,i64 n] w (Post w s os fun s' A v=>s'=s∧∃ a c,v = .slice a (insP n xs).length c∧OwnI s' A a c (insP n xs)):=by
 refine enter (l:=[.slice xa xs.length xc,i64 n]) Tryz.func140 rfl Tryz.ntmps140 rfl ?_
 refine go 9 ?_
 refine zw (BinarySearch_ct hg hx hs (by omega)) ?_
 rintro v1 w1 hg1 hax1 ⟨i,rfl,hpl⟩
 refine go 11 ?_
 refine zc (Clone_ct hg1 (.inl rfl) hx.2.2 (by omega)) ?_
 rintro v2 s2 A2 w2 hle2 hg2 hax2 ⟨rfl,a2,c2,rfl,ho2⟩
 refine go 3 ?_
 refine RL.buildSlice rfl rfl rfl rfl sl25.out ze3.out rfl rfl rfl rfl hg2 ?_
 rintro p3 w3 hg3 hax3
 refine go 2 ?_
 refine zc (Insert_ct hg3.swap ho2 List.mem_cons_self (if_pos rfl) hpl.le hb hn) ?_
 rintro v4 s4 A4 w4 hle4 hg4 hax4 ⟨rfl,a4,c4,rfl,ho4⟩
 refine go 3 ?_
 rw[place_ins hpl] at ho4 ⊢
 exact CW.ret (ret (vs:=[_]) ⟨_,_,rfl,rfl,rfl⟩ (Post.mk (Le.refl _) hg4.dropNext (hax1.trans (hax2.trans (hax3.trans hax4))) ⟨rfl,a4,c4,rfl,ho4⟩))
theorem isIt_tells {s:Res} {n:Int} {b:Nat} (hb:Holds s ⟨b,0,none⟩ [i64 n]):Tells Tryz.prog 162 #[ptr b] s (fun k=>decide (k=n)):=fun k w s' os hl hg=>by
 show Calls Tryz.prog 162 #[i64 k,ptr b] w _
 have hb:=hb.le hl
 refine enter (l:=[i64 k,ptr b]) Tryz.func162 rfl Tryz.ntmps162 rfl ?_
 refine go 7 ?_
 refine RL.load (j:=0) rfl rfl rfl rfl ty3.out rfl (hb) (hg.sh) rfl ?_
 refine go 3 ?_
 exact CW.ret (ret (vs:=[_]) ⟨_,_,rfl,rfl,rfl⟩ (PostV.mk hg (Aux.refl _) (congrArg Value.bool (by rw[Bool.eq_iff_iff];simp))))
theorem without_ct {w:World} {s:Res} {os:List Res} {xs:List Int} {xa:Option Addr} {xc:Nat} {n:Int} (hg:Good w s os) (hx:Ints s xa xc xs) (hb:xs.length*8≤140737488355328) :
  Calls Tryz.prog 141 #[.slice xa xs.length xc,i64 n] w (Post w s os fun s' A v=>∃ a c,v = .slice a (delP n xs).length c∧OwnI s' A a c (delP n xs)):=by
 refine enter (l:=[.slice xa xs.length xc,i64 n]) Tryz.func141 rfl Tryz.ntmps141 rfl ?_
 refine go 2 ?_
 refine RL.box rfl rfl rfl rfl rfl hg ?_
 rintro p w1 hg1 hax1
 refine go 3 ?_
 obtain⟨s1,hg1,hle1,hq1⟩:=Good.letgo hg1
 have hx:=hx.up (RInt.up _) hle1
 refine go 4 ?_
 refine zc (Clone_ct hg1 (.inl rfl) hx.2.2 hb) ?_
 rintro v2 s2 A2 w2 hle2 hg2 hax2 ⟨rfl,a2,c2,rfl,ho2⟩
 refine go 1 ?_
 refine RL.makeF rfl rfl rfl rfl rfl ?_
 refine go 1 ?_
 refine zc (DeleteFunc_ct hg2 ho2 ca162.out (isIt_tells (Holds.le (Holds.one p _ _) hq1))) ?_
 rintro v3 s3 A3 w3 hle3 hg3 hax3 ⟨rfl,rfl,ho3⟩
 refine go 3 ?_
 exact CW.ret (ret (vs:=[_]) ⟨_,_,rfl,rfl,rfl⟩ (Post.mk hle1 hg3 (hax1.trans (hax2.trans hax3)) ⟨a2,c2,rfl,ho3⟩))
theorem check_zero {c:Conf} (h:checkP c=0):(∀ n∈c.voters++c.learners,node7 n=true)∧c.voters.Pairwise (· < ·)∧c.learners.Pairwise (· < ·)∧(∀ n∈c.voters,n∉c.learners)∧c.voters≠[]:=by
 unfold checkP at h
 split at h
 ·
  cases h
 rename_i h1
 split at h
 ·
  cases h
 rename_i h2
 split at h
 ·
  cases h
 rename_i h3
 split at h
 ·
  cases h
 rename_i h4
 refine⟨fun n hn=>?_,?_,?_,fun n hn hl=>?_,fun e=>h4 (by rw[e];rfl)⟩
 ·
  cases hb:node7 n with
  | true=>rfl
  | false=>exact absurd (List.any_eq_true.2 ⟨n,hn,by simp[hb]⟩) h1
 ·
  by_cases hp:c.voters.Pairwise (· < ·)
  ·
   exact hp
  ·
   exact absurd (.inl (decide_eq_false hp)) h2
 ·
  by_cases hp:c.learners.Pairwise (· < ·)
  ·
   exact hp
  ·
   exact absurd (.inr (decide_eq_false hp)) h2
 ·
  exact h3 (List.any_eq_true.2 ⟨n,hn,decide_eq_true hl⟩)
def COwn (s B A:Res) (v:Value) (r:Conf × Int):Prop:=∃ a c b d,v = .tuple #[.agg #[.slice a r.1.voters.length c,.slice b r.1.learners.length d],i64 r.2]∧OwnI s A a c r.1.voters∧OwnI s B b d r.1.learners
theorem COwn.bad {s:Res} {e:Int}:COwn s Res.nil Res.nil (.tuple #[.agg #[nilSl,nilSl],i64 e]) (Conf.none,e):=⟨none,0,none,0,rfl,.inl ⟨rfl,rfl,rfl⟩,.inl ⟨rfl,rfl,rfl⟩⟩
theorem Good.third3 {w:World} {s X Y A:Res} {os:List Res} (h:Good w s (X::Y::A::os)):Good w s (A::X::Y::os):=h.perm (List.perm_middle (l₁:=[X,Y]))
theorem Apply_ct {w:World} {s:Res} {os:List Res} {vs:List Value} {c:Conf} {k n:Int} (hg:Good w s os) (hc:RConf s vs c) (hb:c.fits) (hk:rng .i64 k) (hn:rng .i64 n) :
  Calls Tryz.prog 116 #[.agg vs.toArray,.agg #[i64 k,i64 n]] w (Post2 w s os fun s' B A v=>COwn s' B A v (applyP c k n)):=by
 have hc0:=hc
 have hb':=hb
 simp only[Conf.fits] at hb'
 obtain⟨a,ac,b,bc,rfl,i1,i2⟩:=hc
 refine enter (l:=[.agg #[.slice a c.voters.length ac,.slice b c.learners.length bc],.agg #[i64 k,i64 n]]) Tryz.func116 rfl Tryz.ntmps116 rfl ?_
 refine go 2 ?_
 refine RL.box rfl rfl rfl rfl rfl hg ?_
 rintro p w0 hg0 hax0
 refine go 1 ?_
 refine RL.box rfl rfl rfl rfl rfl hg0 ?_
 rintro q w1 hg1 hax1
 refine go 1 ?_
 obtain⟨s1,hg1,hle1,hq1⟩:=Good.letgo hg1
 obtain⟨s2,hg1,hle2,hq2⟩:=Good.letgo hg1
 refine RL.alloc rfl rfl rfl rfl ze27.out hg1 ?_
 rintro r w2 hg2 hax2
 refine go 3 ?_
 have hH:Holds s2 ⟨p,0,none⟩ [.slice a c.voters.length ac,.slice b c.learners.length bc]:=(Holds.one p _ _).le hq2
 have hQ:Holds s2 ⟨q,0,none⟩ [i64 k,i64 n]:=(Holds.one q _ _).le (hq1.trans hle2)
 have hle:=hle1.trans hle2
 have hc2:=RConf.up _ _ _ _ hle hc0
 have i1:=i1.up (RInt.up _) hle
 have i2:=i2.up (RInt.up _) hle
 refine CW.seq (CW.seq (CW.plain ?_))
 refine RL.loads (j:=0) (us:=[.slice a c.voters.length ac,.slice b c.learners.length bc]) rfl rfl rfl rfl ty27.out rfl (hH) (hg2.sh) rfl rfl ?_
 refine go 1 ?_
 refine zc (Check_ct hg2 hc2 hb) ?_
 rintro v3 s3 A3 w3 hle3 hg3 hax3 rfl
 refine go 3 ?_
 have hg3:=hg3.drop
 have hx3:=hax0.trans (hax1.trans (hax2.trans hax3))
 have hH:=hH.le hle3
 have hQ:=hQ.le hle3
 have i1:=i1.up (RInt.up _) hle3
 have i2:=i2.up (RInt.up _) hle3
 have hc3:=RConf.up _ _ _ _ hle3 hc2
 have hle:=hle.trans hle3
 refine go 5 ?_
 refine CW.ne rfl (fun h0=>?_) (fun h0=>CW.skip ?_)
 ·
  refine CW.seq (CW.plain ?_)
  refine go 2 ?_
  refine RL.store (i:=0) (j:=0) rfl rfl rfl ty27.out rfl rfl hg3 rfl (if_pos rfl) rfl (by first | (simp[Value.cells,Value.oneCell'];done) | simp[Value.cells,Value.oneCell',putL]) (by first | exact Nat.le_of_ble_eq_true rfl | (simp;done) | (simp;omega) | omega) ?_
  rintro w4 hg4 hax4
  refine go 3 ?_
  exact CW.ret (ret (vs:=[_,_]) ⟨_,_,_,rfl,rfl,loadVar_agg ty27.out (put_same _ _ _) (hg4).1 rfl,_,_,rfl,rfl,rfl⟩ (Post2.mk hle (hg4).drop.nil.nil (hx3.trans hax4) (by rw[applyP,if_pos h0];exact COwn.bad)))
 obtain⟨z1,z2,z3,z4,z5⟩:=check_zero h0
 refine CW.seq (CW.seq (CW.plain ?_))
 refine go 1 ?_
 refine RL.load (j:=1) rfl rfl rfl rfl ty3.out rfl (hQ) (hg3.sh) rfl ?_
 refine go 1 ?_
 refine zw (rcNode_ct hg3) ?_
 rintro v4 w4 hg4 hax4 rfl
 refine go 3 ?_
 have hx4:=hx3.trans hax4
 refine CW.cond rfl (fun hn0=>?_) (fun hn0=>CW.skip ?_)
 ·
  refine CW.seq (CW.plain ?_)
  refine go 1 ?_
  refine RL.store (i:=0) (j:=0) rfl rfl rfl ty27.out rfl rfl hg4 rfl (if_pos rfl) rfl (by first | (simp[Value.cells,Value.oneCell'];done) | simp[Value.cells,Value.oneCell',putL]) (by first | exact Nat.le_of_ble_eq_true rfl | (simp;done) | (simp;omega) | omega) ?_
  rintro w5 hg5 hax5
  refine go 3 ?_
  exact CW.ret (ret (vs:=[_,_]) ⟨_,_,_,rfl,rfl,loadVar_agg ty27.out (put_same _ _ _) (hg5).1 rfl,_,_,rfl,rfl,rfl⟩ (Post2.mk hle (hg5).drop.nil.nil (hx4.trans hax5) (by rw[applyP,if_neg (by simpa using h0),if_pos (by simpa using hn0)];exact COwn.bad)))
 have hn1:¬ node7 n=false:=by simpa using hn0
 have hap:applyP c k n=if k=1 then (if n∈c.voters∨n∈c.learners then (Conf.none,82) else (⟨c.voters,insP n c.learners⟩,0))
   else if k=2 then (if n∈c.learners then (⟨insP n c.voters,delP n c.learners⟩,0) else (Conf.none,83))
   else if k=3 then
    (if n∈c.voters∧c.voters.length=1 then (Conf.none,84)
    else if n∈c.voters then (⟨delP n c.voters,delP n c.learners⟩,0)
    else if n∈c.learners then (⟨c.voters,delP n c.learners⟩,0)
    else (Conf.none,83))
   else (Conf.none,1):=by rw[applyP,if_neg (by simpa using h0),if_neg hn1]
 rw[hap]
 refine go 1 ?_
 have hgD:=hg4.drew
 refine CW.draws [(true,0),(true,1),(true,2),(true,4),(true,5),(true,6),(false,3),(false,7),(false,8),(false,9)] (fun w=>In s3 w) mixed (by kernel_rfl) (by kernel_rfl) (by kernel_rfl) (by kernel_rfl) (hgD.sh) ?_
 refine RL.loadsT (j:=0) (us:=[.slice a c.voters.length ac,.slice b c.learners.length bc]) rfl rfl rfl rfl ty27.out rfl (hH) (fun w h=>h) rfl rfl ?_
 refine go 1 ?_
 refine RL.loadT (j:=1) rfl rfl rfl rfl ty3.out rfl (hQ) (fun w h=>h) rfl ?_
 refine RL.loadsT (j:=0) (us:=[.slice a c.voters.length ac,.slice b c.learners.length bc]) rfl rfl rfl rfl ty27.out rfl (hH) (fun w h=>h) rfl rfl ?_
 refine go 1 ?_
 refine RL.loadT (j:=1) rfl rfl rfl rfl ty3.out rfl (hQ) (fun w h=>h) rfl ?_
 refine go 1 ?_
 refine zw (Votes_ct hgD hc3) ?_
 rintro v5 w5 hg5 hax5 rfl
 refine⟨hg5.sh,?_⟩
 refine go 1 ?_
 refine zw (Learns_ct hg5 hc3) ?_
 rintro v6 w6 hg6 hax6 rfl
 refine⟨hg6.sh,?_⟩
 refine go 3 ?_
 have hx6:=hx4.trans ((Aux.drew _).trans (hax5.trans hax6))
 refine go 1 ?_
 have hgD:=hg6.drew
 refine CW.draws [(true,0),(true,1),(true,3),(true,4),(false,2),(false,5),(false,6),(false,7)] (fun w=>In s3 w) mixed (by kernel_rfl) (by kernel_rfl) (by kernel_rfl) (by kernel_rfl) (hgD.sh) ?_
 refine go 1 ?_
 refine RL.loadT (j:=0) rfl rfl rfl rfl ty25.out rfl (hH) (fun w h=>h) rfl ?_
 refine go 1 ?_
 refine RL.loadT (j:=1) rfl rfl rfl rfl ty25.out rfl (hH) (fun w h=>h) rfl ?_
 refine go 1 ?_
 refine zc (Clone_ct hgD (.inl rfl) i1.2.2 (by omega)) ?_
 rintro v7 s7 A7 w7 hle7 hg7 hax7 ⟨rfl,a7,c7,rfl,ho7⟩
 refine⟨hg7.sh,?_⟩
 refine go 1 ?_
 refine zc (Clone_ct hg7 (.inl rfl) i2.2.2 (by omega)) ?_
 rintro v8 s8 B8 w8 hle8 hg8 hax8 ⟨rfl,b8,d8,rfl,ho8⟩
 refine⟨hg8.sh,?_⟩
 refine go 3 ?_
 have hx8:=hx6.trans ((Aux.drew _).trans (hax7.trans hax8))
 clear hg0 hg1 hg2 hg3 hg4 hgD hg5 hg6 hg7
 refine CW.meet (fun E w'=>∃ s' A' B' a' c' b' d',∃ x:Conf,E=[(4,ptr r),(9,.slice a' x.voters.length c'),(10,.slice b' x.learners.length d')]∧Good w' s' (B'::A'::Res.one r (.cells #[nilSl,nilSl] 27)::os)∧Le s8 s'∧Aux w w'∧OwnI s' A' a' c' x.voters∧OwnI s' B' b' d' x.learners∧applyP c k n=(x,0)) ?_ ?_
 ·
  refine CW.seq (CW.plain ?_)
  refine go 1 ?_
  refine RL.load (j:=0) rfl rfl rfl rfl ty57.out rfl (hQ) (hg8.sh) rfl ?_
  refine go 1 ?_
  refine CW.block (CW.seq (CW.plain ?_))
  refine go 3 ?_
  refine CW.eq rfl (fun k1=>?_) (fun k1=>?_)
  ·
   -- a learner comes
   rw[if_pos k1] at hap ⊢
   refine CW.seq (CW.seq (CW.plain ?_))
   refine go 2 ?_
   refine RL.part 42 rfl (fun h1=>?_) (fun h1=>?_)
   ·
    refine RL.pass rfl rfl rfl ?_
    refine go 2 ?_
    refine CW.yes rfl (CW.seq (CW.plain ?_))
    refine go 1 ?_
    refine RL.store (i:=2) (j:=0) rfl rfl rfl ty27.out rfl rfl hg8 rfl (if_pos rfl) rfl (by first | (simp[Value.cells,Value.oneCell'];done) | simp[Value.cells,Value.oneCell',putL]) (by first | exact Nat.le_of_ble_eq_true rfl | (simp;done) | (simp;omega) | omega) ?_
    rintro w9 hg9 hax9
    refine go 3 ?_
    exact CW.ret (ret (vs:=[_,_]) ⟨_,_,_,rfl,rfl,loadVar_agg ty27.out (put_same _ _ _) (hg9).drop.drop.1 rfl,_,_,rfl,rfl,rfl⟩ (Post2.mk hle (hg9).drop.drop.drop.nil.nil (hx8.trans hax9) (by rw[if_pos (.inl (of_decide_eq_true h1))];exact COwn.bad)))
   have h1:=of_decide_eq_false h1
   refine go 3 ?_
   refine CW.cond rfl (fun h2=>?_) (fun h2=>CW.skip ?_)
   ·
    refine CW.seq (CW.plain ?_)
    refine go 1 ?_
    refine RL.store (i:=2) (j:=0) rfl rfl rfl ty27.out rfl rfl hg8 rfl (if_pos rfl) rfl (by first | (simp[Value.cells,Value.oneCell'];done) | simp[Value.cells,Value.oneCell',putL]) (by first | exact Nat.le_of_ble_eq_true rfl | (simp;done) | (simp;omega) | omega) ?_
    rintro w9 hg9 hax9
    refine go 3 ?_
    exact CW.ret (ret (vs:=[_,_]) ⟨_,_,_,rfl,rfl,loadVar_agg ty27.out (put_same _ _ _) (hg9).drop.drop.1 rfl,_,_,rfl,rfl,rfl⟩ (Post2.mk hle (hg9).drop.drop.drop.nil.nil (hx8.trans hax9) (by rw[if_pos (.inr (of_decide_eq_true h2))];exact COwn.bad)))
   have h2:=of_decide_eq_false h2
   rw[if_neg (show ¬ (n∈c.voters∨n∈c.learners) from fun h=>h.elim h1 h2)] at hap
   obtain⟨s9,hg9,hle9,hB9⟩:=Good.letgo hg8
   have him:=ho8.imm (RInt.up _) hle9 hB9
   refine go 3 ?_
   refine RL.load (j:=1) rfl rfl rfl rfl ty3.out rfl (hQ.le hle9) (hg9.sh) rfl ?_
   refine go 1 ?_
   refine zc (with_ct hg9 him z3 hn (by omega)) ?_
   rintro v10 s10 A10 w10 hle10 hg10 hax10 ⟨rfl,a10,c10,rfl,ho10⟩
   refine go 3 ?_
   exact fun ac ha=>⟨_,ha.sub (E':=[(4,ptr r),(9,.slice a7 c.voters.length c7),(10,.slice a10 (insP n c.learners).length c10)]) ⟨rfl,rfl,rfl,trivial⟩,s10,A7,A10,a7,c7,a10,c10,⟨c.voters,insP n c.learners⟩,rfl,hg10,hle9,hx8.trans hax10,ho7.up (RInt.up _) hle9,ho10,hap⟩
  rw[if_neg k1] at hap ⊢
  refine go 5 ?_
  refine CW.eq rfl (fun k2=>?_) (fun k2=>?_)
  ·
   -- a learner votes
   rw[if_pos k2] at hap ⊢
   refine CW.seq (CW.seq (CW.plain ?_))
   refine go 3 ?_
   refine CW.cond rfl (fun h1=>?_) (fun h1=>CW.skip ?_)
   ·
    have h1:n∉c.learners:=by simpa using h1
    refine go 3 ?_
    refine RL.store (i:=2) (j:=0) rfl rfl rfl ty27.out rfl rfl hg8 rfl (if_pos rfl) rfl (by first | (simp[Value.cells,Value.oneCell'];done) | simp[Value.cells,Value.oneCell',putL]) (by first | exact Nat.le_of_ble_eq_true rfl | (simp;done) | (simp;omega) | omega) ?_
    rintro w9 hg9 hax9
    refine go 3 ?_
    exact CW.ret (ret (vs:=[_,_]) ⟨_,_,_,rfl,rfl,loadVar_agg ty27.out (put_same _ _ _) (hg9).drop.drop.1 rfl,_,_,rfl,rfl,rfl⟩ (Post2.mk hle (hg9).drop.drop.drop.nil.nil (hx8.trans hax9) (by rw[if_neg h1];exact COwn.bad)))
   have h1:n∈c.learners:=by simpa using h1
   rw[if_pos h1] at hap
   obtain⟨s9,hg9,hle9,hA9⟩:=Good.shareNext hg8
   have him:=ho7.imm (RInt.up _) hle9 hA9
   refine go 4 ?_
   refine RL.load (j:=1) rfl rfl rfl rfl ty3.out rfl (hQ.le hle9) (hg9.sh) rfl ?_
   refine go 1 ?_
   refine zc (with_ct hg9 him z2 hn (by omega)) ?_
   rintro v10 s10 A10 w10 hle10 hg10 hax10 ⟨rfl,a10,c10,rfl,ho10⟩
   refine go 3 ?_
   obtain⟨s11,hg11,hle11,hB11⟩:=Good.shareNext hg10
   have him:=(ho8.up (RInt.up _) hle9).imm (RInt.up _) hle11 hB11
   refine go 3 ?_
   refine RL.load (j:=1) rfl rfl rfl rfl ty3.out rfl (hQ.le (hle9.trans hle11)) (hg11.sh) rfl ?_
   refine go 1 ?_
   refine zc (without_ct hg11 him (by omega)) ?_
   rintro v12 s12 B12 w12 hle12 hg12 hax12 ⟨b12,d12,rfl,ho12⟩
   refine go 3 ?_
   exact fun ac ha=>⟨_,ha.sub (E':=[(4,ptr r),(9,.slice a10 (insP n c.voters).length c10),(10,.slice b12 (delP n c.learners).length d12)]) ⟨rfl,rfl,rfl,trivial⟩,s12,A10,B12,a10,c10,b12,d12,⟨insP n c.voters,delP n c.learners⟩,rfl,hg12,hle9.trans (hle11.trans hle12),hx8.trans (hax10.trans hax12),ho10.up (RInt.up _) (hle11.trans hle12),ho12,hap⟩
  rw[if_neg k2] at hap ⊢
  refine go 5 ?_
  refine CW.eq rfl (fun k3=>?_) (fun k3=>?_)
  case refine_2 =>
   refine go 3 ?_
   refine RL.store (i:=2) (j:=0) rfl rfl rfl ty27.out rfl rfl hg8 rfl (if_pos rfl) rfl (by first | (simp[Value.cells,Value.oneCell'];done) | simp[Value.cells,Value.oneCell',putL]) (by first | exact Nat.le_of_ble_eq_true rfl | (simp;done) | (simp;omega) | omega) ?_
   rintro w9 hg9 hax9
   refine go 3 ?_
   exact CW.ret (ret (vs:=[_,_]) ⟨_,_,_,rfl,rfl,loadVar_agg ty27.out (put_same _ _ _) (hg9).drop.drop.1 rfl,_,_,rfl,rfl,rfl⟩ (Post2.mk hle (hg9).drop.drop.drop.nil.nil (hx8.trans hax9) (by rw[if_neg k3];exact COwn.bad)))
  -- a node goes
  rw[if_pos k3] at hap ⊢
  refine CW.block (CW.seq (CW.block (CW.seq (CW.block (CW.seq (CW.block (CW.seq (CW.block (CW.seq (CW.seq (CW.seq (CW.plain ?_))))))))))))
  refine go 2 ?_
  refine RL.part 67 rfl (fun h1=>?_) (fun h1=>?_)
  ·
   have h1:n∈c.voters:=of_decide_eq_true h1
   refine go 6 ?_
   refine CW.eq rfl (fun h2=>?_) (fun h2=>?_)
   ·
    refine CW.exit (CW.seq (CW.seq (CW.plain ?_)))
    refine go 1 ?_
    refine RL.store (i:=2) (j:=0) rfl rfl rfl ty27.out rfl rfl hg8 rfl (if_pos rfl) rfl (by first | (simp[Value.cells,Value.oneCell'];done) | simp[Value.cells,Value.oneCell',putL]) (by first | exact Nat.le_of_ble_eq_true rfl | (simp;done) | (simp;omega) | omega) ?_
    rintro w9 hg9 hax9
    refine go 3 ?_
    exact CW.ret (ret (vs:=[_,_]) ⟨_,_,_,rfl,rfl,loadVar_agg ty27.out (put_same _ _ _) (hg9).drop.drop.1 rfl,_,_,rfl,rfl,rfl⟩ (Post2.mk hle (hg9).drop.drop.drop.nil.nil (hx8.trans hax9) (by rw[if_pos ⟨h1,by omega⟩];exact COwn.bad)))
   have h2:¬ (n∈c.voters∧c.voters.length=1):=fun h=>h2 (by omega)
   rw[if_neg h2,if_pos h1] at hap
   refine CW.skip (CW.seq (CW.seq (CW.plain ?_)))
   refine go 3 ?_
   refine CW.cond rfl (fun _=>?_) (fun h=>absurd h1 (of_decide_eq_false h))
   refine CW.exit (CW.plain ?_)
   obtain⟨s9,hg9,hle9,hA9⟩:=Good.shareNext hg8
   have him:=ho7.imm (RInt.up _) hle9 hA9
   refine go 2 ?_
   refine RL.load (j:=1) rfl rfl rfl rfl ty3.out rfl (hQ.le hle9) (hg9.sh) rfl ?_
   refine go 1 ?_
   refine zc (without_ct hg9 him (by omega)) ?_
   rintro v10 s10 A10 w10 hle10 hg10 hax10 ⟨a10,c10,rfl,ho10⟩
   refine go 3 ?_
   obtain⟨s11,hg11,hle11,hB11⟩:=Good.shareNext hg10
   have him:=(ho8.up (RInt.up _) (hle9.trans hle10)).imm (RInt.up _) hle11 hB11
   refine go 4 ?_
   refine RL.load (j:=1) rfl rfl rfl rfl ty3.out rfl (hQ.le (hle9.trans (hle10.trans hle11))) (hg11.sh) rfl ?_
   refine go 1 ?_
   refine zc (without_ct hg11 him (by omega)) ?_
   rintro v12 s12 B12 w12 hle12 hg12 hax12 ⟨b12,d12,rfl,ho12⟩
   refine go 4 ?_
   exact fun ac ha=>⟨_,ha.sub (E':=[(4,ptr r),(9,.slice a10 (delP n c.voters).length c10),(10,.slice b12 (delP n c.learners).length d12)]) ⟨rfl,rfl,rfl,trivial⟩,s12,A10,B12,a10,c10,b12,d12,⟨delP n c.voters,delP n c.learners⟩,rfl,hg12,hle9.trans (hle10.trans (hle11.trans hle12)),hx8.trans (hax10.trans hax12),ho10.up (RInt.up _) (hle11.trans hle12),ho12,hap⟩
  ·
   have h1:n∉c.voters:=of_decide_eq_false h1
   rw[if_neg (fun h=>h1 h.1),if_neg h1] at hap ⊢
   refine go 6 ?_
   refine CW.no rfl (CW.skip (CW.seq (CW.seq (CW.plain ?_))))
   refine go 3 ?_
   refine CW.cond rfl (fun h=>absurd (of_decide_eq_true h) h1) (fun _=>CW.skip (CW.seq (CW.plain ?_)))
   refine go 3 ?_
   refine CW.cond rfl (fun h2=>?_) (fun h2=>?_)
   ·
    have h2:n∈c.learners:=of_decide_eq_true h2
    rw[if_pos h2] at hap
    refine CW.exit (CW.seq (CW.plain ?_))
    obtain⟨s9,hg9,hle9,hB9⟩:=Good.letgo hg8
    have him:=ho8.imm (RInt.up _) hle9 hB9
    refine go 2 ?_
    refine RL.load (j:=1) rfl rfl rfl rfl ty3.out rfl (hQ.le hle9) (hg9.sh) rfl ?_
    refine go 1 ?_
    refine zc (without_ct hg9 him (by omega)) ?_
    rintro v12 s12 B12 w12 hle12 hg12 hax12 ⟨b12,d12,rfl,ho12⟩
    refine go 4 ?_
    exact fun ac ha=>⟨_,ha.sub (E':=[(4,ptr r),(9,.slice a7 c.voters.length c7),(10,.slice b12 (delP n c.learners).length d12)]) ⟨rfl,rfl,rfl,trivial⟩,s12,A7,B12,a7,c7,b12,d12,⟨c.voters,delP n c.learners⟩,rfl,hg12,hle9.trans hle12,hx8.trans hax12,ho7.up (RInt.up _) (hle9.trans hle12),ho12,hap⟩
   ·
    have h2:n∉c.learners:=of_decide_eq_false h2
    refine CW.skip (CW.exit (CW.seq (CW.seq (CW.plain ?_))))
    refine go 1 ?_
    refine RL.store (i:=2) (j:=0) rfl rfl rfl ty27.out rfl rfl hg8 rfl (if_pos rfl) rfl (by first | (simp[Value.cells,Value.oneCell'];done) | simp[Value.cells,Value.oneCell',putL]) (by first | exact Nat.le_of_ble_eq_true rfl | (simp;done) | (simp;omega) | omega) ?_
    rintro w9 hg9 hax9
    refine go 3 ?_
    exact CW.ret (ret (vs:=[_,_]) ⟨_,_,_,rfl,rfl,loadVar_agg ty27.out (put_same _ _ _) (hg9).drop.drop.1 rfl,_,_,rfl,rfl,rfl⟩ (Post2.mk hle (hg9).drop.drop.drop.nil.nil (hx8.trans hax9) (by rw[if_neg h2];exact COwn.bad)))
 rintro E w20 ⟨s20,A20,B20,a20,c20,b20,d20,x,rfl,hg20,hle20,hax20,ho20,hp20,hx20⟩
 rw[←hap,hx20]
 refine go 5 ?_
 refine RL.store (i:=2) (j:=0) rfl rfl rfl ty27.out rfl rfl hg20 rfl (if_pos rfl) rfl (by first | (simp[Value.cells,Value.oneCell'];done) | simp[Value.cells,Value.oneCell',putL]) (by first | exact Nat.le_of_ble_eq_true rfl | (simp;done) | (simp;omega) | omega) ?_
 rintro w21 hg21 hax21
 refine go 3 ?_
 exact CW.ret (ret (vs:=[_,_]) ⟨_,_,_,rfl,rfl,loadVar_agg ty27.out (put_same _ _ _) hg21.drop.drop.1 rfl,_,_,rfl,rfl,rfl⟩ (Post2.mk (hle.trans hle20) (hg21.third3.drop) (hax20.trans hax21) ⟨a20,c20,b20,d20,rfl,ho20,hp20⟩))
end Go.Lw
namespace Go.Lw
open Go.Proofs
theorem delP_le (n:Int) (xs:List Int):(delP n xs).length≤xs.length:=List.length_filter_le _ _
end Go.Lw
namespace Go.Lw
open Go.Proofs
theorem CloneConf_ct {w:World} {s:Res} {os:List Res} {vs:List Value} {c:Conf} (hg:Good w s os) (hc:RConf s vs c) (hb:c.fits) :
  Calls Tryz.prog 81 #[.agg vs.toArray] w (Post w s os fun s' _ r=>∃ us,r = .agg us.toArray∧RConf s' us c):=by
 simp only[Conf.fits] at hb
 obtain⟨a,ac,b,bc,rfl,i1,i2⟩:=hc
 refine enter (l:=[.agg #[.slice a c.voters.length ac,.slice b c.learners.length bc]]) Tryz.func81 rfl Tryz.ntmps81 rfl ?_
 refine go 2 ?_
 refine RL.box rfl rfl rfl rfl rfl hg ?_
 rintro p w0 hg0 hax0
 refine go 1 ?_
 obtain⟨s1,hg0,hle1,hq1⟩:=Good.letgo hg0
 refine RL.alloc rfl rfl rfl rfl ze27.out hg0 ?_
 rintro r w1 hg1 hax1
 refine go 2 ?_
 have hH:Holds s1 ⟨p,0,none⟩ [.slice a c.voters.length ac,.slice b c.learners.length bc]:=(Holds.one p _ _).le hq1
 have i1:=i1.up (RInt.up _) hle1
 have i2:=i2.up (RInt.up _) hle1
 refine go 1 ?_
 have hgD:=hg1.drew
 refine CW.forks (.fork [(true,1),(true,2),(true,5),(true,6)] (.fork [(false,0)] (.line [(false,3),(false,4),(false,7),(true,8),(false,9)]) (.line [(false,4),(false,3),(false,7),(true,8),(false,9)])) (.line [(false,4),(false,0),(false,3),(false,7),(true,8),(false,9)])) (fun w=>In s1 w) mixed (by kernel_rfl) (by kernel_rfl) (by kernel_rfl) (by kernel_rfl) (hgD.sh) ?_
 refine RT.pre (S:=fun w=>In s1 w) (hgD.sh) ?_
 refine go 1 ?_
 refine RL.loadT (j:=0) rfl rfl rfl rfl ty25.out rfl (hH) (fun w h=>h) rfl ?_
 refine go 1 ?_
 refine RL.loadT (j:=1) rfl rfl rfl rfl ty25.out rfl (hH) (fun w h=>h) rfl ?_
 refine go 1 ?_
 refine RT.both (S:=fun w=>In s1 w) (hgD.sh) (RT.pre (S:=fun w=>In s1 w) (hgD.sh) ?_) (RT.end_ (S:=fun w=>In s1 w) (hgD.sh) ?_)
 ·
  refine RL.buildSlice rfl rfl rfl rfl sl25.out ze3.out rfl rfl rfl rfl hgD ?_
  rintro p3 w3 hg3 hax3
  refine⟨hg3.sh,?_⟩
  refine go 1 ?_
  refine RT.both (S:=fun w=>In s1 w) (hg3.sh) (RT.end_ (S:=fun w=>In s1 w) (hg3.sh) ?_) (RT.end_ (S:=fun w=>In s1 w) (hg3.sh) ?_)
  ·
   obtain⟨news6,hsrc6,hch6⟩:=Src.row (c:=ac) sl25.out i1.2.2 hg3.sh
   refine RL.append (i:=0) (ys:=c.voters) rfl rfl rfl rfl sl25.out ze3.out rfl (by first | exact RInt.one _ | exact RStr.one | exact RBool.one | assumption) rfl rfl hg3 rfl (Own.fresh) (hsrc6) (hch6) ((by simp;omega)) (by omega) ?_
   rintro a6 c6 A6 w6 hg6 ho6 hax6 hk6
   refine⟨hg6.sh,?_⟩
   refine RL.buildSlice rfl rfl rfl rfl sl25.out ze3.out rfl rfl rfl rfl hg6 ?_
   rintro p7 w7 hg7 hax7
   refine⟨hg7.sh,?_⟩
   obtain⟨news10,hsrc10,hch10⟩:=Src.row (c:=bc) sl25.out i2.2.2 hg7.sh
   refine RL.append (i:=0) (ys:=c.learners) rfl rfl rfl rfl sl25.out ze3.out rfl (by first | exact RInt.one _ | exact RStr.one | exact RBool.one | assumption) rfl rfl hg7 rfl (Own.fresh) (hsrc10) (hch10) ((by simp;omega)) (by omega) ?_
   rintro a10 c10 A10 w10 hg10 ho10 hax10 hk10
   refine⟨hg10.sh,?_⟩
   refine go 1 ?_
   refine RL.store (i:=2) (j:=0) rfl rfl rfl ty27.out rfl rfl hg10 rfl (if_pos rfl) rfl (by first | (simp[Value.cells,Value.oneCell'];done) | simp[Value.cells,Value.oneCell',putL]) (by first | exact Nat.le_of_ble_eq_true rfl | (simp;done) | (simp;omega) | omega) ?_
   rintro w11 hg11 hax11
   refine⟨hg11.sh,?_⟩
   refine go 1 ?_
   obtain⟨s2,hg12,hle2,hA⟩:=Good.letgo ((hg11.front 0 rfl).front 1 rfl)
   obtain⟨s3,hg13,hle3,hB⟩:=Good.letgo hg12
   exact CW.ret (ret (vs:=[_]) ⟨_,_,_,rfl,rfl,loadVar_agg ty27.out (put_same _ _ _) hg13.1 rfl,rfl⟩ (Post.mk (hle1.trans (hle2.trans hle3)) hg13.drop.nil ((hax0.trans (hax1.trans (Aux.drew _))).trans ((hax3).trans ((hax6).trans ((hax7).trans ((hax10).trans (hax11)))))) ⟨_,rfl,a6,c6,a10,c10,rfl,ho6.imm (RInt.up _) (hle2.trans hle3) (hA.trans hle3),ho10.imm (RInt.up _) (hle2.trans hle3) hB⟩))
  ·
   refine RL.buildSlice rfl rfl rfl rfl sl25.out ze3.out rfl rfl rfl rfl hg3 ?_
   rintro p7 w7 hg7 hax7
   refine⟨hg7.sh,?_⟩
   obtain⟨news6,hsrc6,hch6⟩:=Src.row (c:=ac) sl25.out i1.2.2 hg7.sh
   refine RL.append (i:=1) (ys:=c.voters) rfl rfl rfl rfl sl25.out ze3.out rfl (by first | exact RInt.one _ | exact RStr.one | exact RBool.one | assumption) rfl rfl hg7 rfl (Own.fresh) (hsrc6) (hch6) ((by simp;omega)) (by omega) ?_
   rintro a6 c6 A6 w6 hg6 ho6 hax6 hk6
   refine⟨hg6.sh,?_⟩
   obtain⟨news10,hsrc10,hch10⟩:=Src.row (c:=bc) sl25.out i2.2.2 hg6.sh
   refine RL.append (i:=0) (ys:=c.learners) rfl rfl rfl rfl sl25.out ze3.out rfl (by first | exact RInt.one _ | exact RStr.one | exact RBool.one | assumption) rfl rfl hg6 rfl (Own.fresh) (hsrc10) (hch10) ((by simp;omega)) (by omega) ?_
   rintro a10 c10 A10 w10 hg10 ho10 hax10 hk10
   refine⟨hg10.sh,?_⟩
   refine go 1 ?_
   refine RL.store (i:=2) (j:=0) rfl rfl rfl ty27.out rfl rfl hg10 rfl (if_pos rfl) rfl (by first | (simp[Value.cells,Value.oneCell'];done) | simp[Value.cells,Value.oneCell',putL]) (by first | exact Nat.le_of_ble_eq_true rfl | (simp;done) | (simp;omega) | omega) ?_
   rintro w11 hg11 hax11
   refine⟨hg11.sh,?_⟩
   refine go 1 ?_
   obtain⟨s2,hg12,hle2,hA⟩:=Good.letgo ((hg11.front 0 rfl).front 1 rfl)
   obtain⟨s3,hg13,hle3,hB⟩:=Good.letgo hg12
   exact CW.ret (ret (vs:=[_]) ⟨_,_,_,rfl,rfl,loadVar_agg ty27.out (put_same _ _ _) hg13.1 rfl,rfl⟩ (Post.mk (hle1.trans (hle2.trans hle3)) hg13.drop.nil ((hax0.trans (hax1.trans (Aux.drew _))).trans ((hax3).trans ((hax7).trans ((hax6).trans ((hax10).trans (hax11)))))) ⟨_,rfl,a6,c6,a10,c10,rfl,ho6.imm (RInt.up _) (hle2.trans hle3) (hA.trans hle3),ho10.imm (RInt.up _) (hle2.trans hle3) hB⟩))
 ·
  refine RL.buildSlice rfl rfl rfl rfl sl25.out ze3.out rfl rfl rfl rfl hgD ?_
  rintro p7 w7 hg7 hax7
  refine⟨hg7.sh,?_⟩
  refine RL.buildSlice rfl rfl rfl rfl sl25.out ze3.out rfl rfl rfl rfl hg7 ?_
  rintro p3 w3 hg3 hax3
  refine⟨hg3.sh,?_⟩
  obtain⟨news6,hsrc6,hch6⟩:=Src.row (c:=ac) sl25.out i1.2.2 hg3.sh
  refine RL.append (i:=0) (ys:=c.voters) rfl rfl rfl rfl sl25.out ze3.out rfl (by first | exact RInt.one _ | exact RStr.one | exact RBool.one | assumption) rfl rfl hg3 rfl (Own.fresh) (hsrc6) (hch6) ((by simp;omega)) (by omega) ?_
  rintro a6 c6 A6 w6 hg6 ho6 hax6 hk6
  refine⟨hg6.sh,?_⟩
  obtain⟨news10,hsrc10,hch10⟩:=Src.row (c:=bc) sl25.out i2.2.2 hg6.sh
  refine RL.append (i:=1) (ys:=c.learners) rfl rfl rfl rfl sl25.out ze3.out rfl (by first | exact RInt.one _ | exact RStr.one | exact RBool.one | assumption) rfl rfl hg6 rfl (Own.fresh) (hsrc10) (hch10) ((by simp;omega)) (by omega) ?_
  rintro a10 c10 A10 w10 hg10 ho10 hax10 hk10
  refine⟨hg10.sh,?_⟩
  refine go 1 ?_
  refine RL.store (i:=2) (j:=0) rfl rfl rfl ty27.out rfl rfl hg10 rfl (if_pos rfl) rfl (by first | (simp[Value.cells,Value.oneCell'];done) | simp[Value.cells,Value.oneCell',putL]) (by first | exact Nat.le_of_ble_eq_true rfl | (simp;done) | (simp;omega) | omega) ?_
  rintro w11 hg11 hax11
  refine⟨hg11.sh,?_⟩
  refine go 1 ?_
  obtain⟨s2,hg12,hle2,hA⟩:=Good.letgo ((hg11.front 1 rfl).front 1 rfl)
  obtain⟨s3,hg13,hle3,hB⟩:=Good.letgo hg12
  exact CW.ret (ret (vs:=[_]) ⟨_,_,_,rfl,rfl,loadVar_agg ty27.out (put_same _ _ _) hg13.1 rfl,rfl⟩ (Post.mk (hle1.trans (hle2.trans hle3)) hg13.drop.nil ((hax0.trans (hax1.trans (Aux.drew _))).trans ((hax7).trans ((hax3).trans ((hax6).trans ((hax10).trans (hax11)))))) ⟨_,rfl,a6,c6,a10,c10,rfl,ho6.imm (RInt.up _) (hle2.trans hle3) (hA.trans hle3),ho10.imm (RInt.up _) (hle2.trans hle3) hB⟩))
end Go.Lw
namespace Go.Lw
open Go.Proofs
def CShared (s:Res) (v:Value) (r:Conf × Int):Prop:=∃ us,v = .tuple #[.agg us.toArray,i64 r.2]∧RConf s us r.1
theorem CShared.bad {s:Res} {e:Int}:CShared s (.tuple #[.agg #[nilSl,nilSl],i64 e]) (Conf.none,e):=⟨[nilSl,nilSl],rfl,none,0,none,0,rfl,Imm.nil _ _ _ (Nat.zero_le _),Imm.nil _ _ _ (Nat.zero_le _)⟩
end Go.Lw
namespace Go.Lw
open Go.Proofs
structure Change where
 kind:Int
 node:Int
def RChange:Res→List Value→Change→Prop:=fun _ vs x=>vs=[i64 x.kind,i64 x.node]∧rng .i64 x.kind∧rng .i64 x.node
theorem RChange.up:Up RChange:=fun _ _ _ _ _ h=>h
end Go.Lw
namespace Go.Lw
open Go.Proofs
theorem strict_ext:∀ {xs ys:List Int},xs.Pairwise (· < ·)→ys.Pairwise (· < ·)→(∀ x,x∈xs↔x∈ys)→xs=ys
 | [],[],_,_,_=>rfl
 | [],y::ys,_,_,h=>absurd ((h y).2 (by simp)) (by simp)
 | x::xs,[],_,_,h=>absurd ((h x).1 (by simp)) (by simp)
 | x::xs,y::ys,hx,hy,h=>by
  obtain⟨h1,h2⟩:=List.pairwise_cons.1 hx
  obtain⟨k1,k2⟩:=List.pairwise_cons.1 hy
  have hxy:x=y:=by
   rcases List.mem_cons.1 ((h x).1 (by simp)) with e | hm
   ·
    exact e
   ·
    rcases List.mem_cons.1 ((h y).2 (by simp)) with e | hm2
    ·
     exact e.symm
    ·
     have:=k1 x hm;have:=h1 y hm2;omega
  subst hxy
  rw[strict_ext h2 k2 fun z=>?_]
  constructor
  ·
   intro hz
   rcases List.mem_cons.1 ((h z).1 (by simp[hz])) with e | hm
   ·
    have:=h1 z hz;omega
   ·
    exact hm
  ·
   intro hz
   rcases List.mem_cons.1 ((h z).2 (by simp[hz])) with e | hm
   ·
    have:=k1 z hz;omega
   ·
    exact hm
theorem insP_mem {n x:Int} {l:List Int}:x∈insP n l↔x=n∨x∈l:=by
 simp only[insP,List.mem_append,List.mem_cons,List.mem_filter,decide_eq_true_eq,Bool.not_eq_true',decide_eq_false_iff_not]
 by_cases h:x<n<;>simp[h]
 ·
  constructor
  ·
   rintro (h1 | h1)<;>simp[h1]
  ·
   rintro (h1 | h1)<;>simp[h1]
theorem insP_strict {n:Int} {l:List Int} (hs:l.Pairwise (· < ·)) (hn:n∉l):(insP n l).Pairwise (· < ·):=by
 rw[insP,List.pairwise_append]
 refine⟨hs.filter _,?_,?_⟩
 ·
  rw[List.pairwise_cons]
  refine⟨fun x hx=>?_,hs.filter _⟩
  simp only[List.mem_filter,Bool.not_eq_true',decide_eq_false_iff_not] at hx
  have:x≠n:=fun e=>hn (e▸hx.1)
  omega
 ·
  intro x hx y hy
  simp only[List.mem_filter,decide_eq_true_eq] at hx
  rcases List.mem_cons.1 hy with rfl | hy
  ·
   exact hx.2
  ·
   simp only[List.mem_filter,Bool.not_eq_true',decide_eq_false_iff_not] at hy
   omega
theorem delP_mem {n x:Int} {l:List Int}:x∈delP n l↔x∈l∧x≠n:=by simp[delP]
def othersP (c:Conf) (n:Int):List Int:=uniq (delP n (c.voters++c.learners))
theorem Others_ct {w:World} {s:Res} {os:List Res} {vs:List Value} {c:Conf} {n:Int} (hg:Good w s os) (hc:RConf s vs c) (hb:c.fits) :
  Calls Tryz.prog 142 #[.agg vs.toArray,i64 n] w (Post w s os fun s' A v=>∃ a d,v = .slice a (othersP c n).length d∧OwnI s' A a d (othersP c n)):=by
 simp only[Conf.fits] at hb
 obtain⟨a,ac,b,bc,rfl,i1,i2⟩:=hc
 refine enter (l:=[.agg #[.slice a c.voters.length ac,.slice b c.learners.length bc],i64 n]) Tryz.func142 rfl Tryz.ntmps142 rfl ?_
 refine go 2 ?_
 refine RL.box rfl rfl rfl rfl rfl hg ?_
 rintro p w1 hg1 hax1
 refine go 3 ?_
 obtain⟨s1,hg1,hle1,hq1⟩:=Good.letgo hg1
 have hH:Holds s1 ⟨p,0,none⟩ [.slice a c.voters.length ac,.slice b c.learners.length bc]:=(Holds.one p _ _).le hq1
 have i1:=i1.up (RInt.up _) hle1
 have i2:=i2.up (RInt.up _) hle1
 have hal:(c.voters++c.learners).length=c.voters.length+c.learners.length:=List.length_append
 refine go 3 ?_
 refine RL.load (j:=0) rfl rfl rfl rfl ty25.out rfl (hH) (hg1.sh) rfl ?_
 refine go 1 ?_
 refine RL.load (j:=1) rfl rfl rfl rfl ty25.out rfl (hH) (hg1.sh) rfl ?_
 refine RL.buildSlice rfl rfl rfl rfl sl168.out ze25.out rfl rfl rfl rfl hg1 ?_
 rintro p2 w2 hg2 hax2
 refine go 1 ?_
 obtain⟨s3,hg3,hle3,hq3⟩:=Good.letgo hg2
 refine go 1 ?_
 refine zc (Concat2_ct hg3 (i1.up (RInt.up _) hle3) (i2.up (RInt.up _) hle3) (if_pos rfl) hq3 (by omega)) ?_
 rintro v4 s4 A4 w4 hle4 hg4 hax4 ⟨rfl,a4,c4,rfl,ho4⟩
 refine go 1 ?_
 obtain⟨s5,hg5,hle5,hA5⟩:=Good.letgo hg4
 have him:=ho4.imm (RInt.up _) hle5 hA5
 refine go 2 ?_
 refine zc (without_ct hg5 him (by omega)) ?_
 rintro v6 s6 A6 w6 hle6 hg6 hax6 ⟨a6,c6,rfl,ho6⟩
 refine go 3 ?_
 have hdl:=delP_le n (c.voters++c.learners)
 refine go 4 ?_
 refine zc (Sort_ct hg6 ho6 (by omega)) ?_
 rintro v7 s7 A7 w7 hle7 hg7 hax7 ⟨rfl,rfl,ho7⟩
 refine go 6 ?_
 refine zc (Compact_ct' hg7 ho7 (msort_length _).symm) ?_
 rintro v8 s8 A8 w8 hle8 hg8 hax8 ⟨rfl,rfl,ho8⟩
 refine go 3 ?_
 exact CW.ret (ret (vs:=[_]) ⟨_,_,rfl,rfl,rfl⟩ (Post.mk (hle1.trans (hle3.trans (hle5.trans hle6))) hg8 (hax1.trans (hax2.trans (hax4.trans (hax6.trans (hax7.trans hax8))))) ⟨a6,c6,rfl,ho8⟩))
end Go.Lw
namespace Go.Lw
structure Msg where
 kind:Int
 frm:Int
 to:Int
 term:Int
 index:Int
 logTerm:Int
 entries:List Entry
 commit:Int
 reject:Bool
 hint:Int
 conf:Conf
 data:List Int
 done:Bool
structure Hard where
 term:Int
 vote:Int
 commit:Int
 deriving DecidableEq
structure Coming where
 index:Int
 term:Int
 data:List Int
structure Raft where
 id:Int
 hard:Hard
 log:Log
 role:Int
 leader:Int
 ballots:List Ballot
 peers:List Peer
 elapsed:Int
 beat:Int
 transfer:Int
 part:Coming
structure Out where
 cut:Int
 entries:List Entry
 save:Bool
 install:Bool
 msgs:List Msg
 index:Int
 term:Int
structure Node where
 s:Raft
 o:Out
structure Inp where
 kind:Int
 timeout:Int
 msg:Msg
 data:List Int
 chKind:Int
 chNode:Int
 to:Int
def Conf.zero:Conf:=⟨[],[]⟩
def Msg.zero:Msg:=⟨0,0,0,0,0,0,[],0,false,0,⟨[],[]⟩,[],false⟩
def Hard.zero:Hard:=⟨0,0,0⟩
def Coming.zero:Coming:=⟨0,0,[]⟩
def Raft.zero:Raft:=⟨0,⟨0,0,0⟩,⟨⟨0,0,⟨[],[]⟩,[]⟩,[]⟩,0,0,[],[],0,0,0,⟨0,0,[]⟩⟩
def Out.zero:Out:=⟨0,[],false,false,[],0,0⟩
def p61:Int:=2305843009213693952
abbrev u64 (n:Int):Value:= .int .u64 n
structure Lay where
 ea:Option Addr
 ec:Nat
 va:Option Addr
 vc:Nat
 la:Option Addr
 lc:Nat
 da:Option Addr
 dc:Nat
abbrev msgV (m:Msg) (y:Lay):List Value:=[i64 m.kind,i64 m.frm,i64 m.to,u64 m.term,u64 m.index,u64 m.logTerm,.slice y.ea m.entries.length y.ec,u64 m.commit,.bool m.reject,u64 m.hint,.slice y.va m.conf.voters.length y.vc,.slice y.la m.conf.learners.length y.lc,.slice y.da m.data.length y.dc,.bool m.done]
structure MsgOk (s:Res) (m:Msg) (y:Lay):Prop where
 kind:rng .i64 m.kind
 frm:rng .i64 m.frm
 to:rng .i64 m.to
 term:rng .u64 m.term
 index:rng .u64 m.index
 logTerm:rng .u64 m.logTerm
 commit:rng .u64 m.commit
 hint:rng .u64 m.hint
 entries:Imm REntry 6 s y.ea y.ec m.entries
 voters:Imm (RInt .i64) 1 s y.va y.vc m.conf.voters
 learners:Imm (RInt .i64) 1 s y.la y.lc m.conf.learners
 data:Imm (RInt .u8) 1 s y.da y.dc m.data
theorem MsgOk.up {s s':Res} {m:Msg} {y:Lay} (h:MsgOk s m y) (hl:Le s s'):MsgOk s' m y :=
 { h with entries:=h.entries.up REntry.up hl,voters:=h.voters.up (RInt.up _) hl,learners:=h.learners.up (RInt.up _) hl,data:=h.data.up (RInt.up _) hl }
theorem MsgOk.conf {s:Res} {m:Msg} {y:Lay} (h:MsgOk s m y):RConf s [.slice y.va m.conf.voters.length y.vc,.slice y.la m.conf.learners.length y.lc] m.conf:=⟨_,_,_,_,rfl,h.voters,h.learners⟩
def RMsg:Res→List Value→Msg→Prop:=fun s vs m=>∃ y,vs=msgV m y∧MsgOk s m y
theorem RMsg.up:Up RMsg:=fun _ _ _ _ hl ⟨y,h,h1⟩=>⟨y,h,h1.up hl⟩
theorem RMsg.one:One RMsg:=fun _ _ _ ⟨y,h,_⟩ v hv=>by
 subst h
 simp only[List.mem_cons,List.not_mem_nil,or_false] at hv
 rcases hv with rfl | rfl | rfl | rfl | rfl | rfl | rfl | rfl | rfl | rfl | rfl | rfl | rfl | rfl<;>rfl
structure Hd where
 va:Option Addr
 vc:Nat
 la:Option Addr
 lc:Nat
 da:Option Addr
 dc:Nat
 ea:Option Addr
 ec:Nat
 ba:Option Addr
 bc:Nat
 pa:Option Addr
 pc:Nat
 ta:Option Addr
 tc:Nat
 oa:Option Addr
 oc:Nat
 ma:Option Addr
 mc:Nat
abbrev logV (l:Log) (h:Hd):List Value:=[u64 l.base.index,u64 l.base.term,.slice h.va l.base.conf.voters.length h.vc,.slice h.la l.base.conf.learners.length h.lc,.slice h.da l.base.data.length h.dc,.slice h.ea l.entries.length h.ec]
abbrev raftV (r:Raft) (h:Hd):List Value:=[i64 r.id,u64 r.hard.term,i64 r.hard.vote,u64 r.hard.commit,u64 r.log.base.index,u64 r.log.base.term,.slice h.va r.log.base.conf.voters.length h.vc,.slice h.la r.log.base.conf.learners.length h.lc,.slice h.da r.log.base.data.length h.dc,.slice h.ea r.log.entries.length h.ec,
 i64 r.role,i64 r.leader,.slice h.ba r.ballots.length h.bc,.slice h.pa r.peers.length h.pc,i64 r.elapsed,i64 r.beat,i64 r.transfer,u64 r.part.index,u64 r.part.term,.slice h.ta r.part.data.length h.tc]
abbrev outV (o:Out) (h:Hd):List Value:=[u64 o.cut,.slice h.oa o.entries.length h.oc,.bool o.save,.bool o.install,.slice h.ma o.msgs.length h.mc,u64 o.index,u64 o.term]
abbrev nodeV (n:Node) (h:Hd):List Value:=[i64 n.s.id,u64 n.s.hard.term,i64 n.s.hard.vote,u64 n.s.hard.commit,u64 n.s.log.base.index,u64 n.s.log.base.term,.slice h.va n.s.log.base.conf.voters.length h.vc,.slice h.la n.s.log.base.conf.learners.length h.lc,.slice h.da n.s.log.base.data.length h.dc,.slice h.ea n.s.log.entries.length h.ec,
 i64 n.s.role,i64 n.s.leader,.slice h.ba n.s.ballots.length h.bc,.slice h.pa n.s.peers.length h.pc,i64 n.s.elapsed,i64 n.s.beat,i64 n.s.transfer,u64 n.s.part.index,u64 n.s.part.term,.slice h.ta n.s.part.data.length h.tc,
 u64 n.o.cut,.slice h.oa n.o.entries.length h.oc,.bool n.o.save,.bool n.o.install,.slice h.ma n.o.msgs.length h.mc,u64 n.o.index,u64 n.o.term]
structure LogAt (r s:Res) (l:Log) (h:Hd):Prop where
 index:rng .u64 l.base.index
 term:rng .u64 l.base.term
 voters:Imm (RInt .i64) 1 s h.va h.vc l.base.conf.voters
 learners:Imm (RInt .i64) 1 s h.la h.lc l.base.conf.learners
 data:Imm (RInt .u8) 1 s h.da h.dc l.base.data
 entries:Lies REntry 6 r s h.ea h.ec l.entries
theorem LogAt.up {r s s':Res} {l:Log} {h:Hd} (k:LogAt r s l h) (hl:Le s s'):LogAt r s' l h :=
 ⟨k.index,k.term,k.voters.up (RInt.up _) hl,k.learners.up (RInt.up _) hl,k.data.up (RInt.up _) hl,k.entries.up REntry.up hl⟩
theorem LogAt.mem {r r' s:Res} {l:Log} {h:Hd} (k:LogAt r s l h) (hl:Le r r'):LogAt r' s l h:={ k with entries:=k.entries.mem hl }
theorem LogAt.conf {r s:Res} {l:Log} {h:Hd} (k:LogAt r s l h):RConf s [.slice h.va l.base.conf.voters.length h.vc,.slice h.la l.base.conf.learners.length h.lc] l.base.conf:=⟨_,_,_,_,rfl,k.voters,k.learners⟩
def NRng (n:Node):Prop:=rng .i64 n.s.id∧rng .u64 n.s.hard.term∧rng .i64 n.s.hard.vote∧rng .u64 n.s.hard.commit∧rng .u64 n.s.log.base.index∧rng .u64 n.s.log.base.term
def NRest (s A:Res) (h:Hd) (n:Node):Prop :=
 Imm (RInt .i64) 1 s h.va h.vc n.s.log.base.conf.voters∧Imm (RInt .i64) 1 s h.la h.lc n.s.log.base.conf.learners∧Imm (RInt .u8) 1 s h.da h.dc n.s.log.base.data ∧
 Own REntry 6 65 s A h.ea h.ec n.s.log.entries∧Own RBallot 2 133 s A h.ba h.bc n.s.ballots∧Own RPeer 3 136 s A h.pa h.pc n.s.peers ∧
 Imm (RInt .u8) 1 s h.ta h.tc n.s.part.data∧Own REntry 6 65 s A h.oa h.oc n.o.entries∧Own RMsg 14 56 s A h.ma h.mc n.o.msgs∧Dj h.ea h.oa
structure Nd (s A:Res) (p:Nat) (h:Hd) (n:Node):Prop where
 cells:A p=some (.cells (nodeV n h).toArray 109 (0,0))
 rest:NRest s A h n
theorem NRest.up {s s' A:Res} {h:Hd} {n:Node} (k:NRest s A h n) (hl:Le s s'):NRest s' A h n :=
 let ⟨a,b,c,d,e,f,g,i,j,l⟩:=k
 ⟨a.up (RInt.up _) hl,b.up (RInt.up _) hl,c.up (RInt.up _) hl,d.up REntry.up hl,e.up RBallot.up hl,f.up RPeer.up hl,g.up (RInt.up _) hl,i.up REntry.up hl,j.up RMsg.up hl,l⟩
theorem NRest.put {s A:Res} {h:Hd} {n:Node} {p:Nat} {cs:Array Value} (k:NRest s A h n) (hp:A p=some (.cells cs 109 (0,0))) (x:Obj):NRest s (A.put p x) h n :=
 let ⟨a,b,c,d,e,f,g,i,j,l⟩:=k
 ⟨a,b,c,d.put (d.far hp (by decide)) x,e.put (e.far hp (by decide)) x,f.put (f.far hp (by decide)) x,g,i.put (i.far hp (by decide)) x,j.put (j.far hp (by decide)) x,l⟩
theorem Nd.up {s s' A:Res} {p:Nat} {h:Hd} {n:Node} (k:Nd s A p h n) (hl:Le s s'):Nd s' A p h n:=⟨k.cells,k.rest.up hl⟩
theorem Nd.mem {s A A':Res} {p:Nat} {h:Hd} {n:Node} (k:Nd s A p h n) (hl:Le A A'):Nd s A' p h n :=
 let ⟨k0,a,b,c,d,e,f,g,i,j,l⟩:=k
 ⟨hl _ _ k0,a,b,c,d.mem hl,e.mem hl,f.mem hl,g,i.mem hl,j.mem hl,l⟩
theorem Nd.log {s A:Res} {p:Nat} {h:Hd} {n:Node} (k:Nd s A p h n) (hi:rng .u64 n.s.log.base.index) (ht:rng .u64 n.s.log.base.term):LogAt A s n.s.log h :=
 ⟨hi,ht,k.rest.1,k.rest.2.1,k.rest.2.2.1,k.rest.2.2.2.1.lies⟩
end Go.Lw
namespace Go.Lw
def pieceP (s:Snap) (frm:Int):Msg × Int :=
 if (s.data.length:Int)<frm then (Msg.zero,1)
 else ({ Msg.zero with kind:=7,index:=s.index,logTerm:=s.term,conf:=s.conf,hint:=frm,data:=(s.data.drop frm.toNat).take 64,done:=decide ((s.data.drop frm.toNat).length≤64) },0)
def takeP (p:Coming) (m:Msg):Coming × Bool :=
 let q:=if p.index≠m.index∨p.term≠m.logTerm then (⟨m.index,m.logTerm,[]⟩:Coming) else p
 if m.hint≠q.data.length then (q,false) else ({ q with data:=q.data++m.data },m.done)
def wholeP (p:Coming) (c:Conf):Snap:=⟨p.index,p.term,c,p.data⟩
def blankP (c:Conf):Bool:=decide (c.voters.length+c.learners.length=0)
def mayP (c:Conf):Bool:=blankP c || decide (checkP c=0)
def newBad (id:Int) (h:Hard) (l:Log) (gone:Bool):Bool :=
 decide (id<1∨7<id) || gone || !logOk l || (!mayP (confP l).1 || !mayP l.base.conf || decide (p61≤(lastP l).1∨p61≤h.term) || decide (h.term<(lastP l).2) || decide (h.commit<l.base.index∨(lastP l).1<h.commit) || decide (h.vote<0∨7<h.vote))
def newP (id:Int) (h:Hard) (l:Log) (gone:Bool):Raft × Int :=
 if newBad id h l gone=true then (Raft.zero,1) else ({ Raft.zero with id:=id,hard:=h,log:=l,role:=1 },0)
structure Stat where
 role:Int
 leader:Int
 hard:Hard
 conf:Conf
 last:Int
 base:Int
namespace Node
def last (n:Node):Int:=(lastP n.s.log).1
def voters (n:Node):List Int:=(confP n.s.log).1.voters
def votes (n:Node):Bool:=decide (n.s.id∈n.voters)
def send (n:Node) (m:Msg):Node:={ n with o:={ n.o with msgs:=n.o.msgs++[m] } }
def post (n:Node) (m:Msg):Node:=n.send { m with frm:=n.s.id,term:=if m.term=0 then n.s.hard.term else m.term }
def follow (n:Node) (term leader:Int):Node :=
 { n with s:={ n.s with hard:=if n.s.hard.term<term then { n.s.hard with term:=term,vote:=0 } else n.s.hard,role:=1,leader:=leader,ballots:=[],peers:=[],beat:=0,transfer:=0 } }
def addBallot (n:Node) (frm:Int) (yes:Bool):Node:={ n with s:={ n.s with ballots:=n.s.ballots++[(frm,yes)] } }
def tally (n:Node):Int:=tallyP (uniq n.voters) n.s.ballots
def runs (n:Node) (role:Int):Node:=addBallot { n with s:={ n.s with role:=role,leader:=0,elapsed:=0,transfer:=0,peers:=[],ballots:=[] } } n.s.id true
def questions (n:Node) (kind term:Int) (to:List Int):List Msg :=
 (to.filter fun t=>decide (t≠n.s.id)).map fun t=>{ Msg.zero with kind:=kind,frm:=n.s.id,to:=t,term:=term,index:=(lastP n.s.log).1,logTerm:=(lastP n.s.log).2 }
def question (n:Node) (kind term:Int):Node:={ n with o:={ n.o with msgs:=n.o.msgs++n.questions kind term n.voters } }
def peerOf (was:List Peer) (other next:Int):Peer:=(was.find? fun p=>decide (p.node=other)).getD ⟨other,next,0⟩
def meet (n:Node) (next:Int):Node:={ n with s:={ n.s with peers:=(othersP (confP n.s.log).1 n.s.id).map fun o=>peerOf n.s.peers o next } }
def piece (n:Node) (to frm:Int):Node:=if (pieceP n.s.log.base frm).2=0 then n.post { (pieceP n.s.log.base frm).1 with to:=to } else n
def feed (n:Node) (p:Peer):Node :=
 if p.next≤n.s.log.base.index then n.piece p.node 0
 else n.post { Msg.zero with kind:=5,to:=p.node,index:=p.next-1,logTerm:=(termP n.s.log (p.next-1)).1,entries:=(sliceP n.s.log p.next 8).1,commit:=n.s.hard.commit }
def feeds (n:Node):List Peer→Node
 | []=>n
 | p::l=>feeds (n.feed p) l
def spread (n:Node):Node:=n.feeds n.s.peers
def comK (n:Node) (k:Int):Prop:=Com ((uniq n.voters).map (matchP (n.s.peers++[⟨n.s.id,0,n.last⟩]))) k
open Classical in
noncomputable def com (n:Node):Int:=if h:∃ k,n.comK k then h.choose else 0
theorem com_eq {n:Node} {k:Int} (h:n.comK k):n.com=k:=by
 have hex:∃ k,n.comK k:=⟨k,h⟩
 have:n.com=hex.choose:=by unfold com;rw[dif_pos hex]
 rw[this]
 exact Com.unique hex.choose_spec h (List.Perm.refl _)
noncomputable def count (n:Node):Node :=
 if n.com≤n.s.hard.commit∨(termP n.s.log n.com).1≠n.s.hard.term then n
 else
  let m:Node:={ n with s:={ n.s with hard:={ n.s.hard with commit:=n.com } } }
  if (confP n.s.log).2≤n.com∧n.s.id∉n.voters then m.follow n.s.hard.term 0 else m
noncomputable def put (n:Node) (e:Entry):Node :=
 let x:Entry:={ e with index:=up1 n.last,term:=n.s.hard.term }
 let m:Node:=⟨{ n.s with log:=⟨n.s.log.base,n.s.log.entries++[x]⟩ },{ n.o with entries:=n.o.entries++[x] }⟩
 ((if e.kind=3 then m.meet x.index else m).count).spread
noncomputable def lead (n:Node):Node :=
 (meet { n with s:={ n.s with role:=4,leader:=n.s.id,ballots:=[],elapsed:=0,beat:=0,transfer:=0,peers:=[] } } (up1 n.last)).put ⟨0,0,1,[],⟨[],[]⟩⟩
noncomputable def stand (n:Node):Node :=
 let m:=runs { n with s:={ n.s with hard:={ n.s.hard with term:=up1 n.s.hard.term,vote:=n.s.id } } } 3
 if m.tally=1 then m.lead else m.question 3 m.s.hard.term
noncomputable def ask (n:Node):Node :=
 let m:=n.runs 2
 if m.tally=1 then m.stand else m.question 1 (up1 m.s.hard.term)
noncomputable def tick (n:Node) (timeout:Int):Node :=
 let e:=min (sup1 n.s.elapsed) (max n.s.elapsed 1073741824)
 let m:Node:={ n with s:={ n.s with elapsed:=e } }
 if m.s.role≠4 then if max timeout 1≤e∧m.votes=true then m.ask else m
 else
  let q:Node:=if max timeout 1≤e then { m with s:={ m.s with elapsed:=0,transfer:=0 } } else m
  let b:Node:={ q with s:={ q.s with beat:=sup1 q.s.beat } }
  if 2≤b.s.beat then ({ b with s:={ b.s with beat:=0 } }:Node).spread else b
def peer (n:Node) (other:Int):Option Peer:=n.s.peers.find? fun p=>decide (p.node=other)
def changed (n:Node) (k x:Int):Conf × Int :=
 if n.s.hard.commit<(confP n.s.log).2 then ((confP n.s.log).1,102)
 else if (termP n.s.log n.s.hard.commit).1≠n.s.hard.term then ((confP n.s.log).1,104)
 else if (applyP (confP n.s.log).1 k x).2=0∧k=2∧(∀ p,n.peer x=some p→p.mat<n.s.hard.commit) then ((confP n.s.log).1,103)
 else applyP (confP n.s.log).1 k x
def transferTo (n:Node) (to:Int):Node × Int :=
 match n.peer to with
 | none=>(n,1)
 | some p=>if to∉n.voters then (n,1) else
  let m:Node:={ n with s:={ n.s with transfer:=to,elapsed:=0 } }
  (if p.mat=n.last then m.post { Msg.zero with kind:=9,to:=to } else m.feed p,0)
noncomputable def asked (n:Node) (i:Inp):Node × Int :=
 if n.s.role≠4 then (n,101) else if n.s.transfer≠0 then (n,102) else if i.kind=5 then n.transferTo i.to
 else
  let m:Node:={ n with o:={ n.o with index:=up1 n.last,term:=n.s.hard.term } }
  if i.kind=4 then
   if (n.changed i.chKind i.chNode).2≠0 then (n,(n.changed i.chKind i.chNode).2) else (m.put ⟨0,0,3,[],(n.changed i.chKind i.chNode).1⟩,0)
  else (m.put ⟨0,0,2,i.data,⟨[],[]⟩⟩,0)
noncomputable def stands (n:Node) (m:Msg) (won:Node→Node):Node :=
 let b:=n.addBallot m.frm (!m.reject)
 if b.tally=1 then won b else if b.tally = -1 then b.follow b.s.hard.term 0 else b
def preVote (n:Node) (m:Msg):Node :=
 let yes:=decide (n.s.role≠4∧(n.s.leader=0∨4≤n.s.elapsed)) && decide (n.s.hard.term<m.term) && newerP n.s.log m.index m.logTerm
 n.send { Msg.zero with kind:=2,frm:=n.s.id,to:=m.frm,term:=if yes then m.term else n.s.hard.term,reject:= !yes }
noncomputable def preVoted (n:Node) (m:Msg):Node :=
 if m.reject=true∧n.s.hard.term<m.term then n.follow m.term 0
 else if n.s.role=2∧(m.reject=true∨m.term=up1 n.s.hard.term) then n.stands m stand else n
def vote (n:Node) (m:Msg):Node :=
 let yes:=decide (n.s.hard.vote=0∨n.s.hard.vote=m.frm) && decide (n.s.role=1) && newerP n.s.log m.index m.logTerm
 let q:Node:=if yes=true then { n with s:={ n.s with hard:={ n.s.hard with vote:=m.frm },elapsed:=0 } } else n
 q.post { Msg.zero with kind:=4,to:=m.frm,reject:= !yes }
noncomputable def voted (n:Node) (m:Msg):Node:=if n.s.role=3 then n.stands m lead else n
def late (n:Node) (m:Msg):Node :=
 if m.kind=3 then n.post { Msg.zero with kind:=4,to:=m.frm,reject:=true }
 else if m.kind=5∨m.kind=7 then n.post { Msg.zero with kind:=6,to:=m.frm,reject:=true,index:=m.index,hint:=n.last } else n
def strange (term:Int) (e:Entry):Bool:=decide (term<e.term) || (decide (e.kind=3) && decide (checkP e.conf≠0))
def grow (n:Node) (m:Msg):Node :=
 if n.s.role=4 then n else
 let f:=n.follow n.s.hard.term m.frm
 let q:Node:={ f with s:={ f.s with elapsed:=0 } }
 let c:=q.s.hard.commit
 let r:={ Msg.zero with kind:=6,to:=m.frm }
 if m.index<c then q.post { r with index:=c } else
 let g:=mergeP q.s.log c m.index m.logTerm m.entries
 if g.err=1∨g.err=62∨m.entries.any (strange q.s.hard.term)=true then q
 else if g.err=61 then q.post { r with index:=m.index,reject:=true,hint:=min q.last (max m.index 1-1) }
 else
  let z:Node:=⟨{ q.s with log:=g.log,hard:={ q.s.hard with commit:=max c (min m.commit (m.index+m.entries.length)) } },{ q.o with cut:=g.cut,entries:=g.came }⟩
  z.post { r with index:=m.index+m.entries.length }
def setPeer (n:Node) (other:Int) (f:Peer→Peer):Node :=
 match n.s.peers.findIdx? (fun p=>decide (p.node=other)) with
 | none=>n
 | some i=>{ n with s:={ n.s with peers:=n.s.peers.modify i f } }
noncomputable def grown (n:Node) (m:Msg):Node :=
 match n.peer m.frm with
 | none=>n
 | some p =>
  if n.s.role≠4∨n.last<m.index then n
  else if m.reject=true then
   let q:Peer:={ p with next:=max (if m.hint<m.index then m.hint+1 else max m.index 1) (up1 p.mat) }
   (n.setPeer m.frm fun _=>q).feed q
  else
   let q:Peer:={ p with mat:=max p.mat m.index,next:=max p.next (up1 (max p.mat m.index)) }
   let a:=n.setPeer m.frm fun _=>q
   let b:=a.count
   if b.s.role≠4 then b else
   let c:=if a.s.hard.commit<b.s.hard.commit then b.spread else if q.next≤b.last then b.feed q else b
   if a.s.transfer=m.frm∧q.mat=c.last then c.post { Msg.zero with kind:=9,to:=m.frm } else c
def install (n:Node) (s:Snap):Node :=
 let was:=n.s.log.entries
 match was.findIdx? (fun e=>decide (e.index=s.index∧e.term=s.term)) with
 | some i=>⟨{ n.s with log:=⟨s,was.drop (i+1)⟩,hard:={ n.s.hard with commit:=s.index },part:=Coming.zero },{ n.o with install:=true }⟩
 | none=>⟨{ n.s with log:=⟨s,[]⟩,hard:={ n.s.hard with commit:=s.index },part:=Coming.zero },{ n.o with install:=true,cut:=(was.head?.map (·.index)).getD n.o.cut }⟩
def chunk (n:Node) (m:Msg):Node :=
 if n.s.role=4∨checkP m.conf≠0∨n.s.hard.term<m.logTerm then n else
 let f:=n.follow n.s.hard.term m.frm
 let q:Node:={ f with s:={ f.s with elapsed:=0 } }
 if m.index≤q.s.hard.commit then q.post { Msg.zero with kind:=6,to:=m.frm,index:=q.s.hard.commit } else
 let t:=takeP q.s.part m
 if t.2=false then ({ q with s:={ q.s with part:=t.1 } }:Node).post { Msg.zero with kind:=8,to:=m.frm,index:=m.index,hint:=t.1.data.length }
 else (q.install (wholeP t.1 m.conf)).post { Msg.zero with kind:=6,to:=m.frm,index:=m.index }
def chunked (n:Node) (m:Msg):Node :=
 match n.peer m.frm with
 | none=>n
 | some p=>if n.s.role=4∧p.next≤n.s.log.base.index∧m.index=n.s.log.base.index then n.piece m.frm m.hint else n
noncomputable def now (n:Node):Node:=if n.s.role=1∧n.votes=true then n.stand else n
noncomputable def heard (n:Node) (m:Msg):Node :=
 if m.kind=3 then n.vote m else if m.kind=4 then n.voted m else if m.kind=5 then n.grow m else if m.kind=6 then n.grown m else if m.kind=7 then n.chunk m else if m.kind=8 then n.chunked m else n.now
noncomputable def message (n:Node) (m:Msg):Node :=
 if m.to≠n.s.id∨m.frm=n.s.id∨m.frm<1∨7<m.frm∨p61≤m.term∨p61≤m.index∨p61≤m.commit then n
 else if m.kind=1 then n.preVote m else if m.kind=2 then n.preVoted m
 else if m.kind<3∨9<m.kind then n
 else
  let f:=if n.s.hard.term<m.term then n.follow m.term 0 else n
  if m.term<f.s.hard.term then f.late m else f.heard m
end Node
noncomputable def stepP (s:Raft) (i:Inp):Raft × Out × Int :=
 let n:Node:=⟨s,Out.zero⟩
 let r:Node × Int:=if i.kind=1 then (n.tick i.timeout,0) else if i.kind=2 then (n.message i.msg,0) else if i.kind=3∨i.kind=4∨i.kind=5 then n.asked i else (n,1)
 if r.2≠0 then (s,Out.zero,r.2) else (r.1.s,{ r.1.o with save:=decide (r.1.s.hard≠s.hard) },0)
end Go.Lw
namespace Go.Lw
section
variable {P:Program} {n:Nat} {ops:Array Oper} {Q:Exit→Act→World→Prop} {S:World→Prop} {rest:List (Bool × Oper)} {E:Env} {w:World} {o:Oper} {d:Nat} {v:Value}
variable {s A:Res} {os:List Res} {x y:Operand} {T:Bool}
theorem made_zs (m sz:Nat) (z:Value) (zl:List Value) (hz:z.cells=zl.toArray) (hl:zl.length=sz):madeCells z.cells (m*sz)=(zsL m zl).toArray:=by
 rw[←zsL_spec m sz zl hl]
 unfold madeCells
 rw[hz]
 simp
theorem RL.makeN {t e:TypeId} {sz by_ m:Nat} {z:List Value} (hg:wants ops E o=some true) (hd:o.dst=some d) (hb:Nat.blt d n=true) (ho:o.op = .makeSlice t x y) (ht:slc P t=some (e,sz,by_)) (hz:zer P e=some z) (hzl:z.length=sz)
  (hx:ev E x=some (.int .i64 (m:Nat))) (hy:ev E y=some (.int .i64 (m:Nat))) (hm:by_*m≤281474976710656) (h63:m≤9223372036854775807) (hG:Good w s os)
  (h:∀ b A w',Good w' s (A::os)→Aux w w'→A b=some (.cells (zsL m z).toArray e (0,0))→S w'∧RL P n ops Q S rest ((d,.slice (some ⟨b,0,none⟩) m m)::E) w'):RL P n ops Q S ((false,o)::rest) E w:=by
 obtain⟨hu,inf,hi,hsz,hby⟩:=slc_spec ht
 unfold zer at hz
 cases hzz:inf.zero with
 | none=>simp[hi,hzz] at hz
 | some u =>
  simp[hi,hzz] at hz
  have hrun:=run_make (P:=P) w t e inf u hu hi hzz .i64 .i64 (m:Int) (m:Int) (by omega) (Int.le_refl _) (by rw[hby];omega) (by omega)
  have hcells:madeCells u.cells ((m:Int).toNat*inf.size)=(zsL m z).toArray:=by
   rw[hsz,Int.toNat_natCast]
   exact made_zs m sz u z (by rw[←hz]) hzl
  rw[hcells] at hrun
  obtain⟨h1,h2⟩:=h w.heap.size _ _ (hG.alloc _) (Aux.alloc w _) (if_pos rfl)
  refine RL.step hg hd hb (fun ac ha=>?_) h1 h2
  unfold execOp
  simp only[ho,ha.ev hx,ha.ev hy]
  simp[hrun]
theorem Own.filled {α:Type} {R:Res→List Value→α→Prop} {sz g:Nat} {el:TypeId} {cs:Array Value} {news:List Value} {xs:List α} (hs:cs.size=xs.length*sz) (hch:Chunks R sz s news xs) (hm:xs.length≤maxLen) :
  Own R sz el s (A.put g (.cells (spl cs 0 news) el (0,0))) (some ⟨g,0,none⟩) xs.length xs:=by
 have hl:=hch.length
 refine .inr ⟨g,_,rfl,put_same _ _ _,Nat.le_refl _,hm,?_,?_⟩
 ·
  rw[spl_size (by omega),hs]
 ·
  simp only[spl,List.take_zero,List.nil_append]
  rw[List.take_left' hl]
  exact hch
theorem Own.place {g:Nat} {el:TypeId} {cs:Array Value} {vs:List Value} {i:Nat} (hA:A g=some (.cells cs el (0,0))) (h:∀ (j:Nat) u,vs[j]?=some u→cs.toList[i+j]?=some u):Holds A ((⟨g,0,none⟩:Addr).add i) vs :=
 (Holds.of hA).part i h
theorem RL.makeB {fn:Fn} {bnd cap:Array Operand} {l l2:List Value} (hg:wants ops E o=some true) (hd:o.dst=some d) (hb:Nat.blt d n=true) (ho:o.op = .makeFunc fn bnd cap) (hl:evs E bnd.toList=some l) (hl2:evs E cap.toList=some l2)
  (h:RL P n ops Q S rest ((d,.func fn l.toArray l2.toArray)::E) w):RL P n ops Q S ((T,o)::rest) E w:=by
 refine RL.val hg hd hb (fun w ac ha=>?_) h
 have hargs:(bnd.map ac.eval)=l.toArray:=by
  rw[←Array.toArray_toList (xs:=bnd),List.map_toArray,ha.evs hl]
 have hargs2:(cap.map ac.eval)=l2.toArray:=by
  rw[←Array.toArray_toList (xs:=cap),List.map_toArray,ha.evs hl2]
 unfold execOp
 simp only[ho,hargs,hargs2]
 simp[Instr.makeFunc]
theorem RL.callB {f:FuncId} {args:Array Operand} {ats:Array TypeId} {l:List Value} {bnd cap:Array Value} {R:Ending→World→Prop} (hg:wants ops E o=some true) (hd:o.dst=some d) (hb:Nat.blt d n=true)
  (ho:o.op = .call { callee:= .value x,args:=args,argTypes:=ats }) (hx:ev E x=some (.func (.func f) bnd cap)) (hl:evs E args.toList=some l) (hc:callable P f=true) (hct:Calls P f (bnd++l.toArray++cap) w R)
  (h:∀ e w',R e w'→∃ v,e = .returned v∧S w'∧RL P n ops Q S rest ((d,v)::E) w'):RL P n ops Q S ((false,o)::rest) E w:=fun _ ac ha=>by
 have hargs:(args.map ac.eval)=l.toArray:=by
  rw[←Array.toArray_toList (xs:=args),List.map_toArray,ha.evs hl]
 have hev:ac.eval x = .func (.func f) bnd cap:=ha.ev hx
 simp only[RA,ha.wants hg,if_true]
 unfold Oper.wp
 have hrun:(execOp ac.eval o).run P w = .ok (.enter f (bnd++l.toArray++cap)) w:=by
  unfold execOp
  simp only[ho]
  simp only[resolve,hargs,hev,Deferred.ofValue,invoke,Sem.run_bind,Sem.run_pure,Result.andThen_ok,run_callFunc hc]
 rw[hrun]
 simp only[Oper.upon]
 refine hct.mono fun e w' hp=>?_
 obtain⟨v,rfl,h5,h6⟩:=h e w' hp
 simp only[hd]
 exact⟨h5,h6 h5 _ (ha.put hb v)⟩
end
end Go.Lw
namespace Go.Lw
open Go.Proofs
namespace Node
def wTerm (n:Node) (v:Int):Node:={ n with s:={ n.s with hard:={ n.s.hard with term:=v } } }
def wVote (n:Node) (v:Int):Node:={ n with s:={ n.s with hard:={ n.s.hard with vote:=v } } }
def wCommit (n:Node) (v:Int):Node:={ n with s:={ n.s with hard:={ n.s.hard with commit:=v } } }
def wLog (n:Node) (v:Log):Node:={ n with s:={ n.s with log:=v } }
def wEntries (n:Node) (v:List Entry):Node:={ n with s:={ n.s with log:={ n.s.log with entries:=v } } }
def wRole (n:Node) (v:Int):Node:={ n with s:={ n.s with role:=v } }
def wLeader (n:Node) (v:Int):Node:={ n with s:={ n.s with leader:=v } }
def wBallots (n:Node) (v:List Ballot):Node:={ n with s:={ n.s with ballots:=v } }
def wPeers (n:Node) (v:List Peer):Node:={ n with s:={ n.s with peers:=v } }
def wElapsed (n:Node) (v:Int):Node:={ n with s:={ n.s with elapsed:=v } }
def wBeat (n:Node) (v:Int):Node:={ n with s:={ n.s with beat:=v } }
def wTransfer (n:Node) (v:Int):Node:={ n with s:={ n.s with transfer:=v } }
def wPart (n:Node) (v:Coming):Node:={ n with s:={ n.s with part:=v } }
def wCut (n:Node) (v:Int):Node:={ n with o:={ n.o with cut:=v } }
def wOuts (n:Node) (v:List Entry):Node:={ n with o:={ n.o with entries:=v } }
def wSave (n:Node) (v:Bool):Node:={ n with o:={ n.o with save:=v } }
def wInstall (n:Node) (v:Bool):Node:={ n with o:={ n.o with install:=v } }
def wMsgs (n:Node) (v:List Msg):Node:={ n with o:={ n.o with msgs:=v } }
def wIndex (n:Node) (v:Int):Node:={ n with o:={ n.o with index:=v } }
def wOTerm (n:Node) (v:Int):Node:={ n with o:={ n.o with term:=v } }
end Node
section
variable {s A A':Res} {p c':Nat} {h:Hd} {n:Node} {a':Option Addr}
theorem Nd.to {n':Node} (k:Nd s A p h n) (e:n=n'):Nd s A p h n':=e▸k
theorem NRest.wTerm (k:NRest s A h n) (v:Int):NRest s A h (n.wTerm v):=k
theorem NRest.wVote (k:NRest s A h n) (v:Int):NRest s A h (n.wVote v):=k
theorem NRest.wCommit (k:NRest s A h n) (v:Int):NRest s A h (n.wCommit v):=k
theorem NRest.wRole (k:NRest s A h n) (v:Int):NRest s A h (n.wRole v):=k
theorem NRest.wLeader (k:NRest s A h n) (v:Int):NRest s A h (n.wLeader v):=k
theorem NRest.wElapsed (k:NRest s A h n) (v:Int):NRest s A h (n.wElapsed v):=k
theorem NRest.wBeat (k:NRest s A h n) (v:Int):NRest s A h (n.wBeat v):=k
theorem NRest.wTransfer (k:NRest s A h n) (v:Int):NRest s A h (n.wTransfer v):=k
theorem NRest.wCut (k:NRest s A h n) (v:Int):NRest s A h (n.wCut v):=k
theorem NRest.wIndex (k:NRest s A h n) (v:Int):NRest s A h (n.wIndex v):=k
theorem NRest.wOTerm (k:NRest s A h n) (v:Int):NRest s A h (n.wOTerm v):=k
theorem NRest.wSave (k:NRest s A h n) (v:Bool):NRest s A h (n.wSave v):=k
theorem NRest.wInstall (k:NRest s A h n) (v:Bool):NRest s A h (n.wInstall v):=k
theorem NRest.noBallots (k:NRest s A h n):NRest s A { h with ba:=none,bc:=0 } (n.wBallots []) :=
 let ⟨a,b,c,d,_,f,g,i,j,l⟩:=k
 ⟨a,b,c,d,Own.nil _ _ _ _ _,f,g,i,j,l⟩
theorem NRest.noPeers (k:NRest s A h n):NRest s A { h with pa:=none,pc:=0 } (n.wPeers []) :=
 let ⟨a,b,c,d,e,_,g,i,j,l⟩:=k
 ⟨a,b,c,d,e,Own.nil _ _ _ _ _,g,i,j,l⟩
theorem NRest.noEntries (k:NRest s A h n):NRest s A { h with ea:=none,ec:=0 } (n.wEntries []) :=
 let ⟨a,b,c,_,e,f,g,i,j,_⟩:=k
 ⟨a,b,c,Own.nil _ _ _ _ _,e,f,g,i,j,Dj.none_left _⟩
theorem Nd.entries (k:Nd s A p h n):Own REntry 6 65 s A h.ea h.ec n.s.log.entries:=k.rest.2.2.2.1
theorem Nd.ballots (k:Nd s A p h n):Own RBallot 2 133 s A h.ba h.bc n.s.ballots:=k.rest.2.2.2.2.1
theorem Nd.peers (k:Nd s A p h n):Own RPeer 3 136 s A h.pa h.pc n.s.peers:=k.rest.2.2.2.2.2.1
theorem Nd.outs (k:Nd s A p h n):Own REntry 6 65 s A h.oa h.oc n.o.entries:=k.rest.2.2.2.2.2.2.2.1
theorem Nd.msgs (k:Nd s A p h n):Own RMsg 14 56 s A h.ma h.mc n.o.msgs:=k.rest.2.2.2.2.2.2.2.2.1
theorem Nd.apart {α:Type} {R:Res→List Value→α→Prop} {sz c:Nat} {el:TypeId} {a:Option Addr} {xs:List α} (k:Nd s A p h n) (ho:Own R sz el s A a c xs) (hne:el≠109) (hk:∀ b,A b≠none→(∀ ad,a=some ad→ad.block≠b)→A' b=A b):A' p=A p :=
 hk p (by rw[k.cells];simp) (ho.far k.cells hne)
theorem Nd.appBallots {ys:List Ballot} (k:Nd s A p h n) (ho:Own RBallot 2 133 s A' a' c' (n.s.ballots++ys)) (hk:∀ b,A b≠none→(∀ ad,h.ba=some ad→ad.block≠b)→A' b=A b) :
  A' p=some (.cells (nodeV n h).toArray 109 (0,0))∧NRest s A' { h with ba:=a',bc:=c' } (n.wBallots (n.s.ballots++ys)):=by
 refine⟨(k.apart k.ballots (by decide) hk).trans k.cells,?_⟩
 have hb:=k.ballots
 obtain⟨a,b,c,d,e,f,g,i,j,l⟩:=k.rest
 exact⟨a,b,c,d.kept (hb.dj d (by decide)) hk,ho,f.kept (hb.dj f (by decide)) hk,g,i.kept (hb.dj i (by decide)) hk,j.kept (hb.dj j (by decide)) hk,l⟩
theorem Nd.appPeers {ys:List Peer} (k:Nd s A p h n) (ho:Own RPeer 3 136 s A' a' c' (n.s.peers++ys)) (hk:∀ b,A b≠none→(∀ ad,h.pa=some ad→ad.block≠b)→A' b=A b) :
  A' p=some (.cells (nodeV n h).toArray 109 (0,0))∧NRest s A' { h with pa:=a',pc:=c' } (n.wPeers (n.s.peers++ys)):=by
 refine⟨(k.apart k.peers (by decide) hk).trans k.cells,?_⟩
 have hb:=k.peers
 obtain⟨a,b,c,d,e,f,g,i,j,l⟩:=k.rest
 exact⟨a,b,c,d.kept (hb.dj d (by decide)) hk,e.kept (hb.dj e (by decide)) hk,ho,g,i.kept (hb.dj i (by decide)) hk,j.kept (hb.dj j (by decide)) hk,l⟩
theorem Nd.appMsgs {ys:List Msg} (k:Nd s A p h n) (ho:Own RMsg 14 56 s A' a' c' (n.o.msgs++ys)) (hk:∀ b,A b≠none→(∀ ad,h.ma=some ad→ad.block≠b)→A' b=A b) :
  A' p=some (.cells (nodeV n h).toArray 109 (0,0))∧NRest s A' { h with ma:=a',mc:=c' } (n.wMsgs (n.o.msgs++ys)):=by
 refine⟨(k.apart k.msgs (by decide) hk).trans k.cells,?_⟩
 have hb:=k.msgs
 obtain⟨a,b,c,d,e,f,g,i,j,l⟩:=k.rest
 exact⟨a,b,c,d.kept (hb.dj d (by decide)) hk,e.kept (hb.dj e (by decide)) hk,f.kept (hb.dj f (by decide)) hk,g,i.kept (hb.dj i (by decide)) hk,ho,l⟩
theorem Dj.grow {B:Res} {a b:Option Addr} {α:Type} {R:Res→List Value→α→Prop} {sz c:Nat} {el:TypeId} {xs:List α} (hd:Dj a b) (ho:Own R sz el s A b c xs) (hn:∀ ad,a'=some ad→a=some ad∨A ad.block=none):Dj a' b:=by
 intro x y hx hy e
 rcases hn x hx with h1 | h1
 ·
  exact hd x y h1 hy e
 ·
  rw[e] at h1
  exact ho.addr hy h1
theorem Nd.appEntries {ys:List Entry} (k:Nd s A p h n) (ho:Own REntry 6 65 s A' a' c' (n.s.log.entries++ys)) (hk:∀ b,A b≠none→(∀ ad,h.ea=some ad→ad.block≠b)→A' b=A b) (hn:∀ ad,a'=some ad→h.ea=some ad∨A ad.block=none) :
  A' p=some (.cells (nodeV n h).toArray 109 (0,0))∧NRest s A' { h with ea:=a',ec:=c' } (n.wEntries (n.s.log.entries++ys)):=by
 refine⟨(k.apart k.entries (by decide) hk).trans k.cells,?_⟩
 have hb:=k.entries
 obtain⟨a,b,c,d,e,f,g,i,j,l⟩:=k.rest
 exact⟨a,b,c,ho,e.kept (hb.dj e (by decide)) hk,f.kept (hb.dj f (by decide)) hk,g,i.kept l hk,j.kept (hb.dj j (by decide)) hk,l.grow (B:=A) i hn⟩
theorem Nd.appOuts {ys:List Entry} (k:Nd s A p h n) (ho:Own REntry 6 65 s A' a' c' (n.o.entries++ys)) (hk:∀ b,A b≠none→(∀ ad,h.oa=some ad→ad.block≠b)→A' b=A b) (hn:∀ ad,a'=some ad→h.oa=some ad∨A ad.block=none) :
  A' p=some (.cells (nodeV n h).toArray 109 (0,0))∧NRest s A' { h with oa:=a',oc:=c' } (n.wOuts (n.o.entries++ys)):=by
 refine⟨(k.apart k.outs (by decide) hk).trans k.cells,?_⟩
 have hb:=k.outs
 obtain⟨a,b,c,d,e,f,g,i,j,l⟩:=k.rest
 exact⟨a,b,c,d.kept l.symm hk,e.kept (hb.dj e (by decide)) hk,f.kept (hb.dj f (by decide)) hk,g,ho,j.kept (hb.dj j (by decide)) hk,(l.symm.grow (B:=A) d hn).symm⟩
end
section
variable {P:Program} {m:Nat} {ops:Array Oper} {Q:Exit→Act→World→Prop} {S:World→Prop} {rest:List (Bool × Oper)} {E:Env} {w:World} {o:Oper} {d:Nat} {v:Value}
variable {s A:Res} {os:List Res} {x y:Operand} {T:Bool} {p:Nat} {h1:Hd} {n1:Node}
theorem RL.storeN {t:TypeId} {k j:Nat} {i:Nat} {ag:Bool} {cs:Array Value} {u:Value} (hg:wants ops E o=some true) (hd:o.dst=none) (ho:o.op = .store t x y) (ht:tyc P t=some (ag,k))
  (hx:ev E x=some (.pointer (some ((⟨p,0,none⟩:Addr).add j)))) (hy:ev E y=some u) (hG:Good w s os) (hi:os[i]?=some A) (hA:A p=some (.cells cs 109 (0,0))) (hr:NRest s A h1 n1) (hk:u.cells.size=k) (ho1:∀ z∈u.cells.toList,z.oneCell'=true) (hj:j+k≤cs.size)
  (he:cs.toList.take j++u.cells.toList++cs.toList.drop (j+k)=nodeV n1 h1)
  (h:∀ w' A',Good w' s (os.set i A')→Aux w w'→Nd s A' p h1 n1→S w'∧RL P m ops Q S rest E w'):RL P m ops Q S ((false,o)::rest) E w :=
 RL.store hg hd ho ht hx hy hG hi hA hk ho1 hj fun w' h2 h3=>by
  rw[he] at h2
  exact h w' _ h2 h3 ⟨put_same _ _ _,hr.put hA _⟩
theorem RL.storeI {t:TypeId} {k j:Nat} {i:Nat} {ag:Bool} {cs:Array Value} {kk:IntKind} {v:Int} {n1:Int→Node} (hg:wants ops E o=some true) (hd:o.dst=none) (ho:o.op = .store t x y) (ht:tyc P t=some (ag,k))
  (hx:ev E x=some (.pointer (some ((⟨p,0,none⟩:Addr).add j)))) (hy:ev E y=some (.int kk v)) (hG:Good w s os) (hi:os[i]?=some A) (hA:A p=some (.cells cs 109 (0,0))) (hr:∀ v,NRest s A h1 (n1 v)) (hk:1=k) (hj:j+k≤cs.size)
  (he:cs.toList.take j++[.int kk v]++cs.toList.drop (j+k)=nodeV (n1 v) h1)
  (h:∀ w' A',Good w' s (os.set i A')→Aux w w'→Nd s A' p h1 (n1 v)→S w'∧RL P m ops Q S rest E w'):RL P m ops Q S ((false,o)::rest) E w :=
 RL.storeN hg hd ho ht hx hy hG hi hA (hr v) hk (by simp[Value.cells,Value.oneCell']) hj he h
theorem RL.storeT {t:TypeId} {k j:Nat} {i:Nat} {ag:Bool} {cs:Array Value} {v:Bool} {n1:Bool→Node} (hg:wants ops E o=some true) (hd:o.dst=none) (ho:o.op = .store t x y) (ht:tyc P t=some (ag,k))
  (hx:ev E x=some (.pointer (some ((⟨p,0,none⟩:Addr).add j)))) (hy:ev E y=some (.bool v)) (hG:Good w s os) (hi:os[i]?=some A) (hA:A p=some (.cells cs 109 (0,0))) (hr:∀ v,NRest s A h1 (n1 v)) (hk:1=k) (hj:j+k≤cs.size)
  (he:cs.toList.take j++[.bool v]++cs.toList.drop (j+k)=nodeV (n1 v) h1)
  (h:∀ w' A',Good w' s (os.set i A')→Aux w w'→Nd s A' p h1 (n1 v)→S w'∧RL P m ops Q S rest E w'):RL P m ops Q S ((false,o)::rest) E w :=
 RL.storeN hg hd ho ht hx hy hG hi hA (hr v) hk (by simp[Value.cells,Value.oneCell']) hj he h
theorem RL.sN {t:TypeId} {k j:Nat} {i:Nat} {ag:Bool} {cs:Array Value} {u:Value} (hG:Good w s os) (hA:A p=some (.cells cs 109 (0,0))) (hr:NRest s A h1 n1) (h:∀ w' A',Good w' s (os.set i A')→Aux w w'→Nd s A' p h1 n1→S w'∧RL P m ops Q S rest E w') (hg:wants ops E o=some true:=by exact rfl) (hd:o.dst=none:=by exact rfl) (ho:o.op = .store t x y:=by exact rfl) (ht:tyc P t=some (ag,k):=by exact Fk.out) (hx:ev E x=some (.pointer (some ((⟨p,0,none⟩:Addr).add j))):=by exact rfl) (hy:ev E y=some (u):=by exact rfl) (hi:os[i]?=some A:=by exact rfl) (hk:u.cells.size=k:=by exact rfl) (ho1:∀ z∈u.cells.toList,z.oneCell'=true:=by first | (simp[Value.cells,Value.oneCell'];done) | simp[Value.cells,Value.oneCell',putL]) (hj:j+k≤cs.size:=by first | exact Nat.le_of_ble_eq_true rfl | (simp;done) | (simp;omega) | omega) (he:cs.toList.take j++u.cells.toList++cs.toList.drop (j+k)=nodeV n1 h1:=by exact rfl):RL P m ops Q S ((false,o)::rest) E w:=RL.storeN hg hd ho ht hx hy hG hi hA hr hk ho1 hj he h
theorem RL.sI {t:TypeId} {k j:Nat} {i:Nat} {ag:Bool} {cs:Array Value} {kk:IntKind} {v:Int} {n1:Int→Node} (hG:Good w s os) (hA:A p=some (.cells cs 109 (0,0))) (hr:∀ v,NRest s A h1 (n1 v)) (h:∀ w' A',Good w' s (os.set i A')→Aux w w'→Nd s A' p h1 (n1 v)→S w'∧RL P m ops Q S rest E w') (hg:wants ops E o=some true:=by exact rfl) (hd:o.dst=none:=by exact rfl) (ho:o.op = .store t x y:=by exact rfl) (ht:tyc P t=some (ag,k):=by exact Fk.out) (hx:ev E x=some (.pointer (some ((⟨p,0,none⟩:Addr).add j))):=by exact rfl) (hy:ev E y=some (.int kk v):=by exact rfl) (hi:os[i]?=some A:=by exact rfl) (hk:1=k:=by exact rfl) (hj:j+k≤cs.size:=by exact Nat.le_of_ble_eq_true rfl) (he:cs.toList.take j++[.int kk v]++cs.toList.drop (j+k)=nodeV (n1 v) h1:=by exact rfl):RL P m ops Q S ((false,o)::rest) E w:=RL.storeI hg hd ho ht hx hy hG hi hA hr hk hj he h
theorem RL.sT {t:TypeId} {k j:Nat} {i:Nat} {ag:Bool} {cs:Array Value} {v:Bool} {n1:Bool→Node} (hG:Good w s os) (hA:A p=some (.cells cs 109 (0,0))) (hr:∀ v,NRest s A h1 (n1 v)) (h:∀ w' A',Good w' s (os.set i A')→Aux w w'→Nd s A' p h1 (n1 v)→S w'∧RL P m ops Q S rest E w') (hg:wants ops E o=some true:=by exact rfl) (hd:o.dst=none:=by exact rfl) (ho:o.op = .store t x y:=by exact rfl) (ht:tyc P t=some (ag,k):=by exact Fk.out) (hx:ev E x=some (.pointer (some ((⟨p,0,none⟩:Addr).add j))):=by exact rfl) (hy:ev E y=some (.bool v):=by exact rfl) (hi:os[i]?=some A:=by exact rfl) (hk:1=k:=by exact rfl) (hj:j+k≤cs.size:=by exact Nat.le_of_ble_eq_true rfl) (he:cs.toList.take j++[.bool v]++cs.toList.drop (j+k)=nodeV (n1 v) h1:=by exact rfl):RL P m ops Q S ((false,o)::rest) E w:=RL.storeT hg hd ho ht hx hy hG hi hA hr hk hj he h
end
end Go.Lw
namespace Go.Lw
open Go.Proofs
attribute [local irreducible] RL RA
theorem CloneB_ct {w:World} {s r:Res} {os:List Res} {xs:List Int} {xa:Option Addr} {xc:Nat} (hg:Good w s os) (hr:r=s∨r∈os) (hx:xs=[]∨∃ ad,xa=some ad∧Row (RInt .u8) 1 r s ad xs) (hl:xs.length*1≤140737488355328) :
  Calls Tryz.prog 61 #[.slice xa xs.length xc] w (Post w s os fun s' A v=>s'=s∧∃ a c,v = .slice a xs.length c∧Own (RInt .u8) 1 5 s' A a c xs):=by
 have hone:=RInt.one .u8
 refine enter (l:=[.slice xa xs.length xc]) Tryz.func61 rfl Tryz.ntmps61 rfl ?_
 refine go 4 ?_
 refine CW.seq (CW.seq (CW.plain ?_))
 refine go 1 ?_
 refine RL.nilEq rfl rfl rfl rfl sl28.out rfl rfl ?_
 refine go 1 ?_
 refine CW.cond rfl (fun h=>?_) (fun h=>?_)
 ·
  refine CW.seq (CW.plain ?_)
  refine go 2 ?_
  have hnil:xs=[]:=by
   rcases hx with hx | ⟨ad,rfl,_⟩
   ·
    exact hx
   ·
    cases h
  subst hnil
  exact CW.ret (ret (vs:=[_]) ⟨_,_,rfl,rfl,rfl⟩ (Post.mk (Le.refl _) hg.nil (Aux.refl _) ⟨rfl,none,0,rfl,Own.nil _ _ _ _ _⟩))
 ·
  refine CW.skip ?_
  refine go 2 ?_
  refine RL.buildSlice rfl rfl rfl rfl sl28.out ze5.out rfl rfl rfl rfl hg ?_
  rintro b w1 hg1 hax1
  refine go 2 ?_
  obtain⟨news,hsrc,hch⟩:=Src.row (c:=xc) sl28.out hx (hg1.drop.has hr)
  refine RL.append (i:=0) (ys:=xs) rfl rfl rfl rfl sl28.out ze5.out rfl (by first | exact RInt.one _ | exact RStr.one | exact RBool.one | assumption) rfl rfl hg1 rfl (Own.fresh (R:=(RInt .u8)) (sz:=1) (el:=5) (s:=s) (b:=b)) (hsrc) (hch) ((by simp;omega)) (by omega) ?_
  rintro a2 c2 A2 w2 hg2 hown2 hax2 hkeep
  refine go 3 ?_
  exact CW.ret (ret (vs:=[_]) ⟨_,_,rfl,rfl,rfl⟩ (Post.mk (Le.refl _) hg2 (hax1.trans hax2) ⟨rfl,a2,c2,rfl,hown2⟩))
theorem CloneE_ct {w:World} {s r:Res} {os:List Res} {xs:List Entry} {xa:Option Addr} {xc:Nat} (hg:Good w s os) (hr:r=s∨r∈os) (hx:xs=[]∨∃ ad,xa=some ad∧Row REntry 6 r s ad xs) (hl:xs.length*96≤140737488355328) :
  Calls Tryz.prog 63 #[.slice xa xs.length xc] w (Post w s os fun s' A v=>s'=s∧∃ a c,v = .slice a xs.length c∧Own REntry 6 65 s' A a c xs):=by
 have hone:=REntry.one
 refine enter (l:=[.slice xa xs.length xc]) Tryz.func63 rfl Tryz.ntmps63 rfl ?_
 refine go 4 ?_
 refine CW.seq (CW.seq (CW.plain ?_))
 refine go 1 ?_
 refine RL.nilEq rfl rfl rfl rfl sl31.out rfl rfl ?_
 refine go 1 ?_
 refine CW.cond rfl (fun h=>?_) (fun h=>?_)
 ·
  refine CW.seq (CW.plain ?_)
  refine go 2 ?_
  have hnil:xs=[]:=by
   rcases hx with hx | ⟨ad,rfl,_⟩
   ·
    exact hx
   ·
    cases h
  subst hnil
  exact CW.ret (ret (vs:=[_]) ⟨_,_,rfl,rfl,rfl⟩ (Post.mk (Le.refl _) hg.nil (Aux.refl _) ⟨rfl,none,0,rfl,Own.nil _ _ _ _ _⟩))
 ·
  refine CW.skip ?_
  refine go 2 ?_
  refine RL.buildSlice rfl rfl rfl rfl sl31.out ze65.out rfl rfl rfl rfl hg ?_
  rintro b w1 hg1 hax1
  refine go 2 ?_
  obtain⟨news,hsrc,hch⟩:=Src.row (c:=xc) sl31.out hx (hg1.drop.has hr)
  refine RL.append (i:=0) (ys:=xs) rfl rfl rfl rfl sl31.out ze65.out rfl (by first | exact RInt.one _ | exact RStr.one | exact RBool.one | assumption) rfl rfl hg1 rfl (Own.fresh (R:=REntry) (sz:=6) (el:=65) (s:=s) (b:=b)) (hsrc) (hch) ((by simp;omega)) (by omega) ?_
  rintro a2 c2 A2 w2 hg2 hown2 hax2 hkeep
  refine go 3 ?_
  exact CW.ret (ret (vs:=[_]) ⟨_,_,rfl,rfl,rfl⟩ (Post.mk (Le.refl _) hg2 (hax1.trans hax2) ⟨rfl,a2,c2,rfl,hown2⟩))
theorem CloneBl_ct {w:World} {s r:Res} {os:List Res} {xs:List Ballot} {xa:Option Addr} {xc:Nat} (hg:Good w s os) (hr:r=s∨r∈os) (hx:xs=[]∨∃ ad,xa=some ad∧Row RBallot 2 r s ad xs) (hl:xs.length*16≤140737488355328) :
  Calls Tryz.prog 65 #[.slice xa xs.length xc] w (Post w s os fun s' A v=>s'=s∧∃ a c,v = .slice a xs.length c∧Own RBallot 2 133 s' A a c xs):=by
 have hone:=RBallot.one
 refine enter (l:=[.slice xa xs.length xc]) Tryz.func65 rfl Tryz.ntmps65 rfl ?_
 refine go 4 ?_
 refine CW.seq (CW.seq (CW.plain ?_))
 refine go 1 ?_
 refine RL.nilEq rfl rfl rfl rfl sl39.out rfl rfl ?_
 refine go 1 ?_
 refine CW.cond rfl (fun h=>?_) (fun h=>?_)
 ·
  refine CW.seq (CW.plain ?_)
  refine go 2 ?_
  have hnil:xs=[]:=by
   rcases hx with hx | ⟨ad,rfl,_⟩
   ·
    exact hx
   ·
    cases h
  subst hnil
  exact CW.ret (ret (vs:=[_]) ⟨_,_,rfl,rfl,rfl⟩ (Post.mk (Le.refl _) hg.nil (Aux.refl _) ⟨rfl,none,0,rfl,Own.nil _ _ _ _ _⟩))
 ·
  refine CW.skip ?_
  refine go 2 ?_
  refine RL.buildSlice rfl rfl rfl rfl sl39.out ze133.out rfl rfl rfl rfl hg ?_
  rintro b w1 hg1 hax1
  refine go 2 ?_
  obtain⟨news,hsrc,hch⟩:=Src.row (c:=xc) sl39.out hx (hg1.drop.has hr)
  refine RL.append (i:=0) (ys:=xs) rfl rfl rfl rfl sl39.out ze133.out rfl (by first | exact RInt.one _ | exact RStr.one | exact RBool.one | assumption) rfl rfl hg1 rfl (Own.fresh (R:=RBallot) (sz:=2) (el:=133) (s:=s) (b:=b)) (hsrc) (hch) ((by simp;omega)) (by omega) ?_
  rintro a2 c2 A2 w2 hg2 hown2 hax2 hkeep
  refine go 3 ?_
  exact CW.ret (ret (vs:=[_]) ⟨_,_,rfl,rfl,rfl⟩ (Post.mk (Le.refl _) hg2 (hax1.trans hax2) ⟨rfl,a2,c2,rfl,hown2⟩))
theorem ClonePe_ct {w:World} {s r:Res} {os:List Res} {xs:List Peer} {xa:Option Addr} {xc:Nat} (hg:Good w s os) (hr:r=s∨r∈os) (hx:xs=[]∨∃ ad,xa=some ad∧Row RPeer 3 r s ad xs) (hl:xs.length*24≤140737488355328) :
  Calls Tryz.prog 66 #[.slice xa xs.length xc] w (Post w s os fun s' A v=>s'=s∧∃ a c,v = .slice a xs.length c∧Own RPeer 3 136 s' A a c xs):=by
 have hone:=RPeer.one
 refine enter (l:=[.slice xa xs.length xc]) Tryz.func66 rfl Tryz.ntmps66 rfl ?_
 refine go 4 ?_
 refine CW.seq (CW.seq (CW.plain ?_))
 refine go 1 ?_
 refine RL.nilEq rfl rfl rfl rfl sl40.out rfl rfl ?_
 refine go 1 ?_
 refine CW.cond rfl (fun h=>?_) (fun h=>?_)
 ·
  refine CW.seq (CW.plain ?_)
  refine go 2 ?_
  have hnil:xs=[]:=by
   rcases hx with hx | ⟨ad,rfl,_⟩
   ·
    exact hx
   ·
    cases h
  subst hnil
  exact CW.ret (ret (vs:=[_]) ⟨_,_,rfl,rfl,rfl⟩ (Post.mk (Le.refl _) hg.nil (Aux.refl _) ⟨rfl,none,0,rfl,Own.nil _ _ _ _ _⟩))
 ·
  refine CW.skip ?_
  refine go 2 ?_
  refine RL.buildSlice rfl rfl rfl rfl sl40.out ze136.out rfl rfl rfl rfl hg ?_
  rintro b w1 hg1 hax1
  refine go 2 ?_
  obtain⟨news,hsrc,hch⟩:=Src.row (c:=xc) sl40.out hx (hg1.drop.has hr)
  refine RL.append (i:=0) (ys:=xs) rfl rfl rfl rfl sl40.out ze136.out rfl (by first | exact RInt.one _ | exact RStr.one | exact RBool.one | assumption) rfl rfl hg1 rfl (Own.fresh (R:=RPeer) (sz:=3) (el:=136) (s:=s) (b:=b)) (hsrc) (hch) ((by simp;omega)) (by omega) ?_
  rintro a2 c2 A2 w2 hg2 hown2 hax2 hkeep
  refine go 3 ?_
  exact CW.ret (ret (vs:=[_]) ⟨_,_,rfl,rfl,rfl⟩ (Post.mk (Le.refl _) hg2 (hax1.trans hax2) ⟨rfl,a2,c2,rfl,hown2⟩))
end Go.Lw
