/-
  Parts of the proof of the laws RaftcoreChangesUptoSaid: SortC, SortD, SortE, SortF, SortG, SortH, QuorumG, SlBs, QuorumH, QuorumI, SlFn, Rules8, SlMk, SlIn, RcA, RcB, RcC, RcD, RcE, RcF, RcG, KcT, KcQ, RowM.
-/
import Derived.Test.YtpjclnomaemokaaGreatRhA1
import Derived.Shelf.SortM.So_math_bits_LenIn
import Derived.Sort.EveryDepth
import Derived.Sort.WalkA14
import Derived.Sort.LotD1
import Derived.Sort.LotD3
import Derived.Laws.MakeOwn
import Derived.Laws.Externs
import Derived.Lib.Overlaps
set_option maxRecDepth 100000
set_option maxHeartbeats 16000000
set_option linter.all false
namespace Go.Lw
open Go.Proofs
open Go.Sort (swp size_swp)
theorem Rv {p:Int→Bool} {d:Array Int} {j i:Nat} (h:i≤j) (hp:p d[i]! = true):Go.Sort.scanUp p d j i=Go.Sort.scanUp p d j (i+1):=by
 rw[Go.Sort.scanUp,if_pos (by simp[h,hp])]
theorem Fe {p:Int→Bool} {d:Array Int} {j i:Nat} (h:¬ i≤j∨p d[i]! = false):Go.Sort.scanUp p d j i=i:=by
 rw[Go.Sort.scanUp,if_neg]
 rcases h with h | h
 simp[h]
 simp[h]
theorem Ru {p:Int→Bool} {d:Array Int} {j i:Nat} (h:i≤j) (hi:1≤i) (hp:p d[j]! = true):Go.Sort.scanDown p d i j=Go.Sort.scanDown p d i (j-1):=by
 obtain⟨j,rfl⟩:∃ m,j=m+1:=⟨j-1,by omega⟩
 rw[Go.Sort.scanDown,if_pos (by simp[h,hp])]
 rfl
theorem Fd {p:Int→Bool} {d:Array Int} {j i:Nat} (h:¬ i≤j∨p d[j]! = false):Go.Sort.scanDown p d i j=j:=by
 cases j with
 | zero=>rfl
 | succ j =>
  rw[Go.Sort.scanDown,if_neg]
  rcases h with h | h
  simp[h]
  simp[h]
theorem aiN {a i j:Nat} {d:Array Int} {i2 j2:Nat} (h1:Go.Sort.scanUp (fun x=>bf x d[a]!) d j i=i2) (h2:Go.Sort.scanDown (fun x=> !bf x d[a]!) d i2 j=j2) (hi:i≤i2) (hj:j2≤j) :
  Go.Sort.partLoop bf a i j d=if i2>j2 then (j2,d) else Go.Sort.partLoop bf a (i2+1) (j2-1) (swp d i2 j2):=by
 conv=>lhs;rw[Go.Sort.partLoop]
 simp only[h1,h2]
 by_cases hc:i2>j2
 rw[if_pos hc,if_pos hc]
 rw[if_neg hc,if_neg hc,dif_pos (by omega)]
theorem aiM {a i j:Nat} {d:Array Int} {i2 j2:Nat} (h1:Go.Sort.scanUp (fun x=> !bf d[a]! x) d j i=i2) (h2:Go.Sort.scanDown (fun x=>bf d[a]! x) d i2 j=j2) (hi:i≤i2) (hj:j2≤j) :
  Go.Sort.partEqLoop bf a i j d=if i2>j2 then (i2,d) else Go.Sort.partEqLoop bf a (i2+1) (j2-1) (swp d i2 j2):=by
 conv=>lhs;rw[Go.Sort.partEqLoop]
 simp only[h1,h2]
 by_cases hc:i2>j2
 rw[if_pos hc,if_pos hc]
 rw[if_neg hc,if_neg hc,dif_pos (by omega)]
-- a scan upwards: F, RC (the test's region), its order of operations, RI (the step's region), t-names: guard tg, cW/load 1 (at M1), cW/load 2 (at M2), call tc with MG arguments; TI TJ: the slots of i and j
theorem aiR {d:Array Int} {a b pivot i j:Nat} (h1:Go.Sort.scanUp (fun x=>bf x (swp d a pivot)[a]!) (swp d a pivot) (b-1) (a+1)=i) (h2:Go.Sort.scanDown (fun x=> !bf x (swp d a pivot)[a]!) (swp d a pivot) i (b-1)=j) (h:i>j) :
  Go.Sort.partition bf d a b pivot=(j,true,swp (swp d a pivot) j a):=by
 simp only[Go.Sort.partition,h1,h2]
 rw[if_pos h]
theorem aiS {d:Array Int} {a b pivot i j:Nat} (h1:Go.Sort.scanUp (fun x=>bf x (swp d a pivot)[a]!) (swp d a pivot) (b-1) (a+1)=i) (h2:Go.Sort.scanDown (fun x=> !bf x (swp d a pivot)[a]!) (swp d a pivot) i (b-1)=j) (h:¬ i>j) :
  Go.Sort.partition bf d a b pivot=((Go.Sort.partLoop bf a (i+1) (j-1) (swp (swp d a pivot) i j)).1,false,swp (Go.Sort.partLoop bf a (i+1) (j-1) (swp (swp d a pivot) i j)).2 (Go.Sort.partLoop bf a (i+1) (j-1) (swp (swp d a pivot) i j)).1 a):=by
 simp only[Go.Sort.partition,h1,h2]
 rw[if_neg h]
theorem aiQ {w:World} {s A:aj} {os:List aj} {g n c a b pivot:Nat} {au:List Value} {d:Array Int} (hg:ak w s (A::os)) (a_:dB A g au d) (hn:d.size=n) (hb:b≤n) (gy:a≤pivot) (hpb:pivot<b) (cV:n<2305843009213693952) :
  Calls Tryz.prog 199 #[.slice (some ⟨g,0,none⟩) n c,i64 a,i64 b,i64 pivot] w
   (aw w s os fun s' A' r=>s'=s∧r = .tuple #[i64 ((Go.Sort.partition bf d a b pivot).1:Nat),.bool (Go.Sort.partition bf d a b pivot).2.1]∧dB A' g au (Go.Sort.partition bf d a b pivot).2.2):=by
 refine enter (l:=[.slice (some ⟨g,0,none⟩) n c,i64 a,i64 b,i64 pivot]) Tryz.func199 rfl Tryz.ntmps199 rfl ?_
 refine go 5 ?_
 refine CW.cx (fun E' w'=>∃ A',ak w' s (A'::os)∧ar w w'∧dB A' g au (swp d a pivot)∧E'=[(0,.slice (some ⟨g,0,none⟩) n c),(1,i64 a),(2,i64 b)]) ?_ ?_
 refine CW.lb (.dV [(true,0),(true,1),(true,2),(true,3),(true,4),(true,5),(true,6),(true,8),(true,9),(true,10)] (.line [(false,7),(false,11),(true,12),(false,13),(true,14),(false,15)]) (.line [(false,11),(false,7),(true,12),(false,13),(true,14),(false,15)])) (fun _=>True) mixed (by kernel_rfl) (by kernel_rfl) (by kernel_rfl) (by kernel_rfl) trivial ?_
 refine RT.pre trivial ?_
 refine go 6 ?_
 refine RL.bK (pivot) rfl rfl rfl rfl bG.out rfl rfl (by omega) (by omega) ?_
 refine go 2 ?_
 refine RL.bK (a) rfl rfl rfl rfl bG.out rfl rfl (by omega) (by omega) ?_
 refine go 1 ?_
 refine RT.eE (S:=fun _=>True) trivial (RT.di (S:=fun _=>True) trivial ?_) (RT.di (S:=fun _=>True) trivial ?_)
 refine RL.dJ (pivot) rfl rfl rfl rfl aV.out rfl a_ hg.drew.1 (by omega) ?_
 refine RL.dJ (a) rfl rfl rfl rfl aV.out rfl a_ hg.drew.1 (by omega) ?_
 refine RL.bK (a) rfl rfl rfl rfl bG.out rfl rfl (by omega) (by omega) ?_
 refine RL.dL (a) rfl rfl rfl aV.out rfl rfl hg.drew a_ (by omega) ?_
 intro ws1 As1 dp dP dS
 refine go 1 ?_
 refine RL.bK (pivot) rfl rfl rfl rfl bG.out rfl rfl (by omega) (by omega) ?_
 refine RL.dL (pivot) rfl rfl rfl aV.out rfl rfl dp dS (by simp;omega) ?_
 intro ws2 As2 dI dQ dT
 refine go 2 ?_
 exact fun ac ha=>⟨_,ha.sub (E':=[(0,.slice (some ⟨g,0,none⟩) n c),(1,i64 a),(2,i64 b)]) ⟨rfl,rfl,rfl,trivial⟩,As2,dI,(ar.drew _).trans (dP.trans dQ),dT,rfl⟩
 refine RL.dJ (a) rfl rfl rfl rfl aV.out rfl a_ hg.drew.1 (by omega) ?_
 refine RL.dJ (pivot) rfl rfl rfl rfl aV.out rfl a_ hg.drew.1 (by omega) ?_
 refine RL.bK (a) rfl rfl rfl rfl bG.out rfl rfl (by omega) (by omega) ?_
 refine RL.dL (a) rfl rfl rfl aV.out rfl rfl hg.drew a_ (by omega) ?_
 intro ws1 As1 dp dP dS
 refine go 1 ?_
 refine RL.bK (pivot) rfl rfl rfl rfl bG.out rfl rfl (by omega) (by omega) ?_
 refine RL.dL (pivot) rfl rfl rfl aV.out rfl rfl dp dS (by simp;omega) ?_
 intro ws2 As2 dI dQ dT
 refine go 2 ?_
 exact fun ac ha=>⟨_,ha.sub (E':=[(0,.slice (some ⟨g,0,none⟩) n c),(1,i64 a),(2,i64 b)]) ⟨rfl,rfl,rfl,trivial⟩,As2,dI,(ar.drew _).trans (dP.trans dQ),dT,rfl⟩
 rintro E' w1 ⟨A1,aH,aN,fB,rfl⟩
 have fm:(swp d a pivot).size=n:=by rw[size_swp];exact hn
 generalize tw:swp d a pivot=d1 at *
 refine go 9 ?_
 obtain⟨i,hi⟩:∃ i,i=a+1:=⟨_,rfl⟩
 obtain⟨j,hj⟩:∃ j,j=b-1:=⟨_,rfl⟩
 refine CW.Xh [(0,.slice (some ⟨g,0,none⟩) n c),(1,i64 a),(10,i64 (i:Nat)),(11,i64 (j:Nat))] ⟨rfl,rfl,congrArg (fun z=>some (i64 z)) (by omega),congrArg (fun z=>some (i64 z)) (by omega),trivial⟩ ?_
 refine CW.cx (fun E' w'=>∃ x,ak w' s (A1::os)∧ar w w'∧i≤x∧x≤j+1+(i-(j+1))∧Go.Sort.scanUp (fun x=>bf x d1[a]!) d1 j i=x∧E'=[(0,.slice (some ⟨g,0,none⟩) n c),(1,i64 a),(10,i64 (x:Nat)),(11,i64 (j:Nat))]) ?_ ?_
 refine CW.block (CW.loop (σ:=Nat) (fun k E w'=>∃ x,ak w' s (A1::os)∧ar w w'∧i≤x∧x≤j+1+(i-(j+1))∧j+1-x≤k∧Go.Sort.scanUp (fun x=>bf x d1[a]!) d1 j i=Go.Sort.scanUp (fun x=>bf x d1[a]!) d1 j x∧E=[(0,.slice (some ⟨g,0,none⟩) n c),(1,i64 a),(10,i64 (x:Nat)),(11,i64 (j:Nat))])
  (fun k=>k) (j+1) [(0,.slice (some ⟨g,0,none⟩) n c),(1,i64 a),(10,i64 (i:Nat)),(11,i64 (j:Nat))] ⟨rfl,rfl,rfl,rfl,trivial⟩ ⟨i,aH,aN,Nat.le_refl _,by omega,by omega,rfl,rfl⟩ ?_)
 rintro k E w2 ⟨x,hg,aR,eG,zU,hk,ir,rfl⟩
 refine CW.seq (CW.seq ?_)
 refine CW.iA [(true,0),(true,1),(true,2),(true,3),(true,4),(true,5),(true,6),(true,7),(true,8),(true,9),(true,10),(true,11),(false,12),(true,13)] (fun w'=>ak w' s (A1::os)) mixed (by kernel_rfl) (by kernel_rfl) (by kernel_rfl) (by kernel_rfl) hg.drew ?_
 refine go 4 ?_
 refine RL.part 33 rfl (fun hc=>?_) (fun hc=>?_)
 have lY:x≤j:=by have:=of_decide_eq_true hc;omega
 refine go 2 ?_
 refine RL.bK (x) rfl rfl rfl rfl bG.out rfl rfl (by omega) (by omega) ?_
 refine RL.j7 (x) rfl rfl rfl rfl aV.out rfl fB (fun w h=>h.1) (by omega) ?_
 refine go 2 ?_
 refine RL.bK (a) rfl rfl rfl rfl bG.out rfl rfl (by omega) (by omega) ?_
 refine RL.j7 (a) rfl rfl rfl rfl aV.out rfl fB (fun w h=>h.1) (by omega) ?_
 refine go 1 ?_
 refine zw (qQ hg.drew) ?_
 rintro v w3 aP bw rfl
 refine⟨aP,?_⟩
 refine go 2 ?_
 refine CW.cond rfl (fun hl=>?_) (fun hl=>?_)
 refine CW.skip ?_
 refine CW.block (CW.plain ?_)
 refine go 4 ?_
 refine fun ac ha=>⟨k-1,[(0,.slice (some ⟨g,0,none⟩) n c),(1,i64 a),(10,i64 ((x:Int)+1)),(11,i64 (j:Nat))],ha.sub ⟨rfl,rfl,rfl,rfl,trivial⟩,⟨x+1,aP,aR.trans ((ar.drew _).trans bw),by omega,by omega,by omega,by rw[ir];exact Rv (p:=fun x=>bf x d1[a]!) lY (by simpa using hl),rfl⟩,by omega⟩
 refine CW.exit (fun ac ha=>⟨_,ha.sub (E':=[(0,.slice (some ⟨g,0,none⟩) n c),(1,i64 a),(10,i64 (x:Nat)),(11,i64 (j:Nat))]) ⟨rfl,rfl,rfl,rfl,trivial⟩,x,aP,aR.trans ((ar.drew _).trans bw),eG,zU,by rw[ir];exact Fe (p:=fun x=>bf x d1[a]!) (.inr (by simpa using hl)),rfl⟩)
 have lY:¬ x≤j:=by have:=of_decide_eq_false hc;omega
 refine go 11 ?_
 refine CW.no rfl ?_
 refine CW.exit (fun ac ha=>⟨_,ha.sub (E':=[(0,.slice (some ⟨g,0,none⟩) n c),(1,i64 a),(10,i64 (x:Nat)),(11,i64 (j:Nat))]) ⟨rfl,rfl,rfl,rfl,trivial⟩,x,hg.drew,aR.trans (ar.drew _),eG,zU,by rw[ir];exact Fe (p:=fun x=>bf x d1[a]!) (.inl lY),rfl⟩)
 rintro E' w4 ⟨i2,bp,bJ,VL,hi2j,iu,rfl⟩
 have h1i:1≤i2:=by omega
 refine CW.cx (fun E' w'=>∃ y,ak w' s (A1::os)∧ar w w'∧y≤j∧(i2≤y+1∨y=j)∧Go.Sort.scanDown (fun x=> !bf x d1[a]!) d1 i2 j=y∧E'=[(0,.slice (some ⟨g,0,none⟩) n c),(1,i64 a),(10,i64 (i2:Nat)),(11,i64 (y:Nat))]) ?_ ?_
 refine CW.block (CW.loop (σ:=Nat) (fun k E w'=>∃ y,ak w' s (A1::os)∧ar w w'∧y≤j∧(i2≤y+1∨y=j)∧y≤k∧Go.Sort.scanDown (fun x=> !bf x d1[a]!) d1 i2 j=Go.Sort.scanDown (fun x=> !bf x d1[a]!) d1 i2 y∧E=[(0,.slice (some ⟨g,0,none⟩) n c),(1,i64 a),(10,i64 (i2:Nat)),(11,i64 (y:Nat))])
  (fun k=>k) j [(0,.slice (some ⟨g,0,none⟩) n c),(1,i64 a),(10,i64 (i2:Nat)),(11,i64 (j:Nat))] ⟨rfl,rfl,rfl,rfl,trivial⟩ ⟨j,bp,bJ,Nat.le_refl _,.inr rfl,Nat.le_refl _,rfl,rfl⟩ ?_)
 rintro k E w2 ⟨y,hg,aR,wE,zD,hk,ir,rfl⟩
 refine CW.seq (CW.seq ?_)
 refine CW.iA [(true,0),(true,1),(true,2),(true,3),(true,4),(true,5),(true,6),(true,7),(true,8),(true,9),(true,10),(true,11),(false,12),(true,13),(true,14)] (fun w'=>ak w' s (A1::os)) mixed (by kernel_rfl) (by kernel_rfl) (by kernel_rfl) (by kernel_rfl) hg.drew ?_
 refine go 4 ?_
 refine RL.part 49 rfl (fun hc=>?_) (fun hc=>?_)
 have lY:i2≤y:=by have:=of_decide_eq_true hc;omega
 refine go 2 ?_
 refine RL.bK (y) rfl rfl rfl rfl bG.out rfl rfl (by omega) (by omega) ?_
 refine RL.j7 (y) rfl rfl rfl rfl aV.out rfl fB (fun w h=>h.1) (by omega) ?_
 refine go 2 ?_
 refine RL.bK (a) rfl rfl rfl rfl bG.out rfl rfl (by omega) (by omega) ?_
 refine RL.j7 (a) rfl rfl rfl rfl aV.out rfl fB (fun w h=>h.1) (by omega) ?_
 refine go 1 ?_
 refine zw (qQ hg.drew) ?_
 rintro v w3 aP bw rfl
 refine⟨aP,?_⟩
 refine go 3 ?_
 refine CW.cond rfl (fun hl=>?_) (fun hl=>?_)
 refine CW.skip ?_
 refine CW.block (CW.plain ?_)
 refine go 4 ?_
 refine fun ac ha=>⟨k-1,[(0,.slice (some ⟨g,0,none⟩) n c),(1,i64 a),(10,i64 (i2:Nat)),(11,i64 ((y-1:Nat):Int))],ha.sub ⟨rfl,rfl,rfl,congrArg (fun z=>some (i64 z)) (by omega),trivial⟩,⟨y-1,aP,aR.trans ((ar.drew _).trans bw),by omega,by omega,by omega,by rw[ir];exact Ru (p:=fun x=> !bf x d1[a]!) lY (by omega) (by simpa using hl),rfl⟩,by omega⟩
 refine CW.exit (fun ac ha=>⟨_,ha.sub (E':=[(0,.slice (some ⟨g,0,none⟩) n c),(1,i64 a),(10,i64 (i2:Nat)),(11,i64 (y:Nat))]) ⟨rfl,rfl,rfl,rfl,trivial⟩,y,aP,aR.trans ((ar.drew _).trans bw),wE,zD,by rw[ir];exact Fd (p:=fun x=> !bf x d1[a]!) (.inr (by simpa using hl)),rfl⟩)
 have lY:¬ i2≤y:=by have:=of_decide_eq_false hc;omega
 refine go 12 ?_
 refine CW.no rfl ?_
 refine CW.exit (fun ac ha=>⟨_,ha.sub (E':=[(0,.slice (some ⟨g,0,none⟩) n c),(1,i64 a),(10,i64 (i2:Nat)),(11,i64 (y:Nat))]) ⟨rfl,rfl,rfl,rfl,trivial⟩,y,hg.drew,aR.trans (ar.drew _),wE,zD,by rw[ir];exact Fd (p:=fun x=> !bf x d1[a]!) (.inl lY),rfl⟩)
 rintro E' w5 ⟨j2,bh,bQ,hj2j,ae7,D6,rfl⟩
 refine CW.seq (CW.seq (CW.plain ?_))
 refine go 4 ?_
 subst hi hj tw
 refine CW.test rfl (fun h=>?_) (fun h=>?_)
 have hh:i2>j2:=by omega
 have oD:=aiR iu D6 hh
 have hg:=bh
 have a_:=fB
 have hn:=fm
 refine CW.cx (fun E' w'=>∃ A',ak w' s (A'::os)∧ar w w'∧dB A' g au (swp (swp d a pivot) j2 a)∧E'=[(11,i64 (j2:Nat))]) ?_ ?_
 refine CW.lb (.dV [(true,0),(true,1),(true,2),(true,3),(true,4),(true,5),(true,6),(true,8),(true,9),(true,10)] (.line [(false,7),(false,11),(true,12),(false,13),(true,14),(false,15)]) (.line [(false,11),(false,7),(true,12),(false,13),(true,14),(false,15)])) (fun _=>True) mixed (by kernel_rfl) (by kernel_rfl) (by kernel_rfl) (by kernel_rfl) trivial ?_
 refine RT.pre trivial ?_
 refine go 6 ?_
 refine RL.bK (a) rfl rfl rfl rfl bG.out rfl rfl (by omega) (by omega) ?_
 refine go 2 ?_
 refine RL.bK (j2) rfl rfl rfl rfl bG.out rfl rfl (by omega) (by omega) ?_
 refine go 1 ?_
 refine RT.eE (S:=fun _=>True) trivial (RT.di (S:=fun _=>True) trivial ?_) (RT.di (S:=fun _=>True) trivial ?_)
 refine RL.dJ (a) rfl rfl rfl rfl aV.out rfl a_ hg.drew.1 (by omega) ?_
 refine RL.dJ (j2) rfl rfl rfl rfl aV.out rfl a_ hg.drew.1 (by omega) ?_
 refine RL.bK (j2) rfl rfl rfl rfl bG.out rfl rfl (by omega) (by omega) ?_
 refine RL.dL (j2) rfl rfl rfl aV.out rfl rfl hg.drew a_ (by omega) ?_
 intro ws1 As1 dp dP dS
 refine go 1 ?_
 refine RL.bK (a) rfl rfl rfl rfl bG.out rfl rfl (by omega) (by omega) ?_
 refine RL.dL (a) rfl rfl rfl aV.out rfl rfl dp dS (by simp;omega) ?_
 intro ws2 As2 dI dQ dT
 refine go 2 ?_
 exact fun ac ha=>⟨_,ha.sub (E':=[(11,i64 (j2:Nat))]) ⟨rfl,trivial⟩,As2,dI,bQ.trans ((ar.drew _).trans (dP.trans dQ)),dT,rfl⟩
 refine RL.dJ (j2) rfl rfl rfl rfl aV.out rfl a_ hg.drew.1 (by omega) ?_
 refine RL.dJ (a) rfl rfl rfl rfl aV.out rfl a_ hg.drew.1 (by omega) ?_
 refine RL.bK (j2) rfl rfl rfl rfl bG.out rfl rfl (by omega) (by omega) ?_
 refine RL.dL (j2) rfl rfl rfl aV.out rfl rfl hg.drew a_ (by omega) ?_
 intro ws1 As1 dp dP dS
 refine go 1 ?_
 refine RL.bK (a) rfl rfl rfl rfl bG.out rfl rfl (by omega) (by omega) ?_
 refine RL.dL (a) rfl rfl rfl aV.out rfl rfl dp dS (by simp;omega) ?_
 intro ws2 As2 dI dQ dT
 refine go 2 ?_
 exact fun ac ha=>⟨_,ha.sub (E':=[(11,i64 (j2:Nat))]) ⟨rfl,trivial⟩,As2,dI,bQ.trans ((ar.drew _).trans (dP.trans dQ)),dT,rfl⟩
 rintro E' w6 ⟨A6,bx,bM,p6,rfl⟩
 refine go 6 ?_
 refine CW.ret (ret (vs:=[_,_]) ⟨_,_,rfl,rfl,_,_,rfl,rfl,rfl⟩ (aw.mk (Le.refl _) bx bM ⟨rfl,?_,?_⟩))
 rw[oD];rfl
 rw[oD];exact p6
 have hh:¬ i2>j2:=by omega
 have oD:=aiS iu D6 hh
 refine go 1 ?_
 have hg:=bh
 have a_:=fB
 have hn:=fm
 refine CW.cx (fun E' w'=>∃ A',ak w' s (A'::os)∧ar w w'∧dB A' g au (swp (swp d a pivot) i2 j2)∧E'=[(0,.slice (some ⟨g,0,none⟩) n c),(1,i64 a),(10,i64 (i2:Nat)),(11,i64 (j2:Nat))]) ?_ ?_
 refine CW.lb (.dV [(true,0),(true,1),(true,2),(true,3),(true,4),(true,5),(true,6),(true,8),(true,9),(true,10)] (.line [(false,7),(false,11),(true,12),(false,13),(true,14),(false,15)]) (.line [(false,11),(false,7),(true,12),(false,13),(true,14),(false,15)])) (fun _=>True) mixed (by kernel_rfl) (by kernel_rfl) (by kernel_rfl) (by kernel_rfl) trivial ?_
 refine RT.pre trivial ?_
 refine go 6 ?_
 refine RL.bK (j2) rfl rfl rfl rfl bG.out rfl rfl (by omega) (by omega) ?_
 refine go 2 ?_
 refine RL.bK (i2) rfl rfl rfl rfl bG.out rfl rfl (by omega) (by omega) ?_
 refine go 1 ?_
 refine RT.eE (S:=fun _=>True) trivial (RT.di (S:=fun _=>True) trivial ?_) (RT.di (S:=fun _=>True) trivial ?_)
 refine RL.dJ (j2) rfl rfl rfl rfl aV.out rfl a_ hg.drew.1 (by omega) ?_
 refine RL.dJ (i2) rfl rfl rfl rfl aV.out rfl a_ hg.drew.1 (by omega) ?_
 refine RL.bK (i2) rfl rfl rfl rfl bG.out rfl rfl (by omega) (by omega) ?_
 refine RL.dL (i2) rfl rfl rfl aV.out rfl rfl hg.drew a_ (by omega) ?_
 intro ws1 As1 dp dP dS
 refine go 1 ?_
 refine RL.bK (j2) rfl rfl rfl rfl bG.out rfl rfl (by omega) (by omega) ?_
 refine RL.dL (j2) rfl rfl rfl aV.out rfl rfl dp dS (by simp;omega) ?_
 intro ws2 As2 dI dQ dT
 refine go 2 ?_
 exact fun ac ha=>⟨_,ha.sub (E':=[(0,.slice (some ⟨g,0,none⟩) n c),(1,i64 a),(10,i64 (i2:Nat)),(11,i64 (j2:Nat))]) ⟨rfl,rfl,rfl,rfl,trivial⟩,As2,dI,bQ.trans ((ar.drew _).trans (dP.trans dQ)),dT,rfl⟩
 refine RL.dJ (i2) rfl rfl rfl rfl aV.out rfl a_ hg.drew.1 (by omega) ?_
 refine RL.dJ (j2) rfl rfl rfl rfl aV.out rfl a_ hg.drew.1 (by omega) ?_
 refine RL.bK (i2) rfl rfl rfl rfl bG.out rfl rfl (by omega) (by omega) ?_
 refine RL.dL (i2) rfl rfl rfl aV.out rfl rfl hg.drew a_ (by omega) ?_
 intro ws1 As1 dp dP dS
 refine go 1 ?_
 refine RL.bK (j2) rfl rfl rfl rfl bG.out rfl rfl (by omega) (by omega) ?_
 refine RL.dL (j2) rfl rfl rfl aV.out rfl rfl dp dS (by simp;omega) ?_
 intro ws2 As2 dI dQ dT
 refine go 2 ?_
 exact fun ac ha=>⟨_,ha.sub (E':=[(0,.slice (some ⟨g,0,none⟩) n c),(1,i64 a),(10,i64 (i2:Nat)),(11,i64 (j2:Nat))]) ⟨rfl,rfl,rfl,rfl,trivial⟩,As2,dI,bQ.trans ((ar.drew _).trans (dP.trans dQ)),dT,rfl⟩
 rintro E' w6 ⟨A6,bx,bM,p6,rfl⟩
 have Ce:(swp (swp d a pivot) i2 j2).size=n:=by rw[size_swp];exact fm
 refine go 12 ?_
 generalize lj:swp (swp d a pivot) i2 j2=d0 at *
 refine CW.cx (fun E' w'=>∃ A' dk jf,ak w' s (A'::os)∧ar w w'∧dB A' g au dk∧dk.size=n∧a≤jf∧jf<n∧Go.Sort.partLoop bf a (i2+1) (j2-1) d0=(jf,dk)∧E'=[(0,.slice (some ⟨g,0,none⟩) n c),(1,i64 a),(11,i64 (jf:Nat))]) ?_ ?_
 refine CW.block (CW.loop (σ:=Nat) (fun k E w'=>∃ A' dk i j,ak w' s (A'::os)∧ar w w'∧dB A' g au dk∧dk.size=n∧a<i∧i≤j+2∧a≤j∧j<n∧j+2-i≤k∧Go.Sort.partLoop bf a (i2+1) (j2-1) d0=Go.Sort.partLoop bf a i j dk∧E=[(0,.slice (some ⟨g,0,none⟩) n c),(1,i64 a),(10,i64 (i:Nat)),(11,i64 (j:Nat))])
  (fun k=>k) (n+2) [(0,.slice (some ⟨g,0,none⟩) n c),(1,i64 a),(10,i64 ((i2+1:Nat):Int)),(11,i64 ((j2-1:Nat):Int))] ⟨rfl,rfl,rfl,congrArg (fun z=>some (i64 z)) (by omega),trivial⟩ ⟨A6,d0,i2+1,j2-1,bx,bM,p6,Ce,by omega,by omega,by omega,by omega,by omega,rfl,rfl⟩ ?_)
 rintro k E w7 ⟨A1,d1,i,j,aH,aN,fB,fm,JG,iE,U2,J2,hk,dO,rfl⟩
 refine go 1 ?_
 refine CW.cx (fun E' w'=>∃ x,ak w' s (A1::os)∧ar w w'∧i≤x∧x≤j+1+(i-(j+1))∧Go.Sort.scanUp (fun x=>bf x d1[a]!) d1 j i=x∧E'=[(0,.slice (some ⟨g,0,none⟩) n c),(1,i64 a),(10,i64 (x:Nat)),(11,i64 (j:Nat))]) ?_ ?_
 clear iu D6 oD
 refine CW.block (CW.loop (σ:=Nat) (fun k E w'=>∃ x,ak w' s (A1::os)∧ar w w'∧i≤x∧x≤j+1+(i-(j+1))∧j+1-x≤k∧Go.Sort.scanUp (fun x=>bf x d1[a]!) d1 j i=Go.Sort.scanUp (fun x=>bf x d1[a]!) d1 j x∧E=[(0,.slice (some ⟨g,0,none⟩) n c),(1,i64 a),(10,i64 (x:Nat)),(11,i64 (j:Nat))])
  (fun k=>k) (j+1) [(0,.slice (some ⟨g,0,none⟩) n c),(1,i64 a),(10,i64 (i:Nat)),(11,i64 (j:Nat))] ⟨rfl,rfl,rfl,rfl,trivial⟩ ⟨i,aH,aN,Nat.le_refl _,by omega,by omega,rfl,rfl⟩ ?_)
 rintro k E w2 ⟨x,hg,aR,eG,zU,hk,ir,rfl⟩
 refine CW.seq (CW.seq ?_)
 refine CW.iA [(true,0),(true,1),(true,2),(true,3),(true,4),(true,5),(true,6),(true,7),(true,8),(true,9),(true,10),(true,11),(false,12),(true,13)] (fun w'=>ak w' s (A1::os)) mixed (by kernel_rfl) (by kernel_rfl) (by kernel_rfl) (by kernel_rfl) hg.drew ?_
 refine go 4 ?_
 refine RL.part 102 rfl (fun hc=>?_) (fun hc=>?_)
 have lY:x≤j:=by have:=of_decide_eq_true hc;omega
 refine go 2 ?_
 refine RL.bK (x) rfl rfl rfl rfl bG.out rfl rfl (by omega) (by omega) ?_
 refine RL.j7 (x) rfl rfl rfl rfl aV.out rfl fB (fun w h=>h.1) (by omega) ?_
 refine go 2 ?_
 refine RL.bK (a) rfl rfl rfl rfl bG.out rfl rfl (by omega) (by omega) ?_
 refine RL.j7 (a) rfl rfl rfl rfl aV.out rfl fB (fun w h=>h.1) (by omega) ?_
 refine go 1 ?_
 refine zw (qQ hg.drew) ?_
 rintro v w3 aP bw rfl
 refine⟨aP,?_⟩
 refine go 2 ?_
 refine CW.cond rfl (fun hl=>?_) (fun hl=>?_)
 refine CW.skip ?_
 refine CW.block (CW.plain ?_)
 refine go 4 ?_
 refine fun ac ha=>⟨k-1,[(0,.slice (some ⟨g,0,none⟩) n c),(1,i64 a),(10,i64 ((x:Int)+1)),(11,i64 (j:Nat))],ha.sub ⟨rfl,rfl,rfl,rfl,trivial⟩,⟨x+1,aP,aR.trans ((ar.drew _).trans bw),by omega,by omega,by omega,by rw[ir];exact Rv (p:=fun x=>bf x d1[a]!) lY (by simpa using hl),rfl⟩,by omega⟩
 refine CW.exit (fun ac ha=>⟨_,ha.sub (E':=[(0,.slice (some ⟨g,0,none⟩) n c),(1,i64 a),(10,i64 (x:Nat)),(11,i64 (j:Nat))]) ⟨rfl,rfl,rfl,rfl,trivial⟩,x,aP,aR.trans ((ar.drew _).trans bw),eG,zU,by rw[ir];exact Fe (p:=fun x=>bf x d1[a]!) (.inr (by simpa using hl)),rfl⟩)
 have lY:¬ x≤j:=by have:=of_decide_eq_false hc;omega
 refine go 11 ?_
 refine CW.no rfl ?_
 refine CW.exit (fun ac ha=>⟨_,ha.sub (E':=[(0,.slice (some ⟨g,0,none⟩) n c),(1,i64 a),(10,i64 (x:Nat)),(11,i64 (j:Nat))]) ⟨rfl,rfl,rfl,rfl,trivial⟩,x,hg.drew,aR.trans (ar.drew _),eG,zU,by rw[ir];exact Fe (p:=fun x=>bf x d1[a]!) (.inl lY),rfl⟩)
 rintro E' w4 ⟨i3,bp,bJ,ae6,hi3j,ahc,rfl⟩
 have h1i3:1≤i3:=by omega
 refine CW.cx (fun E' w'=>∃ y,ak w' s (A1::os)∧ar w w'∧y≤j∧(i3≤y+1∨y=j)∧Go.Sort.scanDown (fun x=> !bf x d1[a]!) d1 i3 j=y∧E'=[(0,.slice (some ⟨g,0,none⟩) n c),(1,i64 a),(10,i64 (i3:Nat)),(11,i64 (y:Nat))]) ?_ ?_
 clear iu D6 oD
 refine CW.block (CW.loop (σ:=Nat) (fun k E w'=>∃ y,ak w' s (A1::os)∧ar w w'∧y≤j∧(i3≤y+1∨y=j)∧y≤k∧Go.Sort.scanDown (fun x=> !bf x d1[a]!) d1 i3 j=Go.Sort.scanDown (fun x=> !bf x d1[a]!) d1 i3 y∧E=[(0,.slice (some ⟨g,0,none⟩) n c),(1,i64 a),(10,i64 (i3:Nat)),(11,i64 (y:Nat))])
  (fun k=>k) j [(0,.slice (some ⟨g,0,none⟩) n c),(1,i64 a),(10,i64 (i3:Nat)),(11,i64 (j:Nat))] ⟨rfl,rfl,rfl,rfl,trivial⟩ ⟨j,bp,bJ,Nat.le_refl _,.inr rfl,Nat.le_refl _,rfl,rfl⟩ ?_)
 rintro k E w2 ⟨y,hg,aR,wE,zD,hk,ir,rfl⟩
 refine CW.seq (CW.seq ?_)
 refine CW.iA [(true,0),(true,1),(true,2),(true,3),(true,4),(true,5),(true,6),(true,7),(true,8),(true,9),(true,10),(true,11),(false,12),(true,13),(true,14)] (fun w'=>ak w' s (A1::os)) mixed (by kernel_rfl) (by kernel_rfl) (by kernel_rfl) (by kernel_rfl) hg.drew ?_
 refine go 4 ?_
 refine RL.part 118 rfl (fun hc=>?_) (fun hc=>?_)
 have lY:i3≤y:=by have:=of_decide_eq_true hc;omega
 refine go 2 ?_
 refine RL.bK (y) rfl rfl rfl rfl bG.out rfl rfl (by omega) (by omega) ?_
 refine RL.j7 (y) rfl rfl rfl rfl aV.out rfl fB (fun w h=>h.1) (by omega) ?_
 refine go 2 ?_
 refine RL.bK (a) rfl rfl rfl rfl bG.out rfl rfl (by omega) (by omega) ?_
 refine RL.j7 (a) rfl rfl rfl rfl aV.out rfl fB (fun w h=>h.1) (by omega) ?_
 refine go 1 ?_
 refine zw (qQ hg.drew) ?_
 rintro v w3 aP bw rfl
 refine⟨aP,?_⟩
 refine go 3 ?_
 refine CW.cond rfl (fun hl=>?_) (fun hl=>?_)
 refine CW.skip ?_
 refine CW.block (CW.plain ?_)
 refine go 4 ?_
 refine fun ac ha=>⟨k-1,[(0,.slice (some ⟨g,0,none⟩) n c),(1,i64 a),(10,i64 (i3:Nat)),(11,i64 ((y-1:Nat):Int))],ha.sub ⟨rfl,rfl,rfl,congrArg (fun z=>some (i64 z)) (by omega),trivial⟩,⟨y-1,aP,aR.trans ((ar.drew _).trans bw),by omega,by omega,by omega,by rw[ir];exact Ru (p:=fun x=> !bf x d1[a]!) lY (by omega) (by simpa using hl),rfl⟩,by omega⟩
 refine CW.exit (fun ac ha=>⟨_,ha.sub (E':=[(0,.slice (some ⟨g,0,none⟩) n c),(1,i64 a),(10,i64 (i3:Nat)),(11,i64 (y:Nat))]) ⟨rfl,rfl,rfl,rfl,trivial⟩,y,aP,aR.trans ((ar.drew _).trans bw),wE,zD,by rw[ir];exact Fd (p:=fun x=> !bf x d1[a]!) (.inr (by simpa using hl)),rfl⟩)
 have lY:¬ i3≤y:=by have:=of_decide_eq_false hc;omega
 refine go 12 ?_
 refine CW.no rfl ?_
 refine CW.exit (fun ac ha=>⟨_,ha.sub (E':=[(0,.slice (some ⟨g,0,none⟩) n c),(1,i64 a),(10,i64 (i3:Nat)),(11,i64 (y:Nat))]) ⟨rfl,rfl,rfl,rfl,trivial⟩,y,hg.drew,aR.trans (ar.drew _),wE,zD,by rw[ir];exact Fd (p:=fun x=> !bf x d1[a]!) (.inl lY),rfl⟩)
 rintro E' w8 ⟨j3,bD,cM,hj3j,apo,aep,rfl⟩
 have Hb:=aiN ahc aep ae6 hj3j
 refine CW.seq (CW.seq (CW.plain ?_))
 refine go 4 ?_
 refine CW.test rfl (fun h3=>?_) (fun h3=>?_)
 have xz:i3>j3:=by omega
 refine CW.exit (fun ac ha=>⟨_,ha.sub (E':=[(0,.slice (some ⟨g,0,none⟩) n c),(1,i64 a),(11,i64 (j3:Nat))]) ⟨rfl,rfl,rfl,trivial⟩,A1,d1,j3,bD,cM,fB,fm,by omega,by omega,by rw[dO,Hb,if_pos xz],rfl⟩)
 have xz:¬ i3>j3:=by omega
 refine go 1 ?_
 have hg:=bD
 have a_:=fB
 have hn:=fm
 refine CW.cx (fun E' w'=>∃ A',ak w' s (A'::os)∧ar w w'∧dB A' g au (swp d1 i3 j3)∧E'=[(0,.slice (some ⟨g,0,none⟩) n c),(1,i64 a),(10,i64 (i3:Nat)),(11,i64 (j3:Nat))]) ?_ ?_
 refine CW.lb (.dV [(true,0),(true,1),(true,2),(true,3),(true,4),(true,5),(true,6),(true,8),(true,9),(true,10)] (.line [(false,7),(false,11),(true,12),(false,13),(true,14),(false,15)]) (.line [(false,11),(false,7),(true,12),(false,13),(true,14),(false,15)])) (fun _=>True) mixed (by kernel_rfl) (by kernel_rfl) (by kernel_rfl) (by kernel_rfl) trivial ?_
 refine RT.pre trivial ?_
 refine go 6 ?_
 refine RL.bK (j3) rfl rfl rfl rfl bG.out rfl rfl (by omega) (by omega) ?_
 refine go 2 ?_
 refine RL.bK (i3) rfl rfl rfl rfl bG.out rfl rfl (by omega) (by omega) ?_
 refine go 1 ?_
 refine RT.eE (S:=fun _=>True) trivial (RT.di (S:=fun _=>True) trivial ?_) (RT.di (S:=fun _=>True) trivial ?_)
 refine RL.dJ (j3) rfl rfl rfl rfl aV.out rfl a_ hg.drew.1 (by omega) ?_
 refine RL.dJ (i3) rfl rfl rfl rfl aV.out rfl a_ hg.drew.1 (by omega) ?_
 refine RL.bK (i3) rfl rfl rfl rfl bG.out rfl rfl (by omega) (by omega) ?_
 refine RL.dL (i3) rfl rfl rfl aV.out rfl rfl hg.drew a_ (by omega) ?_
 intro ws1 As1 dp dP dS
 refine go 1 ?_
 refine RL.bK (j3) rfl rfl rfl rfl bG.out rfl rfl (by omega) (by omega) ?_
 refine RL.dL (j3) rfl rfl rfl aV.out rfl rfl dp dS (by simp;omega) ?_
 intro ws2 As2 dI dQ dT
 refine go 2 ?_
 exact fun ac ha=>⟨_,ha.sub (E':=[(0,.slice (some ⟨g,0,none⟩) n c),(1,i64 a),(10,i64 (i3:Nat)),(11,i64 (j3:Nat))]) ⟨rfl,rfl,rfl,rfl,trivial⟩,As2,dI,cM.trans ((ar.drew _).trans (dP.trans dQ)),dT,rfl⟩
 refine RL.dJ (i3) rfl rfl rfl rfl aV.out rfl a_ hg.drew.1 (by omega) ?_
 refine RL.dJ (j3) rfl rfl rfl rfl aV.out rfl a_ hg.drew.1 (by omega) ?_
 refine RL.bK (i3) rfl rfl rfl rfl bG.out rfl rfl (by omega) (by omega) ?_
 refine RL.dL (i3) rfl rfl rfl aV.out rfl rfl hg.drew a_ (by omega) ?_
 intro ws1 As1 dp dP dS
 refine go 1 ?_
 refine RL.bK (j3) rfl rfl rfl rfl bG.out rfl rfl (by omega) (by omega) ?_
 refine RL.dL (j3) rfl rfl rfl aV.out rfl rfl dp dS (by simp;omega) ?_
 intro ws2 As2 dI dQ dT
 refine go 2 ?_
 exact fun ac ha=>⟨_,ha.sub (E':=[(0,.slice (some ⟨g,0,none⟩) n c),(1,i64 a),(10,i64 (i3:Nat)),(11,i64 (j3:Nat))]) ⟨rfl,rfl,rfl,rfl,trivial⟩,As2,dI,cM.trans ((ar.drew _).trans (dP.trans dQ)),dT,rfl⟩
 rintro E' w9 ⟨A9,bA,cu,Cm,rfl⟩
 refine go 11 ?_
 refine fun ac ha=>⟨k-1,[(0,.slice (some ⟨g,0,none⟩) n c),(1,i64 a),(10,i64 ((i3+1:Nat):Int)),(11,i64 ((j3-1:Nat):Int))],ha.sub ⟨rfl,rfl,rfl,congrArg (fun z=>some (i64 z)) (by omega),trivial⟩,⟨A9,_,i3+1,j3-1,bA,cu,Cm,by rw[size_swp];exact fm,by omega,by omega,by omega,by omega,by omega,by rw[dO,Hb,if_neg xz],rfl⟩,by omega⟩
 rintro E' w7 ⟨A7,d7,jf,hg,cj,a_,xX,aot,apq,eB,rfl⟩
 have hn:=xX
 refine CW.cx (fun E' w'=>∃ A',ak w' s (A'::os)∧ar w w'∧dB A' g au (swp d7 jf a)∧E'=[(11,i64 (jf:Nat))]) ?_ ?_
 refine CW.lb (.dV [(true,0),(true,1),(true,2),(true,3),(true,4),(true,5),(true,6),(true,8),(true,9),(true,10)] (.line [(false,7),(false,11),(true,12),(false,13),(true,14),(false,15)]) (.line [(false,11),(false,7),(true,12),(false,13),(true,14),(false,15)])) (fun _=>True) mixed (by kernel_rfl) (by kernel_rfl) (by kernel_rfl) (by kernel_rfl) trivial ?_
 refine RT.pre trivial ?_
 refine go 6 ?_
 refine RL.bK (a) rfl rfl rfl rfl bG.out rfl rfl (by omega) (by omega) ?_
 refine go 2 ?_
 refine RL.bK (jf) rfl rfl rfl rfl bG.out rfl rfl (by omega) (by omega) ?_
 refine go 1 ?_
 refine RT.eE (S:=fun _=>True) trivial (RT.di (S:=fun _=>True) trivial ?_) (RT.di (S:=fun _=>True) trivial ?_)
 refine RL.dJ (a) rfl rfl rfl rfl aV.out rfl a_ hg.drew.1 (by omega) ?_
 refine RL.dJ (jf) rfl rfl rfl rfl aV.out rfl a_ hg.drew.1 (by omega) ?_
 refine RL.bK (jf) rfl rfl rfl rfl bG.out rfl rfl (by omega) (by omega) ?_
 refine RL.dL (jf) rfl rfl rfl aV.out rfl rfl hg.drew a_ (by omega) ?_
 intro ws1 As1 dp dP dS
 refine go 1 ?_
 refine RL.bK (a) rfl rfl rfl rfl bG.out rfl rfl (by omega) (by omega) ?_
 refine RL.dL (a) rfl rfl rfl aV.out rfl rfl dp dS (by simp;omega) ?_
 intro ws2 As2 dI dQ dT
 refine go 2 ?_
 exact fun ac ha=>⟨_,ha.sub (E':=[(11,i64 (jf:Nat))]) ⟨rfl,trivial⟩,As2,dI,cj.trans ((ar.drew _).trans (dP.trans dQ)),dT,rfl⟩
 refine RL.dJ (jf) rfl rfl rfl rfl aV.out rfl a_ hg.drew.1 (by omega) ?_
 refine RL.dJ (a) rfl rfl rfl rfl aV.out rfl a_ hg.drew.1 (by omega) ?_
 refine RL.bK (jf) rfl rfl rfl rfl bG.out rfl rfl (by omega) (by omega) ?_
 refine RL.dL (jf) rfl rfl rfl aV.out rfl rfl hg.drew a_ (by omega) ?_
 intro ws1 As1 dp dP dS
 refine go 1 ?_
 refine RL.bK (a) rfl rfl rfl rfl bG.out rfl rfl (by omega) (by omega) ?_
 refine RL.dL (a) rfl rfl rfl aV.out rfl rfl dp dS (by simp;omega) ?_
 intro ws2 As2 dI dQ dT
 refine go 2 ?_
 exact fun ac ha=>⟨_,ha.sub (E':=[(11,i64 (jf:Nat))]) ⟨rfl,trivial⟩,As2,dI,cj.trans ((ar.drew _).trans (dP.trans dQ)),dT,rfl⟩
 rintro E' w8 ⟨A8,bD,cM,HA,rfl⟩
 refine go 6 ?_
 refine CW.ret (ret (vs:=[_,_]) ⟨_,_,rfl,rfl,_,_,rfl,rfl,rfl⟩ (aw.mk (Le.refl _) bD cM ⟨rfl,?_,?_⟩))
 rw[oD,eB];rfl
 rw[oD,eB];exact HA
end Go.Lw
namespace Go.Lw
open Go.Proofs
open Go.Sort (swp size_swp)
-- a scan upwards: F, RC (the test's region), its order of operations, RI (the step's region), t-names: guard tg, cW/load 1 (at M1), cW/load 2 (at M2), call tc with MG arguments; TI TJ: the slots of i and j
theorem aiP {w:World} {s A:aj} {os:List aj} {g n c a b pivot:Nat} {au:List Value} {d:Array Int} (hg:ak w s (A::os)) (a_:dB A g au d) (hn:d.size=n) (hb:b≤n) (gy:a≤pivot) (hpb:pivot<b) (cV:n<2305843009213693952) :
  Calls Tryz.prog 198 #[.slice (some ⟨g,0,none⟩) n c,i64 a,i64 b,i64 pivot] w
   (aw w s os fun s' A' r=>s'=s∧r=i64 ((Go.Sort.partitionEqual bf d a b pivot).1:Nat)∧dB A' g au (Go.Sort.partitionEqual bf d a b pivot).2):=by
 refine enter (l:=[.slice (some ⟨g,0,none⟩) n c,i64 a,i64 b,i64 pivot]) Tryz.func198 rfl Tryz.ntmps198 rfl ?_
 refine go 4 ?_
 refine CW.cx (fun E' w'=>∃ A',ak w' s (A'::os)∧ar w w'∧dB A' g au (swp d a pivot)∧E'=[(0,.slice (some ⟨g,0,none⟩) n c),(1,i64 a),(2,i64 b)]) ?_ ?_
 refine CW.lb (.dV [(true,0),(true,1),(true,2),(true,3),(true,4),(true,5),(true,6),(true,8),(true,9),(true,10)] (.line [(false,7),(false,11),(true,12),(false,13),(true,14),(false,15)]) (.line [(false,11),(false,7),(true,12),(false,13),(true,14),(false,15)])) (fun _=>True) mixed (by kernel_rfl) (by kernel_rfl) (by kernel_rfl) (by kernel_rfl) trivial ?_
 refine RT.pre trivial ?_
 refine go 6 ?_
 refine RL.bK (pivot) rfl rfl rfl rfl bG.out rfl rfl (by omega) (by omega) ?_
 refine go 2 ?_
 refine RL.bK (a) rfl rfl rfl rfl bG.out rfl rfl (by omega) (by omega) ?_
 refine go 1 ?_
 refine RT.eE (S:=fun _=>True) trivial (RT.di (S:=fun _=>True) trivial ?_) (RT.di (S:=fun _=>True) trivial ?_)
 refine RL.dJ (pivot) rfl rfl rfl rfl aV.out rfl a_ hg.drew.1 (by omega) ?_
 refine RL.dJ (a) rfl rfl rfl rfl aV.out rfl a_ hg.drew.1 (by omega) ?_
 refine RL.bK (a) rfl rfl rfl rfl bG.out rfl rfl (by omega) (by omega) ?_
 refine RL.dL (a) rfl rfl rfl aV.out rfl rfl hg.drew a_ (by omega) ?_
 intro ws1 As1 dp dP dS
 refine go 1 ?_
 refine RL.bK (pivot) rfl rfl rfl rfl bG.out rfl rfl (by omega) (by omega) ?_
 refine RL.dL (pivot) rfl rfl rfl aV.out rfl rfl dp dS (by simp;omega) ?_
 intro ws2 As2 dI dQ dT
 refine go 2 ?_
 exact fun ac ha=>⟨_,ha.sub (E':=[(0,.slice (some ⟨g,0,none⟩) n c),(1,i64 a),(2,i64 b)]) ⟨rfl,rfl,rfl,trivial⟩,As2,dI,(ar.drew _).trans (dP.trans dQ),dT,rfl⟩
 refine RL.dJ (a) rfl rfl rfl rfl aV.out rfl a_ hg.drew.1 (by omega) ?_
 refine RL.dJ (pivot) rfl rfl rfl rfl aV.out rfl a_ hg.drew.1 (by omega) ?_
 refine RL.bK (a) rfl rfl rfl rfl bG.out rfl rfl (by omega) (by omega) ?_
 refine RL.dL (a) rfl rfl rfl aV.out rfl rfl hg.drew a_ (by omega) ?_
 intro ws1 As1 dp dP dS
 refine go 1 ?_
 refine RL.bK (pivot) rfl rfl rfl rfl bG.out rfl rfl (by omega) (by omega) ?_
 refine RL.dL (pivot) rfl rfl rfl aV.out rfl rfl dp dS (by simp;omega) ?_
 intro ws2 As2 dI dQ dT
 refine go 2 ?_
 exact fun ac ha=>⟨_,ha.sub (E':=[(0,.slice (some ⟨g,0,none⟩) n c),(1,i64 a),(2,i64 b)]) ⟨rfl,rfl,rfl,trivial⟩,As2,dI,(ar.drew _).trans (dP.trans dQ),dT,rfl⟩
 rintro E' w1 ⟨A0,mL,q9,zR,rfl⟩
 have rj:(swp d a pivot).size=n:=by rw[size_swp];exact hn
 have vh:Go.Sort.partitionEqual bf d a b pivot=Go.Sort.partEqLoop bf a (a+1) (b-1) (swp d a pivot):=rfl
 generalize swp d a pivot=d0 at *
 refine go 9 ?_
 refine CW.cx (fun E' w'=>∃ A' dk f,ak w' s (A'::os)∧ar w w'∧dB A' g au dk∧Go.Sort.partitionEqual bf d a b pivot=(f,dk)∧E'=[(9,i64 (f:Nat))]) ?_ ?_
 refine CW.block (CW.loop (σ:=Nat) (fun k E w'=>∃ A' dk i j,ak w' s (A'::os)∧ar w w'∧dB A' g au dk∧dk.size=n∧a<i∧i≤j+2∧a≤j∧j<n∧j+2-i≤k∧Go.Sort.partitionEqual bf d a b pivot=Go.Sort.partEqLoop bf a i j dk∧E=[(0,.slice (some ⟨g,0,none⟩) n c),(1,i64 a),(9,i64 (i:Nat)),(10,i64 (j:Nat))])
  (fun k=>k) (n+2) [(0,.slice (some ⟨g,0,none⟩) n c),(1,i64 a),(9,i64 ((a+1:Nat):Int)),(10,i64 ((b-1:Nat):Int))] ⟨rfl,rfl,rfl,congrArg (fun z=>some (i64 z)) (by omega),trivial⟩ ⟨A0,d0,a+1,b-1,mL,q9,zR,rj,by omega,by omega,by omega,by omega,by omega,vh,rfl⟩ ?_)
 rintro k E w7 ⟨A1,d1,i,j,aH,aN,fB,fm,JG,iE,U2,J2,hk,dO,rfl⟩
 refine go 1 ?_
 refine CW.cx (fun E' w'=>∃ x,ak w' s (A1::os)∧ar w w'∧i≤x∧x≤j+1+(i-(j+1))∧Go.Sort.scanUp (fun x=> !bf d1[a]! x) d1 j i=x∧E'=[(0,.slice (some ⟨g,0,none⟩) n c),(1,i64 a),(9,i64 (x:Nat)),(10,i64 (j:Nat))]) ?_ ?_
 refine CW.block (CW.loop (σ:=Nat) (fun k E w'=>∃ x,ak w' s (A1::os)∧ar w w'∧i≤x∧x≤j+1+(i-(j+1))∧j+1-x≤k∧Go.Sort.scanUp (fun x=> !bf d1[a]! x) d1 j i=Go.Sort.scanUp (fun x=> !bf d1[a]! x) d1 j x∧E=[(0,.slice (some ⟨g,0,none⟩) n c),(1,i64 a),(9,i64 (x:Nat)),(10,i64 (j:Nat))])
  (fun k=>k) (j+1) [(0,.slice (some ⟨g,0,none⟩) n c),(1,i64 a),(9,i64 (i:Nat)),(10,i64 (j:Nat))] ⟨rfl,rfl,rfl,rfl,trivial⟩ ⟨i,aH,aN,Nat.le_refl _,by omega,by omega,rfl,rfl⟩ ?_)
 rintro k E w2 ⟨x,hg,aR,eG,zU,hk,ir,rfl⟩
 refine CW.seq (CW.seq ?_)
 refine CW.iA [(true,0),(true,1),(true,2),(true,3),(true,4),(true,5),(true,6),(true,7),(true,8),(true,9),(true,10),(true,11),(false,12),(true,13),(true,14)] (fun w'=>ak w' s (A1::os)) mixed (by kernel_rfl) (by kernel_rfl) (by kernel_rfl) (by kernel_rfl) hg.drew ?_
 refine go 4 ?_
 refine RL.part 32 rfl (fun hc=>?_) (fun hc=>?_)
 have lY:x≤j:=by have:=of_decide_eq_true hc;omega
 refine go 2 ?_
 refine RL.bK (a) rfl rfl rfl rfl bG.out rfl rfl (by omega) (by omega) ?_
 refine RL.j7 (a) rfl rfl rfl rfl aV.out rfl fB (fun w h=>h.1) (by omega) ?_
 refine go 2 ?_
 refine RL.bK (x) rfl rfl rfl rfl bG.out rfl rfl (by omega) (by omega) ?_
 refine RL.j7 (x) rfl rfl rfl rfl aV.out rfl fB (fun w h=>h.1) (by omega) ?_
 refine go 1 ?_
 refine zw (qQ hg.drew) ?_
 rintro v w3 aP bw rfl
 refine⟨aP,?_⟩
 refine go 3 ?_
 refine CW.cond rfl (fun hl=>?_) (fun hl=>?_)
 refine CW.skip ?_
 refine CW.block (CW.plain ?_)
 refine go 4 ?_
 refine fun ac ha=>⟨k-1,[(0,.slice (some ⟨g,0,none⟩) n c),(1,i64 a),(9,i64 ((x:Int)+1)),(10,i64 (j:Nat))],ha.sub ⟨rfl,rfl,rfl,rfl,trivial⟩,⟨x+1,aP,aR.trans ((ar.drew _).trans bw),by omega,by omega,by omega,by rw[ir];exact Rv (p:=fun x=> !bf d1[a]! x) lY (by simpa using hl),rfl⟩,by omega⟩
 refine CW.exit (fun ac ha=>⟨_,ha.sub (E':=[(0,.slice (some ⟨g,0,none⟩) n c),(1,i64 a),(9,i64 (x:Nat)),(10,i64 (j:Nat))]) ⟨rfl,rfl,rfl,rfl,trivial⟩,x,aP,aR.trans ((ar.drew _).trans bw),eG,zU,by rw[ir];exact Fe (p:=fun x=> !bf d1[a]! x) (.inr (by simpa using hl)),rfl⟩)
 have lY:¬ x≤j:=by have:=of_decide_eq_false hc;omega
 refine go 12 ?_
 refine CW.no rfl ?_
 refine CW.exit (fun ac ha=>⟨_,ha.sub (E':=[(0,.slice (some ⟨g,0,none⟩) n c),(1,i64 a),(9,i64 (x:Nat)),(10,i64 (j:Nat))]) ⟨rfl,rfl,rfl,rfl,trivial⟩,x,hg.drew,aR.trans (ar.drew _),eG,zU,by rw[ir];exact Fe (p:=fun x=> !bf d1[a]! x) (.inl lY),rfl⟩)
 rintro E' w4 ⟨i2,bp,bJ,VL,hi2j,iu,rfl⟩
 have h1i:1≤i2:=by omega
 refine CW.cx (fun E' w'=>∃ y,ak w' s (A1::os)∧ar w w'∧y≤j∧(i2≤y+1∨y=j)∧Go.Sort.scanDown (fun x=>bf d1[a]! x) d1 i2 j=y∧E'=[(0,.slice (some ⟨g,0,none⟩) n c),(1,i64 a),(9,i64 (i2:Nat)),(10,i64 (y:Nat))]) ?_ ?_
 refine CW.block (CW.loop (σ:=Nat) (fun k E w'=>∃ y,ak w' s (A1::os)∧ar w w'∧y≤j∧(i2≤y+1∨y=j)∧y≤k∧Go.Sort.scanDown (fun x=>bf d1[a]! x) d1 i2 j=Go.Sort.scanDown (fun x=>bf d1[a]! x) d1 i2 y∧E=[(0,.slice (some ⟨g,0,none⟩) n c),(1,i64 a),(9,i64 (i2:Nat)),(10,i64 (y:Nat))])
  (fun k=>k) j [(0,.slice (some ⟨g,0,none⟩) n c),(1,i64 a),(9,i64 (i2:Nat)),(10,i64 (j:Nat))] ⟨rfl,rfl,rfl,rfl,trivial⟩ ⟨j,bp,bJ,Nat.le_refl _,.inr rfl,Nat.le_refl _,rfl,rfl⟩ ?_)
 rintro k E w2 ⟨y,hg,aR,wE,zD,hk,ir,rfl⟩
 refine CW.seq (CW.seq ?_)
 refine CW.iA [(true,0),(true,1),(true,2),(true,3),(true,4),(true,5),(true,6),(true,7),(true,8),(true,9),(true,10),(true,11),(false,12),(true,13)] (fun w'=>ak w' s (A1::os)) mixed (by kernel_rfl) (by kernel_rfl) (by kernel_rfl) (by kernel_rfl) hg.drew ?_
 refine go 4 ?_
 refine RL.part 49 rfl (fun hc=>?_) (fun hc=>?_)
 have lY:i2≤y:=by have:=of_decide_eq_true hc;omega
 refine go 2 ?_
 refine RL.bK (a) rfl rfl rfl rfl bG.out rfl rfl (by omega) (by omega) ?_
 refine RL.j7 (a) rfl rfl rfl rfl aV.out rfl fB (fun w h=>h.1) (by omega) ?_
 refine go 2 ?_
 refine RL.bK (y) rfl rfl rfl rfl bG.out rfl rfl (by omega) (by omega) ?_
 refine RL.j7 (y) rfl rfl rfl rfl aV.out rfl fB (fun w h=>h.1) (by omega) ?_
 refine go 1 ?_
 refine zw (qQ hg.drew) ?_
 rintro v w3 aP bw rfl
 refine⟨aP,?_⟩
 refine go 2 ?_
 refine CW.cond rfl (fun hl=>?_) (fun hl=>?_)
 refine CW.skip ?_
 refine CW.block (CW.plain ?_)
 refine go 4 ?_
 refine fun ac ha=>⟨k-1,[(0,.slice (some ⟨g,0,none⟩) n c),(1,i64 a),(9,i64 (i2:Nat)),(10,i64 ((y-1:Nat):Int))],ha.sub ⟨rfl,rfl,rfl,congrArg (fun z=>some (i64 z)) (by omega),trivial⟩,⟨y-1,aP,aR.trans ((ar.drew _).trans bw),by omega,by omega,by omega,by rw[ir];exact Ru (p:=fun x=>bf d1[a]! x) lY (by omega) (by simpa using hl),rfl⟩,by omega⟩
 refine CW.exit (fun ac ha=>⟨_,ha.sub (E':=[(0,.slice (some ⟨g,0,none⟩) n c),(1,i64 a),(9,i64 (i2:Nat)),(10,i64 (y:Nat))]) ⟨rfl,rfl,rfl,rfl,trivial⟩,y,aP,aR.trans ((ar.drew _).trans bw),wE,zD,by rw[ir];exact Fd (p:=fun x=>bf d1[a]! x) (.inr (by simpa using hl)),rfl⟩)
 have lY:¬ i2≤y:=by have:=of_decide_eq_false hc;omega
 refine go 11 ?_
 refine CW.no rfl ?_
 refine CW.exit (fun ac ha=>⟨_,ha.sub (E':=[(0,.slice (some ⟨g,0,none⟩) n c),(1,i64 a),(9,i64 (i2:Nat)),(10,i64 (y:Nat))]) ⟨rfl,rfl,rfl,rfl,trivial⟩,y,hg.drew,aR.trans (ar.drew _),wE,zD,by rw[ir];exact Fd (p:=fun x=>bf d1[a]! x) (.inl lY),rfl⟩)
 rintro E' w8 ⟨j2,bD,cM,hj2j,ae7,D6,rfl⟩
 have Hb:=aiM iu D6 VL hj2j
 refine CW.seq (CW.seq (CW.plain ?_))
 refine go 4 ?_
 refine CW.test rfl (fun h3=>?_) (fun h3=>?_)
 have xz:i2>j2:=by omega
 refine CW.exit (fun ac ha=>⟨_,ha.sub (E':=[(9,i64 (i2:Nat))]) ⟨rfl,trivial⟩,A1,d1,i2,bD,cM,fB,by rw[dO,Hb,if_pos xz],rfl⟩)
 have xz:¬ i2>j2:=by omega
 refine go 1 ?_
 have hg:=bD
 have a_:=fB
 have hn:=fm
 refine CW.cx (fun E' w'=>∃ A',ak w' s (A'::os)∧ar w w'∧dB A' g au (swp d1 i2 j2)∧E'=[(0,.slice (some ⟨g,0,none⟩) n c),(1,i64 a),(9,i64 (i2:Nat)),(10,i64 (j2:Nat))]) ?_ ?_
 refine CW.lb (.dV [(true,0),(true,1),(true,2),(true,3),(true,4),(true,5),(true,6),(true,8),(true,9),(true,10)] (.line [(false,7),(false,11),(true,12),(false,13),(true,14),(false,15)]) (.line [(false,11),(false,7),(true,12),(false,13),(true,14),(false,15)])) (fun _=>True) mixed (by kernel_rfl) (by kernel_rfl) (by kernel_rfl) (by kernel_rfl) trivial ?_
 refine RT.pre trivial ?_
 refine go 6 ?_
 refine RL.bK (j2) rfl rfl rfl rfl bG.out rfl rfl (by omega) (by omega) ?_
 refine go 2 ?_
 refine RL.bK (i2) rfl rfl rfl rfl bG.out rfl rfl (by omega) (by omega) ?_
 refine go 1 ?_
 refine RT.eE (S:=fun _=>True) trivial (RT.di (S:=fun _=>True) trivial ?_) (RT.di (S:=fun _=>True) trivial ?_)
 refine RL.dJ (j2) rfl rfl rfl rfl aV.out rfl a_ hg.drew.1 (by omega) ?_
 refine RL.dJ (i2) rfl rfl rfl rfl aV.out rfl a_ hg.drew.1 (by omega) ?_
 refine RL.bK (i2) rfl rfl rfl rfl bG.out rfl rfl (by omega) (by omega) ?_
 refine RL.dL (i2) rfl rfl rfl aV.out rfl rfl hg.drew a_ (by omega) ?_
 intro ws1 As1 dp dP dS
 refine go 1 ?_
 refine RL.bK (j2) rfl rfl rfl rfl bG.out rfl rfl (by omega) (by omega) ?_
 refine RL.dL (j2) rfl rfl rfl aV.out rfl rfl dp dS (by simp;omega) ?_
 intro ws2 As2 dI dQ dT
 refine go 2 ?_
 exact fun ac ha=>⟨_,ha.sub (E':=[(0,.slice (some ⟨g,0,none⟩) n c),(1,i64 a),(9,i64 (i2:Nat)),(10,i64 (j2:Nat))]) ⟨rfl,rfl,rfl,rfl,trivial⟩,As2,dI,cM.trans ((ar.drew _).trans (dP.trans dQ)),dT,rfl⟩
 refine RL.dJ (i2) rfl rfl rfl rfl aV.out rfl a_ hg.drew.1 (by omega) ?_
 refine RL.dJ (j2) rfl rfl rfl rfl aV.out rfl a_ hg.drew.1 (by omega) ?_
 refine RL.bK (i2) rfl rfl rfl rfl bG.out rfl rfl (by omega) (by omega) ?_
 refine RL.dL (i2) rfl rfl rfl aV.out rfl rfl hg.drew a_ (by omega) ?_
 intro ws1 As1 dp dP dS
 refine go 1 ?_
 refine RL.bK (j2) rfl rfl rfl rfl bG.out rfl rfl (by omega) (by omega) ?_
 refine RL.dL (j2) rfl rfl rfl aV.out rfl rfl dp dS (by simp;omega) ?_
 intro ws2 As2 dI dQ dT
 refine go 2 ?_
 exact fun ac ha=>⟨_,ha.sub (E':=[(0,.slice (some ⟨g,0,none⟩) n c),(1,i64 a),(9,i64 (i2:Nat)),(10,i64 (j2:Nat))]) ⟨rfl,rfl,rfl,rfl,trivial⟩,As2,dI,cM.trans ((ar.drew _).trans (dP.trans dQ)),dT,rfl⟩
 rintro E' w9 ⟨A9,bA,cu,Cm,rfl⟩
 refine go 11 ?_
 refine fun ac ha=>⟨k-1,[(0,.slice (some ⟨g,0,none⟩) n c),(1,i64 a),(9,i64 ((i2+1:Nat):Int)),(10,i64 ((j2-1:Nat):Int))],ha.sub ⟨rfl,rfl,rfl,congrArg (fun z=>some (i64 z)) (by omega),trivial⟩,⟨A9,_,i2+1,j2-1,bA,cu,Cm,by rw[size_swp];exact fm,by omega,by omega,by omega,by omega,by omega,by rw[dO,Hb,if_neg xz],rfl⟩,by omega⟩
 rintro E' w7 ⟨A7,d7,f,bO,cj,yj,eB,rfl⟩
 refine go 5 ?_
 refine CW.ret (ret (vs:=[_]) ⟨_,_,rfl,rfl,rfl⟩ (aw.mk (Le.refl _) bO cj ⟨rfl,?_,?_⟩))
 rw[eB];rfl
 rw[eB];exact yj
end Go.Lw
namespace Go.Lw
open Go.Proofs
open Go.Sort (swp size_swp)
theorem ajF {d:Array Int} {b i:Nat} (h:i<b) (hl:bf d[i]! d[i-1]! = false):Go.Sort.scanSorted bf d b i=Go.Sort.scanSorted bf d b (i+1):=by
 rw[Go.Sort.scanSorted,if_pos (by simp[h,hl])]
theorem YE {d:Array Int} {b i:Nat} (h:¬ i<b∨bf d[i]! d[i-1]! = true):Go.Sort.scanSorted bf d b i=i:=by
 rw[Go.Sort.scanSorted,if_neg]
 rcases h with h | h
 simp[h]
 simp[h]
theorem ajO {d:Array Int} {j:Nat} (h:1≤j) (hl:bf d[j]! d[j-1]! = true):Go.Sort.shiftDown bf j d=Go.Sort.shiftDown bf (j-1) (swp d j (j-1)):=by
 obtain⟨j,rfl⟩:∃ m,j=m+1:=⟨j-1,by omega⟩
 simp only[Nat.add_sub_cancel] at *
 rw[Go.Sort.shiftDown,if_neg (by simp[hl])]
theorem YK {d:Array Int} {j:Nat} (h:¬ 1≤j∨bf d[j]! d[j-1]! = false):Go.Sort.shiftDown bf j d=d:=by
 cases j with
 | zero=>rfl
 | succ j =>
  rcases h with h | h
  omega
  simp only[Nat.add_sub_cancel] at h
  rw[Go.Sort.shiftDown,if_pos (by simp[h])]
theorem ajP {d:Array Int} {b j:Nat} (h:j<b) (hl:bf d[j]! d[j-1]! = true):Go.Sort.shiftUp bf b j d=Go.Sort.shiftUp bf b (j+1) (swp d j (j-1)):=by
 rw[Go.Sort.shiftUp,if_pos h,if_neg (by simp[hl])]
theorem YM {d:Array Int} {b j:Nat} (h:¬ j<b∨bf d[j]! d[j-1]! = false):Go.Sort.shiftUp bf b j d=d:=by
 rw[Go.Sort.shiftUp]
 by_cases hj:j<b
 rw[if_pos hj,if_pos (by simpa [hj] using h)]
 rw[if_neg hj]
def pd (a x:Nat) (d:Array Int):Array Int:=if x-a≥2 then Go.Sort.shiftDown bf (x-1) (swp d x (x-1)) else swp d x (x-1)
def pu (b x:Nat) (d:Array Int):Array Int:=if b-x≥2 then Go.Sort.shiftUp bf b (x+1) d else d
theorem aiW {a b s i x:Nat} {d:Array Int} (h:Go.Sort.scanSorted bf d b i=x) (hx:x=b):Go.Sort.partialIns bf a b (s+1) i d=(d,true):=by
 simp only[Go.Sort.partialIns,h];rw[if_pos hx]
theorem aiY {a b s i x:Nat} {d:Array Int} (h:Go.Sort.scanSorted bf d b i=x) (hx:¬ x=b) (hs:b-a<50):Go.Sort.partialIns bf a b (s+1) i d=(d,false):=by
 simp only[Go.Sort.partialIns,h];rw[if_neg hx,if_pos hs]
theorem aiX {a b s i x:Nat} {d:Array Int} (h:Go.Sort.scanSorted bf d b i=x) (hx:¬ x=b) (hs:¬ b-a<50):Go.Sort.partialIns bf a b (s+1) i d=Go.Sort.partialIns bf a b s x (pu b x (pd a x d)):=by
 simp only[Go.Sort.partialIns,h];rw[if_neg hx,if_neg hs];rfl
theorem aiO {w:World} {s A:aj} {os:List aj} {g n c a b:Nat} {au:List Value} {d:Array Int} (hg:ak w s (A::os)) (a_:dB A g au d) (hn:d.size=n) (hb:b≤n) (lf:a<b) (cV:n<2305843009213693952) :
  Calls Tryz.prog 196 #[.slice (some ⟨g,0,none⟩) n c,i64 a,i64 b] w
   (aw w s os fun s' A' r=>s'=s∧r = .bool (Go.Sort.partialInsertionSort bf d a b).2∧dB A' g au (Go.Sort.partialInsertionSort bf d a b).1):=by
 refine enter (l:=[.slice (some ⟨g,0,none⟩) n c,i64 a,i64 b]) Tryz.func196 rfl Tryz.ntmps196 rfl ?_
 refine go 10 ?_
 refine CW.seq (CW.seq (CW.plain ?_))
 refine go 2 ?_
 refine CW.block (CW.loop (σ:=Nat) (fun st E w'=>∃ A' dk i,ak w' s (A'::os)∧ar w w'∧dB A' g au dk∧dk.size=n∧a<i∧i≤b∧st≤5∧Go.Sort.partialInsertionSort bf d a b=Go.Sort.partialIns bf a b st i dk∧E=[(0,.slice (some ⟨g,0,none⟩) n c),(1,i64 a),(2,i64 b),(7,i64 (i:Nat)),(8,i64 (5-((st:Nat):Int)))])
  (fun st=>st) 5 [(0,.slice (some ⟨g,0,none⟩) n c),(1,i64 a),(2,i64 b),(7,i64 ((a+1:Nat):Int)),(8,i64 (5-((5:Nat):Int)))] ⟨rfl,rfl,rfl,rfl,rfl,trivial⟩ ⟨A,d,a+1,hg,ar.refl _,a_,hn,by omega,by omega,Nat.le_refl _,rfl,rfl⟩ ?_)
 rintro st E w1 ⟨A1,d1,i,aH,aN,fB,fm,JG,Ef,cc,dO,rfl⟩
 refine CW.seq (CW.seq (CW.plain ?_))
 refine go 3 ?_
 refine CW.test rfl (fun h=>?_) (fun h=>?_)
 ·
  refine CW.skip ?_
  obtain⟨st,rfl⟩:∃ m,st=m+1:=⟨st-1,by omega⟩
  refine CW.cx (fun E' w'=>∃ x A' dk,ak w' s (A'::os)∧ar w w'∧dB A' g au dk∧dk.size=n∧a<x∧x≤b∧Go.Sort.partialInsertionSort bf d a b=Go.Sort.partialIns bf a b st x dk∧E'=[(0,.slice (some ⟨g,0,none⟩) n c),(1,i64 a),(2,i64 b),(7,i64 (x:Nat)),(8,i64 (5-((st+1:Nat):Int)))]) ?_ ?_
  rotate_left
  ·
   rintro E' w7 ⟨x,A7,d7,bO,cj,yj,xX,adG,tL,eB,rfl⟩
   refine go 5 ?_
   refine fun ac ha=>⟨st,[(0,.slice (some ⟨g,0,none⟩) n c),(1,i64 a),(2,i64 b),(7,i64 (x:Nat)),(8,i64 (5-((st:Nat):Int)))],ha.sub ⟨rfl,rfl,rfl,rfl,congrArg (fun z=>some (i64 z)) (by omega),trivial⟩,⟨A7,d7,x,bO,cj,yj,xX,by omega,tL,by omega,eB,rfl⟩,by omega⟩
  refine go 1 ?_
  -- the part that is sorted already
  refine CW.cx (fun E' w'=>∃ x,ak w' s (A1::os)∧ar w w'∧i≤x∧x≤b∧Go.Sort.scanSorted bf d1 b i=x∧E'=[(0,.slice (some ⟨g,0,none⟩) n c),(1,i64 a),(2,i64 b),(7,i64 (x:Nat)),(8,i64 (5-((st+1:Nat):Int)))]) ?_ ?_
  ·
   refine CW.block (CW.loop (σ:=Nat) (fun k E w'=>∃ x,ak w' s (A1::os)∧ar w w'∧i≤x∧x≤b∧b-x≤k∧Go.Sort.scanSorted bf d1 b i=Go.Sort.scanSorted bf d1 b x∧E=[(0,.slice (some ⟨g,0,none⟩) n c),(1,i64 a),(2,i64 b),(7,i64 (x:Nat)),(8,i64 (5-((st+1:Nat):Int)))])
    (fun k=>k) b [(0,.slice (some ⟨g,0,none⟩) n c),(1,i64 a),(2,i64 b),(7,i64 (i:Nat)),(8,i64 (5-((st+1:Nat):Int)))] ⟨rfl,rfl,rfl,rfl,rfl,trivial⟩ ⟨i,aH,aN,Nat.le_refl _,Ef,by omega,rfl,rfl⟩ ?_)
   rintro k E w2 ⟨x,hg,aR,eG,tL,hk,ir,rfl⟩
   refine CW.seq (CW.seq ?_)
   refine CW.iA [(true,0),(true,1),(true,2),(true,3),(true,4),(true,5),(true,6),(true,7),(true,8),(true,9),(true,10),(true,11),(true,12),(false,13),(true,14),(true,15)] (fun w'=>ak w' s (A1::os)) mixed (by kernel_rfl) (by kernel_rfl) (by kernel_rfl) (by kernel_rfl) hg.drew ?_
   refine go 4 ?_
   refine RL.part 20 rfl (fun hc=>?_) (fun hc=>?_)
   ·
    have Qo:x<b:=by have:=of_decide_eq_true hc;omega
    refine go 2 ?_
    refine RL.bK x rfl rfl rfl rfl bG.out rfl rfl rfl (by omega) ?_
    refine RL.j7 x rfl rfl rfl rfl aV.out rfl fB (fun w h=>h.1) (by omega) ?_
    refine go 3 ?_
    refine RL.bK (x-1) rfl rfl rfl rfl bG.out rfl rfl (by omega) (by omega) ?_
    refine RL.j7 (x-1) rfl rfl rfl rfl aV.out rfl fB (fun w h=>h.1) (by omega) ?_
    refine go 1 ?_
    refine zw (qQ hg.drew) ?_
    rintro v w3 aP bw rfl
    refine⟨aP,?_⟩
    refine go 3 ?_
    refine CW.cond rfl (fun hl=>?_) (fun hl=>?_)
    ·
     refine CW.skip ?_
     refine CW.block (CW.plain ?_)
     refine go 4 ?_
     refine fun ac ha=>⟨k-1,[(0,.slice (some ⟨g,0,none⟩) n c),(1,i64 a),(2,i64 b),(7,i64 ((x:Int)+1)),(8,i64 (5-((st+1:Nat):Int)))],ha.sub ⟨rfl,rfl,rfl,rfl,rfl,trivial⟩,⟨x+1,aP,aR.trans ((ar.drew _).trans bw),by omega,by omega,by omega,by rw[ir];exact ajF Qo (by simpa using hl),rfl⟩,by omega⟩
    ·
     refine CW.exit (fun ac ha=>⟨_,ha.sub (E':=[(0,.slice (some ⟨g,0,none⟩) n c),(1,i64 a),(2,i64 b),(7,i64 (x:Nat)),(8,i64 (5-((st+1:Nat):Int)))]) ⟨rfl,rfl,rfl,rfl,rfl,trivial⟩,x,aP,aR.trans ((ar.drew _).trans bw),eG,tL,by rw[ir];exact YE (.inr (by simpa using hl)),rfl⟩)
   ·
    have Qo:¬ x<b:=by have:=of_decide_eq_false hc;omega
    refine go 13 ?_
    refine CW.no rfl ?_
    refine CW.exit (fun ac ha=>⟨_,ha.sub (E':=[(0,.slice (some ⟨g,0,none⟩) n c),(1,i64 a),(2,i64 b),(7,i64 (x:Nat)),(8,i64 (5-((st+1:Nat):Int)))]) ⟨rfl,rfl,rfl,rfl,rfl,trivial⟩,x,hg.drew,aR.trans (ar.drew _),eG,tL,by rw[ir];exact YE (.inl Qo),rfl⟩)
  rintro E' w4 ⟨x,bp,bJ,eG,tL,ir,rfl⟩
  refine CW.seq (CW.seq (CW.plain ?_))
  refine go 4 ?_
  refine CW.eq rfl (fun he=>?_) (fun he=>?_)
  ·
   refine CW.seq (CW.plain ?_)
   refine go 2 ?_
   have rn:=aiW (a:=a) (s:=st) ir (by omega)
   refine CW.ret (ret (vs:=[_]) ⟨_,_,rfl,rfl,rfl⟩ (aw.mk (Le.refl _) bp bJ ⟨rfl,?_,?_⟩))
   ·
    rw[dO,rn];rfl
   ·
    rw[dO,rn];exact fB
  have WE:¬ x=b:=by omega
  refine go 1 ?_
  refine CW.seq (CW.seq (CW.plain ?_))
  refine go 5 ?_
  refine CW.test rfl (fun h5=>?_) (fun h5=>?_)
  ·
   refine CW.seq (CW.plain ?_)
   refine go 2 ?_
   have rn:=aiY (a:=a) (s:=st) ir WE (by omega)
   refine CW.ret (ret (vs:=[_]) ⟨_,_,rfl,rfl,rfl⟩ (aw.mk (Le.refl _) bp bJ ⟨rfl,?_,?_⟩))
   ·
    rw[dO,rn];rfl
   ·
    rw[dO,rn];exact fB
  refine go 1 ?_
  have GR:=aiX (a:=a) (s:=st) ir WE (by omega)
  have hg:=bp
  have a_:=fB
  have hn:=fm
  refine CW.cx (fun E' w'=>∃ A',ak w' s (A'::os)∧ar w w'∧dB A' g au (swp d1 x (x-1))∧E'=[(0,.slice (some ⟨g,0,none⟩) n c),(1,i64 a),(2,i64 b),(7,i64 (x:Nat)),(8,i64 (5-((st+1:Nat):Int)))]) ?_ ?_
  ·
   refine CW.lb (.dV [(true,0),(true,1),(true,2),(true,3),(true,4),(true,5),(true,6),(true,7),(true,8),(true,10),(true,11),(true,12)] (.line [(false,9),(false,13),(true,14),(false,15),(true,16),(false,17)]) (.line [(false,13),(false,9),(true,14),(false,15),(true,16),(false,17)])) (fun _=>True) mixed (by kernel_rfl) (by kernel_rfl) (by kernel_rfl) (by kernel_rfl) trivial ?_
   refine RT.pre trivial ?_
   refine go 8 ?_
   refine RL.bK (x-1) rfl rfl rfl rfl bG.out rfl rfl (by omega) (by omega) ?_
   refine go 2 ?_
   refine RL.bK (x) rfl rfl rfl rfl bG.out rfl rfl (by omega) (by omega) ?_
   refine go 1 ?_
   refine RT.eE (S:=fun _=>True) trivial (RT.di (S:=fun _=>True) trivial ?_) (RT.di (S:=fun _=>True) trivial ?_)
   ·
    refine RL.dJ (x-1) rfl rfl rfl rfl aV.out rfl a_ hg.drew.1 (by omega) ?_
    refine RL.dJ (x) rfl rfl rfl rfl aV.out rfl a_ hg.drew.1 (by omega) ?_
    refine RL.bK (x) rfl rfl rfl rfl bG.out rfl rfl (by omega) (by omega) ?_
    refine RL.dL (x) rfl rfl rfl aV.out rfl rfl hg.drew a_ (by omega) ?_
    intro ws1 As1 dp dP dS
    refine go 1 ?_
    refine RL.bK (x-1) rfl rfl rfl rfl bG.out rfl rfl (by omega) (by omega) ?_
    refine RL.dL (x-1) rfl rfl rfl aV.out rfl rfl dp dS (by simp;omega) ?_
    intro ws2 As2 dI dQ dT
    refine go 2 ?_
    exact fun ac ha=>⟨_,ha.sub (E':=[(0,.slice (some ⟨g,0,none⟩) n c),(1,i64 a),(2,i64 b),(7,i64 (x:Nat)),(8,i64 (5-((st+1:Nat):Int)))]) ⟨rfl,rfl,rfl,rfl,rfl,trivial⟩,As2,dI,bJ.trans ((ar.drew _).trans (dP.trans dQ)),dT,rfl⟩
   ·
    refine RL.dJ (x) rfl rfl rfl rfl aV.out rfl a_ hg.drew.1 (by omega) ?_
    refine RL.dJ (x-1) rfl rfl rfl rfl aV.out rfl a_ hg.drew.1 (by omega) ?_
    refine RL.bK (x) rfl rfl rfl rfl bG.out rfl rfl (by omega) (by omega) ?_
    refine RL.dL (x) rfl rfl rfl aV.out rfl rfl hg.drew a_ (by omega) ?_
    intro ws1 As1 dp dP dS
    refine go 1 ?_
    refine RL.bK (x-1) rfl rfl rfl rfl bG.out rfl rfl (by omega) (by omega) ?_
    refine RL.dL (x-1) rfl rfl rfl aV.out rfl rfl dp dS (by simp;omega) ?_
    intro ws2 As2 dI dQ dT
    refine go 2 ?_
    exact fun ac ha=>⟨_,ha.sub (E':=[(0,.slice (some ⟨g,0,none⟩) n c),(1,i64 a),(2,i64 b),(7,i64 (x:Nat)),(8,i64 (5-((st+1:Nat):Int)))]) ⟨rfl,rfl,rfl,rfl,rfl,trivial⟩,As2,dI,bJ.trans ((ar.drew _).trans (dP.trans dQ)),dT,rfl⟩
  rintro E' w5 ⟨A5,bh,bQ,pj,rfl⟩
  have xW:(swp d1 x (x-1)).size=n:=by rw[size_swp];exact fm
  -- the smaller one goes down
  refine CW.cx (fun E' w'=>∃ A' dk,ak w' s (A'::os)∧ar w w'∧dB A' g au dk∧dk.size=n∧pd a x d1=dk∧E'=[(0,.slice (some ⟨g,0,none⟩) n c),(1,i64 a),(2,i64 b),(7,i64 (x:Nat)),(8,i64 (5-((st+1:Nat):Int)))]) ?_ ?_
  ·
   refine CW.seq (CW.plain ?_)
   refine go 5 ?_
   refine CW.test rfl (fun h2=>?_) (fun h2=>?_)
   ·
    have rn:pd a x d1=Go.Sort.shiftDown bf (x-1) (swp d1 x (x-1)):=by rw[pd,if_pos (by omega)]
    refine go 6 ?_
    refine CW.block (CW.loop (σ:=Nat) (fun j E w'=>∃ A' dk,ak w' s (A'::os)∧ar w w'∧dB A' g au dk∧dk.size=n∧j<n∧pd a x d1=Go.Sort.shiftDown bf j dk∧E=[(0,.slice (some ⟨g,0,none⟩) n c),(1,i64 a),(2,i64 b),(7,i64 (x:Nat)),(8,i64 (5-((st+1:Nat):Int))),(9,i64 (j:Nat))])
     (fun j=>j) (x-1) [(0,.slice (some ⟨g,0,none⟩) n c),(1,i64 a),(2,i64 b),(7,i64 (x:Nat)),(8,i64 (5-((st+1:Nat):Int))),(9,i64 ((x-1:Nat):Int))] ⟨rfl,rfl,rfl,rfl,rfl,congrArg (fun z=>some (i64 z)) (by omega),trivial⟩ ⟨A5,_,bh,bQ,pj,xW,by omega,rn,rfl⟩ ?_)
    rintro j E w6 ⟨A6,d6,hg,bM,a_,hn,J2,yk,rfl⟩
    refine CW.seq (CW.seq (CW.plain ?_))
    refine go 3 ?_
    refine CW.test rfl (fun hj=>?_) (fun hj=>?_)
    ·
     refine CW.skip ?_
     have kR:1≤j:=by omega
     refine CW.cx (fun E' w'=>∃ A',bf d6[j]! d6[j-1]! = true∧ak w' s (A'::os)∧ar w w'∧dB A' g au (swp d6 j (j-1))∧E'=[(0,.slice (some ⟨g,0,none⟩) n c),(1,i64 a),(2,i64 b),(7,i64 (x:Nat)),(8,i64 (5-((st+1:Nat):Int))),(9,i64 (j:Nat))]) ?_ ?_
     ·
      refine CW.block (CW.seq (CW.seq ?_))
      refine CW.iA [(true,0),(true,1),(true,2),(true,3),(true,4),(true,5),(true,6),(true,7),(true,8),(false,9),(true,10)] (fun w'=>ak w' s (A6::os)) mixed (by kernel_rfl) (by kernel_rfl) (by kernel_rfl) (by kernel_rfl) hg.drew ?_
      refine go 2 ?_
      refine RL.bK j rfl rfl rfl rfl bG.out rfl rfl rfl (by omega) ?_
      refine RL.j7 j rfl rfl rfl rfl aV.out rfl a_ (fun w h=>h.1) (by omega) ?_
      refine go 3 ?_
      refine RL.bK (j-1) rfl rfl rfl rfl bG.out rfl rfl (by omega) (by omega) ?_
      refine RL.j7 (j-1) rfl rfl rfl rfl aV.out rfl a_ (fun w h=>h.1) (by omega) ?_
      refine go 1 ?_
      refine zw (qQ hg.drew) ?_
      rintro v w7 bO cj rfl
      refine⟨bO,?_⟩
      refine go 2 ?_
      refine CW.cond rfl (fun hl=>?_) (fun hl=>?_)
      ·
       refine CW.exit (fun ac ha=>⟨_,ha.sub (E':=[(0,.slice (some ⟨g,0,none⟩) n c),(1,i64 a),(2,i64 b),(7,i64 (x:Nat)),(8,i64 (5-((st+1:Nat):Int)))]) ⟨rfl,rfl,rfl,rfl,rfl,trivial⟩,A6,d6,bO,bM.trans ((ar.drew _).trans cj),a_,hn,by rw[yk];exact YK (.inr (by simpa using hl)),rfl⟩)
      ·
       have hZ:bf d6[j]! d6[j-1]! = true:=by simpa using hl
       refine go 1 ?_
       have hg:=bO
       refine CW.lb (.dV [(true,0),(true,1),(true,2),(true,3),(true,4),(true,5),(true,6),(true,7),(true,8),(true,10),(true,11),(true,12)] (.line [(false,9),(false,13),(true,14),(false,15),(true,16),(false,17)]) (.line [(false,13),(false,9),(true,14),(false,15),(true,16),(false,17)])) (fun _=>True) mixed (by kernel_rfl) (by kernel_rfl) (by kernel_rfl) (by kernel_rfl) trivial ?_
       refine RT.pre trivial ?_
       refine go 8 ?_
       refine RL.bK (j-1) rfl rfl rfl rfl bG.out rfl rfl (by omega) (by omega) ?_
       refine go 2 ?_
       refine RL.bK (j) rfl rfl rfl rfl bG.out rfl rfl (by omega) (by omega) ?_
       refine go 1 ?_
       refine RT.eE (S:=fun _=>True) trivial (RT.di (S:=fun _=>True) trivial ?_) (RT.di (S:=fun _=>True) trivial ?_)
       ·
        refine RL.dJ (j-1) rfl rfl rfl rfl aV.out rfl a_ hg.drew.1 (by omega) ?_
        refine RL.dJ (j) rfl rfl rfl rfl aV.out rfl a_ hg.drew.1 (by omega) ?_
        refine RL.bK (j) rfl rfl rfl rfl bG.out rfl rfl (by omega) (by omega) ?_
        refine RL.dL (j) rfl rfl rfl aV.out rfl rfl hg.drew a_ (by omega) ?_
        intro ws1 As1 dp dP dS
        refine go 1 ?_
        refine RL.bK (j-1) rfl rfl rfl rfl bG.out rfl rfl (by omega) (by omega) ?_
        refine RL.dL (j-1) rfl rfl rfl aV.out rfl rfl dp dS (by simp;omega) ?_
        intro ws2 As2 dI dQ dT
        refine go 2 ?_
        exact fun ac ha=>⟨_,ha.sub (E':=[(0,.slice (some ⟨g,0,none⟩) n c),(1,i64 a),(2,i64 b),(7,i64 (x:Nat)),(8,i64 (5-((st+1:Nat):Int))),(9,i64 (j:Nat))]) ⟨rfl,rfl,rfl,rfl,rfl,rfl,trivial⟩,As2,hZ,dI,bM.trans ((ar.drew _).trans (cj.trans ((ar.drew _).trans (dP.trans dQ)))),dT,rfl⟩
       ·
        refine RL.dJ (j) rfl rfl rfl rfl aV.out rfl a_ hg.drew.1 (by omega) ?_
        refine RL.dJ (j-1) rfl rfl rfl rfl aV.out rfl a_ hg.drew.1 (by omega) ?_
        refine RL.bK (j) rfl rfl rfl rfl bG.out rfl rfl (by omega) (by omega) ?_
        refine RL.dL (j) rfl rfl rfl aV.out rfl rfl hg.drew a_ (by omega) ?_
        intro ws1 As1 dp dP dS
        refine go 1 ?_
        refine RL.bK (j-1) rfl rfl rfl rfl bG.out rfl rfl (by omega) (by omega) ?_
        refine RL.dL (j-1) rfl rfl rfl aV.out rfl rfl dp dS (by simp;omega) ?_
        intro ws2 As2 dI dQ dT
        refine go 2 ?_
        exact fun ac ha=>⟨_,ha.sub (E':=[(0,.slice (some ⟨g,0,none⟩) n c),(1,i64 a),(2,i64 b),(7,i64 (x:Nat)),(8,i64 (5-((st+1:Nat):Int))),(9,i64 (j:Nat))]) ⟨rfl,rfl,rfl,rfl,rfl,rfl,trivial⟩,As2,hZ,dI,bM.trans ((ar.drew _).trans (cj.trans ((ar.drew _).trans (dP.trans dQ)))),dT,rfl⟩
     ·
      rintro E' w8 ⟨A8,hZ,bD,cM,HA,rfl⟩
      refine go 5 ?_
      refine fun ac ha=>⟨j-1,[(0,.slice (some ⟨g,0,none⟩) n c),(1,i64 a),(2,i64 b),(7,i64 (x:Nat)),(8,i64 (5-((st+1:Nat):Int))),(9,i64 ((j-1:Nat):Int))],ha.sub ⟨rfl,rfl,rfl,rfl,rfl,congrArg (fun z=>some (i64 z)) (by omega),trivial⟩,⟨A8,_,bD,cM,HA,by rw[size_swp];exact hn,by omega,by rw[yk];exact ajO kR hZ,rfl⟩,by omega⟩
    ·
     refine CW.exit (fun ac ha=>⟨_,ha.sub (E':=[(0,.slice (some ⟨g,0,none⟩) n c),(1,i64 a),(2,i64 b),(7,i64 (x:Nat)),(8,i64 (5-((st+1:Nat):Int)))]) ⟨rfl,rfl,rfl,rfl,rfl,trivial⟩,A6,d6,hg,bM,a_,hn,by rw[yk];exact YK (.inl (by omega)),rfl⟩)
   ·
    refine CW.skip (fun ac ha=>⟨_,ha.sub (E':=[(0,.slice (some ⟨g,0,none⟩) n c),(1,i64 a),(2,i64 b),(7,i64 (x:Nat)),(8,i64 (5-((st+1:Nat):Int)))]) ⟨rfl,rfl,rfl,rfl,rfl,trivial⟩,A5,_,bh,bQ,pj,xW,by rw[pd,if_neg (by omega)],rfl⟩)
  rintro E' w6 ⟨A5,d5,bh,bQ,pj,xW,rn,rfl⟩
  -- the greater one goes up
  refine go 7 ?_
  refine CW.test rfl (fun h2=>?_) (fun h2=>?_)
  ·
   have Ki:pu b x d5=Go.Sort.shiftUp bf b (x+1) d5:=by rw[pu,if_pos (by omega)]
   ·
    refine CW.seq (CW.plain ?_)
    refine go 4 ?_
    refine CW.block (CW.loop (σ:=Nat) (fun k E w'=>∃ A' dk j,ak w' s (A'::os)∧ar w w'∧dB A' g au dk∧dk.size=n∧1≤j∧j≤n∧b-j≤k∧pu b x d5=Go.Sort.shiftUp bf b j dk∧E=[(0,.slice (some ⟨g,0,none⟩) n c),(1,i64 a),(2,i64 b),(7,i64 (x:Nat)),(8,i64 (5-((st+1:Nat):Int))),(10,i64 (j:Nat))])
     (fun k=>k) b [(0,.slice (some ⟨g,0,none⟩) n c),(1,i64 a),(2,i64 b),(7,i64 (x:Nat)),(8,i64 (5-((st+1:Nat):Int))),(10,i64 ((x:Int)+1))] ⟨rfl,rfl,rfl,rfl,rfl,rfl,trivial⟩ ⟨A5,_,x+1,bh,bQ,pj,xW,by omega,by omega,by omega,Ki,rfl⟩ ?_)
    rintro k E w6 ⟨A6,d6,j,hg,bM,a_,hn,h1j,J2,hk,yk,rfl⟩
    refine CW.seq (CW.seq (CW.plain ?_))
    refine go 4 ?_
    refine CW.test rfl (fun hj=>?_) (fun hj=>?_)
    ·
     refine CW.skip ?_
     have kR:j<b:=by omega
     refine CW.cx (fun E' w'=>∃ A',bf d6[j]! d6[j-1]! = true∧ak w' s (A'::os)∧ar w w'∧dB A' g au (swp d6 j (j-1))∧E'=[(0,.slice (some ⟨g,0,none⟩) n c),(1,i64 a),(2,i64 b),(7,i64 (x:Nat)),(8,i64 (5-((st+1:Nat):Int))),(10,i64 (j:Nat))]) ?_ ?_
     ·
      refine CW.block (CW.seq (CW.seq ?_))
      refine CW.iA [(true,0),(true,1),(true,2),(true,3),(true,4),(true,5),(true,6),(true,7),(true,8),(false,9),(true,10)] (fun w'=>ak w' s (A6::os)) mixed (by kernel_rfl) (by kernel_rfl) (by kernel_rfl) (by kernel_rfl) hg.drew ?_
      refine go 2 ?_
      refine RL.bK j rfl rfl rfl rfl bG.out rfl rfl rfl (by omega) ?_
      refine RL.j7 j rfl rfl rfl rfl aV.out rfl a_ (fun w h=>h.1) (by omega) ?_
      refine go 3 ?_
      refine RL.bK (j-1) rfl rfl rfl rfl bG.out rfl rfl (by omega) (by omega) ?_
      refine RL.j7 (j-1) rfl rfl rfl rfl aV.out rfl a_ (fun w h=>h.1) (by omega) ?_
      refine go 1 ?_
      refine zw (qQ hg.drew) ?_
      rintro v w7 bO cj rfl
      refine⟨bO,?_⟩
      refine go 2 ?_
      refine CW.cond rfl (fun hl=>?_) (fun hl=>?_)
      ·
       refine CW.exit (fun ac ha=>⟨_,ha.sub (E':=[(0,.slice (some ⟨g,0,none⟩) n c),(1,i64 a),(2,i64 b),(7,i64 (x:Nat)),(8,i64 (5-((st+1:Nat):Int)))]) ⟨rfl,rfl,rfl,rfl,rfl,trivial⟩,x,A6,d6,bO,bM.trans ((ar.drew _).trans cj),a_,hn,by omega,tL,by rw[dO,GR,rn,yk,YM (.inr (by simpa using hl))],rfl⟩)
      ·
       have hZ:bf d6[j]! d6[j-1]! = true:=by simpa using hl
       refine go 1 ?_
       have hg:=bO
       refine CW.lb (.dV [(true,0),(true,1),(true,2),(true,3),(true,4),(true,5),(true,6),(true,7),(true,8),(true,10),(true,11),(true,12)] (.line [(false,9),(false,13),(true,14),(false,15),(true,16),(false,17)]) (.line [(false,13),(false,9),(true,14),(false,15),(true,16),(false,17)])) (fun _=>True) mixed (by kernel_rfl) (by kernel_rfl) (by kernel_rfl) (by kernel_rfl) trivial ?_
       refine RT.pre trivial ?_
       refine go 8 ?_
       refine RL.bK (j-1) rfl rfl rfl rfl bG.out rfl rfl (by omega) (by omega) ?_
       refine go 2 ?_
       refine RL.bK (j) rfl rfl rfl rfl bG.out rfl rfl (by omega) (by omega) ?_
       refine go 1 ?_
       refine RT.eE (S:=fun _=>True) trivial (RT.di (S:=fun _=>True) trivial ?_) (RT.di (S:=fun _=>True) trivial ?_)
       ·
        refine RL.dJ (j-1) rfl rfl rfl rfl aV.out rfl a_ hg.drew.1 (by omega) ?_
        refine RL.dJ (j) rfl rfl rfl rfl aV.out rfl a_ hg.drew.1 (by omega) ?_
        refine RL.bK (j) rfl rfl rfl rfl bG.out rfl rfl (by omega) (by omega) ?_
        refine RL.dL (j) rfl rfl rfl aV.out rfl rfl hg.drew a_ (by omega) ?_
        intro ws1 As1 dp dP dS
        refine go 1 ?_
        refine RL.bK (j-1) rfl rfl rfl rfl bG.out rfl rfl (by omega) (by omega) ?_
        refine RL.dL (j-1) rfl rfl rfl aV.out rfl rfl dp dS (by simp;omega) ?_
        intro ws2 As2 dI dQ dT
        refine go 2 ?_
        exact fun ac ha=>⟨_,ha.sub (E':=[(0,.slice (some ⟨g,0,none⟩) n c),(1,i64 a),(2,i64 b),(7,i64 (x:Nat)),(8,i64 (5-((st+1:Nat):Int))),(10,i64 (j:Nat))]) ⟨rfl,rfl,rfl,rfl,rfl,rfl,trivial⟩,As2,hZ,dI,bM.trans ((ar.drew _).trans (cj.trans ((ar.drew _).trans (dP.trans dQ)))),dT,rfl⟩
       ·
        refine RL.dJ (j) rfl rfl rfl rfl aV.out rfl a_ hg.drew.1 (by omega) ?_
        refine RL.dJ (j-1) rfl rfl rfl rfl aV.out rfl a_ hg.drew.1 (by omega) ?_
        refine RL.bK (j) rfl rfl rfl rfl bG.out rfl rfl (by omega) (by omega) ?_
        refine RL.dL (j) rfl rfl rfl aV.out rfl rfl hg.drew a_ (by omega) ?_
        intro ws1 As1 dp dP dS
        refine go 1 ?_
        refine RL.bK (j-1) rfl rfl rfl rfl bG.out rfl rfl (by omega) (by omega) ?_
        refine RL.dL (j-1) rfl rfl rfl aV.out rfl rfl dp dS (by simp;omega) ?_
        intro ws2 As2 dI dQ dT
        refine go 2 ?_
        exact fun ac ha=>⟨_,ha.sub (E':=[(0,.slice (some ⟨g,0,none⟩) n c),(1,i64 a),(2,i64 b),(7,i64 (x:Nat)),(8,i64 (5-((st+1:Nat):Int))),(10,i64 (j:Nat))]) ⟨rfl,rfl,rfl,rfl,rfl,rfl,trivial⟩,As2,hZ,dI,bM.trans ((ar.drew _).trans (cj.trans ((ar.drew _).trans (dP.trans dQ)))),dT,rfl⟩
     ·
      rintro E' w8 ⟨A8,hZ,bD,cM,HA,rfl⟩
      refine go 5 ?_
      refine fun ac ha=>⟨k-1,[(0,.slice (some ⟨g,0,none⟩) n c),(1,i64 a),(2,i64 b),(7,i64 (x:Nat)),(8,i64 (5-((st+1:Nat):Int))),(10,i64 ((j:Int)+1))],ha.sub ⟨rfl,rfl,rfl,rfl,rfl,rfl,trivial⟩,⟨A8,_,j+1,bD,cM,HA,by rw[size_swp];exact hn,by omega,by omega,by omega,by rw[yk];exact ajP kR hZ,rfl⟩,by omega⟩
    ·
     refine CW.exit (fun ac ha=>⟨_,ha.sub (E':=[(0,.slice (some ⟨g,0,none⟩) n c),(1,i64 a),(2,i64 b),(7,i64 (x:Nat)),(8,i64 (5-((st+1:Nat):Int)))]) ⟨rfl,rfl,rfl,rfl,rfl,trivial⟩,x,A6,d6,hg,bM,a_,hn,by omega,tL,by rw[dO,GR,rn,yk,YM (.inl (by omega))],rfl⟩)
  ·
   refine CW.skip (fun ac ha=>⟨_,ha.sub (E':=[(0,.slice (some ⟨g,0,none⟩) n c),(1,i64 a),(2,i64 b),(7,i64 (x:Nat)),(8,i64 (5-((st+1:Nat):Int)))]) ⟨rfl,rfl,rfl,rfl,rfl,trivial⟩,x,A5,d5,bh,bQ,pj,xW,by omega,tL,by rw[dO,GR,rn,pu,if_neg (by omega)],rfl⟩)
 ·
  obtain rfl:st=0:=by omega
  refine CW.exit (CW.seq (CW.plain ?_))
  refine go 2 ?_
  refine CW.ret (ret (vs:=[_]) ⟨_,_,rfl,rfl,rfl⟩ (aw.mk (Le.refl _) aH aN ⟨rfl,?_,?_⟩))
  ·
   rw[dO];rfl
  ·
   rw[dO];exact fB
end Go.Lw
namespace Go.Lw
open Go.Proofs
open Go.Sort (swp size_swp PermIn)
theorem aaz {w:World} {s A:aj} {os:List aj} {p:Nat} {x:Int} (hg:ak w s (A::os)) (hp:A p=some (.cells #[.int .u64 x] 221 (0,0))) :
  Calls Tryz.prog 203 #[ptr p] w (aw w s os fun s' A' r=>s'=s∧∃ y,aq .u64 y∧r = .int .u64 y∧A' p=some (.cells #[.int .u64 y] 221 (0,0))):=by
 refine enter (l:=[ptr p]) Tryz.func203 rfl Tryz.ntmps203 rfl ?_
 refine go 4 ?_
 have jq:=ar.refl w
 refine CW.cx (fun E' w'=>∃ A' y,ak w' s (A'::os)∧ar w w'∧aq .u64 y∧A' p=some (.cells #[.int .u64 y] 221 (0,0))∧E'=[(0,ptr p)]) ?_ ?_
 refine CW.lb (.dV [(true,0),(true,1),(true,3),(true,4)] (.line [(false,2),(false,5),(true,6),(true,7),(true,8),(false,9)]) (.line [(false,5),(true,6),(false,2),(true,7),(true,8),(false,9)])) (fun _=>True) mixed (by kernel_rfl) (by kernel_rfl) (by kernel_rfl) (by kernel_rfl) trivial ?_
 refine RT.pre trivial ?_
 refine go 5 ?_
 refine RT.eE (S:=fun _=>True) trivial (RT.di (S:=fun _=>True) trivial ?_) (RT.di (S:=fun _=>True) trivial ?_)
 refine RL.load (j:=0) rfl rfl rfl rfl nu.out rfl (Holds.of hp) (hg.drew.1) rfl ?_
 refine RL.load (j:=0) rfl rfl rfl rfl nu.out rfl (Holds.of hp) (hg.drew.1) rfl ?_
 refine RL.shl 13 rfl rfl rfl rfl rfl rfl rfl (by decide) ?_
 refine go 2 ?_
 refine RL.store (i:=0) (j:=0) rfl rfl rfl nu.out rfl rfl hg.drew rfl (hp) rfl (by first | (simp[Value.cells,Value.oneCell'];done) | simp[Value.cells,Value.oneCell',lx]) (by first | exact Nat.le_of_ble_eq_true rfl | (simp;done) | (simp;omega) | omega) ?_
 rintro w2 aS aR
 refine go 2 ?_
 exact fun ac ha=>⟨_,ha.sub (E':=[(0,ptr p)]) ⟨rfl,trivial⟩,_,_,aS,jq.trans ((ar.drew _).trans aR),CR _ _,dq _ _ _,rfl⟩
 refine RL.load (j:=0) rfl rfl rfl rfl nu.out rfl (Holds.of hp) (hg.drew.1) rfl ?_
 refine RL.shl 13 rfl rfl rfl rfl rfl rfl rfl (by decide) ?_
 refine RL.load (j:=0) rfl rfl rfl rfl nu.out rfl (Holds.of hp) (hg.drew.1) rfl ?_
 refine go 2 ?_
 refine RL.store (i:=0) (j:=0) rfl rfl rfl nu.out rfl rfl hg.drew rfl (hp) rfl (by first | (simp[Value.cells,Value.oneCell'];done) | simp[Value.cells,Value.oneCell',lx]) (by first | exact Nat.le_of_ble_eq_true rfl | (simp;done) | (simp;omega) | omega) ?_
 rintro w2 aS aR
 refine go 2 ?_
 exact fun ac ha=>⟨_,ha.sub (E':=[(0,ptr p)]) ⟨rfl,trivial⟩,_,_,aS,jq.trans ((ar.drew _).trans aR),CR _ _,dq _ _ _,rfl⟩
 rintro E' w' ⟨A',y,hg,jq,hy,hp,rfl⟩
 refine CW.cx (fun E' w'=>∃ A' y,ak w' s (A'::os)∧ar w w'∧aq .u64 y∧A' p=some (.cells #[.int .u64 y] 221 (0,0))∧E'=[(0,ptr p)]) ?_ ?_
 refine CW.lb (.dV [(true,0),(true,1),(true,3),(true,4)] (.line [(false,2),(false,5),(true,6),(true,7),(true,8),(false,9)]) (.line [(false,5),(true,6),(false,2),(true,7),(true,8),(false,9)])) (fun _=>True) mixed (by kernel_rfl) (by kernel_rfl) (by kernel_rfl) (by kernel_rfl) trivial ?_
 refine RT.pre trivial ?_
 refine go 5 ?_
 refine RT.eE (S:=fun _=>True) trivial (RT.di (S:=fun _=>True) trivial ?_) (RT.di (S:=fun _=>True) trivial ?_)
 refine RL.load (j:=0) rfl rfl rfl rfl nu.out rfl (Holds.of hp) (hg.drew.1) rfl ?_
 refine RL.load (j:=0) rfl rfl rfl rfl nu.out rfl (Holds.of hp) (hg.drew.1) rfl ?_
 refine RL.shr 7 rfl rfl rfl rfl rfl rfl rfl (by decide) ?_
 refine go 2 ?_
 refine RL.store (i:=0) (j:=0) rfl rfl rfl nu.out rfl rfl hg.drew rfl (hp) rfl (by first | (simp[Value.cells,Value.oneCell'];done) | simp[Value.cells,Value.oneCell',lx]) (by first | exact Nat.le_of_ble_eq_true rfl | (simp;done) | (simp;omega) | omega) ?_
 rintro w2 aS aR
 refine go 2 ?_
 exact fun ac ha=>⟨_,ha.sub (E':=[(0,ptr p)]) ⟨rfl,trivial⟩,_,_,aS,jq.trans ((ar.drew _).trans aR),CR _ _,dq _ _ _,rfl⟩
 refine RL.load (j:=0) rfl rfl rfl rfl nu.out rfl (Holds.of hp) (hg.drew.1) rfl ?_
 refine RL.shr 7 rfl rfl rfl rfl rfl rfl rfl (by decide) ?_
 refine RL.load (j:=0) rfl rfl rfl rfl nu.out rfl (Holds.of hp) (hg.drew.1) rfl ?_
 refine go 2 ?_
 refine RL.store (i:=0) (j:=0) rfl rfl rfl nu.out rfl rfl hg.drew rfl (hp) rfl (by first | (simp[Value.cells,Value.oneCell'];done) | simp[Value.cells,Value.oneCell',lx]) (by first | exact Nat.le_of_ble_eq_true rfl | (simp;done) | (simp;omega) | omega) ?_
 rintro w2 aS aR
 refine go 2 ?_
 exact fun ac ha=>⟨_,ha.sub (E':=[(0,ptr p)]) ⟨rfl,trivial⟩,_,_,aS,jq.trans ((ar.drew _).trans aR),CR _ _,dq _ _ _,rfl⟩
 rintro E' w' ⟨A',y,hg,jq,hy,hp,rfl⟩
 refine CW.cx (fun E' w'=>∃ A' y,ak w' s (A'::os)∧ar w w'∧aq .u64 y∧A' p=some (.cells #[.int .u64 y] 221 (0,0))∧E'=[(0,ptr p)]) ?_ ?_
 refine CW.lb (.dV [(true,0),(true,1),(true,3),(true,4)] (.line [(false,2),(false,5),(true,6),(true,7),(true,8),(false,9)]) (.line [(false,5),(true,6),(false,2),(true,7),(true,8),(false,9)])) (fun _=>True) mixed (by kernel_rfl) (by kernel_rfl) (by kernel_rfl) (by kernel_rfl) trivial ?_
 refine RT.pre trivial ?_
 refine go 5 ?_
 refine RT.eE (S:=fun _=>True) trivial (RT.di (S:=fun _=>True) trivial ?_) (RT.di (S:=fun _=>True) trivial ?_)
 refine RL.load (j:=0) rfl rfl rfl rfl nu.out rfl (Holds.of hp) (hg.drew.1) rfl ?_
 refine RL.load (j:=0) rfl rfl rfl rfl nu.out rfl (Holds.of hp) (hg.drew.1) rfl ?_
 refine RL.shl 17 rfl rfl rfl rfl rfl rfl rfl (by decide) ?_
 refine go 2 ?_
 refine RL.store (i:=0) (j:=0) rfl rfl rfl nu.out rfl rfl hg.drew rfl (hp) rfl (by first | (simp[Value.cells,Value.oneCell'];done) | simp[Value.cells,Value.oneCell',lx]) (by first | exact Nat.le_of_ble_eq_true rfl | (simp;done) | (simp;omega) | omega) ?_
 rintro w2 aS aR
 refine go 2 ?_
 exact fun ac ha=>⟨_,ha.sub (E':=[(0,ptr p)]) ⟨rfl,trivial⟩,_,_,aS,jq.trans ((ar.drew _).trans aR),CR _ _,dq _ _ _,rfl⟩
 refine RL.load (j:=0) rfl rfl rfl rfl nu.out rfl (Holds.of hp) (hg.drew.1) rfl ?_
 refine RL.shl 17 rfl rfl rfl rfl rfl rfl rfl (by decide) ?_
 refine RL.load (j:=0) rfl rfl rfl rfl nu.out rfl (Holds.of hp) (hg.drew.1) rfl ?_
 refine go 2 ?_
 refine RL.store (i:=0) (j:=0) rfl rfl rfl nu.out rfl rfl hg.drew rfl (hp) rfl (by first | (simp[Value.cells,Value.oneCell'];done) | simp[Value.cells,Value.oneCell',lx]) (by first | exact Nat.le_of_ble_eq_true rfl | (simp;done) | (simp;omega) | omega) ?_
 rintro w2 aS aR
 refine go 2 ?_
 exact fun ac ha=>⟨_,ha.sub (E':=[(0,ptr p)]) ⟨rfl,trivial⟩,_,_,aS,jq.trans ((ar.drew _).trans aR),CR _ _,dq _ _ _,rfl⟩
 rintro E' w' ⟨A',y,hg,jq,hy,hp,rfl⟩
 refine go 4 ?_
 refine RL.load (j:=0) rfl rfl rfl rfl nu.out rfl (Holds.of hp) (hg.1) rfl ?_
 refine go 2 ?_
 exact CW.ret (ret (vs:=[_]) ⟨_,_,rfl,rfl,rfl⟩ (aw.mk (Le.refl _) hg jq ⟨rfl,y,hy,rfl,hp⟩))
theorem aau (x:Int) (w:World) (h0:0≤x) (h1:x≤18446744073709551615):Calls Tryz.prog 178 #[.int .u64 x] w fun e w'=>e = .returned (.int .i64 (Lib.bitLen x.toNat))∧w'=w :=
 calls_of_every_depth fun D=>AnySM.bits_LenIn { Tryz.Rz with } D x w h0 h1
theorem Sl {w:World} {s:aj} {os:List aj} {n:Nat} (hg:ak w s os) (hn:n<18446744073709551616):Calls Tryz.prog 178 #[.int .u64 n] w (aQ w s os fun r=>r=i64 (Go.Sort.bitsLen n:Nat)):=by
 refine (aau n w (by omega) (by omega)).mono ?_
 rintro e w' ⟨rfl,rfl⟩
 refine aQ.mq hg ?_
 rw[Int.toNat_natCast,Go.Proofs.bitLen_eq _ (by omega)]
theorem aiv {w:World} {s:aj} {os:List aj} {n:Nat} (hg:ak w s os) (h0:0<n) (hn:n<2305843009213693952) :
  Calls Tryz.prog 202 #[i64 n] w (aQ w s os fun r=>r = .int .u64 ((2 ^ Go.Sort.bitsLen n:Nat):Int)):=by
 have h2:=Go.Sort.two_pow_bitsLen_le h0
 have Bf:Go.Sort.bitsLen n≤61:=(Go.Sort.bitsLen_le_iff n 61).2 (by omega)
 refine enter (l:=[i64 n]) Tryz.func202 rfl Tryz.ntmps202 rfl ?_
 refine go 7 ?_
 refine RL.conv rfl rfl rfl rfl Tryz.underlying3 Tryz.underlying200 rfl ((by simp only[aq];omega)) ?_
 refine go 1 ?_
 refine zw (Sl hg (by omega)) ?_
 rintro v w1 aH aN rfl
 refine go 1 ?_
 refine RL.shl (Go.Sort.bitsLen n) rfl rfl rfl rfl rfl rfl (rfl) ((by simp[IntKind.bits];omega)) ?_
 refine go 2 ?_
 refine CW.ret (ret (vs:=[_]) ⟨_,_,rfl,rfl,rfl⟩ (aQ.mk aH aN (congrArg (Value.int .u64) ?_)))
 have e:(1:Int)*2 ^ Go.Sort.bitsLen n=((2 ^ Go.Sort.bitsLen n:Nat):Int):=by simp
 rw[e]
 generalize 2 ^ Go.Sort.bitsLen n=M at *
 exact aq.wrap (k:= .u64) (by simp only[aq];omega)
theorem aa5 (x y:Int) (hy:0≤y) (hy2:y<18446744073709551616):0≤IntKind.u64.wrap ((BitVec.ofInt IntKind.u64.bits x &&& BitVec.ofInt IntKind.u64.bits y).toNat)∧IntKind.u64.wrap ((BitVec.ofInt IntKind.u64.bits x &&& BitVec.ofInt IntKind.u64.bits y).toNat)≤y:=by
 have h1:(BitVec.ofInt IntKind.u64.bits x &&& BitVec.ofInt IntKind.u64.bits y).toNat≤(BitVec.ofInt IntKind.u64.bits y).toNat:=by
  rw[BitVec.toNat_and];exact Nat.and_le_right
 have h2:(BitVec.ofInt IntKind.u64.bits y).toNat=y.toNat:=by
  rw[BitVec.toNat_ofInt]
  simp only[IntKind.bits]
  omega
 rw[akR]
 omega
theorem abt {w:World} {s A:aj} {os:List aj} {g n c a b:Nat} {au:List Value} {d:Array Int} (hg:ak w s (A::os)) (a_:dB A g au d) (hn:d.size=n) (hb:b≤n) (lf:a+8≤b) (cV:n<2305843009213693952) :
  Calls Tryz.prog 193 #[.slice (some ⟨g,0,none⟩) n c,i64 a,i64 b] w (aw w s os fun s' A' r=>s'=s∧r = .tuple #[]∧∃ d',PermIn a b d d'∧dB A' g au d'):=by
 obtain⟨L,hL⟩:∃ L,L=b-a:=⟨_,rfl⟩
 have h2:=Go.Sort.two_pow_bitsLen_le (n:=L) (by omega)
 have yf:1≤2 ^ Go.Sort.bitsLen L:=Nat.one_le_two_pow
 refine enter (l:=[.slice (some ⟨g,0,none⟩) n c,i64 a,i64 b]) Tryz.func193 rfl Tryz.ntmps193 rfl ?_
 refine go 7 ?_
 have eL:((b:Int)-(a:Int))=(L:Int):=by omega
 rw[eL]
 refine go 5 ?_
 refine CW.test rfl (fun h=>?_) (fun h=>absurd (by omega) h)
 refine go 3 ?_
 refine RL.conv rfl rfl rfl rfl Tryz.underlying3 Tryz.underlying221 rfl ((by simp only[aq];omega)) ?_
 refine RL.alloc rfl rfl rfl rfl akV.out hg ?_
 rintro p w1 aH aN
 refine go 1 ?_
 refine RL.store (i:=0) (j:=0) rfl rfl rfl nu.out rfl rfl aH rfl ((if_pos rfl)) rfl (by first | (simp[Value.cells,Value.oneCell'];done) | simp[Value.cells,Value.oneCell',lx]) (by first | exact Nat.le_of_ble_eq_true rfl | (simp;done) | (simp;omega) | omega) ?_
 rintro w2 aS aR
 refine go 2 ?_
 obtain⟨B2,x0,GJ,F5⟩:∃ B x,ak w2 s (B::A::os)∧B p=some (.cells #[.int .u64 x] 221 (0,0)):=⟨_,_,aS,dq _ _ _⟩
 refine go 4 ?_
 refine zw (aiv (n:=L) GJ (by omega) (by omega)) ?_
 rintro v3 w3 aP bw rfl
 refine go 7 ?_
 refine RL.quo rfl rfl rfl rfl rfl rfl ((by omega)) ((by decide)) ((by simp only[aq];omega)) ?_
 refine RL.mul rfl rfl rfl rfl rfl rfl ((by simp only[aq];omega)) ?_
 refine go 4 ?_
 refine CW.block (CW.loop (σ:=Nat) (fun k E w'=>∃ A' B' dk x i,ak w' s (B'::A'::os)∧ar w w'∧B' p=some (.cells #[.int .u64 x] 221 (0,0))∧dB A' g au dk∧PermIn a b d dk∧i+k=a+L / 4*2+2∧k≤3∧E=[(0,.slice (some ⟨g,0,none⟩) n c),(1,i64 a),(6,i64 (L:Nat)),(7,ptr p),(8,.int .u64 ((2 ^ Go.Sort.bitsLen L:Nat):Int)),(9,i64 (i:Nat))])
  (fun k=>k) 3 [(0,.slice (some ⟨g,0,none⟩) n c),(1,i64 a),(6,i64 (L:Nat)),(7,ptr p),(8,.int .u64 ((2 ^ Go.Sort.bitsLen L:Nat):Int)),(9,i64 ((a+L / 4*2-1:Nat):Int))] ⟨rfl,rfl,rfl,rfl,rfl,congrArg (fun z=>some (i64 z)) (by omega),trivial⟩
  ⟨A,B2,d,x0,a+L / 4*2-1,aP,aN.trans (aR.trans bw),F5,a_,Go.Sort.permIn_refl _ _ _,by omega,Nat.le_refl _,rfl⟩ ?_)
 rintro k E w4 ⟨A4,B4,d4,x4,i,bp,bJ,DR,ru,Ew,qx,pY,rfl⟩
 have Cd:d4.size=n:=by rw[Ew.1];exact hn
 refine CW.seq (CW.seq (CW.plain ?_))
 refine go 3 ?_
 refine RL.quo rfl rfl rfl rfl rfl rfl ((by omega)) ((by decide)) ((by simp only[aq];omega)) ?_
 refine RL.mul rfl rfl rfl rfl rfl rfl ((by simp only[aq];omega)) ?_
 refine go 4 ?_
 refine CW.test rfl (fun hi=>?_) (fun hi=>?_)
 ·
  refine CW.skip ?_
  refine CW.cx (fun E' w'=>∃ A' B' dk x,ak w' s (B'::A'::os)∧ar w w'∧B' p=some (.cells #[.int .u64 x] 221 (0,0))∧dB A' g au dk∧PermIn a b d dk∧E'=[(0,.slice (some ⟨g,0,none⟩) n c),(1,i64 a),(6,i64 (L:Nat)),(7,ptr p),(8,.int .u64 ((2 ^ Go.Sort.bitsLen L:Nat):Int)),(9,i64 (i:Nat))]) ?_ ?_
  rotate_left
  ·
   rintro E' w7 ⟨A7,B7,d7,x7,bO,cj,Bo,yj,agy,rfl⟩
   refine go 5 ?_
   refine fun ac ha=>⟨k-1,[(0,.slice (some ⟨g,0,none⟩) n c),(1,i64 a),(6,i64 (L:Nat)),(7,ptr p),(8,.int .u64 ((2 ^ Go.Sort.bitsLen L:Nat):Int)),(9,i64 ((i+1:Nat):Int))],ha.sub ⟨rfl,rfl,rfl,rfl,rfl,rfl,trivial⟩,⟨A7,B7,d7,x7,i+1,bO,cj,Bo,yj,agy,by omega,by omega,rfl⟩,by omega⟩
  refine CW.block (CW.seq (CW.plain ?_))
  refine go 1 ?_
  refine zc (aaz bp DR) ?_
  rintro v5 s5 B5 w5 dz bh bQ ⟨rfl,y,hy,rfl,Jx⟩
  refine go 4 ?_
  obtain⟨Ky,EJ⟩:=aa5 y (((2 ^ Go.Sort.bitsLen L:Nat):Int)-1) (by omega) (by omega)
  generalize IntKind.u64.wrap ((BitVec.ofInt IntKind.u64.bits y &&& BitVec.ofInt IntKind.u64.bits (((2 ^ Go.Sort.bitsLen L:Nat):Int)-1)).toNat)=z at *
  refine RL.conv rfl rfl rfl rfl Tryz.underlying200 Tryz.underlying3 rfl ((by simp only[aq];omega)) ?_
  refine go 2 ?_
  refine CW.cx (fun E' w'=>∃ q:Nat,q<L∧w'=w5∧E'=[(0,.slice (some ⟨g,0,none⟩) n c),(1,i64 a),(6,i64 (L:Nat)),(7,ptr p),(8,.int .u64 ((2 ^ Go.Sort.bitsLen L:Nat):Int)),(9,i64 (i:Nat)),(10,i64 (q:Nat))]) ?_ ?_
  ·
   refine CW.seq (CW.plain ?_)
   refine go 4 ?_
   refine CW.test rfl (fun hq=>?_) (fun hq=>?_)
   ·
    refine CW.plain ?_
    refine go 5 ?_
    refine fun ac ha=>⟨[(0,.slice (some ⟨g,0,none⟩) n c),(1,i64 a),(6,i64 (L:Nat)),(7,ptr p),(8,.int .u64 ((2 ^ Go.Sort.bitsLen L:Nat):Int)),(9,i64 (i:Nat)),(10,i64 (((z-L).toNat:Nat):Int))],ha.sub ⟨rfl,rfl,rfl,rfl,rfl,rfl,congrArg (fun z=>some (i64 z)) (by omega),trivial⟩,(z-L).toNat,by omega,rfl,rfl⟩
   ·
    refine CW.skip (fun ac ha=>⟨[(0,.slice (some ⟨g,0,none⟩) n c),(1,i64 a),(6,i64 (L:Nat)),(7,ptr p),(8,.int .u64 ((2 ^ Go.Sort.bitsLen L:Nat):Int)),(9,i64 (i:Nat)),(10,i64 ((z.toNat:Nat):Int))],ha.sub ⟨rfl,rfl,rfl,rfl,rfl,rfl,congrArg (fun z=>some (i64 z)) (by omega),trivial⟩,z.toNat,by omega,rfl,rfl⟩)
  rintro E' w6 ⟨q,hq,rfl,rfl⟩
  have hg:=bh.swap
  have a_:=ru
  have hn:=Cd
  refine CW.lb (.dV [(true,0),(true,1),(true,2),(true,3),(true,4),(true,5),(true,6),(true,7),(true,8),(true,9),(true,10),(true,12),(true,13),(true,14)] (.line [(false,11),(false,15),(true,16),(false,17),(true,18),(false,19)]) (.line [(false,15),(false,11),(true,16),(false,17),(true,18),(false,19)])) (fun _=>True) mixed (by kernel_rfl) (by kernel_rfl) (by kernel_rfl) (by kernel_rfl) trivial ?_
  refine RT.pre trivial ?_
  refine go 10 ?_
  refine RL.bK (a+q) rfl rfl rfl rfl bG.out rfl rfl (by omega) (by omega) ?_
  refine go 2 ?_
  refine RL.bK (i) rfl rfl rfl rfl bG.out rfl rfl (by omega) (by omega) ?_
  refine go 1 ?_
  refine RT.eE (S:=fun _=>True) trivial (RT.di (S:=fun _=>True) trivial ?_) (RT.di (S:=fun _=>True) trivial ?_)
  ·
   refine RL.dJ (a+q) rfl rfl rfl rfl aV.out rfl a_ hg.drew.1 (by omega) ?_
   refine RL.dJ (i) rfl rfl rfl rfl aV.out rfl a_ hg.drew.1 (by omega) ?_
   refine RL.bK (i) rfl rfl rfl rfl bG.out rfl rfl (by omega) (by omega) ?_
   refine RL.dL (i) rfl rfl rfl aV.out rfl rfl hg.drew a_ (by omega) ?_
   intro ws1 As1 dp dP dS
   refine go 1 ?_
   refine RL.bK (a+q) rfl rfl rfl rfl bG.out rfl rfl (by omega) (by omega) ?_
   refine RL.dL (a+q) rfl rfl rfl aV.out rfl rfl dp dS (by simp;omega) ?_
   intro ws2 As2 dI dQ dT
   refine go 2 ?_
   exact fun ac ha=>⟨_,ha.sub (E':=[(0,.slice (some ⟨g,0,none⟩) n c),(1,i64 a),(6,i64 (L:Nat)),(7,ptr p),(8,.int .u64 ((2 ^ Go.Sort.bitsLen L:Nat):Int)),(9,i64 (i:Nat))]) ⟨rfl,rfl,rfl,rfl,rfl,rfl,trivial⟩,As2,B5,_,y,dI.swap,bJ.trans (bQ.trans ((ar.drew _).trans (dP.trans dQ))),Jx,dT,Go.Sort.permIn_trans _ _ _ a b Ew (Go.Sort.swp_permIn _ a b _ _ (by omega) (by omega) (by omega) (by omega) (by omega)),rfl⟩
  ·
   refine RL.dJ (i) rfl rfl rfl rfl aV.out rfl a_ hg.drew.1 (by omega) ?_
   refine RL.dJ (a+q) rfl rfl rfl rfl aV.out rfl a_ hg.drew.1 (by omega) ?_
   refine RL.bK (i) rfl rfl rfl rfl bG.out rfl rfl (by omega) (by omega) ?_
   refine RL.dL (i) rfl rfl rfl aV.out rfl rfl hg.drew a_ (by omega) ?_
   intro ws1 As1 dp dP dS
   refine go 1 ?_
   refine RL.bK (a+q) rfl rfl rfl rfl bG.out rfl rfl (by omega) (by omega) ?_
   refine RL.dL (a+q) rfl rfl rfl aV.out rfl rfl dp dS (by simp;omega) ?_
   intro ws2 As2 dI dQ dT
   refine go 2 ?_
   exact fun ac ha=>⟨_,ha.sub (E':=[(0,.slice (some ⟨g,0,none⟩) n c),(1,i64 a),(6,i64 (L:Nat)),(7,ptr p),(8,.int .u64 ((2 ^ Go.Sort.bitsLen L:Nat):Int)),(9,i64 (i:Nat))]) ⟨rfl,rfl,rfl,rfl,rfl,rfl,trivial⟩,As2,B5,_,y,dI.swap,bJ.trans (bQ.trans ((ar.drew _).trans (dP.trans dQ))),Jx,dT,Go.Sort.permIn_trans _ _ _ a b Ew (Go.Sort.swp_permIn _ a b _ _ (by omega) (by omega) (by omega) (by omega) (by omega)),rfl⟩
 ·
  refine CW.exit ?_
  refine cP (vs:=[]) rfl (aw.mk (Le.refl _) bp.drop bJ ⟨rfl,rfl,d4,Ew,ru⟩)
end Go.Lw
namespace Go.Lw
open Go.Proofs
abbrev uw (B:aj) (p:Nat) (k:Int):Prop:=B p=some (.cells #[i64 k] 3 (0,0))
theorem aiI {w:World} {s A B:aj} {os:List aj} {g n c x y p:Nat} {k:Int} {au:List Value} {d:Array Int} (hg:ak w s (B::A::os)) (a_:dB A g au d) (hB:uw B p k) (hn:d.size=n) (hx:x<n) (hy:y<n) (ng:0≤k) (hk:k<1000) :
  Calls Tryz.prog 211 #[.slice (some ⟨g,0,none⟩) n c,i64 x,i64 y,ptr p] w (aw w s (A::os) fun s' B' r=>s'=s∧∃ k',k≤k'∧k'≤k+1∧uw B' p k'∧(r = .tuple #[i64 x,i64 y]∨r = .tuple #[i64 y,i64 x])):=by
 refine enter (l:=[.slice (some ⟨g,0,none⟩) n c,i64 x,i64 y,ptr p]) Tryz.func211 rfl Tryz.ntmps211 rfl ?_
 refine go 5 ?_
 refine CW.seq (CW.seq ?_)
 refine CW.iA [(true,0),(true,1),(true,2),(true,3),(true,4),(true,5),(true,6),(true,7),(false,8)] (fun w'=>ak w' s (B::A::os)) mixed (by kernel_rfl) (by kernel_rfl) (by kernel_rfl) (by kernel_rfl) hg.drew ?_
 refine go 2 ?_
 refine RL.bK y rfl rfl rfl rfl bG.out rfl rfl rfl (by omega) ?_
 refine RL.j7 y rfl rfl rfl rfl aV.out rfl a_ (fun w h=>h.drop.1) (by omega) ?_
 refine go 2 ?_
 refine RL.bK x rfl rfl rfl rfl bG.out rfl rfl rfl (by omega) ?_
 refine RL.j7 x rfl rfl rfl rfl aV.out rfl a_ (fun w h=>h.drop.1) (by omega) ?_
 refine go 1 ?_
 refine zw (qQ hg.drew) ?_
 rintro v w1 aH aN rfl
 refine⟨aH,?_⟩
 refine go 1 ?_
 have jq:=(ar.drew w).trans aN
 refine CW.cond rfl (fun hl=>?_) (fun hl=>?_)
 refine CW.seq (CW.plain ?_)
 refine go 2 ?_
 refine RL.load (j:=0) rfl rfl rfl rfl ey.out rfl (Holds.of hB) (aH.1) rfl ?_
 refine go 2 ?_
 refine RL.store (i:=0) (j:=0) rfl rfl rfl ey.out rfl rfl aH rfl (hB) rfl (by first | (simp[Value.cells,Value.oneCell'];done) | simp[Value.cells,Value.oneCell',lx]) (by first | exact Nat.le_of_ble_eq_true rfl | (simp;done) | (simp;omega) | omega) ?_
 rintro w2 aS aR
 refine go 9 ?_
 exact CW.ret (ret (vs:=[_,_]) ⟨_,_,rfl,rfl,_,_,rfl,rfl,rfl⟩ (aw.mk (Le.refl _) aS (jq.trans aR) ⟨rfl,k+1,by omega,by omega,dq _ _ _,.inr rfl⟩))
 refine CW.skip ?_
 refine go 7 ?_
 exact CW.ret (ret (vs:=[_,_]) ⟨_,_,rfl,rfl,_,_,rfl,rfl,rfl⟩ (aw.mk (Le.refl _) aH jq ⟨rfl,k,by omega,by omega,hB,.inl rfl⟩))
theorem QX {w:World} {s A B:aj} {os:List aj} {g n c x y p:Nat} {k:Int} {au:List Value} {d:Array Int} (hg:ak w s (B::A::os)) (a_:dB A g au d) (hB:uw B p k) (hn:d.size=n) (hx:x<n) (hy:y<n) (ng:0≤k) (hk:k<1000) :
  Calls Tryz.prog 211 #[.slice (some ⟨g,0,none⟩) n c,i64 x,i64 y,ptr p] w (aw w s (A::os) fun s' B' r=>s'=s∧∃ k',k≤k'∧k'≤k+1∧uw B' p k'∧∃ u v:Nat,r = .tuple #[i64 u,i64 v]∧(u=x∧v=y∨u=y∧v=x)):=by
 refine (aiI hg a_ hB hn hx hy ng hk).mono ?_
 rintro e w' ⟨r,s',A',he,cg,fh,jq,hs,k',h1,h2,h3,h4⟩
 refine⟨r,s',A',he,cg,fh,jq,hs,k',h1,h2,h3,?_⟩
 rcases h4 with rfl | rfl
 exact⟨x,y,rfl,.inl ⟨rfl,rfl⟩⟩
 exact⟨y,x,rfl,.inr ⟨rfl,rfl⟩⟩
theorem Xz {w:World} {s A B:aj} {os:List aj} {g n c x y z p:Nat} {k:Int} {au:List Value} {d:Array Int} (hg:ak w s (B::A::os)) (a_:dB A g au d) (hB:uw B p k) (hn:d.size=n) (hx:x<n) (hy:y<n) (hz:z<n) (ng:0≤k) (hk:k<900) :
  Calls Tryz.prog 208 #[.slice (some ⟨g,0,none⟩) n c,i64 x,i64 y,i64 z,ptr p] w (aw w s (A::os) fun s' B' r=>s'=s∧∃ k',k≤k'∧k'≤k+3∧uw B' p k'∧∃ u:Nat,r=i64 u∧(u=x∨u=y∨u=z)):=by
 refine enter (l:=[.slice (some ⟨g,0,none⟩) n c,i64 x,i64 y,i64 z,ptr p]) Tryz.func208 rfl Tryz.ntmps208 rfl ?_
 refine go 11 ?_
 refine zc (QX hg a_ hB hn hx hy ng (by omega)) ?_
 rintro v1 s1 B1 w1 eu aH aN ⟨rfl,k1,mo,VR,Bn,u1,u2,rfl,hu⟩
 refine go 14 ?_
 refine zc (QX (x:=u2) (y:=z) aH a_ Bn hn (by omega) (by omega) (by omega) (by omega)) ?_
 rintro v2 s2 B2 w2 jb aS aR ⟨rfl,k2,o6,afa,F5,u3,u4,rfl,Qd⟩
 refine go 14 ?_
 refine zc (QX (x:=u1) (y:=u3) aS a_ F5 hn (by omega) (by omega) (by omega) (by omega)) ?_
 rintro v3 s3 B3 w3 cO aP bw ⟨rfl,k3,pY,afe,DQ,u5,u6,rfl,hu3⟩
 refine go 12 ?_
 exact CW.ret (ret (vs:=[_]) ⟨_,_,rfl,rfl,rfl⟩ (aw.mk (Le.refl _) aP (aN.trans (aR.trans bw)) ⟨rfl,k3,by omega,by omega,DQ,u6,rfl,by omega⟩))
theorem QG {w:World} {s A B:aj} {os:List aj} {g n c x p:Nat} {k:Int} {au:List Value} {d:Array Int} (hg:ak w s (B::A::os)) (a_:dB A g au d) (hB:uw B p k) (hn:d.size=n) (h0:0<x) (hx:x+1<n) (ng:0≤k) (hk:k<900) (cV:n<2305843009213693952) :
  Calls Tryz.prog 207 #[.slice (some ⟨g,0,none⟩) n c,i64 x,ptr p] w (aw w s (A::os) fun s' B' r=>s'=s∧∃ k',k≤k'∧k'≤k+3∧uw B' p k'∧∃ u:Nat,r=i64 u∧x≤u+1∧u≤x+1):=by
 refine enter (l:=[.slice (some ⟨g,0,none⟩) n c,i64 x,ptr p]) Tryz.func207 rfl Tryz.ntmps207 rfl ?_
 refine go 13 ?_
 have e1:((x:Int)-1)=((x-1:Nat):Int):=by omega
 have e2:((x:Int)+1)=((x+1:Nat):Int):=by omega
 rw[e1,e2]
 refine go 1 ?_
 refine zc (Xz (x:=x-1) (y:=x) (z:=x+1) hg a_ hB hn (by omega) (by omega) (by omega) ng hk) ?_
 rintro v1 s1 B1 w1 eu aH aN ⟨rfl,k1,mo,VR,Bn,u,rfl,hu⟩
 refine go 3 ?_
 exact CW.ret (ret (vs:=[_]) ⟨_,_,rfl,rfl,rfl⟩ (aw.mk (Le.refl _) aH aN ⟨rfl,k1,mo,VR,Bn,u,rfl,by omega,by omega⟩))
theorem abI {w:World} {s A:aj} {os:List aj} {g n c a b:Nat} {au:List Value} {d:Array Int} (hg:ak w s (A::os)) (a_:dB A g au d) (hn:d.size=n) (hb:b≤n) (lf:a+8≤b) (cV:n<2305843009213693952) :
  Calls Tryz.prog 194 #[.slice (some ⟨g,0,none⟩) n c,i64 a,i64 b] w (aQ w s (A::os) fun r=>∃ (q h:Nat),r = .tuple #[i64 q,i64 h]∧a≤q∧q<b∧h≤2):=by
 obtain⟨L,hL⟩:∃ L,L=b-a:=⟨_,rfl⟩
 refine enter (l:=[.slice (some ⟨g,0,none⟩) n c,i64 a,i64 b]) Tryz.func194 rfl Tryz.ntmps194 rfl ?_
 refine go 12 ?_
 have eL:((b:Int)-(a:Int))=(L:Int):=by omega
 rw[eL]
 refine go 2 ?_
 refine RL.alloc rfl rfl rfl rfl fY.out hg ?_
 rintro p w1 aH aN
 refine go 6 ?_
 refine RL.quo rfl rfl rfl rfl rfl rfl ((by omega)) ((by decide)) ((by simp only[aq];omega)) ?_
 refine RL.mul rfl rfl rfl rfl rfl rfl ((by simp only[aq];omega)) ?_
 refine go 7 ?_
 refine RL.quo rfl rfl rfl rfl rfl rfl ((by omega)) ((by decide)) ((by simp only[aq];omega)) ?_
 refine RL.mul rfl rfl rfl rfl rfl rfl ((by simp only[aq];omega)) ?_
 refine go 7 ?_
 refine RL.quo rfl rfl rfl rfl rfl rfl ((by omega)) ((by decide)) ((by simp only[aq];omega)) ?_
 refine RL.mul rfl rfl rfl rfl rfl rfl ((by simp only[aq];omega)) ?_
 refine go 3 ?_
 obtain⟨B0,mL,Jw⟩:∃ B,ak w1 s (B::A::os)∧uw B p 0:=⟨_,aH,if_pos rfl⟩
 refine CW.cx (fun E' w'=>∃ (B:aj) (k:Int) (u:Nat),ak w' s (B::A::os)∧ar w w'∧uw B p k∧a≤u∧u<b∧E'=[(9,ptr p),(11,i64 (u:Nat))]) ?_ ?_
 refine CW.seq (CW.plain ?_)
 refine go 3 ?_
 refine CW.test rfl (fun h8=>?_) (fun h8=>absurd (by omega) h8)
 refine CW.cx (fun E' w'=>∃ (B:aj) (k:Int) (x y z:Nat),ak w' s (B::A::os)∧ar w w'∧uw B p k∧0≤k∧k≤9∧a≤x∧x<b∧a≤y∧y<b∧a≤z∧z<b∧E'=[(0,.slice (some ⟨g,0,none⟩) n c),(9,ptr p),(10,i64 (x:Nat)),(11,i64 (y:Nat)),(12,i64 (z:Nat))]) ?_ ?_
 refine CW.seq (CW.plain ?_)
 refine go 3 ?_
 refine CW.test rfl (fun Us=>?_) (fun Us=>?_)
 refine CW.Xh [(0,.slice (some ⟨g,0,none⟩) n c),(9,ptr p),(10,i64 ((a+L / 4*1:Nat):Int)),(11,i64 ((a+L / 4*2:Nat):Int)),(12,i64 ((a+L / 4*3:Nat):Int))] ⟨rfl,rfl,congrArg (fun z=>some (i64 z)) (by omega),congrArg (fun z=>some (i64 z)) (by omega),congrArg (fun z=>some (i64 z)) (by omega),trivial⟩ ?_
 refine go 5 ?_
 refine zc (QG (x:=a+L / 4*1) mL a_ Jw hn (by omega) (by omega) (by omega) (by omega) cV) ?_
 rintro v2 s2 B2 w2 jb aS aR ⟨rfl,k2,o6,afa,F5,u2,rfl,Qd,aqd⟩
 refine go 8 ?_
 refine zc (QG (x:=a+L / 4*2) aS a_ F5 hn (by omega) (by omega) (by omega) (by omega) cV) ?_
 rintro v3 s3 B3 w3 cO aP bw ⟨rfl,k3,pY,afe,DQ,u3,rfl,hu3,aqe⟩
 refine go 7 ?_
 refine zc (QG (x:=a+L / 4*3) aP a_ DQ hn (by omega) (by omega) (by omega) (by omega) cV) ?_
 rintro v4 s4 B4 w4 fL bp bJ ⟨rfl,k4,J3,apx,DR,u4,rfl,hu4,aqf⟩
 refine go 3 ?_
 exact fun ac ha=>⟨_,ha.sub (E':=[(0,.slice (some ⟨g,0,none⟩) n c),(9,ptr p),(10,i64 (u2:Nat)),(11,i64 (u3:Nat)),(12,i64 (u4:Nat))]) ⟨rfl,rfl,rfl,rfl,rfl,trivial⟩,B4,k4,u2,u3,u4,bp,aN.trans (aR.trans (bw.trans bJ)),DR,by omega,by omega,by omega,by omega,by omega,by omega,by omega,by omega,rfl⟩
 exact CW.skip (fun ac ha=>⟨_,ha.sub (E':=[(0,.slice (some ⟨g,0,none⟩) n c),(9,ptr p),(10,i64 ((a+L / 4*1:Nat):Int)),(11,i64 ((a+L / 4*2:Nat):Int)),(12,i64 ((a+L / 4*3:Nat):Int))]) ⟨rfl,rfl,congrArg (fun z=>some (i64 z)) (by omega),congrArg (fun z=>some (i64 z)) (by omega),congrArg (fun z=>some (i64 z)) (by omega),trivial⟩,B0,0,_,_,_,mL,aN,Jw,by omega,by omega,by omega,by omega,by omega,by omega,by omega,by omega,rfl⟩)
 rintro E' w5 ⟨B5,k5,x,y,z,bh,bQ,Jx,afi,apy,adG,tL,hay,Kx,Va,hzb,rfl⟩
 refine go 6 ?_
 refine zc (Xz (x:=x) (y:=y) (z:=z) bh a_ Jx hn (by omega) (by omega) (by omega) afi (by omega)) ?_
 rintro v6 s6 B6 w6 jv bx bM ⟨rfl,k6,zF,apz,Nv,u6,rfl,hu6⟩
 refine go 3 ?_
 exact fun ac ha=>⟨_,ha.sub (E':=[(9,ptr p),(11,i64 (u6:Nat))]) ⟨rfl,rfl,trivial⟩,B6,k6,u6,bx,bQ.trans bM,Nv,by omega,by omega,rfl⟩
 rintro E' w7 ⟨B7,k7,u,bO,cj,Bo,NZ,yl,rfl⟩
 refine go 2 ?_
 refine RL.load (j:=0) rfl rfl rfl rfl ey.out rfl (Holds.of Bo) (bO.1) rfl ?_
 refine go 1 ?_
 refine CW.block (CW.seq (CW.plain ?_))
 refine go 3 ?_
 refine CW.eq rfl (fun h0=>?_) (fun h0=>?_)
 refine CW.seq (CW.plain ?_)
 refine go 4 ?_
 exact CW.ret (ret (vs:=[_,_]) ⟨_,_,rfl,rfl,_,_,rfl,rfl,rfl⟩ (aQ.mk bO.drop cj ⟨u,1,rfl,NZ,yl,by omega⟩))
 refine CW.seq (CW.plain ?_)
 refine go 3 ?_
 refine CW.eq rfl (fun lB=>?_) (fun lB=>?_)
 refine CW.seq (CW.plain ?_)
 refine go 4 ?_
 exact CW.ret (ret (vs:=[_,_]) ⟨_,_,rfl,rfl,_,_,rfl,rfl,rfl⟩ (aQ.mk bO.drop cj ⟨u,2,rfl,NZ,yl,by omega⟩))
 refine CW.seq (CW.plain ?_)
 refine go 4 ?_
 exact CW.ret (ret (vs:=[_,_]) ⟨_,_,rfl,rfl,_,_,rfl,rfl,rfl⟩ (aQ.mk bO.drop cj ⟨u,0,rfl,NZ,yl,by omega⟩))
end Go.Lw
namespace Go.Lw
open Go.Proofs
open Go.Sort (swp size_swp PermIn SortedIn Below permIn_trans round_eq round_part)
theorem Io:Go.Sort.SWO bf:=Go.Sort.swo_ltInt
theorem PG:Go.Sort.partition_stmt bf:=Go.Sort.partition_holds _
theorem agx:Go.Sort.partitionEqual_stmt bf:=Go.Sort.partitionEqual_holds _
abbrev Fin (a b:Nat) (d:Array Int) (a1 b1:Nat) (d1:Array Int):Prop:=∀ R,PermIn a1 b1 d1 R→SortedIn bf a1 b1 R→PermIn a b d R∧SortedIn bf a b R
abbrev L5 (w:World) (s:aj) (os:List aj) (g:Nat) (au:List Value) (a b:Nat) (d:Array Int):Ending→World→Prop:=aw w s os fun s' A' r=>s'=s∧r = .tuple #[]∧∃ d',PermIn a b d d'∧SortedIn bf a b d'∧dB A' g au d'
theorem aiT (N:Nat):∀ {w:World} {s A:aj} {os:List aj} {g n c a b gr:Nat} {au:List Value} {d:Array Int},b-a≤N→ak w s (A::os)→dB A g au d→d.size=n→a≤b→b≤n→n<2305843009213693952→gr≤64→Below bf a b d →
  Calls Tryz.prog 179 #[.slice (some ⟨g,0,none⟩) n c,i64 a,i64 b,i64 gr] w (L5 w s os g au a b d):=by
 induction N using Nat.strongRecOn with
 | _ N ih =>
 intro w s A os g n c a b gr au d hN hg a_ hn lf hb cV Pc hB
 refine enter (l:=[.slice (some ⟨g,0,none⟩) n c,i64 a,i64 b,i64 gr]) Tryz.func179 rfl Tryz.ntmps179 rfl ?_
 refine go 8 ?_
 refine CW.block (CW.loop (σ:=Nat) (fun k E w'=>∃ A1 d1 a1 b1 lim1 wb wp,ak w' s (A1::os)∧ar w w'∧dB A1 g au d1∧d1.size=n∧a1≤b1∧b1≤n∧b1-a1≤k∧k≤N∧lim1≤64∧Below bf a1 b1 d1∧Fin a b d a1 b1 d1∧E=[(0,.slice (some ⟨g,0,none⟩) n c),(1,i64 (a1:Nat)),(2,i64 (b1:Nat)),(3,i64 (lim1:Nat)),(8,.bool wb),(9,.bool wp)])
  (fun k=>k) N [(0,.slice (some ⟨g,0,none⟩) n c),(1,i64 a),(2,i64 b),(3,i64 gr),(8,.bool true),(9,.bool true)] ⟨rfl,rfl,rfl,rfl,rfl,rfl,trivial⟩ ⟨A,d,a,b,gr,true,true,hg,ar.refl _,a_,hn,lf,hb,hN,Nat.le_refl _,Pc,hB,fun R h1 h2=>⟨h1,h2⟩,rfl⟩ ?_)
 rintro k E w0 ⟨A0,d0,a1,b1,lim0,wb,wp,mL,q9,zR,rj,NU,cz,hk,O6,afz,Jw,eB,rfl⟩
 have zt:∀ {w':World} {A':aj} {R:Array Int},ak w' s (A'::os)→ar w w'→PermIn a1 b1 d0 R→SortedIn bf a1 b1 R→dB A' g au R→L5 w s os g au a b d (.returned (.tuple #[])) w':=fun h1 h2 h3 h4 h5=>aw.mk (Le.refl _) h1 h2 ⟨rfl,rfl,_,(eB _ h3 h4).1,(eB _ h3 h4).2,h5⟩
 obtain⟨L,hL⟩:∃ L,L=b1-a1:=⟨_,rfl⟩
 refine CW.block (CW.seq (CW.plain ?_))
 refine go 5 ?_
 have eL:((b1:Int)-(a1:Int))=(L:Int):=by omega
 rw[eL]
 refine CW.seq (CW.seq (CW.plain ?_))
 refine go 3 ?_
 refine CW.test rfl (fun lB=>?_) (fun lB=>?_)
 refine CW.seq (CW.plain ?_)
 refine go 4 ?_
 refine zc (aho mL zR rj cz (by omega) (by omega)) ?_
 rintro v1 s1 A1 w1 eu aH aN ⟨rfl,rfl,fB⟩
 refine go 2 ?_
 have hi:=Go.Sort.insertionSort_holds Io d0 a1 b1 NU (by omega)
 exact CW.ret (ret (vs:=[]) rfl (zt aH (q9.trans aN) hi.1 hi.2 fB))
 refine go 1 ?_
 refine CW.seq (CW.seq (CW.plain ?_))
 refine go 3 ?_
 refine CW.eq rfl (fun uZ=>?_) (fun uZ=>?_)
 refine CW.seq (CW.plain ?_)
 refine go 4 ?_
 refine zc (aeq mL zR rj cz (by omega) cV) ?_
 rintro v1 s1 A1 w1 eu aH aN ⟨rfl,rfl,fB⟩
 refine go 2 ?_
 have hi:=Go.Sort.heapSort_holds Io d0 a1 b1 NU (by omega)
 exact CW.ret (ret (vs:=[]) rfl (zt aH (q9.trans aN) hi.1 hi.2 fB))
 refine go 1 ?_
 -- the patterns are broken, or not
 refine CW.cx (fun E' w'=>∃ A1 d1 gr,ak w' s (A1::os)∧ar w w'∧dB A1 g au d1∧PermIn a1 b1 d0 d1∧gr≤64∧E'=[(0,.slice (some ⟨g,0,none⟩) n c),(1,i64 (a1:Nat)),(2,i64 (b1:Nat)),(3,i64 (gr:Nat)),(8,.bool wb),(9,.bool wp),(10,i64 (L:Nat))]) ?_ ?_
 refine CW.seq (CW.plain ?_)
 refine go 3 ?_
 refine CW.cond rfl (fun hw=>?_) (fun hw=>?_)
 refine CW.seq (CW.plain ?_)
 refine go 4 ?_
 refine zc (abt mL zR rj cz (by omega) cV) ?_
 rintro v1 s1 A1 w1 eu aH aN ⟨rfl,rfl,d1,yf,fB⟩
 refine go 7 ?_
 exact fun ac ha=>⟨_,ha.sub (E':=[(0,.slice (some ⟨g,0,none⟩) n c),(1,i64 (a1:Nat)),(2,i64 (b1:Nat)),(3,i64 ((lim0-1:Nat):Int)),(8,.bool wb),(9,.bool wp),(10,i64 (L:Nat))]) ⟨rfl,rfl,rfl,congrArg (fun z=>some (i64 z)) (by omega),rfl,rfl,rfl,trivial⟩,A1,d1,lim0-1,aH,q9.trans aN,fB,yf,by omega,rfl⟩
 exact CW.skip (fun ac ha=>⟨_,ha.sub (E':=[(0,.slice (some ⟨g,0,none⟩) n c),(1,i64 (a1:Nat)),(2,i64 (b1:Nat)),(3,i64 (lim0:Nat)),(8,.bool wb),(9,.bool wp),(10,i64 (L:Nat))]) ⟨rfl,rfl,rfl,rfl,rfl,rfl,rfl,trivial⟩,A0,d0,lim0,mL,q9,zR,Go.Sort.permIn_refl _ _ _,afz,rfl⟩)
 rintro E' w1 ⟨A1,d1,gr,aH,aN,fB,yf,G5,rfl⟩
 have fm:d1.size=n:=by rw[yf.1];exact rj
 have Bn:Below bf a1 b1 d1:=Jw.perm (by omega) yf
 refine go 6 ?_
 refine zw (abI aH fB fm cz (by omega) cV) ?_
 rintro v2 w2 aS aR ⟨q0,h0,rfl,Kj,agz,hh0⟩
 refine go 7 ?_
 -- reversed, or not
 refine CW.cx (fun E' w'=>∃ A3 d3 q h,ak w' s (A3::os)∧ar w w'∧dB A3 g au d3∧PermIn a1 b1 d1 d3∧a1≤q∧q<b1∧E'=[(0,.slice (some ⟨g,0,none⟩) n c),(1,i64 (a1:Nat)),(2,i64 (b1:Nat)),(3,i64 (gr:Nat)),(8,.bool wb),(9,.bool wp),(10,i64 (L:Nat)),(11,i64 (q:Nat)),(12,i64 (h:Nat))]) ?_ ?_
 refine CW.seq (CW.plain ?_)
 refine go 3 ?_
 refine CW.eq rfl (fun hh=>?_) (fun hh=>?_)
 refine CW.seq (CW.plain ?_)
 refine go 4 ?_
 refine zc (ajn aS fB fm cz (by omega) (by omega)) ?_
 rintro v3 s3 A3 w3 cO aP bw ⟨rfl,rfl,Ey⟩
 refine go 15 ?_
 exact fun ac ha=>⟨_,ha.sub (E':=[(0,.slice (some ⟨g,0,none⟩) n c),(1,i64 (a1:Nat)),(2,i64 (b1:Nat)),(3,i64 (gr:Nat)),(8,.bool wb),(9,.bool wp),(10,i64 (L:Nat)),(11,i64 ((b1-1-(q0-a1):Nat):Int)),(12,i64 1)]) ⟨rfl,rfl,rfl,rfl,rfl,rfl,rfl,congrArg (fun z=>some (i64 z)) (by omega),rfl,trivial⟩,A3,_,b1-1-(q0-a1),1,aP,aN.trans (aR.trans bw),Ey,Go.Sort.reverseRange_holds d1 a1 b1 NU (by omega),by omega,by omega,rfl⟩
 exact CW.skip (fun ac ha=>⟨_,ha.sub (E':=[(0,.slice (some ⟨g,0,none⟩) n c),(1,i64 (a1:Nat)),(2,i64 (b1:Nat)),(3,i64 (gr:Nat)),(8,.bool wb),(9,.bool wp),(10,i64 (L:Nat)),(11,i64 (q0:Nat)),(12,i64 (h0:Nat))]) ⟨rfl,rfl,rfl,rfl,rfl,rfl,rfl,rfl,rfl,trivial⟩,A1,d1,q0,h0,aS,aN.trans aR,fB,Go.Sort.permIn_refl _ _ _,Kj,agz,rfl⟩)
 rintro E' w3 ⟨A3,d3,q,h,aP,bw,Ey,Hu,hq,lE,rfl⟩
 have Hg:d3.size=n:=by rw[Hu.1];exact fm
 have DQ:Below bf a1 b1 d3:=Bn.perm (by omega) Hu
 have Wc:PermIn a1 b1 d0 d3:=permIn_trans _ _ _ a1 b1 yf Hu
 -- sorted by a few steps, or not
 refine CW.cx (fun E' w'=>∃ A4 d4,ak w' s (A4::os)∧ar w w'∧dB A4 g au d4∧PermIn a1 b1 d3 d4∧E'=[(0,.slice (some ⟨g,0,none⟩) n c),(1,i64 (a1:Nat)),(2,i64 (b1:Nat)),(3,i64 (gr:Nat)),(8,.bool wb),(9,.bool wp),(10,i64 (L:Nat)),(11,i64 (q:Nat))]) ?_ ?_
 have bW:∀ ac,At 134 [(0,.slice (some ⟨g,0,none⟩) n c),(1,i64 (a1:Nat)),(2,i64 (b1:Nat)),(3,i64 (gr:Nat)),(8,.bool wb),(9,.bool wp),(10,i64 (L:Nat)),(11,i64 (q:Nat))] ac→∃ E',At 134 E' ac∧∃ A4 d4,ak w3 s (A4::os)∧ar w w3∧dB A4 g au d4∧PermIn a1 b1 d3 d4∧E'=[(0,.slice (some ⟨g,0,none⟩) n c),(1,i64 (a1:Nat)),(2,i64 (b1:Nat)),(3,i64 (gr:Nat)),(8,.bool wb),(9,.bool wp),(10,i64 (L:Nat)),(11,i64 (q:Nat))]:=fun ac ha=>⟨_,ha,A3,d3,aP,bw,Ey,Go.Sort.permIn_refl _ _ _,rfl⟩
 refine go 4 ?_
 refine RL.part 62 rfl (fun hw=>?_) (fun hw=>?_)
 refine RL.pure rfl rfl rfl rfl ?_
 refine go 2 ?_
 refine RL.part 65 rfl (fun ry=>?_) (fun ry=>?_)
 refine RL.pure rfl rfl rfl rfl ?_
 refine go 3 ?_
 refine CW.cond rfl (fun hh=>?_) (fun hh=>?_)
 refine CW.seq (CW.plain ?_)
 refine go 4 ?_
 refine zc (aiO aP Ey Hg cz (by omega) cV) ?_
 rintro v4 s4 A4 w4 fL bp bJ ⟨rfl,rfl,ru⟩
 refine go 2 ?_
 have hi:=Go.Sort.partialInsertionSort_holds Io d3 a1 b1 (by omega) (by omega) DQ
 refine CW.cond rfl (fun hd=>?_) (fun hd=>?_)
 exact CW.ret (ret (vs:=[]) rfl (zt bp (bw.trans bJ) (permIn_trans _ _ _ a1 b1 Wc hi.1) (hi.2 hd) ru))
 exact CW.skip (fun ac ha=>⟨_,ha.sub (E':=[(0,.slice (some ⟨g,0,none⟩) n c),(1,i64 (a1:Nat)),(2,i64 (b1:Nat)),(3,i64 (gr:Nat)),(8,.bool wb),(9,.bool wp),(10,i64 (L:Nat)),(11,i64 (q:Nat))]) ⟨rfl,rfl,rfl,rfl,rfl,rfl,rfl,rfl,trivial⟩,A4,_,bp,bw.trans bJ,ru,hi.1,rfl⟩)
 exact CW.skip (fun ac ha=>bW ac (ha.sub ⟨rfl,rfl,rfl,rfl,rfl,rfl,rfl,rfl,trivial⟩))
 refine RL.pass rfl rfl rfl ?_
 refine go 3 ?_
 refine CW.no rfl ?_
 exact CW.skip (fun ac ha=>bW ac (ha.sub ⟨rfl,rfl,rfl,rfl,rfl,rfl,rfl,rfl,trivial⟩))
 refine RL.pass rfl rfl rfl ?_
 refine go 6 ?_
 refine CW.no rfl ?_
 exact CW.skip (fun ac ha=>bW ac (ha.sub ⟨rfl,rfl,rfl,rfl,rfl,rfl,rfl,rfl,trivial⟩))
 rintro E' w4 ⟨A4,d4,bp,bJ,ru,PE,rfl⟩
 have Cd:d4.size=n:=by rw[PE.1];exact Hg
 have DR:Below bf a1 b1 d4:=DQ.perm (by omega) PE
 have PA:PermIn a1 b1 d0 d4:=permIn_trans _ _ _ a1 b1 Wc PE
 -- many that are alike, or not
 refine CW.cx (fun E' w'=>ak w' s (A4::os)∧ar w w'∧E'=[(0,.slice (some ⟨g,0,none⟩) n c),(1,i64 (a1:Nat)),(2,i64 (b1:Nat)),(3,i64 (gr:Nat)),(8,.bool wb),(9,.bool wp),(10,i64 (L:Nat)),(11,i64 (q:Nat))]) ?_ ?_
 refine CW.seq ?_
 refine CW.iA [(true,0),(true,1),(true,2),(true,3),(true,4),(true,5),(true,6),(true,7),(true,8),(true,9),(true,10),(true,11),(false,12),(true,13),(true,14)] (fun w'=>ak w' s (A4::os)) mixed (by kernel_rfl) (by kernel_rfl) (by kernel_rfl) (by kernel_rfl) bp.drew ?_
 refine go 3 ?_
 refine RL.part 75 rfl (fun NT=>?_) (fun NT=>?_)
 have adB:0<a1:=by have:=of_decide_eq_true NT;omega
 refine go 3 ?_
 refine RL.bK (a1-1) rfl rfl rfl rfl bG.out rfl rfl (by omega) (by omega) ?_
 refine RL.j7 (a1-1) rfl rfl rfl rfl aV.out rfl ru (fun w h=>h.1) (by omega) ?_
 refine go 2 ?_
 refine RL.bK q rfl rfl rfl rfl bG.out rfl rfl rfl (by omega) ?_
 refine RL.j7 q rfl rfl rfl rfl aV.out rfl ru (fun w h=>h.1) (by omega) ?_
 refine go 1 ?_
 refine zw (qQ bp.drew) ?_
 rintro v5 w5 bh bQ rfl
 refine⟨bh,?_⟩
 refine go 3 ?_
 refine CW.cond rfl (fun hl=>?_) (fun hl=>?_)
 have hZ:bf d4[a1-1]! d4[q]! = false:=by simpa using hl
 obtain⟨⟨fO,d6⟩,hx⟩:∃ x,Go.Sort.partitionEqual bf d4 a1 b1 q=x:=⟨_,rfl⟩
 obtain⟨cH,mN,PV,Nv,aeB⟩:=round_eq Io agx adB hq lE (by omega) DR hZ hx
 refine go 7 ?_
 refine zc (aiP bh ru Cd cz hq lE cV) ?_
 rintro v6 s6 A6 w6 jv bx bM ⟨rfl,rfl,p6⟩
 refine go 3 ?_
 rw[hx] at p6
 rw[hx]
 refine go 6 ?_
 refine fun ac ha=>⟨k-1,[(0,.slice (some ⟨g,0,none⟩) n c),(1,i64 (fO:Nat)),(2,i64 (b1:Nat)),(3,i64 (gr:Nat)),(8,.bool wb),(9,.bool wp)],ha.sub ⟨rfl,rfl,rfl,rfl,rfl,rfl,trivial⟩,⟨A6,d6,fO,b1,gr,wb,wp,bx,bJ.trans ((ar.drew _).trans (bQ.trans bM)),p6,by rw[PV];exact Cd,mN,cz,by omega,by omega,G5,Nv,fun R h1 h2=>?_,rfl⟩,by omega⟩
 obtain⟨h3,h4⟩:=aeB R h1 h2
 exact eB R (permIn_trans _ _ _ a1 b1 PA h3) h4
 exact CW.skip (fun ac ha=>⟨_,ha.sub (E':=[(0,.slice (some ⟨g,0,none⟩) n c),(1,i64 (a1:Nat)),(2,i64 (b1:Nat)),(3,i64 (gr:Nat)),(8,.bool wb),(9,.bool wp),(10,i64 (L:Nat)),(11,i64 (q:Nat))]) ⟨rfl,rfl,rfl,rfl,rfl,rfl,rfl,rfl,trivial⟩,bh,bJ.trans ((ar.drew _).trans bQ),rfl⟩)
 refine RL.pass rfl rfl rfl ?_
 refine go 12 ?_
 refine CW.no rfl ?_
 exact CW.skip (fun ac ha=>⟨_,ha.sub (E':=[(0,.slice (some ⟨g,0,none⟩) n c),(1,i64 (a1:Nat)),(2,i64 (b1:Nat)),(3,i64 (gr:Nat)),(8,.bool wb),(9,.bool wp),(10,i64 (L:Nat)),(11,i64 (q:Nat))]) ⟨rfl,rfl,rfl,rfl,rfl,rfl,rfl,rfl,trivial⟩,bp.drew,bJ.trans (ar.drew _),rfl⟩)
 rintro E' w5 ⟨bh,bQ,rfl⟩
 obtain⟨⟨fO,ap,d6⟩,hx⟩:∃ x,Go.Sort.partition bf d4 a1 b1 q=x:=⟨_,rfl⟩
 obtain⟨cH,mN,PV,hBa,hBr,afx,agR⟩:=round_part Io PG hq lE (by omega) DR hx
 refine go 7 ?_
 refine zc (aiQ bh ru Cd cz hq lE cV) ?_
 rintro v6 s6 A6 w6 jv bx bM ⟨rfl,rfl,p6⟩
 refine go 7 ?_
 simp only[hx] at p6 ⊢
 have Ce:d6.size=n:=by rw[PV];exact Cd
 refine go 19 ?_
 refine RL.quo rfl rfl rfl rfl rfl rfl ((by omega)) ((by decide)) ((by simp only[aq];omega)) ?_
 refine go 8 ?_
 refine CW.test rfl (fun be=>?_) (fun be=>?_)
 refine CW.seq (CW.plain ?_)
 refine go 12 ?_
 refine zc (ih (fO-a1) (by omega) (a:=a1) (b:=fO) (Nat.le_refl _) bx p6 Ce cH (by omega) cV G5 hBa) ?_
 rintro v7 s7 A7 w7 jK bO cj ⟨rfl,rfl,d7,Hv,Kn,yj⟩
 refine go 2 ?_
 obtain⟨Nx,OG⟩:=afx d7 Hv Kn
 refine go 5 ?_
 refine fun ac ha=>⟨k-1,[(0,.slice (some ⟨g,0,none⟩) n c),(1,i64 ((fO+1:Nat):Int)),(2,i64 (b1:Nat)),(3,i64 (gr:Nat)),(8,.bool (decide ((fO:Int)-a1≥(L:Int) / 8))),(9,.bool ap)],ha.sub ⟨rfl,rfl,rfl,rfl,rfl,rfl,trivial⟩,⟨A7,d7,fO+1,b1,gr,_,ap,bO,bQ.trans (bM.trans cj),yj,by rw[Hv.1];exact Ce,by omega,cz,by omega,by omega,G5,Nx,fun R h1 h2=>?_,rfl⟩,by omega⟩
 obtain⟨h3,h4⟩:=OG R h1 h2
 exact eB R (permIn_trans _ _ _ a1 b1 PA h3) h4
 refine CW.seq (CW.plain ?_)
 refine go 13 ?_
 refine zc (ih (b1-(fO+1)) (by omega) (a:=fO+1) (b:=b1) (Nat.le_refl _) bx p6 Ce (by omega) cz cV G5 hBr) ?_
 rintro v7 s7 A7 w7 jK bO cj ⟨rfl,rfl,d7,Hv,Kn,yj⟩
 refine go 2 ?_
 obtain⟨Nx,OG⟩:=agR d7 Hv Kn
 refine go 4 ?_
 refine fun ac ha=>⟨k-1,[(0,.slice (some ⟨g,0,none⟩) n c),(1,i64 (a1:Nat)),(2,i64 (fO:Nat)),(3,i64 (gr:Nat)),(8,.bool (decide ((b1:Int)-fO≥(L:Int) / 8))),(9,.bool ap)],ha.sub ⟨rfl,rfl,rfl,rfl,rfl,rfl,trivial⟩,⟨A7,d7,a1,fO,gr,_,ap,bO,bQ.trans (bM.trans cj),yj,by rw[Hv.1];exact Ce,cH,by omega,by omega,by omega,G5,Nx,fun R h1 h2=>?_,rfl⟩,by omega⟩
 obtain⟨h3,h4⟩:=OG R h1 h2
 exact eB R (permIn_trans _ _ _ a1 b1 PA h3) h4
theorem aaU {w:World} {s A:aj} {os:List aj} {g n c:Nat} {au:List Value} {d:Array Int} (hg:ak w s (A::os)) (a_:dB A g au d) (hn:d.size=n) (cV:n<2305843009213693952) :
  Calls Tryz.prog 165 #[.slice (some ⟨g,0,none⟩) n c] w (L5 w s os g au 0 n d):=by
 refine enter (l:=[.slice (some ⟨g,0,none⟩) n c]) Tryz.func165 rfl Tryz.ntmps165 rfl ?_
 refine go 10 ?_
 refine RL.conv rfl rfl rfl rfl Tryz.underlying3 Tryz.underlying200 rfl ((by simp only[aq];omega)) ?_
 refine go 1 ?_
 refine zw (Sl hg (by omega)) ?_
 rintro v1 w1 aH aN rfl
 refine go 2 ?_
 refine zc (aiT n (a:=0) (b:=n) (gr:=Go.Sort.bitsLen n) (by omega) aH a_ hn (Nat.zero_le _) (Nat.le_refl _) cV ((Go.Sort.bitsLen_le_iff n 64).2 (by omega)) (Or.inl rfl)) ?_
 rintro v2 s2 A2 w2 jb aS aR ⟨rfl,rfl,d2,zM,nV,PO⟩
 refine go 2 ?_
 exact cP (vs:=[]) rfl (aw.mk (Le.refl _) aS (aN.trans aR) ⟨rfl,rfl,d2,zM,nV,PO⟩)
end Go.Lw
namespace Go.Lw
open Go.Proofs
def fI:aj→List Value→cK→Prop:=fun _ vs x=>vs=[i64 x.node,.int .u64 x.next,.int .u64 x.cA]∧aq .i64 x.node∧aq .u64 x.next∧aq .u64 x.cA
theorem fI.up:Up fI:=fun _ _ _ _ _ h=>h
theorem fI.one:lN fI:=fun _ vs x h v hv=>by rw[h.1] at hv;simp at hv;rcases hv with rfl | rfl | rfl<;>rfl
abbrev I0 (s:aj) (a:Option Addr) (c:Nat) (xs:List cK):Prop:=bm fI 3 s a c xs
theorem I0.aq {s:aj} {a:Option Addr} {c:Nat} {xs:List cK} (h:I0 s a c xs):∀ p∈xs,Lw.aq .u64 p.cA:=by
 intro p hp
 obtain⟨i,hi,rfl⟩:=List.getElem_of_mem hp
 rcases h.2.2 with rfl | ⟨ad,rfl,hr⟩
 simp at hi
 obtain⟨vs,_,_,hR⟩:=hr.get (List.getElem?_eq_getElem hi)
 exact hR.2.2.2
theorem ahR {l:List cK} (h:∀ p∈l,Lw.aq .u64 p.cA) (x:Int):Lw.aq .u64 (fW l x):=by
 obtain⟨h1,h2,h3⟩:=QF l x
 rcases h3 with h3 | ⟨p,hp,_,he⟩
 rw[h3];simp only[Lw.aq];omega
 rw[←he];exact h p hp
end Go.Lw
namespace Go.Lw
open Go.Proofs
theorem ahs {w:World} {s:aj} {os:List aj} {x:Int} (hg:ak w s os):Calls Tryz.prog 174 #[i64 x] w (aQ w s os fun r=>r = .bool false):=by
 refine enter (l:=[i64 x]) Tryz.func174 rfl Tryz.ntmps174 rfl ?_
 refine go 11 ?_
 exact CW.ret (ret (vs:=[_]) ⟨_,_,rfl,rfl,rfl⟩ (aQ.mk hg (ar.refl _) (congrArg Value.bool (by simp))))
theorem abM {w:World} {s:aj} {os:List aj} {x:Int} (hg:ak w s os):Calls Tryz.prog 167 #[i64 x] w (aQ w s os fun r=>r = .bool false):=by
 refine enter (l:=[i64 x]) Tryz.func167 rfl Tryz.ntmps167 rfl ?_
 refine go 11 ?_
 exact CW.ret (ret (vs:=[_]) ⟨_,_,rfl,rfl,rfl⟩ (aQ.mk hg (ar.refl _) (congrArg Value.bool (by simp))))
theorem Sn {w:World} {s:aj} {os:List aj} {x y:Int} (hg:ak w s os):Calls Tryz.prog 146 #[i64 x,i64 y] w (aQ w s os fun r=>r = .bool (decide (x<y))):=by
 refine enter (l:=[i64 x,i64 y]) Tryz.func146 rfl Tryz.ntmps146 rfl ?_
 refine go 8 ?_
 refine zw (abM hg) ?_
 rintro v w1 aH aN rfl
 refine go 13 ?_
 exact CW.ret (ret (vs:=[_]) ⟨_,_,rfl,rfl,rfl⟩ (aQ.mk aH aN rfl))
structure FE (v:List Int) (x:Int) (i:Nat):Prop where
 le:i≤v.length
 lo:∀ k,(h:k<v.length)→k<i→v[k]<x
 hi:∀ k,(h:k<v.length)→i≤k→x≤v[k]
theorem FE.Jp {v:List Int} {x:Int} {i:Nat} (h:FE v x i) (hs:v.Pairwise (· < ·)) (hx:x∈v):∃ hi:i<v.length,v[i]=x:=by
 obtain⟨k,hk,rfl⟩:=List.getElem_of_mem hx
 have h1:i≤k:=by
  by_cases hc:i≤k
  exact hc
  have:=h.lo k hk (by omega);omega
 have hi:i<v.length:=by omega
 refine⟨hi,?_⟩
 have h2:=h.hi i hi (Nat.le_refl _)
 by_cases e:i=k
 subst e;rfl
 have:=List.pairwise_iff_getElem.1 hs i k hi hk (by omega);omega
theorem R9 {w:World} {s:aj} {os:List aj} {v:List Int} {va:Option Addr} {vc:Nat} {x:Int} (hg:ak w s os) (hv:fD s va vc v) (hs:v.Pairwise (· < ·)) (hb:v.length*8≤140737488355328) :
  Calls Tryz.prog 159 #[.slice va v.length vc,i64 x] w (aQ w s os fun r=>∃ i:Nat,r = .tuple #[i64 i,.bool (decide (∃ h:i<v.length,v[i]=x))]∧FE v x i):=by
 have Co:=List.pairwise_iff_getElem.1 hs
 refine enter (l:=[.slice va v.length vc,i64 x]) Tryz.func159 rfl Tryz.ntmps159 rfl ?_
 refine go 17 ?_
 refine CW.cx (fun E' w'=>∃ i,ak w' s os∧ar w w'∧FE v x i∧E'=[(0,.slice va v.length vc),(1,i64 x),(6,i64 v.length),(7,i64 (i:Nat))]) ?_ ?_
 refine CW.block (CW.loop (σ:=Nat) (fun k E w'=>∃ i j:Nat,ak w' s os∧ar w w'∧i≤j∧j≤v.length∧j-i≤k∧(∀ m,(h:m<v.length)→m<i→v[m]<x)∧(∀ m,(h:m<v.length)→j≤m→x≤v[m])∧E=[(0,.slice va v.length vc),(1,i64 x),(6,i64 v.length),(7,i64 (i:Nat)),(8,i64 (j:Nat))])
  (fun k=>k) v.length [(0,.slice va v.length vc),(1,i64 x),(6,i64 v.length),(7,i64 0),(8,i64 v.length)] ⟨rfl,rfl,rfl,rfl,rfl,trivial⟩ ⟨0,v.length,hg,ar.refl _,Nat.zero_le _,Nat.le_refl _,by omega,fun m h h2=>absurd h2 (by omega),fun m h h2=>absurd h2 (by omega),rfl⟩ ?_)
 rintro k E w1 ⟨i,j,aH,aN,iE,hj,hk,u_,zC,rfl⟩
 refine CW.seq (CW.seq (CW.plain ?_))
 refine go 4 ?_
 refine CW.test rfl (fun h=>?_) (fun h=>?_)
 refine CW.skip ?_
 have VM:i<j:=by omega
 obtain⟨m,hm⟩:∃ m,m=(i+j) / 2:=⟨_,rfl⟩
 refine CW.block (CW.seq (CW.plain ?_))
 refine go 3 ?_
 refine RL.conv rfl rfl rfl rfl Tryz.underlying3 Tryz.underlying200 rfl ((by simp only[aq];omega)) ?_
 refine RL.shr 1 rfl rfl rfl rfl rfl rfl rfl (by decide) ?_
 refine RL.conv rfl rfl rfl rfl Tryz.underlying200 Tryz.underlying3 rfl ((by simp only[aq];omega)) ?_
 refine go 2 ?_
 have em:((i:Int)+(j:Int)) / 2 ^ 1=(m:Int):=by omega
 rw[em]
 refine go 4 ?_
 refine RL.cW rfl rfl rfl rfl bC.out rfl rfl (hv) (by omega) (by omega) ?_
 rintro q vs eH hH ⟨rfl,p5⟩
 refine RL.load rfl rfl rfl rfl ey.out rfl (hH) (aH.sh) rfl ?_
 refine go 2 ?_
 refine zw (Sn (x:=v[(m:Int).toNat]'(by omega)) aH) ?_
 rintro r2 w2 aS aR rfl
 refine go 2 ?_
 have tD:m<v.length:=by omega
 refine CW.test rfl (fun hl=>?_) (fun hl=>?_)
 have hZ:v[m]<x:=hl
 refine go 5 ?_
 refine fun ac ha=>⟨k-1,[(0,.slice va v.length vc),(1,i64 x),(6,i64 v.length),(7,i64 ((m+1:Nat):Int)),(8,i64 (j:Nat))],ha.sub ⟨rfl,rfl,rfl,rfl,rfl,trivial⟩,⟨m+1,j,aS,aN.trans aR,by omega,hj,by omega,fun z hz oF=>?_,zC,rfl⟩,by omega⟩
 by_cases e:z=m
 subst e;exact hZ
 have:=Co z m hz tD (by omega);omega
 have hZ:x≤v[m]:=by have:¬ v[m]<x:=hl;omega
 refine go 4 ?_
 refine fun ac ha=>⟨k-1,[(0,.slice va v.length vc),(1,i64 x),(6,i64 v.length),(7,i64 (i:Nat)),(8,i64 (m:Nat))],ha.sub ⟨rfl,rfl,rfl,rfl,rfl,trivial⟩,⟨i,m,aS,aN.trans aR,by omega,by omega,by omega,u_,fun z hz oF=>?_,rfl⟩,by omega⟩
 by_cases e:z=m
 subst e;exact hZ
 have:=Co m z tD hz (by omega);omega
 refine CW.exit (fun ac ha=>⟨_,ha.sub (E':=[(0,.slice va v.length vc),(1,i64 x),(6,i64 v.length),(7,i64 (i:Nat))]) ⟨rfl,rfl,rfl,rfl,trivial⟩,i,aH,aN,⟨by omega,u_,fun z hz oF=>zC z hz (by omega)⟩,rfl⟩)
 rintro E' w1 ⟨i,aH,aN,hp,rfl⟩
 have cg:=hp.le
 refine go 7 ?_
 refine RL.part 35 rfl (fun hc=>?_) (fun hc=>?_)
 have hi:i<v.length:=by have:=of_decide_eq_true hc;omega
 by_cases he:v[i]=x
 have qw:(v[i]==x)=true:=by simpa using he
 refine go 2 ?_
 refine RL.cW rfl rfl rfl rfl bC.out rfl rfl (hv) (by omega) (by omega) ?_
 rintro q vs eH hH ⟨rfl,p5⟩
 refine RL.load rfl rfl rfl rfl ey.out rfl (hH) (aH.sh) rfl ?_
 refine go 1 ?_
 refine RL.nH rfl rfl rfl rfl (.bool true) (congrArg Value.bool qw) ?_
 refine go 15 ?_
 exact CW.ret (ret (vs:=[_,_]) ⟨_,_,rfl,rfl,_,_,rfl,rfl,rfl⟩ (aQ.mk aH aN ⟨i,by rw[decide_eq_true ⟨hi,he⟩];rfl,hp⟩))
 have qw:(v[i]==x)=false:=by simpa using he
 refine go 2 ?_
 refine RL.cW rfl rfl rfl rfl bC.out rfl rfl (hv) (by omega) (by omega) ?_
 rintro q vs eH hH ⟨rfl,p5⟩
 refine RL.load rfl rfl rfl rfl ey.out rfl (hH) (aH.sh) rfl ?_
 refine go 1 ?_
 refine RL.nH rfl rfl rfl rfl (.bool false) (congrArg Value.bool qw) ?_
 refine go 3 ?_
 refine RL.cW rfl rfl rfl rfl bC.out rfl rfl (hv) (by omega) (by omega) ?_
 rintro q2 vs2 oE eS ⟨rfl,agC⟩
 refine RL.load rfl rfl rfl rfl ey.out rfl (eS) (aH.sh) rfl ?_
 refine go 1 ?_
 refine zw (ahs aH) ?_
 rintro r2 w2 aS aR rfl
 refine go 10 ?_
 exact CW.ret (ret (vs:=[_,_]) ⟨_,_,rfl,rfl,_,_,rfl,rfl,rfl⟩ (aQ.mk aS (aN.trans aR) ⟨i,by rw[decide_eq_false (fun ⟨_,h⟩=>he h)];rfl,hp⟩))
 have hi:¬ i<v.length:=by have:=of_decide_eq_false hc;omega
 refine go 21 ?_
 exact CW.ret (ret (vs:=[_,_]) ⟨_,_,rfl,rfl,_,_,rfl,rfl,rfl⟩ (aQ.mk aH aN ⟨i,by rw[decide_eq_false (fun ⟨h,_⟩=>hi h)];rfl,hp⟩))
end Go.Lw
/-
 Quorum: what a majority has, by the program.
-/
namespace Go.Lw
open Go.Proofs
open Go.Sort (swp size_swp PermIn)
section
variable {P:Program} {n:Nat} {ops:Array Oper} {Q:Exit→Act→World→Prop} {S:World→Prop} {rest':List (Bool × Oper)} {E:dE} {w:World} {o:Oper} {q:Nat} {s:aj} {os:List aj} {x y:Operand}
theorem RL.ahO {t:TypeId} {by_ m:Nat} (hg:bR ops E o=some true) (hd:o.dst=some q) (hb:Nat.blt q n=true) (ho:o.op = .makeSlice t x y) (ht:eJ P t=some (ET,1,by_)) (hz:eY P ET=some [Value.int KK 0])
  (hx:ev E x=some (i64 (m:Nat))) (hy:ev E y=some (i64 (m:Nat))) (hm:by_*m≤281474976710656) (qY:m≤9223372036854775807) (hG:ak w s os)
  (h:∀ b A w',ak w' s (A::os)→ar w w'→dB A b [] (Array.replicate m 0)→S w'∧RL P n ops Q S rest' ((q,.slice (some ⟨b,0,none⟩) m m)::E) w'):RL P n ops Q S ((false,o)::rest') E w:=by
 obtain⟨hu,inf,hi,cV,r7⟩:=pE ht
 unfold eY at hz
 cases vp:inf.zero with
 | none=>simp[hi,vp] at hz
 | some u =>
  simp[hi,vp] at hz
  have fo:=run_make (P:=P) w t ET inf u hu hi vp .i64 .i64 (m:Int) (m:Int) (by omega) (Int.le_refl _) (by rw[r7];omega) (by omega)
  have Oi:(madeCells u.cells ((m:Int).toNat*inf.size))=((Array.replicate m (0:Int)).toList.map (Value.int KK)++[]).toArray:=by
   have Qd:u.cells = #[Value.int KK 0]:=by
    apply Array.ext'
    simpa using hz
   rw[Qd,cV,Int.toNat_natCast,Nat.mul_one]
   apply Array.ext
   simp[madeCells]
   intro j h1 h2
   simp[madeCells]
   rw[Nat.mod_one]
   rfl
  rw[Oi] at fo
  obtain⟨h1,h2⟩:=h w.heap.size _ _ (hG.alloc _) (ar.alloc w _) (if_pos rfl)
  refine RL.step hg hd hb (fun ac ha=>?_) h1 h2
  unfold execOp
  simp only[ho,ha.ev hx,ha.ev hy]
  simp[fo]
end
theorem Zp {v:List Int} {f f':Int→Int} {i:Nat} {x m:Int} (hi:i<v.length) (hv:v[i]=x) (hs:v.Pairwise (· < ·)) (hf:∀ y,f' y=if x==y then mx (f y) m else f y) :
  ((v.map f).toArray).setIfInBounds i (mx (f x) m)=(v.map f').toArray:=by
 apply Array.ext
 simp
 intro j h1 h2
 have hj:j<v.length:=by simpa using h2
 rw[Array.getElem_setIfInBounds (by simpa using hj)]
 simp only[List.getElem_toArray,List.getElem_map]
 by_cases e:i=j
 subst e
 rw[if_pos rfl,hf,hv,if_pos (by simp)]
 rw[if_neg e,hf,if_neg]
 have Co:=List.pairwise_iff_getElem.1 hs
 rcases Nat.lt_or_gt_of_ne e with h | h
 have:=Co i j hi hj h;simp;omega
 have:=Co j i hj hi h;simp;omega
theorem ahw {v:List Int} {f f':Int→Int} {x m:Int} (hx:x∉v) (hf:∀ y,f' y=if x==y then mx (f y) m else f y):v.map f'=v.map f:=by
 apply List.map_congr_left
 intro y hy
 rw[hf,if_neg]
 simp
 intro e
 subst e
 exact hx hy
theorem ajr {v:List Int} {f:Int→Int} {i:Nat} (hi:i<v.length):((v.map f).toArray)[i]! = f v[i]:=by
 rw[getElem!_pos _ i (by simpa using hi)];simp
abbrev R_ (w:World) (s:aj) (os:List aj) (xs:List Int) (l:List cK):Ending→World→Prop:=aw w s os fun _ _ r=>∃ c,r = .int .u64 c∧Ao ((cZ xs).map (fW l)) c
theorem aaf {w:World} {s:aj} {os:List aj} {xs:List Int} {l:List cK} {xa la:Option Addr} {xc lc:Nat} (hg:ak w s os) (hx:fD s xa xc xs) (hl:I0 s la lc l) (hb:xs.length*8≤140737488355328) :
  Calls Tryz.prog 145 #[.slice xa xs.length xc,.slice la l.length lc] w (R_ w s os xs l):=by
 have Cq:=It xs
 have cc:=Iu xs
 have V0:=hl.gL
 simp only[maxLen] at V0
 refine enter (l:=[.slice xa xs.length xc,.slice la l.length lc]) Tryz.func145 rfl Tryz.ntmps145 rfl ?_
 refine go 8 ?_
 refine zc (XU hg hx hb) ?_
 rintro v2 s2 A2 w2 jb aS aR ⟨rfl,a2,c2,rfl,mO⟩
 refine go 3 ?_
 obtain⟨s3,aP,cO,Nr⟩:=aS.bY
 have hv:fD s3 a2 c2 (cZ xs):=mO.ci (ax.up _) cO Nr
 have xP:I0 s3 la lc l:=hl.up fI.up cO
 unfold R_
 generalize cZ xs=V at *
 refine CW.seq (CW.seq (CW.plain ?_))
 refine go 4 ?_
 refine CW.eq rfl (fun h0=>?_) (fun h0=>?_)
 ·
  refine CW.seq (CW.plain ?_)
  refine go 2 ?_
  have rk:V=[]:=List.eq_nil_of_length_eq_zero (by omega)
  exact CW.ret (ret (vs:=[_]) ⟨_,_,rfl,rfl,rfl⟩ (aw.mk cO aP.nil aR ⟨0,rfl,.inl ⟨by rw[rk];rfl,rfl⟩⟩))
 refine go 5 ?_
 refine RL.ahO (m:=V.length) rfl rfl rfl rfl bG.out ZI.out rfl rfl (by omega) (by omega) aP ?_
 rintro b A4 w4 bp bJ ru
 refine go 3 ?_
 refine CW.seq (CW.seq (CW.plain ?_))
 refine go 4 ?_
 have zR:dB A4 b [] (V.map (fW (l.take 0))).toArray:=by
  have e:(V.map (fW (l.take 0))).toArray=Array.replicate V.length 0:=by
   apply Array.ext
   ·
    simp
   ·
    intro j h1 h2
    simp[fW]
  rw[e];exact ru
 refine CW.block (CW.loop (σ:=Nat) (fun j E w'=>∃ A',ak w' s3 (A'::os)∧ar w w'∧∃ k:Nat,dB A' b [] (V.map (fW (l.take k))).toArray∧k+j=l.length∧E=[(5,.slice a2 V.length c2),(6,.slice (some ⟨b,0,none⟩) V.length V.length),(19,.slice la l.length lc),(20,i64 l.length),(21,i64 k)])
  (fun j=>j) l.length [(5,.slice a2 V.length c2),(6,.slice (some ⟨b,0,none⟩) V.length V.length),(19,.slice la l.length lc),(20,i64 l.length),(21,i64 0)] ⟨rfl,rfl,rfl,rfl,rfl,trivial⟩ ⟨A4,bp,aR.trans bJ,0,zR,by omega,rfl⟩ ?_)
 rintro j E w5 ⟨A5,bh,bQ,k,pj,hk,rfl⟩
 refine go 4 ?_
 refine CW.seq (CW.test rfl (fun h=>?_) (fun h=>?_))
 ·
  refine CW.skip ?_
  have cv:k<l.length:=by omega
  have tI:∀ y,fW (l.take (k+1)) y=if l[k].node==y then mx (fW (l.take k) y) l[k].cA else fW (l.take k) y:=fun y=>by rw[ahS l y k cv];rfl
  obtain⟨j,rfl⟩:∃ m,j=m+1:=⟨j-1,by omega⟩
  refine CW.cx (fun E' w'=>∃ A',ak w' s3 (A'::os)∧ar w w'∧dB A' b [] (V.map (fW (l.take (k+1)))).toArray∧E'=[(5,.slice a2 V.length c2),(6,.slice (some ⟨b,0,none⟩) V.length V.length),(19,.slice la l.length lc),(20,i64 l.length),(21,i64 k)]) ?_ ?_
  rotate_left
  ·
   rintro E' w6 ⟨A6,bx,bM,p6,rfl⟩
   refine go 4 ?_
   exact fun ac ha=>⟨j,[(5,.slice a2 V.length c2),(6,.slice (some ⟨b,0,none⟩) V.length V.length),(19,.slice la l.length lc),(20,i64 l.length),(21,i64 ((k:Int)+1))],ha.sub ⟨rfl,rfl,rfl,rfl,rfl,trivial⟩,⟨A6,bx,bM,k+1,p6,by omega,rfl⟩,Nat.lt_succ_self j⟩
  refine CW.block (CW.seq (CW.plain ?_))
  refine RL.cW rfl rfl rfl rfl qf.out rfl rfl (xP) (by omega) (by omega) ?_
  rintro q vs eH hH ⟨rfl,zQ,ph,Wi⟩
  refine RL.gX rfl rfl rfl rfl yB.out rfl (hH) (bh.sh) rfl rfl ?_
  refine RL.alloc rfl rfl rfl rfl Fx.out bh ?_
  rintro p w6 bx bM
  refine go 1 ?_
  refine RL.store (i:=0) (j:=0) rfl rfl rfl yB.out rfl rfl bx rfl ((if_pos rfl)) rfl (by first | (simp[Value.cells,Value.oneCell'];done) | simp[Value.cells,Value.oneCell',lx]) (by first | exact Nat.le_of_ble_eq_true rfl | (simp;done) | (simp;omega) | omega) ?_
  rintro w7 bO cj
  refine go 2 ?_
  obtain⟨B7,Vy,Bo⟩:∃ B,ak w7 s3 (B::A5::os)∧B p=some (.cells #[i64 l[k].node,.int .u64 l[k].next,.int .u64 l[k].cA] 136 (0,0)):=⟨_,bO,dq _ _ _⟩
  refine go 4 ?_
  refine RL.load rfl rfl rfl rfl ey.out rfl (Holds.of Bo) (Vy.1) rfl ?_
  refine go 1 ?_
  refine zw (R9 (x:=l[k].node) Vy hv cc (by omega)) ?_
  rintro v8 w8 bD cM ⟨i,rfl,iO⟩
  refine go 11 ?_
  refine CW.cond rfl (fun hf=>?_) (fun hf=>?_)
  ·
   obtain⟨hi,Qg⟩:=of_decide_eq_true hf
   have Km:((V.map (fW (l.take k))).toArray)[i]! = fW (l.take k) l[k].node:=by rw[ajr hi,Qg]
   have cV:((V.map (fW (l.take k))).toArray).size=V.length:=by simp
   refine CW.lb (.dV [(true,0),(true,1),(true,2),(true,3),(true,4),(true,6)] (.line [(false,5),(false,7),(true,8),(true,9),(false,10)]) (.line [(false,7),(false,5),(true,8),(true,9),(false,10)])) (fun _=>True) mixed (by kernel_rfl) (by kernel_rfl) (by kernel_rfl) (by kernel_rfl) trivial ?_
   refine RT.pre trivial ?_
   refine go 4 ?_
   refine RL.bK i rfl rfl rfl rfl bG.out rfl rfl rfl hi ?_
   refine go 2 ?_
   refine RT.eE (S:=fun _=>True) trivial (RT.di (S:=fun _=>True) trivial ?_) (RT.di (S:=fun _=>True) trivial ?_)
   ·
    refine RL.dJ i rfl rfl rfl rfl aV.out rfl pj bD.drew.drop.1 (by rw[cV];exact hi) ?_
    refine RL.load rfl rfl rfl rfl aV.out rfl (Holds.of Bo) (bD.drew.1) rfl ?_
    refine RL.max rfl rfl rfl rfl rfl rfl ?_
    refine RL.bK i rfl rfl rfl rfl bG.out rfl rfl rfl hi ?_
    refine RL.dL i rfl rfl rfl aV.out rfl rfl bD.drew.swap pj (by rw[cV];exact hi) ?_
    intro w9 A9 bA cu Cm
    refine go 2 ?_
    exact fun ac ha=>⟨_,ha.sub (E':=[(5,.slice a2 V.length c2),(6,.slice (some ⟨b,0,none⟩) V.length V.length),(19,.slice la l.length lc),(20,i64 l.length),(21,i64 k)]) ⟨rfl,rfl,rfl,rfl,rfl,trivial⟩,A9,bA.aE,bQ.trans (bM.trans (cj.trans (cM.trans ((ar.drew _).trans cu)))),by rw[←Zp (f:=fW (l.take k)) hi Qg cc tI,← Km];exact Cm,rfl⟩
   ·
    refine RL.load rfl rfl rfl rfl aV.out rfl (Holds.of Bo) (bD.drew.1) rfl ?_
    refine RL.dJ i rfl rfl rfl rfl aV.out rfl pj bD.drew.drop.1 (by rw[cV];exact hi) ?_
    refine RL.max rfl rfl rfl rfl rfl rfl ?_
    refine RL.bK i rfl rfl rfl rfl bG.out rfl rfl rfl hi ?_
    refine RL.dL i rfl rfl rfl aV.out rfl rfl bD.drew.swap pj (by rw[cV];exact hi) ?_
    intro w9 A9 bA cu Cm
    refine go 2 ?_
    exact fun ac ha=>⟨_,ha.sub (E':=[(5,.slice a2 V.length c2),(6,.slice (some ⟨b,0,none⟩) V.length V.length),(19,.slice la l.length lc),(20,i64 l.length),(21,i64 k)]) ⟨rfl,rfl,rfl,rfl,rfl,trivial⟩,A9,bA.aE,bQ.trans (bM.trans (cj.trans (cM.trans ((ar.drew _).trans cu)))),by rw[←Zp (f:=fW (l.take k)) hi Qg cc tI,← Km];exact Cm,rfl⟩
  ·
   have bW:l[k].node∉V:=fun hm=>of_decide_eq_false hf (iO.Jp cc hm)
   refine CW.skip (fun ac ha=>⟨_,ha.sub (E':=[(5,.slice a2 V.length c2),(6,.slice (some ⟨b,0,none⟩) V.length V.length),(19,.slice la l.length lc),(20,i64 l.length),(21,i64 k)]) ⟨rfl,rfl,rfl,rfl,rfl,trivial⟩,A5,bD.drop,bQ.trans (bM.trans (cj.trans cM)),?_,rfl⟩)
   rw[ahw bW tI];exact pj
 ·
  refine CW.exit ?_
  have cv:k=l.length:=by omega
  rw[cv,List.take_length] at pj
  refine go 4 ?_
  refine zc (aaU (n:=V.length) bh pj (by simp) (by omega)) ?_
  rintro v6 s6 A6 w6 jv bx bM ⟨rfl,rfl,d,rn,yk,p6⟩
  refine go 2 ?_
  have cV:d.size=V.length:=by rw[rn.1];simp
  obtain⟨cH,mN⟩:=ah2 (n:=V.length) (by omega)
  obtain⟨K,hK⟩:∃ K:Nat,most (V.length:Int)=K:=⟨(most (V.length:Int)).toNat,by omega⟩
  rw[hK] at cH mN
  refine go 8 ?_
  refine zw (IX bx (Id (by omega))) ?_
  rintro v7 w7 bO cj rfl
  refine go 1 ?_
  rw[hK]
  refine go 1 ?_
  refine RL.bK (V.length-K) rfl rfl rfl rfl bG.out rfl rfl (by omega) (by omega) ?_
  refine RL.dJ (V.length-K) rfl rfl rfl rfl aV.out rfl p6 bO.1 (by omega) ?_
  refine go 2 ?_
  refine CW.ret (ret (vs:=[_]) ⟨_,_,rfl,rfl,rfl⟩ (aw.mk cO bO (bQ.trans (bM.trans cj)) ⟨_,rfl,.inr ⟨by intro e;simp at e;subst e;simp at h0,?_⟩⟩))
  have Ew:d.toList.Perm (V.map (fW l)):=by
   have h3:=rn.2.2
   rw[←cV,Array.extract_size] at h3
   have e:((V.map (fW l)).toArray.extract 0 d.size)=(V.map (fW l)).toArray:=by
    have:d.size=((V.map (fW l)).toArray).size:=by rw[cV];simp
    rw[this,Array.extract_size]
   rw[e] at h3
   simpa using h3
  have:=ajX (K:=K) Ew (fun i j iE hj=>by
   have:=yk i j (Nat.zero_le _) iE (by omega)
   simp only[bf,Go.Sort.ltInt,decide_eq_false_iff_not] at this
   omega) (by omega) (by omega)
  rw[cV] at this
  rw[List.length_map,hK]
  exact this
end Go.Lw
namespace Go.Lw
open Go.Proofs
def xl (P:Program) (g:Nat) (cap:Array Value) (s:aj) (p:Int→Bool):Prop :=
 ∀ (x:Int) (w:World) (s':aj) (os:List aj),Le s s'→ak w s' os→Calls P g (#[i64 x]++cap) w (aQ w s' os fun r=>r = .bool (p x))
theorem xl.up {P:Program} {g:Nat} {cap:Array Value} {s s':aj} {p:Int→Bool} (h:xl P g cap s p) (hl:Le s s'):xl P g cap s' p:=fun x w s2 os h2 hg=>h x w s2 os (hl.trans h2) hg
theorem RF {xs:List Int} {k:Nat} {q:Int→Prop} (cv:k<xs.length) (h:∀ x∈xs.take k,q x) (hk:q xs[k]):∀ x∈xs.take (k+1),q x:=by
 intro x hx
 rw[List.take_succ_eq_append_getElem cv] at hx
 rcases List.mem_append.1 hx with hx | hx
 exact h x hx
 obtain rfl:=List.mem_singleton.1 hx;exact hk
theorem Si {w:World} {s:aj} {os:List aj} {xs:List Int} {xa:Option Addr} {xc g:Nat} {cap:Array Value} {p:Int→Bool} (hg:ak w s os) (hx:fD s xa xc xs) (hc:km Tryz.prog g=true) (hp:xl Tryz.prog g cap s p) :
  Calls Tryz.prog 123 #[.slice xa xs.length xc,.func (.func g) #[] cap] w
   (aQ w s os fun r=>(r=i64 (-1)∧∀ x∈xs,p x=false)∨∃ (k:Nat) (h:k<xs.length),r=i64 k∧p xs[k]=true∧∀ x∈xs.take k,p x=false):=by
 refine enter (l:=[.slice xa xs.length xc,.func (.func g) #[] cap]) Tryz.func123 rfl Tryz.ntmps123 rfl ?_
 refine go 4 ?_
 refine CW.seq (CW.seq (CW.plain ?_))
 refine go 4 ?_
 have bV:=hx.gL
 simp only[maxLen] at bV
 refine CW.block (CW.loop (σ:=Nat) (fun j E w'=>ak w' s os∧ar w w'∧∃ k:Nat,E=[(0,.slice xa xs.length xc),(1,.func (.func g) #[] cap),(7,i64 xs.length),(8,i64 k)]∧k+j=xs.length∧∀ x∈xs.take k,p x=false)
  (fun j=>j) xs.length [(0,.slice xa xs.length xc),(1,.func (.func g) #[] cap),(7,i64 xs.length),(8,i64 0)] ⟨rfl,rfl,rfl,rfl,trivial⟩ ⟨hg,ar.refl _,0,rfl,by omega,by simp⟩ ?_)
 rintro j E w1 ⟨aH,aN,k,rfl,hk,bW⟩
 refine go 4 ?_
 refine CW.seq (CW.test rfl (fun h=>?_) (fun h=>?_))
 refine CW.skip ?_
 have cv:k<xs.length:=by omega
 refine CW.seq (CW.block (CW.seq (CW.plain ?_)))
 refine go 8 ?_
 refine RL.cW rfl rfl rfl rfl bC.out rfl rfl (hx) (by omega) (by omega) ?_
 rintro q vs eH hH ⟨rfl,p5⟩
 refine RL.load rfl rfl rfl rfl ey.out rfl (hH) (aH.sh) rfl ?_
 refine RL.tj rfl rfl rfl rfl rfl rfl hc (hp xs[k] w1 s os (Le.refl _) aH) ?_
 rintro e w2 ⟨v2,rfl,aS,aR,rfl⟩
 refine⟨_,rfl,trivial,?_⟩
 refine go 1 ?_
 refine CW.cond rfl (fun hb=>?_) (fun hb=>?_)
 refine CW.seq (CW.plain ?_)
 refine go 3 ?_
 exact CW.ret (ret (vs:=[_]) ⟨_,_,rfl,rfl,rfl⟩ (aQ.mk aS (aN.trans aR) (.inr ⟨k,cv,rfl,hb,bW⟩)))
 refine CW.skip ?_
 refine go 4 ?_
 cases j with
 | zero=>omega
 | succ j =>
  refine fun ac ha=>⟨j,[(0,.slice xa xs.length xc),(1,.func (.func g) #[] cap),(7,i64 xs.length),(8,i64 ((k:Int)+1))],ha.sub ⟨rfl,rfl,rfl,rfl,trivial⟩,⟨aS,aN.trans aR,k+1,rfl,by omega,RF cv bW hb⟩,Nat.lt_succ_self j⟩
 refine CW.exit (CW.seq (CW.plain ?_))
 have cv:k=xs.length:=by omega
 refine go 2 ?_
 rw[cv,List.take_length] at bW
 exact CW.ret (ret (vs:=[_]) ⟨_,_,rfl,rfl,rfl⟩ (aQ.mk aH aN (.inl ⟨rfl,bW⟩)))
theorem Sh {w:World} {s:aj} {os:List aj} {xs:List Int} {xa:Option Addr} {xc g:Nat} {cap:Array Value} {p:Int→Bool} (hg:ak w s os) (hx:fD s xa xc xs) (hc:km Tryz.prog g=true) (hp:xl Tryz.prog g cap s p) :
  Calls Tryz.prog 91 #[.slice xa xs.length xc,.func (.func g) #[] cap] w (aQ w s os fun r=>r = .bool (xs.any p)):=by
 refine enter (l:=[.slice xa xs.length xc,.func (.func g) #[] cap]) Tryz.func91 rfl Tryz.ntmps91 rfl ?_
 refine go 9 ?_
 refine zw (Si hg hx hc hp) ?_
 rintro v w1 aH aN (⟨rfl,bW⟩ | ⟨k,cv,rfl,hk,_⟩)
 refine⟨trivial,?_⟩
 refine go 3 ?_
 have:xs.any p=false:=List.any_eq_false.2 (fun x hx=>by simp[bW x hx])
 exact CW.ret (ret (vs:=[_]) ⟨_,_,rfl,rfl,rfl⟩ (aQ.mk aH aN (by rw[this];rfl)))
 refine⟨trivial,?_⟩
 refine go 3 ?_
 have:xs.any p=true:=List.any_eq_true.2 ⟨_,List.getElem_mem cv,hk⟩
 have h0:decide ((k:Int)≥0)=true:=by simp
 exact CW.ret (ret (vs:=[_]) ⟨_,_,rfl,rfl,rfl⟩ (aQ.mk aH aN (by rw[this];exact congrArg Value.bool h0)))
theorem MU {xs:List Int} {p:Int→Bool} {j:Nat} (h:j<xs.length):(xs.take (j+1)).filter p=(xs.take j).filter p++if p xs[j]=true then [xs[j]] else []:=by
 rw[List.take_succ_eq_append_getElem h,List.filter_append]
 congr 1
 simp only[List.filter_cons,List.filter_nil]
theorem ajN {ys zs:List Int} {v:Int} {i:Nat} (hi:i<ys.length) (h:ys.take i=zs):(ys.set i v).take (i+1)=zs++[v]:=by
 rw[List.take_succ_eq_append_getElem (by simpa using hi),List.getElem_set_self,List.take_set_of_le (Nat.le_refl _),h]
theorem aaj {w:World} {s A:aj} {os:List aj} {xs:List Int} {a:Option Addr} {c g:Nat} {cap:Array Value} {p:Int→Bool} (hg:ak w s (A::os)) (ho:ib s A a c xs) (hc:km Tryz.prog g=true) (hp:xl Tryz.prog g cap s p) :
  Calls Tryz.prog 161 #[.slice a xs.length c,.func (.func g) #[] cap] w (aw w s os fun s' A' r=>s'=s∧r = .slice a (xs.filter fun x=> !p x).length c∧ib s' A' a c (xs.filter fun x=> !p x)):=by
 have bV:=ho.gL
 simp only[maxLen] at bV
 have El:=ho.EP
 obtain⟨bN,gV,xP,VZ⟩:=hg.CB
 have VN:=ho.ci (ax.up _) gV xP
 refine enter (l:=[.slice a xs.length c,.func (.func g) #[] cap]) Tryz.func161 rfl Tryz.ntmps161 rfl ?_
 refine go 9 ?_
 refine zw (Si bN VN hc (hp.up gV)) ?_
 rintro v w1 D8 aN hv
 have aH:=VZ _ D8
 refine go 1 ?_
 clear bN gV xP VZ VN D8
 rcases hv with ⟨rfl,bW⟩ | ⟨k,cv,rfl,hk,bW⟩
 refine RL.pure rfl rfl rfl rfl ?_
 refine go 1 ?_
 refine CW.seq (CW.seq (CW.plain ?_))
 refine go 3 ?_
 refine CW.dZ rfl (CW.seq (CW.plain ?_))
 refine go 3 ?_
 have e:(xs.filter fun x=> !p x)=xs:=List.filter_eq_self.2 (fun x hx=>by simp[bW x hx])
 exact CW.ret (ret (vs:=[_]) ⟨_,_,rfl,rfl,rfl⟩ (aw.mk (Le.refl _) aH aN (by rw[e];exact⟨rfl,rfl,ho⟩)))
 refine go 2 ?_
 refine CW.seq (CW.seq (CW.plain ?_))
 refine go 3 ?_
 refine CW.eq rfl (fun h=>by omega) (fun _=>CW.skip ?_)
 have BD:(xs.take (k+1)).filter (fun x=> !p x)=xs.take k:=by
  rw[MU cv,hk]
  simp only[Bool.not_true,Bool.false_eq_true,if_false,List.append_nil]
  exact List.filter_eq_self.2 (fun x hx=>by simp[bW x hx])
 refine CW.cx (fun E w'=>∃ A' ys,E=[(0,.slice a xs.length c),(5,i64 (xs.filter fun x=> !p x).length)]∧ak w' s (A'::os)∧ar w w'∧ib s A' a c ys∧ys.length=xs.length∧ys.take (xs.filter fun x=> !p x).length=(xs.filter fun x=> !p x)∧(xs.filter fun x=> !p x).length<xs.length) ?_ ?_
 refine CW.seq (CW.plain ?_)
 refine go 4 ?_
 refine CW.block (CW.loop (σ:=Nat) (fun n E w'=>∃ A' ys,∃ i j:Nat,E=[(0,.slice a xs.length c),(1,.func (.func g) #[] cap),(5,i64 i),(6,i64 j)]∧ak w' s (A'::os)∧ar w w'∧ib s A' a c ys∧ys.length=xs.length∧j+n=xs.length∧i<j ∧
   ys.take i=(xs.take j).filter (fun x=> !p x)∧ys.drop j=xs.drop j)
  (fun n=>n) (xs.length-(k+1)) [(0,.slice a xs.length c),(1,.func (.func g) #[] cap),(5,i64 k),(6,i64 ((k:Int)+1))] ⟨rfl,rfl,rfl,rfl,trivial⟩
  ⟨A,xs,k,k+1,rfl,aH,aN,ho,rfl,by omega,by omega,BD.symm,rfl⟩ ?_)
 rintro n E w2 ⟨A2,ys,i,j,rfl,aS,aR,mO,EI,hn,iE,yp,Cx⟩
 refine CW.seq (CW.seq (CW.plain ?_))
 refine go 5 ?_
 refine CW.test rfl (fun h=>?_) (fun h=>CW.exit ?_)
 refine CW.skip ?_
 have GW:j<xs.length:=by omega
 have wE:ys[j]'(by omega)=xs[j]:=by
  have h1:(ys.drop j)[0]?=(xs.drop j)[0]?:=by rw[Cx]
  rw[List.getElem?_drop,List.getElem?_drop,Nat.add_zero,List.getElem?_eq_getElem (by omega),List.getElem?_eq_getElem GW] at h1
  exact Option.some.inj h1
 have WI:ys.drop (j+1)=xs.drop (j+1):=by rw[←List.drop_drop,← List.drop_drop,Cx]
 have HB:some (Value.slice a xs.length c)=some (Value.slice a ys.length c):=by rw[EI]
 refine CW.seq (CW.block (CW.seq (CW.plain ?_)))
 refine go 2 ?_
 refine RL.Cy rfl rfl rfl rfl bC.out HB rfl mO (by omega) (by omega) ?_
 rintro q cs vs hb hC dr eH wi ⟨rfl,hr⟩
 refine RL.load rfl rfl rfl rfl ey.out rfl (Holds.of hC) aS.1 (wi 0 _ rfl) ?_
 refine go 2 ?_
 have ej:ys[((j:Nat):Int).toNat]'(by omega)=xs[j]:=by simpa using wE
 rw[ej]
 refine go 4 ?_
 refine RL.tj rfl rfl rfl rfl rfl rfl hc (hp xs[j] w2 s (A2::os) (Le.refl _) aS) ?_
 rintro e w3 ⟨v3,rfl,aP,bw,rfl⟩
 refine⟨_,rfl,trivial,?_⟩
 refine go 2 ?_
 refine CW.cond rfl (fun hb=>?_) (fun hb=>?_)
 refine CW.seq (CW.plain ?_)
 refine go 3 ?_
 refine RL.Cy rfl rfl rfl rfl bC.out HB rfl mO (by omega) (by omega) ?_
 rintro q' cs' vs' li UA apb Kr ao_ _
 refine RL.store (i:=0) rfl rfl rfl ey.out rfl rfl aP rfl (UA) rfl (by first | (simp[Value.cells,Value.oneCell'];done) | simp[Value.cells,Value.oneCell',lx]) (by first | exact Nat.le_of_ble_eq_true rfl | (simp;done) | (simp;omega) | omega) ?_
 rintro w4 bp bJ
 refine go 2 ?_
 have pk:=aW.set (x:=xs[j]) (vs:=[i64 xs[j]]) (li▸mO) UA (show i<ys.length by omega) rfl ⟨rfl,ej▸hr⟩
 refine go 10 ?_
 cases n with
 | zero=>omega
 | succ n =>
  refine fun ac ha=>⟨n,[(0,.slice a xs.length c),(1,.func (.func g) #[] cap),(5,i64 ((i+1:Nat):Int)),(6,i64 ((j+1:Nat):Int))],ha.sub ⟨rfl,rfl,rfl,rfl,trivial⟩,
   ⟨_,ys.set i xs[j],i+1,j+1,rfl,bp,aR.trans (bw.trans bJ),li▸pk,by simp[EI],by omega,by omega,?_,?_⟩,Nat.lt_succ_self n⟩
  rw[ajN (by omega) yp,MU GW,if_pos hb]
  rw[List.drop_set_of_lt (by omega),WI]
 refine CW.skip ?_
 refine go 5 ?_
 cases n with
 | zero=>omega
 | succ n =>
  refine fun ac ha=>⟨n,[(0,.slice a xs.length c),(1,.func (.func g) #[] cap),(5,i64 (i:Int)),(6,i64 ((j+1:Nat):Int))],ha.sub ⟨rfl,rfl,rfl,rfl,trivial⟩,
   ⟨A2,ys,i,j+1,rfl,aP,aR.trans bw,mO,EI,by omega,by omega,?_,WI⟩,Nat.lt_succ_self n⟩
  rw[MU GW,if_neg (by rw[hb];decide),List.append_nil,yp]
 have GW:j=xs.length:=by omega
 subst GW
 rw[List.take_length] at yp
 have fK:(xs.filter fun x=> !p x).length=i:=by rw[←yp,List.length_take];omega
 refine fun ac ha=>⟨[(0,.slice a xs.length c),(5,i64 (xs.filter fun x=> !p x).length)],ha.sub ⟨rfl,by rw[fK];rfl,trivial⟩,A2,ys,rfl,aS,aR,mO,EI,by rw[fK,yp],by omega⟩
 rintro E w5 ⟨A5,ys,rfl,bh,bQ,ms,EI,yp,be⟩
 generalize (xs.filter fun x=> !p x)=zs at yp be ⊢
 rcases ms with ⟨_,_,rfl⟩ | ⟨q,cs,rfl,uF,BQ,tu,Vn,GC⟩
 simp at EI;omega
 have j5:0+zs.length*1+(xs.length-zs.length)*[i64 0].length≤cs.size:=by
  rw[Vn];simp only[List.length_cons,List.length_nil];omega
 refine go 4 ?_
 refine RL.AO zs.length rfl rfl rfl rfl bC.out rfl rfl rfl (by omega) (by omega) (by omega) ?_
 refine RL.clear (i:=0) rfl rfl rfl bC.out fY.out rfl bh rfl uF j5 (by simp[Value.oneCell']) ?_
 rintro w6 bx bM
 refine go 6 ?_
 refine RL.AM zs.length rfl rfl rfl rfl bC.out rfl rfl rfl (by omega) ?_
 refine go 2 ?_
 have lD:ib s A5 (some ⟨q,0,none⟩) c zs:=by
  have e:zs++ys.drop zs.length=ys:=by
   have:=List.take_append_drop zs.length ys
   rw[yp] at this
   exact this
  have h1:ib s A5 (some ⟨q,0,none⟩) c (zs++ys.drop zs.length):=by
   rw[e]
   exact .inr ⟨q,cs,rfl,uF,BQ,tu,Vn,GC⟩
  exact h1.ae
 have gW:(Builtin.zeroCells #[i64 0] (xs.length-zs.length)).toList.length=xs.length-zs.length:=by simp[size_zeroCells]
 simp only[List.length_cons,List.length_nil] at j5
 have ahb:=lD.tail uF (ds:=l9 cs (0+zs.length*1) (Builtin.zeroCells #[i64 0] (xs.length-zs.length)).toList) (Fi (by rw[gW];omega)) (by
  simp only[Nat.zero_add,Nat.mul_one] at j5 ⊢
  rw[List.append_assoc,List.take_left' (by rw[List.length_take];have:cs.toList.length=cs.size:=Array.length_toList;omega)])
 exact CW.ret (ret (vs:=[_]) ⟨_,_,rfl,rfl,rfl⟩ (aw.mk (Le.refl _) bx (bQ.trans bM) ⟨rfl,rfl,ahb⟩))
end Go.Lw
namespace Go.Lw
section
variable {P:Program} {n:Nat} {ops:Array Oper} {Q:Exit→Act→World→Prop} {S:World→Prop} {au:List (Bool × Oper)} {E:dE} {w w':World} {o:Oper} {d:Nat} {v:Value}
variable {s A:aj} {os:List aj} {x y:Operand} {T:Bool}
theorem abD {f:FuncId} {args:Array Operand} {ats:Array TypeId} {l:List Value} {nx:Result Next} (ho:o.op = .call { callee:= .value (.func f),args:=args,argTypes:=ats }) (hl:jY E args.toList=some l)
  (h:(callFunc f l.toArray).run P w=nx) (ac:Act) (ha:At n E ac):(execOp ac.eval o).run P w=nx:=by
 have pQ:(args.map ac.eval)=l.toArray:=by
  rw[←Array.toArray_toList (xs:=args),List.map_toArray,ha.jY hl]
 have iZ:ac.eval (.func f) = .func (.func f) #[] #[]:=rfl
 unfold execOp
 simp only[ho]
 simp only[resolve,pQ,iZ,Deferred.ofValue,invoke,Sem.run_bind,Sem.run_pure,Result.andThen_ok,Array.append_empty,Array.empty_append,h]
theorem RL.ext {f:FuncId} {args:Array Operand} {ats:Array TypeId} {l:List Value} (hg:bR ops E o=some true) (hd:o.dst=some d) (hb:Nat.blt d n=true)
  (ho:o.op = .call { callee:= .value (.func f),args:=args,argTypes:=ats }) (hl:jY E args.toList=some l) (hc:(callFunc f l.toArray).run P w = .ok (.value v) w')
  (h:S w'∧RL P n ops Q S au ((d,v)::E) w'):RL P n ops Q S ((false,o)::au) E w :=
 RL.step hg hd hb (fun ac ha=>abD ho hl hc ac ha) h.1 h.2
end
end Go.Lw
namespace Go.Lw
open Go.Proofs
theorem aam {w:World} {s:aj} {os:List aj} {k:Nat} (hg:ak w s os) (hk:k*8≤140737488355328) :
  Calls Tryz.prog 124 #[.slice none 0 0,i64 (k:Nat)] w (aw w s os fun s' A v=>s'=s∧∃ a c,v = .slice a 0 c∧ib s' A a c []):=by
 refine enter (l:=[.slice none 0 0,i64 (k:Nat)]) Tryz.func124 rfl Tryz.ntmps124 rfl ?_
 refine go 4 ?_
 refine CW.seq (CW.seq (CW.plain ?_))
 refine go 3 ?_
 refine CW.test rfl (fun h=>by omega) (fun _=>CW.skip ?_)
 have hz:IntKind.i64.wrap 0=0:=by decide
 refine CW.cx (fun E w'=>∃ A a c,E=[(0,.slice a 0 c)]∧ak w' s (A::os)∧ar w w'∧ib s A a c []) ?_ ?_
 refine CW.seq (CW.plain ?_)
 refine go 2 ?_
 refine RL.cap rfl rfl rfl rfl bC.out rfl ?_
 refine go 2 ?_
 refine RL.sub rfl rfl rfl rfl rfl rfl (by simp[aq]) ?_
 refine go 8 ?_
 refine CW.test rfl (fun h=>?_) (fun h=>?_)
 have ng:0<k:=by omega
 refine go 1 ?_
 have e:((k:Nat):Int)-(((0:Nat):Int)-((0:Nat):Int))=((k:Nat):Int):=by omega
 rw[e]
 refine go 2 ?_
 refine RL.cap rfl rfl rfl rfl bC.out rfl ?_
 refine RL.AM 0 rfl rfl rfl rfl bC.out rfl rfl rfl (Nat.le_refl _) ?_
 refine go 1 ?_
 refine RL.SX (k:=0) (m:=k) (jx:=[]) rfl rfl rfl rfl bC.out fY.out Tryz.underlying3 (by decide) rfl rfl (fun w' _=>by simp[Builtin.firstCells]) (by omega) ng (by omega) (by decide) hg ?_
 rintro g w1 c' fJ gA aH aN
 refine go 3 ?_
 refine RL.AM 0 rfl rfl rfl rfl bC.out rfl rfl rfl (Nat.zero_le _) ?_
 refine go 2 ?_
 refine fun ac ha=>⟨[(0,.slice (some ⟨g,0,none⟩) 0 c')],ha.sub ⟨rfl,trivial⟩,_,_,_,rfl,aH,aN,.inr ⟨g,_,rfl,if_pos rfl,Nat.zero_le _,gA,?_,by simp[cF]⟩⟩
 simp only[Array.size_append,size_zeroCells,List.size_toArray,List.length_nil,List.length_cons]
 omega
 refine CW.skip ?_
 exact fun ac ha=>⟨[(0,.slice none 0 0)],ha.sub ⟨rfl,trivial⟩,aj.nil,none,0,rfl,hg.nil,ar.refl _,.inl ⟨rfl,rfl,rfl⟩⟩
 rintro E w2 ⟨A,a,c,rfl,aS,aR,lD⟩
 refine go 5 ?_
 exact CW.ret (ret (vs:=[_]) ⟨_,_,rfl,rfl,rfl⟩ (aw.mk (Le.refl _) aS aR ⟨rfl,a,c,rfl,lD⟩))
abbrev Sx:aj→List Value→List Int→Prop:=Mb (ax .i64) 1
theorem Uc {L:List (List Int)} {k:Nat} (hk:k<L.length):(L.take (k+1)).flatten=(L.take k).flatten++L[k]:=by
 rw[List.take_succ_eq_append_getElem hk,List.flatten_append];simp
theorem M4 {L:List (List Int)} (k:Nat):(L.take k).flatten.length≤L.flatten.length:=by
 conv=>rhs;rw[←List.take_append_drop k L,List.flatten_append,List.length_append]
 omega
theorem aah {w:World} {s:aj} {os:List aj} {L:List (List Int)} {la:Option Addr} {lc:Nat} (hg:ak w s os) (hL:bm Sx 1 s la lc L) (hb:L.flatten.length*8≤140737488355328) :
  Calls Tryz.prog 92 #[.slice la L.length lc] w (aw w s os fun s' A v=>s'=s∧∃ a c,v = .slice a L.flatten.length c∧ib s' A a c L.flatten):=by
 have bV:=hL.gL
 simp only[maxLen] at bV
 refine enter (l:=[.slice la L.length lc]) Tryz.func92 rfl Tryz.ntmps92 rfl ?_
 refine go 8 ?_
 refine CW.cx (fun E w'=>w'=w∧E=[(0,.slice la L.length lc),(3,i64 L.flatten.length)]) ?_ ?_
 refine CW.seq (CW.plain ?_)
 refine go 4 ?_
 refine CW.block (CW.loop (σ:=Nat) (fun j E w'=>w'=w∧∃ k:Nat,E=[(0,.slice la L.length lc),(3,i64 (L.take k).flatten.length),(9,.slice la L.length lc),(10,i64 L.length),(11,i64 k)]∧k+j=L.length)
  (fun j=>j) L.length [(0,.slice la L.length lc),(3,i64 (L.take 0).flatten.length),(9,.slice la L.length lc),(10,i64 L.length),(11,i64 0)] ⟨rfl,rfl,rfl,rfl,rfl,trivial⟩ ⟨rfl,0,rfl,by omega⟩ ?_)
 rintro j E w' ⟨rfl,k,rfl,hk⟩
 have hf:=M4 (L:=L) k
 have lV:=M4 (L:=L) (k+1)
 refine go 4 ?_
 refine CW.seq (CW.test rfl (fun h=>CW.skip ?_) (fun h=>CW.exit ?_))
 have cv:k<L.length:=by omega
 have uV:=Uc cv
 rw[uV,List.length_append] at lV
 refine CW.seq (CW.block (CW.seq (CW.plain ?_)))
 refine RL.cW rfl rfl rfl rfl Lm.out rfl rfl (hL) (by omega) ((by omega)) ?_
 rintro q vs eH hH ⟨xa,xc,rfl,vn⟩
 refine RL.load rfl rfl rfl rfl fq.out rfl (hH) (hg.sh) rfl ?_
 refine go 2 ?_
 have ek:L[((k:Nat):Int).toNat]'(by omega)=L[k]:=by simp
 rw[ek]
 refine go 13 ?_
 refine CW.test rfl (fun h=>by omega) (fun _=>CW.skip ?_)
 refine go 4 ?_
 cases j with
 | zero=>omega
 | succ j =>
  refine fun ac ha=>⟨j,[(0,.slice la L.length lc),(3,i64 (L.take (k+1)).flatten.length),(9,.slice la L.length lc),(10,i64 L.length),(11,i64 ((k:Int)+1))],ha.sub ⟨rfl,?_,rfl,rfl,rfl,trivial⟩,⟨rfl,k+1,rfl,by omega⟩,Nat.lt_succ_self j⟩
  rw[uV,List.length_append,Int.natCast_add]
  rfl
 have cv:k=L.length:=by omega
 subst cv
 exact fun ac ha=>⟨[(0,.slice la L.length lc),(3,i64 L.flatten.length)],ha.sub ⟨rfl,by rw[List.take_length];rfl,trivial⟩,rfl,rfl⟩
 rintro E w1 ⟨rfl,rfl⟩
 refine go 4 ?_
 refine zc (aam hg hb) ?_
 rintro v2 s2 A2 w2 jb aS aR ⟨rfl,a2,c2,rfl,mO⟩
 refine go 3 ?_
 refine CW.cx (fun E w'=>∃ A a c,E=[(6,.slice a L.flatten.length c)]∧ak w' s2 (A::os)∧ar w1 w'∧ib s2 A a c L.flatten) ?_ ?_
 refine CW.seq (CW.plain ?_)
 refine go 4 ?_
 refine CW.block (CW.loop (σ:=Nat) (fun j E w'=>∃ A a c,∃ k:Nat,E=[(6,.slice a (L.take k).flatten.length c),(25,.slice la L.length lc),(26,i64 L.length),(27,i64 k)]∧ak w' s2 (A::os)∧ar w1 w'∧ib s2 A a c (L.take k).flatten∧k+j=L.length)
  (fun j=>j) L.length [(6,.slice a2 (L.take 0).flatten.length c2),(25,.slice la L.length lc),(26,i64 L.length),(27,i64 0)] ⟨rfl,rfl,rfl,rfl,trivial⟩ ⟨A2,a2,c2,0,rfl,aS,aR,mO,by omega⟩ ?_)
 rintro j E w3 ⟨A3,a3,c3,k,rfl,aP,bw,tE,hk⟩
 have lV:=M4 (L:=L) (k+1)
 refine go 4 ?_
 refine CW.seq (CW.test rfl (fun h=>CW.skip ?_) (fun h=>CW.exit ?_))
 have cv:k<L.length:=by omega
 have uV:=Uc cv
 rw[uV,List.length_append] at lV
 refine CW.seq (CW.block (CW.seq (CW.plain ?_)))
 refine RL.cW rfl rfl rfl rfl Lm.out rfl rfl (hL) (by omega) ((by omega)) ?_
 rintro q vs eH hH ⟨xa,xc,rfl,vn⟩
 refine RL.load rfl rfl rfl rfl fq.out rfl (hH) (aP.sh) rfl ?_
 refine go 2 ?_
 have ek:L[((k:Nat):Int).toNat]'(by omega)=L[k]:=by simp
 rw[ek] at vn ⊢
 refine go 3 ?_
 obtain⟨bB,fe,cD⟩:=cU.row (c:=xc) bC.out vn.2.2 aP.sh
 refine RL.append (i:=0) (ys:=L[k]) rfl rfl rfl rfl bC.out fY.out rfl (by first | exact ax.one _ | exact pJ.one | exact pI.one | assumption) rfl rfl aP rfl tE (fe) (cD) ((by omega)) (by omega) ?_
 rintro a4 c4 A4 w4 bp agj bJ apA
 refine go 7 ?_
 cases j with
 | zero=>omega
 | succ j =>
  refine fun ac ha=>⟨j,[(6,.slice a4 (L.take (k+1)).flatten.length c4),(25,.slice la L.length lc),(26,i64 L.length),(27,i64 ((k:Int)+1))],ha.sub ⟨by rw[uV];rfl,rfl,rfl,rfl,trivial⟩,⟨A4,a4,c4,k+1,rfl,bp,bw.trans bJ,by rw[uV];exact agj,by omega⟩,Nat.lt_succ_self j⟩
 have cv:k=L.length:=by omega
 subst cv
 rw[List.take_length] at tE
 exact fun ac ha=>⟨[(6,.slice a3 L.flatten.length c3)],ha.sub ⟨by rw[List.take_length];rfl,trivial⟩,A3,a3,c3,rfl,aP,bw,tE⟩
 rintro E w5 ⟨A5,a5,c5,rfl,bh,bQ,ms⟩
 refine go 5 ?_
 exact CW.ret (ret (vs:=[_]) ⟨_,_,rfl,rfl,rfl⟩ (aw.mk (Le.refl _) bh bQ ⟨rfl,a5,c5,rfl,ms⟩))
theorem akt {s P:aj} {b:Nat} {xs ys:List Int} {xa ya:Option Addr} {xc yc:Nat} {el:TypeId} (hx:fD s xa xc xs) (hy:fD s ya yc ys) (hP:P b=some (.cells #[.slice xa xs.length xc,.slice ya ys.length yc] el (0,0))) (cg:Le P s) :
  bm Sx 1 s (some ⟨b,0,none⟩) 2 [xs,ys] :=
 ⟨by simp,by decide,.inr ⟨_,rfl,_,(Holds.of hP).le cg,[.slice xa xs.length xc],[.slice ya ys.length yc],rfl,rfl,⟨xa,xc,rfl,hx⟩,[.slice ya ys.length yc],[],rfl,rfl,⟨ya,yc,rfl,hy⟩,rfl⟩⟩
theorem Sf {w:World} {s P:aj} {os:List aj} {b:Nat} {xs ys:List Int} {xa ya:Option Addr} {xc yc:Nat} {el:TypeId} (hg:ak w s os) (hx:fD s xa xc xs) (hy:fD s ya yc ys) (hP:P b=some (.cells #[.slice xa xs.length xc,.slice ya ys.length yc] el (0,0))) (cg:Le P s)
  (hb:(xs.length+ys.length)*8≤140737488355328) :
  Calls Tryz.prog 92 #[.slice (some ⟨b,0,none⟩) 2 2] w (aw w s os fun s' A v=>s'=s∧∃ a c,v = .slice a (xs++ys).length c∧ib s' A a c (xs++ys)):=by
 have oy:[xs,ys].flatten=xs++ys:=by simp
 have h:=aah (L:=[xs,ys]) hg (akt hx hy hP cg) (by rw[oy,List.length_append];exact hb)
 rw[oy] at h
 exact h
theorem ajY {xs:List Int} (h:∀ j,(hj:j+1<xs.length)→xs[j]≤xs[j+1]):xs.Pairwise (· ≤ ·):=by
 rw[List.pairwise_iff_getElem]
 intro i j hi hj iE
 obtain⟨d,rfl⟩:∃ d,j=i+1+d:=⟨j-(i+1),by omega⟩
 induction d with
 | zero=>exact h i (by omega)
 | succ d ih =>
  have h1:=ih (by omega) (by omega)
  have h2:=h (i+1+d) (by omega)
  exact Int.le_trans h1 h2
theorem aat {w:World} {s:aj} {os:List aj} {xs:List Int} {xa:Option Addr} {xc:Nat} (hg:ak w s os) (hx:fD s xa xc xs) :
  Calls Tryz.prog 125 #[.slice xa xs.length xc] w (aQ w s os fun r=>r = .bool (decide (xs.Pairwise (· ≤ ·)))):=by
 have bV:=hx.gL
 simp only[maxLen] at bV
 have hrg:=hx.aq
 simp only[aq] at hrg
 refine enter (l:=[.slice xa xs.length xc]) Tryz.func125 rfl Tryz.ntmps125 rfl ?_
 refine go 4 ?_
 refine CW.seq (CW.seq (CW.plain ?_))
 refine go 5 ?_
 refine CW.block (CW.loop (σ:=Nat) (fun j E w'=>ak w' s os∧ar w w'∧∃ i:Int,E=[(0,.slice xa xs.length xc),(3,i64 i)]∧i<xs.length∧i.toNat≤j ∧ -1≤i∧∀ k,(hk:k+1<xs.length)→i≤k→xs[k]≤xs[k+1])
  (fun j=>j) xs.length [(0,.slice xa xs.length xc),(3,i64 ((xs.length:Int)-1))] ⟨rfl,rfl,trivial⟩ ⟨hg,ar.refl _,_,rfl,by omega,by omega,by omega,fun k hk h=>by omega⟩ ?_)
 rintro j E w1 ⟨aH,aN,i,rfl,hi,hj,VI,gx⟩
 refine CW.seq (CW.seq (CW.plain ?_))
 refine go 3 ?_
 refine CW.test rfl (fun h=>CW.skip ?_) (fun h=>CW.exit ?_)
 refine CW.seq (CW.block (CW.seq ?_))
 obtain⟨k,rfl⟩:∃ k:Nat,i=((k+1:Nat):Int):=⟨(i-1).toNat,by omega⟩
 have hk:k+1<xs.length:=by omega
 have fj:=aH.drew
 refine CW.iA [(true,0),(true,1),(true,2),(true,3),(true,4),(true,5),(true,6),(true,7),(true,8),(false,9)] (fun w=>ak w s os) mixed (by kernel_rfl) (by kernel_rfl) (by kernel_rfl) (by kernel_rfl) (fj) ?_
 refine go 2 ?_
 refine RL.cW rfl rfl rfl rfl bC.out rfl rfl (hx) (by omega) ((by omega)) ?_
 rintro q vs eH hH ⟨rfl,hr⟩
 refine RL.fV rfl rfl rfl rfl ey.out rfl (hH) (fun w h=>h.sh) rfl ?_
 refine go 3 ?_
 refine RL.cW rfl rfl rfl rfl bC.out rfl rfl (hx) (by omega) ((by omega)) ?_
 rintro q2 vs2 oE eS ⟨rfl,ph⟩
 refine RL.fV rfl rfl rfl rfl ey.out rfl (eS) (fun w h=>h.sh) rfl ?_
 refine go 1 ?_
 refine zw (Sn fj) ?_
 rintro v2 w2 aS aR rfl
 refine⟨aS,?_⟩
 have e1:xs[((k+1:Nat):Int).toNat]'(by omega)=xs[k+1]:=by simp
 have e2:xs[(((k+1:Nat):Int)-1).toNat]'(by omega)=xs[k]:=by
  congr 1;omega
 rw[e1,e2]
 refine go 1 ?_
 refine CW.test rfl (fun hc=>?_) (fun hc=>?_)
 refine CW.seq (CW.plain ?_)
 refine go 2 ?_
 have bW:¬ xs.Pairwise (· ≤ ·):=fun hp=>by
  have:=List.pairwise_iff_getElem.1 hp k (k+1) (by omega) hk (by omega)
  omega
 exact CW.ret (ret (vs:=[_]) ⟨_,_,rfl,rfl,rfl⟩ (aQ.mk aS (aN.trans ((ar.drew _).trans aR)) (by rw[decide_eq_false bW];rfl)))
 refine CW.skip (CW.plain ?_)
 refine go 4 ?_
 cases j with
 | zero=>omega
 | succ j =>
  refine fun ac ha=>⟨j,[(0,.slice xa xs.length xc),(3,i64 (((k+1:Nat):Int)-1))],ha.sub ⟨rfl,rfl,trivial⟩,⟨aS,aN.trans ((ar.drew _).trans aR),_,rfl,by omega,by omega,by omega,fun m hm cg=>?_⟩,Nat.lt_succ_self j⟩
  by_cases Hf:m=k
  subst Hf;omega
  exact gx m hm (by omega)
 refine CW.seq (CW.plain ?_)
 refine go 2 ?_
 have rz:xs.Pairwise (· ≤ ·):=ajY (fun k hk=>gx k hk (by omega))
 exact CW.ret (ret (vs:=[_]) ⟨_,_,rfl,rfl,rfl⟩ (aQ.mk aH aN (by rw[decide_eq_true rz];rfl)))
end Go.Lw
namespace Go.Lw
open Go.Proofs
theorem aiL {w:World} {s A V:aj} {os:List aj} {g vb l m1 c1 m2 c2:Nat} {cs vs:Array Value} {el el2:TypeId} (hg:ak w s (A::os)) (hA:A g=some (.cells cs el (0,0))) (hV:V∈os) (hv:V vb=some (.cells vs el2 (0,0))) (dr:cs.size≠0) :
  (callFunc 175 #[.slice (some ⟨vb,0,none⟩) m1 c1,.slice (some ⟨g,l,none⟩) m2 c2]).run Tryz.prog w = .ok (.value (.bool false)) w:=by
 have bH:vb≠g:=fun e=>by
  have h1:=hg.2.2.1 V hV g (by rw[hA];simp)
  rw[e,h1] at hv;cases hv
 have wD:=hg.1 g _ hA
 have Qk:=hg.drop.mem hV vb _ hv
 rw[run_callFunc_extern Tryz.func175 (by kernel_rfl) (by kernel_rfl) (by kernel_rfl) (e:=Extern.SlicesOverlaps.overlaps #[25,25] #[4]) (by kernel_rfl),
  Lib.run_overlaps_apart w 25 4 3 Tryz.underlying25 1 Tryz.sizeOf3 ⟨vb,0,none⟩ ⟨g,l,none⟩ m1 c1 m2 c2 bH el2 el vs.size cs.size (by simp[World.shape?,Qk]) (by simp[World.shape?,wD]) dr (by simp[World.frozen?,Qk]) (by simp[World.frozen?,Qk])]
 rfl
theorem Yq {cs:Array Value} {xs:List Int} {i:Nat} (h:cs.toList.take xs.length=xs.map (Value.int .i64)) (hi:i≤xs.length):cs.toList.take i=(xs.take i).map (Value.int .i64):=by
 have:=congrArg (List.take i) h
 rwa[List.take_take,Nat.min_eq_left hi,← List.map_take] at this
theorem ajs {cs:Array Value} {xs:List Int} {i:Nat} (h:cs.toList.take xs.length=xs.map (Value.int .i64)):(cs.toList.take xs.length).drop i=(xs.drop i).map (Value.int .i64):=by
 rw[h,← List.map_drop]
theorem aas {w:World} {s A V:aj} {os:List aj} {xs:List Int} {a:Option Addr} {c i vb:Nat} {v:Int} (hg:ak w s (A::os)) (ho:ib s A a c xs) (hV:V∈os) (hv:V vb=some (.cells #[i64 v] 3 (0,0))) (hi:i≤xs.length) (hb:(xs.length+1)*8≤140737488355328) (Ww:aq .i64 v) :
  Calls Tryz.prog 160 #[.slice a xs.length c,i64 (i:Nat),.slice (some ⟨vb,0,none⟩) 1 1] w
   (aw w s os fun s' A' r=>s'=s∧∃ a' c',r = .slice a' (xs.take i++v::xs.drop i).length c'∧ib s' A' a' c' (xs.take i++v::xs.drop i)):=by
 have El:=ho.EP
 have ox:=ho.gL
 have Ku:∀ x∈xs,aq .i64 x:=by
  rcases ho with ⟨_,_,rfl⟩ | ⟨g,cs,_,_,_,_,_,cD⟩
  simp
  exact (HV cD).2
 have V8:∀ x∈xs.take i++v::xs.drop i,aq .i64 x:=fun x hx=>by
  rcases List.mem_append.1 hx with hx | hx
  exact Ku x (List.mem_of_mem_take hx)
  rcases List.mem_cons.1 hx with rfl | hx
  exact Ww
  exact Ku x (List.mem_of_mem_drop hx)
 have bV:(xs.take i++v::xs.drop i).length=xs.length+1:=by simp only[List.length_append,List.length_cons,List.length_take,List.length_drop];omega
 have NP:Holds V ⟨vb,0,none⟩ [i64 v]:=Holds.of hv
 have c0:∀ w',(Builtin.lenOf (.slice (some ⟨vb,0,none⟩) 1 1)).run Tryz.prog w' = .ok 1 w':=fun w'=>by simp[Builtin.lenOf]
 refine enter (l:=[.slice a xs.length c,i64 (i:Nat),.slice (some ⟨vb,0,none⟩) 1 1]) Tryz.func160 rfl Tryz.ntmps160 rfl ?_
 refine go 8 ?_
 refine RL.cut i xs.length rfl rfl rfl rfl bC.out rfl (.inr ⟨_,_,rfl,rfl⟩) (.inl ⟨rfl,rfl⟩) hi El ?_
 refine go 7 ?_
 refine CW.seq (CW.seq (CW.plain ?_))
 refine go 3 ?_
 refine CW.no rfl (CW.skip ?_)
 refine go 6 ?_
 refine CW.seq (CW.seq (CW.plain ?_))
 refine go 4 ?_
 refine CW.eq rfl (fun he=>?_) (fun he=>?_)
 have hie:i=xs.length:=by omega
 subst hie
 refine go 4 ?_
 refine RL.append (i:=0) (ys:=[v]) rfl rfl rfl rfl bC.out fY.out rfl (by first | exact ax.one _ | exact pJ.one | exact pI.one | assumption) rfl rfl hg rfl ho ((cU.slice bC.out rfl (.inr ⟨_,rfl,NP⟩) (hg.drop.mem hV))) ((EM (k:= .i64) (xs:=[v]) (by simpa using Ww))) ((by simpa using hb)) (by omega) ?_
 rintro a1 c1 A1 w1 aH agi aN mo
 refine go 3 ?_
 have e:xs.take xs.length++v::xs.drop xs.length=xs++[v]:=by simp
 rw[e]
 exact CW.ret (ret (vs:=[_]) ⟨_,_,rfl,rfl,rfl⟩ (aw.mk (Le.refl _) aH aN ⟨rfl,a1,c1,rfl,agi⟩))
 have be:i<xs.length:=by omega
 refine go 1 ?_
 rcases ho with ⟨_,_,rfl⟩ | ⟨g,cs,rfl,hA,hl,hc,dr,cD⟩
 simp at be
 obtain⟨JU,_⟩:=HV cD
 simp only[Nat.mul_one] at JU dr
 have Oq:cs.toList.length=cs.size:=Array.length_toList
 have pi:=ajs (i:=i) JU
 have GG:(xs.drop i).length=xs.length-i:=List.length_drop
 have Wb:Holds A ⟨g,i,none⟩ ((xs.drop i).map (Value.int .i64)):=⟨cs,3,(0,0),hA,rfl,fun j u hu=>by
  rw[←pi,List.getElem?_drop,List.getElem?_take] at hu
  split at hu
  simpa using hu
  cases hu⟩
 have ky:∀ ys:List Int,∀ z∈ys.map (Value.int .i64),z.oneCell'=true:=fun ys z hz=>by
  obtain⟨y,_,rfl⟩:=List.mem_map.1 hz;rfl
 refine CW.seq (CW.seq (CW.plain ?_))
 refine go 4 ?_
 refine RL.cap rfl rfl rfl rfl bC.out rfl ?_
 refine go 2 ?_
 refine CW.test rfl (fun iF=>?_) (fun iF=>?_)
 -- no room: a new row
 have iF:c<xs.length+1:=by omega
 refine go 2 ?_
 have e39:((xs.length:Nat):Int)+((1:Nat):Int)-((i:Nat):Int)=((xs.length+1-i:Nat):Int):=by omega
 have qx:i+(xs.length+1-i)=xs.length+1:=by omega
 refine go 2 ?_
 refine RL.AM i rfl rfl rfl rfl bC.out rfl rfl rfl (by omega) ?_
 refine go 5 ?_
 rw[e39]
 refine RL.SX (k:=i) (m:=xs.length+1-i) (jx:=(xs.take i).map (Value.int .i64)) rfl rfl rfl rfl bC.out fY.out Tryz.underlying3 (by decide) rfl rfl (fun w' Qi=>?_) (by omega) (by omega) (by rw[qx];exact hb) (by decide) hg ?_
 refine Ig (r:=A) ⟨cs,3,(0,0),hA,rfl,fun j u hu=>?_⟩ (fun b x hx=>by rw[Qi];exact hg.1 b x hx) (by rw[List.length_map,List.length_take];omega)
 rw[←Yq JU hi,List.getElem?_take] at hu
 split at hu
 simpa using hu
 cases hu
 rintro g2 w2 c2 fJ gA aS aR
 rw[qx]
 refine go 3 ?_
 obtain⟨N,hN⟩:∃ N,N=((xs.take i).map (Value.int .i64)).toArray++Builtin.zeroCells #[i64 0] (xs.length+1-i)++Builtin.zeroCells #[i64 0] (c2-(i+(xs.length+1-i))):=⟨_,rfl⟩
 have Gd:N.size=c2:=by rw[hN];simp only[Array.size_append,List.size_toArray,List.length_map,List.length_take,size_zeroCells,List.length_cons,List.length_nil];omega
 have hNt:N.toList.take i=(xs.take i).map (Value.int .i64):=by
  rw[hN];simp only[Array.toList_append,List.append_assoc]
  exact List.take_left' (by rw[List.length_map,List.length_take];omega)
 have hNN:(Builtin.zeroCells [i64 0].toArray=Builtin.zeroCells #[i64 0]):=rfl
 rw[show (((xs.take i).map (Value.int .i64)).toArray++Builtin.zeroCells [Value.int .i64 0].toArray (xs.length+1-i)++Builtin.zeroCells [Value.int .i64 0].toArray (c2-(i+(xs.length+1-i))))=N from hN.symm] at aS
 have wx:N.toList.length=N.size:=Array.length_toList
 refine go 4 ?_
 refine RL.AO i rfl rfl rfl rfl bC.out rfl rfl rfl (by omega) (by omega) (by omega) ?_
 refine go 1 ?_
 refine RL.copy 1 (i:=0) (m:=1) (bB:=[i64 v]) rfl rfl rfl rfl bC.out rfl rfl c0 (Nat.min_eq_left (by omega)) ?_ aS rfl (if_pos rfl) (by rw[Gd];simp only[List.length_cons,List.length_nil];omega) (by simp[Value.oneCell']) ?_
 exact Ig NP (aS.drop.drop.mem hV) rfl
 rintro w3 aP bw
 refine go 2 ?_
 have NM:=dq (aj.one g2 (.cells N 3)) g2 (.cells (l9 N (0+i*1) [i64 v]) 3 (0,0))
 have nW:(l9 N (0+i*1) [i64 v]).size=N.size:=Fi (by simp only[List.length_cons,List.length_nil];omega)
 refine go 1 ?_
 have fj:=aP.drew
 have e49:((i:Nat):Int)+((1:Nat):Int)=((i+1:Nat):Int):=by omega
 refine CW.dw [1,3,5,7,9,11,13,15,16] (fun w=>True) ?_
 refine go 4 ?_
 rw[e49]
 refine RL.AO (i+1) rfl rfl rfl rfl bC.out rfl rfl rfl (by omega) (by omega) (by omega) ?_
 refine go 2 ?_
 refine RL.AO i rfl rfl rfl rfl bC.out rfl rfl rfl (by omega) (by omega) (by omega) ?_
 refine RL.copy (xs.length-i) (i:=0) (m:=xs.length-i) (bB:=(xs.drop i).map (Value.int .i64)) rfl rfl rfl rfl bC.out rfl rfl (fun w'=>by simp[Builtin.lenOf]) (Nat.min_eq_left (by omega)) ?_ fj rfl NM (by rw[nW,Gd,List.length_map];omega) (ky _) ?_
 exact Ig (by simpa using Wb) fj.drop.1 (by rw[List.length_map];omega)
 rintro w4 bp bJ
 refine go 7 ?_
 refine CW.ret (ret (vs:=[_]) ⟨_,_,rfl,rfl,rfl⟩ (aw.mk (Le.refl _) bp.aE (aR.trans (bw.trans ((ar.drew _).trans bJ))) ⟨rfl,some ⟨g2,0,none⟩,c2,by rw[bV];rfl,.inr ⟨g2,_,rfl,dq _ _ _,by rw[bV];omega,gA,?_,?_⟩⟩))
 rw[Fi (by rw[nW,Gd,List.length_map];omega),nW,Gd,Nat.mul_one]
 have eB:=aj0 (N:=N) (i:=i) (a:=i64 v) (r:=(xs.drop i).map (Value.int .i64)) (by rw[Gd,List.length_map];omega)
 rw[hNt] at eB
 simp only[Nat.zero_add,Nat.mul_one,bV]
 rw[List.length_map,show i+1+(xs.drop i).length=xs.length+1 by omega] at eB
 rw[eB]
 have:=FS (s:=s) V8
 simpa using this
 -- in lG
 have iF:xs.length+1≤c:=by omega
 refine CW.skip (CW.seq (CW.plain ?_))
 have e59:((xs.length:Nat):Int)+((1:Nat):Int)=((xs.length+1:Nat):Int):=by omega
 have e65:((i:Nat):Int)+((1:Nat):Int)=((i+1:Nat):Int):=by omega
 refine go 4 ?_
 rw[e59]
 refine RL.AM (xs.length+1) rfl rfl rfl rfl bC.out rfl rfl rfl iF ?_
 refine go 2 ?_
 refine CW.seq (CW.seq (CW.plain ?_))
 refine go 5 ?_
 rw[e65]
 refine RL.cut (i+1) (xs.length+1) rfl rfl rfl rfl bC.out rfl (.inr ⟨_,_,rfl,rfl⟩) (.inl ⟨rfl,rfl⟩) (by omega) (by omega) ?_
 rw[if_neg (show ¬ c=i+1 by omega),Option.map_some,aa1]
 refine RL.ext rfl rfl rfl rfl rfl (aiL hg hA hV hv (by omega)) ⟨trivial,?_⟩
 refine go 2 ?_
 refine CW.dZ rfl ?_
 refine go 1 ?_
 have fj:=hg.drew
 refine CW.dw [1,3,5,7,9,11,13,15,16] (fun w=>True) ?_
 refine go 4 ?_
 rw[e65]
 refine RL.AO (i+1) rfl rfl rfl rfl bC.out rfl rfl rfl (by omega) (by omega) (by omega) ?_
 refine go 2 ?_
 refine RL.AO i rfl rfl rfl rfl bC.out rfl rfl rfl (by omega) (by omega) (by omega) ?_
 refine RL.copy (xs.length-i) (i:=0) (m:=xs.length+1-i) (bB:=(xs.drop i).map (Value.int .i64)) rfl rfl rfl rfl bC.out rfl rfl (fun w'=>by simp[Builtin.lenOf]) ((Nat.min_eq_right (by omega)).trans (by omega)) ?_ fj rfl hA (by rw[List.length_map];omega) (ky _) ?_
 exact Ig (by simpa using Wb) fj.1 (by rw[List.length_map];omega)
 rintro w3 aP bw
 refine go 2 ?_
 have NM:=dq A g (.cells (l9 cs (0+(i+1)*1) ((xs.drop i).map (Value.int .i64))) 3 (0,0))
 have nW:(l9 cs (0+(i+1)*1) ((xs.drop i).map (Value.int .i64))).size=cs.size:=Fi (by rw[List.length_map];omega)
 refine go 4 ?_
 refine RL.AO i rfl rfl rfl rfl bC.out rfl rfl rfl (by omega) (by omega) (by omega) ?_
 refine go 1 ?_
 refine RL.copy 1 (i:=0) (m:=1) (bB:=[i64 v]) rfl rfl rfl rfl bC.out rfl rfl c0 (Nat.min_eq_left (by omega)) ?_ aP rfl NM (by rw[nW];simp only[List.length_cons,List.length_nil];omega) (by simp[Value.oneCell']) ?_
 exact Ig NP (aP.drop.mem hV) rfl
 rintro w4 bp bJ
 refine go 7 ?_
 refine CW.ret (ret (vs:=[_]) ⟨_,_,rfl,rfl,rfl⟩ (aw.mk (Le.refl _) bp ((ar.drew _).trans (bw.trans bJ)) ⟨rfl,some ⟨g,0,none⟩,c,by rw[bV];rfl,.inr ⟨g,_,rfl,dq _ _ _,by rw[bV];exact iF,hc,?_,?_⟩⟩))
 rw[Fi (by rw[nW];simp only[List.length_cons,List.length_nil];omega),nW,dr,Nat.mul_one]
 have eB:=ajZ (N:=cs) (i:=i) (a:=i64 v) (r:=(xs.drop i).map (Value.int .i64)) (by rw[List.length_map];omega)
 rw[Yq JU hi] at eB
 simp only[Nat.zero_add,Nat.mul_one,bV]
 rw[List.length_map,show i+1+(xs.drop i).length=xs.length+1 by omega] at eB
 rw[eB]
 have:=FS (s:=s) V8
 simpa using this
end Go.Lw
namespace Go.Lw
open Go.Proofs
def nm (n:Int):Bool:=decide (1≤n∧n≤7)
def pC (xs:List Int):Bool:=decide (xs.Pairwise (· < ·))
def eg (c:aY):Int :=
 if (c.av++c.aD).any (fun n=> !nm n)=true then 81
 else if pC c.av=false∨pC c.aD=false then 1
 else if c.av.any (fun n=>decide (n∈c.aD))=true then 82
 else if c.av.length=0 then 84
 else 0
def aY.ic (c:aY):Prop:=(c.av.length+c.aD.length+1)*8≤140737488355328
theorem abY {xs:List Int} (hs:xs.Pairwise (· ≤ ·)):(Lib.compact xs).length=xs.length↔xs.Pairwise (· < ·):=by
 simp only[Lib.compact,Lib.compactUpTo,List.length_map]
 constructor
 intro h
 have h0:((List.range xs.length).filter (Lib.keeps xs.toArray)).length=(List.range xs.length).length:=by rw[h,List.length_range]
 have gx:=List.length_filter_eq_length_iff.1 h0
 have tI:∀ k,(hk:k+1<xs.length)→xs[k]<xs[k+1]:=fun k hk=>by
  have h1:=gx (k+1) (List.mem_range.2 hk)
  have h2:xs[k+1]≠xs[k]:=by
   have:k<xs.length:=by omega
   simpa [Lib.keeps,hk,this] using h1
  have h3:=List.pairwise_iff_getElem.1 hs k (k+1) (by omega) hk (by omega)
  omega
 rw[List.pairwise_iff_getElem]
 intro i j hi hj iE
 obtain⟨d,rfl⟩:∃ d,j=i+1+d:=⟨j-(i+1),by omega⟩
 induction d with
 | zero=>exact tI i (by omega)
 | succ d ih =>
  have h1:=ih (by omega) (by omega)
  have h2:=tI (i+1+d) (by omega)
  exact Int.lt_trans h1 h2
 intro h
 have gx:∀ i∈List.range xs.length,Lib.keeps xs.toArray i=true:=fun i hi=>by
  have hi:=List.mem_range.1 hi
  by_cases h0:i=0
  simp[Lib.keeps,h0]
  have h1:i-1<xs.length:=by omega
  have h2:=List.pairwise_iff_getElem.1 h (i-1) i h1 hi (by omega)
  simp[Lib.keeps,h0,hi,h1]
  omega
 have h2:=List.length_filter_eq_length_iff.2 gx
 rw[h2,List.length_range]
theorem Ym {w:World} {s:aj} {os:List aj} {n:Int} (hg:ak w s os):Calls Tryz.prog 94 #[i64 n] w (aQ w s os fun r=>r = .bool (nm n)):=by
 refine enter (l:=[i64 n]) Tryz.func94 rfl Tryz.ntmps94 rfl ?_
 refine go 9 ?_
 refine RL.part 5 rfl (fun h=>?_) (fun h=>?_)
 have h:n≥1:=of_decide_eq_true h
 refine go 5 ?_
 exact CW.ret (ret (vs:=[_]) ⟨_,_,rfl,rfl,rfl⟩ (aQ.mk hg (ar.refl _) (congrArg Value.bool (by simp only[nm];exact decide_eq_decide.2 ⟨fun h2=>⟨h,h2⟩,fun h2=>h2.2⟩))))
 have h:¬ n≥1:=of_decide_eq_false h
 refine go 5 ?_
 exact CW.ret (ret (vs:=[_]) ⟨_,_,rfl,rfl,rfl⟩ (aQ.mk hg (ar.refl _) (congrArg Value.bool (by rw[nm,decide_eq_false (fun h2=>h h2.1)]))))
theorem SF {w:World} {s:aj} {os:List aj} {vs:List Value} {c:aY} {n:Int} (hg:ak w s os) (hc:fH s vs c) :
  Calls Tryz.prog 139 #[.agg vs.toArray,i64 n] w (aQ w s os fun r=>r = .bool (decide (n∈c.av))):=by
 obtain⟨a,ac,b,bc,rfl,i1,i2⟩:=hc
 refine enter (l:=[.agg #[.slice a c.av.length ac,.slice b c.aD.length bc],i64 n]) Tryz.func139 rfl Tryz.ntmps139 rfl ?_
 refine go 2 ?_
 refine RL.box rfl rfl rfl rfl rfl hg ?_
 rintro p w1 aH aN
 refine go 6 ?_
 refine RL.load rfl rfl rfl rfl fq.out rfl (Holds.one p _ 27) (aH.1) rfl ?_
 refine go 2 ?_
 refine zw (IW aH i1) ?_
 rintro v2 w2 aS aR rfl
 refine go 3 ?_
 exact CW.ret (ret (vs:=[_]) ⟨_,_,rfl,rfl,rfl⟩ (aQ.mk aS.drop (aN.trans aR) rfl))
theorem Sk {w:World} {s:aj} {os:List aj} {vs:List Value} {c:aY} {n:Int} (hg:ak w s os) (hc:fH s vs c) :
  Calls Tryz.prog 97 #[.agg vs.toArray,i64 n] w (aQ w s os fun r=>r = .bool (decide (n∈c.aD))):=by
 obtain⟨a,ac,b,bc,rfl,i1,i2⟩:=hc
 refine enter (l:=[.agg #[.slice a c.av.length ac,.slice b c.aD.length bc],i64 n]) Tryz.func97 rfl Tryz.ntmps97 rfl ?_
 refine go 2 ?_
 refine RL.box rfl rfl rfl rfl rfl hg ?_
 rintro p w1 aH aN
 refine go 6 ?_
 refine RL.load (j:=1) rfl rfl rfl rfl fq.out rfl (Holds.one p _ 27) (aH.1) rfl ?_
 refine go 2 ?_
 refine zw (IW aH i2) ?_
 rintro v2 w2 aS aR rfl
 refine go 3 ?_
 exact CW.ret (ret (vs:=[_]) ⟨_,_,rfl,rfl,rfl⟩ (aQ.mk aS.drop (aN.trans aR) rfl))
theorem Yo {w:World} {s:aj} {os:List aj} {xs:List Int} {xa:Option Addr} {xc:Nat} (hg:ak w s os) (hx:fD s xa xc xs) (hb:xs.length*8≤140737488355328) :
  Calls Tryz.prog 95 #[.slice xa xs.length xc] w (aQ w s os fun r=>r = .bool (pC xs)):=by
 refine enter (l:=[.slice xa xs.length xc]) Tryz.func95 rfl Tryz.ntmps95 rfl ?_
 refine go 8 ?_
 refine zw (aat hg hx) ?_
 rintro v1 w1 aH aN rfl
 refine go 2 ?_
 refine RL.part 5 rfl (fun h=>?_) (fun h=>?_)
 have hs:xs.Pairwise (· ≤ ·):=of_decide_eq_true h
 refine go 2 ?_
 refine zc (sZ aH (.inl rfl) hx.2.2 hb) ?_
 rintro v2 s2 A2 w2 jb aS aR ⟨rfl,a2,c2,rfl,mO⟩
 refine go 2 ?_
 refine zc (Sd aS mO) ?_
 rintro v3 s3 A3 w3 cO aP bw ⟨rfl,rfl,tE⟩
 refine go 8 ?_
 refine CW.ret (ret (vs:=[_]) ⟨_,_,rfl,rfl,rfl⟩ (aQ.mk aP.drop (aN.trans (aR.trans bw)) (congrArg Value.bool ?_)))
 rw[pC,Bool.eq_iff_iff]
 have:=abY hs
 simp only[beq_iff_eq,decide_eq_true_eq]
 rw[←this]
 omega
 have hs:¬ xs.Pairwise (· ≤ ·):=of_decide_eq_false h
 refine go 10 ?_
 exact CW.ret (ret (vs:=[_]) ⟨_,_,rfl,rfl,rfl⟩ (aQ.mk aH aN (congrArg Value.bool (by rw[pC,decide_eq_false (fun h2=>hs (h2.imp (fun h3=>Int.le_of_lt h3)))]))))
theorem aiy {s:aj}:xl Tryz.prog 93 #[] s (fun n=> !nm n):=fun n w s' os _ hg=>by
 show Calls Tryz.prog 93 #[i64 n] w _
 refine enter (l:=[i64 n]) Tryz.func93 rfl Tryz.ntmps93 rfl ?_
 refine go 8 ?_
 refine zw (Ym hg) ?_
 rintro v1 w1 aH aN rfl
 refine go 4 ?_
 exact CW.ret (ret (vs:=[_]) ⟨_,_,rfl,rfl,rfl⟩ (aQ.mk aH aN rfl))
theorem ahF {s:aj} {vs:List Value} {c:aY} {b:Nat} (hc:fH s vs c) (hb:Holds s ⟨b,0,none⟩ vs):xl Tryz.prog 96 #[ptr b] s (fun n=>decide (n∈c.aD)):=fun n w s' os hl hg=>by
 show Calls Tryz.prog 96 #[i64 n,ptr b] w _
 have hb:=hb.le hl
 have Of:=fH.up _ _ _ _ hl hc
 obtain⟨a,ac,b',bc,rfl,i1,i2⟩:=hc
 refine enter (l:=[i64 n,ptr b]) Tryz.func96 rfl Tryz.ntmps96 rfl ?_
 refine go 6 ?_
 refine RL.gX (j:=0) (us:=[.slice a c.av.length ac,.slice b' c.aD.length bc]) rfl rfl rfl rfl iR.out rfl (hb) (hg.sh) rfl rfl ?_
 refine go 2 ?_
 refine zw (Sk hg Of) ?_
 rintro v1 w1 aH aN rfl
 refine go 3 ?_
 exact CW.ret (ret (vs:=[_]) ⟨_,_,rfl,rfl,rfl⟩ (aQ.mk aH aN rfl))
theorem IU {w:World} {s:aj} {os:List aj} {vs:List Value} {c:aY} (hg:ak w s os) (hc:fH s vs c) (hb:c.ic) :
  Calls Tryz.prog 60 #[.agg vs.toArray] w (aw w s os fun _ _ r=>r=i64 (eg c)):=by
 have iK:=hc
 simp only[aY.ic] at hb
 obtain⟨a,ac,b,bc,rfl,i1,i2⟩:=hc
 refine enter (l:=[.agg #[.slice a c.av.length ac,.slice b c.aD.length bc]]) Tryz.func60 rfl Tryz.ntmps60 rfl ?_
 refine go 2 ?_
 refine RL.box rfl rfl rfl rfl rfl hg ?_
 rintro p w1 aH aN
 refine go 3 ?_
 obtain⟨s1,aH,eu,iq⟩:=ak.bY aH
 have hH:Holds s1 ⟨p,0,none⟩ [.slice a c.av.length ac,.slice b c.aD.length bc]:=(Holds.one p _ _).le iq
 have i1:=i1.up (ax.up _) eu
 have i2:=i2.up (ax.up _) eu
 have fJ:=fH.up _ _ _ _ eu iK
 refine CW.seq (CW.block (CW.seq (CW.plain ?_)))
 refine go 1 ?_
 refine RL.load (j:=0) rfl rfl rfl rfl fq.out rfl (hH) (aH.sh) rfl ?_
 refine go 1 ?_
 refine RL.load (j:=1) rfl rfl rfl rfl fq.out rfl (hH) (aH.sh) rfl ?_
 refine RL.buildSlice rfl rfl rfl rfl Lm.out ZJ.out rfl rfl rfl rfl aH ?_
 rintro p2 w2 aS aR
 refine go 1 ?_
 obtain⟨s3,aP,cO,PI⟩:=ak.bY aS
 refine go 1 ?_
 refine zc (Sf aP (i1.up (ax.up _) cO) (i2.up (ax.up _) cO) (if_pos rfl) PI (by omega)) ?_
 rintro v4 s4 A4 w4 fL bp bJ ⟨rfl,a4,c4,rfl,rl⟩
 refine go 1 ?_
 obtain⟨s5,bh,dz,uF⟩:=ak.bY bp
 have gU:=rl.ci (ax.up _) dz uF
 have BQ:=cO.trans dz
 refine go 1 ?_
 refine zw (Sh bh gU abB.out aiy) ?_
 rintro v6 w6 bx bM rfl
 refine go 3 ?_
 have mR:=aN.trans (aR.trans (bJ.trans bM))
 have hH:=hH.le BQ
 have i1:=i1.up (ax.up _) BQ
 have i2:=i2.up (ax.up _) BQ
 have hl:=eu.trans BQ
 refine CW.cond rfl (fun fu=>?_) (fun fu=>?_)
 refine CW.seq (CW.plain ?_)
 refine go 2 ?_
 exact CW.ret (ret (vs:=[_]) ⟨_,_,rfl,rfl,rfl⟩ (aw.mk hl bx.nil mR (by rw[eg,if_pos fu];rfl)))
 refine go 3 ?_
 refine RL.load (j:=0) rfl rfl rfl rfl fq.out rfl (hH) (bx.sh) rfl ?_
 refine go 1 ?_
 refine zw (Yo bx i1 (by omega)) ?_
 rintro v7 w7 bO cj rfl
 refine go 3 ?_
 have Wz:=mR.trans cj
 refine RL.part 16 rfl (fun h=>?_) (fun h=>?_)
 refine RL.pass rfl rfl rfl ?_
 refine go 6 ?_
 refine CW.dZ rfl (CW.seq (CW.plain ?_))
 refine go 2 ?_
 exact CW.ret (ret (vs:=[_]) ⟨_,_,rfl,rfl,rfl⟩ (aw.mk hl bO.nil Wz (by rw[eg,if_neg (by rw[fu];decide),if_pos (.inl (by simpa using h))];rfl)))
 have zQ:pC c.av=true:=by simpa using h
 refine go 1 ?_
 refine RL.load (j:=1) rfl rfl rfl rfl fq.out rfl (hH) (bO.sh) rfl ?_
 refine go 1 ?_
 refine zw (Yo bO i2 (by omega)) ?_
 rintro v8 w8 bD cM rfl
 refine go 5 ?_
 have kS:=Wz.trans cM
 refine CW.cond rfl (fun h2=>?_) (fun h2=>?_)
 refine CW.seq (CW.plain ?_)
 refine go 2 ?_
 exact CW.ret (ret (vs:=[_]) ⟨_,_,rfl,rfl,rfl⟩ (aw.mk hl bD.nil kS (by rw[eg,if_neg (by rw[fu];decide),if_pos (.inr (by simpa using h2))];rfl)))
 have ph:pC c.aD=true:=by simpa using h2
 refine go 3 ?_
 refine RL.load (j:=0) rfl rfl rfl rfl fq.out rfl (hH) (bD.sh) rfl ?_
 refine RL.tO rfl rfl rfl rfl rfl ?_
 refine go 1 ?_
 refine zw (Sh bD i1 abC.out (ahF (fH.up _ _ _ _ BQ fJ) hH)) ?_
 rintro v9 w9 bA cu rfl
 refine go 3 ?_
 have Qn:=kS.trans cu
 have bW:¬ (pC c.av=false∨pC c.aD=false):=by rw[zQ,ph];simp
 refine CW.cond rfl (fun h3=>?_) (fun h3=>?_)
 refine CW.seq (CW.plain ?_)
 refine go 2 ?_
 exact CW.ret (ret (vs:=[_]) ⟨_,_,rfl,rfl,rfl⟩ (aw.mk hl bA.nil Qn (by rw[eg,if_neg (by rw[fu];decide),if_neg bW,if_pos h3];rfl)))
 refine go 3 ?_
 refine RL.load (j:=0) rfl rfl rfl rfl fq.out rfl (hH) (bA.sh) rfl ?_
 refine go 4 ?_
 refine CW.eq rfl (fun h4=>?_) (fun h4=>?_)
 refine CW.seq (CW.plain ?_)
 refine go 2 ?_
 exact CW.ret (ret (vs:=[_]) ⟨_,_,rfl,rfl,rfl⟩ (aw.mk hl bA.nil Qn (by rw[eg,if_neg (by rw[fu];decide),if_neg bW,if_neg (by rw[h3];decide),if_pos (by omega)];rfl)))
 refine CW.skip (CW.seq (CW.plain ?_))
 refine go 2 ?_
 exact CW.ret (ret (vs:=[_]) ⟨_,_,rfl,rfl,rfl⟩ (aw.mk hl bA.nil Qn (by rw[eg,if_neg (by rw[fu];decide),if_neg bW,if_neg (by rw[h3];decide),if_neg (by omega)];rfl)))
end Go.Lw
namespace Go.Lw
open Go.Proofs
def lp (n:Int) (l:List Int):List Int:=l.filter (fun x=>decide (x<n))++n::l.filter (fun x=> !decide (x<n))
def dU (n:Int) (l:List Int):List Int:=l.filter fun x=> !decide (x=n)
def aY.none:aY:=⟨[],[]⟩
def gb (c:aY) (k n:Int):aY × Int :=
 if eg c≠0 then (aY.none,eg c)
 else if nm n=false then (aY.none,81)
 else if k=1 then (if n∈c.av∨n∈c.aD then (aY.none,82) else (⟨c.av,lp n c.aD⟩,0))
 else if k=2 then (if n∈c.aD then (⟨lp n c.av,dU n c.aD⟩,0) else (aY.none,83))
 else if k=3 then
  (if n∈c.av∧c.av.length=1 then (aY.none,84)
  else if n∈c.av then (⟨dU n c.av,dU n c.aD⟩,0)
  else if n∈c.aD then (⟨c.av,dU n c.aD⟩,0)
  else (aY.none,83))
 else (aY.none,1)
theorem ai1 {l:List Int} {n:Int} {i:Nat} (h:FE l n i):l.take i++n::l.drop i=lp n l:=by
 have h1:∀ x∈l.take i,x<n:=fun x hx=>by
  obtain⟨k,hk,rfl⟩:=List.getElem_of_mem hx
  rw[List.length_take] at hk
  rw[List.getElem_take]
  exact h.lo k (by omega) (by omega)
 have h2:∀ x∈l.drop i,¬ x<n:=fun x hx=>by
  obtain⟨k,hk,rfl⟩:=List.getElem_of_mem hx
  rw[List.length_drop] at hk
  rw[List.getElem_drop]
  have:=h.hi (i+k) (by omega) (by omega)
  omega
 rw[lp]
 conv=>rhs;rw[←List.take_append_drop i l]
 rw[List.filter_append,List.filter_append]
 rw[List.filter_eq_self.2 (fun x hx=>by simp[h1 x hx]),List.filter_eq_nil_iff.2 (fun x hx=>by simpa using h2 x hx),List.append_nil]
 rw[List.filter_eq_nil_iff.2 (fun x hx=>by simpa using h1 x hx),List.filter_eq_self.2 (fun x hx=>by simpa using h2 x hx),List.nil_append]
theorem WU (n:Int) (l:List Int):(lp n l).length=l.length+1:=by
 have mT:∀ l:List Int,(l.filter (fun x=>decide (x<n))).length+(l.filter (fun x=> !decide (x<n))).length=l.length:=by
  intro l
  induction l with
  | nil=>rfl
  | cons x l ih =>
   simp only[List.filter_cons]
   by_cases h:x<n<;>simp[h]<;>omega
 have:=mT l
 simp only[lp,List.length_append,List.length_cons]
 omega
theorem ZC {w:World} {s:aj} {os:List aj} {xs:List Int} {xa:Option Addr} {xc:Nat} {n:Int} (hg:ak w s os) (hx:fD s xa xc xs) (hs:xs.Pairwise (· < ·)) (hn:aq .i64 n) (hb:(xs.length+1)*8≤140737488355328) :
  Calls Tryz.prog 140 #[.slice xa xs.length xc,i64 n] w (aw w s os fun s' A v=>s'=s∧∃ a c,v = .slice a (lp n xs).length c∧ib s' A a c (lp n xs)):=by
 refine enter (l:=[.slice xa xs.length xc,i64 n]) Tryz.func140 rfl Tryz.ntmps140 rfl ?_
 refine go 9 ?_
 refine zw (R9 hg hx hs (by omega)) ?_
 rintro v1 w1 aH aN ⟨i,rfl,iO⟩
 refine go 11 ?_
 refine zc (sZ aH (.inl rfl) hx.2.2 (by omega)) ?_
 rintro v2 s2 A2 w2 jb aS aR ⟨rfl,a2,c2,rfl,mO⟩
 refine go 3 ?_
 refine RL.buildSlice rfl rfl rfl rfl bC.out fY.out rfl rfl rfl rfl aS ?_
 rintro p3 w3 aP bw
 refine go 2 ?_
 refine zc (aas aP.swap mO List.mem_cons_self (if_pos rfl) iO.le hb hn) ?_
 rintro v4 s4 A4 w4 fL bp bJ ⟨rfl,a4,c4,rfl,rl⟩
 refine go 3 ?_
 rw[ai1 iO] at rl ⊢
 exact CW.ret (ret (vs:=[_]) ⟨_,_,rfl,rfl,rfl⟩ (aw.mk (Le.refl _) bp.aE (aN.trans (aR.trans (bw.trans bJ))) ⟨rfl,a4,c4,rfl,rl⟩))
theorem ahr {s:aj} {n:Int} {b:Nat} (hb:Holds s ⟨b,0,none⟩ [i64 n]):xl Tryz.prog 162 #[ptr b] s (fun k=>decide (k=n)):=fun k w s' os hl hg=>by
 show Calls Tryz.prog 162 #[i64 k,ptr b] w _
 have hb:=hb.le hl
 refine enter (l:=[i64 k,ptr b]) Tryz.func162 rfl Tryz.ntmps162 rfl ?_
 refine go 7 ?_
 refine RL.load (j:=0) rfl rfl rfl rfl ey.out rfl (hb) (hg.sh) rfl ?_
 refine go 3 ?_
 exact CW.ret (ret (vs:=[_]) ⟨_,_,rfl,rfl,rfl⟩ (aQ.mk hg (ar.refl _) (congrArg Value.bool (by rw[Bool.eq_iff_iff];simp))))
theorem II {w:World} {s:aj} {os:List aj} {xs:List Int} {xa:Option Addr} {xc:Nat} {n:Int} (hg:ak w s os) (hx:fD s xa xc xs) (hb:xs.length*8≤140737488355328) :
  Calls Tryz.prog 141 #[.slice xa xs.length xc,i64 n] w (aw w s os fun s' A v=>∃ a c,v = .slice a (dU n xs).length c∧ib s' A a c (dU n xs)):=by
 refine enter (l:=[.slice xa xs.length xc,i64 n]) Tryz.func141 rfl Tryz.ntmps141 rfl ?_
 refine go 2 ?_
 refine RL.box rfl rfl rfl rfl rfl hg ?_
 rintro p w1 aH aN
 refine go 3 ?_
 obtain⟨s1,aH,eu,iq⟩:=ak.bY aH
 have hx:=hx.up (ax.up _) eu
 refine go 4 ?_
 refine zc (sZ aH (.inl rfl) hx.2.2 hb) ?_
 rintro v2 s2 A2 w2 jb aS aR ⟨rfl,a2,c2,rfl,mO⟩
 refine go 1 ?_
 refine RL.tO rfl rfl rfl rfl rfl ?_
 refine go 1 ?_
 refine zc (aaj aS mO aby.out (ahr (Holds.le (Holds.one p _ _) iq))) ?_
 rintro v3 s3 A3 w3 cO aP bw ⟨rfl,rfl,tE⟩
 refine go 3 ?_
 exact CW.ret (ret (vs:=[_]) ⟨_,_,rfl,rfl,rfl⟩ (aw.mk eu aP (aN.trans (aR.trans bw)) ⟨a2,c2,rfl,tE⟩))
theorem yU {c:aY} (h:eg c=0):(∀ n∈c.av++c.aD,nm n=true)∧c.av.Pairwise (· < ·)∧c.aD.Pairwise (· < ·)∧(∀ n∈c.av,n∉c.aD)∧c.av≠[]:=by
 unfold eg at h
 split at h
 cases h
 rename_i h1
 split at h
 cases h
 rename_i h2
 split at h
 cases h
 rename_i h3
 split at h
 cases h
 rename_i h4
 refine⟨fun n hn=>?_,?_,?_,fun n hn hl=>?_,fun e=>h4 (by rw[e];rfl)⟩
 cases hb:nm n with
 | true=>rfl
 | false=>exact absurd (List.any_eq_true.2 ⟨n,hn,by simp[hb]⟩) h1
 by_cases hp:c.av.Pairwise (· < ·)
 exact hp
 exact absurd (.inl (decide_eq_false hp)) h2
 by_cases hp:c.aD.Pairwise (· < ·)
 exact hp
 exact absurd (.inr (decide_eq_false hp)) h2
 exact h3 (List.any_eq_true.2 ⟨n,hn,decide_eq_true hl⟩)
def ut (s B A:aj) (v:Value) (r:aY × Int):Prop:=∃ a c b d,v = .tuple #[.agg #[.slice a r.1.av.length c,.slice b r.1.aD.length d],i64 r.2]∧ib s A a c r.1.av∧ib s B b d r.1.aD
theorem ut.oR {s:aj} {e:Int}:ut s aj.nil aj.nil (.tuple #[.agg #[tV,tV],i64 e]) (aY.none,e):=⟨none,0,none,0,rfl,.inl ⟨rfl,rfl,rfl⟩,.inl ⟨rfl,rfl,rfl⟩⟩
theorem ak.akm {w:World} {s X Y A:aj} {os:List aj} (h:ak w s (X::Y::A::os)):ak w s (A::X::Y::os):=h.perm (List.perm_middle (l₁:=[X,Y]))
theorem Z_ {w:World} {s:aj} {os:List aj} {vs:List Value} {c:aY} {k n:Int} (hg:ak w s os) (hc:fH s vs c) (hb:c.ic) (hk:aq .i64 k) (hn:aq .i64 n) :
  Calls Tryz.prog 116 #[.agg vs.toArray,.agg #[i64 k,i64 n]] w (s_ w s os fun s' B A v=>ut s' B A v (gb c k n)):=by
 have iK:=hc
 have li:=hb
 simp only[aY.ic] at li
 obtain⟨a,ac,b,bc,rfl,i1,i2⟩:=hc
 refine enter (l:=[.agg #[.slice a c.av.length ac,.slice b c.aD.length bc],.agg #[i64 k,i64 n]]) Tryz.func116 rfl Tryz.ntmps116 rfl ?_
 refine go 2 ?_
 refine RL.box rfl rfl rfl rfl rfl hg ?_
 rintro p w0 mL q9
 refine go 1 ?_
 refine RL.box rfl rfl rfl rfl rfl mL ?_
 rintro q w1 aH aN
 refine go 1 ?_
 obtain⟨s1,aH,eu,iq⟩:=ak.bY aH
 obtain⟨s2,aH,jb,pg⟩:=ak.bY aH
 refine RL.alloc rfl rfl rfl rfl qO.out aH ?_
 rintro r w2 aS aR
 refine go 3 ?_
 have hH:Holds s2 ⟨p,0,none⟩ [.slice a c.av.length ac,.slice b c.aD.length bc]:=(Holds.one p _ _).le pg
 have hQ:Holds s2 ⟨q,0,none⟩ [i64 k,i64 n]:=(Holds.one q _ _).le (iq.trans jb)
 have cg:=eu.trans jb
 have gA:=fH.up _ _ _ _ cg iK
 have i1:=i1.up (ax.up _) cg
 have i2:=i2.up (ax.up _) cg
 refine CW.seq (CW.seq (CW.plain ?_))
 refine RL.gX (j:=0) (us:=[.slice a c.av.length ac,.slice b c.aD.length bc]) rfl rfl rfl rfl iR.out rfl (hH) (aS.sh) rfl rfl ?_
 refine go 1 ?_
 refine zc (IU aS gA hb) ?_
 rintro v3 s3 A3 w3 cO aP bw rfl
 refine go 3 ?_
 have aP:=aP.drop
 have HP:=q9.trans (aN.trans (aR.trans bw))
 have hH:=hH.le cO
 have hQ:=hQ.le cO
 have i1:=i1.up (ax.up _) cO
 have i2:=i2.up (ax.up _) cO
 have Vi:=fH.up _ _ _ _ cO gA
 have cg:=cg.trans cO
 refine go 5 ?_
 refine CW.ne rfl (fun h0=>?_) (fun h0=>CW.skip ?_)
 refine CW.seq (CW.plain ?_)
 refine go 2 ?_
 refine RL.sC (i:=0) (j:=0) aP ?_
 rintro w4 bp bJ
 refine go 3 ?_
 exact CW.ret (ret (vs:=[_,_]) ⟨_,_,_,rfl,rfl,mw iR.out (dq _ _ _) (bp).1 rfl,_,_,rfl,rfl,rfl⟩ (s_.mk cg (bp).drop.nil.nil (HP.trans bJ) (by rw[gb,if_pos h0];exact ut.oR)))
 obtain⟨z1,z2,z3,z4,z5⟩:=yU h0
 refine CW.seq (CW.seq (CW.plain ?_))
 refine go 1 ?_
 refine RL.load (j:=1) rfl rfl rfl rfl ey.out rfl (hQ) (aP.sh) rfl ?_
 refine go 1 ?_
 refine zw (Ym aP) ?_
 rintro v4 w4 bp bJ rfl
 refine go 3 ?_
 have Cw:=HP.trans bJ
 refine CW.cond rfl (fun rj=>?_) (fun rj=>CW.skip ?_)
 refine CW.seq (CW.plain ?_)
 refine go 1 ?_
 refine RL.sC (i:=0) (j:=0) bp ?_
 rintro w5 bh bQ
 refine go 3 ?_
 exact CW.ret (ret (vs:=[_,_]) ⟨_,_,_,rfl,rfl,mw iR.out (dq _ _ _) (bh).1 rfl,_,_,rfl,rfl,rfl⟩ (s_.mk cg (bh).drop.nil.nil (Cw.trans bQ) (by rw[gb,if_neg (by simpa using h0),if_pos (by simpa using rj)];exact ut.oR)))
 have fm:¬ nm n=false:=by simpa using rj
 have gy:gb c k n=if k=1 then (if n∈c.av∨n∈c.aD then (aY.none,82) else (⟨c.av,lp n c.aD⟩,0))
   else if k=2 then (if n∈c.aD then (⟨lp n c.av,dU n c.aD⟩,0) else (aY.none,83))
   else if k=3 then
    (if n∈c.av∧c.av.length=1 then (aY.none,84)
    else if n∈c.av then (⟨dU n c.av,dU n c.aD⟩,0)
    else if n∈c.aD then (⟨c.av,dU n c.aD⟩,0)
    else (aY.none,83))
   else (aY.none,1):=by rw[gb,if_neg (by simpa using h0),if_neg fm]
 rw[gy]
 refine go 1 ?_
 have fj:=bp.drew
 refine CW.iA [(true,0),(true,1),(true,2),(true,4),(true,5),(true,6),(false,3),(false,7),(false,8),(false,9)] (fun w=>In s3 w) mixed (by kernel_rfl) (by kernel_rfl) (by kernel_rfl) (by kernel_rfl) (fj.sh) ?_
 refine RL.rB (j:=0) (us:=[.slice a c.av.length ac,.slice b c.aD.length bc]) rfl rfl rfl rfl iR.out rfl (hH) (fun w h=>h) rfl rfl ?_
 refine go 1 ?_
 refine RL.fV (j:=1) rfl rfl rfl rfl ey.out rfl (hQ) (fun w h=>h) rfl ?_
 refine RL.rB (j:=0) (us:=[.slice a c.av.length ac,.slice b c.aD.length bc]) rfl rfl rfl rfl iR.out rfl (hH) (fun w h=>h) rfl rfl ?_
 refine go 1 ?_
 refine RL.fV (j:=1) rfl rfl rfl rfl ey.out rfl (hQ) (fun w h=>h) rfl ?_
 refine go 1 ?_
 refine zw (SF fj Vi) ?_
 rintro v5 w5 bh bQ rfl
 refine⟨bh.sh,?_⟩
 refine go 1 ?_
 refine zw (Sk bh Vi) ?_
 rintro v6 w6 bx bM rfl
 refine⟨bx.sh,?_⟩
 refine go 3 ?_
 have mR:=Cw.trans ((ar.drew _).trans (bQ.trans bM))
 refine go 1 ?_
 have fj:=bx.drew
 refine CW.iA [(true,0),(true,1),(true,3),(true,4),(false,2),(false,5),(false,6),(false,7)] (fun w=>In s3 w) mixed (by kernel_rfl) (by kernel_rfl) (by kernel_rfl) (by kernel_rfl) (fj.sh) ?_
 refine go 1 ?_
 refine RL.fV (j:=0) rfl rfl rfl rfl fq.out rfl (hH) (fun w h=>h) rfl ?_
 refine go 1 ?_
 refine RL.fV (j:=1) rfl rfl rfl rfl fq.out rfl (hH) (fun w h=>h) rfl ?_
 refine go 1 ?_
 refine zc (sZ fj (.inl rfl) i1.2.2 (by omega)) ?_
 rintro v7 s7 A7 w7 jK bO cj ⟨rfl,a7,c7,rfl,pZ⟩
 refine⟨bO.sh,?_⟩
 refine go 1 ?_
 refine zc (sZ bO (.inl rfl) i2.2.2 (by omega)) ?_
 rintro v8 s8 B8 w8 kw bD cM ⟨rfl,b8,d8,rfl,pf⟩
 refine⟨bD.sh,?_⟩
 refine go 3 ?_
 have kS:=mR.trans ((ar.drew _).trans (cj.trans cM))
 clear mL aH aS aP bp fj bh bx bO
 refine CW.cx (fun E w'=>∃ s' A' B' a' c' b' d',∃ x:aY,E=[(4,ptr r),(9,.slice a' x.av.length c'),(10,.slice b' x.aD.length d')]∧ak w' s' (B'::A'::aj.one r (.cells #[tV,tV] 27)::os)∧Le s8 s'∧ar w w'∧ib s' A' a' c' x.av∧ib s' B' b' d' x.aD∧gb c k n=(x,0)) ?_ ?_
 refine CW.seq (CW.plain ?_)
 refine go 1 ?_
 refine RL.load (j:=0) rfl rfl rfl rfl Zi.out rfl (hQ) (bD.sh) rfl ?_
 refine go 1 ?_
 refine CW.block (CW.seq (CW.plain ?_))
 refine go 3 ?_
 refine CW.eq rfl (fun k1=>?_) (fun k1=>?_)
 -- a learner abV
 rw[if_pos k1] at gy ⊢
 refine CW.seq (CW.seq (CW.plain ?_))
 refine go 2 ?_
 refine RL.part 42 rfl (fun h1=>?_) (fun h1=>?_)
 refine RL.pass rfl rfl rfl ?_
 refine go 2 ?_
 refine CW.dZ rfl (CW.seq (CW.plain ?_))
 refine go 1 ?_
 refine RL.sC (i:=2) (j:=0) bD ?_
 rintro w9 bA cu
 refine go 3 ?_
 exact CW.ret (ret (vs:=[_,_]) ⟨_,_,_,rfl,rfl,mw iR.out (dq _ _ _) (bA).drop.drop.1 rfl,_,_,rfl,rfl,rfl⟩ (s_.mk cg (bA).drop.drop.drop.nil.nil (kS.trans cu) (by rw[if_pos (.inl (of_decide_eq_true h1))];exact ut.oR)))
 have h1:=of_decide_eq_false h1
 refine go 3 ?_
 refine CW.cond rfl (fun h2=>?_) (fun h2=>CW.skip ?_)
 refine CW.seq (CW.plain ?_)
 refine go 1 ?_
 refine RL.sC (i:=2) (j:=0) bD ?_
 rintro w9 bA cu
 refine go 3 ?_
 exact CW.ret (ret (vs:=[_,_]) ⟨_,_,_,rfl,rfl,mw iR.out (dq _ _ _) (bA).drop.drop.1 rfl,_,_,rfl,rfl,rfl⟩ (s_.mk cg (bA).drop.drop.drop.nil.nil (kS.trans cu) (by rw[if_pos (.inr (of_decide_eq_true h2))];exact ut.oR)))
 have h2:=of_decide_eq_false h2
 rw[if_neg (show ¬ (n∈c.av∨n∈c.aD) from fun h=>h.elim h1 h2)] at gy
 obtain⟨s9,bA,jc,Nw⟩:=ak.bY bD
 have gU:=pf.ci (ax.up _) jc Nw
 refine go 3 ?_
 refine RL.load (j:=1) rfl rfl rfl rfl ey.out rfl (hQ.le jc) (bA.sh) rfl ?_
 refine go 1 ?_
 refine zc (ZC bA gU z3 hn (by omega)) ?_
 rintro C4 Fb ob eX o8 bj cm ⟨rfl,iI,nI,rfl,pe⟩
 refine go 3 ?_
 exact fun ac ha=>⟨_,ha.sub (E':=[(4,ptr r),(9,.slice a7 c.av.length c7),(10,.slice iI (lp n c.aD).length nI)]) ⟨rfl,rfl,rfl,trivial⟩,Fb,A7,ob,a7,c7,iI,nI,⟨c.av,lp n c.aD⟩,rfl,bj,jc,kS.trans cm,pZ.up (ax.up _) jc,pe,gy⟩
 rw[if_neg k1] at gy ⊢
 refine go 5 ?_
 refine CW.eq rfl (fun k2=>?_) (fun k2=>?_)
 -- a learner jz
 rw[if_pos k2] at gy ⊢
 refine CW.seq (CW.seq (CW.plain ?_))
 refine go 3 ?_
 refine CW.cond rfl (fun h1=>?_) (fun h1=>CW.skip ?_)
 have h1:n∉c.aD:=by simpa using h1
 refine go 3 ?_
 refine RL.sC (i:=2) (j:=0) bD ?_
 rintro w9 bA cu
 refine go 3 ?_
 exact CW.ret (ret (vs:=[_,_]) ⟨_,_,_,rfl,rfl,mw iR.out (dq _ _ _) (bA).drop.drop.1 rfl,_,_,rfl,rfl,rfl⟩ (s_.mk cg (bA).drop.drop.drop.nil.nil (kS.trans cu) (by rw[if_neg h1];exact ut.oR)))
 have h1:n∈c.aD:=by simpa using h1
 rw[if_pos h1] at gy
 obtain⟨s9,bA,jc,F3⟩:=ak.Ll bD
 have gU:=pZ.ci (ax.up _) jc F3
 refine go 4 ?_
 refine RL.load (j:=1) rfl rfl rfl rfl ey.out rfl (hQ.le jc) (bA.sh) rfl ?_
 refine go 1 ?_
 refine zc (ZC bA gU z2 hn (by omega)) ?_
 rintro C4 Fb ob eX o8 bj cm ⟨rfl,iI,nI,rfl,pe⟩
 refine go 3 ?_
 obtain⟨mA,cy,dy,Nu⟩:=ak.Ll bj
 have gU:=(pf.up (ax.up _) jc).ci (ax.up _) dy Nu
 refine go 3 ?_
 refine RL.load (j:=1) rfl rfl rfl rfl ey.out rfl (hQ.le (jc.trans dy)) (cy.sh) rfl ?_
 refine go 1 ?_
 refine zc (II cy gU (by omega)) ?_
 rintro ui t_ B12 jA nh cw dK ⟨kJ,d12,rfl,vf⟩
 refine go 3 ?_
 exact fun ac ha=>⟨_,ha.sub (E':=[(4,ptr r),(9,.slice iI (lp n c.av).length nI),(10,.slice kJ (dU n c.aD).length d12)]) ⟨rfl,rfl,rfl,trivial⟩,t_,ob,B12,iI,nI,kJ,d12,⟨lp n c.av,dU n c.aD⟩,rfl,cw,jc.trans (dy.trans nh),kS.trans (cm.trans dK),pe.up (ax.up _) (dy.trans nh),vf,gy⟩
 rw[if_neg k2] at gy ⊢
 refine go 5 ?_
 refine CW.eq rfl (fun k3=>?_) (fun k3=>?_)
 case refine_2 =>
  refine go 3 ?_
  refine RL.sC (i:=2) (j:=0) bD ?_
  rintro w9 bA cu
  refine go 3 ?_
  exact CW.ret (ret (vs:=[_,_]) ⟨_,_,_,rfl,rfl,mw iR.out (dq _ _ _) (bA).drop.drop.1 rfl,_,_,rfl,rfl,rfl⟩ (s_.mk cg (bA).drop.drop.drop.nil.nil (kS.trans cu) (by rw[if_neg k3];exact ut.oR)))
 -- a node goes
 rw[if_pos k3] at gy ⊢
 refine CW.block (CW.seq (CW.block (CW.seq (CW.block (CW.seq (CW.block (CW.seq (CW.block (CW.seq (CW.seq (CW.seq (CW.plain ?_))))))))))))
 refine go 2 ?_
 refine RL.part 67 rfl (fun h1=>?_) (fun h1=>?_)
 have h1:n∈c.av:=of_decide_eq_true h1
 refine go 6 ?_
 refine CW.eq rfl (fun h2=>?_) (fun h2=>?_)
 refine CW.exit (CW.seq (CW.seq (CW.plain ?_)))
 refine go 1 ?_
 refine RL.sC (i:=2) (j:=0) bD ?_
 rintro w9 bA cu
 refine go 3 ?_
 exact CW.ret (ret (vs:=[_,_]) ⟨_,_,_,rfl,rfl,mw iR.out (dq _ _ _) (bA).drop.drop.1 rfl,_,_,rfl,rfl,rfl⟩ (s_.mk cg (bA).drop.drop.drop.nil.nil (kS.trans cu) (by rw[if_pos ⟨h1,by omega⟩];exact ut.oR)))
 have h2:¬ (n∈c.av∧c.av.length=1):=fun h=>h2 (by omega)
 rw[if_neg h2,if_pos h1] at gy
 refine CW.skip (CW.seq (CW.seq (CW.plain ?_)))
 refine go 3 ?_
 refine CW.cond rfl (fun _=>?_) (fun h=>absurd h1 (of_decide_eq_false h))
 refine CW.exit (CW.plain ?_)
 obtain⟨s9,bA,jc,F3⟩:=ak.Ll bD
 have gU:=pZ.ci (ax.up _) jc F3
 refine go 2 ?_
 refine RL.load (j:=1) rfl rfl rfl rfl ey.out rfl (hQ.le jc) (bA.sh) rfl ?_
 refine go 1 ?_
 refine zc (II bA gU (by omega)) ?_
 rintro C4 Fb ob eX o8 bj cm ⟨iI,nI,rfl,pe⟩
 refine go 3 ?_
 obtain⟨mA,cy,dy,Nu⟩:=ak.Ll bj
 have gU:=(pf.up (ax.up _) (jc.trans o8)).ci (ax.up _) dy Nu
 refine go 4 ?_
 refine RL.load (j:=1) rfl rfl rfl rfl ey.out rfl (hQ.le (jc.trans (o8.trans dy))) (cy.sh) rfl ?_
 refine go 1 ?_
 refine zc (II cy gU (by omega)) ?_
 rintro ui t_ B12 jA nh cw dK ⟨kJ,d12,rfl,vf⟩
 refine go 4 ?_
 exact fun ac ha=>⟨_,ha.sub (E':=[(4,ptr r),(9,.slice iI (dU n c.av).length nI),(10,.slice kJ (dU n c.aD).length d12)]) ⟨rfl,rfl,rfl,trivial⟩,t_,ob,B12,iI,nI,kJ,d12,⟨dU n c.av,dU n c.aD⟩,rfl,cw,jc.trans (o8.trans (dy.trans nh)),kS.trans (cm.trans dK),pe.up (ax.up _) (dy.trans nh),vf,gy⟩
 have h1:n∉c.av:=of_decide_eq_false h1
 rw[if_neg (fun h=>h1 h.1),if_neg h1] at gy ⊢
 refine go 6 ?_
 refine CW.no rfl (CW.skip (CW.seq (CW.seq (CW.plain ?_))))
 refine go 3 ?_
 refine CW.cond rfl (fun h=>absurd (of_decide_eq_true h) h1) (fun _=>CW.skip (CW.seq (CW.plain ?_)))
 refine go 3 ?_
 refine CW.cond rfl (fun h2=>?_) (fun h2=>?_)
 have h2:n∈c.aD:=of_decide_eq_true h2
 rw[if_pos h2] at gy
 refine CW.exit (CW.seq (CW.plain ?_))
 obtain⟨s9,bA,jc,Nw⟩:=ak.bY bD
 have gU:=pf.ci (ax.up _) jc Nw
 refine go 2 ?_
 refine RL.load (j:=1) rfl rfl rfl rfl ey.out rfl (hQ.le jc) (bA.sh) rfl ?_
 refine go 1 ?_
 refine zc (II bA gU (by omega)) ?_
 rintro ui t_ B12 jA nh cw dK ⟨kJ,d12,rfl,vf⟩
 refine go 4 ?_
 exact fun ac ha=>⟨_,ha.sub (E':=[(4,ptr r),(9,.slice a7 c.av.length c7),(10,.slice kJ (dU n c.aD).length d12)]) ⟨rfl,rfl,rfl,trivial⟩,t_,A7,B12,a7,c7,kJ,d12,⟨c.av,dU n c.aD⟩,rfl,cw,jc.trans nh,kS.trans dK,pZ.up (ax.up _) (jc.trans nh),vf,gy⟩
 have h2:n∉c.aD:=of_decide_eq_false h2
 refine CW.skip (CW.exit (CW.seq (CW.seq (CW.plain ?_))))
 refine go 1 ?_
 refine RL.sC (i:=2) (j:=0) bD ?_
 rintro w9 bA cu
 refine go 3 ?_
 exact CW.ret (ret (vs:=[_,_]) ⟨_,_,_,rfl,rfl,mw iR.out (dq _ _ _) (bA).drop.drop.1 rfl,_,_,rfl,rfl,rfl⟩ (s_.mk cg (bA).drop.drop.drop.nil.nil (kS.trans cu) (by rw[if_neg h2];exact ut.oR)))
 rintro E qh ⟨Ii,R2,B20,I4,Je,th,d20,x,rfl,e_,tB,jE,Pn,PC,Qm⟩
 rw[←gy,Qm]
 refine go 5 ?_
 refine RL.sC (i:=2) (j:=0) e_ ?_
 rintro oN fv iX
 refine go 3 ?_
 exact CW.ret (ret (vs:=[_,_]) ⟨_,_,_,rfl,rfl,mw iR.out (dq _ _ _) fv.drop.drop.1 rfl,_,_,rfl,rfl,rfl⟩ (s_.mk (cg.trans tB) (fv.akm.drop) (jE.trans iX) ⟨I4,Je,th,d20,rfl,Pn,PC⟩))
end Go.Lw
namespace Go.Lw
open Go.Proofs
theorem Ri {w:World} {s:aj} {os:List aj} {xs:List Int} {xa:Option Addr} {xc:Nat} {v:Int} (hg:ak w s os) (hx:fD s xa xc xs) :
  Calls Tryz.prog 21 #[.slice xa xs.length xc,i64 v] w (aQ w s os fun r=>r = .bool (decide (v∈xs))):=by
 refine enter (l:=[.slice xa xs.length xc,i64 v]) Tryz.func21 rfl Tryz.ntmps21 rfl ?_
 refine go 4 ?_
 refine CW.seq (CW.seq (CW.plain ?_))
 refine go 2 ?_
 have bV:=hx.gL
 simp only[maxLen] at bV
 refine CW.block (CW.loop (σ:=Nat) (fun j E w'=>w'=w∧∃ k:Nat,E=[(0,.slice xa xs.length xc),(1,i64 v),(5,i64 k)]∧k+j=xs.length∧v∉xs.take k)
  (fun j=>j) xs.length [(0,.slice xa xs.length xc),(1,i64 v),(5,i64 0)] ⟨rfl,rfl,rfl,trivial⟩ ⟨rfl,0,rfl,by omega,by simp⟩ ?_)
 rintro j E w' ⟨rfl,k,rfl,hk,bW⟩
 refine CW.seq (CW.seq (CW.plain ?_))
 refine go 5 ?_
 refine CW.test rfl (fun h=>?_) (fun h=>?_)
 refine CW.skip ?_
 have cv:k<xs.length:=by omega
 refine CW.seq (CW.block (CW.seq (CW.plain ?_)))
 refine go 2 ?_
 refine RL.cW rfl rfl rfl rfl bC.out rfl rfl (hx) (by omega) (by omega) ?_
 rintro q vs eH hH ⟨rfl,p5⟩
 refine RL.load rfl rfl rfl rfl ey.out rfl (hH) (hg.sh) rfl ?_
 refine go 3 ?_
 refine CW.eq rfl (fun he=>?_) (fun he=>?_)
 refine CW.seq (CW.plain ?_)
 refine go 2 ?_
 have hm:v∈xs:=by subst he;exact List.getElem_mem _
 exact CW.ret (ret (vs:=[_]) ⟨_,_,rfl,rfl,rfl⟩ (aQ.mk hg (ar.refl _) (by simp[hm,whole])))
 refine CW.skip ?_
 refine go 5 ?_
 cases j with
 | zero=>omega
 | succ j =>
  refine fun ac ha=>⟨j,[(0,.slice xa xs.length xc),(1,i64 v),(5,i64 ((k:Int)+1))],ha.sub ⟨rfl,rfl,rfl,trivial⟩,⟨rfl,k+1,rfl,by omega,?_⟩,Nat.lt_succ_self j⟩
  rw[List.take_succ_eq_append_getElem cv]
  simp only[List.mem_append,List.mem_singleton,not_or]
  exact⟨bW,fun h=>he h.symm⟩
 refine CW.exit (CW.seq (CW.plain ?_))
 have cv:k=xs.length:=by omega
 refine go 2 ?_
 rw[cv,List.take_length] at bW
 exact CW.ret (ret (vs:=[_]) ⟨_,_,rfl,rfl,rfl⟩ (aQ.mk hg (ar.refl _) (by simp[bW,whole])))
theorem Yi {w:World} {s:aj} {os:List aj} {n:Int} (hg:ak w s os):Calls Tryz.prog 50 #[i64 n] w (aQ w s os fun r=>r = .bool (nm n)):=by
 refine enter (l:=[i64 n]) Tryz.func50 rfl Tryz.ntmps50 rfl ?_
 refine go 9 ?_
 refine RL.part 5 rfl (fun h=>?_) (fun h=>?_)
 have h:n≥1:=of_decide_eq_true h
 refine go 5 ?_
 exact CW.ret (ret (vs:=[_]) ⟨_,_,rfl,rfl,rfl⟩ (aQ.mk hg (ar.refl _) (congrArg Value.bool (by simp only[nm];exact decide_eq_decide.2 ⟨fun h2=>⟨h,h2⟩,fun h2=>h2.2⟩))))
 have h:¬ n≥1:=of_decide_eq_false h
 refine go 5 ?_
 exact CW.ret (ret (vs:=[_]) ⟨_,_,rfl,rfl,rfl⟩ (aQ.mk hg (ar.refl _) (congrArg Value.bool (by rw[nm,decide_eq_false (fun h2=>h h2.1)]))))
theorem akg {xs:List Int} (h:∀ j,(hj:j+1<xs.length)→xs[j]<xs[j+1]):xs.Pairwise (· < ·):=by
 rw[List.pairwise_iff_getElem]
 intro i j hi hj iE
 obtain⟨d,rfl⟩:∃ d,j=i+1+d:=⟨j-(i+1),by omega⟩
 induction d with
 | zero=>exact h i (by omega)
 | succ d ih =>
  have h1:=ih (by omega) (by omega)
  have h2:=h (i+1+d) (by omega)
  exact Int.lt_trans h1 h2
theorem Yj {w:World} {s:aj} {os:List aj} {xs:List Int} {xa:Option Addr} {xc:Nat} (hg:ak w s os) (hx:fD s xa xc xs) :
  Calls Tryz.prog 85 #[.slice xa xs.length xc] w (aQ w s os fun r=>r = .bool (pC xs)):=by
 have bV:=hx.gL
 simp only[maxLen] at bV
 refine enter (l:=[.slice xa xs.length xc]) Tryz.func85 rfl Tryz.ntmps85 rfl ?_
 refine go 4 ?_
 refine CW.seq (CW.seq (CW.plain ?_))
 refine go 2 ?_
 refine CW.block (CW.loop (σ:=Nat) (fun j E w'=>ak w' s os∧ar w w'∧∃ k:Nat,E=[(0,.slice xa xs.length xc),(3,i64 ((k+1:Nat):Int))]∧k+j=xs.length∧∀ i,(hi:i+1<xs.length)→i<k→xs[i]<xs[i+1])
  (fun j=>j) xs.length [(0,.slice xa xs.length xc),(3,i64 1)] ⟨rfl,rfl,trivial⟩ ⟨hg,ar.refl _,0,rfl,by omega,fun i _ h=>by omega⟩ ?_)
 rintro j E w1 ⟨aH,aN,k,rfl,hk,gx⟩
 refine CW.seq (CW.seq (CW.plain ?_))
 refine go 5 ?_
 refine CW.test rfl (fun h=>CW.skip ?_) (fun h=>CW.exit ?_)
 have cv:k+1<xs.length:=by omega
 have fj:=aH.drew
 refine CW.seq (CW.block (CW.seq ?_))
 refine CW.iA [(true,0),(true,1),(true,2),(true,3),(true,4),(true,5),(true,6),(true,7),(true,8),(true,9)] (fun w=>ak w s os) mixed (by kernel_rfl) (by kernel_rfl) (by kernel_rfl) (by kernel_rfl) (fj) ?_
 refine go 3 ?_
 refine RL.cW rfl rfl rfl rfl bC.out rfl rfl (hx) (by omega) ((by omega)) ?_
 rintro q vs eH hH ⟨rfl,hr⟩
 refine RL.fV rfl rfl rfl rfl ey.out rfl (hH) (fun w h=>h.sh) rfl ?_
 refine go 2 ?_
 refine RL.cW rfl rfl rfl rfl bC.out rfl rfl (hx) (by omega) ((by omega)) ?_
 rintro q2 vs2 oE eS ⟨rfl,ph⟩
 refine RL.fV rfl rfl rfl rfl ey.out rfl (eS) (fun w h=>h.sh) rfl ?_
 refine go 2 ?_
 have e1:xs[((k+1:Nat):Int).toNat]'(by omega)=xs[k+1]:=by simp
 have e2:xs[(((k+1:Nat):Int)-1).toNat]'(by omega)=xs[k]:=by congr 1;omega
 rw[e1,e2]
 refine CW.test rfl (fun hc=>?_) (fun hc=>?_)
 refine CW.seq (CW.plain ?_)
 refine go 2 ?_
 have bW:¬ xs.Pairwise (· < ·):=fun hp=>by
  have:=List.pairwise_iff_getElem.1 hp k (k+1) (by omega) cv (by omega)
  omega
 exact CW.ret (ret (vs:=[_]) ⟨_,_,rfl,rfl,rfl⟩ (aQ.mk fj (aN.trans (ar.drew _)) (by rw[pC,decide_eq_false bW];rfl)))
 refine CW.skip (CW.plain ?_)
 refine go 4 ?_
 cases j with
 | zero=>omega
 | succ j =>
  refine fun ac ha=>⟨j,[(0,.slice xa xs.length xc),(3,i64 ((k+1+1:Nat):Int))],ha.sub ⟨rfl,rfl,trivial⟩,⟨fj,aN.trans (ar.drew _),k+1,rfl,by omega,fun i hi be=>?_⟩,Nat.lt_succ_self j⟩
  by_cases qx:i=k
  subst qx;omega
  exact gx i hi (by omega)
 refine CW.seq (CW.plain ?_)
 refine go 2 ?_
 have rz:xs.Pairwise (· < ·):=akg (fun i hi=>gx i hi (by omega))
 exact CW.ret (ret (vs:=[_]) ⟨_,_,rfl,rfl,rfl⟩ (aQ.mk aH aN (by rw[pC,decide_eq_true rz];rfl)))
theorem aji {w:World} {s:aj} {os:List aj} {vs:List Value} {c:aY} (hg:ak w s os) (hc:fH s vs c) (hb:c.ic) :
  Calls Tryz.prog 49 #[.agg vs.toArray] w (aw w s os fun _ _ r=>r=i64 (eg c)):=by
 simp only[aY.ic] at hb
 obtain⟨a,ac,b,bc,rfl,i1,i2⟩:=hc
 refine enter (l:=[.agg #[.slice a c.av.length ac,.slice b c.aD.length bc]]) Tryz.func49 rfl Tryz.ntmps49 rfl ?_
 refine go 2 ?_
 refine RL.box rfl rfl rfl rfl rfl hg ?_
 rintro p w1 aH aN
 refine go 3 ?_
 obtain⟨s1,aH,eu,iq⟩:=ak.bY aH
 have hH:Holds s1 ⟨p,0,none⟩ [.slice a c.av.length ac,.slice b c.aD.length bc]:=(Holds.one p _ _).le iq
 have i1:=i1.up (ax.up _) eu
 have i2:=i2.up (ax.up _) eu
 refine go 1 ?_
 have fj:=aH.drew
 refine CW.iA [(true,1),(true,2),(true,4),(true,5),(false,0),(false,3),(false,6),(false,7)] (fun w=>In s1 w) mixed (by kernel_rfl) (by kernel_rfl) (by kernel_rfl) (by kernel_rfl) (fj.sh) ?_
 refine go 1 ?_
 refine RL.fV (j:=0) rfl rfl rfl rfl fq.out rfl (hH) (fun w h=>h) rfl ?_
 refine go 1 ?_
 refine RL.fV (j:=1) rfl rfl rfl rfl fq.out rfl (hH) (fun w h=>h) rfl ?_
 refine RL.buildSlice rfl rfl rfl rfl bC.out fY.out rfl rfl rfl rfl fj ?_
 rintro p2 w2 aS aR
 refine⟨aS.sh,?_⟩
 obtain⟨bB,fe,cD⟩:=cU.row (c:=ac) bC.out i1.2.2 aS.sh
 refine RL.append (i:=0) (ys:=c.av) rfl rfl rfl rfl bC.out fY.out rfl (by first | exact ax.one _ | exact pJ.one | exact pI.one | assumption) rfl rfl aS rfl aW.fresh (fe) (cD) ((by simp;omega)) (by omega) ?_
 rintro a3 c3 A3 w3 aP tE bw pY
 refine⟨aP.sh,?_⟩
 obtain⟨aqj,agZ,aee⟩:=cU.row (c:=bc) bC.out i2.2.2 aP.sh
 refine RL.append (i:=0) (ys:=c.aD) rfl rfl rfl rfl bC.out fY.out rfl (by first | exact ax.one _ | exact pJ.one | exact pI.one | assumption) rfl rfl aP rfl tE (agZ) (aee) ((by simp;omega)) (by omega) ?_
 rintro a4 c4 A4 w4 bp rl bJ J3
 refine⟨bp.sh,?_⟩
 refine go 2 ?_
 rw[List.nil_append] at rl ⊢
 have Cw:=aN.trans ((ar.drew _).trans (aR.trans (bw.trans bJ)))
 obtain⟨s5,bh,dz,uF⟩:=ak.bY bp
 have gU:=rl.ci (ax.up _) dz uF
 have hH:=hH.le dz
 have i1:=i1.up (ax.up _) dz
 have i2:=i2.up (ax.up _) dz
 have cg:=eu.trans dz
 have Gn:(c.av++c.aD).length=c.av.length+c.aD.length:=List.length_append
 clear aH aS aP bp fj
 refine CW.cx (fun E w'=>E=[(1,ptr p)]∧ak w' s5 os∧ar w w'∧∀ n∈c.av++c.aD,nm n=true) ?_ ?_
 refine CW.seq (CW.plain ?_)
 refine go 2 ?_
 refine CW.block (CW.loop (σ:=Nat) (fun j E w'=>ak w' s5 os∧ar w w'∧∃ k:Nat,E=[(1,ptr p),(3,.slice a4 (c.av++c.aD).length c4),(4,i64 k)]∧k+j=(c.av++c.aD).length∧∀ n∈(c.av++c.aD).take k,nm n=true)
  (fun j=>j) (c.av++c.aD).length [(1,ptr p),(3,.slice a4 (c.av++c.aD).length c4),(4,i64 0)] ⟨rfl,rfl,rfl,trivial⟩ ⟨bh,Cw,0,rfl,by omega,by simp⟩ ?_)
 rintro j E w6 ⟨bx,bM,k,rfl,hk,gx⟩
 refine CW.seq (CW.seq (CW.plain ?_))
 refine go 5 ?_
 refine CW.test rfl (fun h=>CW.skip ?_) (fun h=>CW.exit ?_)
 have cv:k<(c.av++c.aD).length:=by omega
 refine CW.seq (CW.block (CW.seq (CW.plain ?_)))
 refine go 2 ?_
 refine RL.cW rfl rfl rfl rfl bC.out rfl rfl (gU) (by omega) ((by omega)) ?_
 rintro q vs eH eS ⟨rfl,hr⟩
 refine RL.load rfl rfl rfl rfl ey.out rfl (eS) (bx.sh) rfl ?_
 refine go 1 ?_
 refine zw (Yi bx) ?_
 rintro v7 w7 bO cj rfl
 refine go 3 ?_
 have ek:(c.av++c.aD)[((k:Nat):Int).toNat]'(by omega)=(c.av++c.aD)[k]:=by simp
 rw[ek]
 refine go 5 ?_
 refine CW.cond rfl (fun hb=>?_) (fun hb=>CW.skip ?_)
 refine CW.seq (CW.plain ?_)
 refine go 2 ?_
 have Bv:(c.av++c.aD).any (fun n=> !nm n)=true:=List.any_eq_true.2 ⟨_,List.getElem_mem cv,hb⟩
 exact CW.ret (ret (vs:=[_]) ⟨_,_,rfl,rfl,rfl⟩ (aw.mk cg bO.nil (bM.trans cj) (by rw[eg,if_pos Bv];rfl)))
 refine CW.plain ?_
 refine go 4 ?_
 cases j with
 | zero=>omega
 | succ j =>
  exact fun ac ha=>⟨j,[(1,ptr p),(3,.slice a4 (c.av++c.aD).length c4),(4,i64 ((k:Int)+1))],ha.sub ⟨rfl,rfl,rfl,trivial⟩,⟨bO,bM.trans cj,k+1,rfl,by omega,RF cv gx (by simpa using hb)⟩,Nat.lt_succ_self j⟩
 have cv:k=(c.av++c.aD).length:=by omega
 rw[cv,List.take_length] at gx
 exact fun ac ha=>⟨[(1,ptr p)],ha.sub ⟨rfl,trivial⟩,rfl,bx,bM,gx⟩
 rintro E w8 ⟨rfl,bD,kS,gx⟩
 have Bv:¬ (c.av++c.aD).any (fun n=> !nm n)=true:=fun h=>by
  obtain⟨n,hn,hb⟩:=List.any_eq_true.1 h
  rw[gx n hn] at hb;cases hb
 refine go 3 ?_
 refine RL.load (j:=0) rfl rfl rfl rfl fq.out rfl (hH) (bD.sh) rfl ?_
 refine go 1 ?_
 refine zw (Yj bD i1) ?_
 rintro v9 w9 bA cu rfl
 refine go 6 ?_
 refine RL.load (j:=1) rfl rfl rfl rfl fq.out rfl (hH) (bA.sh) rfl ?_
 refine go 1 ?_
 refine zw (Yj bA i2) ?_
 rintro C4 eX bj cm rfl
 refine go 3 ?_
 have Ql:=kS.trans (cu.trans cm)
 refine CW.seq (CW.seq (CW.plain ?_))
 refine go 3 ?_
 refine RL.part 38 rfl (fun h=>?_) (fun h=>?_)
 refine RL.pass rfl rfl rfl ?_
 refine go 3 ?_
 refine CW.dZ rfl (CW.seq (CW.plain ?_))
 refine go 2 ?_
 exact CW.ret (ret (vs:=[_]) ⟨_,_,rfl,rfl,rfl⟩ (aw.mk cg bj.nil Ql (by rw[eg,if_neg Bv,if_pos (.inl (by simpa using h))];rfl)))
 have zQ:pC c.av=true:=by simpa using h
 refine go 4 ?_
 refine CW.cond rfl (fun h2=>?_) (fun h2=>CW.skip ?_)
 refine CW.seq (CW.plain ?_)
 refine go 2 ?_
 exact CW.ret (ret (vs:=[_]) ⟨_,_,rfl,rfl,rfl⟩ (aw.mk cg bj.nil Ql (by rw[eg,if_neg Bv,if_pos (.inr (by simpa using h2))];rfl)))
 have ph:pC c.aD=true:=by simpa using h2
 have bW:¬ (pC c.av=false∨pC c.aD=false):=by rw[zQ,ph];simp
 have ahf:=i1.gL
 simp only[maxLen] at ahf
 refine CW.cx (fun E w'=>E=[(1,ptr p)]∧ak w' s5 os∧ar w w'∧∀ n∈c.av,n∉c.aD) ?_ ?_
 refine CW.seq (CW.plain ?_)
 refine go 2 ?_
 refine CW.block (CW.loop (σ:=Nat) (fun j E w'=>ak w' s5 os∧ar w w'∧∃ k:Nat,E=[(1,ptr p),(8,i64 k)]∧k+j=c.av.length∧∀ n∈c.av.take k,n∉c.aD)
  (fun j=>j) c.av.length [(1,ptr p),(8,i64 0)] ⟨rfl,rfl,trivial⟩ ⟨bj,Ql,0,rfl,by omega,by simp⟩ ?_)
 rintro j E iS ⟨cy,dH,k,rfl,hk,Gp⟩
 refine CW.seq (CW.seq (CW.plain ?_))
 refine go 2 ?_
 refine RL.load (j:=0) rfl rfl rfl rfl fq.out rfl (hH) (cy.sh) rfl ?_
 refine go 3 ?_
 refine CW.test rfl (fun h=>CW.skip ?_) (fun h=>CW.exit ?_)
 have cv:k<c.av.length:=by omega
 have fj:=cy.drew
 refine CW.seq (CW.block (CW.seq ?_))
 refine CW.iA [(true,0),(true,1),(true,2),(true,3),(true,4),(true,5),(true,6),(false,7),(false,8)] (fun w=>ak w s5 os) mixed (by kernel_rfl) (by kernel_rfl) (by kernel_rfl) (by kernel_rfl) (fj) ?_
 refine go 1 ?_
 refine RL.fV (j:=1) rfl rfl rfl rfl fq.out rfl (hH) (fun w h=>h.sh) rfl ?_
 refine go 1 ?_
 refine RL.fV (j:=0) rfl rfl rfl rfl fq.out rfl (hH) (fun w h=>h.sh) rfl ?_
 refine go 1 ?_
 refine RL.cW rfl rfl rfl rfl bC.out rfl rfl (i1) (by omega) ((by omega)) ?_
 rintro q vs eH eS ⟨rfl,hr⟩
 refine RL.fV rfl rfl rfl rfl ey.out rfl (eS) (fun w h=>h.sh) rfl ?_
 refine go 1 ?_
 refine zw (Ri fj i2) ?_
 rintro ui jA cw dK rfl
 refine⟨cw,?_⟩
 refine go 2 ?_
 have ek:c.av[((k:Nat):Int).toNat]'(by omega)=c.av[k]:=by simp
 rw[ek]
 refine go 4 ?_
 refine CW.cond rfl (fun hb=>?_) (fun hb=>CW.skip ?_)
 refine CW.seq (CW.plain ?_)
 refine go 2 ?_
 have JH:c.av.any (fun n=>decide (n∈c.aD))=true:=List.any_eq_true.2 ⟨_,List.getElem_mem cv,hb⟩
 exact CW.ret (ret (vs:=[_]) ⟨_,_,rfl,rfl,rfl⟩ (aw.mk cg cw.nil (dH.trans ((ar.drew _).trans dK)) (by rw[eg,if_neg Bv,if_neg bW,if_pos JH];rfl)))
 refine CW.plain ?_
 refine go 4 ?_
 cases j with
 | zero=>omega
 | succ j =>
  exact fun ac ha=>⟨j,[(1,ptr p),(8,i64 ((k:Int)+1))],ha.sub ⟨rfl,rfl,trivial⟩,⟨cw,dH.trans ((ar.drew _).trans dK),k+1,rfl,by omega,RF cv Gp (of_decide_eq_false hb)⟩,Nat.lt_succ_self j⟩
 have cv:k=c.av.length:=by omega
 rw[cv,List.take_length] at Gp
 exact fun ac ha=>⟨[(1,ptr p)],ha.sub ⟨rfl,trivial⟩,rfl,cy,dH,Gp⟩
 rintro E ji ⟨rfl,dd,Wy,Gp⟩
 have JH:¬ c.av.any (fun n=>decide (n∈c.aD))=true:=fun h=>by
  obtain⟨n,hn,hb⟩:=List.any_eq_true.1 h
  exact Gp n hn (of_decide_eq_true hb)
 refine CW.seq (CW.seq (CW.plain ?_))
 refine go 1 ?_
 refine RL.load (j:=0) rfl rfl rfl rfl fq.out rfl (hH) (dd.sh) rfl ?_
 refine go 3 ?_
 refine CW.eq rfl (fun h4=>?_) (fun h4=>CW.skip ?_)
 refine CW.seq (CW.plain ?_)
 refine go 2 ?_
 exact CW.ret (ret (vs:=[_]) ⟨_,_,rfl,rfl,rfl⟩ (aw.mk cg dd.nil Wy (by rw[eg,if_neg Bv,if_neg bW,if_neg JH,if_pos (by omega)];rfl)))
 refine go 4 ?_
 exact CW.ret (ret (vs:=[_]) ⟨_,_,rfl,rfl,rfl⟩ (aw.mk cg dd.nil Wy (by rw[eg,if_neg Bv,if_neg bW,if_neg JH,if_neg (by omega)];rfl)))
def mu (n:Int):List Int→List Int
 | []=>[n]
 | x::xs=>if n<x then n::x::xs else x::mu n xs
theorem ahn (n:Int) (l:List Int):(mu n l).length=l.length+1:=by
 induction l with
 | nil=>rfl
 | cons x xs ih=>simp only[mu];split<;>simp[ih]
theorem Qu {n:Int}:∀ {l:List Int},l.Pairwise (· < ·)→n∉l→mu n l=lp n l
 | [],_,_=>rfl
 | x::xs,hs,hn=>by
  simp only[List.mem_cons,not_or] at hn
  obtain⟨h1,h2⟩:=List.pairwise_cons.1 hs
  simp only[mu]
  by_cases hx:n<x
  rw[if_pos hx]
  have gx:∀ y∈x::xs,¬ y<n:=fun y hy=>by
   rcases List.mem_cons.1 hy with rfl | hy
   omega
   have:=h1 y hy;omega
  rw[lp,List.filter_eq_nil_iff.2 (fun y hy=>by simpa using gx y hy),List.filter_eq_self.2 (fun y hy=>by simpa using gx y hy),List.nil_append]
  rw[if_neg hx,Qu h2 hn.2]
  have Cv:x<n:=by omega
  simp[lp,List.filter_cons,Cv]
theorem Yk {w:World} {s:aj} {os:List aj} {xs:List Int} {xa:Option Addr} {xc:Nat} {n:Int} (hg:ak w s os) (hx:fD s xa xc xs) (hn:aq .i64 n) (hb:(xs.length+1)*8≤140737488355328) :
  Calls Tryz.prog 51 #[.slice xa xs.length xc,i64 n] w (aw w s os fun s' A v=>s'=s∧∃ a c,v = .slice a (mu n xs).length c∧ib s' A a c (mu n xs)):=by
 have fK:=ahn n xs
 refine enter (l:=[.slice xa xs.length xc,i64 n]) Tryz.func51 rfl Tryz.ntmps51 rfl ?_
 refine go 12 ?_
 refine CW.cx (fun E w'=>∃ A a c out put,E=[(1,i64 n),(5,.slice a out.length c),(6,.bool put)]∧ak w' s (A::os)∧ar w w'∧ib s A a c out∧mu n xs=out++(if put=true then [] else [n])) ?_ ?_
 refine CW.seq (CW.plain ?_)
 refine go 2 ?_
 refine CW.block (CW.loop (σ:=Nat) (fun j E w'=>∃ A a c out put,∃ k:Nat,E=[(0,.slice xa xs.length xc),(1,i64 n),(5,.slice a out.length c),(6,.bool put),(7,i64 k)]∧ak w' s (A::os)∧ar w w'∧ib s A a c out∧k+j=xs.length∧mu n xs=out++(if put=true then xs.drop k else mu n (xs.drop k)))
  (fun j=>j) xs.length [(0,.slice xa xs.length xc),(1,i64 n),(5,.slice none 0 0),(6,.bool false),(7,i64 0)] ⟨rfl,rfl,rfl,rfl,rfl,trivial⟩ ⟨aj.nil,none,0,[],false,0,rfl,hg.nil,ar.refl _,.inl ⟨rfl,rfl,rfl⟩,by omega,by simp⟩ ?_)
 rintro j E w1 ⟨A1,a1,c1,out,put,k,rfl,aH,aN,nU,hk,dO⟩
 refine CW.seq (CW.seq (CW.plain ?_))
 refine go 5 ?_
 refine CW.test rfl (fun h=>CW.skip ?_) (fun h=>CW.exit ?_)
 have cv:k<xs.length:=by omega
 have Vo:xs.drop k=xs[k]::xs.drop (k+1):=List.drop_eq_getElem_cons cv
 have PS:=hx.aq xs[k] (List.getElem_mem cv)
 refine CW.seq (CW.block ?_)
 refine CW.cx (fun E w'=>∃ A a c out put,E=[(0,.slice xa xs.length xc),(1,i64 n),(5,.slice a out.length c),(6,.bool put),(7,i64 k)]∧ak w' s (A::os)∧ar w w'∧ib s A a c out∧mu n xs=out++xs[k]::(if put=true then xs.drop (k+1) else mu n (xs.drop (k+1)))) ?_ ?_
 refine CW.seq (CW.plain ?_)
 refine go 3 ?_
 cases put with
 | true =>
  refine go 8 ?_
  refine CW.no rfl (CW.skip ?_)
  refine fun ac ha=>⟨[(0,.slice xa xs.length xc),(1,i64 n),(5,.slice a1 out.length c1),(6,.bool true),(7,i64 k)],ha.sub ⟨rfl,rfl,rfl,rfl,rfl,trivial⟩,A1,a1,c1,out,true,rfl,aH,aN,nU,?_⟩
  rw[dO,if_pos rfl,if_pos rfl,Vo]
 | false =>
  refine go 2 ?_
  refine RL.cW rfl rfl rfl rfl bC.out rfl rfl (hx) (by omega) (by omega) ?_
  rintro q vs eH hH ⟨rfl,p5⟩
  refine RL.load rfl rfl rfl rfl ey.out rfl (hH) (aH.sh) rfl ?_
  refine go 4 ?_
  have ek:xs[((k:Nat):Int).toNat]'(by omega)=xs[k]:=by simp
  rw[ek]
  rw[if_neg (by decide),Vo,mu] at dO
  refine CW.test rfl (fun GS=>?_) (fun GS=>CW.skip ?_)
  rw[if_pos (by omega)] at dO
  have u_:(mu n xs).length=out.length+(1+(1+(xs.drop (k+1)).length)):=by rw[dO];simp;omega
  refine go 4 ?_
  refine RL.buildSlice rfl rfl rfl rfl bC.out fY.out rfl rfl rfl rfl aH ?_
  rintro b2 w2 aS aR
  refine go 1 ?_
  refine RL.append (i:=1) (ys:=[n]) rfl rfl rfl rfl bC.out fY.out rfl (by first | exact ax.one _ | exact pJ.one | exact pI.one | assumption) rfl rfl aS rfl nU ((cU.slice bC.out rfl (.inr ⟨_,rfl,Holds.one b2 _ 3⟩) aS.1)) ((EM (k:= .i64) (xs:=[n]) (by simpa using hn))) ((by simp;omega)) (by omega) ?_
  rintro a3 c3 A3 w3 aP tE bw pY
  refine go 6 ?_
  refine fun ac ha=>⟨[(0,.slice xa xs.length xc),(1,i64 n),(5,.slice a3 (out++[n]).length c3),(6,.bool true),(7,i64 k)],ha.sub ⟨rfl,rfl,rfl,rfl,rfl,trivial⟩,A3,a3,c3,out++[n],true,rfl,aP.drop,aN.trans (aR.trans bw),tE,?_⟩
  rw[dO,if_pos rfl];simp
  rw[if_neg (by omega)] at dO
  refine fun ac ha=>⟨[(0,.slice xa xs.length xc),(1,i64 n),(5,.slice a1 out.length c1),(6,.bool false),(7,i64 k)],ha.sub ⟨rfl,rfl,rfl,rfl,rfl,trivial⟩,A1,a1,c1,out,false,rfl,aH,aN,nU,?_⟩
  rw[dO,if_neg (by decide)]
 rintro E w4 ⟨A4,a4,c4,out4,put4,rfl,bp,bJ,rl,Vq⟩
 have u_:out4.length+1≤(mu n xs).length:=by rw[Vq];simp
 refine go 4 ?_
 refine RL.cW rfl rfl rfl rfl bC.out rfl rfl (hx) (by omega) (by omega) ?_
 rintro q vs eH hH ⟨rfl,p5⟩
 refine RL.load rfl rfl rfl rfl ey.out rfl (hH) (bp.sh) rfl ?_
 refine RL.buildSlice rfl rfl rfl rfl bC.out fY.out rfl rfl rfl rfl bp ?_
 rintro b5 w5 bh bQ
 refine go 1 ?_
 have ek:xs[((k:Nat):Int).toNat]'(by omega)=xs[k]:=by simp
 refine RL.append (i:=1) (ys:=[xs[k]]) rfl rfl rfl rfl bC.out fY.out rfl (by first | exact ax.one _ | exact pJ.one | exact pI.one | assumption) rfl rfl bh rfl rl ((cU.slice bC.out rfl (.inr ⟨_,rfl,Holds.one b5 _ 3⟩) bh.1)) ((EM (k:= .i64) (xs:=[xs[k]]) (by simpa using PS))) ((by simp;omega)) (by omega) ?_
 rintro a6 c6 A6 w6 bx rm bM zF
 refine go 8 ?_
 cases j with
 | zero=>omega
 | succ j =>
  refine fun ac ha=>⟨j,[(0,.slice xa xs.length xc),(1,i64 n),(5,.slice a6 (out4++[xs[k]]).length c6),(6,.bool put4),(7,i64 ((k:Int)+1))],ha.sub ⟨rfl,rfl,rfl,rfl,rfl,trivial⟩,⟨A6,a6,c6,out4++[xs[k]],put4,k+1,rfl,bx.drop,bJ.trans (bQ.trans bM),rm,by omega,?_⟩,Nat.lt_succ_self j⟩
  rw[Vq];simp
 have cv:k=xs.length:=by omega
 refine fun ac ha=>⟨[(1,i64 n),(5,.slice a1 out.length c1),(6,.bool put)],ha.sub ⟨rfl,rfl,rfl,trivial⟩,A1,a1,c1,out,put,rfl,aH,aN,nU,?_⟩
 rw[dO,cv,List.drop_length];rfl
 rintro E w7 ⟨A7,a7,c7,out,put,rfl,bO,cj,pZ,dO⟩
 refine CW.cx (fun E w'=>∃ A a c,E=[(5,.slice a (mu n xs).length c)]∧ak w' s (A::os)∧ar w w'∧ib s A a c (mu n xs)) ?_ ?_
 refine CW.seq (CW.plain ?_)
 refine go 3 ?_
 cases put with
 | true =>
  refine CW.no rfl (CW.skip ?_)
  rw[if_pos rfl,List.append_nil] at dO
  exact fun ac ha=>⟨[(5,.slice a7 (mu n xs).length c7)],ha.sub ⟨by rw[dO];rfl,trivial⟩,A7,a7,c7,rfl,bO,cj,dO▸pZ⟩
 | false =>
  rw[if_neg (by decide)] at dO
  have u_:(mu n xs).length=out.length+1:=by rw[dO];simp
  refine CW.dZ rfl (CW.plain ?_)
  refine go 2 ?_
  refine RL.buildSlice rfl rfl rfl rfl bC.out fY.out rfl rfl rfl rfl bO ?_
  rintro b8 w8 bD cM
  refine go 1 ?_
  refine RL.append (i:=1) (ys:=[n]) rfl rfl rfl rfl bC.out fY.out rfl (by first | exact ax.one _ | exact pJ.one | exact pI.one | assumption) rfl rfl bD rfl pZ ((cU.slice bC.out rfl (.inr ⟨_,rfl,Holds.one b8 _ 3⟩) bD.1)) ((EM (k:= .i64) (xs:=[n]) (by simpa using hn))) ((by simp;omega)) (by omega) ?_
  rintro a9 c9 A9 w9 bA vg cu VT
  refine go 3 ?_
  exact fun ac ha=>⟨[(5,.slice a9 (mu n xs).length c9)],ha.sub ⟨by rw[dO];rfl,trivial⟩,A9,a9,c9,rfl,bA.drop,cj.trans (cM.trans cu),dO▸vg⟩
 rintro E eX ⟨ob,iI,nI,rfl,bj,cm,pe⟩
 refine go 5 ?_
 exact CW.ret (ret (vs:=[_]) ⟨_,_,rfl,rfl,rfl⟩ (aw.mk (Le.refl _) bj cm ⟨rfl,iI,nI,rfl,pe⟩))
theorem ab9 {n:Int} {xs:List Int} {k:Nat} (hk:k<xs.length):dU n (xs.take (k+1))=dU n (xs.take k)++if xs[k]=n then [] else [xs[k]]:=by
 rw[dU,List.take_succ_eq_append_getElem hk,List.filter_append]
 congr 1
 by_cases h:xs[k]=n<;>simp[h]
theorem DD (n:Int) (xs:List Int):(dU n xs).length≤xs.length:=List.length_filter_le _ _
theorem Ib {w:World} {s:aj} {os:List aj} {xs:List Int} {xa:Option Addr} {xc:Nat} {n:Int} (hg:ak w s os) (hx:fD s xa xc xs) (hb:xs.length*8≤140737488355328) :
  Calls Tryz.prog 52 #[.slice xa xs.length xc,i64 n] w (aw w s os fun s' A v=>s'=s∧∃ a c,v = .slice a (dU n xs).length c∧ib s' A a c (dU n xs)):=by
 refine enter (l:=[.slice xa xs.length xc,i64 n]) Tryz.func52 rfl Tryz.ntmps52 rfl ?_
 refine go 8 ?_
 refine CW.cx (fun E w'=>∃ A a c,E=[(5,.slice a (dU n xs).length c)]∧ak w' s (A::os)∧ar w w'∧ib s A a c (dU n xs)) ?_ ?_
 refine CW.seq (CW.plain ?_)
 refine go 2 ?_
 refine CW.block (CW.loop (σ:=Nat) (fun j E w'=>∃ A a c,∃ k:Nat,E=[(0,.slice xa xs.length xc),(1,i64 n),(5,.slice a (dU n (xs.take k)).length c),(6,i64 k)]∧ak w' s (A::os)∧ar w w'∧ib s A a c (dU n (xs.take k))∧k+j=xs.length)
  (fun j=>j) xs.length [(0,.slice xa xs.length xc),(1,i64 n),(5,.slice none 0 0),(6,i64 0)] ⟨rfl,rfl,rfl,rfl,trivial⟩ ⟨aj.nil,none,0,0,rfl,hg.nil,ar.refl _,.inl ⟨rfl,rfl,rfl⟩,by omega⟩ ?_)
 rintro j E w1 ⟨A1,a1,c1,k,rfl,aH,aN,nU,hk⟩
 refine CW.seq (CW.seq (CW.plain ?_))
 refine go 5 ?_
 refine CW.test rfl (fun h=>CW.skip ?_) (fun h=>CW.exit ?_)
 have cv:k<xs.length:=by omega
 have PS:=hx.aq xs[k] (List.getElem_mem cv)
 have xK:=ab9 (n:=n) cv
 have GG:=DD n (xs.take k)
 have p8:(xs.take k).length=k:=by rw[List.length_take];omega
 have ek:xs[((k:Nat):Int).toNat]'(by omega)=xs[k]:=by simp
 refine CW.seq (CW.block (CW.seq (CW.plain ?_)))
 refine go 2 ?_
 refine RL.cW rfl rfl rfl rfl bC.out rfl rfl (hx) (by omega) (by omega) ?_
 rintro q vs eH hH ⟨rfl,p5⟩
 refine RL.load rfl rfl rfl rfl ey.out rfl (hH) (aH.sh) rfl ?_
 refine go 3 ?_
 rw[ek]
 refine CW.ne rfl (fun bH=>?_) (fun he=>CW.skip ?_)
 rw[if_neg bH] at xK
 refine go 4 ?_
 refine RL.cW rfl rfl rfl rfl bC.out rfl rfl (hx) (by omega) (by omega) ?_
 rintro q2 vs2 oE eS ⟨rfl,agC⟩
 refine RL.load rfl rfl rfl rfl ey.out rfl (eS) (aH.sh) rfl ?_
 refine RL.buildSlice rfl rfl rfl rfl bC.out fY.out rfl rfl rfl rfl aH ?_
 rintro b5 w5 bh bQ
 refine go 1 ?_
 refine RL.append (i:=1) (ys:=[xs[k]]) rfl rfl rfl rfl bC.out fY.out rfl (by first | exact ax.one _ | exact pJ.one | exact pI.one | assumption) rfl rfl bh rfl nU ((cU.slice bC.out rfl (.inr ⟨_,rfl,Holds.one b5 _ 3⟩) bh.1)) ((EM (k:= .i64) (xs:=[xs[k]]) (by simpa using PS))) ((by simp;omega)) (by omega) ?_
 rintro a6 c6 A6 w6 bx rm bM zF
 refine go 3 ?_
 rw[←xK] at rm ⊢
 refine go 5 ?_
 cases j with
 | zero=>omega
 | succ j=>exact fun ac ha=>⟨j,[(0,.slice xa xs.length xc),(1,i64 n),(5,.slice a6 (dU n (xs.take (k+1))).length c6),(6,i64 ((k:Int)+1))],ha.sub ⟨rfl,rfl,rfl,rfl,trivial⟩,⟨A6,a6,c6,k+1,rfl,bx.drop,aN.trans (bQ.trans bM),rm,by omega⟩,Nat.lt_succ_self j⟩
 rw[if_pos he,List.append_nil] at xK
 refine go 5 ?_
 cases j with
 | zero=>omega
 | succ j=>exact fun ac ha=>⟨j,[(0,.slice xa xs.length xc),(1,i64 n),(5,.slice a1 (dU n (xs.take (k+1))).length c1),(6,i64 ((k:Int)+1))],ha.sub ⟨rfl,rfl,by rw[xK];rfl,rfl,trivial⟩,⟨A1,a1,c1,k+1,rfl,aH,aN,xK▸nU,by omega⟩,Nat.lt_succ_self j⟩
 have cv:k=xs.length:=by omega
 rw[cv,List.take_length] at nU
 exact fun ac ha=>⟨[(5,.slice a1 (dU n xs).length c1)],ha.sub ⟨by rw[cv,List.take_length];rfl,trivial⟩,A1,a1,c1,rfl,aH,aN,nU⟩
 rintro E eX ⟨ob,iI,nI,rfl,bj,cm,pe⟩
 refine go 5 ?_
 exact CW.ret (ret (vs:=[_]) ⟨_,_,rfl,rfl,rfl⟩ (aw.mk (Le.refl _) bj cm ⟨rfl,iI,nI,rfl,pe⟩))
end Go.Lw
namespace Go.Lw
open Go.Proofs
theorem IV {w:World} {s:aj} {os:List aj} {vs:List Value} {c:aY} (hg:ak w s os) (hc:fH s vs c) (hb:c.ic) :
  Calls Tryz.prog 81 #[.agg vs.toArray] w (aw w s os fun s' _ r=>∃ us,r = .agg us.toArray∧fH s' us c):=by
 simp only[aY.ic] at hb
 obtain⟨a,ac,b,bc,rfl,i1,i2⟩:=hc
 refine enter (l:=[.agg #[.slice a c.av.length ac,.slice b c.aD.length bc]]) Tryz.func81 rfl Tryz.ntmps81 rfl ?_
 refine go 2 ?_
 refine RL.box rfl rfl rfl rfl rfl hg ?_
 rintro p w0 mL q9
 refine go 1 ?_
 obtain⟨s1,mL,eu,iq⟩:=ak.bY mL
 refine RL.alloc rfl rfl rfl rfl qO.out mL ?_
 rintro r w1 aH aN
 refine go 2 ?_
 have hH:Holds s1 ⟨p,0,none⟩ [.slice a c.av.length ac,.slice b c.aD.length bc]:=(Holds.one p _ _).le iq
 have i1:=i1.up (ax.up _) eu
 have i2:=i2.up (ax.up _) eu
 refine go 1 ?_
 have fj:=aH.drew
 refine CW.lb (.dV [(true,1),(true,2),(true,5),(true,6)] (.dV [(false,0)] (.line [(false,3),(false,4),(false,7),(true,8),(false,9)]) (.line [(false,4),(false,3),(false,7),(true,8),(false,9)])) (.line [(false,4),(false,0),(false,3),(false,7),(true,8),(false,9)])) (fun w=>In s1 w) mixed (by kernel_rfl) (by kernel_rfl) (by kernel_rfl) (by kernel_rfl) (fj.sh) ?_
 refine RT.pre (S:=fun w=>In s1 w) (fj.sh) ?_
 refine go 1 ?_
 refine RL.fV (j:=0) rfl rfl rfl rfl fq.out rfl (hH) (fun w h=>h) rfl ?_
 refine go 1 ?_
 refine RL.fV (j:=1) rfl rfl rfl rfl fq.out rfl (hH) (fun w h=>h) rfl ?_
 refine go 1 ?_
 refine RT.eE (S:=fun w=>In s1 w) (fj.sh) (RT.pre (S:=fun w=>In s1 w) (fj.sh) ?_) (RT.di (S:=fun w=>In s1 w) (fj.sh) ?_)
 refine RL.buildSlice rfl rfl rfl rfl bC.out fY.out rfl rfl rfl rfl fj ?_
 rintro p3 w3 aP bw
 refine⟨aP.sh,?_⟩
 refine go 1 ?_
 refine RT.eE (S:=fun w=>In s1 w) (aP.sh) (RT.di (S:=fun w=>In s1 w) (aP.sh) ?_) (RT.di (S:=fun w=>In s1 w) (aP.sh) ?_)
 obtain⟨XM,HC,GD⟩:=cU.row (c:=ac) bC.out i1.2.2 aP.sh
 refine RL.aC (i:=0) (ys:=c.av) aP HC GD ?_
 rintro a6 c6 A6 w6 bx rm bM zF
 refine⟨bx.sh,?_⟩
 refine RL.buildSlice rfl rfl rfl rfl bC.out fY.out rfl rfl rfl rfl bx ?_
 rintro p7 w7 bO cj
 refine⟨bO.sh,?_⟩
 obtain⟨QT,Cp,BA⟩:=cU.row (c:=bc) bC.out i2.2.2 bO.sh
 refine RL.aC (i:=0) (ys:=c.aD) bO Cp BA ?_
 rintro iI nI ob eX bj pe cm O4
 refine⟨bj.sh,?_⟩
 refine go 1 ?_
 refine RL.sC (i:=2) (j:=0) bj ?_
 rintro iS cy dH
 refine⟨cy.sh,?_⟩
 refine go 1 ?_
 obtain⟨s2,cw,jb,hA⟩:=ak.bY ((cy.ae 0 rfl).ae 1 rfl)
 obtain⟨s3,dd,cO,hB⟩:=ak.bY cw
 exact CW.ret (ret (vs:=[_]) ⟨_,_,_,rfl,rfl,mw iR.out (dq _ _ _) dd.1 rfl,rfl⟩ (aw.mk (eu.trans (jb.trans cO)) dd.drop.nil ((q9.trans (aN.trans (ar.drew _))).trans ((bw).trans ((bM).trans ((cj).trans ((cm).trans (dH)))))) ⟨_,rfl,a6,c6,iI,nI,rfl,rm.ci (ax.up _) (jb.trans cO) (hA.trans cO),pe.ci (ax.up _) (jb.trans cO) hB⟩))
 refine RL.buildSlice rfl rfl rfl rfl bC.out fY.out rfl rfl rfl rfl aP ?_
 rintro p7 w7 bO cj
 refine⟨bO.sh,?_⟩
 obtain⟨XM,HC,GD⟩:=cU.row (c:=ac) bC.out i1.2.2 bO.sh
 refine RL.aC (i:=1) (ys:=c.av) bO HC GD ?_
 rintro a6 c6 A6 w6 bx rm bM zF
 refine⟨bx.sh,?_⟩
 obtain⟨QT,Cp,BA⟩:=cU.row (c:=bc) bC.out i2.2.2 bx.sh
 refine RL.aC (i:=0) (ys:=c.aD) bx Cp BA ?_
 rintro iI nI ob eX bj pe cm O4
 refine⟨bj.sh,?_⟩
 refine go 1 ?_
 refine RL.sC (i:=2) (j:=0) bj ?_
 rintro iS cy dH
 refine⟨cy.sh,?_⟩
 refine go 1 ?_
 obtain⟨s2,cw,jb,hA⟩:=ak.bY ((cy.ae 0 rfl).ae 1 rfl)
 obtain⟨s3,dd,cO,hB⟩:=ak.bY cw
 exact CW.ret (ret (vs:=[_]) ⟨_,_,_,rfl,rfl,mw iR.out (dq _ _ _) dd.1 rfl,rfl⟩ (aw.mk (eu.trans (jb.trans cO)) dd.drop.nil ((q9.trans (aN.trans (ar.drew _))).trans ((bw).trans ((cj).trans ((bM).trans ((cm).trans (dH)))))) ⟨_,rfl,a6,c6,iI,nI,rfl,rm.ci (ax.up _) (jb.trans cO) (hA.trans cO),pe.ci (ax.up _) (jb.trans cO) hB⟩))
 refine RL.buildSlice rfl rfl rfl rfl bC.out fY.out rfl rfl rfl rfl fj ?_
 rintro p7 w7 bO cj
 refine⟨bO.sh,?_⟩
 refine RL.buildSlice rfl rfl rfl rfl bC.out fY.out rfl rfl rfl rfl bO ?_
 rintro p3 w3 aP bw
 refine⟨aP.sh,?_⟩
 obtain⟨XM,HC,GD⟩:=cU.row (c:=ac) bC.out i1.2.2 aP.sh
 refine RL.aC (i:=0) (ys:=c.av) aP HC GD ?_
 rintro a6 c6 A6 w6 bx rm bM zF
 refine⟨bx.sh,?_⟩
 obtain⟨QT,Cp,BA⟩:=cU.row (c:=bc) bC.out i2.2.2 bx.sh
 refine RL.aC (i:=1) (ys:=c.aD) bx Cp BA ?_
 rintro iI nI ob eX bj pe cm O4
 refine⟨bj.sh,?_⟩
 refine go 1 ?_
 refine RL.sC (i:=2) (j:=0) bj ?_
 rintro iS cy dH
 refine⟨cy.sh,?_⟩
 refine go 1 ?_
 obtain⟨s2,cw,jb,hA⟩:=ak.bY ((cy.ae 1 rfl).ae 1 rfl)
 obtain⟨s3,dd,cO,hB⟩:=ak.bY cw
 exact CW.ret (ret (vs:=[_]) ⟨_,_,_,rfl,rfl,mw iR.out (dq _ _ _) dd.1 rfl,rfl⟩ (aw.mk (eu.trans (jb.trans cO)) dd.drop.nil ((q9.trans (aN.trans (ar.drew _))).trans ((cj).trans ((bw).trans ((bM).trans ((cm).trans (dH)))))) ⟨_,rfl,a6,c6,iI,nI,rfl,rm.ci (ax.up _) (jb.trans cO) (hA.trans cO),pe.ci (ax.up _) (jb.trans cO) hB⟩))
end Go.Lw
namespace Go.Lw
open Go.Proofs
theorem ab8 {n:Int} {l:List Int} (h:n∉l):dU n l=l:=List.filter_eq_self.2 (fun x hx=>by
 have:x≠n:=fun e=>h (e▸hx)
 simpa using this)
def uu (s:aj) (v:Value) (r:aY × Int):Prop:=∃ us,v = .tuple #[.agg us.toArray,i64 r.2]∧fH s us r.1
theorem uu.oR {s:aj} {e:Int}:uu s (.tuple #[.agg #[tV,tV],i64 e]) (aY.none,e):=⟨[tV,tV],rfl,none,0,none,0,rfl,bm.nil _ _ _ (Nat.zero_le _),bm.nil _ _ _ (Nat.zero_le _)⟩
theorem ajh {w:World} {s:aj} {os:List aj} {vs:List Value} {c:aY} {k n:Int} (hg:ak w s os) (hc:fH s vs c) (hb:c.ic) (_hk:aq .i64 k) (hn:aq .i64 n) :
  Calls Tryz.prog 23 #[.agg vs.toArray,.agg #[i64 k,i64 n]] w (aw w s os fun s' _ v=>uu s' v (gb c k n)):=by
 have iK:=hc
 have li:=hb
 simp only[aY.ic] at li
 obtain⟨a,ac,b,bc,rfl,i1,i2⟩:=hc
 refine enter (l:=[.agg #[.slice a c.av.length ac,.slice b c.aD.length bc],.agg #[i64 k,i64 n]]) Tryz.func23 rfl Tryz.ntmps23 rfl ?_
 refine go 2 ?_
 refine RL.box rfl rfl rfl rfl rfl hg ?_
 rintro p w0 mL q9
 refine go 1 ?_
 refine RL.box rfl rfl rfl rfl rfl mL ?_
 rintro q w1 aH aN
 refine go 1 ?_
 obtain⟨s1,aH,eu,iq⟩:=ak.bY aH
 obtain⟨s2,aH,jb,pg⟩:=ak.bY aH
 refine RL.alloc rfl rfl rfl rfl qO.out aH ?_
 rintro r w2 aS aR
 refine go 3 ?_
 have hH:Holds s2 ⟨p,0,none⟩ [.slice a c.av.length ac,.slice b c.aD.length bc]:=(Holds.one p _ _).le pg
 have hQ:Holds s2 ⟨q,0,none⟩ [i64 k,i64 n]:=(Holds.one q _ _).le (iq.trans jb)
 have cg:=eu.trans jb
 have gA:=fH.up _ _ _ _ cg iK
 have i1:=i1.up (ax.up _) cg
 have i2:=i2.up (ax.up _) cg
 refine go 2 ?_
 refine RL.gX (j:=0) (us:=[.slice a c.av.length ac,.slice b c.aD.length bc]) rfl rfl rfl rfl iR.out rfl (hH) (aS.sh) rfl rfl ?_
 refine go 1 ?_
 refine zc (aji aS gA hb) ?_
 rintro v3 s3 A3 w3 cO aP bw rfl
 refine go 3 ?_
 have aP:=aP.drop
 have HP:=q9.trans (aN.trans (aR.trans bw))
 have hH:=hH.le cO
 have hQ:=hQ.le cO
 have i1:=i1.up (ax.up _) cO
 have i2:=i2.up (ax.up _) cO
 have cg:=cg.trans cO
 refine CW.seq (CW.seq (CW.plain ?_))
 refine go 3 ?_
 refine CW.ne rfl (fun h0=>?_) (fun h0=>CW.skip ?_)
 refine CW.seq (CW.plain ?_)
 refine go 2 ?_
 refine RL.sC (i:=0) (j:=0) aP ?_
 rintro w4 bp bJ
 refine go 3 ?_
 exact CW.ret (ret (vs:=[_,_]) ⟨_,_,_,rfl,rfl,mw iR.out (dq _ _ _) (bp).1 rfl,_,_,rfl,rfl,rfl⟩ (aw.mk cg bp (HP.trans bJ) (by rw[gb,if_pos h0];exact uu.oR)))
 obtain⟨z1,z2,z3,z4,z5⟩:=yU h0
 refine go 3 ?_
 refine RL.load (j:=1) rfl rfl rfl rfl ey.out rfl (hQ) (aP.sh) rfl ?_
 refine go 1 ?_
 refine zw (Yi aP) ?_
 rintro v4 w4 bp bJ rfl
 refine go 3 ?_
 have Cw:=HP.trans bJ
 refine CW.seq (CW.seq (CW.plain ?_))
 refine go 3 ?_
 refine CW.cond rfl (fun rj=>?_) (fun rj=>CW.skip ?_)
 refine CW.seq (CW.plain ?_)
 refine go 1 ?_
 refine RL.sC (i:=0) (j:=0) bp ?_
 rintro w5 bh bQ
 refine go 3 ?_
 exact CW.ret (ret (vs:=[_,_]) ⟨_,_,_,rfl,rfl,mw iR.out (dq _ _ _) (bh).1 rfl,_,_,rfl,rfl,rfl⟩ (aw.mk cg bh (Cw.trans bQ) (by rw[gb,if_neg (by simpa using h0),if_pos (by simpa using rj)];exact uu.oR)))
 have fm:¬ nm n=false:=by simpa using rj
 have gy:gb c k n=if k=1 then (if n∈c.av∨n∈c.aD then (aY.none,82) else (⟨c.av,lp n c.aD⟩,0))
   else if k=2 then (if n∈c.aD then (⟨lp n c.av,dU n c.aD⟩,0) else (aY.none,83))
   else if k=3 then
    (if n∈c.av∧c.av.length=1 then (aY.none,84)
    else if n∈c.av then (⟨dU n c.av,dU n c.aD⟩,0)
    else if n∈c.aD then (⟨c.av,dU n c.aD⟩,0)
    else (aY.none,83))
   else (aY.none,1):=by rw[gb,if_neg (by simpa using h0),if_neg fm]
 rw[gy]
 refine go 3 ?_
 refine RL.load (j:=0) rfl rfl rfl rfl fq.out rfl (hH) (bp.sh) rfl ?_
 refine go 1 ?_
 refine RL.load (j:=1) rfl rfl rfl rfl ey.out rfl (hQ) (bp.sh) rfl ?_
 refine go 1 ?_
 refine zw (Ri bp i1) ?_
 rintro v5 w5 bh bQ rfl
 refine go 6 ?_
 refine RL.load (j:=1) rfl rfl rfl rfl fq.out rfl (hH) (bh.sh) rfl ?_
 refine go 1 ?_
 refine RL.load (j:=1) rfl rfl rfl rfl ey.out rfl (hQ) (bh.sh) rfl ?_
 refine go 1 ?_
 refine zw (Ri bh i2) ?_
 rintro v6 w6 bx bM rfl
 refine go 3 ?_
 have mR:=Cw.trans (bQ.trans bM)
 have fj:=bx.drew
 refine CW.cx (fun E w'=>∃ s' T t a' c' b' d',E=[(2,ptr p),(3,ptr q),(4,ptr r),(8,.bool (decide (n∈c.av))),(9,.bool (decide (n∈c.aD))),(10,ptr t)]∧T t=some (.cells #[.slice a' c.av.length c',.slice b' c.aD.length d'] 27 (0,0)) ∧
   ak w' s' (T::aj.one r (.cells #[tV,tV] 27)::os)∧Le s3 s'∧ar w w'∧fD s' a' c' c.av∧fD s' b' d' c.aD) ?_ ?_
 refine CW.lb (.dV [(true,1),(true,2),(true,5),(true,6)] (.dV [(false,0)] (.dV [(false,3)] (.dV [(false,4)] (.line [(false,7),(true,8),(false,9),(false,10)]) (.line [(false,9),(false,7),(true,8),(false,10)])) (.line [(false,9),(false,4),(false,7),(true,8),(false,10)])) (.dV [] (.dV [(false,4)] (.dV [(false,3)] (.line [(false,7),(true,8),(false,9),(false,10)]) (.line [(false,9),(false,7),(true,8),(false,10)])) (.line [(false,9),(false,3),(false,7),(true,8),(false,10)])) (.dV [(false,9)] (.line [(false,3),(false,4),(false,7),(true,8),(false,10)]) (.line [(false,4),(false,3),(false,7),(true,8),(false,10)])))) (.dV [] (.dV [(false,4)] (.dV [(false,0)] (.dV [(false,3)] (.line [(false,7),(true,8),(false,9),(false,10)]) (.line [(false,9),(false,7),(true,8),(false,10)])) (.line [(false,9),(false,3),(false,7),(true,8),(false,10)])) (.line [(false,9),(false,0),(false,3),(false,7),(true,8),(false,10)])) (.dV [(false,9)] (.dV [(false,0)] (.line [(false,3),(false,4),(false,7),(true,8),(false,10)]) (.line [(false,4),(false,3),(false,7),(true,8),(false,10)])) (.line [(false,4),(false,0),(false,3),(false,7),(true,8),(false,10)])))) (fun w=>In s3 w) mixed (by kernel_rfl) (by kernel_rfl) (by kernel_rfl) (by kernel_rfl) (fj.sh) ?_
 refine RT.pre (S:=fun w=>In s3 w) (fj.sh) ?_
 refine go 1 ?_
 refine RL.fV (j:=0) rfl rfl rfl rfl fq.out rfl (hH) (fun w h=>h) rfl ?_
 refine go 1 ?_
 refine RL.fV (j:=1) rfl rfl rfl rfl fq.out rfl (hH) (fun w h=>h) rfl ?_
 refine go 1 ?_
 refine RT.eE (S:=fun w=>In s3 w) (fj.sh) (RT.pre (S:=fun w=>In s3 w) (fj.sh) ?_) (RT.pre (S:=fun w=>In s3 w) (fj.sh) ?_)
 refine RL.buildSlice rfl rfl rfl rfl bC.out fY.out rfl rfl rfl rfl fj ?_
 rintro KY qi c_ gR
 refine⟨c_.sh,?_⟩
 refine go 1 ?_
 refine RT.eE (S:=fun w=>In s3 w) (c_.sh) (RT.pre (S:=fun w=>In s3 w) (c_.sh) ?_) (RT.pre (S:=fun w=>In s3 w) (c_.sh) ?_)
 obtain⟨wR,mQ,mK⟩:=cU.row (c:=ac) bC.out i1.2.2 c_.sh
 refine RL.aC (i:=0) (ys:=c.av) c_ mQ mK ?_
 rintro a36 kL qk nz cS kx gS tA
 refine⟨cS.sh,?_⟩
 refine go 1 ?_
 refine RT.eE (S:=fun w=>In s3 w) (cS.sh) (RT.pre (S:=fun w=>In s3 w) (cS.sh) ?_) (RT.di (S:=fun w=>In s3 w) (cS.sh) ?_)
 refine RL.buildSlice rfl rfl rfl rfl bC.out fY.out rfl rfl rfl rfl cS ?_
 rintro Aa qj dh im
 refine⟨dh.sh,?_⟩
 refine go 1 ?_
 refine RT.eE (S:=fun w=>In s3 w) (dh.sh) (RT.di (S:=fun w=>In s3 w) (dh.sh) ?_) (RT.di (S:=fun w=>In s3 w) (dh.sh) ?_)
 obtain⟨rD,jO,jF⟩:=cU.row (c:=bc) bC.out i2.2.2 dh.sh
 refine RL.aC (i:=0) (ys:=c.aD) dh jO jF ?_
 rintro iT iU ql nA en jd gT rg
 refine⟨en.sh,?_⟩
 refine go 1 ?_
 refine RL.alloc rfl rfl rfl rfl qO.out en ?_
 rintro fX eX bj cm
 refine⟨bj.sh,?_⟩
 refine RL.sC (i:=0) (j:=0) bj ?_
 rintro wS er iY
 refine⟨er.sh,?_⟩
 refine go 1 ?_
 obtain⟨sA,jI,dR,hA⟩:=ak.bY (((er.ae 0 rfl).ae 1 rfl).ae 2 rfl)
 obtain⟨sB,jJ,df,hB⟩:=ak.bY jI
 exact fun ac ha=>⟨_,ha.sub (E':=[(2,ptr p),(3,ptr q),(4,ptr r),(8,.bool (decide (n∈c.av))),(9,.bool (decide (n∈c.aD))),(10,ptr fX)]) ⟨rfl,rfl,rfl,rfl,rfl,rfl,trivial⟩,sB,_,fX,a36,kL,iT,iU,rfl,dq _ _ _,jJ,dR.trans df,(mR.trans (ar.drew _)).trans ((gR).trans ((gS).trans ((im).trans ((gT).trans ((cm).trans (iY)))))),kx.ci (ax.up _) (dR.trans df) (hA.trans df),jd.ci (ax.up _) (dR.trans df) hB⟩
 refine RL.alloc rfl rfl rfl rfl qO.out dh ?_
 rintro fX eX bj cm
 refine⟨bj.sh,?_⟩
 obtain⟨rD,jO,jF⟩:=cU.row (c:=bc) bC.out i2.2.2 bj.sh
 refine RL.aC (i:=1) (ys:=c.aD) bj jO jF ?_
 rintro iT iU ql nA en jd gT rg
 refine⟨en.sh,?_⟩
 refine go 1 ?_
 refine RL.sC (i:=0) (j:=0) en ?_
 rintro wS er iY
 refine⟨er.sh,?_⟩
 refine go 1 ?_
 obtain⟨sA,jI,dR,hA⟩:=ak.bY (((er.ae 0 rfl).ae 1 rfl).ae 2 rfl)
 obtain⟨sB,jJ,df,hB⟩:=ak.bY jI
 exact fun ac ha=>⟨_,ha.sub (E':=[(2,ptr p),(3,ptr q),(4,ptr r),(8,.bool (decide (n∈c.av))),(9,.bool (decide (n∈c.aD))),(10,ptr fX)]) ⟨rfl,rfl,rfl,rfl,rfl,rfl,trivial⟩,sB,_,fX,a36,kL,iT,iU,rfl,dq _ _ _,jJ,dR.trans df,(mR.trans (ar.drew _)).trans ((gR).trans ((gS).trans ((im).trans ((cm).trans ((gT).trans (iY)))))),kx.ci (ax.up _) (dR.trans df) (hA.trans df),jd.ci (ax.up _) (dR.trans df) hB⟩
 refine RL.alloc rfl rfl rfl rfl qO.out cS ?_
 rintro fX eX bj cm
 refine⟨bj.sh,?_⟩
 refine RL.buildSlice rfl rfl rfl rfl bC.out fY.out rfl rfl rfl rfl bj ?_
 rintro Aa qj dh im
 refine⟨dh.sh,?_⟩
 obtain⟨rD,jO,jF⟩:=cU.row (c:=bc) bC.out i2.2.2 dh.sh
 refine RL.aC (i:=0) (ys:=c.aD) dh jO jF ?_
 rintro iT iU ql nA en jd gT rg
 refine⟨en.sh,?_⟩
 refine go 1 ?_
 refine RL.sC (i:=1) (j:=0) en ?_
 rintro wS er iY
 refine⟨er.sh,?_⟩
 refine go 1 ?_
 obtain⟨sA,jI,dR,hA⟩:=ak.bY (((er.ae 1 rfl).ae 1 rfl).ae 2 rfl)
 obtain⟨sB,jJ,df,hB⟩:=ak.bY jI
 exact fun ac ha=>⟨_,ha.sub (E':=[(2,ptr p),(3,ptr q),(4,ptr r),(8,.bool (decide (n∈c.av))),(9,.bool (decide (n∈c.aD))),(10,ptr fX)]) ⟨rfl,rfl,rfl,rfl,rfl,rfl,trivial⟩,sB,_,fX,a36,kL,iT,iU,rfl,dq _ _ _,jJ,dR.trans df,(mR.trans (ar.drew _)).trans ((gR).trans ((gS).trans ((cm).trans ((im).trans ((gT).trans (iY)))))),kx.ci (ax.up _) (dR.trans df) (hA.trans df),jd.ci (ax.up _) (dR.trans df) hB⟩
 refine RL.done ?_
 refine RT.eE (S:=fun w=>In s3 w) (c_.sh) (RT.pre (S:=fun w=>In s3 w) (c_.sh) ?_) (RT.pre (S:=fun w=>In s3 w) (c_.sh) ?_)
 refine RL.buildSlice rfl rfl rfl rfl bC.out fY.out rfl rfl rfl rfl c_ ?_
 rintro Aa qj dh im
 refine⟨dh.sh,?_⟩
 refine go 1 ?_
 refine RT.eE (S:=fun w=>In s3 w) (dh.sh) (RT.pre (S:=fun w=>In s3 w) (dh.sh) ?_) (RT.di (S:=fun w=>In s3 w) (dh.sh) ?_)
 obtain⟨wR,mQ,mK⟩:=cU.row (c:=ac) bC.out i1.2.2 dh.sh
 refine RL.aC (i:=1) (ys:=c.av) dh mQ mK ?_
 rintro a36 kL qk nz cS kx gS tA
 refine⟨cS.sh,?_⟩
 refine go 1 ?_
 refine RT.eE (S:=fun w=>In s3 w) (cS.sh) (RT.di (S:=fun w=>In s3 w) (cS.sh) ?_) (RT.di (S:=fun w=>In s3 w) (cS.sh) ?_)
 obtain⟨rD,jO,jF⟩:=cU.row (c:=bc) bC.out i2.2.2 cS.sh
 refine RL.aC (i:=0) (ys:=c.aD) cS jO jF ?_
 rintro iT iU ql nA en jd gT rg
 refine⟨en.sh,?_⟩
 refine go 1 ?_
 refine RL.alloc rfl rfl rfl rfl qO.out en ?_
 rintro fX eX bj cm
 refine⟨bj.sh,?_⟩
 refine RL.sC (i:=0) (j:=0) bj ?_
 rintro wS er iY
 refine⟨er.sh,?_⟩
 refine go 1 ?_
 obtain⟨sA,jI,dR,hA⟩:=ak.bY (((er.ae 0 rfl).ae 1 rfl).ae 2 rfl)
 obtain⟨sB,jJ,df,hB⟩:=ak.bY jI
 exact fun ac ha=>⟨_,ha.sub (E':=[(2,ptr p),(3,ptr q),(4,ptr r),(8,.bool (decide (n∈c.av))),(9,.bool (decide (n∈c.aD))),(10,ptr fX)]) ⟨rfl,rfl,rfl,rfl,rfl,rfl,trivial⟩,sB,_,fX,a36,kL,iT,iU,rfl,dq _ _ _,jJ,dR.trans df,(mR.trans (ar.drew _)).trans ((gR).trans ((im).trans ((gS).trans ((gT).trans ((cm).trans (iY)))))),kx.ci (ax.up _) (dR.trans df) (hA.trans df),jd.ci (ax.up _) (dR.trans df) hB⟩
 refine RL.alloc rfl rfl rfl rfl qO.out cS ?_
 rintro fX eX bj cm
 refine⟨bj.sh,?_⟩
 obtain⟨rD,jO,jF⟩:=cU.row (c:=bc) bC.out i2.2.2 bj.sh
 refine RL.aC (i:=1) (ys:=c.aD) bj jO jF ?_
 rintro iT iU ql nA en jd gT rg
 refine⟨en.sh,?_⟩
 refine go 1 ?_
 refine RL.sC (i:=0) (j:=0) en ?_
 rintro wS er iY
 refine⟨er.sh,?_⟩
 refine go 1 ?_
 obtain⟨sA,jI,dR,hA⟩:=ak.bY (((er.ae 0 rfl).ae 1 rfl).ae 2 rfl)
 obtain⟨sB,jJ,df,hB⟩:=ak.bY jI
 exact fun ac ha=>⟨_,ha.sub (E':=[(2,ptr p),(3,ptr q),(4,ptr r),(8,.bool (decide (n∈c.av))),(9,.bool (decide (n∈c.aD))),(10,ptr fX)]) ⟨rfl,rfl,rfl,rfl,rfl,rfl,trivial⟩,sB,_,fX,a36,kL,iT,iU,rfl,dq _ _ _,jJ,dR.trans df,(mR.trans (ar.drew _)).trans ((gR).trans ((im).trans ((gS).trans ((cm).trans ((gT).trans (iY)))))),kx.ci (ax.up _) (dR.trans df) (hA.trans df),jd.ci (ax.up _) (dR.trans df) hB⟩
 refine RL.alloc rfl rfl rfl rfl qO.out dh ?_
 rintro fX eX bj cm
 refine⟨bj.sh,?_⟩
 obtain⟨wR,mQ,mK⟩:=cU.row (c:=ac) bC.out i1.2.2 bj.sh
 refine RL.aC (i:=2) (ys:=c.av) bj mQ mK ?_
 rintro a36 kL qk nz cS kx gS tA
 refine⟨cS.sh,?_⟩
 obtain⟨rD,jO,jF⟩:=cU.row (c:=bc) bC.out i2.2.2 cS.sh
 refine RL.aC (i:=1) (ys:=c.aD) cS jO jF ?_
 rintro iT iU ql nA en jd gT rg
 refine⟨en.sh,?_⟩
 refine go 1 ?_
 refine RL.sC (i:=0) (j:=0) en ?_
 rintro wS er iY
 refine⟨er.sh,?_⟩
 refine go 1 ?_
 obtain⟨sA,jI,dR,hA⟩:=ak.bY (((er.ae 0 rfl).ae 1 rfl).ae 2 rfl)
 obtain⟨sB,jJ,df,hB⟩:=ak.bY jI
 exact fun ac ha=>⟨_,ha.sub (E':=[(2,ptr p),(3,ptr q),(4,ptr r),(8,.bool (decide (n∈c.av))),(9,.bool (decide (n∈c.aD))),(10,ptr fX)]) ⟨rfl,rfl,rfl,rfl,rfl,rfl,trivial⟩,sB,_,fX,a36,kL,iT,iU,rfl,dq _ _ _,jJ,dR.trans df,(mR.trans (ar.drew _)).trans ((gR).trans ((im).trans ((cm).trans ((gS).trans ((gT).trans (iY)))))),kx.ci (ax.up _) (dR.trans df) (hA.trans df),jd.ci (ax.up _) (dR.trans df) hB⟩
 refine RL.alloc rfl rfl rfl rfl qO.out c_ ?_
 rintro fX eX bj cm
 refine⟨bj.sh,?_⟩
 refine go 1 ?_
 refine RT.eE (S:=fun w=>In s3 w) (bj.sh) (RT.di (S:=fun w=>In s3 w) (bj.sh) ?_) (RT.di (S:=fun w=>In s3 w) (bj.sh) ?_)
 obtain⟨wR,mQ,mK⟩:=cU.row (c:=ac) bC.out i1.2.2 bj.sh
 refine RL.aC (i:=1) (ys:=c.av) bj mQ mK ?_
 rintro a36 kL qk nz cS kx gS tA
 refine⟨cS.sh,?_⟩
 refine RL.buildSlice rfl rfl rfl rfl bC.out fY.out rfl rfl rfl rfl cS ?_
 rintro Aa qj dh im
 refine⟨dh.sh,?_⟩
 obtain⟨rD,jO,jF⟩:=cU.row (c:=bc) bC.out i2.2.2 dh.sh
 refine RL.aC (i:=0) (ys:=c.aD) dh jO jF ?_
 rintro iT iU ql nA en jd gT rg
 refine⟨en.sh,?_⟩
 refine go 1 ?_
 refine RL.sC (i:=1) (j:=0) en ?_
 rintro wS er iY
 refine⟨er.sh,?_⟩
 refine go 1 ?_
 obtain⟨sA,jI,dR,hA⟩:=ak.bY (((er.ae 1 rfl).ae 1 rfl).ae 2 rfl)
 obtain⟨sB,jJ,df,hB⟩:=ak.bY jI
 exact fun ac ha=>⟨_,ha.sub (E':=[(2,ptr p),(3,ptr q),(4,ptr r),(8,.bool (decide (n∈c.av))),(9,.bool (decide (n∈c.aD))),(10,ptr fX)]) ⟨rfl,rfl,rfl,rfl,rfl,rfl,trivial⟩,sB,_,fX,a36,kL,iT,iU,rfl,dq _ _ _,jJ,dR.trans df,(mR.trans (ar.drew _)).trans ((gR).trans ((cm).trans ((gS).trans ((im).trans ((gT).trans (iY)))))),kx.ci (ax.up _) (dR.trans df) (hA.trans df),jd.ci (ax.up _) (dR.trans df) hB⟩
 refine RL.buildSlice rfl rfl rfl rfl bC.out fY.out rfl rfl rfl rfl bj ?_
 rintro Aa qj dh im
 refine⟨dh.sh,?_⟩
 obtain⟨wR,mQ,mK⟩:=cU.row (c:=ac) bC.out i1.2.2 dh.sh
 refine RL.aC (i:=2) (ys:=c.av) dh mQ mK ?_
 rintro a36 kL qk nz cS kx gS tA
 refine⟨cS.sh,?_⟩
 obtain⟨rD,jO,jF⟩:=cU.row (c:=bc) bC.out i2.2.2 cS.sh
 refine RL.aC (i:=0) (ys:=c.aD) cS jO jF ?_
 rintro iT iU ql nA en jd gT rg
 refine⟨en.sh,?_⟩
 refine go 1 ?_
 refine RL.sC (i:=1) (j:=0) en ?_
 rintro wS er iY
 refine⟨er.sh,?_⟩
 refine go 1 ?_
 obtain⟨sA,jI,dR,hA⟩:=ak.bY (((er.ae 1 rfl).ae 1 rfl).ae 2 rfl)
 obtain⟨sB,jJ,df,hB⟩:=ak.bY jI
 exact fun ac ha=>⟨_,ha.sub (E':=[(2,ptr p),(3,ptr q),(4,ptr r),(8,.bool (decide (n∈c.av))),(9,.bool (decide (n∈c.aD))),(10,ptr fX)]) ⟨rfl,rfl,rfl,rfl,rfl,rfl,trivial⟩,sB,_,fX,a36,kL,iT,iU,rfl,dq _ _ _,jJ,dR.trans df,(mR.trans (ar.drew _)).trans ((gR).trans ((cm).trans ((im).trans ((gS).trans ((gT).trans (iY)))))),kx.ci (ax.up _) (dR.trans df) (hA.trans df),jd.ci (ax.up _) (dR.trans df) hB⟩
 refine RL.done ?_
 refine RT.eE (S:=fun w=>In s3 w) (fj.sh) (RT.pre (S:=fun w=>In s3 w) (fj.sh) ?_) (RT.pre (S:=fun w=>In s3 w) (fj.sh) ?_)
 refine RL.buildSlice rfl rfl rfl rfl bC.out fY.out rfl rfl rfl rfl fj ?_
 rintro Aa qj dh im
 refine⟨dh.sh,?_⟩
 refine go 1 ?_
 refine RT.eE (S:=fun w=>In s3 w) (dh.sh) (RT.pre (S:=fun w=>In s3 w) (dh.sh) ?_) (RT.di (S:=fun w=>In s3 w) (dh.sh) ?_)
 refine RL.buildSlice rfl rfl rfl rfl bC.out fY.out rfl rfl rfl rfl dh ?_
 rintro KY qi c_ gR
 refine⟨c_.sh,?_⟩
 refine go 1 ?_
 refine RT.eE (S:=fun w=>In s3 w) (c_.sh) (RT.pre (S:=fun w=>In s3 w) (c_.sh) ?_) (RT.di (S:=fun w=>In s3 w) (c_.sh) ?_)
 obtain⟨wR,mQ,mK⟩:=cU.row (c:=ac) bC.out i1.2.2 c_.sh
 refine RL.aC (i:=0) (ys:=c.av) c_ mQ mK ?_
 rintro a36 kL qk nz cS kx gS tA
 refine⟨cS.sh,?_⟩
 refine go 1 ?_
 refine RT.eE (S:=fun w=>In s3 w) (cS.sh) (RT.di (S:=fun w=>In s3 w) (cS.sh) ?_) (RT.di (S:=fun w=>In s3 w) (cS.sh) ?_)
 obtain⟨rD,jO,jF⟩:=cU.row (c:=bc) bC.out i2.2.2 cS.sh
 refine RL.aC (i:=1) (ys:=c.aD) cS jO jF ?_
 rintro iT iU ql nA en jd gT rg
 refine⟨en.sh,?_⟩
 refine go 1 ?_
 refine RL.alloc rfl rfl rfl rfl qO.out en ?_
 rintro fX eX bj cm
 refine⟨bj.sh,?_⟩
 refine RL.sC (i:=0) (j:=0) bj ?_
 rintro wS er iY
 refine⟨er.sh,?_⟩
 refine go 1 ?_
 obtain⟨sA,jI,dR,hA⟩:=ak.bY (((er.ae 0 rfl).ae 2 rfl).ae 2 rfl)
 obtain⟨sB,jJ,df,hB⟩:=ak.bY jI
 exact fun ac ha=>⟨_,ha.sub (E':=[(2,ptr p),(3,ptr q),(4,ptr r),(8,.bool (decide (n∈c.av))),(9,.bool (decide (n∈c.aD))),(10,ptr fX)]) ⟨rfl,rfl,rfl,rfl,rfl,rfl,trivial⟩,sB,_,fX,a36,kL,iT,iU,rfl,dq _ _ _,jJ,dR.trans df,(mR.trans (ar.drew _)).trans ((im).trans ((gR).trans ((gS).trans ((gT).trans ((cm).trans (iY)))))),kx.ci (ax.up _) (dR.trans df) (hA.trans df),jd.ci (ax.up _) (dR.trans df) hB⟩
 refine RL.alloc rfl rfl rfl rfl qO.out cS ?_
 rintro fX eX bj cm
 refine⟨bj.sh,?_⟩
 obtain⟨rD,jO,jF⟩:=cU.row (c:=bc) bC.out i2.2.2 bj.sh
 refine RL.aC (i:=2) (ys:=c.aD) bj jO jF ?_
 rintro iT iU ql nA en jd gT rg
 refine⟨en.sh,?_⟩
 refine go 1 ?_
 refine RL.sC (i:=0) (j:=0) en ?_
 rintro wS er iY
 refine⟨er.sh,?_⟩
 refine go 1 ?_
 obtain⟨sA,jI,dR,hA⟩:=ak.bY (((er.ae 0 rfl).ae 2 rfl).ae 2 rfl)
 obtain⟨sB,jJ,df,hB⟩:=ak.bY jI
 exact fun ac ha=>⟨_,ha.sub (E':=[(2,ptr p),(3,ptr q),(4,ptr r),(8,.bool (decide (n∈c.av))),(9,.bool (decide (n∈c.aD))),(10,ptr fX)]) ⟨rfl,rfl,rfl,rfl,rfl,rfl,trivial⟩,sB,_,fX,a36,kL,iT,iU,rfl,dq _ _ _,jJ,dR.trans df,(mR.trans (ar.drew _)).trans ((im).trans ((gR).trans ((gS).trans ((cm).trans ((gT).trans (iY)))))),kx.ci (ax.up _) (dR.trans df) (hA.trans df),jd.ci (ax.up _) (dR.trans df) hB⟩
 refine RL.alloc rfl rfl rfl rfl qO.out c_ ?_
 rintro fX eX bj cm
 refine⟨bj.sh,?_⟩
 obtain⟨wR,mQ,mK⟩:=cU.row (c:=ac) bC.out i1.2.2 bj.sh
 refine RL.aC (i:=1) (ys:=c.av) bj mQ mK ?_
 rintro a36 kL qk nz cS kx gS tA
 refine⟨cS.sh,?_⟩
 obtain⟨rD,jO,jF⟩:=cU.row (c:=bc) bC.out i2.2.2 cS.sh
 refine RL.aC (i:=2) (ys:=c.aD) cS jO jF ?_
 rintro iT iU ql nA en jd gT rg
 refine⟨en.sh,?_⟩
 refine go 1 ?_
 refine RL.sC (i:=0) (j:=0) en ?_
 rintro wS er iY
 refine⟨er.sh,?_⟩
 refine go 1 ?_
 obtain⟨sA,jI,dR,hA⟩:=ak.bY (((er.ae 0 rfl).ae 2 rfl).ae 2 rfl)
 obtain⟨sB,jJ,df,hB⟩:=ak.bY jI
 exact fun ac ha=>⟨_,ha.sub (E':=[(2,ptr p),(3,ptr q),(4,ptr r),(8,.bool (decide (n∈c.av))),(9,.bool (decide (n∈c.aD))),(10,ptr fX)]) ⟨rfl,rfl,rfl,rfl,rfl,rfl,trivial⟩,sB,_,fX,a36,kL,iT,iU,rfl,dq _ _ _,jJ,dR.trans df,(mR.trans (ar.drew _)).trans ((im).trans ((gR).trans ((cm).trans ((gS).trans ((gT).trans (iY)))))),kx.ci (ax.up _) (dR.trans df) (hA.trans df),jd.ci (ax.up _) (dR.trans df) hB⟩
 refine RL.alloc rfl rfl rfl rfl qO.out dh ?_
 rintro fX eX bj cm
 refine⟨bj.sh,?_⟩
 refine RL.buildSlice rfl rfl rfl rfl bC.out fY.out rfl rfl rfl rfl bj ?_
 rintro KY qi c_ gR
 refine⟨c_.sh,?_⟩
 obtain⟨wR,mQ,mK⟩:=cU.row (c:=ac) bC.out i1.2.2 c_.sh
 refine RL.aC (i:=0) (ys:=c.av) c_ mQ mK ?_
 rintro a36 kL qk nz cS kx gS tA
 refine⟨cS.sh,?_⟩
 obtain⟨rD,jO,jF⟩:=cU.row (c:=bc) bC.out i2.2.2 cS.sh
 refine RL.aC (i:=2) (ys:=c.aD) cS jO jF ?_
 rintro iT iU ql nA en jd gT rg
 refine⟨en.sh,?_⟩
 refine go 1 ?_
 refine RL.sC (i:=1) (j:=0) en ?_
 rintro wS er iY
 refine⟨er.sh,?_⟩
 refine go 1 ?_
 obtain⟨sA,jI,dR,hA⟩:=ak.bY (((er.ae 1 rfl).ae 2 rfl).ae 2 rfl)
 obtain⟨sB,jJ,df,hB⟩:=ak.bY jI
 exact fun ac ha=>⟨_,ha.sub (E':=[(2,ptr p),(3,ptr q),(4,ptr r),(8,.bool (decide (n∈c.av))),(9,.bool (decide (n∈c.aD))),(10,ptr fX)]) ⟨rfl,rfl,rfl,rfl,rfl,rfl,trivial⟩,sB,_,fX,a36,kL,iT,iU,rfl,dq _ _ _,jJ,dR.trans df,(mR.trans (ar.drew _)).trans ((im).trans ((cm).trans ((gR).trans ((gS).trans ((gT).trans (iY)))))),kx.ci (ax.up _) (dR.trans df) (hA.trans df),jd.ci (ax.up _) (dR.trans df) hB⟩
 refine RL.alloc rfl rfl rfl rfl qO.out fj ?_
 rintro fX eX bj cm
 refine⟨bj.sh,?_⟩
 refine go 1 ?_
 refine RT.eE (S:=fun w=>In s3 w) (bj.sh) (RT.pre (S:=fun w=>In s3 w) (bj.sh) ?_) (RT.di (S:=fun w=>In s3 w) (bj.sh) ?_)
 refine RL.buildSlice rfl rfl rfl rfl bC.out fY.out rfl rfl rfl rfl bj ?_
 rintro KY qi c_ gR
 refine⟨c_.sh,?_⟩
 refine go 1 ?_
 refine RT.eE (S:=fun w=>In s3 w) (c_.sh) (RT.di (S:=fun w=>In s3 w) (c_.sh) ?_) (RT.di (S:=fun w=>In s3 w) (c_.sh) ?_)
 obtain⟨wR,mQ,mK⟩:=cU.row (c:=ac) bC.out i1.2.2 c_.sh
 refine RL.aC (i:=0) (ys:=c.av) c_ mQ mK ?_
 rintro a36 kL qk nz cS kx gS tA
 refine⟨cS.sh,?_⟩
 refine RL.buildSlice rfl rfl rfl rfl bC.out fY.out rfl rfl rfl rfl cS ?_
 rintro Aa qj dh im
 refine⟨dh.sh,?_⟩
 obtain⟨rD,jO,jF⟩:=cU.row (c:=bc) bC.out i2.2.2 dh.sh
 refine RL.aC (i:=0) (ys:=c.aD) dh jO jF ?_
 rintro iT iU ql nA en jd gT rg
 refine⟨en.sh,?_⟩
 refine go 1 ?_
 refine RL.sC (i:=2) (j:=0) en ?_
 rintro wS er iY
 refine⟨er.sh,?_⟩
 refine go 1 ?_
 obtain⟨sA,jI,dR,hA⟩:=ak.bY (((er.ae 2 rfl).ae 1 rfl).ae 2 rfl)
 obtain⟨sB,jJ,df,hB⟩:=ak.bY jI
 exact fun ac ha=>⟨_,ha.sub (E':=[(2,ptr p),(3,ptr q),(4,ptr r),(8,.bool (decide (n∈c.av))),(9,.bool (decide (n∈c.aD))),(10,ptr fX)]) ⟨rfl,rfl,rfl,rfl,rfl,rfl,trivial⟩,sB,_,fX,a36,kL,iT,iU,rfl,dq _ _ _,jJ,dR.trans df,(mR.trans (ar.drew _)).trans ((cm).trans ((gR).trans ((gS).trans ((im).trans ((gT).trans (iY)))))),kx.ci (ax.up _) (dR.trans df) (hA.trans df),jd.ci (ax.up _) (dR.trans df) hB⟩
 refine RL.buildSlice rfl rfl rfl rfl bC.out fY.out rfl rfl rfl rfl c_ ?_
 rintro Aa qj dh im
 refine⟨dh.sh,?_⟩
 obtain⟨wR,mQ,mK⟩:=cU.row (c:=ac) bC.out i1.2.2 dh.sh
 refine RL.aC (i:=1) (ys:=c.av) dh mQ mK ?_
 rintro a36 kL qk nz cS kx gS tA
 refine⟨cS.sh,?_⟩
 obtain⟨rD,jO,jF⟩:=cU.row (c:=bc) bC.out i2.2.2 cS.sh
 refine RL.aC (i:=0) (ys:=c.aD) cS jO jF ?_
 rintro iT iU ql nA en jd gT rg
 refine⟨en.sh,?_⟩
 refine go 1 ?_
 refine RL.sC (i:=2) (j:=0) en ?_
 rintro wS er iY
 refine⟨er.sh,?_⟩
 refine go 1 ?_
 obtain⟨sA,jI,dR,hA⟩:=ak.bY (((er.ae 2 rfl).ae 1 rfl).ae 2 rfl)
 obtain⟨sB,jJ,df,hB⟩:=ak.bY jI
 exact fun ac ha=>⟨_,ha.sub (E':=[(2,ptr p),(3,ptr q),(4,ptr r),(8,.bool (decide (n∈c.av))),(9,.bool (decide (n∈c.aD))),(10,ptr fX)]) ⟨rfl,rfl,rfl,rfl,rfl,rfl,trivial⟩,sB,_,fX,a36,kL,iT,iU,rfl,dq _ _ _,jJ,dR.trans df,(mR.trans (ar.drew _)).trans ((cm).trans ((gR).trans ((im).trans ((gS).trans ((gT).trans (iY)))))),kx.ci (ax.up _) (dR.trans df) (hA.trans df),jd.ci (ax.up _) (dR.trans df) hB⟩
 refine RL.buildSlice rfl rfl rfl rfl bC.out fY.out rfl rfl rfl rfl bj ?_
 rintro Aa qj dh im
 refine⟨dh.sh,?_⟩
 refine RL.buildSlice rfl rfl rfl rfl bC.out fY.out rfl rfl rfl rfl dh ?_
 rintro KY qi c_ gR
 refine⟨c_.sh,?_⟩
 obtain⟨wR,mQ,mK⟩:=cU.row (c:=ac) bC.out i1.2.2 c_.sh
 refine RL.aC (i:=0) (ys:=c.av) c_ mQ mK ?_
 rintro a36 kL qk nz cS kx gS tA
 refine⟨cS.sh,?_⟩
 obtain⟨rD,jO,jF⟩:=cU.row (c:=bc) bC.out i2.2.2 cS.sh
 refine RL.aC (i:=1) (ys:=c.aD) cS jO jF ?_
 rintro iT iU ql nA en jd gT rg
 refine⟨en.sh,?_⟩
 refine go 1 ?_
 refine RL.sC (i:=2) (j:=0) en ?_
 rintro wS er iY
 refine⟨er.sh,?_⟩
 refine go 1 ?_
 obtain⟨sA,jI,dR,hA⟩:=ak.bY (((er.ae 2 rfl).ae 2 rfl).ae 2 rfl)
 obtain⟨sB,jJ,df,hB⟩:=ak.bY jI
 exact fun ac ha=>⟨_,ha.sub (E':=[(2,ptr p),(3,ptr q),(4,ptr r),(8,.bool (decide (n∈c.av))),(9,.bool (decide (n∈c.aD))),(10,ptr fX)]) ⟨rfl,rfl,rfl,rfl,rfl,rfl,trivial⟩,sB,_,fX,a36,kL,iT,iU,rfl,dq _ _ _,jJ,dR.trans df,(mR.trans (ar.drew _)).trans ((cm).trans ((im).trans ((gR).trans ((gS).trans ((gT).trans (iY)))))),kx.ci (ax.up _) (dR.trans df) (hA.trans df),jd.ci (ax.up _) (dR.trans df) hB⟩
 clear mL aH aS aP bp bh bx fj mR
 rintro E w8 ⟨s8,T8,t,a',c',b',d',rfl,JE,bD,kw,kS,j1,j2⟩
 have hH:=hH.le kw
 have hQ:=hQ.le kw
 have i1:=i1.up (ax.up _) kw
 have i2:=i2.up (ax.up _) kw
 have cg:=cg.trans kw
 refine CW.cx (fun E w'=>∃ s' T a' c' b' d',∃ x:aY,E=[(4,ptr r),(10,ptr t)]∧T t=some (.cells #[.slice a' x.av.length c',.slice b' x.aD.length d'] 27 (0,0))∧ak w' s' (T::aj.one r (.cells #[tV,tV] 27)::os)∧Le s8 s'∧ar w w'∧fD s' a' c' x.av∧fD s' b' d' x.aD∧gb c k n=(x,0)) ?_ ?_
 refine CW.seq (CW.plain ?_)
 refine go 1 ?_
 refine RL.load (j:=0) rfl rfl rfl rfl Zi.out rfl (hQ) (bD.sh) rfl ?_
 refine go 1 ?_
 refine CW.block (CW.seq (CW.plain ?_))
 refine go 3 ?_
 refine CW.eq rfl (fun k1=>?_) (fun k1=>?_)
 rw[if_pos k1] at gy ⊢
 refine CW.seq (CW.seq (CW.plain ?_))
 refine go 2 ?_
 refine RL.part 48 rfl (fun h1=>?_) (fun h1=>?_)
 refine RL.pass rfl rfl rfl ?_
 refine go 2 ?_
 refine CW.dZ rfl (CW.seq (CW.plain ?_))
 refine go 1 ?_
 refine RL.sC (i:=1) (j:=0) bD ?_
 rintro w9 bA cu
 refine go 3 ?_
 exact CW.ret (ret (vs:=[_,_]) ⟨_,_,_,rfl,rfl,mw iR.out (dq _ _ _) (bA).drop.1 rfl,_,_,rfl,rfl,rfl⟩ (aw.mk cg (bA).drop (kS.trans cu) (by rw[if_pos (.inl (of_decide_eq_true h1))];exact uu.oR)))
 have h1:=of_decide_eq_false h1
 refine go 3 ?_
 refine CW.cond rfl (fun h2=>?_) (fun h2=>CW.skip ?_)
 refine CW.seq (CW.plain ?_)
 refine go 1 ?_
 refine RL.sC (i:=1) (j:=0) bD ?_
 rintro w9 bA cu
 refine go 3 ?_
 exact CW.ret (ret (vs:=[_,_]) ⟨_,_,_,rfl,rfl,mw iR.out (dq _ _ _) (bA).drop.1 rfl,_,_,rfl,rfl,rfl⟩ (aw.mk cg (bA).drop (kS.trans cu) (by rw[if_pos (.inr (of_decide_eq_true h2))];exact uu.oR)))
 have h2:=of_decide_eq_false h2
 rw[if_neg (show ¬ (n∈c.av∨n∈c.aD) from fun h=>h.elim h1 h2),← Qu z3 h2] at gy
 refine go 2 ?_
 refine RL.load (j:=1) rfl rfl rfl rfl fq.out rfl (hH) (bD.sh) rfl ?_
 refine go 1 ?_
 refine RL.load (j:=1) rfl rfl rfl rfl ey.out rfl (hQ) (bD.sh) rfl ?_
 refine go 1 ?_
 refine zc (Yk bD i2 hn (by omega)) ?_
 rintro v9 s9 A9 w9 jc bA cu ⟨rfl,a9,c9,rfl,vg⟩
 refine go 2 ?_
 refine RL.store (i:=1) (j:=1) rfl rfl rfl fq.out rfl rfl bA rfl (JE) rfl (by first | (simp[Value.cells,Value.oneCell'];done) | simp[Value.cells,Value.oneCell',lx]) (by first | exact Nat.le_of_ble_eq_true rfl | (simp;done) | (simp;omega) | omega) ?_
 rintro eX bj cm
 refine go 2 ?_
 obtain⟨mA,cy,dy,Bm⟩:=ak.bY bj
 exact fun ac ha=>⟨_,ha.sub (E':=[(4,ptr r),(10,ptr t)]) ⟨rfl,rfl,trivial⟩,mA,_,a',c',a9,c9,⟨c.av,mu n c.aD⟩,rfl,dq _ _ _,cy,dy,kS.trans (cu.trans cm),j1.up (ax.up _) dy,vg.ci (ax.up _) dy Bm,gy⟩
 rw[if_neg k1] at gy ⊢
 refine go 5 ?_
 refine CW.eq rfl (fun k2=>?_) (fun k2=>?_)
 rw[if_pos k2] at gy ⊢
 refine CW.seq (CW.seq (CW.plain ?_))
 refine go 3 ?_
 refine CW.cond rfl (fun h1=>?_) (fun h1=>CW.skip ?_)
 have h1:n∉c.aD:=by simpa using h1
 refine go 3 ?_
 refine RL.sC (i:=1) (j:=0) bD ?_
 rintro w9 bA cu
 refine go 3 ?_
 exact CW.ret (ret (vs:=[_,_]) ⟨_,_,_,rfl,rfl,mw iR.out (dq _ _ _) (bA).drop.1 rfl,_,_,rfl,rfl,rfl⟩ (aw.mk cg (bA).drop (kS.trans cu) (by rw[if_neg h1];exact uu.oR)))
 have h1:n∈c.aD:=by simpa using h1
 have hv:n∉c.av:=fun h=>z4 n h h1
 rw[if_pos h1,← Qu z2 hv] at gy
 refine go 3 ?_
 refine RL.load (j:=1) rfl rfl rfl rfl fq.out rfl (hH) (bD.sh) rfl ?_
 refine go 1 ?_
 refine RL.load (j:=1) rfl rfl rfl rfl ey.out rfl (hQ) (bD.sh) rfl ?_
 refine go 1 ?_
 refine zc (Ib bD i2 (by omega)) ?_
 rintro v9 s9 A9 w9 jc bA cu ⟨rfl,a9,c9,rfl,vg⟩
 refine go 2 ?_
 refine RL.store (i:=1) (j:=1) rfl rfl rfl fq.out rfl rfl bA rfl (JE) rfl (by first | (simp[Value.cells,Value.oneCell'];done) | simp[Value.cells,Value.oneCell',lx]) (by first | exact Nat.le_of_ble_eq_true rfl | (simp;done) | (simp;omega) | omega) ?_
 rintro eX bj cm
 refine go 2 ?_
 obtain⟨mA,cy,dy,Bm⟩:=ak.bY bj
 have i1':=i1.up (ax.up _) dy
 refine go 2 ?_
 refine RL.load (j:=0) rfl rfl rfl rfl fq.out rfl (hH.le dy) (cy.sh) rfl ?_
 refine go 1 ?_
 refine RL.load (j:=1) rfl rfl rfl rfl ey.out rfl (hQ.le dy) (cy.sh) rfl ?_
 refine go 1 ?_
 refine zc (Yk cy i1' hn (by omega)) ?_
 rintro ui t_ An jA nh cw dK ⟨rfl,Dn,FP,rfl,vf⟩
 refine go 2 ?_
 refine RL.store (i:=1) (j:=0) rfl rfl rfl fq.out rfl rfl cw rfl (dq _ _ _) rfl (by first | (simp[Value.cells,Value.oneCell'];done) | simp[Value.cells,Value.oneCell',lx]) (by first | exact Nat.le_of_ble_eq_true rfl | (simp;done) | (simp;omega) | omega) ?_
 rintro ji dd eh
 refine go 2 ?_
 obtain⟨vE,ck,gm,xD⟩:=ak.bY dd
 exact fun ac ha=>⟨_,ha.sub (E':=[(4,ptr r),(10,ptr t)]) ⟨rfl,rfl,trivial⟩,vE,_,Dn,FP,a9,c9,⟨mu n c.av,dU n c.aD⟩,rfl,dq _ _ _,ck,dy.trans gm,kS.trans (cu.trans (cm.trans (dK.trans eh))),vf.ci (ax.up _) gm xD,(vg.ci (ax.up _) dy Bm).up (ax.up _) gm,gy⟩
 rw[if_neg k2] at gy ⊢
 refine go 5 ?_
 refine CW.eq rfl (fun k3=>?_) (fun k3=>?_)
 case refine_2 =>
  refine go 3 ?_
  refine RL.sC (i:=1) (j:=0) bD ?_
  rintro w9 bA cu
  refine go 3 ?_
  exact CW.ret (ret (vs:=[_,_]) ⟨_,_,_,rfl,rfl,mw iR.out (dq _ _ _) (bA).drop.1 rfl,_,_,rfl,rfl,rfl⟩ (aw.mk cg (bA).drop (kS.trans cu) (by rw[if_neg k3];exact uu.oR)))
 rw[if_pos k3] at gy ⊢
 -- eE lists without it
 have eE:(if n∈c.av∧c.av.length=1 then (aY.none,(84:Int)) else if n∈c.av then (⟨dU n c.av,dU n c.aD⟩,0) else if n∈c.aD then (⟨c.av,dU n c.aD⟩,0) else (aY.none,83))
   = if n∉c.av∧n∉c.aD then (aY.none,83) else if n∈c.av∧c.av.length=1 then (aY.none,84) else (⟨dU n c.av,dU n c.aD⟩,0):=by
  by_cases h1:n∈c.av
  rw[if_pos h1,if_neg (fun h:n∉c.av∧n∉c.aD=>h.1 h1)]
  rw[if_neg (fun h:n∈c.av∧_=>h1 h.1),if_neg h1]
  by_cases h2:n∈c.aD
  rw[if_pos h2,if_neg (fun h:n∉c.av∧n∉c.aD=>h.2 h2),if_neg (fun h:n∈c.av∧_=>h1 h.1),ab8 h1]
  rw[if_neg h2,if_pos ⟨h1,h2⟩]
 rw[eE] at gy ⊢
 clear eE
 refine CW.seq (CW.seq (CW.plain ?_))
 refine go 3 ?_
 refine RL.part 79 rfl (fun h1=>?_) (fun h1=>?_)
 have h1:n∉c.av:=by simpa using h1
 refine go 4 ?_
 refine CW.cond rfl (fun h2=>?_) (fun h2=>CW.skip ?_)
 have h2:n∉c.aD:=by simpa using h2
 refine go 3 ?_
 refine RL.sC (i:=1) (j:=0) bD ?_
 rintro w9 bA cu
 refine go 3 ?_
 exact CW.ret (ret (vs:=[_,_]) ⟨_,_,_,rfl,rfl,mw iR.out (dq _ _ _) (bA).drop.1 rfl,_,_,rfl,rfl,rfl⟩ (aw.mk cg (bA).drop (kS.trans cu) (by rw[if_pos ⟨h1,h2⟩];exact uu.oR)))
 have h2:n∈c.aD:=by simpa using h2
 rw[if_neg (fun h:n∉c.av∧n∉c.aD=>h.2 h2),if_neg (fun h:n∈c.av∧_=>h1 h.1)] at gy
 refine CW.seq (CW.seq (CW.plain ?_))
 refine go 2 ?_
 refine RL.part 85 rfl (fun h=>absurd (of_decide_eq_true h) h1) (fun _=>?_)
 refine go 6 ?_
 refine CW.no rfl (CW.skip ?_)
 refine go 3 ?_
 refine RL.load (j:=0) rfl rfl rfl rfl fq.out rfl (hH) (bD.sh) rfl ?_
 refine go 1 ?_
 refine RL.load (j:=1) rfl rfl rfl rfl ey.out rfl (hQ) (bD.sh) rfl ?_
 refine go 1 ?_
 refine zc (Ib bD i1 (by omega)) ?_
 rintro v9 s9 A9 w9 jc bA cu ⟨rfl,a9,c9,rfl,vg⟩
 refine go 2 ?_
 refine RL.store (i:=1) (j:=0) rfl rfl rfl fq.out rfl rfl bA rfl (JE) rfl (by first | (simp[Value.cells,Value.oneCell'];done) | simp[Value.cells,Value.oneCell',lx]) (by first | exact Nat.le_of_ble_eq_true rfl | (simp;done) | (simp;omega) | omega) ?_
 rintro eX bj cm
 refine go 2 ?_
 obtain⟨mA,cy,dy,Bm⟩:=ak.bY bj
 have i2':=i2.up (ax.up _) dy
 refine go 2 ?_
 refine RL.load (j:=1) rfl rfl rfl rfl fq.out rfl (hH.le dy) (cy.sh) rfl ?_
 refine go 1 ?_
 refine RL.load (j:=1) rfl rfl rfl rfl ey.out rfl (hQ.le dy) (cy.sh) rfl ?_
 refine go 1 ?_
 refine zc (Ib cy i2' (by omega)) ?_
 rintro ui t_ An jA nh cw dK ⟨rfl,Dn,FP,rfl,vf⟩
 refine go 2 ?_
 refine RL.store (i:=1) (j:=1) rfl rfl rfl fq.out rfl rfl cw rfl (dq _ _ _) rfl (by first | (simp[Value.cells,Value.oneCell'];done) | simp[Value.cells,Value.oneCell',lx]) (by first | exact Nat.le_of_ble_eq_true rfl | (simp;done) | (simp;omega) | omega) ?_
 rintro ji dd eh
 refine go 2 ?_
 obtain⟨vE,ck,gm,xD⟩:=ak.bY dd
 exact fun ac ha=>⟨_,ha.sub (E':=[(4,ptr r),(10,ptr t)]) ⟨rfl,rfl,trivial⟩,vE,_,a9,c9,Dn,FP,⟨dU n c.av,dU n c.aD⟩,rfl,dq _ _ _,ck,dy.trans gm,kS.trans (cu.trans (cm.trans (dK.trans eh))),(vg.ci (ax.up _) dy Bm).up (ax.up _) gm,vf.ci (ax.up _) gm xD,gy⟩
 have h1:n∈c.av:=by simpa using h1
 rw[if_neg (fun h:n∉c.av∧n∉c.aD=>h.1 h1)] at gy ⊢
 refine go 4 ?_
 refine CW.no rfl (CW.skip ?_)
 refine CW.seq (CW.seq (CW.plain ?_))
 refine go 2 ?_
 refine RL.part 85 rfl (fun _=>?_) (fun h=>absurd h1 (of_decide_eq_false h))
 refine go 1 ?_
 refine RL.load (j:=0) rfl rfl rfl rfl fq.out rfl (hH) (bD.sh) rfl ?_
 refine go 4 ?_
 refine CW.eq rfl (fun h3=>?_) (fun h3=>CW.skip ?_)
 refine CW.seq (CW.plain ?_)
 refine go 1 ?_
 refine RL.sC (i:=1) (j:=0) bD ?_
 rintro w9 bA cu
 refine go 3 ?_
 exact CW.ret (ret (vs:=[_,_]) ⟨_,_,_,rfl,rfl,mw iR.out (dq _ _ _) (bA).drop.1 rfl,_,_,rfl,rfl,rfl⟩ (aw.mk cg (bA).drop (kS.trans cu) (by rw[if_pos ⟨h1,by omega⟩];exact uu.oR)))
 rw[if_neg (fun h:n∈c.av∧c.av.length=1=>h3 (by omega))] at gy
 refine go 3 ?_
 refine RL.load (j:=0) rfl rfl rfl rfl fq.out rfl (hH) (bD.sh) rfl ?_
 refine go 1 ?_
 refine RL.load (j:=1) rfl rfl rfl rfl ey.out rfl (hQ) (bD.sh) rfl ?_
 refine go 1 ?_
 refine zc (Ib bD i1 (by omega)) ?_
 rintro v9 s9 A9 w9 jc bA cu ⟨rfl,a9,c9,rfl,vg⟩
 refine go 2 ?_
 refine RL.store (i:=1) (j:=0) rfl rfl rfl fq.out rfl rfl bA rfl (JE) rfl (by first | (simp[Value.cells,Value.oneCell'];done) | simp[Value.cells,Value.oneCell',lx]) (by first | exact Nat.le_of_ble_eq_true rfl | (simp;done) | (simp;omega) | omega) ?_
 rintro eX bj cm
 refine go 2 ?_
 obtain⟨mA,cy,dy,Bm⟩:=ak.bY bj
 have i2':=i2.up (ax.up _) dy
 refine go 2 ?_
 refine RL.load (j:=1) rfl rfl rfl rfl fq.out rfl (hH.le dy) (cy.sh) rfl ?_
 refine go 1 ?_
 refine RL.load (j:=1) rfl rfl rfl rfl ey.out rfl (hQ.le dy) (cy.sh) rfl ?_
 refine go 1 ?_
 refine zc (Ib cy i2' (by omega)) ?_
 rintro ui t_ An jA nh cw dK ⟨rfl,Dn,FP,rfl,vf⟩
 refine go 2 ?_
 refine RL.store (i:=1) (j:=1) rfl rfl rfl fq.out rfl rfl cw rfl (dq _ _ _) rfl (by first | (simp[Value.cells,Value.oneCell'];done) | simp[Value.cells,Value.oneCell',lx]) (by first | exact Nat.le_of_ble_eq_true rfl | (simp;done) | (simp;omega) | omega) ?_
 rintro ji dd eh
 refine go 2 ?_
 obtain⟨vE,ck,gm,xD⟩:=ak.bY dd
 exact fun ac ha=>⟨_,ha.sub (E':=[(4,ptr r),(10,ptr t)]) ⟨rfl,rfl,trivial⟩,vE,_,a9,c9,Dn,FP,⟨dU n c.av,dU n c.aD⟩,rfl,dq _ _ _,ck,dy.trans gm,kS.trans (cu.trans (cm.trans (dK.trans eh))),(vg.ci (ax.up _) dy Bm).up (ax.up _) gm,vf.ci (ax.up _) gm xD,gy⟩
 rintro E qh ⟨Ii,T20,I4,Je,th,d20,x,rfl,adA,e_,tB,jE,Pn,PC,Qm⟩
 rw[←gy,Qm]
 refine go 2 ?_
 refine RL.gX (j:=0) (us:=[.slice I4 x.av.length Je,.slice th x.aD.length d20]) rfl rfl rfl rfl iR.out rfl (Holds.of adA) (e_.1) rfl rfl ?_
 refine RL.sC (i:=1) (j:=0) e_ ?_
 rintro oN fv iX
 refine go 3 ?_
 exact CW.ret (ret (vs:=[_,_]) ⟨_,_,_,rfl,rfl,mw iR.out (dq _ _ _) fv.drop.1 rfl,_,_,rfl,rfl,rfl⟩ (aw.mk (cg.trans tB) fv.drop (jE.trans iX) ⟨_,rfl,I4,Je,th,d20,rfl,Pn,PC⟩))
end Go.Lw
namespace Go.Lw
open Go.Proofs
structure L0 where
 ao:Int
 node:Int
def og:aj→List Value→L0→Prop:=fun _ vs x=>vs=[i64 x.ao,i64 x.node]∧aq .i64 x.ao∧aq .i64 x.node
theorem og.up:Up og:=fun _ _ _ _ _ h=>h
end Go.Lw
namespace Go.Lw
open Go.Proofs
theorem YX:∀ {xs ys:List Int},xs.Pairwise (· < ·)→ys.Pairwise (· < ·)→(∀ x,x∈xs↔x∈ys)→xs=ys
 | [],[],_,_,_=>rfl
 | [],y::ys,_,_,h=>absurd ((h y).2 (by simp)) (by simp)
 | x::xs,[],_,_,h=>absurd ((h x).1 (by simp)) (by simp)
 | x::xs,y::ys,hx,hy,h=>by
  obtain⟨h1,h2⟩:=List.pairwise_cons.1 hx
  obtain⟨k1,k2⟩:=List.pairwise_cons.1 hy
  have WH:x=y:=by
   rcases List.mem_cons.1 ((h x).1 (by simp)) with e | hm
   exact e
   rcases List.mem_cons.1 ((h y).2 (by simp)) with e | mN
   exact e.symm
   have:=k1 x hm;have:=h1 y mN;omega
  subst WH
  rw[YX h2 k2 fun z=>?_]
  constructor
  intro hz
  rcases List.mem_cons.1 ((h z).1 (by simp[hz])) with e | hm
  have:=h1 z hz;omega
  exact hm
  intro hz
  rcases List.mem_cons.1 ((h z).2 (by simp[hz])) with e | hm
  have:=k1 z hz;omega
  exact hm
theorem wF {n x:Int} {l:List Int}:x∈lp n l↔x=n∨x∈l:=by
 simp only[lp,List.mem_append,List.mem_cons,List.mem_filter,decide_eq_true_eq,Bool.not_eq_true',decide_eq_false_iff_not]
 by_cases h:x<n<;>simp[h]
 constructor
 rintro (h1 | h1)<;>simp[h1]
 rintro (h1 | h1)<;>simp[h1]
theorem WV {n:Int} {l:List Int} (hs:l.Pairwise (· < ·)) (hn:n∉l):(lp n l).Pairwise (· < ·):=by
 rw[lp,List.pairwise_append]
 refine⟨hs.filter _,?_,?_⟩
 rw[List.pairwise_cons]
 refine⟨fun x hx=>?_,hs.filter _⟩
 simp only[List.mem_filter,Bool.not_eq_true',decide_eq_false_iff_not] at hx
 have:x≠n:=fun e=>hn (e▸hx.1)
 omega
 intro x hx y hy
 simp only[List.mem_filter,decide_eq_true_eq] at hx
 rcases List.mem_cons.1 hy with rfl | hy
 exact hx.2
 simp only[List.mem_filter,Bool.not_eq_true',decide_eq_false_iff_not] at hy
 omega
theorem m8 {n x:Int} {l:List Int}:x∈dU n l↔x∈l∧x≠n:=by simp[dU]
def oI (c:aY) (n:Int):List Int:=cZ (dU n (c.av++c.aD))
theorem aaA {w:World} {s:aj} {os:List aj} {vs:List Value} {c:aY} {n:Int} (hg:ak w s os) (hc:fH s vs c) (hb:c.ic) :
  Calls Tryz.prog 142 #[.agg vs.toArray,i64 n] w (aw w s os fun s' A v=>∃ a d,v = .slice a (oI c n).length d∧ib s' A a d (oI c n)):=by
 simp only[aY.ic] at hb
 obtain⟨a,ac,b,bc,rfl,i1,i2⟩:=hc
 refine enter (l:=[.agg #[.slice a c.av.length ac,.slice b c.aD.length bc],i64 n]) Tryz.func142 rfl Tryz.ntmps142 rfl ?_
 refine go 2 ?_
 refine RL.box rfl rfl rfl rfl rfl hg ?_
 rintro p w1 aH aN
 refine go 3 ?_
 obtain⟨s1,aH,eu,iq⟩:=ak.bY aH
 have hH:Holds s1 ⟨p,0,none⟩ [.slice a c.av.length ac,.slice b c.aD.length bc]:=(Holds.one p _ _).le iq
 have i1:=i1.up (ax.up _) eu
 have i2:=i2.up (ax.up _) eu
 have Gn:(c.av++c.aD).length=c.av.length+c.aD.length:=List.length_append
 refine go 3 ?_
 refine RL.load (j:=0) rfl rfl rfl rfl fq.out rfl (hH) (aH.sh) rfl ?_
 refine go 1 ?_
 refine RL.load (j:=1) rfl rfl rfl rfl fq.out rfl (hH) (aH.sh) rfl ?_
 refine RL.buildSlice rfl rfl rfl rfl Lm.out ZJ.out rfl rfl rfl rfl aH ?_
 rintro p2 w2 aS aR
 refine go 1 ?_
 obtain⟨s3,aP,cO,PI⟩:=ak.bY aS
 refine go 1 ?_
 refine zc (Sf aP (i1.up (ax.up _) cO) (i2.up (ax.up _) cO) (if_pos rfl) PI (by omega)) ?_
 rintro v4 s4 A4 w4 fL bp bJ ⟨rfl,a4,c4,rfl,rl⟩
 refine go 1 ?_
 obtain⟨s5,bh,dz,uF⟩:=ak.bY bp
 have gU:=rl.ci (ax.up _) dz uF
 refine go 2 ?_
 refine zc (II bh gU (by omega)) ?_
 rintro v6 s6 A6 w6 jv bx bM ⟨a6,c6,rfl,rm⟩
 refine go 3 ?_
 have GG:=DD n (c.av++c.aD)
 refine go 4 ?_
 refine zc (SD bx rm (by omega)) ?_
 rintro v7 s7 A7 w7 jK bO cj ⟨rfl,rfl,pZ⟩
 refine go 6 ?_
 refine zc (Se bO pZ (HY _).symm) ?_
 rintro v8 s8 A8 w8 kw bD cM ⟨rfl,rfl,pf⟩
 refine go 3 ?_
 exact CW.ret (ret (vs:=[_]) ⟨_,_,rfl,rfl,rfl⟩ (aw.mk (eu.trans (cO.trans (dz.trans jv))) bD (aN.trans (aR.trans (bJ.trans (bM.trans (cj.trans cM))))) ⟨a6,c6,rfl,pf⟩))
end Go.Lw
namespace Go.Lw
structure az where
 ao:Int
 am:Int
 to:Int
 ab:Int
 index:Int
 cn:Int
 entries:List aA
 aB:Int
 bT:Bool
 hint:Int
 aJ:aY
 data:List Int
 done:Bool
structure xh where
 ab:Int
 aT:Int
 aB:Int
 deriving DecidableEq
structure fG where
 index:Int
 ab:Int
 data:List Int
structure aU where
 id:Int
 af:xh
 ah:br
 aO:Int
 gq:Int
 cB:List nD
 aK:List cK
 bi:Int
 fQ:Int
 eW:Int
 part:fG
structure bz where
 cut:Int
 entries:List aA
 Ae:Bool
 dY:Bool
 aG:List az
 index:Int
 ab:Int
structure ai where
 s:aU
 o:bz
structure ez where
 ao:Int
 sS:Int
 cr:az
 data:List Int
 kZ:Int
 k9:Int
 to:Int
def az.zero:az:=⟨0,0,0,0,0,0,[],0,false,0,⟨[],[]⟩,[],false⟩
def fG.zero:fG:=⟨0,0,[]⟩
def aU.zero:aU:=⟨0,⟨0,0,0⟩,⟨⟨0,0,⟨[],[]⟩,[]⟩,[]⟩,0,0,[],[],0,0,0,⟨0,0,[]⟩⟩
def bz.zero:bz:=⟨0,[],false,false,[],0,0⟩
def eo:Int:=2305843009213693952
abbrev u64 (n:Int):Value:= .int .u64 n
structure cG where
 ea:Option Addr
 ec:Nat
 va:Option Addr
 vc:Nat
 la:Option Addr
 lc:Nat
 da:Option Addr
 dc:Nat
abbrev gZ (m:az) (y:cG):List Value:=[i64 m.ao,i64 m.am,i64 m.to,u64 m.ab,u64 m.index,u64 m.cn,.slice y.ea m.entries.length y.ec,u64 m.aB,.bool m.bT,u64 m.hint,.slice y.va m.aJ.av.length y.vc,.slice y.la m.aJ.aD.length y.lc,.slice y.da m.data.length y.dc,.bool m.done]
structure du (s:aj) (m:az) (y:cG):Prop where
 ao:aq .i64 m.ao
 am:aq .i64 m.am
 to:aq .i64 m.to
 ab:aq .u64 m.ab
 index:aq .u64 m.index
 cn:aq .u64 m.cn
 aB:aq .u64 m.aB
 hint:aq .u64 m.hint
 entries:bm bg 6 s y.ea y.ec m.entries
 av:bm (ax .i64) 1 s y.va y.vc m.aJ.av
 aD:bm (ax .i64) 1 s y.la y.lc m.aJ.aD
 data:bm (ax .u8) 1 s y.da y.dc m.data
theorem du.up {s s':aj} {m:az} {y:cG} (h:du s m y) (hl:Le s s'):du s' m y :=
 { h with entries:=h.entries.up bg.up hl,av:=h.av.up (ax.up _) hl,aD:=h.aD.up (ax.up _) hl,data:=h.data.up (ax.up _) hl }
theorem du.aJ {s:aj} {m:az} {y:cG} (h:du s m y):fH s [.slice y.va m.aJ.av.length y.vc,.slice y.la m.aJ.aD.length y.lc] m.aJ:=⟨_,_,_,_,rfl,h.av,h.aD⟩
def iH:aj→List Value→az→Prop:=fun s vs m=>∃ y,vs=gZ m y∧du s m y
theorem iH.up:Up iH:=fun _ _ _ _ hl ⟨y,h,h1⟩=>⟨y,h,h1.up hl⟩
theorem iH.one:lN iH:=fun _ _ _ ⟨y,h,_⟩ v hv=>by
 subst h
 simp only[List.mem_cons,List.not_mem_nil,or_false] at hv
 rcases hv with rfl | rfl | rfl | rfl | rfl | rfl | rfl | rfl | rfl | rfl | rfl | rfl | rfl | rfl<;>rfl
structure Hd where
 va:Option Addr
 vc:Nat
 la:Option Addr
 lc:Nat
 da:Option Addr
 dc:Nat
 ea:Option Addr
 ec:Nat
 ba:Option Addr
 bc:Nat
 pa:Option Addr
 pc:Nat
 ta:Option Addr
 tc:Nat
 oa:Option Addr
 oc:Nat
 ma:Option Addr
 mc:Nat
abbrev yq (l:br) (h:Hd):List Value:=[u64 l.aF.index,u64 l.aF.ab,.slice h.va l.aF.aJ.av.length h.vc,.slice h.la l.aF.aJ.aD.length h.lc,.slice h.da l.aF.data.length h.dc,.slice h.ea l.entries.length h.ec]
abbrev jR (r:aU) (h:Hd):List Value:=[i64 r.id,u64 r.af.ab,i64 r.af.aT,u64 r.af.aB,u64 r.ah.aF.index,u64 r.ah.aF.ab,.slice h.va r.ah.aF.aJ.av.length h.vc,.slice h.la r.ah.aF.aJ.aD.length h.lc,.slice h.da r.ah.aF.data.length h.dc,.slice h.ea r.ah.entries.length h.ec,
 i64 r.aO,i64 r.gq,.slice h.ba r.cB.length h.bc,.slice h.pa r.aK.length h.pc,i64 r.bi,i64 r.fQ,i64 r.eW,u64 r.part.index,u64 r.part.ab,.slice h.ta r.part.data.length h.tc]
abbrev H6 (o:bz) (h:Hd):List Value:=[u64 o.cut,.slice h.oa o.entries.length h.oc,.bool o.Ae,.bool o.dY,.slice h.ma o.aG.length h.mc,u64 o.index,u64 o.ab]
abbrev py (n:ai) (h:Hd):List Value:=[i64 n.s.id,u64 n.s.af.ab,i64 n.s.af.aT,u64 n.s.af.aB,u64 n.s.ah.aF.index,u64 n.s.ah.aF.ab,.slice h.va n.s.ah.aF.aJ.av.length h.vc,.slice h.la n.s.ah.aF.aJ.aD.length h.lc,.slice h.da n.s.ah.aF.data.length h.dc,.slice h.ea n.s.ah.entries.length h.ec,
 i64 n.s.aO,i64 n.s.gq,.slice h.ba n.s.cB.length h.bc,.slice h.pa n.s.aK.length h.pc,i64 n.s.bi,i64 n.s.fQ,i64 n.s.eW,u64 n.s.part.index,u64 n.s.part.ab,.slice h.ta n.s.part.data.length h.tc,
 u64 n.o.cut,.slice h.oa n.o.entries.length h.oc,.bool n.o.Ae,.bool n.o.dY,.slice h.ma n.o.aG.length h.mc,u64 n.o.index,u64 n.o.ab]
structure d_ (r s:aj) (l:br) (h:Hd):Prop where
 index:aq .u64 l.aF.index
 ab:aq .u64 l.aF.ab
 av:bm (ax .i64) 1 s h.va h.vc l.aF.aJ.av
 aD:bm (ax .i64) 1 s h.la h.lc l.aF.aJ.aD
 data:bm (ax .u8) 1 s h.da h.dc l.aF.data
 entries:ee bg 6 r s h.ea h.ec l.entries
theorem d_.up {r s s':aj} {l:br} {h:Hd} (k:d_ r s l h) (hl:Le s s'):d_ r s' l h :=
 ⟨k.index,k.ab,k.av.up (ax.up _) hl,k.aD.up (ax.up _) hl,k.data.up (ax.up _) hl,k.entries.up bg.up hl⟩
theorem d_.mem {r r' s:aj} {l:br} {h:Hd} (k:d_ r s l h) (hl:Le r r'):d_ r' s l h:={ k with entries:=k.entries.mem hl }
theorem d_.aJ {r s:aj} {l:br} {h:Hd} (k:d_ r s l h):fH s [.slice h.va l.aF.aJ.av.length h.vc,.slice h.la l.aF.aJ.aD.length h.lc] l.aF.aJ:=⟨_,_,_,_,rfl,k.av,k.aD⟩
def cJ (n:ai):Prop:=aq .i64 n.s.id∧aq .u64 n.s.af.ab∧aq .i64 n.s.af.aT∧aq .u64 n.s.af.aB∧aq .u64 n.s.ah.aF.index∧aq .u64 n.s.ah.aF.ab
def bb (s A:aj) (h:Hd) (n:ai):Prop :=
 bm (ax .i64) 1 s h.va h.vc n.s.ah.aF.aJ.av∧bm (ax .i64) 1 s h.la h.lc n.s.ah.aF.aJ.aD∧bm (ax .u8) 1 s h.da h.dc n.s.ah.aF.data ∧
 aW bg 6 65 s A h.ea h.ec n.s.ah.entries∧aW g8 2 133 s A h.ba h.bc n.s.cB∧aW fI 3 136 s A h.pa h.pc n.s.aK ∧
 bm (ax .u8) 1 s h.ta h.tc n.s.part.data∧aW bg 6 65 s A h.oa h.oc n.o.entries∧aW iH 14 56 s A h.ma h.mc n.o.aG∧Dj h.ea h.oa
structure Nd (s A:aj) (p:Nat) (h:Hd) (n:ai):Prop where
 cells:A p=some (.cells (py n h).toArray 109 (0,0))
 au:bb s A h n
theorem bb.up {s s' A:aj} {h:Hd} {n:ai} (k:bb s A h n) (hl:Le s s'):bb s' A h n :=
 let ⟨a,b,c,d,e,f,g,i,j,l⟩:=k
 ⟨a.up (ax.up _) hl,b.up (ax.up _) hl,c.up (ax.up _) hl,d.up bg.up hl,e.up g8.up hl,f.up fI.up hl,g.up (ax.up _) hl,i.up bg.up hl,j.up iH.up hl,l⟩
theorem bb.put {s A:aj} {h:Hd} {n:ai} {p:Nat} {cs:Array Value} (k:bb s A h n) (hp:A p=some (.cells cs 109 (0,0))) (x:Obj):bb s (A.put p x) h n :=
 let ⟨a,b,c,d,e,f,g,i,j,l⟩:=k
 ⟨a,b,c,d.put (d.yZ hp (by decide)) x,e.put (e.yZ hp (by decide)) x,f.put (f.yZ hp (by decide)) x,g,i.put (i.yZ hp (by decide)) x,j.put (j.yZ hp (by decide)) x,l⟩
theorem Nd.up {s s' A:aj} {p:Nat} {h:Hd} {n:ai} (k:Nd s A p h n) (hl:Le s s'):Nd s' A p h n:=⟨k.cells,k.au.up hl⟩
theorem Nd.mem {s A A':aj} {p:Nat} {h:Hd} {n:ai} (k:Nd s A p h n) (hl:Le A A'):Nd s A' p h n :=
 let ⟨k0,a,b,c,d,e,f,g,i,j,l⟩:=k
 ⟨hl _ _ k0,a,b,c,d.mem hl,e.mem hl,f.mem hl,g,i.mem hl,j.mem hl,l⟩
theorem Nd.ah {s A:aj} {p:Nat} {h:Hd} {n:ai} (k:Nd s A p h n) (hi:aq .u64 n.s.ah.aF.index) (ht:aq .u64 n.s.ah.aF.ab):d_ A s n.s.ah h :=
 ⟨hi,ht,k.au.1,k.au.2.1,k.au.2.2.1,k.au.2.2.2.1.eU⟩
end Go.Lw
namespace Go.Lw
def mW (s:gE) (am:Int):az × Int :=
 if (s.data.length:Int)<am then (az.zero,1)
 else ({ az.zero with ao:=7,index:=s.index,cn:=s.ab,aJ:=s.aJ,hint:=am,data:=(s.data.drop am.toNat).take 64,done:=decide ((s.data.drop am.toNat).length≤64) },0)
def mb (p:fG) (m:az):fG × Bool :=
 let q:=if p.index≠m.index∨p.ab≠m.cn then (⟨m.index,m.cn,[]⟩:fG) else p
 if m.hint≠q.data.length then (q,false) else ({ q with data:=q.data++m.data },m.done)
def Dc (p:fG) (c:aY):gE:=⟨p.index,p.ab,c,p.data⟩
def Jb (c:aY):Bool:=decide (c.av.length+c.aD.length=0)
def tP (c:aY):Bool:=Jb c || decide (eg c=0)
def mV (id:Int) (h:xh) (l:br) (eR:Bool):Bool :=
 decide (id<1∨7<id) || eR || !wH l || (!tP (ce l).1 || !tP l.aF.aJ || decide (eo≤(bX l).1∨eo≤h.ab) || decide (h.ab<(bX l).2) || decide (h.aB<l.aF.index∨(bX l).1<h.aB) || decide (h.aT<0∨7<h.aT))
def wQ (id:Int) (h:xh) (l:br) (eR:Bool):aU × Int :=
 if mV id h l eR=true then (aU.zero,1) else ({ aU.zero with id:=id,af:=h,ah:=l,aO:=1 },0)
structure ak2 where
 aO:Int
 gq:Int
 af:xh
 aJ:aY
 aZ:Int
 aF:Int
namespace ai
def aZ (n:ai):Int:=(bX n.s.ah).1
def av (n:ai):List Int:=(ce n.s.ah).1.av
def jz (n:ai):Bool:=decide (n.s.id∈n.av)
def send (n:ai) (m:az):ai:={ n with o:={ n.o with aG:=n.o.aG++[m] } }
def post (n:ai) (m:az):ai:=n.send { m with am:=n.s.id,ab:=if m.ab=0 then n.s.af.ab else m.ab }
def follow (n:ai) (ab gq:Int):ai :=
 { n with s:={ n.s with af:=if n.s.af.ab<ab then { n.s.af with ab:=ab,aT:=0 } else n.s.af,aO:=1,gq:=gq,cB:=[],aK:=[],fQ:=0,eW:=0 } }
def jm (n:ai) (am:Int) (dZ:Bool):ai:={ n with s:={ n.s with cB:=n.s.cB++[(am,dZ)] } }
def gM (n:ai):Int:=kC (cZ n.av) n.s.cB
def dM (n:ai) (aO:Int):ai:=jm { n with s:={ n.s with aO:=aO,gq:=0,bi:=0,eW:=0,aK:=[],cB:=[] } } n.s.id true
def qd (n:ai) (ao ab:Int) (to:List Int):List az :=
 (to.filter fun t=>decide (t≠n.s.id)).map fun t=>{ az.zero with ao:=ao,am:=n.s.id,to:=t,ab:=ab,index:=(bX n.s.ah).1,cn:=(bX n.s.ah).2 }
def l8 (n:ai) (ao ab:Int):ai:={ n with o:={ n.o with aG:=n.o.aG++n.qd ao ab n.av } }
def tY (was:List cK) (eV next:Int):cK:=(was.find? fun p=>decide (p.node=eV)).getD ⟨eV,next,0⟩
def cx (n:ai) (next:Int):ai:={ n with s:={ n.s with aK:=(oI (ce n.s.ah).1 n.s.id).map fun o=>tY n.s.aK o next } }
def lq (n:ai) (to am:Int):ai:=if (mW n.s.ah.aF am).2=0 then n.post { (mW n.s.ah.aF am).1 with to:=to } else n
def fA (n:ai) (p:cK):ai :=
 if p.next≤n.s.ah.aF.index then n.lq p.node 0
 else n.post { az.zero with ao:=5,to:=p.node,index:=p.next-1,cn:=(cE n.s.ah (p.next-1)).1,entries:=(oL n.s.ah p.next 8).1,aB:=n.s.af.aB }
def mF (n:ai):List cK→ai
 | []=>n
 | p::l=>mF (n.fA p) l
def gD (n:ai):ai:=n.mF n.s.aK
def AG (n:ai) (k:Int):Prop:=Ao ((cZ n.av).map (fW (n.s.aK++[⟨n.s.id,0,n.aZ⟩]))) k
open Classical in
noncomputable def b_ (n:ai):Int:=if h:∃ k,n.AG k then h.choose else 0
theorem MC {n:ai} {k:Int} (h:n.AG k):n.b_=k:=by
 have xM:∃ k,n.AG k:=⟨k,h⟩
 have:n.b_=xM.choose:=by unfold b_;rw[dif_pos xM]
 rw[this]
 exact Ao.RN xM.choose_spec h (List.Perm.refl _)
noncomputable def count (n:ai):ai :=
 if n.b_≤n.s.af.aB∨(cE n.s.ah n.b_).1≠n.s.af.ab then n
 else
  let m:ai:={ n with s:={ n.s with af:={ n.s.af with aB:=n.b_ } } }
  if (ce n.s.ah).2≤n.b_∧n.s.id∉n.av then m.follow n.s.af.ab 0 else m
noncomputable def put (n:ai) (e:aA):ai :=
 let x:aA:={ e with index:=bF n.aZ,ab:=n.s.af.ab }
 let m:ai:=⟨{ n.s with ah:=⟨n.s.ah.aF,n.s.ah.entries++[x]⟩ },{ n.o with entries:=n.o.entries++[x] }⟩
 ((if e.ao=3 then m.cx x.index else m).count).gD
noncomputable def cI (n:ai):ai :=
 (cx { n with s:={ n.s with aO:=4,gq:=n.s.id,cB:=[],bi:=0,fQ:=0,eW:=0,aK:=[] } } (bF n.aZ)).put ⟨0,0,1,[],⟨[],[]⟩⟩
noncomputable def fp (n:ai):ai :=
 let m:=dM { n with s:={ n.s with af:={ n.s.af with ab:=bF n.s.af.ab,aT:=n.s.id } } } 3
 if m.gM=1 then m.cI else m.l8 3 m.s.af.ab
noncomputable def eD (n:ai):ai :=
 let m:=n.dM 2
 if m.gM=1 then m.fp else m.l8 1 (bF m.s.af.ab)
noncomputable def tick (n:ai) (sS:Int):ai :=
 let e:=min (jT n.s.bi) (max n.s.bi 1073741824)
 let m:ai:={ n with s:={ n.s with bi:=e } }
 if m.s.aO≠4 then if max sS 1≤e∧m.jz=true then m.eD else m
 else
  let q:ai:=if max sS 1≤e then { m with s:={ m.s with bi:=0,eW:=0 } } else m
  let b:ai:={ q with s:={ q.s with fQ:=jT q.s.fQ } }
  if 2≤b.s.fQ then ({ b with s:={ b.s with fQ:=0 } }:ai).gD else b
def gu (n:ai) (eV:Int):Option cK:=n.s.aK.find? fun p=>decide (p.node=eV)
def gG (n:ai) (k x:Int):aY × Int :=
 if n.s.af.aB<(ce n.s.ah).2 then ((ce n.s.ah).1,102)
 else if (cE n.s.ah n.s.af.aB).1≠n.s.af.ab then ((ce n.s.ah).1,104)
 else if (gb (ce n.s.ah).1 k x).2=0∧k=2∧(∀ p,n.gu x=some p→p.cA<n.s.af.aB) then ((ce n.s.ah).1,103)
 else gb (ce n.s.ah).1 k x
def nt (n:ai) (to:Int):ai × Int :=
 match n.gu to with
 | none=>(n,1)
 | some p=>if to∉n.av then (n,1) else
  let m:ai:={ n with s:={ n.s with eW:=to,bi:=0 } }
  (if p.cA=n.aZ then m.post { az.zero with ao:=9,to:=to } else m.fA p,0)
noncomputable def gd (n:ai) (i:ez):ai × Int :=
 if n.s.aO≠4 then (n,101) else if n.s.eW≠0 then (n,102) else if i.ao=5 then n.nt i.to
 else
  let m:ai:={ n with o:={ n.o with index:=bF n.aZ,ab:=n.s.af.ab } }
  if i.ao=4 then
   if (n.gG i.kZ i.k9).2≠0 then (n,(n.gG i.kZ i.k9).2) else (m.put ⟨0,0,3,[],(n.gG i.kZ i.k9).1⟩,0)
  else (m.put ⟨0,0,2,i.data,⟨[],[]⟩⟩,0)
noncomputable def jS (n:ai) (m:az) (nB:ai→ai):ai :=
 let b:=n.jm m.am (!m.bT)
 if b.gM=1 then nB b else if b.gM = -1 then b.follow b.s.af.ab 0 else b
def oK (n:ai) (m:az):ai :=
 let dZ:=decide (n.s.aO≠4∧(n.s.gq=0∨4≤n.s.bi)) && decide (n.s.af.ab<m.ab) && mz n.s.ah m.index m.cn
 n.send { az.zero with ao:=2,am:=n.s.id,to:=m.am,ab:=if dZ then m.ab else n.s.af.ab,bT:= !dZ }
noncomputable def kW (n:ai) (m:az):ai :=
 if m.bT=true∧n.s.af.ab<m.ab then n.follow m.ab 0
 else if n.s.aO=2∧(m.bT=true∨m.ab=bF n.s.af.ab) then n.jS m fp else n
def aT (n:ai) (m:az):ai :=
 let dZ:=decide (n.s.af.aT=0∨n.s.af.aT=m.am) && decide (n.s.aO=1) && mz n.s.ah m.index m.cn
 let q:ai:=if dZ=true then { n with s:={ n.s with af:={ n.s.af with aT:=m.am },bi:=0 } } else n
 q.post { az.zero with ao:=4,to:=m.am,bT:= !dZ }
noncomputable def lK (n:ai) (m:az):ai:=if n.s.aO=3 then n.jS m cI else n
def j6 (n:ai) (m:az):ai :=
 if m.ao=3 then n.post { az.zero with ao:=4,to:=m.am,bT:=true }
 else if m.ao=5∨m.ao=7 then n.post { az.zero with ao:=6,to:=m.am,bT:=true,index:=m.index,hint:=n.aZ } else n
def l_ (ab:Int) (e:aA):Bool:=decide (ab<e.ab) || (decide (e.ao=3) && decide (eg e.aJ≠0))
def grow (n:ai) (m:az):ai :=
 if n.s.aO=4 then n else
 let f:=n.follow n.s.af.ab m.am
 let q:ai:={ f with s:={ f.s with bi:=0 } }
 let c:=q.s.af.aB
 let r:={ az.zero with ao:=6,to:=m.am }
 if m.index<c then q.post { r with index:=c } else
 let g:=fb q.s.ah c m.index m.cn m.entries
 if g.gH=1∨g.gH=62∨m.entries.any (l_ q.s.af.ab)=true then q
 else if g.gH=61 then q.post { r with index:=m.index,bT:=true,hint:=min q.aZ (max m.index 1-1) }
 else
  let z:ai:=⟨{ q.s with ah:=g.ah,af:={ q.s.af with aB:=max c (min m.aB (m.index+m.entries.length)) } },{ q.o with cut:=g.cut,entries:=g.came }⟩
  z.post { r with index:=m.index+m.entries.length }
def Lk (n:ai) (eV:Int) (f:cK→cK):ai :=
 match n.s.aK.findIdx? (fun p=>decide (p.node=eV)) with
 | none=>n
 | some i=>{ n with s:={ n.s with aK:=n.s.aK.modify i f } }
noncomputable def kM (n:ai) (m:az):ai :=
 match n.gu m.am with
 | none=>n
 | some p =>
  if n.s.aO≠4∨n.aZ<m.index then n
  else if m.bT=true then
   let q:cK:={ p with next:=max (if m.hint<m.index then m.hint+1 else max m.index 1) (bF p.cA) }
   (n.Lk m.am fun _=>q).fA q
  else
   let q:cK:={ p with cA:=max p.cA m.index,next:=max p.next (bF (max p.cA m.index)) }
   let a:=n.Lk m.am fun _=>q
   let b:=a.count
   if b.s.aO≠4 then b else
   let c:=if a.s.af.aB<b.s.af.aB then b.gD else if q.next≤b.aZ then b.fA q else b
   if a.s.eW=m.am∧q.cA=c.aZ then c.post { az.zero with ao:=9,to:=m.am } else c
def dY (n:ai) (s:gE):ai :=
 let was:=n.s.ah.entries
 match was.findIdx? (fun e=>decide (e.index=s.index∧e.ab=s.ab)) with
 | some i=>⟨{ n.s with ah:=⟨s,was.drop (i+1)⟩,af:={ n.s.af with aB:=s.index },part:=fG.zero },{ n.o with dY:=true }⟩
 | none=>⟨{ n.s with ah:=⟨s,[]⟩,af:={ n.s.af with aB:=s.index },part:=fG.zero },{ n.o with dY:=true,cut:=(was.head?.map (·.index)).getD n.o.cut }⟩
def lR (n:ai) (m:az):ai :=
 if n.s.aO=4∨eg m.aJ≠0∨n.s.af.ab<m.cn then n else
 let f:=n.follow n.s.af.ab m.am
 let q:ai:={ f with s:={ f.s with bi:=0 } }
 if m.index≤q.s.af.aB then q.post { az.zero with ao:=6,to:=m.am,index:=q.s.af.aB } else
 let t:=mb q.s.part m
 if t.2=false then ({ q with s:={ q.s with part:=t.1 } }:ai).post { az.zero with ao:=8,to:=m.am,index:=m.index,hint:=t.1.data.length }
 else (q.dY (Dc t.1 m.aJ)).post { az.zero with ao:=6,to:=m.am,index:=m.index }
def oT (n:ai) (m:az):ai :=
 match n.gu m.am with
 | none=>n
 | some p=>if n.s.aO=4∧p.next≤n.s.ah.aF.index∧m.index=n.s.ah.aF.index then n.lq m.am m.hint else n
noncomputable def qb (n:ai):ai:=if n.s.aO=1∧n.jz=true then n.fp else n
noncomputable def dW (n:ai) (m:az):ai :=
 if m.ao=3 then n.aT m else if m.ao=4 then n.lK m else if m.ao=5 then n.grow m else if m.ao=6 then n.kM m else if m.ao=7 then n.lR m else if m.ao=8 then n.oT m else n.qb
noncomputable def iQ (n:ai) (m:az):ai :=
 if m.to≠n.s.id∨m.am=n.s.id∨m.am<1∨7<m.am∨eo≤m.ab∨eo≤m.index∨eo≤m.aB then n
 else if m.ao=1 then n.oK m else if m.ao=2 then n.kW m
 else if m.ao<3∨9<m.ao then n
 else
  let f:=if n.s.af.ab<m.ab then n.follow m.ab 0 else n
  if m.ab<f.s.af.ab then f.j6 m else f.dW m
end ai
noncomputable def bI (s:aU) (i:ez):aU × bz × Int :=
 let n:ai:=⟨s,bz.zero⟩
 let r:ai × Int:=if i.ao=1 then (n.tick i.sS,0) else if i.ao=2 then (n.iQ i.cr,0) else if i.ao=3∨i.ao=4∨i.ao=5 then n.gd i else (n,1)
 if r.2≠0 then (s,bz.zero,r.2) else (r.1.s,{ r.1.o with Ae:=decide (r.1.s.af≠s.af) },0)
end Go.Lw
namespace Go.Lw
section
variable {P:Program} {n:Nat} {ops:Array Oper} {Q:Exit→Act→World→Prop} {S:World→Prop} {au:List (Bool × Oper)} {E:dE} {w:World} {o:Oper} {d:Nat} {v:Value}
variable {s A:aj} {os:List aj} {x y:Operand} {T:Bool}
theorem ahN (m sz:Nat) (z:Value) (zl:List Value) (hz:z.cells=zl.toArray) (hl:zl.length=sz):madeCells z.cells (m*sz)=(pG m zl).toArray:=by
 rw[←ZZ m sz zl hl]
 unfold madeCells
 rw[hz]
 simp
theorem RL.Xt {t e:TypeId} {sz by_ m:Nat} {z:List Value} (hg:bR ops E o=some true) (hd:o.dst=some d) (hb:Nat.blt d n=true) (ho:o.op = .makeSlice t x y) (ht:eJ P t=some (e,sz,by_)) (hz:eY P e=some z) (gW:z.length=sz)
  (hx:ev E x=some (.int .i64 (m:Nat))) (hy:ev E y=some (.int .i64 (m:Nat))) (hm:by_*m≤281474976710656) (qY:m≤9223372036854775807) (hG:ak w s os)
  (h:∀ b A w',ak w' s (A::os)→ar w w'→A b=some (.cells (pG m z).toArray e (0,0))→S w'∧RL P n ops Q S au ((d,.slice (some ⟨b,0,none⟩) m m)::E) w'):RL P n ops Q S ((false,o)::au) E w:=by
 obtain⟨hu,inf,hi,cV,r7⟩:=pE ht
 unfold eY at hz
 cases vp:inf.zero with
 | none=>simp[hi,vp] at hz
 | some u =>
  simp[hi,vp] at hz
  have fo:=run_make (P:=P) w t e inf u hu hi vp .i64 .i64 (m:Int) (m:Int) (by omega) (Int.le_refl _) (by rw[r7];omega) (by omega)
  have Oi:madeCells u.cells ((m:Int).toNat*inf.size)=(pG m z).toArray:=by
   rw[cV,Int.toNat_natCast]
   exact ahN m sz u z (by rw[←hz]) gW
  rw[Oi] at fo
  obtain⟨h1,h2⟩:=h w.heap.size _ _ (hG.alloc _) (ar.alloc w _) (if_pos rfl)
  refine RL.step hg hd hb (fun ac ha=>?_) h1 h2
  unfold execOp
  simp only[ho,ha.ev hx,ha.ev hy]
  simp[fo]
theorem aW.T4 {α:Type} {R:aj→List Value→α→Prop} {sz g:Nat} {el:TypeId} {cs:Array Value} {bB:List Value} {xs:List α} (hs:cs.size=xs.length*sz) (cD:cF R sz s bB xs) (hm:xs.length≤maxLen) :
  aW R sz el s (A.put g (.cells (l9 cs 0 bB) el (0,0))) (some ⟨g,0,none⟩) xs.length xs:=by
 have hl:=cD.length
 refine .inr ⟨g,_,rfl,dq _ _ _,Nat.le_refl _,hm,?_,?_⟩
 rw[Fi (by omega),hs]
 simp only[l9,List.take_zero,List.nil_append]
 rw[List.take_left' hl]
 exact cD
theorem aW.lG {g:Nat} {el:TypeId} {cs:Array Value} {vs:List Value} {i:Nat} (hA:A g=some (.cells cs el (0,0))) (h:∀ (j:Nat) u,vs[j]?=some u→cs.toList[i+j]?=some u):Holds A ((⟨g,0,none⟩:Addr).add i) vs :=
 (Holds.of hA).part i h
theorem RL.my {fn:Fn} {lP cap:Array Operand} {l l2:List Value} (hg:bR ops E o=some true) (hd:o.dst=some d) (hb:Nat.blt d n=true) (ho:o.op = .makeFunc fn lP cap) (hl:jY E lP.toList=some l) (gV:jY E cap.toList=some l2)
  (h:RL P n ops Q S au ((d,.func fn l.toArray l2.toArray)::E) w):RL P n ops Q S ((T,o)::au) E w:=by
 refine RL.ij hg hd hb (fun w ac ha=>?_) h
 have pQ:(lP.map ac.eval)=l.toArray:=by
  rw[←Array.toArray_toList (xs:=lP),List.map_toArray,ha.jY hl]
 have adE:(cap.map ac.eval)=l2.toArray:=by
  rw[←Array.toArray_toList (xs:=cap),List.map_toArray,ha.jY gV]
 unfold execOp
 simp only[ho,pQ,adE]
 simp[Instr.makeFunc]
theorem RL.ti {f:FuncId} {args:Array Operand} {ats:Array TypeId} {l:List Value} {lP cap:Array Value} {R:Ending→World→Prop} (hg:bR ops E o=some true) (hd:o.dst=some d) (hb:Nat.blt d n=true)
  (ho:o.op = .call { callee:= .value x,args:=args,argTypes:=ats }) (hx:ev E x=some (.func (.func f) lP cap)) (hl:jY E args.toList=some l) (hc:km P f=true) (eK:Calls P f (lP++l.toArray++cap) w R)
  (h:∀ e w',R e w'→∃ v,e = .returned v∧S w'∧RL P n ops Q S au ((d,v)::E) w'):RL P n ops Q S ((false,o)::au) E w:=fun _ ac ha=>by
 have pQ:(args.map ac.eval)=l.toArray:=by
  rw[←Array.toArray_toList (xs:=args),List.map_toArray,ha.jY hl]
 have iZ:ac.eval x = .func (.func f) lP cap:=ha.ev hx
 simp only[RA,ha.bR hg,if_true]
 unfold Oper.wp
 have fo:(execOp ac.eval o).run P w = .ok (.enter f (lP++l.toArray++cap)) w:=by
  unfold execOp
  simp only[ho]
  simp only[resolve,pQ,iZ,Deferred.ofValue,invoke,Sem.run_bind,Sem.run_pure,Result.andThen_ok,Ie hc]
 rw[fo]
 simp only[Oper.upon]
 refine eK.mono fun e w' hp=>?_
 obtain⟨v,rfl,h5,h6⟩:=h e w' hp
 simp only[hd]
 exact⟨h5,h6 h5 _ (ha.put hb v)⟩
end
end Go.Lw
