/-
  Parts of the proof of the laws RaftcoreSafeUptoSaid, RaftcoreOnceUptoSaid: KcL, KcM, KcO, KcI, KcG, Round, Range, KcR, KcS, KcA, KcB, KcD, KcE, KcF, KcH, KcJ.
-/
import Derived.Test.YtpjclnomaemokaaGreatRgA2
import Derived.RangeFuncLeaves
import Derived.RangeFuncRecord
set_option maxRecDepth 100000
set_option maxHeartbeats 16000000
set_option linter.all false
namespace Go.Lw
open Go.Proofs
attribute [local irreducible] RL RA
theorem decide_t {p:Prop} [Decidable p] (h:decide p=true):p:=of_decide_eq_true h
theorem decide_f {p:Prop} [Decidable p] (h:decide p=false):¬ p:=of_decide_eq_false h
theorem len0 {α:Type} (l:List α):(((l.length:Nat):Int)==0)=decide (l=[]):=by cases l<;>simp<;>omega
section
variable {w:World} {s r:Res} {os:List Res}
theorem empty_sum {a b:Nat} (ha:a≤maxLen) (hb:b≤maxLen):(IntKind.i64.wrap ((a:Int)+(b:Int))==0)=decide (a+b=0):=by
 simp only[maxLen] at ha hb
 rw[Bool.eq_iff_iff,beq_iff_eq,decide_eq_true_eq]
 simp only[IntKind.wrap,IntKind.bits,IntKind.signed]
 simp
 split<;>omega
theorem empty_ct {c:Conf} {va la:Option Addr} {vc lc:Nat} (hg:Good w s os) (hv:c.voters.length≤maxLen) (hl:c.learners.length≤maxLen) :
  Calls Tryz.prog 122 #[.agg #[.slice va c.voters.length vc,.slice la c.learners.length lc]] w (PostV w s os fun q=>q = .bool (emptyC c)):=by
 refine enter (l:=[.agg #[.slice va c.voters.length vc,.slice la c.learners.length lc]]) Tryz.func122 rfl Tryz.ntmps122 rfl ?_
 refine go 3 ?_
 rintro b1 w1 Q1 (hg1:Good _ s (Q1::os)) hax1 hb1
 refine go 12 ?_
 refine RL.as_ rfl rfl rfl rfl (.bool (emptyC c)) (congrArg Value.bool (empty_sum hv hl)) ?_
 refine go 2 ?_
 refine CW.ret (zr1 ?_)
 exact PostV.mq (hg1.drop) rfl
theorem blank_ct {c:Conf} {va la:Option Addr} {vc lc:Nat} (hg:Good w s os) (hv:c.voters.length≤maxLen) (hl:c.learners.length≤maxLen) :
  Calls Tryz.prog 59 #[.agg #[.slice va c.voters.length vc,.slice la c.learners.length lc]] w (PostV w s os fun q=>q = .bool (emptyC c)):=by
 refine enter (l:=[.agg #[.slice va c.voters.length vc,.slice la c.learners.length lc]]) Tryz.func59 rfl Tryz.ntmps59 rfl ?_
 refine go 3 ?_
 rintro b2 w2 Q2 (hg2:Good _ s (Q2::os)) hax2 hb2
 refine go 12 ?_
 refine RL.as_ rfl rfl rfl rfl (.bool (emptyC c)) (congrArg Value.bool (empty_sum hv hl)) ?_
 refine go 2 ?_
 refine CW.ret (zr1 ?_)
 exact PostV.mq (hg2.drop) rfl
theorem follows_ct {e:Entry} {vs:List Value} {i t:Int} (hg:Good w s os) (hE:REntry s vs e) (h0:0≤i) (hi:i<p62) (ht:rng .u64 t) :
  Calls Tryz.prog 88 #[.agg vs.toArray,u64 i,u64 t] w (PostV w s os fun q=>q = .bool (followsP e i t)):=by
 obtain⟨a,c,a1,c1,a2,c2,rfl,r1,r2,r3,h1,h2,h3⟩:=hE
 simp only[p62] at hi
 have hm1:=h1.le_max
 refine enter (l:=[.agg #[u64 e.index,u64 e.term,i64 e.kind,.slice a e.data.length c,.slice a1 e.conf.voters.length c1,.slice a2 e.conf.learners.length c2],u64 i,u64 t]) Tryz.func88 rfl Tryz.ntmps88 rfl ?_
 refine go 3 ?_
 rintro b3 w3 Q3 (hg3:Good _ s (Q3::os)) hax3 hb3
 refine go 12 ?_
 refine RL.part 12 rfl (fun h12=>?_) (fun h12=>?_)
 ·
  refine go 16 ?_
  refine CW.ret (zr1 ?_)
  refine PostV.mq (hg3.drop) (congrArg Value.bool ?_)
  simp_all [followsP,kindOk,emptyC,p62,len0]
  try (intro hx;first | omega | exact absurd (of_decide_eq_true hx) (by omega))
 ·
  refine go 6 ?_
  refine RL.part 18 rfl (fun h18=>?_) (fun h18=>?_)
  ·
   refine go 10 ?_
   refine CW.ret (zr1 ?_)
   refine PostV.mq (hg3.drop) (congrArg Value.bool ?_)
   simp_all [followsP,kindOk,emptyC,p62,len0]
   try (intro hx;first | omega | exact absurd (of_decide_eq_true hx) (by omega))
  ·
   refine go 5 ?_
   refine CW.cond rfl (fun h22=>?_) (fun h22=>?_)
   ·
    refine go 4 ?_
    refine CW.ret (zr1 ?_)
    refine PostV.mq (hg3.drop) (congrArg Value.bool ?_)
    simp_all [followsP,kindOk,emptyC,p62,len0]
    try (intro hx;first | omega | exact absurd (of_decide_eq_true hx) (by omega))
   ·
    refine go 13 ?_
    refine CW.cond rfl (fun h25=>?_) (fun h25=>?_)
    ·
     refine go 5 ?_
     refine zw (empty_ct hg3 h2.le_max h3.le_max) ?_
     rintro v4 w4 (hg4:Good _ s (Q3::os)) hax4 rfl
     refine go 2 ?_
     refine RL.part 30 rfl (fun h30=>?_) (fun h30=>?_)
     ·
      refine go 7 ?_
      refine CW.ret (zr1 ?_)
      refine PostV.mq (hg4.drop) (congrArg Value.bool ?_)
      simp_all [followsP,kindOk,emptyC,p62,len0]
      try (intro hx;first | omega | exact absurd (of_decide_eq_true hx) (by omega))
     ·
      refine go 7 ?_
      refine CW.ret (zr1 ?_)
      refine PostV.mq (hg4.drop) (congrArg Value.bool ?_)
      simp_all [followsP,kindOk,emptyC,p62,len0]
      try (intro hx;first | omega | exact absurd (of_decide_eq_true hx) (by omega))
    ·
     refine go 5 ?_
     refine CW.cond rfl (fun h36=>?_) (fun h36=>?_)
     ·
      refine go 5 ?_
      refine zw (empty_ct hg3 h2.le_max h3.le_max) ?_
      rintro v5 w5 (hg5:Good _ s (Q3::os)) hax5 rfl
      refine go 3 ?_
      refine CW.ret (zr1 ?_)
      refine PostV.mq (hg5.drop) (congrArg Value.bool ?_)
      simp_all [followsP,kindOk,emptyC,p62,len0]
      try (intro hx;first | omega | exact absurd (of_decide_eq_true hx) (by omega))
     ·
      refine go 5 ?_
      refine CW.cond rfl (fun h41=>?_) (fun h41=>?_)
      ·
       refine go 8 ?_
       refine CW.ret (zr1 ?_)
       refine PostV.mq (hg3.drop) (congrArg Value.bool ?_)
       simp_all [followsP,kindOk,emptyC,p62,len0]
       try (intro hx;first | omega | exact absurd (of_decide_eq_true hx) (by omega))
      ·
       refine go 5 ?_
       refine CW.ret (zr1 ?_)
       refine PostV.mq (hg3.drop) (congrArg Value.bool ?_)
       simp_all [followsP,kindOk,emptyC,p62,len0]
       try (intro hx;first | omega | exact absurd (of_decide_eq_true hx) (by omega))
theorem runE_step {i t:Int} {xs:List Entry} {k:Nat} {i' t':Int} (hk:k<xs.length) (h:runE i t xs=runE i' t' (xs.drop k)) (hf:followsP xs[k] i' t'=true):runE i t xs=runE xs[k].index xs[k].term (xs.drop (k+1)):=by
 rw[h,List.drop_eq_getElem_cons hk]
 simp only[runE,hf,Bool.true_and]
theorem run_ct {xs:List Entry} {a:Option Addr} {c:Nat} {i t:Int} (hg:Good w s os) (hr:r=s∨r∈os) (hl:Lies REntry 6 r s a c xs) (hi:rng .u64 i) (ht:rng .u64 t) :
  Calls Tryz.prog 56 #[u64 i,u64 t,.slice a xs.length c] w (PostV w s os fun q=>q = .bool (runP i t xs)):=by
 have hm:=hl.le_max
 simp only[maxLen] at hm
 simp only[rng] at hi
 refine enter (l:=[u64 i,u64 t,.slice a xs.length c]) Tryz.func56 rfl Tryz.ntmps56 rfl ?_
 refine go 10 ?_
 refine RL.part 11 rfl (fun h11=>?_) (fun h11=>?_)
 ·
  refine go 13 ?_
  refine CW.ret (zr1 ?_)
  exact PostV.mq hg (congrArg Value.bool (by have:=decide_t h11;simp only[runP];rw[decide_eq_false (by simp only[p62];omega)];rfl))
 ·
  refine go 2 ?_
  refine RL.conv rfl rfl rfl rfl Tryz.underlying3 Tryz.underlying22 rfl ((by simp only[rng];omega)) ?_
  refine go 1 ?_
  refine RL.sub rfl rfl rfl rfl rfl rfl ((by have:=decide_f h11;simp only[rng];omega)) ?_
  refine go 3 ?_
  refine CW.cond rfl (fun h18=>?_) (fun h18=>?_)
  ·
   refine go 4 ?_
   refine CW.ret (zr1 ?_)
   exact PostV.mq hg (congrArg Value.bool (by have:=decide_t h18;simp only[runP];rw[decide_eq_false (show ¬ (xs.length:Int)<p62-i by simp only[p62];omega)];simp))
  ·
   refine go 9 ?_
   have hb1:i<p62:=by have:=decide_f h11;simp only[p62];omega
   have hb2:i+xs.length<p62:=by have:=decide_f h18;simp only[p62];omega
   have hr0:runP i t xs=runE i t xs:=by simp only[runP,decide_eq_true hb1,Bool.true_and,decide_eq_true (show (xs.length:Int)<p62-i by omega)]
   refine CW.loop (σ:=Nat) (fun j E w'=>Good w' s os∧Aux w w'∧∃ (k:Nat) (i' t':Int),E=[(0,u64 i'),(1,u64 t'),(19,.slice a xs.length c),(20,i64 xs.length),(21,i64 k)]∧k+j=xs.length∧i'=i+k∧rng .u64 t'∧runE i t xs=runE i' t' (xs.drop k)) (fun j=>j) xs.length [(0,u64 i),(1,u64 t),(19,.slice a xs.length c),(20,i64 xs.length),(21,i64 0)] ⟨rfl,rfl,rfl,rfl,rfl,trivial⟩ ⟨hg,(Aux.refl _),0,i,t,rfl,by omega,by simp,ht,rfl⟩ ?_
   rintro j E wL ⟨hgL,haxL,k,i',t',rfl,hk,hi',ht',hrr⟩
   refine go 5 ?_
   refine CW.cond rfl (fun h22=>?_) (fun h22=>?_)
   ·
    refine go 5 ?_
    have hlt:k<xs.length:=by have:=decide_t h22;omega
    refine RL.idxL rfl rfl rfl rfl sl31.out rfl rfl hl (by omega) (by omega) ?_
    rintro q vs hvl hH hE
    have hE2:=hE
    obtain⟨ea,ec,ea1,ec1,ea2,ec2,rfl,er1,er2,er3,eh1,eh2,eh3⟩:=hE2
    refine RL.loads (j:=0) (us:=_) rfl rfl rfl rfl ty65.out rfl (hH) (hgL.has hr) rfl rfl ?_
    refine go 1 ?_
    rintro b6 w6 Q6 (hg6:Good _ s (Q6::os)) hax6 hb6
    refine go 2 ?_
    rintro w7 Q7 (hg7:Good _ s (Q7::os)) hax7 hb7
    refine go 9 ?_
    refine zw (follows_ct hg7 hE (by omega) (by omega) ht') ?_
    rintro v8 w8 (hg8:Good _ s (Q7::os)) hax8 rfl
    refine go 3 ?_
    refine CW.cond rfl (fun h29=>?_) (fun h29=>?_)
    ·
     refine go 4 ?_
     refine CW.ret (zr1 ?_)
     refine PostV.mq (hg8.drop) (congrArg Value.bool ?_)
     rw[hr0,hrr,List.drop_eq_getElem_cons hlt]
     simp only[Int.toNat_natCast,Bool.not_eq_true'] at h29
     simp[runE,h29]
    ·
     refine go 1 ?_
     have hg9:=hg8.drew
     refine CW.dw [1,3,5,7,8,10] (fun w=>At1 b6 _ w∧True) ?_
     refine go 11 ?_
     simp only[Int.toNat_natCast,Bool.not_eq_false'] at h29
     have hrr2:=runE_step hlt hrr h29
     have hix:xs[k].index=i'+1:=by simp only[followsP,Bool.and_eq_true,decide_eq_true_eq] at h29;exact h29.1.1.1
     cases j with
     | zero=>omega
     | succ j=>exact fun ac ha=>⟨j,[(0,u64 xs[k].index),(1,u64 xs[k].term),(19,.slice a xs.length c),(20,i64 xs.length),(21,i64 ((k:Int)+1))],ha.sub ⟨rfl,rfl,rfl,rfl,rfl,trivial⟩,⟨(hg9.drop),(haxL.trans (hax6.trans (hax7.trans (hax8.trans (Aux.drew _))))),k+1,_,_,rfl,by omega,by rw[hix,hi'];omega,er2,hrr2⟩,Nat.lt_succ_self j⟩
   ·
    refine go 5 ?_
    refine CW.ret (zr1 ?_)
    have hke:k=xs.length:=by have:=decide_f h22;omega
    refine PostV.mq hgL (congrArg Value.bool ?_)
    rw[hr0,hrr,hke,List.drop_length];rfl
abbrev logA (l:Log) (h:Hd):Value:= .agg (logV l h).toArray
theorem Check_log_ct {l:Log} {h:Hd} (hg:Good w s os) (hr:r=s∨r∈os) (hl:LogAt r s l h) :
  Calls Tryz.prog 29 #[logA l h] w (PostV w s os fun q=>q = .bool (logOk l)):=by
 refine enter (l:=[logA l h]) Tryz.func29 rfl Tryz.ntmps29 rfl ?_
 refine go 3 ?_
 rintro b10 w10 Q10 (hg10:Good _ s (Q10::os)) hax10 hb10
 refine go 10 ?_
 refine RL.part 7 rfl (fun h7=>?_) (fun h7=>?_)
 ·
  refine go 9 ?_
  refine zw (run_ct hg10 (hr.imp id (List.mem_cons_of_mem _)) hl.entries hl.index hl.term) ?_
  rintro v11 w11 (hg11:Good _ s (Q10::os)) hax11 rfl
  refine go 4 ?_
  refine CW.ret (zr1 ?_)
  refine PostV.mq (hg11.drop) (congrArg Value.bool ?_)
  simp_all [logOk,p62]
  try (intro hx;first | omega | exact absurd (of_decide_eq_true hx) (by omega))
 ·
  refine go 12 ?_
  refine CW.ret (zr1 ?_)
  refine PostV.mq (hg10.drop) (congrArg Value.bool ?_)
  simp_all [logOk,p62]
  try (intro hx;first | omega | exact absurd (of_decide_eq_true hx) (by omega))
theorem Search_ct {n g:Nat} {cap:Array Value} {p:Nat→Bool} (hg:Good w s os) (hn:n<4611686018427387904) (hc:callable Tryz.prog g=true) (hp:∀ k,k<n→∀ w',Good w' s os→Calls Tryz.prog g (#[i64 k]++cap) w' (PostV w' s os fun q=>q = .bool (p k))) :
  Calls Tryz.prog 157 #[i64 n,.func (.func g) #[] cap] w (PostV w s os fun q=>q=i64 (searchP p 0 n)):=by
 refine enter (l:=[i64 n,.func (.func g) #[] cap]) Tryz.func157 rfl Tryz.ntmps157 rfl ?_
 refine go 12 ?_
 refine CW.loop (σ:=Nat) (fun j E w'=>Good w' s os∧Aux w w'∧∃ (a b:Nat),E=[(1,.func (.func g) #[] cap),(5,i64 a),(6,i64 b)]∧a≤b∧b≤n∧j=b-a∧searchP p 0 n=searchP p a b) (fun j=>j) n [(1,.func (.func g) #[] cap),(5,i64 0),(6,i64 n)] ⟨rfl,rfl,rfl,trivial⟩ ⟨hg,(Aux.refl _),0,n,rfl,by omega,by omega,by omega,rfl⟩ ?_
 rintro j E wL ⟨hgL,haxL,a,b,rfl,hab,hbn,hj,hs⟩
 refine go 7 ?_
 refine CW.cond rfl (fun h11=>?_) (fun h11=>?_)
 ·
  refine go 6 ?_
  have hlt:a<b:=by have:=decide_t h11;omega
  refine go 1 ?_
  refine RL.conv rfl rfl rfl rfl Tryz.underlying3 Tryz.underlying200 rfl ((by simp only[rng];omega)) ?_
  refine RL.shr 1 rfl rfl rfl rfl rfl rfl rfl (by decide) ?_
  refine RL.conv rfl rfl rfl rfl Tryz.underlying200 Tryz.underlying3 rfl ((by simp only[rng];omega)) ?_
  refine go 6 ?_
  have hm:((a:Int)+(b:Int)) / 2 ^ 1=(((a+b) / 2:Nat):Int):=by omega
  simp only[hm]
  refine RL.callF rfl rfl rfl rfl rfl rfl hc (hp ((a+b) / 2) (by omega) _ hgL) ?_
  rintro e1 w1 ⟨v1,rfl,hg1,hax1,rfl⟩
  refine⟨_,rfl,trivial,?_⟩
  refine go 2 ?_
  refine CW.cond rfl (fun h21=>?_) (fun h21=>?_)
  ·
   refine go 5 ?_
   have hs:searchP p 0 n=searchP p ((a+b) / 2+1) b:=hs.trans (by rw[searchP,dif_pos hlt,if_neg (by simpa using h21)])
   exact fun ac ha=>⟨b-((a+b) / 2+1),[(1,.func (.func g) #[] cap),(5,i64 ((((a+b) / 2:Nat):Int)+1)),(6,i64 b)],ha.sub ⟨rfl,rfl,rfl,trivial⟩,⟨hg1,haxL.trans hax1,(a+b) / 2+1,b,rfl,by omega,by omega,rfl,hs⟩,by omega⟩
  ·
   refine go 4 ?_
   have hs:searchP p 0 n=searchP p a ((a+b) / 2):=hs.trans (by rw[searchP,dif_pos hlt,if_pos (by simpa using h21)])
   exact fun ac ha=>⟨(a+b) / 2-a,[(1,.func (.func g) #[] cap),(5,i64 a),(6,i64 (((a+b) / 2:Nat):Int))],ha.sub ⟨rfl,rfl,rfl,trivial⟩,⟨hg1,haxL.trans hax1,a,(a+b) / 2,rfl,by omega,by omega,rfl,hs⟩,by omega⟩
 ·
  refine go 6 ?_
  refine CW.ret (zr1 ?_)
  have hnl:¬ a<b:=by have:=decide_f h11;omega
  have hs:searchP p 0 n=a:=hs.trans (by rw[searchP,dif_neg hnl])
  exact PostV.mq hgL (by rw[hs];rfl)
theorem place1_ct {l:Log} {h:Hd} {i:Int} {b1 b2 k:Nat} {B1 B2:Res} (hg:Good w s (B2::B1::os)) (hr:r=s∨r∈B2::B1::os) (hl:LogAt r s l h) (c1:B1 b1=some (.cells (logV l h).toArray 33 (0,0))) (c2:B2 b2=some (.cells #[u64 i] 22 (0,0))) (hk:k<l.entries.length) :
  Calls Tryz.prog 158 #[i64 k,ptr b1,ptr b2] w (PostV w s (B2::B1::os) fun q=>q = .bool (notBelow l.entries i k)):=by
 refine enter (l:=[i64 k,ptr b1,ptr b2]) Tryz.func158 rfl Tryz.ntmps158 rfl ?_
 refine go 5 ?_
 have hg12:=hg.drew
 refine CW.draws [(true,0),(true,1),(true,2),(true,3),(true,4),(true,5),(true,6),(true,7),(false,8)] (fun w=>At1 b1 _ w∧At1 b2 _ w∧In r w∧True) mixed (by kernel_rfl) (by kernel_rfl) (by kernel_rfl) (by kernel_rfl) (⟨hg12.at1 (by simp) c1,hg12.at1 (by simp) c2,hg12.has hr,trivial⟩) ?_
 refine go 3 ?_
 refine RL.idxL rfl rfl rfl rfl sl31.out rfl rfl hl.entries (by omega) (by omega) ?_
 rintro q vs hvl hH ⟨ea,ec,ea1,ec1,ea2,ec2,rfl,er1,er2,er3,eh1,eh2,eh3⟩
 refine go 1 ?_
 refine RL.loadT (j:=0) rfl rfl rfl rfl ty22.out rfl (hH) (fun w h=>h.2.2.1) rfl ?_
 refine go 4 ?_
 refine CW.ret (zr1 ?_)
 refine PostV.mq hg12 (congrArg Value.bool ?_)
 simp only[notBelow,List.getElem?_eq_getElem hk,Int.toNat_natCast,ge_iff_le]
theorem place_ct {l:Log} {h:Hd} {i:Int} (hg:Good w s os) (hr:r=s∨r∈os) (hl:LogAt r s l h) (hn:l.entries.length<4611686018427387904) :
  Calls Tryz.prog 138 #[logA l h,u64 i] w (PostV w s os fun q=>q=i64 (placeP l i)):=by
 refine enter (l:=[logA l h,u64 i]) Tryz.func138 rfl Tryz.ntmps138 rfl ?_
 refine go 3 ?_
 rintro b13 w13 Q13 (hg13:Good _ s (Q13::os)) hax13 hb13
 refine go 2 ?_
 rintro b14 w14 Q14 (hg14:Good _ s (Q14::Q13::os)) hax14 hb14
 refine go 8 ?_
 refine RL.makeF rfl rfl rfl rfl rfl ?_
 refine go 1 ?_
 refine zw (Search_ct hg14 hn rfl (fun k hk w' hg'=>place1_ct hg' (hr.imp id fun z=>List.mem_cons_of_mem _ (List.mem_cons_of_mem _ z)) hl hb13 hb14 hk)) ?_
 rintro v15 w15 (hg15:Good _ s (Q14::Q13::os)) hax15 rfl
 refine go 3 ?_
 refine CW.ret (zr1 ?_)
 exact PostV.mq ((hg15.drop).drop) rfl
theorem getLast_get {l:List Entry} (h:0<l.length):l.getLast?=some (l[l.length-1]'(by omega)):=by
 rw[List.getLast?_eq_getElem?,List.getElem?_eq_getElem]
theorem Last_ct {l:Log} {h:Hd} (hg:Good w s os) (hr:r=s∨r∈os) (hl:LogAt r s l h) :
  Calls Tryz.prog 31 #[logA l h] w (PostV w s os fun q=>q = .tuple #[u64 (lastP l).1,u64 (lastP l).2]):=by
 have hm:=hl.entries.le_max
 simp only[maxLen] at hm
 refine enter (l:=[logA l h]) Tryz.func31 rfl Tryz.ntmps31 rfl ?_
 refine go 3 ?_
 rintro b16 w16 Q16 (hg16:Good _ s (Q16::os)) hax16 hb16
 refine go 17 ?_
 refine CW.cond rfl (fun h9=>?_) (fun h9=>?_)
 ·
  refine go 1 ?_
  have hg17:=hg16.drew
  refine CW.draws [(true,0),(true,1),(true,2),(true,3),(true,4),(true,5),(true,6),(true,7),(true,8),(true,9),(true,10),(true,11),(true,12),(true,13),(false,14),(false,15)] (fun w=>At1 b16 _ w∧In r w∧True) mixed (by kernel_rfl) (by kernel_rfl) (by kernel_rfl) (by kernel_rfl) (⟨hg17.at1 (by simp) hb16,hg17.has (hr.imp id (List.mem_cons_of_mem _)),trivial⟩) ?_
  refine go 3 ?_
  have hp:0<l.entries.length:=by have:=decide_t h9;omega
  refine go 1 ?_
  refine RL.idxL rfl rfl rfl rfl sl31.out rfl rfl hl.entries (by omega) (by omega) ?_
  rintro q vs hvl hH ⟨ea,ec,ea1,ec1,ea2,ec2,rfl,er1,er2,er3,eh1,eh2,eh3⟩
  refine go 1 ?_
  refine RL.loadT (j:=0) rfl rfl rfl rfl ty22.out rfl (hH) (fun w h=>h.2.1) rfl ?_
  refine go 4 ?_
  refine RL.idxL rfl rfl rfl rfl sl31.out rfl rfl hl.entries (by omega) (by omega) ?_
  rintro q2 vs2 hvl2 hH2 ⟨fa,fc,fa1,fc1,fa2,fc2,rfl,fr1,fr2,fr3,fh1,fh2,fh3⟩
  refine go 1 ?_
  refine RL.loadT (j:=1) rfl rfl rfl rfl ty22.out rfl (hH2) (fun w h=>h.2.1) rfl ?_
  refine go 3 ?_
  refine CW.ret (zr2 ?_)
  have he:((l.entries.length:Int)-1).toNat=l.entries.length-1:=by omega
  refine PostV.mq (hg17.drop) ?_
  simp only[whole,he]
  simp only[lastP,getLast_get hp]
 ·
  refine go 2 ?_
  have hg18:=hg16.drew
  refine CW.dw [1,3,5,7,9,11,12,14] (fun w=>At1 b16 _ w∧True) ?_
  refine go 9 ?_
  refine CW.ret (zr2 ?_)
  have h0:l.entries=[]:=List.eq_nil_of_length_eq_zero (by have:=decide_f h9;omega)
  refine PostV.mq (hg18.drop) ?_
  simp only[whole,lastP,h0,List.getLast?_nil]
theorem termP_no {l:Log} {i:Int} (h:i≠l.base.index) (hk:¬ placeP l i<l.entries.length):termP l i=(0,false):=by
 unfold termP;rw[if_neg h,List.getElem?_eq_none (by omega)]
theorem termP_at {l:Log} {i:Int} (h:i≠l.base.index) (hk:placeP l i<l.entries.length):termP l i=if l.entries[placeP l i].index=i then (l.entries[placeP l i].term,true) else (0,false):=by
 unfold termP;rw[if_neg h,List.getElem?_eq_getElem hk]
theorem Term_ct {l:Log} {h:Hd} {i:Int} (hg:Good w s os) (hr:r=s∨r∈os) (hl:LogAt r s l h) (hn:l.entries.length<4611686018427387904) :
  Calls Tryz.prog 115 #[logA l h,u64 i] w (PostV w s os fun q=>q = .tuple #[u64 (termP l i).1,.bool (termP l i).2]):=by
 refine enter (l:=[logA l h,u64 i]) Tryz.func115 rfl Tryz.ntmps115 rfl ?_
 refine go 3 ?_
 rintro b19 w19 Q19 (hg19:Good _ s (Q19::os)) hax19 hb19
 refine go 13 ?_
 refine CW.cond rfl (fun h11=>?_) (fun h11=>?_)
 ·
  refine go 8 ?_
  refine CW.ret (zr2 ?_)
  have hi:i=l.base.index:=by simpa using h11
  exact PostV.mq (hg19.drop) (by simp only[whole,termP,if_pos hi])
 ·
  refine go 7 ?_
  refine zw (place_ct hg19 (hr.imp id (List.mem_cons_of_mem _)) hl hn) ?_
  rintro v20 w20 (hg20:Good _ s (Q19::os)) hax20 rfl
  refine go 11 ?_
  refine RL.part 23 rfl (fun h23=>?_) (fun h23=>?_)
  ·
   refine go 3 ?_
   refine RL.idxL rfl rfl rfl rfl sl31.out rfl rfl hl.entries (by omega) (by have:=decide_t h23;omega) ?_
   rintro q vs hvl hH ⟨ea,ec,ea1,ec1,ea2,ec2,rfl,er1,er2,er3,eh1,eh2,eh3⟩
   refine go 1 ?_
   refine RL.load (j:=0) rfl rfl rfl rfl ty22.out rfl (hH) (hg20.has (hr.imp id (List.mem_cons_of_mem _))) rfl ?_
   refine go 4 ?_
   refine CW.cond rfl (fun h32=>?_) (fun h32=>?_)
   ·
    refine go 5 ?_
    refine RL.idxL rfl rfl rfl rfl sl31.out rfl rfl hl.entries (by omega) (by have:=decide_t h23;omega) ?_
    rintro q2 vs2 hvl2 hH2 ⟨fa,fc,fa1,fc1,fa2,fc2,rfl,fr1,fr2,fr3,fh1,fh2,fh3⟩
    refine go 1 ?_
    refine RL.load (j:=1) rfl rfl rfl rfl ty22.out rfl (hH2) (hg20.has (hr.imp id (List.mem_cons_of_mem _))) rfl ?_
    refine go 3 ?_
    refine CW.ret (zr2 ?_)
    have hi:i≠l.base.index:=by simpa using h11
    have hk:placeP l i<l.entries.length:=by have:=decide_t h23;omega
    simp only[Int.toNat_natCast,beq_iff_eq] at h32
    exact PostV.mq (hg20.drop) (by simp only[whole,termP_at hi hk,if_pos h32,Int.toNat_natCast])
   ·
    refine go 6 ?_
    refine CW.ret (zr2 ?_)
    have hi:i≠l.base.index:=by simpa using h11
    have hk:placeP l i<l.entries.length:=by have:=decide_t h23;omega
    simp only[Int.toNat_natCast,beq_eq_false_iff_ne,ne_eq] at h32
    exact PostV.mq (hg20.drop) (by simp only[whole,termP_at hi hk,if_neg h32])
  ·
   refine go 17 ?_
   refine CW.ret (zr2 ?_)
   have hi:i≠l.base.index:=by simpa using h11
   have hk:¬ placeP l i<l.entries.length:=by have:=decide_f h23;omega
   exact PostV.mq (hg20.drop) (by simp only[whole,termP_no hi hk])
theorem Newer_ct {l:Log} {h:Hd} {i t:Int} (hg:Good w s os) (hr:r=s∨r∈os) (hl:LogAt r s l h) :
  Calls Tryz.prog 104 #[logA l h,u64 i,u64 t] w (PostV w s os fun q=>q = .bool (newerP l i t)):=by
 refine enter (l:=[logA l h,u64 i,u64 t]) Tryz.func104 rfl Tryz.ntmps104 rfl ?_
 refine go 3 ?_
 rintro b21 w21 Q21 (hg21:Good _ s (Q21::os)) hax21 hb21
 refine go 7 ?_
 refine zw (Last_ct hg21 (hr.imp id (List.mem_cons_of_mem _)) hl) ?_
 rintro v22 w22 (hg22:Good _ s (Q21::os)) hax22 rfl
 refine go 14 ?_
 refine CW.cond rfl (fun h16=>?_) (fun h16=>?_)
 ·
  refine go 7 ?_
  refine CW.ret (zr1 ?_)
  refine PostV.mq (hg22.drop) (congrArg Value.bool ?_)
  simp_all [newerP]
 ·
  refine go 8 ?_
  refine CW.ret (zr1 ?_)
  refine PostV.mq (hg22.drop) (congrArg Value.bool ?_)
  simp_all [newerP]
end
end Go.Lw
namespace Go.Lw
open Go.Proofs
attribute [local irreducible] RL RA
def Conf.small (c:Conf):Prop:=c.voters.length≤1073741824∧c.learners.length≤1073741824
def Entry.small (e:Entry):Prop:=e.data.length≤1073741824∧e.conf.small
theorem Own.empty {α:Type} {R:Res→List Value→α→Prop} {sz:Nat} {el:TypeId} {s A:Res} {b:Nat} (h:A b=some (.cells #[] el (0,0))):Own R sz el s A (some ⟨b,0,none⟩) 0 []:= .inr ⟨b,#[],rfl,h,Nat.le_refl _,Nat.zero_le _,by simp,by simp[Chunks]⟩
theorem Lies.grow {α:Type} {R:Res→List Value→α→Prop} {sz c:Nat} {r s s':Res} {os:List Res} {a:Option Addr} {xs:List α} (hR:Up R) (hr:r=s∨r∈os) (h:Lies R sz r s a c xs) (hl:Le s s'):∃ r',(r'=s'∨r'∈os)∧Lies R sz r' s' a c xs:=by
 rcases hr with rfl | hr
 ·
  exact⟨s',.inl rfl,(h.mem hl).up hR hl⟩
 ·
  exact⟨r,.inr hr,h.up hR hl⟩
section
variable {w:World} {s r:Res} {os:List Res}
theorem conf_log_ct {c:Conf} {va la:Option Addr} {vc lc:Nat} (hg:Good w s os) (hv:Ints s va vc c.voters) (hl:Ints s la lc c.learners) (hb:c.small) :
  Calls Tryz.prog 58 #[.agg #[.slice va c.voters.length vc,.slice la c.learners.length lc]] w (Post w s os fun s' _ q=>∃ vs,q = .agg vs.toArray∧RConf s' vs c):=by
 obtain⟨hb1,hb2⟩:=hb
 refine enter (l:=[.agg #[.slice va c.voters.length vc,.slice la c.learners.length lc]]) Tryz.func58 rfl Tryz.ntmps58 rfl ?_
 refine go 3 ?_
 rintro b1 w1 Q1 (hg1:Good _ s (Q1::os)) hax1 hb1
 refine go 2 ?_
 rintro b2 w2 Q2 (hg2:Good _ s (Q2::Q1::os)) hax2 hb2
 refine go 3 ?_
 have hg3:=hg2.drew
 refine CW.dw [1,3,7,9,4,10,13,14] (fun w=>At1 b1 _ w∧True) ?_
 refine go 5 ?_
 refine zc (Clone_ct hg3 (.inl rfl) hv.2.2 (by omega)) ?_
 rintro v4 s4 Q4 w4 hle4 (hg4:Good _ s4 (Q4::Q2::Q1::os)) hax4 ⟨-,a5,c5,rfl,ho5⟩
 have hl:=hl.up (RInt.up _) hle4
 have hv:=hv.up (RInt.up _) hle4
 refine go 2 ?_
 refine zc (Clone_ct hg4 (.inl rfl) hl.2.2 (by omega)) ?_
 rintro v5 s5 Q5 w5 hle5 (hg5:Good _ s5 (Q5::Q4::Q2::Q1::os)) hax5 ⟨-,a8,c8,rfl,ho8⟩
 have hl:=hl.up (RInt.up _) hle5
 have hv:=hv.up (RInt.up _) hle5
 refine go 3 ?_
 rintro w6 Q6 (hg6:Good _ s5 (Q5::Q4::Q6::Q1::os)) hax6 hb6
 refine go 2 ?_
 refine CW.ret (ret (vs:=[_]) ⟨_,_,_,rfl,rfl,zl hb6,rfl⟩ ?_)
 obtain⟨s1,hs1,hl1,hm1⟩:=(hg6.front 1 rfl).letgo
 obtain⟨s2,hs2,hl2,hm2⟩:=hs1.letgo
 exact Post.mk (((hle4.trans hle5).trans hl1).trans hl2) hs2.drop.drop.nil (hax1.trans (hax2.trans ((Aux.drew _).trans (hax4.trans (hax5.trans hax6))))) ⟨_,rfl,a5,c5,a8,c8,rfl,ho5.imm (RInt.up _) ((hle5.trans hl1).trans hl2) (hm1.trans hl2),ho8.imm (RInt.up _) (((Le.refl _).trans hl1).trans hl2) hm2⟩
theorem conf_core_ct {c:Conf} {va la:Option Addr} {vc lc:Nat} (hg:Good w s os) (hv:Ints s va vc c.voters) (hl:Ints s la lc c.learners) (hb:c.small) :
  Calls Tryz.prog 62 #[.agg #[.slice va c.voters.length vc,.slice la c.learners.length lc]] w (Post w s os fun s' _ q=>∃ vs,q = .agg vs.toArray∧RConf s' vs c):=by
 obtain⟨hb1,hb2⟩:=hb
 refine enter (l:=[.agg #[.slice va c.voters.length vc,.slice la c.learners.length lc]]) Tryz.func62 rfl Tryz.ntmps62 rfl ?_
 refine go 3 ?_
 rintro b7 w7 Q7 (hg7:Good _ s (Q7::os)) hax7 hb7
 refine go 2 ?_
 rintro b8 w8 Q8 (hg8:Good _ s (Q8::Q7::os)) hax8 hb8
 refine go 3 ?_
 have hg9:=hg8.drew
 refine CW.dw [1,3,7,9,4,10,13,14] (fun w=>At1 b7 _ w∧True) ?_
 refine go 5 ?_
 refine zc (Clone_ct hg9 (.inl rfl) hv.2.2 (by omega)) ?_
 rintro v10 s10 Q10 w10 hle10 (hg10:Good _ s10 (Q10::Q8::Q7::os)) hax10 ⟨-,a5,c5,rfl,ho5⟩
 have hl:=hl.up (RInt.up _) hle10
 have hv:=hv.up (RInt.up _) hle10
 refine go 2 ?_
 refine zc (Clone_ct hg10 (.inl rfl) hl.2.2 (by omega)) ?_
 rintro v11 s11 Q11 w11 hle11 (hg11:Good _ s11 (Q11::Q10::Q8::Q7::os)) hax11 ⟨-,a8,c8,rfl,ho8⟩
 have hl:=hl.up (RInt.up _) hle11
 have hv:=hv.up (RInt.up _) hle11
 refine go 3 ?_
 rintro w12 Q12 (hg12:Good _ s11 (Q11::Q10::Q12::Q7::os)) hax12 hb12
 refine go 2 ?_
 refine CW.ret (ret (vs:=[_]) ⟨_,_,_,rfl,rfl,zl hb12,rfl⟩ ?_)
 obtain⟨s1,hs1,hl1,hm1⟩:=(hg12.front 1 rfl).letgo
 obtain⟨s2,hs2,hl2,hm2⟩:=hs1.letgo
 exact Post.mk (((hle10.trans hle11).trans hl1).trans hl2) hs2.drop.drop.nil (hax7.trans (hax8.trans ((Aux.drew _).trans (hax10.trans (hax11.trans hax12))))) ⟨_,rfl,a5,c5,a8,c8,rfl,ho5.imm (RInt.up _) ((hle11.trans hl1).trans hl2) (hm1.trans hl2),ho8.imm (RInt.up _) (((Le.refl _).trans hl1).trans hl2) hm2⟩
theorem conf_snap_ct {c:Conf} {va la:Option Addr} {vc lc:Nat} (hg:Good w s os) (hv:Ints s va vc c.voters) (hl:Ints s la lc c.learners) (hb:c.small) :
  Calls Tryz.prog 156 #[.agg #[.slice va c.voters.length vc,.slice la c.learners.length lc]] w (Post w s os fun s' _ q=>∃ vs,q = .agg vs.toArray∧RConf s' vs c):=by
 obtain⟨hb1,hb2⟩:=hb
 refine enter (l:=[.agg #[.slice va c.voters.length vc,.slice la c.learners.length lc]]) Tryz.func156 rfl Tryz.ntmps156 rfl ?_
 refine go 3 ?_
 rintro b13 w13 Q13 (hg13:Good _ s (Q13::os)) hax13 hb13
 refine go 2 ?_
 rintro b14 w14 Q14 (hg14:Good _ s (Q14::Q13::os)) hax14 hb14
 refine go 3 ?_
 have hg15:=hg14.drew
 refine CW.dw [1,3,7,9,4,10,13,14] (fun w=>At1 b13 _ w∧True) ?_
 refine go 5 ?_
 refine zc (Clone_ct hg15 (.inl rfl) hv.2.2 (by omega)) ?_
 rintro v16 s16 Q16 w16 hle16 (hg16:Good _ s16 (Q16::Q14::Q13::os)) hax16 ⟨-,a5,c5,rfl,ho5⟩
 have hl:=hl.up (RInt.up _) hle16
 have hv:=hv.up (RInt.up _) hle16
 refine go 2 ?_
 refine zc (Clone_ct hg16 (.inl rfl) hl.2.2 (by omega)) ?_
 rintro v17 s17 Q17 w17 hle17 (hg17:Good _ s17 (Q17::Q16::Q14::Q13::os)) hax17 ⟨-,a8,c8,rfl,ho8⟩
 have hl:=hl.up (RInt.up _) hle17
 have hv:=hv.up (RInt.up _) hle17
 refine go 3 ?_
 rintro w18 Q18 (hg18:Good _ s17 (Q17::Q16::Q18::Q13::os)) hax18 hb18
 refine go 2 ?_
 refine CW.ret (ret (vs:=[_]) ⟨_,_,_,rfl,rfl,zl hb18,rfl⟩ ?_)
 obtain⟨s1,hs1,hl1,hm1⟩:=(hg18.front 1 rfl).letgo
 obtain⟨s2,hs2,hl2,hm2⟩:=hs1.letgo
 exact Post.mk (((hle16.trans hle17).trans hl1).trans hl2) hs2.drop.drop.nil (hax13.trans (hax14.trans ((Aux.drew _).trans (hax16.trans (hax17.trans hax18))))) ⟨_,rfl,a5,c5,a8,c8,rfl,ho5.imm (RInt.up _) ((hle17.trans hl1).trans hl2) (hm1.trans hl2),ho8.imm (RInt.up _) (((Le.refl _).trans hl1).trans hl2) hm2⟩
theorem entry_log_ct {e:Entry} {vs:List Value} (hg:Good w s os) (hE:REntry s vs e) (hb:e.small) :
  Calls Tryz.prog 173 #[.agg vs.toArray] w (Post w s os fun s' _ q=>∃ us,q = .agg us.toArray∧REntry s' us e):=by
 obtain⟨a,c,a1,c1,a2,c2,rfl,r1,r2,r3,h1,h2,h3⟩:=hE
 obtain⟨hb1,hb2⟩:=hb
 refine enter (l:=[.agg #[u64 e.index,u64 e.term,i64 e.kind,.slice a e.data.length c,.slice a1 e.conf.voters.length c1,.slice a2 e.conf.learners.length c2]]) Tryz.func173 rfl Tryz.ntmps173 rfl ?_
 refine go 3 ?_
 rintro b19 w19 Q19 (hg19:Good _ s (Q19::os)) hax19 hb19
 refine go 2 ?_
 rintro b20 w20 Q20 (hg20:Good _ s (Q20::Q19::os)) hax20 hb20
 refine go 3 ?_
 have hg21:=hg20.drew
 refine CW.dx [1,3,7,9,4,13,10] [14,17,18] 7 3 (fun w=>At1 b19 _ w∧True) ?_
 refine go 5 ?_
 refine zc (CloneB_ct hg21 (.inl rfl) h1.2.2 (by omega)) ?_
 rintro v22 s22 Q22 w22 hle22 (hg22:Good _ s22 (Q22::Q20::Q19::os)) hax22 ⟨-,a5,c5,rfl,ho5⟩
 have h1:=h1.up (RInt.up _) hle22
 have h2:=h2.up (RInt.up _) hle22
 have h3:=h3.up (RInt.up _) hle22
 refine go 3 ?_
 refine zc (conf_log_ct hg22 h2 h3 hb2) ?_
 rintro v23 s23 B23 w23 hle23 (hg23:Good _ s23 (B23::Q22::Q20::Q19::os)) hax23 ⟨vs8,rfl,hR8⟩
 have hg23:=hg23.drop
 have h1:=h1.up (RInt.up _) hle23
 have h2:=h2.up (RInt.up _) hle23
 have h3:=h3.up (RInt.up _) hle23
 obtain⟨va8,vc8,la8,lc8,rfl,hv8,hl8⟩:=hR8
 refine go 4 ?_
 rintro w24 Q24 (hg24:Good _ s23 (Q22::Q20::Q24::os)) hax24 hb24
 refine go 3 ?_
 rintro w25 Q25 (hg25:Good _ s23 (Q22::Q20::Q25::os)) hax25 hb25
 refine go 6 ?_
 rintro w26 Q26 (hg26:Good _ s23 (Q22::Q26::Q25::os)) hax26 hb26
 refine go 2 ?_
 refine CW.ret (ret (vs:=[_]) ⟨_,_,_,rfl,rfl,zl hb26,rfl⟩ ?_)
 obtain⟨s1,hs1,hl1,hm1⟩:=hg26.letgo
 exact Post.mk ((hle22.trans hle23).trans hl1) hs1.drop.drop.nil (hax19.trans (hax20.trans ((Aux.drew _).trans (hax22.trans (hax23.trans (hax24.trans (hax25.trans hax26))))))) ⟨_,rfl,a5,c5,va8,vc8,la8,lc8,rfl,r1,r2,r3,ho5.imm (RInt.up _) (hle23.trans hl1) hm1,hv8.up (RInt.up _) ((Le.refl _).trans hl1),hl8.up (RInt.up _) ((Le.refl _).trans hl1)⟩
theorem entry_core_ct {e:Entry} {vs:List Value} (hg:Good w s os) (hE:REntry s vs e) (hb:e.small) :
  Calls Tryz.prog 64 #[.agg vs.toArray] w (Post w s os fun s' _ q=>∃ us,q = .agg us.toArray∧REntry s' us e):=by
 obtain⟨a,c,a1,c1,a2,c2,rfl,r1,r2,r3,h1,h2,h3⟩:=hE
 obtain⟨hb1,hb2⟩:=hb
 refine enter (l:=[.agg #[u64 e.index,u64 e.term,i64 e.kind,.slice a e.data.length c,.slice a1 e.conf.voters.length c1,.slice a2 e.conf.learners.length c2]]) Tryz.func64 rfl Tryz.ntmps64 rfl ?_
 refine go 3 ?_
 rintro b27 w27 Q27 (hg27:Good _ s (Q27::os)) hax27 hb27
 refine go 2 ?_
 rintro b28 w28 Q28 (hg28:Good _ s (Q28::Q27::os)) hax28 hb28
 refine go 3 ?_
 have hg29:=hg28.drew
 refine CW.dx [1,3,7,9,4,13,10] [14,17,18] 7 3 (fun w=>At1 b27 _ w∧True) ?_
 refine go 5 ?_
 refine zc (CloneB_ct hg29 (.inl rfl) h1.2.2 (by omega)) ?_
 rintro v30 s30 Q30 w30 hle30 (hg30:Good _ s30 (Q30::Q28::Q27::os)) hax30 ⟨-,a5,c5,rfl,ho5⟩
 have h1:=h1.up (RInt.up _) hle30
 have h2:=h2.up (RInt.up _) hle30
 have h3:=h3.up (RInt.up _) hle30
 refine go 3 ?_
 refine zc (conf_core_ct hg30 h2 h3 hb2) ?_
 rintro v31 s31 B31 w31 hle31 (hg31:Good _ s31 (B31::Q30::Q28::Q27::os)) hax31 ⟨vs8,rfl,hR8⟩
 have hg31:=hg31.drop
 have h1:=h1.up (RInt.up _) hle31
 have h2:=h2.up (RInt.up _) hle31
 have h3:=h3.up (RInt.up _) hle31
 obtain⟨va8,vc8,la8,lc8,rfl,hv8,hl8⟩:=hR8
 refine go 4 ?_
 rintro w32 Q32 (hg32:Good _ s31 (Q30::Q28::Q32::os)) hax32 hb32
 refine go 3 ?_
 rintro w33 Q33 (hg33:Good _ s31 (Q30::Q28::Q33::os)) hax33 hb33
 refine go 6 ?_
 rintro w34 Q34 (hg34:Good _ s31 (Q30::Q34::Q33::os)) hax34 hb34
 refine go 2 ?_
 refine CW.ret (ret (vs:=[_]) ⟨_,_,_,rfl,rfl,zl hb34,rfl⟩ ?_)
 obtain⟨s1,hs1,hl1,hm1⟩:=hg34.letgo
 exact Post.mk ((hle30.trans hle31).trans hl1) hs1.drop.drop.nil (hax27.trans (hax28.trans ((Aux.drew _).trans (hax30.trans (hax31.trans (hax32.trans (hax33.trans hax34))))))) ⟨_,rfl,a5,c5,va8,vc8,la8,lc8,rfl,r1,r2,r3,ho5.imm (RInt.up _) (hle31.trans hl1) hm1,hv8.up (RInt.up _) ((Le.refl _).trans hl1),hl8.up (RInt.up _) ((Le.refl _).trans hl1)⟩
theorem entries_ct {xs:List Entry} {a:Option Addr} {c:Nat} (hg:Good w s os) (hr:r=s∨r∈os) (hl:Lies REntry 6 r s a c xs) (hsm:∀ e∈xs,e.small) (hb:xs.length≤1099511627776) :
  Calls Tryz.prog 149 #[.slice a xs.length c] w (Post w s os fun s' A q=>∃ a' c',q = .slice a' xs.length c'∧Own REntry 6 65 s' A a' c' xs):=by
 refine enter (l:=[.slice a xs.length c]) Tryz.func149 rfl Tryz.ntmps149 rfl ?_
 refine go 8 ?_
 refine RL.makeN rfl rfl rfl rfl sl31.out ze65.out rfl rfl rfl (by omega) (by omega) hg ?_
 rintro g A7 w7 hgm haxm hA7
 refine go 7 ?_
 obtain⟨news,hsrc,hch⟩:=Src.lies (t:=31) sl31.out hl (hgm.has (hr.imp id (List.mem_cons_of_mem _)))
 have hnl:=hch.length
 have hzl:(zsL xs.length [Value.int IntKind.u64 0,Value.int IntKind.u64 0,Value.int IntKind.i64 0,Value.slice none 0 0,Value.slice none 0 0,Value.slice none 0 0]).toArray.size=xs.length*6:=by rw[List.size_toArray,zsL_length];rfl
 refine RL.copy (i:=0) xs.length rfl rfl rfl rfl sl31.out rfl rfl hsrc.len (Nat.min_self _) (hsrc.first _ rfl) hgm rfl hA7 (by rw[hzl];omega) (hch.one REntry.one) ?_
 intro wc hgc haxc
 refine go 1 ?_
 have hown:=Own.filled (A:=A7) (el:=65) (g:=g) hzl hch (by simp only[maxLen];omega)
 generalize (A7.put g (.cells (spl (zsL xs.length [Value.int IntKind.u64 0,Value.int IntKind.u64 0,Value.int IntKind.i64 0,Value.slice none 0 0,Value.slice none 0 0,Value.slice none 0 0]).toArray 0 news) 65 (0,0)))=AC at hgc hown
 refine go 9 ?_
 refine CW.loop (σ:=Nat) (fun j E w'=>∃ s' A' k,Good w' s' (A'::os)∧Aux w w'∧Le s s'∧E=[(3,.slice (some ⟨g,0,none⟩) xs.length xs.length),(12,i64 xs.length),(13,i64 (k:Nat))]∧k+j=xs.length∧Own REntry 6 65 s' A' (some ⟨g,0,none⟩) xs.length xs) (fun j=>j) xs.length [(3,.slice (some ⟨g,0,none⟩) xs.length xs.length),(12,i64 xs.length),(13,i64 0)] ⟨rfl,rfl,rfl,trivial⟩ ⟨s,AC,0,hgc,(haxm.trans haxc),Le.refl _,rfl,by omega,hown⟩ ?_
 rintro j E wL ⟨sL,AL,k,hgL,haxL,hleL,rfl,hk,hoL⟩
 refine go 5 ?_
 refine CW.cond rfl (fun h14=>?_) (fun h14=>?_)
 ·
  refine go 13 ?_
  have hlt:k<xs.length:=by have:=decide_t h14;omega
  refine RL.idxL rfl rfl rfl rfl sl31.out rfl rfl hoL.lies (by omega) (by omega) ?_
  rintro q vs hvl hH hE
  have hE2:=hE
  obtain⟨ea,ec,ea1,ec1,ea2,ec2,rfl,er1,er2,er3,eh1,eh2,eh3⟩:=hE2
  refine RL.loads (j:=0) (us:=_) rfl rfl rfl rfl ty65.out rfl (hH) (hgL.mem (by simp)) rfl rfl ?_
  refine go 1 ?_
  refine zc (entry_log_ct hgL hE (hsm _ (List.getElem_mem _))) ?_
  rintro v35 s35 B35 w35 hle35 (hg35:Good _ s35 (B35::AL::os)) hax35 ⟨us,rfl,hU⟩
  have hg35:=hg35.drop
  have hoL:=hoL.up REntry.up hle35
  have hul:us.length=6:=by obtain⟨_,_,_,_,_,_,rfl,_⟩:=hU;rfl
  refine go 1 ?_
  refine RL.idxOwn rfl rfl rfl rfl sl31.out rfl rfl hoL (by omega) (by omega) ?_
  rintro g' cs vs' hb' hA' hcs hvl' hcell _
  cases hb'
  have hset:=hoL.set hA' hlt hul hU
  rw[show xs.set k xs[((k:Nat):Int).toNat]=xs from List.set_getElem_self hlt] at hset
  have hfit:k*6+6≤cs.size:=by rw[hcs];omega
  refine RL.store (i:=0) (j:=k*6) rfl rfl rfl ty65.out rfl rfl hg35 rfl hA' (by simpa [Value.cells] using hul) (by obtain⟨_,_,_,_,_,_,rfl,_⟩:=hU;simp[Value.cells,Value.oneCell']) hfit ?_
  intro ws hgs haxs
  refine go 6 ?_
  cases j with
  | zero=>omega
  | succ j=>exact fun ac ha=>⟨j,[(3,.slice (some ⟨g,0,none⟩) xs.length xs.length),(12,i64 xs.length),(13,i64 ((k:Int)+1))],ha.sub ⟨rfl,rfl,rfl,trivial⟩,⟨_,_,k+1,hgs,((haxL.trans hax35)).trans haxs,(hleL.trans hle35),rfl,by omega,hset⟩,Nat.lt_succ_self j⟩
 ·
  refine go 6 ?_
  refine CW.ret (zr1 ?_)
  exact Post.mq hgL ⟨_,_,rfl,hoL⟩
end
end Go.Lw
namespace Go.Lw
open Go.Proofs
attribute [local irreducible] RL RA
def Log.small (l:Log):Prop:=l.base.conf.small∧l.base.data.length≤1073741824∧(∀ e∈l.entries,e.small)∧l.entries.length≤1099511627776
structure LogOwn (A s:Res) (l:Log) (h:Hd):Prop where
 index:rng .u64 l.base.index
 term:rng .u64 l.base.term
 voters:Imm (RInt .i64) 1 s h.va h.vc l.base.conf.voters
 learners:Imm (RInt .i64) 1 s h.la h.lc l.base.conf.learners
 data:Imm (RInt .u8) 1 s h.da h.dc l.base.data
 entries:Own REntry 6 65 s A h.ea h.ec l.entries
theorem LogOwn.at {A s:Res} {l:Log} {h:Hd} (k:LogOwn A s l h):LogAt A s l h:=⟨k.index,k.term,k.voters,k.learners,k.data,k.entries.lies⟩
theorem LogOwn.up {A s s':Res} {l:Log} {h:Hd} (k:LogOwn A s l h) (hl:Le s s'):LogOwn A s' l h :=
 ⟨k.index,k.term,k.voters.up (RInt.up _) hl,k.learners.up (RInt.up _) hl,k.data.up (RInt.up _) hl,k.entries.up REntry.up hl⟩
theorem LogOwn.mem {A A' s:Res} {l:Log} {h:Hd} (k:LogOwn A s l h) (hl:Le A A'):LogOwn A' s l h:={ k with entries:=k.entries.mem hl }
theorem Dj.apart {α β:Type} {R:Res→List Value→α→Prop} {R':Res→List Value→β→Prop} {sz sz' c c':Nat} {el el':TypeId} {s s' A B:Res} {a b:Option Addr} {xs:List α} {ys:List β} (h:Own R sz el s A a c xs) (k:Own R' sz' el' s' B b c' ys) (hab:Apart A B):Dj a b:=fun x y hx hy e=>by
 have h1:=h.addr hx
 have h2:=k.addr hy
 exact h2 (e▸hab _ h1)
def Hd.log (va:Option Addr) (vc:Nat) (la:Option Addr) (lc:Nat) (da:Option Addr) (dc:Nat) (ea:Option Addr) (ec:Nat):Hd:=⟨va,vc,la,lc,da,dc,ea,ec,none,0,none,0,none,0,none,0,none,0⟩
theorem take_min {α:Type} (xs:List α) (most:Int):((xs.take (if (if 0>most then (0:Int) else most)<(xs.length:Int) then (if 0>most then (0:Int) else most) else (xs.length:Int)).toNat).drop (0:Int).toNat)=xs.take most.toNat:=by
 rw[show (0:Int).toNat=0 from rfl,List.drop_zero,List.take_eq_take_iff]
 split<;>split<;>omega
section
variable {w:World} {s r:Res} {os:List Res}
theorem copied_log_ct {l:Log} {h:Hd} (hg:Good w s os) (hr:r=s∨r∈os) (hl:LogAt r s l h) (hs:l.small) :
  Calls Tryz.prog 153 #[logA l h] w (Post w s os fun s' A q=>∃ h',q=logA l h'∧LogOwn A s' l h'):=by
 obtain⟨hs1,hs2,hs3,hs4⟩:=hs
 have hE0:=hl.entries
 refine enter (l:=[logA l h]) Tryz.func153 rfl Tryz.ntmps153 rfl ?_
 refine go 3 ?_
 rintro b1 w1 Q1 (hg1:Good _ s (Q1::os)) hax1 hb1
 refine go 2 ?_
 rintro b2 w2 Q2 (hg2:Good _ s (Q2::Q1::os)) hax2 hb2
 refine go 7 ?_
 rintro b3 w3 Q3 (hg3:Good _ s (Q3::Q2::Q1::os)) hax3 hb3
 refine go 2 ?_
 rintro w4 Q4 (hg4:Good _ s (Q4::Q2::Q1::os)) hax4 hb4
 refine go 3 ?_
 have hg5:=hg4.drew
 refine CW.dx [1,3,7,9,4,13,10] [14,17,18] 7 3 (fun w=>At1 b3 _ w∧True) ?_
 refine go 5 ?_
 refine zc (conf_log_ct hg5 hl.voters hl.learners hs1) ?_
 rintro v6 s6 B6 w6 hle6 (hg6:Good _ s6 (B6::Q4::Q2::Q1::os)) hax6 ⟨vs8,rfl,hR8⟩
 have hg6:=hg6.drop
 have hl:=hl.up hle6
 obtain⟨va8,vc8,la8,lc8,rfl,hv8,hl8⟩:=hR8
 refine go 3 ?_
 refine zc (CloneB_ct hg6 (.inl rfl) hl.data.2.2 (by omega)) ?_
 rintro v7 s7 Q7 w7 hle7 (hg7:Good _ s7 (Q7::Q4::Q2::Q1::os)) hax7 ⟨-,a11,c11,rfl,ho11⟩
 have hl:=hl.up hle7
 refine go 4 ?_
 rintro w8 Q8 (hg8:Good _ s7 (Q7::Q8::Q2::Q1::os)) hax8 hb8
 refine go 3 ?_
 rintro w9 Q9 (hg9:Good _ s7 (Q7::Q9::Q2::Q1::os)) hax9 hb9
 refine go 3 ?_
 have hg10:=hg9.drew
 refine CW.dw [1,3,5,6,9,10] (fun w=>At1 b3 _ w∧At1 b1 _ w∧True) ?_
 refine go 3 ?_
 obtain⟨r17,hr17,hE17⟩:=Lies.grow REntry.up hr hE0 (hle6.trans hle7)
 refine go 1 ?_
 refine zc (entries_ct hg10 (hr17.imp id fun z=>by simp[z]) hE17 hs3 hs4) ?_
 rintro v11 s11 Q11 w11 hle11 (hg11:Good _ s11 (Q11::Q7::Q9::Q2::Q1::os)) hax11 ⟨a17,c17,rfl,ho17⟩
 have hl:=hl.up hle11
 refine go 3 ?_
 rintro w12 Q12 (hg12:Good _ s11 (Q11::Q7::Q9::Q12::Q1::os)) hax12 hb12
 refine go 2 ?_
 refine CW.ret (ret (vs:=[_]) ⟨_,_,_,rfl,rfl,zl hb12,rfl⟩ ?_)
 obtain⟨s1,hs1,hl1,hm1⟩:=(hg12.front 1 rfl).letgo
 have hl:=hl.up hl1
 exact Post.mk ((hle6.trans (hle7.trans hle11)).trans hl1) hs1.dropNext.dropNext.dropNext (hax1.trans (hax2.trans (hax3.trans (hax4.trans ((Aux.drew _).trans (hax6.trans (hax7.trans (hax8.trans (hax9.trans ((Aux.drew _).trans (hax11.trans hax12))))))))))) ⟨Hd.log va8 vc8 la8 lc8 a11 c11 a17 c17,rfl,hl.index,hl.term,hv8.up (RInt.up _) ((hle7.trans hle11).trans hl1),hl8.up (RInt.up _) ((hle7.trans hle11).trans hl1),ho11.imm (RInt.up _) (hle11.trans hl1) hm1,ho17.up REntry.up hl1⟩
theorem Slice_ct {l:Log} {h:Hd} {frm most:Int} (hg:Good w s os) (hr:r=s∨r∈os) (hl:LogAt r s l h) (hs:l.small) (hfr:rng .u64 frm) (hmo:rng .i64 most) :
  Calls Tryz.prog 131 #[logA l h,u64 frm,i64 most] w (Post w s os fun s' A q=>∃ a c,q = .tuple #[.slice a (sliceP l frm most).1.length c,i64 (sliceP l frm most).2]∧Own REntry 6 65 s' A a c (sliceP l frm most).1):=by
 obtain⟨hs1,hs2,hs3,hs4⟩:=hs
 refine enter (l:=[logA l h,u64 frm,i64 most]) Tryz.func131 rfl Tryz.ntmps131 rfl ?_
 refine go 3 ?_
 rintro b13 w13 Q13 (hg13:Good _ s (Q13::os)) hax13 hb13
 refine go 9 ?_
 refine zw (Last_ct hg13 (hr.imp id fun z=>by simp[z]) hl) ?_
 rintro v14 w14 (hg14:Good _ s (Q13::os)) hax14 rfl
 refine go 15 ?_
 refine RL.part 21 rfl (fun h21=>?_) (fun h21=>?_)
 ·
  refine go 12 ?_
  refine CW.ret (zr2 ?_)
  have hc:frm≤l.base.index:=decide_t h21
  exact Post.mq (hg14.drop).nil ⟨none,0,by simp only[sliceP,if_pos (Or.inl hc)];rfl,by simp only[sliceP,if_pos (Or.inl hc)];exact Own.nil _ _ _ _ _⟩
 ·
  refine go 2 ?_
  refine RL.as_ rfl rfl rfl rfl (u64 (up1 (lastP l).1)) (rfl) ?_
  refine go 3 ?_
  refine CW.cond rfl (fun h26=>?_) (fun h26=>?_)
  ·
   refine go 5 ?_
   refine CW.ret (zr2 ?_)
   have hc:up1 (lastP l).1<frm:=decide_t h26
   exact Post.mq (hg14.drop).nil ⟨none,0,by simp only[sliceP,if_pos (Or.inr hc)];rfl,by simp only[sliceP,if_pos (Or.inr hc)];exact Own.nil _ _ _ _ _⟩
  ·
   refine go 2 ?_
   have hg15:=hg14.drew
   refine CW.dw [1,3,5,7,8,11,12] (fun w=>At1 b13 _ w∧True) ?_
   refine go 5 ?_
   refine zw (place_ct hg15 (hr.imp id fun z=>by simp[z]) hl (by omega)) ?_
   rintro v16 w16 (hg16:Good _ s (Q13::os)) hax16 rfl
   refine go 1 ?_
   have hpl:=placeP_le l frm
   refine RL.partL (placeP l frm:Int) (l.entries.length:Int) rfl rfl rfl rfl sl31.out rfl (.inr ⟨_,_,rfl,rfl⟩) (.inl ⟨rfl,rfl⟩) hl.entries (by omega) (by omega) (by omega) ?_
   intro a32 c32 hE32
   have e32:((l.entries.take (l.entries.length:Int).toNat).drop ((placeP l frm:Nat):Int).toNat)=l.entries.drop (placeP l frm):=by simp
   rw[e32] at hE32 ⊢
   refine go 8 ?_
   refine RL.max rfl rfl rfl rfl rfl rfl ?_
   refine RL.min rfl rfl rfl rfl rfl rfl ?_
   refine RL.partL (0:Int) (if (if 0>most then (0:Int) else most)<((l.entries.drop (placeP l frm)).length:Int) then (if 0>most then (0:Int) else most) else ((l.entries.drop (placeP l frm)).length:Int)) rfl rfl rfl rfl sl31.out rfl (.inl ⟨rfl,rfl⟩) (.inr ⟨_,_,rfl,rfl⟩) hE32 (by omega) (by split<;>split<;>omega) (by split<;>omega) ?_
   intro a39 c39 hE39
   rw[take_min] at hE39 ⊢
   refine go 1 ?_
   refine zc (entries_ct hg16 (hr.imp id fun z=>by simp[z]) hE39 (fun e he=>hs3 e (List.mem_of_mem_drop (List.mem_of_mem_take he))) (by simp only[List.length_take,List.length_drop];omega)) ?_
   rintro v17 s17 Q17 w17 hle17 (hg17:Good _ s17 (Q17::Q13::os)) hax17 ⟨a40,c40,rfl,ho40⟩
   refine go 4 ?_
   refine CW.ret (zr2 ?_)
   have hc:¬ (frm≤l.base.index∨up1 (lastP l).1<frm):=fun h=>h.elim (decide_f h21) (decide_f h26)
   exact Post.mq hg17.dropNext ⟨a40,c40,by simp only[sliceP,if_neg hc];rfl,by simp only[sliceP,if_neg hc];exact ho40⟩
end
end Go.Lw
namespace Go.Lw
open Go.Proofs
attribute [local irreducible] RL RA
def idxP {α:Type} (p:α→Bool) (xs:List α):Int:=match xs.findIdx? p with | some k=>(k:Int) | none=> -1
theorem idxP_at {α:Type} {p:α→Bool} {xs:List α} {k:Nat} (hk:k<xs.length) (hp:p xs[k]=true) (hn:∀ x∈xs.take k,p x=false):idxP p xs=k:=by
 unfold idxP
 have:xs.findIdx? p=some k:=by
  rw[List.findIdx?_eq_some_iff_getElem]
  refine⟨hk,hp,fun j hj=>?_⟩
  have:=hn (xs[j]'(by omega)) (by rw[List.mem_take_iff_getElem];exact⟨j,by omega,rfl⟩)
  simpa using this
 rw[this]
theorem idxP_none {α:Type} {p:α→Bool} {xs:List α} (hn:∀ x∈xs,p x=false):idxP p xs = -1:=by
 unfold idxP
 have:xs.findIdx? p=none:=by rw[List.findIdx?_eq_none_iff];exact hn
 rw[this]
theorem idxP_any {α:Type} (p:α→Bool) (xs:List α):decide (idxP p xs≥0)=xs.any p:=by
 unfold idxP
 cases h:xs.findIdx? p with
 | none =>
  rw[List.findIdx?_eq_none_iff] at h
  have:xs.any p=false:=List.any_eq_false.2 (fun x hx=>by simp[h x hx])
  rw[this];rfl
 | some k =>
  rw[List.findIdx?_eq_some_iff_getElem] at h
  obtain⟨hk,hp,_⟩:=h
  have:xs.any p=true:=List.any_eq_true.2 ⟨_,List.getElem_mem hk,hp⟩
  rw[this];simp
theorem idxP_rng {α:Type} (p:α→Bool) (xs:List α) : -1≤idxP p xs∧idxP p xs<xs.length∨xs=[]∧idxP p xs = -1:=by
 unfold idxP
 cases h:xs.findIdx? p with
 | none=>cases xs with
  | nil=>exact .inr ⟨rfl,rfl⟩
  | cons x xs=>left;simp;omega
 | some k =>
  rw[List.findIdx?_eq_some_iff_getElem] at h
  obtain⟨hk,_⟩:=h
  left;simp only;omega
theorem takes {α:Type} {p:α→Bool} {xs:List α} {k:Nat} (hk:k<xs.length) (hn:∀ x∈xs.take k,p x=false) (hp:p xs[k]=false):∀ x∈xs.take (k+1),p x=false:=by
 intro x hx
 rw[List.take_succ_eq_append_getElem hk] at hx
 rcases List.mem_append.1 hx with hx | hx
 ·
  exact hn x hx
 ·
  obtain rfl:=List.mem_singleton.1 hx;exact hp
section
variable {w:World} {s r:Res} {os:List Res}
theorem IndexE_ct {xs:List Entry} {xa:Option Addr} {xc g:Nat} {cap:Array Value} {p:Entry→Bool} (hg:Good w s os) (hr:r=s∨r∈os) (hx:Lies REntry 6 r s xa xc xs) (hc:callable Tryz.prog g=true)
  (hp:∀ x∈xs,∀ vs,REntry s vs x→∀ w',Good w' s os→Calls Tryz.prog g (#[.agg vs.toArray]++cap) w' (PostV w' s os fun q=>q = .bool (p x))) :
  Calls Tryz.prog 154 #[.slice xa xs.length xc,.func (.func g) #[] cap] w (PostV w s os fun q=>q=i64 (idxP p xs)):=by
 have hlen:=hx.le_max
 simp only[maxLen] at hlen
 refine enter (l:=[.slice xa xs.length xc,.func (.func g) #[] cap]) Tryz.func154 rfl Tryz.ntmps154 rfl ?_
 refine go 12 ?_
 refine CW.loop (σ:=Nat) (fun j E w'=>Good w' s os∧Aux w w'∧∃ k:Nat,E=[(0,.slice xa xs.length xc),(1,.func (.func g) #[] cap),(7,i64 xs.length),(8,i64 k)]∧k+j=xs.length∧∀ x∈xs.take k,p x=false) (fun j=>j) xs.length [(0,.slice xa xs.length xc),(1,.func (.func g) #[] cap),(7,i64 xs.length),(8,i64 0)] ⟨rfl,rfl,rfl,rfl,trivial⟩ ⟨hg,(Aux.refl _),0,rfl,by omega,by simp⟩ ?_
 rintro j E wL ⟨hgL,haxL,k,rfl,hk,hno⟩
 refine go 5 ?_
 refine CW.cond rfl (fun h9=>?_) (fun h9=>?_)
 ·
  refine go 13 ?_
  have hlt:k<xs.length:=by have:=decide_t h9;omega
  refine RL.idxL rfl rfl rfl rfl sl31.out rfl rfl hx (by omega) (by omega) ?_
  rintro q vs hvl hH hE
  have hE2:=hE
  obtain⟨ea,ec,ea1,ec1,ea2,ec2,rfl,er1,er2,er3,eh1,eh2,eh3⟩:=hE2
  refine RL.loads (j:=0) (us:=_) rfl rfl rfl rfl ty65.out rfl (hH) (hgL.has hr) rfl rfl ?_
  refine RL.callF rfl rfl rfl rfl rfl rfl hc (hp _ (List.getElem_mem _) _ hE _ hgL) ?_
  rintro e1 w1 ⟨v1,rfl,hg1,hax1,rfl⟩
  refine⟨_,rfl,trivial,?_⟩
  refine go 1 ?_
  refine CW.cond rfl (fun h16=>?_) (fun h16=>?_)
  ·
   refine go 5 ?_
   refine CW.ret (zr1 ?_)
   exact PostV.mq hg1 (congrArg i64 (idxP_at hlt h16 hno).symm)
  ·
   refine go 5 ?_
   have hno2:=takes hlt hno h16
   cases j with
   | zero=>omega
   | succ j=>exact fun ac ha=>⟨j,[(0,.slice xa xs.length xc),(1,.func (.func g) #[] cap),(7,i64 xs.length),(8,i64 ((k:Int)+1))],ha.sub ⟨rfl,rfl,rfl,rfl,trivial⟩,⟨hg1,haxL.trans hax1,k+1,rfl,by omega,hno2⟩,Nat.lt_succ_self j⟩
 ·
  refine go 5 ?_
  refine CW.ret (zr1 ?_)
  have hke:k=xs.length:=by have:=decide_f h9;omega
  rw[hke,List.take_length] at hno
  exact PostV.mq hgL (congrArg i64 (idxP_none hno).symm)
theorem IndexPe_ct {xs:List Peer} {xa:Option Addr} {xc g:Nat} {cap:Array Value} {p:Peer→Bool} (hg:Good w s os) (hr:r=s∨r∈os) (hx:Lies RPeer 3 r s xa xc xs) (hc:callable Tryz.prog g=true)
  (hp:∀ x∈xs,∀ vs,RPeer s vs x→∀ w',Good w' s os→Calls Tryz.prog g (#[.agg vs.toArray]++cap) w' (PostV w' s os fun q=>q = .bool (p x))) :
  Calls Tryz.prog 143 #[.slice xa xs.length xc,.func (.func g) #[] cap] w (PostV w s os fun q=>q=i64 (idxP p xs)):=by
 have hlen:=hx.le_max
 simp only[maxLen] at hlen
 refine enter (l:=[.slice xa xs.length xc,.func (.func g) #[] cap]) Tryz.func143 rfl Tryz.ntmps143 rfl ?_
 refine go 12 ?_
 refine CW.loop (σ:=Nat) (fun j E w'=>Good w' s os∧Aux w w'∧∃ k:Nat,E=[(0,.slice xa xs.length xc),(1,.func (.func g) #[] cap),(7,i64 xs.length),(8,i64 k)]∧k+j=xs.length∧∀ x∈xs.take k,p x=false) (fun j=>j) xs.length [(0,.slice xa xs.length xc),(1,.func (.func g) #[] cap),(7,i64 xs.length),(8,i64 0)] ⟨rfl,rfl,rfl,rfl,trivial⟩ ⟨hg,(Aux.refl _),0,rfl,by omega,by simp⟩ ?_
 rintro j E wL ⟨hgL,haxL,k,rfl,hk,hno⟩
 refine go 5 ?_
 refine CW.cond rfl (fun h9=>?_) (fun h9=>?_)
 ·
  refine go 13 ?_
  have hlt:k<xs.length:=by have:=decide_t h9;omega
  refine RL.idxL rfl rfl rfl rfl sl40.out rfl rfl hx (by omega) (by omega) ?_
  rintro q vs hvl hH hE
  have hE2:=hE
  obtain⟨rfl,er1⟩:=hE2
  refine RL.loads (j:=0) (us:=_) rfl rfl rfl rfl ty136.out rfl (hH) (hgL.has hr) rfl rfl ?_
  refine RL.callF rfl rfl rfl rfl rfl rfl hc (hp _ (List.getElem_mem _) _ hE _ hgL) ?_
  rintro e1 w1 ⟨v1,rfl,hg1,hax1,rfl⟩
  refine⟨_,rfl,trivial,?_⟩
  refine go 1 ?_
  refine CW.cond rfl (fun h16=>?_) (fun h16=>?_)
  ·
   refine go 5 ?_
   refine CW.ret (zr1 ?_)
   exact PostV.mq hg1 (congrArg i64 (idxP_at hlt h16 hno).symm)
  ·
   refine go 5 ?_
   have hno2:=takes hlt hno h16
   cases j with
   | zero=>omega
   | succ j=>exact fun ac ha=>⟨j,[(0,.slice xa xs.length xc),(1,.func (.func g) #[] cap),(7,i64 xs.length),(8,i64 ((k:Int)+1))],ha.sub ⟨rfl,rfl,rfl,rfl,trivial⟩,⟨hg1,haxL.trans hax1,k+1,rfl,by omega,hno2⟩,Nat.lt_succ_self j⟩
 ·
  refine go 5 ?_
  refine CW.ret (zr1 ?_)
  have hke:k=xs.length:=by have:=decide_f h9;omega
  rw[hke,List.take_length] at hno
  exact PostV.mq hgL (congrArg i64 (idxP_none hno).symm)
theorem ContainsE_ct {xs:List Entry} {xa:Option Addr} {xc g:Nat} {cap:Array Value} {p:Entry→Bool} (hg:Good w s os) (hr:r=s∨r∈os) (hx:Lies REntry 6 r s xa xc xs) (hc:callable Tryz.prog g=true)
  (hp:∀ x∈xs,∀ vs,REntry s vs x→∀ w',Good w' s os→Calls Tryz.prog g (#[.agg vs.toArray]++cap) w' (PostV w' s os fun q=>q = .bool (p x))) :
  Calls Tryz.prog 133 #[.slice xa xs.length xc,.func (.func g) #[] cap] w (PostV w s os fun q=>q = .bool (xs.any p)):=by
 refine enter (l:=[.slice xa xs.length xc,.func (.func g) #[] cap]) Tryz.func133 rfl Tryz.ntmps133 rfl ?_
 refine go 9 ?_
 refine zw (IndexE_ct hg hr hx hc hp) ?_
 rintro v1 w1 (hg1:Good _ s (os)) hax1 rfl
 refine go 4 ?_
 refine CW.ret (zr1 ?_)
 exact PostV.mq hg1 (congrArg Value.bool (idxP_any p xs))
end
end Go.Lw
namespace Go.Lw
open Go.Proofs
attribute [local irreducible] RL RA
section
variable {w:World} {s r:Res} {os:List Res}
theorem LogAt.grow {s':Res} {l:Log} {h:Hd} (hr:r=s∨r∈os) (hl:LogAt r s l h) (hle:Le s s'):∃ r',(r'=s'∨r'∈os)∧LogAt r' s' l h:=by
 obtain⟨r',h1,h2⟩:=Lies.grow REntry.up hr hl.entries hle
 exact⟨r',h1,{ hl.up hle with entries:=h2 }⟩
theorem LogAt.none (r s:Res):LogAt r s Log.none (Hd.log .none 0 .none 0 .none 0 .none 0) :=
 ⟨by simp[rng,Log.none,Snap.none],by simp[rng,Log.none,Snap.none],Imm.nil _ _ _ (Nat.zero_le _),Imm.nil _ _ _ (Nat.zero_le _),Imm.nil _ _ _ (Nat.zero_le _),Lies.nil _ _ _ _ (Nat.zero_le _)⟩
theorem LogOwn.none (A s:Res):LogOwn A s Log.none (Hd.log .none 0 .none 0 .none 0 .none 0) :=
 ⟨by simp[rng,Log.none,Snap.none],by simp[rng,Log.none,Snap.none],Imm.nil _ _ _ (Nat.zero_le _),Imm.nil _ _ _ (Nat.zero_le _),Imm.nil _ _ _ (Nat.zero_le _),Own.nil _ _ _ _ _⟩
theorem other_ct {l:Log} {h:Hd} {e:Entry} {vs:List Value} {B:Res} {b1:Nat} (hg:Good w s os) (hr:r=s∨r∈os) (hl:LogAt r s l h) (hB:B∈os) (c1:B b1=some (.cells (logV l h).toArray 33 (0,0))) (hE:REntry s vs e) (hn:l.entries.length<4611686018427387904) :
  Calls Tryz.prog 150 #[.agg vs.toArray,ptr b1] w (PostV w s os fun q=>q = .bool (otherP l e)):=by
 obtain⟨ea,ec,ea1,ec1,ea2,ec2,rfl,er1,er2,er3,eh1,eh2,eh3⟩:=hE
 refine enter (l:=[.agg #[u64 e.index,u64 e.term,i64 e.kind,.slice ea e.data.length ec,.slice ea1 e.conf.voters.length ec1,.slice ea2 e.conf.learners.length ec2],ptr b1]) Tryz.func150 rfl Tryz.ntmps150 rfl ?_
 refine go 3 ?_
 rintro b1 w1 Q1 (hg1:Good _ s (Q1::os)) hax1 hb1
 refine go 5 ?_
 refine RL.loads (j:=0) (us:=_) rfl rfl rfl rfl ty33.out rfl (Holds.of c1) (hg1.mem (List.mem_cons_of_mem _ hB)) rfl rfl ?_
 refine go 3 ?_
 refine zw (Term_ct hg1 (hr.imp id fun z=>by simp[z]) hl hn) ?_
 rintro v2 w2 (hg2:Good _ s (Q1::os)) hax2 rfl
 refine go 11 ?_
 refine RL.part 14 rfl (fun h14=>?_) (fun h14=>?_)
 ·
  refine go 7 ?_
  refine CW.ret (zr1 ?_)
  refine PostV.mq (hg2.drop) (congrArg Value.bool ?_)
  simp_all [otherP]
  try (rw[Bool.eq_iff_iff];simp)
 ·
  refine go 7 ?_
  refine CW.ret (zr1 ?_)
  refine PostV.mq (hg2.drop) (congrArg Value.bool ?_)
  simp_all [otherP]
  try (rw[Bool.eq_iff_iff];simp)
theorem fresh_ct {l:Log} {h:Hd} {e:Entry} {vs:List Value} {B C:Res} {b1 b2:Nat} (hg:Good w s os) (hr:r=s∨r∈os) (hl:LogAt r s l h) (hB:B∈os) (c1:B b1=some (.cells (logV l h).toArray 33 (0,0))) (hC:C∈os) (c2:C b2=some (.cells #[.func (.func 150) #[] #[ptr b1]] 175 (0,0))) (hE:REntry s vs e) (hn:l.entries.length<4611686018427387904) :
  Calls Tryz.prog 151 #[.agg vs.toArray,ptr b1,ptr b2] w (PostV w s os fun q=>q = .bool (freshP l e)):=by
 have hE0:=hE
 obtain⟨ea,ec,ea1,ec1,ea2,ec2,rfl,er1,er2,er3,eh1,eh2,eh3⟩:=hE
 refine enter (l:=[.agg #[u64 e.index,u64 e.term,i64 e.kind,.slice ea e.data.length ec,.slice ea1 e.conf.voters.length ec1,.slice ea2 e.conf.learners.length ec2],ptr b1,ptr b2]) Tryz.func151 rfl Tryz.ntmps151 rfl ?_
 refine go 3 ?_
 rintro b3 w3 Q3 (hg3:Good _ s (Q3::os)) hax3 hb3
 refine go 5 ?_
 refine RL.loads (j:=0) (us:=_) rfl rfl rfl rfl ty33.out rfl (Holds.of c1) (hg3.mem (List.mem_cons_of_mem _ hB)) rfl rfl ?_
 refine go 3 ?_
 refine zw (Term_ct hg3 (hr.imp id fun z=>by simp[z]) hl hn) ?_
 rintro v4 w4 (hg4:Good _ s (Q3::os)) hax4 rfl
 refine go 12 ?_
 refine RL.part 16 rfl (fun h16=>?_) (fun h16=>?_)
 ·
  refine go 6 ?_
  refine CW.ret (zr1 ?_)
  refine PostV.mq (hg4.drop) (congrArg Value.bool ?_)
  simp_all [freshP]
 ·
  refine RL.load (j:=0) rfl rfl rfl rfl ty175.out rfl (Holds.of c2) (hg4.mem (List.mem_cons_of_mem _ hC)) rfl ?_
  refine go 1 ?_
  refine RL.callF rfl rfl rfl rfl rfl rfl rfl (other_ct hg4 (hr.imp id fun z=>by simp[z]) hl (List.mem_cons_of_mem _ hB) c1 hE0 hn) ?_
  rintro e5 w5 ⟨v5,rfl,(hg5:Good _ s (Q3::os)),hax5,rfl⟩
  refine⟨_,rfl,trivial,?_⟩
  refine go 3 ?_
  refine CW.ret (zr1 ?_)
  refine PostV.mq (hg5.drop) (congrArg Value.bool ?_)
  simp_all [freshP]
theorem held_ct {l:Log} {h:Hd} {e:Entry} {vs:List Value} {B C D:Res} {b1 b2 b3:Nat} {commit:Int} (hg:Good w s os) (hr:r=s∨r∈os) (hl:LogAt r s l h) (hB:B∈os) (c1:B b1=some (.cells (logV l h).toArray 33 (0,0))) (hC:C∈os) (c2:C b2=some (.cells #[.func (.func 150) #[] #[ptr b1]] 175 (0,0))) (hD:D∈os) (c3:D b3=some (.cells #[u64 commit] 22 (0,0))) (hE:REntry s vs e) (hn:l.entries.length<4611686018427387904) :
  Calls Tryz.prog 152 #[.agg vs.toArray,ptr b3,ptr b2] w (PostV w s os fun q=>q = .bool (decide (e.index≤commit) && otherP l e)):=by
 have hE0:=hE
 obtain⟨ea,ec,ea1,ec1,ea2,ec2,rfl,er1,er2,er3,eh1,eh2,eh3⟩:=hE
 refine enter (l:=[.agg #[u64 e.index,u64 e.term,i64 e.kind,.slice ea e.data.length ec,.slice ea1 e.conf.voters.length ec1,.slice ea2 e.conf.learners.length ec2],ptr b3,ptr b2]) Tryz.func152 rfl Tryz.ntmps152 rfl ?_
 refine go 3 ?_
 rintro b6 w6 Q6 (hg6:Good _ s (Q6::os)) hax6 hb6
 refine go 7 ?_
 refine RL.load (j:=0) rfl rfl rfl rfl ty22.out rfl (Holds.of c3) (hg6.mem (List.mem_cons_of_mem _ hD)) rfl ?_
 refine go 2 ?_
 refine RL.part 9 rfl (fun h9=>?_) (fun h9=>?_)
 ·
  refine RL.load (j:=0) rfl rfl rfl rfl ty175.out rfl (Holds.of c2) (hg6.mem (List.mem_cons_of_mem _ hC)) rfl ?_
  refine go 1 ?_
  refine RL.callF rfl rfl rfl rfl rfl rfl rfl (other_ct hg6 (hr.imp id fun z=>by simp[z]) hl (List.mem_cons_of_mem _ hB) c1 hE0 hn) ?_
  rintro e7 w7 ⟨v7,rfl,(hg7:Good _ s (Q6::os)),hax7,rfl⟩
  refine⟨_,rfl,trivial,?_⟩
  refine go 3 ?_
  refine CW.ret (zr1 ?_)
  refine PostV.mq (hg7.drop) (congrArg Value.bool ?_)
  simp_all
  try (intro hx;omega)
 ·
  refine go 6 ?_
  refine CW.ret (zr1 ?_)
  refine PostV.mq (hg6.drop) (congrArg Value.bool ?_)
  simp_all
  try (intro hx;omega)
theorem Apart.of2 {q1 q2:Res} {s:Res} {w:World} (h:Good w s (q1::q2::os)):Apart q1 q2:=h.2.2.1 q2 (by simp)
theorem mergeP_some {l:Log} {commit i t:Int} {more:List Entry} {k:Nat} (h1:runP i t more=true) (h2:¬ ((termP l i).2=false∨(termP l i).1≠t)) (h3:(more.any fun e=>decide (e.index≤commit) && otherP l e)=false) (hk:k<more.length) (h4:idxP (freshP l) more=k) :
  mergeP l commit i t more=⟨⟨l.base,l.entries.take (placeP l more[k].index)++more.drop k⟩,if placeP l more[k].index<l.entries.length then more[k].index else 0,more.drop k,0⟩:=by
 have h5:more.findIdx? (freshP l)=some k:=by
  unfold idxP at h4
  cases hf:more.findIdx? (freshP l) with
  | none=>rw[hf] at h4;simp only at h4;omega
  | some j=>rw[hf] at h4;simp only at h4;congr 1;omega
 unfold mergeP
 rw[if_neg (by simp[h1]),if_neg h2,if_neg (by simp[h3]),h5]
 simp only[List.getElem?_eq_getElem hk,Option.map_some,Option.getD_some]
theorem mergeP_none {l:Log} {commit i t:Int} {more:List Entry} (h1:runP i t more=true) (h2:¬ ((termP l i).2=false∨(termP l i).1≠t)) (h3:(more.any fun e=>decide (e.index≤commit) && otherP l e)=false) (h4:idxP (freshP l) more<0) :
  mergeP l commit i t more=⟨l,0,[],0⟩:=by
 have h5:more.findIdx? (freshP l)=none:=by
  unfold idxP at h4
  cases hf:more.findIdx? (freshP l) with
  | none=>rfl
  | some j=>rw[hf] at h4;simp only at h4;omega
 unfold mergeP
 rw[if_neg (by simp[h1]),if_neg h2,if_neg (by simp[h3]),h5]
theorem Merge_ct {l:Log} {h:Hd} {commit i t:Int} {more:List Entry} {ma:Option Addr} {mc:Nat} (hg:Good w s os) (hr:r=s∨r∈os) (hl:LogAt r s l h) (hs:l.small) (hm:Imm REntry 6 s ma mc more) (hms:∀ e∈more,e.small) (hn:l.entries.length+more.length≤1099511627776) (hi:rng .u64 i) (ht:rng .u64 t) :
  Calls Tryz.prog 132 #[logA l h,u64 commit,u64 i,u64 t,.slice ma more.length mc] w (Post w s os fun s' A q=>∃ h' a c,q = .tuple #[logA (mergeP l commit i t more).log h',u64 (mergeP l commit i t more).cut,.slice a (mergeP l commit i t more).came.length c,i64 (mergeP l commit i t more).err] ∧
   LogOwn A s' (mergeP l commit i t more).log h'∧Own REntry 6 65 s' A a c (mergeP l commit i t more).came∧Dj h'.ea a):=by
 have hnl:l.entries.length<4611686018427387904:=by omega
 have hm0:Lies REntry 6 s s ma mc more:=hm
 refine enter (l:=[logA l h,u64 commit,u64 i,u64 t,.slice ma more.length mc]) Tryz.func132 rfl Tryz.ntmps132 rfl ?_
 refine go 3 ?_
 rintro b8 w8 Q8 (hg8:Good _ s (Q8::os)) hax8 hb8
 refine go 2 ?_
 rintro b9 w9 Q9 (hg9:Good _ s (Q9::Q8::os)) hax9 hb9
 refine go 2 ?_
 rintro b10 w10 Q10 (hg10:Good _ s (Q10::Q9::Q8::os)) hax10 hb10
 refine go 12 ?_
 refine zw (run_ct hg10 (.inl rfl) hm0 hi ht) ?_
 rintro v11 w11 (hg11:Good _ s (Q10::Q9::Q8::os)) hax11 rfl
 refine go 3 ?_
 refine CW.cond rfl (fun h27=>?_) (fun h27=>?_)
 ·
  refine go 4 ?_
  rintro w12 Q12 (hg12:Good _ s (Q12::Q9::Q8::os)) hax12 hb12
  refine go 5 ?_
  refine CW.ret (ret (vs:=[_,_,_,_]) ⟨_,_,_,rfl,rfl,zl hb12,_,_,rfl,rfl,_,_,rfl,rfl,_,_,rfl,rfl,rfl⟩ ?_)
  have hc:runP i t more=false:=by simpa using h27
  exact Post.mq (((hg12.drop).drop).drop).nil ⟨Hd.log none 0 none 0 none 0 none 0,none,0,by simp only[mergeP,if_pos hc];rfl,by simp only[mergeP,if_pos hc];exact LogOwn.none _ _,by simp only[mergeP,if_pos hc];exact Own.nil _ _ _ _ _,Dj.none_right _⟩
 ·
  refine go 7 ?_
  refine zw (Term_ct hg11 (hr.imp id fun z=>by simp[z]) hl hnl) ?_
  rintro v13 w13 (hg13:Good _ s (Q10::Q9::Q8::os)) hax13 rfl
  refine go 12 ?_
  refine RL.part 37 rfl (fun h37=>?_) (fun h37=>?_)
  ·
   refine go 10 ?_
   rintro w14 Q14 (hg14:Good _ s (Q14::Q9::Q8::os)) hax14 hb14
   refine go 5 ?_
   refine CW.ret (ret (vs:=[_,_,_,_]) ⟨_,_,_,rfl,rfl,zl hb14,_,_,rfl,rfl,_,_,rfl,rfl,_,_,rfl,rfl,rfl⟩ ?_)
   have hc1:runP i t more=true:=by simpa using h27
   have hc2:(termP l i).2=false∨(termP l i).1≠t:= .inl (by simpa using h37)
   exact Post.mq (((hg14.drop).drop).drop).nil ⟨Hd.log none 0 none 0 none 0 none 0,none,0,by simp only[mergeP,hc1,if_pos hc2];rfl,by simp only[mergeP,hc1,if_pos hc2];exact LogOwn.none _ _,by simp only[mergeP,hc1,if_pos hc2];exact Own.nil _ _ _ _ _,Dj.none_right _⟩
  ·
   refine go 5 ?_
   refine CW.cond rfl (fun h41=>?_) (fun h41=>?_)
   ·
    refine go 4 ?_
    rintro w15 Q15 (hg15:Good _ s (Q15::Q9::Q8::os)) hax15 hb15
    refine go 5 ?_
    refine CW.ret (ret (vs:=[_,_,_,_]) ⟨_,_,_,rfl,rfl,zl hb15,_,_,rfl,rfl,_,_,rfl,rfl,_,_,rfl,rfl,rfl⟩ ?_)
    have hc1:runP i t more=true:=by simpa using h27
    have hc2:(termP l i).2=false∨(termP l i).1≠t:= .inr (by simpa using h41)
    exact Post.mq (((hg15.drop).drop).drop).nil ⟨Hd.log none 0 none 0 none 0 none 0,none,0,by simp only[mergeP,hc1,if_pos hc2];rfl,by simp only[mergeP,hc1,if_pos hc2];exact LogOwn.none _ _,by simp only[mergeP,hc1,if_pos hc2];exact Own.nil _ _ _ _ _,Dj.none_right _⟩
   ·
    refine go 3 ?_
    refine RL.makeF rfl rfl rfl rfl rfl ?_
    refine go 1 ?_
    rintro b16 w16 Q16 (hg16:Good _ s (Q16::Q10::Q9::Q8::os)) hax16 hb16
    refine go 2 ?_
    rintro w17 Q17 (hg17:Good _ s (Q17::Q10::Q9::Q8::os)) hax17 hb17
    refine go 4 ?_
    refine RL.makeF rfl rfl rfl rfl rfl ?_
    refine go 6 ?_
    refine RL.makeF rfl rfl rfl rfl rfl ?_
    have hc1:runP i t more=true:=by simpa using h27
    have hc2:¬ ((termP l i).2=false∨(termP l i).1≠t):=fun z=>z.elim (fun z=>by simp[z] at h37) (fun z=>by simp[z] at h41)
    refine go 1 ?_
    refine zw (ContainsE_ct (p:=fun e=>decide (e.index≤commit) && otherP l e) hg17 (.inl rfl) hm0 rfl (fun x hx vs hE w' hg'=>held_ct hg' (hr.imp id fun z=>by simp[z]) hl (B:=Q8) (by simp) hb8 (C:=Q17) (by simp) hb17 (D:=Q9) (by simp) hb9 hE hnl)) ?_
    rintro v18 w18 (hg18:Good _ s (Q17::Q10::Q9::Q8::os)) hax18 rfl
    refine go 2 ?_
    refine CW.cond rfl (fun h47=>?_) (fun h47=>?_)
    ·
     refine go 4 ?_
     rintro w19 Q19 (hg19:Good _ s (Q17::Q19::Q9::Q8::os)) hax19 hb19
     refine go 5 ?_
     refine CW.ret (ret (vs:=[_,_,_,_]) ⟨_,_,_,rfl,rfl,zl hb19,_,_,rfl,rfl,_,_,rfl,rfl,_,_,rfl,rfl,rfl⟩ ?_)
     exact Post.mq ((((hg19.drop).drop).drop).drop).nil ⟨Hd.log none 0 none 0 none 0 none 0,none,0,by simp only[mergeP,hc1,if_neg hc2,h47];rfl,by simp only[mergeP,hc1,if_neg hc2,h47];exact LogOwn.none _ _,by simp only[mergeP,hc1,if_neg hc2,h47];exact Own.nil _ _ _ _ _,Dj.none_right _⟩
    ·
     refine go 5 ?_
     refine zc (copied_log_ct hg18 (hr.imp id fun z=>by simp[z]) hl hs) ?_
     rintro v20 s20 Q20 w20 hle20 (hg20:Good _ s20 (Q20::Q17::Q10::Q9::Q8::os)) hax20 ⟨hX,rfl,hoX⟩
     have hm:=hm.up REntry.up hle20
     refine go 2 ?_
     rintro b21 w21 Q21 (hg21:Good _ s20 (Q21::Q20::Q17::Q10::Q9::Q8::os)) hax21 hb21
     refine go 2 ?_
     rintro w22 Q22 (hg22:Good _ s20 (Q22::Q20::Q17::Q10::Q9::Q8::os)) hax22 hb22
     refine go 6 ?_
     obtain⟨r',hr',hl'⟩:=LogAt.grow hr hl hle20
     have hm1:Lies REntry 6 _ _ ma mc more:=hm
     refine go 1 ?_
     refine zw (IndexE_ct (p:=freshP l) hg22 (.inl rfl) hm1 rfl (fun x hx vs hE w' hg'=>fresh_ct hg' (hr'.imp id fun z=>by simp[z]) hl' (B:=Q8) (by simp) hb8 (C:=Q17) (by simp) hb17 hE hnl)) ?_
     rintro v23 w23 (hg23:Good _ s20 (Q22::Q20::Q17::Q10::Q9::Q8::os)) hax23 rfl
     refine go 9 ?_
     refine CW.cond rfl (fun h55=>?_) (fun h55=>?_)
     ·
      refine go 4 ?_
      rintro w24 Q24 (hg24:Good _ s20 (Q22::Q20::Q17::Q24::Q9::Q8::os)) hax24 hb24
      refine go 5 ?_
      refine CW.ret (ret (vs:=[_,_,_,_]) ⟨_,_,_,rfl,rfl,zl hb24,_,_,rfl,rfl,_,_,rfl,rfl,_,_,rfl,rfl,rfl⟩ ?_)
      exact Post.mq (hg24.front 1 rfl).dropNext.dropNext.dropNext.dropNext.dropNext ⟨hX,none,0,by simp only[mergeP_none hc1 hc2 h47 (decide_t h55)];rfl,by simp only[mergeP_none hc1 hc2 h47 (decide_t h55)];exact hoX,by simp only[mergeP_none hc1 hc2 h47 (decide_t h55)];exact Own.nil _ _ _ _ _,Dj.none_right _⟩
     ·
      refine go 5 ?_
      have hi0:0≤idxP (freshP l) more:=by have:=decide_f h55;omega
      have hi1:idxP (freshP l) more<more.length:=by rcases idxP_rng (freshP l) more with h | h<;>omega
      have hkl:(idxP (freshP l) more).toNat<more.length:=by omega
      refine RL.idxL rfl rfl rfl rfl sl31.out rfl rfl hm1 hi0 hi1 ?_
      rintro q vs hvl hH ⟨ea,ec,ea1,ec1,ea2,ec2,rfl,er1,er2,er3,eh1,eh2,eh3⟩
      refine go 1 ?_
      refine RL.load (j:=0) rfl rfl rfl rfl ty22.out rfl (hH) (hg23.sh) rfl ?_
      refine go 8 ?_
      refine zw (place_ct hg23 (hr'.imp id fun z=>by simp[z]) hl' hnl) ?_
      rintro v25 w25 (hg25:Good _ s20 (Q22::Q20::Q17::Q10::Q9::Q8::os)) hax25 rfl
      refine go 12 ?_
      refine CW.cond rfl (fun h69=>?_) (fun h69=>?_)
      ·
       refine go 5 ?_
       have hg26:=hg25.drew
       refine CW.dx [1,3,5,7,9,11,13,14,16,19] [20] 10 1 (fun w=>At1 b21 _ w∧True) ?_
       refine go 3 ?_
       have hpl:=placeP_le l (more[(idxP (freshP l) more).toNat].index)
       refine RL.cutHi (placeP l more[(idxP (freshP l) more).toNat].index) rfl rfl rfl rfl sl31.out rfl rfl rfl (by have:=hoX.entries.le_cap;omega) ?_
       refine go 2 ?_
       refine RL.partL (idxP (freshP l) more) (more.length:Int) rfl rfl rfl rfl sl31.out rfl (.inr ⟨_,_,rfl,rfl⟩) (.inl ⟨rfl,rfl⟩) hm1 hi0 (by omega) (by omega) ?_
       intro a77 c77 hE77
       have e77:((more.take (more.length:Int).toNat).drop (idxP (freshP l) more).toNat)=more.drop (idxP (freshP l) more).toNat:=by simp
       rw[e77] at hE77 ⊢
       refine go 1 ?_
       refine zc (entries_ct hg26 (.inl rfl) hE77 (fun e he=>hms e (List.mem_of_mem_drop he)) (by simp only[List.length_drop];omega)) ?_
       rintro v27 s27 Q27 w27 hle27 (hg27:Good _ s27 (Q27::Q22::Q20::Q17::Q10::Q9::Q8::os)) hax27 ⟨a78,c78,rfl,ho78⟩
       have hm:=hm.up REntry.up hle27
       have hoX:=hoX.up hle27
       refine go 1 ?_
       have hfr:Own REntry 6 65 _ _ hX.ea hX.ec (l.entries.take (placeP l more[(idxP (freshP l) more).toNat].index)):=Own.front (ys:=l.entries.drop (placeP l more[(idxP (freshP l) more).toNat].index)) (by rw[List.take_append_drop];exact hoX.entries)
       have hln:(l.entries.take (placeP l more[(idxP (freshP l) more).toNat].index)).length=(placeP l more[(idxP (freshP l) more).toNat].index):=by rw[List.length_take];omega
       have hval:some (Value.slice hX.ea (placeP l more[(idxP (freshP l) more).toNat].index) hX.ec)=some (Value.slice hX.ea (l.entries.take (placeP l more[(idxP (freshP l) more).toNat].index)).length hX.ec):=by rw[hln]
       obtain⟨news28,hsrc28,hch28⟩:=Src.own sl31.out ho78 (hg27.mem (by simp))
       refine RL.append2 (i:=2) (xs:=l.entries.take (placeP l more[(idxP (freshP l) more).toNat].index)) (ys:=more.drop (idxP (freshP l) more).toNat) rfl rfl rfl rfl sl31.out ze65.out rfl REntry.one (hval) rfl hg27 rfl (hfr) hsrc28 hch28 ((by rw[hln,List.length_drop];omega)) (by omega) ?_
       rintro a28 c28 A28 w28 (hg28:Good _ s27 (Q27::Q22::A28::Q17::Q10::Q9::Q8::os)) ho28 hax28 hk28 hn28
       have hoE:=ho28
       refine go 5 ?_
       rintro w29 Q29 (hg29:Good _ s27 (Q27::Q29::A28::Q17::Q10::Q9::Q8::os)) hax29 hb29
       refine go 3 ?_
       have hg30:=hg29.drew
       refine CW.dw [1,3,5,7,9,10,12,14,16,18] (fun w=>At1 b21 _ w∧True) ?_
       refine go 4 ?_
       refine RL.partL (idxP (freshP l) more) (more.length:Int) rfl rfl rfl rfl sl31.out rfl (.inr ⟨_,_,rfl,rfl⟩) (.inl ⟨rfl,rfl⟩) (show Lies REntry 6 _ _ ma mc more from hm) hi0 (by omega) (by omega) ?_
       intro a85 c85 hE85
       rw[e77] at hE85 ⊢
       refine go 1 ?_
       refine zc (entries_ct hg30 (.inl rfl) hE85 (fun e he=>hms e (List.mem_of_mem_drop he)) (by simp only[List.length_drop];omega)) ?_
       rintro v31 s31 Q31 w31 hle31 (hg31:Good _ s31 (Q31::Q27::Q29::A28::Q17::Q10::Q9::Q8::os)) hax31 ⟨a86,c86,rfl,ho86⟩
       have hm:=hm.up REntry.up hle31
       have hoX:=hoX.up hle31
       have hoE:=hoE.up REntry.up hle31
       refine go 2 ?_
       rintro w32 Q32 (hg32:Good _ s31 (Q31::Q27::Q29::A28::Q17::Q32::Q9::Q8::os)) hax32 hb32
       refine go 5 ?_
       refine CW.ret (ret (vs:=[_,_,_,_]) ⟨_,_,_,rfl,rfl,zl hb32,_,_,rfl,rfl,_,_,rfl,rfl,_,_,rfl,rfl,rfl⟩ ?_)
       have hcut:=decide_t h69
       have hms:=mergeP_some hc1 hc2 h47 hkl (by omega)
       rw[if_pos (by omega)] at hms
       have hgz:=(hg32.front 3 rfl).front 1 rfl
       exact Post.mq hgz.join.dropNext.dropNext.dropNext.dropNext.dropNext.dropNext ⟨{ hX with ea:=_,ec:=_ },a86,c86,by rw[hms];rfl,by rw[hms];exact⟨hoX.index,hoX.term,hoX.voters,hoX.learners,hoX.data,hoE.mem (Res.le_join_right (Apart.of2 hgz))⟩,by rw[hms];exact ho86.mem (Res.le_join_left _ _),Dj.apart hoE ho86 (Apart.of2 hgz).symm⟩
      ·
       refine go 2 ?_
       have hg33:=hg25.drew
       refine CW.dx [1,3,5,7,9,11,13,14,16,19] [20] 10 1 (fun w=>At1 b21 _ w∧True) ?_
       refine go 3 ?_
       have hpl:=placeP_le l (more[(idxP (freshP l) more).toNat].index)
       refine RL.cutHi (placeP l more[(idxP (freshP l) more).toNat].index) rfl rfl rfl rfl sl31.out rfl rfl rfl (by have:=hoX.entries.le_cap;omega) ?_
       refine go 2 ?_
       refine RL.partL (idxP (freshP l) more) (more.length:Int) rfl rfl rfl rfl sl31.out rfl (.inr ⟨_,_,rfl,rfl⟩) (.inl ⟨rfl,rfl⟩) hm1 hi0 (by omega) (by omega) ?_
       intro a77 c77 hE77
       have e77:((more.take (more.length:Int).toNat).drop (idxP (freshP l) more).toNat)=more.drop (idxP (freshP l) more).toNat:=by simp
       rw[e77] at hE77 ⊢
       refine go 1 ?_
       refine zc (entries_ct hg33 (.inl rfl) hE77 (fun e he=>hms e (List.mem_of_mem_drop he)) (by simp only[List.length_drop];omega)) ?_
       rintro v34 s34 Q34 w34 hle34 (hg34:Good _ s34 (Q34::Q22::Q20::Q17::Q10::Q9::Q8::os)) hax34 ⟨a78,c78,rfl,ho78⟩
       have hm:=hm.up REntry.up hle34
       have hoX:=hoX.up hle34
       refine go 1 ?_
       have hfr:Own REntry 6 65 _ _ hX.ea hX.ec (l.entries.take (placeP l more[(idxP (freshP l) more).toNat].index)):=Own.front (ys:=l.entries.drop (placeP l more[(idxP (freshP l) more).toNat].index)) (by rw[List.take_append_drop];exact hoX.entries)
       have hln:(l.entries.take (placeP l more[(idxP (freshP l) more).toNat].index)).length=(placeP l more[(idxP (freshP l) more).toNat].index):=by rw[List.length_take];omega
       have hval:some (Value.slice hX.ea (placeP l more[(idxP (freshP l) more).toNat].index) hX.ec)=some (Value.slice hX.ea (l.entries.take (placeP l more[(idxP (freshP l) more).toNat].index)).length hX.ec):=by rw[hln]
       obtain⟨news35,hsrc35,hch35⟩:=Src.own sl31.out ho78 (hg34.mem (by simp))
       refine RL.append2 (i:=2) (xs:=l.entries.take (placeP l more[(idxP (freshP l) more).toNat].index)) (ys:=more.drop (idxP (freshP l) more).toNat) rfl rfl rfl rfl sl31.out ze65.out rfl REntry.one (hval) rfl hg34 rfl (hfr) hsrc35 hch35 ((by rw[hln,List.length_drop];omega)) (by omega) ?_
       rintro a35 c35 A35 w35 (hg35:Good _ s34 (Q34::Q22::A35::Q17::Q10::Q9::Q8::os)) ho35 hax35 hk35 hn35
       have hoE:=ho35
       refine go 5 ?_
       rintro w36 Q36 (hg36:Good _ s34 (Q34::Q36::A35::Q17::Q10::Q9::Q8::os)) hax36 hb36
       refine go 3 ?_
       have hg37:=hg36.drew
       refine CW.dw [1,3,5,7,9,10,12,14,16,18] (fun w=>At1 b21 _ w∧True) ?_
       refine go 4 ?_
       refine RL.partL (idxP (freshP l) more) (more.length:Int) rfl rfl rfl rfl sl31.out rfl (.inr ⟨_,_,rfl,rfl⟩) (.inl ⟨rfl,rfl⟩) (show Lies REntry 6 _ _ ma mc more from hm) hi0 (by omega) (by omega) ?_
       intro a85 c85 hE85
       rw[e77] at hE85 ⊢
       refine go 1 ?_
       refine zc (entries_ct hg37 (.inl rfl) hE85 (fun e he=>hms e (List.mem_of_mem_drop he)) (by simp only[List.length_drop];omega)) ?_
       rintro v38 s38 Q38 w38 hle38 (hg38:Good _ s38 (Q38::Q34::Q36::A35::Q17::Q10::Q9::Q8::os)) hax38 ⟨a86,c86,rfl,ho86⟩
       have hm:=hm.up REntry.up hle38
       have hoX:=hoX.up hle38
       have hoE:=hoE.up REntry.up hle38
       refine go 2 ?_
       rintro w39 Q39 (hg39:Good _ s38 (Q38::Q34::Q36::A35::Q17::Q39::Q9::Q8::os)) hax39 hb39
       refine go 5 ?_
       refine CW.ret (ret (vs:=[_,_,_,_]) ⟨_,_,_,rfl,rfl,zl hb39,_,_,rfl,rfl,_,_,rfl,rfl,_,_,rfl,rfl,rfl⟩ ?_)
       have hcut:=decide_f h69
       have hms:=mergeP_some hc1 hc2 h47 hkl (by omega)
       rw[if_neg (by omega)] at hms
       have hgz:=(hg39.front 3 rfl).front 1 rfl
       exact Post.mq hgz.join.dropNext.dropNext.dropNext.dropNext.dropNext.dropNext ⟨{ hX with ea:=_,ec:=_ },a86,c86,by rw[hms];rfl,by rw[hms];exact⟨hoX.index,hoX.term,hoX.voters,hoX.learners,hoX.data,hoE.mem (Res.le_join_right (Apart.of2 hgz))⟩,by rw[hms];exact ho86.mem (Res.le_join_left _ _),Dj.apart hoE ho86 (Apart.of2 hgz).symm⟩
end
end Go.Lw
namespace Go.Lw
open Go.RowKit
abbrev FO (ro:Option Nat):Fence:=⟨fun _=>True,none,false,ro⟩
section
variable {P:Program} {ro:Option Nat} {m:Nat}
theorem calls_in {f:FuncId} {args:Array Value} {w:World} {R:Ending→World→Prop} (h:Calls P f args w R):CallsIn (FO ro) m P f args w R:=by
 have h':CallsIn Fence.wide m P f args w R:=callsIn_wide.2 h
 refine⟨trivial,fun cs hr=>?_⟩
 exact h'.2 cs (room_wide _)
theorem calls_of {f:FuncId} {args:Array Value} {w:World} {R:Ending→World→Prop} (h:CallsIn (FO none) m P f args w R):Calls P f args w R:=(callsIn_wide (n:=m)).1 h
theorem rows_in {row:String} {args:Array Value} {w:World} {R:Value→World→Prop} (h:Rows P row args w R):RowsIn (FO ro) m P row args w R:=fun c cs _=>by
 obtain⟨v,w',hR,hs⟩:=h c cs
 refine⟨v,w',hR,?_⟩
 have:StepsIn (Machine.fenced P Fence.wide) P _ _:=stepsIn_wide.2 hs
 exact this
theorem ra_mono {ops:Array Oper} {Q Q':Exit→Act→World→Prop} {S:World→Prop} (hq:∀ a w,Q .normal a w→Q' .normal a w):∀ {l:List (Bool × Oper)} {a:Act} {w:World},RA P ops Q S l a w→RA P ops Q' S l a w
 | [],a,w,h=>hq a w h
 | (true,o)::r,a,w,h=>by
  simp only[RA] at h ⊢
  obtain⟨v,h1,h2⟩:=h
  exact⟨v,h1,ra_mono hq h2⟩
 | (false,o)::r,a,w,h=>by
  simp only[RA] at h ⊢
  split
  ·
   rename_i hw
   rw[if_pos hw] at h
   exact Oper.wp_mono (fun a' w' h'=>⟨h'.1,ra_mono hq h'.2⟩) h
  ·
   rename_i hw
   rw[if_neg hw] at h
   exact ra_mono hq h
structure Calm (Q:Exit→Act→World→Prop):Prop where
 panic:∀ c a w,¬ Q (.panic c) a w
 room:¬ LetsOut Q
theorem calm_never:Calm never:=⟨fun _ _ _ h=>h,fun ⟨_,_,h⟩=>h⟩
def only (K:Act→World→Prop):Exit→Act→World→Prop
 | .normal,a,w=>K a w
 | _,_,_=>False
theorem calm_only (K:Act→World→Prop):Calm (only K):=⟨fun _ _ _ h=>h,fun ⟨_,_,h⟩=>h⟩
theorem noPanic_only (K:Act→World→Prop):noPanic (only K)=only K:=by
 funext e a w
 cases e<;>rfl
theorem oper_in {o:Oper} {a:Act} {w:World} {next:Act→World→Prop} {Q Q0:Exit→Act→World→Prop} (hd:∀ c,o.op ≠ .defer c) (hc:Calm Q0) (h:o.wp P a w next Q0):o.wpIn (FO ro) m P a w next Q:=by
 refine⟨fun _ _=>trivial,?_⟩
 have hs:o.semAt (FO ro).round a.eval=execOp a.eval o:=Oper.semAt_eq _ _ _ hd
 rw[hs]
 unfold Oper.wp at h
 generalize (execOp a.eval o).run P w=r at *
 cases r with
 | ok nx w' =>
  cases nx with
  | enter f args =>
   simp only[Oper.upon] at h
   simp only[Oper.uponIn]
   refine⟨fun hh=>(by simp at hh),?_⟩
   refine (calls_in (ro:=ro) (m:=m-1) h).mono fun e w'' he=>?_
   cases e with
   | returned v=>exact he
   | panicked c=>exact absurd he (hc.panic _ _ _)
   | outgrown=>exact absurd he hc.room
  | row row args =>
   simp only[Oper.upon] at h
   simp only[Oper.uponIn]
   exact⟨fun hh=>(by simp at hh),rows_in h⟩
  | value v=>exact h
  | skip=>exact h
  | defer d=>exact h
  | _=>exact (h:False).elim
 | halt x w' =>
  cases x with
  | panic v=>exact absurd h (hc.panic _ _ _)
  | _=>exact (h:False).elim
def noDefer (l:List Oper):Bool:=l.all fun o=>match o.op with
 | .defer _=>false
 | _=>true
theorem noDefer_spec {l:List Oper} (h:noDefer l=true) {o:Oper} (ho:o∈l):∀ c,o.op ≠ .defer c:=fun c e=>by
 have:=List.all_eq_true.1 h o ho
 simp[e] at this
theorem list_in {ops:Array Oper} {S:World→Prop} {Q:Exit→Act→World→Prop} (l2:List Oper):∀ {l1:List Oper} {a:Act} {w:World},noDefer l1=true →
  RA P ops (fun _ a w=>wpListIn (FO ro) m P ops Q l2 a w) S (l1.map fun o=>(false,o)) a w→wpListIn (FO ro) m P ops Q (l1++l2) a w
 | [],a,w,_,h=>h
 | o::r,a,w,hn,h=>by
  have hn':noDefer r=true:=by simp only[noDefer,List.all_cons,Bool.and_eq_true] at hn;exact hn.2
  simp only[List.map_cons,RA] at h
  simp only[List.cons_append]
  unfold wpListIn
  split
  ·
   rename_i hw
   rw[if_pos hw] at h
   refine oper_in (noDefer_spec hn (by simp)) calm_never ?_
   refine Oper.wp_mono ?_ h
   exact fun a' w' h'=>list_in l2 hn' h'.2
  ·
   rename_i hw
   rw[if_neg hw] at h
   exact⟨fun _ _=>trivial,list_in l2 hn' h⟩
theorem ops_in {ops:Array Oper} {K:Act→World→Prop} {Q:Exit→Act→World→Prop} (hn:noDefer ops.toList=true) (hq:∀ a w,K a w→Q .normal a w):∀ {l:List Nat} {a:Act} {w:World},wpOps P ops (only K) l a w→wpOpsIn (FO ro) m P ops Q l a w
 | [],a,w,h=>hq a w h
 | i::r,a,w,h=>by
  unfold wpOps at h
  unfold wpOpsIn
  cases ho:ops[i]? with
  | none=>rw[ho] at h;exact ops_in hn hq h
  | some o =>
   rw[ho] at h
   simp only at h ⊢
   split
   ·
    rename_i hw
    rw[if_pos hw] at h
    rcases h with h | ⟨_,h⟩
    ·
     refine oper_in (Q0:=only K) (noDefer_spec hn (by have:=Array.mem_of_getElem? ho;simpa using this)) (calm_only K) ?_
     exact Oper.wp_mono (fun a' w' h'=>ops_in hn hq h') h
    ·
     exact absurd h (calm_only K).room
   ·
    rename_i hw
    rw[if_neg hw] at h
    exact⟨fun _ _=>trivial,ops_in hn hq h⟩
theorem draws_in {ops:Array Oper} {S:World→Prop} {Q:Exit→Act→World→Prop} {id:Nat} {a:Act} {w:World} (l:List (Bool × Nat)) (hm:P.follows .mixedOrders=true) (hs:Region.noSelect ops=true) (hlen:l.length=ops.size)
  (hl:(l.all fun x=>decide (x.2<ops.size))=true) (hc:chk ops l (Array.replicate ops.size false)=true) (hnd:noDefer ops.toList=true) (hS:S w.drew)
  (h:RA P ops Q S (l.map fun x=>(x.1,ops.getD x.2 default)) a w.drew):(Code.region id ops true).wpIn (FO ro) m P Q a w:=by
 refine wpIn_region_draw fun t=>?_
 refine ops_in (K:=fun a w=>Q .normal a w) hnd (fun a w hh=>hh) ?_
 simp only[Region.schedule,hm,Bool.true_or,if_true]
 refine wpAny_sound ops.size t _ a _ ?_
 have h1:RA P ops (only fun a w=>Q .normal a w) S (l.map fun x=>(x.1,ops.getD x.2 default)) a w.drew:=by
  refine ra_mono (Q:=Q) ?_ h
  intro a w hh
  exact hh
 have h2:=anyH_of_RA hs l _ a _ (fun x hx=>by have:=List.all_eq_true.1 hl x hx;simpa using this) hc hS h1
 rw[hlen,noPanic_only] at h2
 exact wpAny_of_held _ _ _ _ h2
end
def CF (ro:Option Nat) (P:Program) (n:Nat) (c:Code) (Q:Exit→Act→World→Prop) (E:Env) (w:World):Prop:=∀ a,At n E a→c.wpIn (FO ro) 0 P Q a w
def LF (ro:Option Nat) (P:Program) (n:Nat) (ops:Array Oper) (Q:Exit→Act→World→Prop) (l:List Oper) (E:Env) (w:World):Prop:=∀ a,At n E a→wpListIn (FO ro) 0 P ops Q l a w
section
variable {P:Program} {ro:Option Nat} {n:Nat} {Q:Exit→Act→World→Prop} {E:Env} {w:World} {ops:Array Oper}
theorem CF.plain {id:Nat} {l:List Oper} (hn:noDefer l=true) (h:RL P n l.toArray Q (fun _=>True) (l.map fun o=>(false,o)) E w):CF ro P n (.region id l.toArray false) Q E w :=
 fun a ha=>wpIn_region_lit (by
  have:=list_in (ro:=ro) (m:=0) (P:=P) (ops:=l.toArray) (Q:=Q) (S:=fun _=>True) [] (l1:=l) (a:=a) (w:=w) hn (by
   have h2:RA P l.toArray Q (fun _=>True) (l.map fun o=>(false,o)) a w:=h trivial a ha
   refine ra_mono (Q:=Q) ?_ h2
   intro a w hh
   exact hh)
  rw[List.append_nil] at this
  exact this)
theorem CF.draws {id:Nat} {l:List Oper} (order:List (Bool × Nat)) (S:World→Prop) (hm:P.follows .mixedOrders=true) (hs:Region.noSelect l.toArray=true) (hlen:order.length=l.toArray.size)
  (hl:(order.all fun x=>decide (x.2<l.toArray.size))=true) (hc:chk l.toArray order (Array.replicate l.toArray.size false)=true) (hnd:noDefer l=true) (hS:S w.drew)
  (h:RL P n l.toArray Q S (order.map fun x=>(x.1,l.toArray.getD x.2 default)) E w.drew):CF ro P n (.region id l.toArray true) Q E w :=
 fun a ha=>draws_in order hm hs hlen hl hc (by simpa using hnd) hS (h hS a ha)
theorem CF.list {id:Nat} {l:List Oper} (h:LF ro P n l.toArray Q l E w):CF ro P n (.region id l.toArray false) Q E w:=fun a ha=>wpIn_region_lit (h a ha)
theorem LF.upto (l1 l2:List Oper) (hn:noDefer l1=true) (h:RL P n ops (fun _ a w=>wpListIn (FO ro) 0 P ops Q l2 a w) (fun _=>True) (l1.map fun o=>(false,o)) E w):LF ro P n ops Q (l1++l2) E w :=
 fun a ha=>list_in l2 hn (h trivial a ha)
theorem CF.seq {x y:Code} (h:CF ro P n x (Exit.then (fun a w=>y.wpIn (FO ro) 0 P Q a w) Q) E w):CF ro P n (.seq x y) Q E w:=fun a ha=>wpIn_seq (h a ha)
theorem CF.skip (h:∀ a,At n E a→Q .normal a w):CF ro P n .skip Q E w:=fun a ha=>wpIn_skip (h a ha)
theorem CF.exit {id:Nat} (h:∀ a,At n E a→Q (.exit id) a w):CF ro P n (.exit id) Q E w:=fun a ha=>wpIn_exit (h a ha)
theorem CF.ret (h:∀ a,At n E a→Q .ret a w):CF ro P n .ret Q E w:=fun a ha=>wpIn_ret (h a ha)
theorem CF.block {id:Nat} {c:Code} (h:CF ro P n c (Exit.inBlock id Q) E w):CF ro P n (.block id c) Q E w:=fun a ha=>wpIn_block (h a ha)
theorem CF.cond {c:Operand} {x y:Code} {b:Bool} (hc:ev E c=some (.bool b)) (ht:b=true→CF ro P n x Q E w) (hf:b=false→CF ro P n y Q E w):CF ro P n (.cond c x y) Q E w :=
 fun a ha=>wpIn_cond_split (ha.ev hc) (fun hb=>ht hb a ha) (fun hb=>hf hb a ha)
theorem CF.test {c:Operand} {x y:Code} {p:Prop} [Decidable p] (hc:ev E c=some (.bool (decide p))) (ht:p→CF ro P n x Q E w) (hf:¬ p→CF ro P n y Q E w):CF ro P n (.cond c x y) Q E w :=
 CF.cond hc (fun h=>ht (of_decide_eq_true h)) (fun h=>hf (of_decide_eq_false h))
theorem CF.eq {c:Operand} {x y:Code} {i j:Int} (hc:ev E c=some (.bool (i==j))) (ht:i=j→CF ro P n x Q E w) (hf:i≠j→CF ro P n y Q E w):CF ro P n (.cond c x y) Q E w :=
 CF.cond hc (fun h=>ht (by simpa using h)) (fun h=>hf (by simpa using h))
theorem CF.yes {c:Operand} {x y:Code} (hc:ev E c=some (.bool true)) (h:CF ro P n x Q E w):CF ro P n (.cond c x y) Q E w:=fun a ha=>wpIn_cond_true (ha.ev hc) (h a ha)
theorem CF.no {c:Operand} {x y:Code} (hc:ev E c=some (.bool false)) (h:CF ro P n y Q E w):CF ro P n (.cond c x y) Q E w:=fun a ha=>wpIn_cond_false (ha.ev hc) (h a ha)
theorem CF.less {c:Code} (E':Env) (hs:Sub E' E) (h:CF ro P n c Q E' w):CF ro P n c Q E w:=fun a ha=>h a (ha.sub hs)
theorem wpIn_loop_ghost {σ:Type} {c:Code} {a:Act} (I:σ→Act→World→Prop) (μ:σ→Nat) (x:σ) (h₀:I x a w)
  (round:∀ x a w,I x a w→c.wpIn (FO ro) 0 P (Exit.then (fun a' w'=>∃ x',I x' a' w'∧μ x'<μ x) Q) a w):(Code.loop c).wpIn (FO ro) 0 P Q a w:=by
 intro b k cs hro hb hr
 have key:∀ j x a w,μ x=j→I x a w →
   ∃ e a' w',Q e a' w'∧ArrivesIn (Machine.fenced P (FO ro)) P (lone (b.atR a (.code c :: .inLoop c::k)) cs w) b k cs e a' w':=by
  intro j
  induction j using Nat.strongRecOn with
  | _ j ih =>
   intro x a w hn hI
   obtain⟨e,a₁,w₁,hq,harr⟩:=round x a w hI b (.inLoop c::k) cs hro hb hr
   cases e with
   | normal =>
    obtain⟨x₁,hI₁,hlt⟩:=hq
    obtain⟨e₂,a₂,w₂,hq₂,harr₂⟩:=ih (μ x₁) (hn▸hlt) x₁ a₁ w₁ rfl hI₁
    exact⟨e₂,a₂,w₂,hq₂,.of_steps (StepsIn.trans harr (.one (fenced_calm hb hr rfl) stepR_inLoop)) harr₂⟩
   | exit id=>exact⟨_,a₁,w₁,hq,.pass (x:= .inLoop c) rfl (fun _ _=> .inl (by simp)) harr⟩
   | goto l=>exact⟨_,a₁,w₁,hq,.pass (x:= .inLoop c) rfl (fun _ _=> .inl (by simp)) harr⟩
   | ret=>exact⟨_,a₁,w₁,hq,.pass (x:= .inLoop c) rfl (fun _ _=> .inl (by simp)) harr⟩
   | panic ch=>exact⟨_,a₁,w₁,hq,.pass (x:= .inLoop c) rfl (fun _ _=> .inl (by simp)) harr⟩
   | outgrown=>exact⟨_,a₁,w₁,hq,.pass (x:= .inLoop c) rfl (fun _ _=> .inl (by simp)) harr⟩
 obtain⟨e,a',w',hq,harr⟩:=key _ x a w rfl h₀
 exact⟨e,a',w',hq,.of_steps (.one (fenced_calm hb hr rfl) stepR_loop) harr⟩
theorem CF.loop {σ:Type} {c:Code} (J:σ→Env→World→Prop) (μ:σ→Nat) (x0:σ) (E0:Env) (hsub:Sub E0 E) (h0:J x0 E0 w)
  (round:∀ x E w,J x E w→CF ro P n c (Exit.then (fun a' w'=>∃ x' E',At n E' a'∧J x' E' w'∧μ x'<μ x) Q) E w):CF ro P n (.loop c) Q E w:=fun a ha=>by
 refine wpIn_loop_ghost (fun x a w=>∃ E,At n E a∧J x E w) μ x0 ⟨E0,ha.sub hsub,h0⟩ ?_
 rintro x a w ⟨E,hE,hJ⟩
 exact wpIn_mono (round x E w hJ a hE) fun e a' w' h=>by
  cases e<;>first | exact h | (obtain⟨x',E',h1,h2,h3⟩:=h;exact⟨x',⟨E',h1,h2⟩,h3⟩)
end
end Go.Lw
namespace Go.Lw
open Go.RowKit
abbrev mark (D:Nat):Deferred:={ target:= .collected D,args:= #[] }
def plus (a:Act) (D:Nat):Act:={ a with defers:=a.defers++[mark D] }
abbrev rec0 (fn:FuncId) (tmps:Array Value) (ps:Array Tmp) (assign body:Code) (D:Nat):Loop:={ state:= .ready,pending:=none,fn,tmps,params:=ps,assign,body,defers:=D }
theorem Good.setLoop {w:World} {s A:Res} {os:List Res} {l:Nat} {r:Loop} (h:Good w s (A::os)) (hl:A l=some (.loop r)) (r2:Loop):Good (w.putObj l (.loop r2)) s (A.put l (.loop r2)::os)∧Aux w (w.putObj l (.loop r2)):=by
 have hw:=h.1 l _ hl
 have hlt:l<w.heap.size:=h.1.lt (by rw[hl];simp)
 exact⟨h.write hl (World.putObj_heap_same hlt) (fun k _ hk=>World.putObj_heap_other hk),⟨rfl,rfl,rfl,by simp⟩⟩
section
variable {P:Program} {n:Nat} {Q:Exit→Act→World→Prop} {E:Env} {w:World} {ops:Array Oper} {s:Res} {os:List Res}
theorem CF.range {g:Operand} {ps:Array Tmp} {assign body:Code} {gf:FuncId} {cap:Array Value} (hx:ev E g=some (.func (.func gf) #[] cap)) (hc:callable P gf=true) (hg:Good w s os)
  (h:∀ (a:Act) (fn:FuncId) (l D:Nat) (w1:World),At n E a→Good w1 s (Res.one l (.loop (rec0 fn a.tmps ps assign body D))::Res.one D (.deferred (some []))::os)→Aux w w1 →
   CallsIn (FO none) 0 P gf (#[.func (.yield l) #[] #[]]++cap) w1 (fun e w3=>∃ v r',e = .returned v∧w3.heap[l]?=some (.loop r')∧r'.state ≠ .busy ∧
    match r'.pending with
    | none=>Q .normal (plus a D) (w3.putObj l (.loop { r' with state:= .exhausted }))
    | some c=>c.wpIn (FO none) 0 P Q (plus a D) (w3.putObj l (.loop { r' with state:= .exhausted })))) :
  CF none P n (.rangeFunc g ps assign body) Q E w:=fun a ha=>by
 have hev:a.eval g = .func (.func gf) #[] cap:=ha.ev hx
 refine wpIn_rangeFunc fun fn _=>?_
 have hg2:=(hg.alloc (.deferred (some []))).alloc (.loop (rec0 fn a.tmps ps assign body w.heap.size))
 have hsz:(w.alloc (.deferred (some []))).heap.size=w.heap.size+1:=by simp
 rw[hsz] at hg2
 obtain⟨W1,hW1⟩:∃ W1,W1=(w.alloc (.deferred (some []))).alloc (.loop (rec0 fn a.tmps ps assign body w.heap.size)):=⟨_,rfl⟩
 rw[←hW1] at hg2
 refine⟨w.heap.size+1,[mark w.heap.size],W1,{ target:= .fn (.func gf) cap,args:= #[.func (.yield (w.heap.size+1)) #[] #[]] },W1,gf,#[.func (.yield (w.heap.size+1)) #[] #[]]++cap,W1,
  by rw[hW1];exact run_enterLoop_outer _ _ _ _ _,?_,fun _ _=>trivial,?_,fun hh=>(by simp at hh),?_⟩
 ·
  simp only[resolve,hev]
  simp[go_sem,Deferred.ofValue]
 ·
  simp[invoke,run_callFunc hc]
 ·
  refine (h a fn _ _ _ ha hg2 (by rw[hW1];exact (Aux.alloc _ _).trans (Aux.alloc _ _))).mono fun e w3 he=>?_
  obtain⟨v,r',rfl,h1,h2,h3⟩:=he
  refine⟨r'.pending,_,run_endLoop h1 h2,?_⟩
  have hp:({ a with defers:=[mark w.heap.size]++a.defers }:Act)=plus a w.heap.size:=by unfold plus;rw[ha.dfr];rfl
  rw[hp]
  exact h3
theorem yield_run {l:Nat} {r:Loop} {o:Oper} {x:Operand} {args:Array Operand} {ats:Array TypeId} {vals:List Value} {a:Act} (ha:At n E a) (ho:o.op = .call { callee:= .value x,args:=args,argTypes:=ats })
  (hx:ev E x=some (.func (.yield l) #[] #[])) (hl:evs E args.toList=some vals) (hr:w.heap[l]?=some (.loop r)) (hsz:vals.length=r.params.size) :
  (execOp a.eval o).run P w = .ok (.round l r.fn ((r.params.zip vals.toArray).foldl (fun tmps (t,a)=>tmps.setIfInBounds t a) r.tmps) r.assign r.body) w:=by
 have hargs:(args.map a.eval)=vals.toArray:=by
  rw[←Array.toArray_toList (xs:=args),List.map_toArray,ha.evs hl]
 have hev:a.eval x = .func (.yield l) #[] #[]:=ha.ev hx
 unfold execOp
 simp only[ho]
 simp only[resolve,hargs,hev,Deferred.ofValue,invoke,Sem.run_bind,Sem.run_pure,Result.andThen_ok,Array.empty_append,Array.append_empty]
 exact run_yield hr (by simpa using hsz)
theorem LF.yield {rest:List Oper} {o:Oper} {d l:Nat} {r:Loop} {x:Operand} {args:Array Operand} {ats:Array TypeId} {vals:List Value} (hg:wants ops E o=some true) (hd:o.dst=some d) (hb:Nat.blt d n=true)
  (ho:o.op = .call { callee:= .value x,args:=args,argTypes:=ats }) (hx:ev E x=some (.func (.yield l) #[] #[])) (hl:evs E args.toList=some vals) (hr:w.heap[l]?=some (.loop r)) (hsz:vals.length=r.params.size)
  (h:RoundIn (FO none) 0 P l r.fn ((r.params.zip vals.toArray).foldl (fun tmps (t,a)=>tmps.setIfInBounds t a) r.tmps) r.assign r.body w (fun e w'=>∃ b,e = .returned (.bool b)∧LF none P n ops Q rest ((d,.bool b)::E) w')) :
  LF none P n ops Q (o::rest) E w:=fun a ha=>by
 unfold wpListIn
 rw[ha.wants hg]
 simp only[if_true]
 refine⟨fun _ _=>trivial,?_⟩
 rw[show o.semAt (FO none).round a.eval=execOp a.eval o from rfl,yield_run (P:=P) ha ho hx hl hr hsz,Oper.uponIn_round]
 refine⟨fun hh=>(by simp at hh),h.mono fun e w' he=>?_⟩
 obtain⟨b,rfl,hk⟩:=he
 simp only[hd]
 exact hk _ (ha.put hb _)
def RP (l:Nat) (K:Bool→World→Prop):Exit→Act→World→Prop
 | .normal,_,w=>∃ r,w.heap[l]?=some (.loop r)∧K true (w.putObj l (.loop { r with state:= .ready,pending:=none }))
 | .ret,_,w=>∃ r,w.heap[l]?=some (.loop r)∧K false (w.putObj l (.loop { r with state:= .done,pending:=some .ret }))
 | _,_,_=>False
theorem round_ok {l:Nat} {f:FuncId} {tmps:Array Value} {assign body:Code} {K:Bool→World→Prop} (J:Env→World→Prop) (ha:At n E { tmps:=tmps,defers:=[] })
  (h1:CF (some l) P n assign (Exit.then (fun a1 w1=>∃ E1,At n E1 a1∧J E1 w1) (fun _ _ _=>False)) E w)
  (h2:∀ E1 w1,J E1 w1→∃ r,w1.heap[l]?=some (.loop r)∧r.state = .ready∧CF (some l) P n body (RP l K) E1 (w1.putObj l (.loop { r with state:= .busy }))) :
  RoundIn (FO none) 0 P l f tmps assign body w (fun e w'=>∃ b,e = .returned (.bool b)∧K b w'):=by
 refine roundIn_of_wpIn trivial ?_
 refine wpIn_mono (h1 _ ha) fun e a1 w1 he=>?_
 cases e with
 | normal =>
  obtain⟨E1,hA,hJ⟩:=he
  obtain⟨r,hr,hst,hb⟩:=h2 E1 w1 hJ
  refine⟨_,run_beginRound hr hst,?_⟩
  refine wpIn_mono (hb _ hA) fun e2 a2 w2 he2=>?_
  cases e2 with
  | normal =>
   obtain⟨r2,h3,h4⟩:=he2
   exact⟨_,_,run_endRound none h3,_,rfl,h4⟩
  | ret =>
   obtain⟨r2,h3,h4⟩:=he2
   exact⟨_,_,run_endRound (some .ret) h3,_,rfl,h4⟩
  | exit id=>exact (he2:False).elim
  | goto t=>exact (he2:False).elim
  | panic c=>exact (he2:False).elim
  | outgrown=>exact (he2:False).elim
 | exit id=>exact (he:False).elim
 | goto t=>exact (he:False).elim
 | ret=>exact (he:False).elim
 | panic c=>exact (he:False).elim
 | outgrown=>exact (he:False).elim
theorem At.bare {a:Act} (ha:At n E a):At n E { tmps:=a.tmps,defers:=[] }:=⟨ha.size,rfl,ha.get⟩
theorem At.params2 {a:Act} {p q:Nat} {u v:Value} (ha:At n E a) (hp:Nat.blt p n=true) (hq:Nat.blt q n=true):At n ((q,v)::(p,u)::E) { tmps:=(#[p,q].zip #[u,v]).foldl (fun tmps (t,a)=>tmps.setIfInBounds t a) a.tmps,defers:=[] }:=by
 have:=(ha.bare.put hp u).put hq v
 simpa [Act.put] using this
theorem plus_eval (a:Act) (D:Nat):(plus a D).eval=a.eval:=by
 funext x
 cases x<;>rfl
theorem plus_put (a:Act) (D:Nat) (d:Option Nat) (v:Value):(plus a D).put d v=plus (a.put d v) D:=by cases d<;>rfl
theorem oper_plus {o:Oper} {a:Act} {next next':Act→World→Prop} {Q:Exit→Act→World→Prop} {D m:Nat} (hn:∀ a w,next a w→next' (plus a D) w) (h:o.wp P a w next never):o.wpIn (FO none) m P (plus a D) w next' Q:=by
 refine⟨fun _ _=>trivial,?_⟩
 rw[show o.semAt (FO none).round (plus a D).eval=execOp (plus a D).eval o from rfl,plus_eval]
 unfold Oper.wp at h
 generalize (execOp a.eval o).run P w=r at *
 cases r with
 | ok nx w' =>
  cases nx with
  | enter f args =>
   simp only[Oper.upon] at h
   simp only[Oper.uponIn]
   refine⟨fun hh=>(by simp at hh),?_⟩
   refine (calls_in (ro:=none) (m:=m-1) h).mono fun e w'' he=>?_
   cases e with
   | returned v=>(show next' _ _);rw[plus_put];exact hn _ _ he
   | panicked c=>exact (he:False).elim
   | outgrown=>exact absurd he (by simp[LetsOut,never])
  | row row args =>
   simp only[Oper.upon] at h
   simp only[Oper.uponIn]
   refine⟨fun hh=>(by simp at hh),rows_in (h.mono fun v w'' he=>?_)⟩
   (show next' _ _);rw[plus_put];exact hn _ _ he
  | value v=>simp only[Oper.upon] at h;simp only[Oper.uponIn];rw[plus_put];exact hn _ _ h
  | skip=>simp only[Oper.upon] at h;simp only[Oper.uponIn];rw[plus_put];exact hn _ _ h
  | defer d =>
   simp only[Oper.upon] at h;simp only[Oper.uponIn]
   have e:({ plus a D with defers:=d::(plus a D).defers }:Act)=plus { a with defers:=d::a.defers } D:=rfl
   rw[e,plus_put];exact hn _ _ h
  | _=>exact (h:False).elim
 | halt x w' =>
  cases x with
  | panic v=>exact (h:False).elim
  | _=>exact (h:False).elim
theorem list_plus {S:World→Prop} {D:Nat}:∀ {l:List Oper} {a:Act} {w:World},RA P ops (fun _ a w=>Q .normal (plus a D) w) S (l.map fun o=>(false,o)) a w→wpListIn (FO none) 0 P ops Q l (plus a D) w
 | [],a,w,h=>h
 | o::r,a,w,h=>by
  simp only[List.map_cons,RA] at h
  unfold wpListIn
  have hy:yielded ops (plus a D).tmps=yielded ops a.tmps:=rfl
  rw[hy]
  split
  ·
   rename_i hw
   rw[if_pos hw] at h
   exact oper_plus (fun a' w' h'=>list_plus h'.2) h
  ·
   rename_i hw
   rw[if_neg hw] at h
   refine⟨fun _ _=>trivial,?_⟩
   rw[plus_put]
   exact list_plus h
def CD (D:Nat) (P:Program) (n:Nat) (c:Code) (Q:Exit→Act→World→Prop) (E:Env) (w:World):Prop:=∀ a,At n E a→c.wpIn (FO none) 0 P Q (plus a D) w
theorem CD.plain {D id:Nat} {l:List Oper} (h:RL P n l.toArray (fun _ a w=>Q .normal (plus a D) w) (fun _=>True) (l.map fun o=>(false,o)) E w):CD D P n (.region id l.toArray false) Q E w :=
 fun a ha=>wpIn_region_lit (list_plus (h trivial a ha))
theorem CD.seq {D:Nat} {x y:Code} (h:CD D P n x (Exit.then (fun a w=>y.wpIn (FO none) 0 P Q a w) Q) E w):CD D P n (.seq x y) Q E w:=fun a ha=>wpIn_seq (h a ha)
theorem CD.ret {D:Nat} (h:∀ a,At n E a→Q .ret (plus a D) w):CD D P n .ret Q E w:=fun a ha=>wpIn_ret (h a ha)
theorem enterM {f:FuncId} {fn:Func} {c:Code} {l:List Value} {R:Ending→World→Prop} {m:Nat} (hf:P.funcs[f]?=some fn) (hb:fn.body=some c) (hm:fn.ntmps=m) (hl:Nat.ble l.length m=true)
  (h:CF none P m c (bodyPostM (FO none) 0 P fn R) (envOf 0 l) w):Calls P f l.toArray w R:=by
 refine calls_of (m:=0) (callsIn_of_wp_marks hf hb trivial (h _ ⟨?_,rfl,fun t v ht=>?_⟩))
 ·
  have:=Nat.le_of_ble_eq_true hl
  simp[hm];omega
 ·
  obtain⟨_,h2⟩:=look_envOf l 0 t v ht
  simp only[Nat.sub_zero] at h2
  have hlt:=(List.getElem?_eq_some_iff.1 h2).1
  rw[Array.getElem?_append_left (by simpa using hlt)]
  simpa using h2
theorem retM {fn:Func} {R:Ending→World→Prop} {vs:List Value} {D:Nat} (hD:w.heap[D]?=some (.deferred (some []))) (hv:Gives P (w.putObj D (.deferred none)) E fn.results.toList vs) (h:R (.returned (whole vs)) (w.putObj D (.deferred none))) :
  ∀ a,At n E a→bodyPostM (FO none) 0 P fn R .ret (plus a D) w:=fun a ha=>by
 have e:(plus a D).defers=[mark D]:=by unfold plus;rw[ha.dfr];rfl
 show LeavesInM (FO none) 0 P fn (plus a D).tmps R (plus a D).defers .returning w
 rw[e]
 exact⟨by simp,.inl ⟨D,_,rfl,run_takeDeferred hD,_,gives_run ha _ fn hv,h⟩⟩
theorem Good.unmark {A:Res} {D:Nat} {o:Obj} (h:Good w s (A::os)) (hA:A D≠none):Good (w.putObj D o) s os:=by
 have hk:∀ k,k≠D→(w.putObj D o).heap[k]?=w.heap[k]?:=fun k hk=>World.putObj_heap_other hk
 have hin:∀ q,In q w→q D=none→In q (w.putObj D o):=fun q hq hqb k z hz=>by
  have hkb:k≠D:=fun e=>by subst e;rw[hqb] at hz;cases hz
  exact (hk k hkb).trans (hq k z hz)
 obtain⟨h1,h2,h3,h4⟩:=h
 clear h1
 induction os with
 | nil=>exact hin s h4 (h2 D hA)
 | cons q os ih=>exact⟨hin q h4.1 (h3 q (by simp) D hA),h4.2.1,h4.2.2.1,ih (fun p hp=>h3 p (by simp[hp])) h4.2.2.2⟩
theorem Aux.putObj (w:World) (D:Nat) (o:Obj):Aux w (w.putObj D o):=⟨rfl,rfl,rfl,by simp⟩
end
end Go.Lw
namespace Go.Lw
open Go.Proofs
attribute [local irreducible] RL RA
theorem enterIn {P:Program} {w:World} {f:FuncId} {fn:Func} {c:Code} {l:List Value} {R:Ending→World→Prop} {m:Nat} (hf:P.funcs[f]?=some fn) (hb:fn.body=some c) (hm:fn.ntmps=m) (hl:Nat.ble l.length m=true)
  (h:CF none P m c (bodyPost P fn R) (envOf 0 l) w):CallsIn (FO none) 0 P f l.toArray w R:=by
 refine callsIn_of_wp hf hb trivial (h _ ⟨?_,rfl,fun t v ht=>?_⟩)
 ·
  have:=Nat.le_of_ble_eq_true hl
  simp[hm];omega
 ·
  obtain⟨_,h2⟩:=look_envOf l 0 t v ht
  simp only[Nat.sub_zero] at h2
  have hlt:=(List.getElem?_eq_some_iff.1 h2).1
  rw[Array.getElem?_append_left (by simpa using hlt)]
  simpa using h2
theorem CF.range2 {P:Program} {n:Nat} {Q:Exit→Act→World→Prop} {E:Env} {w:World} {s:Res} {os:List Res} {g:Operand} {ps:Array Tmp} {assign body:Code} {gf:FuncId} {cap:Array Value} (hx:ev E g=some (.func (.func gf) #[] cap)) (hc:callable P gf=true) (hg:Good w s os)
  (h:∀ (a:Act) (rr:Loop) (l D:Nat) (w1:World),At n E a→rr.params=ps→rr.assign=assign→rr.body=body→rr.tmps=a.tmps→rr.state = .ready→rr.pending=none→Good w1 s (Res.one l (.loop rr)::Res.one D (.deferred (some []))::os)→Aux w w1 →
   CallsIn (FO none) 0 P gf (#[.func (.yield l) #[] #[]]++cap) w1 (fun e w3=>∃ v r',e = .returned v∧w3.heap[l]?=some (.loop r')∧r'.state ≠ .busy ∧
    match r'.pending with
    | none=>Q .normal (plus a D) (w3.putObj l (.loop { r' with state:= .exhausted }))
    | some c=>c.wpIn (FO none) 0 P Q (plus a D) (w3.putObj l (.loop { r' with state:= .exhausted })))) :
  CF none P n (.rangeFunc g ps assign body) Q E w :=
 CF.range hx hc hg fun a fn l D w1 ha h1 h2=>h a _ l D w1 ha rfl rfl rfl rfl rfl rfl h1 h2
section
variable {w:World} {s r:Res} {os:List Res}
theorem Backward_ct {a:Option Addr} {n c:Nat} (hg:Good w s os) :
  Calls Tryz.prog 57 #[.slice a n c] w (Post w s os fun s' B q=>s'=s∧∃ b,q = .func (.func 89) #[] #[ptr b]∧B b=some (.cells #[.slice a n c] 31 (0,0))):=by
 refine enter (l:=[.slice a n c]) Tryz.func57 rfl Tryz.ntmps57 rfl ?_
 refine go 3 ?_
 rintro b1 w1 Q1 (hg1:Good _ s (Q1::os)) hax1 hb1
 refine go 5 ?_
 refine RL.makeF rfl rfl rfl rfl rfl ?_
 refine go 2 ?_
 refine CW.ret (zr1 ?_)
 exact Post.mq hg1 ⟨rfl,_,rfl,hb1⟩
theorem backward_walk {R:Ending→World→Prop} {xs:List Entry} {a:Option Addr} {c b l:Nat} {B:Res} (I:Nat→World→Prop) (hlen:xs.length<4611686018427387904) (hB:B b=some (.cells #[.slice a xs.length c] 31 (0,0))) (hx:Lies REntry 6 r s a c xs)
  (hIB:∀ k w,I k w→In B w) (hIr:∀ k w,I k w→In r w) (h0:I xs.length w)
  (hround:∀ k (hk:k<xs.length) w vs,I (k+1) w→REntry s vs xs[k]→∃ r,w.heap[l]?=some (.loop r)∧r.params = #[9,10]∧RoundIn (FO none) 0 Tryz.prog l r.fn ((r.params.zip [i64 k,.agg vs.toArray].toArray).foldl (fun tmps (t,a)=>tmps.setIfInBounds t a) r.tmps) r.assign r.body w
   (fun e w'=>∃ q,e = .returned (.bool q)∧(q=true→I k w')∧(q=false→R (.returned (.tuple #[])) w')))
  (hend:∀ w,I 0 w→R (.returned (.tuple #[])) w) :
  CallsIn (FO none) 0 Tryz.prog 89 #[.func (.yield l) #[] #[],ptr b] w R:=by
 refine enterIn (l:=[.func (.yield l) #[] #[],ptr b]) Tryz.func89 rfl Tryz.ntmps89 rfl ?_
 refine CF.seq (CF.plain rfl ?_)
 refine RL.load (j:=0) rfl rfl rfl rfl ty31.out rfl (Holds.of hB) (hIB _ _ h0) rfl ?_
 refine go 4 ?_
 refine CF.block (CF.loop (σ:=Nat) (fun j E w'=>I j w'∧j≤xs.length∧E=[(0,.func (.yield l) #[] #[]),(1,ptr b),(3,i64 ((j:Int)-1))]) (fun j=>j) xs.length [(0,.func (.yield l) #[] #[]),(1,ptr b),(3,i64 ((xs.length:Int)-1))] ⟨rfl,rfl,rfl,trivial⟩ ⟨h0,Nat.le_refl _,rfl⟩ ?_)
 rintro j E w1 ⟨hI,hj,rfl⟩
 refine CF.seq (CF.seq (CF.plain rfl ?_))
 refine go 3 ?_
 refine CF.cond rfl (fun h8=>?_) (fun h8=>?_)
 ·
  refine CF.skip ?_
  have hpos:0<j:=by have:=decide_t h8;omega
  obtain⟨k,rfl⟩:∃ k,j=k+1:=⟨j-1,by omega⟩
  refine CF.seq (CF.block (CF.seq (CF.list (LF.upto [_,_,_,_,_,_] [_,_] rfl ?_))))
  refine go 2 ?_
  refine RL.load (j:=0) rfl rfl rfl rfl ty31.out rfl (Holds.of hB) (hIB _ _ hI) rfl ?_
  refine go 1 ?_
  refine RL.idxL rfl rfl rfl rfl sl31.out rfl rfl hx (by omega) (by omega) ?_
  rintro q vs hvl hH hE
  have hE2:=hE
  obtain⟨ea,ec,ea1,ec1,ea2,ec2,rfl,er1,er2,er3,eh1,eh2,eh3⟩:=hE2
  refine RL.loads (j:=0) (us:=_) rfl rfl rfl rfl ty65.out rfl (hH) (hIr _ _ hI) rfl rfl ?_
  refine go 1 ?_
  have hk1:(((k+1:Nat):Int)-1)=(k:Int):=by omega
  simp only[hk1,Int.toNat_natCast] at hE hH ⊢
  obtain⟨rr,hr1,hr2,hr3⟩:=hround k (by omega) w1 _ hI hE
  refine LF.yield rfl rfl rfl rfl rfl rfl hr1 (by rw[hr2];rfl) (hr3.mono fun e w2 he=>?_)
  obtain⟨q2,rfl,hq1,hq0⟩:=he
  refine⟨q2,rfl,LF.upto [_] [] rfl ?_⟩
  refine go 2 ?_
  refine CF.cond rfl (fun h18=>?_) (fun h18=>?_)
  ·
   have hq:q2=false:=by simpa using h18
   exact CF.ret (ret (vs:=[]) rfl (hq0 hq))
  ·
   have hq:q2=true:=by simpa using h18
   refine CF.skip ?_
   refine CF.plain rfl ?_
   refine go 4 ?_
   exact fun ac ha=>⟨k,[(0,.func (.yield l) #[] #[]),(1,ptr b),(3,i64 ((k:Int)-1))],ha.sub ⟨rfl,rfl,rfl,trivial⟩,⟨hq1 hq,by omega,rfl⟩,Nat.lt_succ_self k⟩
 ·
  have hz:j=0:=by have:=decide_f h8;omega
  subst hz
  refine CF.exit ?_
  exact fall (vs:=[]) rfl (hend _ hI)
theorem confE_drop {xs:List Entry} {k:Nat} (hk:k<xs.length) (h:confE (xs.drop (k+1))=none):confE (xs.drop k)=if xs[k].kind=3 then some (xs[k].conf,xs[k].index) else none:=by
 rw[List.drop_eq_getElem_cons hk]
 simp only[confE,h]
theorem confE_found:∀ {xs:List Entry} {k:Nat} {z:Conf × Int},confE (xs.drop k)=some z→confE xs=some z
 | xs,0,z,h=>by simpa using h
 | [],k+1,z,h=>by simpa using h
 | x::xs,k+1,z,h=>by
  have:=confE_found (xs:=xs) (k:=k) (z:=z) (by simpa using h)
  simp only[confE,this]
theorem Conf_ct {l:Log} {h:Hd} (hg:Good w s os) (hr:r=s∨r∈os) (hl:LogAt r s l h) (hs:l.small) :
  Calls Tryz.prog 30 #[logA l h] w (Post w s os fun s' _ q=>∃ vs,q = .tuple #[.agg vs.toArray,u64 (confP l).2]∧RConf s' vs (confP l).1):=by
 obtain⟨hs1,hs2,hs3,hs4⟩:=hs
 refine enterM (l:=[logA l h]) Tryz.func30 rfl Tryz.ntmps30 rfl ?_
 refine CF.seq (CF.plain rfl ?_)
 refine go 1 ?_
 rintro b1 w1 Q1 (hg1:Good _ s (Q1::os)) hax1 hb1
 refine go 2 ?_
 rintro b2 w2 Q2 (hg2:Good _ s (Q2::Q1::os)) hax2 hb2
 refine go 2 ?_
 rintro b3 w3 Q3 (hg3:Good _ s (Q3::Q2::Q1::os)) hax3 hb3
 refine go 2 ?_
 refine CF.seq (CF.seq (CF.plain rfl ?_))
 refine go 1 ?_
 refine RL.load (j:=5) rfl rfl rfl rfl ty31.out rfl (Holds.of hb1) (hg3.mem (by simp)) rfl ?_
 refine go 1 ?_
 refine zc (Backward_ct hg3) ?_
 rintro v4 s4 QB w4 hle4 hg4 hax4 ⟨hs4,b4,rfl,hb4⟩
 refine go 2 ?_
 have hs4':=hs4.symm
 subst hs4'
 refine CF.block (CF.range2 rfl rfl hg4 ?_)
 intro a rr lo D w5 ha hrp hra hrb hrt hrs hrn hg5 hax5
 refine backward_walk (fun k w'=>∃ L,Good w' s (L::Res.one D (.deferred (some []))::QB::Q3::Q2::Q1::os)∧Aux w w'∧L lo=some (.loop rr)∧confE (l.entries.drop k)=none) (by omega) hb4 hl.entries
  (fun k w' hI=>?_) (fun k w' hI=>?_) ⟨_,hg5,hax1.trans (hax2.trans (hax3.trans (hax4.trans hax5))),if_pos rfl,by rw[List.drop_length];rfl⟩ (fun k hk w' vs hI hE=>?_) (fun w' hI=>?_)
 ·
  obtain⟨L,hgL,_⟩:=hI;exact hgL.mem (by simp)
 ·
  obtain⟨L,hgL,_⟩:=hI;exact hgL.has (hr.imp id fun z=>by simp[z])
 ·
  obtain⟨L,hgL,haxL,hL,hno⟩:=hI
  refine⟨_,hgL.mem (List.mem_cons_self ..) _ _ hL,hrp,?_⟩
  obtain⟨ea,ec,ea1,ec1,ea2,ec2,rfl,er1,er2,er3,eh1,eh2,eh3⟩:=hE
  rw[hrp,hrt,hra,hrb]
  refine round_ok (fun E1 w1=>∃ b5 Q5 L,E1=[(5,ptr b5),(2,ptr b2),(3,ptr b3)]∧Good w1 s (Q5::L::Res.one D (.deferred (some []))::QB::Q3::Q2::Q1::os)∧Aux w w1∧L lo=some (.loop rr) ∧
   Q5 b5=some (.cells #[u64 l.entries[k].index,u64 l.entries[k].term,i64 l.entries[k].kind,.slice ea l.entries[k].data.length ec,.slice ea1 l.entries[k].conf.voters.length ec1,.slice ea2 l.entries[k].conf.learners.length ec2] 65 (0,0))) (At.params2 ha rfl rfl) (CF.plain rfl ?_) ?_
  ·
   refine RL.allocN rfl rfl rfl rfl ze65.out hgL ?_
   rintro b5 w6 Q5 (hg6:Good _ s (Q5::L::Res.one D (.deferred (some []))::QB::Q3::Q2::Q1::os)) hax6 hb5
   refine go 1 ?_
   refine RL.storeB (b:=b5) (i:=0) (j:=0) rfl rfl rfl ty65.out rfl rfl hg6 rfl hb5 rfl (by simp[Value.cells,Value.oneCell']) (Nat.le_of_ble_eq_true rfl) rfl ?_
   rintro w7 Q7 (hg7:Good _ s (Q7::L::Res.one D (.deferred (some []))::QB::Q3::Q2::Q1::os)) hax7 hb7
   refine go 2 ?_
   exact fun a1 ha1=>⟨_,ha1.sub (E':=[(5,ptr b5),(2,ptr b2),(3,ptr b3)]) ⟨rfl,rfl,rfl,trivial⟩,b5,Q7,L,rfl,hg7,haxL.trans (hax6.trans hax7),hL,hb7⟩
  ·
   rintro E1 w8 ⟨b5,Q5,L2,rfl,hg8,hax8,hL2,hb5⟩
   refine⟨_,hg8.mem (by simp) _ _ hL2,hrs,?_⟩
   obtain⟨hg9,hax9⟩:=Good.setLoop (hg8.front 1 rfl) hL2 { rr with state:= .busy }
   have hL9:=put_same L2 lo (.loop { rr with state:= .busy })
   revert hg9 hL9
   generalize L2.put lo (.loop { rr with state:= .busy })=L9
   intro (hg9:Good _ s (L9::Q5::Res.one D (.deferred (some []))::QB::Q3::Q2::Q1::os)) hL9
   generalize w8.putObj lo (.loop { rr with state:= .busy })=w9 at hg9 hax9 ⊢
   refine CF.block (CF.seq (CF.plain rfl ?_))
   refine go 1 ?_
   refine RL.load (j:=2) rfl rfl rfl rfl ty63.out rfl (Holds.of hb5) (hg9.mem (by simp)) rfl ?_
   refine go 2 ?_
   refine CF.cond rfl (fun h13=>?_) (fun h13=>?_)
   ·
    have hk3:l.entries[k].kind=3:=by simpa using h13
    have hcf:=confE_drop hk hno
    rw[if_pos hk3] at hcf
    have hcf:=confE_found hcf
    have hcp:confP l=(l.entries[k].conf,l.entries[k].index):=by unfold confP;rw[hcf];rfl
    have hsm:=(hs3 _ (List.getElem_mem hk)).2
    have hg10:=hg9.drew
    refine CF.seq (CF.draws [(true,0),(true,1),(true,3),(true,4),(false,2),(false,5),(false,6)] (fun w=>At1 b5 _ w∧True) mixed (by kernel_rfl) (by kernel_rfl) (by kernel_rfl) (by kernel_rfl) rfl (⟨hg10.at1 (by simp) hb5,trivial⟩) ?_)
    refine go 1 ?_
    refine RL.loadsT (j:=4) (us:=_) rfl rfl rfl rfl ty27.out rfl (At1.holds) ((fun w h=>h.1.inn)) rfl rfl ?_
    refine go 1 ?_
    refine RL.loadT (j:=0) rfl rfl rfl rfl ty22.out rfl (At1.holds) ((fun w h=>h.1.inn)) rfl ?_
    refine go 1 ?_
    refine zc (conf_log_ct hg10 eh2 eh3 hsm) ?_
    rintro v11 s11 A11 w11 hle11 hg11 hax11 ⟨us,rfl,hU⟩
    refine go 1 ?_
    have hg11':=hg11.drop
    obtain⟨va,vc,la,lc,rfl,hva,hla⟩:=hU
    refine RL.storeB (b:=b2) (i:=5) (j:=0) rfl rfl rfl ty27.out rfl rfl hg11' rfl hb2 rfl (by simp[Value.cells,Value.oneCell']) (Nat.le_of_ble_eq_true rfl) rfl ?_
    rintro w12 Q12 (hg12:Good _ s11 (L9::Q5::Res.one D (.deferred (some []))::QB::Q3::Q12::Q1::os)) hax12 hb12
    refine go 1 ?_
    refine RL.storeB (b:=b3) (i:=4) (j:=0) rfl rfl rfl ty22.out rfl rfl hg12 rfl hb3 rfl (by simp[Value.cells,Value.oneCell']) (Nat.le_of_ble_eq_true rfl) rfl ?_
    rintro w13 Q13 (hg13:Good _ s11 (L9::Q5::Res.one D (.deferred (some []))::QB::Q13::Q12::Q1::os)) hax13 hb13
    refine go 2 ?_
    refine CF.ret ?_
    intro a2 ha2
    refine⟨_,hg13.mem (by simp) _ _ hL9,fun z=>(by cases z),fun _=>?_⟩
    obtain⟨hg14,hax14⟩:=Good.setLoop hg13 hL9 { { rr with state:= .busy } with state:= .done,pending:=some .ret }
    have hL14:=put_same L9 lo (.loop { { rr with state:= .busy } with state:= .done,pending:=some .ret })
    refine⟨_,_,rfl,hg14.mem (List.mem_cons_self ..) _ _ hL14,by simp,?_⟩
    obtain⟨hg15,hax15⟩:=Good.setLoop hg14 hL14 { { { rr with state:= .busy } with state:= .done,pending:=some .ret } with state:= .exhausted }
    have hu:=(hg15.front 2 rfl).unmark (D:=D) (o:= .deferred none) (by simp[Res.one])
    refine CD.ret ?_ a ha
    refine retM (vs:=[_,_]) (hg15.mem (r:=Res.one D (.deferred (some []))) (List.mem_cons_of_mem _ (List.mem_cons_of_mem _ (List.mem_cons_self ..))) D _ (if_pos rfl)) ⟨_,_,_,rfl,rfl,zl hb12,_,_,_,rfl,rfl,loadVar_one ty22.out hb13 (hu.mem (by simp)) rfl,rfl⟩ ?_
    refine Post.mk hle11 hu.dropNext.dropNext.dropNext.dropNext.dropNext (hax8.trans (hax9.trans ((Aux.drew _).trans (hax11.trans (hax12.trans (hax13.trans (hax14.trans (hax15.trans (Aux.putObj _ _ _))))))))) ?_
    rw[hcp]
    exact⟨_,rfl,va,vc,la,lc,rfl,hva,hla⟩
   ·
    have hk3:l.entries[k].kind≠3:=by simpa using h13
    have hcf:=confE_drop hk hno
    rw[if_neg hk3] at hcf
    refine CF.skip ?_
    intro a2 ha2
    obtain⟨hg10,hax10⟩:=Good.setLoop hg9 hL9 { { rr with state:= .busy } with state:= .ready,pending:=none }
    have hL10:=put_same L9 lo (.loop { { rr with state:= .busy } with state:= .ready,pending:=none })
    have hsame:({ { rr with state:= .busy } with state:= .ready,pending:=none }:Loop)=rr:=by cases rr;simp_all
    refine⟨_,hg9.mem (by simp) _ _ hL9,fun _=>⟨_,hg10.dropNext,hax8.trans (hax9.trans hax10),?_,hcf⟩,fun z=>(by cases z)⟩
    rw[hL10,hsame]
 ·
  obtain⟨L,hgL,haxL,hL,hno⟩:=hI
  have hcp:confP l=(l.base.conf,0):=by unfold confP;rw[show confE l.entries=none from by simpa using hno];rfl
  refine⟨_,rr,rfl,hgL.mem (List.mem_cons_self ..) _ _ hL,by rw[hrs];simp,?_⟩
  rw[hrn]
  obtain⟨hg6,hax6⟩:=Good.setLoop hgL hL { rr with state:= .exhausted }
  rw[hrn] at hg6 hax6
  generalize L.put lo _=L6 at hg6
  generalize w'.putObj lo _=w6 at hg6 hax6 ⊢
  refine CD.seq (CD.plain ?_) a ha
  refine go 2 ?_
  refine RL.loads (j:=2) (us:=_) rfl rfl rfl rfl ty27.out rfl (Holds.of hb1) (hg6.mem (by simp)) rfl rfl ?_
  refine go 1 ?_
  refine zc (conf_log_ct hg6 hl.voters hl.learners hs1) ?_
  rintro v11 s11 A11 w11 hle11 hg11 hax11 ⟨us,rfl,hU⟩
  refine go 1 ?_
  have hg11':=hg11.drop
  obtain⟨va,vc,la,lc,rfl,hva,hla⟩:=hU
  refine RL.storeB (b:=b2) (i:=4) (j:=0) rfl rfl rfl ty27.out rfl rfl hg11' rfl hb2 rfl (by simp[Value.cells,Value.oneCell']) (Nat.le_of_ble_eq_true rfl) rfl ?_
  rintro w12 Q12 (hg12:Good _ s11 (L6::Res.one D (.deferred (some []))::QB::Q3::Q12::Q1::os)) hax12 hb12
  refine go 1 ?_
  refine RL.storeB (b:=b3) (i:=3) (j:=0) rfl rfl rfl ty22.out rfl rfl hg12 rfl hb3 rfl (by simp[Value.cells,Value.oneCell']) (Nat.le_of_ble_eq_true rfl) rfl ?_
  rintro w13 Q13 (hg13:Good _ s11 (L6::Res.one D (.deferred (some []))::QB::Q13::Q12::Q1::os)) hax13 hb13
  refine go 2 ?_
  intro a7 ha7
  have hu:=(hg13.front 1 rfl).unmark (D:=D) (o:= .deferred none) (by simp[Res.one])
  refine CD.ret ?_ a7 ha7
  refine retM (vs:=[_,_]) (hg13.mem (r:=Res.one D (.deferred (some []))) (List.mem_cons_of_mem _ (List.mem_cons_self ..)) D _ (if_pos rfl)) ⟨_,_,_,rfl,rfl,zl hb12,_,_,_,rfl,rfl,loadVar_one ty22.out hb13 (hu.mem (by simp)) rfl,rfl⟩ ?_
  refine Post.mk hle11 hu.dropNext.dropNext.dropNext.dropNext (haxL.trans (hax6.trans (hax11.trans (hax12.trans (hax13.trans (Aux.putObj _ _ _)))))) ?_
  rw[hcp]
  exact⟨_,rfl,va,vc,la,lc,rfl,hva,hla⟩
end
end Go.Lw
namespace Go.Lw
open Go.Proofs
attribute [local irreducible] RL RA
section
variable {P:Program} {n:Nat} {ops:Array Oper} {Q:Exit→Act→World→Prop} {S:World→Prop} {rest:List (Bool × Oper)} {E:Env} {w:World} {o:Oper} {d:Nat}
variable {s A r:Res} {os:List Res} {x y z:Operand} {T:Bool}
theorem RL.top {α:Type} {R:Res→List Value→α→Prop} {t e:TypeId} {sz by_ c:Nat} {k k':IntKind} {a:Option Addr} {xs:List α} (h:Nat) (hg:wants ops E o=some true) (hd:o.dst=some d) (hb:Nat.blt d n=true)
  (ho:o.op = .slice t x none (some y) (some z)) (ht:slc P t=some (e,sz,by_)) (hx:ev E x=some (.slice a xs.length c)) (hy:ev E y=some (.int k (h:Nat))) (hz:ev E z=some (.int k' (h:Nat)))
  (hI:Lies R sz r s a c xs) (h2:h≤xs.length) (hK:Lies R sz r s a h (xs.take h)→RL P n ops Q S rest ((d,.slice a (xs.take h).length h)::E) w):RL P n ops Q S ((T,o)::rest) E w:=by
 have hcap:=hI.1
 have hI2:Lies R sz r s a h (xs.take h):=by
  refine⟨by rw[List.length_take];omega,by have:=hI.2.1;omega,?_⟩
  rcases hI.2.2 with rfl | ⟨ad,rfl,hr⟩
  ·
   left;simp
  ·
   right
   refine⟨ad,rfl,?_⟩
   rw[←List.take_append_drop h xs] at hr
   exact hr.take
 refine RL.val hg hd hb (fun w ac ha=>?_) (hK hI2)
 obtain⟨hu,inf,hi',rfl,_⟩:=slc_spec ht
 have hsz:∀ w:World,(sizeOf e).run P w = .ok inf.size w:=fun w=>by simp[sizeOf,typeInfo,hi']
 have hh':∀ k (y:Nat) code,h≤y→(Instr.sliceBound (.int k (h:Nat)) y code).run P w = .ok h w:=fun k y code hy=>by
  have:=run_sliceBound (P:=P) w k (h:Nat) y code (by omega) (by omega)
  simpa using this
 unfold execOp
 simp only[ho,ha.ev hx]
 have hm:(xs.take h).length=h:=by rw[List.length_take];omega
 have ha0:(if h=0 then a else a.map (·.add (0*inf.size)))=a:=by rw[add0];split<;>rfl
 simp[Instr.sliceAt,Instr.slice,Instr.sliceBounds,run_underlying hu,hsz,ha.ev hy,ha.ev hz,hh' k' c .slice3Acap (by omega),hh' k h .slice3B (Nat.le_refl _),hm]
 have hadd0:∀ ad:Addr,ad.add 0=ad:=fun ad=>by unfold Addr.add;simp
 first
  | done
  | (cases a<;>simp[hadd0])
end
section
variable {w:World} {s r:Res} {os:List Res}
def Snap.small (p:Snap):Prop:=p.conf.small∧p.data.length≤1099511627776
abbrev snapV (p:Snap) (va:Option Addr) (vc:Nat) (la:Option Addr) (lc:Nat) (da:Option Addr) (dc:Nat):List Value:=[u64 p.index,u64 p.term,.slice va p.conf.voters.length vc,.slice la p.conf.learners.length lc,.slice da p.data.length dc]
def Lay.none:Lay:=⟨.none,0,.none,0,.none,0,.none,0⟩
theorem MsgOk.zero (s:Res):MsgOk s Msg.zero Lay.none :=
 ⟨by simp[rng,Msg.zero],by simp[rng,Msg.zero],by simp[rng,Msg.zero],by simp[rng,Msg.zero],by simp[rng,Msg.zero],by simp[rng,Msg.zero],by simp[rng,Msg.zero],by simp[rng,Msg.zero],Imm.nil _ _ _ (Nat.zero_le _),Imm.nil _ _ _ (Nat.zero_le _),Imm.nil _ _ _ (Nat.zero_le _),Imm.nil _ _ _ (Nat.zero_le _)⟩
theorem Piece_ct {p:Snap} {frm:Int} {va la da:Option Addr} {vc lc dc:Nat} (hg:Good w s os) (hs:p.small) (hi:rng .u64 p.index) (ht:rng .u64 p.term) (hv:Ints s va vc p.conf.voters) (hl:Ints s la lc p.conf.learners) (hd:Imm (RInt .u8) 1 s da dc p.data) (hf:rng .u64 frm) :
  Calls Tryz.prog 148 #[.agg (snapV p va vc la lc da dc).toArray,u64 frm] w (Post w s os fun s' _ q=>∃ y,q = .tuple #[.agg (msgV (pieceP p frm).1 y).toArray,i64 (pieceP p frm).2]∧MsgOk s' (pieceP p frm).1 y):=by
 obtain⟨hs1,hs2⟩:=hs
 have hf':=hf
 simp only[rng] at hf'
 have hd0:Lies (RInt .u8) 1 s s da dc p.data:=hd
 refine enter (l:=[.agg (snapV p va vc la lc da dc).toArray,u64 frm]) Tryz.func148 rfl Tryz.ntmps148 rfl ?_
 refine go 3 ?_
 rintro b1 w1 Q1 (hg1:Good _ s (Q1::os)) hax1 hb1
 refine go 2 ?_
 rintro b2 w2 Q2 (hg2:Good _ s (Q2::Q1::os)) hax2 hb2
 refine go 10 ?_
 refine RL.conv rfl rfl rfl rfl Tryz.underlying3 Tryz.underlying22 rfl ((by simp only[rng];omega)) ?_
 refine go 2 ?_
 refine CW.cond rfl (fun h14=>?_) (fun h14=>?_)
 ·
  refine go 4 ?_
  rintro w3 Q3 (hg3:Good _ s (Q3::Q1::os)) hax3 hb3
  refine go 3 ?_
  refine CW.ret (ret (vs:=[_,_]) ⟨_,_,_,rfl,rfl,zl hb3,_,_,rfl,rfl,rfl⟩ ?_)
  have hc:(p.data.length:Int)<frm:=decide_t h14
  exact Post.mq ((hg3.drop).drop).nil ⟨Lay.none,by simp only[pieceP,if_pos hc];rfl,by simp only[pieceP,if_pos hc];exact MsgOk.zero _⟩
 ·
  refine go 6 ?_
  have hc:¬ (p.data.length:Int)<frm:=decide_f h14
  refine RL.partL frm (p.data.length:Int) rfl rfl rfl rfl sl28.out rfl (.inr ⟨_,_,rfl,rfl⟩) (.inl ⟨rfl,rfl⟩) hd0 (by omega) (by omega) (by omega) ?_
  intro a19 c19 hE19
  have e19:((p.data.take (p.data.length:Int).toNat).drop frm.toNat)=p.data.drop frm.toNat:=by simp
  rw[e19] at hE19 ⊢
  refine go 6 ?_
  refine RL.min rfl rfl rfl rfl rfl rfl ?_
  have hmin:(if (64:Int)<((p.data.drop frm.toNat).length:Int) then (64:Int) else ((p.data.drop frm.toNat).length:Int))=((min (p.data.drop frm.toNat).length 64:Nat):Int):=by split<;>omega
  rw[hmin]
  have hkl:min (p.data.drop frm.toNat).length 64≤(p.data.drop frm.toNat).length:=Nat.min_le_left _ _
  have hk64:min (p.data.drop frm.toNat).length 64≤64:=Nat.min_le_right _ _
  have hkd:(p.data.drop frm.toNat).take (min (p.data.drop frm.toNat).length 64)=(p.data.drop frm.toNat).take 64:=by rw[List.take_eq_take_iff];omega
  have hkr:decide ((p.data.drop frm.toNat).length≤64)=(((min (p.data.drop frm.toNat).length 64:Nat):Int)==((p.data.drop frm.toNat).length:Int)):=by rw[Bool.eq_iff_iff,beq_iff_eq,decide_eq_true_eq];omega
  generalize min (p.data.drop frm.toNat).length 64=k at hkl hk64 hkd hkr ⊢
  refine go 5 ?_
  refine RL.makeN rfl rfl rfl rfl sl28.out ze5.out rfl rfl rfl (by omega) (by omega) hg2 ?_
  rintro b24 A24 wm hgm haxm hA24
  refine go 9 ?_
  refine RL.top k rfl rfl rfl rfl sl28.out rfl rfl rfl hE19 hkl ?_
  intro hE29
  obtain⟨news,hsrc,hch⟩:=Src.lies (t:=28) sl28.out hE29 hgm.sh
  have hnl:=hch.length
  have hkk:((p.data.drop frm.toNat).take k).length=k:=by rw[List.length_take];omega
  have hzl:(zsL k [Value.int IntKind.u8 0]).toArray.size=((p.data.drop frm.toNat).take k).length*1:=by rw[List.size_toArray,zsL_length,hkk];rfl
  refine RL.copy (i:=0) k rfl rfl rfl rfl sl28.out rfl rfl hsrc.len (by rw[hkk];exact Nat.min_self _) (by have:=hsrc.first _ rfl;simpa only[hkk] using this) hgm rfl hA24 (by rw[hzl];omega) (hch.one (RInt.one .u8)) ?_
  intro wc hgc haxc
  refine go 1 ?_
  have hown:=Own.filled (A:=A24) (el:=5) (g:=b24) hzl hch (by simp only[maxLen];omega)
  revert hgc hown
  generalize (A24.put b24 (.cells (spl (zsL k [Value.int IntKind.u8 0]).toArray 0 news) 5 (0,0)))=AC
  intro hgc hown
  refine go 2 ?_
  have hg4:=hgc.drew
  refine CW.dw [1,3,5,7,9,11,15,17,19,21,23,25,12,27,28,30] (fun w=>At1 b1 _ w∧True) ?_
  refine go 13 ?_
  refine zc (conf_snap_ct hg4 hv hl hs1) ?_
  rintro v5 s5 B5 w5 hle5 (hg5:Good _ s5 (B5::AC::Q2::Q1::os)) hax5 ⟨vs37,rfl,hR37⟩
  have hg5:=hg5.drop
  have hv:=hv.up (RInt.up _) hle5
  have hl:=hl.up (RInt.up _) hle5
  have hd:=hd.up (RInt.up _) hle5
  obtain⟨va37,vc37,la37,lc37,rfl,hv37,hl37⟩:=hR37
  refine go 3 ?_
  rintro w6 Q6 (hg6:Good _ s5 (AC::Q6::Q1::os)) hax6 hb6
  refine go 3 ?_
  refine CW.ret (ret (vs:=[_,_]) ⟨_,_,_,rfl,rfl,zl hb6,_,_,rfl,rfl,rfl⟩ ?_)
  obtain⟨s1,hs1,hl1,hm1⟩:=hg6.letgo
  have him:=hown.imm (RInt.up _) (hle5.trans hl1) hm1
  rw[hkk,hkd] at him
  refine Post.mk (hle5.trans hl1) hs1.dropNext (hax1.trans (hax2.trans (haxm.trans (haxc.trans ((Aux.drew _).trans (hax5.trans hax6)))))) ⟨⟨none,0,va37,vc37,la37,lc37,some ⟨b24,0,none⟩,k⟩,?_,?_⟩
  ·
   simp only[pieceP,if_neg hc,msgV,Msg.zero,hkr]
   rw[←hkd,hkk];rfl
  ·
   simp only[pieceP,if_neg hc]
   exact { MsgOk.zero _ with kind:=by simp[rng],index:=hi,logTerm:=ht,hint:=hf,voters:=hv37.up (RInt.up _) hl1,learners:=hl37.up (RInt.up _) hl1,data:=him }
abbrev comV (p:Coming) (a:Option Addr) (c:Nat):List Value:=[u64 p.index,u64 p.term,.slice a p.data.length c]
theorem takeP_new {p:Coming} {m:Msg} (h:p.index≠m.index∨p.term≠m.logTerm):takeP p m=if m.hint≠0 then (⟨m.index,m.logTerm,[]⟩,false) else (⟨m.index,m.logTerm,m.data⟩,m.done):=by
 simp only[takeP,if_pos h,List.length_nil,List.nil_append];rfl
theorem takeP_old {p:Coming} {m:Msg} (h:¬ (p.index≠m.index∨p.term≠m.logTerm)):takeP p m=if m.hint≠p.data.length then (p,false) else (⟨p.index,p.term,p.data++m.data⟩,m.done):=by
 simp only[takeP,if_neg h]
theorem Take_ct {p:Coming} {m:Msg} {y:Lay} {da:Option Addr} {dc:Nat} (hg:Good w s os) (hp:Imm (RInt .u8) 1 s da dc p.data) (hm:MsgOk s m y) (hn:p.data.length+m.data.length≤70368744177664) :
  Calls Tryz.prog 135 #[.agg (comV p da dc).toArray,.agg (msgV m y).toArray] w (Post w s os fun s' _ q=>∃ a c,q = .tuple #[.agg (comV (takeP p m).1 a c).toArray,.bool (takeP p m).2]∧Imm (RInt .u8) 1 s' a c (takeP p m).1.data):=by
 have hp0:Lies (RInt .u8) 1 s s da dc p.data:=hp
 have hM0:Lies (RInt .u8) 1 s s y.da y.dc m.data:=hm.data
 have hnil:Lies (RInt .u8) 1 s s none 0 ([]:List Int):=Lies.nil _ _ _ _ (Nat.zero_le _)
 refine enter (l:=[.agg (comV p da dc).toArray,.agg (msgV m y).toArray]) Tryz.func135 rfl Tryz.ntmps135 rfl ?_
 refine go 3 ?_
 rintro b7 w7 Q7 (hg7:Good _ s (Q7::os)) hax7 hb7
 refine go 2 ?_
 rintro b8 w8 Q8 (hg8:Good _ s (Q8::Q7::os)) hax8 hb8
 refine go 2 ?_
 rintro b9 w9 Q9 (hg9:Good _ s (Q9::Q8::Q7::os)) hax9 hb9
 refine go 12 ?_
 refine RL.part 12 rfl (fun h12=>?_) (fun h12=>?_)
 ·
  have hq:=takeP_new (p:=p) (m:=m) (.inl (by simpa using h12))
  have hD:=hnil
  have hL:([]:List Int).length+m.data.length≤70368744177664:=by simp only[List.length_nil];omega
  refine go 15 ?_
  rintro w10 Q10 (hg10:Good _ s (Q9::Q8::Q10::os)) hax10 hb10
  refine go 12 ?_
  refine RL.top _ rfl rfl rfl rfl sl28.out rfl rfl rfl hD (Nat.le_refl _) ?_
  intro hE32
  simp only[List.take_length,List.take_nil] at hE32 ⊢
  refine go 6 ?_
  refine zc (CloneB_ct hg10 (.inl rfl) hE32.2.2 (by omega)) ?_
  rintro v11 s11 Q11 w11 hle11 (hg11:Good _ s11 (Q11::Q9::Q8::Q10::os)) hax11 ⟨hs34,a34,c34,rfl,ho34⟩
  have hm:=hm.up hle11
  refine go 3 ?_
  rintro w12 Q12 (hg12:Good _ s11 (Q11::Q9::Q8::Q12::os)) hax12 hb12
  refine go 9 ?_
  refine RL.conv rfl rfl rfl rfl Tryz.underlying3 Tryz.underlying22 rfl ((by have:=ho34.le_max;simp only[maxLen] at this;simp only[rng];omega)) ?_
  refine go 2 ?_
  refine CW.cond rfl (fun h41=>?_) (fun h41=>?_)
  ·
   refine go 4 ?_
   rintro w13 Q13 (hg13:Good _ s11 (Q11::Q13::Q8::Q12::os)) hax13 hb13
   refine go 3 ?_
   refine CW.ret (ret (vs:=[_,_]) ⟨_,_,_,rfl,rfl,zl hb13,_,_,rfl,rfl,rfl⟩ ?_)
   obtain⟨s1,hs1,hl1,hm1⟩:=hg13.letgo
   have him:=ho34.imm (RInt.up _) ((Le.refl _).trans hl1) hm1
   rw[if_pos (by simpa using h41)] at hq
   exact Post.mk (hle11.trans hl1) hs1.dropNext.dropNext (hax7.trans (hax8.trans (hax9.trans (hax10.trans (hax11.trans (hax12.trans hax13)))))) ⟨a34,c34,by rw[hq];rfl,by rw[hq];exact him⟩
  ·
   refine go 7 ?_
   have hM1:=hM0.up (RInt.up _) hle11
   obtain⟨news14,hsrc14,hch14⟩:=(Src.row (r:=s) (c:=y.dc) sl28.out hM1.2.2 (hg12.sh.le hle11))
   refine RL.append2 (i:=0) (xs:=_) (ys:=m.data) rfl rfl rfl rfl sl28.out ze5.out rfl (RInt.one .u8) (rfl) rfl hg12 rfl (ho34) hsrc14 hch14 ((by omega)) (by omega) ?_
   rintro a14 c14 A14 w14 (hg14:Good _ s11 (A14::Q9::Q8::Q12::os)) ho14 hax14 hk14 hn14
   refine go 3 ?_
   rintro w15 Q15 (hg15:Good _ s11 (A14::Q9::Q8::Q15::os)) hax15 hb15
   refine go 3 ?_
   have hg16:=hg15.drew
   refine CW.dw [1,3,5,6,8] (fun w=>At1 b7 _ w∧At1 b8 _ w∧True) ?_
   refine go 4 ?_
   rintro w17 Q17 (hg17:Good _ s11 (A14::Q17::Q8::Q15::os)) hax17 hb17
   refine go 3 ?_
   refine CW.ret (ret (vs:=[_,_]) ⟨_,_,_,rfl,rfl,zl hb17,_,_,rfl,rfl,rfl⟩ ?_)
   obtain⟨s1,hs1,hl1,hm1⟩:=hg17.letgo
   have him:=ho14.imm (RInt.up _) hl1 hm1
   rw[if_neg (by simpa using h41)] at hq
   exact Post.mk (hle11.trans hl1) hs1.dropNext.dropNext (hax7.trans (hax8.trans (hax9.trans (hax10.trans (hax11.trans (hax12.trans (hax14.trans (hax15.trans ((Aux.drew _).trans hax17))))))))) ⟨a14,c14,by rw[hq];rfl,by rw[hq];exact him⟩
 ·
  refine go 7 ?_
  refine CW.cond rfl (fun h18=>?_) (fun h18=>?_)
  ·
   have hq:=takeP_new (p:=p) (m:=m) (.inr (by simpa using h18))
   have hD:=hnil
   have hL:([]:List Int).length+m.data.length≤70368744177664:=by simp only[List.length_nil];omega
   refine go 7 ?_
   rintro w18 Q18 (hg18:Good _ s (Q9::Q8::Q18::os)) hax18 hb18
   refine go 12 ?_
   refine RL.top _ rfl rfl rfl rfl sl28.out rfl rfl rfl hD (Nat.le_refl _) ?_
   intro hE32
   simp only[List.take_length,List.take_nil] at hE32 ⊢
   refine go 6 ?_
   refine zc (CloneB_ct hg18 (.inl rfl) hE32.2.2 (by omega)) ?_
   rintro v19 s19 Q19 w19 hle19 (hg19:Good _ s19 (Q19::Q9::Q8::Q18::os)) hax19 ⟨hs34,a34,c34,rfl,ho34⟩
   have hm:=hm.up hle19
   refine go 3 ?_
   rintro w20 Q20 (hg20:Good _ s19 (Q19::Q9::Q8::Q20::os)) hax20 hb20
   refine go 9 ?_
   refine RL.conv rfl rfl rfl rfl Tryz.underlying3 Tryz.underlying22 rfl ((by have:=ho34.le_max;simp only[maxLen] at this;simp only[rng];omega)) ?_
   refine go 2 ?_
   refine CW.cond rfl (fun h41=>?_) (fun h41=>?_)
   ·
    refine go 4 ?_
    rintro w21 Q21 (hg21:Good _ s19 (Q19::Q21::Q8::Q20::os)) hax21 hb21
    refine go 3 ?_
    refine CW.ret (ret (vs:=[_,_]) ⟨_,_,_,rfl,rfl,zl hb21,_,_,rfl,rfl,rfl⟩ ?_)
    obtain⟨s1,hs1,hl1,hm1⟩:=hg21.letgo
    have him:=ho34.imm (RInt.up _) ((Le.refl _).trans hl1) hm1
    rw[if_pos (by simpa using h41)] at hq
    exact Post.mk (hle19.trans hl1) hs1.dropNext.dropNext (hax7.trans (hax8.trans (hax9.trans (hax18.trans (hax19.trans (hax20.trans hax21)))))) ⟨a34,c34,by rw[hq];rfl,by rw[hq];exact him⟩
   ·
    refine go 7 ?_
    have hM1:=hM0.up (RInt.up _) hle19
    obtain⟨news22,hsrc22,hch22⟩:=(Src.row (r:=s) (c:=y.dc) sl28.out hM1.2.2 (hg20.sh.le hle19))
    refine RL.append2 (i:=0) (xs:=_) (ys:=m.data) rfl rfl rfl rfl sl28.out ze5.out rfl (RInt.one .u8) (rfl) rfl hg20 rfl (ho34) hsrc22 hch22 ((by omega)) (by omega) ?_
    rintro a22 c22 A22 w22 (hg22:Good _ s19 (A22::Q9::Q8::Q20::os)) ho22 hax22 hk22 hn22
    refine go 3 ?_
    rintro w23 Q23 (hg23:Good _ s19 (A22::Q9::Q8::Q23::os)) hax23 hb23
    refine go 3 ?_
    have hg24:=hg23.drew
    refine CW.dw [1,3,5,6,8] (fun w=>At1 b7 _ w∧At1 b8 _ w∧True) ?_
    refine go 4 ?_
    rintro w25 Q25 (hg25:Good _ s19 (A22::Q25::Q8::Q23::os)) hax25 hb25
    refine go 3 ?_
    refine CW.ret (ret (vs:=[_,_]) ⟨_,_,_,rfl,rfl,zl hb25,_,_,rfl,rfl,rfl⟩ ?_)
    obtain⟨s1,hs1,hl1,hm1⟩:=hg25.letgo
    have him:=ho22.imm (RInt.up _) hl1 hm1
    rw[if_neg (by simpa using h41)] at hq
    exact Post.mk (hle19.trans hl1) hs1.dropNext.dropNext (hax7.trans (hax8.trans (hax9.trans (hax18.trans (hax19.trans (hax20.trans (hax22.trans (hax23.trans ((Aux.drew _).trans hax25))))))))) ⟨a22,c22,by rw[hq];rfl,by rw[hq];exact him⟩
  ·
   have hq:=takeP_old (p:=p) (m:=m) (fun z=>z.elim (fun z=>by simp[z] at h12) (fun z=>by simp[z] at h18))
   have hD:=hp0
   have hL:=hn
   refine go 11 ?_
   refine RL.top _ rfl rfl rfl rfl sl28.out rfl rfl rfl hD (Nat.le_refl _) ?_
   intro hE32
   simp only[List.take_length,List.take_nil] at hE32 ⊢
   refine go 6 ?_
   refine zc (CloneB_ct hg9 (.inl rfl) hE32.2.2 (by omega)) ?_
   rintro v26 s26 Q26 w26 hle26 (hg26:Good _ s26 (Q26::Q9::Q8::Q7::os)) hax26 ⟨hs34,a34,c34,rfl,ho34⟩
   have hm:=hm.up hle26
   refine go 3 ?_
   rintro w27 Q27 (hg27:Good _ s26 (Q26::Q9::Q8::Q27::os)) hax27 hb27
   refine go 9 ?_
   refine RL.conv rfl rfl rfl rfl Tryz.underlying3 Tryz.underlying22 rfl ((by have:=ho34.le_max;simp only[maxLen] at this;simp only[rng];omega)) ?_
   refine go 2 ?_
   refine CW.cond rfl (fun h41=>?_) (fun h41=>?_)
   ·
    refine go 4 ?_
    rintro w28 Q28 (hg28:Good _ s26 (Q26::Q28::Q8::Q27::os)) hax28 hb28
    refine go 3 ?_
    refine CW.ret (ret (vs:=[_,_]) ⟨_,_,_,rfl,rfl,zl hb28,_,_,rfl,rfl,rfl⟩ ?_)
    obtain⟨s1,hs1,hl1,hm1⟩:=hg28.letgo
    have him:=ho34.imm (RInt.up _) ((Le.refl _).trans hl1) hm1
    rw[if_pos (by simpa using h41)] at hq
    exact Post.mk (hle26.trans hl1) hs1.dropNext.dropNext (hax7.trans (hax8.trans (hax9.trans (hax26.trans (hax27.trans hax28))))) ⟨a34,c34,by rw[hq];rfl,by rw[hq];exact him⟩
   ·
    refine go 7 ?_
    have hM1:=hM0.up (RInt.up _) hle26
    obtain⟨news29,hsrc29,hch29⟩:=(Src.row (r:=s) (c:=y.dc) sl28.out hM1.2.2 (hg27.sh.le hle26))
    refine RL.append2 (i:=0) (xs:=_) (ys:=m.data) rfl rfl rfl rfl sl28.out ze5.out rfl (RInt.one .u8) (rfl) rfl hg27 rfl (ho34) hsrc29 hch29 ((by omega)) (by omega) ?_
    rintro a29 c29 A29 w29 (hg29:Good _ s26 (A29::Q9::Q8::Q27::os)) ho29 hax29 hk29 hn29
    refine go 3 ?_
    rintro w30 Q30 (hg30:Good _ s26 (A29::Q9::Q8::Q30::os)) hax30 hb30
    refine go 3 ?_
    have hg31:=hg30.drew
    refine CW.dw [1,3,5,6,8] (fun w=>At1 b7 _ w∧At1 b8 _ w∧True) ?_
    refine go 4 ?_
    rintro w32 Q32 (hg32:Good _ s26 (A29::Q32::Q8::Q30::os)) hax32 hb32
    refine go 3 ?_
    refine CW.ret (ret (vs:=[_,_]) ⟨_,_,_,rfl,rfl,zl hb32,_,_,rfl,rfl,rfl⟩ ?_)
    obtain⟨s1,hs1,hl1,hm1⟩:=hg32.letgo
    have him:=ho29.imm (RInt.up _) hl1 hm1
    rw[if_neg (by simpa using h41)] at hq
    exact Post.mk (hle26.trans hl1) hs1.dropNext.dropNext (hax7.trans (hax8.trans (hax9.trans (hax26.trans (hax27.trans (hax29.trans (hax30.trans ((Aux.drew _).trans hax32)))))))) ⟨a29,c29,by rw[hq];rfl,by rw[hq];exact him⟩
theorem Whole_ct {p:Coming} {c:Conf} {va la da:Option Addr} {vc lc dc:Nat} (hg:Good w s os) (hp:Imm (RInt .u8) 1 s da dc p.data) (hv:Ints s va vc c.voters) (hl:Ints s la lc c.learners) (hs:c.small) (hn:p.data.length≤140737488355328) :
  Calls Tryz.prog 137 #[.agg (comV p da dc).toArray,.agg #[.slice va c.voters.length vc,.slice la c.learners.length lc]] w (Post w s os fun s' _ q=>∃ va vc la lc da dc,q = .agg (snapV (wholeP p c) va vc la lc da dc).toArray∧Ints s' va vc (wholeP p c).conf.voters∧Ints s' la lc (wholeP p c).conf.learners∧Imm (RInt .u8) 1 s' da dc (wholeP p c).data):=by
 refine enter (l:=[.agg (comV p da dc).toArray,.agg #[.slice va c.voters.length vc,.slice la c.learners.length lc]]) Tryz.func137 rfl Tryz.ntmps137 rfl ?_
 refine go 3 ?_
 rintro b33 w33 Q33 (hg33:Good _ s (Q33::os)) hax33 hb33
 refine go 2 ?_
 rintro b34 w34 Q34 (hg34:Good _ s (Q34::Q33::os)) hax34 hb34
 refine go 2 ?_
 rintro b35 w35 Q35 (hg35:Good _ s (Q35::Q34::Q33::os)) hax35 hb35
 refine go 3 ?_
 have hg36:=hg35.drew
 refine CW.dw [1,3,5,7,9,13,15,10,16,19,20] (fun w=>At1 b33 _ w∧At1 b34 _ w∧True) ?_
 refine go 8 ?_
 refine zc (conf_snap_ct hg36 hv hl hs) ?_
 rintro v37 s37 B37 w37 hle37 (hg37:Good _ s37 (B37::Q35::Q34::Q33::os)) hax37 ⟨vs10,rfl,hR10⟩
 have hg37:=hg37.drop
 have hp:=hp.up (RInt.up _) hle37
 obtain⟨va10,vc10,la10,lc10,rfl,hv10,hl10⟩:=hR10
 refine go 2 ?_
 refine zc (CloneB_ct hg37 (.inl rfl) hp.2.2 (by omega)) ?_
 rintro v38 s38 Q38 w38 hle38 (hg38:Good _ s38 (Q38::Q35::Q34::Q33::os)) hax38 ⟨hs13,a13,c13,rfl,ho13⟩
 have hp:=hp.up (RInt.up _) hle38
 refine go 3 ?_
 rintro w39 Q39 (hg39:Good _ s38 (Q38::Q39::Q34::Q33::os)) hax39 hb39
 refine go 2 ?_
 refine CW.ret (ret (vs:=[_]) ⟨_,_,_,rfl,rfl,zl hb39,rfl⟩ ?_)
 obtain⟨s1,hs1,hl1,hm1⟩:=hg39.letgo
 exact Post.mk ((hle37.trans hle38).trans hl1) hs1.dropNext.dropNext (hax33.trans (hax34.trans (hax35.trans ((Aux.drew _).trans (hax37.trans (hax38.trans hax39)))))) ⟨va10,vc10,la10,lc10,a13,c13,rfl,hv10.up (RInt.up _) (hle38.trans hl1),hl10.up (RInt.up _) (hle38.trans hl1),ho13.imm (RInt.up _) ((Le.refl _).trans hl1) hm1⟩
end
end Go.Lw
namespace Go.Lw
open Go.Proofs
attribute [local irreducible] RL RA
abbrev NPost (w:World) (s:Res) (os:List Res) (p:Nat) (v:Value) (n:Node):Ending→World→Prop:=Post w s os fun s' A r=>r=v∧∃ h,Nd s' A p h n
theorem Calls.lend {P:Program} {w:World} {s A:Res} {os:List Res} {f:FuncId} {args:Array Value} {Ψ:Value→Prop} (hg:Good w s (A::os)) (h:Calls P f args w (Post w (s.join A) os fun _ _ v=>Ψ v)):Calls P f args w (Post w s (A::os) fun _ _ v=>Ψ v) :=
 h.mono fun e w' he=>by
  obtain⟨v,s',B,rfl,hle,hg',hax,hv⟩:=he
  have hA:Le A s':=(Res.le_join_right hg.2.1.symm).trans hle
  have hu:=(hg'.unshare hA).front 1 rfl
  refine⟨v,_,B,rfl,fun b x hb=>?_,hu,hax,hv⟩
  cases hr:A b with
  | some y =>
   have:=hg.2.1 b (by rw[hr];simp)
   rw[hb] at this;cases this
  | none =>
   simp only
   exact hle b x (Res.le_join_left _ _ b x hb)
abbrev MPost (w:World) (s:Res) (os:List Res) (p:Nat) (h:Hd) (v:Value) (n:Node):Ending→World→Prop:=Post w s os fun s' A r=>r=v∧∃ a c,Nd s' A p { h with ma:=a,mc:=c } n
section
variable {w:World} {s A:Res} {os:List Res} {p:Nat} {h:Hd} {n:Node}
theorem follow_ct {term leader:Int} (hg:Good w s (A::os)) (nd:Nd s A p h n) :
  Calls Tryz.prog 73 #[ptr p,u64 term,i64 leader] w (NPost w s os p (.tuple #[]) (n.follow term leader)):=by
 refine enter (l:=[ptr p,u64 term,i64 leader]) Tryz.func73 rfl Tryz.ntmps73 rfl ?_
 refine go 12 ?_
 refine CW.cond rfl (fun h13=>?_) (fun h13=>?_)
 ·
  refine go 8 ?_
  refine RL.sI (p:=p) (i:=0) (j:=1) hg (nd.cells) (NRest.wTerm nd.rest) ?_
  rintro w1 A1 (hg1:Good _ s (A1::os)) hax1 nd1
  refine go 5 ?_
  refine RL.sI (p:=p) (i:=0) (j:=2) hg1 (nd1.cells) (NRest.wVote nd1.rest) ?_
  rintro w2 A2 (hg2:Good _ s (A2::os)) hax2 nd2
  refine go 10 ?_
  refine RL.sI (p:=p) (i:=0) (j:=10) hg2 (nd2.cells) (NRest.wRole nd2.rest) ?_
  rintro w3 A3 (hg3:Good _ s (A3::os)) hax3 nd3
  refine go 4 ?_
  refine RL.sI (p:=p) (i:=0) (j:=11) hg3 (nd3.cells) (NRest.wLeader nd3.rest) ?_
  rintro w4 A4 (hg4:Good _ s (A4::os)) hax4 nd4
  refine go 10 ?_
  refine RL.sN (p:=p) (i:=0) (j:=12) (h1:=_) (n1:=_) hg4 (nd4.cells) (nd4.rest.noBallots) ?_
  rintro w5 A5 (hg5:Good _ s (A5::os)) hax5 nd5
  refine go 4 ?_
  refine RL.sN (p:=p) (i:=0) (j:=13) (h1:=_) (n1:=_) hg5 (nd5.cells) (nd5.rest.noPeers) ?_
  rintro w6 A6 (hg6:Good _ s (A6::os)) hax6 nd6
  refine go 4 ?_
  refine RL.sI (p:=p) (i:=0) (j:=15) hg6 (nd6.cells) (NRest.wBeat nd6.rest) ?_
  rintro w7 A7 (hg7:Good _ s (A7::os)) hax7 nd7
  refine go 4 ?_
  refine RL.sI (p:=p) (i:=0) (j:=16) hg7 (nd7.cells) (NRest.wTransfer nd7.rest) ?_
  rintro w8 A8 (hg8:Good _ s (A8::os)) hax8 nd8
  refine go 2 ?_
  refine fall (vs:=[]) rfl ?_
  refine Post.mq hg8 ⟨rfl,_,nd8.to ?_⟩
  simp only[decide_eq_true_eq,decide_eq_false_iff_not,gt_iff_lt] at h13
  simp[Node.follow,Node.wTerm,Node.wVote,Node.wRole,Node.wLeader,Node.wBallots,Node.wPeers,Node.wBeat,Node.wTransfer,h13]
 ·
  refine go 9 ?_
  refine RL.sI (p:=p) (i:=0) (j:=10) hg (nd.cells) (NRest.wRole nd.rest) ?_
  rintro w9 A9 (hg9:Good _ s (A9::os)) hax9 nd9
  refine go 4 ?_
  refine RL.sI (p:=p) (i:=0) (j:=11) hg9 (nd9.cells) (NRest.wLeader nd9.rest) ?_
  rintro w10 A10 (hg10:Good _ s (A10::os)) hax10 nd10
  refine go 10 ?_
  refine RL.sN (p:=p) (i:=0) (j:=12) (h1:=_) (n1:=_) hg10 (nd10.cells) (nd10.rest.noBallots) ?_
  rintro w11 A11 (hg11:Good _ s (A11::os)) hax11 nd11
  refine go 4 ?_
  refine RL.sN (p:=p) (i:=0) (j:=13) (h1:=_) (n1:=_) hg11 (nd11.cells) (nd11.rest.noPeers) ?_
  rintro w12 A12 (hg12:Good _ s (A12::os)) hax12 nd12
  refine go 4 ?_
  refine RL.sI (p:=p) (i:=0) (j:=15) hg12 (nd12.cells) (NRest.wBeat nd12.rest) ?_
  rintro w13 A13 (hg13:Good _ s (A13::os)) hax13 nd13
  refine go 4 ?_
  refine RL.sI (p:=p) (i:=0) (j:=16) hg13 (nd13.cells) (NRest.wTransfer nd13.rest) ?_
  rintro w14 A14 (hg14:Good _ s (A14::os)) hax14 nd14
  refine go 2 ?_
  refine fall (vs:=[]) rfl ?_
  refine Post.mq hg14 ⟨rfl,_,nd14.to ?_⟩
  simp only[decide_eq_true_eq,decide_eq_false_iff_not,gt_iff_lt] at h13
  simp[Node.follow,Node.wTerm,Node.wVote,Node.wRole,Node.wLeader,Node.wBallots,Node.wPeers,Node.wBeat,Node.wTransfer,h13]
theorem Nd.at_ (nd:Nd s A p h n) (hR:NRng n):LogAt A s n.s.log h:=nd.log hR.2.2.2.2.1 hR.2.2.2.2.2
theorem last_ct (hg:Good w s (A::os)) (nd:Nd s A p h n) (hR:NRng n) :
  Calls Tryz.prog 77 #[ptr p] w (PostV w s (A::os) fun q=>q=u64 n.last):=by
 refine enter (l:=[ptr p]) Tryz.func77 rfl Tryz.ntmps77 rfl ?_
 refine go 12 ?_
 refine zw (Last_ct hg (.inr (by simp)) (nd.at_ hR)) ?_
 rintro v15 w15 (hg15:Good _ s (A::os)) hax15 rfl
 refine go 12 ?_
 refine CW.ret (zr1 ?_)
 exact PostV.mq hg15 rfl
theorem voters_ct (hg:Good w s (A::os)) (nd:Nd s A p h n) (hR:NRng n) (hS:n.s.log.small) :
  Calls Tryz.prog 99 #[ptr p] w (Post w s (A::os) fun s' _ q=>∃ a c,q = .slice a n.voters.length c∧Ints s' a c n.voters):=by
 refine enter (l:=[ptr p]) Tryz.func99 rfl Tryz.ntmps99 rfl ?_
 refine go 12 ?_
 refine zc (Conf_ct hg (.inr (by simp)) (nd.at_ hR) hS) ?_
 rintro v16 s16 B16 w16 hle16 (hg16:Good _ s16 (B16::A::os)) hax16 ⟨vs11,rfl,hC⟩
 have hg16:=hg16.drop
 have nd17:=nd.up hle16
 obtain⟨va,vc,la,lc,rfl,hva,hla⟩:=hC
 refine go 5 ?_
 rintro b18 w18 Q18 (hg18:Good _ s16 (Q18::A::os)) hax18 hb18
 refine go 2 ?_
 rintro w19 Q19 (hg19:Good _ s16 (Q19::A::os)) hax19 hb19
 refine go 9 ?_
 refine CW.ret (zr1 ?_)
 exact Post.mq hg19 ⟨_,_,rfl,hva⟩
theorem votes_ct (hg:Good w s (A::os)) (nd:Nd s A p h n) (hR:NRng n) (hS:n.s.log.small) :
  Calls Tryz.prog 67 #[ptr p] w (Post w s (A::os) fun _ _ q=>q = .bool n.votes):=by
 refine enter (l:=[ptr p]) Tryz.func67 rfl Tryz.ntmps67 rfl ?_
 refine go 5 ?_
 have hg20:=hg.drew
 refine CW.dw [1,5,7,9,11,13,2,14,16] (fun w=>At1 p _ w∧True) ?_
 refine go 7 ?_
 refine zc (voters_ct hg20 nd hR hS) ?_
 rintro v21 s21 B21 w21 hle21 (hg21:Good _ s21 (B21::A::os)) hax21 ⟨va,vc,rfl,hv⟩
 have hg21:=hg21.drop
 have nd22:=nd.up hle21
 refine go 2 ?_
 refine zw (Contains_ct hg21 hv) ?_
 rintro v23 w23 (hg23:Good _ s21 (A::os)) hax23 rfl
 refine go 3 ?_
 refine CW.ret (zr1 ?_)
 exact Post.mq hg23.nil rfl
theorem post_ct {m:Msg} {y:Lay} (hg:Good w s (A::os)) (nd:Nd s A p h n) (hR:NRng n) (hm:MsgOk s m y) (hb:n.o.msgs.length≤68719476736) :
  Calls Tryz.prog 113 #[ptr p,.agg (msgV m y).toArray] w (MPost w s os p h (.tuple #[]) (n.post m)):=by
 refine enter (l:=[ptr p,.agg (msgV m y).toArray]) Tryz.func113 rfl Tryz.ntmps113 rfl ?_
 refine go 3 ?_
 rintro b24 w24 Q24 (hg24:Good _ s (Q24::A::os)) hax24 hb24
 refine go 11 ?_
 rintro w25 Q25 (hg25:Good _ s (Q25::A::os)) hax25 hb25
 refine go 9 ?_
 refine CW.cond rfl (fun h12=>?_) (fun h12=>?_)
 ·
  have hif:(if m.term=0 then n.s.hard.term else m.term)=n.s.hard.term:=if_pos (by simpa using h12)
  have hmo:MsgOk s { m with frm:=n.s.id,term:=n.s.hard.term } y:={ hm with frm:=hR.1,term:=hR.2.1 }
  refine go 9 ?_
  rintro w26 Q26 (hg26:Good _ s (Q26::A::os)) hax26 hb26
  refine go 2 ?_
  have hg27:=hg26.drew
  refine CW.dx [1,3,5,7,9,11,13,14,16,19,21,23] [24] 12 1 (fun w=>At1 p _ w∧At1 b24 _ w∧True) ?_
  refine go 8 ?_
  rintro b28 w28 Q28 (hg28:Good _ s (Q28::Q26::A::os)) hax28 hb28
  refine go 1 ?_
  refine RL.append2 (i:=2) (ys:=[_]) rfl rfl rfl rfl sl48.out ze56.out rfl RMsg.one rfl rfl hg28 rfl nd.msgs (one_src sl48.out rfl hb28 (hg28.mem (by simp))) (Chunks.single rfl ⟨y,rfl,hmo⟩) ((by simp only[List.length_singleton];omega)) (by omega) ?_
  rintro a29 c29 A29 w29 (hg29:Good _ s (Q28::Q26::A29::os)) ho29 hax29 hk29 hn29
  obtain⟨hp29,hr29⟩:=nd.appMsgs ho29 hk29
  refine go 6 ?_
  refine RL.sN (p:=p) (i:=2) (j:=24) hg29 (hp29) (hr29) ?_
  rintro w30 A30 (hg30:Good _ s (Q28::Q26::A30::os)) hax30 nd30
  refine go 2 ?_
  refine fall (vs:=[]) rfl ?_
  refine Post.mq (((hg30.front 2 rfl).dropNext).dropNext) ⟨rfl,_,_,nd30.to ?_⟩
  simp only[Node.post,Node.send,Node.wMsgs,hif]
 ·
  have hif:(if m.term=0 then n.s.hard.term else m.term)=m.term:=if_neg (by simpa using h12)
  have hmo:MsgOk s { m with frm:=n.s.id } y:={ hm with frm:=hR.1 }
  refine go 1 ?_
  have hg31:=hg25.drew
  refine CW.dx [1,3,5,7,9,11,13,14,16,19,21,23] [24] 12 1 (fun w=>At1 p _ w∧At1 b24 _ w∧True) ?_
  refine go 8 ?_
  rintro b32 w32 Q32 (hg32:Good _ s (Q32::Q25::A::os)) hax32 hb32
  refine go 1 ?_
  refine RL.append2 (i:=2) (ys:=[_]) rfl rfl rfl rfl sl48.out ze56.out rfl RMsg.one rfl rfl hg32 rfl nd.msgs (one_src sl48.out rfl hb32 (hg32.mem (by simp))) (Chunks.single rfl ⟨y,rfl,hmo⟩) ((by simp only[List.length_singleton];omega)) (by omega) ?_
  rintro a33 c33 A33 w33 (hg33:Good _ s (Q32::Q25::A33::os)) ho33 hax33 hk33 hn33
  obtain⟨hp33,hr33⟩:=nd.appMsgs ho33 hk33
  refine go 6 ?_
  refine RL.sN (p:=p) (i:=2) (j:=24) hg33 (hp33) (hr33) ?_
  rintro w34 A34 (hg34:Good _ s (Q32::Q25::A34::os)) hax34 nd34
  refine go 2 ?_
  refine fall (vs:=[]) rfl ?_
  refine Post.mq (((hg34.front 2 rfl).dropNext).dropNext) ⟨rfl,_,_,nd34.to ?_⟩
  simp only[Node.post,Node.send,Node.wMsgs,hif]
theorem ballot_ct {frm:Int} {yes:Bool} (hg:Good w s (A::os)) (nd:Nd s A p h n) (hR:NRng n) (hS:n.s.log.small) (hf:rng .i64 frm) (hb:n.s.ballots.length≤68719476736) (hv:n.voters.length≤1073741824) :
  Calls Tryz.prog 128 #[ptr p,i64 frm,.bool yes] w (NPost w s os p (i64 (n.addBallot frm yes).tally) (n.addBallot frm yes)):=by
 refine enter (l:=[ptr p,i64 frm,.bool yes]) Tryz.func128 rfl Tryz.ntmps128 rfl ?_
 refine go 16 ?_
 rintro b35 w35 Q35 (hg35:Good _ s (Q35::A::os)) hax35 hb35
 refine go 1 ?_
 refine RL.append2 (i:=1) (ys:=[(frm,yes)]) rfl rfl rfl rfl sl39.out ze133.out rfl RBallot.one rfl rfl hg35 rfl nd.ballots (one_src sl39.out rfl hb35 (hg35.mem (by simp))) (Chunks.single rfl ⟨rfl,hf⟩) ((by simp only[List.length_singleton];omega)) (by omega) ?_
 rintro a36 c36 A36 w36 (hg36:Good _ s (Q35::A36::os)) ho36 hax36 hk36 hn36
 obtain⟨hp36,hr36⟩:=nd.appBallots ho36 hk36
 refine go 4 ?_
 refine RL.sN (p:=p) (i:=1) (j:=12) hg36 (hp36) (hr36) ?_
 rintro w37 A37 (hg37:Good _ s (Q35::A37::os)) hax37 nd37
 refine go 3 ?_
 have hg38:=hg37.drew
 refine CW.dw [1,5,7,9,11,13,2,14,16] (fun w=>At1 p _ w∧True) ?_
 refine go 7 ?_
 refine zc (voters_ct ((hg38.front 1 rfl).dropNext) nd37 hR hS) ?_
 rintro v39 s39 B39 w39 hle39 (hg39:Good _ s39 (B39::A37::os)) hax39 ⟨va,vc,rfl,hvo⟩
 have hg39:=hg39.drop
 have nd40:=nd37.up hle39
 refine go 1 ?_
 have hbl:=nd40.ballots.lies
 obtain⟨hL1,hL2,hL3,hL4⟩:=hg39.lend
 refine go 1 ?_
 refine zc (Calls.lend hg39 (Tally_ct hL1 (hvo.up (RInt.up _) hL2) (nd40.ballots.imm RBallot.up hL2 hL3) (by show n.voters.length*8≤_;omega))) ?_
 rintro v41 s41 B41 w41 hle41 (hg41:Good _ s41 (B41::A37::os)) hax41 rfl
 have hg41:=hg41.drop
 have nd42:=nd40.up hle41
 refine go 3 ?_
 refine CW.ret (zr1 ?_)
 exact Post.mq hg41 ⟨rfl,_,nd42⟩
end
end Go.Lw
namespace Go.Lw
open Go.Proofs
attribute [local irreducible] RL RA
section
variable {w:World} {s A:Res} {os:List Res} {p:Nat} {h:Hd} {n:Node}
theorem NRng.of (hR:NRng n) {m:Node} (h1:m.s.id=n.s.id) (h2:rng .u64 m.s.hard.term) (h3:rng .i64 m.s.hard.vote) (h4:rng .u64 m.s.hard.commit) (h5:m.s.log.base=n.s.log.base):NRng m :=
 ⟨h1▸hR.1,h2,h3,h4,h5▸hR.2.2.2.2.1,h5▸hR.2.2.2.2.2⟩
theorem runs_ct {role:Int} (hg:Good w s (A::os)) (nd:Nd s A p h n) (hR:NRng n) (hS:n.s.log.small) (hv:n.voters.length≤1073741824) :
  Calls Tryz.prog 100 #[ptr p,i64 role] w (NPost w s os p (i64 (n.runs role).tally) (n.runs role)):=by
 refine enter (l:=[ptr p,i64 role]) Tryz.func100 rfl Tryz.ntmps100 rfl ?_
 refine go 15 ?_
 refine RL.sI (p:=p) (i:=0) (j:=10) hg (nd.cells) (NRest.wRole nd.rest) ?_
 rintro w1 A1 (hg1:Good _ s (A1::os)) hax1 nd1
 refine go 4 ?_
 refine RL.sI (p:=p) (i:=0) (j:=11) hg1 (nd1.cells) (NRest.wLeader nd1.rest) ?_
 rintro w2 A2 (hg2:Good _ s (A2::os)) hax2 nd2
 refine go 4 ?_
 refine RL.sI (p:=p) (i:=0) (j:=14) hg2 (nd2.cells) (NRest.wElapsed nd2.rest) ?_
 rintro w3 A3 (hg3:Good _ s (A3::os)) hax3 nd3
 refine go 4 ?_
 refine RL.sI (p:=p) (i:=0) (j:=16) hg3 (nd3.cells) (NRest.wTransfer nd3.rest) ?_
 rintro w4 A4 (hg4:Good _ s (A4::os)) hax4 nd4
 refine go 4 ?_
 refine RL.sN (p:=p) (i:=0) (j:=13) (h1:=_) (n1:=_) hg4 (nd4.cells) (nd4.rest.noPeers) ?_
 rintro w5 A5 (hg5:Good _ s (A5::os)) hax5 nd5
 refine go 8 ?_
 refine RL.sN (p:=p) (i:=0) (j:=12) (h1:=_) (n1:=_) hg5 (nd5.cells) (nd5.rest.noBallots) ?_
 rintro w6 A6 (hg6:Good _ s (A6::os)) hax6 nd6
 refine go 11 ?_
 refine zc (ballot_ct hg6 nd6 (hR.of rfl hR.2.1 hR.2.2.1 hR.2.2.2.1 rfl) hS hR.1 (by simp[Node.wBallots]) hv) ?_
 rintro v7 s7 A7 w7 hle7 (hg7:Good _ s7 (A7::os)) hax7 ⟨rfl,h7,nd7⟩
 refine go 3 ?_
 refine CW.ret (zr1 ?_)
 exact Post.mq hg7 ⟨rfl,_,nd7.to rfl⟩
theorem piece_ct {to frm:Int} (hg:Good w s (A::os)) (nd:Nd s A p h n) (hR:NRng n) (hS:n.s.log.base.small) (hto:rng .i64 to) (hf:rng .u64 frm) (hb:n.o.msgs.length≤68719476736) :
  Calls Tryz.prog 130 #[ptr p,i64 to,u64 frm] w (MPost w s os p h (.tuple #[]) (n.piece to frm)):=by
 refine enter (l:=[ptr p,i64 to,u64 frm]) Tryz.func130 rfl Tryz.ntmps130 rfl ?_
 refine go 10 ?_
 refine zc (Piece_ct hg hS hR.2.2.2.2.1 hR.2.2.2.2.2 nd.rest.1 nd.rest.2.1 nd.rest.2.2.1 hf) ?_
 rintro v8 s8 B8 w8 hle8 (hg8:Good _ s8 (B8::A::os)) hax8 ⟨y,rfl,hmk⟩
 have hg8:=hg8.drop
 have nd9:=nd.up hle8
 refine go 5 ?_
 rintro b10 w10 Q10 (hg10:Good _ s8 (Q10::A::os)) hax10 hb10
 refine go 2 ?_
 rintro w11 Q11 (hg11:Good _ s8 (Q11::A::os)) hax11 hb11
 refine go 8 ?_
 refine CW.cond rfl (fun h20=>?_) (fun h20=>?_)
 ·
  refine go 5 ?_
  rintro w12 Q12 (hg12:Good _ s8 (Q12::A::os)) hax12 hb12
  refine go 6 ?_
  refine zc (post_ct (hg12.front 1 rfl) nd9 hR (m:={ (pieceP n.s.log.base frm).1 with to:=to }) (y:=y) { hmk with to:=hto } hb) ?_
  rintro v13 s13 A13 w13 hle13 (hg13:Good _ s13 (A13::Q12::os)) hax13 ⟨rfl,ma13,mc13,nd13⟩
  refine go 2 ?_
  refine fall (vs:=[]) rfl ?_
  refine Post.mq (hg13.dropNext) ⟨rfl,_,_,nd13.to ?_⟩
  simp only[Node.piece,if_pos (show (pieceP n.s.log.base frm).2=0 by simpa using h20)]
 ·
  refine go 1 ?_
  refine fall (vs:=[]) rfl ?_
  refine Post.mq ((hg11.front 1 rfl).dropNext) ⟨rfl,_,_,nd9.to ?_⟩
  simp only[Node.piece,if_neg (show ¬ (pieceP n.s.log.base frm).2=0 by simpa using h20)]
theorem Lies.all {α:Type} {R:Res→List Value→α→Prop} {sz c:Nat} {r s:Res} {a:Option Addr} {xs:List α} (h:Lies R sz r s a c xs):∀ x∈xs,∃ vs,R s vs x:=by
 intro x hx
 rcases h.2.2 with rfl | ⟨ad,rfl,hr⟩
 ·
  cases hx
 ·
  obtain⟨i,hi,rfl⟩:=List.getElem_of_mem hx
  obtain⟨vs,_,_,hR⟩:=hr.get (List.getElem?_eq_getElem hi)
  exact⟨vs,hR⟩
theorem LogAt.entry {r:Res} {l:Log} (hl:LogAt r s l h) {e:Entry} (he:e∈l.entries):rng .u64 e.index∧rng .u64 e.term∧rng .i64 e.kind:=by
 obtain⟨vs,ea,ec,ea1,ec1,ea2,ec2,_,h1,h2,h3,_⟩:=hl.entries.all e he
 exact⟨h1,h2,h3⟩
theorem LogAt.term_rng {r:Res} {l:Log} (hl:LogAt r s l h) (i:Int):rng .u64 (termP l i).1:=by
 unfold termP
 split
 ·
  exact hl.term
 ·
  split
  ·
   rename_i e he
   split
   ·
    exact (hl.entry (List.mem_of_getElem? he)).2.1
   ·
    simp[rng]
  ·
   simp[rng]
theorem LogAt.last_rng {r:Res} {l:Log} (hl:LogAt r s l h):rng .u64 (lastP l).1∧rng .u64 (lastP l).2:=by
 unfold lastP
 split
 ·
  rename_i e he
  have:=hl.entry (List.mem_of_getLast? he)
  exact⟨this.1,this.2.1⟩
 ·
  exact⟨hl.index,hl.term⟩
theorem NRng.of_s (hR:NRng n) {m:Node} (e:m.s=n.s):NRng m:=by
 unfold NRng at *;rw[e];exact hR
theorem Node.piece_s (n:Node) (to frm:Int):(n.piece to frm).s=n.s:=by unfold Node.piece;split<;>rfl
theorem Node.feed_s (n:Node) (q:Peer):(n.feed q).s=n.s:=by
 unfold Node.feed
 split
 ·
  exact Node.piece_s n _ _
 ·
  rfl
theorem Node.feeds_s (l:List Peer):∀ n:Node,(n.feeds l).s=n.s:=by
 induction l with
 | nil=>intro n;rfl
 | cons q l ih=>intro n;show ((n.feed q).feeds l).s=_;rw[ih,Node.feed_s]
theorem Node.feeds_snoc (l:List Peer) (q:Peer):∀ n:Node,n.feeds (l++[q])=(n.feeds l).feed q:=by
 induction l with
 | nil=>intro n;rfl
 | cons x l ih=>intro n;exact ih (n.feed x)
theorem Node.feed_len (n:Node) (q:Peer):(n.feed q).o.msgs.length≤n.o.msgs.length+1:=by
 unfold Node.feed
 split
 ·
  unfold Node.piece
  split
  ·
   simp[Node.post,Node.send]
  ·
   omega
 ·
  simp[Node.post,Node.send]
theorem Node.feeds_len (l:List Peer):∀ n:Node,(n.feeds l).o.msgs.length≤n.o.msgs.length+l.length:=by
 induction l with
 | nil=>intro n;exact Nat.le_refl _
 | cons q l ih =>
  intro n
  have h1:=ih (n.feed q)
  have h2:=Node.feed_len n q
  show ((n.feed q).feeds l).o.msgs.length≤_
  rw[List.length_cons];omega
theorem Log.small.base {l:Log} (h:l.small):l.base.small:=⟨h.1,by have:=h.2.1;omega⟩
theorem feed_ct {q:Peer} (hg:Good w s (A::os)) (nd:Nd s A p h n) (hR:NRng n) (hS:n.s.log.small) (hq1:rng .i64 q.node) (hq2:rng .u64 q.next) (hb:n.o.msgs.length≤68719476736) :
  Calls Tryz.prog 103 #[ptr p,.agg #[i64 q.node,u64 q.next,u64 q.mat]] w (MPost w s os p h (.tuple #[]) (n.feed q)):=by
 have hbr:=hR.2.2.2.2.1
 have hq2':=hq2
 simp only[rng] at hbr hq2'
 refine enter (l:=[ptr p,.agg #[i64 q.node,u64 q.next,u64 q.mat]]) Tryz.func103 rfl Tryz.ntmps103 rfl ?_
 refine go 3 ?_
 rintro b14 w14 Q14 (hg14:Good _ s (Q14::A::os)) hax14 hb14
 refine go 4 ?_
 have hg15:=hg14.drew
 refine CW.dw [1,3,5,7,9,11,13,15,17,19] (fun w=>At1 b14 _ w∧At1 p _ w∧True) ?_
 refine go 11 ?_
 refine CW.cond rfl (fun h17=>?_) (fun h17=>?_)
 ·
  refine go 6 ?_
  refine zc (piece_ct (hg15.front 1 rfl) nd hR (Log.small.base hS) hq1 (by simp[rng]) hb) ?_
  rintro v16 s16 A16 w16 hle16 (hg16:Good _ s16 (A16::Q14::os)) hax16 ⟨rfl,ma16,mc16,nd16⟩
  refine go 2 ?_
  refine CW.ret (zr0 ?_)
  refine Post.mq (hg16.dropNext) ⟨rfl,_,_,nd16.to ?_⟩
  simp only[Node.feed,if_pos (decide_t h17)]
 ·
  refine go 2 ?_
  have hg17:=hg15.drew
  refine CW.dw [1,3,5,7,9,11,13,15,16,19,21,23,24,26] (fun w=>At1 p _ w∧At1 b14 _ w∧True) ?_
  refine go 7 ?_
  have hlt:=decide_f h17
  refine go 2 ?_
  refine zw (Term_ct hg17 (.inr (by simp)) (nd.at_ hR) (by have:=hS.2.2.2;omega)) ?_
  rintro v18 w18 (hg18:Good _ s (Q14::A::os)) hax18 rfl
  refine go 8 ?_
  have hg19:=hg18.drew
  refine CW.dw [1,3,5,7,9,11,13,14,17,19,21,22,24] (fun w=>At1 p _ w∧At1 b14 _ w∧True) ?_
  refine go 8 ?_
  refine zc (Slice_ct hg19 (.inr (by simp)) (nd.at_ hR) hS hq2 (by simp[rng])) ?_
  rintro v20 s20 B20 w20 hle20 (hg20:Good _ s20 (B20::Q14::A::os)) hax20 ⟨a42,c42,rfl,ho42⟩
  have nd21:=nd.up hle20
  obtain⟨t20,hgl20,hll20,hml20⟩:=hg20.letgo
  have hg20:Good _ t20 (Q14::A::os):=hgl20
  have nd22:=nd21.up hll20
  have hI42:=ho42.imm REntry.up hll20 hml20
  refine go 7 ?_
  have hg23:=hg20.drew
  refine CW.dx [1,3,5,7,9,11,13,15,17,19,21,23,25,27,29] [30] 15 1 (fun w=>At1 b14 _ w∧At1 p _ w∧True) ?_
  refine go 17 ?_
  have htr:=(nd22.at_ hR).term_rng (q.next-1)
  refine go 1 ?_
  refine zc (post_ct (hg23.front 1 rfl) nd22 hR (m:={ Msg.zero with kind:=5,to:=q.node,index:=q.next-1,logTerm:=(termP n.s.log (q.next-1)).1,entries:=(sliceP n.s.log q.next 8).1,commit:=n.s.hard.commit }) (y:={ Lay.none with ea:=a42,ec:=c42 }) { MsgOk.zero _ with kind:=by simp[rng],to:=hq1,index:=by simp only[rng];omega,logTerm:=htr,entries:=hI42,commit:=hR.2.2.2.1 } hb) ?_
  rintro v24 s24 A24 w24 hle24 (hg24:Good _ s24 (A24::Q14::os)) hax24 ⟨rfl,ma24,mc24,nd24⟩
  refine go 2 ?_
  refine fall (vs:=[]) rfl ?_
  refine Post.mk (hle20.trans (hll20.trans hle24)) (hg24.dropNext) (hax14.trans ((Aux.drew _).trans ((Aux.drew _).trans (hax18.trans ((Aux.drew _).trans (hax20.trans ((Aux.drew _).trans hax24))))))) ⟨rfl,_,_,nd24.to ?_⟩
  simp only[Node.feed,if_neg (decide_f h17)]
theorem spread_ct (hg:Good w s (A::os)) (nd:Nd s A p h n) (hR:NRng n) (hS:n.s.log.small) (hb:n.o.msgs.length+n.s.peers.length≤68719476736) :
  Calls Tryz.prog 69 #[ptr p] w (MPost w s os p h (.tuple #[]) n.spread):=by
 have hlen:=nd.peers.le_max
 simp only[maxLen] at hlen
 refine enter (l:=[ptr p]) Tryz.func69 rfl Tryz.ntmps69 rfl ?_
 refine go 11 ?_
 refine CW.loop (σ:=Nat) (fun j E w'=>∃ s' A' ma mc m,∃ k:Nat,Good w' s' (A'::os)∧Le s s'∧Aux w w'∧Nd s' A' p { h with ma:=ma,mc:=mc } m∧m=n.feeds (n.s.peers.take k)∧E=[(0,ptr p),(8,.slice h.pa n.s.peers.length h.pc),(9,i64 n.s.peers.length),(10,i64 k)]∧k+j=n.s.peers.length) (fun j=>j) n.s.peers.length [(0,ptr p),(8,.slice h.pa n.s.peers.length h.pc),(9,i64 n.s.peers.length),(10,i64 0)] ⟨rfl,rfl,rfl,rfl,trivial⟩ ⟨s,A,h.ma,h.mc,n,0,hg,Le.refl _,(Aux.refl _),nd,by simp[Node.feeds],rfl,by omega⟩ ?_
 rintro j E wL ⟨sL,AL,maL,mcL,m,k,hgL,hleL,haxL,ndL,hm,rfl,hk⟩
 have hms:m.s=n.s:=by rw[hm];exact Node.feeds_s _ _
 have hRm:=hR.of_s hms
 have hml:m.o.msgs.length≤n.o.msgs.length+k:=by have:=Node.feeds_len (n.s.peers.take k) n;rw[←hm,List.length_take] at this;omega
 have hpL:Lies RPeer 3 AL sL h.pa h.pc n.s.peers:=by have:=ndL.peers.lies;rwa[hms] at this
 refine go 5 ?_
 refine CW.cond rfl (fun h11=>?_) (fun h11=>?_)
 ·
  refine go 5 ?_
  have hlt:k<n.s.peers.length:=by have:=decide_t h11;omega
  refine RL.idxL rfl rfl rfl rfl sl40.out rfl rfl hpL (by omega) (by omega) ?_
  rintro q vs hvl hH hE
  obtain⟨rfl,er1,er2,er3⟩:=hE
  refine RL.loads (j:=0) (us:=_) rfl rfl rfl rfl ty136.out rfl (hH) (hgL.mem (by simp)) rfl rfl ?_
  refine go 1 ?_
  rintro b25 w25 Q25 (hg25:Good _ sL (Q25::AL::os)) hax25 hb25
  refine go 2 ?_
  rintro w26 Q26 (hg26:Good _ sL (Q26::AL::os)) hax26 hb26
  refine go 6 ?_
  refine zc (feed_ct (hg26.front 1 rfl) ndL hRm (by rw[hms];exact hS) er1 er2 (by omega)) ?_
  rintro v27 s27 A27 w27 hle27 (hg27:Good _ s27 (A27::Q26::os)) hax27 ⟨rfl,ma27,mc27,nd27⟩
  refine go 6 ?_
  cases j with
  | zero=>omega
  | succ j =>
   refine fun ac ha=>⟨j,[(0,ptr p),(8,.slice h.pa n.s.peers.length h.pc),(9,i64 n.s.peers.length),(10,i64 ((k:Int)+1))],ha.sub ⟨rfl,rfl,rfl,rfl,trivial⟩,⟨_,_,_,_,_,k+1,(hg27.dropNext),(hleL.trans hle27),(haxL.trans (hax25.trans (hax26.trans hax27))),nd27,?_,rfl,by omega⟩,Nat.lt_succ_self j⟩
   rw[List.take_succ_eq_append_getElem hlt,Node.feeds_snoc,← hm];rfl
 ·
  refine go 1 ?_
  refine fall (vs:=[]) rfl ?_
  have hke:k=n.s.peers.length:=by have:=decide_f h11;omega
  refine Post.mq hgL ⟨rfl,_,_,ndL.to ?_⟩
  rw[hm,hke,List.take_length];rfl
end
end Go.Lw
namespace Go.Lw
open Go.Proofs
attribute [local irreducible] RL RA
section
variable {w:World} {s A:Res} {os:List Res} {p:Nat} {h:Hd} {n:Node}
def Node.asks (n:Node) (kind term to:Int):Msg:={ Msg.zero with kind:=kind,frm:=n.s.id,to:=to,term:=term,index:=(lastP n.s.log).1,logTerm:=(lastP n.s.log).2 }
theorem questions_yes {kind term:Int} {l:List Int} {v:Int} (hv:v≠n.s.id):n.questions kind term (l++[v])=n.questions kind term l++[n.asks kind term v]:=by
 simp[Node.questions,Node.asks,hv]
theorem questions_no {kind term:Int} {l:List Int} {v:Int} (hv:v=n.s.id):n.questions kind term (l++[v])=n.questions kind term l:=by
 simp[Node.questions,hv]
theorem questions_len (kind term:Int) (l:List Int):(n.questions kind term l).length≤l.length:=by
 simp only[Node.questions,List.length_map];exact List.length_filter_le _ _
theorem asks_ok {kind term to:Int} (nd:Nd s A p h n) (hR:NRng n) (hk:rng .i64 kind) (ht:rng .u64 term) (hto:rng .i64 to) (s':Res):MsgOk s' (n.asks kind term to) Lay.none:=by
 have h1:=(nd.at_ hR).last_rng
 exact { MsgOk.zero s' with kind:=hk,frm:=hR.1,to:=hto,term:=ht,index:=h1.1,logTerm:=h1.2 }
theorem question_ct {kind term:Int} (hg:Good w s (A::os)) (nd:Nd s A p h n) (hR:NRng n) (hS:n.s.log.small) (hk:rng .i64 kind) (ht:rng .u64 term) (hv:n.voters.length≤1073741824) (hb:n.o.msgs.length≤34359738368) :
  Calls Tryz.prog 102 #[ptr p,i64 kind,u64 term] w (MPost w s os p h (.tuple #[]) (n.question kind term)):=by
 refine enter (l:=[ptr p,i64 kind,u64 term]) Tryz.func102 rfl Tryz.ntmps102 rfl ?_
 refine go 8 ?_
 refine zw (Last_ct hg (.inr (by simp)) (nd.at_ hR)) ?_
 rintro v1 w1 (hg1:Good _ s (A::os)) hax1 rfl
 refine go 11 ?_
 refine zc (voters_ct hg1 nd hR hS) ?_
 rintro v2 s2 B2 w2 hle2 (hg2:Good _ s2 (B2::A::os)) hax2 ⟨va,vc,rfl,hvo⟩
 have hg2:=hg2.drop
 have nd3:=nd.up hle2
 refine go 5 ?_
 refine CW.loop (σ:=Nat) (fun j E w'=>∃ A' ma mc m,∃ k:Nat,Good w' s2 (A'::os)∧Aux w w'∧Nd s2 A' p { h with ma:=ma,mc:=mc } m∧m={ n with o:={ n.o with msgs:=n.o.msgs++n.questions kind term (n.voters.take k) } }∧E=[(0,ptr p),(1,i64 kind),(2,u64 term),(6,u64 (lastP n.s.log).1),(7,u64 (lastP n.s.log).2),(20,.slice va n.voters.length vc),(21,i64 n.voters.length),(22,i64 k)]∧k+j=n.voters.length) (fun j=>j) n.voters.length
  [(0,ptr p),(1,i64 kind),(2,u64 term),(6,u64 (lastP n.s.log).1),(7,u64 (lastP n.s.log).2),(20,.slice va n.voters.length vc),(21,i64 n.voters.length),(22,i64 0)] ⟨rfl,rfl,rfl,rfl,rfl,rfl,rfl,rfl,trivial⟩ ⟨A,h.ma,h.mc,n,0,hg2,(hax1.trans hax2),nd3,by simp[Node.questions],rfl,by omega⟩ ?_
 rintro j E wL ⟨AL,maL,mcL,m,k,hgL,haxL,ndL,hm,rfl,hk'⟩
 have hid:m.s.id=n.s.id:=by rw[hm]
 have hml:m.o.msgs.length≤n.o.msgs.length+k:=by rw[hm];simp only[List.length_append];have:=questions_len (n:=n) kind term (n.voters.take k);rw[List.length_take] at this;omega
 refine go 5 ?_
 refine CW.cond rfl (fun h23=>?_) (fun h23=>?_)
 ·
  refine go 5 ?_
  have hlt:k<n.voters.length:=by have:=decide_t h23;omega
  refine RL.idx rfl rfl rfl rfl sl25.out rfl rfl hvo (by omega) (by omega) ?_
  rintro q vs hvl hH ⟨rfl,er1⟩
  refine RL.load (j:=0) rfl rfl rfl rfl ty3.out rfl (hH) (hgL.sh) rfl ?_
  refine go 12 ?_
  refine CW.cond rfl (fun h32=>?_) (fun h32=>?_)
  ·
   have hg4:=hgL.drew
   refine CW.dx [1,3,5,7,9,11,13,15,17,19,21,23,25,27,29,31,33,34,36,39,41,43] [44] 22 1 (fun w=>At1 p _ w∧True) ?_
   refine go 18 ?_
   rintro b5 w5 Q5 (hg5:Good _ s2 (Q5::AL::os)) hax5 hb5
   refine go 1 ?_
   refine RL.append2 (i:=1) (ys:=[n.asks kind term n.voters[k]]) rfl rfl rfl rfl sl48.out ze56.out rfl RMsg.one rfl rfl hg5 rfl ndL.msgs (one_src sl48.out rfl hb5 (hg5.mem (by simp))) (Chunks.single rfl ⟨Lay.none,by rw[hid];rfl,asks_ok nd hR hk ht er1 _⟩) ((by simp only[List.length_singleton];omega)) (by omega) ?_
   rintro a6 c6 A6 w6 (hg6:Good _ s2 (Q5::A6::os)) ho6 hax6 hk6 hn6
   obtain⟨hp6,hr6⟩:=ndL.appMsgs ho6 hk6
   refine go 6 ?_
   refine RL.sN (p:=p) (i:=1) (j:=24) hg6 (hp6) (hr6) ?_
   rintro w7 A7 (hg7:Good _ s2 (Q5::A7::os)) hax7 nd7
   refine go 6 ?_
   have hne:n.voters[k]≠n.s.id:=by rw[hid] at h32;simpa using h32
   cases j with
   | zero=>omega
   | succ j =>
    refine fun ac ha=>⟨j,[(0,ptr p),(1,i64 kind),(2,u64 term),(6,u64 (lastP n.s.log).1),(7,u64 (lastP n.s.log).2),(20,.slice va n.voters.length vc),(21,i64 n.voters.length),(22,i64 ((k:Int)+1))],ha.sub ⟨rfl,rfl,rfl,rfl,rfl,rfl,rfl,rfl,trivial⟩,⟨_,_,_,_,k+1,((hg7.front 1 rfl).dropNext),(haxL.trans ((Aux.drew _).trans (hax5.trans (hax6.trans hax7)))),nd7,?_,rfl,by omega⟩,Nat.lt_succ_self j⟩
    rw[List.take_succ_eq_append_getElem hlt,questions_yes hne,hm];simp[Node.wMsgs]
  ·
   refine go 5 ?_
   have hne:n.voters[k]=n.s.id:=by rw[hid] at h32;simpa using h32
   cases j with
   | zero=>omega
   | succ j =>
    refine fun ac ha=>⟨j,[(0,ptr p),(1,i64 kind),(2,u64 term),(6,u64 (lastP n.s.log).1),(7,u64 (lastP n.s.log).2),(20,.slice va n.voters.length vc),(21,i64 n.voters.length),(22,i64 ((k:Int)+1))],ha.sub ⟨rfl,rfl,rfl,rfl,rfl,rfl,rfl,rfl,trivial⟩,⟨_,_,_,_,k+1,hgL,haxL,ndL,?_,rfl,by omega⟩,Nat.lt_succ_self j⟩
    rw[List.take_succ_eq_append_getElem hlt,questions_no hne,hm]
 ·
  refine go 1 ?_
  refine fall (vs:=[]) rfl ?_
  have hke:k=n.voters.length:=by have:=decide_f h23;omega
  refine Post.mq hgL ⟨rfl,_,_,ndL.to ?_⟩
  rw[hm,hke,List.take_length];rfl
theorem Good.dropAt {w:World} {s:Res}:∀ {os:List Res} (k:Nat),Good w s os→Good w s (os.eraseIdx k)
 | [],_,h=>h
 | _::_,0,h=>h.drop
 | r::os,k+1,⟨h1,h2,h3,h4⟩=>⟨h1,h2,fun q hq=>h3 q (List.mem_of_mem_eraseIdx hq),Good.dropAt k h4⟩
theorem Good.split {A:Res} {g:Nat} {x:Obj} (hg:Good w s (A::os)) (hx:A g=some x):Good w s ((fun b=>if b=g then none else A b)::Res.one g x::os):=by
 obtain⟨h1,h2,h3,h4⟩:=hg
 have hne:A g≠none:=by rw[hx];simp
 have hl:Le (fun b=>if b=g then none else A b) A:=fun b y hy=>by
  by_cases hb:b=g
  ·
   simp[hb] at hy
  ·
   simpa [hb] using hy
 have hl2:Le (Res.one g x) A:=fun b y hy=>by
  simp only[Res.one] at hy
  split at hy
  ·
   rename_i e;cases hy;rw[e];exact hx
  ·
   cases hy
 refine⟨h1.le hl,h2.le hl,fun q hq=>?_,h1.le hl2,h2.le hl2,fun q hq=>(h3 q hq).le hl2,h4⟩
 rcases List.mem_cons.1 hq with rfl | hq
 ·
  intro b hb
  simp only[Res.one]
  by_cases hbg:b=g
  ·
   simp[hbg] at hb
  ·
   simp[hbg]
 ·
  exact (h3 q hq).le hl
theorem Nd.splitPeers (hg:Good w s (A::os)) (nd:Nd s A p h n):∃ A1 W,Good w s (A1::W::os)∧A1 p=some (.cells (nodeV n h).toArray 109 (0,0))∧NRest s A1 { h with pa:=none,pc:=0 } (n.wPeers [])∧Own RPeer 3 136 s W h.pa h.pc n.s.peers:=by
 have hp:=nd.peers
 rcases hp with ⟨h1,h2,h3⟩ | ⟨g,cs,hpa,hA,h4,h5,h6,h7⟩
 ·
  exact⟨A,Res.nil,hg.nil.front 1 rfl,nd.cells,nd.rest.noPeers,.inl ⟨h1,h2,h3⟩⟩
 ·
  have hb:=nd.peers
  have hk:∀ k,A k≠none→(∀ ad,h.pa=some ad→ad.block≠k)→(fun b=>if b=g then none else A b) k=A k:=fun k _ hk=>by
   have:k≠g:=fun e=>hk _ hpa e.symm
   simp[this]
  obtain⟨a,b,c,d,e,f,g',i,j,l⟩:=nd.rest
  refine⟨_,_,Good.split hg hA,(nd.apart hb (by decide) hk).trans nd.cells,⟨a,b,c,d.kept (hb.dj d (by decide)) hk,e.kept (hb.dj e (by decide)) hk,Own.nil _ _ _ _ _,g',i.kept (hb.dj i (by decide)) hk,j.kept (hb.dj j (by decide)) hk,l⟩,.inr ⟨g,cs,hpa,if_pos rfl,h4,h5,h6,h7⟩⟩
theorem find_at' {α:Type} {q:α→Bool} {xs:List α} (h0:0≤idxP q xs):xs.find? q=xs[(idxP q xs).toNat]?:=by
 cases hf:xs.findIdx? q with
 | none=>unfold idxP at h0;rw[hf] at h0;simp at h0
 | some k =>
  have hk:idxP q xs=k:=by unfold idxP;rw[hf]
  rw[List.findIdx?_eq_some_iff_getElem] at hf
  obtain⟨hkl,hp,hn⟩:=hf
  rw[hk,Int.toNat_natCast,List.getElem?_eq_getElem hkl,List.find?_eq_some_iff_getElem]
  exact⟨hp,k,hkl,rfl,fun j hj=>by simpa using hn j hj⟩
theorem find_at {α:Type} {q:α→Bool} {xs:List α} (h0:0≤idxP q xs) (hl:(idxP q xs).toNat<xs.length):xs.find? q=some xs[(idxP q xs).toNat]:=by
 rw[find_at' h0,List.getElem?_eq_getElem hl]
theorem find_no {α:Type} {q:α→Bool} {xs:List α} (h0:idxP q xs<0):xs.find? q=none:=by
 unfold idxP at h0
 cases hf:xs.findIdx? q with
 | none=>rw[List.findIdx?_eq_none_iff] at hf;rw[List.find?_eq_none];intro x hx;simp[hf x hx]
 | some k=>rw[hf] at h0;simp at h0;omega
theorem meet1_ct {q:Peer} {other:Int} {B:Res} {b:Nat} {vs:List Value} (hg:Good w s os) (hq:RPeer s vs q) (hB:B∈os) (c1:B b=some (.cells #[i64 other] 3 (0,0))) :
  Calls Tryz.prog 144 #[.agg vs.toArray,ptr b] w (PostV w s os fun r=>r = .bool (decide (q.node=other))):=by
 obtain⟨rfl,_⟩:=hq
 refine enter (l:=[.agg #[i64 q.node,u64 q.next,u64 q.mat],ptr b]) Tryz.func144 rfl Tryz.ntmps144 rfl ?_
 refine go 3 ?_
 rintro b8 w8 Q8 (hg8:Good _ s (Q8::os)) hax8 hb8
 refine go 7 ?_
 refine RL.load (j:=0) rfl rfl rfl rfl ty3.out rfl (Holds.of c1) (hg8.mem (by simp[hB])) rfl ?_
 refine go 3 ?_
 refine CW.ret (zr1 ?_)
 exact PostV.mq (hg8.drop) rfl
theorem meet_ct {next:Int} (hg:Good w s (A::os)) (nd:Nd s A p h n) (hR:NRng n) (hS:n.s.log.small) (hn:rng .u64 next) (hcf:(confP n.s.log).1.fits) (hol:(othersP (confP n.s.log).1 n.s.id).length≤4294967296) :
  Calls Tryz.prog 117 #[ptr p,u64 next] w (NPost w s os p (.tuple #[]) (n.meet next)):=by
 generalize hO:othersP (confP n.s.log).1 n.s.id=O at hol
 refine enter (l:=[ptr p,u64 next]) Tryz.func117 rfl Tryz.ntmps117 rfl ?_
 refine go 8 ?_
 refine zc (Conf_ct hg (.inr (by simp)) (nd.at_ hR) hS) ?_
 rintro v9 s9 B9 w9 hle9 (hg9:Good _ s9 (B9::A::os)) hax9 ⟨vs17,rfl,hC⟩
 have hg9:=hg9.drop
 have nd10:=nd.up hle9
 have hC0:=hC
 obtain⟨va,vc,la,lc,rfl,hva,hla⟩:=hC
 refine go 5 ?_
 rintro b11 w11 Q11 (hg11:Good _ s9 (Q11::A::os)) hax11 hb11
 refine go 2 ?_
 rintro w12 Q12 (hg12:Good _ s9 (Q12::A::os)) hax12 hb12
 refine go 14 ?_
 obtain⟨A1,W1,hgS,hpS,hrS,hW⟩:=Nd.splitPeers (hg12.front 1 rfl) nd10
 refine go 4 ?_
 refine RL.sN (p:=p) (i:=0) (j:=13) hgS (hpS) (hrS) ?_
 rintro w13 A13 (hg13:Good _ s9 (A13::W1::Q12::os)) hax13 nd13
 refine go 3 ?_
 have hg14:=hg13.drew
 refine CW.dw [1,3,5,7,9,11,17,12,15] (fun w=>At1 b11 _ w∧At1 p _ w∧True) ?_
 refine go 8 ?_
 refine zc (Others_ct hg14 hC0 hcf) ?_
 rintro v15 s15 B15 w15 hle15 (hg15:Good _ s15 (B15::A13::W1::Q12::os)) hax15 ⟨a35,c35,rfl,ho35⟩
 have nd16:=nd13.up hle15
 obtain⟨t15,hgl15,hll15,hml15⟩:=hg15.letgo
 have hg15:Good _ t15 (A13::W1::Q12::os):=hgl15
 have nd17:=nd16.up hll15
 have hI35:=ho35.imm (RInt.up _) hll15 hml15
 rw[show othersP (confP n.s.log).1 (n.wPeers []).s.id=O from hO] at hI35 ⊢
 have hW:=hW.up RPeer.up (hle15.trans hll15)
 refine go 4 ?_
 refine CW.loop (σ:=Nat) (fun j E w'=>∃ A' pa pc m,∃ k:Nat,Good w' t15 (A'::W1::Q12::os)∧Aux w w'∧Nd t15 A' p { h with pa:=pa,pc:=pc } m∧m=n.wPeers ((O.take k).map fun o=>Node.peerOf n.s.peers o next)∧E=[(0,ptr p),(1,u64 next),(6,.slice h.pa n.s.peers.length h.pc),(35,.slice a35 O.length c35),(36,i64 O.length),(37,i64 k)]∧k+j=O.length) (fun j=>j) O.length
  [(0,ptr p),(1,u64 next),(6,.slice h.pa n.s.peers.length h.pc),(35,.slice a35 O.length c35),(36,i64 O.length),(37,i64 0)] ⟨rfl,rfl,rfl,rfl,rfl,rfl,trivial⟩ ⟨_,_,_,_,0,hg15,(hax9.trans (hax11.trans (hax12.trans (hax13.trans ((Aux.drew _).trans hax15))))),nd17,by simp,rfl,by omega⟩ ?_
 rintro j E wL ⟨AL,paL,pcL,m,k,hgL,haxL,ndL,hm,rfl,hk⟩
 have hpl:m.s.peers.length=k:=by rw[hm];simp only[Node.wPeers,List.length_map,List.length_take];omega
 refine go 5 ?_
 refine CW.cond rfl (fun h38=>?_) (fun h38=>?_)
 ·
  refine go 5 ?_
  have hlt:k<O.length:=by have:=decide_t h38;omega
  refine RL.idx rfl rfl rfl rfl sl25.out rfl rfl hI35 (by omega) (by omega) ?_
  rintro q vs hvl hH ⟨rfl,er1⟩
  refine RL.load (j:=0) rfl rfl rfl rfl ty3.out rfl (hH) (hgL.sh) rfl ?_
  refine go 1 ?_
  rintro b18 w18 Q18 (hg18:Good _ t15 (Q18::AL::W1::Q12::os)) hax18 hb18
  refine go 2 ?_
  rintro w19 Q19 (hg19:Good _ t15 (Q19::AL::W1::Q12::os)) hax19 hb19
  refine go 8 ?_
  rintro b20 w20 Q20 (hg20:Good _ t15 (Q20::Q19::AL::W1::Q12::os)) hax20 hb20
  refine go 2 ?_
  rintro w21 Q21 (hg21:Good _ t15 (Q21::Q19::AL::W1::Q12::os)) hax21 hb21
  refine go 6 ?_
  refine RL.makeF rfl rfl rfl rfl rfl ?_
  refine go 1 ?_
  refine zw (IndexPe_ct (p:=fun q=>decide (q.node=O[k])) hg21 (r:=W1) (.inr (by simp)) hW.lies rfl (fun x _ vs hE w' hg'=>meet1_ct hg' hE (B:=Q19) (by simp) hb19)) ?_
  rintro v22 w22 (hg22:Good _ t15 (Q21::Q19::AL::W1::Q12::os)) hax22 rfl
  refine go 8 ?_
  refine CW.cond rfl (fun h48=>?_) (fun h48=>?_)
  ·
   have h0:0≤idxP (fun q:Peer=>decide (q.node=O[k])) n.s.peers:=decide_t h48
   have h1:idxP (fun q:Peer=>decide (q.node=O[k])) n.s.peers<n.s.peers.length:=by rcases idxP_rng (fun q:Peer=>decide (q.node=O[k])) n.s.peers with h | h<;>omega
   have hpo:Node.peerOf n.s.peers O[k] next=n.s.peers[(idxP (fun q:Peer=>decide (q.node=O[k])) n.s.peers).toNat]'(by omega):=by simp only[Node.peerOf,find_at h0 (by omega),Option.getD_some]
   refine go 3 ?_
   refine RL.idxL rfl rfl rfl rfl sl40.out rfl rfl hW.lies h0 h1 ?_
   rintro q2 vs2 hvl2 hH2 ⟨rfl,fr1⟩
   have hpe:∀ s,RPeer s [i64 _,u64 _,u64 _] _:=fun s=>⟨rfl,fr1⟩
   refine RL.loads (j:=0) (us:=_) rfl rfl rfl rfl ty136.out rfl (hH2) (hg22.mem (by simp)) rfl rfl ?_
   refine go 1 ?_
   rintro w23 Q23 (hg23:Good _ t15 (Q23::Q19::AL::W1::Q12::os)) hax23 hb23
   refine go 2 ?_
   have hg24:=hg23.drew
   refine CW.dx [1,3,5,7,9,11,13,14,16,19,21,23] [24] 12 1 (fun w=>At1 p _ w∧At1 b20 _ w∧True) ?_
   refine go 8 ?_
   rintro b25 w25 Q25 (hg25:Good _ t15 (Q25::Q23::Q19::AL::W1::Q12::os)) hax25 hb25
   refine go 1 ?_
   refine RL.append2 (i:=3) (ys:=[_]) rfl rfl rfl rfl sl40.out ze136.out rfl RPeer.one rfl rfl hg25 rfl ndL.peers (one_src sl40.out rfl hb25 (hg25.mem (by simp))) (Chunks.single rfl (hpe _)) ((by simp only[List.length_singleton];omega)) (by omega) ?_
   rintro a26 c26 A26 w26 (hg26:Good _ t15 (Q25::Q23::Q19::A26::W1::Q12::os)) ho26 hax26 hk26 hn26
   obtain⟨hp26,hr26⟩:=ndL.appPeers ho26 hk26
   refine go 6 ?_
   refine RL.sN (p:=p) (i:=3) (j:=13) hg26 (hp26) (hr26) ?_
   rintro w27 A27 (hg27:Good _ t15 (Q25::Q23::Q19::A27::W1::Q12::os)) hax27 nd27
   refine go 6 ?_
   cases j with
   | zero=>omega
   | succ j =>
    refine fun ac ha=>⟨j,[(0,ptr p),(1,u64 next),(6,.slice h.pa n.s.peers.length h.pc),(35,.slice a35 O.length c35),(36,i64 O.length),(37,i64 ((k:Int)+1))],ha.sub ⟨rfl,rfl,rfl,rfl,rfl,rfl,trivial⟩,⟨_,_,_,_,k+1,((((((hg27.front 5 rfl).front 5 rfl).front 5 rfl).dropAt 3).dropAt 3).dropAt 3),(haxL.trans (hax18.trans (hax19.trans (hax20.trans (hax21.trans (hax22.trans (hax23.trans ((Aux.drew _).trans (hax25.trans (hax26.trans hax27)))))))))),nd27,?_,rfl,by omega⟩,Nat.lt_succ_self j⟩
    rw[List.take_succ_eq_append_getElem hlt,List.map_append,hm]
    simp only[List.map_cons,List.map_nil,hpo];rfl
  ·
   have hpo:Node.peerOf n.s.peers O[k] next=⟨O[k],next,0⟩:=by simp only[Node.peerOf,find_no (q:=fun q:Peer=>decide (q.node=O[k])) (xs:=n.s.peers) (by have:=decide_f h48;omega),Option.getD_none]
   have hpe:∀ s,RPeer s [i64 O[k],u64 next,u64 0] ⟨O[k],next,0⟩:=fun s=>⟨rfl,er1,hn,by simp[rng]⟩
   refine go 1 ?_
   have hg28:=hg22.drew
   refine CW.dx [1,3,5,7,9,11,13,14,16,19,21,23] [24] 12 1 (fun w=>At1 p _ w∧At1 b20 _ w∧True) ?_
   refine go 8 ?_
   rintro b29 w29 Q29 (hg29:Good _ t15 (Q29::Q21::Q19::AL::W1::Q12::os)) hax29 hb29
   refine go 1 ?_
   refine RL.append2 (i:=3) (ys:=[_]) rfl rfl rfl rfl sl40.out ze136.out rfl RPeer.one rfl rfl hg29 rfl ndL.peers (one_src sl40.out rfl hb29 (hg29.mem (by simp))) (Chunks.single rfl (hpe _)) ((by simp only[List.length_singleton];omega)) (by omega) ?_
   rintro a30 c30 A30 w30 (hg30:Good _ t15 (Q29::Q21::Q19::A30::W1::Q12::os)) ho30 hax30 hk30 hn30
   obtain⟨hp30,hr30⟩:=ndL.appPeers ho30 hk30
   refine go 6 ?_
   refine RL.sN (p:=p) (i:=3) (j:=13) hg30 (hp30) (hr30) ?_
   rintro w31 A31 (hg31:Good _ t15 (Q29::Q21::Q19::A31::W1::Q12::os)) hax31 nd31
   refine go 6 ?_
   cases j with
   | zero=>omega
   | succ j =>
    refine fun ac ha=>⟨j,[(0,ptr p),(1,u64 next),(6,.slice h.pa n.s.peers.length h.pc),(35,.slice a35 O.length c35),(36,i64 O.length),(37,i64 ((k:Int)+1))],ha.sub ⟨rfl,rfl,rfl,rfl,rfl,rfl,trivial⟩,⟨_,_,_,_,k+1,((((((hg31.front 5 rfl).front 5 rfl).front 5 rfl).dropAt 3).dropAt 3).dropAt 3),(haxL.trans (hax18.trans (hax19.trans (hax20.trans (hax21.trans (hax22.trans ((Aux.drew _).trans (hax29.trans (hax30.trans hax31))))))))),nd31,?_,rfl,by omega⟩,Nat.lt_succ_self j⟩
    rw[List.take_succ_eq_append_getElem hlt,List.map_append,hm]
    simp only[List.map_cons,List.map_nil,hpo];rfl
 ·
  refine go 1 ?_
  refine fall (vs:=[]) rfl ?_
  have hke:k=O.length:=by have:=decide_f h38;omega
  refine Post.mk (hle9.trans (hle15.trans hll15)) ((hgL.dropNext).dropNext) haxL ⟨rfl,_,ndL.to ?_⟩
  rw[hm,hke,List.take_length];simp only[Node.meet,Node.wPeers,hO]
end
end Go.Lw
namespace Go.Lw
open Go.Proofs
attribute [local irreducible] RL RA
section
variable {w:World} {s A:Res} {os:List Res} {p:Nat} {h:Hd} {n:Node}
theorem one_news {α:Type} {P:Program} {R:Res→List Value→α→Prop} {sz b by_:Nat} {t e:TypeId} {B:Res} {cs:List Value} {xs:List α} (ht:slc P t=some (e,sz,by_)) (hB:B b=some (.cells cs.toArray e (0,0))) (hin:In B w) (hch:Chunks R sz s cs xs):∃ news,Src P w t sz (.slice (some ⟨b,0,none⟩) xs.length xs.length) xs.length news∧Chunks R sz s news xs :=
 ⟨cs,one_src ht hch.length hB hin,hch⟩
theorem count_stay (h:n.com≤n.s.hard.commit∨(termP n.s.log n.com).1≠n.s.hard.term):n.count=n:=by unfold Node.count;rw[if_pos h]
theorem count_go (h:¬ (n.com≤n.s.hard.commit∨(termP n.s.log n.com).1≠n.s.hard.term)):n.count=if (confP n.s.log).2≤n.com∧n.s.id∉n.voters then (n.wCommit n.com).follow n.s.hard.term 0 else n.wCommit n.com:=by
 unfold Node.count;rw[if_neg h];rfl
theorem ncount_ct (hg:Good w s (A::os)) (nd:Nd s A p h n) (hR:NRng n) (hS:n.s.log.small) (hv:n.voters.length≤1073741824) (hb:n.s.peers.length≤4294967296) :
  Calls Tryz.prog 118 #[ptr p] w (NPost w s os p (.tuple #[]) n.count):=by
 refine enter (l:=[ptr p]) Tryz.func118 rfl Tryz.ntmps118 rfl ?_
 refine go 8 ?_
 refine zc (Conf_ct hg (.inr (by simp)) (nd.at_ hR) hS) ?_
 rintro v1 s1 B1 w1 hle1 (hg1:Good _ s1 (B1::A::os)) hax1 ⟨vs13,rfl,hC⟩
 have hg1:=hg1.drop
 have nd2:=nd.up hle1
 have hC0:=hC
 obtain⟨va,vc,la,lc,rfl,hva,hla⟩:=hC
 refine go 5 ?_
 rintro b3 w3 Q3 (hg3:Good _ s1 (Q3::A::os)) hax3 hb3
 refine go 2 ?_
 rintro w4 Q4 (hg4:Good _ s1 (Q4::A::os)) hax4 hb4
 refine go 4 ?_
 have hg5:=hg4.drew
 refine CW.dw [1,3,5,7,9,11,13,17,19,21,23,25,27,14,28,31,32,34,36,38] (fun w=>At1 b3 _ w∧At1 p _ w∧True) ?_
 refine go 14 ?_
 refine zc (ClonePe_ct hg5 (.inr (by simp)) nd2.peers.lies.2.2 (by omega)) ?_
 rintro v6 s6 Q6 w6 hle6 (hg6:Good _ s6 (Q6::Q4::A::os)) hax6 ⟨hs23,a23,c23,rfl,ho23⟩
 have nd7:=nd2.up hle6
 have hC0:=RConf.up _ _ _ _ hle6 hC0
 have hva:=hva.up (RInt.up _) hle6
 refine go 2 ?_
 refine zw (last_ct (hg6.front 2 rfl) nd7 hR) ?_
 rintro v8 w8 (hg8:Good _ s6 (A::Q6::Q4::os)) hax8 rfl
 refine go 3 ?_
 rintro b9 w9 Q9 (hg9:Good _ s6 (Q9::A::Q6::Q4::os)) hax9 hb9
 refine go 1 ?_
 obtain⟨news10,hsrc10,hch10⟩:=(one_news (R:=RPeer) (xs:=[⟨n.s.id,0,n.last⟩]) sl40.out hb9 (hg9.mem (by simp)) (Chunks.single rfl ⟨rfl,hR.1,by simp[rng],(nd.at_ hR).last_rng.1⟩))
 refine RL.append2 (i:=2) (xs:=n.s.peers) (ys:=[⟨n.s.id,0,n.last⟩]) rfl rfl rfl rfl sl40.out ze136.out rfl RPeer.one (rfl) rfl hg9 rfl (ho23) hsrc10 hch10 ((by simp only[List.length_singleton];omega)) (by omega) ?_
 rintro a10 c10 A10 w10 (hg10:Good _ s6 (Q9::A::A10::Q4::os)) ho10 hax10 hk10 hn10
 have hoP:=ho10
 refine go 1 ?_
 obtain⟨hL1,hL2,hL3,hL4⟩:=(hg10.front 2 rfl).lend
 refine go 1 ?_
 refine zc (Calls.lend (Ψ:=fun v=>∃ c,v = .int .u64 c∧Com ((uniq n.voters).map (matchP (n.s.peers++[⟨n.s.id,0,n.last⟩]))) c) (hg10.front 2 rfl) (Commit_ct hL1 (hva.up (RInt.up _) hL2) (hoP.imm RPeer.up hL2 hL3) (by show n.voters.length*8≤_;omega))) ?_
 rintro v11 s11 B11 w11 hle11 (hg11:Good _ s11 (B11::A10::Q9::A::Q4::os)) hax11 ⟨c34,rfl,hCom⟩
 have hg11:=hg11.drop
 have nd12:=nd7.up hle11
 have hC0:=RConf.up _ _ _ _ hle11 hC0
 obtain rfl:=Node.com_eq (n:=n) hCom
 refine go 13 ?_
 refine zw (Term_ct hg11 (.inr (by simp)) (nd12.at_ hR) (by have:=hS.2.2.2;omega)) ?_
 rintro v13 w13 (hg13:Good _ s11 (A10::Q9::A::Q4::os)) hax13 rfl
 refine go 18 ?_
 refine RL.part 53 rfl (fun h53=>?_) (fun h53=>?_)
 ·
  refine go 11 ?_
  refine CW.ret (zr0 ?_)
  exact Post.mq ((((hg13.front 2 rfl).dropNext).dropNext).dropNext) ⟨rfl,_,nd12.to (count_stay (.inl (decide_t h53))).symm⟩
 ·
  refine go 10 ?_
  refine CW.cond rfl (fun h62=>?_) (fun h62=>?_)
  ·
   refine CW.ret (zr0 ?_)
   exact Post.mq ((((hg13.front 2 rfl).dropNext).dropNext).dropNext) ⟨rfl,_,nd12.to (count_stay (.inr (by simpa using h62))).symm⟩
  ·
   have hcg:=count_go (n:=n) (fun z=>z.elim (decide_f h53) (fun z=>by simp[z] at h62))
   refine go 9 ?_
   refine RL.sI (p:=p) (i:=2) (j:=3) hg13 (nd12.cells) (NRest.wCommit nd12.rest) ?_
   rintro w14 A14 (hg14:Good _ s11 (A10::Q9::A14::Q4::os)) hax14 nd14
   refine go 3 ?_
   have hg15:=hg14.drew
   refine CW.dw [1,3,5,7,9,11,13,15,17,19,20,23,25] (fun w=>At1 b3 _ w∧At1 p _ w∧True) ?_
   refine go 4 ?_
   refine RL.part 72 rfl (fun h72=>?_) (fun h72=>?_)
   ·
    refine go 7 ?_
    refine zw (Votes_ct hg15 hC0) ?_
    rintro v16 w16 (hg16:Good _ s11 (A10::Q9::A14::Q4::os)) hax16 rfl
    refine go 4 ?_
    refine CW.cond rfl (fun h81=>?_) (fun h81=>?_)
    ·
     refine go 9 ?_
     refine zc (follow_ct (hg16.front 2 rfl) nd14) ?_
     rintro v17 s17 A17 w17 hle17 (hg17:Good _ s17 (A17::A10::Q9::Q4::os)) hax17 ⟨rfl,h17,nd17⟩
     refine go 2 ?_
     refine fall (vs:=[]) rfl ?_
     refine Post.mq (((hg17.dropNext).dropNext).dropNext) ⟨rfl,_,nd17.to ?_⟩
     rw[hcg,if_pos ⟨decide_t h72,of_decide_eq_false (Bool.not_eq_true' _▸h81)⟩];rfl
    ·
     refine go 1 ?_
     refine fall (vs:=[]) rfl ?_
     refine Post.mq ((((hg16.front 2 rfl).dropNext).dropNext).dropNext) ⟨rfl,_,nd14.to ?_⟩
     rw[hcg,if_neg (fun z=>z.2 (of_decide_eq_true (Bool.not_eq_false' _▸h81)))]
   ·
    refine go 12 ?_
    refine fall (vs:=[]) rfl ?_
    refine Post.mq ((((hg15.front 2 rfl).dropNext).dropNext).dropNext) ⟨rfl,_,nd14.to ?_⟩
    rw[hcg,if_neg (fun z=>decide_f h72 z.1)]
theorem Node.com_rng (hp:∀ q∈n.s.peers,rng .u64 q.mat) (hl:rng .u64 n.last):rng .u64 n.com:=by
 unfold Node.com
 split
 ·
  rename_i hk
  have hm:∀ q∈n.s.peers++[⟨n.s.id,0,n.last⟩],rng .u64 q.mat:=by
   intro q hq
   rcases List.mem_append.1 hq with hq | hq
   ·
    exact hp q hq
   ·
    obtain rfl:=List.mem_singleton.1 hq;exact hl
  rcases hk.choose_spec with ⟨_,h0⟩ | ⟨_,h1,_⟩
  ·
   rw[h0];simp[rng]
  ·
   obtain⟨v,_,hv⟩:=List.mem_map.1 h1
   rw[←hv];exact matchP_rng hm v
 ·
  simp[rng]
theorem Nd.peers_rng (nd:Nd s A p h n):∀ q∈n.s.peers,rng .i64 q.node∧rng .u64 q.next∧rng .u64 q.mat:=by
 intro q hq
 obtain⟨vs,_,h1⟩:=nd.peers.lies.all q hq
 exact h1
theorem NRng.follow {term leader:Int} (hR:NRng n) (ht:rng .u64 term):NRng (n.follow term leader):=by
 unfold Node.follow
 by_cases hc:n.s.hard.term<term
 ·
  exact hR.of rfl (by simp only[if_pos hc];exact ht) (by simp only[if_pos hc];simp[rng]) (by simp only[if_pos hc];exact hR.2.2.2.1) rfl
 ·
  exact hR.of rfl (by simp only[if_neg hc];exact hR.2.1) (by simp only[if_neg hc];exact hR.2.2.1) (by simp only[if_neg hc];exact hR.2.2.2.1) rfl
theorem NRng.count (hR:NRng n) (hc:rng .u64 n.com):NRng n.count:=by
 by_cases hs:n.com≤n.s.hard.commit∨(termP n.s.log n.com).1≠n.s.hard.term
 ·
  rw[count_stay hs];exact hR
 ·
  rw[count_go hs]
  have hw:NRng (n.wCommit n.com):=hR.of rfl hR.2.1 hR.2.2.1 hc rfl
  split
  ·
   exact hw.follow hR.2.1
  ·
   exact hw
theorem Nd.count_rng (nd:Nd s A p h n) (hR:NRng n):NRng n.count:=hR.count (Node.com_rng (fun q hq=>(nd.peers_rng q hq).2.2) (nd.at_ hR).last_rng.1)
theorem count_log (n:Node):n.count.s.log=n.s.log:=by
 unfold Node.count;split
 ·
  rfl
 ·
  dsimp only;split<;>rfl
theorem count_peers (n:Node):n.count.s.peers=n.s.peers∨n.count.s.peers=[]:=by
 unfold Node.count;split
 ·
  exact .inl rfl
 ·
  dsimp only;split
  ·
   exact .inr rfl
  ·
   exact .inl rfl
theorem count_msgs (n:Node):n.count.o=n.o:=by
 unfold Node.count;split
 ·
  rfl
 ·
  dsimp only;split<;>rfl
theorem confE_small:∀ {l:List Entry},(∀ e∈l,e.small)→∀ c,confE l=some c→c.1.small
 | [],_,c,h=>by cases h
 | e::l,hs,c,h=>by
  simp only[confE] at h
  cases hc:confE l with
  | some r=>rw[hc] at h;cases h;exact confE_small (fun x hx=>hs x (List.mem_cons_of_mem _ hx)) _ hc
  | none =>
   rw[hc] at h
   simp only at h
   split at h
   ·
    cases h;exact (hs e (List.mem_cons_self ..)).2
   ·
    cases h
theorem confP_small {l:Log} (h:l.small):(confP l).1.small:=by
 unfold confP
 cases hc:confE l.entries with
 | none=>exact h.1
 | some r=>exact confE_small h.2.2.1 _ hc
theorem Conf.small.fits {c:Conf} (h:c.small):c.fits:=by
 obtain⟨h1,h2⟩:=h;simp only[Conf.fits];omega
theorem othersP_small {c:Conf} (h:c.small) (x:Int):(othersP c x).length≤4294967296:=by
 have h1:=uniq_le (delP x (c.voters++c.learners))
 have h2:=delP_le x (c.voters++c.learners)
 have h3:(c.voters++c.learners).length=c.voters.length+c.learners.length:=List.length_append
 have h4:=h.1
 have h5:=h.2
 unfold othersP;omega
def Node.putE (n:Node) (x:Entry):Node:=⟨{ n.s with log:=⟨n.s.log.base,n.s.log.entries++[x]⟩ },{ n.o with entries:=n.o.entries++[x] }⟩
theorem Log.small.snoc {l:Log} (hS:l.small) {x:Entry} (hx:x.small) (hn:l.entries.length+1≤1099511627776):Log.small ⟨l.base,l.entries++[x]⟩:=by
 refine⟨hS.1,hS.2.1,fun e he=>?_,by simp only[List.length_append,List.length_singleton];exact hn⟩
 rcases List.mem_append.1 he with he | he
 ·
  exact hS.2.2.1 e he
 ·
  obtain rfl:=List.mem_singleton.1 he;exact hx
theorem nput_ct {e:Entry} {vs:List Value} (hg:Good w s (A::os)) (nd:Nd s A p h n) (hR:NRng n) (hS:n.s.log.small) (hE:REntry s vs e) (he:e.small) (hn:n.s.log.entries.length+1≤1099511627776) (hp:n.s.peers.length≤4294967296) (hm:n.o.msgs.length≤34359738368) (ho:n.o.entries.length+1≤1099511627776) :
  Calls Tryz.prog 78 #[ptr p,.agg vs.toArray] w (NPost w s os p (.tuple #[]) (n.put e)):=by
 obtain⟨ea,ec,ea1,ec1,ea2,ec2,rfl,er1,er2,er3,eh1,eh2,eh3⟩:=hE
 obtain⟨x,hx⟩:∃ x:Entry,x={ e with index:=up1 n.last,term:=n.s.hard.term }:=⟨_,rfl⟩
 have hxs:x.small:=by rw[hx];exact he
 have hS2:Log.small (n.putE x).s.log:=hS.snoc hxs hn
 have hcs:=confP_small hS2
 have hR2:NRng (n.putE x):=hR.of rfl hR.2.1 hR.2.2.1 hR.2.2.2.1 rfl
 have hxi:x.index=up1 n.last:=by rw[hx]
 have hput:n.put e=((if e.kind=3 then (n.putE x).meet x.index else n.putE x).count).spread:=by rw[hx];rfl
 have hxE:∀ s',Le s s'→REntry s' [u64 (up1 n.last),u64 n.s.hard.term,i64 e.kind,.slice ea e.data.length ec,.slice ea1 e.conf.voters.length ec1,.slice ea2 e.conf.learners.length ec2] x:=fun s' hl=>by
  rw[hx];exact⟨ea,ec,ea1,ec1,ea2,ec2,rfl,up1_rng _,hR.2.1,er3,eh1.up (RInt.up _) hl,eh2.up (RInt.up _) hl,eh3.up (RInt.up _) hl⟩
 refine enter (l:=[ptr p,.agg #[u64 e.index,u64 e.term,i64 e.kind,.slice ea e.data.length ec,.slice ea1 e.conf.voters.length ec1,.slice ea2 e.conf.learners.length ec2]]) Tryz.func78 rfl Tryz.ntmps78 rfl ?_
 refine go 3 ?_
 rintro b18 w18 Q18 (hg18:Good _ s (Q18::A::os)) hax18 hb18
 refine go 3 ?_
 have hg19:=hg18.drew
 refine CW.dw [1,7,9,11,13,15,17,2,5,19,20,23,24] (fun w=>At1 p _ w∧True) ?_
 refine go 8 ?_
 refine zw (last_ct (hg19.front 1 rfl) nd hR) ?_
 rintro v20 w20 (hg20:Good _ s (A::Q18::os)) hax20 rfl
 refine go 1 ?_
 refine RL.as_ rfl rfl rfl rfl (u64 (up1 n.last)) (rfl) ?_
 refine go 2 ?_
 rintro w21 Q21 (hg21:Good _ s (A::Q21::os)) hax21 hb21
 refine go 3 ?_
 rintro w22 Q22 (hg22:Good _ s (A::Q22::os)) hax22 hb22
 refine go 3 ?_
 have hg23:=hg22.drew
 refine CW.dx [1,3,5,7,9,11,13,15,16,18,20,23,25,27,29] [30] 15 1 (fun w=>At1 p _ w∧At1 b18 _ w∧True) ?_
 refine go 9 ?_
 refine zc (entry_core_ct hg23 (hxE _ (Le.refl _)) hxs) ?_
 rintro v24 s24 B24 w24 hle24 (hg24:Good _ s24 (B24::A::Q22::os)) hax24 ⟨us23,rfl,hU23⟩
 have hg24:=hg24.drop
 have nd25:=nd.up hle24
 have hU:=hU23
 obtain⟨fa,fc,fa1,fc1,fa2,fc2,rfl,fr1,fr2,fr3,fh1,fh2,fh3⟩:=hU23
 refine go 2 ?_
 rintro b26 w26 Q26 (hg26:Good _ s24 (Q26::A::Q22::os)) hax26 hb26
 refine go 1 ?_
 refine RL.append2 (i:=1) (ys:=[x]) rfl rfl rfl rfl sl31.out ze65.out rfl REntry.one rfl rfl hg26 rfl nd25.entries (one_src sl31.out rfl hb26 (hg26.mem (by simp))) (Chunks.single rfl hU) ((by simp only[List.length_singleton];omega)) (by omega) ?_
 rintro a27 c27 A27 w27 (hg27:Good _ s24 (Q26::A27::Q22::os)) ho27 hax27 hk27 hn27
 obtain⟨hp27,hr27⟩:=nd25.appEntries ho27 hk27 hn27
 refine go 7 ?_
 refine RL.sN (p:=p) (i:=1) (j:=9) hg27 (hp27) (hr27) ?_
 rintro w28 A28 (hg28:Good _ s24 (Q26::A28::Q22::os)) hax28 nd28
 refine go 3 ?_
 have hg29:=hg28.drew
 refine CW.dx [1,3,5,7,9,11,13,14,16,18,21,23,25] [26] 13 1 (fun w=>At1 p _ w∧At1 b18 _ w∧True) ?_
 refine go 8 ?_
 refine zc (entry_core_ct hg29 (hxE _ hle24) hxs) ?_
 rintro v30 s30 B30 w30 hle30 (hg30:Good _ s30 (B30::Q26::A28::Q22::os)) hax30 ⟨us37,rfl,hU37⟩
 have hg30:=hg30.drop
 have nd31:=nd28.up hle30
 have hV:=hU37
 obtain⟨ga,gc,ga1,gc1,ga2,gc2,rfl,gr1,gr2,gr3,gh1,gh2,gh3⟩:=hU37
 refine go 2 ?_
 rintro b32 w32 Q32 (hg32:Good _ s30 (Q32::Q26::A28::Q22::os)) hax32 hb32
 refine go 1 ?_
 refine RL.append2 (i:=2) (ys:=[x]) rfl rfl rfl rfl sl31.out ze65.out rfl REntry.one rfl rfl hg32 rfl nd31.outs (one_src sl31.out rfl hb32 (hg32.mem (by simp))) (Chunks.single rfl hV) ((by simp only[List.length_singleton];show (n.o.entries.length+1)*96≤_;omega)) (by omega) ?_
 rintro a33 c33 A33 w33 (hg33:Good _ s30 (Q32::Q26::A33::Q22::os)) ho33 hax33 hk33 hn33
 obtain⟨hp33,hr33⟩:=nd31.appOuts ho33 hk33 hn33
 refine go 6 ?_
 refine RL.sN (p:=p) (i:=2) (j:=21) hg33 (hp33) (hr33) ?_
 rintro w34 A34 (hg34:Good _ s30 (Q32::Q26::A34::Q22::os)) hax34 nd34
 refine go 9 ?_
 refine CW.cond rfl (fun h45=>?_) (fun h45=>?_)
 ·
  have hRm:NRng ((n.putE x).meet x.index):=hR2.of rfl hR2.2.1 hR2.2.2.1 hR2.2.2.2.1 rfl
  have hpm:((n.putE x).meet x.index).s.peers.length≤4294967296:=by simp only[Node.meet,List.length_map];exact othersP_small hcs _
  have hmm:((n.putE x).meet x.index).o.msgs.length≤34359738368:=hm
  have hlm:Log.small ((n.putE x).meet x.index).s.log:=hS2
  refine go 4 ?_
  rw[←hxi]
  refine go 1 ?_
  refine zc (meet_ct (hg34.front 2 rfl) nd34 hR2 hS2 (by rw[hxi];exact up1_rng _) hcs.fits (othersP_small hcs _)) ?_
  rintro v35 s35 A35 w35 hle35 (hg35:Good _ s35 (A35::Q32::Q26::Q22::os)) hax35 ⟨rfl,h35,nd35⟩
  refine go 5 ?_
  have hRc:=(nd35).count_rng hRm
  refine go 1 ?_
  refine zc (ncount_ct hg35 nd35 hRm hlm hcs.1 hpm) ?_
  rintro v36 s36 A36 w36 hle36 (hg36:Good _ s36 (A36::Q32::Q26::Q22::os)) hax36 ⟨rfl,h36,nd36⟩
  refine go 4 ?_
  have hcb:=fun z:Node=>count_peers z
  refine go 1 ?_
  refine zc (spread_ct hg36 nd36 hRc (by rw[count_log];exact hlm) (by rw[count_msgs];rcases count_peers _ with h | h<;>rw[h];exact Nat.le_trans (Nat.add_le_add hmm hpm) (by decide);simp only[List.length_nil];exact Nat.le_trans hmm (by decide))) ?_
  rintro v37 s37 A37 w37 hle37 (hg37:Good _ s37 (A37::Q32::Q26::Q22::os)) hax37 ⟨rfl,ma37,mc37,nd37⟩
  refine go 2 ?_
  refine fall (vs:=[]) rfl ?_
  refine Post.mq (((hg37.dropNext).dropNext).dropNext) ⟨rfl,_,nd37.to ?_⟩
  rw[hput,if_pos (by simpa using h45)];rfl
 ·
  have hRm:=hR2
  have hpm:(n.putE x).s.peers.length≤4294967296:=hp
  have hmm:(n.putE x).o.msgs.length≤34359738368:=hm
  have hlm:=hS2
  refine go 4 ?_
  have hRc:=(nd34).count_rng hRm
  refine go 1 ?_
  refine zc (ncount_ct (hg34.front 2 rfl) nd34 hRm hlm hcs.1 hpm) ?_
  rintro v38 s38 A38 w38 hle38 (hg38:Good _ s38 (A38::Q32::Q26::Q22::os)) hax38 ⟨rfl,h38,nd38⟩
  refine go 4 ?_
  have hcb:=fun z:Node=>count_peers z
  refine go 1 ?_
  refine zc (spread_ct hg38 nd38 hRc (by rw[count_log];exact hlm) (by rw[count_msgs];rcases count_peers _ with h | h<;>rw[h];exact Nat.le_trans (Nat.add_le_add hmm hpm) (by decide);simp only[List.length_nil];exact Nat.le_trans hmm (by decide))) ?_
  rintro v39 s39 A39 w39 hle39 (hg39:Good _ s39 (A39::Q32::Q26::Q22::os)) hax39 ⟨rfl,ma39,mc39,nd39⟩
  refine go 2 ?_
  refine fall (vs:=[]) rfl ?_
  refine Post.mq (((hg39.dropNext).dropNext).dropNext) ⟨rfl,_,nd39.to ?_⟩
  rw[hput,if_neg (by simpa using h45)];rfl
def Node.roomy (n:Node):Prop:=n.s.log.small∧n.s.log.entries.length+1≤1099511627776∧n.s.peers.length≤4294967296∧n.o.msgs.length≤34359738368∧n.o.entries.length+1≤1099511627776
def blankE:Entry:=⟨0,0,1,[],⟨[],[]⟩⟩
theorem blankE_ok (s:Res):REntry s [u64 0,u64 0,i64 1,.slice none 0 0,.slice none 0 0,.slice none 0 0] blankE :=
 ⟨none,0,none,0,none,0,rfl,by simp[rng,blankE],by simp[rng,blankE],by simp[rng,blankE],Imm.nil _ _ _ (Nat.zero_le _),Imm.nil _ _ _ (Nat.zero_le _),Imm.nil _ _ _ (Nat.zero_le _)⟩
theorem blankE_small:blankE.small:=⟨by simp[blankE],by simp[blankE,Conf.small]⟩
def Node.crown (n:Node):Node:={ n with s:={ n.s with role:=4,leader:=n.s.id,ballots:=[],elapsed:=0,beat:=0,transfer:=0,peers:=[] } }
theorem lead_ct (hg:Good w s (A::os)) (nd:Nd s A p h n) (hR:NRng n) (hr:n.roomy) :
  Calls Tryz.prog 129 #[ptr p] w (NPost w s os p (.tuple #[]) n.lead):=by
 obtain⟨hS,h1,h2,h3,h4⟩:=hr
 have hcs:=confP_small hS
 have hR2:NRng n.crown:=hR.of rfl hR.2.1 hR.2.2.1 hR.2.2.2.1 rfl
 have hR3:NRng (n.crown.meet (up1 n.last)):=hR.of rfl hR.2.1 hR.2.2.1 hR.2.2.2.1 rfl
 have hp3:(n.crown.meet (up1 n.last)).s.peers.length≤4294967296:=by simp only[Node.meet,List.length_map];exact othersP_small hcs _
 refine enter (l:=[ptr p]) Tryz.func129 rfl Tryz.ntmps129 rfl ?_
 refine go 12 ?_
 refine RL.sI (p:=p) (i:=0) (j:=10) hg (nd.cells) (NRest.wRole nd.rest) ?_
 rintro w40 A40 (hg40:Good _ s (A40::os)) hax40 nd40
 refine go 4 ?_
 refine RL.sI (p:=p) (i:=0) (j:=11) hg40 (nd40.cells) (NRest.wLeader nd40.rest) ?_
 rintro w41 A41 (hg41:Good _ s (A41::os)) hax41 nd41
 refine go 12 ?_
 refine RL.sN (p:=p) (i:=0) (j:=12) (h1:=_) (n1:=_) hg41 (nd41.cells) (nd41.rest.noBallots) ?_
 rintro w42 A42 (hg42:Good _ s (A42::os)) hax42 nd42
 refine go 4 ?_
 refine RL.sI (p:=p) (i:=0) (j:=14) hg42 (nd42.cells) (NRest.wElapsed nd42.rest) ?_
 rintro w43 A43 (hg43:Good _ s (A43::os)) hax43 nd43
 refine go 4 ?_
 refine RL.sI (p:=p) (i:=0) (j:=15) hg43 (nd43.cells) (NRest.wBeat nd43.rest) ?_
 rintro w44 A44 (hg44:Good _ s (A44::os)) hax44 nd44
 refine go 4 ?_
 refine RL.sI (p:=p) (i:=0) (j:=16) hg44 (nd44.cells) (NRest.wTransfer nd44.rest) ?_
 rintro w45 A45 (hg45:Good _ s (A45::os)) hax45 nd45
 refine go 4 ?_
 refine RL.sN (p:=p) (i:=0) (j:=13) (h1:=_) (n1:=_) hg45 (nd45.cells) (nd45.rest.noPeers) ?_
 rintro w46 A46 (hg46:Good _ s (A46::os)) hax46 nd46
 refine go 7 ?_
 refine zw (last_ct hg46 nd46 hR2) ?_
 rintro v47 w47 (hg47:Good _ s (A46::os)) hax47 rfl
 refine go 1 ?_
 refine RL.as_ rfl rfl rfl rfl (u64 (up1 n.last)) (rfl) ?_
 refine go 1 ?_
 refine zc (meet_ct hg47 nd46 hR2 hS (up1_rng _) hcs.fits (othersP_small hcs _)) ?_
 rintro v48 s48 A48 w48 hle48 (hg48:Good _ s48 (A48::os)) hax48 ⟨rfl,h48,nd48⟩
 refine go 6 ?_
 refine zc (nput_ct hg48 nd48 hR3 hS (blankE_ok _) blankE_small h1 hp3 h3 h4) ?_
 rintro v49 s49 A49 w49 hle49 (hg49:Good _ s49 (A49::os)) hax49 ⟨rfl,h49,nd49⟩
 refine go 2 ?_
 refine fall (vs:=[]) rfl ?_
 exact Post.mq hg49 ⟨rfl,_,nd49⟩
theorem stand_ct (hg:Good w s (A::os)) (nd:Nd s A p h n) (hR:NRng n) (hr:n.roomy) :
  Calls Tryz.prog 101 #[ptr p] w (NPost w s os p (.tuple #[]) n.stand):=by
 obtain⟨hS,h1,h2,h3,h4⟩:=hr
 have hcs:=confP_small hS
 obtain⟨m0,hm0⟩:∃ m0:Node,m0={ n with s:={ n.s with hard:={ n.s.hard with term:=up1 n.s.hard.term,vote:=n.s.id } } }:=⟨_,rfl⟩
 have hR2:NRng m0:=by rw[hm0];exact hR.of rfl (up1_rng _) hR.1 hR.2.2.2.1 rfl
 have hR3:NRng (m0.runs 3):=hR2.of rfl hR2.2.1 hR2.2.2.1 hR2.2.2.2.1 rfl
 have hstand:n.stand=if (m0.runs 3).tally=1 then (m0.runs 3).lead else (m0.runs 3).question 3 (m0.runs 3).s.hard.term:=by rw[hm0];rfl
 have hro:(m0.runs 3).roomy:=by rw[hm0];exact⟨hS,h1,by simp[Node.runs,Node.addBallot],h3,h4⟩
 have hS2:m0.s.log.small:=by rw[hm0];exact hS
 have hv2:m0.voters.length≤1073741824:=by rw[hm0];exact hcs.1
 have hm2:m0.o.msgs.length≤34359738368:=by rw[hm0];exact h3
 refine enter (l:=[ptr p]) Tryz.func101 rfl Tryz.ntmps101 rfl ?_
 refine go 8 ?_
 refine RL.as_ rfl rfl rfl rfl (u64 (up1 n.s.hard.term)) (rfl) ?_
 refine go 4 ?_
 refine RL.sI (p:=p) (i:=0) (j:=1) hg (nd.cells) (NRest.wTerm nd.rest) ?_
 rintro w50 A50 (hg50:Good _ s (A50::os)) hax50 nd50
 refine go 14 ?_
 refine RL.sI (p:=p) (i:=0) (j:=2) hg50 (nd50.cells) (NRest.wVote nd50.rest) ?_
 rintro w51 A51 (hg51:Good _ s (A51::os)) hax51 nd51
 refine go 7 ?_
 refine zc (runs_ct (n:=m0) hg51 (nd51.to (by rw[hm0];rfl)) hR2 hS2 hv2) ?_
 rintro v52 s52 A52 w52 hle52 (hg52:Good _ s52 (A52::os)) hax52 ⟨rfl,h52,nd52⟩
 refine go 3 ?_
 refine CW.cond rfl (fun h25=>?_) (fun h25=>?_)
 ·
  refine go 4 ?_
  refine zc (lead_ct hg52 nd52 hR3 hro) ?_
  rintro v53 s53 A53 w53 hle53 (hg53:Good _ s53 (A53::os)) hax53 ⟨rfl,h53,nd53⟩
  refine go 2 ?_
  refine CW.ret (zr0 ?_)
  refine Post.mq hg53 ⟨rfl,_,nd53.to ?_⟩
  rw[hstand,if_pos (by simpa using h25)]
 ·
  refine go 10 ?_
  refine zc (question_ct hg52 nd52 hR3 hS2 (by simp[rng]) hR3.2.1 hv2 hm2) ?_
  rintro v54 s54 A54 w54 hle54 (hg54:Good _ s54 (A54::os)) hax54 ⟨rfl,ma54,mc54,nd54⟩
  refine go 2 ?_
  refine fall (vs:=[]) rfl ?_
  refine Post.mq hg54 ⟨rfl,_,nd54.to ?_⟩
  rw[hstand,if_neg (by simpa using h25)]
theorem ask_ct (hg:Good w s (A::os)) (nd:Nd s A p h n) (hR:NRng n) (hr:n.roomy) :
  Calls Tryz.prog 68 #[ptr p] w (NPost w s os p (.tuple #[]) n.ask):=by
 obtain⟨hS,h1,h2,h3,h4⟩:=hr
 have hcs:=confP_small hS
 have hR3:NRng (n.runs 2):=hR.of rfl hR.2.1 hR.2.2.1 hR.2.2.2.1 rfl
 have hask:n.ask=if (n.runs 2).tally=1 then (n.runs 2).stand else (n.runs 2).question 1 (up1 (n.runs 2).s.hard.term):=rfl
 have hro:(n.runs 2).roomy:=⟨hS,h1,by simp[Node.runs,Node.addBallot],h3,h4⟩
 refine enter (l:=[ptr p]) Tryz.func68 rfl Tryz.ntmps68 rfl ?_
 refine go 5 ?_
 refine zc (runs_ct hg nd hR hS hcs.1) ?_
 rintro v55 s55 A55 w55 hle55 (hg55:Good _ s55 (A55::os)) hax55 ⟨rfl,h55,nd55⟩
 refine go 3 ?_
 refine CW.cond rfl (fun h4=>?_) (fun h4=>?_)
 ·
  refine go 4 ?_
  refine zc (stand_ct hg55 nd55 hR3 hro) ?_
  rintro v56 s56 A56 w56 hle56 (hg56:Good _ s56 (A56::os)) hax56 ⟨rfl,h56,nd56⟩
  refine go 2 ?_
  refine CW.ret (zr0 ?_)
  refine Post.mq hg56 ⟨rfl,_,nd56.to ?_⟩
  rw[hask,if_pos (by simpa using h4)]
 ·
  refine go 9 ?_
  refine RL.as_ rfl rfl rfl rfl (u64 (up1 (n.runs 2).s.hard.term)) (rfl) ?_
  refine go 1 ?_
  refine zc (question_ct hg55 nd55 hR3 hS (by simp[rng]) (up1_rng _) hcs.1 h3) ?_
  rintro v57 s57 A57 w57 hle57 (hg57:Good _ s57 (A57::os)) hax57 ⟨rfl,ma57,mc57,nd57⟩
  refine go 2 ?_
  refine fall (vs:=[]) rfl ?_
  refine Post.mq hg57 ⟨rfl,_,nd57.to ?_⟩
  rw[hask,if_neg (by simpa using h4)]
end
end Go.Lw
namespace Go.Lw
open Go.Proofs
attribute [local irreducible] RL RA
abbrev inpV (i:Inp) (y:Lay) (da:Option Addr) (dc:Nat):List Value:=[i64 i.kind,i64 i.timeout,i64 i.msg.kind,i64 i.msg.frm,i64 i.msg.to,u64 i.msg.term,u64 i.msg.index,u64 i.msg.logTerm,.slice y.ea i.msg.entries.length y.ec,u64 i.msg.commit,.bool i.msg.reject,u64 i.msg.hint,.slice y.va i.msg.conf.voters.length y.vc,.slice y.la i.msg.conf.learners.length y.lc,.slice y.da i.msg.data.length y.dc,.bool i.msg.done,
 .slice da i.data.length dc,i64 i.chKind,i64 i.chNode,i64 i.to]
theorem most_least (x y:Int):(if (if (1073741824:Int)>x then (1073741824:Int) else x)<y then (if (1073741824:Int)>x then (1073741824:Int) else x) else y)=min y (max x 1073741824):=by
 rw[Int.min_def,Int.max_def];split<;>split<;>split<;>omega
theorem one_most (x:Int):(if (1:Int)>x then (1:Int) else x)=max x 1:=by
 rw[Int.max_def];split<;>split<;>omega
section
variable {w:World} {s A:Res} {os:List Res} {p:Nat} {h:Hd} {n:Node}
theorem Node.tick_no {t:Int} (e:Int) (he:e=min (sup1 n.s.elapsed) (max n.s.elapsed 1073741824)) (hr:n.s.role≠4) (hc:¬ (max t 1≤e∧n.votes=true)):n.tick t=n.wElapsed e:=by
 subst he;unfold Node.tick;simp only[if_pos hr];exact if_neg hc
theorem Node.tick_ask {t:Int} (e:Int) (he:e=min (sup1 n.s.elapsed) (max n.s.elapsed 1073741824)) (hr:n.s.role≠4) (hc:max t 1≤e∧n.votes=true):n.tick t=(n.wElapsed e).ask:=by
 subst he;unfold Node.tick;simp only[if_pos hr];exact if_pos hc
theorem Node.tick_lead {t:Int} (e:Int) (he:e=min (sup1 n.s.elapsed) (max n.s.elapsed 1073741824)) (hr:¬ n.s.role≠4) (b:Node) (hb:b=if max t 1≤e then ((n.wElapsed e).wElapsed 0).wTransfer 0 else n.wElapsed e) :
  n.tick t=if 2≤(sup1 b.s.beat) then ((b.wBeat (sup1 b.s.beat)).wBeat 0).spread else b.wBeat (sup1 b.s.beat):=by
 subst he hb;unfold Node.tick;simp only[if_neg hr];rfl
theorem tick_ct {i:Inp} {y:Lay} {da:Option Addr} {dc:Nat} (hg:Good w s (A::os)) (nd:Nd s A p h n) (hR:NRng n) (hr:n.roomy) :
  Calls Tryz.prog 35 #[ptr p,.agg (inpV i y da dc).toArray] w (NPost w s os p (i64 0) (n.tick i.timeout)):=by
 obtain⟨hS,h1,h2,h3,h4⟩:=hr
 obtain⟨e,he⟩:∃ e,e=min (sup1 n.s.elapsed) (max n.s.elapsed 1073741824):=⟨_,rfl⟩
 have hR2:NRng (n.wElapsed e):=hR
 refine enter (l:=[ptr p,.agg (inpV i y da dc).toArray]) Tryz.func35 rfl Tryz.ntmps35 rfl ?_
 refine go 3 ?_
 rintro b1 w1 Q1 (hg1:Good _ s (Q1::A::os)) hax1 hb1
 refine go 4 ?_
 have hg2:=hg1.drew
 refine CW.dx [1,3,5,7,9,11,13,15,17,19,21,23,25,27,29,31,33] [34] 17 1 (fun w=>At1 p _ w∧True) ?_
 refine go 6 ?_
 refine RL.as_ rfl rfl rfl rfl (i64 (sup1 n.s.elapsed)) (rfl) ?_
 refine go 5 ?_
 refine RL.max rfl rfl rfl rfl rfl rfl ?_
 refine RL.min rfl rfl rfl rfl rfl rfl ?_
 rw[most_least,← he]
 refine go 5 ?_
 refine RL.sI (p:=p) (i:=1) (j:=14) hg2 (nd.cells) (NRest.wElapsed nd.rest) ?_
 rintro w3 A3 (hg3:Good _ s (Q1::A3::os)) hax3 nd3
 refine go 3 ?_
 have hg4:=hg3.drew
 refine CW.dw [1,3,5,7,9,11,13,15,17,18] (fun w=>At1 p _ w∧At1 b1 _ w∧True) ?_
 refine go 7 ?_
 refine RL.max rfl rfl rfl rfl rfl rfl ?_
 rw[one_most]
 refine go 24 ?_
 refine RL.part 39 rfl (fun h39=>?_) (fun h39=>?_)
 ·
  refine go 3 ?_
  refine RL.part 42 rfl (fun h42=>?_) (fun h42=>?_)
  ·
   refine go 2 ?_
   refine zc (votes_ct (hg4.front 1 rfl) nd3 hR2 hS) ?_
   rintro v5 s5 B5 w5 hle5 (hg5:Good _ s5 (B5::A3::Q1::os)) hax5 rfl
   have hg5:=hg5.drop
   have nd6:=nd3.up hle5
   refine go 4 ?_
   refine CW.cond rfl (fun h32=>?_) (fun h32=>?_)
   ·
    refine go 6 ?_
    refine zc (ask_ct hg5 nd6 hR2 ⟨hS,h1,h2,h3,h4⟩) ?_
    rintro v7 s7 A7 w7 hle7 (hg7:Good _ s7 (A7::Q1::os)) hax7 ⟨rfl,h7,nd7⟩
    refine go 6 ?_
    refine CW.ret (zr1 ?_)
    exact Post.mq (hg7.dropNext) ⟨rfl,_,nd7.to (Node.tick_ask e he (by simpa [Node.wElapsed] using h39) ⟨decide_t h42,h32⟩).symm⟩
   ·
    refine go 12 ?_
    refine CW.cond rfl (fun h46=>?_) (fun h46=>?_)
    ·
     refine go 6 ?_
     refine CW.ret (zr1 ?_)
     exact Post.mq (hg5.dropNext) ⟨rfl,_,nd6.to (Node.tick_no e he (by simpa [Node.wElapsed] using h39) (fun z=>by have:=z.2;rw[show n.votes=false from h32] at this;cases this)).symm⟩
    ·
     exact absurd h46 (by rw[h39];decide)
  ·
   refine go 18 ?_
   refine CW.cond rfl (fun h46=>?_) (fun h46=>?_)
   ·
    refine go 6 ?_
    refine CW.ret (zr1 ?_)
    exact Post.mq ((hg4.front 1 rfl).dropNext) ⟨rfl,_,nd3.to (Node.tick_no e he (by simpa [Node.wElapsed] using h39) (fun z=>decide_f h42 z.1)).symm⟩
   ·
    exact absurd h46 (by rw[h39];decide)
 ·
  refine go 21 ?_
  refine CW.cond rfl (fun h46=>?_) (fun h46=>?_)
  ·
   exact absurd h46 (by rw[h39];decide)
  ·
   have hro:¬ n.s.role≠4:=by simpa [Node.wElapsed] using h39
   refine go 6 ?_
   refine CW.cond rfl (fun h53=>?_) (fun h53=>?_)
   ·
    have hb:((n.wElapsed e).wElapsed 0).wTransfer 0=if max i.timeout 1≤e then ((n.wElapsed e).wElapsed 0).wTransfer 0 else n.wElapsed e:=(if_pos (decide_t h53)).symm
    refine go 7 ?_
    refine RL.sI (p:=p) (i:=1) (j:=14) hg4 (nd3.cells) (NRest.wElapsed nd3.rest) ?_
    rintro w8 A8 (hg8:Good _ s (Q1::A8::os)) hax8 nd8
    refine go 4 ?_
    refine RL.sI (p:=p) (i:=1) (j:=16) hg8 (nd8.cells) (NRest.wTransfer nd8.rest) ?_
    rintro w9 A9 (hg9:Good _ s (Q1::A9::os)) hax9 nd9
    refine go 9 ?_
    refine RL.as_ rfl rfl rfl rfl (i64 (sup1 n.s.beat)) (rfl) ?_
    refine go 3 ?_
    refine RL.sI (p:=p) (i:=1) (j:=15) hg9 (nd9.cells) (NRest.wBeat nd9.rest) ?_
    rintro w10 A10 (hg10:Good _ s (Q1::A10::os)) hax10 nd10
    refine go 13 ?_
    refine CW.cond rfl (fun h79=>?_) (fun h79=>?_)
    ·
     refine go 6 ?_
     refine RL.sI (p:=p) (i:=1) (j:=15) hg10 (nd10.cells) (NRest.wBeat nd10.rest) ?_
     rintro w11 A11 (hg11:Good _ s (Q1::A11::os)) hax11 nd11
     refine go 5 ?_
     refine zc (spread_ct (hg11.front 1 rfl) nd11 (hR.of rfl hR.2.1 hR.2.2.1 hR.2.2.2.1 rfl) hS (by show n.o.msgs.length+n.s.peers.length≤_;omega)) ?_
     rintro v12 s12 A12 w12 hle12 (hg12:Good _ s12 (A12::Q1::os)) hax12 ⟨rfl,ma12,mc12,nd12⟩
     refine go 6 ?_
     refine CW.ret (zr1 ?_)
     exact Post.mq (hg12.dropNext) ⟨rfl,_,nd12.to ((Node.tick_lead e he hro _ hb).trans (if_pos (decide_t h79))).symm⟩
    ·
     refine go 5 ?_
     refine CW.ret (zr1 ?_)
     exact Post.mq ((hg10.front 1 rfl).dropNext) ⟨rfl,_,nd10.to ((Node.tick_lead e he hro _ hb).trans (if_neg (decide_f h79))).symm⟩
   ·
    have hb:n.wElapsed e=if max i.timeout 1≤e then ((n.wElapsed e).wElapsed 0).wTransfer 0 else n.wElapsed e:=(if_neg (decide_f h53)).symm
    refine go 9 ?_
    refine RL.as_ rfl rfl rfl rfl (i64 (sup1 n.s.beat)) (rfl) ?_
    refine go 3 ?_
    refine RL.sI (p:=p) (i:=1) (j:=15) hg4 (nd3.cells) (NRest.wBeat nd3.rest) ?_
    rintro w13 A13 (hg13:Good _ s (Q1::A13::os)) hax13 nd13
    refine go 13 ?_
    refine CW.cond rfl (fun h79=>?_) (fun h79=>?_)
    ·
     refine go 6 ?_
     refine RL.sI (p:=p) (i:=1) (j:=15) hg13 (nd13.cells) (NRest.wBeat nd13.rest) ?_
     rintro w14 A14 (hg14:Good _ s (Q1::A14::os)) hax14 nd14
     refine go 5 ?_
     refine zc (spread_ct (hg14.front 1 rfl) nd14 (hR.of rfl hR.2.1 hR.2.2.1 hR.2.2.2.1 rfl) hS (by show n.o.msgs.length+n.s.peers.length≤_;omega)) ?_
     rintro v15 s15 A15 w15 hle15 (hg15:Good _ s15 (A15::Q1::os)) hax15 ⟨rfl,ma15,mc15,nd15⟩
     refine go 6 ?_
     refine CW.ret (zr1 ?_)
     exact Post.mq (hg15.dropNext) ⟨rfl,_,nd15.to ((Node.tick_lead e he hro _ hb).trans (if_pos (decide_t h79))).symm⟩
    ·
     refine go 5 ?_
     refine CW.ret (zr1 ?_)
     exact Post.mq ((hg13.front 1 rfl).dropNext) ⟨rfl,_,nd13.to ((Node.tick_lead e he hro _ hb).trans (if_neg (decide_f h79))).symm⟩
def PeerAt (h:Hd) (n:Node) (other:Int) (a:Option Addr):Prop :=
 (a=none∧n.peer other=none) ∨
 ∃ g k,∃ hk:k<n.s.peers.length,a=some ((⟨g,0,none⟩:Addr).add (k*3))∧h.pa=some ⟨g,0,none⟩∧n.peer other=some n.s.peers[k]∧n.s.peers.findIdx? (fun p=>decide (p.node=other))=some k
theorem peer_here {l:List Peer} {other:Int} {k:Nat} (hk:k<l.length) (hp:l[k].node=other) (hn:∀ x∈l.take k,decide (x.node=other)=false):l.find? (fun p=>decide (p.node=other))=some l[k]∧l.findIdx? (fun p=>decide (p.node=other))=some k:=by
 have hj:∀ j (hj:j<k),decide ((l[j]'(by omega)).node=other)=false:=fun j hj=>hn _ (by rw[List.mem_take_iff_getElem];exact⟨j,by omega,rfl⟩)
 constructor
 ·
  rw[List.find?_eq_some_iff_getElem]
  exact⟨by simpa using hp,k,hk,rfl,fun j hjk=>by simpa using hj j hjk⟩
 ·
  rw[List.findIdx?_eq_some_iff_getElem]
  exact⟨hk,by simpa using hp,fun j hjk=>by simpa using hj j hjk⟩
theorem peer_ct {other:Int} (hg:Good w s (A::os)) (nd:Nd s A p h n) :
  Calls Tryz.prog 114 #[ptr p,i64 other] w (PostV w s (A::os) fun q=>∃ a,q = .pointer a∧PeerAt h n other a):=by
 have hlen:=nd.peers.le_max
 simp only[maxLen] at hlen
 refine enter (l:=[ptr p,i64 other]) Tryz.func114 rfl Tryz.ntmps114 rfl ?_
 refine go 16 ?_
 refine CW.loop (σ:=Nat) (fun j E w'=>Good w' s (A::os)∧Aux w w'∧∃ k:Nat,E=[(0,ptr p),(1,i64 other),(11,i64 n.s.peers.length),(12,i64 k)]∧k+j=n.s.peers.length∧∀ x∈n.s.peers.take k,decide (x.node=other)=false) (fun j=>j) n.s.peers.length [(0,ptr p),(1,i64 other),(11,i64 n.s.peers.length),(12,i64 0)] ⟨rfl,rfl,rfl,rfl,trivial⟩ ⟨hg,(Aux.refl _),0,rfl,by omega,by simp⟩ ?_
 rintro j E wL ⟨hgL,haxL,k,rfl,hk,hno⟩
 refine go 5 ?_
 refine CW.cond rfl (fun h13=>?_) (fun h13=>?_)
 ·
  refine go 16 ?_
  have hlt:k<n.s.peers.length:=by have:=decide_t h13;omega
  refine RL.idxL rfl rfl rfl rfl sl40.out rfl rfl nd.peers.lies (by omega) (by omega) ?_
  rintro q vs hvl hH ⟨rfl,er1⟩
  refine go 1 ?_
  refine RL.load (j:=0) rfl rfl rfl rfl ty3.out rfl (hH) (hgL.mem (by simp)) rfl ?_
  refine go 3 ?_
  refine CW.cond rfl (fun h25=>?_) (fun h25=>?_)
  ·
   refine go 8 ?_
   refine RL.idxOwn rfl rfl rfl rfl sl40.out rfl rfl nd.peers (by omega) (by omega) ?_
   rintro g cs vs hb hA hcs hvl2 hcell hE2
   refine go 2 ?_
   refine CW.ret (zr1 ?_)
   have hpn:n.s.peers[k].node=other:=by simpa using h25
   obtain⟨hf1,hf2⟩:=peer_here hlt hpn hno
   exact PostV.mq hgL ⟨_,rfl,.inr ⟨g,k,hlt,rfl,hb,hf1,hf2⟩⟩
  ·
   refine go 5 ?_
   have hpn:decide (n.s.peers[k].node=other)=false:=by simpa using h25
   have hno2:=takes hlt hno hpn
   cases j with
   | zero=>omega
   | succ j=>exact fun ac ha=>⟨j,[(0,ptr p),(1,i64 other),(11,i64 n.s.peers.length),(12,i64 ((k:Int)+1))],ha.sub ⟨rfl,rfl,rfl,rfl,trivial⟩,⟨hgL,haxL,k+1,rfl,by omega,hno2⟩,Nat.lt_succ_self j⟩
 ·
  refine go 5 ?_
  refine CW.ret (zr1 ?_)
  have hke:k=n.s.peers.length:=by have:=decide_f h13;omega
  rw[hke,List.take_length] at hno
  exact PostV.mq hgL ⟨none,rfl,.inl ⟨rfl,List.find?_eq_none.2 fun x hx=>by simpa using hno x hx⟩⟩
theorem unknown_ct {a:Value} (hg:Good w s (A::os)) (nd:Nd s A p h n) :
  Calls Tryz.prog 34 #[ptr p,a] w (NPost w s os p (i64 1) n):=by
 refine enter (l:=[ptr p,a]) Tryz.func34 rfl Tryz.ntmps34 rfl ?_
 refine go 3 ?_
 rintro b16 w16 Q16 (hg16:Good _ s (Q16::A::os)) hax16 hb16
 refine go 7 ?_
 refine CW.ret (zr1 ?_)
 exact Post.mq ((hg16.front 1 rfl).dropNext) ⟨rfl,_,nd⟩
end
end Go.Lw
namespace Go.Lw
open Go.Proofs
attribute [local irreducible] RL RA
section
variable {w:World} {s A:Res} {os:List Res} {p:Nat} {h:Hd} {n:Node}
theorem stands_ct {m:Msg} {y:Lay} {f:FuncId} {won:Node→Node} (hg:Good w s (A::os)) (nd:Nd s A p h n) (hR:NRng n) (hr:n.roomy) (hbl:n.s.ballots.length≤68719476736) (hm:MsgOk s m y) (hc:callable Tryz.prog f=true)
  (hw:∀ w' s' A' h',Good w' s' (A'::os)→Nd s' A' p h' (n.addBallot m.frm (!m.reject))→Calls Tryz.prog f #[ptr p] w' (NPost w' s' os p (.tuple #[]) (won (n.addBallot m.frm (!m.reject))))) :
  Calls Tryz.prog 105 #[ptr p,.agg (msgV m y).toArray,.func (.func f) #[ptr p] #[]] w (NPost w s os p (.tuple #[]) (n.stands m won)):=by
 obtain⟨hS,h1,h2,h3,h4⟩:=hr
 have hcs:=confP_small hS
 refine enter (l:=[ptr p,.agg (msgV m y).toArray,.func (.func f) #[ptr p] #[]]) Tryz.func105 rfl Tryz.ntmps105 rfl ?_
 refine go 3 ?_
 rintro b1 w1 Q1 (hg1:Good _ s (Q1::A::os)) hax1 hb1
 refine go 11 ?_
 refine zc (ballot_ct (hg1.front 1 rfl) nd hR hS hm.frm hbl hcs.1) ?_
 rintro v2 s2 A2 w2 hle2 (hg2:Good _ s2 (A2::Q1::os)) hax2 ⟨rfl,h2,nd2⟩
 refine go 8 ?_
 refine CW.cond rfl (fun h13=>?_) (fun h13=>?_)
 ·
  refine go 2 ?_
  refine RL.callB rfl rfl rfl rfl rfl rfl hc (hw _ _ _ _ (hg2.dropNext) nd2) ?_
  rintro e3 w3 ⟨v3,s3,A3,rfl,hle3,(hg3:Good _ s3 (A3::os)),hax3,⟨rfl,h3,nd3⟩⟩
  refine⟨_,rfl,trivial,?_⟩
  refine go 1 ?_
  refine fall (vs:=[]) rfl ?_
  refine Post.mq hg3 ⟨rfl,_,nd3.to ?_⟩
  simp only[Node.stands,if_pos (show (n.addBallot m.frm (!m.reject)).tally=1 by simpa using h13)]
 ·
  refine go 5 ?_
  refine CW.cond rfl (fun h17=>?_) (fun h17=>?_)
  ·
   refine go 9 ?_
   refine zc (follow_ct hg2 nd2) ?_
   rintro v4 s4 A4 w4 hle4 (hg4:Good _ s4 (A4::Q1::os)) hax4 ⟨rfl,h4,nd4⟩
   refine go 2 ?_
   refine fall (vs:=[]) rfl ?_
   refine Post.mq (hg4.dropNext) ⟨rfl,_,nd4.to ?_⟩
   simp only[Node.stands,if_neg (show ¬ (n.addBallot m.frm (!m.reject)).tally=1 by simpa using h13),if_pos (show (n.addBallot m.frm (!m.reject)).tally = -1 by simpa using h17)]
  ·
   refine go 1 ?_
   refine fall (vs:=[]) rfl ?_
   refine Post.mq (hg2.dropNext) ⟨rfl,_,nd2.to ?_⟩
   simp only[Node.stands,if_neg (show ¬ (n.addBallot m.frm (!m.reject)).tally=1 by simpa using h13),if_neg (show ¬ (n.addBallot m.frm (!m.reject)).tally = -1 by simpa using h17)]
theorem vote_t {m:Msg} (h1:n.s.hard.vote=0∨n.s.hard.vote=m.frm) (h2:n.s.role=1) (h3:newerP n.s.log m.index m.logTerm=true):n.vote m=((n.wVote m.frm).wElapsed 0).post { Msg.zero with kind:=4,to:=m.frm,reject:= !true }:=by
 have hy:(decide (n.s.hard.vote=0∨n.s.hard.vote=m.frm) && decide (n.s.role=1) && newerP n.s.log m.index m.logTerm)=true:=by simp[h1,h2,h3]
 simp only[Node.vote,hy,if_true];rfl
theorem vote_f {m:Msg} (h0:¬ (n.s.hard.vote=0∨n.s.hard.vote=m.frm)∨n.s.role≠1∨newerP n.s.log m.index m.logTerm=false):n.vote m=n.post { Msg.zero with kind:=4,to:=m.frm,reject:= !false }:=by
 have hy:(decide (n.s.hard.vote=0∨n.s.hard.vote=m.frm) && decide (n.s.role=1) && newerP n.s.log m.index m.logTerm)=false:=by
  rcases h0 with h | h | h<;>simp[h]
 simp only[Node.vote,hy,Bool.false_eq_true,if_false]
theorem vote_ct {m:Msg} {y:Lay} (hg:Good w s (A::os)) (nd:Nd s A p h n) (hR:NRng n) (hr:n.roomy) (hm:MsgOk s m y) :
  Calls Tryz.prog 106 #[ptr p,.agg (msgV m y).toArray] w (NPost w s os p (.tuple #[]) (n.vote m)):=by
 obtain⟨hS,h1,h2,h3,h4⟩:=hr
 refine enter (l:=[ptr p,.agg (msgV m y).toArray]) Tryz.func106 rfl Tryz.ntmps106 rfl ?_
 refine go 3 ?_
 rintro b5 w5 Q5 (hg5:Good _ s (Q5::A::os)) hax5 hb5
 refine go 3 ?_
 have hg6:=hg5.drew
 refine CW.dw [1,3,5,7,9,11,13,15,17,19,21,23,25,27,29,31,33,35,36] (fun w=>At1 p _ w∧At1 b5 _ w∧True) ?_
 refine go 8 ?_
 refine RL.part 13 rfl (fun h13=>?_) (fun h13=>?_)
 ·
  refine go 13 ?_
  have hg7:=hg6.drew
  refine CW.dw [1,3,5,7,9,11,13,15,17,19,21,23,25,27,29,31,33,35,37,38,41,42] (fun w=>At1 p _ w∧At1 b5 _ w∧True) ?_
  refine go 10 ?_
  refine RL.part 33 rfl (fun h33=>?_) (fun h33=>?_)
  ·
   refine go 10 ?_
   refine zw (Newer_ct hg7 (.inr (by simp)) (nd.at_ hR)) ?_
   rintro v8 w8 (hg8:Good _ s (Q5::A::os)) hax8 rfl
   refine go 9 ?_
   refine CW.cond rfl (fun h45=>?_) (fun h45=>?_)
   ·
    have hRv:NRng ((n.wVote m.frm).wElapsed 0):=hR.of rfl hR.2.1 hm.frm hR.2.2.2.1 rfl
    refine go 9 ?_
    refine RL.sI (p:=p) (i:=1) (j:=2) hg8 (nd.cells) (NRest.wVote nd.rest) ?_
    rintro w9 A9 (hg9:Good _ s (Q5::A9::os)) hax9 nd9
    refine go 4 ?_
    refine RL.sI (p:=p) (i:=1) (j:=14) hg9 (nd9.cells) (NRest.wElapsed nd9.rest) ?_
    rintro w10 A10 (hg10:Good _ s (Q5::A10::os)) hax10 nd10
    refine go 10 ?_
    refine zc (post_ct (m:={ Msg.zero with kind:=4,to:=m.frm,reject:=_ }) (y:=Lay.none) (hg10.front 1 rfl) nd10 hRv { MsgOk.zero _ with kind:=by simp[rng],to:=hm.frm } (by show n.o.msgs.length≤_;omega)) ?_
    rintro v11 s11 A11 w11 hle11 (hg11:Good _ s11 (A11::Q5::os)) hax11 ⟨rfl,ma11,mc11,nd11⟩
    refine go 2 ?_
    refine fall (vs:=[]) rfl ?_
    exact Post.mq (hg11.dropNext) ⟨rfl,_,nd11.to (by simp only[h45];exact (vote_t (.inl (by simpa using h13)) (by simpa using h33) h45).symm)⟩
   ·
    have hRv:=hR
    refine go 9 ?_
    refine zc (post_ct (m:={ Msg.zero with kind:=4,to:=m.frm,reject:=_ }) (y:=Lay.none) (hg8.front 1 rfl) nd hRv { MsgOk.zero _ with kind:=by simp[rng],to:=hm.frm } (by show n.o.msgs.length≤_;omega)) ?_
    rintro v12 s12 A12 w12 hle12 (hg12:Good _ s12 (A12::Q5::os)) hax12 ⟨rfl,ma12,mc12,nd12⟩
    refine go 2 ?_
    refine fall (vs:=[]) rfl ?_
    exact Post.mq (hg12.dropNext) ⟨rfl,_,nd12.to (by simp only[h45];exact (vote_f (.inr (.inr h45))).symm)⟩
  ·
   have hRv:=hR
   refine go 28 ?_
   refine zc (post_ct (m:={ Msg.zero with kind:=4,to:=m.frm,reject:=_ }) (y:=Lay.none) (hg7.front 1 rfl) nd hRv { MsgOk.zero _ with kind:=by simp[rng],to:=hm.frm } (by show n.o.msgs.length≤_;omega)) ?_
   rintro v13 s13 A13 w13 hle13 (hg13:Good _ s13 (A13::Q5::os)) hax13 ⟨rfl,ma13,mc13,nd13⟩
   refine go 2 ?_
   refine fall (vs:=[]) rfl ?_
   exact Post.mq (hg13.dropNext) ⟨rfl,_,nd13.to (vote_f (.inr (.inl (by simpa using h33)))).symm⟩
 ·
  refine go 13 ?_
  have hg14:=hg6.drew
  refine CW.dw [1,3,5,7,9,11,13,15,17,19,21,23,25,27,29,31,33,35,37,38,41,42] (fun w=>At1 p _ w∧At1 b5 _ w∧True) ?_
  refine go 2 ?_
  refine RL.part 25 rfl (fun h25=>?_) (fun h25=>?_)
  ·
   refine go 8 ?_
   refine RL.part 33 rfl (fun h33=>?_) (fun h33=>?_)
   ·
    refine go 10 ?_
    refine zw (Newer_ct hg14 (.inr (by simp)) (nd.at_ hR)) ?_
    rintro v15 w15 (hg15:Good _ s (Q5::A::os)) hax15 rfl
    refine go 9 ?_
    refine CW.cond rfl (fun h45=>?_) (fun h45=>?_)
    ·
     have hRv:NRng ((n.wVote m.frm).wElapsed 0):=hR.of rfl hR.2.1 hm.frm hR.2.2.2.1 rfl
     refine go 9 ?_
     refine RL.sI (p:=p) (i:=1) (j:=2) hg15 (nd.cells) (NRest.wVote nd.rest) ?_
     rintro w16 A16 (hg16:Good _ s (Q5::A16::os)) hax16 nd16
     refine go 4 ?_
     refine RL.sI (p:=p) (i:=1) (j:=14) hg16 (nd16.cells) (NRest.wElapsed nd16.rest) ?_
     rintro w17 A17 (hg17:Good _ s (Q5::A17::os)) hax17 nd17
     refine go 10 ?_
     refine zc (post_ct (m:={ Msg.zero with kind:=4,to:=m.frm,reject:=_ }) (y:=Lay.none) (hg17.front 1 rfl) nd17 hRv { MsgOk.zero _ with kind:=by simp[rng],to:=hm.frm } (by show n.o.msgs.length≤_;omega)) ?_
     rintro v18 s18 A18 w18 hle18 (hg18:Good _ s18 (A18::Q5::os)) hax18 ⟨rfl,ma18,mc18,nd18⟩
     refine go 2 ?_
     refine fall (vs:=[]) rfl ?_
     exact Post.mq (hg18.dropNext) ⟨rfl,_,nd18.to (by simp only[h45];exact (vote_t (.inr (by simpa using h25)) (by simpa using h33) h45).symm)⟩
    ·
     have hRv:=hR
     refine go 9 ?_
     refine zc (post_ct (m:={ Msg.zero with kind:=4,to:=m.frm,reject:=_ }) (y:=Lay.none) (hg15.front 1 rfl) nd hRv { MsgOk.zero _ with kind:=by simp[rng],to:=hm.frm } (by show n.o.msgs.length≤_;omega)) ?_
     rintro v19 s19 A19 w19 hle19 (hg19:Good _ s19 (A19::Q5::os)) hax19 ⟨rfl,ma19,mc19,nd19⟩
     refine go 2 ?_
     refine fall (vs:=[]) rfl ?_
     exact Post.mq (hg19.dropNext) ⟨rfl,_,nd19.to (by simp only[h45];exact (vote_f (.inr (.inr h45))).symm)⟩
   ·
    have hRv:=hR
    refine go 28 ?_
    refine zc (post_ct (m:={ Msg.zero with kind:=4,to:=m.frm,reject:=_ }) (y:=Lay.none) (hg14.front 1 rfl) nd hRv { MsgOk.zero _ with kind:=by simp[rng],to:=hm.frm } (by show n.o.msgs.length≤_;omega)) ?_
    rintro v20 s20 A20 w20 hle20 (hg20:Good _ s20 (A20::Q5::os)) hax20 ⟨rfl,ma20,mc20,nd20⟩
    refine go 2 ?_
    refine fall (vs:=[]) rfl ?_
    exact Post.mq (hg20.dropNext) ⟨rfl,_,nd20.to (vote_f (.inr (.inl (by simpa using h33)))).symm⟩
  ·
   have hRv:=hR
   refine go 36 ?_
   refine zc (post_ct (m:={ Msg.zero with kind:=4,to:=m.frm,reject:=_ }) (y:=Lay.none) (hg14.front 1 rfl) nd hRv { MsgOk.zero _ with kind:=by simp[rng],to:=hm.frm } (by show n.o.msgs.length≤_;omega)) ?_
   rintro v21 s21 A21 w21 hle21 (hg21:Good _ s21 (A21::Q5::os)) hax21 ⟨rfl,ma21,mc21,nd21⟩
   refine go 2 ?_
   refine fall (vs:=[]) rfl ?_
   exact Post.mq (hg21.dropNext) ⟨rfl,_,nd21.to (vote_f (.inl (fun z=>z.elim (fun z=>by simp[z] at h13) (fun z=>by simp[z] at h25)))).symm⟩
theorem voted_ct {m:Msg} {y:Lay} (hg:Good w s (A::os)) (nd:Nd s A p h n) (hR:NRng n) (hr:n.roomy) (hbl:n.s.ballots.length≤68719476736) (hm:MsgOk s m y) :
  Calls Tryz.prog 107 #[ptr p,.agg (msgV m y).toArray] w (NPost w s os p (.tuple #[]) (n.voted m)):=by
 refine enter (l:=[ptr p,.agg (msgV m y).toArray]) Tryz.func107 rfl Tryz.ntmps107 rfl ?_
 refine go 3 ?_
 rintro b22 w22 Q22 (hg22:Good _ s (Q22::A::os)) hax22 hb22
 refine go 11 ?_
 refine CW.cond rfl (fun h9=>?_) (fun h9=>?_)
 ·
  refine go 4 ?_
  refine RL.makeB rfl rfl rfl rfl rfl rfl ?_
  refine go 1 ?_
  refine zc (stands_ct (won:=Node.lead) (hg22.front 1 rfl) nd hR hr hbl hm rfl (fun w' s' A' h' hg' nd'=>lead_ct hg' nd' (hR.of rfl hR.2.1 hR.2.2.1 hR.2.2.2.1 rfl) hr)) ?_
  rintro v23 s23 A23 w23 hle23 (hg23:Good _ s23 (A23::Q22::os)) hax23 ⟨rfl,h23,nd23⟩
  refine go 2 ?_
  refine fall (vs:=[]) rfl ?_
  exact Post.mq (hg23.dropNext) ⟨rfl,_,nd23.to (by simp only[Node.voted,if_pos (show n.s.role=3 by simpa using h9)])⟩
 ·
  refine go 1 ?_
  refine fall (vs:=[]) rfl ?_
  exact Post.mq ((hg22.front 1 rfl).dropNext) ⟨rfl,_,nd.to (by simp only[Node.voted,if_neg (show ¬ n.s.role=3 by simpa using h9)])⟩
theorem now_t (h1:n.s.role=1) (h2:n.votes=true):n.now=n.stand:=by unfold Node.now;rw[if_pos ⟨h1,h2⟩]
theorem now_f (h1:n.s.role≠1∨n.votes=false):n.now=n:=by
 unfold Node.now;rw[if_neg (fun z=>h1.elim (fun k=>k z.1) (fun k=>by rw[k] at z;cases z.2))]
theorem now_ct {m:Msg} {y:Lay} (hg:Good w s (A::os)) (nd:Nd s A p h n) (hR:NRng n) (hr:n.roomy) :
  Calls Tryz.prog 112 #[ptr p,.agg (msgV m y).toArray] w (NPost w s os p (.tuple #[]) n.now):=by
 refine enter (l:=[ptr p,.agg (msgV m y).toArray]) Tryz.func112 rfl Tryz.ntmps112 rfl ?_
 refine go 3 ?_
 rintro b24 w24 Q24 (hg24:Good _ s (Q24::A::os)) hax24 hb24
 refine go 11 ?_
 refine RL.part 10 rfl (fun h10=>?_) (fun h10=>?_)
 ·
  refine go 2 ?_
  refine zc (votes_ct (hg24.front 1 rfl) nd hR hr.1) ?_
  rintro v25 s25 B25 w25 hle25 (hg25:Good _ s25 (B25::A::Q24::os)) hax25 rfl
  have hg25:=hg25.drop
  have nd26:=nd.up hle25
  refine go 3 ?_
  refine CW.cond rfl (fun h13=>?_) (fun h13=>?_)
  ·
   refine go 3 ?_
   refine zc (stand_ct hg25 nd26 hR hr) ?_
   rintro v27 s27 A27 w27 hle27 (hg27:Good _ s27 (A27::Q24::os)) hax27 ⟨rfl,h27,nd27⟩
   refine go 2 ?_
   refine fall (vs:=[]) rfl ?_
   exact Post.mq (hg27.dropNext) ⟨rfl,_,nd27.to (now_t (by simpa using h10) h13).symm⟩
  ·
   refine go 1 ?_
   refine fall (vs:=[]) rfl ?_
   exact Post.mq (hg25.dropNext) ⟨rfl,_,nd26.to (now_f (.inr h13)).symm⟩
 ·
  refine go 6 ?_
  refine fall (vs:=[]) rfl ?_
  exact Post.mq ((hg24.front 1 rfl).dropNext) ⟨rfl,_,nd.to (now_f (.inl (by simpa using h10))).symm⟩
theorem late_ct {m:Msg} {y:Lay} (hg:Good w s (A::os)) (nd:Nd s A p h n) (hR:NRng n) (hr:n.roomy) (hm:MsgOk s m y) :
  Calls Tryz.prog 74 #[ptr p,.agg (msgV m y).toArray] w (NPost w s os p (.tuple #[]) (n.late m)):=by
 obtain⟨hS,h1,h2,h3,h4⟩:=hr
 have hl:=(nd.at_ hR).last_rng.1
 refine enter (l:=[ptr p,.agg (msgV m y).toArray]) Tryz.func74 rfl Tryz.ntmps74 rfl ?_
 refine go 3 ?_
 rintro b28 w28 Q28 (hg28:Good _ s (Q28::A::os)) hax28 hb28
 refine go 20 ?_
 refine CW.cond rfl (fun h6=>?_) (fun h6=>?_)
 ·
  refine go 8 ?_
  refine zc (post_ct (m:={ Msg.zero with kind:=4,to:=m.frm,reject:=true }) (y:=Lay.none) (hg28.front 1 rfl) nd hR { MsgOk.zero _ with kind:=by simp[rng],to:=hm.frm } (by omega)) ?_
  rintro v29 s29 A29 w29 hle29 (hg29:Good _ s29 (A29::Q28::os)) hax29 ⟨rfl,ma29,mc29,nd29⟩
  refine go 3 ?_
  refine fall (vs:=[]) rfl ?_
  refine Post.mq (hg29.dropNext) ⟨rfl,_,nd29.to ?_⟩
  simp only[Node.late,if_pos (show m.kind=3 by simpa using h6)]
 ·
  refine go 7 ?_
  refine CW.cond rfl (fun h8=>?_) (fun h8=>?_)
  ·
   refine go 2 ?_
   have hg30:=hg28.drew
   refine CW.dw [1,3,5,7,9,11,12,15,16] (fun w=>At1 b28 _ w∧True) ?_
   refine go 7 ?_
   refine zw (last_ct (hg30.front 1 rfl) nd hR) ?_
   rintro v31 w31 (hg31:Good _ s (A::Q28::os)) hax31 rfl
   refine go 3 ?_
   refine zc (post_ct (m:={ Msg.zero with kind:=6,to:=m.frm,reject:=true,index:=m.index,hint:=n.last }) (y:=Lay.none) hg31 nd hR { MsgOk.zero _ with kind:=by simp[rng],to:=hm.frm,index:=hm.index,hint:=hl } (by omega)) ?_
   rintro v32 s32 A32 w32 hle32 (hg32:Good _ s32 (A32::Q28::os)) hax32 ⟨rfl,ma32,mc32,nd32⟩
   refine go 3 ?_
   refine fall (vs:=[]) rfl ?_
   refine Post.mq (hg32.dropNext) ⟨rfl,_,nd32.to ?_⟩
   simp only[Node.late,if_neg (show ¬ m.kind=3 by simpa using h6),if_pos (show m.kind=5∨m.kind=7 from .inl (by simpa using h8))]
  ·
   refine go 6 ?_
   refine CW.cond rfl (fun h10=>?_) (fun h10=>?_)
   ·
    refine go 2 ?_
    have hg33:=hg28.drew
    refine CW.dw [1,3,5,7,9,11,12,15,16] (fun w=>At1 b28 _ w∧True) ?_
    refine go 7 ?_
    refine zw (last_ct (hg33.front 1 rfl) nd hR) ?_
    rintro v34 w34 (hg34:Good _ s (A::Q28::os)) hax34 rfl
    refine go 3 ?_
    refine zc (post_ct (m:={ Msg.zero with kind:=6,to:=m.frm,reject:=true,index:=m.index,hint:=n.last }) (y:=Lay.none) hg34 nd hR { MsgOk.zero _ with kind:=by simp[rng],to:=hm.frm,index:=hm.index,hint:=hl } (by omega)) ?_
    rintro v35 s35 A35 w35 hle35 (hg35:Good _ s35 (A35::Q28::os)) hax35 ⟨rfl,ma35,mc35,nd35⟩
    refine go 3 ?_
    refine fall (vs:=[]) rfl ?_
    refine Post.mq (hg35.dropNext) ⟨rfl,_,nd35.to ?_⟩
    simp only[Node.late,if_neg (show ¬ m.kind=3 by simpa using h6),if_pos (show m.kind=5∨m.kind=7 from .inr (by simpa using h10))]
   ·
    refine go 2 ?_
    refine fall (vs:=[]) rfl ?_
    refine Post.mq ((hg28.front 1 rfl).dropNext) ⟨rfl,_,nd.to ?_⟩
    simp only[Node.late,if_neg (show ¬ m.kind=3 by simpa using h6),if_neg (show ¬ (m.kind=5∨m.kind=7) from fun z=>z.elim (fun z=>by simp[z] at h8) (fun z=>by simp[z] at h10))]
theorem preVote_t {m:Msg} (h1:n.s.role≠4) (h2:n.s.leader=0∨4≤n.s.elapsed) (h3:n.s.hard.term<m.term) (h4:newerP n.s.log m.index m.logTerm=true):n.preVote m=n.send { Msg.zero with kind:=2,frm:=n.s.id,to:=m.frm,term:=m.term,reject:= !true }:=by
 have hy:(decide (n.s.role≠4∧(n.s.leader=0∨4≤n.s.elapsed)) && decide (n.s.hard.term<m.term) && newerP n.s.log m.index m.logTerm)=true:=by simp[h1,h2,h3,h4]
 simp only[Node.preVote,hy,if_true]
theorem preVote_f {m:Msg} (h0:¬ (n.s.role≠4)∨¬ (n.s.leader=0∨4≤n.s.elapsed)∨¬ n.s.hard.term<m.term∨newerP n.s.log m.index m.logTerm=false):n.preVote m=n.send { Msg.zero with kind:=2,frm:=n.s.id,to:=m.frm,term:=n.s.hard.term,reject:= !false }:=by
 have hy:(decide (n.s.role≠4∧(n.s.leader=0∨4≤n.s.elapsed)) && decide (n.s.hard.term<m.term) && newerP n.s.log m.index m.logTerm)=false:=by
  rcases h0 with h | h | h | h
  ·
   simp at h;simp[h]
  ·
   have:¬ (n.s.role≠4∧(n.s.leader=0∨4≤n.s.elapsed)):=fun z=>h z.2
   rw[decide_eq_false this];rfl
  ·
   rw[decide_eq_false h];simp
  ·
   rw[h];simp
 simp only[Node.preVote,hy,Bool.false_eq_true,if_false]
theorem preVote_ct {m:Msg} {y:Lay} (hg:Good w s (A::os)) (nd:Nd s A p h n) (hR:NRng n) (hr:n.roomy) (hm:MsgOk s m y) :
  Calls Tryz.prog 70 #[ptr p,.agg (msgV m y).toArray] w (NPost w s os p (.tuple #[]) (n.preVote m)):=by
 obtain⟨hS,h1,h2,h3,h4⟩:=hr
 have hmt:∀ b,MsgOk s { Msg.zero with kind:=2,frm:=n.s.id,to:=m.frm,term:=m.term,reject:=b } Lay.none:=fun b=>{ MsgOk.zero _ with kind:=by simp[rng],frm:=hR.1,to:=hm.frm,term:=hm.term }
 have hmf:∀ b,MsgOk s { Msg.zero with kind:=2,frm:=n.s.id,to:=m.frm,term:=n.s.hard.term,reject:=b } Lay.none:=fun b=>{ MsgOk.zero _ with kind:=by simp[rng],frm:=hR.1,to:=hm.frm,term:=hR.2.1 }
 refine enter (l:=[ptr p,.agg (msgV m y).toArray]) Tryz.func70 rfl Tryz.ntmps70 rfl ?_
 refine go 3 ?_
 rintro b36 w36 Q36 (hg36:Good _ s (Q36::A::os)) hax36 hb36
 refine go 11 ?_
 refine RL.part 13 rfl (fun h13=>?_) (fun h13=>?_)
 ·
  refine go 7 ?_
  refine RL.part 20 rfl (fun h20=>?_) (fun h20=>?_)
  ·
   refine go 11 ?_
   have hg37:=hg36.drew
   refine CW.dw [1,3,5,7,9,11,13,15,17,19,21,23,25,27,29,31,33,35,37,39,41,43,44,47,48] (fun w=>At1 b36 _ w∧At1 p _ w∧True) ?_
   refine go 13 ?_
   refine RL.part 41 rfl (fun h41=>?_) (fun h41=>?_)
   ·
    refine go 10 ?_
    refine zw (Newer_ct hg37 (.inr (by simp)) (nd.at_ hR)) ?_
    rintro v38 w38 (hg38:Good _ s (Q36::A::os)) hax38 rfl
    refine go 5 ?_
    have hg39:=hg38.drew
    refine CW.dw [1,3,5,7,9,11,13,15,17,19,21,23,25,27,29,31,32,34] (fun w=>At1 p _ w∧At1 b36 _ w∧True) ?_
    refine go 17 ?_
    rintro b40 w40 Q40 (hg40:Good _ s (Q40::Q36::A::os)) hax40 hb40
    refine go 2 ?_
    rintro w41 Q41 (hg41:Good _ s (Q41::Q36::A::os)) hax41 hb41
    refine go 7 ?_
    refine CW.cond rfl (fun h69=>?_) (fun h69=>?_)
    ·
     have hmo:=hmt
     refine go 5 ?_
     rintro w42 Q42 (hg42:Good _ s (Q42::Q36::A::os)) hax42 hb42
     refine go 2 ?_
     have hg43:=hg42.drew
     refine CW.dx [1,3,5,7,9,11,13,14,16,19,21,23] [24] 12 1 (fun w=>At1 p _ w∧At1 b40 _ w∧True) ?_
     refine go 8 ?_
     rintro b44 w44 Q44 (hg44:Good _ s (Q44::Q42::Q36::A::os)) hax44 hb44
     refine go 1 ?_
     refine RL.append2 (i:=3) (ys:=[_]) rfl rfl rfl rfl sl48.out ze56.out rfl RMsg.one rfl rfl hg44 rfl nd.msgs (one_src sl48.out rfl hb44 (hg44.mem (by simp))) (Chunks.single rfl ⟨Lay.none,rfl,hmo _⟩) ((by simp only[List.length_singleton];omega)) (by omega) ?_
     rintro a45 c45 A45 w45 (hg45:Good _ s (Q44::Q42::Q36::A45::os)) ho45 hax45 hk45 hn45
     obtain⟨hp45,hr45⟩:=nd.appMsgs ho45 hk45
     refine go 6 ?_
     refine RL.sN (p:=p) (i:=3) (j:=24) hg45 (hp45) (hr45) ?_
     rintro w46 A46 (hg46:Good _ s (Q44::Q42::Q36::A46::os)) hax46 nd46
     refine go 2 ?_
     refine fall (vs:=[]) rfl ?_
     exact Post.mq ((((hg46.front 3 rfl).dropNext).dropNext).dropNext) ⟨rfl,_,nd46.to (by simp only[h69];exact (preVote_t (by simpa using h13) (.inl (by simpa using h20)) (decide_t h41) h69).symm)⟩
    ·
     have hmo:=hmf
     refine go 1 ?_
     have hg47:=hg41.drew
     refine CW.dx [1,3,5,7,9,11,13,14,16,19,21,23] [24] 12 1 (fun w=>At1 p _ w∧At1 b40 _ w∧True) ?_
     refine go 8 ?_
     rintro b48 w48 Q48 (hg48:Good _ s (Q48::Q41::Q36::A::os)) hax48 hb48
     refine go 1 ?_
     refine RL.append2 (i:=3) (ys:=[_]) rfl rfl rfl rfl sl48.out ze56.out rfl RMsg.one rfl rfl hg48 rfl nd.msgs (one_src sl48.out rfl hb48 (hg48.mem (by simp))) (Chunks.single rfl ⟨Lay.none,rfl,hmo _⟩) ((by simp only[List.length_singleton];omega)) (by omega) ?_
     rintro a49 c49 A49 w49 (hg49:Good _ s (Q48::Q41::Q36::A49::os)) ho49 hax49 hk49 hn49
     obtain⟨hp49,hr49⟩:=nd.appMsgs ho49 hk49
     refine go 6 ?_
     refine RL.sN (p:=p) (i:=3) (j:=24) hg49 (hp49) (hr49) ?_
     rintro w50 A50 (hg50:Good _ s (Q48::Q41::Q36::A50::os)) hax50 nd50
     refine go 2 ?_
     refine fall (vs:=[]) rfl ?_
     exact Post.mq ((((hg50.front 3 rfl).dropNext).dropNext).dropNext) ⟨rfl,_,nd50.to (by simp only[h69];exact (preVote_f (.inr (.inr (.inr h69)))).symm)⟩
   ·
    have hmo:=hmf
    refine go 14 ?_
    have hg51:=hg37.drew
    refine CW.dw [1,3,5,7,9,11,13,15,17,19,21,23,25,27,29,31,32,34] (fun w=>At1 p _ w∧At1 b36 _ w∧True) ?_
    refine go 17 ?_
    rintro b52 w52 Q52 (hg52:Good _ s (Q52::Q36::A::os)) hax52 hb52
    refine go 2 ?_
    rintro w53 Q53 (hg53:Good _ s (Q53::Q36::A::os)) hax53 hb53
    refine go 9 ?_
    have hg54:=hg53.drew
    refine CW.dx [1,3,5,7,9,11,13,14,16,19,21,23] [24] 12 1 (fun w=>At1 p _ w∧At1 b52 _ w∧True) ?_
    refine go 8 ?_
    rintro b55 w55 Q55 (hg55:Good _ s (Q55::Q53::Q36::A::os)) hax55 hb55
    refine go 1 ?_
    refine RL.append2 (i:=3) (ys:=[_]) rfl rfl rfl rfl sl48.out ze56.out rfl RMsg.one rfl rfl hg55 rfl nd.msgs (one_src sl48.out rfl hb55 (hg55.mem (by simp))) (Chunks.single rfl ⟨Lay.none,rfl,hmo _⟩) ((by simp only[List.length_singleton];omega)) (by omega) ?_
    rintro a56 c56 A56 w56 (hg56:Good _ s (Q55::Q53::Q36::A56::os)) ho56 hax56 hk56 hn56
    obtain⟨hp56,hr56⟩:=nd.appMsgs ho56 hk56
    refine go 6 ?_
    refine RL.sN (p:=p) (i:=3) (j:=24) hg56 (hp56) (hr56) ?_
    rintro w57 A57 (hg57:Good _ s (Q55::Q53::Q36::A57::os)) hax57 nd57
    refine go 2 ?_
    refine fall (vs:=[]) rfl ?_
    exact Post.mq ((((hg57.front 3 rfl).dropNext).dropNext).dropNext) ⟨rfl,_,nd57.to ((preVote_f (.inr (.inr (.inl (decide_f h41))))).symm)⟩
  ·
   refine go 11 ?_
   have hg58:=hg36.drew
   refine CW.dw [1,3,5,7,9,11,13,15,17,19,21,23,25,27,29,31,33,35,37,39,41,43,44,47,48] (fun w=>At1 b36 _ w∧At1 p _ w∧True) ?_
   refine go 2 ?_
   refine RL.part 30 rfl (fun h30=>?_) (fun h30=>?_)
   ·
    refine go 11 ?_
    refine RL.part 41 rfl (fun h41=>?_) (fun h41=>?_)
    ·
     refine go 10 ?_
     refine zw (Newer_ct hg58 (.inr (by simp)) (nd.at_ hR)) ?_
     rintro v59 w59 (hg59:Good _ s (Q36::A::os)) hax59 rfl
     refine go 5 ?_
     have hg60:=hg59.drew
     refine CW.dw [1,3,5,7,9,11,13,15,17,19,21,23,25,27,29,31,32,34] (fun w=>At1 p _ w∧At1 b36 _ w∧True) ?_
     refine go 17 ?_
     rintro b61 w61 Q61 (hg61:Good _ s (Q61::Q36::A::os)) hax61 hb61
     refine go 2 ?_
     rintro w62 Q62 (hg62:Good _ s (Q62::Q36::A::os)) hax62 hb62
     refine go 7 ?_
     refine CW.cond rfl (fun h69=>?_) (fun h69=>?_)
     ·
      have hmo:=hmt
      refine go 5 ?_
      rintro w63 Q63 (hg63:Good _ s (Q63::Q36::A::os)) hax63 hb63
      refine go 2 ?_
      have hg64:=hg63.drew
      refine CW.dx [1,3,5,7,9,11,13,14,16,19,21,23] [24] 12 1 (fun w=>At1 p _ w∧At1 b61 _ w∧True) ?_
      refine go 8 ?_
      rintro b65 w65 Q65 (hg65:Good _ s (Q65::Q63::Q36::A::os)) hax65 hb65
      refine go 1 ?_
      refine RL.append2 (i:=3) (ys:=[_]) rfl rfl rfl rfl sl48.out ze56.out rfl RMsg.one rfl rfl hg65 rfl nd.msgs (one_src sl48.out rfl hb65 (hg65.mem (by simp))) (Chunks.single rfl ⟨Lay.none,rfl,hmo _⟩) ((by simp only[List.length_singleton];omega)) (by omega) ?_
      rintro a66 c66 A66 w66 (hg66:Good _ s (Q65::Q63::Q36::A66::os)) ho66 hax66 hk66 hn66
      obtain⟨hp66,hr66⟩:=nd.appMsgs ho66 hk66
      refine go 6 ?_
      refine RL.sN (p:=p) (i:=3) (j:=24) hg66 (hp66) (hr66) ?_
      rintro w67 A67 (hg67:Good _ s (Q65::Q63::Q36::A67::os)) hax67 nd67
      refine go 2 ?_
      refine fall (vs:=[]) rfl ?_
      exact Post.mq ((((hg67.front 3 rfl).dropNext).dropNext).dropNext) ⟨rfl,_,nd67.to (by simp only[h69];exact (preVote_t (by simpa using h13) (.inr (decide_t h30)) (decide_t h41) h69).symm)⟩
     ·
      have hmo:=hmf
      refine go 1 ?_
      have hg68:=hg62.drew
      refine CW.dx [1,3,5,7,9,11,13,14,16,19,21,23] [24] 12 1 (fun w=>At1 p _ w∧At1 b61 _ w∧True) ?_
      refine go 8 ?_
      rintro b69 w69 Q69 (hg69:Good _ s (Q69::Q62::Q36::A::os)) hax69 hb69
      refine go 1 ?_
      refine RL.append2 (i:=3) (ys:=[_]) rfl rfl rfl rfl sl48.out ze56.out rfl RMsg.one rfl rfl hg69 rfl nd.msgs (one_src sl48.out rfl hb69 (hg69.mem (by simp))) (Chunks.single rfl ⟨Lay.none,rfl,hmo _⟩) ((by simp only[List.length_singleton];omega)) (by omega) ?_
      rintro a70 c70 A70 w70 (hg70:Good _ s (Q69::Q62::Q36::A70::os)) ho70 hax70 hk70 hn70
      obtain⟨hp70,hr70⟩:=nd.appMsgs ho70 hk70
      refine go 6 ?_
      refine RL.sN (p:=p) (i:=3) (j:=24) hg70 (hp70) (hr70) ?_
      rintro w71 A71 (hg71:Good _ s (Q69::Q62::Q36::A71::os)) hax71 nd71
      refine go 2 ?_
      refine fall (vs:=[]) rfl ?_
      exact Post.mq ((((hg71.front 3 rfl).dropNext).dropNext).dropNext) ⟨rfl,_,nd71.to (by simp only[h69];exact (preVote_f (.inr (.inr (.inr h69)))).symm)⟩
    ·
     have hmo:=hmf
     refine go 14 ?_
     have hg72:=hg58.drew
     refine CW.dw [1,3,5,7,9,11,13,15,17,19,21,23,25,27,29,31,32,34] (fun w=>At1 p _ w∧At1 b36 _ w∧True) ?_
     refine go 17 ?_
     rintro b73 w73 Q73 (hg73:Good _ s (Q73::Q36::A::os)) hax73 hb73
     refine go 2 ?_
     rintro w74 Q74 (hg74:Good _ s (Q74::Q36::A::os)) hax74 hb74
     refine go 9 ?_
     have hg75:=hg74.drew
     refine CW.dx [1,3,5,7,9,11,13,14,16,19,21,23] [24] 12 1 (fun w=>At1 p _ w∧At1 b73 _ w∧True) ?_
     refine go 8 ?_
     rintro b76 w76 Q76 (hg76:Good _ s (Q76::Q74::Q36::A::os)) hax76 hb76
     refine go 1 ?_
     refine RL.append2 (i:=3) (ys:=[_]) rfl rfl rfl rfl sl48.out ze56.out rfl RMsg.one rfl rfl hg76 rfl nd.msgs (one_src sl48.out rfl hb76 (hg76.mem (by simp))) (Chunks.single rfl ⟨Lay.none,rfl,hmo _⟩) ((by simp only[List.length_singleton];omega)) (by omega) ?_
     rintro a77 c77 A77 w77 (hg77:Good _ s (Q76::Q74::Q36::A77::os)) ho77 hax77 hk77 hn77
     obtain⟨hp77,hr77⟩:=nd.appMsgs ho77 hk77
     refine go 6 ?_
     refine RL.sN (p:=p) (i:=3) (j:=24) hg77 (hp77) (hr77) ?_
     rintro w78 A78 (hg78:Good _ s (Q76::Q74::Q36::A78::os)) hax78 nd78
     refine go 2 ?_
     refine fall (vs:=[]) rfl ?_
     exact Post.mq ((((hg78.front 3 rfl).dropNext).dropNext).dropNext) ⟨rfl,_,nd78.to ((preVote_f (.inr (.inr (.inl (decide_f h41))))).symm)⟩
   ·
    have hmo:=hmf
    refine go 25 ?_
    have hg79:=hg58.drew
    refine CW.dw [1,3,5,7,9,11,13,15,17,19,21,23,25,27,29,31,32,34] (fun w=>At1 p _ w∧At1 b36 _ w∧True) ?_
    refine go 17 ?_
    rintro b80 w80 Q80 (hg80:Good _ s (Q80::Q36::A::os)) hax80 hb80
    refine go 2 ?_
    rintro w81 Q81 (hg81:Good _ s (Q81::Q36::A::os)) hax81 hb81
    refine go 9 ?_
    have hg82:=hg81.drew
    refine CW.dx [1,3,5,7,9,11,13,14,16,19,21,23] [24] 12 1 (fun w=>At1 p _ w∧At1 b80 _ w∧True) ?_
    refine go 8 ?_
    rintro b83 w83 Q83 (hg83:Good _ s (Q83::Q81::Q36::A::os)) hax83 hb83
    refine go 1 ?_
    refine RL.append2 (i:=3) (ys:=[_]) rfl rfl rfl rfl sl48.out ze56.out rfl RMsg.one rfl rfl hg83 rfl nd.msgs (one_src sl48.out rfl hb83 (hg83.mem (by simp))) (Chunks.single rfl ⟨Lay.none,rfl,hmo _⟩) ((by simp only[List.length_singleton];omega)) (by omega) ?_
    rintro a84 c84 A84 w84 (hg84:Good _ s (Q83::Q81::Q36::A84::os)) ho84 hax84 hk84 hn84
    obtain⟨hp84,hr84⟩:=nd.appMsgs ho84 hk84
    refine go 6 ?_
    refine RL.sN (p:=p) (i:=3) (j:=24) hg84 (hp84) (hr84) ?_
    rintro w85 A85 (hg85:Good _ s (Q83::Q81::Q36::A85::os)) hax85 nd85
    refine go 2 ?_
    refine fall (vs:=[]) rfl ?_
    exact Post.mq ((((hg85.front 3 rfl).dropNext).dropNext).dropNext) ⟨rfl,_,nd85.to ((preVote_f (.inr (.inl (fun z=>z.elim (fun z=>by simp[z] at h20) (decide_f h30))))).symm)⟩
 ·
  have hmo:=hmf
  refine go 18 ?_
  have hg86:=hg36.drew
  refine CW.dw [1,3,5,7,9,11,13,15,17,19,21,23,25,27,29,31,33,35,37,39,41,43,44,47,48] (fun w=>At1 b36 _ w∧At1 p _ w∧True) ?_
  refine go 27 ?_
  have hg87:=hg86.drew
  refine CW.dw [1,3,5,7,9,11,13,15,17,19,21,23,25,27,29,31,32,34] (fun w=>At1 p _ w∧At1 b36 _ w∧True) ?_
  refine go 17 ?_
  rintro b88 w88 Q88 (hg88:Good _ s (Q88::Q36::A::os)) hax88 hb88
  refine go 2 ?_
  rintro w89 Q89 (hg89:Good _ s (Q89::Q36::A::os)) hax89 hb89
  refine go 9 ?_
  have hg90:=hg89.drew
  refine CW.dx [1,3,5,7,9,11,13,14,16,19,21,23] [24] 12 1 (fun w=>At1 p _ w∧At1 b88 _ w∧True) ?_
  refine go 8 ?_
  rintro b91 w91 Q91 (hg91:Good _ s (Q91::Q89::Q36::A::os)) hax91 hb91
  refine go 1 ?_
  refine RL.append2 (i:=3) (ys:=[_]) rfl rfl rfl rfl sl48.out ze56.out rfl RMsg.one rfl rfl hg91 rfl nd.msgs (one_src sl48.out rfl hb91 (hg91.mem (by simp))) (Chunks.single rfl ⟨Lay.none,rfl,hmo _⟩) ((by simp only[List.length_singleton];omega)) (by omega) ?_
  rintro a92 c92 A92 w92 (hg92:Good _ s (Q91::Q89::Q36::A92::os)) ho92 hax92 hk92 hn92
  obtain⟨hp92,hr92⟩:=nd.appMsgs ho92 hk92
  refine go 6 ?_
  refine RL.sN (p:=p) (i:=3) (j:=24) hg92 (hp92) (hr92) ?_
  rintro w93 A93 (hg93:Good _ s (Q91::Q89::Q36::A93::os)) hax93 nd93
  refine go 2 ?_
  refine fall (vs:=[]) rfl ?_
  exact Post.mq ((((hg93.front 3 rfl).dropNext).dropNext).dropNext) ⟨rfl,_,nd93.to ((preVote_f (.inl (by simpa using h13))).symm)⟩
theorem preVoted_a {m:Msg} (h1:m.reject=true) (h2:n.s.hard.term<m.term):n.preVoted m=n.follow m.term 0:=by unfold Node.preVoted;rw[if_pos ⟨h1,h2⟩]
theorem preVoted_b {m:Msg} (h0:¬ (m.reject=true∧n.s.hard.term<m.term)) (h1:n.s.role=2) (h2:m.reject=true∨m.term=up1 n.s.hard.term):n.preVoted m=n.stands m Node.stand:=by
 unfold Node.preVoted;rw[if_neg h0,if_pos ⟨h1,h2⟩]
theorem preVoted_c {m:Msg} (h0:¬ (m.reject=true∧n.s.hard.term<m.term)) (h1:n.s.role≠2∨¬ (m.reject=true∨m.term=up1 n.s.hard.term)):n.preVoted m=n:=by
 unfold Node.preVoted;rw[if_neg h0,if_neg (fun z=>h1.elim (fun k=>k z.1) (fun k=>k z.2))]
theorem preVoted_ct {m:Msg} {y:Lay} (hg:Good w s (A::os)) (nd:Nd s A p h n) (hR:NRng n) (hr:n.roomy) (hbl:n.s.ballots.length≤68719476736) (hm:MsgOk s m y) :
  Calls Tryz.prog 71 #[ptr p,.agg (msgV m y).toArray] w (NPost w s os p (.tuple #[]) (n.preVoted m)):=by
 have hst:=fun w' s' A' h' (hg':Good w' s' (A'::os)) (nd':Nd s' A' p h' (n.addBallot m.frm (!m.reject)))=>stand_ct hg' nd' (hR.of rfl hR.2.1 hR.2.2.1 hR.2.2.2.1 rfl) hr
 refine enter (l:=[ptr p,.agg (msgV m y).toArray]) Tryz.func71 rfl Tryz.ntmps71 rfl ?_
 refine go 3 ?_
 rintro b94 w94 Q94 (hg94:Good _ s (Q94::A::os)) hax94 hb94
 refine go 4 ?_
 have hg95:=hg94.drew
 refine CW.dw [1,3,5,7,9,11,13,15,17,19,21,23,25,26] (fun w=>At1 b94 _ w∧At1 p _ w∧True) ?_
 refine go 3 ?_
 refine RL.part 7 rfl (fun h7=>?_) (fun h7=>?_)
 ·
  refine go 12 ?_
  refine CW.cond rfl (fun h4=>?_) (fun h4=>?_)
  ·
   refine go 5 ?_
   refine zc (follow_ct (hg95.front 1 rfl) nd) ?_
   rintro v96 s96 A96 w96 hle96 (hg96:Good _ s96 (A96::Q94::os)) hax96 ⟨rfl,h96,nd96⟩
   refine go 2 ?_
   refine fall (vs:=[]) rfl ?_
   exact Post.mq (hg96.dropNext) ⟨rfl,_,nd96.to (preVoted_a h7 (decide_t h4)).symm⟩
  ·
   refine go 1 ?_
   have hg97:=hg95.drew
   refine CW.dw [1,3,5,7,9,11,13,15,17,19,21,23,25,27,29,31,33,35,37,39,41,43,44] (fun w=>At1 p _ w∧At1 b94 _ w∧True) ?_
   refine go 7 ?_
   refine RL.part 29 rfl (fun h29=>?_) (fun h29=>?_)
   ·
    refine go 3 ?_
    refine RL.part 32 rfl (fun h32=>?_) (fun h32=>?_)
    ·
     refine go 19 ?_
     refine RL.makeB rfl rfl rfl rfl rfl rfl ?_
     refine go 1 ?_
     refine zc (stands_ct (won:=Node.stand) ((hg97.front 1 rfl).dropNext) nd hR hr hbl hm rfl hst) ?_
     rintro v98 s98 A98 w98 hle98 (hg98:Good _ s98 (A98::os)) hax98 ⟨rfl,h98,nd98⟩
     refine go 2 ?_
     refine fall (vs:=[]) rfl ?_
     exact Post.mq hg98 ⟨rfl,_,nd98.to (preVoted_b (fun z=>decide_f h4 z.2) (by simpa using h29) (.inl h32)).symm⟩
    ·
     refine go 8 ?_
     refine RL.as_ rfl rfl rfl rfl (u64 (up1 n.s.hard.term)) (rfl) ?_
     refine go 5 ?_
     refine CW.cond rfl (fun h22=>?_) (fun h22=>?_)
     ·
      refine go 4 ?_
      refine RL.makeB rfl rfl rfl rfl rfl rfl ?_
      refine go 1 ?_
      refine zc (stands_ct (won:=Node.stand) ((hg97.front 1 rfl).dropNext) nd hR hr hbl hm rfl hst) ?_
      rintro v99 s99 A99 w99 hle99 (hg99:Good _ s99 (A99::os)) hax99 ⟨rfl,h99,nd99⟩
      refine go 2 ?_
      refine fall (vs:=[]) rfl ?_
      exact Post.mq hg99 ⟨rfl,_,nd99.to (preVoted_b (fun z=>decide_f h4 z.2) (by simpa using h29) (.inr (by simpa using h22))).symm⟩
     ·
      refine go 1 ?_
      refine fall (vs:=[]) rfl ?_
      exact Post.mq ((hg97.front 1 rfl).dropNext) ⟨rfl,_,nd.to (preVoted_c (fun z=>decide_f h4 z.2) (.inr (fun z=>z.elim (fun z=>by rw[h32] at z;cases z) (fun z=>by simp[z] at h22)))).symm⟩
   ·
    refine go 19 ?_
    refine fall (vs:=[]) rfl ?_
    exact Post.mq ((hg97.front 1 rfl).dropNext) ⟨rfl,_,nd.to (preVoted_c (fun z=>decide_f h4 z.2) (.inl (by simpa using h29))).symm⟩
 ·
  refine go 14 ?_
  have hg100:=hg95.drew
  refine CW.dw [1,3,5,7,9,11,13,15,17,19,21,23,25,27,29,31,33,35,37,39,41,43,44] (fun w=>At1 p _ w∧At1 b94 _ w∧True) ?_
  refine go 7 ?_
  refine RL.part 29 rfl (fun h29=>?_) (fun h29=>?_)
  ·
   refine go 3 ?_
   refine RL.part 32 rfl (fun h32=>?_) (fun h32=>?_)
   ·
    refine go 19 ?_
    refine RL.makeB rfl rfl rfl rfl rfl rfl ?_
    refine go 1 ?_
    refine zc (stands_ct (won:=Node.stand) ((hg100.front 1 rfl).dropNext) nd hR hr hbl hm rfl hst) ?_
    rintro v101 s101 A101 w101 hle101 (hg101:Good _ s101 (A101::os)) hax101 ⟨rfl,h101,nd101⟩
    refine go 2 ?_
    refine fall (vs:=[]) rfl ?_
    exact Post.mq hg101 ⟨rfl,_,nd101.to (preVoted_b (fun z=>by rw[h7] at z;cases z.1) (by simpa using h29) (.inl h32)).symm⟩
   ·
    refine go 8 ?_
    refine RL.as_ rfl rfl rfl rfl (u64 (up1 n.s.hard.term)) (rfl) ?_
    refine go 5 ?_
    refine CW.cond rfl (fun h22=>?_) (fun h22=>?_)
    ·
     refine go 4 ?_
     refine RL.makeB rfl rfl rfl rfl rfl rfl ?_
     refine go 1 ?_
     refine zc (stands_ct (won:=Node.stand) ((hg100.front 1 rfl).dropNext) nd hR hr hbl hm rfl hst) ?_
     rintro v102 s102 A102 w102 hle102 (hg102:Good _ s102 (A102::os)) hax102 ⟨rfl,h102,nd102⟩
     refine go 2 ?_
     refine fall (vs:=[]) rfl ?_
     exact Post.mq hg102 ⟨rfl,_,nd102.to (preVoted_b (fun z=>by rw[h7] at z;cases z.1) (by simpa using h29) (.inr (by simpa using h22))).symm⟩
    ·
     refine go 1 ?_
     refine fall (vs:=[]) rfl ?_
     exact Post.mq ((hg100.front 1 rfl).dropNext) ⟨rfl,_,nd.to (preVoted_c (fun z=>by rw[h7] at z;cases z.1) (.inr (fun z=>z.elim (fun z=>by rw[h32] at z;cases z) (fun z=>by simp[z] at h22)))).symm⟩
  ·
   refine go 19 ?_
   refine fall (vs:=[]) rfl ?_
   exact Post.mq ((hg100.front 1 rfl).dropNext) ⟨rfl,_,nd.to (preVoted_c (fun z=>by rw[h7] at z;cases z.1) (.inl (by simpa using h29))).symm⟩
end
end Go.Lw
namespace Go.Lw
open Go.Proofs
attribute [local irreducible] RL RA
theorem min_if (a b:Int):(if b<a then b else a)=min a b:=by rw[Int.min_def];split<;>split<;>omega
theorem max_if (a b:Int):(if b>a then b else a)=max a b:=by rw[Int.max_def];split<;>split<;>omega
def Msg.small (m:Msg):Prop:=(∀ e∈m.entries,e.small)∧m.entries.length≤1073741824∧m.conf.small∧m.data.length≤1073741824
section
variable {w:World} {s A:Res} {os:List Res} {p:Nat} {h:Hd} {n:Node}
theorem Good.shrink {w:World} {s s':Res} {os:List Res} (h:Good w s' os) (hl:Le s s'):Good w s os:=by
 induction os with
 | nil=>exact In.le h hl
 | cons q os ih=>exact⟨h.1,(h.2.1.symm.le hl).symm,h.2.2.1,ih h.2.2.2⟩
theorem Calls.val {P:Program} {w:World} {s:Res} {os:List Res} {f:FuncId} {args:Array Value} {Ψ:Value→Prop} (h:Calls P f args w (Post w s os fun _ _ v=>Ψ v)):Calls P f args w (PostV w s os Ψ) :=
 h.mono fun e w' he=>by
  obtain⟨v,s',B,rfl,hle,hg',hax,hv⟩:=he
  exact⟨v,rfl,hg'.drop.shrink hle,hax,hv⟩
theorem IndexEB_ct {r:Res} {xs:List Entry} {xa:Option Addr} {xc g:Nat} {bnd cap:Array Value} {q:Entry→Bool} (hg:Good w s os) (hr:r=s∨r∈os) (hx:Lies REntry 6 r s xa xc xs) (hc:callable Tryz.prog g=true)
  (hp:∀ x∈xs,∀ vs,REntry s vs x→∀ w',Good w' s os→Calls Tryz.prog g (bnd ++ #[.agg vs.toArray]++cap) w' (PostV w' s os fun v=>v = .bool (q x))) :
  Calls Tryz.prog 154 #[.slice xa xs.length xc,.func (.func g) bnd cap] w (PostV w s os fun v=>v=i64 (idxP q xs)):=by
 have hlen:=hx.le_max
 simp only[maxLen] at hlen
 refine enter (l:=[.slice xa xs.length xc,.func (.func g) bnd cap]) Tryz.func154 rfl Tryz.ntmps154 rfl ?_
 refine go 12 ?_
 refine CW.loop (σ:=Nat) (fun j E w'=>Good w' s os∧Aux w w'∧∃ k:Nat,E=[(0,.slice xa xs.length xc),(1,.func (.func g) bnd cap),(7,i64 xs.length),(8,i64 k)]∧k+j=xs.length∧∀ x∈xs.take k,q x=false) (fun j=>j) xs.length [(0,.slice xa xs.length xc),(1,.func (.func g) bnd cap),(7,i64 xs.length),(8,i64 0)] ⟨rfl,rfl,rfl,rfl,trivial⟩ ⟨hg,(Aux.refl _),0,rfl,by omega,by simp⟩ ?_
 rintro j E wL ⟨hgL,haxL,k,rfl,hk,hno⟩
 refine go 5 ?_
 refine CW.cond rfl (fun h9=>?_) (fun h9=>?_)
 ·
  refine go 13 ?_
  have hlt:k<xs.length:=by have:=decide_t h9;omega
  refine RL.idxL rfl rfl rfl rfl sl31.out rfl rfl hx (by omega) (by omega) ?_
  rintro q vs hvl hH hE
  have hE2:=hE
  obtain⟨ea,ec,ea1,ec1,ea2,ec2,rfl,er1,er2,er3,eh1,eh2,eh3⟩:=hE2
  refine RL.loads (j:=0) (us:=_) rfl rfl rfl rfl ty65.out rfl (hH) (hgL.has hr) rfl rfl ?_
  refine RL.callB rfl rfl rfl rfl rfl rfl hc (hp _ (List.getElem_mem _) _ hE _ hgL) ?_
  rintro e1 w1 ⟨v1,rfl,hg1,hax1,rfl⟩
  refine⟨_,rfl,trivial,?_⟩
  refine go 1 ?_
  refine CW.cond rfl (fun h16=>?_) (fun h16=>?_)
  ·
   refine go 5 ?_
   refine CW.ret (zr1 ?_)
   exact PostV.mq hg1 (congrArg i64 (idxP_at hlt h16 hno).symm)
  ·
   refine go 5 ?_
   have hno2:=takes hlt hno h16
   cases j with
   | zero=>omega
   | succ j=>exact fun ac ha=>⟨j,[(0,.slice xa xs.length xc),(1,.func (.func g) bnd cap),(7,i64 xs.length),(8,i64 ((k:Int)+1))],ha.sub ⟨rfl,rfl,rfl,rfl,trivial⟩,⟨hg1,haxL.trans hax1,k+1,rfl,by omega,hno2⟩,Nat.lt_succ_self j⟩
 ·
  refine go 5 ?_
  refine CW.ret (zr1 ?_)
  have hke:k=xs.length:=by have:=decide_f h9;omega
  rw[hke,List.take_length] at hno
  exact PostV.mq hgL (congrArg i64 (idxP_none hno).symm)
theorem ContainsEB_ct {r:Res} {xs:List Entry} {xa:Option Addr} {xc g:Nat} {bnd cap:Array Value} {q:Entry→Bool} (hg:Good w s os) (hr:r=s∨r∈os) (hx:Lies REntry 6 r s xa xc xs) (hc:callable Tryz.prog g=true)
  (hp:∀ x∈xs,∀ vs,REntry s vs x→∀ w',Good w' s os→Calls Tryz.prog g (bnd ++ #[.agg vs.toArray]++cap) w' (PostV w' s os fun v=>v = .bool (q x))) :
  Calls Tryz.prog 133 #[.slice xa xs.length xc,.func (.func g) bnd cap] w (PostV w s os fun v=>v = .bool (xs.any q)):=by
 refine enter (l:=[.slice xa xs.length xc,.func (.func g) bnd cap]) Tryz.func133 rfl Tryz.ntmps133 rfl ?_
 refine go 9 ?_
 refine zw (IndexEB_ct hg hr hx hc hp) ?_
 rintro v1 w1 (hg1:Good _ s (os)) hax1 rfl
 refine go 4 ?_
 refine CW.ret (zr1 ?_)
 exact PostV.mq hg1 (congrArg Value.bool (idxP_any q xs))
theorem strange_a {t:Int} {e:Entry} (h1:t<e.term):Node.strange t e=true:=by simp[Node.strange,h1]
theorem strange_b {t:Int} {e:Entry} (h1:¬ t<e.term) (h2:e.kind=3):Node.strange t e=(checkP e.conf != 0):=by
 simp only[Node.strange,decide_eq_false h1,Bool.false_or,h2,decide_true,Bool.true_and]
 rw[Bool.eq_iff_iff];simp
theorem strange_c {t:Int} {e:Entry} (h1:¬ t<e.term) (h2:¬ e.kind=3):Node.strange t e=false:=by
 simp only[Node.strange,decide_eq_false h1,Bool.false_or,decide_eq_false h2,Bool.false_and]
theorem strange_ct {e:Entry} {vs:List Value} (hg:Good w s (A::os)) (nd:Nd s A p h n) (hE:REntry s vs e) (he:e.small) :
  Calls Tryz.prog 134 #[ptr p,.agg vs.toArray] w (PostV w s (A::os) fun v=>v = .bool (Node.strange n.s.hard.term e)):=by
 obtain⟨ea,ec,ea1,ec1,ea2,ec2,rfl,er1,er2,er3,eh1,eh2,eh3⟩:=hE
 have hC:RConf s [.slice ea1 e.conf.voters.length ec1,.slice ea2 e.conf.learners.length ec2] e.conf:=⟨_,_,_,_,rfl,eh2,eh3⟩
 refine enter (l:=[ptr p,.agg #[u64 e.index,u64 e.term,i64 e.kind,.slice ea e.data.length ec,.slice ea1 e.conf.voters.length ec1,.slice ea2 e.conf.learners.length ec2]]) Tryz.func134 rfl Tryz.ntmps134 rfl ?_
 refine go 3 ?_
 rintro b2 w2 Q2 (hg2:Good _ s (Q2::A::os)) hax2 hb2
 refine go 4 ?_
 have hg3:=hg2.drew
 refine CW.dw [1,3,5,7,9,11,13,15,17,19,21,23,25,27,29,31,32,35,37,39,40] (fun w=>At1 b2 _ w∧At1 p _ w∧True) ?_
 refine go 10 ?_
 refine RL.part 14 rfl (fun h14=>?_) (fun h14=>?_)
 ·
  refine go 12 ?_
  refine CW.ret (zr1 ?_)
  exact PostV.mq ((hg3.front 1 rfl).dropNext) (congrArg Value.bool (strange_a (decide_t h14)).symm)
 ·
  refine go 4 ?_
  refine RL.part 18 rfl (fun h18=>?_) (fun h18=>?_)
  ·
   refine go 3 ?_
   refine zw (Calls.val (Ψ:=fun v=>v=i64 (checkP e.conf)) (Check_ct hg3 hC he.2.fits)) ?_
   rintro v4 w4 (hg4:Good _ s (Q2::A::os)) hax4 rfl
   refine go 6 ?_
   refine CW.ret (zr1 ?_)
   exact PostV.mq ((hg4.front 1 rfl).dropNext) (congrArg Value.bool (strange_b (decide_f h14) (by simpa using h18)).symm)
  ·
   refine go 8 ?_
   refine CW.ret (zr1 ?_)
   exact PostV.mq ((hg3.front 1 rfl).dropNext) (congrArg Value.bool (strange_c (decide_f h14) (by simpa using h18)).symm)
theorem NRest.putLog {L:Log} {hL:Hd} (k:NRest s A h n) (hl:LogOwn A s L hL) (hd:Dj hL.ea h.oa):NRest s A { h with va:=hL.va,vc:=hL.vc,la:=hL.la,lc:=hL.lc,da:=hL.da,dc:=hL.dc,ea:=hL.ea,ec:=hL.ec } (n.wLog L) :=
 let ⟨_,_,_,_,e,f,g,i,j,_⟩:=k
 ⟨hl.voters,hl.learners,hl.data,hl.entries,e,f,g,i,j,hd⟩
theorem NRest.putOuts {l:List Entry} {a:Option Addr} {c:Nat} (k:NRest s A h n) (ho:Own REntry 6 65 s A a c l) (hd:Dj h.ea a):NRest s A { h with oa:=a,oc:=c } (n.wOuts l) :=
 let ⟨a',b,c',d,e,f,g,_,j,_⟩:=k
 ⟨a',b,c',d,e,f,g,ho,j,hd⟩
theorem LogOwn_apart {X:Res} {L:Log} {hL:Hd} {l:List Entry} {a:Option Addr} {c:Nat} (hg:Good w s (X::os)) (hl:LogOwn X s L hL) (ho:Own REntry 6 65 s X a c l) (hd:Dj hL.ea a) :
  ∃ X1 X2,Good w s (X1::X2::os)∧LogOwn X1 s L hL∧Own REntry 6 65 s X2 a c l:=by
 rcases ho with ⟨h1,h2,h3⟩ | ⟨g,cs,hpa,hA,h4,h5,h6,h7⟩
 ·
  exact⟨X,Res.nil,hg.nil.front 1 rfl,hl,.inl ⟨h1,h2,h3⟩⟩
 ·
  have hk:∀ k,X k≠none→(∀ ad,a=some ad→ad.block≠k)→(fun b=>if b=g then none else X b) k=X k:=fun k _ hk=>by
   have:k≠g:=fun e=>hk _ hpa e.symm
   simp[this]
  exact⟨_,_,Good.split hg hA,⟨hl.index,hl.term,hl.voters,hl.learners,hl.data,hl.entries.kept hd.symm hk⟩,.inr ⟨g,cs,hpa,if_pos rfl,h4,h5,h6,h7⟩⟩
def Node.calm (n:Node) (frm:Int):Node:=(n.follow n.s.hard.term frm).wElapsed 0
theorem grow_lead {m:Msg} (h0:n.s.role=4):n.grow m=n:=by unfold Node.grow;rw[if_pos h0]
theorem grow_old {m:Msg} (h0:n.s.role≠4) (h1:m.index<(n.calm m.frm).s.hard.commit):n.grow m=(n.calm m.frm).post { Msg.zero with kind:=6,to:=m.frm,index:=(n.calm m.frm).s.hard.commit }:=by
 unfold Node.grow;rw[if_neg h0];exact if_pos h1
theorem grow_bad {m:Msg} {G:Merged} (h0:n.s.role≠4) (h1:¬ m.index<(n.calm m.frm).s.hard.commit) (hG:mergeP (n.calm m.frm).s.log (n.calm m.frm).s.hard.commit m.index m.logTerm m.entries=G)
  (h2:G.err=1∨G.err=62∨m.entries.any (Node.strange (n.calm m.frm).s.hard.term)=true):n.grow m=n.calm m.frm:=by
 subst hG;unfold Node.grow;rw[if_neg h0];exact (if_neg h1).trans (if_pos h2)
theorem grow_gap {m:Msg} {G:Merged} (h0:n.s.role≠4) (h1:¬ m.index<(n.calm m.frm).s.hard.commit) (hG:mergeP (n.calm m.frm).s.log (n.calm m.frm).s.hard.commit m.index m.logTerm m.entries=G)
  (h2:¬ (G.err=1∨G.err=62∨m.entries.any (Node.strange (n.calm m.frm).s.hard.term)=true)) (h3:G.err=61):n.grow m=(n.calm m.frm).post { Msg.zero with kind:=6,to:=m.frm,index:=m.index,reject:=true,hint:=min (n.calm m.frm).last (max m.index 1-1) }:=by
 subst hG;unfold Node.grow;rw[if_neg h0];exact ((if_neg h1).trans (if_neg h2)).trans (if_pos h3)
theorem grow_ok {m:Msg} {G:Merged} (h0:n.s.role≠4) (h1:¬ m.index<(n.calm m.frm).s.hard.commit) (hG:mergeP (n.calm m.frm).s.log (n.calm m.frm).s.hard.commit m.index m.logTerm m.entries=G)
  (h2:¬ (G.err=1∨G.err=62∨m.entries.any (Node.strange (n.calm m.frm).s.hard.term)=true)) (h3:¬ G.err=61) :
  n.grow m=(((((n.calm m.frm).wLog G.log).wCut G.cut).wOuts G.came).wCommit (max (n.calm m.frm).s.hard.commit (min m.commit (m.index+m.entries.length)))).post { Msg.zero with kind:=6,to:=m.frm,index:=m.index+m.entries.length }:=by
 subst hG;unfold Node.grow;rw[if_neg h0];exact ((if_neg h1).trans (if_neg h2)).trans (if_neg h3)
theorem grow_ct {m:Msg} {y:Lay} (hg:Good w s (A::os)) (nd:Nd s A p h n) (hR:NRng n) (hr:n.roomy) (hm:MsgOk s m y) (hms:m.small) (hmi:m.index<p61) (hml:n.s.log.entries.length+m.entries.length≤1099511627776) :
  Calls Tryz.prog 108 #[ptr p,.agg (msgV m y).toArray] w (NPost w s os p (.tuple #[]) (n.grow m)):=by
 obtain⟨hS,h1,h2,h3,h4⟩:=hr
 have hmi0:=hm.index
 simp only[rng] at hmi0
 simp only[p61] at hmi
 have hml0:=hms.2.1
 have hRq:NRng (n.calm m.frm):=hR.follow (term:=n.s.hard.term) (leader:=m.frm) hR.2.1
 have hRc:∀ x,rng .u64 x→NRng ((n.calm m.frm).wCommit x):=fun x hx=>hRq.of rfl hRq.2.1 hRq.2.2.1 hx rfl
 have hRz:∀ (z:Node),z.s.id=(n.calm m.frm).s.id→rng .u64 z.s.hard.term→rng .i64 z.s.hard.vote→rng .u64 z.s.hard.commit→rng .u64 z.s.log.base.index→rng .u64 z.s.log.base.term→NRng z:=fun z e1 e2 e3 e4 e5 e6=>⟨by rw[e1];exact hRq.1,e2,e3,e4,e5,e6⟩
 have hSq:(n.calm m.frm).s.log.small:=hS
 have hcr:rng .u64 (max (n.calm m.frm).s.hard.commit (min m.commit (m.index+m.entries.length))):=by
  have h5:=hRq.2.2.2.1
  have h6:=hm.commit
  generalize (n.calm m.frm).s.hard.commit=z at h5 ⊢
  simp only[rng] at h5 h6 ⊢
  rw[Int.min_def,Int.max_def]
  split<;>split<;>omega
 have hgapr:rng .u64 (min (n.calm m.frm).last (max m.index 1-1)):=by
  have hl0:rng .u64 (n.calm m.frm).last:=(nd.at_ hR).last_rng.1
  generalize (n.calm m.frm).last=z at hl0 ⊢
  simp only[rng] at hl0 ⊢
  rw[Int.min_def,Int.max_def]
  split<;>split<;>omega
 have hmq:(n.calm m.frm).o.msgs.length≤34359738368:=h3
 have hlq:(n.calm m.frm).s.log.entries.length+m.entries.length≤1099511627776:=hml
 refine enter (l:=[ptr p,.agg (msgV m y).toArray]) Tryz.func108 rfl Tryz.ntmps108 rfl ?_
 refine go 3 ?_
 rintro b5 w5 Q5 (hg5:Good _ s (Q5::A::os)) hax5 hb5
 refine go 12 ?_
 refine CW.cond rfl (fun h14=>?_) (fun h14=>?_)
 ·
  refine CW.ret (zr0 ?_)
  exact Post.mq ((hg5.front 1 rfl).dropNext) ⟨rfl,_,nd.to (grow_lead (by simpa using h14)).symm⟩
 ·
  have hr4:n.s.role≠4:=by simpa using h14
  refine go 2 ?_
  have hg6:=hg5.drew
  refine CW.dx [1,3,5,7,9,11,13,15,17] [18] 9 1 (fun w=>At1 p _ w∧At1 b5 _ w∧True) ?_
  refine go 12 ?_
  refine zc (follow_ct (hg6.front 1 rfl) nd) ?_
  rintro v7 s7 A7 w7 hle7 (hg7:Good _ s7 (A7::Q5::os)) hax7 ⟨rfl,h7,nd7⟩
  have hm:=hm.up hle7
  refine go 8 ?_
  refine RL.sI (p:=p) (i:=0) (j:=14) hg7 (nd7.cells) (NRest.wElapsed nd7.rest) ?_
  rintro w8 A8 (hg8:Good _ s7 (A8::Q5::os)) hax8 nd8
  refine go 3 ?_
  have hg9:=hg8.drew
  refine CW.dw [1,3,5,7,9,11,13,15,17,18,20] (fun w=>At1 b5 _ w∧At1 p _ w∧True) ?_
  have nq:=nd8.to (show _=n.calm m.frm from rfl)
  refine go 10 ?_
  rintro b10 w10 Q10 (hg10:Good _ s7 (Q10::A8::Q5::os)) hax10 hb10
  refine go 2 ?_
  rintro w11 Q11 (hg11:Good _ s7 (Q11::A8::Q5::os)) hax11 hb11
  refine go 4 ?_
  have hg12:=hg11.drew
  refine CW.dw [1,3,5,7,9,11,13,15,17] (fun w=>At1 b5 _ w∧At1 p _ w∧True) ?_
  refine go 10 ?_
  refine CW.cond rfl (fun h46=>?_) (fun h46=>?_)
  ·
   refine go 5 ?_
   refine zc (post_ct (m:={ Msg.zero with kind:=6,to:=m.frm,index:=(n.calm m.frm).s.hard.commit }) (y:=Lay.none) (hg12.front 1 rfl) nq hRq { MsgOk.zero _ with kind:=by simp[rng],to:=hm.frm,index:=hRq.2.2.2.1 } (by omega)) ?_
   rintro v13 s13 A13 w13 hle13 (hg13:Good _ s13 (A13::Q11::Q5::os)) hax13 ⟨rfl,ma13,mc13,nd13⟩
   have hm:=hm.up hle13
   refine go 2 ?_
   refine CW.ret (zr0 ?_)
   exact Post.mq ((hg13.dropNext).dropNext) ⟨rfl,_,nd13.to (grow_old hr4 (decide_t h46)).symm⟩
  ·
   have hnl:=decide_f h46
   refine go 2 ?_
   have hg14:=hg12.drew
   refine CW.forks (.fork [(true,0),(true,1),(true,2),(true,3),(true,4),(true,5),(true,6),(true,7),(true,8),(true,9),(true,10),(true,11),(true,12),(true,13),(true,14),(true,15),(true,16)] (.line [(false,17),(true,18),(true,19),(true,20),(true,21),(true,22),(false,23),(false,24),(false,25),(false,26),(false,27)]) (.line [(false,23),(false,17),(true,18),(true,19),(true,20),(true,21),(true,22),(false,24),(false,25),(false,26),(false,27)])) (fun w=>At1 p _ w∧At1 b5 _ w∧True) mixed (by kernel_rfl) (by kernel_rfl) (by kernel_rfl) (by kernel_rfl) (⟨hg14.at1 (by simp) nq.cells,hg14.at1 (by simp) hb5,trivial⟩) ?_
   refine RT.pre (S:=fun w=>At1 p _ w∧At1 b5 _ w∧True) (⟨hg14.at1 (by simp) nq.cells,hg14.at1 (by simp) hb5,trivial⟩) ?_
   refine go 18 ?_
   refine RT.both (S:=fun w=>At1 p _ w∧At1 b5 _ w∧True) (⟨hg14.at1 (by simp) nq.cells,hg14.at1 (by simp) hb5,trivial⟩) (RT.end_ (S:=fun w=>At1 p _ w∧At1 b5 _ w∧True) (⟨hg14.at1 (by simp) nq.cells,hg14.at1 (by simp) hb5,trivial⟩) ?_) (RT.end_ (S:=fun w=>At1 p _ w∧At1 b5 _ w∧True) (⟨hg14.at1 (by simp) nq.cells,hg14.at1 (by simp) hb5,trivial⟩) ?_)
   ·
    refine go 1 ?_
    refine zc (Merge_ct hg14 (.inr (by simp)) (nq.at_ hRq) hSq hm.entries hms.1 hlq hm.index hm.logTerm) ?_
    rintro v15 s15 Q15 w15 hle15 (hg15:Good _ s15 (Q15::Q11::A8::Q5::os)) hax15 ⟨hX,aX,cX,rfl,hoL,hoC,hdj⟩
    have nd16:=nq.up hle15
    have hm:=hm.up hle15
    generalize hG:mergeP (n.calm m.frm).s.log (n.calm m.frm).s.hard.commit m.index m.logTerm m.entries=G at hoL hoC ⊢
    refine go 7 ?_
    rintro b17 w17 Q17 (hg17:Good _ s15 (Q17::Q15::Q11::A8::Q5::os)) hax17 hb17
    refine go 2 ?_
    rintro w18 Q18 (hg18:Good _ s15 (Q18::Q15::Q11::A8::Q5::os)) hax18 hb18
    refine go 11 ?_
    refine RL.part 75 rfl (fun h75=>?_) (fun h75=>?_)
    ·
     refine go 12 ?_
     refine CW.ret (zr0 ?_)
     exact Post.mq (((((hg18.front 3 rfl).dropNext).dropNext).dropNext).dropNext) ⟨rfl,_,nd16.to (grow_bad hr4 hnl hG (.inl (by simpa using h75))).symm⟩
    ·
     refine go 4 ?_
     refine RL.part 79 rfl (fun h79=>?_) (fun h79=>?_)
     ·
      refine go 8 ?_
      refine CW.ret (zr0 ?_)
      exact Post.mq (((((hg18.front 3 rfl).dropNext).dropNext).dropNext).dropNext) ⟨rfl,_,nd16.to (grow_bad hr4 hnl hG (.inr (.inl (by simpa using h79)))).symm⟩
     ·
      refine go 3 ?_
      refine RL.makeB rfl rfl rfl rfl rfl rfl ?_
      refine go 1 ?_
      refine zw (ContainsEB_ct (q:=Node.strange (n.calm m.frm).s.hard.term) (bnd:= #[ptr p]) (cap:= #[]) (hg18.front 3 rfl) (.inl rfl) (show Lies REntry 6 _ _ y.ea y.ec m.entries from hm.entries) rfl (fun x hx vs hE w' hg'=>strange_ct hg' nd16 hE (hms.1 x hx))) ?_
      rintro v19 w19 (hg19:Good _ s15 (A8::Q18::Q15::Q11::Q5::os)) hax19 rfl
      refine go 3 ?_
      refine CW.cond rfl (fun h85=>?_) (fun h85=>?_)
      ·
       refine CW.ret (zr0 ?_)
       exact Post.mq ((((hg19.dropNext).dropNext).dropNext).dropNext) ⟨rfl,_,nd16.to (grow_bad hr4 hnl hG (.inr (.inr h85))).symm⟩
      ·
       have hnb:¬ (G.err=1∨G.err=62∨m.entries.any (Node.strange (n.calm m.frm).s.hard.term)=true):=fun z=>z.elim (fun z=>by simp[z] at h75) (fun z=>z.elim (fun z=>by simp[z] at h79) (fun z=>by rw[h85] at z;cases z))
       refine go 7 ?_
       refine CW.cond rfl (fun h87=>?_) (fun h87=>?_)
       ·
        refine go 1 ?_
        have hg20:=hg19.drew
        refine CW.dw [1,3,5,9,11,13,15,19,6,17,20,23,24,27,28] (fun w=>At1 b5 _ w∧True) ?_
        refine go 5 ?_
        refine RL.max rfl rfl rfl rfl rfl rfl ?_
        rw[one_most]
        refine go 3 ?_
        refine zw (last_ct hg20 nd16 hRq) ?_
        rintro v21 w21 (hg21:Good _ s15 (A8::Q18::Q15::Q11::Q5::os)) hax21 rfl
        refine go 1 ?_
        refine RL.min rfl rfl rfl rfl rfl rfl ?_
        rw[min_if]
        refine go 1 ?_
        rintro w22 Q22 (hg22:Good _ s15 (A8::Q18::Q15::Q22::Q5::os)) hax22 hb22
        refine go 3 ?_
        rintro w23 Q23 (hg23:Good _ s15 (A8::Q18::Q15::Q23::Q5::os)) hax23 hb23
        refine go 3 ?_
        rintro w24 Q24 (hg24:Good _ s15 (A8::Q18::Q15::Q24::Q5::os)) hax24 hb24
        refine go 7 ?_
        refine zc (post_ct (m:={ Msg.zero with kind:=6,to:=m.frm,index:=m.index,reject:=true,hint:=min (n.calm m.frm).last (max m.index 1-1) }) (y:=Lay.none) hg24 nd16 hRq { MsgOk.zero _ with kind:=by simp[rng],to:=hm.frm,index:=hm.index,hint:=hgapr } (by omega)) ?_
        rintro v25 s25 A25 w25 hle25 (hg25:Good _ s25 (A25::Q18::Q15::Q24::Q5::os)) hax25 ⟨rfl,ma25,mc25,nd25⟩
        have hm:=hm.up hle25
        refine go 2 ?_
        refine CW.ret (zr0 ?_)
        exact Post.mq ((((hg25.dropNext).dropNext).dropNext).dropNext) ⟨rfl,_,nd25.to (grow_gap hr4 hnl hG hnb (by simpa using h87)).symm⟩
       ·
        refine go 3 ?_
        obtain⟨X1,X2,hK0,hoL1,hoC2⟩:=LogOwn_apart (((((hg19.front 1 rfl).front 3 rfl).front 4 rfl).front 3 rfl).front 4 rfl) hoL hoC hdj
        have hK:=hK0.front 2 rfl
        have hK:=hK.front 1 rfl
        obtain⟨AJ,hAJ⟩:∃ Z,Z=Res.join X1 A8:=⟨_,rfl⟩
        have ndJ:=nd16.mem (Res.le_join_right (r:=X1) (Apart.of2 hK))
        have hoLJ:=hoL1.mem (Res.le_join_left X1 A8)
        have hdL:=Dj.apart hoL1.entries nd16.outs (Apart.of2 hK)
        have hgJ:=hK.join
        rw[←hAJ] at ndJ hoLJ hgJ
        refine go 9 ?_
        refine RL.sN (p:=p) (i:=0) (j:=4) (h1:=_) (n1:=_) hgJ (ndJ.cells) (NRest.putLog ndJ.rest hoLJ hdL) ?_
        rintro w26 A26 (hg26:Good _ s15 (A26::X2::Q5::Q11::Q18::os)) hax26 nd26
        refine go 4 ?_
        refine RL.sI (p:=p) (i:=0) (j:=20) hg26 (nd26.cells) (NRest.wCut nd26.rest) ?_
        rintro w27 A27 (hg27:Good _ s15 (A27::X2::Q5::Q11::Q18::os)) hax27 nd27
        refine go 1 ?_
        have hK2:=hg27.front 1 rfl
        obtain⟨AK,hAK⟩:∃ Z,Z=Res.join X2 A27:=⟨_,rfl⟩
        have ndK:=nd27.mem (Res.le_join_right (r:=X2) (Apart.of2 hK2))
        have hoCK:=hoC2.mem (Res.le_join_left X2 A27)
        have hgK:=hK2.join
        rw[←hAK] at ndK hoCK hgK
        refine go 3 ?_
        refine RL.sN (p:=p) (i:=0) (j:=21) (h1:=_) (n1:=_) hgK (ndK.cells) (NRest.putOuts ndK.rest hoCK hdj) ?_
        rintro w28 A28 (hg28:Good _ s15 (A28::Q5::Q11::Q18::os)) hax28 nd28
        refine go 9 ?_
        refine RL.conv rfl rfl rfl rfl Tryz.underlying3 Tryz.underlying22 rfl ((by simp only[rng];omega)) ?_
        refine go 3 ?_
        rintro w29 Q29 (hg29:Good _ s15 (A28::Q5::Q29::Q18::os)) hax29 hb29
        refine go 3 ?_
        have hg30:=hg29.drew
        refine CW.dx [1,3,5,7,9,11,13,15,17,19,21,23,25,27,29,31,33] [34] 17 1 (fun w=>At1 p _ w∧At1 b5 _ w∧At1 b10 _ w∧True) ?_
        refine go 11 ?_
        refine RL.min rfl rfl rfl rfl rfl rfl ?_
        rw[min_if]
        refine RL.max rfl rfl rfl rfl rfl rfl ?_
        rw[max_if]
        refine go 6 ?_
        refine RL.sI (p:=p) (i:=0) (j:=3) hg30 (nd28.cells) (NRest.wCommit nd28.rest) ?_
        rintro w31 A31 (hg31:Good _ s15 (A31::Q5::Q29::Q18::os)) hax31 nd31
        refine go 6 ?_
        refine zc (post_ct (m:={ Msg.zero with kind:=6,to:=m.frm,index:=m.index+m.entries.length }) (y:=Lay.none) hg31 nd31 (hRz _ rfl hRq.2.1 hRq.2.2.1 hcr hoL.index hoL.term) { MsgOk.zero _ with kind:=by simp[rng],to:=hm.frm,index:=by simp only[rng];omega } (by show n.o.msgs.length≤_;omega)) ?_
        rintro v32 s32 A32 w32 hle32 (hg32:Good _ s32 (A32::Q5::Q29::Q18::os)) hax32 ⟨rfl,ma32,mc32,nd32⟩
        have hm:=hm.up hle32
        refine go 2 ?_
        refine fall (vs:=[]) rfl ?_
        exact Post.mq (((hg32.dropNext).dropNext).dropNext) ⟨rfl,_,nd32.to (grow_ok hr4 hnl hG hnb (by simpa using h87)).symm⟩
   ·
    refine go 1 ?_
    rintro b33 w33 Q33 (hg33:Good _ s7 (Q33::Q11::A8::Q5::os)) hax33 hb33
    refine go 2 ?_
    refine zc (Merge_ct hg33 (.inr (by simp)) (nq.at_ hRq) hSq hm.entries hms.1 hlq hm.index hm.logTerm) ?_
    rintro v34 s34 Q34 w34 hle34 (hg34:Good _ s34 (Q34::Q33::Q11::A8::Q5::os)) hax34 ⟨hX,aX,cX,rfl,hoL,hoC,hdj⟩
    have nd35:=nq.up hle34
    have hm:=hm.up hle34
    generalize hG:mergeP (n.calm m.frm).s.log (n.calm m.frm).s.hard.commit m.index m.logTerm m.entries=G at hoL hoC ⊢
    refine go 7 ?_
    rintro w36 Q36 (hg36:Good _ s34 (Q34::Q36::Q11::A8::Q5::os)) hax36 hb36
    refine go 11 ?_
    refine RL.part 75 rfl (fun h75=>?_) (fun h75=>?_)
    ·
     refine go 12 ?_
     refine CW.ret (zr0 ?_)
     exact Post.mq (((((hg36.front 3 rfl).dropNext).dropNext).dropNext).dropNext) ⟨rfl,_,nd35.to (grow_bad hr4 hnl hG (.inl (by simpa using h75))).symm⟩
    ·
     refine go 4 ?_
     refine RL.part 79 rfl (fun h79=>?_) (fun h79=>?_)
     ·
      refine go 8 ?_
      refine CW.ret (zr0 ?_)
      exact Post.mq (((((hg36.front 3 rfl).dropNext).dropNext).dropNext).dropNext) ⟨rfl,_,nd35.to (grow_bad hr4 hnl hG (.inr (.inl (by simpa using h79)))).symm⟩
     ·
      refine go 3 ?_
      refine RL.makeB rfl rfl rfl rfl rfl rfl ?_
      refine go 1 ?_
      refine zw (ContainsEB_ct (q:=Node.strange (n.calm m.frm).s.hard.term) (bnd:= #[ptr p]) (cap:= #[]) (hg36.front 3 rfl) (.inl rfl) (show Lies REntry 6 _ _ y.ea y.ec m.entries from hm.entries) rfl (fun x hx vs hE w' hg'=>strange_ct hg' nd35 hE (hms.1 x hx))) ?_
      rintro v37 w37 (hg37:Good _ s34 (A8::Q34::Q36::Q11::Q5::os)) hax37 rfl
      refine go 3 ?_
      refine CW.cond rfl (fun h85=>?_) (fun h85=>?_)
      ·
       refine CW.ret (zr0 ?_)
       exact Post.mq ((((hg37.dropNext).dropNext).dropNext).dropNext) ⟨rfl,_,nd35.to (grow_bad hr4 hnl hG (.inr (.inr h85))).symm⟩
      ·
       have hnb:¬ (G.err=1∨G.err=62∨m.entries.any (Node.strange (n.calm m.frm).s.hard.term)=true):=fun z=>z.elim (fun z=>by simp[z] at h75) (fun z=>z.elim (fun z=>by simp[z] at h79) (fun z=>by rw[h85] at z;cases z))
       refine go 7 ?_
       refine CW.cond rfl (fun h87=>?_) (fun h87=>?_)
       ·
        refine go 1 ?_
        have hg38:=hg37.drew
        refine CW.dw [1,3,5,9,11,13,15,19,6,17,20,23,24,27,28] (fun w=>At1 b5 _ w∧True) ?_
        refine go 5 ?_
        refine RL.max rfl rfl rfl rfl rfl rfl ?_
        rw[one_most]
        refine go 3 ?_
        refine zw (last_ct hg38 nd35 hRq) ?_
        rintro v39 w39 (hg39:Good _ s34 (A8::Q34::Q36::Q11::Q5::os)) hax39 rfl
        refine go 1 ?_
        refine RL.min rfl rfl rfl rfl rfl rfl ?_
        rw[min_if]
        refine go 1 ?_
        rintro w40 Q40 (hg40:Good _ s34 (A8::Q34::Q36::Q40::Q5::os)) hax40 hb40
        refine go 3 ?_
        rintro w41 Q41 (hg41:Good _ s34 (A8::Q34::Q36::Q41::Q5::os)) hax41 hb41
        refine go 3 ?_
        rintro w42 Q42 (hg42:Good _ s34 (A8::Q34::Q36::Q42::Q5::os)) hax42 hb42
        refine go 7 ?_
        refine zc (post_ct (m:={ Msg.zero with kind:=6,to:=m.frm,index:=m.index,reject:=true,hint:=min (n.calm m.frm).last (max m.index 1-1) }) (y:=Lay.none) hg42 nd35 hRq { MsgOk.zero _ with kind:=by simp[rng],to:=hm.frm,index:=hm.index,hint:=hgapr } (by omega)) ?_
        rintro v43 s43 A43 w43 hle43 (hg43:Good _ s43 (A43::Q34::Q36::Q42::Q5::os)) hax43 ⟨rfl,ma43,mc43,nd43⟩
        have hm:=hm.up hle43
        refine go 2 ?_
        refine CW.ret (zr0 ?_)
        exact Post.mq ((((hg43.dropNext).dropNext).dropNext).dropNext) ⟨rfl,_,nd43.to (grow_gap hr4 hnl hG hnb (by simpa using h87)).symm⟩
       ·
        refine go 3 ?_
        obtain⟨X1,X2,hK0,hoL1,hoC2⟩:=LogOwn_apart (((((hg37.front 2 rfl).front 3 rfl).front 4 rfl).front 3 rfl).front 4 rfl) hoL hoC hdj
        have hK:=hK0.front 2 rfl
        have hK:=hK.front 1 rfl
        obtain⟨AJ,hAJ⟩:∃ Z,Z=Res.join X1 A8:=⟨_,rfl⟩
        have ndJ:=nd35.mem (Res.le_join_right (r:=X1) (Apart.of2 hK))
        have hoLJ:=hoL1.mem (Res.le_join_left X1 A8)
        have hdL:=Dj.apart hoL1.entries nd35.outs (Apart.of2 hK)
        have hgJ:=hK.join
        rw[←hAJ] at ndJ hoLJ hgJ
        refine go 9 ?_
        refine RL.sN (p:=p) (i:=0) (j:=4) (h1:=_) (n1:=_) hgJ (ndJ.cells) (NRest.putLog ndJ.rest hoLJ hdL) ?_
        rintro w44 A44 (hg44:Good _ s34 (A44::X2::Q5::Q11::Q36::os)) hax44 nd44
        refine go 4 ?_
        refine RL.sI (p:=p) (i:=0) (j:=20) hg44 (nd44.cells) (NRest.wCut nd44.rest) ?_
        rintro w45 A45 (hg45:Good _ s34 (A45::X2::Q5::Q11::Q36::os)) hax45 nd45
        refine go 1 ?_
        have hK2:=hg45.front 1 rfl
        obtain⟨AK,hAK⟩:∃ Z,Z=Res.join X2 A45:=⟨_,rfl⟩
        have ndK:=nd45.mem (Res.le_join_right (r:=X2) (Apart.of2 hK2))
        have hoCK:=hoC2.mem (Res.le_join_left X2 A45)
        have hgK:=hK2.join
        rw[←hAK] at ndK hoCK hgK
        refine go 3 ?_
        refine RL.sN (p:=p) (i:=0) (j:=21) (h1:=_) (n1:=_) hgK (ndK.cells) (NRest.putOuts ndK.rest hoCK hdj) ?_
        rintro w46 A46 (hg46:Good _ s34 (A46::Q5::Q11::Q36::os)) hax46 nd46
        refine go 9 ?_
        refine RL.conv rfl rfl rfl rfl Tryz.underlying3 Tryz.underlying22 rfl ((by simp only[rng];omega)) ?_
        refine go 3 ?_
        rintro w47 Q47 (hg47:Good _ s34 (A46::Q5::Q47::Q36::os)) hax47 hb47
        refine go 3 ?_
        have hg48:=hg47.drew
        refine CW.dx [1,3,5,7,9,11,13,15,17,19,21,23,25,27,29,31,33] [34] 17 1 (fun w=>At1 p _ w∧At1 b5 _ w∧At1 b10 _ w∧True) ?_
        refine go 11 ?_
        refine RL.min rfl rfl rfl rfl rfl rfl ?_
        rw[min_if]
        refine RL.max rfl rfl rfl rfl rfl rfl ?_
        rw[max_if]
        refine go 6 ?_
        refine RL.sI (p:=p) (i:=0) (j:=3) hg48 (nd46.cells) (NRest.wCommit nd46.rest) ?_
        rintro w49 A49 (hg49:Good _ s34 (A49::Q5::Q47::Q36::os)) hax49 nd49
        refine go 6 ?_
        refine zc (post_ct (m:={ Msg.zero with kind:=6,to:=m.frm,index:=m.index+m.entries.length }) (y:=Lay.none) hg49 nd49 (hRz _ rfl hRq.2.1 hRq.2.2.1 hcr hoL.index hoL.term) { MsgOk.zero _ with kind:=by simp[rng],to:=hm.frm,index:=by simp only[rng];omega } (by show n.o.msgs.length≤_;omega)) ?_
        rintro v50 s50 A50 w50 hle50 (hg50:Good _ s50 (A50::Q5::Q47::Q36::os)) hax50 ⟨rfl,ma50,mc50,nd50⟩
        have hm:=hm.up hle50
        refine go 2 ?_
        refine fall (vs:=[]) rfl ?_
        exact Post.mq (((hg50.dropNext).dropNext).dropNext) ⟨rfl,_,nd50.to (grow_ok hr4 hnl hG hnb (by simpa using h87)).symm⟩
end
end Go.Lw
