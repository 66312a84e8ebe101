/-
  Parts of the proof of the laws RaftcoreChangesUptoSaid: KcN, KcC, KcL, KcM, KcO, KcI, KcG, Round, Range, KcR, KcS, KcA, KcB, KcD, KcE, KcF, KcH, KcJ, KcK, KcU.
-/
import Derived.Test.YtpjclnomaemokaaGreatRhA2
import Derived.RangeFuncLeaves
import Derived.RangeFuncRecord
set_option maxRecDepth 100000
set_option maxHeartbeats 16000000
set_option linter.all false
namespace Go.Lw
open Go.Proofs
namespace ai
def Fu (n:ai) (v:Int):ai:={ n with s:={ n.s with af:={ n.s.af with ab:=v } } }
def vJ (n:ai) (v:Int):ai:={ n with s:={ n.s with af:={ n.s.af with aT:=v } } }
def lz (n:ai) (v:Int):ai:={ n with s:={ n.s with af:={ n.s.af with aB:=v } } }
def C_ (n:ai) (v:br):ai:={ n with s:={ n.s with ah:=v } }
def C8 (n:ai) (v:List aA):ai:={ n with s:={ n.s with ah:={ n.s.ah with entries:=v } } }
def Ak (n:ai) (v:Int):ai:={ n with s:={ n.s with aO:=v } }
def Aj (n:ai) (v:Int):ai:={ n with s:={ n.s with gq:=v } }
def IG (n:ai) (v:List nD):ai:={ n with s:={ n.s with cB:=v } }
def mZ (n:ai) (v:List cK):ai:={ n with s:={ n.s with aK:=v } }
def dN (n:ai) (v:Int):ai:={ n with s:={ n.s with bi:=v } }
def kD (n:ai) (v:Int):ai:={ n with s:={ n.s with fQ:=v } }
def mC (n:ai) (v:Int):ai:={ n with s:={ n.s with eW:=v } }
def LL (n:ai) (v:fG):ai:={ n with s:={ n.s with part:=v } }
def xf (n:ai) (v:Int):ai:={ n with o:={ n.o with cut:=v } }
def Db (n:ai) (v:List aA):ai:={ n with o:={ n.o with entries:=v } }
def yI (n:ai) (v:Bool):ai:={ n with o:={ n.o with Ae:=v } }
def IH (n:ai) (v:Bool):ai:={ n with o:={ n.o with dY:=v } }
def LK (n:ai) (v:List az):ai:={ n with o:={ n.o with aG:=v } }
def C9 (n:ai) (v:Int):ai:={ n with o:={ n.o with index:=v } }
def Da (n:ai) (v:Int):ai:={ n with o:={ n.o with ab:=v } }
end ai
section
variable {s A A':aj} {p c':Nat} {h:Hd} {n:ai} {a':Option Addr}
theorem Nd.to {n':ai} (k:Nd s A p h n) (e:n=n'):Nd s A p h n':=e▸k
theorem bb.Fu (k:bb s A h n) (v:Int):bb s A h (n.Fu v):=k
theorem bb.vJ (k:bb s A h n) (v:Int):bb s A h (n.vJ v):=k
theorem bb.lz (k:bb s A h n) (v:Int):bb s A h (n.lz v):=k
theorem bb.Ak (k:bb s A h n) (v:Int):bb s A h (n.Ak v):=k
theorem bb.Aj (k:bb s A h n) (v:Int):bb s A h (n.Aj v):=k
theorem bb.dN (k:bb s A h n) (v:Int):bb s A h (n.dN v):=k
theorem bb.kD (k:bb s A h n) (v:Int):bb s A h (n.kD v):=k
theorem bb.mC (k:bb s A h n) (v:Int):bb s A h (n.mC v):=k
theorem bb.xf (k:bb s A h n) (v:Int):bb s A h (n.xf v):=k
theorem bb.C9 (k:bb s A h n) (v:Int):bb s A h (n.C9 v):=k
theorem bb.Da (k:bb s A h n) (v:Int):bb s A h (n.Da v):=k
theorem bb.yI (k:bb s A h n) (v:Bool):bb s A h (n.yI v):=k
theorem bb.IH (k:bb s A h n) (v:Bool):bb s A h (n.IH v):=k
theorem bb.KQ (k:bb s A h n):bb s A { h with ba:=none,bc:=0 } (n.IG []) :=
 let ⟨a,b,c,d,_,f,g,i,j,l⟩:=k
 ⟨a,b,c,d,aW.nil _ _ _ _ _,f,g,i,j,l⟩
theorem bb.H5 (k:bb s A h n):bb s A { h with pa:=none,pc:=0 } (n.mZ []) :=
 let ⟨a,b,c,d,e,_,g,i,j,l⟩:=k
 ⟨a,b,c,d,e,aW.nil _ _ _ _ _,g,i,j,l⟩
theorem bb.XP (k:bb s A h n):bb s A { h with ea:=none,ec:=0 } (n.C8 []) :=
 let ⟨a,b,c,_,e,f,g,i,j,_⟩:=k
 ⟨a,b,c,aW.nil _ _ _ _ _,e,f,g,i,j,Dj.XR _⟩
theorem Nd.entries (k:Nd s A p h n):aW bg 6 65 s A h.ea h.ec n.s.ah.entries:=k.au.2.2.2.1
theorem Nd.cB (k:Nd s A p h n):aW g8 2 133 s A h.ba h.bc n.s.cB:=k.au.2.2.2.2.1
theorem Nd.aK (k:Nd s A p h n):aW fI 3 136 s A h.pa h.pc n.s.aK:=k.au.2.2.2.2.2.1
theorem Nd.qL (k:Nd s A p h n):aW bg 6 65 s A h.oa h.oc n.o.entries:=k.au.2.2.2.2.2.2.2.1
theorem Nd.aG (k:Nd s A p h n):aW iH 14 56 s A h.ma h.mc n.o.aG:=k.au.2.2.2.2.2.2.2.2.1
theorem Nd.apart {α:Type} {R:aj→List Value→α→Prop} {sz c:Nat} {el:TypeId} {a:Option Addr} {xs:List α} (k:Nd s A p h n) (ho:aW R sz el s A a c xs) (bH:el≠109) (hk:∀ b,A b≠none→(∀ ad,a=some ad→ad.block≠b)→A' b=A b):A' p=A p :=
 hk p (by rw[k.cells];simp) (ho.yZ k.cells bH)
theorem Nd.aa7 {ys:List nD} (k:Nd s A p h n) (ho:aW g8 2 133 s A' a' c' (n.s.cB++ys)) (hk:∀ b,A b≠none→(∀ ad,h.ba=some ad→ad.block≠b)→A' b=A b) :
  A' p=some (.cells (py n h).toArray 109 (0,0))∧bb s A' { h with ba:=a',bc:=c' } (n.IG (n.s.cB++ys)):=by
 refine⟨(k.apart k.cB (by decide) hk).trans k.cells,?_⟩
 have hb:=k.cB
 obtain⟨a,b,c,d,e,f,g,i,j,l⟩:=k.au
 exact⟨a,b,c,d.cR (hb.dj d (by decide)) hk,ho,f.cR (hb.dj f (by decide)) hk,g,i.cR (hb.dj i (by decide)) hk,j.cR (hb.dj j (by decide)) hk,l⟩
theorem Nd.SW {ys:List cK} (k:Nd s A p h n) (ho:aW fI 3 136 s A' a' c' (n.s.aK++ys)) (hk:∀ b,A b≠none→(∀ ad,h.pa=some ad→ad.block≠b)→A' b=A b) :
  A' p=some (.cells (py n h).toArray 109 (0,0))∧bb s A' { h with pa:=a',pc:=c' } (n.mZ (n.s.aK++ys)):=by
 refine⟨(k.apart k.aK (by decide) hk).trans k.cells,?_⟩
 have hb:=k.aK
 obtain⟨a,b,c,d,e,f,g,i,j,l⟩:=k.au
 exact⟨a,b,c,d.cR (hb.dj d (by decide)) hk,e.cR (hb.dj e (by decide)) hk,ho,g,i.cR (hb.dj i (by decide)) hk,j.cR (hb.dj j (by decide)) hk,l⟩
theorem Nd.uB {ys:List az} (k:Nd s A p h n) (ho:aW iH 14 56 s A' a' c' (n.o.aG++ys)) (hk:∀ b,A b≠none→(∀ ad,h.ma=some ad→ad.block≠b)→A' b=A b) :
  A' p=some (.cells (py n h).toArray 109 (0,0))∧bb s A' { h with ma:=a',mc:=c' } (n.LK (n.o.aG++ys)):=by
 refine⟨(k.apart k.aG (by decide) hk).trans k.cells,?_⟩
 have hb:=k.aG
 obtain⟨a,b,c,d,e,f,g,i,j,l⟩:=k.au
 exact⟨a,b,c,d.cR (hb.dj d (by decide)) hk,e.cR (hb.dj e (by decide)) hk,f.cR (hb.dj f (by decide)) hk,g,i.cR (hb.dj i (by decide)) hk,ho,l⟩
theorem Dj.grow {B:aj} {a b:Option Addr} {α:Type} {R:aj→List Value→α→Prop} {sz c:Nat} {el:TypeId} {xs:List α} (hd:Dj a b) (ho:aW R sz el s A b c xs) (hn:∀ ad,a'=some ad→a=some ad∨A ad.block=none):Dj a' b:=by
 intro x y hx hy e
 rcases hn x hx with h1 | h1
 exact hd x y h1 hy e
 rw[e] at h1
 exact ho.Mp hy h1
theorem Nd.aa8 {ys:List aA} (k:Nd s A p h n) (ho:aW bg 6 65 s A' a' c' (n.s.ah.entries++ys)) (hk:∀ b,A b≠none→(∀ ad,h.ea=some ad→ad.block≠b)→A' b=A b) (hn:∀ ad,a'=some ad→h.ea=some ad∨A ad.block=none) :
  A' p=some (.cells (py n h).toArray 109 (0,0))∧bb s A' { h with ea:=a',ec:=c' } (n.C8 (n.s.ah.entries++ys)):=by
 refine⟨(k.apart k.entries (by decide) hk).trans k.cells,?_⟩
 have hb:=k.entries
 obtain⟨a,b,c,d,e,f,g,i,j,l⟩:=k.au
 exact⟨a,b,c,ho,e.cR (hb.dj e (by decide)) hk,f.cR (hb.dj f (by decide)) hk,g,i.cR l hk,j.cR (hb.dj j (by decide)) hk,l.grow (B:=A) i hn⟩
theorem Nd.aa9 {ys:List aA} (k:Nd s A p h n) (ho:aW bg 6 65 s A' a' c' (n.o.entries++ys)) (hk:∀ b,A b≠none→(∀ ad,h.oa=some ad→ad.block≠b)→A' b=A b) (hn:∀ ad,a'=some ad→h.oa=some ad∨A ad.block=none) :
  A' p=some (.cells (py n h).toArray 109 (0,0))∧bb s A' { h with oa:=a',oc:=c' } (n.Db (n.o.entries++ys)):=by
 refine⟨(k.apart k.qL (by decide) hk).trans k.cells,?_⟩
 have hb:=k.qL
 obtain⟨a,b,c,d,e,f,g,i,j,l⟩:=k.au
 exact⟨a,b,c,d.cR l.symm hk,e.cR (hb.dj e (by decide)) hk,f.cR (hb.dj f (by decide)) hk,g,ho,j.cR (hb.dj j (by decide)) hk,(l.symm.grow (B:=A) d hn).symm⟩
end
section
variable {P:Program} {m:Nat} {ops:Array Oper} {Q:Exit→Act→World→Prop} {S:World→Prop} {au:List (Bool × Oper)} {E:dE} {w:World} {o:Oper} {d:Nat} {v:Value}
variable {s A:aj} {os:List aj} {x y:Operand} {T:Bool} {p:Nat} {h1:Hd} {n1:ai}
theorem RL.RD {t:TypeId} {k j:Nat} {i:Nat} {ag:Bool} {cs:Array Value} {u:Value} (hg:bR ops E o=some true) (hd:o.dst=none) (ho:o.op = .store t x y) (ht:dD P t=some (ag,k))
  (hx:ev E x=some (.pointer (some ((⟨p,0,none⟩:Addr).add j)))) (hy:ev E y=some u) (hG:ak w s os) (hi:os[i]?=some A) (hA:A p=some (.cells cs 109 (0,0))) (hr:bb s A h1 n1) (hk:u.cells.size=k) (nU:∀ z∈u.cells.toList,z.oneCell'=true) (hj:j+k≤cs.size)
  (he:cs.toList.take j++u.cells.toList++cs.toList.drop (j+k)=py n1 h1)
  (h:∀ w' A',ak w' s (os.set i A')→ar w w'→Nd s A' p h1 n1→S w'∧RL P m ops Q S au E w'):RL P m ops Q S ((false,o)::au) E w :=
 RL.store hg hd ho ht hx hy hG hi hA hk nU hj fun w' h2 h3=>by
  rw[he] at h2
  exact h w' _ h2 h3 ⟨dq _ _ _,hr.put hA _⟩
theorem RL.aka {t:TypeId} {k j:Nat} {i:Nat} {ag:Bool} {cs:Array Value} {kk:IntKind} {v:Int} {n1:Int→ai} (hg:bR ops E o=some true) (hd:o.dst=none) (ho:o.op = .store t x y) (ht:dD P t=some (ag,k))
  (hx:ev E x=some (.pointer (some ((⟨p,0,none⟩:Addr).add j)))) (hy:ev E y=some (.int kk v)) (hG:ak w s os) (hi:os[i]?=some A) (hA:A p=some (.cells cs 109 (0,0))) (hr:∀ v,bb s A h1 (n1 v)) (hk:1=k) (hj:j+k≤cs.size)
  (he:cs.toList.take j++[.int kk v]++cs.toList.drop (j+k)=py (n1 v) h1)
  (h:∀ w' A',ak w' s (os.set i A')→ar w w'→Nd s A' p h1 (n1 v)→S w'∧RL P m ops Q S au E w'):RL P m ops Q S ((false,o)::au) E w :=
 RL.RD hg hd ho ht hx hy hG hi hA (hr v) hk (by simp[Value.cells,Value.oneCell']) hj he h
theorem RL.akb {t:TypeId} {k j:Nat} {i:Nat} {ag:Bool} {cs:Array Value} {v:Bool} {n1:Bool→ai} (hg:bR ops E o=some true) (hd:o.dst=none) (ho:o.op = .store t x y) (ht:dD P t=some (ag,k))
  (hx:ev E x=some (.pointer (some ((⟨p,0,none⟩:Addr).add j)))) (hy:ev E y=some (.bool v)) (hG:ak w s os) (hi:os[i]?=some A) (hA:A p=some (.cells cs 109 (0,0))) (hr:∀ v,bb s A h1 (n1 v)) (hk:1=k) (hj:j+k≤cs.size)
  (he:cs.toList.take j++[.bool v]++cs.toList.drop (j+k)=py (n1 v) h1)
  (h:∀ w' A',ak w' s (os.set i A')→ar w w'→Nd s A' p h1 (n1 v)→S w'∧RL P m ops Q S au E w'):RL P m ops Q S ((false,o)::au) E w :=
 RL.RD hg hd ho ht hx hy hG hi hA (hr v) hk (by simp[Value.cells,Value.oneCell']) hj he h
theorem RL.sN {t:TypeId} {k j:Nat} {i:Nat} {ag:Bool} {cs:Array Value} {u:Value} (hG:ak w s os) (hA:A p=some (.cells cs 109 (0,0))) (hr:bb s A h1 n1) (h:∀ w' A',ak w' s (os.set i A')→ar w w'→Nd s A' p h1 n1→S w'∧RL P m ops Q S au E w') (hg:bR ops E o=some true:=by exact rfl) (hd:o.dst=none:=by exact rfl) (ho:o.op = .store t x y:=by exact rfl) (ht:dD P t=some (ag,k):=by exact Fk.out) (hx:ev E x=some (.pointer (some ((⟨p,0,none⟩:Addr).add j))):=by exact rfl) (hy:ev E y=some (u):=by exact rfl) (hi:os[i]?=some A:=by exact rfl) (hk:u.cells.size=k:=by exact rfl) (nU:∀ z∈u.cells.toList,z.oneCell'=true:=by first | (simp[Value.cells,Value.oneCell'];done) | simp[Value.cells,Value.oneCell',lx]) (hj:j+k≤cs.size:=by first | exact Nat.le_of_ble_eq_true rfl | (simp;done) | (simp;omega) | omega) (he:cs.toList.take j++u.cells.toList++cs.toList.drop (j+k)=py n1 h1:=by exact rfl):RL P m ops Q S ((false,o)::au) E w:=RL.RD hg hd ho ht hx hy hG hi hA hr hk nU hj he h
theorem RL.sI {t:TypeId} {k j:Nat} {i:Nat} {ag:Bool} {cs:Array Value} {kk:IntKind} {v:Int} {n1:Int→ai} (hG:ak w s os) (hA:A p=some (.cells cs 109 (0,0))) (hr:∀ v,bb s A h1 (n1 v)) (h:∀ w' A',ak w' s (os.set i A')→ar w w'→Nd s A' p h1 (n1 v)→S w'∧RL P m ops Q S au E w') (hg:bR ops E o=some true:=by exact rfl) (hd:o.dst=none:=by exact rfl) (ho:o.op = .store t x y:=by exact rfl) (ht:dD P t=some (ag,k):=by exact Fk.out) (hx:ev E x=some (.pointer (some ((⟨p,0,none⟩:Addr).add j))):=by exact rfl) (hy:ev E y=some (.int kk v):=by exact rfl) (hi:os[i]?=some A:=by exact rfl) (hk:1=k:=by exact rfl) (hj:j+k≤cs.size:=by exact Nat.le_of_ble_eq_true rfl) (he:cs.toList.take j++[.int kk v]++cs.toList.drop (j+k)=py (n1 v) h1:=by exact rfl):RL P m ops Q S ((false,o)::au) E w:=RL.aka hg hd ho ht hx hy hG hi hA hr hk hj he h
theorem RL.sT {t:TypeId} {k j:Nat} {i:Nat} {ag:Bool} {cs:Array Value} {v:Bool} {n1:Bool→ai} (hG:ak w s os) (hA:A p=some (.cells cs 109 (0,0))) (hr:∀ v,bb s A h1 (n1 v)) (h:∀ w' A',ak w' s (os.set i A')→ar w w'→Nd s A' p h1 (n1 v)→S w'∧RL P m ops Q S au E w') (hg:bR ops E o=some true:=by exact rfl) (hd:o.dst=none:=by exact rfl) (ho:o.op = .store t x y:=by exact rfl) (ht:dD P t=some (ag,k):=by exact Fk.out) (hx:ev E x=some (.pointer (some ((⟨p,0,none⟩:Addr).add j))):=by exact rfl) (hy:ev E y=some (.bool v):=by exact rfl) (hi:os[i]?=some A:=by exact rfl) (hk:1=k:=by exact rfl) (hj:j+k≤cs.size:=by exact Nat.le_of_ble_eq_true rfl) (he:cs.toList.take j++[.bool v]++cs.toList.drop (j+k)=py (n1 v) h1:=by exact rfl):RL P m ops Q S ((false,o)::au) E w:=RL.akb hg hd ho ht hx hy hG hi hA hr hk hj he h
end
end Go.Lw
namespace Go.Lw
open Go.Proofs
attribute [local irreducible] RL RA
theorem xg {w:World} {s r:aj} {os:List aj} {xs:List Int} {xa:Option Addr} {xc:Nat} (hg:ak w s os) (hr:r=s∨r∈os) (hx:xs=[]∨∃ ad,xa=some ad∧kI (ax .u8) 1 r s ad xs) (hl:xs.length*1≤140737488355328) :
  Calls Tryz.prog 61 #[.slice xa xs.length xc] w (aw w s os fun s' A v=>s'=s∧∃ a c,v = .slice a xs.length c∧aW (ax .u8) 1 5 s' A a c xs):=by
 have ky:=ax.one .u8
 refine enter (l:=[.slice xa xs.length xc]) Tryz.func61 rfl Tryz.ntmps61 rfl ?_
 refine go 4 ?_
 refine CW.seq (CW.seq (CW.plain ?_))
 refine go 1 ?_
 refine RL.H4 rfl rfl rfl rfl j_.out rfl rfl ?_
 refine go 1 ?_
 refine CW.cond rfl (fun h=>?_) (fun h=>?_)
 refine CW.seq (CW.plain ?_)
 refine go 2 ?_
 have rk:xs=[]:=by
  rcases hx with hx | ⟨ad,rfl,_⟩
  exact hx
  cases h
 subst rk
 exact CW.ret (ret (vs:=[_]) ⟨_,_,rfl,rfl,rfl⟩ (aw.mk (Le.refl _) hg.nil (ar.refl _) ⟨rfl,none,0,rfl,aW.nil _ _ _ _ _⟩))
 refine CW.skip ?_
 refine go 2 ?_
 refine RL.buildSlice rfl rfl rfl rfl j_.out yK.out rfl rfl rfl rfl hg ?_
 rintro b w1 aH aN
 refine go 2 ?_
 obtain⟨bB,fe,cD⟩:=cU.row (c:=xc) j_.out hx (aH.drop.mI hr)
 refine RL.append (i:=0) (ys:=xs) rfl rfl rfl rfl j_.out yK.out rfl (by first | exact ax.one _ | exact pJ.one | exact pI.one | assumption) rfl rfl aH rfl (aW.fresh (R:=(ax .u8)) (sz:=1) (el:=5) (s:=s) (b:=b)) (fe) (cD) ((by simp;omega)) (by omega) ?_
 rintro a2 c2 A2 w2 aS x_ aR wq
 refine go 3 ?_
 exact CW.ret (ret (vs:=[_]) ⟨_,_,rfl,rfl,rfl⟩ (aw.mk (Le.refl _) aS (aN.trans aR) ⟨rfl,a2,c2,rfl,x_⟩))
theorem Sb {w:World} {s r:aj} {os:List aj} {xs:List aA} {xa:Option Addr} {xc:Nat} (hg:ak w s os) (hr:r=s∨r∈os) (hx:xs=[]∨∃ ad,xa=some ad∧kI bg 6 r s ad xs) (hl:xs.length*96≤140737488355328) :
  Calls Tryz.prog 63 #[.slice xa xs.length xc] w (aw w s os fun s' A v=>s'=s∧∃ a c,v = .slice a xs.length c∧aW bg 6 65 s' A a c xs):=by
 have ky:=bg.one
 refine enter (l:=[.slice xa xs.length xc]) Tryz.func63 rfl Tryz.ntmps63 rfl ?_
 refine go 4 ?_
 refine CW.seq (CW.seq (CW.plain ?_))
 refine go 1 ?_
 refine RL.H4 rfl rfl rfl rfl de.out rfl rfl ?_
 refine go 1 ?_
 refine CW.cond rfl (fun h=>?_) (fun h=>?_)
 refine CW.seq (CW.plain ?_)
 refine go 2 ?_
 have rk:xs=[]:=by
  rcases hx with hx | ⟨ad,rfl,_⟩
  exact hx
  cases h
 subst rk
 exact CW.ret (ret (vs:=[_]) ⟨_,_,rfl,rfl,rfl⟩ (aw.mk (Le.refl _) hg.nil (ar.refl _) ⟨rfl,none,0,rfl,aW.nil _ _ _ _ _⟩))
 refine CW.skip ?_
 refine go 2 ?_
 refine RL.buildSlice rfl rfl rfl rfl de.out rI.out rfl rfl rfl rfl hg ?_
 rintro b w1 aH aN
 refine go 2 ?_
 obtain⟨bB,fe,cD⟩:=cU.row (c:=xc) de.out hx (aH.drop.mI hr)
 refine RL.append (i:=0) (ys:=xs) rfl rfl rfl rfl de.out rI.out rfl (by first | exact ax.one _ | exact pJ.one | exact pI.one | assumption) rfl rfl aH rfl (aW.fresh (R:=bg) (sz:=6) (el:=65) (s:=s) (b:=b)) (fe) (cD) ((by simp;omega)) (by omega) ?_
 rintro a2 c2 A2 w2 aS x_ aR wq
 refine go 3 ?_
 exact CW.ret (ret (vs:=[_]) ⟨_,_,rfl,rfl,rfl⟩ (aw.mk (Le.refl _) aS (aN.trans aR) ⟨rfl,a2,c2,rfl,x_⟩))
theorem aae {w:World} {s r:aj} {os:List aj} {xs:List nD} {xa:Option Addr} {xc:Nat} (hg:ak w s os) (hr:r=s∨r∈os) (hx:xs=[]∨∃ ad,xa=some ad∧kI g8 2 r s ad xs) (hl:xs.length*16≤140737488355328) :
  Calls Tryz.prog 65 #[.slice xa xs.length xc] w (aw w s os fun s' A v=>s'=s∧∃ a c,v = .slice a xs.length c∧aW g8 2 133 s' A a c xs):=by
 have ky:=g8.one
 refine enter (l:=[.slice xa xs.length xc]) Tryz.func65 rfl Tryz.ntmps65 rfl ?_
 refine go 4 ?_
 refine CW.seq (CW.seq (CW.plain ?_))
 refine go 1 ?_
 refine RL.H4 rfl rfl rfl rfl vF.out rfl rfl ?_
 refine go 1 ?_
 refine CW.cond rfl (fun h=>?_) (fun h=>?_)
 refine CW.seq (CW.plain ?_)
 refine go 2 ?_
 have rk:xs=[]:=by
  rcases hx with hx | ⟨ad,rfl,_⟩
  exact hx
  cases h
 subst rk
 exact CW.ret (ret (vs:=[_]) ⟨_,_,rfl,rfl,rfl⟩ (aw.mk (Le.refl _) hg.nil (ar.refl _) ⟨rfl,none,0,rfl,aW.nil _ _ _ _ _⟩))
 refine CW.skip ?_
 refine go 2 ?_
 refine RL.buildSlice rfl rfl rfl rfl vF.out LQ.out rfl rfl rfl rfl hg ?_
 rintro b w1 aH aN
 refine go 2 ?_
 obtain⟨bB,fe,cD⟩:=cU.row (c:=xc) vF.out hx (aH.drop.mI hr)
 refine RL.append (i:=0) (ys:=xs) rfl rfl rfl rfl vF.out LQ.out rfl (by first | exact ax.one _ | exact pJ.one | exact pI.one | assumption) rfl rfl aH rfl (aW.fresh (R:=g8) (sz:=2) (el:=133) (s:=s) (b:=b)) (fe) (cD) ((by simp;omega)) (by omega) ?_
 rintro a2 c2 A2 w2 aS x_ aR wq
 refine go 3 ?_
 exact CW.ret (ret (vs:=[_]) ⟨_,_,rfl,rfl,rfl⟩ (aw.mk (Le.refl _) aS (aN.trans aR) ⟨rfl,a2,c2,rfl,x_⟩))
theorem Sc {w:World} {s r:aj} {os:List aj} {xs:List cK} {xa:Option Addr} {xc:Nat} (hg:ak w s os) (hr:r=s∨r∈os) (hx:xs=[]∨∃ ad,xa=some ad∧kI fI 3 r s ad xs) (hl:xs.length*24≤140737488355328) :
  Calls Tryz.prog 66 #[.slice xa xs.length xc] w (aw w s os fun s' A v=>s'=s∧∃ a c,v = .slice a xs.length c∧aW fI 3 136 s' A a c xs):=by
 have ky:=fI.one
 refine enter (l:=[.slice xa xs.length xc]) Tryz.func66 rfl Tryz.ntmps66 rfl ?_
 refine go 4 ?_
 refine CW.seq (CW.seq (CW.plain ?_))
 refine go 1 ?_
 refine RL.H4 rfl rfl rfl rfl qf.out rfl rfl ?_
 refine go 1 ?_
 refine CW.cond rfl (fun h=>?_) (fun h=>?_)
 refine CW.seq (CW.plain ?_)
 refine go 2 ?_
 have rk:xs=[]:=by
  rcases hx with hx | ⟨ad,rfl,_⟩
  exact hx
  cases h
 subst rk
 exact CW.ret (ret (vs:=[_]) ⟨_,_,rfl,rfl,rfl⟩ (aw.mk (Le.refl _) hg.nil (ar.refl _) ⟨rfl,none,0,rfl,aW.nil _ _ _ _ _⟩))
 refine CW.skip ?_
 refine go 2 ?_
 refine RL.buildSlice rfl rfl rfl rfl qf.out Fx.out rfl rfl rfl rfl hg ?_
 rintro b w1 aH aN
 refine go 2 ?_
 obtain⟨bB,fe,cD⟩:=cU.row (c:=xc) qf.out hx (aH.drop.mI hr)
 refine RL.append (i:=0) (ys:=xs) rfl rfl rfl rfl qf.out Fx.out rfl (by first | exact ax.one _ | exact pJ.one | exact pI.one | assumption) rfl rfl aH rfl (aW.fresh (R:=fI) (sz:=3) (el:=136) (s:=s) (b:=b)) (fe) (cD) ((by simp;omega)) (by omega) ?_
 rintro a2 c2 A2 w2 aS x_ aR wq
 refine go 3 ?_
 exact CW.ret (ret (vs:=[_]) ⟨_,_,rfl,rfl,rfl⟩ (aw.mk (Le.refl _) aS (aN.trans aR) ⟨rfl,a2,c2,rfl,x_⟩))
end Go.Lw
namespace Go.Lw
open Go.Proofs
attribute [local irreducible] RL RA
theorem bU {p:Prop} [Decidable p] (h:decide p=true):p:=of_decide_eq_true h
theorem ct {p:Prop} [Decidable p] (h:decide p=false):¬ p:=of_decide_eq_false h
theorem zV {α:Type} (l:List α):(((l.length:Nat):Int)==0)=decide (l=[]):=by cases l<;>simp<;>omega
section
variable {w:World} {s r:aj} {os:List aj}
theorem TX {a b:Nat} (ha:a≤maxLen) (hb:b≤maxLen):(IntKind.i64.wrap ((a:Int)+(b:Int))==0)=decide (a+b=0):=by
 simp only[maxLen] at ha hb
 rw[Bool.eq_iff_iff,beq_iff_eq,decide_eq_true_eq]
 simp only[IntKind.wrap,IntKind.bits,IntKind.signed]
 simp
 split<;>omega
theorem TW {c:aY} {va la:Option Addr} {vc lc:Nat} (hg:ak w s os) (hv:c.av.length≤maxLen) (hl:c.aD.length≤maxLen) :
  Calls Tryz.prog 122 #[.agg #[.slice va c.av.length vc,.slice la c.aD.length lc]] w (aQ w s os fun q=>q = .bool (qW c)):=by
 refine enter (l:=[.agg #[.slice va c.av.length vc,.slice la c.aD.length lc]]) Tryz.func122 rfl Tryz.ntmps122 rfl ?_
 refine go 3 ?_
 rintro b1 w1 Q1 aH aN cz
 refine go 12 ?_
 refine RL.nH rfl rfl rfl rfl (.bool (qW c)) (congrArg Value.bool (TX hv hl)) ?_
 refine go 2 ?_
 refine CW.ret (bP ?_)
 exact aQ.mq (aH.drop) rfl
theorem abo {c:aY} {va la:Option Addr} {vc lc:Nat} (hg:ak w s os) (hv:c.av.length≤maxLen) (hl:c.aD.length≤maxLen) :
  Calls Tryz.prog 59 #[.agg #[.slice va c.av.length vc,.slice la c.aD.length lc]] w (aQ w s os fun q=>q = .bool (qW c)):=by
 refine enter (l:=[.agg #[.slice va c.av.length vc,.slice la c.aD.length lc]]) Tryz.func59 rfl Tryz.ntmps59 rfl ?_
 refine go 3 ?_
 rintro b2 w2 Q2 aS aR gj
 refine go 12 ?_
 refine RL.nH rfl rfl rfl rfl (.bool (qW c)) (congrArg Value.bool (TX hv hl)) ?_
 refine go 2 ?_
 refine CW.ret (bP ?_)
 exact aQ.mq (aS.drop) rfl
theorem acM {e:aA} {vs:List Value} {i t:Int} (hg:ak w s os) (hE:bg s vs e) (h0:0≤i) (hi:i<iv) (ht:aq .u64 t) :
  Calls Tryz.prog 88 #[.agg vs.toArray,u64 i,u64 t] w (aQ w s os fun q=>q = .bool (pL e i t)):=by
 obtain⟨a,c,a1,c1,a2,c2,rfl,r1,r2,r3,h1,h2,h3⟩:=hE
 simp only[iv] at hi
 have cH:=h1.gL
 refine enter (l:=[.agg #[u64 e.index,u64 e.ab,i64 e.ao,.slice a e.data.length c,.slice a1 e.aJ.av.length c1,.slice a2 e.aJ.aD.length c2],u64 i,u64 t]) Tryz.func88 rfl Tryz.ntmps88 rfl ?_
 refine go 3 ?_
 rintro b3 w3 Q3 aP bw ks
 refine go 12 ?_
 refine RL.part 12 rfl (fun lB=>?_) (fun lB=>?_)
 refine go 16 ?_
 refine CW.ret (bP ?_)
 refine aQ.mq (aP.drop) (congrArg Value.bool ?_)
 simp_all [pL,sx,qW,iv,zV]
 try (intro hx;first | omega | exact absurd (of_decide_eq_true hx) (by omega))
 refine go 6 ?_
 refine RL.part 18 rfl (fun jC=>?_) (fun jC=>?_)
 refine go 10 ?_
 refine CW.ret (bP ?_)
 refine aQ.mq (aP.drop) (congrArg Value.bool ?_)
 simp_all [pL,sx,qW,iv,zV]
 try (intro hx;first | omega | exact absurd (of_decide_eq_true hx) (by omega))
 refine go 5 ?_
 refine CW.cond rfl (fun iJ=>?_) (fun iJ=>?_)
 refine go 4 ?_
 refine CW.ret (bP ?_)
 refine aQ.mq (aP.drop) (congrArg Value.bool ?_)
 simp_all [pL,sx,qW,iv,zV]
 try (intro hx;first | omega | exact absurd (of_decide_eq_true hx) (by omega))
 refine go 13 ?_
 refine CW.cond rfl (fun pM=>?_) (fun pM=>?_)
 refine go 5 ?_
 refine zw (TW aP h2.gL h3.gL) ?_
 rintro v4 w4 bp bJ rfl
 refine go 2 ?_
 refine RL.part 30 rfl (fun v_=>?_) (fun v_=>?_)
 refine go 7 ?_
 refine CW.ret (bP ?_)
 refine aQ.mq (bp.drop) (congrArg Value.bool ?_)
 simp_all [pL,sx,qW,iv,zV]
 try (intro hx;first | omega | exact absurd (of_decide_eq_true hx) (by omega))
 refine go 7 ?_
 refine CW.ret (bP ?_)
 refine aQ.mq (bp.drop) (congrArg Value.bool ?_)
 simp_all [pL,sx,qW,iv,zV]
 try (intro hx;first | omega | exact absurd (of_decide_eq_true hx) (by omega))
 refine go 5 ?_
 refine CW.cond rfl (fun jD=>?_) (fun jD=>?_)
 refine go 5 ?_
 refine zw (TW aP h2.gL h3.gL) ?_
 rintro v5 w5 bh bQ rfl
 refine go 3 ?_
 refine CW.ret (bP ?_)
 refine aQ.mq (bh.drop) (congrArg Value.bool ?_)
 simp_all [pL,sx,qW,iv,zV]
 try (intro hx;first | omega | exact absurd (of_decide_eq_true hx) (by omega))
 refine go 5 ?_
 refine CW.cond rfl (fun gi=>?_) (fun gi=>?_)
 refine go 8 ?_
 refine CW.ret (bP ?_)
 refine aQ.mq (aP.drop) (congrArg Value.bool ?_)
 simp_all [pL,sx,qW,iv,zV]
 try (intro hx;first | omega | exact absurd (of_decide_eq_true hx) (by omega))
 refine go 5 ?_
 refine CW.ret (bP ?_)
 refine aQ.mq (aP.drop) (congrArg Value.bool ?_)
 simp_all [pL,sx,qW,iv,zV]
 try (intro hx;first | omega | exact absurd (of_decide_eq_true hx) (by omega))
theorem aju {i t:Int} {xs:List aA} {k:Nat} {i' t':Int} (hk:k<xs.length) (h:fx i t xs=fx i' t' (xs.drop k)) (hf:pL xs[k] i' t'=true):fx i t xs=fx xs[k].index xs[k].ab (xs.drop (k+1)):=by
 rw[h,List.drop_eq_getElem_cons hk]
 simp only[fx,hf,Bool.true_and]
theorem Ys {xs:List aA} {a:Option Addr} {c:Nat} {i t:Int} (hg:ak w s os) (hr:r=s∨r∈os) (hl:ee bg 6 r s a c xs) (hi:aq .u64 i) (ht:aq .u64 t) :
  Calls Tryz.prog 56 #[u64 i,u64 t,.slice a xs.length c] w (aQ w s os fun q=>q = .bool (lI i t xs)):=by
 have hm:=hl.gL
 simp only[maxLen] at hm
 simp only[aq] at hi
 refine enter (l:=[u64 i,u64 t,.slice a xs.length c]) Tryz.func56 rfl Tryz.ntmps56 rfl ?_
 refine go 10 ?_
 refine RL.part 11 rfl (fun jo=>?_) (fun jo=>?_)
 refine go 13 ?_
 refine CW.ret (bP ?_)
 exact aQ.mq hg (congrArg Value.bool (by have:=bU jo;simp only[lI];rw[decide_eq_false (by simp only[iv];omega)];rfl))
 refine go 2 ?_
 refine RL.conv rfl rfl rfl rfl Tryz.underlying3 Tryz.underlying22 rfl ((by simp only[aq];omega)) ?_
 refine go 1 ?_
 refine RL.sub rfl rfl rfl rfl rfl rfl ((by have:=ct jo;simp only[aq];omega)) ?_
 refine go 3 ?_
 refine CW.cond rfl (fun jC=>?_) (fun jC=>?_)
 refine go 4 ?_
 refine CW.ret (bP ?_)
 exact aQ.mq hg (congrArg Value.bool (by have:=bU jC;simp only[lI];rw[decide_eq_false (show ¬ (xs.length:Int)<iv-i by simp only[iv];omega)];simp))
 refine go 9 ?_
 have cz:i<iv:=by have:=ct jo;simp only[iv];omega
 have gj:i+xs.length<iv:=by have:=ct jC;simp only[iv];omega
 have Wh:lI i t xs=fx i t xs:=by simp only[lI,decide_eq_true cz,Bool.true_and,decide_eq_true (show (xs.length:Int)<iv-i by omega)]
 refine CW.loop (σ:=Nat) (fun j E w'=>ak w' s os∧ar w w'∧∃ (k:Nat) (i' t':Int),E=[(0,u64 i'),(1,u64 t'),(19,.slice a xs.length c),(20,i64 xs.length),(21,i64 k)]∧k+j=xs.length∧i'=i+k∧aq .u64 t'∧fx i t xs=fx i' t' (xs.drop k)) (fun j=>j) xs.length [(0,u64 i),(1,u64 t),(19,.slice a xs.length c),(20,i64 xs.length),(21,i64 0)] ⟨rfl,rfl,rfl,rfl,rfl,trivial⟩ ⟨hg,(ar.refl _),0,i,t,rfl,by omega,by simp,ht,rfl⟩ ?_
 rintro j E wL ⟨cd,cQ,k,i',t',rfl,hk,oz,qF,PP⟩
 refine go 5 ?_
 refine CW.cond rfl (fun iJ=>?_) (fun iJ=>?_)
 refine go 5 ?_
 have be:k<xs.length:=by have:=bU iJ;omega
 refine RL.dX rfl rfl rfl rfl de.out rfl rfl hl (by omega) (by omega) ?_
 rintro q vs eH hH hE
 have mi:=hE
 obtain⟨ea,ec,ea1,ec1,ea2,ec2,rfl,er1,er2,er3,eh1,eh2,eh3⟩:=mi
 refine RL.gX (j:=0) (us:=_) rfl rfl rfl rfl nv.out rfl (hH) (cd.mI hr) rfl rfl ?_
 refine go 1 ?_
 rintro b6 w6 Q6 bx bM mn
 refine go 2 ?_
 rintro w7 Q7 bO cj qu
 refine go 9 ?_
 refine zw (acM bO hE (by omega) (by omega) qF) ?_
 rintro v8 w8 bD cM rfl
 refine go 3 ?_
 refine CW.cond rfl (fun iB=>?_) (fun iB=>?_)
 refine go 4 ?_
 refine CW.ret (bP ?_)
 refine aQ.mq (bD.drop) (congrArg Value.bool ?_)
 rw[Wh,PP,List.drop_eq_getElem_cons be]
 simp only[Int.toNat_natCast,Bool.not_eq_true'] at iB
 simp[fx,iB]
 refine go 1 ?_
 have bA:=bD.drew
 refine CW.dw [1,3,5,7,8,10] (fun w=>ay b6 _ w∧True) ?_
 refine go 11 ?_
 simp only[Int.toNat_natCast,Bool.not_eq_false'] at iB
 have agU:=aju be PP iB
 have eG:xs[k].index=i'+1:=by simp only[pL,Bool.and_eq_true,decide_eq_true_eq] at iB;exact iB.1.1.1
 cases j with
 | zero=>omega
 | succ j=>exact fun ac ha=>⟨j,[(0,u64 xs[k].index),(1,u64 xs[k].ab),(19,.slice a xs.length c),(20,i64 xs.length),(21,i64 ((k:Int)+1))],ha.sub ⟨rfl,rfl,rfl,rfl,rfl,trivial⟩,⟨(bA.drop),(cQ.trans (bM.trans (cj.trans (cM.trans (ar.drew _))))),k+1,_,_,rfl,by omega,by rw[eG,oz];omega,er2,agU⟩,Nat.lt_succ_self j⟩
 refine go 5 ?_
 refine CW.ret (bP ?_)
 have qz:k=xs.length:=by have:=ct iJ;omega
 refine aQ.mq cd (congrArg Value.bool ?_)
 rw[Wh,PP,qz,List.drop_length];rfl
abbrev gY (l:br) (h:Hd):Value:= .agg (yq l h).toArray
theorem aad {l:br} {h:Hd} (hg:ak w s os) (hr:r=s∨r∈os) (hl:d_ r s l h) :
  Calls Tryz.prog 29 #[gY l h] w (aQ w s os fun q=>q = .bool (wH l)):=by
 refine enter (l:=[gY l h]) Tryz.func29 rfl Tryz.ntmps29 rfl ?_
 refine go 3 ?_
 rintro qU eX mE bj cm fS
 refine go 10 ?_
 refine RL.part 7 rfl (fun h7=>?_) (fun h7=>?_)
 refine go 9 ?_
 refine zw (Ys bj (hr.imp id (List.mem_cons_of_mem _)) hl.entries hl.index hl.ab) ?_
 rintro uh iS cy dH rfl
 refine go 4 ?_
 refine CW.ret (bP ?_)
 refine aQ.mq (cy.drop) (congrArg Value.bool ?_)
 simp_all [wH,iv]
 try (intro hx;first | omega | exact absurd (of_decide_eq_true hx) (by omega))
 refine go 12 ?_
 refine CW.ret (bP ?_)
 refine aQ.mq (bj.drop) (congrArg Value.bool ?_)
 simp_all [wH,iv]
 try (intro hx;first | omega | exact absurd (of_decide_eq_true hx) (by omega))
theorem aaR {n g:Nat} {cap:Array Value} {p:Nat→Bool} (hg:ak w s os) (hn:n<4611686018427387904) (hc:km Tryz.prog g=true) (hp:∀ k,k<n→∀ w',ak w' s os→Calls Tryz.prog g (#[i64 k]++cap) w' (aQ w' s os fun q=>q = .bool (p k))) :
  Calls Tryz.prog 157 #[i64 n,.func (.func g) #[] cap] w (aQ w s os fun q=>q=i64 (mY p 0 n)):=by
 refine enter (l:=[i64 n,.func (.func g) #[] cap]) Tryz.func157 rfl Tryz.ntmps157 rfl ?_
 refine go 12 ?_
 refine CW.loop (σ:=Nat) (fun j E w'=>ak w' s os∧ar w w'∧∃ (a b:Nat),E=[(1,.func (.func g) #[] cap),(5,i64 a),(6,i64 b)]∧a≤b∧b≤n∧j=b-a∧mY p 0 n=mY p a b) (fun j=>j) n [(1,.func (.func g) #[] cap),(5,i64 0),(6,i64 n)] ⟨rfl,rfl,rfl,trivial⟩ ⟨hg,(ar.refl _),0,n,rfl,by omega,by omega,by omega,rfl⟩ ?_
 rintro j E wL ⟨cd,cQ,a,b,rfl,lf,hbn,hj,hs⟩
 refine go 7 ?_
 refine CW.cond rfl (fun jo=>?_) (fun jo=>?_)
 refine go 6 ?_
 have be:a<b:=by have:=bU jo;omega
 refine go 1 ?_
 refine RL.conv rfl rfl rfl rfl Tryz.underlying3 Tryz.underlying200 rfl ((by simp only[aq];omega)) ?_
 refine RL.shr 1 rfl rfl rfl rfl rfl rfl rfl (by decide) ?_
 refine RL.conv rfl rfl rfl rfl Tryz.underlying200 Tryz.underlying3 rfl ((by simp only[aq];omega)) ?_
 refine go 6 ?_
 have hm:((a:Int)+(b:Int)) / 2 ^ 1=(((a+b) / 2:Nat):Int):=by omega
 simp only[hm]
 refine RL.tj rfl rfl rfl rfl rfl rfl hc (hp ((a+b) / 2) (by omega) _ cd) ?_
 rintro e1 w1 ⟨v1,rfl,aH,aN,rfl⟩
 refine⟨_,rfl,trivial,?_⟩
 refine go 2 ?_
 refine CW.cond rfl (fun m_=>?_) (fun m_=>?_)
 refine go 5 ?_
 have hs:mY p 0 n=mY p ((a+b) / 2+1) b:=hs.trans (by rw[mY,dif_pos be,if_neg (by simpa using m_)])
 exact fun ac ha=>⟨b-((a+b) / 2+1),[(1,.func (.func g) #[] cap),(5,i64 ((((a+b) / 2:Nat):Int)+1)),(6,i64 b)],ha.sub ⟨rfl,rfl,rfl,trivial⟩,⟨aH,cQ.trans aN,(a+b) / 2+1,b,rfl,by omega,by omega,rfl,hs⟩,by omega⟩
 refine go 4 ?_
 have hs:mY p 0 n=mY p a ((a+b) / 2):=hs.trans (by rw[mY,dif_pos be,if_pos (by simpa using m_)])
 exact fun ac ha=>⟨(a+b) / 2-a,[(1,.func (.func g) #[] cap),(5,i64 a),(6,i64 (((a+b) / 2:Nat):Int))],ha.sub ⟨rfl,rfl,rfl,trivial⟩,⟨aH,cQ.trans aN,a,(a+b) / 2,rfl,by omega,by omega,rfl,hs⟩,by omega⟩
 refine go 6 ?_
 refine CW.ret (bP ?_)
 have mr:¬ a<b:=by have:=ct jo;omega
 have hs:mY p 0 n=a:=hs.trans (by rw[mY,dif_neg mr])
 exact aQ.mq cd (by rw[hs];rfl)
theorem ai0 {l:br} {h:Hd} {i:Int} {b1 b2 k:Nat} {B1 B2:aj} (hg:ak w s (B2::B1::os)) (hr:r=s∨r∈B2::B1::os) (hl:d_ r s l h) (c1:B1 b1=some (.cells (yq l h).toArray 33 (0,0))) (c2:B2 b2=some (.cells #[u64 i] 22 (0,0))) (hk:k<l.entries.length) :
  Calls Tryz.prog 158 #[i64 k,ptr b1,ptr b2] w (aQ w s (B2::B1::os) fun q=>q = .bool (KS l.entries i k)):=by
 refine enter (l:=[i64 k,ptr b1,ptr b2]) Tryz.func158 rfl Tryz.ntmps158 rfl ?_
 refine go 5 ?_
 have cw:=hg.drew
 refine CW.iA [(true,0),(true,1),(true,2),(true,3),(true,4),(true,5),(true,6),(true,7),(false,8)] (fun w=>ay b1 _ w∧ay b2 _ w∧In r w∧True) mixed (by kernel_rfl) (by kernel_rfl) (by kernel_rfl) (by kernel_rfl) (⟨cw.bS (by simp) c1,cw.bS (by simp) c2,cw.mI hr,trivial⟩) ?_
 refine go 3 ?_
 refine RL.dX rfl rfl rfl rfl de.out rfl rfl hl.entries (by omega) (by omega) ?_
 rintro q vs eH hH ⟨ea,ec,ea1,ec1,ea2,ec2,rfl,er1,er2,er3,eh1,eh2,eh3⟩
 refine go 1 ?_
 refine RL.fV (j:=0) rfl rfl rfl rfl aV.out rfl (hH) (fun w h=>h.2.2.1) rfl ?_
 refine go 4 ?_
 refine CW.ret (bP ?_)
 refine aQ.mq cw (congrArg Value.bool ?_)
 simp only[KS,List.getElem?_eq_getElem hk,Int.toNat_natCast,ge_iff_le]
theorem Rd {l:br} {h:Hd} {i:Int} (hg:ak w s os) (hr:r=s∨r∈os) (hl:d_ r s l h) (hn:l.entries.length<4611686018427387904) :
  Calls Tryz.prog 138 #[gY l h,u64 i] w (aQ w s os fun q=>q=i64 (eI l i)):=by
 refine enter (l:=[gY l h,u64 i]) Tryz.func138 rfl Tryz.ntmps138 rfl ?_
 refine go 3 ?_
 rintro oP ji m7 dd eh nQ
 refine go 2 ?_
 rintro te nw rK ck g_ tt
 refine go 8 ?_
 refine RL.tO rfl rfl rfl rfl rfl ?_
 refine go 1 ?_
 refine zw (aaR ck hn rfl (fun k hk w' fh=>ai0 fh (hr.imp id fun z=>List.mem_cons_of_mem _ (List.mem_cons_of_mem _ z)) hl nQ tt hk)) ?_
 rintro yD n_ dt iW rfl
 refine go 3 ?_
 refine CW.ret (bP ?_)
 exact aQ.mq ((dt.drop).drop) rfl
theorem acQ {l:List aA} (h:0<l.length):l.getLast?=some (l[l.length-1]'(by omega)):=by
 rw[List.getLast?_eq_getElem?,List.getElem?_eq_getElem]
theorem FB {l:br} {h:Hd} (hg:ak w s os) (hr:r=s∨r∈os) (hl:d_ r s l h) :
  Calls Tryz.prog 31 #[gY l h] w (aQ w s os fun q=>q = .tuple #[u64 (bX l).1,u64 (bX l).2]):=by
 have hm:=hl.entries.gL
 simp only[maxLen] at hm
 refine enter (l:=[gY l h]) Tryz.func31 rfl Tryz.ntmps31 rfl ?_
 refine go 3 ?_
 rintro xm md vT eC ie qt
 refine go 17 ?_
 refine CW.cond rfl (fun h9=>?_) (fun h9=>?_)
 refine go 1 ?_
 have eZ:=eC.drew
 refine CW.iA [(true,0),(true,1),(true,2),(true,3),(true,4),(true,5),(true,6),(true,7),(true,8),(true,9),(true,10),(true,11),(true,12),(true,13),(false,14),(false,15)] (fun w=>ay xm _ w∧In r w∧True) mixed (by kernel_rfl) (by kernel_rfl) (by kernel_rfl) (by kernel_rfl) (⟨eZ.bS (by simp) qt,eZ.mI (hr.imp id (List.mem_cons_of_mem _)),trivial⟩) ?_
 refine go 3 ?_
 have hp:0<l.entries.length:=by have:=bU h9;omega
 refine go 1 ?_
 refine RL.dX rfl rfl rfl rfl de.out rfl rfl hl.entries (by omega) (by omega) ?_
 rintro q vs eH hH ⟨ea,ec,ea1,ec1,ea2,ec2,rfl,er1,er2,er3,eh1,eh2,eh3⟩
 refine go 1 ?_
 refine RL.fV (j:=0) rfl rfl rfl rfl aV.out rfl (hH) (fun w h=>h.2.1) rfl ?_
 refine go 4 ?_
 refine RL.dX rfl rfl rfl rfl de.out rfl rfl hl.entries (by omega) (by omega) ?_
 rintro q2 vs2 oE eS ⟨fa,fc,fa1,fc1,fa2,fc2,rfl,fr1,fr2,fr3,fh1,fh2,fh3⟩
 refine go 1 ?_
 refine RL.fV (j:=1) rfl rfl rfl rfl aV.out rfl (eS) (fun w h=>h.2.1) rfl ?_
 refine go 3 ?_
 refine CW.ret (nC ?_)
 have he:((l.entries.length:Int)-1).toNat=l.entries.length-1:=by omega
 refine aQ.mq (eZ.drop) ?_
 simp only[whole,he]
 simp only[bX,acQ hp]
 refine go 2 ?_
 have fd:=eC.drew
 refine CW.dw [1,3,5,7,9,11,12,14] (fun w=>ay xm _ w∧True) ?_
 refine go 9 ?_
 refine CW.ret (nC ?_)
 have h0:l.entries=[]:=List.eq_nil_of_length_eq_zero (by have:=ct h9;omega)
 refine aQ.mq (fd.drop) ?_
 simp only[whole,bX,h0,List.getLast?_nil]
theorem akk {l:br} {i:Int} (h:i≠l.aF.index) (hk:¬ eI l i<l.entries.length):cE l i=(0,false):=by
 unfold cE;rw[if_neg h,List.getElem?_eq_none (by omega)]
theorem Y5 {l:br} {i:Int} (h:i≠l.aF.index) (hk:eI l i<l.entries.length):cE l i=if l.entries[eI l i].index=i then (l.entries[eI l i].ab,true) else (0,false):=by
 unfold cE;rw[if_neg h,List.getElem?_eq_getElem hk]
theorem Dm {l:br} {h:Hd} {i:Int} (hg:ak w s os) (hr:r=s∨r∈os) (hl:d_ r s l h) (hn:l.entries.length<4611686018427387904) :
  Calls Tryz.prog 115 #[gY l h,u64 i] w (aQ w s os fun q=>q = .tuple #[u64 (cE l i).1,.bool (cE l i).2]):=by
 refine enter (l:=[gY l h,u64 i]) Tryz.func115 rfl Tryz.ntmps115 rfl ?_
 refine go 3 ?_
 rintro Mr pF qS fU jr o0
 refine go 13 ?_
 refine CW.cond rfl (fun jo=>?_) (fun jo=>?_)
 refine go 8 ?_
 refine CW.ret (nC ?_)
 have hi:i=l.aF.index:=by simpa using jo
 exact aQ.mq (fU.drop) (by simp only[whole,cE,if_pos hi])
 refine go 7 ?_
 refine zw (Rd fU (hr.imp id (List.mem_cons_of_mem _)) hl hn) ?_
 rintro Iy qh e_ jE rfl
 refine go 11 ?_
 refine RL.part 23 rfl (fun nL=>?_) (fun nL=>?_)
 refine go 3 ?_
 refine RL.dX rfl rfl rfl rfl de.out rfl rfl hl.entries (by omega) (by have:=bU nL;omega) ?_
 rintro q vs eH hH ⟨ea,ec,ea1,ec1,ea2,ec2,rfl,er1,er2,er3,eh1,eh2,eh3⟩
 refine go 1 ?_
 refine RL.load (j:=0) rfl rfl rfl rfl aV.out rfl (hH) (e_.mI (hr.imp id (List.mem_cons_of_mem _))) rfl ?_
 refine go 4 ?_
 refine CW.cond rfl (fun lT=>?_) (fun lT=>?_)
 refine go 5 ?_
 refine RL.dX rfl rfl rfl rfl de.out rfl rfl hl.entries (by omega) (by have:=bU nL;omega) ?_
 rintro q2 vs2 oE eS ⟨fa,fc,fa1,fc1,fa2,fc2,rfl,fr1,fr2,fr3,fh1,fh2,fh3⟩
 refine go 1 ?_
 refine RL.load (j:=1) rfl rfl rfl rfl aV.out rfl (eS) (e_.mI (hr.imp id (List.mem_cons_of_mem _))) rfl ?_
 refine go 3 ?_
 refine CW.ret (nC ?_)
 have hi:i≠l.aF.index:=by simpa using jo
 have hk:eI l i<l.entries.length:=by have:=bU nL;omega
 simp only[Int.toNat_natCast,beq_iff_eq] at lT
 exact aQ.mq (e_.drop) (by simp only[whole,Y5 hi hk,if_pos lT,Int.toNat_natCast])
 refine go 6 ?_
 refine CW.ret (nC ?_)
 have hi:i≠l.aF.index:=by simpa using jo
 have hk:eI l i<l.entries.length:=by have:=bU nL;omega
 simp only[Int.toNat_natCast,beq_eq_false_iff_ne,ne_eq] at lT
 exact aQ.mq (e_.drop) (by simp only[whole,Y5 hi hk,if_neg lT])
 refine go 17 ?_
 refine CW.ret (nC ?_)
 have hi:i≠l.aF.index:=by simpa using jo
 have hk:¬ eI l i<l.entries.length:=by have:=ct nL;omega
 exact aQ.mq (e_.drop) (by simp only[whole,akk hi hk])
theorem IY {l:br} {h:Hd} {i t:Int} (hg:ak w s os) (hr:r=s∨r∈os) (hl:d_ r s l h) :
  Calls Tryz.prog 104 #[gY l h,u64 i,u64 t] w (aQ w s os fun q=>q = .bool (mz l i t)):=by
 refine enter (l:=[gY l h,u64 i,u64 t]) Tryz.func104 rfl Tryz.ntmps104 rfl ?_
 refine go 3 ?_
 rintro rO oN Aq fv iX xF
 refine go 7 ?_
 refine zw (FB fv (hr.imp id (List.mem_cons_of_mem _)) hl) ?_
 rintro v22 qN iL lh rfl
 refine go 14 ?_
 refine CW.cond rfl (fun mH=>?_) (fun mH=>?_)
 refine go 7 ?_
 refine CW.ret (bP ?_)
 refine aQ.mq (iL.drop) (congrArg Value.bool ?_)
 simp_all [mz]
 refine go 8 ?_
 refine CW.ret (bP ?_)
 refine aQ.mq (iL.drop) (congrArg Value.bool ?_)
 simp_all [mz]
end
end Go.Lw
namespace Go.Lw
open Go.Proofs
attribute [local irreducible] RL RA
def aY.bL (c:aY):Prop:=c.av.length≤1073741824∧c.aD.length≤1073741824
def aA.bL (e:aA):Prop:=e.data.length≤1073741824∧e.aJ.bL
theorem aW.empty {α:Type} {R:aj→List Value→α→Prop} {sz:Nat} {el:TypeId} {s A:aj} {b:Nat} (h:A b=some (.cells #[] el (0,0))):aW R sz el s A (some ⟨b,0,none⟩) 0 []:= .inr ⟨b,#[],rfl,h,Nat.le_refl _,Nat.zero_le _,by simp,by simp[cF]⟩
theorem ee.grow {α:Type} {R:aj→List Value→α→Prop} {sz c:Nat} {r s s':aj} {os:List aj} {a:Option Addr} {xs:List α} (hR:Up R) (hr:r=s∨r∈os) (h:ee R sz r s a c xs) (hl:Le s s'):∃ r',(r'=s'∨r'∈os)∧ee R sz r' s' a c xs:=by
 rcases hr with rfl | hr
 exact⟨s',.inl rfl,(h.mem hl).up hR hl⟩
 exact⟨r,.inr hr,h.up hR hl⟩
section
variable {w:World} {s r:aj} {os:List aj}
theorem Jk {c:aY} {va la:Option Addr} {vc lc:Nat} (hg:ak w s os) (hv:fD s va vc c.av) (hl:fD s la lc c.aD) (hb:c.bL) :
  Calls Tryz.prog 58 #[.agg #[.slice va c.av.length vc,.slice la c.aD.length lc]] w (aw w s os fun s' _ q=>∃ vs,q = .agg vs.toArray∧fH s' vs c):=by
 obtain⟨cz,gj⟩:=hb
 refine enter (l:=[.agg #[.slice va c.av.length vc,.slice la c.aD.length lc]]) Tryz.func58 rfl Tryz.ntmps58 rfl ?_
 refine go 3 ?_
 rintro b1 w1 Q1 aH aN cz
 refine go 2 ?_
 rintro b2 w2 Q2 aS aR gj
 refine go 3 ?_
 have aP:=aS.drew
 refine CW.dw [1,3,7,9,4,10,13,14] (fun w=>ay b1 _ w∧True) ?_
 refine go 5 ?_
 refine zc (sZ aP (.inl rfl) hv.2.2 (by omega)) ?_
 rintro v4 s4 Q4 w4 fL bp bJ ⟨-,a5,c5,rfl,ms⟩
 have hl:=hl.up (ax.up _) fL
 have hv:=hv.up (ax.up _) fL
 refine go 2 ?_
 refine zc (sZ bp (.inl rfl) hl.2.2 (by omega)) ?_
 rintro v5 s5 Q5 w5 dz bh bQ ⟨-,a8,c8,rfl,pf⟩
 have hl:=hl.up (ax.up _) dz
 have hv:=hv.up (ax.up _) dz
 refine go 3 ?_
 rintro w6 Q6 bx bM mn
 refine go 2 ?_
 refine CW.ret (ret (vs:=[_]) ⟨_,_,_,rfl,rfl,zl mn,rfl⟩ ?_)
 obtain⟨s1,fw,bN,cH⟩:=(bx.ae 1 rfl).bY
 obtain⟨s2,nV,gV,mN⟩:=fw.bY
 exact aw.mk (((fL.trans dz).trans bN).trans gV) nV.drop.drop.nil (aN.trans (aR.trans ((ar.drew _).trans (bJ.trans (bQ.trans bM))))) ⟨_,rfl,a5,c5,a8,c8,rfl,ms.ci (ax.up _) ((dz.trans bN).trans gV) (cH.trans gV),pf.ci (ax.up _) (((Le.refl _).trans bN).trans gV) mN⟩
theorem TO {c:aY} {va la:Option Addr} {vc lc:Nat} (hg:ak w s os) (hv:fD s va vc c.av) (hl:fD s la lc c.aD) (hb:c.bL) :
  Calls Tryz.prog 62 #[.agg #[.slice va c.av.length vc,.slice la c.aD.length lc]] w (aw w s os fun s' _ q=>∃ vs,q = .agg vs.toArray∧fH s' vs c):=by
 obtain⟨cz,gj⟩:=hb
 refine enter (l:=[.agg #[.slice va c.av.length vc,.slice la c.aD.length lc]]) Tryz.func62 rfl Tryz.ntmps62 rfl ?_
 refine go 3 ?_
 rintro b7 w7 Q7 bO cj qu
 refine go 2 ?_
 rintro b8 w8 Q8 bD cM ra
 refine go 3 ?_
 have bA:=bD.drew
 refine CW.dw [1,3,7,9,4,10,13,14] (fun w=>ay b7 _ w∧True) ?_
 refine go 5 ?_
 refine zc (sZ bA (.inl rfl) hv.2.2 (by omega)) ?_
 rintro C4 Fb mE eX o8 bj cm ⟨-,a5,c5,rfl,ms⟩
 have hl:=hl.up (ax.up _) o8
 have hv:=hv.up (ax.up _) o8
 refine go 2 ?_
 refine zc (sZ bj (.inl rfl) hl.2.2 (by omega)) ?_
 rintro uh mA rJ iS dy cy dH ⟨-,a8,c8,rfl,pf⟩
 have hl:=hl.up (ax.up _) dy
 have hv:=hv.up (ax.up _) dy
 refine go 3 ?_
 rintro jA me cw dK ml
 refine go 2 ?_
 refine CW.ret (ret (vs:=[_]) ⟨_,_,_,rfl,rfl,zl ml,rfl⟩ ?_)
 obtain⟨s1,fw,bN,cH⟩:=(cw.ae 1 rfl).bY
 obtain⟨s2,nV,gV,mN⟩:=fw.bY
 exact aw.mk (((o8.trans dy).trans bN).trans gV) nV.drop.drop.nil (cj.trans (cM.trans ((ar.drew _).trans (cm.trans (dH.trans dK))))) ⟨_,rfl,a5,c5,a8,c8,rfl,ms.ci (ax.up _) ((dy.trans bN).trans gV) (cH.trans gV),pf.ci (ax.up _) (((Le.refl _).trans bN).trans gV) mN⟩
theorem TQ {c:aY} {va la:Option Addr} {vc lc:Nat} (hg:ak w s os) (hv:fD s va vc c.av) (hl:fD s la lc c.aD) (hb:c.bL) :
  Calls Tryz.prog 156 #[.agg #[.slice va c.av.length vc,.slice la c.aD.length lc]] w (aw w s os fun s' _ q=>∃ vs,q = .agg vs.toArray∧fH s' vs c):=by
 obtain⟨cz,gj⟩:=hb
 refine enter (l:=[.agg #[.slice va c.av.length vc,.slice la c.aD.length lc]]) Tryz.func156 rfl Tryz.ntmps156 rfl ?_
 refine go 3 ?_
 rintro oP ji m7 dd eh nQ
 refine go 2 ?_
 rintro te nw rK ck g_ tt
 refine go 3 ?_
 have dt:=ck.drew
 refine CW.dw [1,3,7,9,4,10,13,14] (fun w=>ay oP _ w∧True) ?_
 refine go 5 ?_
 refine zc (sZ dt (.inl rfl) hv.2.2 (by omega)) ?_
 rintro w_ Ih vT md xQ eC ie ⟨-,a5,c5,rfl,ms⟩
 have hl:=hl.up (ax.up _) xQ
 have hv:=hv.up (ax.up _) xQ
 refine go 2 ?_
 refine zc (sZ eC (.inl rfl) hl.2.2 (by omega)) ?_
 rintro C5 CU qn ny oC eZ hY ⟨-,a8,c8,rfl,pf⟩
 have hl:=hl.up (ax.up _) oC
 have hv:=hv.up (ax.up _) oC
 refine go 3 ?_
 rintro oM vU fd iC rY
 refine go 2 ?_
 refine CW.ret (ret (vs:=[_]) ⟨_,_,_,rfl,rfl,zl rY,rfl⟩ ?_)
 obtain⟨s1,fw,bN,cH⟩:=(fd.ae 1 rfl).bY
 obtain⟨s2,nV,gV,mN⟩:=fw.bY
 exact aw.mk (((xQ.trans oC).trans bN).trans gV) nV.drop.drop.nil (eh.trans (g_.trans ((ar.drew _).trans (ie.trans (hY.trans iC))))) ⟨_,rfl,a5,c5,a8,c8,rfl,ms.ci (ax.up _) ((oC.trans bN).trans gV) (cH.trans gV),pf.ci (ax.up _) (((Le.refl _).trans bN).trans gV) mN⟩
theorem ace {e:aA} {vs:List Value} (hg:ak w s os) (hE:bg s vs e) (hb:e.bL) :
  Calls Tryz.prog 173 #[.agg vs.toArray] w (aw w s os fun s' _ q=>∃ us,q = .agg us.toArray∧bg s' us e):=by
 obtain⟨a,c,a1,c1,a2,c2,rfl,r1,r2,r3,h1,h2,h3⟩:=hE
 obtain⟨cz,gj⟩:=hb
 refine enter (l:=[.agg #[u64 e.index,u64 e.ab,i64 e.ao,.slice a e.data.length c,.slice a1 e.aJ.av.length c1,.slice a2 e.aJ.aD.length c2]]) Tryz.func173 rfl Tryz.ntmps173 rfl ?_
 refine go 3 ?_
 rintro Mr pF qS fU jr o0
 refine go 2 ?_
 rintro th qh vV e_ jE uR
 refine go 3 ?_
 have fv:=e_.drew
 refine CW.dx [1,3,7,9,4,13,10] [14,17,18] 7 3 (fun w=>ay Mr _ w∧True) ?_
 refine go 5 ?_
 refine zc (xg fv (.inl rfl) h1.2.2 (by omega)) ?_
 rintro v22 s22 vW qN BS iL lh ⟨-,a5,c5,rfl,ms⟩
 have h1:=h1.up (ax.up _) BS
 have h2:=h2.up (ax.up _) BS
 have h3:=h3.up (ax.up _) BS
 refine go 3 ?_
 refine zc (Jk iL h2 h3 gj) ?_
 rintro v23 s23 B23 xe Em iM pR ⟨vs8,rfl,Gf⟩
 have iM:=iM.drop
 have h1:=h1.up (ax.up _) Em
 have h2:=h2.up (ax.up _) Em
 have h3:=h3.up (ax.up _) Em
 obtain⟨va8,vc8,la8,lc8,rfl,HK,GZ⟩:=Gf
 refine go 4 ?_
 rintro uk As gB nP xG
 refine go 3 ?_
 rintro ul Au js ou uS
 refine go 6 ?_
 rintro un yP gk mJ wh
 refine go 2 ?_
 refine CW.ret (ret (vs:=[_]) ⟨_,_,_,rfl,rfl,zl wh,rfl⟩ ?_)
 obtain⟨s1,fw,bN,cH⟩:=gk.bY
 exact aw.mk ((BS.trans Em).trans bN) fw.drop.drop.nil (jr.trans (jE.trans ((ar.drew _).trans (lh.trans (pR.trans (nP.trans (ou.trans mJ))))))) ⟨_,rfl,a5,c5,va8,vc8,la8,lc8,rfl,r1,r2,r3,ms.ci (ax.up _) (Em.trans bN) cH,HK.up (ax.up _) ((Le.refl _).trans bN),GZ.up (ax.up _) ((Le.refl _).trans bN)⟩
theorem MO {e:aA} {vs:List Value} (hg:ak w s os) (hE:bg s vs e) (hb:e.bL) :
  Calls Tryz.prog 64 #[.agg vs.toArray] w (aw w s os fun s' _ q=>∃ us,q = .agg us.toArray∧bg s' us e):=by
 obtain⟨a,c,a1,c1,a2,c2,rfl,r1,r2,r3,h1,h2,h3⟩:=hE
 obtain⟨cz,gj⟩:=hb
 refine enter (l:=[.agg #[u64 e.index,u64 e.ab,i64 e.ao,.slice a e.data.length c,.slice a1 e.aJ.av.length c1,.slice a2 e.aJ.aD.length c2]]) Tryz.func64 rfl Tryz.ntmps64 rfl ?_
 refine go 3 ?_
 rintro b27 rH Di iN mj zp
 refine go 2 ?_
 rintro I9 vH Av jG oZ uT
 refine go 3 ?_
 have i_:=jG.drew
 refine CW.dx [1,3,7,9,4,13,10] [14,17,18] 7 3 (fun w=>ay b27 _ w∧True) ?_
 refine go 5 ?_
 refine zc (xg i_ (.inl rfl) h1.2.2 (by omega)) ?_
 rintro LA Rq L7 yG sf ja rV ⟨-,a5,c5,rfl,ms⟩
 have h1:=h1.up (ax.up _) sf
 have h2:=h2.up (ax.up _) sf
 have h3:=h3.up (ax.up _) sf
 refine go 3 ?_
 refine zc (TO ja h2 h3 gj) ?_
 rintro Zs s31 B31 Ah xS kQ uO ⟨vs8,rfl,Gf⟩
 have kQ:=kQ.drop
 have h1:=h1.up (ax.up _) xS
 have h2:=h2.up (ax.up _) xS
 have h3:=h3.up (ax.up _) xS
 obtain⟨va8,vc8,la8,lc8,rfl,HK,GZ⟩:=Gf
 refine go 4 ?_
 rintro sW Aw iD ov r6
 refine go 3 ?_
 rintro qi Dl c_ gR xI
 refine go 6 ?_
 rintro yH I1 jt rW JN
 refine go 2 ?_
 refine CW.ret (ret (vs:=[_]) ⟨_,_,_,rfl,rfl,zl JN,rfl⟩ ?_)
 obtain⟨s1,fw,bN,cH⟩:=jt.bY
 exact aw.mk ((sf.trans xS).trans bN) fw.drop.drop.nil (mj.trans (oZ.trans ((ar.drew _).trans (rV.trans (uO.trans (ov.trans (gR.trans rW))))))) ⟨_,rfl,a5,c5,va8,vc8,la8,lc8,rfl,r1,r2,r3,ms.ci (ax.up _) (xS.trans bN) cH,HK.up (ax.up _) ((Le.refl _).trans bN),GZ.up (ax.up _) ((Le.refl _).trans bN)⟩
theorem DE {xs:List aA} {a:Option Addr} {c:Nat} (hg:ak w s os) (hr:r=s∨r∈os) (hl:ee bg 6 r s a c xs) (tG:∀ e∈xs,e.bL) (hb:xs.length≤1099511627776) :
  Calls Tryz.prog 149 #[.slice a xs.length c] w (aw w s os fun s' A q=>∃ a' c',q = .slice a' xs.length c'∧aW bg 6 65 s' A a' c' xs):=by
 refine enter (l:=[.slice a xs.length c]) Tryz.func149 rfl Tryz.ntmps149 rfl ?_
 refine go 8 ?_
 refine RL.Xt rfl rfl rfl rfl de.out rI.out rfl rfl rfl (by omega) (by omega) hg ?_
 rintro g A7 w7 GQ N6 hA7
 refine go 7 ?_
 obtain⟨bB,fe,cD⟩:=cU.eU (t:=31) de.out hl (GQ.mI (hr.imp id (List.mem_cons_of_mem _)))
 have mr:=cD.length
 have gW:(pG xs.length [Value.int IntKind.u64 0,Value.int IntKind.u64 0,Value.int IntKind.i64 0,Value.slice none 0 0,Value.slice none 0 0,Value.slice none 0 0]).toArray.size=xs.length*6:=by rw[List.size_toArray,LR];rfl
 refine RL.copy (i:=0) xs.length rfl rfl rfl rfl de.out rfl rfl fe.len (Nat.min_self _) (fe.first _ rfl) GQ rfl hA7 (by rw[gW];omega) (cD.one bg.one) ?_
 intro wc Ea N5
 refine go 1 ?_
 have lD:=aW.T4 (A:=A7) (el:=65) (g:=g) gW cD (by simp only[maxLen];omega)
 generalize (A7.put g (.cells (l9 (pG xs.length [Value.int IntKind.u64 0,Value.int IntKind.u64 0,Value.int IntKind.i64 0,Value.slice none 0 0,Value.slice none 0 0,Value.slice none 0 0]).toArray 0 bB) 65 (0,0)))=AC at Ea lD
 refine go 9 ?_
 refine CW.loop (σ:=Nat) (fun j E w'=>∃ s' A' k,ak w' s' (A'::os)∧ar w w'∧Le s s'∧E=[(3,.slice (some ⟨g,0,none⟩) xs.length xs.length),(12,i64 xs.length),(13,i64 (k:Nat))]∧k+j=xs.length∧aW bg 6 65 s' A' (some ⟨g,0,none⟩) xs.length xs) (fun j=>j) xs.length [(3,.slice (some ⟨g,0,none⟩) xs.length xs.length),(12,i64 xs.length),(13,i64 0)] ⟨rfl,rfl,rfl,trivial⟩ ⟨s,AC,0,Ea,(N6.trans N5),Le.refl _,rfl,by omega,lD⟩ ?_
 rintro j E wL ⟨sL,AL,k,cd,cQ,fk,rfl,hk,gp⟩
 refine go 5 ?_
 refine CW.cond rfl (fun lS=>?_) (fun lS=>?_)
 refine go 13 ?_
 have be:k<xs.length:=by have:=bU lS;omega
 refine RL.dX rfl rfl rfl rfl de.out rfl rfl gp.eU (by omega) (by omega) ?_
 rintro q vs eH hH hE
 have mi:=hE
 obtain⟨ea,ec,ea1,ec1,ea2,ec2,rfl,er1,er2,er3,eh1,eh2,eh3⟩:=mi
 refine RL.gX (j:=0) (us:=_) rfl rfl rfl rfl nv.out rfl (hH) (cd.mem (by simp)) rfl rfl ?_
 refine go 1 ?_
 refine zc (ace cd hE (tG _ (List.getElem_mem _))) ?_
 rintro v35 Lg B35 uo zH jH ow ⟨us,rfl,hU⟩
 have jH:=jH.drop
 have gp:=gp.up bg.up zH
 have Cq:us.length=6:=by obtain⟨_,_,_,_,_,_,rfl,_⟩:=hU;rfl
 refine go 1 ?_
 refine RL.Cy rfl rfl rfl rfl de.out rfl rfl gp (by omega) (by omega) ?_
 rintro g' cs vs' li oV dr Kr wi _
 cases li
 have pk:=gp.set oV be Cq hU
 rw[show xs.set k xs[((k:Nat):Int).toNat]=xs from List.set_getElem_self be] at pk
 have j5:k*6+6≤cs.size:=by rw[dr];omega
 refine RL.store (i:=0) (j:=k*6) rfl rfl rfl nv.out rfl rfl jH rfl oV (by simpa [Value.cells] using Cq) (by obtain⟨_,_,_,_,_,_,rfl,_⟩:=hU;simp[Value.cells,Value.oneCell']) j5 ?_
 intro ws BL Bw
 refine go 6 ?_
 cases j with
 | zero=>omega
 | succ j=>exact fun ac ha=>⟨j,[(3,.slice (some ⟨g,0,none⟩) xs.length xs.length),(12,i64 xs.length),(13,i64 ((k:Int)+1))],ha.sub ⟨rfl,rfl,rfl,trivial⟩,⟨_,_,k+1,BL,((cQ.trans ow)).trans Bw,(fk.trans zH),rfl,by omega,pk⟩,Nat.lt_succ_self j⟩
 refine go 6 ?_
 refine CW.ret (bP ?_)
 exact aw.mq cd ⟨_,_,rfl,gp⟩
end
end Go.Lw
namespace Go.Lw
open Go.Proofs
attribute [local irreducible] RL RA
def br.bL (l:br):Prop:=l.aF.aJ.bL∧l.aF.data.length≤1073741824∧(∀ e∈l.entries,e.bL)∧l.entries.length≤1099511627776
structure nE (A s:aj) (l:br) (h:Hd):Prop where
 index:aq .u64 l.aF.index
 ab:aq .u64 l.aF.ab
 av:bm (ax .i64) 1 s h.va h.vc l.aF.aJ.av
 aD:bm (ax .i64) 1 s h.la h.lc l.aF.aJ.aD
 data:bm (ax .u8) 1 s h.da h.dc l.aF.data
 entries:aW bg 6 65 s A h.ea h.ec l.entries
theorem nE.at {A s:aj} {l:br} {h:Hd} (k:nE A s l h):d_ A s l h:=⟨k.index,k.ab,k.av,k.aD,k.data,k.entries.eU⟩
theorem nE.up {A s s':aj} {l:br} {h:Hd} (k:nE A s l h) (hl:Le s s'):nE A s' l h :=
 ⟨k.index,k.ab,k.av.up (ax.up _) hl,k.aD.up (ax.up _) hl,k.data.up (ax.up _) hl,k.entries.up bg.up hl⟩
theorem nE.mem {A A' s:aj} {l:br} {h:Hd} (k:nE A s l h) (hl:Le A A'):nE A' s l h:={ k with entries:=k.entries.mem hl }
theorem Dj.apart {α β:Type} {R:aj→List Value→α→Prop} {R':aj→List Value→β→Prop} {sz sz' c c':Nat} {el el':TypeId} {s s' A B:aj} {a b:Option Addr} {xs:List α} {ys:List β} (h:aW R sz el s A a c xs) (k:aW R' sz' el' s' B b c' ys) (lf:fC A B):Dj a b:=fun x y hx hy e=>by
 have h1:=h.Mp hx
 have h2:=k.Mp hy
 exact h2 (e▸lf _ h1)
def Hd.ah (va:Option Addr) (vc:Nat) (la:Option Addr) (lc:Nat) (da:Option Addr) (dc:Nat) (ea:Option Addr) (ec:Nat):Hd:=⟨va,vc,la,lc,da,dc,ea,ec,none,0,none,0,none,0,none,0,none,0⟩
theorem akh {α:Type} (xs:List α) (most:Int):((xs.take (if (if 0>most then (0:Int) else most)<(xs.length:Int) then (if 0>most then (0:Int) else most) else (xs.length:Int)).toNat).drop (0:Int).toNat)=xs.take most.toNat:=by
 rw[show (0:Int).toNat=0 from rfl,List.drop_zero,List.take_eq_take_iff]
 split<;>split<;>omega
section
variable {w:World} {s r:aj} {os:List aj}
theorem ab6 {l:br} {h:Hd} (hg:ak w s os) (hr:r=s∨r∈os) (hl:d_ r s l h) (hs:l.bL) :
  Calls Tryz.prog 153 #[gY l h] w (aw w s os fun s' A q=>∃ h',q=gY l h'∧nE A s' l h'):=by
 obtain⟨fw,nV,nW,Ez⟩:=hs
 have Bp:=hl.entries
 refine enter (l:=[gY l h]) Tryz.func153 rfl Tryz.ntmps153 rfl ?_
 refine go 3 ?_
 rintro b1 w1 Q1 aH aN cz
 refine go 2 ?_
 rintro b2 w2 Q2 aS aR gj
 refine go 7 ?_
 rintro b3 w3 Q3 aP bw ks
 refine go 2 ?_
 rintro w4 Q4 bp bJ o3
 refine go 3 ?_
 have bh:=bp.drew
 refine CW.dx [1,3,7,9,4,13,10] [14,17,18] 7 3 (fun w=>ay b3 _ w∧True) ?_
 refine go 5 ?_
 refine zc (Jk bh hl.av hl.aD fw) ?_
 rintro v6 s6 B6 w6 jv bx bM ⟨vs8,rfl,Gf⟩
 have bx:=bx.drop
 have hl:=hl.up jv
 obtain⟨va8,vc8,la8,lc8,rfl,HK,GZ⟩:=Gf
 refine go 3 ?_
 refine zc (xg bx (.inl rfl) hl.data.2.2 (by omega)) ?_
 rintro v7 s7 Q7 w7 jK bO cj ⟨-,Mi,Mt,rfl,Hk⟩
 have hl:=hl.up jK
 refine go 4 ?_
 rintro w8 Q8 bD cM ra
 refine go 3 ?_
 rintro w9 Q9 bA cu rb
 refine go 3 ?_
 have bj:=bA.drew
 refine CW.dw [1,3,5,6,9,10] (fun w=>ay b3 _ w∧ay b1 _ w∧True) ?_
 refine go 3 ?_
 obtain⟨r17,agB,ado⟩:=ee.grow bg.up hr Bp (jv.trans jK)
 refine go 1 ?_
 refine zc (DE bj (agB.imp id fun z=>by simp[z]) ado nW Ez) ?_
 rintro uh mA rJ iS dy cy dH ⟨Mj,Mu,rfl,Eu⟩
 have hl:=hl.up dy
 refine go 3 ?_
 rintro jA me cw dK ml
 refine go 2 ?_
 refine CW.ret (ret (vs:=[_]) ⟨_,_,_,rfl,rfl,zl ml,rfl⟩ ?_)
 obtain⟨s1,fw,bN,cH⟩:=(cw.ae 1 rfl).bY
 have hl:=hl.up bN
 exact aw.mk ((jv.trans (jK.trans dy)).trans bN) fw.aE.aE.aE (aN.trans (aR.trans (bw.trans (bJ.trans ((ar.drew _).trans (bM.trans (cj.trans (cM.trans (cu.trans ((ar.drew _).trans (dH.trans dK))))))))))) ⟨Hd.ah va8 vc8 la8 lc8 Mi Mt Mj Mu,rfl,hl.index,hl.ab,HK.up (ax.up _) ((jK.trans dy).trans bN),GZ.up (ax.up _) ((jK.trans dy).trans bN),Hk.ci (ax.up _) (dy.trans bN) cH,Eu.up bg.up bN⟩
theorem aaT {l:br} {h:Hd} {am most:Int} (hg:ak w s os) (hr:r=s∨r∈os) (hl:d_ r s l h) (hs:l.bL) (rd:aq .u64 am) (jL:aq .i64 most) :
  Calls Tryz.prog 131 #[gY l h,u64 am,i64 most] w (aw w s os fun s' A q=>∃ a c,q = .tuple #[.slice a (oL l am most).1.length c,i64 (oL l am most).2]∧aW bg 6 65 s' A a c (oL l am most).1):=by
 obtain⟨fw,nV,nW,Ez⟩:=hs
 refine enter (l:=[gY l h,u64 am,i64 most]) Tryz.func131 rfl Tryz.ntmps131 rfl ?_
 refine go 3 ?_
 rintro oP ji m7 dd eh nQ
 refine go 9 ?_
 refine zw (FB dd (hr.imp id fun z=>by simp[z]) hl) ?_
 rintro Iw nw ck g_ rfl
 refine go 15 ?_
 refine RL.part 21 rfl (fun m_=>?_) (fun m_=>?_)
 refine go 12 ?_
 refine CW.ret (nC ?_)
 have hc:am≤l.aF.index:=bU m_
 exact aw.mq (ck.drop).nil ⟨none,0,by simp only[oL,if_pos (Or.inl hc)];rfl,by simp only[oL,if_pos (Or.inl hc)];exact aW.nil _ _ _ _ _⟩
 refine go 2 ?_
 refine RL.nH rfl rfl rfl rfl (u64 (bF (bX l).1)) (rfl) ?_
 refine go 3 ?_
 refine CW.cond rfl (fun il=>?_) (fun il=>?_)
 refine go 5 ?_
 refine CW.ret (nC ?_)
 have hc:bF (bX l).1<am:=bU il
 exact aw.mq (ck.drop).nil ⟨none,0,by simp only[oL,if_pos (Or.inr hc)];rfl,by simp only[oL,if_pos (Or.inr hc)];exact aW.nil _ _ _ _ _⟩
 refine go 2 ?_
 have dt:=ck.drew
 refine CW.dw [1,3,5,7,8,11,12] (fun w=>ay oP _ w∧True) ?_
 refine go 5 ?_
 refine zw (Rd dt (hr.imp id fun z=>by simp[z]) hl (by omega)) ?_
 rintro w_ md eC ie rfl
 refine go 1 ?_
 have iO:=Rc l am
 refine RL.yx (eI l am:Int) (l.entries.length:Int) rfl rfl rfl rfl de.out rfl (.inr ⟨_,_,rfl,rfl⟩) (.inl ⟨rfl,rfl⟩) hl.entries (by omega) (by omega) (by omega) ?_
 intro a32 c32 uH
 have e32:((l.entries.take (l.entries.length:Int).toNat).drop ((eI l am:Nat):Int).toNat)=l.entries.drop (eI l am):=by simp
 rw[e32] at uH ⊢
 refine go 8 ?_
 refine RL.max rfl rfl rfl rfl rfl rfl ?_
 refine RL.min rfl rfl rfl rfl rfl rfl ?_
 refine RL.yx (0:Int) (if (if 0>most then (0:Int) else most)<((l.entries.drop (eI l am)).length:Int) then (if 0>most then (0:Int) else most) else ((l.entries.drop (eI l am)).length:Int)) rfl rfl rfl rfl de.out rfl (.inl ⟨rfl,rfl⟩) (.inr ⟨_,_,rfl,rfl⟩) uH (by omega) (by split<;>split<;>omega) (by split<;>omega) ?_
 intro a39 c39 UF
 rw[akh] at UF ⊢
 refine go 1 ?_
 refine zc (DE eC (hr.imp id fun z=>by simp[z]) UF (fun e he=>nW e (List.mem_of_mem_drop (List.mem_of_mem_take he))) (by simp only[List.length_take,List.length_drop];omega)) ?_
 rintro C5 CU qn ny oC eZ hY ⟨iT,iU,rfl,jd⟩
 refine go 4 ?_
 refine CW.ret (nC ?_)
 have hc:¬ (am≤l.aF.index∨bF (bX l).1<am):=fun h=>h.elim (ct m_) (ct il)
 exact aw.mq eZ.aE ⟨iT,iU,by simp only[oL,if_neg hc];rfl,by simp only[oL,if_neg hc];exact jd⟩
end
end Go.Lw
namespace Go.Lw
open Go.Proofs
attribute [local irreducible] RL RA
def dm {α:Type} (p:α→Bool) (xs:List α):Int:=match xs.findIdx? p with | some k=>(k:Int) | none=> -1
theorem Qs {α:Type} {p:α→Bool} {xs:List α} {k:Nat} (hk:k<xs.length) (hp:p xs[k]=true) (hn:∀ x∈xs.take k,p x=false):dm p xs=k:=by
 unfold dm
 have:xs.findIdx? p=some k:=by
  rw[List.findIdx?_eq_some_iff_getElem]
  refine⟨hk,hp,fun j hj=>?_⟩
  have:=hn (xs[j]'(by omega)) (by rw[List.mem_take_iff_getElem];exact⟨j,by omega,rfl⟩)
  simpa using this
 rw[this]
theorem Qt {α:Type} {p:α→Bool} {xs:List α} (hn:∀ x∈xs,p x=false):dm p xs = -1:=by
 unfold dm
 have:xs.findIdx? p=none:=by rw[List.findIdx?_eq_none_iff];exact hn
 rw[this]
theorem WK {α:Type} (p:α→Bool) (xs:List α):decide (dm p xs≥0)=xs.any p:=by
 unfold dm
 cases h:xs.findIdx? p with
 | none =>
  rw[List.findIdx?_eq_none_iff] at h
  have:xs.any p=false:=List.any_eq_false.2 (fun x hx=>by simp[h x hx])
  rw[this];rfl
 | some k =>
  rw[List.findIdx?_eq_some_iff_getElem] at h
  obtain⟨hk,hp,_⟩:=h
  have:xs.any p=true:=List.any_eq_true.2 ⟨_,List.getElem_mem hk,hp⟩
  rw[this];simp
theorem Kz {α:Type} (p:α→Bool) (xs:List α) : -1≤dm p xs∧dm p xs<xs.length∨xs=[]∧dm p xs = -1:=by
 unfold dm
 cases h:xs.findIdx? p with
 | none=>cases xs with
  | nil=>exact .inr ⟨rfl,rfl⟩
  | cons x xs=>left;simp;omega
 | some k =>
  rw[List.findIdx?_eq_some_iff_getElem] at h
  obtain⟨hk,_⟩:=h
  left;simp only;omega
theorem takes {α:Type} {p:α→Bool} {xs:List α} {k:Nat} (hk:k<xs.length) (hn:∀ x∈xs.take k,p x=false) (hp:p xs[k]=false):∀ x∈xs.take (k+1),p x=false:=by
 intro x hx
 rw[List.take_succ_eq_append_getElem hk] at hx
 rcases List.mem_append.1 hx with hx | hx
 exact hn x hx
 obtain rfl:=List.mem_singleton.1 hx;exact hp
section
variable {w:World} {s r:aj} {os:List aj}
theorem L4 {xs:List aA} {xa:Option Addr} {xc g:Nat} {cap:Array Value} {p:aA→Bool} (hg:ak w s os) (hr:r=s∨r∈os) (hx:ee bg 6 r s xa xc xs) (hc:km Tryz.prog g=true)
  (hp:∀ x∈xs,∀ vs,bg s vs x→∀ w',ak w' s os→Calls Tryz.prog g (#[.agg vs.toArray]++cap) w' (aQ w' s os fun q=>q = .bool (p x))) :
  Calls Tryz.prog 154 #[.slice xa xs.length xc,.func (.func g) #[] cap] w (aQ w s os fun q=>q=i64 (dm p xs)):=by
 have bV:=hx.gL
 simp only[maxLen] at bV
 refine enter (l:=[.slice xa xs.length xc,.func (.func g) #[] cap]) Tryz.func154 rfl Tryz.ntmps154 rfl ?_
 refine go 12 ?_
 refine CW.loop (σ:=Nat) (fun j E w'=>ak w' s os∧ar w w'∧∃ k:Nat,E=[(0,.slice xa xs.length xc),(1,.func (.func g) #[] cap),(7,i64 xs.length),(8,i64 k)]∧k+j=xs.length∧∀ x∈xs.take k,p x=false) (fun j=>j) xs.length [(0,.slice xa xs.length xc),(1,.func (.func g) #[] cap),(7,i64 xs.length),(8,i64 0)] ⟨rfl,rfl,rfl,rfl,trivial⟩ ⟨hg,(ar.refl _),0,rfl,by omega,by simp⟩ ?_
 rintro j E wL ⟨cd,cQ,k,rfl,hk,bW⟩
 refine go 5 ?_
 refine CW.cond rfl (fun h9=>?_) (fun h9=>?_)
 refine go 13 ?_
 have be:k<xs.length:=by have:=bU h9;omega
 refine RL.dX rfl rfl rfl rfl de.out rfl rfl hx (by omega) (by omega) ?_
 rintro q vs eH hH hE
 have mi:=hE
 obtain⟨ea,ec,ea1,ec1,ea2,ec2,rfl,er1,er2,er3,eh1,eh2,eh3⟩:=mi
 refine RL.gX (j:=0) (us:=_) rfl rfl rfl rfl nv.out rfl (hH) (cd.mI hr) rfl rfl ?_
 refine RL.tj rfl rfl rfl rfl rfl rfl hc (hp _ (List.getElem_mem _) _ hE _ cd) ?_
 rintro e1 w1 ⟨v1,rfl,aH,aN,rfl⟩
 refine⟨_,rfl,trivial,?_⟩
 refine go 1 ?_
 refine CW.cond rfl (fun mH=>?_) (fun mH=>?_)
 refine go 5 ?_
 refine CW.ret (bP ?_)
 exact aQ.mq aH (congrArg i64 (Qs be mH bW).symm)
 refine go 5 ?_
 have Cf:=takes be bW mH
 cases j with
 | zero=>omega
 | succ j=>exact fun ac ha=>⟨j,[(0,.slice xa xs.length xc),(1,.func (.func g) #[] cap),(7,i64 xs.length),(8,i64 ((k:Int)+1))],ha.sub ⟨rfl,rfl,rfl,rfl,trivial⟩,⟨aH,cQ.trans aN,k+1,rfl,by omega,Cf⟩,Nat.lt_succ_self j⟩
 refine go 5 ?_
 refine CW.ret (bP ?_)
 have qz:k=xs.length:=by have:=ct h9;omega
 rw[qz,List.take_length] at bW
 exact aQ.mq cd (congrArg i64 (Qt bW).symm)
theorem aaq {xs:List cK} {xa:Option Addr} {xc g:Nat} {cap:Array Value} {p:cK→Bool} (hg:ak w s os) (hr:r=s∨r∈os) (hx:ee fI 3 r s xa xc xs) (hc:km Tryz.prog g=true)
  (hp:∀ x∈xs,∀ vs,fI s vs x→∀ w',ak w' s os→Calls Tryz.prog g (#[.agg vs.toArray]++cap) w' (aQ w' s os fun q=>q = .bool (p x))) :
  Calls Tryz.prog 143 #[.slice xa xs.length xc,.func (.func g) #[] cap] w (aQ w s os fun q=>q=i64 (dm p xs)):=by
 have bV:=hx.gL
 simp only[maxLen] at bV
 refine enter (l:=[.slice xa xs.length xc,.func (.func g) #[] cap]) Tryz.func143 rfl Tryz.ntmps143 rfl ?_
 refine go 12 ?_
 refine CW.loop (σ:=Nat) (fun j E w'=>ak w' s os∧ar w w'∧∃ k:Nat,E=[(0,.slice xa xs.length xc),(1,.func (.func g) #[] cap),(7,i64 xs.length),(8,i64 k)]∧k+j=xs.length∧∀ x∈xs.take k,p x=false) (fun j=>j) xs.length [(0,.slice xa xs.length xc),(1,.func (.func g) #[] cap),(7,i64 xs.length),(8,i64 0)] ⟨rfl,rfl,rfl,rfl,trivial⟩ ⟨hg,(ar.refl _),0,rfl,by omega,by simp⟩ ?_
 rintro j E wL ⟨cd,cQ,k,rfl,hk,bW⟩
 refine go 5 ?_
 refine CW.cond rfl (fun h9=>?_) (fun h9=>?_)
 refine go 13 ?_
 have be:k<xs.length:=by have:=bU h9;omega
 refine RL.dX rfl rfl rfl rfl qf.out rfl rfl hx (by omega) (by omega) ?_
 rintro q vs eH hH hE
 have mi:=hE
 obtain⟨rfl,er1⟩:=mi
 refine RL.gX (j:=0) (us:=_) rfl rfl rfl rfl yB.out rfl (hH) (cd.mI hr) rfl rfl ?_
 refine RL.tj rfl rfl rfl rfl rfl rfl hc (hp _ (List.getElem_mem _) _ hE _ cd) ?_
 rintro e1 w1 ⟨v1,rfl,aH,aN,rfl⟩
 refine⟨_,rfl,trivial,?_⟩
 refine go 1 ?_
 refine CW.cond rfl (fun mH=>?_) (fun mH=>?_)
 refine go 5 ?_
 refine CW.ret (bP ?_)
 exact aQ.mq aH (congrArg i64 (Qs be mH bW).symm)
 refine go 5 ?_
 have Cf:=takes be bW mH
 cases j with
 | zero=>omega
 | succ j=>exact fun ac ha=>⟨j,[(0,.slice xa xs.length xc),(1,.func (.func g) #[] cap),(7,i64 xs.length),(8,i64 ((k:Int)+1))],ha.sub ⟨rfl,rfl,rfl,rfl,trivial⟩,⟨aH,cQ.trans aN,k+1,rfl,by omega,Cf⟩,Nat.lt_succ_self j⟩
 refine go 5 ?_
 refine CW.ret (bP ?_)
 have qz:k=xs.length:=by have:=ct h9;omega
 rw[qz,List.take_length] at bW
 exact aQ.mq cd (congrArg i64 (Qt bW).symm)
theorem aai {xs:List aA} {xa:Option Addr} {xc g:Nat} {cap:Array Value} {p:aA→Bool} (hg:ak w s os) (hr:r=s∨r∈os) (hx:ee bg 6 r s xa xc xs) (hc:km Tryz.prog g=true)
  (hp:∀ x∈xs,∀ vs,bg s vs x→∀ w',ak w' s os→Calls Tryz.prog g (#[.agg vs.toArray]++cap) w' (aQ w' s os fun q=>q = .bool (p x))) :
  Calls Tryz.prog 133 #[.slice xa xs.length xc,.func (.func g) #[] cap] w (aQ w s os fun q=>q = .bool (xs.any p)):=by
 refine enter (l:=[.slice xa xs.length xc,.func (.func g) #[] cap]) Tryz.func133 rfl Tryz.ntmps133 rfl ?_
 refine go 9 ?_
 refine zw (L4 hg hr hx hc hp) ?_
 rintro v1 w1 aH aN rfl
 refine go 4 ?_
 refine CW.ret (bP ?_)
 exact aQ.mq aH (congrArg Value.bool (WK p xs))
end
end Go.Lw
namespace Go.Lw
open Go.Proofs
attribute [local irreducible] RL RA
section
variable {w:World} {s r:aj} {os:List aj}
theorem d_.grow {s':aj} {l:br} {h:Hd} (hr:r=s∨r∈os) (hl:d_ r s l h) (cg:Le s s'):∃ r',(r'=s'∨r'∈os)∧d_ r' s' l h:=by
 obtain⟨r',h1,h2⟩:=ee.grow bg.up hr hl.entries cg
 exact⟨r',h1,{ hl.up cg with entries:=h2 }⟩
theorem d_.none (r s:aj):d_ r s br.none (Hd.ah .none 0 .none 0 .none 0 .none 0) :=
 ⟨by simp[aq,br.none,gE.none],by simp[aq,br.none,gE.none],bm.nil _ _ _ (Nat.zero_le _),bm.nil _ _ _ (Nat.zero_le _),bm.nil _ _ _ (Nat.zero_le _),ee.nil _ _ _ _ (Nat.zero_le _)⟩
theorem nE.none (A s:aj):nE A s br.none (Hd.ah .none 0 .none 0 .none 0 .none 0) :=
 ⟨by simp[aq,br.none,gE.none],by simp[aq,br.none,gE.none],bm.nil _ _ _ (Nat.zero_le _),bm.nil _ _ _ (Nat.zero_le _),bm.nil _ _ _ (Nat.zero_le _),aW.nil _ _ _ _ _⟩
theorem XZ {l:br} {h:Hd} {e:aA} {vs:List Value} {B:aj} {b1:Nat} (hg:ak w s os) (hr:r=s∨r∈os) (hl:d_ r s l h) (hB:B∈os) (c1:B b1=some (.cells (yq l h).toArray 33 (0,0))) (hE:bg s vs e) (hn:l.entries.length<4611686018427387904) :
  Calls Tryz.prog 150 #[.agg vs.toArray,ptr b1] w (aQ w s os fun q=>q = .bool (sJ l e)):=by
 obtain⟨ea,ec,ea1,ec1,ea2,ec2,rfl,er1,er2,er3,eh1,eh2,eh3⟩:=hE
 refine enter (l:=[.agg #[u64 e.index,u64 e.ab,i64 e.ao,.slice ea e.data.length ec,.slice ea1 e.aJ.av.length ec1,.slice ea2 e.aJ.aD.length ec2],ptr b1]) Tryz.func150 rfl Tryz.ntmps150 rfl ?_
 refine go 3 ?_
 rintro b1 w1 Q1 aH aN cz
 refine go 5 ?_
 refine RL.gX (j:=0) (us:=_) rfl rfl rfl rfl C2.out rfl (Holds.of c1) (aH.mem (List.mem_cons_of_mem _ hB)) rfl rfl ?_
 refine go 3 ?_
 refine zw (Dm aH (hr.imp id fun z=>by simp[z]) hl hn) ?_
 rintro v2 w2 aS aR rfl
 refine go 11 ?_
 refine RL.part 14 rfl (fun lS=>?_) (fun lS=>?_)
 refine go 7 ?_
 refine CW.ret (bP ?_)
 refine aQ.mq (aS.drop) (congrArg Value.bool ?_)
 simp_all [sJ]
 try (rw[Bool.eq_iff_iff];simp)
 refine go 7 ?_
 refine CW.ret (bP ?_)
 refine aQ.mq (aS.drop) (congrArg Value.bool ?_)
 simp_all [sJ]
 try (rw[Bool.eq_iff_iff];simp)
theorem acN {l:br} {h:Hd} {e:aA} {vs:List Value} {B C:aj} {b1 b2:Nat} (hg:ak w s os) (hr:r=s∨r∈os) (hl:d_ r s l h) (hB:B∈os) (c1:B b1=some (.cells (yq l h).toArray 33 (0,0))) (hC:C∈os) (c2:C b2=some (.cells #[.func (.func 150) #[] #[ptr b1]] 175 (0,0))) (hE:bg s vs e) (hn:l.entries.length<4611686018427387904) :
  Calls Tryz.prog 151 #[.agg vs.toArray,ptr b1,ptr b2] w (aQ w s os fun q=>q = .bool (ed l e)):=by
 have Bp:=hE
 obtain⟨ea,ec,ea1,ec1,ea2,ec2,rfl,er1,er2,er3,eh1,eh2,eh3⟩:=hE
 refine enter (l:=[.agg #[u64 e.index,u64 e.ab,i64 e.ao,.slice ea e.data.length ec,.slice ea1 e.aJ.av.length ec1,.slice ea2 e.aJ.aD.length ec2],ptr b1,ptr b2]) Tryz.func151 rfl Tryz.ntmps151 rfl ?_
 refine go 3 ?_
 rintro b3 w3 Q3 aP bw ks
 refine go 5 ?_
 refine RL.gX (j:=0) (us:=_) rfl rfl rfl rfl C2.out rfl (Holds.of c1) (aP.mem (List.mem_cons_of_mem _ hB)) rfl rfl ?_
 refine go 3 ?_
 refine zw (Dm aP (hr.imp id fun z=>by simp[z]) hl hn) ?_
 rintro v4 w4 bp bJ rfl
 refine go 12 ?_
 refine RL.part 16 rfl (fun mH=>?_) (fun mH=>?_)
 refine go 6 ?_
 refine CW.ret (bP ?_)
 refine aQ.mq (bp.drop) (congrArg Value.bool ?_)
 simp_all [ed]
 refine RL.load (j:=0) rfl rfl rfl rfl Zd.out rfl (Holds.of c2) (bp.mem (List.mem_cons_of_mem _ hC)) rfl ?_
 refine go 1 ?_
 refine RL.tj rfl rfl rfl rfl rfl rfl rfl (XZ bp (hr.imp id fun z=>by simp[z]) hl (List.mem_cons_of_mem _ hB) c1 Bp hn) ?_
 rintro e5 w5 ⟨v5,rfl,bh,bQ,rfl⟩
 refine⟨_,rfl,trivial,?_⟩
 refine go 3 ?_
 refine CW.ret (bP ?_)
 refine aQ.mq (bh.drop) (congrArg Value.bool ?_)
 simp_all [ed]
theorem aev {l:br} {h:Hd} {e:aA} {vs:List Value} {B C D:aj} {b1 b2 b3:Nat} {aB:Int} (hg:ak w s os) (hr:r=s∨r∈os) (hl:d_ r s l h) (hB:B∈os) (c1:B b1=some (.cells (yq l h).toArray 33 (0,0))) (hC:C∈os) (c2:C b2=some (.cells #[.func (.func 150) #[] #[ptr b1]] 175 (0,0))) (hD:D∈os) (c3:D b3=some (.cells #[u64 aB] 22 (0,0))) (hE:bg s vs e) (hn:l.entries.length<4611686018427387904) :
  Calls Tryz.prog 152 #[.agg vs.toArray,ptr b3,ptr b2] w (aQ w s os fun q=>q = .bool (decide (e.index≤aB) && sJ l e)):=by
 have Bp:=hE
 obtain⟨ea,ec,ea1,ec1,ea2,ec2,rfl,er1,er2,er3,eh1,eh2,eh3⟩:=hE
 refine enter (l:=[.agg #[u64 e.index,u64 e.ab,i64 e.ao,.slice ea e.data.length ec,.slice ea1 e.aJ.av.length ec1,.slice ea2 e.aJ.aD.length ec2],ptr b3,ptr b2]) Tryz.func152 rfl Tryz.ntmps152 rfl ?_
 refine go 3 ?_
 rintro b6 w6 Q6 bx bM mn
 refine go 7 ?_
 refine RL.load (j:=0) rfl rfl rfl rfl aV.out rfl (Holds.of c3) (bx.mem (List.mem_cons_of_mem _ hD)) rfl ?_
 refine go 2 ?_
 refine RL.part 9 rfl (fun h9=>?_) (fun h9=>?_)
 refine RL.load (j:=0) rfl rfl rfl rfl Zd.out rfl (Holds.of c2) (bx.mem (List.mem_cons_of_mem _ hC)) rfl ?_
 refine go 1 ?_
 refine RL.tj rfl rfl rfl rfl rfl rfl rfl (XZ bx (hr.imp id fun z=>by simp[z]) hl (List.mem_cons_of_mem _ hB) c1 Bp hn) ?_
 rintro e7 w7 ⟨v7,rfl,bO,cj,rfl⟩
 refine⟨_,rfl,trivial,?_⟩
 refine go 3 ?_
 refine CW.ret (bP ?_)
 refine aQ.mq (bO.drop) (congrArg Value.bool ?_)
 simp_all
 try (intro hx;omega)
 refine go 6 ?_
 refine CW.ret (bP ?_)
 refine aQ.mq (bx.drop) (congrArg Value.bool ?_)
 simp_all
 try (intro hx;omega)
theorem fC.qc {q1 q2:aj} {s:aj} {w:World} (h:ak w s (q1::q2::os)):fC q1 q2:=h.2.2.1 q2 (by simp)
theorem XD {l:br} {aB i t:Int} {more:List aA} {k:Nat} (h1:lI i t more=true) (h2:¬ ((cE l i).2=false∨(cE l i).1≠t)) (h3:(more.any fun e=>decide (e.index≤aB) && sJ l e)=false) (hk:k<more.length) (h4:dm (ed l) more=k) :
  fb l aB i t more=⟨⟨l.aF,l.entries.take (eI l more[k].index)++more.drop k⟩,if eI l more[k].index<l.entries.length then more[k].index else 0,more.drop k,0⟩:=by
 have h5:more.findIdx? (ed l)=some k:=by
  unfold dm at h4
  cases hf:more.findIdx? (ed l) with
  | none=>rw[hf] at h4;simp only at h4;omega
  | some j=>rw[hf] at h4;simp only at h4;congr 1;omega
 unfold fb
 rw[if_neg (by simp[h1]),if_neg h2,if_neg (by simp[h3]),h5]
 simp only[List.getElem?_eq_getElem hk,Option.map_some,Option.getD_some]
theorem QI {l:br} {aB i t:Int} {more:List aA} (h1:lI i t more=true) (h2:¬ ((cE l i).2=false∨(cE l i).1≠t)) (h3:(more.any fun e=>decide (e.index≤aB) && sJ l e)=false) (h4:dm (ed l) more<0) :
  fb l aB i t more=⟨l,0,[],0⟩:=by
 have h5:more.findIdx? (ed l)=none:=by
  unfold dm at h4
  cases hf:more.findIdx? (ed l) with
  | none=>rfl
  | some j=>rw[hf] at h4;simp only at h4;omega
 unfold fb
 rw[if_neg (by simp[h1]),if_neg h2,if_neg (by simp[h3]),h5]
theorem Sp {l:br} {h:Hd} {aB i t:Int} {more:List aA} {ma:Option Addr} {mc:Nat} (hg:ak w s os) (hr:r=s∨r∈os) (hl:d_ r s l h) (hs:l.bL) (hm:bm bg 6 s ma mc more) (jw:∀ e∈more,e.bL) (hn:l.entries.length+more.length≤1099511627776) (hi:aq .u64 i) (ht:aq .u64 t) :
  Calls Tryz.prog 132 #[gY l h,u64 aB,u64 i,u64 t,.slice ma more.length mc] w (aw w s os fun s' A q=>∃ h' a c,q = .tuple #[gY (fb l aB i t more).ah h',u64 (fb l aB i t more).cut,.slice a (fb l aB i t more).came.length c,i64 (fb l aB i t more).gH] ∧
   nE A s' (fb l aB i t more).ah h'∧aW bg 6 65 s' A a c (fb l aB i t more).came∧Dj h'.ea a):=by
 have mr:l.entries.length<4611686018427387904:=by omega
 have nS:ee bg 6 s s ma mc more:=hm
 refine enter (l:=[gY l h,u64 aB,u64 i,u64 t,.slice ma more.length mc]) Tryz.func132 rfl Tryz.ntmps132 rfl ?_
 refine go 3 ?_
 rintro b8 w8 Q8 bD cM ra
 refine go 2 ?_
 rintro b9 w9 Q9 bA cu rb
 refine go 2 ?_
 rintro qU eX mE bj cm fS
 refine go 12 ?_
 refine zw (Ys bj (.inl rfl) nS hi ht) ?_
 rintro uh iS cy dH rfl
 refine go 3 ?_
 refine CW.cond rfl (fun y_=>?_) (fun y_=>?_)
 refine go 4 ?_
 rintro jA me cw dK ml
 refine go 5 ?_
 refine CW.ret (ret (vs:=[_,_,_,_]) ⟨_,_,_,rfl,rfl,zl ml,_,_,rfl,rfl,_,_,rfl,rfl,_,_,rfl,rfl,rfl⟩ ?_)
 have hc:lI i t more=false:=by simpa using y_
 exact aw.mq (((cw.drop).drop).drop).nil ⟨Hd.ah none 0 none 0 none 0 none 0,none,0,by simp only[fb,if_pos hc];rfl,by simp only[fb,if_pos hc];exact nE.none _ _,by simp only[fb,if_pos hc];exact aW.nil _ _ _ _ _,Dj.CN _⟩
 refine go 7 ?_
 refine zw (Dm cy (hr.imp id fun z=>by simp[z]) hl mr) ?_
 rintro yC ji dd eh rfl
 refine go 12 ?_
 refine RL.part 37 rfl (fun Bc=>?_) (fun Bc=>?_)
 refine go 10 ?_
 rintro nw rK ck g_ tt
 refine go 5 ?_
 refine CW.ret (ret (vs:=[_,_,_,_]) ⟨_,_,_,rfl,rfl,zl tt,_,_,rfl,rfl,_,_,rfl,rfl,_,_,rfl,rfl,rfl⟩ ?_)
 have fJ:lI i t more=true:=by simpa using y_
 have gA:(cE l i).2=false∨(cE l i).1≠t:= .inl (by simpa using Bc)
 exact aw.mq (((ck.drop).drop).drop).nil ⟨Hd.ah none 0 none 0 none 0 none 0,none,0,by simp only[fb,fJ,if_pos gA];rfl,by simp only[fb,fJ,if_pos gA];exact nE.none _ _,by simp only[fb,fJ,if_pos gA];exact aW.nil _ _ _ _ _,Dj.CN _⟩
 refine go 5 ?_
 refine CW.cond rfl (fun gi=>?_) (fun gi=>?_)
 refine go 4 ?_
 rintro n_ xj dt iW q_
 refine go 5 ?_
 refine CW.ret (ret (vs:=[_,_,_,_]) ⟨_,_,_,rfl,rfl,zl q_,_,_,rfl,rfl,_,_,rfl,rfl,_,_,rfl,rfl,rfl⟩ ?_)
 have fJ:lI i t more=true:=by simpa using y_
 have gA:(cE l i).2=false∨(cE l i).1≠t:= .inr (by simpa using gi)
 exact aw.mq (((dt.drop).drop).drop).nil ⟨Hd.ah none 0 none 0 none 0 none 0,none,0,by simp only[fb,fJ,if_pos gA];rfl,by simp only[fb,fJ,if_pos gA];exact nE.none _ _,by simp only[fb,fJ,if_pos gA];exact aW.nil _ _ _ _ _,Dj.CN _⟩
 refine go 3 ?_
 refine RL.tO rfl rfl rfl rfl rfl ?_
 refine go 1 ?_
 rintro xm md vT eC ie qt
 refine go 2 ?_
 rintro ny qn eZ hY nb
 refine go 4 ?_
 refine RL.tO rfl rfl rfl rfl rfl ?_
 refine go 6 ?_
 refine RL.tO rfl rfl rfl rfl rfl ?_
 have fJ:lI i t more=true:=by simpa using y_
 have gA:¬ ((cE l i).2=false∨(cE l i).1≠t):=fun z=>z.elim (fun z=>by simp[z] at Bc) (fun z=>by simp[z] at gi)
 refine go 1 ?_
 refine zw (aai (p:=fun e=>decide (e.index≤aB) && sJ l e) eZ (.inl rfl) nS rfl (fun x hx vs hE w' fh=>aev fh (hr.imp id fun z=>by simp[z]) hl (B:=Q8) (by simp) ra (C:=qn) (by simp) nb (D:=Q9) (by simp) rb hE mr)) ?_
 rintro Fr oM fd iC rfl
 refine go 2 ?_
 refine CW.cond rfl (fun xB=>?_) (fun xB=>?_)
 refine go 4 ?_
 rintro pF qS fU jr o0
 refine go 5 ?_
 refine CW.ret (ret (vs:=[_,_,_,_]) ⟨_,_,_,rfl,rfl,zl o0,_,_,rfl,rfl,_,_,rfl,rfl,_,_,rfl,rfl,rfl⟩ ?_)
 exact aw.mq ((((fU.drop).drop).drop).drop).nil ⟨Hd.ah none 0 none 0 none 0 none 0,none,0,by simp only[fb,fJ,if_neg gA,xB];rfl,by simp only[fb,fJ,if_neg gA,xB];exact nE.none _ _,by simp only[fb,fJ,if_neg gA,xB];exact aW.nil _ _ _ _ _,Dj.CN _⟩
 refine go 5 ?_
 refine zc (ab6 fd (hr.imp id fun z=>by simp[z]) hl hs) ?_
 rintro Iy Ii vV qh tB e_ jE ⟨hX,rfl,je⟩
 have hm:=hm.up bg.up tB
 refine go 2 ?_
 rintro rO oN Aq fv iX xF
 refine go 2 ?_
 rintro qN vW iL lh rZ
 refine go 6 ?_
 obtain⟨r',p5,hZ⟩:=d_.grow hr hl tB
 have cH:ee bg 6 _ _ ma mc more:=hm
 refine go 1 ?_
 refine zw (L4 (p:=ed l) iL (.inl rfl) cH rfl (fun x hx vs hE w' fh=>acN fh (p5.imp id fun z=>by simp[z]) hZ (B:=Q8) (by simp) ra (C:=qn) (by simp) nb hE mr)) ?_
 rintro v23 xe iM pR rfl
 refine go 9 ?_
 refine CW.cond rfl (fun xC=>?_) (fun xC=>?_)
 refine go 4 ?_
 rintro uk As gB nP xG
 refine go 5 ?_
 refine CW.ret (ret (vs:=[_,_,_,_]) ⟨_,_,_,rfl,rfl,zl xG,_,_,rfl,rfl,_,_,rfl,rfl,_,_,rfl,rfl,rfl⟩ ?_)
 exact aw.mq (gB.ae 1 rfl).aE.aE.aE.aE.aE ⟨hX,none,0,by simp only[QI fJ gA xB (bU xC)];rfl,by simp only[QI fJ gA xB (bU xC)];exact je,by simp only[QI fJ gA xB (bU xC)];exact aW.nil _ _ _ _ _,Dj.CN _⟩
 refine go 5 ?_
 have tz:0≤dm (ed l) more:=by have:=ct xC;omega
 have VI:dm (ed l) more<more.length:=by rcases Kz (ed l) more with h | h<;>omega
 have cv:(dm (ed l) more).toNat<more.length:=by omega
 refine RL.dX rfl rfl rfl rfl de.out rfl rfl cH tz VI ?_
 rintro q vs eH hH ⟨ea,ec,ea1,ec1,ea2,ec2,rfl,er1,er2,er3,eh1,eh2,eh3⟩
 refine go 1 ?_
 refine RL.load (j:=0) rfl rfl rfl rfl aV.out rfl (hH) (iM.sh) rfl ?_
 refine go 8 ?_
 refine zw (Rd iM (p5.imp id fun z=>by simp[z]) hZ mr) ?_
 rintro v25 ul js ou rfl
 refine go 12 ?_
 refine CW.cond rfl (fun nN=>?_) (fun nN=>?_)
 refine go 5 ?_
 have gk:=js.drew
 refine CW.dx [1,3,5,7,9,11,13,14,16,19] [20] 10 1 (fun w=>ay rO _ w∧True) ?_
 refine go 3 ?_
 have iO:=Rc l (more[(dm (ed l) more).toNat].index)
 refine RL.AM (eI l more[(dm (ed l) more).toNat].index) rfl rfl rfl rfl de.out rfl rfl rfl (by have:=je.entries.EP;omega) ?_
 refine go 2 ?_
 refine RL.yx (dm (ed l) more) (more.length:Int) rfl rfl rfl rfl de.out rfl (.inr ⟨_,_,rfl,rfl⟩) (.inl ⟨rfl,rfl⟩) cH tz (by omega) (by omega) ?_
 intro SM Tj F7
 have e77:((more.take (more.length:Int).toNat).drop (dm (ed l) more).toNat)=more.drop (dm (ed l) more).toNat:=by simp
 rw[e77] at F7 ⊢
 refine go 1 ?_
 refine zc (DE gk (.inl rfl) F7 (fun e he=>jw e (List.mem_of_mem_drop he)) (by simp only[List.length_drop];omega)) ?_
 rintro IC Ij Di rH se iN mj ⟨a78,c78,rfl,Pt⟩
 have hm:=hm.up bg.up se
 have je:=je.up se
 refine go 1 ?_
 have rd:aW bg 6 65 _ _ hX.ea hX.ec (l.entries.take (eI l more[(dm (ed l) more).toNat].index)):=aW.ae (ys:=l.entries.drop (eI l more[(dm (ed l) more).toNat].index)) (by rw[List.take_append_drop];exact je.entries)
 have wx:(l.entries.take (eI l more[(dm (ed l) more).toNat].index)).length=(eI l more[(dm (ed l) more).toNat].index):=by rw[List.length_take];omega
 have wB:some (Value.slice hX.ea (eI l more[(dm (ed l) more).toNat].index) hX.ec)=some (Value.slice hX.ea (l.entries.take (eI l more[(dm (ed l) more).toNat].index)).length hX.ec):=by rw[wx]
 obtain⟨aql,ag1,aeg⟩:=cU.own de.out Pt (iN.mem (by simp))
 refine RL.gQ (i:=2) (xs:=l.entries.take (eI l more[(dm (ed l) more).toNat].index)) (ys:=more.drop (dm (ed l) more).toNat) rfl rfl rfl rfl de.out rI.out rfl bg.one (wB) rfl iN rfl (rd) ag1 aeg ((by rw[wx,List.length_drop];omega)) (by omega) ?_
 rintro a28 c28 IL vH jG af5 oZ apu apV
 have xY:=af5
 refine go 5 ?_
 rintro vI Dk i_ pS xH
 refine go 3 ?_
 have ja:=i_.drew
 refine CW.dw [1,3,5,7,9,10,12,14,16,18] (fun w=>ay rO _ w∧True) ?_
 refine go 4 ?_
 refine RL.yx (dm (ed l) more) (more.length:Int) rfl rfl rfl rfl de.out rfl (.inr ⟨_,_,rfl,rfl⟩) (.inl ⟨rfl,rfl⟩) (show ee bg 6 _ _ ma mc more from hm) tz (by omega) (by omega) ?_
 intro a85 c85 F8
 rw[e77] at F8 ⊢
 refine go 1 ?_
 refine zc (DE ja (.inl rfl) F8 (fun e he=>jw e (List.mem_of_mem_drop he)) (by simp only[List.length_drop];omega)) ?_
 rintro Zs s31 Ss Ah xS kQ uO ⟨Ml,Mv,rfl,Hm⟩
 have hm:=hm.up bg.up xS
 have je:=je.up xS
 have xY:=xY.up bg.up xS
 refine go 2 ?_
 rintro sW Aw iD ov r6
 refine go 5 ?_
 refine CW.ret (ret (vs:=[_,_,_,_]) ⟨_,_,_,rfl,rfl,zl r6,_,_,rfl,rfl,_,_,rfl,rfl,_,_,rfl,rfl,rfl⟩ ?_)
 have D4:=bU nN
 have jw:=XD fJ gA xB cv (by omega)
 rw[if_pos (by omega)] at jw
 have BM:=(iD.ae 3 rfl).ae 1 rfl
 exact aw.mq BM.eN.aE.aE.aE.aE.aE.aE ⟨{ hX with ea:=_,ec:=_ },Ml,Mv,by rw[jw];rfl,by rw[jw];exact⟨je.index,je.ab,je.av,je.aD,je.data,xY.mem (aj.rA (fC.qc BM))⟩,by rw[jw];exact Hm.mem (aj.sD _ _),Dj.apart xY Hm (fC.qc BM).symm⟩
 refine go 2 ?_
 have c_:=js.drew
 refine CW.dx [1,3,5,7,9,11,13,14,16,19] [20] 10 1 (fun w=>ay rO _ w∧True) ?_
 refine go 3 ?_
 have iO:=Rc l (more[(dm (ed l) more).toNat].index)
 refine RL.AM (eI l more[(dm (ed l) more).toNat].index) rfl rfl rfl rfl de.out rfl rfl rfl (by have:=je.entries.EP;omega) ?_
 refine go 2 ?_
 refine RL.yx (dm (ed l) more) (more.length:Int) rfl rfl rfl rfl de.out rfl (.inr ⟨_,_,rfl,rfl⟩) (.inl ⟨rfl,rfl⟩) cH tz (by omega) (by omega) ?_
 intro SM Tj F7
 have e77:((more.take (more.length:Int).toNat).drop (dm (ed l) more).toNat)=more.drop (dm (ed l) more).toNat:=by simp
 rw[e77] at F7 ⊢
 refine go 1 ?_
 refine zc (DE c_ (.inl rfl) F7 (fun e he=>jw e (List.mem_of_mem_drop he)) (by simp only[List.length_drop];omega)) ?_
 rintro RQ Yy I1 yH wv jt rW ⟨a78,c78,rfl,Pt⟩
 have hm:=hm.up bg.up wv
 have je:=je.up wv
 refine go 1 ?_
 have rd:aW bg 6 65 _ _ hX.ea hX.ec (l.entries.take (eI l more[(dm (ed l) more).toNat].index)):=aW.ae (ys:=l.entries.drop (eI l more[(dm (ed l) more).toNat].index)) (by rw[List.take_append_drop];exact je.entries)
 have wx:(l.entries.take (eI l more[(dm (ed l) more).toNat].index)).length=(eI l more[(dm (ed l) more).toNat].index):=by rw[List.length_take];omega
 have wB:some (Value.slice hX.ea (eI l more[(dm (ed l) more).toNat].index) hX.ec)=some (Value.slice hX.ea (l.entries.take (eI l more[(dm (ed l) more).toNat].index)).length hX.ec):=by rw[wx]
 obtain⟨aqo,ag4,aej⟩:=cU.own de.out Pt (jt.mem (by simp))
 refine RL.gQ (i:=2) (xs:=l.entries.take (eI l more[(dm (ed l) more).toNat].index)) (ys:=more.drop (dm (ed l) more).toNat) rfl rfl rfl rfl de.out rI.out rfl bg.one (wB) rfl jt rfl (rd) ag4 aej ((by rw[wx,List.length_drop];omega)) (by omega) ?_
 rintro a35 FQ IO uo jH Ps ow apw apY
 have xY:=Ps
 refine go 5 ?_
 rintro nz I2 cS gS D3
 refine go 3 ?_
 have dh:=cS.drew
 refine CW.dw [1,3,5,7,9,10,12,14,16,18] (fun w=>ay rO _ w∧True) ?_
 refine go 4 ?_
 refine RL.yx (dm (ed l) more) (more.length:Int) rfl rfl rfl rfl de.out rfl (.inr ⟨_,_,rfl,rfl⟩) (.inl ⟨rfl,rfl⟩) (show ee bg 6 _ _ ma mc more from hm) tz (by omega) (by omega) ?_
 intro a85 c85 F8
 rw[e77] at F8 ⊢
 refine go 1 ?_
 refine zc (DE dh (.inl rfl) F8 (fun e he=>jw e (List.mem_of_mem_drop he)) (by simp only[List.length_drop];omega)) ?_
 rintro Ft Lh L_ Ai sg mM uP ⟨Ml,Mv,rfl,Hm⟩
 have hm:=hm.up bg.up sg
 have je:=je.up sg
 have xY:=xY.up bg.up sg
 refine go 2 ?_
 rintro C7 Q39 nf uQ N_
 refine go 5 ?_
 refine CW.ret (ret (vs:=[_,_,_,_]) ⟨_,_,_,rfl,rfl,zl N_,_,_,rfl,rfl,_,_,rfl,rfl,_,_,rfl,rfl,rfl⟩ ?_)
 have D4:=ct nN
 have jw:=XD fJ gA xB cv (by omega)
 rw[if_neg (by omega)] at jw
 have BM:=(nf.ae 3 rfl).ae 1 rfl
 exact aw.mq BM.eN.aE.aE.aE.aE.aE.aE ⟨{ hX with ea:=_,ec:=_ },Ml,Mv,by rw[jw];rfl,by rw[jw];exact⟨je.index,je.ab,je.av,je.aD,je.data,xY.mem (aj.rA (fC.qc BM))⟩,by rw[jw];exact Hm.mem (aj.sD _ _),Dj.apart xY Hm (fC.qc BM).symm⟩
end
end Go.Lw
namespace Go.Lw
open Go.RowKit
abbrev FO (ro:Option Nat):Fence:=⟨fun _=>True,none,false,ro⟩
section
variable {P:Program} {ro:Option Nat} {m:Nat}
theorem Tp {f:FuncId} {args:Array Value} {w:World} {R:Ending→World→Prop} (h:Calls P f args w R):CallsIn (FO ro) m P f args w R:=by
 have h':CallsIn Fence.wide m P f args w R:=callsIn_wide.2 h
 refine⟨trivial,fun cs hr=>?_⟩
 exact h'.2 cs (room_wide _)
theorem abE {f:FuncId} {args:Array Value} {w:World} {R:Ending→World→Prop} (h:CallsIn (FO none) m P f args w R):Calls P f args w R:=(callsIn_wide (n:=m)).1 h
theorem Yr {row:String} {args:Array Value} {w:World} {R:Value→World→Prop} (h:Rows P row args w R):RowsIn (FO ro) m P row args w R:=fun c cs _=>by
 obtain⟨v,w',hR,hs⟩:=h c cs
 refine⟨v,w',hR,?_⟩
 have:StepsIn (Machine.fenced P Fence.wide) P _ _:=stepsIn_wide.2 hs
 exact this
theorem Ic {ops:Array Oper} {Q Q':Exit→Act→World→Prop} {S:World→Prop} (hq:∀ a w,Q .normal a w→Q' .normal a w):∀ {l:List (Bool × Oper)} {a:Act} {w:World},RA P ops Q S l a w→RA P ops Q' S l a w
 | [],a,w,h=>hq a w h
 | (true,o)::r,a,w,h=>by
  simp only[RA] at h ⊢
  obtain⟨v,h1,h2⟩:=h
  exact⟨v,h1,Ic hq h2⟩
 | (false,o)::r,a,w,h=>by
  simp only[RA] at h ⊢
  split
  rename_i hw
  rw[if_pos hw] at h
  exact Oper.wp_mono (fun a' w' h'=>⟨h'.1,Ic hq h'.2⟩) h
  rename_i hw
  rw[if_neg hw] at h
  exact Ic hq h
structure LY (Q:Exit→Act→World→Prop):Prop where
 panic:∀ c a w,¬ Q (.panic c) a w
 room:¬ LetsOut Q
theorem abF:LY never:=⟨fun _ _ _ h=>h,fun ⟨_,_,h⟩=>h⟩
def only (K:Act→World→Prop):Exit→Act→World→Prop
 | .normal,a,w=>K a w
 | _,_,_=>False
theorem Ts (K:Act→World→Prop):LY (only K):=⟨fun _ _ _ h=>h,fun ⟨_,_,h⟩=>h⟩
theorem aiw (K:Act→World→Prop):n4 (only K)=only K:=by
 funext e a w
 cases e<;>rfl
theorem XX {o:Oper} {a:Act} {w:World} {next:Act→World→Prop} {Q Q0:Exit→Act→World→Prop} (hd:∀ c,o.op ≠ .defer c) (hc:LY Q0) (h:o.wp P a w next Q0):o.wpIn (FO ro) m P a w next Q:=by
 refine⟨fun _ _=>trivial,?_⟩
 have hs:o.semAt (FO ro).round a.eval=execOp a.eval o:=Oper.semAt_eq _ _ _ hd
 rw[hs]
 unfold Oper.wp at h
 generalize (execOp a.eval o).run P w=r at *
 cases r with
 | ok nx w' =>
  cases nx with
  | enter f args =>
   simp only[Oper.upon] at h
   simp only[Oper.uponIn]
   refine⟨fun hh=>(by simp at hh),?_⟩
   refine (Tp (ro:=ro) (m:=m-1) h).mono fun e w'' he=>?_
   cases e with
   | returned v=>exact he
   | panicked c=>exact absurd he (hc.panic _ _ _)
   | outgrown=>exact absurd he hc.room
  | row row args =>
   simp only[Oper.upon] at h
   simp only[Oper.uponIn]
   exact⟨fun hh=>(by simp at hh),Yr h⟩
  | value v=>exact h
  | skip=>exact h
  | defer d=>exact h
  | _=>exact (h:False).elim
 | halt x w' =>
  cases x with
  | panic v=>exact absurd h (hc.panic _ _ _)
  | _=>exact (h:False).elim
def yw (l:List Oper):Bool:=l.all fun o=>match o.op with
 | .defer _=>false
 | _=>true
theorem XO {l:List Oper} (h:yw l=true) {o:Oper} (ho:o∈l):∀ c,o.op ≠ .defer c:=fun c e=>by
 have:=List.all_eq_true.1 h o ho
 simp[e] at this
theorem KD {ops:Array Oper} {S:World→Prop} {Q:Exit→Act→World→Prop} (l2:List Oper):∀ {l1:List Oper} {a:Act} {w:World},yw l1=true →
  RA P ops (fun _ a w=>wpListIn (FO ro) m P ops Q l2 a w) S (l1.map fun o=>(false,o)) a w→wpListIn (FO ro) m P ops Q (l1++l2) a w
 | [],a,w,_,h=>h
 | o::r,a,w,hn,h=>by
  have xV:yw r=true:=by simp only[yw,List.all_cons,Bool.and_eq_true] at hn;exact hn.2
  simp only[List.map_cons,RA] at h
  simp only[List.cons_append]
  unfold wpListIn
  split
  rename_i hw
  rw[if_pos hw] at h
  refine XX (XO hn (by simp)) abF ?_
  refine Oper.wp_mono ?_ h
  exact fun a' w' h'=>KD l2 xV h'.2
  rename_i hw
  rw[if_neg hw] at h
  exact⟨fun _ _=>trivial,KD l2 xV h⟩
theorem KV {ops:Array Oper} {K:Act→World→Prop} {Q:Exit→Act→World→Prop} (hn:yw ops.toList=true) (hq:∀ a w,K a w→Q .normal a w):∀ {l:List Nat} {a:Act} {w:World},wpOps P ops (only K) l a w→wpOpsIn (FO ro) m P ops Q l a w
 | [],a,w,h=>hq a w h
 | i::r,a,w,h=>by
  unfold wpOps at h
  unfold wpOpsIn
  cases ho:ops[i]? with
  | none=>rw[ho] at h;exact KV hn hq h
  | some o =>
   rw[ho] at h
   simp only at h ⊢
   split
   rename_i hw
   rw[if_pos hw] at h
   rcases h with h | ⟨_,h⟩
   refine XX (Q0:=only K) (XO hn (by have:=Array.mem_of_getElem? ho;simpa using this)) (Ts K) ?_
   exact Oper.wp_mono (fun a' w' h'=>KV hn hq h') h
   exact absurd h (Ts K).room
   rename_i hw
   rw[if_neg hw] at h
   exact⟨fun _ _=>trivial,KV hn hq h⟩
theorem ab_ {ops:Array Oper} {S:World→Prop} {Q:Exit→Act→World→Prop} {id:Nat} {a:Act} {w:World} (l:List (Bool × Nat)) (hm:P.follows .mixedOrders=true) (hs:Region.noSelect ops=true) (bV:l.length=ops.size)
  (hl:(l.all fun x=>decide (x.2<ops.size))=true) (hc:lQ ops l (Array.replicate ops.size false)=true) (ve:yw ops.toList=true) (hS:S w.drew)
  (h:RA P ops Q S (l.map fun x=>(x.1,ops.getD x.2 default)) a w.drew):(Code.region id ops true).wpIn (FO ro) m P Q a w:=by
 refine wpIn_region_draw fun t=>?_
 refine KV (K:=fun a w=>Q .normal a w) ve (fun a w hh=>hh) ?_
 simp only[Region.schedule,hm,Bool.true_or,if_true]
 refine wpAny_sound ops.size t _ a _ ?_
 have h1:RA P ops (only fun a w=>Q .normal a w) S (l.map fun x=>(x.1,ops.getD x.2 default)) a w.drew:=by
  refine Ic (Q:=Q) ?_ h
  intro a w hh
  exact hh
 have h2:=FJ hs l _ a _ (fun x hx=>by have:=List.all_eq_true.1 hl x hx;simpa using this) hc hS h1
 rw[bV,aiw] at h2
 exact wpAny_of_held _ _ _ _ h2
end
def CF (ro:Option Nat) (P:Program) (n:Nat) (c:Code) (Q:Exit→Act→World→Prop) (E:dE) (w:World):Prop:=∀ a,At n E a→c.wpIn (FO ro) 0 P Q a w
def LF (ro:Option Nat) (P:Program) (n:Nat) (ops:Array Oper) (Q:Exit→Act→World→Prop) (l:List Oper) (E:dE) (w:World):Prop:=∀ a,At n E a→wpListIn (FO ro) 0 P ops Q l a w
section
variable {P:Program} {ro:Option Nat} {n:Nat} {Q:Exit→Act→World→Prop} {E:dE} {w:World} {ops:Array Oper}
theorem CF.plain {id:Nat} {l:List Oper} (hn:yw l=true) (h:RL P n l.toArray Q (fun _=>True) (l.map fun o=>(false,o)) E w):CF ro P n (.region id l.toArray false) Q E w :=
 fun a ha=>wpIn_region_lit (by
  have:=KD (ro:=ro) (m:=0) (P:=P) (ops:=l.toArray) (Q:=Q) (S:=fun _=>True) [] (l1:=l) (a:=a) (w:=w) hn (by
   have h2:RA P l.toArray Q (fun _=>True) (l.map fun o=>(false,o)) a w:=h trivial a ha
   refine Ic (Q:=Q) ?_ h2
   intro a w hh
   exact hh)
  rw[List.append_nil] at this
  exact this)
theorem CF.iA {id:Nat} {l:List Oper} (order:List (Bool × Nat)) (S:World→Prop) (hm:P.follows .mixedOrders=true) (hs:Region.noSelect l.toArray=true) (bV:order.length=l.toArray.size)
  (hl:(order.all fun x=>decide (x.2<l.toArray.size))=true) (hc:lQ l.toArray order (Array.replicate l.toArray.size false)=true) (ve:yw l=true) (hS:S w.drew)
  (h:RL P n l.toArray Q S (order.map fun x=>(x.1,l.toArray.getD x.2 default)) E w.drew):CF ro P n (.region id l.toArray true) Q E w :=
 fun a ha=>ab_ order hm hs bV hl hc (by simpa using ve) hS (h hS a ha)
theorem CF.Xn {id:Nat} {l:List Oper} (h:LF ro P n l.toArray Q l E w):CF ro P n (.region id l.toArray false) Q E w:=fun a ha=>wpIn_region_lit (h a ha)
theorem LF.upto (l1 l2:List Oper) (hn:yw l1=true) (h:RL P n ops (fun _ a w=>wpListIn (FO ro) 0 P ops Q l2 a w) (fun _=>True) (l1.map fun o=>(false,o)) E w):LF ro P n ops Q (l1++l2) E w :=
 fun a ha=>KD l2 hn (h trivial a ha)
theorem CF.seq {x y:Code} (h:CF ro P n x (Exit.then (fun a w=>y.wpIn (FO ro) 0 P Q a w) Q) E w):CF ro P n (.seq x y) Q E w:=fun a ha=>wpIn_seq (h a ha)
theorem CF.skip (h:∀ a,At n E a→Q .normal a w):CF ro P n .skip Q E w:=fun a ha=>wpIn_skip (h a ha)
theorem CF.exit {id:Nat} (h:∀ a,At n E a→Q (.exit id) a w):CF ro P n (.exit id) Q E w:=fun a ha=>wpIn_exit (h a ha)
theorem CF.ret (h:∀ a,At n E a→Q .ret a w):CF ro P n .ret Q E w:=fun a ha=>wpIn_ret (h a ha)
theorem CF.block {id:Nat} {c:Code} (h:CF ro P n c (Exit.inBlock id Q) E w):CF ro P n (.block id c) Q E w:=fun a ha=>wpIn_block (h a ha)
theorem CF.cond {c:Operand} {x y:Code} {b:Bool} (hc:ev E c=some (.bool b)) (ht:b=true→CF ro P n x Q E w) (hf:b=false→CF ro P n y Q E w):CF ro P n (.cond c x y) Q E w :=
 fun a ha=>wpIn_cond_split (ha.ev hc) (fun hb=>ht hb a ha) (fun hb=>hf hb a ha)
theorem CF.dZ {c:Operand} {x y:Code} (hc:ev E c=some (.bool true)) (h:CF ro P n x Q E w):CF ro P n (.cond c x y) Q E w:=fun a ha=>wpIn_cond_true (ha.ev hc) (h a ha)
theorem CF.no {c:Operand} {x y:Code} (hc:ev E c=some (.bool false)) (h:CF ro P n y Q E w):CF ro P n (.cond c x y) Q E w:=fun a ha=>wpIn_cond_false (ha.ev hc) (h a ha)
theorem akL {σ:Type} {c:Code} {a:Act} (I:σ→Act→World→Prop) (μ:σ→Nat) (x:σ) (h₀:I x a w)
  (round:∀ x a w,I x a w→c.wpIn (FO ro) 0 P (Exit.then (fun a' w'=>∃ x',I x' a' w'∧μ x'<μ x) Q) a w):(Code.loop c).wpIn (FO ro) 0 P Q a w:=by
 intro b k cs jN hb hr
 have mT:∀ j x a w,μ x=j→I x a w →
   ∃ e a' w',Q e a' w'∧ArrivesIn (Machine.fenced P (FO ro)) P (lone (b.atR a (.code c :: .inLoop c::k)) cs w) b k cs e a' w':=by
  intro j
  induction j using Nat.strongRecOn with
  | _ j ih =>
   intro x a w hn hI
   obtain⟨e,a₁,w₁,hq,oX⟩:=round x a w hI b (.inLoop c::k) cs jN hb hr
   cases e with
   | normal =>
    obtain⟨x₁,hI₁,be⟩:=hq
    obtain⟨e₂,a₂,w₂,hq₂,harr₂⟩:=ih (μ x₁) (hn▸be) x₁ a₁ w₁ rfl hI₁
    exact⟨e₂,a₂,w₂,hq₂,.of_steps (StepsIn.trans oX (.one (fenced_calm hb hr rfl) stepR_inLoop)) harr₂⟩
   | exit id=>exact⟨_,a₁,w₁,hq,.pass (x:= .inLoop c) rfl (fun _ _=> .inl (by simp)) oX⟩
   | goto l=>exact⟨_,a₁,w₁,hq,.pass (x:= .inLoop c) rfl (fun _ _=> .inl (by simp)) oX⟩
   | ret=>exact⟨_,a₁,w₁,hq,.pass (x:= .inLoop c) rfl (fun _ _=> .inl (by simp)) oX⟩
   | panic ch=>exact⟨_,a₁,w₁,hq,.pass (x:= .inLoop c) rfl (fun _ _=> .inl (by simp)) oX⟩
   | outgrown=>exact⟨_,a₁,w₁,hq,.pass (x:= .inLoop c) rfl (fun _ _=> .inl (by simp)) oX⟩
 obtain⟨e,a',w',hq,oX⟩:=mT _ x a w rfl h₀
 exact⟨e,a',w',hq,.of_steps (.one (fenced_calm hb hr rfl) stepR_loop) oX⟩
theorem CF.loop {σ:Type} {c:Code} (J:σ→dE→World→Prop) (μ:σ→Nat) (x0:σ) (E0:dE) (EB:Ax E0 E) (h0:J x0 E0 w)
  (round:∀ x E w,J x E w→CF ro P n c (Exit.then (fun a' w'=>∃ x' E',At n E' a'∧J x' E' w'∧μ x'<μ x) Q) E w):CF ro P n (.loop c) Q E w:=fun a ha=>by
 refine akL (fun x a w=>∃ E,At n E a∧J x E w) μ x0 ⟨E0,ha.sub EB,h0⟩ ?_
 rintro x a w ⟨E,hE,hJ⟩
 exact wpIn_mono (round x E w hJ a hE) fun e a' w' h=>by
  cases e<;>first | exact h | (obtain⟨x',E',h1,h2,h3⟩:=h;exact⟨x',⟨E',h1,h2⟩,h3⟩)
end
end Go.Lw
namespace Go.Lw
open Go.RowKit
abbrev mark (D:Nat):Deferred:={ target:= .collected D,args:= #[] }
def plus (a:Act) (D:Nat):Act:={ a with defers:=a.defers++[mark D] }
abbrev Rj (fn:FuncId) (tmps:Array Value) (ps:Array Tmp) (assign body:Code) (D:Nat):Loop:={ state:= .ready,pending:=none,fn,tmps,params:=ps,assign,body,defers:=D }
theorem ak.Ik {w:World} {s A:aj} {os:List aj} {l:Nat} {r:Loop} (h:ak w s (A::os)) (hl:A l=some (.loop r)) (r2:Loop):ak (w.putObj l (.loop r2)) s (A.put l (.loop r2)::os)∧ar w (w.putObj l (.loop r2)):=by
 have hw:=h.1 l _ hl
 have be:l<w.heap.size:=h.1.lt (by rw[hl];simp)
 exact⟨h.Al hl (World.putObj_heap_same be) (fun k _ hk=>World.putObj_heap_other hk),⟨rfl,rfl,rfl,by simp⟩⟩
section
variable {P:Program} {n:Nat} {Q:Exit→Act→World→Prop} {E:dE} {w:World} {ops:Array Oper} {s:aj} {os:List aj}
theorem CF.range {g:Operand} {ps:Array Tmp} {assign body:Code} {gf:FuncId} {cap:Array Value} (hx:ev E g=some (.func (.func gf) #[] cap)) (hc:km P gf=true) (hg:ak w s os)
  (h:∀ (a:Act) (fn:FuncId) (l D:Nat) (w1:World),At n E a→ak w1 s (aj.one l (.loop (Rj fn a.tmps ps assign body D))::aj.one D (.deferred (some []))::os)→ar w w1 →
   CallsIn (FO none) 0 P gf (#[.func (.yield l) #[] #[]]++cap) w1 (fun e w3=>∃ v r',e = .returned v∧w3.heap[l]?=some (.loop r')∧r'.state ≠ .busy ∧
    match r'.pending with
    | none=>Q .normal (plus a D) (w3.putObj l (.loop { r' with state:= .exhausted }))
    | some c=>c.wpIn (FO none) 0 P Q (plus a D) (w3.putObj l (.loop { r' with state:= .exhausted })))) :
  CF none P n (.rangeFunc g ps assign body) Q E w:=fun a ha=>by
 have iZ:a.eval g = .func (.func gf) #[] cap:=ha.ev hx
 refine wpIn_rangeFunc fun fn _=>?_
 have aS:=(hg.alloc (.deferred (some []))).alloc (.loop (Rj fn a.tmps ps assign body w.heap.size))
 have cV:(w.alloc (.deferred (some []))).heap.size=w.heap.size+1:=by simp
 rw[cV] at aS
 obtain⟨W1,zn⟩:∃ W1,W1=(w.alloc (.deferred (some []))).alloc (.loop (Rj fn a.tmps ps assign body w.heap.size)):=⟨_,rfl⟩
 rw[←zn] at aS
 refine⟨w.heap.size+1,[mark w.heap.size],W1,{ target:= .fn (.func gf) cap,args:= #[.func (.yield (w.heap.size+1)) #[] #[]] },W1,gf,#[.func (.yield (w.heap.size+1)) #[] #[]]++cap,W1,
  by rw[zn];exact run_enterLoop_outer _ _ _ _ _,?_,fun _ _=>trivial,?_,fun hh=>(by simp at hh),?_⟩
 simp only[resolve,iZ]
 simp[go_sem,Deferred.ofValue]
 simp[invoke,Ie hc]
 refine (h a fn _ _ _ ha aS (by rw[zn];exact (ar.alloc _ _).trans (ar.alloc _ _))).mono fun e w3 he=>?_
 obtain⟨v,r',rfl,h1,h2,h3⟩:=he
 refine⟨r'.pending,_,run_endLoop h1 h2,?_⟩
 have hp:({ a with defers:=[mark w.heap.size]++a.defers }:Act)=plus a w.heap.size:=by unfold plus;rw[ha.AP];rfl
 rw[hp]
 exact h3
theorem akU {l:Nat} {r:Loop} {o:Oper} {x:Operand} {args:Array Operand} {ats:Array TypeId} {vals:List Value} {a:Act} (ha:At n E a) (ho:o.op = .call { callee:= .value x,args:=args,argTypes:=ats })
  (hx:ev E x=some (.func (.yield l) #[] #[])) (hl:jY E args.toList=some vals) (hr:w.heap[l]?=some (.loop r)) (cV:vals.length=r.params.size) :
  (execOp a.eval o).run P w = .ok (.round l r.fn ((r.params.zip vals.toArray).foldl (fun tmps (t,a)=>tmps.setIfInBounds t a) r.tmps) r.assign r.body) w:=by
 have pQ:(args.map a.eval)=vals.toArray:=by
  rw[←Array.toArray_toList (xs:=args),List.map_toArray,ha.jY hl]
 have iZ:a.eval x = .func (.yield l) #[] #[]:=ha.ev hx
 unfold execOp
 simp only[ho]
 simp only[resolve,pQ,iZ,Deferred.ofValue,invoke,Sem.run_bind,Sem.run_pure,Result.andThen_ok,Array.empty_append,Array.append_empty]
 exact run_yield hr (by simpa using cV)
theorem LF.yield {au:List Oper} {o:Oper} {d l:Nat} {r:Loop} {x:Operand} {args:Array Operand} {ats:Array TypeId} {vals:List Value} (hg:bR ops E o=some true) (hd:o.dst=some d) (hb:Nat.blt d n=true)
  (ho:o.op = .call { callee:= .value x,args:=args,argTypes:=ats }) (hx:ev E x=some (.func (.yield l) #[] #[])) (hl:jY E args.toList=some vals) (hr:w.heap[l]?=some (.loop r)) (cV:vals.length=r.params.size)
  (h:RoundIn (FO none) 0 P l r.fn ((r.params.zip vals.toArray).foldl (fun tmps (t,a)=>tmps.setIfInBounds t a) r.tmps) r.assign r.body w (fun e w'=>∃ b,e = .returned (.bool b)∧LF none P n ops Q au ((d,.bool b)::E) w')) :
  LF none P n ops Q (o::au) E w:=fun a ha=>by
 unfold wpListIn
 rw[ha.bR hg]
 simp only[if_true]
 refine⟨fun _ _=>trivial,?_⟩
 rw[show o.semAt (FO none).round a.eval=execOp a.eval o from rfl,akU (P:=P) ha ho hx hl hr cV,Oper.uponIn_round]
 refine⟨fun hh=>(by simp at hh),h.mono fun e w' he=>?_⟩
 obtain⟨b,rfl,hk⟩:=he
 simp only[hd]
 exact hk _ (ha.put hb _)
def RP (l:Nat) (K:Bool→World→Prop):Exit→Act→World→Prop
 | .normal,_,w=>∃ r,w.heap[l]?=some (.loop r)∧K true (w.putObj l (.loop { r with state:= .ready,pending:=none }))
 | .ret,_,w=>∃ r,w.heap[l]?=some (.loop r)∧K false (w.putObj l (.loop { r with state:= .done,pending:=some .ret }))
 | _,_,_=>False
theorem ajq {l:Nat} {f:FuncId} {tmps:Array Value} {assign body:Code} {K:Bool→World→Prop} (J:dE→World→Prop) (ha:At n E { tmps:=tmps,defers:=[] })
  (h1:CF (some l) P n assign (Exit.then (fun a1 w1=>∃ E1,At n E1 a1∧J E1 w1) (fun _ _ _=>False)) E w)
  (h2:∀ E1 w1,J E1 w1→∃ r,w1.heap[l]?=some (.loop r)∧r.state = .ready∧CF (some l) P n body (RP l K) E1 (w1.putObj l (.loop { r with state:= .busy }))) :
  RoundIn (FO none) 0 P l f tmps assign body w (fun e w'=>∃ b,e = .returned (.bool b)∧K b w'):=by
 refine roundIn_of_wpIn trivial ?_
 refine wpIn_mono (h1 _ ha) fun e a1 w1 he=>?_
 cases e with
 | normal =>
  obtain⟨E1,hA,hJ⟩:=he
  obtain⟨r,hr,cc,hb⟩:=h2 E1 w1 hJ
  refine⟨_,run_beginRound hr cc,?_⟩
  refine wpIn_mono (hb _ hA) fun e2 a2 w2 zr=>?_
  cases e2 with
  | normal =>
   obtain⟨r2,h3,h4⟩:=zr
   exact⟨_,_,run_endRound none h3,_,rfl,h4⟩
  | ret =>
   obtain⟨r2,h3,h4⟩:=zr
   exact⟨_,_,run_endRound (some .ret) h3,_,rfl,h4⟩
  | exit id=>exact (zr:False).elim
  | goto t=>exact (zr:False).elim
  | panic c=>exact (zr:False).elim
  | outgrown=>exact (zr:False).elim
 | exit id=>exact (he:False).elim
 | goto t=>exact (he:False).elim
 | ret=>exact (he:False).elim
 | panic c=>exact (he:False).elim
 | outgrown=>exact (he:False).elim
theorem At.bare {a:Act} (ha:At n E a):At n E { tmps:=a.tmps,defers:=[] }:=⟨ha.size,rfl,ha.get⟩
theorem At.params2 {a:Act} {p q:Nat} {u v:Value} (ha:At n E a) (hp:Nat.blt p n=true) (hq:Nat.blt q n=true):At n ((q,v)::(p,u)::E) { tmps:=(#[p,q].zip #[u,v]).foldl (fun tmps (t,a)=>tmps.setIfInBounds t a) a.tmps,defers:=[] }:=by
 have:=(ha.bare.put hp u).put hq v
 simpa [Act.put] using this
theorem ai2 (a:Act) (D:Nat):(plus a D).eval=a.eval:=by
 funext x
 cases x<;>rfl
theorem E9 (a:Act) (D:Nat) (d:Option Nat) (v:Value):(plus a D).put d v=plus (a.put d v) D:=by cases d<;>rfl
theorem aiH {o:Oper} {a:Act} {next next':Act→World→Prop} {Q:Exit→Act→World→Prop} {D m:Nat} (hn:∀ a w,next a w→next' (plus a D) w) (h:o.wp P a w next never):o.wpIn (FO none) m P (plus a D) w next' Q:=by
 refine⟨fun _ _=>trivial,?_⟩
 rw[show o.semAt (FO none).round (plus a D).eval=execOp (plus a D).eval o from rfl,ai2]
 unfold Oper.wp at h
 generalize (execOp a.eval o).run P w=r at *
 cases r with
 | ok nx w' =>
  cases nx with
  | enter f args =>
   simp only[Oper.upon] at h
   simp only[Oper.uponIn]
   refine⟨fun hh=>(by simp at hh),?_⟩
   refine (Tp (ro:=none) (m:=m-1) h).mono fun e w'' he=>?_
   cases e with
   | returned v=>(show next' _ _);rw[E9];exact hn _ _ he
   | panicked c=>exact (he:False).elim
   | outgrown=>exact absurd he (by simp[LetsOut,never])
  | row row args =>
   simp only[Oper.upon] at h
   simp only[Oper.uponIn]
   refine⟨fun hh=>(by simp at hh),Yr (h.mono fun v w'' he=>?_)⟩
   (show next' _ _);rw[E9];exact hn _ _ he
  | value v=>simp only[Oper.upon] at h;simp only[Oper.uponIn];rw[E9];exact hn _ _ h
  | skip=>simp only[Oper.upon] at h;simp only[Oper.uponIn];rw[E9];exact hn _ _ h
  | defer d =>
   simp only[Oper.upon] at h;simp only[Oper.uponIn]
   have e:({ plus a D with defers:=d::(plus a D).defers }:Act)=plus { a with defers:=d::a.defers } D:=rfl
   rw[e,E9];exact hn _ _ h
  | _=>exact (h:False).elim
 | halt x w' =>
  cases x with
  | panic v=>exact (h:False).elim
  | _=>exact (h:False).elim
theorem QC {S:World→Prop} {D:Nat}:∀ {l:List Oper} {a:Act} {w:World},RA P ops (fun _ a w=>Q .normal (plus a D) w) S (l.map fun o=>(false,o)) a w→wpListIn (FO none) 0 P ops Q l (plus a D) w
 | [],a,w,h=>h
 | o::r,a,w,h=>by
  simp only[List.map_cons,RA] at h
  unfold wpListIn
  have hy:yielded ops (plus a D).tmps=yielded ops a.tmps:=rfl
  rw[hy]
  split
  rename_i hw
  rw[if_pos hw] at h
  exact aiH (fun a' w' h'=>QC h'.2) h
  rename_i hw
  rw[if_neg hw] at h
  refine⟨fun _ _=>trivial,?_⟩
  rw[E9]
  exact QC h
def CD (D:Nat) (P:Program) (n:Nat) (c:Code) (Q:Exit→Act→World→Prop) (E:dE) (w:World):Prop:=∀ a,At n E a→c.wpIn (FO none) 0 P Q (plus a D) w
theorem CD.plain {D id:Nat} {l:List Oper} (h:RL P n l.toArray (fun _ a w=>Q .normal (plus a D) w) (fun _=>True) (l.map fun o=>(false,o)) E w):CD D P n (.region id l.toArray false) Q E w :=
 fun a ha=>wpIn_region_lit (QC (h trivial a ha))
theorem CD.seq {D:Nat} {x y:Code} (h:CD D P n x (Exit.then (fun a w=>y.wpIn (FO none) 0 P Q a w) Q) E w):CD D P n (.seq x y) Q E w:=fun a ha=>wpIn_seq (h a ha)
theorem CD.ret {D:Nat} (h:∀ a,At n E a→Q .ret (plus a D) w):CD D P n .ret Q E w:=fun a ha=>wpIn_ret (h a ha)
theorem acd {f:FuncId} {fn:Func} {c:Code} {l:List Value} {R:Ending→World→Prop} {m:Nat} (hf:P.funcs[f]?=some fn) (hb:fn.body=some c) (hm:fn.ntmps=m) (hl:Nat.ble l.length m=true)
  (h:CF none P m c (bodyPostM (FO none) 0 P fn R) (AR 0 l) w):Calls P f l.toArray w R:=by
 refine abE (m:=0) (callsIn_of_wp_marks hf hb trivial (h _ ⟨?_,rfl,fun t v ht=>?_⟩))
 have:=Nat.le_of_ble_eq_true hl
 simp[hm];omega
 obtain⟨_,h2⟩:=KE l 0 t v ht
 simp only[Nat.sub_zero] at h2
 have be:=(List.getElem?_eq_some_iff.1 h2).1
 rw[Array.getElem?_append_left (by simpa using be)]
 simpa using h2
theorem Yn {fn:Func} {R:Ending→World→Prop} {vs:List Value} {D:Nat} (hD:w.heap[D]?=some (.deferred (some []))) (hv:vP P (w.putObj D (.deferred none)) E fn.results.toList vs) (h:R (.returned (whole vs)) (w.putObj D (.deferred none))) :
  ∀ a,At n E a→bodyPostM (FO none) 0 P fn R .ret (plus a D) w:=fun a ha=>by
 have e:(plus a D).defers=[mark D]:=by unfold plus;rw[ha.AP];rfl
 show LeavesInM (FO none) 0 P fn (plus a D).tmps R (plus a D).defers .returning w
 rw[e]
 exact⟨by simp,.inl ⟨D,_,rfl,run_takeDeferred hD,_,M8 ha _ fn hv,h⟩⟩
theorem ak.Zm {A:aj} {D:Nat} {o:Obj} (h:ak w s (A::os)) (hA:A D≠none):ak (w.putObj D o) s os:=by
 have hk:∀ k,k≠D→(w.putObj D o).heap[k]?=w.heap[k]?:=fun k hk=>World.putObj_heap_other hk
 have cq:∀ q,In q w→q D=none→In q (w.putObj D o):=fun q hq Hy k z hz=>by
  have wo:k≠D:=fun e=>by subst e;rw[Hy] at hz;cases hz
  exact (hk k wo).trans (hq k z hz)
 obtain⟨h1,h2,h3,h4⟩:=h
 clear h1
 induction os with
 | nil=>exact cq s h4 (h2 D hA)
 | cons q os ih=>exact⟨cq q h4.1 (h3 q (by simp) D hA),h4.2.1,h4.2.2.1,ih (fun p hp=>h3 p (by simp[hp])) h4.2.2.2⟩
theorem ar.putObj (w:World) (D:Nat) (o:Obj):ar w (w.putObj D o):=⟨rfl,rfl,rfl,by simp⟩
end
end Go.Lw
namespace Go.Lw
open Go.Proofs
attribute [local irreducible] RL RA
theorem acc {P:Program} {w:World} {f:FuncId} {fn:Func} {c:Code} {l:List Value} {R:Ending→World→Prop} {m:Nat} (hf:P.funcs[f]?=some fn) (hb:fn.body=some c) (hm:fn.ntmps=m) (hl:Nat.ble l.length m=true)
  (h:CF none P m c (bodyPost P fn R) (AR 0 l) w):CallsIn (FO none) 0 P f l.toArray w R:=by
 refine callsIn_of_wp hf hb trivial (h _ ⟨?_,rfl,fun t v ht=>?_⟩)
 have:=Nat.le_of_ble_eq_true hl
 simp[hm];omega
 obtain⟨_,h2⟩:=KE l 0 t v ht
 simp only[Nat.sub_zero] at h2
 have be:=(List.getElem?_eq_some_iff.1 h2).1
 rw[Array.getElem?_append_left (by simpa using be)]
 simpa using h2
theorem CF.ajk {P:Program} {n:Nat} {Q:Exit→Act→World→Prop} {E:dE} {w:World} {s:aj} {os:List aj} {g:Operand} {ps:Array Tmp} {assign body:Code} {gf:FuncId} {cap:Array Value} (hx:ev E g=some (.func (.func gf) #[] cap)) (hc:km P gf=true) (hg:ak w s os)
  (h:∀ (a:Act) (rr:Loop) (l D:Nat) (w1:World),At n E a→rr.params=ps→rr.assign=assign→rr.body=body→rr.tmps=a.tmps→rr.state = .ready→rr.pending=none→ak w1 s (aj.one l (.loop rr)::aj.one D (.deferred (some []))::os)→ar w w1 →
   CallsIn (FO none) 0 P gf (#[.func (.yield l) #[] #[]]++cap) w1 (fun e w3=>∃ v r',e = .returned v∧w3.heap[l]?=some (.loop r')∧r'.state ≠ .busy ∧
    match r'.pending with
    | none=>Q .normal (plus a D) (w3.putObj l (.loop { r' with state:= .exhausted }))
    | some c=>c.wpIn (FO none) 0 P Q (plus a D) (w3.putObj l (.loop { r' with state:= .exhausted })))) :
  CF none P n (.rangeFunc g ps assign body) Q E w :=
 CF.range hx hc hg fun a fn l D w1 ha h1 h2=>h a _ l D w1 ha rfl rfl rfl rfl rfl rfl h1 h2
section
variable {w:World} {s r:aj} {os:List aj}
theorem aaa {a:Option Addr} {n c:Nat} (hg:ak w s os) :
  Calls Tryz.prog 57 #[.slice a n c] w (aw w s os fun s' B q=>s'=s∧∃ b,q = .func (.func 89) #[] #[ptr b]∧B b=some (.cells #[.slice a n c] 31 (0,0))):=by
 refine enter (l:=[.slice a n c]) Tryz.func57 rfl Tryz.ntmps57 rfl ?_
 refine go 3 ?_
 rintro b1 w1 Q1 aH aN cz
 refine go 5 ?_
 refine RL.tO rfl rfl rfl rfl rfl ?_
 refine go 2 ?_
 refine CW.ret (bP ?_)
 exact aw.mq aH ⟨rfl,_,rfl,cz⟩
theorem abh {R:Ending→World→Prop} {xs:List aA} {a:Option Addr} {c b l:Nat} {B:aj} (I:Nat→World→Prop) (bV:xs.length<4611686018427387904) (hB:B b=some (.cells #[.slice a xs.length c] 31 (0,0))) (hx:ee bg 6 r s a c xs)
  (UM:∀ k w,I k w→In B w) (hIr:∀ k w,I k w→In r w) (h0:I xs.length w)
  (agT:∀ k (hk:k<xs.length) w vs,I (k+1) w→bg s vs xs[k]→∃ r,w.heap[l]?=some (.loop r)∧r.params = #[9,10]∧RoundIn (FO none) 0 Tryz.prog l r.fn ((r.params.zip [i64 k,.agg vs.toArray].toArray).foldl (fun tmps (t,a)=>tmps.setIfInBounds t a) r.tmps) r.assign r.body w
   (fun e w'=>∃ q,e = .returned (.bool q)∧(q=true→I k w')∧(q=false→R (.returned (.tuple #[])) w')))
  (zt:∀ w,I 0 w→R (.returned (.tuple #[])) w) :
  CallsIn (FO none) 0 Tryz.prog 89 #[.func (.yield l) #[] #[],ptr b] w R:=by
 refine acc (l:=[.func (.yield l) #[] #[],ptr b]) Tryz.func89 rfl Tryz.ntmps89 rfl ?_
 refine CF.seq (CF.plain rfl ?_)
 refine RL.load (j:=0) rfl rfl rfl rfl RJ.out rfl (Holds.of hB) (UM _ _ h0) rfl ?_
 refine go 4 ?_
 refine CF.block (CF.loop (σ:=Nat) (fun j E w'=>I j w'∧j≤xs.length∧E=[(0,.func (.yield l) #[] #[]),(1,ptr b),(3,i64 ((j:Int)-1))]) (fun j=>j) xs.length [(0,.func (.yield l) #[] #[]),(1,ptr b),(3,i64 ((xs.length:Int)-1))] ⟨rfl,rfl,rfl,trivial⟩ ⟨h0,Nat.le_refl _,rfl⟩ ?_)
 rintro j E w1 ⟨hI,hj,rfl⟩
 refine CF.seq (CF.seq (CF.plain rfl ?_))
 refine go 3 ?_
 refine CF.cond rfl (fun h8=>?_) (fun h8=>?_)
 refine CF.skip ?_
 have tF:0<j:=by have:=bU h8;omega
 obtain⟨k,rfl⟩:∃ k,j=k+1:=⟨j-1,by omega⟩
 refine CF.seq (CF.block (CF.seq (CF.Xn (LF.upto [_,_,_,_,_,_] [_,_] rfl ?_))))
 refine go 2 ?_
 refine RL.load (j:=0) rfl rfl rfl rfl RJ.out rfl (Holds.of hB) (UM _ _ hI) rfl ?_
 refine go 1 ?_
 refine RL.dX rfl rfl rfl rfl de.out rfl rfl hx (by omega) (by omega) ?_
 rintro q vs eH hH hE
 have mi:=hE
 obtain⟨ea,ec,ea1,ec1,ea2,ec2,rfl,er1,er2,er3,eh1,eh2,eh3⟩:=mi
 refine RL.gX (j:=0) (us:=_) rfl rfl rfl rfl nv.out rfl (hH) (hIr _ _ hI) rfl rfl ?_
 refine go 1 ?_
 have mo:(((k+1:Nat):Int)-1)=(k:Int):=by omega
 simp only[mo,Int.toNat_natCast] at hE hH ⊢
 obtain⟨rr,zQ,ph,Wi⟩:=agT k (by omega) w1 _ hI hE
 refine LF.yield rfl rfl rfl rfl rfl rfl zQ (by rw[ph];rfl) (Wi.mono fun e w2 he=>?_)
 obtain⟨q2,rfl,iq,Kj⟩:=he
 refine⟨q2,rfl,LF.upto [_] [] rfl ?_⟩
 refine go 2 ?_
 refine CF.cond rfl (fun jC=>?_) (fun jC=>?_)
 have hq:q2=false:=by simpa using jC
 exact CF.ret (ret (vs:=[]) rfl (Kj hq))
 have hq:q2=true:=by simpa using jC
 refine CF.skip ?_
 refine CF.plain rfl ?_
 refine go 4 ?_
 exact fun ac ha=>⟨k,[(0,.func (.yield l) #[] #[]),(1,ptr b),(3,i64 ((k:Int)-1))],ha.sub ⟨rfl,rfl,rfl,trivial⟩,⟨iq hq,by omega,rfl⟩,Nat.lt_succ_self k⟩
 have hz:j=0:=by have:=ct h8;omega
 subst hz
 refine CF.exit ?_
 exact cP (vs:=[]) rfl (zt _ hI)
theorem TG {xs:List aA} {k:Nat} (hk:k<xs.length) (h:jB (xs.drop (k+1))=none):jB (xs.drop k)=if xs[k].ao=3 then some (xs[k].aJ,xs[k].index) else none:=by
 rw[List.drop_eq_getElem_cons hk]
 simp only[jB,h]
theorem TH:∀ {xs:List aA} {k:Nat} {z:aY × Int},jB (xs.drop k)=some z→jB xs=some z
 | xs,0,z,h=>by simpa using h
 | [],k+1,z,h=>by simpa using h
 | x::xs,k+1,z,h=>by
  have:=TH (xs:=xs) (k:=k) (z:=z) (by simpa using h)
  simp only[jB,this]
theorem FA {l:br} {h:Hd} (hg:ak w s os) (hr:r=s∨r∈os) (hl:d_ r s l h) (hs:l.bL) :
  Calls Tryz.prog 30 #[gY l h] w (aw w s os fun s' _ q=>∃ vs,q = .tuple #[.agg vs.toArray,u64 (ce l).2]∧fH s' vs (ce l).1):=by
 obtain⟨fw,nV,nW,Ez⟩:=hs
 refine acd (l:=[gY l h]) Tryz.func30 rfl Tryz.ntmps30 rfl ?_
 refine CF.seq (CF.plain rfl ?_)
 refine go 1 ?_
 rintro b1 w1 Q1 aH aN cz
 refine go 2 ?_
 rintro b2 w2 Q2 aS aR gj
 refine go 2 ?_
 rintro b3 w3 Q3 aP bw ks
 refine go 2 ?_
 refine CF.seq (CF.seq (CF.plain rfl ?_))
 refine go 1 ?_
 refine RL.load (j:=5) rfl rfl rfl rfl RJ.out rfl (Holds.of cz) (aP.mem (by simp)) rfl ?_
 refine go 1 ?_
 refine zc (aaa aP) ?_
 rintro v4 s4 QB w4 fL bp bJ ⟨Ez,b4,rfl,o3⟩
 refine go 2 ?_
 have agW:=Ez.symm
 subst agW
 refine CF.block (CF.ajk rfl rfl bp ?_)
 intro a rr lo D w5 ha Wl Hz Km PQ Wm PN bh bQ
 refine abh (fun k w'=>∃ L,ak w' s (L::aj.one D (.deferred (some []))::QB::Q3::Q2::Q1::os)∧ar w w'∧L lo=some (.loop rr)∧jB (l.entries.drop k)=none) (by omega) o3 hl.entries
  (fun k w' hI=>?_) (fun k w' hI=>?_) ⟨_,bh,aN.trans (aR.trans (bw.trans (bJ.trans bQ))),if_pos rfl,by rw[List.drop_length];rfl⟩ (fun k hk w' vs hI hE=>?_) (fun w' hI=>?_)
 obtain⟨L,cd,_⟩:=hI;exact cd.mem (by simp)
 obtain⟨L,cd,_⟩:=hI;exact cd.mI (hr.imp id fun z=>by simp[z])
 obtain⟨L,cd,cQ,hL,bW⟩:=hI
 refine⟨_,cd.mem (List.mem_cons_self ..) _ _ hL,Wl,?_⟩
 obtain⟨ea,ec,ea1,ec1,ea2,ec2,rfl,er1,er2,er3,eh1,eh2,eh3⟩:=hE
 rw[Wl,PQ,Hz,Km]
 refine ajq (fun E1 w1=>∃ b5 Q5 L,E1=[(5,ptr b5),(2,ptr b2),(3,ptr b3)]∧ak w1 s (Q5::L::aj.one D (.deferred (some []))::QB::Q3::Q2::Q1::os)∧ar w w1∧L lo=some (.loop rr) ∧
  Q5 b5=some (.cells #[u64 l.entries[k].index,u64 l.entries[k].ab,i64 l.entries[k].ao,.slice ea l.entries[k].data.length ec,.slice ea1 l.entries[k].aJ.av.length ec1,.slice ea2 l.entries[k].aJ.aD.length ec2] 65 (0,0))) (At.params2 ha rfl rfl) (CF.plain rfl ?_) ?_
 refine RL.ST rfl rfl rfl rfl rI.out cd ?_
 rintro b5 w6 Q5 (bx:ak _ s (Q5::L::aj.one D (.deferred (some []))::QB::Q3::Q2::Q1::os)) bM mm
 refine go 1 ?_
 refine RL.Fm (b:=b5) (i:=0) (j:=0) rfl rfl rfl nv.out rfl rfl bx rfl mm rfl (by simp[Value.cells,Value.oneCell']) (Nat.le_of_ble_eq_true rfl) rfl ?_
 rintro w7 Q7 (bO:ak _ s (Q7::L::aj.one D (.deferred (some []))::QB::Q3::Q2::Q1::os)) cj qu
 refine go 2 ?_
 exact fun a1 ha1=>⟨_,ha1.sub (E':=[(5,ptr b5),(2,ptr b2),(3,ptr b3)]) ⟨rfl,rfl,rfl,trivial⟩,b5,Q7,L,rfl,bO,cQ.trans (bM.trans cj),hL,qu⟩
 rintro E1 w8 ⟨b5,Q5,L2,rfl,bD,cM,ze,mm⟩
 refine⟨_,bD.mem (by simp) _ _ ze,Wm,?_⟩
 obtain⟨bA,cu⟩:=ak.Ik (bD.ae 1 rfl) ze { rr with state:= .busy }
 have DV:=dq L2 lo (.loop { rr with state:= .busy })
 revert bA DV
 generalize L2.put lo (.loop { rr with state:= .busy })=L9
 intro (bA:ak _ s (L9::Q5::aj.one D (.deferred (some []))::QB::Q3::Q2::Q1::os)) DV
 generalize w8.putObj lo (.loop { rr with state:= .busy })=w9 at bA cu ⊢
 refine CF.block (CF.seq (CF.plain rfl ?_))
 refine go 1 ?_
 refine RL.load (j:=2) rfl rfl rfl rfl Zj.out rfl (Holds.of mm) (bA.mem (by simp)) rfl ?_
 refine go 2 ?_
 refine CF.cond rfl (fun gJ=>?_) (fun gJ=>?_)
 have pY:l.entries[k].ao=3:=by simpa using gJ
 have fT:=TG hk bW
 rw[if_pos pY] at fT
 have fT:=TH fT
 have wj:ce l=(l.entries[k].aJ,l.entries[k].index):=by unfold ce;rw[fT];rfl
 have tG:=(nW _ (List.getElem_mem hk)).2
 have bj:=bA.drew
 refine CF.seq (CF.iA [(true,0),(true,1),(true,3),(true,4),(false,2),(false,5),(false,6)] (fun w=>ay b5 _ w∧True) mixed (by kernel_rfl) (by kernel_rfl) (by kernel_rfl) (by kernel_rfl) rfl (⟨bj.bS (by simp) mm,trivial⟩) ?_)
 refine go 1 ?_
 refine RL.rB (j:=4) (us:=_) rfl rfl rfl rfl iR.out rfl (ay.holds) ((fun w h=>h.1.HU)) rfl rfl ?_
 refine go 1 ?_
 refine RL.fV (j:=0) rfl rfl rfl rfl aV.out rfl (ay.holds) ((fun w h=>h.1.HU)) rfl ?_
 refine go 1 ?_
 refine zc (Jk bj eh2 eh3 tG) ?_
 rintro uh mA Am iS dy cy dH ⟨us,rfl,hU⟩
 refine go 1 ?_
 have OI:=cy.drop
 obtain⟨va,vc,la,lc,rfl,fN,gl⟩:=hU
 refine RL.Fm (b:=b2) (i:=5) (j:=0) rfl rfl rfl iR.out rfl rfl OI rfl gj rfl (by simp[Value.cells,Value.oneCell']) (Nat.le_of_ble_eq_true rfl) rfl ?_
 rintro jA me (cw:ak _ mA (L9::Q5::aj.one D (.deferred (some []))::QB::Q3::me::Q1::os)) dK ml
 refine go 1 ?_
 refine RL.Fm (b:=b3) (i:=4) (j:=0) rfl rfl rfl aV.out rfl rfl cw rfl ks rfl (by simp[Value.cells,Value.oneCell']) (Nat.le_of_ble_eq_true rfl) rfl ?_
 rintro ji m7 (dd:ak _ mA (L9::Q5::aj.one D (.deferred (some []))::QB::m7::me::Q1::os)) eh nQ
 refine go 2 ?_
 refine CF.ret ?_
 intro a2 ha2
 refine⟨_,dd.mem (by simp) _ _ DV,fun z=>(by cases z),fun _=>?_⟩
 obtain⟨ck,g_⟩:=ak.Ik dd DV { { rr with state:= .busy } with state:= .done,pending:=some .ret }
 have UN:=dq L9 lo (.loop { { rr with state:= .busy } with state:= .done,pending:=some .ret })
 refine⟨_,_,rfl,ck.mem (List.mem_cons_self ..) _ _ UN,by simp,?_⟩
 obtain⟨dt,iW⟩:=ak.Ik ck UN { { { rr with state:= .busy } with state:= .done,pending:=some .ret } with state:= .exhausted }
 have hu:=(dt.ae 2 rfl).Zm (D:=D) (o:= .deferred none) (by simp[aj.one])
 refine CD.ret ?_ a ha
 refine Yn (vs:=[_,_]) (dt.mem (r:=aj.one D (.deferred (some []))) (List.mem_cons_of_mem _ (List.mem_cons_of_mem _ (List.mem_cons_self ..))) D _ (if_pos rfl)) ⟨_,_,_,rfl,rfl,zl ml,_,_,_,rfl,rfl,Xq aV.out nQ (hu.mem (by simp)) rfl,rfl⟩ ?_
 refine aw.mk dy hu.aE.aE.aE.aE.aE (cM.trans (cu.trans ((ar.drew _).trans (dH.trans (dK.trans (eh.trans (g_.trans (iW.trans (ar.putObj _ _ _))))))))) ?_
 rw[wj]
 exact⟨_,rfl,va,vc,la,lc,rfl,fN,gl⟩
 have pY:l.entries[k].ao≠3:=by simpa using gJ
 have fT:=TG hk bW
 rw[if_neg pY] at fT
 refine CF.skip ?_
 intro a2 ha2
 obtain⟨bj,cm⟩:=ak.Ik bA DV { { rr with state:= .busy } with state:= .ready,pending:=none }
 have adv:=dq L9 lo (.loop { { rr with state:= .busy } with state:= .ready,pending:=none })
 have EA:({ { rr with state:= .busy } with state:= .ready,pending:=none }:Loop)=rr:=by cases rr;simp_all
 refine⟨_,bA.mem (by simp) _ _ DV,fun _=>⟨_,bj.aE,cM.trans (cu.trans cm),?_,fT⟩,fun z=>(by cases z)⟩
 rw[adv,EA]
 obtain⟨L,cd,cQ,hL,bW⟩:=hI
 have wj:ce l=(l.aF.aJ,0):=by unfold ce;rw[show jB l.entries=none from by simpa using bW];rfl
 refine⟨_,rr,rfl,cd.mem (List.mem_cons_self ..) _ _ hL,by rw[Wm];simp,?_⟩
 rw[PN]
 obtain⟨bx,bM⟩:=ak.Ik cd hL { rr with state:= .exhausted }
 rw[PN] at bx bM
 generalize L.put lo _=L6 at bx
 generalize w'.putObj lo _=w6 at bx bM ⊢
 refine CD.seq (CD.plain ?_) a ha
 refine go 2 ?_
 refine RL.gX (j:=2) (us:=_) rfl rfl rfl rfl iR.out rfl (Holds.of cz) (bx.mem (by simp)) rfl rfl ?_
 refine go 1 ?_
 refine zc (Jk bx hl.av hl.aD fw) ?_
 rintro uh mA Am iS dy cy dH ⟨us,rfl,hU⟩
 refine go 1 ?_
 have OI:=cy.drop
 obtain⟨va,vc,la,lc,rfl,fN,gl⟩:=hU
 refine RL.Fm (b:=b2) (i:=4) (j:=0) rfl rfl rfl iR.out rfl rfl OI rfl gj rfl (by simp[Value.cells,Value.oneCell']) (Nat.le_of_ble_eq_true rfl) rfl ?_
 rintro jA me (cw:ak _ mA (L6::aj.one D (.deferred (some []))::QB::Q3::me::Q1::os)) dK ml
 refine go 1 ?_
 refine RL.Fm (b:=b3) (i:=3) (j:=0) rfl rfl rfl aV.out rfl rfl cw rfl ks rfl (by simp[Value.cells,Value.oneCell']) (Nat.le_of_ble_eq_true rfl) rfl ?_
 rintro ji m7 (dd:ak _ mA (L6::aj.one D (.deferred (some []))::QB::m7::me::Q1::os)) eh nQ
 refine go 2 ?_
 intro a7 ha7
 have hu:=(dd.ae 1 rfl).Zm (D:=D) (o:= .deferred none) (by simp[aj.one])
 refine CD.ret ?_ a7 ha7
 refine Yn (vs:=[_,_]) (dd.mem (r:=aj.one D (.deferred (some []))) (List.mem_cons_of_mem _ (List.mem_cons_self ..)) D _ (if_pos rfl)) ⟨_,_,_,rfl,rfl,zl ml,_,_,_,rfl,rfl,Xq aV.out nQ (hu.mem (by simp)) rfl,rfl⟩ ?_
 refine aw.mk dy hu.aE.aE.aE.aE (cQ.trans (bM.trans (dH.trans (dK.trans (eh.trans (ar.putObj _ _ _)))))) ?_
 rw[wj]
 exact⟨_,rfl,va,vc,la,lc,rfl,fN,gl⟩
end
end Go.Lw
namespace Go.Lw
open Go.Proofs
attribute [local irreducible] RL RA
section
variable {P:Program} {n:Nat} {ops:Array Oper} {Q:Exit→Act→World→Prop} {S:World→Prop} {au:List (Bool × Oper)} {E:dE} {w:World} {o:Oper} {d:Nat}
variable {s A r:aj} {os:List aj} {x y z:Operand} {T:Bool}
theorem RL.ug {α:Type} {R:aj→List Value→α→Prop} {t e:TypeId} {sz by_ c:Nat} {k k':IntKind} {a:Option Addr} {xs:List α} (h:Nat) (hg:bR ops E o=some true) (hd:o.dst=some d) (hb:Nat.blt d n=true)
  (ho:o.op = .slice t x none (some y) (some z)) (ht:eJ P t=some (e,sz,by_)) (hx:ev E x=some (.slice a xs.length c)) (hy:ev E y=some (.int k (h:Nat))) (hz:ev E z=some (.int k' (h:Nat)))
  (hI:ee R sz r s a c xs) (h2:h≤xs.length) (hK:ee R sz r s a h (xs.take h)→RL P n ops Q S au ((d,.slice a (xs.take h).length h)::E) w):RL P n ops Q S ((T,o)::au) E w:=by
 have Oh:=hI.1
 have qZ:ee R sz r s a h (xs.take h):=by
  refine⟨by rw[List.length_take];omega,by have:=hI.2.1;omega,?_⟩
  rcases hI.2.2 with rfl | ⟨ad,rfl,hr⟩
  left;simp
  right
  refine⟨ad,rfl,?_⟩
  rw[←List.take_append_drop h xs] at hr
  exact hr.take
 refine RL.ij hg hd hb (fun w ac ha=>?_) (hK qZ)
 obtain⟨hu,inf,oz,rfl,_⟩:=pE ht
 have cV:∀ w:World,(sizeOf e).run P w = .ok inf.size w:=fun w=>by simp[sizeOf,typeInfo,oz]
 have zA:∀ k (y:Nat) code,h≤y→(Instr.sliceBound (.int k (h:Nat)) y code).run P w = .ok h w:=fun k y code hy=>by
  have:=run_sliceBound (P:=P) w k (h:Nat) y code (by omega) (by omega)
  simpa using this
 unfold execOp
 simp only[ho,ha.ev hx]
 have hm:(xs.take h).length=h:=by rw[List.length_take];omega
 have NT:(if h=0 then a else a.map (·.add (0*inf.size)))=a:=by rw[yS];split<;>rfl
 simp[Instr.sliceAt,Instr.slice,Instr.sliceBounds,run_underlying hu,cV,ha.ev hy,ha.ev hz,zA k' c .slice3Acap (by omega),zA k h .slice3B (Nat.le_refl _),hm]
 have adC:∀ ad:Addr,ad.add 0=ad:=fun ad=>by unfold Addr.add;simp
 first
  | done
  | (cases a<;>simp[adC])
end
section
variable {w:World} {s r:aj} {os:List aj}
def gE.bL (p:gE):Prop:=p.aJ.bL∧p.data.length≤1099511627776
abbrev Fh (p:gE) (va:Option Addr) (vc:Nat) (la:Option Addr) (lc:Nat) (da:Option Addr) (dc:Nat):List Value:=[u64 p.index,u64 p.ab,.slice va p.aJ.av.length vc,.slice la p.aJ.aD.length lc,.slice da p.data.length dc]
def cG.none:cG:=⟨.none,0,.none,0,.none,0,.none,0⟩
theorem du.zero (s:aj):du s az.zero cG.none :=
 ⟨by simp[aq,az.zero],by simp[aq,az.zero],by simp[aq,az.zero],by simp[aq,az.zero],by simp[aq,az.zero],by simp[aq,az.zero],by simp[aq,az.zero],by simp[aq,az.zero],bm.nil _ _ _ (Nat.zero_le _),bm.nil _ _ _ (Nat.zero_le _),bm.nil _ _ _ (Nat.zero_le _),bm.nil _ _ _ (Nat.zero_le _)⟩
theorem aaB {p:gE} {am:Int} {va la da:Option Addr} {vc lc dc:Nat} (hg:ak w s os) (hs:p.bL) (hi:aq .u64 p.index) (ht:aq .u64 p.ab) (hv:fD s va vc p.aJ.av) (hl:fD s la lc p.aJ.aD) (hd:bm (ax .u8) 1 s da dc p.data) (hf:aq .u64 am) :
  Calls Tryz.prog 148 #[.agg (Fh p va vc la lc da dc).toArray,u64 am] w (aw w s os fun s' _ q=>∃ y,q = .tuple #[.agg (gZ (mW p am).1 y).toArray,i64 (mW p am).2]∧du s' (mW p am).1 y):=by
 obtain⟨fw,nV⟩:=hs
 have hf':=hf
 simp only[aq] at hf'
 have lj:ee (ax .u8) 1 s s da dc p.data:=hd
 refine enter (l:=[.agg (Fh p va vc la lc da dc).toArray,u64 am]) Tryz.func148 rfl Tryz.ntmps148 rfl ?_
 refine go 3 ?_
 rintro b1 w1 Q1 aH aN cz
 refine go 2 ?_
 rintro b2 w2 Q2 aS aR gj
 refine go 10 ?_
 refine RL.conv rfl rfl rfl rfl Tryz.underlying3 Tryz.underlying22 rfl ((by simp only[aq];omega)) ?_
 refine go 2 ?_
 refine CW.cond rfl (fun lS=>?_) (fun lS=>?_)
 refine go 4 ?_
 rintro w3 Q3 aP bw ks
 refine go 3 ?_
 refine CW.ret (ret (vs:=[_,_]) ⟨_,_,_,rfl,rfl,zl ks,_,_,rfl,rfl,rfl⟩ ?_)
 have hc:(p.data.length:Int)<am:=bU lS
 exact aw.mq ((aP.drop).drop).nil ⟨cG.none,by simp only[mW,if_pos hc];rfl,by simp only[mW,if_pos hc];exact du.zero _⟩
 refine go 6 ?_
 have hc:¬ (p.data.length:Int)<am:=ct lS
 refine RL.yx am (p.data.length:Int) rfl rfl rfl rfl j_.out rfl (.inr ⟨_,_,rfl,rfl⟩) (.inl ⟨rfl,rfl⟩) lj (by omega) (by omega) (by omega) ?_
 intro a19 c19 UD
 have e19:((p.data.take (p.data.length:Int).toNat).drop am.toNat)=p.data.drop am.toNat:=by simp
 rw[e19] at UD ⊢
 refine go 6 ?_
 refine RL.min rfl rfl rfl rfl rfl rfl ?_
 have sj:(if (64:Int)<((p.data.drop am.toNat).length:Int) then (64:Int) else ((p.data.drop am.toNat).length:Int))=((min (p.data.drop am.toNat).length 64:Nat):Int):=by split<;>omega
 rw[sj]
 have cv:min (p.data.drop am.toNat).length 64≤(p.data.drop am.toNat).length:=Nat.min_le_left _ _
 have afk:min (p.data.drop am.toNat).length 64≤64:=Nat.min_le_right _ _
 have zG:(p.data.drop am.toNat).take (min (p.data.drop am.toNat).length 64)=(p.data.drop am.toNat).take 64:=by rw[List.take_eq_take_iff];omega
 have VX:decide ((p.data.drop am.toNat).length≤64)=(((min (p.data.drop am.toNat).length 64:Nat):Int)==((p.data.drop am.toNat).length:Int)):=by rw[Bool.eq_iff_iff,beq_iff_eq,decide_eq_true_eq];omega
 generalize min (p.data.drop am.toNat).length 64=k at cv afk zG VX ⊢
 refine go 5 ?_
 refine RL.Xt rfl rfl rfl rfl j_.out yK.out rfl rfl rfl (by omega) (by omega) aS ?_
 rintro oQ IK wm GQ N6 adg
 refine go 9 ?_
 refine RL.ug k rfl rfl rfl rfl j_.out rfl rfl rfl UD cv ?_
 intro adp
 obtain⟨bB,fe,cD⟩:=cU.eU (t:=28) j_.out adp GQ.sh
 have mr:=cD.length
 have oB:((p.data.drop am.toNat).take k).length=k:=by rw[List.length_take];omega
 have gW:(pG k [Value.int IntKind.u8 0]).toArray.size=((p.data.drop am.toNat).take k).length*1:=by rw[List.size_toArray,LR,oB];rfl
 refine RL.copy (i:=0) k rfl rfl rfl rfl j_.out rfl rfl fe.len (by rw[oB];exact Nat.min_self _) (by have:=fe.first _ rfl;simpa only[oB] using this) GQ rfl adg (by rw[gW];omega) (cD.one (ax.one .u8)) ?_
 intro wc Ea N5
 refine go 1 ?_
 have lD:=aW.T4 (A:=IK) (el:=5) (g:=oQ) gW cD (by simp only[maxLen];omega)
 revert Ea lD
 generalize (IK.put oQ (.cells (l9 (pG k [Value.int IntKind.u8 0]).toArray 0 bB) 5 (0,0)))=AC
 intro Ea lD
 refine go 2 ?_
 have bp:=Ea.drew
 refine CW.dw [1,3,5,7,9,11,15,17,19,21,23,25,12,27,28,30] (fun w=>ay b1 _ w∧True) ?_
 refine go 13 ?_
 refine zc (TQ bp hv hl fw) ?_
 rintro v5 s5 B5 w5 dz bh bQ ⟨vs37,rfl,adz⟩
 have bh:=bh.drop
 have hv:=hv.up (ax.up _) dz
 have hl:=hl.up (ax.up _) dz
 have hd:=hd.up (ax.up _) dz
 obtain⟨va37,vc37,la37,lc37,rfl,ahe,afr⟩:=adz
 refine go 3 ?_
 rintro w6 Q6 bx bM mn
 refine go 3 ?_
 refine CW.ret (ret (vs:=[_,_]) ⟨_,_,_,rfl,rfl,zl mn,_,_,rfl,rfl,rfl⟩ ?_)
 obtain⟨s1,fw,bN,cH⟩:=bx.bY
 have gU:=lD.ci (ax.up _) (dz.trans bN) cH
 rw[oB,zG] at gU
 refine aw.mk (dz.trans bN) fw.aE (aN.trans (aR.trans (N6.trans (N5.trans ((ar.drew _).trans (bQ.trans bM)))))) ⟨⟨none,0,va37,vc37,la37,lc37,some ⟨oQ,0,none⟩,k⟩,?_,?_⟩
 simp only[mW,if_neg hc,gZ,az.zero,VX]
 rw[←zG,oB];rfl
 simp only[mW,if_neg hc]
 exact { du.zero _ with ao:=by simp[aq],index:=hi,cn:=ht,hint:=hf,av:=ahe.up (ax.up _) bN,aD:=afr.up (ax.up _) bN,data:=gU }
abbrev FU (p:fG) (a:Option Addr) (c:Nat):List Value:=[u64 p.index,u64 p.ab,.slice a p.data.length c]
theorem Lu {p:fG} {m:az} (h:p.index≠m.index∨p.ab≠m.cn):mb p m=if m.hint≠0 then (⟨m.index,m.cn,[]⟩,false) else (⟨m.index,m.cn,m.data⟩,m.done):=by
 simp only[mb,if_pos h,List.length_nil,List.nil_append];rfl
theorem RE {p:fG} {m:az} (h:¬ (p.index≠m.index∨p.ab≠m.cn)):mb p m=if m.hint≠p.data.length then (p,false) else (⟨p.index,p.ab,p.data++m.data⟩,m.done):=by
 simp only[mb,if_neg h]
theorem SE {p:fG} {m:az} {y:cG} {da:Option Addr} {dc:Nat} (hg:ak w s os) (hp:bm (ax .u8) 1 s da dc p.data) (hm:du s m y) (hn:p.data.length+m.data.length≤70368744177664) :
  Calls Tryz.prog 135 #[.agg (FU p da dc).toArray,.agg (gZ m y).toArray] w (aw w s os fun s' _ q=>∃ a c,q = .tuple #[.agg (FU (mb p m).1 a c).toArray,.bool (mb p m).2]∧bm (ax .u8) 1 s' a c (mb p m).1.data):=by
 have Pz:ee (ax .u8) 1 s s da dc p.data:=hp
 have NL:ee (ax .u8) 1 s s y.da y.dc m.data:=hm.data
 have rk:ee (ax .u8) 1 s s none 0 ([]:List Int):=ee.nil _ _ _ _ (Nat.zero_le _)
 refine enter (l:=[.agg (FU p da dc).toArray,.agg (gZ m y).toArray]) Tryz.func135 rfl Tryz.ntmps135 rfl ?_
 refine go 3 ?_
 rintro b7 w7 Q7 bO cj qu
 refine go 2 ?_
 rintro b8 w8 Q8 bD cM ra
 refine go 2 ?_
 rintro b9 w9 Q9 bA cu rb
 refine go 12 ?_
 refine RL.part 12 rfl (fun lB=>?_) (fun lB=>?_)
 have hq:=Lu (p:=p) (m:=m) (.inl (by simpa using lB))
 have hD:=rk
 have hL:([]:List Int).length+m.data.length≤70368744177664:=by simp only[List.length_nil];omega
 refine go 15 ?_
 rintro eX mE bj cm fS
 refine go 12 ?_
 refine RL.ug _ rfl rfl rfl rfl j_.out rfl rfl rfl hD (Nat.le_refl _) ?_
 intro uH
 simp only[List.take_length,List.take_nil] at uH ⊢
 refine go 6 ?_
 refine zc (xg bj (.inl rfl) uH.2.2 (by omega)) ?_
 rintro uh mA rJ iS dy cy dH ⟨Wo,Dq,AB,rfl,sr⟩
 have hm:=hm.up dy
 refine go 3 ?_
 rintro jA me cw dK ml
 refine go 9 ?_
 refine RL.conv rfl rfl rfl rfl Tryz.underlying3 Tryz.underlying22 rfl ((by have:=sr.gL;simp only[maxLen] at this;simp only[aq];omega)) ?_
 refine go 2 ?_
 refine CW.cond rfl (fun gi=>?_) (fun gi=>?_)
 refine go 4 ?_
 rintro ji m7 dd eh nQ
 refine go 3 ?_
 refine CW.ret (ret (vs:=[_,_]) ⟨_,_,_,rfl,rfl,zl nQ,_,_,rfl,rfl,rfl⟩ ?_)
 obtain⟨s1,fw,bN,cH⟩:=dd.bY
 have gU:=sr.ci (ax.up _) ((Le.refl _).trans bN) cH
 rw[if_pos (by simpa using gi)] at hq
 exact aw.mk (dy.trans bN) fw.aE.aE (cj.trans (cM.trans (cu.trans (cm.trans (dH.trans (dK.trans eh)))))) ⟨Dq,AB,by rw[hq];rfl,by rw[hq];exact gU⟩
 refine go 7 ?_
 have Ga:=NL.up (ax.up _) dy
 obtain⟨aiq,PY,Ol⟩:=(cU.row (r:=s) (c:=y.dc) j_.out Ga.2.2 (cw.sh.le dy))
 refine RL.gQ (i:=0) (xs:=_) (ys:=m.data) rfl rfl rfl rfl j_.out yK.out rfl (ax.one .u8) (rfl) rfl cw rfl (sr) PY Ol ((by omega)) (by omega) ?_
 rintro SI Tg yL nw ck Pm g_ ae9 afT
 refine go 3 ?_
 rintro n_ xj dt iW q_
 refine go 3 ?_
 have eC:=dt.drew
 refine CW.dw [1,3,5,6,8] (fun w=>ay b7 _ w∧ay b8 _ w∧True) ?_
 refine go 4 ?_
 rintro ny qn eZ hY nb
 refine go 3 ?_
 refine CW.ret (ret (vs:=[_,_]) ⟨_,_,_,rfl,rfl,zl nb,_,_,rfl,rfl,rfl⟩ ?_)
 obtain⟨s1,fw,bN,cH⟩:=eZ.bY
 have gU:=Pm.ci (ax.up _) bN cH
 rw[if_neg (by simpa using gi)] at hq
 exact aw.mk (dy.trans bN) fw.aE.aE (cj.trans (cM.trans (cu.trans (cm.trans (dH.trans (dK.trans (g_.trans (iW.trans ((ar.drew _).trans hY))))))))) ⟨SI,Tg,by rw[hq];rfl,by rw[hq];exact gU⟩
 refine go 7 ?_
 refine CW.cond rfl (fun jC=>?_) (fun jC=>?_)
 have hq:=Lu (p:=p) (m:=m) (.inr (by simpa using jC))
 have hD:=rk
 have hL:([]:List Int).length+m.data.length≤70368744177664:=by simp only[List.length_nil];omega
 refine go 7 ?_
 rintro oM vU fd iC rY
 refine go 12 ?_
 refine RL.ug _ rfl rfl rfl rfl j_.out rfl rfl rfl hD (Nat.le_refl _) ?_
 intro uH
 simp only[List.take_length,List.take_nil] at uH ⊢
 refine go 6 ?_
 refine zc (xg fd (.inl rfl) uH.2.2 (by omega)) ?_
 rintro Ix Rn qS pF u9 fU jr ⟨Wo,Dq,AB,rfl,sr⟩
 have hm:=hm.up u9
 refine go 3 ?_
 rintro qh vV e_ jE uR
 refine go 9 ?_
 refine RL.conv rfl rfl rfl rfl Tryz.underlying3 Tryz.underlying22 rfl ((by have:=sr.gL;simp only[maxLen] at this;simp only[aq];omega)) ?_
 refine go 2 ?_
 refine CW.cond rfl (fun gi=>?_) (fun gi=>?_)
 refine go 4 ?_
 rintro oN Aq fv iX xF
 refine go 3 ?_
 refine CW.ret (ret (vs:=[_,_]) ⟨_,_,_,rfl,rfl,zl xF,_,_,rfl,rfl,rfl⟩ ?_)
 obtain⟨s1,fw,bN,cH⟩:=fv.bY
 have gU:=sr.ci (ax.up _) ((Le.refl _).trans bN) cH
 rw[if_pos (by simpa using gi)] at hq
 exact aw.mk (u9.trans bN) fw.aE.aE (cj.trans (cM.trans (cu.trans (iC.trans (jr.trans (jE.trans iX)))))) ⟨Dq,AB,by rw[hq];rfl,by rw[hq];exact gU⟩
 refine go 7 ?_
 have Ga:=NL.up (ax.up _) u9
 obtain⟨aqk,ag0,aef⟩:=(cU.row (r:=s) (c:=y.dc) j_.out Ga.2.2 (e_.sh.le u9))
 refine RL.gQ (i:=0) (xs:=_) (ys:=m.data) rfl rfl rfl rfl j_.out yK.out rfl (ax.one .u8) (rfl) rfl e_ rfl (sr) ag0 aef ((by omega)) (by omega) ?_
 rintro a22 c22 Z1 qN iL af3 lh apt apT
 refine go 3 ?_
 rintro xe Ar iM pR D2
 refine go 3 ?_
 have gB:=iM.drew
 refine CW.dw [1,3,5,6,8] (fun w=>ay b7 _ w∧ay b8 _ w∧True) ?_
 refine go 4 ?_
 rintro ul Au js ou uS
 refine go 3 ?_
 refine CW.ret (ret (vs:=[_,_]) ⟨_,_,_,rfl,rfl,zl uS,_,_,rfl,rfl,rfl⟩ ?_)
 obtain⟨s1,fw,bN,cH⟩:=js.bY
 have gU:=af3.ci (ax.up _) bN cH
 rw[if_neg (by simpa using gi)] at hq
 exact aw.mk (u9.trans bN) fw.aE.aE (cj.trans (cM.trans (cu.trans (iC.trans (jr.trans (jE.trans (lh.trans (pR.trans ((ar.drew _).trans ou))))))))) ⟨a22,c22,by rw[hq];rfl,by rw[hq];exact gU⟩
 have hq:=RE (p:=p) (m:=m) (fun z=>z.elim (fun z=>by simp[z] at lB) (fun z=>by simp[z] at jC))
 have hD:=Pz
 have hL:=hn
 refine go 11 ?_
 refine RL.ug _ rfl rfl rfl rfl j_.out rfl rfl rfl hD (Nat.le_refl _) ?_
 intro uH
 simp only[List.take_length,List.take_nil] at uH ⊢
 refine go 6 ?_
 refine zc (xg bA (.inl rfl) uH.2.2 (by omega)) ?_
 rintro Zq Yw yP un wu gk mJ ⟨Wo,Dq,AB,rfl,sr⟩
 have hm:=hm.up wu
 refine go 3 ?_
 rintro rH Di iN mj zp
 refine go 9 ?_
 refine RL.conv rfl rfl rfl rfl Tryz.underlying3 Tryz.underlying22 rfl ((by have:=sr.gL;simp only[maxLen] at this;simp only[aq];omega)) ?_
 refine go 2 ?_
 refine CW.cond rfl (fun gi=>?_) (fun gi=>?_)
 refine go 4 ?_
 rintro vH Av jG oZ uT
 refine go 3 ?_
 refine CW.ret (ret (vs:=[_,_]) ⟨_,_,_,rfl,rfl,zl uT,_,_,rfl,rfl,rfl⟩ ?_)
 obtain⟨s1,fw,bN,cH⟩:=jG.bY
 have gU:=sr.ci (ax.up _) ((Le.refl _).trans bN) cH
 rw[if_pos (by simpa using gi)] at hq
 exact aw.mk (wu.trans bN) fw.aE.aE (cj.trans (cM.trans (cu.trans (mJ.trans (mj.trans oZ))))) ⟨Dq,AB,by rw[hq];rfl,by rw[hq];exact gU⟩
 refine go 7 ?_
 have Ga:=NL.up (ax.up _) wu
 obtain⟨aqm,ag2,aeh⟩:=(cU.row (r:=s) (c:=y.dc) j_.out Ga.2.2 (iN.sh.le wu))
 refine RL.gQ (i:=0) (xs:=_) (ys:=m.data) rfl rfl rfl rfl j_.out yK.out rfl (ax.one .u8) (rfl) rfl iN rfl (sr) ag2 aeh ((by omega)) (by omega) ?_
 rintro SJ Th R3 vI i_ Pq pS VS afX
 refine go 3 ?_
 rintro yG L7 ja rV N7
 refine go 3 ?_
 have kQ:=ja.drew
 refine CW.dw [1,3,5,6,8] (fun w=>ay b7 _ w∧ay b8 _ w∧True) ?_
 refine go 4 ?_
 rintro sW Aw iD ov r6
 refine go 3 ?_
 refine CW.ret (ret (vs:=[_,_]) ⟨_,_,_,rfl,rfl,zl r6,_,_,rfl,rfl,rfl⟩ ?_)
 obtain⟨s1,fw,bN,cH⟩:=iD.bY
 have gU:=Pq.ci (ax.up _) bN cH
 rw[if_neg (by simpa using gi)] at hq
 exact aw.mk (wu.trans bN) fw.aE.aE (cj.trans (cM.trans (cu.trans (mJ.trans (mj.trans (pS.trans (rV.trans ((ar.drew _).trans ov)))))))) ⟨SJ,Th,by rw[hq];rfl,by rw[hq];exact gU⟩
theorem SG {p:fG} {c:aY} {va la da:Option Addr} {vc lc dc:Nat} (hg:ak w s os) (hp:bm (ax .u8) 1 s da dc p.data) (hv:fD s va vc c.av) (hl:fD s la lc c.aD) (hs:c.bL) (hn:p.data.length≤140737488355328) :
  Calls Tryz.prog 137 #[.agg (FU p da dc).toArray,.agg #[.slice va c.av.length vc,.slice la c.aD.length lc]] w (aw w s os fun s' _ q=>∃ va vc la lc da dc,q = .agg (Fh (Dc p c) va vc la lc da dc).toArray∧fD s' va vc (Dc p c).aJ.av∧fD s' la lc (Dc p c).aJ.aD∧bm (ax .u8) 1 s' da dc (Dc p c).data):=by
 refine enter (l:=[.agg (FU p da dc).toArray,.agg #[.slice va c.av.length vc,.slice la c.aD.length lc]]) Tryz.func137 rfl Tryz.ntmps137 rfl ?_
 refine go 3 ?_
 rintro I_ qi Dl c_ gR xI
 refine go 2 ?_
 rintro b34 yH I1 jt rW JN
 refine go 2 ?_
 rintro Ja uo L8 jH ow Gx
 refine go 3 ?_
 have cS:=jH.drew
 refine CW.dw [1,3,5,7,9,13,15,10,16,19,20] (fun w=>ay I_ _ w∧ay b34 _ w∧True) ?_
 refine go 8 ?_
 refine zc (TQ cS hv hl hs) ?_
 rintro Zu s37 B37 qj O8 dh im ⟨vs10,rfl,adx⟩
 have dh:=dh.drop
 have hp:=hp.up (ax.up _) O8
 obtain⟨va10,vc10,la10,lc10,rfl,ahd,afq⟩:=adx
 refine go 2 ?_
 refine zc (xg dh (.inl rfl) hp.2.2 (by omega)) ?_
 rintro Ft Lh L_ Ai sg mM uP ⟨aqa,SH,Tf,rfl,Pk⟩
 have hp:=hp.up (ax.up _) sg
 refine go 3 ?_
 rintro C7 Q39 nf uQ N_
 refine go 2 ?_
 refine CW.ret (ret (vs:=[_]) ⟨_,_,_,rfl,rfl,zl N_,rfl⟩ ?_)
 obtain⟨s1,fw,bN,cH⟩:=nf.bY
 exact aw.mk ((O8.trans sg).trans bN) fw.aE.aE (gR.trans (rW.trans (ow.trans ((ar.drew _).trans (im.trans (uP.trans uQ)))))) ⟨va10,vc10,la10,lc10,SH,Tf,rfl,ahd.up (ax.up _) (sg.trans bN),afq.up (ax.up _) (sg.trans bN),Pk.ci (ax.up _) ((Le.refl _).trans bN) cH⟩
end
end Go.Lw
namespace Go.Lw
open Go.Proofs
attribute [local irreducible] RL RA
abbrev iw (w:World) (s:aj) (os:List aj) (p:Nat) (v:Value) (n:ai):Ending→World→Prop:=aw w s os fun s' A r=>r=v∧∃ h,Nd s' A p h n
theorem Calls.CB {P:Program} {w:World} {s A:aj} {os:List aj} {f:FuncId} {args:Array Value} {Ψ:Value→Prop} (hg:ak w s (A::os)) (h:Calls P f args w (aw w (s.eN A) os fun _ _ v=>Ψ v)):Calls P f args w (aw w s (A::os) fun _ _ v=>Ψ v) :=
 h.mono fun e w' he=>by
  obtain⟨v,s',B,rfl,cg,fh,jq,hv⟩:=he
  have hA:Le A s':=(aj.rA hg.2.1.symm).trans cg
  have hu:=(fh.Zo hA).ae 1 rfl
  refine⟨v,_,B,rfl,fun b x hb=>?_,hu,jq,hv⟩
  cases hr:A b with
  | some y =>
   have:=hg.2.1 b (by rw[hr];simp)
   rw[hb] at this;cases this
  | none =>
   simp only
   exact cg b x (aj.sD _ _ b x hb)
abbrev FC (w:World) (s:aj) (os:List aj) (p:Nat) (h:Hd) (v:Value) (n:ai):Ending→World→Prop:=aw w s os fun s' A r=>r=v∧∃ a c,Nd s' A p { h with ma:=a,mc:=c } n
section
variable {w:World} {s A:aj} {os:List aj} {p:Nat} {h:Hd} {n:ai}
theorem DI {ab gq:Int} (hg:ak w s (A::os)) (nd:Nd s A p h n) :
  Calls Tryz.prog 73 #[ptr p,u64 ab,i64 gq] w (iw w s os p (.tuple #[]) (n.follow ab gq)):=by
 refine enter (l:=[ptr p,u64 ab,i64 gq]) Tryz.func73 rfl Tryz.ntmps73 rfl ?_
 refine go 12 ?_
 refine CW.cond rfl (fun gJ=>?_) (fun gJ=>?_)
 refine go 8 ?_
 refine RL.sI (p:=p) (i:=0) (j:=1) hg (nd.cells) (bb.Fu nd.au) ?_
 rintro w1 A1 aH aN HZ
 refine go 5 ?_
 refine RL.sI (p:=p) (i:=0) (j:=2) aH (HZ.cells) (bb.vJ HZ.au) ?_
 rintro w2 A2 aS aR tT
 refine go 10 ?_
 refine RL.sI (p:=p) (i:=0) (j:=10) aS (tT.cells) (bb.Ak tT.au) ?_
 rintro w3 A3 aP bw px
 refine go 4 ?_
 refine RL.sI (p:=p) (i:=0) (j:=11) aP (px.cells) (bb.Aj px.au) ?_
 rintro w4 A4 bp bJ vB
 refine go 10 ?_
 refine RL.sN (p:=p) (i:=0) (j:=12) (h1:=_) (n1:=_) bp (vB.cells) (vB.au.KQ) ?_
 rintro w5 A5 bh bQ wK
 refine go 4 ?_
 refine RL.sN (p:=p) (i:=0) (j:=13) (h1:=_) (n1:=_) bh (wK.cells) (wK.au.H5) ?_
 rintro w6 A6 bx bM oG
 refine go 4 ?_
 refine RL.sI (p:=p) (i:=0) (j:=15) bx (oG.cells) (bb.kD oG.au) ?_
 rintro w7 A7 bO cj l7
 refine go 4 ?_
 refine RL.sI (p:=p) (i:=0) (j:=16) bO (l7.cells) (bb.mC l7.au) ?_
 rintro w8 A8 bD cM vC
 refine go 2 ?_
 refine cP (vs:=[]) rfl ?_
 refine aw.mq bD ⟨rfl,_,vC.to ?_⟩
 simp only[decide_eq_true_eq,decide_eq_false_iff_not,gt_iff_lt] at gJ
 simp[ai.follow,ai.Fu,ai.vJ,ai.Ak,ai.Aj,ai.IG,ai.mZ,ai.kD,ai.mC,gJ]
 refine go 9 ?_
 refine RL.sI (p:=p) (i:=0) (j:=10) hg (nd.cells) (bb.Ak nd.au) ?_
 rintro w9 A9 bA cu oH
 refine go 4 ?_
 refine RL.sI (p:=p) (i:=0) (j:=11) bA (oH.cells) (bb.Aj oH.au) ?_
 rintro eX ob bj cm lZ
 refine go 10 ?_
 refine RL.sN (p:=p) (i:=0) (j:=12) (h1:=_) (n1:=_) bj (lZ.cells) (lZ.au.KQ) ?_
 rintro iS Am cy dH yr
 refine go 4 ?_
 refine RL.sN (p:=p) (i:=0) (j:=13) (h1:=_) (n1:=_) cy (yr.cells) (yr.au.H5) ?_
 rintro jA An cw dK pw
 refine go 4 ?_
 refine RL.sI (p:=p) (i:=0) (j:=15) cw (pw.cells) (bb.kD pw.au) ?_
 rintro ji vK dd eh lF
 refine go 4 ?_
 refine RL.sI (p:=p) (i:=0) (j:=16) dd (lF.cells) (bb.mC lF.au) ?_
 rintro nw yL ck g_ tS
 refine go 2 ?_
 refine cP (vs:=[]) rfl ?_
 refine aw.mq ck ⟨rfl,_,tS.to ?_⟩
 simp only[decide_eq_true_eq,decide_eq_false_iff_not,gt_iff_lt] at gJ
 simp[ai.follow,ai.Fu,ai.vJ,ai.Ak,ai.Aj,ai.IG,ai.mZ,ai.kD,ai.mC,gJ]
theorem Nd.lO (nd:Nd s A p h n) (hR:cJ n):d_ A s n.s.ah h:=nd.ah hR.2.2.2.2.1 hR.2.2.2.2.2
theorem qI (hg:ak w s (A::os)) (nd:Nd s A p h n) (hR:cJ n) :
  Calls Tryz.prog 77 #[ptr p] w (aQ w s (A::os) fun q=>q=u64 n.aZ):=by
 refine enter (l:=[ptr p]) Tryz.func77 rfl Tryz.ntmps77 rfl ?_
 refine go 12 ?_
 refine zw (FB hg (.inr (by simp)) (nd.lO hR)) ?_
 rintro yD n_ dt iW rfl
 refine go 12 ?_
 refine CW.ret (bP ?_)
 exact aQ.mq dt rfl
theorem LB (hg:ak w s (A::os)) (nd:Nd s A p h n) (hR:cJ n) (hS:n.s.ah.bL) :
  Calls Tryz.prog 99 #[ptr p] w (aw w s (A::os) fun s' _ q=>∃ a c,q = .slice a n.av.length c∧fD s' a c n.av):=by
 refine enter (l:=[ptr p]) Tryz.func99 rfl Tryz.ntmps99 rfl ?_
 refine go 12 ?_
 refine zc (FA hg (.inr (by simp)) (nd.lO hR) hS) ?_
 rintro w_ Ih B16 md xQ eC ie ⟨vs11,rfl,hC⟩
 have eC:=eC.drop
 have wJ:=nd.up xQ
 obtain⟨va,vc,la,lc,rfl,fN,gl⟩:=hC
 refine go 5 ?_
 rintro I8 oM vU fd iC rY
 refine go 2 ?_
 rintro pF qS fU jr o0
 refine go 9 ?_
 refine CW.ret (bP ?_)
 exact aw.mq fU ⟨_,_,rfl,fN⟩
theorem Zw (hg:ak w s (A::os)) (nd:Nd s A p h n) (hR:cJ n) (hS:n.s.ah.bL) :
  Calls Tryz.prog 67 #[ptr p] w (aw w s (A::os) fun _ _ q=>q = .bool n.jz):=by
 refine enter (l:=[ptr p]) Tryz.func67 rfl Tryz.ntmps67 rfl ?_
 refine go 5 ?_
 have e_:=hg.drew
 refine CW.dw [1,5,7,9,11,13,2,14,16] (fun w=>ay p _ w∧True) ?_
 refine go 7 ?_
 refine zc (LB e_ nd hR hS) ?_
 rintro Fs Ro B21 oN G1 fv iX ⟨va,vc,rfl,hv⟩
 have fv:=fv.drop
 have H1:=nd.up G1
 refine go 2 ?_
 refine zw (IW fv hv) ?_
 rintro v23 xe iM pR rfl
 refine go 3 ?_
 refine CW.ret (bP ?_)
 exact aw.mq iM.nil rfl
theorem kV {m:az} {y:cG} (hg:ak w s (A::os)) (nd:Nd s A p h n) (hR:cJ n) (hm:du s m y) (hb:n.o.aG.length≤68719476736) :
  Calls Tryz.prog 113 #[ptr p,.agg (gZ m y).toArray] w (FC w s os p h (.tuple #[]) (n.post m)):=by
 refine enter (l:=[ptr p,.agg (gZ m y).toArray]) Tryz.func113 rfl Tryz.ntmps113 rfl ?_
 refine go 3 ?_
 rintro oQ uk As gB nP xG
 refine go 11 ?_
 rintro ul Au js ou uS
 refine go 9 ?_
 refine CW.cond rfl (fun lB=>?_) (fun lB=>?_)
 have lk:(if m.ab=0 then n.s.af.ab else m.ab)=n.s.af.ab:=if_pos (by simpa using lB)
 have jL:du s { m with am:=n.s.id,ab:=n.s.af.ab } y:={ hm with am:=hR.1,ab:=hR.2.1 }
 refine go 9 ?_
 rintro un yP gk mJ wh
 refine go 2 ?_
 have iN:=gk.drew
 refine CW.dx [1,3,5,7,9,11,13,14,16,19,21,23] [24] 12 1 (fun w=>ay p _ w∧ay oQ _ w∧True) ?_
 refine go 8 ?_
 rintro I9 vH Av jG oZ uT
 refine go 1 ?_
 refine RL.gQ (i:=2) (ys:=[_]) rfl rfl rfl rfl kB.out ur.out rfl iH.one rfl rfl jG rfl nd.aG (pz kB.out rfl uT (jG.mem (by simp))) (cF.jy rfl ⟨y,rfl,jL⟩) ((by simp only[List.length_singleton];omega)) (by omega) ?_
 rintro SJ Th R3 vI i_ Pq pS VS afX
 obtain⟨agm,agF⟩:=nd.uB Pq VS
 refine go 6 ?_
 refine RL.sN (p:=p) (i:=2) (j:=24) i_ (agm) (agF) ?_
 rintro yG R4 ja rV H3
 refine go 2 ?_
 refine cP (vs:=[]) rfl ?_
 refine aw.mq (((ja.ae 2 rfl).aE).aE) ⟨rfl,_,_,H3.to ?_⟩
 simp only[ai.post,ai.send,ai.LK,lk]
 have lk:(if m.ab=0 then n.s.af.ab else m.ab)=m.ab:=if_neg (by simpa using lB)
 have jL:du s { m with am:=n.s.id } y:={ hm with am:=hR.1 }
 refine go 1 ?_
 have kQ:=js.drew
 refine CW.dx [1,3,5,7,9,11,13,14,16,19,21,23] [24] 12 1 (fun w=>ay p _ w∧ay oQ _ w∧True) ?_
 refine go 8 ?_
 rintro b32 sW Aw iD ov r6
 refine go 1 ?_
 refine RL.gQ (i:=2) (ys:=[_]) rfl rfl rfl rfl kB.out ur.out rfl iH.one rfl rfl iD rfl nd.aG (pz kB.out rfl r6 (iD.mem (by simp))) (cF.jy rfl ⟨y,rfl,jL⟩) ((by simp only[List.length_singleton];omega)) (by omega) ?_
 rintro a33 c33 IM qi c_ Pr gR O5 V6
 obtain⟨PD,PJ⟩:=nd.uB Pr O5
 refine go 6 ?_
 refine RL.sN (p:=p) (i:=2) (j:=24) c_ (PD) (PJ) ?_
 rintro yH R5 jt rW CG
 refine go 2 ?_
 refine cP (vs:=[]) rfl ?_
 refine aw.mq (((jt.ae 2 rfl).aE).aE) ⟨rfl,_,_,CG.to ?_⟩
 simp only[ai.post,ai.send,ai.LK,lk]
theorem Tb {am:Int} {dZ:Bool} (hg:ak w s (A::os)) (nd:Nd s A p h n) (hR:cJ n) (hS:n.s.ah.bL) (hf:aq .i64 am) (hb:n.s.cB.length≤68719476736) (hv:n.av.length≤1073741824) :
  Calls Tryz.prog 128 #[ptr p,i64 am,.bool dZ] w (iw w s os p (i64 (n.jm am dZ).gM) (n.jm am dZ)):=by
 refine enter (l:=[ptr p,i64 am,.bool dZ]) Tryz.func128 rfl Tryz.ntmps128 rfl ?_
 refine go 16 ?_
 rintro Ja uo L8 jH ow Gx
 refine go 1 ?_
 refine RL.gQ (i:=1) (ys:=[(am,dZ)]) rfl rfl rfl rfl vF.out LQ.out rfl g8.one rfl rfl jH rfl nd.cB (pz vF.out rfl Gx (jH.mem (by simp))) (cF.jy rfl ⟨rfl,hf⟩) ((by simp only[List.length_singleton];omega)) (by omega) ?_
 rintro a36 kL qk nz cS kx gS tA apZ
 obtain⟨ago,agH⟩:=nd.aa7 kx tA
 refine go 4 ?_
 refine RL.sN (p:=p) (i:=1) (j:=12) cS (ago) (agH) ?_
 rintro qj R6 dh im CH
 refine go 3 ?_
 have mM:=dh.drew
 refine CW.dw [1,5,7,9,11,13,2,14,16] (fun w=>ay p _ w∧True) ?_
 refine go 7 ?_
 refine zc (LB ((mM.ae 1 rfl).aE) CH hR hS) ?_
 rintro ID Li B39 C7 rh nf uQ ⟨va,vc,rfl,p9⟩
 have nf:=nf.drop
 have EZ:=CH.up rh
 refine go 1 ?_
 have io:=EZ.cB.eU
 obtain⟨we,ze,NJ,hL4⟩:=nf.CB
 refine go 1 ?_
 refine zc (Calls.CB nf (aaX we (p9.up (ax.up _) ze) (EZ.cB.ci g8.up ze NJ) (by show n.av.length*8≤_;omega))) ?_
 rintro v41 s41 B41 IF aft tx DY rfl
 have tx:=tx.drop
 have CI:=EZ.up aft
 refine go 3 ?_
 refine CW.ret (bP ?_)
 exact aw.mq tx ⟨rfl,_,CI⟩
end
end Go.Lw
namespace Go.Lw
open Go.Proofs
attribute [local irreducible] RL RA
section
variable {w:World} {s A:aj} {os:List aj} {p:Nat} {h:Hd} {n:ai}
theorem cJ.of (hR:cJ n) {m:ai} (h1:m.s.id=n.s.id) (h2:aq .u64 m.s.af.ab) (h3:aq .i64 m.s.af.aT) (h4:aq .u64 m.s.af.aB) (h5:m.s.ah.aF=n.s.ah.aF):cJ m :=
 ⟨h1▸hR.1,h2,h3,h4,h5▸hR.2.2.2.2.1,h5▸hR.2.2.2.2.2⟩
theorem Yv {aO:Int} (hg:ak w s (A::os)) (nd:Nd s A p h n) (hR:cJ n) (hS:n.s.ah.bL) (hv:n.av.length≤1073741824) :
  Calls Tryz.prog 100 #[ptr p,i64 aO] w (iw w s os p (i64 (n.dM aO).gM) (n.dM aO)):=by
 refine enter (l:=[ptr p,i64 aO]) Tryz.func100 rfl Tryz.ntmps100 rfl ?_
 refine go 15 ?_
 refine RL.sI (p:=p) (i:=0) (j:=10) hg (nd.cells) (bb.Ak nd.au) ?_
 rintro w1 A1 aH aN HZ
 refine go 4 ?_
 refine RL.sI (p:=p) (i:=0) (j:=11) aH (HZ.cells) (bb.Aj HZ.au) ?_
 rintro w2 A2 aS aR tT
 refine go 4 ?_
 refine RL.sI (p:=p) (i:=0) (j:=14) aS (tT.cells) (bb.dN tT.au) ?_
 rintro w3 A3 aP bw px
 refine go 4 ?_
 refine RL.sI (p:=p) (i:=0) (j:=16) aP (px.cells) (bb.mC px.au) ?_
 rintro w4 A4 bp bJ vB
 refine go 4 ?_
 refine RL.sN (p:=p) (i:=0) (j:=13) (h1:=_) (n1:=_) bp (vB.cells) (vB.au.H5) ?_
 rintro w5 A5 bh bQ wK
 refine go 8 ?_
 refine RL.sN (p:=p) (i:=0) (j:=12) (h1:=_) (n1:=_) bh (wK.cells) (wK.au.KQ) ?_
 rintro w6 A6 bx bM oG
 refine go 11 ?_
 refine zc (Tb bx oG (hR.of rfl hR.2.1 hR.2.2.1 hR.2.2.2.1 rfl) hS hR.1 (by simp[ai.IG]) hv) ?_
 rintro v7 s7 A7 w7 jK bO cj ⟨rfl,h7,l7⟩
 refine go 3 ?_
 refine CW.ret (bP ?_)
 exact aw.mq bO ⟨rfl,_,l7.to rfl⟩
theorem X4 {to am:Int} (hg:ak w s (A::os)) (nd:Nd s A p h n) (hR:cJ n) (hS:n.s.ah.aF.bL) (ew:aq .i64 to) (hf:aq .u64 am) (hb:n.o.aG.length≤68719476736) :
  Calls Tryz.prog 130 #[ptr p,i64 to,u64 am] w (FC w s os p h (.tuple #[]) (n.lq to am)):=by
 refine enter (l:=[ptr p,i64 to,u64 am]) Tryz.func130 rfl Tryz.ntmps130 rfl ?_
 refine go 10 ?_
 refine zc (aaB hg hS hR.2.2.2.2.1 hR.2.2.2.2.2 nd.au.1 nd.au.2.1 nd.au.2.2.1 hf) ?_
 rintro v8 s8 B8 w8 kw bD cM ⟨y,rfl,Hf⟩
 have bD:=bD.drop
 have oH:=nd.up kw
 refine go 5 ?_
 rintro qU eX mE bj cm fS
 refine go 2 ?_
 rintro iS rJ cy dH rX
 refine go 8 ?_
 refine CW.cond rfl (fun Ba=>?_) (fun Ba=>?_)
 refine go 5 ?_
 rintro jA me cw dK ml
 refine go 6 ?_
 refine zc (kV (cw.ae 1 rfl) oH hR (m:={ (mW n.s.ah.aF am).1 with to:=to }) (y:=y) { Hf with to:=ew } hb) ?_
 rintro yC Fc vK ji nR dd eh ⟨rfl,ma13,mc13,lF⟩
 refine go 2 ?_
 refine cP (vs:=[]) rfl ?_
 refine aw.mq (dd.aE) ⟨rfl,_,_,lF.to ?_⟩
 simp only[ai.lq,if_pos (show (mW n.s.ah.aF am).2=0 by simpa using Ba)]
 refine go 1 ?_
 refine cP (vs:=[]) rfl ?_
 refine aw.mq ((cy.ae 1 rfl).aE) ⟨rfl,_,_,oH.to ?_⟩
 simp only[ai.lq,if_neg (show ¬ (mW n.s.ah.aF am).2=0 by simpa using Ba)]
theorem ee.all {α:Type} {R:aj→List Value→α→Prop} {sz c:Nat} {r s:aj} {a:Option Addr} {xs:List α} (h:ee R sz r s a c xs):∀ x∈xs,∃ vs,R s vs x:=by
 intro x hx
 rcases h.2.2 with rfl | ⟨ad,rfl,hr⟩
 cases hx
 obtain⟨i,hi,rfl⟩:=List.getElem_of_mem hx
 obtain⟨vs,_,_,hR⟩:=hr.get (List.getElem?_eq_getElem hi)
 exact⟨vs,hR⟩
theorem d_.entry {r:aj} {l:br} (hl:d_ r s l h) {e:aA} (he:e∈l.entries):aq .u64 e.index∧aq .u64 e.ab∧aq .i64 e.ao:=by
 obtain⟨vs,ea,ec,ea1,ec1,ea2,ec2,_,h1,h2,h3,_⟩:=hl.entries.all e he
 exact⟨h1,h2,h3⟩
theorem d_.akl {r:aj} {l:br} (hl:d_ r s l h) (i:Int):aq .u64 (cE l i).1:=by
 unfold cE
 split
 exact hl.ab
 split
 rename_i e he
 split
 exact (hl.entry (List.mem_of_getElem? he)).2.1
 simp[aq]
 simp[aq]
theorem d_.Cz {r:aj} {l:br} (hl:d_ r s l h):aq .u64 (bX l).1∧aq .u64 (bX l).2:=by
 unfold bX
 split
 rename_i e he
 have:=hl.entry (List.mem_of_getLast? he)
 exact⟨this.1,this.2.1⟩
 exact⟨hl.index,hl.ab⟩
theorem cJ.KT (hR:cJ n) {m:ai} (e:m.s=n.s):cJ m:=by
 unfold cJ at *;rw[e];exact hR
theorem ai.Ra (n:ai) (to am:Int):(n.lq to am).s=n.s:=by unfold ai.lq;split<;>rfl
theorem ai.DG (n:ai) (q:cK):(n.fA q).s=n.s:=by
 unfold ai.fA
 split
 exact ai.Ra n _ _
 rfl
theorem ai.T3 (l:List cK):∀ n:ai,(n.mF l).s=n.s:=by
 induction l with
 | nil=>intro n;rfl
 | cons q l ih=>intro n;show ((n.fA q).mF l).s=_;rw[ih,ai.DG]
theorem ai.acf (l:List cK) (q:cK):∀ n:ai,n.mF (l++[q])=(n.mF l).fA q:=by
 induction l with
 | nil=>intro n;rfl
 | cons x l ih=>intro n;exact ih (n.fA x)
theorem ai.T0 (n:ai) (q:cK):(n.fA q).o.aG.length≤n.o.aG.length+1:=by
 unfold ai.fA
 split
 unfold ai.lq
 split
 simp[ai.post,ai.send]
 omega
 simp[ai.post,ai.send]
theorem ai.T1 (l:List cK):∀ n:ai,(n.mF l).o.aG.length≤n.o.aG.length+l.length:=by
 induction l with
 | nil=>intro n;exact Nat.le_refl _
 | cons q l ih =>
  intro n
  have h1:=ih (n.fA q)
  have h2:=ai.T0 n q
  show ((n.fA q).mF l).o.aG.length≤_
  rw[List.length_cons];omega
theorem br.bL.aF {l:br} (h:l.bL):l.aF.bL:=⟨h.1,by have:=h.2.1;omega⟩
theorem FY {q:cK} (hg:ak w s (A::os)) (nd:Nd s A p h n) (hR:cJ n) (hS:n.s.ah.bL) (iq:aq .i64 q.node) (pg:aq .u64 q.next) (hb:n.o.aG.length≤68719476736) :
  Calls Tryz.prog 103 #[ptr p,.agg #[i64 q.node,u64 q.next,u64 q.cA]] w (FC w s os p h (.tuple #[]) (n.fA q)):=by
 have xJ:=hR.2.2.2.2.1
 have agA:=pg
 simp only[aq] at xJ agA
 refine enter (l:=[ptr p,.agg #[i64 q.node,u64 q.next,u64 q.cA]]) Tryz.func103 rfl Tryz.ntmps103 rfl ?_
 refine go 3 ?_
 rintro te nw rK ck g_ tt
 refine go 4 ?_
 have dt:=ck.drew
 refine CW.dw [1,3,5,7,9,11,13,15,17,19] (fun w=>ay te _ w∧ay p _ w∧True) ?_
 refine go 11 ?_
 refine CW.cond rfl (fun mf=>?_) (fun mf=>?_)
 refine go 6 ?_
 refine zc (X4 (dt.ae 1 rfl) nd hR (br.bL.aF hS) iq (by simp[aq]) hb) ?_
 rintro w_ Ih LS md xQ eC ie ⟨rfl,ma16,mc16,nY⟩
 refine go 2 ?_
 refine CW.ret (kE ?_)
 refine aw.mq (eC.aE) ⟨rfl,_,_,nY.to ?_⟩
 simp only[ai.fA,if_pos (bU mf)]
 refine go 2 ?_
 have eZ:=dt.drew
 refine CW.dw [1,3,5,7,9,11,13,15,16,19,21,23,24,26] (fun w=>ay p _ w∧ay te _ w∧True) ?_
 refine go 7 ?_
 have be:=ct mf
 refine go 2 ?_
 refine zw (Dm eZ (.inr (by simp)) (nd.lO hR) (by have:=hS.2.2.2;omega)) ?_
 rintro Fr oM fd iC rfl
 refine go 8 ?_
 have fU:=fd.drew
 refine CW.dw [1,3,5,7,9,11,13,14,17,19,21,22,24] (fun w=>ay p _ w∧ay te _ w∧True) ?_
 refine go 8 ?_
 refine zc (aaT fU (.inr (by simp)) (nd.lO hR) hS pg (by simp[aq])) ?_
 rintro Iy Ii B20 qh tB e_ jE ⟨a42,c42,rfl,af7⟩
 have z8:=nd.up tB
 obtain⟨t20,aeW,Pd,afI⟩:=e_.bY
 have e_:ak _ t20 (rK::A::os):=aeW
 have H1:=z8.up Pd
 have adu:=af7.ci bg.up Pd afI
 refine go 7 ?_
 have iM:=e_.drew
 refine CW.dx [1,3,5,7,9,11,13,15,17,19,21,23,25,27,29] [30] 15 1 (fun w=>ay te _ w∧ay p _ w∧True) ?_
 refine go 17 ?_
 have tK:=(H1.lO hR).akl (q.next-1)
 refine go 1 ?_
 refine zc (kV (iM.ae 1 rfl) H1 hR (m:={ az.zero with ao:=5,to:=q.node,index:=q.next-1,cn:=(cE n.s.ah (q.next-1)).1,entries:=(oL n.s.ah q.next 8).1,aB:=n.s.af.aB }) (y:={ cG.none with ea:=a42,ec:=c42 }) { du.zero _ with ao:=by simp[aq],to:=iq,index:=by simp only[aq];omega,cn:=tK,entries:=adu,aB:=hR.2.2.2.1 } hb) ?_
 rintro RO Lf IK uk xR gB nP ⟨rfl,ma24,mc24,H2⟩
 refine go 2 ?_
 refine cP (vs:=[]) rfl ?_
 refine aw.mk (tB.trans (Pd.trans xR)) (gB.aE) (g_.trans ((ar.drew _).trans ((ar.drew _).trans (iC.trans ((ar.drew _).trans (jE.trans ((ar.drew _).trans nP))))))) ⟨rfl,_,_,H2.to ?_⟩
 simp only[ai.fA,if_neg (ct mf)]
theorem Il (hg:ak w s (A::os)) (nd:Nd s A p h n) (hR:cJ n) (hS:n.s.ah.bL) (hb:n.o.aG.length+n.s.aK.length≤68719476736) :
  Calls Tryz.prog 69 #[ptr p] w (FC w s os p h (.tuple #[]) n.gD):=by
 have bV:=nd.aK.gL
 simp only[maxLen] at bV
 refine enter (l:=[ptr p]) Tryz.func69 rfl Tryz.ntmps69 rfl ?_
 refine go 11 ?_
 refine CW.loop (σ:=Nat) (fun j E w'=>∃ s' A' ma mc m,∃ k:Nat,ak w' s' (A'::os)∧Le s s'∧ar w w'∧Nd s' A' p { h with ma:=ma,mc:=mc } m∧m=n.mF (n.s.aK.take k)∧E=[(0,ptr p),(8,.slice h.pa n.s.aK.length h.pc),(9,i64 n.s.aK.length),(10,i64 k)]∧k+j=n.s.aK.length) (fun j=>j) n.s.aK.length [(0,ptr p),(8,.slice h.pa n.s.aK.length h.pc),(9,i64 n.s.aK.length),(10,i64 0)] ⟨rfl,rfl,rfl,rfl,trivial⟩ ⟨s,A,h.ma,h.mc,n,0,hg,Le.refl _,(ar.refl _),nd,by simp[ai.mF],rfl,by omega⟩ ?_
 rintro j E wL ⟨sL,AL,maL,mcL,m,k,cd,fk,cQ,ndL,hm,rfl,hk⟩
 have jw:m.s=n.s:=by rw[hm];exact ai.T3 _ _
 have Bt:=hR.KT jw
 have tD:m.o.aG.length≤n.o.aG.length+k:=by have:=ai.T1 (n.s.aK.take k) n;rw[←hm,List.length_take] at this;omega
 have hpL:ee fI 3 AL sL h.pa h.pc n.s.aK:=by have:=ndL.aK.eU;rwa[jw] at this
 refine go 5 ?_
 refine CW.cond rfl (fun jo=>?_) (fun jo=>?_)
 refine go 5 ?_
 have be:k<n.s.aK.length:=by have:=bU jo;omega
 refine RL.dX rfl rfl rfl rfl qf.out rfl rfl hpL (by omega) (by omega) ?_
 rintro q vs eH hH hE
 obtain⟨rfl,er1,er2,er3⟩:=hE
 refine RL.gX (j:=0) (us:=_) rfl rfl rfl rfl yB.out rfl (hH) (cd.mem (by simp)) rfl rfl ?_
 refine go 1 ?_
 rintro b25 ul Au js ou uS
 refine go 2 ?_
 rintro un yP gk mJ wh
 refine go 6 ?_
 refine zc (FY (gk.ae 1 rfl) ndL Bt (by rw[jw];exact hS) er1 er2 (by omega)) ?_
 rintro IC Ij yM rH se iN mj ⟨rfl,ma27,mc27,yu⟩
 refine go 6 ?_
 cases j with
 | zero=>omega
 | succ j =>
  refine fun ac ha=>⟨j,[(0,ptr p),(8,.slice h.pa n.s.aK.length h.pc),(9,i64 n.s.aK.length),(10,i64 ((k:Int)+1))],ha.sub ⟨rfl,rfl,rfl,rfl,trivial⟩,⟨_,_,_,_,_,k+1,(iN.aE),(fk.trans se),(cQ.trans (ou.trans (mJ.trans mj))),yu,?_,rfl,by omega⟩,Nat.lt_succ_self j⟩
  rw[List.take_succ_eq_append_getElem be,ai.acf,← hm];rfl
 refine go 1 ?_
 refine cP (vs:=[]) rfl ?_
 have qz:k=n.s.aK.length:=by have:=ct jo;omega
 refine aw.mq cd ⟨rfl,_,_,ndL.to ?_⟩
 rw[hm,qz,List.take_length];rfl
end
end Go.Lw
namespace Go.Lw
open Go.Proofs
attribute [local irreducible] RL RA
section
variable {w:World} {s A:aj} {os:List aj} {p:Nat} {h:Hd} {n:ai}
def ai.asks (n:ai) (ao ab to:Int):az:={ az.zero with ao:=ao,am:=n.s.id,to:=to,ab:=ab,index:=(bX n.s.ah).1,cn:=(bX n.s.ah).2 }
theorem ajg {ao ab:Int} {l:List Int} {v:Int} (hv:v≠n.s.id):n.qd ao ab (l++[v])=n.qd ao ab l++[n.asks ao ab v]:=by
 simp[ai.qd,ai.asks,hv]
theorem ajf {ao ab:Int} {l:List Int} {v:Int} (hv:v=n.s.id):n.qd ao ab (l++[v])=n.qd ao ab l:=by
 simp[ai.qd,hv]
theorem aje (ao ab:Int) (l:List Int):(n.qd ao ab l).length≤l.length:=by
 simp only[ai.qd,List.length_map];exact List.length_filter_le _ _
theorem FK {ao ab to:Int} (nd:Nd s A p h n) (hR:cJ n) (hk:aq .i64 ao) (ht:aq .u64 ab) (ew:aq .i64 to) (s':aj):du s' (n.asks ao ab to) cG.none:=by
 have h1:=(nd.lO hR).Cz
 exact { du.zero s' with ao:=hk,am:=hR.1,to:=ew,ab:=ht,index:=h1.1,cn:=h1.2 }
theorem Yg {ao ab:Int} (hg:ak w s (A::os)) (nd:Nd s A p h n) (hR:cJ n) (hS:n.s.ah.bL) (hk:aq .i64 ao) (ht:aq .u64 ab) (hv:n.av.length≤1073741824) (hb:n.o.aG.length≤34359738368) :
  Calls Tryz.prog 102 #[ptr p,i64 ao,u64 ab] w (FC w s os p h (.tuple #[]) (n.l8 ao ab)):=by
 refine enter (l:=[ptr p,i64 ao,u64 ab]) Tryz.func102 rfl Tryz.ntmps102 rfl ?_
 refine go 8 ?_
 refine zw (FB hg (.inr (by simp)) (nd.lO hR)) ?_
 rintro v1 w1 aH aN rfl
 refine go 11 ?_
 refine zc (LB aH nd hR hS) ?_
 rintro v2 s2 B2 w2 jb aS aR ⟨va,vc,rfl,p9⟩
 have aS:=aS.drop
 have px:=nd.up jb
 refine go 5 ?_
 refine CW.loop (σ:=Nat) (fun j E w'=>∃ A' ma mc m,∃ k:Nat,ak w' s2 (A'::os)∧ar w w'∧Nd s2 A' p { h with ma:=ma,mc:=mc } m∧m={ n with o:={ n.o with aG:=n.o.aG++n.qd ao ab (n.av.take k) } }∧E=[(0,ptr p),(1,i64 ao),(2,u64 ab),(6,u64 (bX n.s.ah).1),(7,u64 (bX n.s.ah).2),(20,.slice va n.av.length vc),(21,i64 n.av.length),(22,i64 k)]∧k+j=n.av.length) (fun j=>j) n.av.length
  [(0,ptr p),(1,i64 ao),(2,u64 ab),(6,u64 (bX n.s.ah).1),(7,u64 (bX n.s.ah).2),(20,.slice va n.av.length vc),(21,i64 n.av.length),(22,i64 0)] ⟨rfl,rfl,rfl,rfl,rfl,rfl,rfl,rfl,trivial⟩ ⟨A,h.ma,h.mc,n,0,aS,(aN.trans aR),px,by simp[ai.qd],rfl,by omega⟩ ?_
 rintro j E wL ⟨AL,maL,mcL,m,k,cd,cQ,ndL,hm,rfl,BP⟩
 have gK:m.s.id=n.s.id:=by rw[hm]
 have tD:m.o.aG.length≤n.o.aG.length+k:=by rw[hm];simp only[List.length_append];have:=aje (n:=n) ao ab (n.av.take k);rw[List.length_take] at this;omega
 refine go 5 ?_
 refine CW.cond rfl (fun nL=>?_) (fun nL=>?_)
 refine go 5 ?_
 have be:k<n.av.length:=by have:=bU nL;omega
 refine RL.cW rfl rfl rfl rfl bC.out rfl rfl p9 (by omega) (by omega) ?_
 rintro q vs eH hH ⟨rfl,er1⟩
 refine RL.load (j:=0) rfl rfl rfl rfl ey.out rfl (hH) (cd.sh) rfl ?_
 refine go 12 ?_
 refine CW.cond rfl (fun lT=>?_) (fun lT=>?_)
 have bp:=cd.drew
 refine CW.dx [1,3,5,7,9,11,13,15,17,19,21,23,25,27,29,31,33,34,36,39,41,43] [44] 22 1 (fun w=>ay p _ w∧True) ?_
 refine go 18 ?_
 rintro b5 w5 Q5 bh bQ mm
 refine go 1 ?_
 refine RL.gQ (i:=1) (ys:=[n.asks ao ab n.av[k]]) rfl rfl rfl rfl kB.out ur.out rfl iH.one rfl rfl bh rfl ndL.aG (pz kB.out rfl mm (bh.mem (by simp))) (cF.jy rfl ⟨cG.none,by rw[gK];rfl,FK nd hR hk ht er1 _⟩) ((by simp only[List.length_singleton];omega)) (by omega) ?_
 rintro a6 c6 A6 w6 bx rm bM zF Ce
 obtain⟨hp6,hr6⟩:=ndL.uB rm zF
 refine go 6 ?_
 refine RL.sN (p:=p) (i:=1) (j:=24) bx (hp6) (hr6) ?_
 rintro w7 A7 bO cj l7
 refine go 6 ?_
 have bH:n.av[k]≠n.s.id:=by rw[gK] at lT;simpa using lT
 cases j with
 | zero=>omega
 | succ j =>
  refine fun ac ha=>⟨j,[(0,ptr p),(1,i64 ao),(2,u64 ab),(6,u64 (bX n.s.ah).1),(7,u64 (bX n.s.ah).2),(20,.slice va n.av.length vc),(21,i64 n.av.length),(22,i64 ((k:Int)+1))],ha.sub ⟨rfl,rfl,rfl,rfl,rfl,rfl,rfl,rfl,trivial⟩,⟨_,_,_,_,k+1,((bO.ae 1 rfl).aE),(cQ.trans ((ar.drew _).trans (bQ.trans (bM.trans cj)))),l7,?_,rfl,by omega⟩,Nat.lt_succ_self j⟩
  rw[List.take_succ_eq_append_getElem be,ajg bH,hm];simp[ai.LK]
 refine go 5 ?_
 have bH:n.av[k]=n.s.id:=by rw[gK] at lT;simpa using lT
 cases j with
 | zero=>omega
 | succ j =>
  refine fun ac ha=>⟨j,[(0,ptr p),(1,i64 ao),(2,u64 ab),(6,u64 (bX n.s.ah).1),(7,u64 (bX n.s.ah).2),(20,.slice va n.av.length vc),(21,i64 n.av.length),(22,i64 ((k:Int)+1))],ha.sub ⟨rfl,rfl,rfl,rfl,rfl,rfl,rfl,rfl,trivial⟩,⟨_,_,_,_,k+1,cd,cQ,ndL,?_,rfl,by omega⟩,Nat.lt_succ_self j⟩
  rw[List.take_succ_eq_append_getElem be,ajf bH,hm]
 refine go 1 ?_
 refine cP (vs:=[]) rfl ?_
 have qz:k=n.av.length:=by have:=ct nL;omega
 refine aw.mq cd ⟨rfl,_,_,ndL.to ?_⟩
 rw[hm,qz,List.take_length];rfl
theorem ak.cC {w:World} {s:aj}:∀ {os:List aj} (k:Nat),ak w s os→ak w s (os.eraseIdx k)
 | [],_,h=>h
 | _::_,0,h=>h.drop
 | r::os,k+1,⟨h1,h2,h3,h4⟩=>⟨h1,h2,fun q hq=>h3 q (List.mem_of_mem_eraseIdx hq),ak.cC k h4⟩
theorem ak.split {A:aj} {g:Nat} {x:Obj} (hg:ak w s (A::os)) (hx:A g=some x):ak w s ((fun b=>if b=g then none else A b)::aj.one g x::os):=by
 obtain⟨h1,h2,h3,h4⟩:=hg
 have bH:A g≠none:=by rw[hx];simp
 have hl:Le (fun b=>if b=g then none else A b) A:=fun b y hy=>by
  by_cases hb:b=g
  simp[hb] at hy
  simpa [hb] using hy
 have gV:Le (aj.one g x) A:=fun b y hy=>by
  simp only[aj.one] at hy
  split at hy
  rename_i e;cases hy;rw[e];exact hx
  cases hy
 refine⟨h1.le hl,h2.le hl,fun q hq=>?_,h1.le gV,h2.le gV,fun q hq=>(h3 q hq).le gV,h4⟩
 rcases List.mem_cons.1 hq with rfl | hq
 intro b hb
 simp only[aj.one]
 by_cases Vg:b=g
 simp[Vg] at hb
 simp[Vg]
 exact (h3 q hq).le hl
theorem Nd.aj2 (hg:ak w s (A::os)) (nd:Nd s A p h n):∃ A1 W,ak w s (A1::W::os)∧A1 p=some (.cells (py n h).toArray 109 (0,0))∧bb s A1 { h with pa:=none,pc:=0 } (n.mZ [])∧aW fI 3 136 s W h.pa h.pc n.s.aK:=by
 have hp:=nd.aK
 rcases hp with ⟨h1,h2,h3⟩ | ⟨g,cs,mP,hA,h4,h5,h6,h7⟩
 exact⟨A,aj.nil,hg.nil.ae 1 rfl,nd.cells,nd.au.H5,.inl ⟨h1,h2,h3⟩⟩
 have hb:=nd.aK
 have hk:∀ k,A k≠none→(∀ ad,h.pa=some ad→ad.block≠k)→(fun b=>if b=g then none else A b) k=A k:=fun k _ hk=>by
  have:k≠g:=fun e=>hk _ mP e.symm
  simp[this]
 obtain⟨a,b,c,d,e,f,g',i,j,l⟩:=nd.au
 refine⟨_,_,ak.split hg hA,(nd.apart hb (by decide) hk).trans nd.cells,⟨a,b,c,d.cR (hb.dj d (by decide)) hk,e.cR (hb.dj e (by decide)) hk,aW.nil _ _ _ _ _,g',i.cR (hb.dj i (by decide)) hk,j.cR (hb.dj j (by decide)) hk,l⟩,.inr ⟨g,cs,mP,if_pos rfl,h4,h5,h6,h7⟩⟩
theorem acj {α:Type} {q:α→Bool} {xs:List α} (h0:0≤dm q xs):xs.find? q=xs[(dm q xs).toNat]?:=by
 cases hf:xs.findIdx? q with
 | none=>unfold dm at h0;rw[hf] at h0;simp at h0
 | some k =>
  have hk:dm q xs=k:=by unfold dm;rw[hf]
  rw[List.findIdx?_eq_some_iff_getElem] at hf
  obtain⟨cv,hp,hn⟩:=hf
  rw[hk,Int.toNat_natCast,List.getElem?_eq_getElem cv,List.find?_eq_some_iff_getElem]
  exact⟨hp,k,cv,rfl,fun j hj=>by simpa using hn j hj⟩
theorem aci {α:Type} {q:α→Bool} {xs:List α} (h0:0≤dm q xs) (hl:(dm q xs).toNat<xs.length):xs.find? q=some xs[(dm q xs).toNat]:=by
 rw[acj h0,List.getElem?_eq_getElem hl]
theorem acl {α:Type} {q:α→Bool} {xs:List α} (h0:dm q xs<0):xs.find? q=none:=by
 unfold dm at h0
 cases hf:xs.findIdx? q with
 | none=>rw[List.findIdx?_eq_none_iff] at hf;rw[List.find?_eq_none];intro x hx;simp[hf x hx]
 | some k=>rw[hf] at h0;simp at h0;omega
theorem ahU {q:cK} {eV:Int} {B:aj} {b:Nat} {vs:List Value} (hg:ak w s os) (hq:fI s vs q) (hB:B∈os) (c1:B b=some (.cells #[i64 eV] 3 (0,0))) :
  Calls Tryz.prog 144 #[.agg vs.toArray,ptr b] w (aQ w s os fun r=>r = .bool (decide (q.node=eV))):=by
 obtain⟨rfl,_⟩:=hq
 refine enter (l:=[.agg #[i64 q.node,u64 q.next,u64 q.cA],ptr b]) Tryz.func144 rfl Tryz.ntmps144 rfl ?_
 refine go 3 ?_
 rintro b8 w8 Q8 bD cM ra
 refine go 7 ?_
 refine RL.load (j:=0) rfl rfl rfl rfl ey.out rfl (Holds.of c1) (bD.mem (by simp[hB])) rfl ?_
 refine go 3 ?_
 refine CW.ret (bP ?_)
 exact aQ.mq (bD.drop) rfl
theorem XA {next:Int} (hg:ak w s (A::os)) (nd:Nd s A p h n) (hR:cJ n) (hS:n.s.ah.bL) (hn:aq .u64 next) (fT:(ce n.s.ah).1.ic) (Px:(oI (ce n.s.ah).1 n.s.id).length≤4294967296) :
  Calls Tryz.prog 117 #[ptr p,u64 next] w (iw w s os p (.tuple #[]) (n.cx next)):=by
 generalize hO:oI (ce n.s.ah).1 n.s.id=O at Px
 refine enter (l:=[ptr p,u64 next]) Tryz.func117 rfl Tryz.ntmps117 rfl ?_
 refine go 8 ?_
 refine zc (FA hg (.inr (by simp)) (nd.lO hR) hS) ?_
 rintro v9 s9 B9 w9 jc bA cu ⟨vs17,rfl,hC⟩
 have bA:=bA.drop
 have lZ:=nd.up jc
 have qr:=hC
 obtain⟨va,vc,la,lc,rfl,fN,gl⟩:=hC
 refine go 5 ?_
 rintro Dx iS rJ cy dH rX
 refine go 2 ?_
 rintro jA me cw dK ml
 refine go 14 ?_
 obtain⟨A1,W1,er,yg,PK,hW⟩:=Nd.aj2 (cw.ae 1 rfl) lZ
 refine go 4 ?_
 refine RL.sN (p:=p) (i:=0) (j:=13) er (yg) (PK) ?_
 rintro ji vK dd eh lF
 refine go 3 ?_
 have ck:=dd.drew
 refine CW.dw [1,3,5,7,9,11,17,12,15] (fun w=>ay Dx _ w∧ay p _ w∧True) ?_
 refine go 8 ?_
 refine zc (aaA ck qr fT) ?_
 rintro yD CT B15 n_ gn dt iW ⟨a35,FQ,rfl,Ps⟩
 have nY:=lF.up gn
 obtain⟨t15,O0,o9,Pj⟩:=dt.bY
 have dt:ak _ t15 (vK::W1::me::os):=O0
 have wJ:=nY.up o9
 have UL:=Ps.ci (ax.up _) o9 Pj
 rw[show oI (ce n.s.ah).1 (n.mZ []).s.id=O from hO] at UL ⊢
 have hW:=hW.up fI.up (gn.trans o9)
 refine go 4 ?_
 refine CW.loop (σ:=Nat) (fun j E w'=>∃ A' pa pc m,∃ k:Nat,ak w' t15 (A'::W1::me::os)∧ar w w'∧Nd t15 A' p { h with pa:=pa,pc:=pc } m∧m=n.mZ ((O.take k).map fun o=>ai.tY n.s.aK o next)∧E=[(0,ptr p),(1,u64 next),(6,.slice h.pa n.s.aK.length h.pc),(35,.slice a35 O.length FQ),(36,i64 O.length),(37,i64 k)]∧k+j=O.length) (fun j=>j) O.length
  [(0,ptr p),(1,u64 next),(6,.slice h.pa n.s.aK.length h.pc),(35,.slice a35 O.length FQ),(36,i64 O.length),(37,i64 0)] ⟨rfl,rfl,rfl,rfl,rfl,rfl,trivial⟩ ⟨_,_,_,_,0,dt,(cu.trans (dH.trans (dK.trans (eh.trans ((ar.drew _).trans iW))))),wJ,by simp,rfl,by omega⟩ ?_
 rintro j E wL ⟨AL,paL,pcL,m,k,cd,cQ,ndL,hm,rfl,hk⟩
 have iO:m.s.aK.length=k:=by rw[hm];simp only[ai.mZ,List.length_map,List.length_take];omega
 refine go 5 ?_
 refine CW.cond rfl (fun lU=>?_) (fun lU=>?_)
 refine go 5 ?_
 have be:k<O.length:=by have:=bU lU;omega
 refine RL.cW rfl rfl rfl rfl bC.out rfl rfl UL (by omega) (by omega) ?_
 rintro q vs eH hH ⟨rfl,er1⟩
 refine RL.load (j:=0) rfl rfl rfl rfl ey.out rfl (hH) (cd.sh) rfl ?_
 refine go 1 ?_
 rintro I8 oM vU fd iC rY
 refine go 2 ?_
 rintro pF qS fU jr o0
 refine go 8 ?_
 rintro th qh vV e_ jE uR
 refine go 2 ?_
 rintro oN Aq fv iX xF
 refine go 6 ?_
 refine RL.tO rfl rfl rfl rfl rfl ?_
 refine go 1 ?_
 refine zw (aaq (p:=fun q=>decide (q.node=O[k])) fv (r:=W1) (.inr (by simp)) hW.eU rfl (fun x _ vs hE w' fh=>ahU fh hE (B:=qS) (by simp) o0)) ?_
 rintro v22 qN iL lh rfl
 refine go 8 ?_
 refine CW.cond rfl (fun om=>?_) (fun om=>?_)
 have h0:0≤dm (fun q:cK=>decide (q.node=O[k])) n.s.aK:=bU om
 have h1:dm (fun q:cK=>decide (q.node=O[k])) n.s.aK<n.s.aK.length:=by rcases Kz (fun q:cK=>decide (q.node=O[k])) n.s.aK with h | h<;>omega
 have Cj:ai.tY n.s.aK O[k] next=n.s.aK[(dm (fun q:cK=>decide (q.node=O[k])) n.s.aK).toNat]'(by omega):=by simp only[ai.tY,aci h0 (by omega),Option.getD_some]
 refine go 3 ?_
 refine RL.dX rfl rfl rfl rfl qf.out rfl rfl hW.eU h0 h1 ?_
 rintro q2 vs2 oE eS ⟨rfl,fr1⟩
 have vh:∀ s,fI s [i64 _,u64 _,u64 _] _:=fun s=>⟨rfl,fr1⟩
 refine RL.gX (j:=0) (us:=_) rfl rfl rfl rfl yB.out rfl (eS) (iL.mem (by simp)) rfl rfl ?_
 refine go 1 ?_
 rintro xe Ar iM pR D2
 refine go 2 ?_
 have gB:=iM.drew
 refine CW.dx [1,3,5,7,9,11,13,14,16,19,21,23] [24] 12 1 (fun w=>ay p _ w∧ay th _ w∧True) ?_
 refine go 8 ?_
 rintro b25 ul Au js ou uS
 refine go 1 ?_
 refine RL.gQ (i:=3) (ys:=[_]) rfl rfl rfl rfl qf.out Fx.out rfl fI.one rfl rfl js rfl ndL.aK (pz qf.out rfl uS (js.mem (by simp))) (cF.jy rfl (vh _)) ((by simp only[List.length_singleton];omega)) (by omega) ?_
 rintro a26 c26 LU un gk af4 mJ afc apU
 obtain⟨agk,agD⟩:=ndL.SW af4 afc
 refine go 6 ?_
 refine RL.sN (p:=p) (i:=3) (j:=13) gk (agk) (agD) ?_
 rintro rH yM iN mj yu
 refine go 6 ?_
 cases j with
 | zero=>omega
 | succ j =>
  refine fun ac ha=>⟨j,[(0,ptr p),(1,u64 next),(6,.slice h.pa n.s.aK.length h.pc),(35,.slice a35 O.length FQ),(36,i64 O.length),(37,i64 ((k:Int)+1))],ha.sub ⟨rfl,rfl,rfl,rfl,rfl,rfl,trivial⟩,⟨_,_,_,_,k+1,((((((iN.ae 5 rfl).ae 5 rfl).ae 5 rfl).cC 3).cC 3).cC 3),(cQ.trans (iC.trans (jr.trans (jE.trans (iX.trans (lh.trans (pR.trans ((ar.drew _).trans (ou.trans (mJ.trans mj)))))))))),yu,?_,rfl,by omega⟩,Nat.lt_succ_self j⟩
  rw[List.take_succ_eq_append_getElem be,List.map_append,hm]
  simp only[List.map_cons,List.map_nil,Cj];rfl
 have Cj:ai.tY n.s.aK O[k] next=⟨O[k],next,0⟩:=by simp only[ai.tY,acl (q:=fun q:cK=>decide (q.node=O[k])) (xs:=n.s.aK) (by have:=ct om;omega),Option.getD_none]
 have vh:∀ s,fI s [i64 O[k],u64 next,u64 0] ⟨O[k],next,0⟩:=fun s=>⟨rfl,er1,hn,by simp[aq]⟩
 refine go 1 ?_
 have jG:=iL.drew
 refine CW.dx [1,3,5,7,9,11,13,14,16,19,21,23] [24] 12 1 (fun w=>ay p _ w∧ay th _ w∧True) ?_
 refine go 8 ?_
 rintro S8 vI Dk i_ pS xH
 refine go 1 ?_
 refine RL.gQ (i:=3) (ys:=[_]) rfl rfl rfl rfl qf.out Fx.out rfl fI.one rfl rfl i_ rfl ndL.aK (pz qf.out rfl xH (i_.mem (by simp))) (cF.jy rfl (vh _)) ((by simp only[List.length_singleton];omega)) (by omega) ?_
 rintro a30 c30 R4 yG ja af6 rV aff apW
 obtain⟨agn,agG⟩:=ndL.SW af6 aff
 refine go 6 ?_
 refine RL.sN (p:=p) (i:=3) (j:=13) ja (agn) (agG) ?_
 rintro Ah LV kQ uO sG
 refine go 6 ?_
 cases j with
 | zero=>omega
 | succ j =>
  refine fun ac ha=>⟨j,[(0,ptr p),(1,u64 next),(6,.slice h.pa n.s.aK.length h.pc),(35,.slice a35 O.length FQ),(36,i64 O.length),(37,i64 ((k:Int)+1))],ha.sub ⟨rfl,rfl,rfl,rfl,rfl,rfl,trivial⟩,⟨_,_,_,_,k+1,((((((kQ.ae 5 rfl).ae 5 rfl).ae 5 rfl).cC 3).cC 3).cC 3),(cQ.trans (iC.trans (jr.trans (jE.trans (iX.trans (lh.trans ((ar.drew _).trans (pS.trans (rV.trans uO))))))))),sG,?_,rfl,by omega⟩,Nat.lt_succ_self j⟩
  rw[List.take_succ_eq_append_getElem be,List.map_append,hm]
  simp only[List.map_cons,List.map_nil,Cj];rfl
 refine go 1 ?_
 refine cP (vs:=[]) rfl ?_
 have qz:k=O.length:=by have:=ct lU;omega
 refine aw.mk (jc.trans (gn.trans o9)) ((cd.aE).aE) cQ ⟨rfl,_,ndL.to ?_⟩
 rw[hm,qz,List.take_length];simp only[ai.cx,ai.mZ,hO]
end
end Go.Lw
namespace Go.Lw
open Go.Proofs
attribute [local irreducible] RL RA
section
variable {w:World} {s A:aj} {os:List aj} {p:Nat} {h:Hd} {n:ai}
theorem tX {α:Type} {P:Program} {R:aj→List Value→α→Prop} {sz b by_:Nat} {t e:TypeId} {B:aj} {cs:List Value} {xs:List α} (ht:eJ P t=some (e,sz,by_)) (hB:B b=some (.cells cs.toArray e (0,0))) (cq:In B w) (cD:cF R sz s cs xs):∃ bB,cU P w t sz (.slice (some ⟨b,0,none⟩) xs.length xs.length) xs.length bB∧cF R sz s bB xs :=
 ⟨cs,pz ht cD.length hB cq,cD⟩
theorem yY (h:n.b_≤n.s.af.aB∨(cE n.s.ah n.b_).1≠n.s.af.ab):n.count=n:=by unfold ai.count;rw[if_pos h]
theorem yX (h:¬ (n.b_≤n.s.af.aB∨(cE n.s.ah n.b_).1≠n.s.af.ab)):n.count=if (ce n.s.ah).2≤n.b_∧n.s.id∉n.av then (n.lz n.b_).follow n.s.af.ab 0 else n.lz n.b_:=by
 unfold ai.count;rw[if_neg h];rfl
theorem QK (hg:ak w s (A::os)) (nd:Nd s A p h n) (hR:cJ n) (hS:n.s.ah.bL) (hv:n.av.length≤1073741824) (hb:n.s.aK.length≤4294967296) :
  Calls Tryz.prog 118 #[ptr p] w (iw w s os p (.tuple #[]) n.count):=by
 refine enter (l:=[ptr p]) Tryz.func118 rfl Tryz.ntmps118 rfl ?_
 refine go 8 ?_
 refine zc (FA hg (.inr (by simp)) (nd.lO hR) hS) ?_
 rintro v1 s1 B1 w1 eu aH aN ⟨vs13,rfl,hC⟩
 have aH:=aH.drop
 have tT:=nd.up eu
 have qr:=hC
 obtain⟨va,vc,la,lc,rfl,fN,gl⟩:=hC
 refine go 5 ?_
 rintro b3 w3 Q3 aP bw ks
 refine go 2 ?_
 rintro w4 Q4 bp bJ o3
 refine go 4 ?_
 have bh:=bp.drew
 refine CW.dw [1,3,5,7,9,11,13,17,19,21,23,25,27,14,28,31,32,34,36,38] (fun w=>ay b3 _ w∧ay p _ w∧True) ?_
 refine go 14 ?_
 refine zc (Sc bh (.inr (by simp)) tT.aK.eU.2.2 (by omega)) ?_
 rintro v6 s6 Q6 w6 jv bx bM ⟨agV,a23,Dz,rfl,Pp⟩
 have l7:=tT.up jv
 have qr:=fH.up _ _ _ _ jv qr
 have fN:=fN.up (ax.up _) jv
 refine go 2 ?_
 refine zw (qI (bx.ae 2 rfl) l7 hR) ?_
 rintro v8 w8 bD cM rfl
 refine go 3 ?_
 rintro b9 w9 Q9 bA cu rb
 refine go 1 ?_
 obtain⟨QT,Cp,BA⟩:=(tX (R:=fI) (xs:=[⟨n.s.id,0,n.aZ⟩]) qf.out rb (bA.mem (by simp)) (cF.jy rfl ⟨rfl,hR.1,by simp[aq],(nd.lO hR).Cz.1⟩))
 refine RL.gQ (i:=2) (xs:=n.s.aK) (ys:=[⟨n.s.id,0,n.aZ⟩]) rfl rfl rfl rfl qf.out Fx.out rfl fI.one (rfl) rfl bA rfl (Pp) Cp BA ((by simp only[List.length_singleton];omega)) (by omega) ?_
 rintro iI nI ob eX bj pe cm O4 apR
 have hoP:=pe
 refine go 1 ?_
 obtain⟨we,ze,NJ,hL4⟩:=(bj.ae 2 rfl).CB
 refine go 1 ?_
 refine zc (Calls.CB (Ψ:=fun v=>∃ c,v = .int .u64 c∧Ao ((cZ n.av).map (fW (n.s.aK++[⟨n.s.id,0,n.aZ⟩]))) c) (bj.ae 2 rfl) (aaf we (fN.up (ax.up _) ze) (hoP.ci fI.up ze NJ) (by show n.av.length*8≤_;omega))) ?_
 rintro uh mA B11 iS dy cy dH ⟨AB,rfl,adm⟩
 have cy:=cy.drop
 have pw:=l7.up dy
 have qr:=fH.up _ _ _ _ dy qr
 obtain rfl:=ai.MC (n:=n) adm
 refine go 13 ?_
 refine zw (Dm cy (.inr (by simp)) (pw.lO hR) (by have:=hS.2.2.2;omega)) ?_
 rintro yC ji dd eh rfl
 refine go 18 ?_
 refine RL.part 53 rfl (fun tp=>?_) (fun tp=>?_)
 refine go 11 ?_
 refine CW.ret (kE ?_)
 exact aw.mq ((((dd.ae 2 rfl).aE).aE).aE) ⟨rfl,_,pw.to (yY (.inl (bU tp))).symm⟩
 refine go 10 ?_
 refine CW.cond rfl (fun Bf=>?_) (fun Bf=>?_)
 refine CW.ret (kE ?_)
 exact aw.mq ((((dd.ae 2 rfl).aE).aE).aE) ⟨rfl,_,pw.to (yY (.inr (by simpa using Bf))).symm⟩
 have Oj:=yX (n:=n) (fun z=>z.elim (ct tp) (fun z=>by simp[z] at Bf))
 refine go 9 ?_
 refine RL.sI (p:=p) (i:=2) (j:=3) dd (pw.cells) (bb.lz pw.au) ?_
 rintro nw yL ck g_ tS
 refine go 3 ?_
 have dt:=ck.drew
 refine CW.dw [1,3,5,7,9,11,13,15,17,19,20,23,25] (fun w=>ay b3 _ w∧ay p _ w∧True) ?_
 refine go 4 ?_
 refine RL.part 72 rfl (fun Nl=>?_) (fun Nl=>?_)
 refine go 7 ?_
 refine zw (SF dt qr) ?_
 rintro w_ md eC ie rfl
 refine go 4 ?_
 refine CW.cond rfl (fun Nn=>?_) (fun Nn=>?_)
 refine go 9 ?_
 refine zc (DI (eC.ae 2 rfl) tS) ?_
 rintro C5 CU Fy ny oC eZ hY ⟨rfl,mf,wJ⟩
 refine go 2 ?_
 refine cP (vs:=[]) rfl ?_
 refine aw.mq (((eZ.aE).aE).aE) ⟨rfl,_,wJ.to ?_⟩
 rw[Oj,if_pos ⟨bU Nl,of_decide_eq_false (Bool.not_eq_true' _▸Nn)⟩];rfl
 refine go 1 ?_
 refine cP (vs:=[]) rfl ?_
 refine aw.mq ((((eC.ae 2 rfl).aE).aE).aE) ⟨rfl,_,tS.to ?_⟩
 rw[Oj,if_neg (fun z=>z.2 (of_decide_eq_true (Bool.not_eq_false' _▸Nn)))]
 refine go 12 ?_
 refine cP (vs:=[]) rfl ?_
 refine aw.mq ((((dt.ae 2 rfl).aE).aE).aE) ⟨rfl,_,tS.to ?_⟩
 rw[Oj,if_neg (fun z=>ct Nl z.1)]
theorem ai.TB (hp:∀ q∈n.s.aK,aq .u64 q.cA) (hl:aq .u64 n.aZ):aq .u64 n.b_:=by
 unfold ai.b_
 split
 rename_i hk
 have hm:∀ q∈n.s.aK++[⟨n.s.id,0,n.aZ⟩],aq .u64 q.cA:=by
  intro q hq
  rcases List.mem_append.1 hq with hq | hq
  exact hp q hq
  obtain rfl:=List.mem_singleton.1 hq;exact hl
 rcases hk.choose_spec with ⟨_,h0⟩ | ⟨_,h1,_⟩
 rw[h0];simp[aq]
 obtain⟨v,_,hv⟩:=List.mem_map.1 h1
 rw[←hv];exact ahR hm v
 simp[aq]
theorem Nd.H8 (nd:Nd s A p h n):∀ q∈n.s.aK,aq .i64 q.node∧aq .u64 q.next∧aq .u64 q.cA:=by
 intro q hq
 obtain⟨vs,_,h1⟩:=nd.aK.eU.all q hq
 exact h1
theorem cJ.follow {ab gq:Int} (hR:cJ n) (ht:aq .u64 ab):cJ (n.follow ab gq):=by
 unfold ai.follow
 by_cases hc:n.s.af.ab<ab
 exact hR.of rfl (by simp only[if_pos hc];exact ht) (by simp only[if_pos hc];simp[aq]) (by simp only[if_pos hc];exact hR.2.2.2.1) rfl
 exact hR.of rfl (by simp only[if_neg hc];exact hR.2.1) (by simp only[if_neg hc];exact hR.2.2.1) (by simp only[if_neg hc];exact hR.2.2.2.1) rfl
theorem cJ.count (hR:cJ n) (hc:aq .u64 n.b_):cJ n.count:=by
 by_cases hs:n.b_≤n.s.af.aB∨(cE n.s.ah n.b_).1≠n.s.af.ab
 rw[yY hs];exact hR
 rw[yX hs]
 have hw:cJ (n.lz n.b_):=hR.of rfl hR.2.1 hR.2.2.1 hc rfl
 split
 exact hw.follow hR.2.1
 exact hw
theorem Nd.ML (nd:Nd s A p h n) (hR:cJ n):cJ n.count:=hR.count (ai.TB (fun q hq=>(nd.H8 q hq).2.2) (nd.lO hR).Cz.1)
theorem MJ (n:ai):n.count.s.ah=n.s.ah:=by
 unfold ai.count;split
 rfl
 dsimp only;split<;>rfl
theorem FV (n:ai):n.count.s.aK=n.s.aK∨n.count.s.aK=[]:=by
 unfold ai.count;split
 exact .inl rfl
 dsimp only;split
 exact .inr rfl
 exact .inl rfl
theorem MK (n:ai):n.count.o=n.o:=by
 unfold ai.count;split
 rfl
 dsimp only;split<;>rfl
theorem TK:∀ {l:List aA},(∀ e∈l,e.bL)→∀ c,jB l=some c→c.1.bL
 | [],_,c,h=>by cases h
 | e::l,hs,c,h=>by
  simp only[jB] at h
  cases hc:jB l with
  | some r=>rw[hc] at h;cases h;exact TK (fun x hx=>hs x (List.mem_cons_of_mem _ hx)) _ hc
  | none =>
   rw[hc] at h
   simp only at h
   split at h
   cases h;exact (hs e (List.mem_cons_self ..)).2
   cases h
theorem vY {l:br} (h:l.bL):(ce l).1.bL:=by
 unfold ce
 cases hc:jB l.entries with
 | none=>exact h.1
 | some r=>exact TK h.2.2.1 _ hc
theorem aY.bL.ic {c:aY} (h:c.bL):c.ic:=by
 obtain⟨h1,h2⟩:=h;simp only[aY.ic];omega
theorem KX {c:aY} (h:c.bL) (x:Int):(oI c x).length≤4294967296:=by
 have h1:=It (dU x (c.av++c.aD))
 have h2:=DD x (c.av++c.aD)
 have h3:(c.av++c.aD).length=c.av.length+c.aD.length:=List.length_append
 have h4:=h.1
 have h5:=h.2
 unfold oI;omega
def ai.fE (n:ai) (x:aA):ai:=⟨{ n.s with ah:=⟨n.s.ah.aF,n.s.ah.entries++[x]⟩ },{ n.o with entries:=n.o.entries++[x] }⟩
theorem br.bL.CV {l:br} (hS:l.bL) {x:aA} (hx:x.bL) (hn:l.entries.length+1≤1099511627776):br.bL ⟨l.aF,l.entries++[x]⟩:=by
 refine⟨hS.1,hS.2.1,fun e he=>?_,by simp only[List.length_append,List.length_singleton];exact hn⟩
 rcases List.mem_append.1 he with he | he
 exact hS.2.2.1 e he
 obtain rfl:=List.mem_singleton.1 he;exact hx
theorem QU {e:aA} {vs:List Value} (hg:ak w s (A::os)) (nd:Nd s A p h n) (hR:cJ n) (hS:n.s.ah.bL) (hE:bg s vs e) (he:e.bL) (hn:n.s.ah.entries.length+1≤1099511627776) (hp:n.s.aK.length≤4294967296) (hm:n.o.aG.length≤34359738368) (ho:n.o.entries.length+1≤1099511627776) :
  Calls Tryz.prog 78 #[ptr p,.agg vs.toArray] w (iw w s os p (.tuple #[]) (n.put e)):=by
 obtain⟨ea,ec,ea1,ec1,ea2,ec2,rfl,er1,er2,er3,eh1,eh2,eh3⟩:=hE
 obtain⟨x,hx⟩:∃ x:aA,x={ e with index:=bF n.aZ,ab:=n.s.af.ab }:=⟨_,rfl⟩
 have yo:x.bL:=by rw[hx];exact he
 have zk:br.bL (n.fE x).s.ah:=hS.CV yo hn
 have dr:=vY zk
 have lC:cJ (n.fE x):=hR.of rfl hR.2.1 hR.2.2.1 hR.2.2.2.1 rfl
 have vn:x.index=bF n.aZ:=by rw[hx]
 have zO:n.put e=((if e.ao=3 then (n.fE x).cx x.index else n.fE x).count).gD:=by rw[hx];rfl
 have WB:∀ s',Le s s'→bg s' [u64 (bF n.aZ),u64 n.s.af.ab,i64 e.ao,.slice ea e.data.length ec,.slice ea1 e.aJ.av.length ec1,.slice ea2 e.aJ.aD.length ec2] x:=fun s' hl=>by
  rw[hx];exact⟨ea,ec,ea1,ec1,ea2,ec2,rfl,vG _,hR.2.1,er3,eh1.up (ax.up _) hl,eh2.up (ax.up _) hl,eh3.up (ax.up _) hl⟩
 refine enter (l:=[ptr p,.agg #[u64 e.index,u64 e.ab,i64 e.ao,.slice ea e.data.length ec,.slice ea1 e.aJ.av.length ec1,.slice ea2 e.aJ.aD.length ec2]]) Tryz.func78 rfl Tryz.ntmps78 rfl ?_
 refine go 3 ?_
 rintro I8 oM vU fd iC rY
 refine go 3 ?_
 have fU:=fd.drew
 refine CW.dw [1,7,9,11,13,15,17,2,5,19,20,23,24] (fun w=>ay p _ w∧True) ?_
 refine go 8 ?_
 refine zw (qI (fU.ae 1 rfl) nd hR) ?_
 rintro Iy qh e_ jE rfl
 refine go 1 ?_
 refine RL.nH rfl rfl rfl rfl (u64 (bF n.aZ)) (rfl) ?_
 refine go 2 ?_
 rintro oN Aq fv iX xF
 refine go 3 ?_
 rintro qN vW iL lh rZ
 refine go 3 ?_
 have iM:=iL.drew
 refine CW.dx [1,3,5,7,9,11,13,15,16,18,20,23,25,27,29] [30] 15 1 (fun w=>ay p _ w∧ay I8 _ w∧True) ?_
 refine go 9 ?_
 refine zc (MO iM (WB _ (Le.refl _)) yo) ?_
 rintro RO Lf B24 uk xR gB nP ⟨us23,rfl,UX⟩
 have gB:=gB.drop
 have sF:=nd.up xR
 have hU:=UX
 obtain⟨fa,fc,fa1,fc1,fa2,fc2,rfl,fr1,fr2,fr3,fh1,fh2,fh3⟩:=UX
 refine go 2 ?_
 rintro FM un yP gk mJ wh
 refine go 1 ?_
 refine RL.gQ (i:=1) (ys:=[x]) rfl rfl rfl rfl de.out rI.out rfl bg.one rfl rfl gk rfl sF.entries (pz de.out rfl wh (gk.mem (by simp))) (cF.jy rfl hU) ((by simp only[List.length_singleton];omega)) (by omega) ?_
 rintro a27 c27 yM rH iN Kg mj afd afW
 obtain⟨agl,agE⟩:=sF.aa8 Kg afd afW
 refine go 7 ?_
 refine RL.sN (p:=p) (i:=1) (j:=9) iN (agl) (agE) ?_
 rintro vH IL jG oZ tU
 refine go 3 ?_
 have i_:=jG.drew
 refine CW.dx [1,3,5,7,9,11,13,14,16,18,21,23,25] [26] 13 1 (fun w=>ay p _ w∧ay I8 _ w∧True) ?_
 refine go 8 ?_
 refine zc (MO i_ (WB _ xR) yo) ?_
 rintro LA Rq B30 yG sf ja rV ⟨us37,rfl,UY⟩
 have ja:=ja.drop
 have sG:=tU.up sf
 have hV:=UY
 obtain⟨ga,gc,ga1,gc1,ga2,gc2,rfl,gr1,gr2,gr3,gh1,gh2,gh3⟩:=UY
 refine go 2 ?_
 rintro b32 sW Aw iD ov r6
 refine go 1 ?_
 refine RL.gQ (i:=2) (ys:=[x]) rfl rfl rfl rfl de.out rI.out rfl bg.one rfl rfl iD rfl sG.qL (pz de.out rfl r6 (iD.mem (by simp))) (cF.jy rfl hV) ((by simp only[List.length_singleton];show (n.o.entries.length+1)*96≤_;omega)) (by omega) ?_
 rintro a33 c33 IM qi c_ Pr gR O5 V6
 obtain⟨PD,PJ⟩:=sG.aa9 Pr O5 V6
 refine go 6 ?_
 refine RL.sN (p:=p) (i:=2) (j:=21) c_ (PD) (PJ) ?_
 rintro yH R5 jt rW CG
 refine go 9 ?_
 refine CW.cond rfl (fun ol=>?_) (fun ol=>?_)
 have Bt:cJ ((n.fE x).cx x.index):=lC.of rfl lC.2.1 lC.2.2.1 lC.2.2.2.1 rfl
 have Hw:((n.fE x).cx x.index).s.aK.length≤4294967296:=by simp only[ai.cx,List.length_map];exact KX dr _
 have Cb:((n.fE x).cx x.index).o.aG.length≤34359738368:=hm
 have BX:br.bL ((n.fE x).cx x.index).s.ah:=zk
 refine go 4 ?_
 rw[←vn]
 refine go 1 ?_
 refine zc (XA (jt.ae 2 rfl) CG lC zk (by rw[vn];exact vG _) dr.ic (KX dr _)) ?_
 rintro v35 Lg IO uo zH jH ow ⟨rfl,pN,nZ⟩
 refine go 5 ?_
 have uL:=(nZ).ML Bt
 refine go 1 ?_
 refine zc (QK jH nZ Bt BX dr.1 Hw) ?_
 rintro v36 Yz qk nz J6 cS gS ⟨rfl,jD,yv⟩
 refine go 4 ?_
 have hcb:=fun z:ai=>FV z
 refine go 1 ?_
 refine zc (Il cS yv uL (by rw[MJ];exact BX) (by rw[MK];rcases FV _ with h | h<;>rw[h];exact Nat.le_trans (Nat.add_le_add Cb Hw) (by decide);simp only[List.length_nil];exact Nat.le_trans Cb (by decide))) ?_
 rintro Zu s37 R6 qj O8 dh im ⟨rfl,ma37,mc37,CH⟩
 refine go 2 ?_
 refine cP (vs:=[]) rfl ?_
 refine aw.mq (((dh.aE).aE).aE) ⟨rfl,_,CH.to ?_⟩
 rw[zO,if_pos (by simpa using ol)];rfl
 have Bt:=lC
 have Hw:(n.fE x).s.aK.length≤4294967296:=hp
 have Cb:(n.fE x).o.aG.length≤34359738368:=hm
 have BX:=zk
 refine go 4 ?_
 have uL:=(CG).ML Bt
 refine go 1 ?_
 refine zc (QK (jt.ae 2 rfl) CG Bt BX dr.1 Hw) ?_
 rintro Ft Lh Z3 Ai sg mM uP ⟨rfl,lU,QP⟩
 refine go 4 ?_
 have hcb:=fun z:ai=>FV z
 refine go 1 ?_
 refine zc (Il mM QP uL (by rw[MJ];exact BX) (by rw[MK];rcases FV _ with h | h<;>rw[h];exact Nat.le_trans (Nat.add_le_add Cb Hw) (by decide);simp only[List.length_nil];exact Nat.le_trans Cb (by decide))) ?_
 rintro ID Li LX C7 rh nf uQ ⟨rfl,ma39,mc39,vA⟩
 refine go 2 ?_
 refine cP (vs:=[]) rfl ?_
 refine aw.mq (((nf.aE).aE).aE) ⟨rfl,_,vA.to ?_⟩
 rw[zO,if_neg (by simpa using ol)];rfl
def ai.mX (n:ai):Prop:=n.s.ah.bL∧n.s.ah.entries.length+1≤1099511627776∧n.s.aK.length≤4294967296∧n.o.aG.length≤34359738368∧n.o.entries.length+1≤1099511627776
def AA:aA:=⟨0,0,1,[],⟨[],[]⟩⟩
theorem abm (s:aj):bg s [u64 0,u64 0,i64 1,.slice none 0 0,.slice none 0 0,.slice none 0 0] AA :=
 ⟨none,0,none,0,none,0,rfl,by simp[aq,AA],by simp[aq,AA],by simp[aq,AA],bm.nil _ _ _ (Nat.zero_le _),bm.nil _ _ _ (Nat.zero_le _),bm.nil _ _ _ (Nat.zero_le _)⟩
theorem abn:AA.bL:=⟨by simp[AA],by simp[AA,aY.bL]⟩
def ai.MM (n:ai):ai:={ n with s:={ n.s with aO:=4,gq:=n.s.id,cB:=[],bi:=0,fQ:=0,eW:=0,aK:=[] } }
theorem Xe (hg:ak w s (A::os)) (nd:Nd s A p h n) (hR:cJ n) (hr:n.mX) :
  Calls Tryz.prog 129 #[ptr p] w (iw w s os p (.tuple #[]) n.cI):=by
 obtain⟨hS,h1,h2,h3,h4⟩:=hr
 have dr:=vY hS
 have lC:cJ n.MM:=hR.of rfl hR.2.1 hR.2.2.1 hR.2.2.2.1 rfl
 have zg:cJ (n.MM.cx (bF n.aZ)):=hR.of rfl hR.2.1 hR.2.2.1 hR.2.2.2.1 rfl
 have Hu:(n.MM.cx (bF n.aZ)).s.aK.length≤4294967296:=by simp only[ai.cx,List.length_map];exact KX dr _
 refine enter (l:=[ptr p]) Tryz.func129 rfl Tryz.ntmps129 rfl ?_
 refine go 12 ?_
 refine RL.sI (p:=p) (i:=0) (j:=10) hg (nd.cells) (bb.Ak nd.au) ?_
 rintro nA ql en gT EZ
 refine go 4 ?_
 refine RL.sI (p:=p) (i:=0) (j:=11) en (EZ.cells) (bb.Aj EZ.au) ?_
 rintro IF Z4 tx DY E4
 refine go 12 ?_
 refine RL.sN (p:=p) (i:=0) (j:=12) (h1:=_) (n1:=_) tx (E4.cells) (E4.au.KQ) ?_
 rintro LC Z5 wk Gr CI
 refine go 4 ?_
 refine RL.sI (p:=p) (i:=0) (j:=14) wk (CI.cells) (bb.dN CI.au) ?_
 rintro LG Z6 wl DZ KM
 refine go 4 ?_
 refine RL.sI (p:=p) (i:=0) (j:=15) wl (KM.cells) (bb.kD KM.au) ?_
 rintro LH Z7 wn D0 CJ
 refine go 4 ?_
 refine RL.sI (p:=p) (i:=0) (j:=16) wn (CJ.cells) (bb.mC CJ.au) ?_
 rintro LI Fz uW Gs E6
 refine go 4 ?_
 refine RL.sN (p:=p) (i:=0) (j:=13) (h1:=_) (n1:=_) uW (E6.cells) (E6.au.H5) ?_
 rintro LJ IP zu Gt sH
 refine go 7 ?_
 refine zw (qI zu sH lC) ?_
 rintro v47 w47 GK adH rfl
 refine go 1 ?_
 refine RL.nH rfl rfl rfl rfl (u64 (bF n.aZ)) (rfl) ?_
 refine go 1 ?_
 refine zc (XA GK sH lC hS (vG _) dr.ic (KX dr _)) ?_
 rintro v48 s48 A48 Zx apD BG N0 ⟨rfl,om,aia⟩
 refine go 6 ?_
 refine zc (QU BG aia zg hS (abm _) abn h1 Hu h3 h4) ?_
 rintro v49 s49 R7 RU apE BH JM ⟨rfl,Be,QQ⟩
 refine go 2 ?_
 refine cP (vs:=[]) rfl ?_
 exact aw.mq BH ⟨rfl,_,QQ⟩
theorem RB (hg:ak w s (A::os)) (nd:Nd s A p h n) (hR:cJ n) (hr:n.mX) :
  Calls Tryz.prog 101 #[ptr p] w (iw w s os p (.tuple #[]) n.fp):=by
 obtain⟨hS,h1,h2,h3,h4⟩:=hr
 have dr:=vY hS
 obtain⟨m0,nS⟩:∃ m0:ai,m0={ n with s:={ n.s with af:={ n.s.af with ab:=bF n.s.af.ab,aT:=n.s.id } } }:=⟨_,rfl⟩
 have lC:cJ m0:=by rw[nS];exact hR.of rfl (vG _) hR.1 hR.2.2.2.1 rfl
 have zg:cJ (m0.dM 3):=lC.of rfl lC.2.1 lC.2.2.1 lC.2.2.2.1 rfl
 have Wq:n.fp=if (m0.dM 3).gM=1 then (m0.dM 3).cI else (m0.dM 3).l8 3 (m0.dM 3).s.af.ab:=by rw[nS];rfl
 have jN:(m0.dM 3).mX:=by rw[nS];exact⟨hS,h1,by simp[ai.dM,ai.jm],h3,h4⟩
 have zk:m0.s.ah.bL:=by rw[nS];exact hS
 have rx:m0.av.length≤1073741824:=by rw[nS];exact dr.1
 have mN:m0.o.aG.length≤34359738368:=by rw[nS];exact h3
 refine enter (l:=[ptr p]) Tryz.func101 rfl Tryz.ntmps101 rfl ?_
 refine go 8 ?_
 refine RL.nH rfl rfl rfl rfl (u64 (bF n.s.af.ab)) (rfl) ?_
 refine go 4 ?_
 refine RL.sI (p:=p) (i:=0) (j:=1) hg (nd.cells) (bb.Fu nd.au) ?_
 rintro RV IQ zx Gu wP
 refine go 14 ?_
 refine RL.sI (p:=p) (i:=0) (j:=2) zx (wP.cells) (bb.vJ wP.au) ?_
 rintro w51 A51 GL U3 aib
 refine go 7 ?_
 refine zc (Yv (n:=m0) GL (aib.to (by rw[nS];rfl)) lC zk rx) ?_
 rintro v52 s52 A52 w52 apF OJ adI ⟨rfl,Ni,KO⟩
 refine go 3 ?_
 refine CW.cond rfl (fun pM=>?_) (fun pM=>?_)
 refine go 4 ?_
 refine zc (Xe OJ KO zg jN) ?_
 rintro v53 s53 A53 w53 apG OK adJ ⟨rfl,tp,XG⟩
 refine go 2 ?_
 refine CW.ret (kE ?_)
 refine aw.mq OK ⟨rfl,_,XG.to ?_⟩
 rw[Wq,if_pos (by simpa using pM)]
 refine go 10 ?_
 refine zc (Yg OJ KO zg zk (by simp[aq]) zg.2.1 rx mN) ?_
 rintro v54 s54 A54 w54 apH OL U4 ⟨rfl,ma54,mc54,aic⟩
 refine go 2 ?_
 refine cP (vs:=[]) rfl ?_
 refine aw.mq OL ⟨rfl,_,aic.to ?_⟩
 rw[Wq,if_neg (by simpa using pM)]
theorem abe (hg:ak w s (A::os)) (nd:Nd s A p h n) (hR:cJ n) (hr:n.mX) :
  Calls Tryz.prog 68 #[ptr p] w (iw w s os p (.tuple #[]) n.eD):=by
 obtain⟨hS,h1,h2,h3,h4⟩:=hr
 have dr:=vY hS
 have zg:cJ (n.dM 2):=hR.of rfl hR.2.1 hR.2.2.1 hR.2.2.2.1 rfl
 have JK:n.eD=if (n.dM 2).gM=1 then (n.dM 2).fp else (n.dM 2).l8 1 (bF (n.dM 2).s.af.ab):=rfl
 have jN:(n.dM 2).mX:=⟨hS,h1,by simp[ai.dM,ai.jm],h3,h4⟩
 refine enter (l:=[ptr p]) Tryz.func68 rfl Tryz.ntmps68 rfl ?_
 refine go 5 ?_
 refine zc (Yv hg nd hR hS dr.1) ?_
 rintro v55 s55 A55 Zy apI BI N1 ⟨rfl,xC,XH⟩
 refine go 3 ?_
 refine CW.cond rfl (fun h4=>?_) (fun h4=>?_)
 refine go 4 ?_
 refine zc (RB BI XH zg jN) ?_
 rintro v56 s56 Z8 w56 apJ GM adK ⟨rfl,za,aid⟩
 refine go 2 ?_
 refine CW.ret (kE ?_)
 refine aw.mq GM ⟨rfl,_,aid.to ?_⟩
 rw[JK,if_pos (by simpa using h4)]
 refine go 9 ?_
 refine RL.nH rfl rfl rfl rfl (u64 (bF (n.dM 2).s.af.ab)) (rfl) ?_
 refine go 1 ?_
 refine zc (Yg BI XH zg hS (by simp[aq]) (vG _) dr.1 h3) ?_
 rintro v57 s57 R8 Zz apK GN N2 ⟨rfl,ma57,mc57,CK⟩
 refine go 2 ?_
 refine cP (vs:=[]) rfl ?_
 refine aw.mq GN ⟨rfl,_,CK.to ?_⟩
 rw[JK,if_neg (by simpa using h4)]
end
end Go.Lw
namespace Go.Lw
open Go.Proofs
attribute [local irreducible] RL RA
abbrev sw (i:ez) (y:cG) (da:Option Addr) (dc:Nat):List Value:=[i64 i.ao,i64 i.sS,i64 i.cr.ao,i64 i.cr.am,i64 i.cr.to,u64 i.cr.ab,u64 i.cr.index,u64 i.cr.cn,.slice y.ea i.cr.entries.length y.ec,u64 i.cr.aB,.bool i.cr.bT,u64 i.cr.hint,.slice y.va i.cr.aJ.av.length y.vc,.slice y.la i.cr.aJ.aD.length y.lc,.slice y.da i.cr.data.length y.dc,.bool i.cr.done,
 .slice da i.data.length dc,i64 i.kZ,i64 i.k9,i64 i.to]
theorem ah3 (x y:Int):(if (if (1073741824:Int)>x then (1073741824:Int) else x)<y then (if (1073741824:Int)>x then (1073741824:Int) else x) else y)=min y (max x 1073741824):=by
 rw[Int.min_def,Int.max_def];split<;>split<;>split<;>omega
theorem KU (x:Int):(if (1:Int)>x then (1:Int) else x)=max x 1:=by
 rw[Int.max_def];split<;>split<;>omega
section
variable {w:World} {s A:aj} {os:List aj} {p:Nat} {h:Hd} {n:ai}
theorem ai.CZ {t:Int} (e:Int) (he:e=min (jT n.s.bi) (max n.s.bi 1073741824)) (hr:n.s.aO≠4) (hc:¬ (max t 1≤e∧n.jz=true)):n.tick t=n.dN e:=by
 subst he;unfold ai.tick;simp only[if_pos hr];exact if_neg hc
theorem ai.CY {t:Int} (e:Int) (he:e=min (jT n.s.bi) (max n.s.bi 1073741824)) (hr:n.s.aO≠4) (hc:max t 1≤e∧n.jz=true):n.tick t=(n.dN e).eD:=by
 subst he;unfold ai.tick;simp only[if_pos hr];exact if_pos hc
theorem ai.yA {t:Int} (e:Int) (he:e=min (jT n.s.bi) (max n.s.bi 1073741824)) (hr:¬ n.s.aO≠4) (b:ai) (hb:b=if max t 1≤e then ((n.dN e).dN 0).mC 0 else n.dN e) :
  n.tick t=if 2≤(jT b.s.fQ) then ((b.kD (jT b.s.fQ)).kD 0).gD else b.kD (jT b.s.fQ):=by
 subst he hb;unfold ai.tick;simp only[if_neg hr];rfl
theorem ako {i:ez} {y:cG} {da:Option Addr} {dc:Nat} (hg:ak w s (A::os)) (nd:Nd s A p h n) (hR:cJ n) (hr:n.mX) :
  Calls Tryz.prog 35 #[ptr p,.agg (sw i y da dc).toArray] w (iw w s os p (i64 0) (n.tick i.sS)):=by
 obtain⟨hS,h1,h2,h3,h4⟩:=hr
 obtain⟨e,he⟩:∃ e,e=min (jT n.s.bi) (max n.s.bi 1073741824):=⟨_,rfl⟩
 have lC:cJ (n.dN e):=hR
 refine enter (l:=[ptr p,.agg (sw i y da dc).toArray]) Tryz.func35 rfl Tryz.ntmps35 rfl ?_
 refine go 3 ?_
 rintro b1 w1 Q1 aH aN cz
 refine go 4 ?_
 have aS:=aH.drew
 refine CW.dx [1,3,5,7,9,11,13,15,17,19,21,23,25,27,29,31,33] [34] 17 1 (fun w=>ay p _ w∧True) ?_
 refine go 6 ?_
 refine RL.nH rfl rfl rfl rfl (i64 (jT n.s.bi)) (rfl) ?_
 refine go 5 ?_
 refine RL.max rfl rfl rfl rfl rfl rfl ?_
 refine RL.min rfl rfl rfl rfl rfl rfl ?_
 rw[ah3,← he]
 refine go 5 ?_
 refine RL.sI (p:=p) (i:=1) (j:=14) aS (nd.cells) (bb.dN nd.au) ?_
 rintro w3 A3 aP bw px
 refine go 3 ?_
 have bp:=aP.drew
 refine CW.dw [1,3,5,7,9,11,13,15,17,18] (fun w=>ay p _ w∧ay b1 _ w∧True) ?_
 refine go 7 ?_
 refine RL.max rfl rfl rfl rfl rfl rfl ?_
 rw[KU]
 refine go 24 ?_
 refine RL.part 39 rfl (fun nM=>?_) (fun nM=>?_)
 refine go 3 ?_
 refine RL.part 42 rfl (fun j0=>?_) (fun j0=>?_)
 refine go 2 ?_
 refine zc (Zw (bp.ae 1 rfl) px lC hS) ?_
 rintro v5 s5 B5 w5 dz bh bQ rfl
 have bh:=bh.drop
 have oG:=px.up dz
 refine go 4 ?_
 refine CW.cond rfl (fun lT=>?_) (fun lT=>?_)
 refine go 6 ?_
 refine zc (abe bh oG lC ⟨hS,h1,h2,h3,h4⟩) ?_
 rintro v7 s7 A7 w7 jK bO cj ⟨rfl,h7,l7⟩
 refine go 6 ?_
 refine CW.ret (bP ?_)
 exact aw.mq (bO.aE) ⟨rfl,_,l7.to (ai.CY e he (by simpa [ai.dN] using nM) ⟨bU j0,lT⟩).symm⟩
 refine go 12 ?_
 refine CW.cond rfl (fun mh=>?_) (fun mh=>?_)
 refine go 6 ?_
 refine CW.ret (bP ?_)
 exact aw.mq (bh.aE) ⟨rfl,_,oG.to (ai.CZ e he (by simpa [ai.dN] using nM) (fun z=>by have:=z.2;rw[show n.jz=false from lT] at this;cases this)).symm⟩
 exact absurd mh (by rw[nM];decide)
 refine go 18 ?_
 refine CW.cond rfl (fun mh=>?_) (fun mh=>?_)
 refine go 6 ?_
 refine CW.ret (bP ?_)
 exact aw.mq ((bp.ae 1 rfl).aE) ⟨rfl,_,px.to (ai.CZ e he (by simpa [ai.dN] using nM) (fun z=>ct j0 z.1)).symm⟩
 exact absurd mh (by rw[nM];decide)
 refine go 21 ?_
 refine CW.cond rfl (fun mh=>?_) (fun mh=>?_)
 exact absurd mh (by rw[nM];decide)
 have jN:¬ n.s.aO≠4:=by simpa [ai.dN] using nM
 refine go 6 ?_
 refine CW.cond rfl (fun tp=>?_) (fun tp=>?_)
 have hb:((n.dN e).dN 0).mC 0=if max i.sS 1≤e then ((n.dN e).dN 0).mC 0 else n.dN e:=(if_pos (bU tp)).symm
 refine go 7 ?_
 refine RL.sI (p:=p) (i:=1) (j:=14) bp (px.cells) (bb.dN px.au) ?_
 rintro w8 A8 bD cM vC
 refine go 4 ?_
 refine RL.sI (p:=p) (i:=1) (j:=16) bD (vC.cells) (bb.mC vC.au) ?_
 rintro w9 A9 bA cu oH
 refine go 9 ?_
 refine RL.nH rfl rfl rfl rfl (i64 (jT n.s.fQ)) (rfl) ?_
 refine go 3 ?_
 refine RL.sI (p:=p) (i:=1) (j:=15) bA (oH.cells) (bb.kD oH.au) ?_
 rintro eX ob bj cm lZ
 refine go 13 ?_
 refine CW.cond rfl (fun qp=>?_) (fun qp=>?_)
 refine go 6 ?_
 refine RL.sI (p:=p) (i:=1) (j:=15) bj (lZ.cells) (bb.kD lZ.au) ?_
 rintro iS Am cy dH yr
 refine go 5 ?_
 refine zc (Il (cy.ae 1 rfl) yr (hR.of rfl hR.2.1 hR.2.2.1 hR.2.2.2.1 rfl) hS (by show n.o.aG.length+n.s.aK.length≤_;omega)) ?_
 rintro ui t_ An jA nh cw dK ⟨rfl,ma12,mc12,pw⟩
 refine go 6 ?_
 refine CW.ret (bP ?_)
 exact aw.mq (cw.aE) ⟨rfl,_,pw.to ((ai.yA e he jN _ hb).trans (if_pos (bU qp))).symm⟩
 refine go 5 ?_
 refine CW.ret (bP ?_)
 exact aw.mq ((bj.ae 1 rfl).aE) ⟨rfl,_,lZ.to ((ai.yA e he jN _ hb).trans (if_neg (ct qp))).symm⟩
 have hb:n.dN e=if max i.sS 1≤e then ((n.dN e).dN 0).mC 0 else n.dN e:=(if_neg (ct tp)).symm
 refine go 9 ?_
 refine RL.nH rfl rfl rfl rfl (i64 (jT n.s.fQ)) (rfl) ?_
 refine go 3 ?_
 refine RL.sI (p:=p) (i:=1) (j:=15) bp (px.cells) (bb.kD px.au) ?_
 rintro ji vK dd eh lF
 refine go 13 ?_
 refine CW.cond rfl (fun qp=>?_) (fun qp=>?_)
 refine go 6 ?_
 refine RL.sI (p:=p) (i:=1) (j:=15) dd (lF.cells) (bb.kD lF.au) ?_
 rintro nw yL ck g_ tS
 refine go 5 ?_
 refine zc (Il (ck.ae 1 rfl) tS (hR.of rfl hR.2.1 hR.2.2.1 hR.2.2.2.1 rfl) hS (by show n.o.aG.length+n.s.aK.length≤_;omega)) ?_
 rintro yD CT R0 n_ gn dt iW ⟨rfl,ma15,mc15,EY⟩
 refine go 6 ?_
 refine CW.ret (bP ?_)
 exact aw.mq (dt.aE) ⟨rfl,_,EY.to ((ai.yA e he jN _ hb).trans (if_pos (bU qp))).symm⟩
 refine go 5 ?_
 refine CW.ret (bP ?_)
 exact aw.mq ((dd.ae 1 rfl).aE) ⟨rfl,_,lF.to ((ai.yA e he jN _ hb).trans (if_neg (ct qp))).symm⟩
def FD (h:Hd) (n:ai) (eV:Int) (a:Option Addr):Prop :=
 (a=none∧n.gu eV=none) ∨
 ∃ g k,∃ hk:k<n.s.aK.length,a=some ((⟨g,0,none⟩:Addr).add (k*3))∧h.pa=some ⟨g,0,none⟩∧n.gu eV=some n.s.aK[k]∧n.s.aK.findIdx? (fun p=>decide (p.node=eV))=some k
theorem aiV {l:List cK} {eV:Int} {k:Nat} (hk:k<l.length) (hp:l[k].node=eV) (hn:∀ x∈l.take k,decide (x.node=eV)=false):l.find? (fun p=>decide (p.node=eV))=some l[k]∧l.findIdx? (fun p=>decide (p.node=eV))=some k:=by
 have hj:∀ j (hj:j<k),decide ((l[j]'(by omega)).node=eV)=false:=fun j hj=>hn _ (by rw[List.mem_take_iff_getElem];exact⟨j,by omega,rfl⟩)
 constructor
 rw[List.find?_eq_some_iff_getElem]
 exact⟨by simpa using hp,k,hk,rfl,fun j zE=>by simpa using hj j zE⟩
 rw[List.findIdx?_eq_some_iff_getElem]
 exact⟨hk,by simpa using hp,fun j zE=>by simpa using hj j zE⟩
theorem KZ {eV:Int} (hg:ak w s (A::os)) (nd:Nd s A p h n) :
  Calls Tryz.prog 114 #[ptr p,i64 eV] w (aQ w s (A::os) fun q=>∃ a,q = .pointer a∧FD h n eV a):=by
 have bV:=nd.aK.gL
 simp only[maxLen] at bV
 refine enter (l:=[ptr p,i64 eV]) Tryz.func114 rfl Tryz.ntmps114 rfl ?_
 refine go 16 ?_
 refine CW.loop (σ:=Nat) (fun j E w'=>ak w' s (A::os)∧ar w w'∧∃ k:Nat,E=[(0,ptr p),(1,i64 eV),(11,i64 n.s.aK.length),(12,i64 k)]∧k+j=n.s.aK.length∧∀ x∈n.s.aK.take k,decide (x.node=eV)=false) (fun j=>j) n.s.aK.length [(0,ptr p),(1,i64 eV),(11,i64 n.s.aK.length),(12,i64 0)] ⟨rfl,rfl,rfl,rfl,trivial⟩ ⟨hg,(ar.refl _),0,rfl,by omega,by simp⟩ ?_
 rintro j E wL ⟨cd,cQ,k,rfl,hk,bW⟩
 refine go 5 ?_
 refine CW.cond rfl (fun gJ=>?_) (fun gJ=>?_)
 refine go 16 ?_
 have be:k<n.s.aK.length:=by have:=bU gJ;omega
 refine RL.dX rfl rfl rfl rfl qf.out rfl rfl nd.aK.eU (by omega) (by omega) ?_
 rintro q vs eH hH ⟨rfl,er1⟩
 refine go 1 ?_
 refine RL.load (j:=0) rfl rfl rfl rfl ey.out rfl (hH) (cd.mem (by simp)) rfl ?_
 refine go 3 ?_
 refine CW.cond rfl (fun pM=>?_) (fun pM=>?_)
 refine go 8 ?_
 refine RL.Cy rfl rfl rfl rfl qf.out rfl rfl nd.aK (by omega) (by omega) ?_
 rintro g cs vs hb hA dr oE wi mi
 refine go 2 ?_
 refine CW.ret (bP ?_)
 have rp:n.s.aK[k].node=eV:=by simpa using pM
 obtain⟨lV,BE⟩:=aiV be rp bW
 exact aQ.mq cd ⟨_,rfl,.inr ⟨g,k,be,rfl,hb,lV,BE⟩⟩
 refine go 5 ?_
 have rp:decide (n.s.aK[k].node=eV)=false:=by simpa using pM
 have Cf:=takes be bW rp
 cases j with
 | zero=>omega
 | succ j=>exact fun ac ha=>⟨j,[(0,ptr p),(1,i64 eV),(11,i64 n.s.aK.length),(12,i64 ((k:Int)+1))],ha.sub ⟨rfl,rfl,rfl,rfl,trivial⟩,⟨cd,cQ,k+1,rfl,by omega,Cf⟩,Nat.lt_succ_self j⟩
 refine go 5 ?_
 refine CW.ret (bP ?_)
 have qz:k=n.s.aK.length:=by have:=ct gJ;omega
 rw[qz,List.take_length] at bW
 exact aQ.mq cd ⟨none,rfl,.inl ⟨rfl,List.find?_eq_none.2 fun x hx=>by simpa using bW x hx⟩⟩
theorem akz {a:Value} (hg:ak w s (A::os)) (nd:Nd s A p h n) :
  Calls Tryz.prog 34 #[ptr p,a] w (iw w s os p (i64 1) n):=by
 refine enter (l:=[ptr p,a]) Tryz.func34 rfl Tryz.ntmps34 rfl ?_
 refine go 3 ?_
 rintro xm md vT eC ie qt
 refine go 7 ?_
 refine CW.ret (bP ?_)
 exact aw.mq ((eC.ae 1 rfl).aE) ⟨rfl,_,nd⟩
end
end Go.Lw
namespace Go.Lw
open Go.Proofs
attribute [local irreducible] RL RA
section
variable {w:World} {s A:aj} {os:List aj} {p:Nat} {h:Hd} {n:ai}
theorem Im {m:az} {y:cG} {f:FuncId} {nB:ai→ai} (hg:ak w s (A::os)) (nd:Nd s A p h n) (hR:cJ n) (hr:n.mX) (io:n.s.cB.length≤68719476736) (hm:du s m y) (hc:km Tryz.prog f=true)
  (hw:∀ w' s' A' h',ak w' s' (A'::os)→Nd s' A' p h' (n.jm m.am (!m.bT))→Calls Tryz.prog f #[ptr p] w' (iw w' s' os p (.tuple #[]) (nB (n.jm m.am (!m.bT))))) :
  Calls Tryz.prog 105 #[ptr p,.agg (gZ m y).toArray,.func (.func f) #[ptr p] #[]] w (iw w s os p (.tuple #[]) (n.jS m nB)):=by
 obtain⟨hS,h1,h2,h3,h4⟩:=hr
 have dr:=vY hS
 refine enter (l:=[ptr p,.agg (gZ m y).toArray,.func (.func f) #[ptr p] #[]]) Tryz.func105 rfl Tryz.ntmps105 rfl ?_
 refine go 3 ?_
 rintro b1 w1 Q1 aH aN cz
 refine go 11 ?_
 refine zc (Tb (aH.ae 1 rfl) nd hR hS hm.am io dr.1) ?_
 rintro v2 s2 A2 w2 jb aS aR ⟨rfl,h2,tT⟩
 refine go 8 ?_
 refine CW.cond rfl (fun gJ=>?_) (fun gJ=>?_)
 refine go 2 ?_
 refine RL.ti rfl rfl rfl rfl rfl rfl hc (hw _ _ _ _ (aS.aE) tT) ?_
 rintro e3 w3 ⟨v3,s3,A3,rfl,cO,aP,bw,⟨rfl,h3,px⟩⟩
 refine⟨_,rfl,trivial,?_⟩
 refine go 1 ?_
 refine cP (vs:=[]) rfl ?_
 refine aw.mq aP ⟨rfl,_,px.to ?_⟩
 simp only[ai.jS,if_pos (show (n.jm m.am (!m.bT)).gM=1 by simpa using gJ)]
 refine go 5 ?_
 refine CW.cond rfl (fun mf=>?_) (fun mf=>?_)
 refine go 9 ?_
 refine zc (DI aS tT) ?_
 rintro v4 s4 A4 w4 fL bp bJ ⟨rfl,h4,vB⟩
 refine go 2 ?_
 refine cP (vs:=[]) rfl ?_
 refine aw.mq (bp.aE) ⟨rfl,_,vB.to ?_⟩
 simp only[ai.jS,if_neg (show ¬ (n.jm m.am (!m.bT)).gM=1 by simpa using gJ),if_pos (show (n.jm m.am (!m.bT)).gM = -1 by simpa using mf)]
 refine go 1 ?_
 refine cP (vs:=[]) rfl ?_
 refine aw.mq (aS.aE) ⟨rfl,_,tT.to ?_⟩
 simp only[ai.jS,if_neg (show ¬ (n.jm m.am (!m.bT)).gM=1 by simpa using gJ),if_neg (show ¬ (n.jm m.am (!m.bT)).gM = -1 by simpa using mf)]
theorem Zv {m:az} (h1:n.s.af.aT=0∨n.s.af.aT=m.am) (h2:n.s.aO=1) (h3:mz n.s.ah m.index m.cn=true):n.aT m=((n.vJ m.am).dN 0).post { az.zero with ao:=4,to:=m.am,bT:= !true }:=by
 have hy:(decide (n.s.af.aT=0∨n.s.af.aT=m.am) && decide (n.s.aO=1) && mz n.s.ah m.index m.cn)=true:=by simp[h1,h2,h3]
 simp only[ai.aT,hy,if_true];rfl
theorem IE {m:az} (h0:¬ (n.s.af.aT=0∨n.s.af.aT=m.am)∨n.s.aO≠1∨mz n.s.ah m.index m.cn=false):n.aT m=n.post { az.zero with ao:=4,to:=m.am,bT:= !false }:=by
 have hy:(decide (n.s.af.aT=0∨n.s.af.aT=m.am) && decide (n.s.aO=1) && mz n.s.ah m.index m.cn)=false:=by
  rcases h0 with h | h | h<;>simp[h]
 simp only[ai.aT,hy,Bool.false_eq_true,if_false]
theorem akF {m:az} {y:cG} (hg:ak w s (A::os)) (nd:Nd s A p h n) (hR:cJ n) (hr:n.mX) (hm:du s m y) :
  Calls Tryz.prog 106 #[ptr p,.agg (gZ m y).toArray] w (iw w s os p (.tuple #[]) (n.aT m)):=by
 obtain⟨hS,h1,h2,h3,h4⟩:=hr
 refine enter (l:=[ptr p,.agg (gZ m y).toArray]) Tryz.func106 rfl Tryz.ntmps106 rfl ?_
 refine go 3 ?_
 rintro b5 w5 Q5 bh bQ mm
 refine go 3 ?_
 have bx:=bh.drew
 refine CW.dw [1,3,5,7,9,11,13,15,17,19,21,23,25,27,29,31,33,35,36] (fun w=>ay p _ w∧ay b5 _ w∧True) ?_
 refine go 8 ?_
 refine RL.part 13 rfl (fun gJ=>?_) (fun gJ=>?_)
 refine go 13 ?_
 have bO:=bx.drew
 refine CW.dw [1,3,5,7,9,11,13,15,17,19,21,23,25,27,29,31,33,35,37,38,41,42] (fun w=>ay p _ w∧ay b5 _ w∧True) ?_
 refine go 10 ?_
 refine RL.part 33 rfl (fun iV=>?_) (fun iV=>?_)
 refine go 10 ?_
 refine zw (IY bO (.inr (by simp)) (nd.lO hR)) ?_
 rintro v8 w8 bD cM rfl
 refine go 9 ?_
 refine CW.cond rfl (fun ol=>?_) (fun ol=>?_)
 have rU:cJ ((n.vJ m.am).dN 0):=hR.of rfl hR.2.1 hm.am hR.2.2.2.1 rfl
 refine go 9 ?_
 refine RL.sI (p:=p) (i:=1) (j:=2) bD (nd.cells) (bb.vJ nd.au) ?_
 rintro w9 A9 bA cu oH
 refine go 4 ?_
 refine RL.sI (p:=p) (i:=1) (j:=14) bA (oH.cells) (bb.dN oH.au) ?_
 rintro eX ob bj cm lZ
 refine go 10 ?_
 refine zc (kV (m:={ az.zero with ao:=4,to:=m.am,bT:=_ }) (y:=cG.none) (bj.ae 1 rfl) lZ rU { du.zero _ with ao:=by simp[aq],to:=hm.am } (by show n.o.aG.length≤_;omega)) ?_
 rintro uh mA Am iS dy cy dH ⟨rfl,ma11,mc11,yr⟩
 refine go 2 ?_
 refine cP (vs:=[]) rfl ?_
 exact aw.mq (cy.aE) ⟨rfl,_,yr.to (by simp only[ol];exact (Zv (.inl (by simpa using gJ)) (by simpa using iV) ol).symm)⟩
 have rU:=hR
 refine go 9 ?_
 refine zc (kV (m:={ az.zero with ao:=4,to:=m.am,bT:=_ }) (y:=cG.none) (bD.ae 1 rfl) nd rU { du.zero _ with ao:=by simp[aq],to:=hm.am } (by show n.o.aG.length≤_;omega)) ?_
 rintro ui t_ An jA nh cw dK ⟨rfl,ma12,mc12,pw⟩
 refine go 2 ?_
 refine cP (vs:=[]) rfl ?_
 exact aw.mq (cw.aE) ⟨rfl,_,pw.to (by simp only[ol];exact (IE (.inr (.inr ol))).symm)⟩
 have rU:=hR
 refine go 28 ?_
 refine zc (kV (m:={ az.zero with ao:=4,to:=m.am,bT:=_ }) (y:=cG.none) (bO.ae 1 rfl) nd rU { du.zero _ with ao:=by simp[aq],to:=hm.am } (by show n.o.aG.length≤_;omega)) ?_
 rintro yC Fc vK ji nR dd eh ⟨rfl,ma13,mc13,lF⟩
 refine go 2 ?_
 refine cP (vs:=[]) rfl ?_
 exact aw.mq (dd.aE) ⟨rfl,_,lF.to (IE (.inr (.inl (by simpa using iV)))).symm⟩
 refine go 13 ?_
 have ck:=bx.drew
 refine CW.dw [1,3,5,7,9,11,13,15,17,19,21,23,25,27,29,31,33,35,37,38,41,42] (fun w=>ay p _ w∧ay b5 _ w∧True) ?_
 refine go 2 ?_
 refine RL.part 25 rfl (fun pM=>?_) (fun pM=>?_)
 refine go 8 ?_
 refine RL.part 33 rfl (fun iV=>?_) (fun iV=>?_)
 refine go 10 ?_
 refine zw (IY ck (.inr (by simp)) (nd.lO hR)) ?_
 rintro yD n_ dt iW rfl
 refine go 9 ?_
 refine CW.cond rfl (fun ol=>?_) (fun ol=>?_)
 have rU:cJ ((n.vJ m.am).dN 0):=hR.of rfl hR.2.1 hm.am hR.2.2.2.1 rfl
 refine go 9 ?_
 refine RL.sI (p:=p) (i:=1) (j:=2) dt (nd.cells) (bb.vJ nd.au) ?_
 rintro md LS eC ie nY
 refine go 4 ?_
 refine RL.sI (p:=p) (i:=1) (j:=14) eC (nY.cells) (bb.dN nY.au) ?_
 rintro ny Fy eZ hY wJ
 refine go 10 ?_
 refine zc (kV (m:={ az.zero with ao:=4,to:=m.am,bT:=_ }) (y:=cG.none) (eZ.ae 1 rfl) wJ rU { du.zero _ with ao:=by simp[aq],to:=hm.am } (by show n.o.aG.length≤_;omega)) ?_
 rintro Fr Lc R1 oM u0 fd iC ⟨rfl,ma18,mc18,ah8⟩
 refine go 2 ?_
 refine cP (vs:=[]) rfl ?_
 exact aw.mq (fd.aE) ⟨rfl,_,ah8.to (by simp only[ol];exact (Zv (.inr (by simpa using pM)) (by simpa using iV) ol).symm)⟩
 have rU:=hR
 refine go 9 ?_
 refine zc (kV (m:={ az.zero with ao:=4,to:=m.am,bT:=_ }) (y:=cG.none) (dt.ae 1 rfl) nd rU { du.zero _ with ao:=by simp[aq],to:=hm.am } (by show n.o.aG.length≤_;omega)) ?_
 rintro Ix Rn Z0 pF u9 fU jr ⟨rfl,ma19,mc19,H0⟩
 refine go 2 ?_
 refine cP (vs:=[]) rfl ?_
 exact aw.mq (fU.aE) ⟨rfl,_,H0.to (by simp only[ol];exact (IE (.inr (.inr ol))).symm)⟩
 have rU:=hR
 refine go 28 ?_
 refine zc (kV (m:={ az.zero with ao:=4,to:=m.am,bT:=_ }) (y:=cG.none) (ck.ae 1 rfl) nd rU { du.zero _ with ao:=by simp[aq],to:=hm.am } (by show n.o.aG.length≤_;omega)) ?_
 rintro Iy Ii R2 qh tB e_ jE ⟨rfl,ma20,mc20,KL⟩
 refine go 2 ?_
 refine cP (vs:=[]) rfl ?_
 exact aw.mq (e_.aE) ⟨rfl,_,KL.to (IE (.inr (.inl (by simpa using iV)))).symm⟩
 have rU:=hR
 refine go 36 ?_
 refine zc (kV (m:={ az.zero with ao:=4,to:=m.am,bT:=_ }) (y:=cG.none) (ck.ae 1 rfl) nd rU { du.zero _ with ao:=by simp[aq],to:=hm.am } (by show n.o.aG.length≤_;omega)) ?_
 rintro Fs Ro IJ oN G1 fv iX ⟨rfl,ma21,mc21,z8⟩
 refine go 2 ?_
 refine cP (vs:=[]) rfl ?_
 exact aw.mq (fv.aE) ⟨rfl,_,z8.to (IE (.inl (fun z=>z.elim (fun z=>by simp[z] at gJ) (fun z=>by simp[z] at pM)))).symm⟩
theorem akG {m:az} {y:cG} (hg:ak w s (A::os)) (nd:Nd s A p h n) (hR:cJ n) (hr:n.mX) (io:n.s.cB.length≤68719476736) (hm:du s m y) :
  Calls Tryz.prog 107 #[ptr p,.agg (gZ m y).toArray] w (iw w s os p (.tuple #[]) (n.lK m)):=by
 refine enter (l:=[ptr p,.agg (gZ m y).toArray]) Tryz.func107 rfl Tryz.ntmps107 rfl ?_
 refine go 3 ?_
 rintro S6 qN vW iL lh rZ
 refine go 11 ?_
 refine CW.cond rfl (fun h9=>?_) (fun h9=>?_)
 refine go 4 ?_
 refine RL.my rfl rfl rfl rfl rfl rfl ?_
 refine go 1 ?_
 refine zc (Im (nB:=ai.cI) (iL.ae 1 rfl) nd hR hr io hm rfl (fun w' s' A' h' fh nd'=>Xe fh nd' (hR.of rfl hR.2.1 hR.2.2.1 hR.2.2.2.1 rfl) hr)) ?_
 rintro v23 s23 A23 xe Em iM pR ⟨rfl,nL,ah9⟩
 refine go 2 ?_
 refine cP (vs:=[]) rfl ?_
 exact aw.mq (iM.aE) ⟨rfl,_,ah9.to (by simp only[ai.lK,if_pos (show n.s.aO=3 by simpa using h9)])⟩
 refine go 1 ?_
 refine cP (vs:=[]) rfl ?_
 exact aw.mq ((iL.ae 1 rfl).aE) ⟨rfl,_,nd.to (by simp only[ai.lK,if_neg (show ¬ n.s.aO=3 by simpa using h9)])⟩
theorem aiA (h1:n.s.aO=1) (h2:n.jz=true):n.qb=n.fp:=by unfold ai.qb;rw[if_pos ⟨h1,h2⟩]
theorem XS (h1:n.s.aO≠1∨n.jz=false):n.qb=n:=by
 unfold ai.qb;rw[if_neg (fun z=>h1.elim (fun k=>k z.1) (fun k=>by rw[k] at z;cases z.2))]
theorem aiz {m:az} {y:cG} (hg:ak w s (A::os)) (nd:Nd s A p h n) (hR:cJ n) (hr:n.mX) :
  Calls Tryz.prog 112 #[ptr p,.agg (gZ m y).toArray] w (iw w s os p (.tuple #[]) n.qb):=by
 refine enter (l:=[ptr p,.agg (gZ m y).toArray]) Tryz.func112 rfl Tryz.ntmps112 rfl ?_
 refine go 3 ?_
 rintro oQ uk As gB nP xG
 refine go 11 ?_
 refine RL.part 10 rfl (fun uD=>?_) (fun uD=>?_)
 refine go 2 ?_
 refine zc (Zw (gB.ae 1 rfl) nd hR hr.1) ?_
 rintro v25 Rp B25 ul wr js ou rfl
 have js:=js.drop
 have vz:=nd.up wr
 refine go 3 ?_
 refine CW.cond rfl (fun gJ=>?_) (fun gJ=>?_)
 refine go 3 ?_
 refine zc (RB js vz hR hr) ?_
 rintro IC Ij yM rH se iN mj ⟨rfl,y_,yu⟩
 refine go 2 ?_
 refine cP (vs:=[]) rfl ?_
 exact aw.mq (iN.aE) ⟨rfl,_,yu.to (aiA (by simpa using uD) gJ).symm⟩
 refine go 1 ?_
 refine cP (vs:=[]) rfl ?_
 exact aw.mq (js.aE) ⟨rfl,_,vz.to (XS (.inr gJ)).symm⟩
 refine go 6 ?_
 refine cP (vs:=[]) rfl ?_
 exact aw.mq ((gB.ae 1 rfl).aE) ⟨rfl,_,nd.to (XS (.inl (by simpa using uD))).symm⟩
theorem W8 {m:az} {y:cG} (hg:ak w s (A::os)) (nd:Nd s A p h n) (hR:cJ n) (hr:n.mX) (hm:du s m y) :
  Calls Tryz.prog 74 #[ptr p,.agg (gZ m y).toArray] w (iw w s os p (.tuple #[]) (n.j6 m)):=by
 obtain⟨hS,h1,h2,h3,h4⟩:=hr
 have hl:=(nd.lO hR).Cz.1
 refine enter (l:=[ptr p,.agg (gZ m y).toArray]) Tryz.func74 rfl Tryz.ntmps74 rfl ?_
 refine go 3 ?_
 rintro I9 vH Av jG oZ uT
 refine go 20 ?_
 refine CW.cond rfl (fun h6=>?_) (fun h6=>?_)
 refine go 8 ?_
 refine zc (kV (m:={ az.zero with ao:=4,to:=m.am,bT:=true }) (y:=cG.none) (jG.ae 1 rfl) nd hR { du.zero _ with ao:=by simp[aq],to:=hm.am } (by omega)) ?_
 rintro Zr s29 R3 vI G2 i_ pS ⟨rfl,ma29,mc29,ah_⟩
 refine go 3 ?_
 refine cP (vs:=[]) rfl ?_
 refine aw.mq (i_.aE) ⟨rfl,_,ah_.to ?_⟩
 simp only[ai.j6,if_pos (show m.ao=3 by simpa using h6)]
 refine go 7 ?_
 refine CW.cond rfl (fun h8=>?_) (fun h8=>?_)
 refine go 2 ?_
 have ja:=jG.drew
 refine CW.dw [1,3,5,7,9,11,12,15,16] (fun w=>ay I9 _ w∧True) ?_
 refine go 7 ?_
 refine zw (qI (ja.ae 1 rfl) nd hR) ?_
 rintro Zs Ah kQ uO rfl
 refine go 3 ?_
 refine zc (kV (m:={ az.zero with ao:=6,to:=m.am,bT:=true,index:=m.index,hint:=n.aZ }) (y:=cG.none) kQ nd hR { du.zero _ with ao:=by simp[aq],to:=hm.am,index:=hm.index,hint:=hl } (by omega)) ?_
 rintro v32 Rr LW sW tC iD ov ⟨rfl,ma32,mc32,z_⟩
 refine go 3 ?_
 refine cP (vs:=[]) rfl ?_
 refine aw.mq (iD.aE) ⟨rfl,_,z_.to ?_⟩
 simp only[ai.j6,if_neg (show ¬ m.ao=3 by simpa using h6),if_pos (show m.ao=5∨m.ao=7 from .inl (by simpa using h8))]
 refine go 6 ?_
 refine CW.cond rfl (fun uD=>?_) (fun uD=>?_)
 refine go 2 ?_
 have c_:=jG.drew
 refine CW.dw [1,3,5,7,9,11,12,15,16] (fun w=>ay I9 _ w∧True) ?_
 refine go 7 ?_
 refine zw (qI (c_.ae 1 rfl) nd hR) ?_
 rintro RQ yH jt rW rfl
 refine go 3 ?_
 refine zc (kV (m:={ az.zero with ao:=6,to:=m.am,bT:=true,index:=m.index,hint:=n.aZ }) (y:=cG.none) jt nd hR { du.zero _ with ao:=by simp[aq],to:=hm.am,index:=hm.index,hint:=hl } (by omega)) ?_
 rintro v35 Lg IO uo zH jH ow ⟨rfl,ma35,mc35,nZ⟩
 refine go 3 ?_
 refine cP (vs:=[]) rfl ?_
 refine aw.mq (jH.aE) ⟨rfl,_,nZ.to ?_⟩
 simp only[ai.j6,if_neg (show ¬ m.ao=3 by simpa using h6),if_pos (show m.ao=5∨m.ao=7 from .inr (by simpa using uD))]
 refine go 2 ?_
 refine cP (vs:=[]) rfl ?_
 refine aw.mq ((jG.ae 1 rfl).aE) ⟨rfl,_,nd.to ?_⟩
 simp only[ai.j6,if_neg (show ¬ m.ao=3 by simpa using h6),if_neg (show ¬ (m.ao=5∨m.ao=7) from fun z=>z.elim (fun z=>by simp[z] at h8) (fun z=>by simp[z] at uD))]
theorem X6 {m:az} (h1:n.s.aO≠4) (h2:n.s.gq=0∨4≤n.s.bi) (h3:n.s.af.ab<m.ab) (h4:mz n.s.ah m.index m.cn=true):n.oK m=n.send { az.zero with ao:=2,am:=n.s.id,to:=m.am,ab:=m.ab,bT:= !true }:=by
 have hy:(decide (n.s.aO≠4∧(n.s.gq=0∨4≤n.s.bi)) && decide (n.s.af.ab<m.ab) && mz n.s.ah m.index m.cn)=true:=by simp[h1,h2,h3,h4]
 simp only[ai.oK,hy,if_true]
theorem E_ {m:az} (h0:¬ (n.s.aO≠4)∨¬ (n.s.gq=0∨4≤n.s.bi)∨¬ n.s.af.ab<m.ab∨mz n.s.ah m.index m.cn=false):n.oK m=n.send { az.zero with ao:=2,am:=n.s.id,to:=m.am,ab:=n.s.af.ab,bT:= !false }:=by
 have hy:(decide (n.s.aO≠4∧(n.s.gq=0∨4≤n.s.bi)) && decide (n.s.af.ab<m.ab) && mz n.s.ah m.index m.cn)=false:=by
  rcases h0 with h | h | h | h
  simp at h;simp[h]
  have:¬ (n.s.aO≠4∧(n.s.gq=0∨4≤n.s.bi)):=fun z=>h z.2
  rw[decide_eq_false this];rfl
  rw[decide_eq_false h];simp
  rw[h];simp
 simp only[ai.oK,hy,Bool.false_eq_true,if_false]
theorem ai3 {m:az} {y:cG} (hg:ak w s (A::os)) (nd:Nd s A p h n) (hR:cJ n) (hr:n.mX) (hm:du s m y) :
  Calls Tryz.prog 70 #[ptr p,.agg (gZ m y).toArray] w (iw w s os p (.tuple #[]) (n.oK m)):=by
 obtain⟨hS,h1,h2,h3,h4⟩:=hr
 have nk:∀ b,du s { az.zero with ao:=2,am:=n.s.id,to:=m.am,ab:=m.ab,bT:=b } cG.none:=fun b=>{ du.zero _ with ao:=by simp[aq],am:=hR.1,to:=hm.am,ab:=hm.ab }
 have Er:∀ b,du s { az.zero with ao:=2,am:=n.s.id,to:=m.am,ab:=n.s.af.ab,bT:=b } cG.none:=fun b=>{ du.zero _ with ao:=by simp[aq],am:=hR.1,to:=hm.am,ab:=hR.2.1 }
 refine enter (l:=[ptr p,.agg (gZ m y).toArray]) Tryz.func70 rfl Tryz.ntmps70 rfl ?_
 refine go 3 ?_
 rintro xn nz I2 cS gS D3
 refine go 11 ?_
 refine RL.part 13 rfl (fun gJ=>?_) (fun gJ=>?_)
 refine go 7 ?_
 refine RL.part 20 rfl (fun Ba=>?_) (fun Ba=>?_)
 refine go 11 ?_
 have dh:=cS.drew
 refine CW.dw [1,3,5,7,9,11,13,15,17,19,21,23,25,27,29,31,33,35,37,39,41,43,44,47,48] (fun w=>ay xn _ w∧ay p _ w∧True) ?_
 refine go 13 ?_
 refine RL.part 41 rfl (fun gi=>?_) (fun gi=>?_)
 refine go 10 ?_
 refine zw (IY dh (.inr (by simp)) (nd.lO hR)) ?_
 rintro Ft Ai mM uP rfl
 refine go 5 ?_
 have nf:=mM.drew
 refine CW.dw [1,3,5,7,9,11,13,15,17,19,21,23,25,27,29,31,32,34] (fun w=>ay p _ w∧ay xn _ w∧True) ?_
 refine go 17 ?_
 rintro S_ nA Ma en gT JO
 refine go 2 ?_
 rintro IF Sv tx DY Vc
 refine go 7 ?_
 refine CW.cond rfl (fun nN=>?_) (fun nN=>?_)
 have jL:=nk
 refine go 5 ?_
 rintro LC Q42 wk Gr adS
 refine go 2 ?_
 have wl:=wk.drew
 refine CW.dx [1,3,5,7,9,11,13,14,16,19,21,23] [24] 12 1 (fun w=>ay p _ w∧ay S_ _ w∧True) ?_
 refine go 8 ?_
 rintro b44 LH Sw wn D0 JP
 refine go 1 ?_
 refine RL.gQ (i:=3) (ys:=[_]) rfl rfl rfl rfl kB.out ur.out rfl iH.one rfl rfl wn rfl nd.aG (pz kB.out rfl JP (wn.mem (by simp))) (cF.jy rfl ⟨cG.none,rfl,jL _⟩) ((by simp only[List.length_singleton];omega)) (by omega) ?_
 rintro a45 c45 Fz LI uW af8 Gs afg ap0
 obtain⟨agp,agI⟩:=nd.uB af8 afg
 refine go 6 ?_
 refine RL.sN (p:=p) (i:=3) (j:=24) uW (agp) (agI) ?_
 rintro LJ IP zu Gt sH
 refine go 2 ?_
 refine cP (vs:=[]) rfl ?_
 exact aw.mq ((((zu.ae 3 rfl).aE).aE).aE) ⟨rfl,_,sH.to (by simp only[nN];exact (X6 (by simpa using gJ) (.inl (by simpa using Ba)) (bU gi) nN).symm)⟩
 have jL:=Er
 refine go 1 ?_
 have GK:=tx.drew
 refine CW.dx [1,3,5,7,9,11,13,14,16,19,21,23] [24] 12 1 (fun w=>ay p _ w∧ay S_ _ w∧True) ?_
 refine go 8 ?_
 rintro b48 Zx Q48 BG N0 Oa
 refine go 1 ?_
 refine RL.gQ (i:=3) (ys:=[_]) rfl rfl rfl rfl kB.out ur.out rfl iH.one rfl rfl BG rfl nd.aG (pz kB.out rfl Oa (BG.mem (by simp))) (cF.jy rfl ⟨cG.none,rfl,jL _⟩) ((by simp only[List.length_singleton];omega)) (by omega) ?_
 rintro a49 c49 R7 RU BH af9 JM afh ap1
 obtain⟨agq,agJ⟩:=nd.uB af9 afh
 refine go 6 ?_
 refine RL.sN (p:=p) (i:=3) (j:=24) BH (agq) (agJ) ?_
 rintro RV IQ zx Gu wP
 refine go 2 ?_
 refine cP (vs:=[]) rfl ?_
 exact aw.mq ((((zx.ae 3 rfl).aE).aE).aE) ⟨rfl,_,wP.to (by simp only[nN];exact (E_ (.inr (.inr (.inr nN)))).symm)⟩
 have jL:=Er
 refine go 14 ?_
 have GL:=dh.drew
 refine CW.dw [1,3,5,7,9,11,13,15,17,19,21,23,25,27,29,31,32,34] (fun w=>ay p _ w∧ay xn _ w∧True) ?_
 refine go 17 ?_
 rintro b52 w52 Q52 OJ adI aoW
 refine go 2 ?_
 rintro w53 Q53 OK adJ aoX
 refine go 9 ?_
 have OL:=OK.drew
 refine CW.dx [1,3,5,7,9,11,13,14,16,19,21,23] [24] 12 1 (fun w=>ay p _ w∧ay b52 _ w∧True) ?_
 refine go 8 ?_
 rintro b55 Zy Q55 BI N1 Ob
 refine go 1 ?_
 refine RL.gQ (i:=3) (ys:=[_]) rfl rfl rfl rfl kB.out ur.out rfl iH.one rfl rfl BI rfl nd.aG (pz kB.out rfl Ob (BI.mem (by simp))) (cF.jy rfl ⟨cG.none,rfl,jL _⟩) ((by simp only[List.length_singleton];omega)) (by omega) ?_
 rintro a56 c56 Z8 w56 GM aga adK afj ap2
 obtain⟨agr,agL⟩:=nd.uB aga afj
 refine go 6 ?_
 refine RL.sN (p:=p) (i:=3) (j:=24) GM (agr) (agL) ?_
 rintro Zz R8 GN N2 CK
 refine go 2 ?_
 refine cP (vs:=[]) rfl ?_
 exact aw.mq ((((GN.ae 3 rfl).aE).aE).aE) ⟨rfl,_,CK.to ((E_ (.inr (.inr (.inl (ct gi))))).symm)⟩
 refine go 11 ?_
 have D9:=cS.drew
 refine CW.dw [1,3,5,7,9,11,13,15,17,19,21,23,25,27,29,31,33,35,37,39,41,43,44,47,48] (fun w=>ay xn _ w∧ay p _ w∧True) ?_
 refine go 2 ?_
 refine RL.part 30 rfl (fun v_=>?_) (fun v_=>?_)
 refine go 11 ?_
 refine RL.part 41 rfl (fun gi=>?_) (fun gi=>?_)
 refine go 10 ?_
 refine zw (IY D9 (.inr (by simp)) (nd.lO hR)) ?_
 rintro v59 w59 JY U5 rfl
 refine go 5 ?_
 have OM:=JY.drew
 refine CW.dw [1,3,5,7,9,11,13,15,17,19,21,23,25,27,29,31,32,34] (fun w=>ay p _ w∧ay xn _ w∧True) ?_
 refine go 17 ?_
 rintro Ta w61 Q61 ON N3 aoY
 refine go 2 ?_
 rintro w62 Q62 JZ U6 aoZ
 refine go 7 ?_
 refine CW.cond rfl (fun nN=>?_) (fun nN=>?_)
 have jL:=nk
 refine go 5 ?_
 rintro w63 Q63 aeG aow ao0
 refine go 2 ?_
 have apc:=aeG.drew
 refine CW.dx [1,3,5,7,9,11,13,14,16,19,21,23] [24] 12 1 (fun w=>ay p _ w∧ay Ta _ w∧True) ?_
 refine go 8 ?_
 rintro b65 w65 Q65 OO U7 Oc
 refine go 1 ?_
 refine RL.gQ (i:=3) (ys:=[_]) rfl rfl rfl rfl kB.out ur.out rfl iH.one rfl rfl OO rfl nd.aG (pz kB.out rfl Oc (OO.mem (by simp))) (cF.jy rfl ⟨cG.none,rfl,jL _⟩) ((by simp only[List.length_singleton];omega)) (by omega) ?_
 rintro a66 c66 A66 w66 OP agb U8 afl ap3
 obtain⟨ags,agM⟩:=nd.uB agb afl
 refine go 6 ?_
 refine RL.sN (p:=p) (i:=3) (j:=24) OP (ags) (agM) ?_
 rintro w67 A67 OQ aox aif
 refine go 2 ?_
 refine cP (vs:=[]) rfl ?_
 exact aw.mq ((((OQ.ae 3 rfl).aE).aE).aE) ⟨rfl,_,aif.to (by simp only[nN];exact (X6 (by simpa using gJ) (.inr (bU v_)) (bU gi) nN).symm)⟩
 have jL:=Er
 refine go 1 ?_
 have Vx:=JZ.drew
 refine CW.dx [1,3,5,7,9,11,13,14,16,19,21,23] [24] 12 1 (fun w=>ay p _ w∧ay Ta _ w∧True) ?_
 refine go 8 ?_
 rintro b69 w69 Q69 OR aoy adY
 refine go 1 ?_
 refine RL.gQ (i:=3) (ys:=[_]) rfl rfl rfl rfl kB.out ur.out rfl iH.one rfl rfl OR rfl nd.aG (pz kB.out rfl adY (OR.mem (by simp))) (cF.jy rfl ⟨cG.none,rfl,jL _⟩) ((by simp only[List.length_singleton];omega)) (by omega) ?_
 rintro SK Ti A70 w70 Vz agc U9 afm ap4
 obtain⟨agt,agN⟩:=nd.uB agc afm
 refine go 6 ?_
 refine RL.sN (p:=p) (i:=3) (j:=24) Vz (agt) (agN) ?_
 rintro w71 A71 OS U_ aig
 refine go 2 ?_
 refine cP (vs:=[]) rfl ?_
 exact aw.mq ((((OS.ae 3 rfl).aE).aE).aE) ⟨rfl,_,aig.to (by simp only[nN];exact (E_ (.inr (.inr (.inr nN)))).symm)⟩
 have jL:=Er
 refine go 14 ?_
 have apd:=D9.drew
 refine CW.dw [1,3,5,7,9,11,13,15,17,19,21,23,25,27,29,31,32,34] (fun w=>ay p _ w∧ay xn _ w∧True) ?_
 refine go 17 ?_
 rintro b73 w73 Q73 ape aoz ao1
 refine go 2 ?_
 rintro w74 Q74 aeH aoA ao2
 refine go 9 ?_
 have apf:=aeH.drew
 refine CW.dx [1,3,5,7,9,11,13,14,16,19,21,23] [24] 12 1 (fun w=>ay p _ w∧ay b73 _ w∧True) ?_
 refine go 8 ?_
 rintro b76 w76 Q76 VA aoB ad6
 refine go 1 ?_
 refine RL.gQ (i:=3) (ys:=[_]) rfl rfl rfl rfl kB.out ur.out rfl iH.one rfl rfl VA rfl nd.aG (pz kB.out rfl ad6 (VA.mem (by simp))) (cF.jy rfl ⟨cG.none,rfl,jL _⟩) ((by simp only[List.length_singleton];omega)) (by omega) ?_
 rintro SM Tj A77 w77 aeI agd aoC afn ap5
 obtain⟨agu,agO⟩:=nd.uB agd afn
 refine go 6 ?_
 refine RL.sN (p:=p) (i:=3) (j:=24) aeI (agu) (agO) ?_
 rintro w78 A78 aeJ aoD aih
 refine go 2 ?_
 refine cP (vs:=[]) rfl ?_
 exact aw.mq ((((aeJ.ae 3 rfl).aE).aE).aE) ⟨rfl,_,aih.to ((E_ (.inr (.inr (.inl (ct gi))))).symm)⟩
 have jL:=Er
 refine go 25 ?_
 have apg:=D9.drew
 refine CW.dw [1,3,5,7,9,11,13,15,17,19,21,23,25,27,29,31,32,34] (fun w=>ay p _ w∧ay xn _ w∧True) ?_
 refine go 17 ?_
 rintro b80 w80 Q80 aph aoE ao3
 refine go 2 ?_
 rintro w81 Q81 aeK aoF ao4
 refine go 9 ?_
 have api:=aeK.drew
 refine CW.dx [1,3,5,7,9,11,13,14,16,19,21,23] [24] 12 1 (fun w=>ay p _ w∧ay b80 _ w∧True) ?_
 refine go 8 ?_
 rintro b83 w83 Q83 VB aoG ad7
 refine go 1 ?_
 refine RL.gQ (i:=3) (ys:=[_]) rfl rfl rfl rfl kB.out ur.out rfl iH.one rfl rfl VB rfl nd.aG (pz kB.out rfl ad7 (VB.mem (by simp))) (cF.jy rfl ⟨cG.none,rfl,jL _⟩) ((by simp only[List.length_singleton];omega)) (by omega) ?_
 rintro a84 c84 A84 w84 aeL age aoH afo ap6
 obtain⟨agv,agP⟩:=nd.uB age afo
 refine go 6 ?_
 refine RL.sN (p:=p) (i:=3) (j:=24) aeL (agv) (agP) ?_
 rintro w85 A85 aeM aoI aii
 refine go 2 ?_
 refine cP (vs:=[]) rfl ?_
 exact aw.mq ((((aeM.ae 3 rfl).aE).aE).aE) ⟨rfl,_,aii.to ((E_ (.inr (.inl (fun z=>z.elim (fun z=>by simp[z] at Ba) (ct v_))))).symm)⟩
 have jL:=Er
 refine go 18 ?_
 have aeN:=cS.drew
 refine CW.dw [1,3,5,7,9,11,13,15,17,19,21,23,25,27,29,31,33,35,37,39,41,43,44,47,48] (fun w=>ay xn _ w∧ay p _ w∧True) ?_
 refine go 27 ?_
 have apj:=aeN.drew
 refine CW.dw [1,3,5,7,9,11,13,15,17,19,21,23,25,27,29,31,32,34] (fun w=>ay p _ w∧ay xn _ w∧True) ?_
 refine go 17 ?_
 rintro b88 w88 Q88 apk aoJ ao5
 refine go 2 ?_
 rintro w89 Q89 aeO aoK ao6
 refine go 9 ?_
 have apl:=aeO.drew
 refine CW.dx [1,3,5,7,9,11,13,14,16,19,21,23] [24] 12 1 (fun w=>ay p _ w∧ay b88 _ w∧True) ?_
 refine go 8 ?_
 rintro b91 w91 Q91 VC aoL ad8
 refine go 1 ?_
 refine RL.gQ (i:=3) (ys:=[_]) rfl rfl rfl rfl kB.out ur.out rfl iH.one rfl rfl VC rfl nd.aG (pz kB.out rfl ad8 (VC.mem (by simp))) (cF.jy rfl ⟨cG.none,rfl,jL _⟩) ((by simp only[List.length_singleton];omega)) (by omega) ?_
 rintro a92 c92 A92 w92 aeP agf aoM afp ap7
 obtain⟨agw,agQ⟩:=nd.uB agf afp
 refine go 6 ?_
 refine RL.sN (p:=p) (i:=3) (j:=24) aeP (agw) (agQ) ?_
 rintro w93 A93 aeQ aoN aij
 refine go 2 ?_
 refine cP (vs:=[]) rfl ?_
 exact aw.mq ((((aeQ.ae 3 rfl).aE).aE).aE) ⟨rfl,_,aij.to ((E_ (.inl (by simpa using gJ))).symm)⟩
theorem ai4 {m:az} (h1:m.bT=true) (h2:n.s.af.ab<m.ab):n.kW m=n.follow m.ab 0:=by unfold ai.kW;rw[if_pos ⟨h1,h2⟩]
theorem K1 {m:az} (h0:¬ (m.bT=true∧n.s.af.ab<m.ab)) (h1:n.s.aO=2) (h2:m.bT=true∨m.ab=bF n.s.af.ab):n.kW m=n.jS m ai.fp:=by
 unfold ai.kW;rw[if_neg h0,if_pos ⟨h1,h2⟩]
theorem K3 {m:az} (h0:¬ (m.bT=true∧n.s.af.ab<m.ab)) (h1:n.s.aO≠2∨¬ (m.bT=true∨m.ab=bF n.s.af.ab)):n.kW m=n:=by
 unfold ai.kW;rw[if_neg h0,if_neg (fun z=>h1.elim (fun k=>k z.1) (fun k=>k z.2))]
theorem ai5 {m:az} {y:cG} (hg:ak w s (A::os)) (nd:Nd s A p h n) (hR:cJ n) (hr:n.mX) (io:n.s.cB.length≤68719476736) (hm:du s m y) :
  Calls Tryz.prog 71 #[ptr p,.agg (gZ m y).toArray] w (iw w s os p (.tuple #[]) (n.kW m)):=by
 have cc:=fun w' s' A' h' (fh:ak w' s' (A'::os)) (nd':Nd s' A' p h' (n.jm m.am (!m.bT)))=>RB fh nd' (hR.of rfl hR.2.1 hR.2.2.1 hR.2.2.2.1 rfl) hr
 refine enter (l:=[ptr p,.agg (gZ m y).toArray]) Tryz.func71 rfl Tryz.ntmps71 rfl ?_
 refine go 3 ?_
 rintro Ms w94 Q94 aeR aoO ao7
 refine go 4 ?_
 have OT:=aeR.drew
 refine CW.dw [1,3,5,7,9,11,13,15,17,19,21,23,25,26] (fun w=>ay Ms _ w∧ay p _ w∧True) ?_
 refine go 3 ?_
 refine RL.part 7 rfl (fun h7=>?_) (fun h7=>?_)
 refine go 12 ?_
 refine CW.cond rfl (fun h4=>?_) (fun h4=>?_)
 refine go 5 ?_
 refine zc (DI (OT.ae 1 rfl) nd) ?_
 rintro v96 s96 A96 w96 apL aeS aoP ⟨rfl,h96,aik⟩
 refine go 2 ?_
 refine cP (vs:=[]) rfl ?_
 exact aw.mq (aeS.aE) ⟨rfl,_,aik.to (ai4 h7 (bU h4)).symm⟩
 refine go 1 ?_
 have J0:=OT.drew
 refine CW.dw [1,3,5,7,9,11,13,15,17,19,21,23,25,27,29,31,33,35,37,39,41,43,44] (fun w=>ay p _ w∧ay Ms _ w∧True) ?_
 refine go 7 ?_
 refine RL.part 29 rfl (fun iB=>?_) (fun iB=>?_)
 refine go 3 ?_
 refine RL.part 32 rfl (fun lT=>?_) (fun lT=>?_)
 refine go 19 ?_
 refine RL.my rfl rfl rfl rfl rfl rfl ?_
 refine go 1 ?_
 refine zc (Im (nB:=ai.fp) ((J0.ae 1 rfl).aE) nd hR hr io hm rfl cc) ?_
 rintro v98 s98 A98 w98 apM aeT aoQ ⟨rfl,Nq,ail⟩
 refine go 2 ?_
 refine cP (vs:=[]) rfl ?_
 exact aw.mq aeT ⟨rfl,_,ail.to (K1 (fun z=>ct h4 z.2) (by simpa using iB) (.inl lT)).symm⟩
 refine go 8 ?_
 refine RL.nH rfl rfl rfl rfl (u64 (bF n.s.af.ab)) (rfl) ?_
 refine go 5 ?_
 refine CW.cond rfl (fun iJ=>?_) (fun iJ=>?_)
 refine go 4 ?_
 refine RL.my rfl rfl rfl rfl rfl rfl ?_
 refine go 1 ?_
 refine zc (Im (nB:=ai.fp) ((J0.ae 1 rfl).aE) nd hR hr io hm rfl cc) ?_
 rintro v99 s99 A99 w99 apN aeU aoR ⟨rfl,Ju,aim⟩
 refine go 2 ?_
 refine cP (vs:=[]) rfl ?_
 exact aw.mq aeU ⟨rfl,_,aim.to (K1 (fun z=>ct h4 z.2) (by simpa using iB) (.inr (by simpa using iJ))).symm⟩
 refine go 1 ?_
 refine cP (vs:=[]) rfl ?_
 exact aw.mq ((J0.ae 1 rfl).aE) ⟨rfl,_,nd.to (K3 (fun z=>ct h4 z.2) (.inr (fun z=>z.elim (fun z=>by rw[lT] at z;cases z) (fun z=>by simp[z] at iJ)))).symm⟩
 refine go 19 ?_
 refine cP (vs:=[]) rfl ?_
 exact aw.mq ((J0.ae 1 rfl).aE) ⟨rfl,_,nd.to (K3 (fun z=>ct h4 z.2) (.inl (by simpa using iB))).symm⟩
 refine go 14 ?_
 have JX:=OT.drew
 refine CW.dw [1,3,5,7,9,11,13,15,17,19,21,23,25,27,29,31,33,35,37,39,41,43,44] (fun w=>ay p _ w∧ay Ms _ w∧True) ?_
 refine go 7 ?_
 refine RL.part 29 rfl (fun iB=>?_) (fun iB=>?_)
 refine go 3 ?_
 refine RL.part 32 rfl (fun lT=>?_) (fun lT=>?_)
 refine go 19 ?_
 refine RL.my rfl rfl rfl rfl rfl rfl ?_
 refine go 1 ?_
 refine zc (Im (nB:=ai.fp) ((JX.ae 1 rfl).aE) nd hR hr io hm rfl cc) ?_
 rintro aqW aqH akZ aqY apB aeE aou ⟨rfl,aoq,ah6⟩
 refine go 2 ?_
 refine cP (vs:=[]) rfl ?_
 exact aw.mq aeE ⟨rfl,_,ah6.to (K1 (fun z=>by rw[h7] at z;cases z.1) (by simpa using iB) (.inl lT)).symm⟩
 refine go 8 ?_
 refine RL.nH rfl rfl rfl rfl (u64 (bF n.s.af.ab)) (rfl) ?_
 refine go 5 ?_
 refine CW.cond rfl (fun iJ=>?_) (fun iJ=>?_)
 refine go 4 ?_
 refine RL.my rfl rfl rfl rfl rfl rfl ?_
 refine go 1 ?_
 refine zc (Im (nB:=ai.fp) ((JX.ae 1 rfl).aE) nd hR hr io hm rfl cc) ?_
 rintro aqX aqI ak0 aqZ apC aeF aov ⟨rfl,Nf,ah7⟩
 refine go 2 ?_
 refine cP (vs:=[]) rfl ?_
 exact aw.mq aeF ⟨rfl,_,ah7.to (K1 (fun z=>by rw[h7] at z;cases z.1) (by simpa using iB) (.inr (by simpa using iJ))).symm⟩
 refine go 1 ?_
 refine cP (vs:=[]) rfl ?_
 exact aw.mq ((JX.ae 1 rfl).aE) ⟨rfl,_,nd.to (K3 (fun z=>by rw[h7] at z;cases z.1) (.inr (fun z=>z.elim (fun z=>by rw[lT] at z;cases z) (fun z=>by simp[z] at iJ)))).symm⟩
 refine go 19 ?_
 refine cP (vs:=[]) rfl ?_
 exact aw.mq ((JX.ae 1 rfl).aE) ⟨rfl,_,nd.to (K3 (fun z=>by rw[h7] at z;cases z.1) (.inl (by simpa using iB))).symm⟩
end
end Go.Lw
namespace Go.Lw
open Go.Proofs
attribute [local irreducible] RL RA
theorem KI (a b:Int):(if b<a then b else a)=min a b:=by rw[Int.min_def];split<;>split<;>omega
theorem ES (a b:Int):(if b>a then b else a)=max a b:=by rw[Int.max_def];split<;>split<;>omega
def az.bL (m:az):Prop:=(∀ e∈m.entries,e.bL)∧m.entries.length≤1073741824∧m.aJ.bL∧m.data.length≤1073741824
section
variable {w:World} {s A:aj} {os:List aj} {p:Nat} {h:Hd} {n:ai}
theorem ak.ajQ {w:World} {s s':aj} {os:List aj} (h:ak w s' os) (hl:Le s s'):ak w s os:=by
 induction os with
 | nil=>exact In.le h hl
 | cons q os ih=>exact⟨h.1,(h.2.1.symm.le hl).symm,h.2.2.1,ih h.2.2.2⟩
theorem Calls.ij {P:Program} {w:World} {s:aj} {os:List aj} {f:FuncId} {args:Array Value} {Ψ:Value→Prop} (h:Calls P f args w (aw w s os fun _ _ v=>Ψ v)):Calls P f args w (aQ w s os Ψ) :=
 h.mono fun e w' he=>by
  obtain⟨v,s',B,rfl,cg,fh,jq,hv⟩:=he
  exact⟨v,rfl,fh.drop.ajQ cg,jq,hv⟩
theorem aap {r:aj} {xs:List aA} {xa:Option Addr} {xc g:Nat} {lP cap:Array Value} {q:aA→Bool} (hg:ak w s os) (hr:r=s∨r∈os) (hx:ee bg 6 r s xa xc xs) (hc:km Tryz.prog g=true)
  (hp:∀ x∈xs,∀ vs,bg s vs x→∀ w',ak w' s os→Calls Tryz.prog g (lP ++ #[.agg vs.toArray]++cap) w' (aQ w' s os fun v=>v = .bool (q x))) :
  Calls Tryz.prog 154 #[.slice xa xs.length xc,.func (.func g) lP cap] w (aQ w s os fun v=>v=i64 (dm q xs)):=by
 have bV:=hx.gL
 simp only[maxLen] at bV
 refine enter (l:=[.slice xa xs.length xc,.func (.func g) lP cap]) Tryz.func154 rfl Tryz.ntmps154 rfl ?_
 refine go 12 ?_
 refine CW.loop (σ:=Nat) (fun j E w'=>ak w' s os∧ar w w'∧∃ k:Nat,E=[(0,.slice xa xs.length xc),(1,.func (.func g) lP cap),(7,i64 xs.length),(8,i64 k)]∧k+j=xs.length∧∀ x∈xs.take k,q x=false) (fun j=>j) xs.length [(0,.slice xa xs.length xc),(1,.func (.func g) lP cap),(7,i64 xs.length),(8,i64 0)] ⟨rfl,rfl,rfl,rfl,trivial⟩ ⟨hg,(ar.refl _),0,rfl,by omega,by simp⟩ ?_
 rintro j E wL ⟨cd,cQ,k,rfl,hk,bW⟩
 refine go 5 ?_
 refine CW.cond rfl (fun h9=>?_) (fun h9=>?_)
 refine go 13 ?_
 have be:k<xs.length:=by have:=bU h9;omega
 refine RL.dX rfl rfl rfl rfl de.out rfl rfl hx (by omega) (by omega) ?_
 rintro q vs eH hH hE
 have mi:=hE
 obtain⟨ea,ec,ea1,ec1,ea2,ec2,rfl,er1,er2,er3,eh1,eh2,eh3⟩:=mi
 refine RL.gX (j:=0) (us:=_) rfl rfl rfl rfl nv.out rfl (hH) (cd.mI hr) rfl rfl ?_
 refine RL.ti rfl rfl rfl rfl rfl rfl hc (hp _ (List.getElem_mem _) _ hE _ cd) ?_
 rintro e1 w1 ⟨v1,rfl,aH,aN,rfl⟩
 refine⟨_,rfl,trivial,?_⟩
 refine go 1 ?_
 refine CW.cond rfl (fun mH=>?_) (fun mH=>?_)
 refine go 5 ?_
 refine CW.ret (bP ?_)
 exact aQ.mq aH (congrArg i64 (Qs be mH bW).symm)
 refine go 5 ?_
 have Cf:=takes be bW mH
 cases j with
 | zero=>omega
 | succ j=>exact fun ac ha=>⟨j,[(0,.slice xa xs.length xc),(1,.func (.func g) lP cap),(7,i64 xs.length),(8,i64 ((k:Int)+1))],ha.sub ⟨rfl,rfl,rfl,rfl,trivial⟩,⟨aH,cQ.trans aN,k+1,rfl,by omega,Cf⟩,Nat.lt_succ_self j⟩
 refine go 5 ?_
 refine CW.ret (bP ?_)
 have qz:k=xs.length:=by have:=ct h9;omega
 rw[qz,List.take_length] at bW
 exact aQ.mq cd (congrArg i64 (Qt bW).symm)
theorem Sg {r:aj} {xs:List aA} {xa:Option Addr} {xc g:Nat} {lP cap:Array Value} {q:aA→Bool} (hg:ak w s os) (hr:r=s∨r∈os) (hx:ee bg 6 r s xa xc xs) (hc:km Tryz.prog g=true)
  (hp:∀ x∈xs,∀ vs,bg s vs x→∀ w',ak w' s os→Calls Tryz.prog g (lP ++ #[.agg vs.toArray]++cap) w' (aQ w' s os fun v=>v = .bool (q x))) :
  Calls Tryz.prog 133 #[.slice xa xs.length xc,.func (.func g) lP cap] w (aQ w s os fun v=>v = .bool (xs.any q)):=by
 refine enter (l:=[.slice xa xs.length xc,.func (.func g) lP cap]) Tryz.func133 rfl Tryz.ntmps133 rfl ?_
 refine go 9 ?_
 refine zw (aap hg hr hx hc hp) ?_
 rintro v1 w1 aH aN rfl
 refine go 4 ?_
 refine CW.ret (bP ?_)
 exact aQ.mq aH (congrArg Value.bool (WK q xs))
theorem akd {t:Int} {e:aA} (h1:t<e.ab):ai.l_ t e=true:=by simp[ai.l_,h1]
theorem ake {t:Int} {e:aA} (h1:¬ t<e.ab) (h2:e.ao=3):ai.l_ t e=(eg e.aJ != 0):=by
 simp only[ai.l_,decide_eq_false h1,Bool.false_or,h2,decide_true,Bool.true_and]
 rw[Bool.eq_iff_iff];simp
theorem akf {t:Int} {e:aA} (h1:¬ t<e.ab) (h2:¬ e.ao=3):ai.l_ t e=false:=by
 simp only[ai.l_,decide_eq_false h1,Bool.false_or,decide_eq_false h2,Bool.false_and]
theorem YV {e:aA} {vs:List Value} (hg:ak w s (A::os)) (nd:Nd s A p h n) (hE:bg s vs e) (he:e.bL) :
  Calls Tryz.prog 134 #[ptr p,.agg vs.toArray] w (aQ w s (A::os) fun v=>v = .bool (ai.l_ n.s.af.ab e)):=by
 obtain⟨ea,ec,ea1,ec1,ea2,ec2,rfl,er1,er2,er3,eh1,eh2,eh3⟩:=hE
 have hC:fH s [.slice ea1 e.aJ.av.length ec1,.slice ea2 e.aJ.aD.length ec2] e.aJ:=⟨_,_,_,_,rfl,eh2,eh3⟩
 refine enter (l:=[ptr p,.agg #[u64 e.index,u64 e.ab,i64 e.ao,.slice ea e.data.length ec,.slice ea1 e.aJ.av.length ec1,.slice ea2 e.aJ.aD.length ec2]]) Tryz.func134 rfl Tryz.ntmps134 rfl ?_
 refine go 3 ?_
 rintro b2 w2 Q2 aS aR gj
 refine go 4 ?_
 have aP:=aS.drew
 refine CW.dw [1,3,5,7,9,11,13,15,17,19,21,23,25,27,29,31,32,35,37,39,40] (fun w=>ay b2 _ w∧ay p _ w∧True) ?_
 refine go 10 ?_
 refine RL.part 14 rfl (fun lS=>?_) (fun lS=>?_)
 refine go 12 ?_
 refine CW.ret (bP ?_)
 exact aQ.mq ((aP.ae 1 rfl).aE) (congrArg Value.bool (akd (bU lS)).symm)
 refine go 4 ?_
 refine RL.part 18 rfl (fun jC=>?_) (fun jC=>?_)
 refine go 3 ?_
 refine zw (Calls.ij (Ψ:=fun v=>v=i64 (eg e.aJ)) (IU aP hC he.2.ic)) ?_
 rintro v4 w4 bp bJ rfl
 refine go 6 ?_
 refine CW.ret (bP ?_)
 exact aQ.mq ((bp.ae 1 rfl).aE) (congrArg Value.bool (ake (ct lS) (by simpa using jC)).symm)
 refine go 8 ?_
 refine CW.ret (bP ?_)
 exact aQ.mq ((aP.ae 1 rfl).aE) (congrArg Value.bool (akf (ct lS) (by simpa using jC)).symm)
theorem bb.X9 {L:br} {hL:Hd} (k:bb s A h n) (hl:nE A s L hL) (hd:Dj hL.ea h.oa):bb s A { h with va:=hL.va,vc:=hL.vc,la:=hL.la,lc:=hL.lc,da:=hL.da,dc:=hL.dc,ea:=hL.ea,ec:=hL.ec } (n.C_ L) :=
 let ⟨_,_,_,_,e,f,g,i,j,_⟩:=k
 ⟨hl.av,hl.aD,hl.data,hl.entries,e,f,g,i,j,hd⟩
theorem bb.X_ {l:List aA} {a:Option Addr} {c:Nat} (k:bb s A h n) (ho:aW bg 6 65 s A a c l) (hd:Dj h.ea a):bb s A { h with oa:=a,oc:=c } (n.Db l) :=
 let ⟨a',b,c',d,e,f,g,_,j,_⟩:=k
 ⟨a',b,c',d,e,f,g,ho,j,hd⟩
theorem So {X:aj} {L:br} {hL:Hd} {l:List aA} {a:Option Addr} {c:Nat} (hg:ak w s (X::os)) (hl:nE X s L hL) (ho:aW bg 6 65 s X a c l) (hd:Dj hL.ea a) :
  ∃ X1 X2,ak w s (X1::X2::os)∧nE X1 s L hL∧aW bg 6 65 s X2 a c l:=by
 rcases ho with ⟨h1,h2,h3⟩ | ⟨g,cs,mP,hA,h4,h5,h6,h7⟩
 exact⟨X,aj.nil,hg.nil.ae 1 rfl,hl,.inl ⟨h1,h2,h3⟩⟩
 have hk:∀ k,X k≠none→(∀ ad,a=some ad→ad.block≠k)→(fun b=>if b=g then none else X b) k=X k:=fun k _ hk=>by
  have:k≠g:=fun e=>hk _ mP e.symm
  simp[this]
 exact⟨_,_,ak.split hg hA,⟨hl.index,hl.ab,hl.av,hl.aD,hl.data,hl.entries.cR hd.symm hk⟩,.inr ⟨g,cs,mP,if_pos rfl,h4,h5,h6,h7⟩⟩
def ai.calm (n:ai) (am:Int):ai:=(n.follow n.s.af.ab am).dN 0
theorem adc {m:az} (h0:n.s.aO=4):n.grow m=n:=by unfold ai.grow;rw[if_pos h0]
theorem AW {m:az} (h0:n.s.aO≠4) (h1:m.index<(n.calm m.am).s.af.aB):n.grow m=(n.calm m.am).post { az.zero with ao:=6,to:=m.am,index:=(n.calm m.am).s.af.aB }:=by
 unfold ai.grow;rw[if_neg h0];exact if_pos h1
theorem uC {m:az} {G:Dh} (h0:n.s.aO≠4) (h1:¬ m.index<(n.calm m.am).s.af.aB) (hG:fb (n.calm m.am).s.ah (n.calm m.am).s.af.aB m.index m.cn m.entries=G)
  (h2:G.gH=1∨G.gH=62∨m.entries.any (ai.l_ (n.calm m.am).s.af.ab)=true):n.grow m=n.calm m.am:=by
 subst hG;unfold ai.grow;rw[if_neg h0];exact (if_neg h1).trans (if_pos h2)
theorem y6 {m:az} {G:Dh} (h0:n.s.aO≠4) (h1:¬ m.index<(n.calm m.am).s.af.aB) (hG:fb (n.calm m.am).s.ah (n.calm m.am).s.af.aB m.index m.cn m.entries=G)
  (h2:¬ (G.gH=1∨G.gH=62∨m.entries.any (ai.l_ (n.calm m.am).s.af.ab)=true)) (h3:G.gH=61):n.grow m=(n.calm m.am).post { az.zero with ao:=6,to:=m.am,index:=m.index,bT:=true,hint:=min (n.calm m.am).aZ (max m.index 1-1) }:=by
 subst hG;unfold ai.grow;rw[if_neg h0];exact ((if_neg h1).trans (if_neg h2)).trans (if_pos h3)
theorem y7 {m:az} {G:Dh} (h0:n.s.aO≠4) (h1:¬ m.index<(n.calm m.am).s.af.aB) (hG:fb (n.calm m.am).s.ah (n.calm m.am).s.af.aB m.index m.cn m.entries=G)
  (h2:¬ (G.gH=1∨G.gH=62∨m.entries.any (ai.l_ (n.calm m.am).s.af.ab)=true)) (h3:¬ G.gH=61) :
  n.grow m=(((((n.calm m.am).C_ G.ah).xf G.cut).Db G.came).lz (max (n.calm m.am).s.af.aB (min m.aB (m.index+m.entries.length)))).post { az.zero with ao:=6,to:=m.am,index:=m.index+m.entries.length }:=by
 subst hG;unfold ai.grow;rw[if_neg h0];exact ((if_neg h1).trans (if_neg h2)).trans (if_neg h3)
theorem adb {m:az} {y:cG} (hg:ak w s (A::os)) (nd:Nd s A p h n) (hR:cJ n) (hr:n.mX) (hm:du s m y) (jw:m.bL) (si:m.index<eo) (tD:n.s.ah.entries.length+m.entries.length≤1099511627776) :
  Calls Tryz.prog 108 #[ptr p,.agg (gZ m y).toArray] w (iw w s os p (.tuple #[]) (n.grow m)):=by
 obtain⟨hS,h1,h2,h3,h4⟩:=hr
 have afG:=hm.index
 simp only[aq] at afG
 simp only[eo] at si
 have apP:=jw.2.1
 have jp:cJ (n.calm m.am):=hR.follow (ab:=n.s.af.ab) (gq:=m.am) hR.2.1
 have uL:∀ x,aq .u64 x→cJ ((n.calm m.am).lz x):=fun x hx=>jp.of rfl jp.2.1 jp.2.2.1 hx rfl
 have xE:∀ (z:ai),z.s.id=(n.calm m.am).s.id→aq .u64 z.s.af.ab→aq .i64 z.s.af.aT→aq .u64 z.s.af.aB→aq .u64 z.s.ah.aF.index→aq .u64 z.s.ah.aF.ab→cJ z:=fun z e1 e2 e3 e4 e5 e6=>⟨by rw[e1];exact jp.1,e2,e3,e4,e5,e6⟩
 have Gi:(n.calm m.am).s.ah.bL:=hS
 have BB:aq .u64 (max (n.calm m.am).s.af.aB (min m.aB (m.index+m.entries.length))):=by
  have h5:=jp.2.2.2.1
  have h6:=hm.aB
  generalize (n.calm m.am).s.af.aB=z at h5 ⊢
  simp only[aq] at h5 h6 ⊢
  rw[Int.min_def,Int.max_def]
  split<;>split<;>omega
 have VD:aq .u64 (min (n.calm m.am).aZ (max m.index 1-1)):=by
  have uZ:aq .u64 (n.calm m.am).aZ:=(nd.lO hR).Cz.1
  generalize (n.calm m.am).aZ=z at uZ ⊢
  simp only[aq] at uZ ⊢
  rw[Int.min_def,Int.max_def]
  split<;>split<;>omega
 have hmq:(n.calm m.am).o.aG.length≤34359738368:=h3
 have BZ:(n.calm m.am).s.ah.entries.length+m.entries.length≤1099511627776:=tD
 refine enter (l:=[ptr p,.agg (gZ m y).toArray]) Tryz.func108 rfl Tryz.ntmps108 rfl ?_
 refine go 3 ?_
 rintro b5 w5 Q5 bh bQ mm
 refine go 12 ?_
 refine CW.cond rfl (fun lS=>?_) (fun lS=>?_)
 refine CW.ret (kE ?_)
 exact aw.mq ((bh.ae 1 rfl).aE) ⟨rfl,_,nd.to (adc (by simpa using lS)).symm⟩
 have jM:n.s.aO≠4:=by simpa using lS
 refine go 2 ?_
 have bx:=bh.drew
 refine CW.dx [1,3,5,7,9,11,13,15,17] [18] 9 1 (fun w=>ay p _ w∧ay b5 _ w∧True) ?_
 refine go 12 ?_
 refine zc (DI (bx.ae 1 rfl) nd) ?_
 rintro v7 s7 A7 w7 jK bO cj ⟨rfl,h7,l7⟩
 have hm:=hm.up jK
 refine go 8 ?_
 refine RL.sI (p:=p) (i:=0) (j:=14) bO (l7.cells) (bb.dN l7.au) ?_
 rintro w8 A8 bD cM vC
 refine go 3 ?_
 have bA:=bD.drew
 refine CW.dw [1,3,5,7,9,11,13,15,17,18,20] (fun w=>ay b5 _ w∧ay p _ w∧True) ?_
 have nq:=vC.to (show _=n.calm m.am from rfl)
 refine go 10 ?_
 rintro qU eX mE bj cm fS
 refine go 2 ?_
 rintro iS rJ cy dH rX
 refine go 4 ?_
 have cw:=cy.drew
 refine CW.dw [1,3,5,7,9,11,13,15,17] (fun w=>ay b5 _ w∧ay p _ w∧True) ?_
 refine go 10 ?_
 refine CW.cond rfl (fun mh=>?_) (fun mh=>?_)
 refine go 5 ?_
 refine zc (kV (m:={ az.zero with ao:=6,to:=m.am,index:=(n.calm m.am).s.af.aB }) (y:=cG.none) (cw.ae 1 rfl) nq jp { du.zero _ with ao:=by simp[aq],to:=hm.am,index:=jp.2.2.2.1 } (by omega)) ?_
 rintro yC Fc vK ji nR dd eh ⟨rfl,ma13,mc13,lF⟩
 have hm:=hm.up nR
 refine go 2 ?_
 refine CW.ret (kE ?_)
 exact aw.mq ((dd.aE).aE) ⟨rfl,_,lF.to (AW jM (bU mh)).symm⟩
 have mr:=ct mh
 refine go 2 ?_
 have ck:=cw.drew
 refine CW.lb (.dV [(true,0),(true,1),(true,2),(true,3),(true,4),(true,5),(true,6),(true,7),(true,8),(true,9),(true,10),(true,11),(true,12),(true,13),(true,14),(true,15),(true,16)] (.line [(false,17),(true,18),(true,19),(true,20),(true,21),(true,22),(false,23),(false,24),(false,25),(false,26),(false,27)]) (.line [(false,23),(false,17),(true,18),(true,19),(true,20),(true,21),(true,22),(false,24),(false,25),(false,26),(false,27)])) (fun w=>ay p _ w∧ay b5 _ w∧True) mixed (by kernel_rfl) (by kernel_rfl) (by kernel_rfl) (by kernel_rfl) (⟨ck.bS (by simp) nq.cells,ck.bS (by simp) mm,trivial⟩) ?_
 refine RT.pre (S:=fun w=>ay p _ w∧ay b5 _ w∧True) (⟨ck.bS (by simp) nq.cells,ck.bS (by simp) mm,trivial⟩) ?_
 refine go 18 ?_
 refine RT.eE (S:=fun w=>ay p _ w∧ay b5 _ w∧True) (⟨ck.bS (by simp) nq.cells,ck.bS (by simp) mm,trivial⟩) (RT.di (S:=fun w=>ay p _ w∧ay b5 _ w∧True) (⟨ck.bS (by simp) nq.cells,ck.bS (by simp) mm,trivial⟩) ?_) (RT.di (S:=fun w=>ay p _ w∧ay b5 _ w∧True) (⟨ck.bS (by simp) nq.cells,ck.bS (by simp) mm,trivial⟩) ?_)
 refine go 1 ?_
 refine zc (Sp ck (.inr (by simp)) (nq.lO jp) Gi hm.entries jw.1 BZ hm.index hm.cn) ?_
 rintro yD CT xj n_ gn dt iW ⟨hX,aX,cX,rfl,gp,Hn,GF⟩
 have nY:=nq.up gn
 have hm:=hm.up gn
 generalize hG:fb (n.calm m.am).s.ah (n.calm m.am).s.af.aB m.index m.cn m.entries=G at gp Hn ⊢
 refine go 7 ?_
 rintro qV ny qn eZ hY nb
 refine go 2 ?_
 rintro oM vU fd iC rY
 refine go 11 ?_
 refine RL.part 75 rfl (fun Bg=>?_) (fun Bg=>?_)
 refine go 12 ?_
 refine CW.ret (kE ?_)
 exact aw.mq (((((fd.ae 3 rfl).aE).aE).aE).aE) ⟨rfl,_,nY.to (uC jM mr hG (.inl (by simpa using Bg))).symm⟩
 refine go 4 ?_
 refine RL.part 79 rfl (fun qp=>?_) (fun qp=>?_)
 refine go 8 ?_
 refine CW.ret (kE ?_)
 exact aw.mq (((((fd.ae 3 rfl).aE).aE).aE).aE) ⟨rfl,_,nY.to (uC jM mr hG (.inr (.inl (by simpa using qp)))).symm⟩
 refine go 3 ?_
 refine RL.my rfl rfl rfl rfl rfl rfl ?_
 refine go 1 ?_
 refine zw (Sg (q:=ai.l_ (n.calm m.am).s.af.ab) (lP:= #[ptr p]) (cap:= #[]) (fd.ae 3 rfl) (.inl rfl) (show ee bg 6 _ _ y.ea y.ec m.entries from hm.entries) rfl (fun x hx vs hE w' fh=>YV fh nY hE (jw.1 x hx))) ?_
 rintro Ix pF fU jr rfl
 refine go 3 ?_
 refine CW.cond rfl (fun Bj=>?_) (fun Bj=>?_)
 refine CW.ret (kE ?_)
 exact aw.mq ((((fU.aE).aE).aE).aE) ⟨rfl,_,nY.to (uC jM mr hG (.inr (.inr Bj))).symm⟩
 have Hh:¬ (G.gH=1∨G.gH=62∨m.entries.any (ai.l_ (n.calm m.am).s.af.ab)=true):=fun z=>z.elim (fun z=>by simp[z] at Bg) (fun z=>z.elim (fun z=>by simp[z] at qp) (fun z=>by rw[Bj] at z;cases z))
 refine go 7 ?_
 refine CW.cond rfl (fun Bl=>?_) (fun Bl=>?_)
 refine go 1 ?_
 have e_:=fU.drew
 refine CW.dw [1,3,5,9,11,13,15,19,6,17,20,23,24,27,28] (fun w=>ay b5 _ w∧True) ?_
 refine go 5 ?_
 refine RL.max rfl rfl rfl rfl rfl rfl ?_
 rw[KU]
 refine go 3 ?_
 refine zw (qI e_ nY jp) ?_
 rintro Fs oN fv iX rfl
 refine go 1 ?_
 refine RL.min rfl rfl rfl rfl rfl rfl ?_
 rw[KI]
 refine go 1 ?_
 rintro qN vW iL lh rZ
 refine go 3 ?_
 rintro xe Ar iM pR D2
 refine go 3 ?_
 rintro uk As gB nP xG
 refine go 7 ?_
 refine zc (kV (m:={ az.zero with ao:=6,to:=m.am,index:=m.index,bT:=true,hint:=min (n.calm m.am).aZ (max m.index 1-1) }) (y:=cG.none) gB nY jp { du.zero _ with ao:=by simp[aq],to:=hm.am,index:=hm.index,hint:=VD } (by omega)) ?_
 rintro v25 Rp Z2 ul wr js ou ⟨rfl,ma25,mc25,sF⟩
 have hm:=hm.up wr
 refine go 2 ?_
 refine CW.ret (kE ?_)
 exact aw.mq ((((js.aE).aE).aE).aE) ⟨rfl,_,sF.to (y6 jM mr hG Hh (by simpa using Bl)).symm⟩
 refine go 3 ?_
 obtain⟨X1,X2,NH,Hp,Pu⟩:=So (((((fU.ae 1 rfl).ae 3 rfl).ae 4 rfl).ae 3 rfl).ae 4 rfl) gp Hn GF
 have hK:=NH.ae 2 rfl
 have hK:=hK.ae 1 rfl
 obtain⟨AJ,F4⟩:∃ Z,Z=aj.eN X1 A8:=⟨_,rfl⟩
 have ndJ:=nY.mem (aj.rA (r:=X1) (fC.qc hK))
 have Hq:=Hp.mem (aj.sD X1 A8)
 have Ow:=Dj.apart Hp.entries nY.qL (fC.qc hK)
 have pX:=hK.eN
 rw[←F4] at ndJ Hq pX
 refine go 9 ?_
 refine RL.sN (p:=p) (i:=0) (j:=4) (h1:=_) (n1:=_) pX (ndJ.cells) (bb.X9 ndJ.au Hq Ow) ?_
 rintro un LU gk mJ vz
 refine go 4 ?_
 refine RL.sI (p:=p) (i:=0) (j:=20) gk (vz.cells) (bb.xf vz.au) ?_
 rintro rH yM iN mj yu
 refine go 1 ?_
 have zd:=iN.ae 1 rfl
 obtain⟨AK,Ns⟩:∃ Z,Z=aj.eN X2 yM:=⟨_,rfl⟩
 have ndK:=yu.mem (aj.rA (r:=X2) (fC.qc zd))
 have Ho:=Pu.mem (aj.sD X2 yM)
 have GP:=zd.eN
 rw[←Ns] at ndK Ho GP
 refine go 3 ?_
 refine RL.sN (p:=p) (i:=0) (j:=21) (h1:=_) (n1:=_) GP (ndK.cells) (bb.X_ ndK.au Ho GF) ?_
 rintro vH IL jG oZ tU
 refine go 9 ?_
 refine RL.conv rfl rfl rfl rfl Tryz.underlying3 Tryz.underlying22 rfl ((by simp only[aq];omega)) ?_
 refine go 3 ?_
 rintro vI Dk i_ pS xH
 refine go 3 ?_
 have ja:=i_.drew
 refine CW.dx [1,3,5,7,9,11,13,15,17,19,21,23,25,27,29,31,33] [34] 17 1 (fun w=>ay p _ w∧ay b5 _ w∧ay qU _ w∧True) ?_
 refine go 11 ?_
 refine RL.min rfl rfl rfl rfl rfl rfl ?_
 rw[KI]
 refine RL.max rfl rfl rfl rfl rfl rfl ?_
 rw[ES]
 refine go 6 ?_
 refine RL.sI (p:=p) (i:=0) (j:=3) ja (tU.cells) (bb.lz tU.au) ?_
 rintro Ah LV kQ uO sG
 refine go 6 ?_
 refine zc (kV (m:={ az.zero with ao:=6,to:=m.am,index:=m.index+m.entries.length }) (y:=cG.none) kQ sG (xE _ rfl jp.2.1 jp.2.2.1 BB gp.index gp.ab) { du.zero _ with ao:=by simp[aq],to:=hm.am,index:=by simp only[aq];omega } (by show n.o.aG.length≤_;omega)) ?_
 rintro v32 Rr LW sW tC iD ov ⟨rfl,ma32,mc32,z_⟩
 have hm:=hm.up tC
 refine go 2 ?_
 refine cP (vs:=[]) rfl ?_
 exact aw.mq (((iD.aE).aE).aE) ⟨rfl,_,z_.to (y7 jM mr hG Hh (by simpa using Bl)).symm⟩
 refine go 1 ?_
 rintro I_ qi Dl c_ gR xI
 refine go 2 ?_
 refine zc (Sp c_ (.inr (by simp)) (nq.lO jp) Gi hm.entries jw.1 BZ hm.index hm.cn) ?_
 rintro RQ Yy I1 yH wv jt rW ⟨hX,aX,cX,rfl,gp,Hn,GF⟩
 have nZ:=nq.up wv
 have hm:=hm.up wv
 generalize hG:fb (n.calm m.am).s.ah (n.calm m.am).s.af.aB m.index m.cn m.entries=G at gp Hn ⊢
 refine go 7 ?_
 rintro nz I2 cS gS D3
 refine go 11 ?_
 refine RL.part 75 rfl (fun Bg=>?_) (fun Bg=>?_)
 refine go 12 ?_
 refine CW.ret (kE ?_)
 exact aw.mq (((((cS.ae 3 rfl).aE).aE).aE).aE) ⟨rfl,_,nZ.to (uC jM mr hG (.inl (by simpa using Bg))).symm⟩
 refine go 4 ?_
 refine RL.part 79 rfl (fun qp=>?_) (fun qp=>?_)
 refine go 8 ?_
 refine CW.ret (kE ?_)
 exact aw.mq (((((cS.ae 3 rfl).aE).aE).aE).aE) ⟨rfl,_,nZ.to (uC jM mr hG (.inr (.inl (by simpa using qp)))).symm⟩
 refine go 3 ?_
 refine RL.my rfl rfl rfl rfl rfl rfl ?_
 refine go 1 ?_
 refine zw (Sg (q:=ai.l_ (n.calm m.am).s.af.ab) (lP:= #[ptr p]) (cap:= #[]) (cS.ae 3 rfl) (.inl rfl) (show ee bg 6 _ _ y.ea y.ec m.entries from hm.entries) rfl (fun x hx vs hE w' fh=>YV fh nZ hE (jw.1 x hx))) ?_
 rintro Zu qj dh im rfl
 refine go 3 ?_
 refine CW.cond rfl (fun Bj=>?_) (fun Bj=>?_)
 refine CW.ret (kE ?_)
 exact aw.mq ((((dh.aE).aE).aE).aE) ⟨rfl,_,nZ.to (uC jM mr hG (.inr (.inr Bj))).symm⟩
 have Hh:¬ (G.gH=1∨G.gH=62∨m.entries.any (ai.l_ (n.calm m.am).s.af.ab)=true):=fun z=>z.elim (fun z=>by simp[z] at Bg) (fun z=>z.elim (fun z=>by simp[z] at qp) (fun z=>by rw[Bj] at z;cases z))
 refine go 7 ?_
 refine CW.cond rfl (fun Bl=>?_) (fun Bl=>?_)
 refine go 1 ?_
 have mM:=dh.drew
 refine CW.dw [1,3,5,9,11,13,15,19,6,17,20,23,24,27,28] (fun w=>ay b5 _ w∧True) ?_
 refine go 5 ?_
 refine RL.max rfl rfl rfl rfl rfl rfl ?_
 rw[KU]
 refine go 3 ?_
 refine zw (qI mM nZ jp) ?_
 rintro ID C7 nf uQ rfl
 refine go 1 ?_
 refine RL.min rfl rfl rfl rfl rfl rfl ?_
 rw[KI]
 refine go 1 ?_
 rintro nA Ma en gT JO
 refine go 3 ?_
 rintro IF Sv tx DY Vc
 refine go 3 ?_
 rintro LC Q42 wk Gr adS
 refine go 7 ?_
 refine zc (kV (m:={ az.zero with ao:=6,to:=m.am,index:=m.index,bT:=true,hint:=min (n.calm m.am).aZ (max m.index 1-1) }) (y:=cG.none) wk nZ jp { du.zero _ with ao:=by simp[aq],to:=hm.am,index:=hm.index,hint:=VD } (by omega)) ?_
 rintro v43 s43 Z6 LG J8 wl DZ ⟨rfl,ma43,mc43,KM⟩
 have hm:=hm.up J8
 refine go 2 ?_
 refine CW.ret (kE ?_)
 exact aw.mq ((((wl.aE).aE).aE).aE) ⟨rfl,_,KM.to (y6 jM mr hG Hh (by simpa using Bl)).symm⟩
 refine go 3 ?_
 obtain⟨X1,X2,NH,Hp,Pu⟩:=So (((((dh.ae 2 rfl).ae 3 rfl).ae 4 rfl).ae 3 rfl).ae 4 rfl) gp Hn GF
 have hK:=NH.ae 2 rfl
 have hK:=hK.ae 1 rfl
 obtain⟨AJ,F4⟩:∃ Z,Z=aj.eN X1 A8:=⟨_,rfl⟩
 have ndJ:=nZ.mem (aj.rA (r:=X1) (fC.qc hK))
 have Hq:=Hp.mem (aj.sD X1 A8)
 have Ow:=Dj.apart Hp.entries nZ.qL (fC.qc hK)
 have pX:=hK.eN
 rw[←F4] at ndJ Hq pX
 refine go 9 ?_
 refine RL.sN (p:=p) (i:=0) (j:=4) (h1:=_) (n1:=_) pX (ndJ.cells) (bb.X9 ndJ.au Hq Ow) ?_
 rintro LH Z7 wn D0 CJ
 refine go 4 ?_
 refine RL.sI (p:=p) (i:=0) (j:=20) wn (CJ.cells) (bb.xf CJ.au) ?_
 rintro LI Fz uW Gs E6
 refine go 1 ?_
 have zd:=uW.ae 1 rfl
 obtain⟨AK,Ns⟩:∃ Z,Z=aj.eN X2 Fz:=⟨_,rfl⟩
 have ndK:=E6.mem (aj.rA (r:=X2) (fC.qc zd))
 have Ho:=Pu.mem (aj.sD X2 Fz)
 have GP:=zd.eN
 rw[←Ns] at ndK Ho GP
 refine go 3 ?_
 refine RL.sN (p:=p) (i:=0) (j:=21) (h1:=_) (n1:=_) GP (ndK.cells) (bb.X_ ndK.au Ho GF) ?_
 rintro LJ IP zu Gt sH
 refine go 9 ?_
 refine RL.conv rfl rfl rfl rfl Tryz.underlying3 Tryz.underlying22 rfl ((by simp only[aq];omega)) ?_
 refine go 3 ?_
 rintro w47 Q47 GK adH aoV
 refine go 3 ?_
 have BG:=GK.drew
 refine CW.dx [1,3,5,7,9,11,13,15,17,19,21,23,25,27,29,31,33] [34] 17 1 (fun w=>ay p _ w∧ay b5 _ w∧ay qU _ w∧True) ?_
 refine go 11 ?_
 refine RL.min rfl rfl rfl rfl rfl rfl ?_
 rw[KI]
 refine RL.max rfl rfl rfl rfl rfl rfl ?_
 rw[ES]
 refine go 6 ?_
 refine RL.sI (p:=p) (i:=0) (j:=3) BG (sH.cells) (bb.lz sH.au) ?_
 rintro RU R7 BH JM QQ
 refine go 6 ?_
 refine zc (kV (m:={ az.zero with ao:=6,to:=m.am,index:=m.index+m.entries.length }) (y:=cG.none) BH QQ (xE _ rfl jp.2.1 jp.2.2.1 BB gp.index gp.ab) { du.zero _ with ao:=by simp[aq],to:=hm.am,index:=by simp only[aq];omega } (by show n.o.aG.length≤_;omega)) ?_
 rintro v50 s50 IQ RV Eo zx Gu ⟨rfl,ma50,mc50,wP⟩
 have hm:=hm.up Eo
 refine go 2 ?_
 refine cP (vs:=[]) rfl ?_
 exact aw.mq (((zx.aE).aE).aE) ⟨rfl,_,wP.to (y7 jM mr hG Hh (by simpa using Bl)).symm⟩
end
end Go.Lw
namespace Go.Lw
open Go.Proofs
attribute [local irreducible] RL RA
section
variable {w:World} {s A:aj} {os:List aj} {p:Nat} {h:Hd} {n:ai}
theorem RL.akc {P:Program} {m:Nat} {ops:Array Oper} {Q:Exit→Act→World→Prop} {S:World→Prop} {au:List (Bool × Oper)} {E:dE} {o:Oper} {x y:Operand} {h1:Hd} {n1:ai} {t:TypeId} {k j:Nat} {i:Nat} {ag:Bool} {cs:Array Value} {u:Value} {ds:List Value} (hg:bR ops E o=some true) (hd:o.dst=none) (ho:o.op = .store t x y) (ht:dD P t=some (ag,k))
  (hx:ev E x=some (.pointer (some ((⟨p,0,none⟩:Addr).add j)))) (hy:ev E y=some u) (hG:ak w s os) (hi:os[i]?=some A) (hA:A p=some (.cells cs 109 (0,0))) (hr:bb s A h1 n1) (hk:u.cells.size=k) (nU:∀ z∈u.cells.toList,z.oneCell'=true) (hj:j+k≤cs.size)
  (he:cs.toList.take j++u.cells.toList++cs.toList.drop (j+k)=ds)
  (h:∀ w' A',ak w' s (os.set i A')→ar w w'→A' p=some (.cells ds.toArray 109 (0,0))→bb s A' h1 n1→S w'∧RL P m ops Q S au E w'):RL P m ops Q S ((false,o)::au) E w :=
 RL.store hg hd ho ht hx hy hG hi hA hk nU hj fun w' h2 h3=>by
  rw[he] at h2
  exact h w' _ h2 h3 (dq _ _ _) (hr.put hA _)
theorem Nd.aj1 (hg:ak w s (A::os)) (nd:Nd s A p h n):∃ A1 W,ak w s (A1::W::os)∧A1 p=some (.cells (py n h).toArray 109 (0,0))∧bb s A1 { h with ea:=none,ec:=0 } (n.C8 [])∧aW bg 6 65 s W h.ea h.ec n.s.ah.entries:=by
 have hp:=nd.entries
 rcases hp with ⟨h1,h2,h3⟩ | ⟨g,cs,mP,hA,h4,h5,h6,h7⟩
 exact⟨A,aj.nil,hg.nil.ae 1 rfl,nd.cells,nd.au.XP,.inl ⟨h1,h2,h3⟩⟩
 have hb:=nd.entries
 have hk:∀ k,A k≠none→(∀ ad,h.ea=some ad→ad.block≠k)→(fun b=>if b=g then none else A b) k=A k:=fun k _ hk=>by
  have:k≠g:=fun e=>hk _ mP e.symm
  simp[this]
 obtain⟨a,b,c,d,e,f,g',i,j,l⟩:=nd.au
 refine⟨_,_,ak.split hg hA,(nd.apart hb (by decide) hk).trans nd.cells,⟨a,b,c,aW.nil _ _ _ _ _,e.cR (hb.dj e (by decide)) hk,f.cR (hb.dj f (by decide)) hk,g',i.cR l hk,j.cR (hb.dj j (by decide)) hk,Dj.XR _⟩,.inr ⟨g,cs,mP,if_pos rfl,h4,h5,h6,h7⟩⟩
theorem bb.mem {A':aj} (k:bb s A h n) (hl:Le A A'):bb s A' h n :=
 let ⟨a,b,c,d,e,f,g,i,j,l⟩:=k
 ⟨a,b,c,d.mem hl,e.mem hl,f.mem hl,g,i.mem hl,j.mem hl,l⟩
theorem bb.ai_ {sn:gE} {va la da:Option Addr} {vc lc dc:Nat} {l:List aA} (k:bb s A { h with ea:=none,ec:=0 } (n.C8 [])) (hv:fD s va vc sn.aJ.av) (hl:fD s la lc sn.aJ.aD) (hd:bm (ax .u8) 1 s da dc sn.data) :
  bb s A { h with va:=va,vc:=vc,la:=la,lc:=lc,da:=da,dc:=dc,ea:=none,ec:=0 } ((n.C_ ⟨sn,l⟩).C8 []) :=
 let ⟨_,_,_,d,e,f,g,i,j,l⟩:=k
 ⟨hv,hl,hd,d,e,f,g,i,j,l⟩
theorem bb.aja {l0 l:List aA} {a:Option Addr} {c:Nat} (k:bb s A h (n.C8 l0)) (ho:aW bg 6 65 s A a c l) (hd:Dj a h.oa):bb s A { h with ea:=a,ec:=c } (n.C8 l) :=
 let ⟨a',b,c',_,e,f,g,i,j,_⟩:=k
 ⟨a',b,c',ho,e,f,g,i,j,hd⟩
theorem bb.qL (k:bb s A h n):aW bg 6 65 s A h.oa h.oc n.o.entries:=k.2.2.2.2.2.2.2.1
theorem bb.Ia {c:fG} {a:Option Addr} {q:Nat} (k:bb s A h n) (hc:bm (ax .u8) 1 s a q c.data):bb s A { h with ta:=a,tc:=q } (n.LL c) :=
 let ⟨a',b,c',d,e,f,_,i,j,l⟩:=k
 ⟨a',b,c',d,e,f,hc,i,j,l⟩
def n6 (sn:gE) (e:aA):Bool:=decide (e.index=sn.index∧e.ab=sn.ab)
theorem ahp {e:aA} {sn:gE} {vs:List Value} {B:aj} {b:Nat} {va la da:Option Addr} {vc lc dc:Nat} (hg:ak w s os) (hE:bg s vs e) (hB:B∈os) (c1:B b=some (.cells (Fh sn va vc la lc da dc).toArray 30 (0,0))) :
  Calls Tryz.prog 155 #[.agg vs.toArray,ptr b] w (aQ w s os fun q=>q = .bool (n6 sn e)):=by
 obtain⟨ea,ec,ea1,ec1,ea2,ec2,rfl,er1,er2,er3,eh1,eh2,eh3⟩:=hE
 refine enter (l:=[.agg #[u64 e.index,u64 e.ab,i64 e.ao,.slice ea e.data.length ec,.slice ea1 e.aJ.av.length ec1,.slice ea2 e.aJ.aD.length ec2],ptr b]) Tryz.func155 rfl Tryz.ntmps155 rfl ?_
 refine go 3 ?_
 rintro b1 w1 Q1 aH aN cz
 refine go 8 ?_
 refine RL.load (j:=0) rfl rfl rfl rfl aV.out rfl (Holds.of c1) (aH.mem (List.mem_cons_of_mem _ hB)) rfl ?_
 refine go 2 ?_
 refine RL.part 9 rfl (fun h9=>?_) (fun h9=>?_)
 refine go 3 ?_
 refine RL.load (j:=1) rfl rfl rfl rfl aV.out rfl (Holds.of c1) (aH.mem (List.mem_cons_of_mem _ hB)) rfl ?_
 refine go 4 ?_
 refine CW.ret (bP ?_)
 refine aQ.mq (aH.drop) (congrArg Value.bool ?_)
 simp_all [n6]
 try (rw[Bool.eq_iff_iff];simp)
 refine go 8 ?_
 refine CW.ret (bP ?_)
 refine aQ.mq (aH.drop) (congrArg Value.bool ?_)
 simp_all [n6]
 try (rw[Bool.eq_iff_iff];simp)
theorem ahq {sn:gE} (h0:0≤dm (n6 sn) n.s.ah.entries):n.dY sn=⟨{ n.s with ah:=⟨sn,n.s.ah.entries.drop (dm (n6 sn) n.s.ah.entries+1).toNat⟩,af:={ n.s.af with aB:=sn.index },part:=fG.zero },{ n.o with dY:=true }⟩:=by
 have hf:∃ k,n.s.ah.entries.findIdx? (fun e=>decide (e.index=sn.index∧e.ab=sn.ab))=some k∧dm (n6 sn) n.s.ah.entries=k:=by
  unfold dm at h0 ⊢
  change ∃ k,n.s.ah.entries.findIdx? (n6 sn)=some k∧_
  cases hc:n.s.ah.entries.findIdx? (n6 sn) with
  | none=>rw[hc] at h0;simp at h0
  | some k=>exact⟨k,rfl,rfl⟩
 obtain⟨k,h1,h2⟩:=hf
 unfold ai.dY
 simp only[h1,h2]
 rw[show ((k:Int)+1).toNat=k+1 by omega]
theorem WX {sn:gE} (h0:dm (n6 sn) n.s.ah.entries<0):n.dY sn=⟨{ n.s with ah:=⟨sn,[]⟩,af:={ n.s.af with aB:=sn.index },part:=fG.zero },{ n.o with dY:=true,cut:=(n.s.ah.entries.head?.map (·.index)).getD n.o.cut }⟩:=by
 have h1:n.s.ah.entries.findIdx? (fun e=>decide (e.index=sn.index∧e.ab=sn.ab))=none:=by
  unfold dm at h0
  change n.s.ah.entries.findIdx? (n6 sn)=none
  cases hc:n.s.ah.entries.findIdx? (n6 sn) with
  | none=>rfl
  | some k=>rw[hc] at h0;simp at h0;omega
 unfold ai.dY
 simp only[h1]
theorem WW {sn:gE} {va la da:Option Addr} {vc lc dc:Nat} (hg:ak w s (A::os)) (nd:Nd s A p h n) (hS:n.s.ah.bL) (hv:fD s va vc sn.aJ.av) (hl:fD s la lc sn.aJ.aD) (hd:bm (ax .u8) 1 s da dc sn.data) :
  Calls Tryz.prog 136 #[ptr p,.agg (Fh sn va vc la lc da dc).toArray] w (iw w s os p (.tuple #[]) (n.dY sn)):=by
 have bV:=hS.2.2.2
 have Ef:dm (n6 sn) n.s.ah.entries+1≤n.s.ah.entries.length:=by rcases Kz (n6 sn) n.s.ah.entries with h | ⟨_,h⟩<;>omega
 have apm : -1≤dm (n6 sn) n.s.ah.entries:=by rcases Kz (n6 sn) n.s.ah.entries with h | ⟨_,h⟩<;>omega
 refine enter (l:=[ptr p,.agg (Fh sn va vc la lc da dc).toArray]) Tryz.func136 rfl Tryz.ntmps136 rfl ?_
 refine go 3 ?_
 rintro b2 w2 Q2 aS aR gj
 refine go 14 ?_
 obtain⟨A1,W1,er,yg,PK,hW⟩:=Nd.aj1 (aS.ae 1 rfl) nd
 refine go 7 ?_
 refine RL.akc (p:=p) (i:=0) (j:=4) rfl rfl rfl C2.out rfl rfl er rfl yg (bb.ai_ (l:=[]) PK hv hl hd) rfl (by first | (simp[Value.cells,Value.oneCell'];done) | simp[Value.cells,Value.oneCell',lx]) (Nat.le_of_ble_eq_true rfl) rfl ?_
 intro wX AX hgX aoU hpX Kl
 refine go 5 ?_
 refine RL.tO rfl rfl rfl rfl rfl ?_
 refine go 1 ?_
 refine zw (L4 (p:=n6 sn) hgX (.inr (by simp)) hW.eU rfl (fun x hx vs hE w' fh=>ahp fh hE (B:=Q2) (by simp) gj)) ?_
 rintro v3 w3 aP bw rfl
 refine go 9 ?_
 refine RL.yx (dm (n6 sn) n.s.ah.entries+1) (n.s.ah.entries.length:Int) rfl rfl rfl rfl de.out rfl (.inr ⟨_,_,rfl,rfl⟩) (.inl ⟨rfl,rfl⟩) hW.eU (by omega) Ef (by omega) ?_
 intro a26 c26 UE
 have e26:((n.s.ah.entries.take (n.s.ah.entries.length:Int).toNat).drop (dm (n6 sn) n.s.ah.entries+1).toNat)=n.s.ah.entries.drop (dm (n6 sn) n.s.ah.entries+1).toNat:=by simp
 rw[e26] at UE ⊢
 refine go 1 ?_
 refine zc (Sb aP (.inr (by simp)) UE.2.2 (by simp only[List.length_drop];omega)) ?_
 rintro v4 s4 Q4 w4 fL bp bJ ⟨aqb,a27,c27,rfl,Kg⟩
 have Kl:=Kl.up fL
 refine go 1 ?_
 have hK:=((((bp.ae 3 rfl).ae 3 rfl).ae 3 rfl).ae 3 rfl)
 obtain⟨AJ,F4⟩:∃ Z,Z=aj.eN Q4 AX:=⟨_,rfl⟩
 have Wj:=Kl.mem (aj.rA (r:=Q4) (fC.qc hK))
 have We:=aj.rA (r:=Q4) (fC.qc hK) _ _ hpX
 have V_:=Kg.mem (aj.sD Q4 AX)
 have hdJ:=Dj.apart Kg Kl.qL (fC.qc hK)
 have pX:=hK.eN
 rw[←F4] at Wj We V_ pX
 have hrE:=Wj.aja V_ hdJ
 refine go 4 ?_
 refine RL.sN (p:=p) (i:=0) (j:=9) pX (We) (hrE) ?_
 rintro w5 A5 bh bQ wK
 refine go 8 ?_
 refine CW.cond rfl (fun iV=>?_) (fun iV=>?_)
 refine go 7 ?_
 refine RL.sN (p:=p) (i:=0) (j:=9) (h1:=_) (n1:=_) bh (wK.cells) (wK.au.XP) ?_
 rintro w6 A6 bx bM oG
 refine go 8 ?_
 refine CW.cond rfl (fun gi=>?_) (fun gi=>?_)
 refine go 3 ?_
 refine RL.dX rfl rfl rfl rfl de.out rfl rfl hW.eU (by omega) (by have:=bU gi;omega) ?_
 rintro q vs eH hH ⟨ea,ec,ea1,ec1,ea2,ec2,rfl,er1,er2,er3,eh1,eh2,eh3⟩
 refine go 1 ?_
 refine RL.load (j:=0) rfl rfl rfl rfl aV.out rfl (hH) (bx.mem (by simp)) rfl ?_
 refine go 3 ?_
 refine RL.sI (p:=p) (i:=0) (j:=20) bx (oG.cells) (bb.xf oG.au) ?_
 rintro w7 A7 bO cj l7
 refine go 13 ?_
 refine RL.sI (p:=p) (i:=0) (j:=3) bO (l7.cells) (bb.lz l7.au) ?_
 rintro w8 A8 bD cM vC
 refine go 4 ?_
 refine RL.sN (p:=p) (i:=0) (j:=17) (h1:=_) (n1:=_) bD (vC.cells) (bb.Ia (c:=fG.zero) vC.au (bm.nil _ _ _ (Nat.zero_le _))) ?_
 rintro w9 A9 bA cu oH
 refine go 4 ?_
 refine RL.sT (p:=p) (i:=0) (j:=23) bA (oH.cells) (bb.IH oH.au) ?_
 rintro eX ob bj cm lZ
 refine go 2 ?_
 refine cP (vs:=[]) rfl ?_
 have hh:n.s.ah.entries.head?=some (n.s.ah.entries[0]'(by have:=bU gi;omega)):=by rw[List.head?_eq_getElem?,List.getElem?_eq_getElem]
 exact aw.mq ((bj.aE).aE) ⟨rfl,_,lZ.to ((WX (bU iV)).trans (by rw[hh];rfl)).symm⟩
 refine go 12 ?_
 refine RL.sI (p:=p) (i:=0) (j:=3) bx (oG.cells) (bb.lz oG.au) ?_
 rintro iS Am cy dH yr
 refine go 4 ?_
 refine RL.sN (p:=p) (i:=0) (j:=17) (h1:=_) (n1:=_) cy (yr.cells) (bb.Ia (c:=fG.zero) yr.au (bm.nil _ _ _ (Nat.zero_le _))) ?_
 rintro jA An cw dK pw
 refine go 4 ?_
 refine RL.sT (p:=p) (i:=0) (j:=23) cw (pw.cells) (bb.IH pw.au) ?_
 rintro ji vK dd eh lF
 refine go 2 ?_
 refine cP (vs:=[]) rfl ?_
 have hh:n.s.ah.entries.head?=none:=by rw[List.head?_eq_none_iff];exact List.eq_nil_of_length_eq_zero (by have:=ct gi;omega)
 exact aw.mq ((dd.aE).aE) ⟨rfl,_,lF.to ((WX (bU iV)).trans (by rw[hh];rfl)).symm⟩
 refine go 12 ?_
 refine RL.sI (p:=p) (i:=0) (j:=3) bh (wK.cells) (bb.lz wK.au) ?_
 rintro nw yL ck g_ tS
 refine go 4 ?_
 refine RL.sN (p:=p) (i:=0) (j:=17) (h1:=_) (n1:=_) ck (tS.cells) (bb.Ia (c:=fG.zero) tS.au (bm.nil _ _ _ (Nat.zero_le _))) ?_
 rintro n_ R0 dt iW EY
 refine go 4 ?_
 refine RL.sT (p:=p) (i:=0) (j:=23) dt (EY.cells) (bb.IH EY.au) ?_
 rintro md LS eC ie nY
 refine go 2 ?_
 refine cP (vs:=[]) rfl ?_
 exact aw.mq ((eC.aE).aE) ⟨rfl,_,nY.to (ahq (n:=n) (sn:=sn) (by have:=ct iV;omega)).symm⟩
theorem Lt (c:fG) (m:az):(mb c m).1.index=m.index∧(mb c m).1.ab=m.cn:=by
 by_cases h:c.index≠m.index∨c.ab≠m.cn
 rw[Lu h];split<;>exact⟨rfl,rfl⟩
 rw[RE h]
 have h1:c.index=m.index:=Classical.byContradiction fun z=>h (.inl z)
 have h2:c.ab=m.cn:=Classical.byContradiction fun z=>h (.inr z)
 split<;>exact⟨h1,h2⟩
theorem Y1 (c:fG) (m:az):(mb c m).1.data.length≤c.data.length+m.data.length:=by
 by_cases h:c.index≠m.index∨c.ab≠m.cn
 rw[Lu h];split<;>simp
 rw[RE h];split<;>simp
theorem Qv (sn:gE):(n.dY sn).o.aG=n.o.aG:=by unfold ai.dY;dsimp only;split<;>rfl
theorem cJ.dY (hR:cJ n) {sn:gE} (h1:aq .u64 sn.index) (h2:aq .u64 sn.ab):cJ (n.dY sn):=by
 unfold ai.dY
 dsimp only
 split
 exact⟨hR.1,hR.2.1,hR.2.2.1,h1,h1,h2⟩
 exact⟨hR.1,hR.2.1,hR.2.2.1,h1,h1,h2⟩
theorem yW {m:az} (h0:n.s.aO=4∨eg m.aJ≠0∨n.s.af.ab<m.cn):n.lR m=n:=by unfold ai.lR;rw[if_pos h0]
theorem AE {m:az} (h0:¬ (n.s.aO=4∨eg m.aJ≠0∨n.s.af.ab<m.cn)) (h1:m.index≤(n.calm m.am).s.af.aB):n.lR m=(n.calm m.am).post { az.zero with ao:=6,to:=m.am,index:=(n.calm m.am).s.af.aB }:=by
 unfold ai.lR;rw[if_neg h0];exact if_pos h1
theorem AF {m:az} {T:fG × Bool} (h0:¬ (n.s.aO=4∨eg m.aJ≠0∨n.s.af.ab<m.cn)) (h1:¬ m.index≤(n.calm m.am).s.af.aB) (hT:mb (n.calm m.am).s.part m=T) (h2:T.2=false) :
  n.lR m=((n.calm m.am).LL T.1).post { az.zero with ao:=8,to:=m.am,index:=m.index,hint:=T.1.data.length }:=by
 subst hT;unfold ai.lR;rw[if_neg h0];exact (if_neg h1).trans (if_pos h2)
theorem yV {m:az} {T:fG × Bool} (h0:¬ (n.s.aO=4∨eg m.aJ≠0∨n.s.af.ab<m.cn)) (h1:¬ m.index≤(n.calm m.am).s.af.aB) (hT:mb (n.calm m.am).s.part m=T) (h2:¬ T.2=false) :
  n.lR m=((n.calm m.am).dY (Dc T.1 m.aJ)).post { az.zero with ao:=6,to:=m.am,index:=m.index }:=by
 subst hT;unfold ai.lR;rw[if_neg h0];exact (if_neg h1).trans (if_neg h2)
theorem Nd.part (nd:Nd s A p h n):bm (ax .u8) 1 s h.ta h.tc n.s.part.data:=nd.au.2.2.2.2.2.2.1
theorem abJ {m:az} {y:cG} (hg:ak w s (A::os)) (nd:Nd s A p h n) (hR:cJ n) (hr:n.mX) (hm:du s m y) (jw:m.bL) (iO:n.s.part.data.length+m.data.length≤70368744177664) :
  Calls Tryz.prog 110 #[ptr p,.agg (gZ m y).toArray] w (iw w s os p (.tuple #[]) (n.lR m)):=by
 obtain⟨hS,h1,h2,h3,h4⟩:=hr
 have jp:cJ (n.calm m.am):=hR.follow (ab:=n.s.af.ab) (gq:=m.am) hR.2.1
 have Gi:(n.calm m.am).s.ah.bL:=hS
 have hmq:(n.calm m.am).o.aG.length≤34359738368:=h3
 have p8:(mb (n.calm m.am).s.part m).1.data.length≤70368744177664:=Nat.le_trans (Y1 _ _) iO
 have EE:=Lt (n.calm m.am).s.part m
 refine enter (l:=[ptr p,.agg (gZ m y).toArray]) Tryz.func110 rfl Tryz.ntmps110 rfl ?_
 refine go 3 ?_
 rintro qV ny qn eZ hY nb
 refine go 4 ?_
 have fd:=eZ.drew
 refine CW.dw [1,3,5,7,9,11,13,15,17,18,21,23,25,27,29,31,33,35,37,39,41,43,45] (fun w=>ay p _ w∧ay qV _ w∧True) ?_
 refine go 7 ?_
 refine RL.part 12 rfl (fun lB=>?_) (fun lB=>?_)
 refine go 18 ?_
 refine CW.ret (kE ?_)
 exact aw.mq ((fd.ae 1 rfl).aE) ⟨rfl,_,nd.to (yW (.inl (by simpa using lB))).symm⟩
 refine go 3 ?_
 refine zw (Calls.ij (Ψ:=fun v=>v=i64 (eg m.aJ)) (IU fd hm.aJ jw.2.2.1.ic)) ?_
 rintro Ix pF fU jr rfl
 refine go 4 ?_
 refine RL.part 18 rfl (fun jC=>?_) (fun jC=>?_)
 refine go 12 ?_
 refine CW.ret (kE ?_)
 exact aw.mq ((fU.ae 1 rfl).aE) ⟨rfl,_,nd.to (yW (.inr (.inl (by simpa using jC)))).symm⟩
 refine go 11 ?_
 refine CW.cond rfl (fun oU=>?_) (fun oU=>?_)
 refine CW.ret (kE ?_)
 exact aw.mq ((fU.ae 1 rfl).aE) ⟨rfl,_,nd.to (yW (.inr (.inr (bU oU)))).symm⟩
 have bW:¬ (n.s.aO=4∨eg m.aJ≠0∨n.s.af.ab<m.cn):=fun z=>z.elim (fun z=>by simp[z] at lB) (fun z=>z.elim (fun z=>by simp[z] at jC) (ct oU))
 refine go 2 ?_
 have e_:=fU.drew
 refine CW.dx [1,3,5,7,9,11,13,15,17] [18] 9 1 (fun w=>ay p _ w∧ay qV _ w∧True) ?_
 refine go 12 ?_
 refine zc (DI (e_.ae 1 rfl) nd) ?_
 rintro Fs Ro IJ oN G1 fv iX ⟨rfl,m_,z8⟩
 have hm:=hm.up G1
 refine go 8 ?_
 refine RL.sI (p:=p) (i:=0) (j:=14) fv (z8.cells) (bb.dN z8.au) ?_
 rintro qN Z1 iL lh H1
 refine go 4 ?_
 have iM:=iL.drew
 refine CW.dw [1,3,5,7,9,11,13,15,17] (fun w=>ay qV _ w∧ay p _ w∧True) ?_
 have nq:=H1.to (show _=n.calm m.am from rfl)
 refine go 10 ?_
 refine CW.cond rfl (fun DL=>?_) (fun DL=>?_)
 refine go 1 ?_
 have gB:=iM.drew
 refine CW.dx [1,3,5,7,9,11,13,15,17,19] [20] 10 1 (fun w=>ay qV _ w∧ay p _ w∧True) ?_
 refine go 13 ?_
 refine zc (kV (m:={ az.zero with ao:=6,to:=m.am,index:=(n.calm m.am).s.af.aB }) (y:=cG.none) gB nq jp { du.zero _ with ao:=by simp[aq],to:=hm.am,index:=jp.2.2.2.1 } (by omega)) ?_
 rintro v25 Rp Z2 ul wr js ou ⟨rfl,ma25,mc25,sF⟩
 have hm:=hm.up wr
 refine go 2 ?_
 refine CW.ret (kE ?_)
 exact aw.mq (js.aE) ⟨rfl,_,sF.to (AE bW (bU DL)).symm⟩
 refine go 2 ?_
 have gk:=iM.drew
 refine CW.lb (.dV [(true,0),(true,1),(true,2),(true,3),(true,4),(true,5)] (.line [(false,6),(true,7),(true,8),(true,9),(false,10),(false,11),(false,12)]) (.line [(false,10),(false,6),(true,7),(true,8),(true,9),(false,11),(false,12)])) (fun w=>ay p _ w∧ay qV _ w∧True) mixed (by kernel_rfl) (by kernel_rfl) (by kernel_rfl) (by kernel_rfl) (⟨gk.bS (by simp) nq.cells,gk.bS (by simp) nb,trivial⟩) ?_
 refine RT.pre (S:=fun w=>ay p _ w∧ay qV _ w∧True) (⟨gk.bS (by simp) nq.cells,gk.bS (by simp) nb,trivial⟩) ?_
 refine go 7 ?_
 refine RT.eE (S:=fun w=>ay p _ w∧ay qV _ w∧True) (⟨gk.bS (by simp) nq.cells,gk.bS (by simp) nb,trivial⟩) (RT.di (S:=fun w=>ay p _ w∧ay qV _ w∧True) (⟨gk.bS (by simp) nq.cells,gk.bS (by simp) nb,trivial⟩) ?_) (RT.di (S:=fun w=>ay p _ w∧ay qV _ w∧True) (⟨gk.bS (by simp) nq.cells,gk.bS (by simp) nb,trivial⟩) ?_)
 refine go 1 ?_
 refine zc (SE gk nq.part hm iO) ?_
 rintro IC Ij B27 rH se iN mj ⟨SK,Ti,rfl,hT⟩
 have iN:=iN.drop
 have tU:=nq.up se
 have hm:=hm.up se
 generalize Gj:mb (n.calm m.am).s.part m=T at hT p8 EE ⊢
 refine go 5 ?_
 rintro S8 vI Dk i_ pS xH
 refine go 2 ?_
 rintro yG L7 ja rV N7
 refine go 9 ?_
 refine CW.cond rfl (fun qo=>?_) (fun qo=>?_)
 refine go 7 ?_
 refine RL.sN (p:=p) (i:=1) (j:=17) (h1:=_) (n1:=_) ja (tU.cells) (bb.Ia tU.au hT) ?_
 rintro Ah LV kQ uO sG
 refine go 12 ?_
 refine RL.conv rfl rfl rfl rfl Tryz.underlying3 Tryz.underlying22 rfl ((by simp only[aq];omega)) ?_
 refine go 2 ?_
 refine zc (kV (m:={ az.zero with ao:=8,to:=m.am,index:=m.index,hint:=T.1.data.length }) (y:=cG.none) (kQ.ae 1 rfl) sG (jp.of rfl jp.2.1 jp.2.2.1 jp.2.2.2.1 rfl) { du.zero _ with ao:=by simp[aq],to:=hm.am,index:=hm.index,hint:=by simp only[aq];omega } (by show n.o.aG.length≤_;omega)) ?_
 rintro v32 Rr LW sW tC iD ov ⟨rfl,ma32,mc32,z_⟩
 have hm:=hm.up tC
 refine go 2 ?_
 refine CW.ret (kE ?_)
 exact aw.mq ((iD.aE).aE) ⟨rfl,_,z_.to (AF bW (ct DL) Gj (by simpa using qo)).symm⟩
 refine go 8 ?_
 refine zc (SG ja hT hm.av hm.aD jw.2.2.1 (by omega)) ?_
 rintro Zt Yx B33 qi G3 c_ gR ⟨va,vc,la,lc,da,dc,rfl,fN,gl,Ox⟩
 have c_:=c_.drop
 have CG:=tU.up G3
 have hm:=hm.up G3
 refine go 2 ?_
 refine zc (WW (c_.ae 1 rfl) CG Gi fN gl Ox) ?_
 rintro v35 Lg IO uo zH jH ow ⟨rfl,pN,nZ⟩
 have hm:=hm.up zH
 refine go 10 ?_
 refine zc (kV (m:={ az.zero with ao:=6,to:=m.am,index:=m.index }) (y:=cG.none) jH nZ (jp.dY (by show aq .u64 T.1.index;rw[EE.1];exact hm.index) (by show aq .u64 T.1.ab;rw[EE.2];exact hm.cn)) { du.zero _ with ao:=by simp[aq],to:=hm.am,index:=hm.index } (by rw[Qv];omega)) ?_
 rintro v36 Yz qk nz J6 cS gS ⟨rfl,ma36,mc36,yv⟩
 have hm:=hm.up J6
 refine go 2 ?_
 refine cP (vs:=[]) rfl ?_
 exact aw.mq ((cS.aE).aE) ⟨rfl,_,yv.to (yV bW (ct DL) Gj (by simpa using qo)).symm⟩
 refine go 1 ?_
 rintro b37 qj Su dh im N9
 refine go 2 ?_
 refine zc (SE dh nq.part hm iO) ?_
 rintro Ft Lh B38 Ai sg mM uP ⟨SK,Ti,rfl,hT⟩
 have mM:=mM.drop
 have vA:=nq.up sg
 have hm:=hm.up sg
 generalize Gj:mb (n.calm m.am).s.part m=T at hT p8 EE ⊢
 refine go 5 ?_
 rintro nA Ma en gT JO
 refine go 9 ?_
 refine CW.cond rfl (fun qo=>?_) (fun qo=>?_)
 refine go 7 ?_
 refine RL.sN (p:=p) (i:=1) (j:=17) (h1:=_) (n1:=_) en (vA.cells) (bb.Ia vA.au hT) ?_
 rintro IF Z4 tx DY E4
 refine go 12 ?_
 refine RL.conv rfl rfl rfl rfl Tryz.underlying3 Tryz.underlying22 rfl ((by simp only[aq];omega)) ?_
 refine go 2 ?_
 refine zc (kV (m:={ az.zero with ao:=8,to:=m.am,index:=m.index,hint:=T.1.data.length }) (y:=cG.none) (tx.ae 1 rfl) E4 (jp.of rfl jp.2.1 jp.2.2.1 jp.2.2.2.1 rfl) { du.zero _ with ao:=by simp[aq],to:=hm.am,index:=hm.index,hint:=by simp only[aq];omega } (by show n.o.aG.length≤_;omega)) ?_
 rintro v42 YA Z5 LC En wk Gr ⟨rfl,ma42,mc42,CI⟩
 have hm:=hm.up En
 refine go 2 ?_
 refine CW.ret (kE ?_)
 exact aw.mq ((wk.aE).aE) ⟨rfl,_,CI.to (AF bW (ct DL) Gj (by simpa using qo)).symm⟩
 refine go 8 ?_
 refine zc (SG en hT hm.av hm.aD jw.2.2.1 (by omega)) ?_
 rintro v43 s43 B43 LG J8 wl DZ ⟨va,vc,la,lc,da,dc,rfl,fN,gl,Ox⟩
 have wl:=wl.drop
 have CJ:=vA.up J8
 have hm:=hm.up J8
 refine go 2 ?_
 refine zc (WW (wl.ae 1 rfl) CJ Gi fN gl Ox) ?_
 rintro v45 s45 Fz LI afu uW Gs ⟨rfl,ol,E6⟩
 have hm:=hm.up afu
 refine go 10 ?_
 refine zc (kV (m:={ az.zero with ao:=6,to:=m.am,index:=m.index }) (y:=cG.none) uW E6 (jp.dY (by show aq .u64 T.1.index;rw[EE.1];exact hm.index) (by show aq .u64 T.1.ab;rw[EE.2];exact hm.cn)) { du.zero _ with ao:=by simp[aq],to:=hm.am,index:=hm.index } (by rw[Qv];omega)) ?_
 rintro v46 s46 IP LJ afv zu Gt ⟨rfl,ma46,mc46,sH⟩
 have hm:=hm.up afv
 refine go 2 ?_
 refine cP (vs:=[]) rfl ?_
 exact aw.mq ((zu.aE).aE) ⟨rfl,_,sH.to (yV bW (ct DL) Gj (by simpa using qo)).symm⟩
end
end Go.Lw
namespace Go.Lw
open Go.Proofs
attribute [local irreducible] RL RA
section
variable {w:World} {s A:aj} {os:List aj} {p:Nat} {h:Hd} {n:ai}
abbrev CP (q:cK):List Value:=[i64 q.node,u64 q.next,u64 q.cA]
theorem FD.Fo {eV:Int} {a:Option Addr} (hp:FD h n eV a) (hn:a.isNone=false):∃ g k,∃ hk:k<n.s.aK.length,a=some ((⟨g,0,none⟩:Addr).add (k*3))∧h.pa=some ⟨g,0,none⟩∧n.gu eV=some n.s.aK[k]∧n.s.aK.findIdx? (fun p=>decide (p.node=eV))=some k:=by
 rcases hp with ⟨rfl,_⟩ | hp
 cases hn
 exact hp
theorem FD.eR {eV:Int} {a:Option Addr} (hp:FD h n eV a) (hn:a.isNone=true):n.gu eV=none:=by
 rcases hp with ⟨_,h0⟩ | ⟨g,k,hk,rfl,_⟩
 exact h0
 cases hn
theorem akn {cs:List Value} {i:Nat} {a b c:Value} (h0:cs[i]?=some a) (h1:cs[i+1]?=some b) (h2:cs[i+2]?=some c):cs.drop i=a::b::c::cs.drop (i+3):=by
 obtain⟨l0,e0⟩:=List.getElem?_eq_some_iff.1 h0
 obtain⟨l1,e1⟩:=List.getElem?_eq_some_iff.1 h1
 obtain⟨l2,e2⟩:=List.getElem?_eq_some_iff.1 h2
 rw[List.drop_eq_getElem_cons l0,List.drop_eq_getElem_cons l1,List.drop_eq_getElem_cons l2,e0,e1,e2]
theorem Nd.X0 {g k:Nat} (nd:Nd s A p h n) (hk:k<n.s.aK.length) (ip:h.pa=some ⟨g,0,none⟩) :
  ∃ cs,A g=some (.cells cs 136 (0,0))∧k*3+3≤cs.size∧(∀ (j:Nat) u,(CP n.s.aK[k])[j]?=some u→cs.toList[k*3+j]?=some u)∧fI s (CP n.s.aK[k]) n.s.aK[k]:=by
 rcases nd.aK with ⟨h1,_⟩ | ⟨g',cs,h1,hA,h4,h5,h6,h7⟩
 rw[ip] at h1;cases h1
 rw[ip] at h1;cases h1
 obtain⟨vs,hv,hc,hR⟩:=h7.get (List.getElem?_eq_getElem hk)
 have lC:=hR
 obtain⟨rfl,_⟩:=lC
 refine⟨cs,hA,by rw[h6];omega,fun j u hu=>?_,hR⟩
 have:=hc j u hu
 rw[List.getElem?_take] at this
 split at this
 exact this
 cases this
theorem Nd.vD {g k:Nat} (nd:Nd s A p h n) (hk:k<n.s.aK.length) (ip:h.pa=some ⟨g,0,none⟩):Holds A ((⟨g,0,none⟩:Addr).add (k*3)) (CP n.s.aK[k]):=by
 obtain⟨cs,hA,_,hc,_⟩:=nd.X0 hk ip
 exact aW.lG hA hc
theorem RL.Lr {P:Program} {m:Nat} {ops:Array Oper} {Q:Exit→Act→World→Prop} {S:World→Prop} {au:List (Bool × Oper)} {E:dE} {o:Oper} {x y:Operand} {t:TypeId} {g k j:Nat} {i:Nat} {v:Int} (q:cK) (hg:bR ops E o=some true) (hd:o.dst=none) (ho:o.op = .store t x y) (ht:dD P t=some (false,1))
  (hk:k<n.s.aK.length) (ip:h.pa=some ⟨g,0,none⟩)
  (hx:ev E x=some (.pointer (some (((⟨g,0,none⟩:Addr).add (k*3)).add j)))) (hy:ev E y=some (u64 v)) (hG:ak w s os) (hi:os[i]?=some A) (nd:Nd s A p h n) (hj:j<3) (hq:CP q=(CP n.s.aK[k]).set j (u64 v)) (hr:aq .i64 q.node∧aq .u64 q.next∧aq .u64 q.cA)
  (hc:∀ w' A',ak w' s (os.set i A')→ar w w'→Nd s A' p h (n.mZ (n.s.aK.set k q))→S w'∧RL P m ops Q S au E w'):RL P m ops Q S ((false,o)::au) E w:=by
 obtain⟨cs,hA,j5,wi,_⟩:=nd.X0 hk ip
 have D5:cs.toList.drop (k*3)=i64 n.s.aK[k].node::u64 n.s.aK[k].next::u64 n.s.aK[k].cA::cs.toList.drop (k*3+3):=akn (wi 0 _ rfl) (wi 1 _ rfl) (wi 2 _ rfl)
 have tw:cs.toList.drop (k*3+1)=u64 n.s.aK[k].next::u64 n.s.aK[k].cA::cs.toList.drop (k*3+3):=by rw[←List.drop_drop,D5];rfl
 have Ov:cs.toList.drop (k*3+2)=u64 n.s.aK[k].cA::cs.toList.drop (k*3+3):=by rw[←List.drop_drop,D5];rfl
 have EC:cs.toList.take (k*3+1)=cs.toList.take (k*3)++[i64 n.s.aK[k].node]:=by rw[List.take_add,D5];rfl
 have iP:cs.toList.take (k*3+2)=cs.toList.take (k*3)++[i64 n.s.aK[k].node,u64 n.s.aK[k].next]:=by rw[List.take_add,D5];rfl
 have Oy:cs.toList.take (k*3+j)++[u64 v]++cs.toList.drop (k*3+j+1)=cs.toList.take (k*3)++CP q++cs.toList.drop (k*3+3):=by
  rw[hq]
  rcases j with _ | _ | _ | j
  show cs.toList.take (k*3)++[u64 v]++cs.toList.drop (k*3+1)=_
  rw[tw];simp
  show cs.toList.take (k*3+1)++[u64 v]++cs.toList.drop (k*3+2)=_
  rw[EC,Ov];simp
  show cs.toList.take (k*3+2)++[u64 v]++cs.toList.drop (k*3+3)=_
  rw[iP];simp
  omega
 refine RL.store (b:=g) (j:=k*3+j) hg hd ho ht (by rw[hx,SR]) hy hG hi hA rfl (by simp[Value.cells,Value.oneCell']) (by omega) fun w' h2 h3=>?_
 rw[show (u64 v).cells.toList=[u64 v] from rfl,Oy] at h2
 refine hc w' _ h2 h3 ?_
 have pk:=aW.set (x:=q) (vs:=CP q) (ip▸nd.aK) hA hk rfl ⟨rfl,hr⟩
 have hpg:p≠g:=fun e=>by
  have h1:=nd.cells
  rw[e,hA] at h1
  injection h1 with h1
  injection h1 with _ h1
  exact absurd h1 (by decide)
 have mP:∀ ad,h.pa=some ad→ad.block=g:=fun ad he=>by rw[ip] at he;cases he;rfl
 have hb:=nd.aK
 obtain⟨a,b,c,d,e,f,g',i',j',l⟩:=nd.au
 have hz:py (n.mZ (n.s.aK.set k q)) h=py n h:=by
  have hl:(n.mZ (n.s.aK.set k q)).s.aK.length=n.s.aK.length:=List.length_set ..
  simp only[py,hl];rfl
 refine⟨by rw[ajc _ _ hpg,nd.cells,hz],a,b,c,d.put (fun ad he hz=>(hb.dj d (by decide)) _ ad ip he hz.symm) _,e.put (fun ad he hz=>(hb.dj e (by decide)) _ ad ip he hz.symm) _,?_,g',i'.put (fun ad he hz=>(hb.dj i' (by decide)) _ ad ip he hz.symm) _,j'.put (fun ad he hz=>(hb.dj j' (by decide)) _ ad ip he hz.symm) _,l⟩
 rw[show h.pa=some ⟨g,0,none⟩ from ip]
 exact pk
theorem abL {m:az} {q:cK} (h0:n.gu m.am=some q) (h1:n.s.aO=4∧q.next≤n.s.ah.aF.index∧m.index=n.s.ah.aF.index):n.oT m=n.lq m.am m.hint:=by
 unfold ai.oT;rw[h0];exact if_pos h1
theorem Jj {m:az} (h0:n.s.aO≠4∨n.gu m.am=none∨∃ q,n.gu m.am=some q∧¬ (q.next≤n.s.ah.aF.index∧m.index=n.s.ah.aF.index)):n.oT m=n:=by
 unfold ai.oT
 cases hp:n.gu m.am with
 | none=>rfl
 | some q =>
  refine if_neg fun z=>?_
  rcases h0 with h | h | ⟨q',h,h'⟩
  exact h z.1
  rw[hp] at h;cases h
  rw[hp] at h;cases h;exact h' z.2
theorem abK {m:az} {y:cG} (hg:ak w s (A::os)) (nd:Nd s A p h n) (hR:cJ n) (hr:n.mX) (hm:du s m y) :
  Calls Tryz.prog 111 #[ptr p,.agg (gZ m y).toArray] w (iw w s os p (.tuple #[]) (n.oT m)):=by
 obtain⟨hS,h1,h2,h3,h4⟩:=hr
 refine enter (l:=[ptr p,.agg (gZ m y).toArray]) Tryz.func111 rfl Tryz.ntmps111 rfl ?_
 refine go 3 ?_
 rintro b1 w1 Q1 aH aN cz
 refine go 8 ?_
 refine zw (KZ (aH.ae 1 rfl) nd) ?_
 rintro v2 w2 aS aR ⟨a8,rfl,mP⟩
 refine go 4 ?_
 have aP:=aS.drew
 refine CW.dw [1,3,5,7,9,11,13,15,17,19,21,23,25,27,29,31,33,35,37,39,41,43,45,47,49,51,53,55,57,59,61,63,65,67,69,71] (fun w=>ay p _ w∧ay b1 _ w∧In A w∧True) ?_
 refine go 7 ?_
 refine RL.part 15 rfl (fun mG=>?_) (fun mG=>?_)
 refine go 1 ?_
 refine RL.ai9 rfl rfl rfl rfl Tryz.underlying162 rfl rfl ?_
 refine go 2 ?_
 refine RL.part 19 rfl (fun oh=>?_) (fun oh=>?_)
 obtain⟨g,k,hk,rfl,ip,ss,eG⟩:=mP.Fo (by simpa using oh)
 refine go 3 ?_
 refine RL.fV (j:=1) rfl rfl rfl rfl aV.out rfl (nd.vD hk ip) (fun w h=>h.2.2.1) rfl ?_
 refine go 10 ?_
 refine RL.part 33 rfl (fun iV=>?_) (fun iV=>?_)
 refine go 12 ?_
 refine CW.cond rfl (fun xA=>?_) (fun xA=>?_)
 refine go 7 ?_
 refine zc (X4 aP nd hR (br.bL.aF hS) hm.am hm.hint (by omega)) ?_
 rintro v4 s4 A4 w4 fL bp bJ ⟨rfl,ma4,mc4,vB⟩
 refine go 2 ?_
 refine cP (vs:=[]) rfl ?_
 exact aw.mq (bp.aE) ⟨rfl,_,vB.to (abL ss ⟨by simpa using mG,bU iV,by simpa using xA⟩).symm⟩
 refine go 1 ?_
 refine cP (vs:=[]) rfl ?_
 exact aw.mq (aP.aE) ⟨rfl,_,nd.to (Jj (.inr (.inr ⟨_,ss,fun z=>by simp[z.2] at xA⟩))).symm⟩
 refine go 14 ?_
 refine cP (vs:=[]) rfl ?_
 exact aw.mq (aP.aE) ⟨rfl,_,nd.to (Jj (.inr (.inr ⟨_,ss,fun z=>ct iV z.1⟩))).symm⟩
 refine go 28 ?_
 refine cP (vs:=[]) rfl ?_
 exact aw.mq (aP.aE) ⟨rfl,_,nd.to (Jj (.inr (.inl (mP.eR (by simpa using oh))))).symm⟩
 refine go 32 ?_
 refine cP (vs:=[]) rfl ?_
 exact aw.mq (aP.aE) ⟨rfl,_,nd.to (Jj (.inl (by simpa using mG))).symm⟩
theorem Zb {to:Int} (h0:n.gu to=none∨to∉n.av):n.nt to=(n,1):=by
 unfold ai.nt
 cases hp:n.gu to with
 | none=>rfl
 | some q=>exact if_pos (h0.resolve_left (by rw[hp];simp))
theorem aks {to:Int} {q:cK} (h0:n.gu to=some q) (h1:to∈n.av) (h2:q.cA=n.aZ):n.nt to=(((n.mC to).dN 0).post { az.zero with ao:=9,to:=to },0):=by
 unfold ai.nt;rw[h0];simp only[if_neg (show ¬ to∉n.av from fun z=>z h1),if_pos h2];rfl
theorem akr {to:Int} {q:cK} (h0:n.gu to=some q) (h1:to∈n.av) (h2:¬ q.cA=n.aZ):n.nt to=(((n.mC to).dN 0).fA q,0):=by
 unfold ai.nt;rw[h0];simp only[if_neg (show ¬ to∉n.av from fun z=>z h1),if_neg h2];rfl
theorem akq {to:Int} (hg:ak w s (A::os)) (nd:Nd s A p h n) (hR:cJ n) (hr:n.mX) (ew:aq .i64 to) :
  Calls Tryz.prog 75 #[ptr p,i64 to] w (iw w s os p (i64 (n.nt to).2) (n.nt to).1):=by
 obtain⟨hS,h1,h2,h3,h4⟩:=hr
 have lC:cJ ((n.mC to).dN 0):=hR
 refine enter (l:=[ptr p,i64 to]) Tryz.func75 rfl Tryz.ntmps75 rfl ?_
 refine go 9 ?_
 refine zw (KZ hg nd) ?_
 rintro v5 w5 bh bQ ⟨a8,rfl,mP⟩
 refine go 7 ?_
 refine RL.Rf rfl rfl rfl rfl Tryz.underlying162 rfl rfl ?_
 refine go 1 ?_
 refine RL.part 11 rfl (fun jo=>?_) (fun jo=>?_)
 refine go 12 ?_
 refine CW.ret (bP ?_)
 rw[Zb (.inl (mP.eR (by simpa using jo)))]
 exact aw.mq bh ⟨rfl,_,nd⟩
 refine go 2 ?_
 refine zc (LB bh nd hR hS) ?_
 rintro v6 s6 B6 w6 jv bx bM ⟨va,vc,rfl,p9⟩
 have bx:=bx.drop
 have l7:=nd.up jv
 refine go 3 ?_
 refine zw (IW bx p9) ?_
 rintro v8 w8 bD cM rfl
 refine go 4 ?_
 refine CW.cond rfl (fun mf=>?_) (fun mf=>?_)
 refine go 4 ?_
 refine CW.ret (bP ?_)
 rw[Zb (.inr (by simpa using mf))]
 exact aw.mq bD ⟨rfl,_,l7⟩
 have cq:to∈n.av:=by simpa using mf
 obtain⟨g,k,hk,rfl,ip,ss,eG⟩:=mP.Fo (by simpa using jo)
 refine go 9 ?_
 refine RL.sI (p:=p) (i:=0) (j:=16) bD (l7.cells) (bb.mC l7.au) ?_
 rintro w9 A9 bA cu oH
 refine go 4 ?_
 refine RL.sI (p:=p) (i:=0) (j:=14) bA (oH.cells) (bb.dN oH.au) ?_
 rintro eX ob bj cm lZ
 refine go 4 ?_
 have cy:=bj.drew
 refine CW.dw [1,3,5,7,9,10,13] (fun w=>In ob w∧True) ?_
 refine go 3 ?_
 refine RL.fV (j:=2) rfl rfl rfl rfl aV.out rfl (lZ.vD hk ip) (fun w h=>h.1) rfl ?_
 refine go 2 ?_
 refine zw (qI cy lZ lC) ?_
 rintro ui jA cw dK rfl
 refine go 3 ?_
 refine CW.cond rfl (fun iV=>?_) (fun iV=>?_)
 refine go 5 ?_
 refine zc (kV (m:={ az.zero with ao:=9,to:=to }) (y:=cG.none) cw lZ lC { du.zero _ with ao:=by simp[aq],to:=ew } (by show n.o.aG.length≤_;omega)) ?_
 rintro yC Fc vK ji nR dd eh ⟨rfl,ma13,mc13,lF⟩
 refine go 6 ?_
 refine CW.ret (bP ?_)
 rw[aks ss cq (eq_of_beq iV)]
 exact aw.mq dd ⟨rfl,_,lF⟩
 refine go 4 ?_
 refine RL.gX (ad:=(⟨g,0,none⟩:Addr).add (k*3)) (j:=0) rfl rfl rfl rfl yB.out rfl (lZ.vD hk ip) (cw.mem (by simp)) rfl rfl ?_
 refine go 1 ?_
 refine zc (FY cw lZ lC hS (nd.H8 _ (List.getElem_mem hk)).1 (nd.H8 _ (List.getElem_mem hk)).2.1 (by show n.o.aG.length≤_;omega)) ?_
 rintro Iw vE yL nw gm ck g_ ⟨rfl,ma14,mc14,tS⟩
 refine go 6 ?_
 refine CW.ret (bP ?_)
 rw[akr ss cq (ne_of_beq_false iV)]
 exact aw.mq ck ⟨rfl,_,tS⟩
def ai.db (n:ai) (k:Nat) (q:cK):ai:=n.mZ (n.s.aK.set k q)
theorem YG {eV:Int} {k:Nat} {q:cK} (h0:n.s.aK.findIdx? (fun p=>decide (p.node=eV))=some k):n.Lk eV (fun _=>q)=n.db k q:=by
 unfold ai.Lk
 rw[h0]
 simp only[ai.db,ai.mZ]
 congr 2
 refine List.ext_getElem? fun j=>?_
 rw[List.getElem?_modify,List.getElem?_set]
 by_cases hj:k=j
 subst hj
 have hk:=(List.findIdx?_eq_some_iff_getElem.1 h0).1
 simp[hk]
 simp[hj]
theorem y8 {m:az} (h0:n.s.aO≠4∨n.gu m.am=none∨n.aZ<m.index):n.kM m=n:=by
 unfold ai.kM
 cases hp:n.gu m.am with
 | none=>rfl
 | some q =>
  refine if_pos ?_
  rcases h0 with h | h | h
  exact .inl h
  rw[hp] at h;cases h
  exact .inr h
theorem y9 {m:az} {q:cK} {k:Nat} (h0:n.s.aO=4) (h1:n.gu m.am=some q) (h2:¬ n.aZ<m.index) (h3:m.bT=true) (eG:n.s.aK.findIdx? (fun p=>decide (p.node=m.am))=some k) (x:Int) (hx:x=if m.hint<m.index then m.hint+1 else max m.index 1) :
  n.kM m=(n.db k { q with next:=max x (bF q.cA) }).fA { q with next:=max x (bF q.cA) }:=by
 subst hx
 unfold ai.kM;rw[h1]
 refine (if_neg (fun z=>z.elim (fun z=>z h0) h2)).trans ((if_pos h3).trans ?_)
 dsimp only
 rw[YG eG]
def cK.up (q:cK) (x:Int):cK:={ q with cA:=max q.cA x,next:=max q.next (bF (max q.cA x)) }
noncomputable def ai.after (a b:ai) (q:cK) (am:Int):ai :=
 let c:=if a.s.af.aB<b.s.af.aB then b.gD else if q.next≤b.aZ then b.fA q else b
 if a.s.eW=am∧q.cA=c.aZ then c.post { az.zero with ao:=9,to:=am } else c
theorem AY {m:az} {q:cK} {k:Nat} (h0:n.s.aO=4) (h1:n.gu m.am=some q) (h2:¬ n.aZ<m.index) (h3:¬ m.bT=true) (eG:n.s.aK.findIdx? (fun p=>decide (p.node=m.am))=some k) :
  n.kM m=if (n.db k (q.up m.index)).count.s.aO≠4 then (n.db k (q.up m.index)).count else ai.after (n.db k (q.up m.index)) (n.db k (q.up m.index)).count (q.up m.index) m.am:=by
 unfold ai.kM;rw[h1]
 refine (if_neg (fun z=>z.elim (fun z=>z h0) h2)).trans ((if_neg h3).trans ?_)
 simp only[YG eG]
 rfl
theorem Lq:n.gD.s=n.s:=ai.T3 _ _
theorem ade {m:az} {y:cG} (hg:ak w s (A::os)) (nd:Nd s A p h n) (hR:cJ n) (hr:n.mX) (hm:du s m y) :
  Calls Tryz.prog 109 #[ptr p,.agg (gZ m y).toArray] w (iw w s os p (.tuple #[]) (n.kM m)):=by
 obtain⟨hS,h1,h2,h3,h4⟩:=hr
 have cH:=hm.index
 have mN:=hm.hint
 simp only[aq] at cH mN
 refine enter (l:=[ptr p,.agg (gZ m y).toArray]) Tryz.func109 rfl Tryz.ntmps109 rfl ?_
 refine go 3 ?_
 rintro FL n_ xj dt iW q_
 refine go 8 ?_
 refine zw (KZ (dt.ae 1 rfl) nd) ?_
 rintro w_ md eC ie ⟨Dn,rfl,mP⟩
 refine go 5 ?_
 have eZ:=eC.drew
 refine CW.dw [1,3,5,7,9,11,13,15,17,19,21,23,25,27,28,31,33] (fun w=>ay p _ w∧ay FL _ w∧True) ?_
 refine go 7 ?_
 refine RL.part 19 rfl (fun oh=>?_) (fun oh=>?_)
 refine go 12 ?_
 refine CW.ret (kE ?_)
 exact aw.mq (eZ.aE) ⟨rfl,_,nd.to (y8 (.inl (by simpa using oh))).symm⟩
 refine go 1 ?_
 refine RL.Rf rfl rfl rfl rfl Tryz.underlying162 rfl rfl ?_
 refine go 2 ?_
 refine RL.part 23 rfl (fun nL=>?_) (fun nL=>?_)
 refine go 8 ?_
 refine CW.ret (kE ?_)
 exact aw.mq (eZ.aE) ⟨rfl,_,nd.to (y8 (.inr (.inl (mP.eR (by simpa using nL))))).symm⟩
 refine go 4 ?_
 refine zw (qI eZ nd hR) ?_
 rintro Fr oM fd iC rfl
 refine go 4 ?_
 refine CW.cond rfl (fun iB=>?_) (fun iB=>?_)
 refine CW.ret (kE ?_)
 exact aw.mq (fd.aE) ⟨rfl,_,nd.to (y8 (.inr (.inr (bU iB)))).symm⟩
 have jM:n.s.aO=4:=by simpa using oh
 have fK:=ct iB
 obtain⟨g,k,hk,rfl,ip,ss,eG⟩:=mP.Fo (by simpa using nL)
 have vi:=nd.H8 _ (List.getElem_mem hk)
 refine go 7 ?_
 refine CW.cond rfl (fun Bb=>?_) (fun Bb=>?_)
 refine go 4 ?_
 refine RL.max rfl rfl rfl rfl rfl rfl ?_
 rw[KU]
 refine go 11 ?_
 refine CW.cond rfl (fun nM=>?_) (fun nM=>?_)
 obtain⟨x,ym⟩:∃ x,x=m.hint+1:=⟨_,rfl⟩
 have hx:x=if m.hint<m.index then m.hint+1 else max m.index 1:=by rw[ym,if_pos (bU nM)]
 have Ku:aq .u64 x:=by have:=bU nM;rw[ym];simp only[aq];omega
 refine go 3 ?_
 refine RL.add rfl rfl rfl rfl rfl rfl ((by have:=bU nM;simp only[aq];omega)) ?_
 refine go 9 ?_
 refine RL.load (j:=2) rfl rfl rfl rfl aV.out rfl (nd.vD hk ip) (fd.mem (by simp)) rfl ?_
 refine RL.nH rfl rfl rfl rfl (u64 (bF n.s.aK[k].cA)) (rfl) ?_
 refine RL.max rfl rfl rfl rfl rfl rfl ?_
 rw[ES,← ym]
 refine go 2 ?_
 have Wt:=vG n.s.aK[k].cA
 have nT:aq .u64 (max x (bF n.s.aK[k].cA)):=by rw[Int.max_def];split<;>assumption
 obtain⟨q',lE⟩:∃ q':cK,q'={ n.s.aK[k] with next:=max x (bF n.s.aK[k].cA) }:=⟨_,rfl⟩
 refine RL.Lr (k:=k) (j:=1) (i:=0) q' rfl rfl rfl aV.out hk ip rfl rfl fd rfl nd (by omega) (by rw[lE];rfl) (by rw[lE];exact⟨vi.1,nT,vi.2.2⟩) ?_
 intro wS AS er iY (ndS:Nd _ AS p _ (n.db k q'))
 refine go 7 ?_
 have o6:k<(n.db k q').s.aK.length:=by simp only[ai.db,ai.mZ,List.length_set];exact hk
 have Ec:(n.db k q').s.aK[k]=q':=List.getElem_set_self ..
 have hH:=ndS.vD o6 ip
 rw[show (n.db k q').s.aK[k]=q' from Ec] at hH
 refine RL.gX (ad:=(⟨g,0,none⟩:Addr).add (k*3)) (j:=0) rfl rfl rfl rfl yB.out rfl hH (er.mem (by simp)) rfl rfl ?_
 refine go 1 ?_
 refine zc (FY (q:=q') er ndS hR hS (by rw[lE];exact vi.1) (by rw[lE];exact nT) (by show n.o.aG.length≤_;omega)) ?_
 rintro Ix Rn Z0 pF u9 fU jr ⟨rfl,ma19,mc19,H0⟩
 have hm:=hm.up u9
 refine go 2 ?_
 refine CW.ret (kE ?_)
 exact aw.mq (fU.aE) ⟨rfl,_,H0.to (by rw[lE];exact (y9 jM ss fK Bb eG x hx).symm)⟩
 obtain⟨x,ym⟩:∃ x,x=max m.index 1:=⟨_,rfl⟩
 have hx:x=if m.hint<m.index then m.hint+1 else max m.index 1:=by rw[ym,if_neg (ct nM)]
 have Ku:aq .u64 x:=by rw[ym,Int.max_def];simp only[aq];split<;>omega
 refine go 8 ?_
 refine RL.load (j:=2) rfl rfl rfl rfl aV.out rfl (nd.vD hk ip) (fd.mem (by simp)) rfl ?_
 refine RL.nH rfl rfl rfl rfl (u64 (bF n.s.aK[k].cA)) (rfl) ?_
 refine RL.max rfl rfl rfl rfl rfl rfl ?_
 rw[ES,← ym]
 refine go 2 ?_
 have Wt:=vG n.s.aK[k].cA
 have nT:aq .u64 (max x (bF n.s.aK[k].cA)):=by rw[Int.max_def];split<;>assumption
 obtain⟨q',lE⟩:∃ q':cK,q'={ n.s.aK[k] with next:=max x (bF n.s.aK[k].cA) }:=⟨_,rfl⟩
 refine RL.Lr (k:=k) (j:=1) (i:=0) q' rfl rfl rfl aV.out hk ip rfl rfl fd rfl nd (by omega) (by rw[lE];rfl) (by rw[lE];exact⟨vi.1,nT,vi.2.2⟩) ?_
 intro wS AS er iY (ndS:Nd _ AS p _ (n.db k q'))
 refine go 7 ?_
 have o6:k<(n.db k q').s.aK.length:=by simp only[ai.db,ai.mZ,List.length_set];exact hk
 have Ec:(n.db k q').s.aK[k]=q':=List.getElem_set_self ..
 have hH:=ndS.vD o6 ip
 rw[show (n.db k q').s.aK[k]=q' from Ec] at hH
 refine RL.gX (ad:=(⟨g,0,none⟩:Addr).add (k*3)) (j:=0) rfl rfl rfl rfl yB.out rfl hH (er.mem (by simp)) rfl rfl ?_
 refine go 1 ?_
 refine zc (FY (q:=q') er ndS hR hS (by rw[lE];exact vi.1) (by rw[lE];exact nT) (by show n.o.aG.length≤_;omega)) ?_
 rintro Iy Ii R2 qh tB e_ jE ⟨rfl,ma20,mc20,KL⟩
 have hm:=hm.up tB
 refine go 2 ?_
 refine CW.ret (kE ?_)
 exact aw.mq (e_.aE) ⟨rfl,_,KL.to (by rw[lE];exact (y9 jM ss fK Bb eG x hx).symm)⟩
 obtain⟨q1,iq⟩:∃ q1:cK,q1={ n.s.aK[k] with cA:=max n.s.aK[k].cA m.index }:=⟨_,rfl⟩
 have mo:k<(n.db k q1).s.aK.length:=by simp only[ai.db,ai.mZ,List.length_set];exact hk
 have VE:(n.db k q1).s.aK[k]=q1:=List.getElem_set_self ..
 have hm1r:aq .u64 q1.cA:=by rw[iq];show aq .u64 (max n.s.aK[k].cA m.index);rw[Int.max_def];split;exact hm.index;exact vi.2.2
 have hq1n:q1.node=n.s.aK[k].node:=by rw[iq]
 have hq1x:q1.next=n.s.aK[k].next:=by rw[iq]
 have hq1m:q1.cA=max n.s.aK[k].cA m.index:=by rw[iq]
 refine go 2 ?_
 have fv:=fd.drew
 refine CW.dx [1,3,5,7,9,11,13,15,17,19] [20] 10 1 (fun w=>ay FL _ w∧In A w∧True) ?_
 refine go 4 ?_
 refine RL.fV (j:=2) rfl rfl rfl rfl aV.out rfl (nd.vD hk ip) (fun w h=>h.2.1) rfl ?_
 refine go 2 ?_
 refine RL.max rfl rfl rfl rfl rfl rfl ?_
 rw[ES,← hq1m]
 refine go 4 ?_
 refine RL.Lr (k:=k) (j:=2) (i:=0) q1 rfl rfl rfl aV.out hk ip rfl rfl fv rfl nd (by omega) (by rw[iq];rfl) ⟨by rw[hq1n];exact vi.1,by rw[hq1x];exact vi.2.1,hm1r⟩ ?_
 intro wT AT hgT aoS (ndT:Nd _ AT p _ (n.db k q1))
 refine go 3 ?_
 have iL:=hgT.drew
 refine CW.dx [1,3,5,7,9,11,13,15,17,19,21,23,25] [26] 13 1 (fun w=>In AT w∧True) ?_
 have oo:=ndT.vD mo ip
 rw[show (n.db k q1).s.aK[k]=q1 from VE] at oo
 refine go 4 ?_
 refine RL.fV (j:=1) rfl rfl rfl rfl aV.out rfl (oo) (fun w h=>h.1) rfl ?_
 refine go 3 ?_
 refine RL.fV (j:=2) rfl rfl rfl rfl aV.out rfl (oo) (fun w h=>h.1) rfl ?_
 refine RL.nH rfl rfl rfl rfl (u64 (bF q1.cA)) (rfl) ?_
 refine RL.max rfl rfl rfl rfl rfl rfl ?_
 rw[ES]
 refine go 4 ?_
 have Wt:=vG q1.cA
 have nT:aq .u64 (max q1.next (bF q1.cA)):=by rw[Int.max_def];split;assumption;rw[hq1x];exact vi.2.1
 have pg:n.s.aK[k].up m.index={ q1 with next:=max q1.next (bF q1.cA) }:=by rw[iq];rfl
 refine RL.Lr (k:=k) (j:=1) (i:=0) (n.s.aK[k].up m.index) rfl rfl rfl aV.out mo ip rfl rfl iL rfl ndT (by omega) (by rw[VE,pg];rfl) (by rw[pg];exact⟨by rw[hq1n];exact vi.1,nT,hm1r⟩) ?_
 intro wU AU hgU aoT ndU0
 refine go 1 ?_
 obtain⟨u,hu⟩:∃ u,u=n.db k (n.s.aK[k].up m.index):=⟨_,rfl⟩
 have ndU:Nd _ AU p _ u:=ndU0.to (by rw[hu];simp only[ai.db,ai.mZ,List.set_set])
 have VY:k<u.s.aK.length:=by rw[hu];simp only[ai.db,ai.mZ,List.length_set];exact hk
 have VF:u.s.aK[k]=n.s.aK[k].up m.index:=by simp only[hu];exact List.getElem_set_self ..
 have eS:=ndU.vD VY ip
 rw[VF] at eS
 have UT:cJ u:=by rw[hu];exact hR
 have NN:u.s.ah.bL:=by rw[hu];exact hS
 have dr:=vY NN
 have Ki:u.s.aK.length≤4294967296:=by rw[hu];simp only[ai.db,ai.mZ,List.length_set];exact h2
 have hmu:u.o.aG.length≤34359738368:=by rw[hu];exact h3
 have r9:=AY jM ss fK (show ¬ m.bT=true by rw[Bb];decide) eG
 rw[←hu] at r9
 have Qe:=ndU.H8 _ (List.getElem_mem VY)
 rw[VF] at Qe
 refine go 2 ?_
 have iM:=hgU.drew
 refine CW.dw [1,3,5,7,9,11,13,15,17,19,21,23,25,27,28,30,32,34] (fun w=>ay p _ w∧In AU w∧True) ?_
 refine go 13 ?_
 refine RL.rB (ad:=(⟨g,0,none⟩:Addr).add (k*3)) (j:=0) rfl rfl rfl rfl yB.out rfl eS (fun w h=>h.2.1) rfl rfl ?_
 refine go 1 ?_
 rintro oQ uk As gB nP xG
 refine go 4 ?_
 rintro ul Au js ou uS
 refine go 5 ?_
 have uL:=(ndU).ML UT
 have UV:u.count.s.ah.bL:=by rw[MJ];exact NN
 have zN:u.count.s.aK.length≤4294967296:=by rcases FV u with h | h<;>rw[h];exact Ki;simp
 have hmc:u.count.o.aG.length≤34359738368:=by rw[MK];exact hmu
 refine go 1 ?_
 refine zc (QK (js.ae 1 rfl) ndU UT NN dr.1 Ki) ?_
 rintro Zq Yw LU un wu gk mJ ⟨rfl,il,vz⟩
 have hm:=hm.up wu
 refine go 14 ?_
 refine CW.cond rfl (fun DO=>?_) (fun DO=>?_)
 refine CW.ret (kE ?_)
 exact aw.mq ((gk.aE).aE) ⟨rfl,_,vz.to (r9.trans (if_pos (by simpa using DO))).symm⟩
 have r9:=r9.trans (if_neg (show ¬ u.count.s.aO≠4 by simpa using DO))
 refine go 12 ?_
 refine CW.cond rfl (fun A_=>?_) (fun A_=>?_)
 obtain⟨c,hc⟩:∃ c,c=u.count.gD:=⟨_,rfl⟩
 have Bz:(if u.s.af.aB<u.count.s.af.aB then u.count.gD else if (n.s.aK[k].up m.index).next≤u.count.aZ then u.count.fA (n.s.aK[k].up m.index) else u.count)=c:=by rw[hc];exact if_pos (bU A_)
 have zq:c.s=u.count.s:=by rw[hc];exact Lq
 have kO:c.o.aG.length≤68719476736:=by have:=ai.T1 u.count.s.aK u.count;rw[hc];show (u.count.mF u.count.s.aK).o.aG.length≤_;omega
 refine go 3 ?_
 refine zc (Il gk vz uL UV (by omega)) ?_
 rintro IC Ij yM rH se iN mj ⟨rfl,ma27,mc27,yu⟩
 have hm:=hm.up se
 refine go 3 ?_
 have jG:=iN.drew
 refine CW.dw [1,3,5,7,9,11,13,15,16,19,21] (fun w=>ay FL _ w∧ay oQ _ w∧True) ?_
 have ndC:Nd _ yM p _ c:=yu.to hc.symm
 have zj:cJ c:=uL.KT zq
 have uN:ai.after u u.count (n.s.aK[k].up m.index) m.am=if u.s.eW=m.am∧(n.s.aK[k].up m.index).cA=c.aZ then c.post { az.zero with ao:=9,to:=m.am } else c:=by unfold ai.after;simp only[Bz]
 refine go 5 ?_
 refine RL.part 128 rfl (fun qX=>?_) (fun qX=>?_)
 refine go 4 ?_
 refine zw (qI jG ndC zj) ?_
 rintro Zr vI i_ pS rfl
 refine go 4 ?_
 refine CW.cond rfl (fun uE=>?_) (fun uE=>?_)
 refine go 6 ?_
 refine zc (kV (m:={ az.zero with ao:=9,to:=m.am }) (y:=cG.none) i_ ndC zj { du.zero _ with ao:=by simp[aq],to:=hm.am } kO) ?_
 rintro LA Rq R4 yG sf ja rV ⟨rfl,ma30,mc30,H3⟩
 have hm:=hm.up sf
 refine go 2 ?_
 refine cP (vs:=[]) rfl ?_
 exact aw.mq ((ja.aE).aE) ⟨rfl,_,H3.to (r9.trans (uN.trans (if_pos ⟨by simpa using qX,by simpa using uE⟩))).symm⟩
 refine go 1 ?_
 refine cP (vs:=[]) rfl ?_
 exact aw.mq ((i_.aE).aE) ⟨rfl,_,ndC.to (r9.trans (uN.trans (if_neg (fun z=>by simp[z.2] at uE)))).symm⟩
 refine go 9 ?_
 refine cP (vs:=[]) rfl ?_
 exact aw.mq ((jG.aE).aE) ⟨rfl,_,ndC.to (r9.trans (uN.trans (if_neg (fun z=>by simp[z.1] at qX)))).symm⟩
 refine go 1 ?_
 have kQ:=gk.drew
 refine CW.dw [1,3,5,6,9,10] (fun w=>ay oQ _ w∧True) ?_
 refine go 4 ?_
 refine zw (qI kQ vz uL) ?_
 rintro v32 sW iD ov rfl
 refine go 4 ?_
 refine CW.cond rfl (fun Ng=>?_) (fun Ng=>?_)
 obtain⟨c,hc⟩:∃ c,c=u.count.fA (n.s.aK[k].up m.index):=⟨_,rfl⟩
 have Bz:(if u.s.af.aB<u.count.s.af.aB then u.count.gD else if (n.s.aK[k].up m.index).next≤u.count.aZ then u.count.fA (n.s.aK[k].up m.index) else u.count)=c:=by rw[hc];exact (if_neg (ct A_)).trans (if_pos (bU Ng))
 have zq:c.s=u.count.s:=by rw[hc];exact ai.DG _ _
 have kO:c.o.aG.length≤68719476736:=by have:=ai.T0 u.count (n.s.aK[k].up m.index);rw[hc];omega
 refine go 4 ?_
 refine zc (FY (q:=n.s.aK[k].up m.index) iD vz uL UV Qe.1 Qe.2.1 (by omega)) ?_
 rintro Zt Yx IM qi G3 c_ gR ⟨rfl,ma33,mc33,QM⟩
 have hm:=hm.up G3
 refine go 3 ?_
 have jt:=c_.drew
 refine CW.dw [1,3,5,7,9,11,13,15,16,19,21] (fun w=>ay FL _ w∧ay oQ _ w∧True) ?_
 have ndC:Nd _ IM p _ c:=QM.to hc.symm
 have zj:cJ c:=uL.KT zq
 have uN:ai.after u u.count (n.s.aK[k].up m.index) m.am=if u.s.eW=m.am∧(n.s.aK[k].up m.index).cA=c.aZ then c.post { az.zero with ao:=9,to:=m.am } else c:=by unfold ai.after;simp only[Bz]
 refine go 5 ?_
 refine RL.part 128 rfl (fun qX=>?_) (fun qX=>?_)
 refine go 4 ?_
 refine zw (qI jt ndC zj) ?_
 rintro v35 uo jH ow rfl
 refine go 4 ?_
 refine CW.cond rfl (fun uE=>?_) (fun uE=>?_)
 refine go 6 ?_
 refine zc (kV (m:={ az.zero with ao:=9,to:=m.am }) (y:=cG.none) jH ndC zj { du.zero _ with ao:=by simp[aq],to:=hm.am } kO) ?_
 rintro v36 Yz qk nz J6 cS gS ⟨rfl,ma36,mc36,yv⟩
 have hm:=hm.up J6
 refine go 2 ?_
 refine cP (vs:=[]) rfl ?_
 exact aw.mq ((cS.aE).aE) ⟨rfl,_,yv.to (r9.trans (uN.trans (if_pos ⟨by simpa using qX,by simpa using uE⟩))).symm⟩
 refine go 1 ?_
 refine cP (vs:=[]) rfl ?_
 exact aw.mq ((jH.aE).aE) ⟨rfl,_,ndC.to (r9.trans (uN.trans (if_neg (fun z=>by simp[z.2] at uE)))).symm⟩
 refine go 9 ?_
 refine cP (vs:=[]) rfl ?_
 exact aw.mq ((jt.aE).aE) ⟨rfl,_,ndC.to (r9.trans (uN.trans (if_neg (fun z=>by simp[z.1] at qX)))).symm⟩
 obtain⟨c,hc⟩:∃ c,c=u.count:=⟨_,rfl⟩
 have Bz:(if u.s.af.aB<u.count.s.af.aB then u.count.gD else if (n.s.aK[k].up m.index).next≤u.count.aZ then u.count.fA (n.s.aK[k].up m.index) else u.count)=c:=by rw[hc];exact (if_neg (ct A_)).trans (if_neg (ct Ng))
 have zq:c.s=u.count.s:=by rw[hc]
 have kO:c.o.aG.length≤68719476736:=by rw[hc];omega
 refine go 2 ?_
 have dh:=iD.drew
 refine CW.dw [1,3,5,7,9,11,13,15,16,19,21] (fun w=>ay FL _ w∧ay oQ _ w∧True) ?_
 have ndC:Nd _ LU p _ c:=vz.to hc.symm
 have zj:cJ c:=uL.KT zq
 have uN:ai.after u u.count (n.s.aK[k].up m.index) m.am=if u.s.eW=m.am∧(n.s.aK[k].up m.index).cA=c.aZ then c.post { az.zero with ao:=9,to:=m.am } else c:=by unfold ai.after;simp only[Bz]
 refine go 5 ?_
 refine RL.part 128 rfl (fun qX=>?_) (fun qX=>?_)
 refine go 4 ?_
 refine zw (qI dh ndC zj) ?_
 rintro Ft Ai mM uP rfl
 refine go 4 ?_
 refine CW.cond rfl (fun uE=>?_) (fun uE=>?_)
 refine go 6 ?_
 refine zc (kV (m:={ az.zero with ao:=9,to:=m.am }) (y:=cG.none) mM ndC zj { du.zero _ with ao:=by simp[aq],to:=hm.am } kO) ?_
 rintro ID Li LX C7 rh nf uQ ⟨rfl,ma39,mc39,vA⟩
 have hm:=hm.up rh
 refine go 2 ?_
 refine cP (vs:=[]) rfl ?_
 exact aw.mq ((nf.aE).aE) ⟨rfl,_,vA.to (r9.trans (uN.trans (if_pos ⟨by simpa using qX,by simpa using uE⟩))).symm⟩
 refine go 1 ?_
 refine cP (vs:=[]) rfl ?_
 exact aw.mq ((mM.aE).aE) ⟨rfl,_,ndC.to (r9.trans (uN.trans (if_neg (fun z=>by simp[z.2] at uE)))).symm⟩
 refine go 9 ?_
 refine cP (vs:=[]) rfl ?_
 exact aw.mq ((dh.aE).aE) ⟨rfl,_,ndC.to (r9.trans (uN.trans (if_neg (fun z=>by simp[z.1] at qX)))).symm⟩
end
end Go.Lw
