/-
  Parts of the proof of the laws RaftcoreChangesUptoSaid: Base, Mem, Ops, Rules, Rules2, Rules3, Facts, Text, Rules4, Rules5, Rules6, Rules7, Rules9, Pieces, Rules10, Phase, Lies, Walk, Leap, Mixed, CodecTy, KcP, SlInts, SlPut, SlLayC, SlOnce, SlLay, SlSort, QuorumA, QuorumB, QuorumC, QuorumD, QuorumL, QuorumF, SortRow, SortA, SortB.
-/
import Derived.WalkKit
import Derived.OrdersHeld
import Derived.Test.YtpjclnomaemokaaGreatProg
import Derived.Laws.BytesArg
import Derived.Lib.ConvBytes
import Derived.WalkSpells
import Derived.Sort.Grow
import Derived.Sort.Row
import Derived.Sort.AssemblyPlain
import Derived.Shelf.SlLaysN
import Derived.Shelf.SlicesG.CompactI
import Derived.Shelf.SlLaysM
import Derived.Shelf.SortM.AssemblyIn
import Derived.Shelf.SortM.SortNone
import Derived.Sort.EveryDepth
set_option maxRecDepth 100000
set_option maxHeartbeats 16000000
set_option linter.all false
namespace Go.Lw
abbrev dE:=List (Nat × Value)
def mU:dE→Nat→Option Value
 | [],_=>none
 | p::r,t=>cond (Nat.beq p.1 t) (some p.2) (mU r t)
structure At (n:Nat) (E:dE) (a:Act):Prop where
 size:a.tmps.size=n
 AP:a.defers=[]
 get:∀ t v,mU E t=some v→a.tmps[t]?=some v
theorem At.put {n:Nat} {E:dE} {a:Act} (h:At n E a) {d:Nat} (hd:Nat.blt d n=true) (v:Value):At n ((d,v)::E) (a.put (some d) v):=by
 have be:d<n:=by simpa [Nat.blt,Nat.lt_iff_add_one_le] using hd
 refine⟨by simp[Act.put,h.size],by simp[Act.put,h.AP],fun t u ht=>?_⟩
 simp only[mU] at ht
 by_cases xK:d=t
 subst xK
 rw[show Nat.beq d d=true from Nat.beq_refl d] at ht
 simp at ht
 subst ht
 simp[Act.put,h.size,be]
 have:Nat.beq d t=false:=Bool.eq_false_iff.2 (fun h=>xK (Nat.eq_of_beq_eq_true h))
 rw[this] at ht
 simp only[cond_false] at ht
 simp[Act.put,Array.getElem?_setIfInBounds_ne xK,h.get t u ht]
theorem At.getD {n:Nat} {E:dE} {a:Act} (h:At n E a) {t:Nat} {v:Value} (ht:mU E t=some v):a.tmps.getD t undef=v:=by
 simp[Array.getD_eq_getD_getElem?,h.get t v ht]
def Ax:dE→dE→Prop
 | [],_=>True
 | p::r,E'=>mU E' p.1=some p.2∧Ax r E'
theorem Ax.mU {E E':dE} (h:Ax E E'):∀ t v,mU E t=some v→mU E' t=some v:=by
 induction E with
 | nil=>intro t v ht;simp[Lw.mU] at ht
 | cons p r ih =>
  intro t v ht
  simp only[Lw.mU] at ht
  by_cases hp:Nat.beq p.1 t=true
  rw[hp] at ht
  simp at ht
  have:p.1=t:=Nat.eq_of_beq_eq_true hp
  subst this
  rw[←ht]
  exact h.1
  rw[Bool.not_eq_true] at hp
  rw[hp] at ht
  exact ih h.2 t v ht
theorem At.more {n:Nat} {E:dE} {a:Act} (h:At n E a) {t:Nat} {v:Value} (ht:Lw.mU E t=some v):At n ((t,v)::E) a:=by
 refine⟨h.size,h.AP,fun s u hs=>?_⟩
 simp only[Lw.mU] at hs
 by_cases hp:Nat.beq t s=true
 rw[hp] at hs
 simp at hs
 have:t=s:=Nat.eq_of_beq_eq_true hp
 subst this
 rw[←hs]
 exact h.get _ _ ht
 rw[Bool.not_eq_true] at hp
 rw[hp] at hs
 exact h.get _ _ hs
theorem At.sub {n:Nat} {E E':dE} {a:Act} (h:At n E a) (hs:Ax E' E):At n E' a:=⟨h.size,h.AP,fun t v ht=>h.get t v (hs.mU t v ht)⟩
def ev (E:dE):Operand→Option Value
 | .tmp t=>mU E t
 | .const v=>some v
 | .global g=>some (.pointer (some ⟨g,0,none⟩))
 | .func f=>some (.func (.func f) #[] #[])
theorem At.ev {n:Nat} {E:dE} {a:Act} (h:At n E a) {x:Operand} {v:Value} (hx:ev E x=some v):a.eval x=v:=by
 cases x with
 | tmp t=>exact h.getD hx
 | const u=>exact Option.some.inj hx
 | global g=>exact Option.some.inj hx
 | func f=>exact Option.some.inj hx
def bR (ops:Array Oper) (E:dE) (o:Oper):Option Bool :=
 match o.guard with
 | none=>some true
 | some (j,want) =>
  match (ops[j]?).bind (·.dst) with
  | none=>none
  | some d =>
   match mU E d with
   | some (.bool b)=>some (b==want)
   | some (.tuple _)=>some false
   | _=>none
theorem At.bR {n:Nat} {E:dE} {a:Act} (h:At n E a) {ops:Array Oper} {o:Oper} {b:Bool} (hb:bR ops E o=some b):Region.wanted o (yielded ops a.tmps)=b:=by
 unfold Lw.bR at hb
 unfold Region.wanted
 split at hb
 rename_i hg
 simp only[hg]
 simpa using hb
 rename_i j want hg
 simp only[hg]
 split at hb
 cases hb
 rename_i d hd
 split at hb
 rename_i c hc
 have:=h.get d _ hc
 simp only[yielded,hd,Option.bind_some,this]
 simp only[Option.some.injEq] at hb
 subst hb
 cases c<;>cases want<;>rfl
 rename_i c hc
 have:=h.get d _ hc
 simp only[yielded,hd,Option.bind_some,this]
 simp only[Option.some.injEq] at hb
 subst hb
 cases want<;>rfl
 cases hb
def EL (op:BinOp) (k:IntKind) (x y:Int):Option Value :=
 match op with
 | .add=>some (.int k (k.wrap (x+y)))
 | .sub=>some (.int k (k.wrap (x-y)))
 | .mul=>some (.int k (k.wrap (x*y)))
 | .and=>some (.int k (k.wrap ((BitVec.ofInt k.bits x &&& BitVec.ofInt k.bits y).toNat)))
 | .or=>some (.int k (k.wrap ((BitVec.ofInt k.bits x ||| BitVec.ofInt k.bits y).toNat)))
 | .xor=>some (.int k (k.wrap ((BitVec.ofInt k.bits x ^^^ BitVec.ofInt k.bits y).toNat)))
 | .eql=>some (.bool (x==y))
 | .neq=>some (.bool (x != y))
 | .lss=>some (.bool (x<y))
 | .leq=>some (.bool (x≤y))
 | .gtr=>some (.bool (x>y))
 | .geq=>some (.bool (x≥y))
 | _=>none
def pv (ρ:Operand→Option Value):Op→Option Value
 | .move x | .assign x=>ρ x
 | .pick c a b =>
  match ρ c with
  | some (.bool true)=>ρ a
  | some (.bool false)=>ρ b
  | _=>none
 | .binOp op _ x y _ =>
  match ρ x,ρ y with
  | some (.int k a),some (.int j b)=>if k=j then EL op k a b else none
  | _,_=>none
 | .unOp .not _ x =>
  match ρ x with
  | some (.bool b)=>some (.bool (!b))
  | _=>none
 | .nilCheck x =>
  match ρ x with
  | some (.pointer (some a))=>some (.pointer (some a))
  | _=>none
 | .extract x i =>
  match ρ x with
  | some (.tuple vs)=>vs[i]?
  | _=>none
 | _=>none
theorem Yt (P:Program) (op:BinOp) (t:TypeId) (x y:Operand) (k j:IntKind) (a b:Int) (w:World) :
  (eqGuard op t x y (.int k a) (.int j b)).run P w = .ok () w:=by
 unfold eqGuard
 cases op<;>rfl
theorem Lb {P:Program} {op:BinOp} {t:TypeId} {k:IntKind} {a b:Int} {v:Value} (w:World) (h:EL op k a b=some v) :
  (binOp op t (.int k a) (.int k b)).run P w = .ok v w:=by
 unfold EL at h
 cases op<;>simp only[Option.some.injEq,reduceCtorEq] at h<;>subst h<;>simp[binOp,Op.intArith,Op.intBits,Op.intCmp,Sem.run_pure]
theorem Yf {P:Program} {n:Nat} {E:dE} {o:Oper} {v:Value} (h:pv (ev E) o.op=some v) (a:Act) (ha:At n E a) (w:World) :
  (execOp a.eval o).run P w = .ok (.value v) w:=by
 obtain⟨dst,op,type,kA,after,guard⟩:=o
 cases op<;>simp only[pv] at h<;>try (cases h;done)
 case move x=>simp[execOp,ha.ev h,Sem.run_pure]
 case assign x=>simp[execOp,ha.ev h,Sem.run_pure]
 case pick c x y =>
  split at h
  rename_i hc;simp[execOp,ha.ev hc,ha.ev h,asBool,Sem.run_pure]
  rename_i hc;simp[execOp,ha.ev hc,ha.ev h,asBool,Sem.run_pure]
  cases h
 case nilCheck x =>
  split at h
  rename_i b hx
  simp only[Option.some.injEq] at h
  subst h
  simp[execOp,ha.ev hx,Sem.run_pure]
  cases h
 case binOp op t x y yt =>
  split at h
  rename_i k a' j b' hx hy
  split at h
  rename_i J4
  subst J4
  simp[execOp,ha.ev hx,ha.ev hy,Sem.run_bind,Yt,Lb w h]
  cases h
  cases h
 case unOp op t x =>
  cases op<;>simp only at h<;>try (cases h;done)
  split at h
  rename_i b hx
  simp only[Option.some.injEq] at h
  subst h
  simp[execOp,ha.ev hx,Op.unary,Sem.run_pure]
  cases h
 case extract x i =>
  split at h
  rename_i vs hx
  simp[execOp,ha.ev hx,Instr.extract,h,Sem.run_pure]
  cases h
def n4 (Q:Exit→Act→World→Prop):Exit→Act→World→Prop
 | .panic _,_,_=>False
 | e,a,w=>Q e a w
theorem KR {Q:Exit→Act→World→Prop}:∀ e a w,n4 Q e a w→Q e a w:=fun e a w h=>by
 cases e<;>first | exact h | exact (h:False).elim
def never:Exit→Act→World→Prop:=fun _ _ _=>False
theorem LO {P:Program} {o:Oper} {a:Act} {w:World} {next:Act→World→Prop} {Q:Exit→Act→World→Prop} (h:o.wp P a w next never):o.wp P a w next Q:=by
 unfold Oper.wp at *
 generalize (execOp a.eval o).run P w=r at *
 cases r with
 | ok n w' =>
  cases n with
  | enter f args =>
   simp only[Oper.upon] at h ⊢
   refine Calls.mono h (fun e w'' he=>?_)
   cases e with
   | returned v=>exact he
   | panicked c=>exact (he:False).elim
   | outgrown=>exact absurd he (by simp[LetsOut,never])
  | _=>exact h
 | halt x w' =>
  cases x with
  | panic v=>exact (h:False).elim
  | _=>exact h
section
variable (P:Program) (ops:Array Oper) (Q:Exit→Act→World→Prop) (S:World→Prop)
def RA:List (Bool × Oper)→Act→World→Prop
 | [],a,w=>Q .normal a w
 | (true,o)::au,a,w=>∃ v,YieldsIf P ops S o v a∧RA au (a.put o.dst v) w
 | (false,o)::au,a,w =>
  if Region.wanted o (yielded ops a.tmps)=true then o.wp P a w (fun a' w'=>S w'∧RA au a' w') never else RA au (a.put o.dst undef) w
def lQ (ops:Array Oper):List (Bool × Nat)→Array Bool→Bool
 | [],listed=>(Region.ready .any ops listed).isEmpty
 | (true,i)::r,listed=>Region.free .any ops listed i && (Region.ready .any ops listed).contains i && lQ ops r (listed.setIfInBounds i true)
 | (false,i)::r,listed=>Region.ready .any ops listed==[i] && lQ ops r (listed.setIfInBounds i true)
end
section
variable {P:Program} {ops:Array Oper} {Q:Exit→Act→World→Prop} {S:World→Prop}
theorem FJ (hs:Region.noSelect ops=true):∀ (l:List (Bool × Nat)) (listed:Array Bool) (a:Act) (w:World),(∀ x∈l,x.2<ops.size)→lQ ops l listed=true→S w →
  RA P ops Q S (l.map fun x=>(x.1,ops.getD x.2 default)) a w→wpAnyH P .any ops (n4 Q) S l.length listed a w
 | [],listed,a,w,_,hc,_,h=>wpAnyH_done (P:=P) (S:=S) (Q:=n4 Q) (by simpa [lQ] using hc) h 0
 | (true,i)::r,listed,a,w,hl,hc,hS,h=>by
  simp only[lQ,Bool.and_eq_true] at hc
  obtain⟨v,hy,h'⟩:=h
  have hi:i<ops.size:=hl (true,i) (by simp)
  have ho:ops[i]?=some (ops.getD i default):=by simp[hi]
  exact wpAnyH_take ho hs hc.1.1 hc.1.2 (fun _ _ _ hh=>hh) hy hS (FJ hs r _ _ _ (fun x hx=>hl x (by simp[hx])) hc.2 hS h')
 | (false,i)::r,listed,a,w,hl,hc,hS,h=>by
  simp only[lQ,Bool.and_eq_true,beq_iff_eq] at hc
  have hi:i<ops.size:=hl (false,i) (by simp)
  have ho:ops[i]?=some (ops.getD i default):=by simp[hi]
  refine wpAnyH_all hc.1 (by simp) fun j hj=>?_
  simp only[List.mem_singleton] at hj
  subst hj
  have ih:∀ a' w',S w'∧RA P ops Q S (r.map fun x=>(x.1,ops.getD x.2 default)) a' w'→S w'∧wpAnyH P .any ops (n4 Q) S r.length (listed.setIfInBounds j true) a' w' :=
   fun a' w' ⟨oq,h'⟩=>⟨oq,FJ hs r _ a' w' (fun x hx=>hl x (by simp[hx])) hc.2 oq h'⟩
  simp only[List.map_cons,RA] at h
  generalize ops.getD j default=oj at *
  unfold wpOp
  simp only[ho]
  by_cases hw:Region.wanted oj (yielded ops a.tmps)=true
  rw[if_pos hw] at h ⊢
  exact .inl (Oper.wp_mono ih (LO h))
  rw[if_neg hw] at h ⊢
  exact ih _ _ ⟨hS,h⟩
theorem akM {id:Nat} {a:Act} {w:World} (l:List (Bool × Nat)) (hm:P.follows .mixedOrders=true) (hs:Region.noSelect ops=true) (bV:l.length=ops.size)
  (hl:(l.all fun x=>decide (x.2<ops.size))=true) (hc:lQ ops l (Array.replicate ops.size false)=true) (hS:S w.drew)
  (h:RA P ops Q S (l.map fun x=>(x.1,ops.getD x.2 default)) a w.drew):(Code.region id ops true).wp P Q a w:=by
 refine Code.wp_mono KR (wp_region_held (S:=S) hm ?_)
 rw[←bV]
 rw[←bV] at hc
 refine FJ hs l _ a _ (fun x hx=>?_) hc hS h
 have:=List.all_eq_true.1 hl x hx
 simpa using this
inductive jk where
 | line (l:List (Bool × Nat))
 | dV (l:List (Bool × Nat)) (x y:jk)
def jk.o5:jk→List Nat
 | .line ((false,i)::_)=>[i]
 | .line _=>[]
 | .dV ((false,i)::_) _ _=>[i]
 | .dV ((true,_)::_) _ _=>[]
 | .dV [] x y=>x.o5++y.o5
def jk.len:jk→Nat
 | .line l=>l.length
 | .dV l x y=>l.length+max x.len y.len
def tl (ops:Array Oper) (k:Array Bool→Bool):Bool→List (Bool × Nat)→Array Bool→Bool
 | _,[],listed=>k listed
 | _,(true,i)::r,listed=>Region.free .any ops listed i && (Region.ready .any ops listed).contains i && tl ops k false r (listed.setIfInBounds i true)
 | false,(false,i)::r,listed=>Region.ready .any ops listed==[i] && tl ops k false r (listed.setIfInBounds i true)
 | true,(false,i)::r,listed=>tl ops k false r (listed.setIfInBounds i true)
def oS (ops:Array Oper):Bool→jk→Array Bool→Bool
 | b,.line l,listed=>(!b || !l.isEmpty) && tl ops (fun z=>(Region.ready .any ops z).isEmpty) b l listed
 | true,.dV [] x y,listed=>oS ops true x listed && oS ops true y listed
 | b,.dV l x y,listed=>tl ops (fun z=> !(Region.ready .any ops z).isEmpty && (Region.ready .any ops z).all (fun j=>(x.o5++y.o5).contains j) && oS ops true x z && oS ops true y z) b l listed
def RT (P:Program) (ops:Array Oper) (Q:Exit→Act→World→Prop) (S:World→Prop):jk→Act→World→Prop
 | .line l,a,w=>RA P ops Q S (l.map fun x=>(x.1,ops.getD x.2 default)) a w
 | .dV l x y,a,w=>RA P ops (fun _ a w=>S w∧RT P ops Q S x a w∧RT P ops Q S y a w) S (l.map fun x=>(x.1,ops.getD x.2 default)) a w
theorem RX {i:Nat} {o:Oper} {a:Act} {w:World} {next:Act→World→Prop} (ho:ops[i]?=some o) :
  (if Region.wanted o (yielded ops a.tmps)=true then o.wp P a w next never else next (a.put o.dst undef) w)→wpOp P ops Q i next a w:=fun h=>by
 unfold wpOp
 simp only[ho]
 by_cases hw:Region.wanted o (yielded ops a.tmps)=true
 rw[if_pos hw] at h ⊢
 exact .inl (LO h)
 rw[if_neg hw] at h ⊢
 exact h
theorem Dv (hs:Region.noSelect ops=true) (k:Array Bool→Bool) (K:Exit→Act→World→Prop) (m:Nat) (hk:∀ listed a w,k listed=true→S w→K .normal a w→wpAnyH P .any ops (n4 Q) S m listed a w) :
  ∀ (l:List (Bool × Nat)) (listed:Array Bool) (a:Act) (w:World),(∀ x∈l,x.2<ops.size)→tl ops k false l listed=true→S w →
   RA P ops K S (l.map fun x=>(x.1,ops.getD x.2 default)) a w→wpAnyH P .any ops (n4 Q) S (m+l.length) listed a w
 | [],listed,a,w,_,hc,hS,h=>hk listed a w (by simpa [tl] using hc) hS h
 | (true,i)::r,listed,a,w,hl,hc,hS,h=>by
  simp only[tl,Bool.and_eq_true] at hc
  obtain⟨v,hy,h'⟩:=h
  have hi:i<ops.size:=hl (true,i) (by simp)
  have ho:ops[i]?=some (ops.getD i default):=by simp[hi]
  exact wpAnyH_take ho hs hc.1.1 hc.1.2 (fun _ _ _ hh=>hh) hy hS (Dv hs k K m hk r _ _ _ (fun x hx=>hl x (by simp[hx])) hc.2 hS h')
 | (false,i)::r,listed,a,w,hl,hc,hS,h=>by
  simp only[tl,Bool.and_eq_true,beq_iff_eq] at hc
  have hi:i<ops.size:=hl (false,i) (by simp)
  have ho:ops[i]?=some (ops.getD i default):=by simp[hi]
  refine wpAnyH_all hc.1 (by simp) fun j hj=>?_
  simp only[List.mem_singleton] at hj
  subst hj
  have ih:∀ a' w',S w'∧RA P ops K S (r.map fun x=>(x.1,ops.getD x.2 default)) a' w'→S w'∧wpAnyH P .any ops (n4 Q) S (m+r.length) (listed.setIfInBounds j true) a' w' :=
   fun a' w' ⟨oq,h'⟩=>⟨oq,Dv hs k K m hk r _ a' w' (fun x hx=>hl x (by simp[hx])) hc.2 oq h'⟩
  refine RX ho ?_
  simp only[List.map_cons,RA] at h
  by_cases hw:Region.wanted (ops.getD j default) (yielded ops a.tmps)=true
  rw[if_pos hw] at h ⊢
  exact Oper.wp_mono ih h
  rw[if_neg hw] at h ⊢
  exact ih _ _ ⟨hS,h⟩
theorem SU:∀ (m:Nat) (listed:Array Bool) (a:Act) (w:World),wpAnyH P .any ops Q S m listed a w→wpAnyH P .any ops Q S (m+1) listed a w
 | 0,listed,a,w,h=>⟨fun _=>h.2,by rw[h.1];simp⟩
 | m+1,listed,a,w,h=>⟨h.1,fun i hi=>wpOp_mono (fun a' w' h'=>⟨h'.1,SU m _ a' w' h'.2⟩) (h.2 i hi)⟩
theorem I6 {m k:Nat} (hk:m≤k) {listed:Array Bool} {a:Act} {w:World} (h:wpAnyH P .any ops Q S m listed a w):wpAnyH P .any ops Q S k listed a w:=by
 induction hk with
 | refl=>exact h
 | step _ ih=>exact SU _ _ _ _ ih
def jk.all (p:Nat→Bool):jk→Bool
 | .line l=>l.all fun x=>p x.2
 | .dV l x y=>l.all (fun x=>p x.2) && x.all p && y.all p
theorem aa6 (hs:Region.noSelect ops=true):∀ (t:jk) (listed:Array Bool) (a:Act) (w:World),t.all (fun i=>decide (i<ops.size))=true→S w→RT P ops Q S t a w →
  (oS ops false t listed=true→wpAnyH P .any ops (n4 Q) S t.len listed a w) ∧
  (oS ops true t listed=true→∀ m,t.len≤m+1→∀ j∈t.o5,wpOp P ops (n4 Q) j (fun a' w'=>S w'∧wpAnyH P .any ops (n4 Q) S m (listed.setIfInBounds j true) a' w') a w):=by
 intro t
 induction t with
 | line l =>
  intro listed a w hl hS h
  have hZ:∀ x∈l,x.2<ops.size:=fun x hx=>by simpa using List.all_eq_true.1 hl x hx
  have hk:∀ (listed:Array Bool) (a:Act) (w:World),(Region.ready .any ops listed).isEmpty=true→S w→Q .normal a w→wpAnyH P .any ops (n4 Q) S 0 listed a w :=
   fun listed a w h1 _ h2=>wpAnyH_done (P:=P) (S:=S) (Q:=n4 Q) (by simpa using h1) h2 0
  refine⟨fun hc=>?_,fun hc m hm j hj=>?_⟩
  simp only[oS,Bool.not_false,Bool.true_or,Bool.true_and] at hc
  have:=Dv hs _ Q 0 hk l listed a w hZ hc hS h
  simpa [jk.len] using this
  cases l with
  | nil=>simp[jk.o5] at hj
  | cons x r =>
   obtain⟨b,i⟩:=x
   cases b with
   | true=>simp[jk.o5] at hj
   | false =>
    simp only[jk.o5,List.mem_singleton] at hj
    subst hj
    simp only[oS,tl,Bool.and_eq_true] at hc
    have hi:j<ops.size:=hZ (false,j) (by simp)
    have ho:ops[j]?=some (ops.getD j default):=by simp[hi]
    have ih:∀ a' w',S w'∧RA P ops Q S (r.map fun x=>(x.1,ops.getD x.2 default)) a' w'→S w'∧wpAnyH P .any ops (n4 Q) S m (listed.setIfInBounds j true) a' w' :=
     fun a' w' ⟨oq,h'⟩=>⟨oq,I6 (by simp only[jk.len,List.length_cons] at hm;omega) (Dv hs _ Q 0 hk r _ a' w' (fun x hx=>hZ x (by simp[hx])) hc.2 oq h')⟩
    refine RX ho ?_
    simp only[RT,List.map_cons,RA] at h
    by_cases hw:Region.wanted (ops.getD j default) (yielded ops a.tmps)=true
    rw[if_pos hw] at h ⊢
    exact Oper.wp_mono ih h
    rw[if_neg hw] at h ⊢
    exact ih _ _ ⟨hS,h⟩
 | dV l x y ihx ihy =>
  intro listed a w hl hS h
  simp only[jk.all,Bool.and_eq_true] at hl
  have hZ:∀ x∈l,x.2<ops.size:=fun x hx=>by simpa using List.all_eq_true.1 hl.1.1 x hx
  -- what follows behind the Xn
  have hk:∀ (listed:Array Bool) (a:Act) (w:World),(!(Region.ready .any ops listed).isEmpty && (Region.ready .any ops listed).all (fun j=>(x.o5++y.o5).contains j) && oS ops true x listed && oS ops true y listed)=true→S w →
    (S w∧RT P ops Q S x a w∧RT P ops Q S y a w)→wpAnyH P .any ops (n4 Q) S (max x.len y.len) listed a w:=by
   intro listed a w hc _ ⟨hS,hx,hy⟩
   simp only[Bool.and_eq_true] at hc
   obtain⟨⟨⟨h0,h1⟩,h2⟩,h3⟩:=hc
   have tF:∃ m,max x.len y.len=m+1:=by
    cases hm:max x.len y.len with
    | succ m=>exact⟨m,rfl⟩
    | zero =>
     exfalso
     have:∀ t:jk,t.len=0→t.o5=[]:=by
      intro t
      induction t with
      | line l=>intro h;simp only[jk.len,List.length_eq_zero_iff] at h;subst h;rfl
      | dV l x y ix iy =>
       intro h
       simp only[jk.len] at h
       have uZ:l=[]:=List.eq_nil_of_length_eq_zero (by omega)
       subst uZ
       simp only[jk.o5,ix (by omega),iy (by omega),List.append_nil]
     have ym:=this x (by omega)
     have hy0:=this y (by omega)
     rw[ym,hy0] at h1
     cases hr:Region.ready .any ops listed with
     | nil=>rw[hr] at h0;simp at h0
     | cons j r=>rw[hr] at h1;simp at h1
   obtain⟨m,hm⟩:=tF
   rw[hm]
   refine wpAnyH_all rfl (by intro he;rw[he] at h0;simp at h0) fun j hj=>?_
   have oA:=List.all_eq_true.1 h1 j hj
   simp only[List.contains_eq_mem,List.mem_append,decide_eq_true_eq] at oA
   rcases oA with oA | oA
   exact (ihx listed a w hl.1.2 hS hx).2 h2 m (by omega) j oA
   exact (ihy listed a w hl.2 hS hy).2 h3 m (by omega) j oA
  refine⟨fun hc=>?_,fun hc m hm j hj=>?_⟩
  have Of:tl ops (fun z=> !(Region.ready .any ops z).isEmpty && (Region.ready .any ops z).all (fun j=>(x.o5++y.o5).contains j) && oS ops true x z && oS ops true y z) false l listed=true:=by
   cases l<;>simpa [oS] using hc
  have:=Dv hs _ _ (max x.len y.len) hk l listed a w hZ Of hS h
  simpa [jk.len,Nat.add_comm] using this
  cases l with
  | nil =>
   simp only[jk.o5,List.mem_append] at hj
   simp only[oS,Bool.and_eq_true] at hc
   obtain⟨_,hx,hy⟩:=h
   simp only[jk.len,List.length_nil,Nat.zero_add] at hm
   rcases hj with hj | hj
   exact (ihx listed a w hl.1.2 hS hx).2 hc.1 m (by omega) j hj
   exact (ihy listed a w hl.2 hS hy).2 hc.2 m (by omega) j hj
  | cons z r =>
   obtain⟨b,i⟩:=z
   cases b with
   | true=>simp[jk.o5] at hj
   | false =>
    simp only[jk.o5,List.mem_singleton] at hj
    subst hj
    simp only[oS,tl] at hc
    have hi:j<ops.size:=hZ (false,j) (by simp)
    have ho:ops[j]?=some (ops.getD j default):=by simp[hi]
    have ih:∀ a' w',S w'∧RA P ops (fun _ a w=>S w∧RT P ops Q S x a w∧RT P ops Q S y a w) S (r.map fun x=>(x.1,ops.getD x.2 default)) a' w'→S w'∧wpAnyH P .any ops (n4 Q) S m (listed.setIfInBounds j true) a' w' :=
     fun a' w' ⟨oq,h'⟩=>⟨oq,I6 (by simp only[jk.len,List.length_cons] at hm;omega) (Dv hs _ _ (max x.len y.len) hk r _ a' w' (fun x hx=>hZ x (by simp[hx])) hc oq h')⟩
    refine RX ho ?_
    simp only[RT,List.map_cons,RA] at h
    by_cases hw:Region.wanted (ops.getD j default) (yielded ops a.tmps)=true
    rw[if_pos hw] at h ⊢
    exact Oper.wp_mono ih h
    rw[if_neg hw] at h ⊢
    exact ih _ _ ⟨hS,h⟩
theorem akO {id:Nat} {a:Act} {w:World} (t:jk) (hm:P.follows .mixedOrders=true) (hs:Region.noSelect ops=true) (bV:Nat.ble t.len ops.size=true)
  (hl:t.all (fun i=>decide (i<ops.size))=true) (hc:oS ops false t (Array.replicate ops.size false)=true) (hS:S w.drew)
  (h:RT P ops Q S t a w.drew):(Code.region id ops true).wp P Q a w :=
 Code.wp_mono KR (wp_region_held (S:=S) hm (I6 (Nat.le_of_ble_eq_true bV) ((aa6 hs t _ a _ hl hS h).1 hc)))
theorem akQ {id:Nat} {a:Act} {w:World} {l:List Oper} (h:RA P l.toArray Q S (l.map fun o=>(false,o)) a w):(Code.region id l.toArray false).wp P Q a w:=by
 refine Code.wp_mono KR (wp_region_lit ?_)
 have mT:∀ (l':List Oper) (a:Act) (w:World),RA P l.toArray Q S (l'.map fun o=>(false,o)) a w→wpList P l.toArray (n4 Q) l' a w:=by
  intro l'
  induction l' with
  | nil=>intro a w h;exact h
  | cons o r ih =>
   intro a w h
   simp only[List.map_cons,RA] at h
   unfold wpList
   split
   rename_i hw
   rw[if_pos hw] at h
   exact .inl (Oper.wp_mono (fun a' w' h'=>ih a' w' h'.2) (LO h))
   rename_i hw
   rw[if_neg hw] at h
   exact ih _ _ h
 exact mT l a w h
theorem akP {σ:Type} {c:Code} {w:World} {a:Act} (I:σ→Act→World→Prop) (μ:σ→Nat) (x:σ) (h₀:I x a w)
  (round:∀ x a w,I x a w→c.wp P (Exit.then (fun a' w'=>∃ x',I x' a' w'∧μ x'<μ x) Q) a w):(Code.loop c).wp P Q a w:=by
 intro b k cs
 have mT:∀ n x a w,μ x=n→I x a w →
   ∃ e a' w',Q e a' w'∧Arrives P (lone (b.at a (.code c :: .inLoop c::k)) cs w) b k cs e a' w':=by
  intro n
  induction n using Nat.strongRecOn with
  | _ n ih =>
   intro x a w hn hI
   obtain⟨e,a₁,w₁,hq,oX⟩:=round x a w hI b (.inLoop c::k) cs
   cases e with
   | normal =>
    obtain⟨x₁,hI₁,be⟩:=hq
    obtain⟨e₂,a₂,w₂,hq₂,harr₂⟩:=ih (μ x₁) (hn▸be) x₁ a₁ w₁ rfl hI₁
    exact⟨e₂,a₂,w₂,hq₂,.of_steps (Steps.trans oX (.one step_inLoop)) harr₂⟩
   | exit id=>exact⟨_,a₁,w₁,hq,.pass (x:= .inLoop c) rfl (fun _ _=> .inl (by simp)) oX⟩
   | goto l=>exact⟨_,a₁,w₁,hq,.pass (x:= .inLoop c) rfl (fun _ _=> .inl (by simp)) oX⟩
   | ret=>exact⟨_,a₁,w₁,hq,.pass (x:= .inLoop c) rfl (fun _ _=> .inl (by simp)) oX⟩
   | panic ch=>exact⟨_,a₁,w₁,hq,.pass (x:= .inLoop c) rfl (fun _ _=> .inl (by simp)) oX⟩
   | outgrown=>exact⟨_,a₁,w₁,hq,.pass (x:= .inLoop c) rfl (fun _ _=> .inl (by simp)) oX⟩
 obtain⟨e,a',w',hq,oX⟩:=mT _ x a w rfl h₀
 exact⟨e,a',w',hq,.of_steps (.one step_loop) oX⟩
end
section
variable (P:Program) (n:Nat) (ops:Array Oper) (Q:Exit→Act→World→Prop) (S:World→Prop)
def RL (l:List (Bool × Oper)) (E:dE) (w:World):Prop:=S w→∀ a,At n E a→RA P ops Q S l a w
def CW (c:Code) (Q:Exit→Act→World→Prop) (E:dE) (w:World):Prop:=∀ a,At n E a→c.wp P Q a w
def nG (o:Oper) (E:dE) (w:World) (v:Value) (w':World):Prop:=∀ a,At n E a→(execOp a.eval o).run P w = .ok (.value v) w'
end
section
variable {P:Program} {n:Nat} {ops:Array Oper} {Q:Exit→Act→World→Prop} {S:World→Prop} {au:List (Bool × Oper)} {E:dE} {w w':World} {o:Oper} {d:Nat} {v:Value}
theorem RL.done (h:∀ a,At n E a→Q .normal a w):RL P n ops Q S [] E w:=fun _ a ha=>h a ha
theorem RL.step (hg:bR ops E o=some true) (hd:o.dst=some d) (hb:Nat.blt d n=true) (hr:nG P n o E w v w') (hS:S w') (h:RL P n ops Q S au ((d,v)::E) w') :
  RL P n ops Q S ((false,o)::au) E w:=fun _ a ha=>by
 simp only[RA,ha.bR hg,if_true]
 unfold Oper.wp
 rw[hr a ha]
 simp only[Oper.upon,hd]
 exact⟨hS,h hS _ (ha.put hb v)⟩
theorem RL.skip (hg:bR ops E o=some true) (hd:o.dst=none) (hr:∀ a,At n E a→(execOp a.eval o).run P w = .ok .skip w') (hS:S w') (h:RL P n ops Q S au E w') :
  RL P n ops Q S ((false,o)::au) E w:=fun _ a ha=>by
 simp only[RA,ha.bR hg,if_true]
 unfold Oper.wp
 rw[hr a ha]
 simp only[Oper.upon,hd,Act.put]
 exact⟨hS,h hS _ ha⟩
theorem RL.take (hg:bR ops E o=some true) (hd:o.dst=some d) (hb:Nat.blt d n=true) (hr:∀ w,S w→nG P n o E w v w) (h:RL P n ops Q S au ((d,v)::E) w) :
  RL P n ops Q S ((true,o)::au) E w:=fun hS a ha =>
 ⟨v,.inl ⟨ha.bR hg,fun w' Qi=>hr w' Qi a ha⟩,by rw[hd];exact h hS _ (ha.put hb v)⟩
theorem RL.pass {t:Bool} (hg:bR ops E o=some false) (hd:o.dst=some d) (hb:Nat.blt d n=true) (h:RL P n ops Q S au ((d,undef)::E) w) :
  RL P n ops Q S ((t,o)::au) E w:=fun hS a ha=>by
 cases t with
 | false=>simp only[RA,ha.bR hg,Bool.false_eq_true,if_false,hd];exact h hS _ (ha.put hb _)
 | true=>exact⟨undef,.inr ⟨ha.bR hg,rfl⟩,by rw[hd];exact h hS _ (ha.put hb _)⟩
theorem RL.pure {t:Bool} (hg:bR ops E o=some true) (hd:o.dst=some d) (hb:Nat.blt d n=true) (hp:pv (ev E) o.op=some v) (h:RL P n ops Q S au ((d,v)::E) w) :
  RL P n ops Q S ((t,o)::au) E w:=by
 cases t with
 | false=>exact fun hS=>RL.step hg hd hb (fun a ha=>Yf hp a ha w) hS h hS
 | true=>exact RL.take hg hd hb (fun w _ a ha=>Yf hp a ha w) h
theorem RL.part {b:Bool} {l:List (Bool × Oper)} (t:Nat) (ht:mU E t=some (.bool b)) (h1:b=true→RL P n ops Q S l ((t,.bool true)::E) w) (h0:b=false→RL P n ops Q S l ((t,.bool false)::E) w) :
  RL P n ops Q S l E w:=fun hS a ha=>by
 cases b with
 | true=>exact h1 rfl hS a (ha.more ht)
 | false=>exact h0 rfl hS a (ha.more ht)
theorem CW.plain {id:Nat} {l:List Oper} (h:RL P n l.toArray Q (fun _=>True) (l.map fun o=>(false,o)) E w):CW P n (.region id l.toArray false) Q E w :=
 fun a ha=>akQ (S:=fun _=>True) (h trivial a ha)
theorem CW.iA {id:Nat} {l:List Oper} (order:List (Bool × Nat)) (S:World→Prop) (hm:P.follows .mixedOrders=true) (hs:Region.noSelect l.toArray=true) (bV:order.length=l.toArray.size)
  (hl:(order.all fun x=>decide (x.2<l.toArray.size))=true) (hc:lQ l.toArray order (Array.replicate l.toArray.size false)=true) (hS:S w.drew)
  (h:RL P n l.toArray Q S (order.map fun x=>(x.1,l.toArray.getD x.2 default)) E w.drew):CW P n (.region id l.toArray true) Q E w :=
 fun a ha=>akM order hm hs bV hl hc hS (h hS a ha)
theorem CW.lb {id:Nat} {l:List Oper} (t:jk) (S:World→Prop) (hm:P.follows .mixedOrders=true) (hs:Region.noSelect l.toArray=true) (bV:Nat.ble t.len l.toArray.size=true)
  (hl:(t.all fun i=>decide (i<l.toArray.size))=true) (hc:oS l.toArray false t (Array.replicate l.toArray.size false)=true) (hS:S w.drew)
  (h:∀ a,At n E a→RT P l.toArray Q S t a w.drew):CW P n (.region id l.toArray true) Q E w :=
 fun a ha=>akO t hm hs bV hl hc hS (h a ha)
theorem RT.pre {l:List (Bool × Nat)} {x y:jk} (hS:S w) (h:RL P n ops (fun _ a w=>S w∧RT P ops Q S x a w∧RT P ops Q S y a w) S (l.map fun z=>(z.1,ops.getD z.2 default)) E w):∀ a,At n E a→RT P ops Q S (.dV l x y) a w :=
 fun a ha=>h hS a ha
theorem RT.di {l:List (Bool × Nat)} (hS:S w) (h:RL P n ops Q S (l.map fun z=>(z.1,ops.getD z.2 default)) E w):∀ a,At n E a→RT P ops Q S (.line l) a w:=fun a ha=>h hS a ha
theorem RT.eE {x y:jk} (hS:S w) (hx:∀ a,At n E a→RT P ops Q S x a w) (hy:∀ a,At n E a→RT P ops Q S y a w):∀ a,At n E a→S w∧RT P ops Q S x a w∧RT P ops Q S y a w :=
 fun a ha=>⟨hS,hx a ha,hy a ha⟩
theorem CW.seq {x y:Code} (h:CW P n x (Exit.then (fun a w=>y.wp P Q a w) Q) E w):CW P n (.seq x y) Q E w:=fun a ha=>wp_seq (h a ha)
theorem CW.block {id:Nat} {c:Code} (h:CW P n c (Exit.inBlock id Q) E w):CW P n (.block id c) Q E w:=fun a ha=>wp_block (h a ha)
theorem CW.skip (h:∀ a,At n E a→Q .normal a w):CW P n .skip Q E w:=fun a ha=>wp_skip (h a ha)
theorem CW.exit {id:Nat} (h:∀ a,At n E a→Q (.exit id) a w):CW P n (.exit id) Q E w:=fun a ha=>wp_exit (h a ha)
theorem CW.ret (h:∀ a,At n E a→Q .ret a w):CW P n .ret Q E w:=fun a ha=>wp_ret (h a ha)
theorem CW.cond {c:Operand} {x y:Code} {b:Bool} (hc:ev E c=some (.bool b)) (ht:b=true→CW P n x Q E w) (hf:b=false→CW P n y Q E w):CW P n (.cond c x y) Q E w :=
 fun a ha=>wp_cond_split (ha.ev hc) (fun hb=>ht hb a ha) (fun hb=>hf hb a ha)
theorem CW.dZ {c:Operand} {x y:Code} (hc:ev E c=some (.bool true)) (h:CW P n x Q E w):CW P n (.cond c x y) Q E w:=fun a ha=>wp_cond_true (ha.ev hc) (h a ha)
theorem CW.no {c:Operand} {x y:Code} (hc:ev E c=some (.bool false)) (h:CW P n y Q E w):CW P n (.cond c x y) Q E w:=fun a ha=>wp_cond_false (ha.ev hc) (h a ha)
theorem CW.test {c:Operand} {x y:Code} {p:Prop} [Decidable p] (hc:ev E c=some (.bool (decide p))) (ht:p→CW P n x Q E w) (hf:¬ p→CW P n y Q E w):CW P n (.cond c x y) Q E w :=
 CW.cond hc (fun h=>ht (of_decide_eq_true h)) (fun h=>hf (of_decide_eq_false h))
theorem CW.eq {c:Operand} {x y:Code} {i j:Int} (hc:ev E c=some (.bool (i==j))) (ht:i=j→CW P n x Q E w) (hf:i≠j→CW P n y Q E w):CW P n (.cond c x y) Q E w :=
 CW.cond hc (fun h=>ht (by simpa using h)) (fun h=>hf (by simpa using h))
theorem CW.ne {c:Operand} {x y:Code} {i j:Int} (hc:ev E c=some (.bool (i != j))) (ht:i≠j→CW P n x Q E w) (hf:i=j→CW P n y Q E w):CW P n (.cond c x y) Q E w :=
 CW.cond hc (fun h=>ht (by simpa using h)) (fun h=>hf (by simpa using h))
theorem CW.Xh {c:Code} (E':dE) (hs:Ax E' E) (h:CW P n c Q E' w):CW P n c Q E w:=fun a ha=>h a (ha.sub hs)
theorem CW.cx {x y:Code} (J:dE→World→Prop) (hx:CW P n x (Exit.then (fun a w'=>∃ E',At n E' a∧J E' w') Q) E w) (hy:∀ E' w',J E' w'→CW P n y Q E' w'):CW P n (.seq x y) Q E w :=
 fun a ha=>wp_seq (wp_mono (hx a ha) fun e a' w' h=>by
  cases e<;>first | exact h | (obtain⟨E',h1,h2⟩:=h;exact hy E' w' h2 a' h1))
theorem CW.loop {σ:Type} {c:Code} (J:σ→dE→World→Prop) (μ:σ→Nat) (x0:σ) (E0:dE) (EB:Ax E0 E) (h0:J x0 E0 w)
  (round:∀ x E w,J x E w→CW P n c (Exit.then (fun a' w'=>∃ x' E',At n E' a'∧J x' E' w'∧μ x'<μ x) Q) E w):CW P n (.loop c) Q E w:=fun a ha=>by
 refine akP (fun x a w=>∃ E,At n E a∧J x E w) μ x0 ⟨E0,ha.sub EB,h0⟩ ?_
 rintro x a w ⟨E,hE,hJ⟩
 exact wp_mono (round x E w hJ a hE) fun e a' w' h=>by
  cases e<;>first | exact h | (obtain⟨x',E',h1,h2,h3⟩:=h;exact⟨x',⟨E',h1,h2⟩,h3⟩)
end
end Go.Lw
namespace Go.Lw
open Go.RowKit
abbrev aj:=Nat→Option Obj
def aj.nil:aj:=fun _=>none
def aj.one (b:Nat) (x:Obj):aj:=fun k=>if k=b then some x else none
def aj.put (r:aj) (b:Nat) (x:Obj):aj:=fun k=>if k=b then some x else r k
def aj.eN (r q:aj):aj:=fun k=>match r k with | some x=>some x | none=>q k
def fC (r q:aj):Prop:=∀ b,r b≠none→q b=none
def In (r:aj) (w:World):Prop:=∀ b x,r b=some x→w.heap[b]?=some x
def Le (s s':aj):Prop:=∀ b x,s b=some x→s' b=some x
theorem Le.refl (s:aj):Le s s:=fun _ _ h=>h
theorem Le.trans {a b c:aj} (h:Le a b) (k:Le b c):Le a c:=fun i x hx=>k i x (h i x hx)
theorem In.le {r q:aj} {w:World} (h:In q w) (hl:Le r q):In r w:=fun b x hx=>h b x (hl b x hx)
theorem In.lt {r:aj} {w:World} (h:In r w) {b:Nat} (hb:r b≠none):b<w.heap.size:=by
 cases hx:r b with
 | none=>exact absurd hx hb
 | some x=>exact (Array.getElem?_eq_some_iff.1 (h b x hx)).1
theorem fC.symm {r q:aj} (h:fC r q):fC q r:=fun b hb=>by
 cases hr:r b with
 | none=>rfl
 | some x=>exact absurd (h b (by rw[hr];simp)) hb
theorem fC.nil (q:aj):fC aj.nil q:=fun _ h=>absurd rfl h
theorem fC.le {r r' q:aj} (h:fC r q) (hl:Le r' r):fC r' q:=fun b hb=>h b (by
 cases hx:r' b with
 | none=>exact absurd hx hb
 | some x=>rw[hl b x hx];simp)
theorem fC.eN {r r' q:aj} (h:fC r q) (h':fC r' q):fC (r.eN r') q:=fun b hb=>by
 cases hx:r b with
 | some x=>exact h b (by rw[hx];simp)
 | none=>exact h' b (by simpa [aj.eN,hx] using hb)
theorem fC.put {r q:aj} (h:fC r q) {b:Nat} (hb:r b≠none) (x:Obj):fC (r.put b x) q:=fun k hk=>by
 by_cases wo:k=b
 subst wo;exact h k hb
 exact h k (by simpa [aj.put,wo] using hk)
theorem aj.sD (r q:aj):Le r (r.eN q):=fun b x hx=>by simp[aj.eN,hx]
theorem aj.rA {r q:aj} (h:fC r q):Le q (r.eN q):=fun b x hx=>by
 have:r b=none:=h.symm b (by rw[hx];simp)
 simp[aj.eN,this,hx]
def ak (w:World) (s:aj):List aj→Prop
 | []=>In s w
 | r::os=>In r w∧fC r s∧(∀ q∈os,fC r q)∧ak w s os
section
variable {w w':World} {s s':aj} {r q:aj} {os os':List aj}
theorem ak.sh (h:ak w s os):In s w:=by
 induction os with
 | nil=>exact h
 | cons r os ih=>exact ih h.2.2.2
theorem ak.mem (h:ak w s os) (hr:r∈os):In r w:=by
 induction os with
 | nil=>cases hr
 | cons q os ih =>
  rcases List.mem_cons.1 hr with rfl | hr
  exact h.1
  exact ih h.2.2.2 hr
theorem ak.yZ (h:ak w s os) (hr:r∈os):fC r s:=by
 induction os with
 | nil=>cases hr
 | cons q os ih =>
  rcases List.mem_cons.1 hr with rfl | hr
  exact h.2.1
  exact ih h.2.2.2 hr
theorem ak.perm (hp:os.Perm os') (h:ak w s os):ak w s os':=by
 induction hp with
 | nil=>exact h
 | cons x hp ih=>exact⟨h.1,h.2.1,fun q hq=>h.2.2.1 q (hp.symm.subset hq),ih h.2.2.2⟩
 | swap x y l =>
  obtain⟨h1,h2,h3,h4,h5,h6,h7⟩:=h
  exact⟨h4,h5,fun q hq=>by
   rcases List.mem_cons.1 hq with rfl | hq
   ·
    exact (h3 _ (by simp)).symm
   ·
    exact h6 q hq,h1,h2,fun q hq=>h3 q (by simp[hq]),h7⟩
 | trans _ _ ih1 ih2=>exact ih2 (ih1 h)
theorem QZ:∀ (i:Nat) (os:List aj) (r:aj),os[i]?=some r→os.Perm (r::os.eraseIdx i)
 | _,[],_,h=>by simp at h
 | 0,x::os,r,h=>by simp at h;subst h;exact List.Perm.refl _
 | i+1,x::os,r,h=>by
  have h':os[i]?=some r:=by simpa using h
  exact ((QZ i os r h').cons x).trans (List.Perm.swap r x _)
theorem QY:∀ (i:Nat) (os:List aj) (r r':aj),os[i]?=some r→(r'::os.eraseIdx i).Perm (os.set i r')
 | _,[],_,_,h=>by simp at h
 | 0,x::os,r,r',h=>by simp
 | i+1,x::os,r,r',h=>by
  have h':os[i]?=some r:=by simpa using h
  exact (List.Perm.swap x r' _).trans ((QY i os r r' h').cons x)
theorem ak.ae (h:ak w s os) (i:Nat) (hi:os[i]?=some r):ak w s (r::os.eraseIdx i):=h.perm (QZ i os r hi)
theorem ak.xo {r':aj} (i:Nat) (hi:os[i]?=some r) (h:ak w s (r'::os.eraseIdx i)):ak w s (os.set i r'):=h.perm (QY i os r r' hi)
theorem ak.drop (h:ak w s (r::os)):ak w s os:=h.2.2.2
theorem ak.nil (h:ak w s os):ak w s (aj.nil::os):=⟨(fun _ _ h=>nomatch h),fC.nil _,(fun _ _=>fC.nil _),h⟩
theorem ak.WZ (h:ak w s os) (hk:∀ b,b<w.heap.size→w'.heap[b]?=w.heap[b]?):ak w' s os:=by
 have cq:∀ q,In q w→In q w':=fun q hq b x hx=>(hk b (hq.lt (by rw[hx];simp))).trans (hq b x hx)
 induction os with
 | nil=>exact cq s h
 | cons r os ih=>exact⟨cq r h.1,h.2.1,h.2.2.1,ih h.2.2.2⟩
theorem ak.drew (h:ak w s os):ak w.drew s os:=h.WZ fun _ _=>rfl
theorem ak.alloc (h:ak w s os) (x:Obj):ak (w.alloc x) s (aj.one w.heap.size x::os):=by
 have Vt:∀ q,In q w→fC (aj.one w.heap.size x) q:=fun q hq b hb=>by
  by_cases GA:b=w.heap.size
  subst GA
  cases Hy:q w.heap.size with
  | none=>rfl
  | some y=>exact absurd (hq.lt (by rw[Hy];simp)) (Nat.lt_irrefl _)
  exact absurd (by simp[aj.one,GA]) hb
 refine⟨fun b y hy=>?_,Vt s h.sh,fun q hq=>Vt q (h.mem hq),h.WZ fun b hb=>Below.heap_alloc w x b hb⟩
 by_cases GA:b=w.heap.size
 subst GA
 simp only[aj.one,if_true] at hy
 cases hy
 exact heap_alloc_new w x
 simp[aj.one,GA] at hy
theorem ak.Al (h:ak w s (r::os)) {b:Nat} {x y:Obj} (hb:r b=some x) (hy:w'.heap[b]?=some y) (hk:∀ k,k<w.heap.size→k≠b→w'.heap[k]?=w.heap[k]?):ak w' s (r.put b y::os):=by
 obtain⟨h1,h2,h3,h4⟩:=h
 have bH:r b≠none:=by rw[hb];simp
 have cq:∀ q,In q w→q b=none→In q w':=fun q hq Hy k z hz=>by
  have wo:k≠b:=fun e=>by subst e;rw[Hy] at hz;cases hz
  exact (hk k (hq.lt (by rw[hz];simp)) wo).trans (hq k z hz)
 refine⟨fun k z hz=>?_,h2.put bH y,fun q hq=>(h3 q hq).put bH y,?_⟩
 by_cases wo:k=b
 subst wo
 simp only[aj.put,if_true] at hz
 cases hz
 exact hy
 simp only[aj.put,wo,if_false] at hz
 exact (hk k (h1.lt (by rw[hz];simp)) wo).trans (h1 k z hz)
 clear h1
 induction os with
 | nil=>exact cq s h4 (h2 b bH)
 | cons q os ih=>exact⟨cq q h4.1 (h3 q (by simp) b bH),h4.2.1,h4.2.2.1,ih (fun p hp=>h3 p (by simp[hp])) h4.2.2.2⟩
theorem ak.YJ (h:ak w s (r::os)):ak w (s.eN r) os:=by
 obtain⟨h1,h2,h3,h4⟩:=h
 induction os with
 | nil =>
  intro b x hx
  cases hs:s b with
  | some y=>simp only[aj.eN,hs] at hx;exact hx▸h4 b y hs
  | none=>simp only[aj.eN,hs] at hx;exact h1 b x hx
 | cons q os ih =>
  refine⟨h4.1,(fC.eN h4.2.1.symm (h3 q (by simp))).symm,h4.2.2.1,ih (fun p hp=>h3 p (by simp[hp])) h4.2.2.2⟩
theorem ak.eN (h:ak w s (r::q::os)):ak w s (r.eN q::os):=by
 obtain⟨h1,h2,h3,h4,h5,h6,h7⟩:=h
 refine⟨fun b x hx=>?_,fC.eN h2 h5,fun p hp=>fC.eN (h3 p (by simp[hp])) (h6 p hp),h7⟩
 cases hr:r b with
 | some y=>simp only[aj.eN,hr] at hx;exact hx▸h1 b y hr
 | none=>simp only[aj.eN,hr] at hx;exact h4 b x hx
theorem ak.Zo (h:ak w s os) (hl:Le r s):ak w (fun b=>match r b with | some _=>none | none=>s b) (r::os):=by
 refine⟨h.sh.le hl,fun b hb=>?_,fun q hq=>fun b hb=>?_,?_⟩
 cases hr:r b with
 | none=>exact absurd hr hb
 | some x=>simp only[hr]
 cases hr:r b with
 | none=>exact absurd hr hb
 | some x =>
  have:=(h.yZ hq).symm b (by rw[hl b x hr];simp)
  exact this
 have cg:Le (fun b=>match r b with | some _=>none | none=>s b) s:=fun b x hx=>by
  cases hr:r b with
  | none=>simpa [hr] using hx
  | some y=>simp[hr] at hx
 clear hl
 induction os with
 | nil=>exact In.le h cg
 | cons q os ih=>exact⟨h.1,(h.2.1.symm.le cg).symm,h.2.2.1,ih h.2.2.2⟩
end
structure ar (w w':World):Prop where
 os:w'.os=w.os
 tape:w'.tape=w.tape
 output:w'.output=w.output
 size:w.heap.size≤w'.heap.size
theorem ar.refl (w:World):ar w w:=⟨rfl,rfl,rfl,Nat.le_refl _⟩
theorem ar.trans {a b c:World} (h:ar a b) (k:ar b c):ar a c:=⟨k.os.trans h.os,k.tape.trans h.tape,k.output.trans h.output,Nat.le_trans h.size k.size⟩
theorem ar.drew (w:World):ar w w.drew:=⟨rfl,rfl,rfl,Nat.le_refl _⟩
theorem ar.alloc (w:World) (x:Obj):ar w (w.alloc x):=⟨rfl,rfl,rfl,by simp⟩
def aw (w:World) (s:aj) (os:List aj) (Φ:aj→aj→Value→Prop):Ending→World→Prop:=fun e w' =>
 ∃ v s' A,e = .returned v∧Le s s'∧ak w' s' (A::os)∧ar w w'∧Φ s' A v
theorem aw.mk {w w':World} {s s' A:aj} {os:List aj} {Φ:aj→aj→Value→Prop} {v:Value} (hl:Le s s') (hg:ak w' s' (A::os)) (ha:ar w w') (h:Φ s' A v):aw w s os Φ (.returned v) w' :=
 ⟨v,s',A,rfl,hl,hg,ha,h⟩
def Holds (r:aj) (ad:Addr) (vs:List Value):Prop :=
 ∃ cs el fr,r ad.block=some (.cells cs el fr)∧ad.spot=none∧∀ j u,vs[j]?=some u→cs[ad.off+j]?=some u
theorem Mn (a:Addr) (n:Nat):(a.add n).block=a.block:=by unfold Addr.add;split<;>rfl
theorem Mo (a:Addr) (n:Nat):(a.add n).off=a.off+n:=by unfold Addr.add;split<;>simp_all
theorem SS {a:Addr} (h:a.spot=none) (n:Nat):(a.add n).spot=none:=by unfold Addr.add;split<;>simp_all
theorem SR (a:Addr) (i j:Nat):(a.add i).add j=a.add (i+j):=by
 unfold Addr.add
 by_cases hi:i=0<;>by_cases hj:j=0<;>simp[hi,hj,Nat.add_assoc]
section
variable {r r':aj} {w:World} {ad:Addr} {vs us:List Value}
theorem Holds.le (h:Holds r ad vs) (hl:Le r r'):Holds r' ad vs :=
 let ⟨cs,el,fr,h1,h2,h3⟩:=h
 ⟨cs,el,fr,hl _ _ h1,h2,h3⟩
theorem Holds.cell (h:Holds r ad vs) (cq:In r w) {j:Nat} {u:Value} (hj:vs[j]?=some u):w.cell? (ad.add j)=some u:=by
 obtain⟨cs,el,fr,h1,h2,h3⟩:=h
 simp[World.cell?,Mn,cq _ _ h1,SS h2,Mo,h3 j u hj]
theorem Holds.part (h:Holds r ad vs) (k:Nat) (hu:∀ j u,us[j]?=some u→vs[k+j]?=some u):Holds r (ad.add k) us:=by
 obtain⟨cs,el,fr,h1,h2,h3⟩:=h
 exact⟨cs,el,fr,by rw[Mn];exact h1,SS h2 k,fun j u hj=>by rw[Mo,Nat.add_assoc];exact h3 _ u (hu j u hj)⟩
theorem Holds.one (b:Nat) (cs:Array Value) (el:TypeId):Holds (aj.one b (.cells cs el)) ⟨b,0,none⟩ cs.toList :=
 ⟨cs,el,(0,0),by simp[aj.one],rfl,fun j u hj=>by simpa using hj⟩
end
def Up {α:Type} (R:aj→List Value→α→Prop):Prop:=∀ s s' vs x,Le s s'→R s vs x→R s' vs x
def lN {α:Type} (R:aj→List Value→α→Prop):Prop:=∀ s vs x,R s vs x→∀ v∈vs,v.oneCell'=true
section
variable {α:Type} (R:aj→List Value→α→Prop) (sz:Nat)
def cF (s:aj):List Value→List α→Prop
 | cs,[]=>cs=[]
 | cs,x::xs=>∃ vs au,cs=vs++au∧vs.length=sz∧R s vs x∧cF s au xs
def kI (r s:aj) (ad:Addr) (xs:List α):Prop:=∃ cs,Holds r ad cs∧cF R sz s cs xs
def bm (s:aj) (a:Option Addr) (c:Nat) (xs:List α):Prop:=xs.length≤c∧c≤maxLen∧(xs=[]∨∃ ad,a=some ad∧kI R sz s s ad xs)
def aW (el:TypeId) (s A:aj) (a:Option Addr) (c:Nat) (xs:List α):Prop :=
 (a=none∧c=0∧xs=[]) ∨
 ∃ g cs,a=some ⟨g,0,none⟩∧A g=some (.cells cs el (0,0))∧xs.length≤c∧c≤maxLen∧cs.size=c*sz∧cF R sz s (cs.toList.take (xs.length*sz)) xs
end
section
variable {α:Type} {R:aj→List Value→α→Prop} {sz:Nat} {r s s' A A':aj} {ad:Addr} {a:Option Addr} {c:Nat} {xs ys:List α} {el:TypeId} {cs ds:List Value}
theorem cF.length (h:cF R sz s cs xs):cs.length=xs.length*sz:=by
 induction xs generalizing cs with
 | nil=>rw[show cs=[] from h];simp
 | cons x xs ih =>
  obtain⟨vs,au,rfl,hl,_,hr⟩:=h
  simp[hl,ih hr,Nat.add_mul,Nat.add_comm]
theorem cF.up (hR:Up R) (h:cF R sz s cs xs) (hl:Le s s'):cF R sz s' cs xs:=by
 induction xs generalizing cs with
 | nil=>exact h
 | cons x xs ih =>
  obtain⟨vs,au,e,hv,hx,hr⟩:=h
  exact⟨vs,au,e,hv,hR _ _ _ _ hl hx,ih hr⟩
theorem cF.append (h:cF R sz s cs xs) (k:cF R sz s ds ys):cF R sz s (cs++ds) (xs++ys):=by
 induction xs generalizing cs with
 | nil=>rw[show cs=[] from h];exact k
 | cons x xs ih =>
  obtain⟨vs,au,rfl,hv,hx,hr⟩:=h
  exact⟨vs,au++ds,by simp,hv,hx,ih hr⟩
theorem cF.part (h:cF R sz s cs (xs++ys)):cF R sz s (cs.take (xs.length*sz)) xs∧cF R sz s (cs.drop (xs.length*sz)) ys:=by
 induction xs generalizing cs with
 | nil=>simpa [cF] using h
 | cons x xs ih =>
  obtain⟨vs,au,rfl,hv,hx,hr⟩:=h
  obtain⟨h1,h2⟩:=ih hr
  have e:(x::xs).length*sz=vs.length+xs.length*sz:=by rw[List.length_cons,Nat.add_mul,hv];omega
  rw[e,List.take_length_add_append,List.drop_length_add_append]
  exact⟨⟨vs,_,rfl,hv,hx,h1⟩,h2⟩
theorem cF.get (h:cF R sz s cs xs) {i:Nat} {x:α} (hi:xs[i]?=some x):∃ vs,vs.length=sz∧(∀ (j:Nat) u,vs[j]?=some u→cs[i*sz+j]?=some u)∧R s vs x:=by
 induction xs generalizing cs i with
 | nil=>simp at hi
 | cons y xs ih =>
  obtain⟨vs,au,rfl,hv,hx,hr⟩:=h
  cases i with
  | zero =>
   simp only[List.getElem?_cons_zero,Option.some.injEq] at hi
   subst hi
   exact⟨vs,hv,fun j u hu=>by
    have hj:=(List.getElem?_eq_some_iff.1 hu).1
    rw[Nat.zero_mul,Nat.zero_add,List.getElem?_append_left hj];exact hu,hx⟩
  | succ i =>
   obtain⟨us,h1,h2,h3⟩:=ih hr (by simpa using hi)
   refine⟨us,h1,fun j u hu=>?_,h3⟩
   rw[List.getElem?_append_right (by rw[hv,Nat.add_mul];omega)]
   rw[←h2 j u hu]
   congr 1
   rw[hv,Nat.add_mul];omega
theorem cF.one (hR:lN R) (h:cF R sz s cs xs):∀ v∈cs,v.oneCell'=true:=by
 induction xs generalizing cs with
 | nil=>rw[show cs=[] from h];simp
 | cons x xs ih =>
  obtain⟨vs,au,rfl,hv,hx,hr⟩:=h
  intro v hm
  rcases List.mem_append.1 hm with hm | hm
  exact hR _ _ _ hx v hm
  exact ih hr v hm
theorem cF.jy {vs:List Value} {x:α} (hv:vs.length=sz) (hx:R s vs x):cF R sz s vs [x]:=⟨vs,[],by simp,hv,hx,rfl⟩
theorem cF.set {vs:List Value} {x:α} (h:cF R sz s cs xs) {i:Nat} (hi:i<xs.length) (hv:vs.length=sz) (hx:R s vs x) :
  cF R sz s (cs.take (i*sz)++vs++cs.drop (i*sz+sz)) (xs.set i x):=by
 have e:xs=xs.take i++(xs[i]::xs.drop (i+1)):=by simp
 rw[e] at h
 obtain⟨h1,h2⟩:=h.part
 obtain⟨us,au,h3,hu,_,hr⟩:=h2
 have hli:(xs.take i).length=i:=by simp;omega
 rw[hli] at h1 h3
 have pi:au=cs.drop (i*sz+sz):=by
  rw[←List.drop_drop,h3,← hu,List.drop_left]
 rw[←pi,List.set_eq_take_append_cons_drop,if_pos hi,List.append_assoc]
 exact h1.append ⟨vs,au,rfl,hv,hx,hr⟩
theorem kI.le (hR:Up R) (h:kI R sz r s ad xs) (hl:Le s s'):kI R sz r s' ad xs :=
 let ⟨cs,h1,h2⟩:=h
 ⟨cs,h1,h2.up hR hl⟩
theorem kI.mem {r':aj} (h:kI R sz r s ad xs) (hl:Le r r'):kI R sz r' s ad xs :=
 let ⟨cs,h1,h2⟩:=h
 ⟨cs,h1.le hl,h2⟩
theorem kI.get (h:kI R sz r s ad xs) {i:Nat} {x:α} (hi:xs[i]?=some x):∃ vs,vs.length=sz∧Holds r (ad.add (i*sz)) vs∧R s vs x:=by
 obtain⟨cs,h1,h2⟩:=h
 obtain⟨vs,h3,h4,h5⟩:=h2.get hi
 exact⟨vs,h3,h1.part _ h4,h5⟩
theorem kI.drop (h:kI R sz r s ad (xs++ys)):kI R sz r s (ad.add (xs.length*sz)) ys:=by
 obtain⟨cs,h1,h2⟩:=h
 refine⟨_,h1.part _ (fun j u hu=>?_),h2.part.2⟩
 rwa[List.getElem?_drop] at hu
theorem kI.take (h:kI R sz r s ad (xs++ys)):kI R sz r s ad xs:=by
 obtain⟨cs,h1,h2⟩:=h
 have h3:Holds r (ad.add 0) (cs.take (xs.length*sz)):=h1.part 0 (fun j u hu=>by
  rw[List.getElem?_take] at hu
  split at hu
  rwa[Nat.zero_add]
  cases hu)
 exact⟨_,by simpa [Addr.add] using h3,h2.part.1⟩
theorem bm.up (hR:Up R) (h:bm R sz s a c xs) (hl:Le s s'):bm R sz s' a c xs :=
 ⟨h.1,h.2.1,h.2.2.imp id fun ⟨ad,e,hr⟩=>⟨ad,e,(hr.le hR hl).mem hl⟩⟩
theorem bm.nil (s:aj) (a:Option Addr) (c:Nat) (hc:c≤maxLen):bm R sz s a c []:=⟨by simp,hc,.inl rfl⟩
theorem bm.gL (h:bm R sz s a c xs):xs.length≤maxLen:=Nat.le_trans h.1 h.2.1
theorem aW.gL (h:aW R sz el s A a c xs):xs.length≤maxLen:=by
 rcases h with ⟨rfl,rfl,rfl⟩ | ⟨g,cs,rfl,hg,hl,hc,dr,hr⟩
 simp
 exact Nat.le_trans hl hc
theorem aW.up (hR:Up R) (h:aW R sz el s A a c xs) (hl:Le s s'):aW R sz el s' A a c xs :=
 h.imp id fun ⟨g,cs,h1,h2,h3,h4,h5,h6⟩=>⟨g,cs,h1,h2,h3,h4,h5,h6.up hR hl⟩
theorem aW.mem (h:aW R sz el s A a c xs) (hl:Le A A'):aW R sz el s A' a c xs :=
 h.imp id fun ⟨g,cs,h1,h2,h3,h4,h5,h6⟩=>⟨g,cs,h1,hl _ _ h2,h3,h4,h5,h6⟩
theorem aW.nil (R:aj→List Value→α→Prop) (sz:Nat) (el:TypeId) (s A:aj):aW R sz el s A none 0 []:= .inl ⟨rfl,rfl,rfl⟩
theorem aW.row (h:aW R sz el s A a c xs):xs=[]∨∃ ad,a=some ad∧kI R sz A s ad xs:=by
 rcases h with ⟨rfl,rfl,rfl⟩ | ⟨g,cs,rfl,hg,hl,hc,dr,hr⟩
 exact .inl rfl
 refine .inr ⟨_,rfl,_,⟨cs,el,(0,0),hg,rfl,fun j u hu=>?_⟩,hr⟩
 rw[List.getElem?_take] at hu
 split at hu
 simpa using hu
 cases hu
theorem aW.yZ (h:aW R sz el s A a c xs) {p:Nat} {ps:Array Value} {el':TypeId} {fr:Nat × Nat} (hp:A p=some (.cells ps el' fr)) (bH:el≠el'):∀ ad,a=some ad→ad.block≠p:=by
 rintro ad rfl rfl
 rcases h with ⟨h,_⟩ | ⟨g,cs,h,hg,_⟩
 cases h
 cases h
 rw[hg] at hp
 injection hp with hp
 injection hp with _ h2
 exact bH h2
theorem aW.put (h:aW R sz el s A a c xs) {p:Nat} (hp:∀ ad,a=some ad→ad.block≠p) (x:Obj):aW R sz el s (A.put p x) a c xs:=by
 rcases h with h | ⟨g,cs,rfl,hg,h⟩
 exact .inl h
 have:g≠p:=hp _ rfl
 exact .inr ⟨g,cs,rfl,by simp[aj.put,this,hg],h⟩
theorem ajc (r:aj) {b k:Nat} (x:Obj) (h:k≠b):r.put b x k=r k:=by simp[aj.put,h]
theorem aW.ci (hR:Up R) (h:aW R sz el s A a c xs) (h1:Le s s') (h2:Le A s'):bm R sz s' a c xs:=by
 have a_:=h.row
 rcases h with ⟨rfl,rfl,rfl⟩ | ⟨g,cs,rfl,hg,hl,hc,dr,hr⟩
 exact bm.nil s' none 0 (Nat.zero_le _)
 exact⟨hl,hc,a_.imp id fun ⟨ad,e,hx⟩=>⟨ad,e,(hx.le hR h1).mem h2⟩⟩
end
def aq:IntKind→Int→Prop
 | .i8,n=> -128≤n∧n<128
 | .i16,n=> -32768≤n∧n<32768
 | .i32,n=> -2147483648≤n∧n<2147483648
 | .i64,n=> -9223372036854775808≤n∧n<9223372036854775808
 | .u8,n=>0≤n∧n<256
 | .u16,n=>0≤n∧n<65536
 | .u32,n=>0≤n∧n<4294967296
 | .u64,n=>0≤n∧n<18446744073709551616
theorem aq.wrap {k:IntKind} {n:Int} (h:aq k n):k.wrap n=n:=by
 cases k<;>simp only[aq] at h
 exact IntWalk.i8_in n (by omega)
 exact IntWalk.i16_in n (by omega)
 exact IntWalk.i32_in n (by omega)
 exact IntWalk.i64_in n (by omega)
 exact IntWalk.u8_in n (by omega)
 exact IntWalk.u16_in n (by omega)
 exact IntWalk.u32_in n (by omega)
 exact IntWalk.u64_in n (by omega)
theorem CR (k:IntKind) (n:Int):aq k (k.wrap n):=by
 cases k<;>simp only[aq,IntKind.wrap,IntKind.bits,IntKind.signed]<;>simp<;>(try split)<;>omega
def ax (k:IntKind):aj→List Value→Int→Prop:=fun _ vs x=>vs=[.int k x]∧aq k x
def pI:aj→List Value→Bool→Prop:=fun _ vs x=>vs=[.bool x]
def pJ:aj→List Value→ByteArray→Prop:=fun _ vs x=>vs=[.string x]∧x.size≤maxLen
theorem ax.one (k:IntKind):lN (ax k):=fun _ vs x h v hv=>by rw[h.1] at hv;simp at hv;subst hv;rfl
theorem pI.one:lN pI:=fun _ vs x h v hv=>by rw[show vs=[.bool x] from h] at hv;simp at hv;subst hv;rfl
theorem pJ.one:lN pJ:=fun _ vs x h v hv=>by rw[h.1] at hv;simp at hv;subst hv;rfl
theorem ax.up (k:IntKind):Up (ax k):=fun _ _ _ _ _ h=>h
def Mb {α:Type} (R:aj→List Value→α→Prop) (sz:Nat):aj→List Value→List α→Prop:=fun s vs xs=>∃ a c,vs=[.slice a xs.length c]∧bm R sz s a c xs
end Go.Lw
namespace Go.Lw
open Go.RowKit
def dD (P:Program) (t:TypeId):Option (Bool × Nat) :=
 match P.underlying t,P.info? t with
 | some d,some i=>some (match d with | .struct _ | .array _ _=>true | _=>false,i.size)
 | _,_=>none
def F0 (P:Program) (s:TypeId) (k:Nat):Option (Nat × Nat) :=
 match P.underlying s with
 | some (.struct fs) =>
  match fs[k]? with
  | some f=>(P.info? f.type).map fun i=>(f.offset,i.size)
  | none=>none
 | _=>none
def eJ (P:Program) (t:TypeId):Option (TypeId × Nat × Nat) :=
 match P.underlying t with
 | some (.slice e)=>(P.info? e).map fun i=>(e,i.size,i.bytes)
 | _=>none
def eY (P:Program) (t:TypeId):Option (List Value):=((P.info? t).bind (·.zero)).map (·.cells.toList)
def km (P:Program) (f:FuncId):Bool :=
 match P.funcs[f]? with
 | some fn=>fn.body.isSome && !(fn.name == "runtime.NumGoroutine")
 | none=>false
section
variable {P:Program} {w:World} {t s e:TypeId} {b:Bool} {k n:Nat}
theorem C3 (h:dD P t=some (b,k)):(isAgg t).run P w = .ok b w∧(sizeOf t).run P w = .ok k w:=by
 unfold dD at h
 split at h
 rename_i d i hd hi
 simp only[Option.some.injEq,Prod.mk.injEq] at h
 obtain⟨h1,h2⟩:=h
 constructor
 simp only[isAgg,Sem.run_bind,run_underlying hd,Result.andThen_ok]
 rw[←h1]
 cases d<;>simp
 simp[sizeOf,typeInfo,hi,h2]
 cases h
theorem pE {m:Nat} (h:eJ P t=some (e,k,m)):P.underlying t=some (.slice e)∧∃ i,P.info? e=some i∧i.size=k∧i.bytes=m:=by
 unfold eJ at h
 split at h
 rename_i e' he
 cases hi:P.info? e' with
 | none=>simp[hi] at h
 | some i =>
  simp only[hi,Option.map_some,Option.some.injEq,Prod.mk.injEq] at h
  obtain⟨rfl,h2,h3⟩:=h
  exact⟨he,i,hi,h2,h3⟩
 cases h
end
section
variable {P:Program} {n:Nat} {E:dE} {w w':World} {o:Oper} {v:Value} {x y:Operand}
theorem nG.QD {t:TypeId} {ad:Addr} {r:aj} {vs:List Value} {j:Nat} (ho:o.op = .load t x) (ht:dD P t=some (false,1)) (hx:ev E x=some (.pointer (some (ad.add j)))) (h:Holds r ad vs) (cq:In r w) (hv:vs[j]?=some v) :
  nG P n o E w v w:=fun a ha=>by
 have hc:=h.cell cq hv
 unfold execOp
 simp only[ho,ha.ev hx]
 simp[Instr.loadAt,Instr.sureAddr,loadVar,(C3 ht).1,load,Sem.run,hc,Sem.run_bind]
theorem nG.Xp {t:TypeId} {ad:Addr} {r:aj} {vs us:List Value} {j k:Nat} (ho:o.op = .load t x) (ht:dD P t=some (true,k)) (hx:ev E x=some (.pointer (some (ad.add j)))) (h:Holds r ad vs) (cq:In r w)
  (hv:(vs.drop j).take k=us) (hl:us.length=k):nG P n o E w (.agg us.toArray) w:=fun a ha=>by
 have hp:Holds r (ad.add j) us:=h.part j (fun i u hu=>by
  rw[←hv,List.getElem?_take] at hu
  split at hu
  rwa[List.getElem?_drop] at hu
  cases hu)
 have hr:=run_loadCells_list (P:=P) w (ad.add j) us (fun i u hu=>hp.cell cq hu)
 rw[hl] at hr
 unfold execOp
 simp only[ho,ha.ev hx]
 simp[Instr.loadAt,Instr.sureAddr,loadVar,(C3 ht).1,(C3 ht).2,hr,Sem.run_bind]
theorem nG.field {s:TypeId} {i k off:Nat} {ad:Addr} (ho:o.op = .fieldAddr s x i) (hf:F0 P s i=some (off,k)) (hk:Nat.blt 0 k=true) (hx:ev E x=some (.pointer (some ad))) :
  nG P n o E w (.pointer (some (ad.add off))) w:=fun a ha=>by
 have ng:k≠0:=by intro h;subst h;simp[Nat.blt] at hk
 unfold F0 at hf
 split at hf
 rename_i fs hs
 split at hf
 rename_i f GI
 cases hi:P.info? f.type with
 | none=>simp[hi] at hf
 | some inf =>
  simp only[hi,Option.map_some,Option.some.injEq,Prod.mk.injEq] at hf
  obtain⟨h1,h2⟩:=hf
  have cV:inf.size≠0:=by rw[h2];exact ng
  unfold execOp
  simp only[ho,ha.ev hx]
  simp[Instr.fieldAt,Instr.sureAddr,fieldPlace,sizeOf,typeInfo,run_underlying hs,GI,hi,cV,h1,Sem.run_bind]
 cases hf
 cases hf
theorem nG.box {t:TypeId} (ho:o.op = .box t x) (hx:ev E x=some v):nG P n o E w (.pointer (some ⟨w.heap.size,0,none⟩)) (w.alloc (.cells v.cells t)):=fun a ha=>by
 unfold execOp
 simp only[ho,ha.ev hx]
 simp[Instr.box,newVar,newRow]
theorem ajC {t:TypeId} {g j k:Nat} {cs:Array Value} {el:TypeId} {b:Bool} {u:Value} (hg:w.heap[g]?=some (.cells cs el (0,0))) (ht:dD P t=some (b,k)) (hk:u.cells.size=k) (h1:∀ z∈u.cells.toList,z.oneCell'=true) (hj:j+k≤cs.size) :
  (Instr.storeAt t (.pointer (some ((⟨g,0,none⟩:Addr).add j))) u).run P w = .ok () (w.setRow g (cs.toList.take j++u.cells.toList++cs.toList.drop (j+k)).toArray):=by
 have Bu:(⟨g,0,none⟩:Addr).add j=⟨g,j,none⟩:=by unfold Addr.add;split<;>simp_all
 have cc:=run_storeCells_at P g j el u.cells.toList 0 cs w hg (by simp[hk];exact hj) h1
 simp only[Nat.add_zero] at cc
 have hl:u.cells.toList.length=k:=by simpa using hk
 rw[hl] at cc
 simp[Instr.storeAt,Instr.sureAddr,storeVar,(C3 ht).2,hk,Bu,cc,Sem.run_bind]
end
structure cU (P:Program) (w:World) (t:TypeId) (sz:Nat) (x:Value) (m:Nat) (bB:List Value):Prop where
 Zk:P.underlying t=some .string∨∃ e,P.underlying t=some (.slice e)
 len:∀ w',(Builtin.lenOf x).run P w' = .ok m w'
 first:∀ w':World,w'.heap=w.heap→(Builtin.firstCells sz m x).run P w' = .ok bB.toArray w'
 size:bB.length=m*sz
section
variable {P:Program} {w:World} {s A r:aj} {os:List aj}
theorem cU.slice {t e:TypeId} {sz m c:Nat} {by_:Nat} {a:Option Addr} {bB:List Value} (ht:eJ P t=some (e,sz,by_)) (hl:bB.length=m*sz) (h:m=0∨∃ ad,a=some ad∧Holds r ad bB) (cq:In r w) :
  cU P w t sz (.slice a m c) m bB:=by
 refine⟨.inr ⟨_,(pE ht).1⟩,fun w'=>by simp[Builtin.lenOf],fun w' hw=>?_,hl⟩
 rcases h with rfl | ⟨ad,rfl,hh⟩
 have:bB=[]:=List.eq_nil_of_length_eq_zero (by simpa using hl)
 subst this
 cases a with
 | none=>simp[Builtin.firstCells]
 | some ad=>simp[Builtin.firstCells,loadCells,loadCellsFrom]
 exact run_firstCells_some w' sz m ad m c bB hl (fun j v hj=>by
  have:=hh.cell cq hj
  simpa [World.cell?,hw] using this)
theorem Fa {t t2 ty e:TypeId} {sz by_ m n c:Nat} {x:Value} {bB:List Value} {a:Option Addr} (hs:eJ P t=some (e,sz,by_)) (fe:cU P w t2 sz x m bB) (iF:n+m≤c) (hn:a=none→bB=[]) :
  (Builtin.append_ #[t,t2] ty #[.slice a n c,x]).run P w=match a with
   | none=> .ok (.slice none (n+m) c) w
   | some ad=>((storeCells (ad.add (n*sz)) bB).run P w).andThen fun _ w'=> .ok (.slice (some ad) (n+m) c) w':=by
 obtain⟨hu,i,hi,rfl,hb⟩:=pE hs
 have hf:=fe.first w rfl
 rcases fe.Zk with hd | ⟨e',hd⟩
 all_goals cases a with
 | none =>
  rw[hn rfl] at hf
  simp[Builtin.append_,run_underlying hu,run_underlying hd,sizeOf,typeInfo,hi,fe.len,iF,hf]
 | some ad=>simp[Builtin.append_,run_underlying hu,run_underlying hd,sizeOf,typeInfo,hi,fe.len,iF,hf]
theorem Rm {t t2 ty e:TypeId} {sz by_ m n c:Nat} {x:Value} {jx bB z:List Value} {a:Option Addr} (hs:eJ P t=some (e,sz,by_)) (hz:eY P e=some z) (fe:cU P w t2 sz x m bB)
  (hold:∀ w':World,w'.heap=w.heap→(Builtin.firstCells sz n (.slice a n c)).run P w' = .ok jx.toArray w') (iF:c<n+m) (qY:n+m≤9223372036854775807) (o4:(n+m)*by_≤140737488355328) :
  (Builtin.append_ #[t,t2] ty #[.slice a n c,x]).run P w =
   .ok (.slice (some ⟨w.heap.size,0,none⟩) (n+m) (grownCap w (n+m) c e)) (w.drew.alloc (.cells (jx.toArray++bB.toArray++Builtin.zeroCells z.toArray (grownCap w (n+m) c e-(n+m))) e)):=by
 obtain⟨hu,i,hi,rfl,rfl⟩:=pE hs
 have hf:=fe.first w.drew rfl
 have ho:=hold w.drew rfl
 have hn:¬ (n+m≤c):=by omega
 have Nk:¬ (9223372036854775807<((n:Int)+(m:Int))):=by omega
 have j5:=growslice_fits (bytes:=i.bytes) iF o4
 have Nh:¬ (281474976710656<Builtin.nextslicecap (n+m) c*i.bytes):=by omega
 unfold eY at hz
 simp only[hi,Option.bind_some] at hz
 cases nX:i.zero with
 | none=>simp[nX] at hz
 | some zv =>
  simp only[nX,Option.map_some,Option.some.injEq] at hz
  have vo:zv.cells=z.toArray:=by rw[←hz]
  rcases fe.Zk with hd | ⟨e',hd⟩
  all_goals simp[Builtin.append_,run_underlying hu,run_underlying hd,sizeOf,typeInfo,zeroValue,hi,nX,fe.len,hn,Nk,Nh,Question.forced,hf,ho,newRow,grownCap,vo]
  all_goals
   congr 2
   apply Array.ext'
   simp[List.append_assoc]
theorem QV (b:Nat) (x:Obj) (r:aj):(aj.one b x).eN r b=some x:=by simp[aj.eN,aj.one]
theorem dq (r:aj) (b:Nat) (x:Obj):r.put b x b=some x:=by simp[aj.put]
theorem aba {α:Type} {R:aj→List Value→α→Prop} {t t2 ty e:TypeId} {sz by_ c:Nat} {x:Value} {bB z:List Value} {a:Option Addr} {xs ys:List α}
  (hg:ak w s (A::os)) (hs:eJ P t=some (e,sz,by_)) (hz:eY P e=some z) (gW:z.length=sz) (ky:lN R)
  (lD:aW R sz e s A a c xs) (fe:cU P w t2 sz x ys.length bB) (cD:cF R sz s bB ys) (o4:(xs.length+ys.length)*by_≤140737488355328) (ni:xs.length+ys.length≤maxLen) :
  ∃ a' c' A' w',(Builtin.append_ #[t,t2] ty #[.slice a xs.length c,x]).run P w = .ok (.slice a' (xs++ys).length c') w'∧ak w' s (A'::os)∧aW R sz e s A' a' c' (xs++ys)∧ar w w' ∧
   (∀ b,A b≠none→(∀ ad,a=some ad→ad.block≠b)→A' b=A b):=by
 have qY:xs.length+ys.length≤9223372036854775807:=by simp only[maxLen] at ni;omega
 -- a new block
 have moved:∀ jx,(∀ w':World,w'.heap=w.heap→(Builtin.firstCells sz xs.length (.slice a xs.length c)).run P w' = .ok jx.toArray w')→cF R sz s jx xs→c<xs.length+ys.length →
   ∃ a' c' A' w',(Builtin.append_ #[t,t2] ty #[.slice a xs.length c,x]).run P w = .ok (.slice a' (xs++ys).length c') w'∧ak w' s (A'::os)∧aW R sz e s A' a' c' (xs++ys)∧ar w w' ∧
    (∀ b,A b≠none→(∀ ad,a=some ad→ad.block≠b)→A' b=A b):=by
  intro jx hold kP iF
  have fo:=Rm (ty:=ty) hs hz fe hold iF qY o4
  have Eb:=grownCap_ge w (xs.length+ys.length) c e
  have ox:grownCap w (xs.length+ys.length) c e≤maxLen:=grownCap_le_maxLen w _ c e ni
  have fh:=(hg.drew.alloc (.cells (jx.toArray++bB.toArray++Builtin.zeroCells z.toArray (grownCap w (xs.length+ys.length) c e-(xs.length+ys.length))) e)).eN
  have wy:A w.heap.size=none:=by
   cases hA:A w.heap.size with
   | none=>rfl
   | some o=>exact absurd (hg.1.lt (by rw[hA];simp)) (Nat.lt_irrefl _)
  refine⟨_,_,_,_,by rw[List.length_append];exact fo,fh,.inr ⟨w.heap.size,_,rfl,QV _ _ _,by rw[List.length_append];exact Eb,ox,?_,?_⟩,(ar.drew w).trans (ar.alloc _ _),fun b hb _=>?_⟩
  have h1:=kP.length
  have h2:=cD.length
  simp only[Array.size_append,List.size_toArray,size_zeroCells,gW,h1,h2,← Nat.add_mul]
  congr 1
  omega
  have h1:=kP.length
  have h2:=cD.length
  have e1:(jx.toArray++bB.toArray++Builtin.zeroCells z.toArray (grownCap w (xs.length+ys.length) c e-(xs.length+ys.length))).toList.take ((xs++ys).length*sz)=jx++bB:=by
   simp only[Array.toList_append,List.length_append,Nat.add_mul,← h1,← h2]
   rw[←List.length_append]
   exact List.take_left
  rw[e1]
  exact kP.append cD
  have Gz:b≠w.heap.size:=fun h=>by subst h;exact hb wy
  simp[aj.eN,aj.one,Gz]
 rcases lD with ⟨rfl,rfl,rfl⟩ | ⟨g,cs,rfl,uG,El,ox,dr,kP⟩
 by_cases hm:ys.length=0
 have hy:ys=[]:=List.eq_nil_of_length_eq_zero hm
 subst hy
 have hn:bB=[]:=cD
 subst hn
 exact⟨none,0,A,w,Fa (a:=none) hs fe (by simp) (fun _=>rfl),hg,.inl ⟨rfl,rfl,rfl⟩,ar.refl w,fun _ _ _=>rfl⟩
 exact moved [] (fun w' _=>by simp[Builtin.firstCells]) rfl (by simp;omega)
 have a_:Holds A ⟨g,0,none⟩ (cs.toList.take (xs.length*sz)):=⟨cs,e,(0,0),uG,rfl,fun j u hu=>by
  rw[List.getElem?_take] at hu
  split at hu
  simpa using hu
  cases hu⟩
 by_cases iF:xs.length+ys.length≤c
 have wD:=hg.1 g _ uG
 have h1:=kP.length
 have h2:=cD.length
 have Bu:(⟨g,0,none⟩:Addr).add (xs.length*sz)=⟨g,xs.length*sz,none⟩:=by unfold Addr.add;split<;>simp_all
 have j5:xs.length*sz+bB.length≤cs.size:=by rw[h2,dr,← Nat.add_mul];exact Nat.mul_le_mul_right _ iF
 have cc:=run_storeCells_at P g (xs.length*sz) e bB 0 cs w wD (by simpa using j5) (cD.one ky)
 simp only[Nat.add_zero] at cc
 have fo:=Fa (ty:=ty) (a:=some ⟨g,0,none⟩) hs fe iF (by simp)
 simp only[Bu,cc,Result.andThen_ok] at fo
 let new:=(cs.toList.take (xs.length*sz)++bB++cs.toList.drop (xs.length*sz+bB.length)).toArray
 have zO:=hg.Al (w':=w.setRow g new) uG (setRow_heap w g cs new e (0,0) wD) (fun k _ hk=>setRow_other w g k new hk)
 refine⟨_,_,_,_,by rw[List.length_append];exact fo,zO,.inr ⟨g,_,rfl,dq _ _ _,by rw[List.length_append];exact iF,ox,?_,?_⟩,⟨rfl,rfl,rfl,by simp⟩,fun b _ hb=>?_⟩
 rw[←dr]
 simp only[new,List.size_toArray,List.length_append,List.length_take,List.length_drop,Array.length_toList]
 omega
 have e1:((cs.toList.take (xs.length*sz)++bB++cs.toList.drop (xs.length*sz+bB.length)).toArray).toList.take ((xs++ys).length*sz)=cs.toList.take (xs.length*sz)++bB:=by
  rw[List.length_append,Nat.add_mul,← h2]
  conv=>lhs;arg 1;rw[←h1]
  rw[←List.length_append]
  exact List.take_left
 rw[e1]
 exact kP.append cD
 have:b≠g:=fun h=>hb ⟨g,0,none⟩ rfl h.symm
 simp[aj.put,this]
 exact moved _ (fun w' hw=>run_firstCells_some w' sz xs.length ⟨g,0,none⟩ xs.length c _ kP.length (fun j v hj=>by
  have:=a_.cell hg.1 hj
  simpa [World.cell?,hw] using this)) kP (by omega)
end
end Go.Lw
namespace Go.Lw
open Go.RowKit
section
variable {P:Program} {n:Nat} {ops:Array Oper} {Q:Exit→Act→World→Prop} {S:World→Prop} {au:List (Bool × Oper)} {E:dE} {w:World} {o:Oper} {d:Nat} {v:Value}
variable {s:aj} {os:List aj} {A:aj} {x y:Operand} {T:Bool}
theorem CS {op:BinOp} {t yt:TypeId} {k j:IntKind} {a b:Int} {v:Value} (ho:o.op = .binOp op t x y yt) (hx:ev E x=some (.int k a)) (hy:ev E y=some (.int j b))
  (hr:∀ w:World,(binOp op t (.int k a) (.int j b)).run P w = .ok v w):∀ w,nG P n o E w v w:=fun w ac ha=>by
 unfold execOp
 simp only[ho,ha.ev hx,ha.ev hy]
 simp[Sem.run_bind,Yt,hr w]
theorem RL.ij (hg:bR ops E o=some true) (hd:o.dst=some d) (hb:Nat.blt d n=true) (hr:∀ w,nG P n o E w v w) (h:RL P n ops Q S au ((d,v)::E) w) :
  RL P n ops Q S ((T,o)::au) E w:=by
 cases T with
 | false=>exact fun hS=>RL.step hg hd hb (hr w) hS h hS
 | true=>exact RL.take hg hd hb (fun w _=>hr w) h
theorem RL.add {k:IntKind} {a b:Int} {t yt:TypeId} (hg:bR ops E o=some true) (hd:o.dst=some d) (hb:Nat.blt d n=true) (ho:o.op = .binOp .add t x y yt) (hx:ev E x=some (.int k a)) (hy:ev E y=some (.int k b))
  (hr:aq k (a+b)) (h:RL P n ops Q S au ((d,.int k (a+b))::E) w):RL P n ops Q S ((T,o)::au) E w :=
 RL.ij hg hd hb (CS ho hx hy fun w=>by rw[Lb (v:= .int k (a+b)) w (by simp[EL,hr.wrap])]) h
theorem RL.sub {k:IntKind} {a b:Int} {t yt:TypeId} (hg:bR ops E o=some true) (hd:o.dst=some d) (hb:Nat.blt d n=true) (ho:o.op = .binOp .sub t x y yt) (hx:ev E x=some (.int k a)) (hy:ev E y=some (.int k b))
  (hr:aq k (a-b)) (h:RL P n ops Q S au ((d,.int k (a-b))::E) w):RL P n ops Q S ((T,o)::au) E w :=
 RL.ij hg hd hb (CS ho hx hy fun w=>by rw[Lb (v:= .int k (a-b)) w (by simp[EL,hr.wrap])]) h
theorem RL.mul {k:IntKind} {a b:Int} {t yt:TypeId} (hg:bR ops E o=some true) (hd:o.dst=some d) (hb:Nat.blt d n=true) (ho:o.op = .binOp .mul t x y yt) (hx:ev E x=some (.int k a)) (hy:ev E y=some (.int k b))
  (hr:aq k (a*b)) (h:RL P n ops Q S au ((d,.int k (a*b))::E) w):RL P n ops Q S ((T,o)::au) E w :=
 RL.ij hg hd hb (CS ho hx hy fun w=>by rw[Lb (v:= .int k (a*b)) w (by simp[EL,hr.wrap])]) h
theorem RL.nH {v0:Value} (hg:bR ops E o=some true) (hd:o.dst=some d) (hb:Nat.blt d n=true) (hp:pv (ev E) o.op=some v0) (v:Value) (hv:v0=v) (h:RL P n ops Q S au ((d,v)::E) w) :
  RL P n ops Q S ((T,o)::au) E w:=by
 subst hv
 exact RL.pure hg hd hb hp h
theorem RL.quo {k:IntKind} {a b:Int} {t yt:TypeId} (hg:bR ops E o=some true) (hd:o.dst=some d) (hb:Nat.blt d n=true) (ho:o.op = .binOp .quo t x y yt) (hx:ev E x=some (.int k a)) (hy:ev E y=some (.int k b))
  (h0:0≤a) (h1:0<b) (hr:aq k a) (h:RL P n ops Q S au ((d,.int k (a / b))::E) w):RL P n ops Q S ((T,o)::au) E w:=by
 refine RL.ij hg hd hb (CS ho hx hy fun w=>?_) h
 have Bx:b≠0:=by omega
 have cg:0≤a / b∧a / b≤a:=IntWalk.tdiv_le a b h0 (by omega)
 have hw:aq k (a / b):=by cases k<;>simp only[aq] at hr ⊢ <;> omega
 simp[binOp,Op.intDiv,Bx,Int.tdiv_eq_ediv_of_nonneg h0,hw.wrap]
theorem RL.rem {k:IntKind} {a b:Int} {t yt:TypeId} (hg:bR ops E o=some true) (hd:o.dst=some d) (hb:Nat.blt d n=true) (ho:o.op = .binOp .rem t x y yt) (hx:ev E x=some (.int k a)) (hy:ev E y=some (.int k b))
  (h0:0≤a) (h1:0<b) (h:RL P n ops Q S au ((d,.int k (a % b))::E) w):RL P n ops Q S ((T,o)::au) E w:=by
 refine RL.ij hg hd hb (CS ho hx hy fun w=>?_) h
 have Bx:b≠0:=by omega
 simp[binOp,Op.intDiv,Bx,Int.tmod_eq_emod_of_nonneg h0]
theorem RL.shr {k j:IntKind} {a b:Int} {t yt:TypeId} (m:Nat) (hg:bR ops E o=some true) (hd:o.dst=some d) (hb:Nat.blt d n=true) (ho:o.op = .binOp .shr t x y yt) (hx:ev E x=some (.int k a)) (hy:ev E y=some (.int j b))
  (hm:b=(m:Int)) (hk:m≤k.bits) (h:RL P n ops Q S au ((d,.int k (a / 2 ^ m))::E) w):RL P n ops Q S ((T,o)::au) E w:=by
 refine RL.ij hg hd hb (CS ho hx hy fun w=>?_) h
 subst hm
 have h0:¬ ((m:Int)<0):=by omega
 have sj:min m k.bits=m:=Nat.min_eq_left hk
 have hp:(0:Int)≤2 ^ m:=Int.le_of_lt (Int.pow_pos (by omega))
 simp[binOp,Op.shift,h0,sj,Int.fdiv_eq_ediv_of_nonneg a hp]
theorem RL.shl {k j:IntKind} {a b:Int} {t yt:TypeId} (m:Nat) (hg:bR ops E o=some true) (hd:o.dst=some d) (hb:Nat.blt d n=true) (ho:o.op = .binOp .shl t x y yt) (hx:ev E x=some (.int k a)) (hy:ev E y=some (.int j b))
  (hm:b=(m:Int)) (hk:m≤k.bits) (h:RL P n ops Q S au ((d,.int k (k.wrap (a*2 ^ m)))::E) w):RL P n ops Q S ((T,o)::au) E w:=by
 refine RL.ij hg hd hb (CS ho hx hy fun w=>?_) h
 subst hm
 have h0:¬ ((m:Int)<0):=by omega
 have sj:min m k.bits=m:=Nat.min_eq_left hk
 simp[binOp,Op.shift,h0,sj]
theorem ajw {src dst:TypeId} {k j:IntKind} {a:Int} {u:TypeDesc} (hs:P.underlying src=some u) (ht:P.underlying dst=some (.int k)) (w:World):(convert src dst (.int j a)).run P w = .ok (.int k (k.wrap a)) w:=by
 cases u<;>simp[convert,run_underlying hs,run_underlying ht,Conv.intToInt]
theorem RL.conv {k j:IntKind} {a:Int} {src dst:TypeId} {u:TypeDesc} (hg:bR ops E o=some true) (hd:o.dst=some d) (hb:Nat.blt d n=true) (ho:o.op = .convert src dst x) (hs:P.underlying src=some u) (ht:P.underlying dst=some (.int k))
  (hx:ev E x=some (.int j a)) (hr:aq k a) (h:RL P n ops Q S au ((d,.int k a)::E) w):RL P n ops Q S ((T,o)::au) E w:=by
 refine RL.ij hg hd hb (fun w ac ha=>?_) h
 unfold execOp
 simp only[ho,ha.ev hx]
 simp[ajw hs ht,hr.wrap]
theorem RL.len {t:TypeId} {e:TypeId} {sz by_ m c:Nat} {a:Option Addr} (hg:bR ops E o=some true) (hd:o.dst=some d) (hb:Nat.blt d n=true)
  (ho:o.op = .call { callee:= .builtin .len,args:= #[x],argTypes:= #[t] }) (ht:eJ P t=some (e,sz,by_)) (hx:ev E x=some (.slice a m c)) (h:RL P n ops Q S au ((d,.int .i64 m)::E) w):RL P n ops Q S ((T,o)::au) E w:=by
 refine RL.ij hg hd hb (fun w ac ha=>?_) h
 unfold execOp
 simp only[ho]
 simp[resolve,invoke,builtin,Builtin.len_,ha.ev hx,run_underlying (pE ht).1,goInt]
theorem RL.min {t t':TypeId} {k j:IntKind} {a b:Int} (hg:bR ops E o=some true) (hd:o.dst=some d) (hb:Nat.blt d n=true)
  (ho:o.op = .call { callee:= .builtin .min,args:= #[x,y],argTypes:= #[t,t'] }) (hx:ev E x=some (.int k a)) (hy:ev E y=some (.int j b)) (h:RL P n ops Q S au ((d,.int k (if b<a then b else a))::E) w):RL P n ops Q S ((T,o)::au) E w:=by
 refine RL.ij hg hd hb (fun w ac ha=>?_) h
 unfold execOp
 simp only[ho]
 simp[resolve,invoke,builtin,Builtin.min_,Builtin.min2,ha.ev hx,ha.ev hy]
theorem RL.max {t t':TypeId} {k j:IntKind} {a b:Int} (hg:bR ops E o=some true) (hd:o.dst=some d) (hb:Nat.blt d n=true)
  (ho:o.op = .call { callee:= .builtin .max,args:= #[x,y],argTypes:= #[t,t'] }) (hx:ev E x=some (.int k a)) (hy:ev E y=some (.int j b)) (h:RL P n ops Q S au ((d,.int k (if b>a then b else a))::E) w):RL P n ops Q S ((T,o)::au) E w:=by
 refine RL.ij hg hd hb (fun w ac ha=>?_) h
 unfold execOp
 simp only[ho]
 simp[resolve,invoke,builtin,Builtin.max_,Builtin.max2,ha.ev hx,ha.ev hy]
theorem ajz (P:Program) (op:BinOp) (t:TypeId) (x y:Operand) (a b:ByteArray) (w:World):(eqGuard op t x y (.string a) (.string b)).run P w = .ok () w:=by
 unfold eqGuard
 cases op<;>rfl
theorem RL.YB {t yt:TypeId} {a b:ByteArray} (hg:bR ops E o=some true) (hd:o.dst=some d) (hb:Nat.blt d n=true) (ho:o.op = .binOp .eql t x y yt) (hx:ev E x=some (.string a)) (hy:ev E y=some (.string b))
  (h:RL P n ops Q S au ((d,.bool (a.toList==b.toList))::E) w):RL P n ops Q S ((T,o)::au) E w:=by
 refine RL.ij hg hd hb (fun w ac ha=>?_) h
 unfold execOp
 simp only[ho,ha.ev hx,ha.ev hy]
 simp[ajz,binOp_string_eql]
theorem ajx (P:Program) (op:BinOp) (t:TypeId) (x y:Operand) (a b:Bool) (w:World):(eqGuard op t x y (.bool a) (.bool b)).run P w = .ok () w:=by
 unfold eqGuard
 cases op<;>rfl
theorem ajA {t:TypeId} (ht:P.underlying t=some .bool) (a b:Bool) (d:Nat) (w:World):(Op.equalIn (d+1) t (.bool a) (.bool b)).run P w = .ok (a==b) w:=by
 simp[Op.equalIn,run_underlying ht]
theorem ajB {t:TypeId} (ht:P.underlying t=some .bool) (a b:Bool) (w:World):(Op.equal t (.bool a) (.bool b)).run P w = .ok (a==b) w:=ajA ht a b 9999 w
theorem RL.bEq {t yt:TypeId} {a b:Bool} (hg:bR ops E o=some true) (hd:o.dst=some d) (hb:Nat.blt d n=true) (ho:o.op = .binOp .eql t x y yt) (ht:P.underlying t=some .bool) (hx:ev E x=some (.bool a)) (hy:ev E y=some (.bool b))
  (h:RL P n ops Q S au ((d,.bool (a==b))::E) w):RL P n ops Q S ((T,o)::au) E w:=by
 refine RL.ij hg hd hb (fun w ac ha=>?_) h
 unfold execOp
 simp only[ho,ha.ev hx,ha.ev hy]
 simp only[Sem.run_bind,ajx,Result.andThen_ok,binOp,ajB ht,Sem.run_pure]
end
end Go.Lw
namespace Go.Lw
open Go.RowKit
section
variable {P:Program} {n:Nat} {ops:Array Oper} {Q:Exit→Act→World→Prop} {S:World→Prop} {au:List (Bool × Oper)} {E:dE} {w:World} {o:Oper} {d:Nat} {v:Value}
variable {s A:aj} {os:List aj} {x y:Operand} {T:Bool}
theorem RL.field {t:TypeId} {i k off:Nat} {ad:Addr} (hg:bR ops E o=some true) (hd:o.dst=some d) (hb:Nat.blt d n=true) (ho:o.op = .fieldAddr t x i) (hf:F0 P t i=some (off,k)) (hk:Nat.blt 0 k=true)
  (hx:ev E x=some (.pointer (some ad))) (h:RL P n ops Q S au ((d,.pointer (some (ad.add off)))::E) w):RL P n ops Q S ((T,o)::au) E w :=
 RL.ij hg hd hb (fun _=>nG.field ho hf hk hx) h
theorem RL.load {t:TypeId} {ad:Addr} {r:aj} {vs:List Value} {j:Nat} (hg:bR ops E o=some true) (hd:o.dst=some d) (hb:Nat.blt d n=true) (ho:o.op = .load t x) (ht:dD P t=some (false,1))
  (hx:ev E x=some (.pointer (some (ad.add j)))) (h:Holds r ad vs) (cq:In r w) (hv:vs[j]?=some v) (hr:RL P n ops Q S au ((d,v)::E) w):RL P n ops Q S ((false,o)::au) E w:=fun hS =>
 RL.step hg hd hb (nG.QD ho ht hx h cq hv) hS hr hS
theorem RL.fV {t:TypeId} {ad:Addr} {r:aj} {vs:List Value} {j:Nat} (hg:bR ops E o=some true) (hd:o.dst=some d) (hb:Nat.blt d n=true) (ho:o.op = .load t x) (ht:dD P t=some (false,1))
  (hx:ev E x=some (.pointer (some (ad.add j)))) (h:Holds r ad vs) (cq:∀ w,S w→In r w) (hv:vs[j]?=some v) (hr:RL P n ops Q S au ((d,v)::E) w):RL P n ops Q S ((true,o)::au) E w :=
 RL.take hg hd hb (fun w hS=>nG.QD ho ht hx h (cq w hS) hv) hr
theorem RL.gX {t:TypeId} {ad:Addr} {r:aj} {vs us:List Value} {j k:Nat} (hg:bR ops E o=some true) (hd:o.dst=some d) (hb:Nat.blt d n=true) (ho:o.op = .load t x) (ht:dD P t=some (true,k))
  (hx:ev E x=some (.pointer (some (ad.add j)))) (h:Holds r ad vs) (cq:In r w) (hv:(vs.drop j).take k=us) (hl:us.length=k) (hr:RL P n ops Q S au ((d,.agg us.toArray)::E) w):RL P n ops Q S ((false,o)::au) E w:=fun hS =>
 RL.step hg hd hb (nG.Xp ho ht hx h cq hv hl) hS hr hS
theorem RL.rB {t:TypeId} {ad:Addr} {r:aj} {vs us:List Value} {j k:Nat} (hg:bR ops E o=some true) (hd:o.dst=some d) (hb:Nat.blt d n=true) (ho:o.op = .load t x) (ht:dD P t=some (true,k))
  (hx:ev E x=some (.pointer (some (ad.add j)))) (h:Holds r ad vs) (cq:∀ w,S w→In r w) (hv:(vs.drop j).take k=us) (hl:us.length=k) (hr:RL P n ops Q S au ((d,.agg us.toArray)::E) w):RL P n ops Q S ((true,o)::au) E w :=
 RL.take hg hd hb (fun w hS=>nG.Xp ho ht hx h (cq w hS) hv hl) hr
theorem Holds.of {b:Nat} {cs:Array Value} {el:TypeId} {fr:Nat × Nat} (h:A b=some (.cells cs el fr)):Holds A ⟨b,0,none⟩ cs.toList :=
 ⟨cs,el,fr,h,rfl,fun j u hj=>by simpa using hj⟩
theorem RL.box {t:TypeId} (hg:bR ops E o=some true) (hd:o.dst=some d) (hb:Nat.blt d n=true) (ho:o.op = .box t x) (hx:ev E x=some v) (hG:ak w s os)
  (h:∀ b w',ak w' s (aj.one b (.cells v.cells t)::os)→ar w w'→S w'∧RL P n ops Q S au ((d,.pointer (some ⟨b,0,none⟩))::E) w'):RL P n ops Q S ((false,o)::au) E w:=by
 obtain⟨h1,h2⟩:=h w.heap.size _ (hG.alloc (.cells v.cells t)) (ar.alloc w _)
 exact RL.step hg hd hb (nG.box ho hx) h1 h2
def parts (E:dE):List (Nat × Operand)→Option (List (Nat × Value))
 | []=>some []
 | (i,x)::r =>
  match ev E x,parts E r with
  | some v,some l=>some ((i,v)::l)
  | _,_=>none
theorem At.parts {a:Act} (ha:At n E a):∀ {ps:List (Nat × Operand)} {l:List (Nat × Value)},parts E ps=some l→ps.map (fun p=>(p.1,a.eval p.2))=l
 | [],l,h=>by simpa [Lw.parts] using h
 | (i,x)::r,l,h=>by
  simp only[Lw.parts] at h
  split at h
  rename_i v l' hv hl
  simp only[Option.some.injEq] at h
  subst h
  simp[ha.ev hv,ha.parts hl]
  cases h
def lx (cs:List Value) (off:Nat) (vs:List Value):List Value:=cs.take off++(vs++cs.drop (off+vs.length))
def xw (lG:Nat→Option (Nat × Nat)):List Value→List (Nat × Value)→Option (List Value)
 | cs,[]=>some cs
 | cs,(i,v)::r =>
  match lG i with
  | none=>none
  | some (off,size)=>cond (Nat.beq v.cells.toList.length size && Nat.ble (off+size) cs.length) (xw lG (lx cs off v.cells.toList) r) none
def pG:Nat→List Value→List Value
 | 0,_=>[]
 | n+1,z=>z++pG n z
theorem X8:∀ (vs cs:List Value) (off k:Nat),off+k+vs.length≤cs.length →
  (vs.zipIdx k).foldl (fun (cs:Array Value) (p:Value × Nat)=>cs.setIfInBounds (off+p.2) p.1) cs.toArray=(lx cs (off+k) vs).toArray
 | [],cs,off,k,_=>by simp[lx]
 | v::vs,cs,off,k,h=>by
  simp only[List.length_cons] at h
  rw[List.zipIdx_cons,List.foldl_cons,List.setIfInBounds_toArray,X8 vs (cs.set (off+k) v) off (k+1) (by simp;omega)]
  congr 1
  simp only[lx,List.length_cons]
  rw[show off+(k+1)=off+k+1 by omega,List.take_set,List.drop_set_of_lt (by omega)]
  rw[show off+k+(vs.length+1)=off+k+1+vs.length by omega]
  rw[List.take_succ_eq_append_getElem (by omega)]
  rw[List.set_append_right _ _ (by rw[List.length_take];omega)]
  simp only[List.length_take]
  rw[show off+k-min (off+k) cs.length=0 by omega]
  simp
theorem MT (lG:Nat→Option (Nat × Nat)):∀ (l:List (Nat × Value)) (cs ds:List Value),xw lG cs l=some ds→Instr.fill lG cs.toArray l=some ds.toArray
 | [],cs,ds,h=>by simp only[xw,Option.some.injEq] at h;subst h;rfl
 | (i,v)::r,cs,ds,h=>by
  simp only[xw] at h
  cases hp:lG i with
  | none=>simp[hp] at h
  | some p =>
   obtain⟨off,size⟩:=p
   simp only[hp] at h
   by_cases hc:(Nat.beq v.cells.toList.length size && Nat.ble (off+size) cs.length)=true
   rw[hc,cond_true] at h
   simp only[Bool.and_eq_true] at hc
   have h1:v.cells.size=size:=by simpa using Nat.eq_of_beq_eq_true hc.1
   have h2:=Nat.le_of_ble_eq_true hc.2
   have ih:=MT lG r _ ds h
   simp only[Instr.fill,hp]
   rw[if_neg (by simp[h1];omega)]
   rw[←ih]
   congr 1
   have:=X8 v.cells.toList cs off 0 (by simp[h1];omega)
   simp only[Nat.add_zero] at this
   rw[←this]
   rw[←Array.foldl_toList]
   simp[Array.toList_zipIdx]
   rw[Bool.not_eq_true] at hc
   rw[hc,cond_false] at h
   cases h
theorem LR:∀ (n:Nat) (z:List Value),(pG n z).length=n*z.length
 | 0,z=>by simp[pG]
 | n+1,z=>by simp[pG,LR n z,Nat.add_mul,Nat.add_comm]
theorem ZY:∀ (n:Nat) (z:List Value) (j:Nat),j<n*z.length→(pG n z)[j]?=z[j % z.length]?
 | 0,z,j,h=>by simp at h
 | n+1,z,j,h=>by
  simp only[pG]
  by_cases hj:j<z.length
  rw[List.getElem?_append_left hj,Nat.mod_eq_of_lt hj]
  rw[List.getElem?_append_right (by omega),ZY n z _ (by rw[Nat.add_mul] at h;omega)]
  rw[Nat.mod_eq_sub_mod (by omega:j≥z.length)]
theorem ZZ (n sz:Nat) (z:List Value) (hz:z.length=sz):(Array.range (n*sz)).map (fun j=>z.toArray[j % z.length]!)=(pG n z).toArray:=by
 subst hz
 apply Array.ext'
 apply List.ext_getElem?
 intro j
 by_cases hj:j<n*z.length
 have Ky:0<z.length:=by
  rcases Nat.eq_zero_or_pos z.length with h | h
  rw[h,Nat.mul_zero] at hj;omega
  exact h
 have hm:j % z.length<z.length:=Nat.mod_lt _ Ky
 rw[List.toList_toArray,ZY n z j hj]
 simp[hj,hm]
 rw[List.getElem?_eq_none (by simp;omega),List.getElem?_eq_none (by simp[LR];omega)]
def oJ (P:Program) (t:TypeId):Option (List (Nat × Nat)) :=
 match P.underlying t with
 | some (.struct fs)=>fs.toList.mapM fun f=>(P.info? f.type).map fun i=>(f.offset,i.size)
 | _=>none
theorem RL.build {t:TypeId} {ps:Array (Nat × Operand)} {l:List (Nat × Value)} {pl:List (Nat × Nat)} {z cs:List Value} (hg:bR ops E o=some true) (hd:o.dst=some d) (hb:Nat.blt d n=true)
  (ho:o.op = .build t ps) (hz:eY P t=some z) (hp:oJ P t=some pl) (yh:parts E ps.toList=some l) (hf:xw (fun i=>pl[i]?) z l=some cs) (h:RL P n ops Q S au ((d,.agg cs.toArray)::E) w) :
  RL P n ops Q S ((T,o)::au) E w:=by
 refine RL.ij hg hd hb (fun w ac ha=>?_) h
 have PH:=ha.parts yh
 have hm:(ps.map fun (i,x)=>(i,ac.eval x)).toList=l:=by rw[←PH];simp
 have aec:P.built t (ps.map fun (i,x)=>(i,ac.eval x)).toList=some cs.toArray:=by
  unfold eY at hz
  unfold oJ at hp
  unfold Program.built
  cases hi:P.info? t with
  | none=>simp[hi] at hz
  | some i =>
   cases nX:i.zero with
   | none=>simp[hi,nX] at hz
   | some zv =>
    simp only[hi,Option.bind_some,nX,Option.map_some,Option.some.injEq] at hz
    have vo:zv.cells=z.toArray:=by rw[←hz]
    split at hp
    rename_i fs hu
    simp only[hu,nX,hp,hm,vo]
    simpa using MT _ _ _ _ hf
    cases hp
 unfold execOp
 simp only[ho,Sem.run_bind,run_build w t _ cs.toArray aec,Result.andThen_ok,Sem.run_pure]
theorem RL.buildSlice {t e:TypeId} {sz by_ len:Nat} {ps:Array (Nat × Operand)} {l:List (Nat × Value)} {z cs:List Value} (hg:bR ops E o=some true) (hd:o.dst=some d) (hb:Nat.blt d n=true)
  (ho:o.op = .buildSlice t len ps) (ht:eJ P t=some (e,sz,by_)) (hz:eY P e=some z) (gW:z.length=sz) (bV:Nat.ble (len*sz) 16777216=true) (yh:parts E ps.toList=some l)
  (BD:xw (fun i=>some (i*sz,sz)) (pG len z) l=some cs) (hG:ak w s os)
  (h:∀ b w',ak w' s (aj.one b (.cells cs.toArray e)::os)→ar w w'→S w'∧RL P n ops Q S au ((d,.slice (some ⟨b,0,none⟩) len len)::E) w'):RL P n ops Q S ((false,o)::au) E w:=by
 obtain⟨h1,h2⟩:=h w.heap.size _ (hG.alloc (.cells cs.toArray e)) (ar.alloc w _)
 have hf:=MT _ _ _ _ BD
 rw[←ZZ len sz z gW] at hf
 refine RL.step hg hd hb (fun ac ha=>?_) h1 h2
 have PH:=ha.parts yh
 have hm:(ps.map fun (i,x)=>(i,ac.eval x)).toList=l:=by rw[←PH];simp
 obtain⟨hu,i,hi,rfl,_⟩:=pE ht
 have cg:¬ (len*i.size>2 ^ 24):=by have:=Nat.le_of_ble_eq_true bV;omega
 unfold eY at hz
 cases nX:i.zero with
 | none=>simp[hi,nX] at hz
 | some zv =>
  simp only[hi,Option.bind_some,nX,Option.map_some,Option.some.injEq] at hz
  have vo:zv.cells=z.toArray:=by rw[←hz]
  have cV:(sizeOf e).run P w = .ok i.size w:=by simp[sizeOf,typeInfo,hi]
  have HS:(zeroValue e).run P w = .ok zv w:=by simp[zeroValue,typeInfo,hi,nX]
  unfold execOp
  simp only[ho]
  simp only[Instr.buildSlice,Sem.run_bind,run_underlying hu,Result.andThen_ok,cV,if_neg cg,hm]
  by_cases h0:len*i.size=0
  have hr:Array.range (len*i.size) = #[]:=by rw[h0];simp
  rw[hr] at hf
  simp only[List.map_toArray,List.map_nil] at hf
  rw[if_pos h0]
  simp only[Sem.run_pure,hr,List.map_toArray,List.map_nil,hf]
  simp[newRow]
  rw[if_neg h0]
  simp only[Sem.run_bind,HS,Sem.run_pure,Result.andThen_ok,vo,List.size_toArray,hf]
  simp[newRow]
theorem RL.store {t:TypeId} {b k j:Nat} {i:Nat} {ag:Bool} {cs:Array Value} {el:TypeId} {u:Value} (hg:bR ops E o=some true) (hd:o.dst=none) (ho:o.op = .store t x y) (ht:dD P t=some (ag,k))
  (hx:ev E x=some (.pointer (some ((⟨b,0,none⟩:Addr).add j)))) (hy:ev E y=some u) (hG:ak w s os) (hi:os[i]?=some A) (hA:A b=some (.cells cs el (0,0))) (hk:u.cells.size=k) (h1:∀ z∈u.cells.toList,z.oneCell'=true) (hj:j+k≤cs.size)
  (h:∀ w',ak w' s (os.set i (A.put b (.cells (cs.toList.take j++u.cells.toList++cs.toList.drop (j+k)).toArray el (0,0))))→ar w w'→S w'∧RL P n ops Q S au E w'):RL P n ops Q S ((false,o)::au) E w:=by
 have hf:=hG.ae i hi
 have zT:=hf.1 b _ hA
 have fo:=ajC (P:=P) zT ht hk h1 hj
 have hw:=hf.Al (w':=w.setRow b (cs.toList.take j++u.cells.toList++cs.toList.drop (j+k)).toArray) hA (setRow_heap w b cs _ el (0,0) zT) (fun k' _ BP=>setRow_other w b k' _ BP)
 obtain⟨h2,h3⟩:=h _ (ak.xo i hi hw) ⟨rfl,rfl,rfl,by simp⟩
 refine RL.skip hg hd (fun ac ha=>?_) h2 h3
 unfold execOp
 simp only[ho,ha.ev hx,ha.ev hy]
 simp[fo]
theorem La {t e:TypeId} {sz by_ m c:Nat} {k:IntKind} {ad:Addr} {i:Int} (ht:eJ P t=some (e,sz,by_)) (h0:0≤i) (h1:i<m) (w:World) :
  (Instr.indexAt t (.slice (some ad) m c) (.int k i)).run P w = .ok (.pointer (some (ad.add (i.toNat*sz)))) w:=by
 obtain⟨hu,inf,hi,rfl,_⟩:=pE ht
 simp[Instr.indexAt,asIntOf,run_underlying hu,h0,h1,sizeOf,typeInfo,hi]
theorem RL.cW {α:Type} {R:aj→List Value→α→Prop} {t e:TypeId} {sz by_ c:Nat} {k:IntKind} {a:Option Addr} {xs:List α} {i:Int} (hg:bR ops E o=some true) (hd:o.dst=some d) (hb:Nat.blt d n=true)
  (ho:o.op = .indexAddr t x y) (ht:eJ P t=some (e,sz,by_)) (hx:ev E x=some (.slice a xs.length c)) (hy:ev E y=some (.int k i)) (hI:bm R sz s a c xs) (h0:0≤i) (h1:i<xs.length)
  (h:∀ q vs,vs.length=sz→Holds s q vs→R s vs (xs[i.toNat]'(by omega))→RL P n ops Q S au ((d,.pointer (some (q.add 0)))::E) w):RL P n ops Q S ((T,o)::au) E w:=by
 have be:i.toNat<xs.length:=by omega
 rcases hI.2.2 with rfl | ⟨ad,rfl,hr⟩
 simp at be
 obtain⟨vs,hl,hh,hR⟩:=hr.get (List.getElem?_eq_getElem be)
 have e0:(ad.add (i.toNat*sz)).add 0=ad.add (i.toNat*sz):=by unfold Addr.add;simp
 have:=h _ vs hl hh hR
 rw[e0] at this
 refine RL.ij hg hd hb (fun w ac ha=>?_) this
 unfold execOp
 simp only[ho,ha.ev hx,ha.ev hy]
 simp[La ht h0 h1]
theorem RL.Cy {α:Type} {R:aj→List Value→α→Prop} {t e:TypeId} {sz by_ c:Nat} {k:IntKind} {a:Option Addr} {xs:List α} {i:Int} {el:TypeId} (hg:bR ops E o=some true) (hd:o.dst=some d) (hb:Nat.blt d n=true)
  (ho:o.op = .indexAddr t x y) (ht:eJ P t=some (e,sz,by_)) (hx:ev E x=some (.slice a xs.length c)) (hy:ev E y=some (.int k i)) (hI:aW R sz el s A a c xs) (h0:0≤i) (h1:i<xs.length)
  (h:∀ g cs vs,a=some ⟨g,0,none⟩→A g=some (.cells cs el (0,0))→cs.size=c*sz→vs.length=sz→(∀ (j:Nat) u,vs[j]?=some u→cs.toList[i.toNat*sz+j]?=some u)→R s vs (xs[i.toNat]'(by omega)) →
   RL P n ops Q S au ((d,.pointer (some ((⟨g,0,none⟩:Addr).add (i.toNat*sz))))::E) w):RL P n ops Q S ((T,o)::au) E w:=by
 have be:i.toNat<xs.length:=by omega
 rcases hI with ⟨rfl,rfl,rfl⟩ | ⟨g,cs,rfl,hA,hl,hm,hs,hc⟩
 simp at be
 obtain⟨vs,hl,hh,hR⟩:=hc.get (List.getElem?_eq_getElem be)
 refine RL.ij hg hd hb (fun w ac ha=>?_) (h g cs vs rfl hA hs hl (fun j u hu=>?_) hR)
 unfold execOp
 simp only[ho,ha.ev hx,ha.ev hy]
 simp[La ht h0 h1]
 have:=hh j u hu
 rw[List.getElem?_take] at this
 split at this
 exact this
 cases this
end
end Go.Lw
namespace Go.Lw
open Go.RowKit
section
variable {P:Program} {n:Nat} {ops:Array Oper} {Q:Exit→Act→World→Prop} {S:World→Prop} {au:List (Bool × Oper)} {E:dE} {w:World} {o:Oper} {d:Nat} {v:Value}
variable {s A:aj} {os:List aj} {x y:Operand} {T:Bool}
def lP (E:dE) (dflt:Nat):Option Operand→Option Nat
 | none=>some dflt
 | some x =>
  match ev E x with
  | some (.int _ i)=>some i.toNat
  | _=>none
theorem RL.append {α:Type} {R:aj→List Value→α→Prop} {t t2 e:TypeId} {sz by_ c:Nat} {i:Nat} {src:Value} {bB z:List Value} {a:Option Addr} {xs ys:List α} (hg:bR ops E o=some true) (hd:o.dst=some d) (hb:Nat.blt d n=true)
  (ho:o.op = .call { callee:= .builtin .append,args:= #[x,y],argTypes:= #[t,t2] }) (ht:eJ P t=some (e,sz,by_)) (hz:eY P e=some z) (gW:z.length=sz) (ky:lN R)
  (hx:ev E x=some (.slice a xs.length c)) (hy:ev E y=some src) (hG:ak w s os) (hi:os[i]?=some A) (lD:aW R sz e s A a c xs) (fe:cU P w t2 sz src ys.length bB) (cD:cF R sz s bB ys)
  (o4:(xs.length+ys.length)*by_≤140737488355328) (r7:0<by_)
  (h:∀ a' c' A' w',ak w' s (os.set i A')→aW R sz e s A' a' c' (xs++ys)→ar w w'→(∀ b,A b≠none→(∀ ad,a=some ad→ad.block≠b)→A' b=A b)→S w'∧RL P n ops Q S au ((d,.slice a' (xs++ys).length c')::E) w'):RL P n ops Q S ((false,o)::au) E w:=by
 have ni:xs.length+ys.length≤maxLen:=by
  have:(xs.length+ys.length)*1≤(xs.length+ys.length)*by_:=Nat.mul_le_mul_left _ r7
  simp only[maxLen];omega
 obtain⟨a',c',A',w',fo,Br,Ge,oV,hk⟩:=aba (ty:=o.type) (hG.ae i hi) ht hz gW ky lD fe cD o4 ni
 obtain⟨h1,h2⟩:=h a' c' A' w' (ak.xo i hi Br) Ge oV hk
 refine RL.step hg hd hb (fun ac ha=>?_) h1 h2
 unfold execOp
 simp only[ho]
 simp only[resolve,invoke,builtin,Sem.run_bind,Sem.run_pure,Result.andThen_ok,List.map_toArray,List.map_cons,List.map_nil,ha.ev hx,ha.ev hy,fo]
theorem cU.own {α:Type} {R:aj→List Value→α→Prop} {t e el:TypeId} {sz by_:Nat} {a:Option Addr} {c:Nat} {ys:List α} (ht:eJ P t=some (e,sz,by_)) (h:aW R sz el s A a c ys) (cq:In A w) :
  ∃ bB,cU P w t sz (.slice a ys.length c) ys.length bB∧cF R sz s bB ys:=by
 rcases h.row with rfl | ⟨ad,rfl,cs,hh,hc⟩
 exact⟨[],.slice ht (by simp) (.inl rfl) cq,rfl⟩
 exact⟨cs,.slice ht hc.length (.inr ⟨ad,rfl,hh⟩) cq,hc⟩
theorem abv {r:aj} {xs:List Int} {cs:List Value} (h:cF (ax .u8) 1 r cs xs):cs=xs.map (Value.int .u8)∧∀ x∈xs,0≤x∧x<256:=by
 induction xs generalizing cs with
 | nil=>exact⟨h,by simp⟩
 | cons x xs ih =>
  obtain⟨vs,au,rfl,_,⟨rfl,hr⟩,h'⟩:=h
  obtain⟨h1,h2⟩:=ih h'
  refine⟨by rw[h1];rfl,fun y hy=>?_⟩
  rcases List.mem_cons.1 hy with rfl | hy
  exact hr
  exact h2 y hy
theorem ajv {t e st:TypeId} {by_ c:Nat} {a:Option Addr} {xs:List Int} {r s:aj} (ht:eJ P t=some (e,1,by_)) (he:P.underlying e=some (.int .u8)) (cc:P.underlying st=some .string)
  (a_:xs=[]∨∃ ad,a=some ad∧kI (ax .u8) 1 r s ad xs) (cq:In r w):(convert t st (.slice a xs.length c)).run P w = .ok (.string (strOfNums xs)) w:=by
 have hu:=(pE ht).1
 rw[run_convert_bytes_string w t st e a xs.length c hu he cc]
 have mT:∀ ad,(loadCells ad xs.length).run P w = .ok (xs.map (Value.int .u8)).toArray w→(Conv.bytesToString (.slice (some ad) xs.length c)).run P w = .ok (.string (strOfNums xs)) w:=fun ad hl=>by
  rw[run_bytesToString w ad xs.length c xs hl,foldl_push_bytes]
  simp[strOfNums]
 cases a with
 | none =>
  rcases a_ with rfl | ⟨ad,h,_⟩
  simp[Conv.bytesToString,strOfNums];rfl
  cases h
 | some ad =>
  refine mT ad ?_
  rcases a_ with rfl | ⟨ad',h,cs,hh,hc⟩
  simp[loadCells,loadCellsFrom]
  cases h
  have:=run_loadCells_list (P:=P) w ad cs (fun j v hj=>hh.cell cq hj)
  have hl:=hc.length
  rw[Nat.mul_one] at hl
  rw[hl,(abv hc).1] at this
  exact this
theorem RL.Jd {t e st:TypeId} {by_ c:Nat} {a:Option Addr} {xs:List Int} {r s:aj} (hg:bR ops E o=some true) (hd:o.dst=some d) (hb:Nat.blt d n=true) (ho:o.op = .convert t st x) (ht:eJ P t=some (e,1,by_)) (he:P.underlying e=some (.int .u8)) (cc:P.underlying st=some .string)
  (hx:ev E x=some (.slice a xs.length c)) (a_:xs=[]∨∃ ad,a=some ad∧kI (ax .u8) 1 r s ad xs) (cq:In r w) (h:RL P n ops Q S au ((d,.string (strOfNums xs))::E) w):RL P n ops Q S ((false,o)::au) E w:=fun hS =>
 RL.step hg hd hb (fun ac ha=>by
  unfold execOp
  simp only[ho,ha.ev hx]
  simp[ajv ht he cc a_ cq]) hS h hS
def jY (E:dE):List Operand→Option (List Value)
 | []=>some []
 | x::r =>
  match ev E x,jY E r with
  | some v,some l=>some (v::l)
  | _,_=>none
theorem At.jY {a:Act} (ha:At n E a):∀ {xs:List Operand} {l:List Value},jY E xs=some l→xs.map a.eval=l
 | [],l,h=>by simpa [Lw.jY] using h
 | x::r,l,h=>by
  simp only[Lw.jY] at h
  split at h
  rename_i v l' hv hl
  simp only[Option.some.injEq] at h
  subst h
  simp[ha.ev hv,ha.jY hl]
  cases h
theorem Ie {f:FuncId} {args:Array Value} (h:km P f=true) (w:World):(callFunc f args).run P w = .ok (.enter f args) w:=by
 unfold km at h
 split at h
 rename_i fn hf
 simp only[Bool.and_eq_true,Bool.not_eq_true'] at h
 obtain⟨h1,h2⟩:=h
 have h3:fn.body.isNone=false:=by cases hb:fn.body<;>simp_all
 simp only[callFunc,Sem.run_bind,run_program,Result.andThen_ok,hf,h2,h3,Bool.false_eq_true,if_false,Sem.run_pure]
 cases h
theorem RL.call {f:FuncId} {args:Array Operand} {ats:Array TypeId} {l:List Value} {w0:World} {s0:aj} {os0:List aj} {Φ:aj→aj→Value→Prop} (hg:bR ops E o=some true) (hd:o.dst=some d) (hb:Nat.blt d n=true)
  (ho:o.op = .call { callee:= .value (.func f),args:=args,argTypes:=ats }) (hl:jY E args.toList=some l) (hc:km P f=true) (eK:Calls P f l.toArray w (aw w0 s0 os0 Φ))
  (h:∀ v s' A w',Le s0 s'→ak w' s' (A::os0)→ar w0 w'→Φ s' A v→S w'∧RL P n ops Q S au ((d,v)::E) w'):RL P n ops Q S ((false,o)::au) E w:=fun _ ac ha=>by
 have pQ:(args.map ac.eval)=l.toArray:=by
  rw[←Array.toArray_toList (xs:=args),List.map_toArray,ha.jY hl]
 have iZ:ac.eval (.func f) = .func (.func f) #[] #[]:=rfl
 simp only[RA,ha.bR hg,if_true]
 unfold Oper.wp
 have fo:(execOp ac.eval o).run P w = .ok (.enter f l.toArray) w:=by
  unfold execOp
  simp only[ho]
  simp only[resolve,pQ,iZ,Deferred.ofValue,invoke,Sem.run_bind,Sem.run_pure,Result.andThen_ok,Array.append_empty,Array.empty_append,Ie hc]
 rw[fo]
 simp only[Oper.upon]
 refine eK.mono fun e w' hp=>?_
 obtain⟨v,s',A,rfl,h1,h2,h3,h4⟩:=hp
 obtain⟨h5,h6⟩:=h v s' A w' h1 h2 h3 h4
 simp only[hd]
 exact⟨h5,h6 h5 _ (ha.put hb v)⟩
def AR:Nat→List Value→dE
 | _,[]=>[]
 | k,v::r=>(k,v)::AR (k+1) r
theorem KE:∀ (l:List Value) (k t:Nat) (v:Value),mU (AR k l) t=some v→k≤t∧l[t-k]?=some v
 | [],k,t,v,h=>by simp[AR,mU] at h
 | u::r,k,t,v,h=>by
  simp only[AR,mU] at h
  by_cases hk:Nat.beq k t=true
  rw[hk] at h
  have O7:k=t:=Nat.eq_of_beq_eq_true hk
  subst O7
  simpa using h
  rw[Bool.not_eq_true] at hk
  rw[hk] at h
  simp only[cond_false] at h
  obtain⟨h1,h2⟩:=KE r (k+1) t v h
  refine⟨by omega,?_⟩
  rw[show t-k=(t-(k+1))+1 by omega]
  simpa using h2
theorem enter {f:FuncId} {fn:Func} {c:Code} {l:List Value} {R:Ending→World→Prop} {m:Nat} (hf:P.funcs[f]?=some fn) (hb:fn.body=some c) (hm:fn.ntmps=m) (hl:Nat.ble l.length m=true)
  (h:CW P m c (bodyPost P fn R) (AR 0 l) w):Calls P f l.toArray w R:=by
 refine calls_of_wp hf hb (h _ ⟨?_,rfl,fun t v ht=>?_⟩)
 have:=Nat.le_of_ble_eq_true hl
 simp[hm];omega
 obtain⟨_,h2⟩:=KE l 0 t v ht
 simp only[Nat.sub_zero] at h2
 have be:=(List.getElem?_eq_some_iff.1 h2).1
 rw[Array.getElem?_append_left (by simpa using be)]
 simpa using h2
def vP (P:Program) (w:World) (E:dE):List ResultVar→List Value→Prop
 | [],vs=>vs=[]
 | .tmp t::r,vs=>∃ v us,vs=v::us∧mU E t=some v∧vP P w E r us
 | .cell t ty::r,vs=>∃ v us ad,vs=v::us∧mU E t=some (.pointer (some ad))∧(loadVar ty ad).run P w = .ok v w∧vP P w E r us
def whole:List Value→Value
 | [v]=>v
 | vs=> .tuple vs.toArray
def K7 (tmps:Array Value):ResultVar→Sem Value
 | .tmp t=>pure (tmps.getD t undef)
 | .cell c t=>do loadVar t (← asAddr (tmps.getD c undef))
theorem ajm (fn:Func) (tmps:Array Value):results fn tmps=(do let vs ← fn.results.mapM (K7 tmps);pure (if h:vs.size=1 then vs[0] else .tuple vs)):=by
 rfl
theorem M7 {a:Act} (ha:At n E a) (w:World):∀ (rs:List ResultVar) (vs:List Value),vP P w E rs vs→(rs.mapM (K7 a.tmps)).run P w=Result.ok vs w
 | [],vs,h=>by rw[show vs=[] from h];simp
 | .tmp t::r,vs,h=>by
  obtain⟨v,us,rfl,hv,h'⟩:=h
  have ih:=M7 ha w r us h'
  simp only[List.mapM_cons,K7,Sem.run_bind,Sem.run_pure,Result.andThen_ok,ha.getD hv]
  rw[ih]
  rfl
 | .cell t ty::r,vs,h=>by
  obtain⟨v,us,ad,rfl,hv,hl,h'⟩:=h
  have ih:=M7 ha w r us h'
  simp only[List.mapM_cons,K7,Sem.run_bind,ha.getD hv,asAddr,Sem.run_pure,Result.andThen_ok,hl]
  rw[ih]
  rfl
theorem M8 {a:Act} (ha:At n E a) (w:World) (fn:Func) {vs:List Value} (h:vP P w E fn.results.toList vs):(results fn a.tmps).run P w = .ok (whole vs) w:=by
 have hk:=M7 ha w _ vs h
 rw[ajm,← Array.toArray_toList (xs:=fn.results),List.mapM_toArray]
 rw[Sem.run_bind,Sem.run_map,hk]
 simp only[Result.andThen_ok,Sem.run_pure]
 match vs with
 | []=>simp[whole]
 | [v]=>simp[whole]
 | u::v::r=>simp[whole]
theorem ret {fn:Func} {R:Ending→World→Prop} {vs:List Value} (hv:vP P w E fn.results.toList vs) (h:R (.returned (whole vs)) w):∀ a,At n E a→bodyPost P fn R .ret a w :=
 fun _ ha=>⟨ha.AP,_,M8 ha w fn hv,h⟩
theorem cP {fn:Func} {R:Ending→World→Prop} {vs:List Value} (hv:vP P w E fn.results.toList vs) (h:R (.returned (whole vs)) w):∀ a,At n E a→bodyPost P fn R .normal a w :=
 fun _ ha=>⟨ha.AP,_,M8 ha w fn hv,h⟩
end
class Fl (P:Program) (t i:Nat) (v:outParam (Nat × Nat)):Prop where
 out:F0 P t i=some v
class Fk {α:Type} (f:Program→Nat→Option α) (P:Program) (t:Nat) (v:outParam α):Prop where
 out:f P t=some v
class Ca (P:Program) (f:Nat):Prop where
 out:km P f=true
theorem kq {p:Prop} (h:p:=by kernel_rfl):p:=h
end Go.Lw
namespace Go.Lw
open Go.Proofs
instance ey:Fk dD Tryz.prog 3 (false,1):=⟨kq⟩
instance fY:Fk eY Tryz.prog 3 [Go.Value.int Go.IntKind.i64 (0)]:=⟨kq⟩
instance Zg:Fk dD Tryz.prog 4 (false,1):=⟨kq⟩
instance yK:Fk eY Tryz.prog 5 [Go.Value.int Go.IntKind.u8 (0)]:=⟨kq⟩
instance aV:Fk dD Tryz.prog 22 (false,1):=⟨kq⟩
instance ZI:Fk eY Tryz.prog 22 [Go.Value.int Go.IntKind.u64 (0)]:=⟨kq⟩
instance aqJ:Fk dD Tryz.prog 24 (true,3):=⟨kq⟩
instance aq2:Fk eY Tryz.prog 24 [Go.Value.int Go.IntKind.u64 (0),Go.Value.int Go.IntKind.i64 (0),Go.Value.int Go.IntKind.u64 (0)]:=⟨kq⟩
instance aqv:Fk oJ Tryz.prog 24 [(0,1),(1,1),(2,1)]:=⟨kq⟩
instance ank:Fl Tryz.prog 24 0 (0,1):=⟨kq⟩
instance anl:Fl Tryz.prog 24 1 (1,1):=⟨kq⟩
instance anm:Fl Tryz.prog 24 2 (2,1):=⟨kq⟩
instance fq:Fk dD Tryz.prog 25 (false,1):=⟨kq⟩
instance bC:Fk eJ Tryz.prog 25 (3,1,8):=⟨kq⟩
instance ZJ:Fk eY Tryz.prog 25 [Go.Value.slice none 0 0]:=⟨kq⟩
instance iR:Fk dD Tryz.prog 27 (true,2):=⟨kq⟩
instance qO:Fk eY Tryz.prog 27 [Go.Value.slice none 0 0,Go.Value.slice none 0 0]:=⟨kq⟩
instance aqw:Fk oJ Tryz.prog 27 [(0,1),(1,1)]:=⟨kq⟩
instance ann:Fl Tryz.prog 27 0 (0,1):=⟨kq⟩
instance ano:Fl Tryz.prog 27 1 (1,1):=⟨kq⟩
instance aqK:Fk dD Tryz.prog 28 (false,1):=⟨kq⟩
instance j_:Fk eJ Tryz.prog 28 (5,1,1):=⟨kq⟩
instance aqL:Fk dD Tryz.prog 30 (true,5):=⟨kq⟩
instance aq3:Fk eY Tryz.prog 30 [Go.Value.int Go.IntKind.u64 (0),Go.Value.int Go.IntKind.u64 (0),Go.Value.slice none 0 0,Go.Value.slice none 0 0,Go.Value.slice none 0 0]:=⟨kq⟩
instance aqx:Fk oJ Tryz.prog 30 [(0,1),(1,1),(2,2),(4,1)]:=⟨kq⟩
instance anp:Fl Tryz.prog 30 0 (0,1):=⟨kq⟩
instance anq:Fl Tryz.prog 30 1 (1,1):=⟨kq⟩
instance anr:Fl Tryz.prog 30 2 (2,2):=⟨kq⟩
instance ant:Fl Tryz.prog 30 3 (4,1):=⟨kq⟩
instance RJ:Fk dD Tryz.prog 31 (false,1):=⟨kq⟩
instance de:Fk eJ Tryz.prog 31 (65,6,96):=⟨kq⟩
instance C2:Fk dD Tryz.prog 33 (true,6):=⟨kq⟩
instance aq4:Fk eY Tryz.prog 33 [Go.Value.int Go.IntKind.u64 (0),Go.Value.int Go.IntKind.u64 (0),Go.Value.slice none 0 0,Go.Value.slice none 0 0,Go.Value.slice none 0 0,Go.Value.slice none 0 0]:=⟨kq⟩
instance aqy:Fk oJ Tryz.prog 33 [(0,5),(5,1)]:=⟨kq⟩
instance anu:Fl Tryz.prog 33 0 (0,5):=⟨kq⟩
instance anv:Fl Tryz.prog 33 1 (5,1):=⟨kq⟩
instance Ze:Fk dD Tryz.prog 35 (true,10):=⟨kq⟩
instance akW:Fk eY Tryz.prog 35 [Go.Value.int Go.IntKind.u64 (0),Go.Value.int Go.IntKind.i64 (0),Go.Value.int Go.IntKind.u64 (0),Go.Value.int Go.IntKind.u64 (0),Go.Value.int Go.IntKind.u64 (0),Go.Value.slice none 0 0,Go.Value.slice none 0 0,Go.Value.slice none 0 0,Go.Value.slice none 0 0,Go.Value.bool false]:=⟨kq⟩
instance aqz:Fk oJ Tryz.prog 35 [(0,3),(3,6),(9,1)]:=⟨kq⟩
instance anw:Fl Tryz.prog 35 0 (0,3):=⟨kq⟩
instance anx:Fl Tryz.prog 35 1 (3,6):=⟨kq⟩
instance anz:Fl Tryz.prog 35 2 (9,1):=⟨kq⟩
instance akv:Fk dD Tryz.prog 38 (false,1):=⟨kq⟩
instance Zf:Fk dD Tryz.prog 39 (false,1):=⟨kq⟩
instance vF:Fk eJ Tryz.prog 39 (133,2,16):=⟨kq⟩
instance aqM:Fk dD Tryz.prog 40 (false,1):=⟨kq⟩
instance qf:Fk eJ Tryz.prog 40 (136,3,24):=⟨kq⟩
instance aqN:Fk dD Tryz.prog 42 (true,3):=⟨kq⟩
instance aq5:Fk eY Tryz.prog 42 [Go.Value.int Go.IntKind.u64 (0),Go.Value.int Go.IntKind.u64 (0),Go.Value.slice none 0 0]:=⟨kq⟩
instance aqA:Fk oJ Tryz.prog 42 [(0,1),(1,1),(2,1)]:=⟨kq⟩
instance anA:Fl Tryz.prog 42 0 (0,1):=⟨kq⟩
instance anB:Fl Tryz.prog 42 1 (1,1):=⟨kq⟩
instance anC:Fl Tryz.prog 42 2 (2,1):=⟨kq⟩
instance Is:Fk dD Tryz.prog 44 (true,20):=⟨kq⟩
instance akX:Fk eY Tryz.prog 44 [Go.Value.int Go.IntKind.i64 (0),Go.Value.int Go.IntKind.u64 (0),Go.Value.int Go.IntKind.i64 (0),Go.Value.int Go.IntKind.u64 (0),Go.Value.int Go.IntKind.u64 (0),Go.Value.int Go.IntKind.u64 (0),Go.Value.slice none 0 0,Go.Value.slice none 0 0,Go.Value.slice none 0 0,Go.Value.slice none 0 0,Go.Value.int Go.IntKind.i64 (0),Go.Value.int Go.IntKind.i64 (0),Go.Value.slice none 0 0,Go.Value.slice none 0 0,Go.Value.int Go.IntKind.i64 (0),Go.Value.int Go.IntKind.i64 (0),Go.Value.int Go.IntKind.i64 (0),Go.Value.int Go.IntKind.u64 (0),Go.Value.int Go.IntKind.u64 (0),Go.Value.slice none 0 0]:=⟨kq⟩
instance aqB:Fk oJ Tryz.prog 44 [(0,1),(1,3),(4,6),(10,1),(11,1),(12,1),(13,1),(14,1),(15,1),(16,1),(17,3)]:=⟨kq⟩
instance anD:Fl Tryz.prog 44 0 (0,1):=⟨kq⟩
instance anE:Fl Tryz.prog 44 1 (1,3):=⟨kq⟩
instance anG:Fl Tryz.prog 44 2 (4,6):=⟨kq⟩
instance anH:Fl Tryz.prog 44 3 (10,1):=⟨kq⟩
instance anI:Fl Tryz.prog 44 4 (11,1):=⟨kq⟩
instance anJ:Fl Tryz.prog 44 5 (12,1):=⟨kq⟩
instance anK:Fl Tryz.prog 44 6 (13,1):=⟨kq⟩
instance anL:Fl Tryz.prog 44 7 (14,1):=⟨kq⟩
instance anM:Fl Tryz.prog 44 8 (15,1):=⟨kq⟩
instance anN:Fl Tryz.prog 44 9 (16,1):=⟨kq⟩
instance anF:Fl Tryz.prog 44 10 (17,3):=⟨kq⟩
instance aqO:Fk dD Tryz.prog 48 (false,1):=⟨kq⟩
instance kB:Fk eJ Tryz.prog 48 (56,14,176):=⟨kq⟩
instance aqP:Fk dD Tryz.prog 50 (true,7):=⟨kq⟩
instance aq6:Fk eY Tryz.prog 50 [Go.Value.int Go.IntKind.u64 (0),Go.Value.slice none 0 0,Go.Value.bool false,Go.Value.bool false,Go.Value.slice none 0 0,Go.Value.int Go.IntKind.u64 (0),Go.Value.int Go.IntKind.u64 (0)]:=⟨kq⟩
instance aqC:Fk oJ Tryz.prog 50 [(0,1),(1,1),(2,1),(3,1),(4,1),(5,1),(6,1)]:=⟨kq⟩
instance anO:Fl Tryz.prog 50 0 (0,1):=⟨kq⟩
instance anP:Fl Tryz.prog 50 1 (1,1):=⟨kq⟩
instance anQ:Fl Tryz.prog 50 2 (2,1):=⟨kq⟩
instance anR:Fl Tryz.prog 50 3 (3,1):=⟨kq⟩
instance anS:Fl Tryz.prog 50 4 (4,1):=⟨kq⟩
instance anT:Fl Tryz.prog 50 5 (5,1):=⟨kq⟩
instance anU:Fl Tryz.prog 50 6 (6,1):=⟨kq⟩
instance aqQ:Fk dD Tryz.prog 53 (false,1):=⟨kq⟩
instance aqR:Fk dD Tryz.prog 54 (false,1):=⟨kq⟩
instance Zh:Fk dD Tryz.prog 56 (true,14):=⟨kq⟩
instance ur:Fk eY Tryz.prog 56 [Go.Value.int Go.IntKind.i64 (0),Go.Value.int Go.IntKind.i64 (0),Go.Value.int Go.IntKind.i64 (0),Go.Value.int Go.IntKind.u64 (0),Go.Value.int Go.IntKind.u64 (0),Go.Value.int Go.IntKind.u64 (0),Go.Value.slice none 0 0,Go.Value.int Go.IntKind.u64 (0),Go.Value.bool false,Go.Value.int Go.IntKind.u64 (0),Go.Value.slice none 0 0,Go.Value.slice none 0 0,Go.Value.slice none 0 0,Go.Value.bool false]:=⟨kq⟩
instance aqD:Fk oJ Tryz.prog 56 [(0,1),(1,1),(2,1),(3,1),(4,1),(5,1),(6,1),(7,1),(8,1),(9,1),(10,2),(12,1),(13,1)]:=⟨kq⟩
instance anV:Fl Tryz.prog 56 0 (0,1):=⟨kq⟩
instance anW:Fl Tryz.prog 56 1 (1,1):=⟨kq⟩
instance an0:Fl Tryz.prog 56 2 (2,1):=⟨kq⟩
instance an1:Fl Tryz.prog 56 3 (3,1):=⟨kq⟩
instance an2:Fl Tryz.prog 56 4 (4,1):=⟨kq⟩
instance an3:Fl Tryz.prog 56 5 (5,1):=⟨kq⟩
instance an4:Fl Tryz.prog 56 6 (6,1):=⟨kq⟩
instance an5:Fl Tryz.prog 56 7 (7,1):=⟨kq⟩
instance an6:Fl Tryz.prog 56 8 (8,1):=⟨kq⟩
instance an7:Fl Tryz.prog 56 9 (9,1):=⟨kq⟩
instance anX:Fl Tryz.prog 56 10 (10,2):=⟨kq⟩
instance anY:Fl Tryz.prog 56 11 (12,1):=⟨kq⟩
instance anZ:Fl Tryz.prog 56 12 (13,1):=⟨kq⟩
instance Zi:Fk dD Tryz.prog 57 (false,1):=⟨kq⟩
instance akw:Fk dD Tryz.prog 59 (true,2):=⟨kq⟩
instance aq7:Fk eY Tryz.prog 59 [Go.Value.int Go.IntKind.i64 (0),Go.Value.int Go.IntKind.i64 (0)]:=⟨kq⟩
instance an8:Fl Tryz.prog 59 0 (0,1):=⟨kq⟩
instance an9:Fl Tryz.prog 59 1 (1,1):=⟨kq⟩
instance aqS:Fk dD Tryz.prog 61 (true,20):=⟨kq⟩
instance aq8:Fk eY Tryz.prog 61 [Go.Value.int Go.IntKind.i64 (0),Go.Value.int Go.IntKind.i64 (0),Go.Value.int Go.IntKind.i64 (0),Go.Value.int Go.IntKind.i64 (0),Go.Value.int Go.IntKind.i64 (0),Go.Value.int Go.IntKind.u64 (0),Go.Value.int Go.IntKind.u64 (0),Go.Value.int Go.IntKind.u64 (0),Go.Value.slice none 0 0,Go.Value.int Go.IntKind.u64 (0),Go.Value.bool false,Go.Value.int Go.IntKind.u64 (0),Go.Value.slice none 0 0,Go.Value.slice none 0 0,Go.Value.slice none 0 0,Go.Value.bool false,Go.Value.slice none 0 0,Go.Value.int Go.IntKind.i64 (0),Go.Value.int Go.IntKind.i64 (0),Go.Value.int Go.IntKind.i64 (0)]:=⟨kq⟩
instance aqE:Fk oJ Tryz.prog 61 [(0,1),(1,1),(2,14),(16,1),(17,2),(19,1)]:=⟨kq⟩
instance an_:Fl Tryz.prog 61 0 (0,1):=⟨kq⟩
instance aoa:Fl Tryz.prog 61 1 (1,1):=⟨kq⟩
instance aob:Fl Tryz.prog 61 2 (2,14):=⟨kq⟩
instance aoc:Fl Tryz.prog 61 3 (16,1):=⟨kq⟩
instance aod:Fl Tryz.prog 61 4 (17,2):=⟨kq⟩
instance aoe:Fl Tryz.prog 61 5 (19,1):=⟨kq⟩
instance Zj:Fk dD Tryz.prog 63 (false,1):=⟨kq⟩
instance nv:Fk dD Tryz.prog 65 (true,6):=⟨kq⟩
instance rI:Fk eY Tryz.prog 65 [Go.Value.int Go.IntKind.u64 (0),Go.Value.int Go.IntKind.u64 (0),Go.Value.int Go.IntKind.i64 (0),Go.Value.slice none 0 0,Go.Value.slice none 0 0,Go.Value.slice none 0 0]:=⟨kq⟩
instance aqF:Fk oJ Tryz.prog 65 [(0,1),(1,1),(2,1),(3,1),(4,2)]:=⟨kq⟩
instance aof:Fl Tryz.prog 65 0 (0,1):=⟨kq⟩
instance aog:Fl Tryz.prog 65 1 (1,1):=⟨kq⟩
instance aoh:Fl Tryz.prog 65 2 (2,1):=⟨kq⟩
instance aoi:Fl Tryz.prog 65 3 (3,1):=⟨kq⟩
instance aoj:Fl Tryz.prog 65 4 (4,2):=⟨kq⟩
instance aqT:Fk dD Tryz.prog 81 (false,1):=⟨kq⟩
instance rE:Fk eJ Tryz.prog 81 (44,20,272):=⟨kq⟩
instance aqU:Fk dD Tryz.prog 82 (false,1):=⟨kq⟩
instance Ln:Fk eJ Tryz.prog 82 (35,10,144):=⟨kq⟩
instance aqV:Fk dD Tryz.prog 83 (false,1):=⟨kq⟩
instance bG:Fk eJ Tryz.prog 83 (22,1,8):=⟨kq⟩
instance aq9:Fk eY Tryz.prog 85 [Go.Value.slice none 0 0,Go.Value.slice none 0 0,Go.Value.slice none 0 0,Go.Value.slice none 0 0,Go.Value.slice none 0 0,Go.Value.slice none 0 0,Go.Value.slice none 0 0]:=⟨kq⟩
instance aqG:Fk oJ Tryz.prog 85 [(0,1),(1,1),(2,1),(3,1),(4,1),(5,1),(6,1)]:=⟨kq⟩
instance aok:Fl Tryz.prog 85 0 (0,1):=⟨kq⟩
instance aol:Fl Tryz.prog 85 1 (1,1):=⟨kq⟩
instance aom:Fl Tryz.prog 85 2 (2,1):=⟨kq⟩
instance aon:Fl Tryz.prog 85 3 (3,1):=⟨kq⟩
instance aoo:Fl Tryz.prog 85 4 (4,1):=⟨kq⟩
instance aop:Fl Tryz.prog 85 5 (5,1):=⟨kq⟩
instance ajS:Fk eJ Tryz.prog 91 (59,2,16):=⟨kq⟩
instance aq0:Fk eY Tryz.prog 109 [Go.Value.int Go.IntKind.i64 (0),Go.Value.int Go.IntKind.u64 (0),Go.Value.int Go.IntKind.i64 (0),Go.Value.int Go.IntKind.u64 (0),Go.Value.int Go.IntKind.u64 (0),Go.Value.int Go.IntKind.u64 (0),Go.Value.slice none 0 0,Go.Value.slice none 0 0,Go.Value.slice none 0 0,Go.Value.slice none 0 0,Go.Value.int Go.IntKind.i64 (0),Go.Value.int Go.IntKind.i64 (0),Go.Value.slice none 0 0,Go.Value.slice none 0 0,Go.Value.int Go.IntKind.i64 (0),Go.Value.int Go.IntKind.i64 (0),Go.Value.int Go.IntKind.i64 (0),Go.Value.int Go.IntKind.u64 (0),Go.Value.int Go.IntKind.u64 (0),Go.Value.slice none 0 0,Go.Value.int Go.IntKind.u64 (0),Go.Value.slice none 0 0,Go.Value.bool false,Go.Value.bool false,Go.Value.slice none 0 0,Go.Value.int Go.IntKind.u64 (0),Go.Value.int Go.IntKind.u64 (0)]:=⟨kq⟩
instance aqs:Fk oJ Tryz.prog 109 [(0,20),(20,7)]:=⟨kq⟩
instance anc:Fl Tryz.prog 109 0 (0,20):=⟨kq⟩
instance ane:Fl Tryz.prog 109 1 (20,7):=⟨kq⟩
instance aku:Fk dD Tryz.prog 133 (true,2):=⟨kq⟩
instance LQ:Fk eY Tryz.prog 133 [Go.Value.int Go.IntKind.i64 (0),Go.Value.bool false]:=⟨kq⟩
instance aqt:Fk oJ Tryz.prog 133 [(0,1),(1,1)]:=⟨kq⟩
instance anf:Fl Tryz.prog 133 0 (0,1):=⟨kq⟩
instance ang:Fl Tryz.prog 133 1 (1,1):=⟨kq⟩
instance yB:Fk dD Tryz.prog 136 (true,3):=⟨kq⟩
instance Fx:Fk eY Tryz.prog 136 [Go.Value.int Go.IntKind.i64 (0),Go.Value.int Go.IntKind.u64 (0),Go.Value.int Go.IntKind.u64 (0)]:=⟨kq⟩
instance aqu:Fk oJ Tryz.prog 136 [(0,1),(1,1),(2,1)]:=⟨kq⟩
instance anh:Fl Tryz.prog 136 0 (0,1):=⟨kq⟩
instance ani:Fl Tryz.prog 136 1 (1,1):=⟨kq⟩
instance anj:Fl Tryz.prog 136 2 (2,1):=⟨kq⟩
instance Lm:Fk eJ Tryz.prog 168 (25,1,24):=⟨kq⟩
instance Zd:Fk dD Tryz.prog 175 (false,1):=⟨kq⟩
instance aq1:Fk eY Tryz.prog 175 [Go.Value.nilFunc]:=⟨kq⟩
instance nu:Fk dD Tryz.prog 221 (false,1):=⟨kq⟩
instance akV:Fk eY Tryz.prog 221 [Go.Value.int Go.IntKind.u64 (0)]:=⟨kq⟩
instance ca9:Ca Tryz.prog 9:=⟨kq⟩
instance ak3:Ca Tryz.prog 10:=⟨kq⟩
instance ak_:Ca Tryz.prog 11:=⟨kq⟩
instance alq:Ca Tryz.prog 13:=⟨kq⟩
instance alA:Ca Tryz.prog 14:=⟨kq⟩
instance abx:Ca Tryz.prog 15:=⟨kq⟩
instance Tl:Ca Tryz.prog 17:=⟨kq⟩
instance ama:Ca Tryz.prog 20:=⟨kq⟩
instance amh:Ca Tryz.prog 21:=⟨kq⟩
instance Tm:Ca Tryz.prog 22:=⟨kq⟩
instance amj:Ca Tryz.prog 23:=⟨kq⟩
instance amk:Ca Tryz.prog 24:=⟨kq⟩
instance Mz:Ca Tryz.prog 25:=⟨kq⟩
instance aml:Ca Tryz.prog 28:=⟨kq⟩
instance amm:Ca Tryz.prog 29:=⟨kq⟩
instance amn:Ca Tryz.prog 30:=⟨kq⟩
instance amo:Ca Tryz.prog 31:=⟨kq⟩
instance amp:Ca Tryz.prog 32:=⟨kq⟩
instance amq:Ca Tryz.prog 33:=⟨kq⟩
instance amr:Ca Tryz.prog 39:=⟨kq⟩
instance ams:Ca Tryz.prog 40:=⟨kq⟩
instance amt:Ca Tryz.prog 43:=⟨kq⟩
instance amu:Ca Tryz.prog 44:=⟨kq⟩
instance amv:Ca Tryz.prog 48:=⟨kq⟩
instance amw:Ca Tryz.prog 49:=⟨kq⟩
instance amx:Ca Tryz.prog 50:=⟨kq⟩
instance amy:Ca Tryz.prog 51:=⟨kq⟩
instance amz:Ca Tryz.prog 52:=⟨kq⟩
instance amA:Ca Tryz.prog 53:=⟨kq⟩
instance abA:Ca Tryz.prog 54:=⟨kq⟩
instance Tn:Ca Tryz.prog 55:=⟨kq⟩
instance amB:Ca Tryz.prog 56:=⟨kq⟩
instance amC:Ca Tryz.prog 57:=⟨kq⟩
instance amD:Ca Tryz.prog 58:=⟨kq⟩
instance amE:Ca Tryz.prog 59:=⟨kq⟩
instance amF:Ca Tryz.prog 60:=⟨kq⟩
instance amG:Ca Tryz.prog 61:=⟨kq⟩
instance amH:Ca Tryz.prog 62:=⟨kq⟩
instance amI:Ca Tryz.prog 63:=⟨kq⟩
instance amJ:Ca Tryz.prog 64:=⟨kq⟩
instance amK:Ca Tryz.prog 65:=⟨kq⟩
instance amL:Ca Tryz.prog 66:=⟨kq⟩
instance amM:Ca Tryz.prog 67:=⟨kq⟩
instance amN:Ca Tryz.prog 68:=⟨kq⟩
instance amO:Ca Tryz.prog 69:=⟨kq⟩
instance amP:Ca Tryz.prog 70:=⟨kq⟩
instance amQ:Ca Tryz.prog 71:=⟨kq⟩
instance amR:Ca Tryz.prog 72:=⟨kq⟩
instance amS:Ca Tryz.prog 73:=⟨kq⟩
instance amT:Ca Tryz.prog 75:=⟨kq⟩
instance amU:Ca Tryz.prog 76:=⟨kq⟩
instance amV:Ca Tryz.prog 77:=⟨kq⟩
instance amW:Ca Tryz.prog 78:=⟨kq⟩
instance amX:Ca Tryz.prog 80:=⟨kq⟩
instance amY:Ca Tryz.prog 81:=⟨kq⟩
instance amZ:Ca Tryz.prog 84:=⟨kq⟩
instance am0:Ca Tryz.prog 85:=⟨kq⟩
instance am1:Ca Tryz.prog 86:=⟨kq⟩
instance am2:Ca Tryz.prog 87:=⟨kq⟩
instance am3:Ca Tryz.prog 88:=⟨kq⟩
instance am4:Ca Tryz.prog 90:=⟨kq⟩
instance am5:Ca Tryz.prog 91:=⟨kq⟩
instance am6:Ca Tryz.prog 92:=⟨kq⟩
instance abB:Ca Tryz.prog 93:=⟨kq⟩
instance am7:Ca Tryz.prog 94:=⟨kq⟩
instance am8:Ca Tryz.prog 95:=⟨kq⟩
instance abC:Ca Tryz.prog 96:=⟨kq⟩
instance am9:Ca Tryz.prog 97:=⟨kq⟩
instance am_:Ca Tryz.prog 98:=⟨kq⟩
instance ana:Ca Tryz.prog 99:=⟨kq⟩
instance ak4:Ca Tryz.prog 100:=⟨kq⟩
instance ak5:Ca Tryz.prog 101:=⟨kq⟩
instance ak6:Ca Tryz.prog 102:=⟨kq⟩
instance ak7:Ca Tryz.prog 103:=⟨kq⟩
instance ak8:Ca Tryz.prog 104:=⟨kq⟩
instance ak9:Ca Tryz.prog 105:=⟨kq⟩
instance ala:Ca Tryz.prog 113:=⟨kq⟩
instance alb:Ca Tryz.prog 114:=⟨kq⟩
instance alc:Ca Tryz.prog 115:=⟨kq⟩
instance abw:Ca Tryz.prog 116:=⟨kq⟩
instance ald:Ca Tryz.prog 117:=⟨kq⟩
instance ale:Ca Tryz.prog 118:=⟨kq⟩
instance alf:Ca Tryz.prog 120:=⟨kq⟩
instance alg:Ca Tryz.prog 121:=⟨kq⟩
instance alh:Ca Tryz.prog 122:=⟨kq⟩
instance ali:Ca Tryz.prog 123:=⟨kq⟩
instance alj:Ca Tryz.prog 124:=⟨kq⟩
instance alk:Ca Tryz.prog 125:=⟨kq⟩
instance alm:Ca Tryz.prog 126:=⟨kq⟩
instance aln:Ca Tryz.prog 127:=⟨kq⟩
instance alo:Ca Tryz.prog 128:=⟨kq⟩
instance alp:Ca Tryz.prog 129:=⟨kq⟩
instance alr:Ca Tryz.prog 130:=⟨kq⟩
instance als:Ca Tryz.prog 131:=⟨kq⟩
instance alt:Ca Tryz.prog 132:=⟨kq⟩
instance alu:Ca Tryz.prog 133:=⟨kq⟩
instance alv:Ca Tryz.prog 135:=⟨kq⟩
instance alw:Ca Tryz.prog 136:=⟨kq⟩
instance alx:Ca Tryz.prog 137:=⟨kq⟩
instance aly:Ca Tryz.prog 138:=⟨kq⟩
instance alz:Ca Tryz.prog 139:=⟨kq⟩
instance alB:Ca Tryz.prog 140:=⟨kq⟩
instance alC:Ca Tryz.prog 141:=⟨kq⟩
instance alD:Ca Tryz.prog 142:=⟨kq⟩
instance alE:Ca Tryz.prog 143:=⟨kq⟩
instance alF:Ca Tryz.prog 145:=⟨kq⟩
instance alG:Ca Tryz.prog 146:=⟨kq⟩
instance alH:Ca Tryz.prog 147:=⟨kq⟩
instance alI:Ca Tryz.prog 148:=⟨kq⟩
instance alJ:Ca Tryz.prog 149:=⟨kq⟩
instance alK:Ca Tryz.prog 153:=⟨kq⟩
instance alL:Ca Tryz.prog 154:=⟨kq⟩
instance alM:Ca Tryz.prog 156:=⟨kq⟩
instance alN:Ca Tryz.prog 157:=⟨kq⟩
instance alO:Ca Tryz.prog 159:=⟨kq⟩
instance alP:Ca Tryz.prog 160:=⟨kq⟩
instance alQ:Ca Tryz.prog 161:=⟨kq⟩
instance aby:Ca Tryz.prog 162:=⟨kq⟩
instance alR:Ca Tryz.prog 163:=⟨kq⟩
instance alS:Ca Tryz.prog 164:=⟨kq⟩
instance alT:Ca Tryz.prog 165:=⟨kq⟩
instance alU:Ca Tryz.prog 166:=⟨kq⟩
instance alV:Ca Tryz.prog 167:=⟨kq⟩
instance Mx:Ca Tryz.prog 168:=⟨kq⟩
instance My:Ca Tryz.prog 169:=⟨kq⟩
instance alW:Ca Tryz.prog 170:=⟨kq⟩
instance abz:Ca Tryz.prog 171:=⟨kq⟩
instance alX:Ca Tryz.prog 172:=⟨kq⟩
instance alY:Ca Tryz.prog 173:=⟨kq⟩
instance alZ:Ca Tryz.prog 174:=⟨kq⟩
instance al0:Ca Tryz.prog 178:=⟨kq⟩
instance al1:Ca Tryz.prog 179:=⟨kq⟩
instance al2:Ca Tryz.prog 191:=⟨kq⟩
instance al3:Ca Tryz.prog 192:=⟨kq⟩
instance al4:Ca Tryz.prog 193:=⟨kq⟩
instance al5:Ca Tryz.prog 194:=⟨kq⟩
instance al6:Ca Tryz.prog 195:=⟨kq⟩
instance al7:Ca Tryz.prog 196:=⟨kq⟩
instance al8:Ca Tryz.prog 197:=⟨kq⟩
instance al9:Ca Tryz.prog 198:=⟨kq⟩
instance al_:Ca Tryz.prog 199:=⟨kq⟩
instance amb:Ca Tryz.prog 202:=⟨kq⟩
instance amc:Ca Tryz.prog 203:=⟨kq⟩
instance amd:Ca Tryz.prog 206:=⟨kq⟩
instance ame:Ca Tryz.prog 207:=⟨kq⟩
instance amf:Ca Tryz.prog 208:=⟨kq⟩
instance amg:Ca Tryz.prog 209:=⟨kq⟩
instance ami:Ca Tryz.prog 211:=⟨kq⟩
end Go.Lw
namespace Go.Lw
theorem EM {k:IntKind} {s:aj}:∀ {xs:List Int},(∀ x∈xs,aq k x)→cF (ax k) 1 s (xs.map (Value.int k)) xs
 | [],_=>rfl
 | x::xs,h=>⟨[.int k x],_,rfl,rfl,⟨rfl,h x (by simp)⟩,EM fun y hy=>h y (by simp[hy])⟩
theorem cF.aq {k:IntKind} {s:aj} {cs:List Value} {xs:List Int} (h:cF (ax k) 1 s cs xs):cs=xs.map (Value.int k)∧∀ x∈xs,Lw.aq k x:=by
 induction xs generalizing cs with
 | nil=>exact⟨h,by simp⟩
 | cons x xs ih =>
  obtain⟨vs,au,rfl,_,⟨rfl,hr⟩,h'⟩:=h
  obtain⟨h1,h2⟩:=ih h'
  refine⟨by rw[h1];rfl,fun y hy=>?_⟩
  rcases List.mem_cons.1 hy with rfl | hy
  exact hr
  exact h2 y hy
theorem bm.aq {k:IntKind} {s:aj} {a:Option Addr} {c:Nat} {xs:List Int} (h:bm (ax k) 1 s a c xs):∀ x∈xs,Lw.aq k x:=by
 rcases h.2.2 with rfl | ⟨ad,rfl,cs,hh,hc⟩
 simp
 exact hc.aq.2
theorem aW.aq {k:IntKind} {s A:aj} {el:TypeId} {a:Option Addr} {c:Nat} {xs:List Int} (h:aW (ax k) 1 el s A a c xs):∀ x∈xs,Lw.aq k x:=by
 rcases h.row with rfl | ⟨ad,rfl,cs,hh,hc⟩
 simp
 exact hc.aq.2
end Go.Lw
namespace Go.Lw
section
variable {P:Program} {n:Nat} {ops:Array Oper} {Q:Exit→Act→World→Prop} {S:World→Prop} {au:List (Bool × Oper)} {E:dE} {w:World} {o:Oper} {d:Nat} {v:Value}
variable {s A:aj} {os:List aj} {x y:Operand} {T:Bool}
theorem ajy (P:Program) (op:BinOp) (t:TypeId) (x y:Operand) (a a':Option Addr) (n c n' c':Nat) (w:World):(eqGuard op t x y (.slice a n c) (.slice a' n' c')).run P w = .ok () w:=by
 unfold eqGuard
 cases op<;>rfl
theorem RL.H4 {t e:TypeId} {yt:TypeId} {sz by_ m c m' c':Nat} {a:Option Addr} (hg:bR ops E o=some true) (hd:o.dst=some d) (hb:Nat.blt d n=true) (ho:o.op = .binOp .eql t x y yt) (ht:eJ P t=some (e,sz,by_))
  (hx:ev E x=some (.slice a m c)) (hy:ev E y=some (.slice none m' c')) (h:RL P n ops Q S au ((d,.bool a.isNone)::E) w):RL P n ops Q S ((T,o)::au) E w:=by
 refine RL.ij hg hd hb (fun w ac ha=>?_) h
 unfold execOp
 simp only[ho,ha.ev hx,ha.ev hy,Sem.run_bind,ajy,Result.andThen_ok]
 have:=Lib.run_equalIn_slice_nil (P:=P) w 9999 t e a m c m' c' (pE ht).1
 simp[binOp,Op.equal,Op.maxDepth,this]
theorem RL.neg {k:IntKind} {a:Int} {t:TypeId} (hg:bR ops E o=some true) (hd:o.dst=some d) (hb:Nat.blt d n=true) (ho:o.op = .unOp .neg t x) (hx:ev E x=some (.int k a)) (hr:aq k (-a)) (h:RL P n ops Q S au ((d,.int k (-a))::E) w):RL P n ops Q S ((T,o)::au) E w:=by
 refine RL.ij hg hd hb (fun w ac ha=>?_) h
 unfold execOp
 simp only[ho,ha.ev hx]
 simp[Op.unary,Op.intArith,hr.wrap]
theorem ak.bY (h:ak w s (A::os)):∃ s1,ak w s1 os∧Le s s1∧Le A s1:=⟨_,h.YJ,aj.sD _ _,aj.rA h.2.1.symm⟩
end
theorem akR (v:Int):IntKind.u64.wrap v=v % 18446744073709551616:=by simp[IntKind.wrap,IntKind.bits,IntKind.signed]
end Go.Lw
namespace Go.Lw
section
variable {P:Program} {n:Nat} {ops:Array Oper} {Q:Exit→Act→World→Prop} {S:World→Prop} {au:List (Bool × Oper)} {E:dE} {w:World} {o:Oper} {d:Nat} {v:Value}
variable {s A:aj} {os:List aj} {x y:Operand} {T:Bool}
def aQ (w:World) (s:aj) (os:List aj) (Φ:Value→Prop):Ending→World→Prop:=fun e w'=>∃ v,e = .returned v∧ak w' s os∧ar w w'∧Φ v
theorem aQ.mk {w w':World} {s:aj} {os:List aj} {Φ:Value→Prop} {v:Value} (hg:ak w' s os) (ha:ar w w') (h:Φ v):aQ w s os Φ (.returned v) w':=⟨v,rfl,hg,ha,h⟩
theorem RL.anb {f:FuncId} {args:Array Operand} {ats:Array TypeId} {l:List Value} {w0:World} {s0:aj} {os0:List aj} {Φ:Value→Prop} (hg:bR ops E o=some true) (hd:o.dst=some d) (hb:Nat.blt d n=true)
  (ho:o.op = .call { callee:= .value (.func f),args:=args,argTypes:=ats }) (hl:jY E args.toList=some l) (hc:km P f=true) (eK:Calls P f l.toArray w (aQ w0 s0 os0 Φ))
  (h:∀ v w',ak w' s0 os0→ar w0 w'→Φ v→S w'∧RL P n ops Q S au ((d,v)::E) w'):RL P n ops Q S ((false,o)::au) E w :=
 RL.call (w0:=w0) (s0:=s0) (os0:=os0) (Φ:=fun s' A v=>s'=s0∧A=aj.nil∧Φ v) hg hd hb ho hl hc
  (eK.mono fun e w' ⟨v,he,uX,jq,hv⟩=>⟨v,s0,aj.nil,he,Le.refl _,uX.nil,jq,rfl,rfl,hv⟩)
  (fun v s' A w' _ uX jq ⟨hs,hA,hv⟩=>by subst hs;subst hA;exact h v w' uX.drop jq hv)
theorem RL.rP {f:FuncId} {args:Array Operand} {ats:Array TypeId} {l:List Value} {R:Ending→World→Prop} (hg:bR ops E o=some true) (hd:o.dst=some d) (hb:Nat.blt d n=true)
  (ho:o.op = .call { callee:= .value (.func f),args:=args,argTypes:=ats }) (hl:jY E args.toList=some l) (hc:km P f=true) (eK:Calls P f l.toArray w R)
  (h:∀ e w',R e w'→∃ v,e = .returned v∧S w'∧RL P n ops Q S au ((d,v)::E) w'):RL P n ops Q S ((false,o)::au) E w:=fun _ ac ha=>by
 have pQ:(args.map ac.eval)=l.toArray:=by
  rw[←Array.toArray_toList (xs:=args),List.map_toArray,ha.jY hl]
 have iZ:ac.eval (.func f) = .func (.func f) #[] #[]:=rfl
 simp only[RA,ha.bR hg,if_true]
 unfold Oper.wp
 have fo:(execOp ac.eval o).run P w = .ok (.enter f l.toArray) w:=by
  unfold execOp
  simp only[ho]
  simp only[resolve,pQ,iZ,Deferred.ofValue,invoke,Sem.run_bind,Sem.run_pure,Result.andThen_ok,Array.append_empty,Array.empty_append,Ie hc]
 rw[fo]
 simp only[Oper.upon]
 refine eK.mono fun e w' hp=>?_
 obtain⟨v,rfl,h5,h6⟩:=h e w' hp
 simp only[hd]
 exact⟨h5,h6 h5 _ (ha.put hb v)⟩
def s_ (w:World) (s:aj) (os:List aj) (Φ:aj→aj→aj→Value→Prop):Ending→World→Prop:=fun e w' =>
 ∃ v s' B A,e = .returned v∧Le s s'∧ak w' s' (B::A::os)∧ar w w'∧Φ s' B A v
theorem s_.mk {w w':World} {s s' A B:aj} {os:List aj} {Φ:aj→aj→aj→Value→Prop} {v:Value} (hl:Le s s') (hg:ak w' s' (B::A::os)) (ha:ar w w') (h:Φ s' B A v):s_ w s os Φ (.returned v) w' :=
 ⟨v,s',B,A,rfl,hl,hg,ha,h⟩
end
theorem aW.EP {α:Type} {R:aj→List Value→α→Prop} {sz c:Nat} {el:TypeId} {s A:aj} {a:Option Addr} {xs:List α} (h:aW R sz el s A a c xs):xs.length≤c:=by
 rcases h with ⟨_,rfl,rfl⟩ | ⟨_,_,_,_,h,_⟩
 simp
 exact h
theorem aW.set {α:Type} {R:aj→List Value→α→Prop} {sz g c i:Nat} {el:TypeId} {s A:aj} {xs:List α} {cs:Array Value} {vs:List Value} {x:α} (h:aW R sz el s A (some ⟨g,0,none⟩) c xs) (hA:A g=some (.cells cs el (0,0)))
  (hi:i<xs.length) (hv:vs.length=sz) (hx:R s vs x) :
  aW R sz el s (A.put g (.cells (cs.toList.take (i*sz)++vs++cs.toList.drop (i*sz+sz)).toArray el (0,0))) (some ⟨g,0,none⟩) c (xs.set i x):=by
 rcases h with ⟨h,_⟩ | ⟨g',cs',h,hg,hl,hc,dr,cD⟩
 cases h
 cases h
 rw[hA] at hg
 cases hg
 have cg:xs.length*sz≤cs.size:=by rw[dr];exact Nat.mul_le_mul_right _ hl
 have oz:i*sz+sz≤xs.length*sz:=by
  have:=Nat.mul_le_mul_right sz (Nat.succ_le_of_lt hi)
  rwa[Nat.succ_mul] at this
 refine .inr ⟨g,_,rfl,dq _ _ _,by simpa using hl,hc,?_,?_⟩
 rw[←dr]
 simp only[List.size_toArray,List.length_append,List.length_take,List.length_drop,Array.length_toList,hv]
 omega
 have:=cF.set cD hi hv hx
 rw[List.length_set]
 have e:(cs.toList.take (i*sz)++vs++cs.toList.drop (i*sz+sz)).take (xs.length*sz)=(cs.toList.take (xs.length*sz)).take (i*sz)++vs++(cs.toList.take (xs.length*sz)).drop (i*sz+sz):=by
  have h1:(cs.toList.take (xs.length*sz)).take (i*sz)=cs.toList.take (i*sz):=by rw[List.take_take];congr 1;omega
  have h2:(cs.toList.take (i*sz)++vs).length=i*sz+sz:=by simp[hv];omega
  rw[h1,List.take_append,List.take_of_length_le (by rw[h2];exact oz),h2]
  congr 1
  rw[List.drop_take]
 simp only[e]
 exact this
end Go.Lw
namespace Go.Lw
section
variable {P:Program} {n:Nat} {ops:Array Oper} {Q:Exit→Act→World→Prop} {S:World→Prop} {au:List (Bool × Oper)} {E:dE} {w:World} {o:Oper} {d:Nat} {v:Value}
variable {s A:aj} {os:List aj} {x y:Operand} {T:Bool}
theorem Yu {t e:TypeId} {a:Option Addr} (ht:P.underlying t=some (.pointer e)) (w:World):(Op.equal t (.pointer a) (.pointer none)).run P w = .ok a.isNone w:=by
 have h:∀ d:Nat,(Op.equalIn (d+1) t (.pointer a) (.pointer none)).run P w = .ok a.isNone w:=fun d=>by
  cases a<;>simp[Op.equalIn,run_underlying ht]
 simp only[Op.equal,Op.maxDepth]
 exact h 9999
theorem RL.Rf {t e yt:TypeId} {a:Option Addr} (hg:bR ops E o=some true) (hd:o.dst=some d) (hb:Nat.blt d n=true) (ho:o.op = .binOp .eql t x y yt) (ht:P.underlying t=some (.pointer e))
  (hx:ev E x=some (.pointer a)) (hy:ev E y=some (.pointer none)) (h:RL P n ops Q S au ((d,.bool a.isNone)::E) w):RL P n ops Q S ((T,o)::au) E w:=by
 refine RL.ij hg hd hb (fun w ac ha=>?_) h
 have uX:(eqGuard .eql t x y (.pointer a) (.pointer none)).run P w = .ok () w:=by unfold eqGuard;rfl
 unfold execOp
 simp only[ho,ha.ev hx,ha.ev hy,Sem.run_bind,uX,Result.andThen_ok]
 have h2:=Yu (P:=P) (a:=a) ht w
 simp only[binOp]
 simp[h2]
theorem RL.ai9 {t e yt:TypeId} {a:Option Addr} (hg:bR ops E o=some true) (hd:o.dst=some d) (hb:Nat.blt d n=true) (ho:o.op = .binOp .neq t x y yt) (ht:P.underlying t=some (.pointer e))
  (hx:ev E x=some (.pointer a)) (hy:ev E y=some (.pointer none)) (h:RL P n ops Q S au ((d,.bool (!a.isNone))::E) w):RL P n ops Q S ((T,o)::au) E w:=by
 refine RL.ij hg hd hb (fun w ac ha=>?_) h
 have uX:(eqGuard .neq t x y (.pointer a) (.pointer none)).run P w = .ok () w:=by unfold eqGuard;rfl
 unfold execOp
 simp only[ho,ha.ev hx,ha.ev hy,Sem.run_bind,uX,Result.andThen_ok]
 have h2:=Yu (P:=P) (a:=a) ht w
 simp only[binOp]
 simp[h2]
theorem RL.alloc {t:TypeId} {z:List Value} (hg:bR ops E o=some true) (hd:o.dst=some d) (hb:Nat.blt d n=true) (ho:o.op = .alloc t) (hz:eY P t=some z) (hG:ak w s os)
  (h:∀ b w',ak w' s (aj.one b (.cells z.toArray t)::os)→ar w w'→S w'∧RL P n ops Q S au ((d,.pointer (some ⟨b,0,none⟩))::E) w'):RL P n ops Q S ((false,o)::au) E w:=by
 obtain⟨h1,h2⟩:=h w.heap.size _ (hG.alloc (.cells z.toArray t)) (ar.alloc w _)
 refine RL.step hg hd hb (fun ac ha=>?_) h1 h2
 unfold eY at hz
 cases hi:P.info? t with
 | none=>simp[hi] at hz
 | some i =>
  cases vp:i.zero with
  | none=>simp[hi,vp] at hz
  | some u =>
   simp[hi,vp] at hz
   unfold execOp
   simp only[ho]
   have HS:(zeroValue t).run P w = .ok u w:=by simp[zeroValue,typeInfo,hi,vp]
   have e:u.cells=z.toArray:=by rw[←hz]
   simp[Instr.alloc,HS,newVar,newRow,e]
end
end Go.Lw
namespace Go.Lw
theorem mw {P:Program} {w:World} {t:TypeId} {k b:Nat} {A:aj} {cs:Array Value} {el:TypeId} {fr:Nat × Nat} (ht:dD P t=some (true,k)) (hA:A b=some (.cells cs el fr)) (cq:In A w) (hk:cs.size=k) :
  (loadVar t ⟨b,0,none⟩).run P w = .ok (.agg cs) w:=by
 have hr:=run_loadCells_list (P:=P) w ⟨b,0,none⟩ cs.toList (fun i u hu=>(Holds.of hA).cell cq hu)
 have hl:cs.toList.length=k:=by simpa using hk
 rw[hl] at hr
 simp[loadVar,(C3 ht).1,(C3 ht).2,hr]
theorem Xq {P:Program} {w:World} {t:TypeId} {b:Nat} {A:aj} {cs:Array Value} {el:TypeId} {fr:Nat × Nat} {v:Value} (ht:dD P t=some (false,1)) (hA:A b=some (.cells cs el fr)) (cq:In A w) (hv:cs[0]?=some v) :
  (loadVar t ⟨b,0,none⟩).run P w = .ok v w:=by
 have hc:=(Holds.of hA).cell cq (j:=0) (u:=v) (by simpa using hv)
 have hz:(⟨b,0,none⟩:Addr).add 0=⟨b,0,none⟩:=rfl
 rw[hz] at hc
 simp[loadVar,(C3 ht).1,load,Sem.run,hc,Sem.run_bind]
end Go.Lw
namespace Go.Lw
section
variable {P:Program} {n:Nat} {ops:Array Oper} {Q:Exit→Act→World→Prop} {S:World→Prop} {au:List (Bool × Oper)} {E:dE} {w:World} {o:Oper} {d:Nat} {v:Value}
variable {s A:aj} {os:List aj} {x y:Operand} {T:Bool}
theorem RL.tO {fn:Fn} {cap:Array Operand} {l:List Value} (hg:bR ops E o=some true) (hd:o.dst=some d) (hb:Nat.blt d n=true) (ho:o.op = .makeFunc fn #[] cap) (hl:jY E cap.toList=some l)
  (h:RL P n ops Q S au ((d,.func fn #[] l.toArray)::E) w):RL P n ops Q S ((T,o)::au) E w:=by
 refine RL.ij hg hd hb (fun w ac ha=>?_) h
 have pQ:(cap.map ac.eval)=l.toArray:=by
  rw[←Array.toArray_toList (xs:=cap),List.map_toArray,ha.jY hl]
 unfold execOp
 simp only[ho,pQ]
 simp[Instr.makeFunc]
theorem RL.tj {f:FuncId} {args:Array Operand} {ats:Array TypeId} {l:List Value} {cap:Array Value} {R:Ending→World→Prop} (hg:bR ops E o=some true) (hd:o.dst=some d) (hb:Nat.blt d n=true)
  (ho:o.op = .call { callee:= .value x,args:=args,argTypes:=ats }) (hx:ev E x=some (.func (.func f) #[] cap)) (hl:jY E args.toList=some l) (hc:km P f=true) (eK:Calls P f (l.toArray++cap) w R)
  (h:∀ e w',R e w'→∃ v,e = .returned v∧S w'∧RL P n ops Q S au ((d,v)::E) w'):RL P n ops Q S ((false,o)::au) E w:=fun _ ac ha=>by
 have pQ:(args.map ac.eval)=l.toArray:=by
  rw[←Array.toArray_toList (xs:=args),List.map_toArray,ha.jY hl]
 have iZ:ac.eval x = .func (.func f) #[] cap:=ha.ev hx
 simp only[RA,ha.bR hg,if_true]
 unfold Oper.wp
 have fo:(execOp ac.eval o).run P w = .ok (.enter f (l.toArray++cap)) w:=by
  unfold execOp
  simp only[ho]
  simp only[resolve,pQ,iZ,Deferred.ofValue,invoke,Sem.run_bind,Sem.run_pure,Result.andThen_ok,Array.empty_append,Ie hc]
 rw[fo]
 simp only[Oper.upon]
 refine eK.mono fun e w' hp=>?_
 obtain⟨v,rfl,h5,h6⟩:=h e w' hp
 simp only[hd]
 exact⟨h5,h6 h5 _ (ha.put hb v)⟩
end
end Go.Lw
namespace Go.Lw
theorem ak.mI {w:World} {s r:aj} {os:List aj} (h:ak w s os) (hr:r=s∨r∈os):In r w:=by
 rcases hr with rfl | hr
 exact h.sh
 exact h.mem hr
theorem cU.row {P:Program} {w:World} {α:Type} {R:aj→List Value→α→Prop} {t e:TypeId} {sz by_:Nat} {a:Option Addr} {c:Nat} {ys:List α} {r s:aj} (ht:eJ P t=some (e,sz,by_)) (h:ys=[]∨∃ ad,a=some ad∧kI R sz r s ad ys) (cq:In r w) :
  ∃ bB,cU P w t sz (.slice a ys.length c) ys.length bB∧cF R sz s bB ys:=by
 rcases h with rfl | ⟨ad,rfl,cs,hh,hc⟩
 exact⟨[],.slice ht (by simp) (.inl rfl) cq,rfl⟩
 exact⟨cs,.slice ht hc.length (.inr ⟨ad,rfl,hh⟩) cq,hc⟩
theorem ak.aE {w:World} {s A B:aj} {os:List aj} (h:ak w s (A::B::os)):ak w s (A::os) :=
 (h.perm (List.Perm.swap _ _ _)).drop
theorem ak.swap {w:World} {s A B:aj} {os:List aj} (h:ak w s (A::B::os)):ak w s (B::A::os):=h.perm (List.Perm.swap _ _ _)
theorem ak.Ll {w:World} {s A B:aj} {os:List aj} (h:ak w s (A::B::os)):∃ s1,ak w s1 (A::os)∧Le s s1∧Le B s1:=by
 have h2:ak w s (B::A::os):=h.perm (List.Perm.swap _ _ _)
 exact h2.bY
theorem HV {k:IntKind} {s:aj}:∀ {cs:List Value} {xs:List Int},cF (ax k) 1 s cs xs→cs=xs.map (Value.int k)∧∀ x∈xs,Lw.aq k x
 | _,[],h=>⟨h,by simp⟩
 | _,x::xs,⟨vs,au,e,_,⟨hv,hr⟩,h⟩=>by
  obtain⟨h1,h2⟩:=HV h
  subst e;subst hv
  exact⟨by simp[h1],by simpa using ⟨hr,h2⟩⟩
theorem FS {k:IntKind} {s:aj}:∀ {xs:List Int},(∀ x∈xs,Lw.aq k x)→cF (ax k) 1 s (xs.map (Value.int k)) xs
 | [],_=>rfl
 | x::xs,h=>⟨[.int k x],xs.map (Value.int k),rfl,rfl,⟨rfl,h x (by simp)⟩,FS fun y hy=>h y (by simp[hy])⟩
abbrev ptr (b:Nat):Value:= .pointer (some ⟨b,0,none⟩)
abbrev i64 (k:Int):Value:= .int .i64 k
theorem aW.fresh {α:Type} {R:aj→List Value→α→Prop} {sz:Nat} {el:TypeId} {s:aj} {b:Nat}:aW R sz el s (aj.one b (.cells #[] el)) (some ⟨b,0,none⟩) 0 []:= .inr ⟨b,#[],rfl,if_pos rfl,Nat.le_refl _,Nat.zero_le _,by simp,by simp[cF]⟩
theorem ak.CB {w:World} {s A:aj} {os:List aj} (h:ak w s (A::os)):ak w (s.eN A) os∧Le s (s.eN A)∧Le A (s.eN A)∧∀ w',ak w' (s.eN A) os→ak w' s (A::os):=by
 have cg:=aj.rA h.2.1.symm
 refine⟨h.YJ,aj.sD _ _,cg,fun w' hg=>?_⟩
 refine (congrArg (fun z=>ak w' z (A::os)) (funext fun b=>?_)).mp (hg.Zo cg)
 cases hA:A b with
 | some x=>exact (h.2.1 b (by rw[hA];simp)).symm
 | none =>
  simp only[aj.eN,hA]
  cases s b<;>rfl
end Go.Lw
namespace Go.Lw
open Go.RowKit
section
variable {P:Program} {n:Nat} {ops:Array Oper} {Q:Exit→Act→World→Prop} {S:World→Prop} {au:List (Bool × Oper)} {E:dE} {w:World} {o:Oper} {d:Nat} {v:Value}
variable {s A:aj} {os:List aj} {x y:Operand} {T:Bool}
theorem RL.drop {w':World} (hg:bR ops E o=some true) (hd:o.dst=none) (hr:∀ a,At n E a→(execOp a.eval o).run P w = .ok (.value v) w') (hS:S w') (h:RL P n ops Q S au E w') :
  RL P n ops Q S ((false,o)::au) E w:=fun _ a ha=>by
 simp only[RA,ha.bR hg,if_true]
 unfold Oper.wp
 rw[hr a ha]
 simp only[Oper.upon,hd,Act.put]
 exact⟨hS,h hS _ ha⟩
theorem RL.cap {t:TypeId} {e:TypeId} {sz by_ m c:Nat} {a:Option Addr} (hg:bR ops E o=some true) (hd:o.dst=some d) (hb:Nat.blt d n=true)
  (ho:o.op = .call { callee:= .builtin .cap,args:= #[x],argTypes:= #[t] }) (ht:eJ P t=some (e,sz,by_)) (hx:ev E x=some (.slice a m c)) (h:RL P n ops Q S au ((d,.int .i64 c)::E) w):RL P n ops Q S ((T,o)::au) E w:=by
 refine RL.ij hg hd hb (fun w ac ha=>?_) h
 unfold execOp
 simp only[ho]
 simp[resolve,invoke,builtin,Builtin.cap_,ha.ev hx,run_underlying (pE ht).1,goInt]
theorem RL.cut {t e:TypeId} {sz by_ m c:Nat} {a:Option Addr} {lo hi:Option Operand} (l h:Nat) (hg:bR ops E o=some true) (hd:o.dst=some d) (hb:Nat.blt d n=true)
  (ho:o.op = .slice t x lo hi none) (ht:eJ P t=some (e,sz,by_)) (hx:ev E x=some (.slice a m c))
  (u_:(lo=none∧l=0)∨∃ k z,lo=some z∧ev E z=some (.int k (l:Nat))) (zC:(hi=none∧h=m)∨∃ k z,hi=some z∧ev E z=some (.int k (h:Nat)))
  (h1:l≤h) (h2:h≤c) (hK:RL P n ops Q S au ((d,.slice (if c=l then a else a.map (·.add (l*sz))) (h-l) (c-l))::E) w):RL P n ops Q S ((T,o)::au) E w:=by
 refine RL.ij hg hd hb (fun w ac ha=>?_) hK
 obtain⟨hu,inf,oz,rfl,_⟩:=pE ht
 have cV:∀ w:World,(sizeOf e).run P w = .ok inf.size w:=fun w=>by simp[sizeOf,typeInfo,oz]
 have hZ:∀ k (y:Nat) code,l≤y→(Instr.sliceBound (.int k (l:Nat)) y code).run P w = .ok l w:=fun k y code hy=>by
  have:=run_sliceBound (P:=P) w k (l:Nat) y code (by omega) (by omega);simpa using this
 have zA:∀ k (y:Nat) code,h≤y→(Instr.sliceBound (.int k (h:Nat)) y code).run P w = .ok h w:=fun k y code hy=>by
  have:=run_sliceBound (P:=P) w k (h:Nat) y code (by omega) (by omega);simpa using this
 unfold execOp
 simp only[ho,ha.ev hx]
 rcases u_ with ⟨rfl,rfl⟩ | ⟨kl,zl,rfl,gW⟩<;>rcases zC with ⟨rfl,rfl⟩ | ⟨kh,zh,rfl,HR⟩
 simp[Instr.sliceAt,Instr.slice,Instr.sliceBounds,run_underlying hu,cV]
 simp[Instr.sliceAt,Instr.slice,Instr.sliceBounds,run_underlying hu,cV,ha.ev HR,zA kh c .sliceAcap (by omega)]
 simp[Instr.sliceAt,Instr.slice,Instr.sliceBounds,run_underlying hu,cV,ha.ev gW,hZ kl h .sliceB (by omega)]
 simp[Instr.sliceAt,Instr.slice,Instr.sliceBounds,run_underlying hu,cV,ha.ev gW,ha.ev HR,zA kh c .sliceAcap (by omega),hZ kl h .sliceB (by omega)]
abbrev l9 (cs:Array Value) (off:Nat) (bB:List Value):Array Value:=(cs.toList.take off++bB++cs.toList.drop (off+bB.length)).toArray
theorem Fi {cs:Array Value} {off:Nat} {bB:List Value} (h:off+bB.length≤cs.size):(l9 cs off bB).size=cs.size:=by
 simp only[l9,List.size_toArray,List.length_append,List.length_take,List.length_drop,Array.length_toList];omega
theorem aj0 {N:Array Value} {i:Nat} {a:Value} {r:List Value} (h:i+1+r.length≤N.size):(l9 (l9 N i [a]) (i+1) r).toList.take (i+1+r.length)=N.toList.take i++a::r:=by
 have hl:N.toList.length=N.size:=Array.length_toList
 have e1:(N.toList.take i++[a]++N.toList.drop (i+1)).take (i+1)=N.toList.take i++[a]:=List.take_left' (by simp only[List.length_append,List.length_take,List.length_cons,List.length_nil];omega)
 simp only[l9,List.length_cons,List.length_nil,Nat.zero_add,e1]
 rw[List.take_left' (by simp only[List.length_append,List.length_take,List.length_cons,List.length_nil];omega)]
 simp
theorem ajZ {N:Array Value} {i:Nat} {a:Value} {r:List Value} (h:i+1+r.length≤N.size):(l9 (l9 N (i+1) r) i [a]).toList.take (i+1+r.length)=N.toList.take i++a::r:=by
 have hl:N.toList.length=N.size:=Array.length_toList
 have e0:N.toList.take (i+1)++r++N.toList.drop (i+1+r.length)=N.toList.take (i+1)++(r++N.toList.drop (i+1+r.length)):=List.append_assoc _ _ _
 have e1:(N.toList.take (i+1)++r++N.toList.drop (i+1+r.length)).take i=N.toList.take i:=by
  rw[e0,List.take_append_of_le_length (by rw[List.length_take];omega),List.take_take,Nat.min_eq_left (by omega)]
 have e2:(N.toList.take (i+1)++r++N.toList.drop (i+1+r.length)).drop (i+1)=r++N.toList.drop (i+1+r.length):=by
  rw[e0];exact List.drop_left' (by rw[List.length_take];omega)
 simp only[l9,List.length_cons,List.length_nil,Nat.zero_add,e1,e2]
 rw[←List.append_assoc,List.take_left' (by simp only[List.length_append,List.length_take,List.length_cons,List.length_nil];omega)]
 simp
theorem Ig {r:aj} {ad:Addr} {bB:List Value} {sz k m c:Nat} (hH:Holds r ad bB) (cq:In r w) (hl:bB.length=k*sz):(Builtin.firstCells sz k (.slice (some ad) m c)).run P w = .ok bB.toArray w :=
 run_firstCells_some w sz k ad m c bB hl (fun _ _ hj=>hH.cell cq hj)
theorem RL.copy {t t2 e:TypeId} {sz by_ k m c g off i:Nat} (q:Nat) {src:Value} {bB:List Value} {cs:Array Value} {el:TypeId} (hg:bR ops E o=some true) (hd:o.dst=some d) (hb:Nat.blt d n=true)
  (ho:o.op = .call { callee:= .builtin .copy,args:= #[x,y],argTypes:= #[t,t2] }) (ht:eJ P t=some (e,sz,by_))
  (hx:ev E x=some (.slice (some ⟨g,off,none⟩) k c)) (hy:ev E y=some src) (bV:∀ w',(Builtin.lenOf src).run P w' = .ok m w')
  (hq:Nat.min m k=q) (pb:(Builtin.firstCells sz q src).run P w = .ok bB.toArray w)
  (hG:ak w s os) (hi:os[i]?=some A) (hA:A g=some (.cells cs el (0,0))) (j5:off+bB.length≤cs.size) (ky:∀ v∈bB,v.oneCell'=true)
  (h:∀ w',ak w' s (os.set i (A.put g (.cells (l9 cs off bB) el (0,0))))→ar w w'→S w'∧RL P n ops Q S au ((d,.int .i64 q)::E) w'):RL P n ops Q S ((false,o)::au) E w:=by
 subst hq
 have hf:=hG.ae i hi
 have zT:=hf.1 g _ hA
 have cc:=run_storeCells_at P g off el bB 0 cs w zT (by simpa using j5) ky
 simp only[Nat.add_zero] at cc
 have hw:=hf.Al (w':=w.setRow g (l9 cs off bB)) hA (setRow_heap w g cs _ el (0,0) zT) (fun k' _ BP=>setRow_other w g k' _ BP)
 obtain⟨h2,h3⟩:=h _ (ak.xo i hi hw) ⟨rfl,rfl,rfl,by simp⟩
 refine RL.step hg hd hb (fun ac ha=>?_) h2 h3
 obtain⟨hu,inf,oz,rfl,_⟩:=pE ht
 have cV:∀ w:World,(sizeOf e).run P w = .ok inf.size w:=fun w=>by simp[sizeOf,typeInfo,oz]
 unfold execOp
 simp only[ho]
 simp only[resolve,invoke,builtin,Builtin.copy_,Sem.run_bind,Sem.run_pure,Result.andThen_ok,List.map_toArray,List.map_cons,List.map_nil,ha.ev hx,ha.ev hy,List.getElem?_toArray,List.getElem?_cons_zero,List.getElem?_cons_succ,run_underlying hu,bV,cV,pb,cc,goInt]
theorem RL.clear {t e:TypeId} {sz by_ k c g off i:Nat} {z:List Value} {cs:Array Value} {el:TypeId} (hg:bR ops E o=some true) (hd:o.dst=none)
  (ho:o.op = .call { callee:= .builtin .clear,args:= #[x],argTypes:= #[t] }) (ht:eJ P t=some (e,sz,by_)) (hz:eY P e=some z)
  (hx:ev E x=some (.slice (some ⟨g,off,none⟩) k c))
  (hG:ak w s os) (hi:os[i]?=some A) (hA:A g=some (.cells cs el (0,0))) (j5:off+k*z.length≤cs.size) (ky:∀ v∈z,v.oneCell'=true)
  (h:∀ w',ak w' s (os.set i (A.put g (.cells (l9 cs off (Builtin.zeroCells z.toArray k).toList) el (0,0))))→ar w w'→S w'∧RL P n ops Q S au E w'):RL P n ops Q S ((false,o)::au) E w:=by
 have hf:=hG.ae i hi
 have zT:=hf.1 g _ hA
 obtain⟨hu,inf,oz,rfl,_⟩:=pE ht
 have gW:(Builtin.zeroCells z.toArray k).toList.length=k*z.length:=by simp[size_zeroCells]
 have hzo:∀ v∈(Builtin.zeroCells z.toArray k).toList,v.oneCell'=true:=fun v hv=>by
  simp only[Builtin.zeroCells,Array.toList_map,List.mem_map] at hv
  obtain⟨j,hj,rfl⟩:=hv
  have kR:j<k*z.length:=by simpa using hj
  have Ky:0<z.length:=by
   rcases Nat.eq_zero_or_pos z.length with h | h
   rw[h,Nat.mul_zero] at kR;omega
   exact h
  have be:j % z.toArray.size<z.toArray.size:=by simpa using Nat.mod_lt _ Ky
  rw[getElem!_pos z.toArray _ be]
  exact ky _ (by simp)
 by_cases hk:k=0
 subst hk
 have e0:Builtin.zeroCells z.toArray 0 = #[]:=by
  apply Array.eq_empty_of_size_eq_zero
  rw[size_zeroCells];simp
 have EA:A.put g (.cells (l9 cs off (Builtin.zeroCells z.toArray 0).toList) el (0,0))=A:=by
  funext b
  by_cases hb:b=g
  subst hb
  rw[dq,hA,e0]
  simp[l9]
  simp[aj.put,hb]
 have pk:os.set i A=os:=by
  have be:=(List.getElem?_eq_some_iff.1 hi)
  obtain⟨be,he⟩:=be
  rw[←he];exact List.set_getElem_self be
 obtain⟨h2,h3⟩:=h w (by rw[EA,pk];exact hG) (ar.refl _)
 refine RL.drop (v:= .tuple #[]) hg hd (fun ac ha=>?_) h2 h3
 unfold execOp
 simp only[ho]
 simp[resolve,invoke,builtin,Builtin.clear_,ha.ev hx,run_underlying hu]
 obtain⟨k',rfl⟩:∃ k',k=k'+1:=⟨k-1,by omega⟩
 have cc:=run_storeCells_at P g off el (Builtin.zeroCells z.toArray (k'+1)).toList 0 cs w zT (by simp only[Nat.add_zero];rw[gW];exact j5) hzo
 simp only[Nat.add_zero] at cc
 have hw:=hf.Al (w':=w.setRow g (l9 cs off (Builtin.zeroCells z.toArray (k'+1)).toList)) hA (setRow_heap w g cs _ el (0,0) zT) (fun k' _ BP=>setRow_other w g k' _ BP)
 obtain⟨h2,h3⟩:=h _ (ak.xo i hi hw) ⟨rfl,rfl,rfl,by simp⟩
 refine RL.drop (v:= .tuple #[]) hg hd (fun ac ha=>?_) h2 h3
 unfold eY at hz
 cases nX:inf.zero with
 | none=>simp[oz,nX] at hz
 | some zv =>
  simp only[oz,Option.bind_some,nX,Option.map_some,Option.some.injEq] at hz
  have vo:zv.cells=z.toArray:=by rw[←hz]
  have HS:(zeroValue e).run P w = .ok zv w:=by simp[zeroValue,typeInfo,oz,nX]
  unfold execOp
  simp only[ho]
  simp only[resolve,invoke,builtin,Builtin.clear_,Sem.run_bind,Sem.run_pure,Result.andThen_ok,List.map_toArray,List.map_cons,List.map_nil,ha.ev hx,List.getElem?_toArray,List.getElem?_cons_zero,run_underlying hu,HS,vo,cc]
theorem RL.SX {t t2 e:TypeId} {sz by_ k m c:Nat} {kk:IntKind} {a:Option Addr} {jx z:List Value} (hg:bR ops E o=some true) (hd:o.dst=some d) (hb:Nat.blt d n=true)
  (ho:o.op = .call { callee:= .builtin .append,args:= #[x,y],argTypes:= #[t,t2] }) (ht:eJ P t=some (e,sz,by_)) (hz:eY P e=some z) (iP:P.underlying t2=some (.int kk)) (ag_:0<sz)
  (hx:ev E x=some (.slice a k c)) (hy:ev E y=some (.int kk (m:Nat))) (hold:∀ w':World,w'.heap=w.heap→(Builtin.firstCells sz k (.slice a k c)).run P w' = .ok jx.toArray w')
  (iF:c<k+m) (hm:0<m) (o4:(k+m)*by_≤140737488355328) (r7:0<by_) (hG:ak w s os)
  (h:∀ g w' c',k+m≤c'→c'≤maxLen→ak w' s (aj.one g (.cells (jx.toArray++Builtin.zeroCells z.toArray m++Builtin.zeroCells z.toArray (c'-(k+m))) e)::os)→ar w w'→S w'∧RL P n ops Q S au ((d,.slice (some ⟨g,0,none⟩) (k+m) c')::E) w') :
  RL P n ops Q S ((false,o)::au) E w:=by
 obtain⟨hu,i,hi,rfl,rfl⟩:=pE ht
 have mo:k+m≤(k+m)*i.bytes:=Nat.le_mul_of_pos_right _ r7
 have qY:k+m≤9223372036854775807:=by omega
 have ni:k+m≤maxLen:=by simp only[maxLen];omega
 have hn:¬ (k+m≤c):=by omega
 have Nk:¬ (9223372036854775807<((k:Int)+(m:Int))):=by omega
 have j5:=growslice_fits (bytes:=i.bytes) iF o4
 have Nh:¬ (281474976710656<Builtin.nextslicecap (k+m) c*i.bytes):=by omega
 have hw:IntKind.i64.wrap (m:Int)=m:=by rw[IntKind.wrap_i64];omega
 have nS:¬ ((m:Int)<0):=by omega
 have Hc:m*i.bytes≤(k+m)*i.bytes:=Nat.mul_le_mul_right _ (by omega)
 have afF:¬ (281474976710656<(m:Int)*(i.bytes:Int)):=by
  have:((m:Int)*(i.bytes:Int))=((m*i.bytes:Nat):Int):=by simp
  rw[this];omega
 have hmz:¬ (m*i.size=0):=by
  have:0<m*i.size:=Nat.mul_pos hm ag_
  omega
 have sp:=hold w.drew rfl
 unfold eY at hz
 simp only[hi,Option.bind_some] at hz
 cases nX:i.zero with
 | none=>simp[nX] at hz
 | some zv =>
  simp only[nX,Option.map_some,Option.some.injEq] at hz
  have vo:zv.cells=z.toArray:=by rw[←hz]
  obtain⟨h2,h3⟩:=h w.heap.size (w.drew.alloc (.cells (jx.toArray++Builtin.zeroCells z.toArray m++Builtin.zeroCells z.toArray (grownCap w (k+m) c e-(k+m))) e)) (grownCap w (k+m) c e) (grownCap_ge w (k+m) c e) (grownCap_le_maxLen w _ c e ni) (hG.drew.alloc _) ((ar.drew w).trans (ar.alloc _ _))
  refine RL.step hg hd hb (fun ac ha=>?_) h2 h3
  have fo:(Builtin.append_ #[t,t2] o.type #[.slice a k c,.int kk (m:Nat)]).run P w = .ok (.slice (some ⟨w.heap.size,0,none⟩) (k+m) (grownCap w (k+m) c e)) (w.drew.alloc (.cells (jx.toArray++Builtin.zeroCells z.toArray m++Builtin.zeroCells z.toArray (grownCap w (k+m) c e-(k+m))) e)):=by
   simp[Builtin.append_,run_underlying hu,run_underlying iP,sizeOf,typeInfo,zeroValue,hi,nX,asInt,asIntOf,hw,nS,afF,hmz,hn,Nk,Nh,Question.forced,sp,newRow,grownCap,vo]
  unfold execOp
  simp only[ho]
  simp only[resolve,invoke,builtin,Sem.run_bind,Sem.run_pure,Result.andThen_ok,List.map_toArray,List.map_cons,List.map_nil,ha.ev hx,ha.ev hy,fo]
theorem yS (a:Option Addr) (sz:Nat):a.map (·.add (0*sz))=a:=by
 cases a with
 | none=>rfl
 | some ad=>simp[Addr.add]
theorem aa1 (g l:Nat):(⟨g,0,none⟩:Addr).add l=⟨g,l,none⟩:=by unfold Addr.add;split<;>simp_all
theorem RL.AM {t e:TypeId} {sz by_ m c:Nat} {k:IntKind} {a:Option Addr} {i:Int} (h:Nat) (hg:bR ops E o=some true) (hd:o.dst=some d) (hb:Nat.blt d n=true)
  (ho:o.op = .slice t x none (some y) none) (ht:eJ P t=some (e,sz,by_)) (hx:ev E x=some (.slice a m c)) (hy:ev E y=some (.int k i)) (hi:i=(h:Nat)) (h2:h≤c)
  (hK:RL P n ops Q S au ((d,.slice a h c)::E) w):RL P n ops Q S ((T,o)::au) E w:=by
 subst hi
 refine RL.cut 0 h hg hd hb ho ht hx (.inl ⟨rfl,rfl⟩) (.inr ⟨_,_,rfl,hy⟩) (Nat.zero_le _) h2 ?_
 rw[yS,ahj]
 exact hK
where ahj {a:Option Addr} {p:Prop} [Decidable p]:(if p then a else a)=a:=by split<;>rfl
theorem RL.AO {t e:TypeId} {sz by_ m c g off:Nat} {k:IntKind} {i:Int} (l:Nat) (hg:bR ops E o=some true) (hd:o.dst=some d) (hb:Nat.blt d n=true)
  (ho:o.op = .slice t x (some y) none none) (ht:eJ P t=some (e,sz,by_)) (hx:ev E x=some (.slice (some ⟨g,off,none⟩) m c)) (hy:ev E y=some (.int k i)) (hi:i=(l:Nat)) (h1:l≤m) (h2:l<c) (h3:m≤c)
  (hK:RL P n ops Q S au ((d,.slice (some ⟨g,off+l*sz,none⟩) (m-l) (c-l))::E) w):RL P n ops Q S ((T,o)::au) E w:=by
 subst hi
 refine RL.cut l m hg hd hb ho ht hx (.inr ⟨_,_,rfl,hy⟩) (.inl ⟨rfl,rfl⟩) h1 h3 ?_
 rw[if_neg (by omega)]
 have e:(some (⟨g,off,none⟩:Addr)).map (·.add (l*sz))=some ⟨g,off+l*sz,none⟩:=by
  simp only[Option.map_some,Addr.add]
  split
  rename_i h0;rw[h0];rfl
  rfl
 rw[e]
 exact hK
end
section
variable {α:Type} {R:aj→List Value→α→Prop} {sz c g:Nat} {el:TypeId} {s A:aj} {xs ys:List α} {cs ds:Array Value}
theorem aW.ae {a:Option Addr} (h:aW R sz el s A a c (xs++ys)):aW R sz el s A a c xs:=by
 rcases h with ⟨h1,h2,h3⟩ | ⟨g,cs,h1,h2,h3,h4,h5,h6⟩
 exact .inl ⟨h1,h2,(List.append_eq_nil_iff.1 h3).1⟩
 refine .inr ⟨g,cs,h1,h2,by simp only[List.length_append] at h3;omega,h4,h5,?_⟩
 have:=(cF.part h6).1
 rw[List.take_take,List.length_append,Nat.min_eq_left (Nat.mul_le_mul_right _ (by omega))] at this
 exact this
theorem aW.tail (h:aW R sz el s A (some ⟨g,0,none⟩) c xs) (hA:A g=some (.cells cs el (0,0))) (hs:ds.size=cs.size) (ht:ds.toList.take (xs.length*sz)=cs.toList.take (xs.length*sz)) :
  aW R sz el s (A.put g (.cells ds el (0,0))) (some ⟨g,0,none⟩) c xs:=by
 rcases h with ⟨h1,_⟩ | ⟨g',cs',h1,h2,h3,h4,h5,h6⟩
 cases h1
 cases h1
 rw[hA] at h2
 cases h2
 exact .inr ⟨g,ds,rfl,dq _ _ _,h3,h4,by rw[hs,h5],by rw[ht];exact h6⟩
end
end Go.Lw
namespace Go.Lw
section
variable {P:Program} {ops:Array Oper} {Q:Exit→Act→World→Prop} {S:World→Prop} {K:Array Bool→Act→World→Prop}
def wI (m:Nat) (listed:Array Bool):Bool:=(List.range m).all fun k=>listed.getD k false
def BO (m:Nat) (listed:Array Bool):Bool:=(List.range listed.size).all fun k=>Nat.blt k m || !listed.getD k true
def vx (ops:Array Oper) (m i:Nat):Nat→List Bool
 | 0=>[]
 | j+1=>vx ops m i j++[Nat.blt j m && !Nat.beq j i && (match ops[j]? with | some o=>o.after.all fun e=> !(Region.binds .any e) || !(Nat.blt e.on j) || (vx ops m i j).getD e.on true | none=>true)]
def ER (ops:Array Oper) (m i:Nat):Array Bool:=(vx ops m i ops.size).toArray
def Dg (ops:Array Oper) (listed:Array Bool):Prop:=∀ j o,ops[j]?=some o→listed.getD j false=true→∀ e∈o.after,Region.binds .any e=true→listed.getD e.on false=true
def Tz (ops:Array Oper) (listed:Array Bool):Bool:=(List.range ops.size).all fun j=> !listed.getD j false || (match ops[j]? with | some o=>o.after.all fun e=> !(Region.binds .any e) || listed.getD e.on false | none=>true)
theorem abO {listed:Array Bool} (h:Tz ops listed=true):Dg ops listed:=fun j o ho hl e he hb=>by
 have hj:j<ops.size:=(Array.getElem?_eq_some_iff.1 ho).1
 have h1:=List.all_eq_true.1 h j (List.mem_range.2 hj)
 simp only[hl,Bool.not_true,Bool.false_or,ho] at h1
 have h2:=Array.all_eq_true'.1 h1 e he
 simpa [hb] using h2
theorem abP {listed:Array Bool} {i:Nat} (h:Dg ops listed) (hi:i∈Region.ready .any ops listed):Dg ops (listed.setIfInBounds i true):=fun j o ho hl e he hb=>by
 have up:∀ k,listed.getD k false=true→(listed.setIfInBounds i true).getD k false=true:=fun k hk=>by
  by_cases Ej:i=k
  subst Ej
  rcases Nat.lt_or_ge i listed.size with h' | h'
  simp[h']
  simp[Array.getElem?_eq_none h'] at hk
  rw[getD_set_ne false Ej];exact hk
 by_cases qy:i=j
 subst qy
 obtain⟨_,o',sp,gx⟩:=mem_ready.1 hi
 rw[ho] at sp;cases sp
 exact up _ (gx e he hb)
 rw[getD_set_ne false qy] at hl
 exact up _ (h j o ho hl e he hb)
theorem zX (m i:Nat):∀ k,(vx ops m i k).length=k
 | 0=>rfl
 | k+1=>by simp[vx,zX m i k]
def Fv (P:Program) (ops:Array Oper) (Q:Exit→Act→World→Prop) (S:World→Prop) (m:Nat) (K:Array Bool→Act→World→Prop):Nat→Array Bool→Act→World→Prop
 | 0,listed,a,w=>wI m listed=true∧K listed a w
 | fuel+1,listed,a,w =>
  (wI m listed=true→K listed a w) ∧
  (wI m listed=false→Region.ready .any ops listed≠[]∧∀ i∈Region.ready .any ops listed,i<m∧wpOp P ops Q i (fun a' w'=>S w'∧Fv P ops Q S m K fuel (listed.setIfInBounds i true) a' w') a w)
theorem Xs {m k:Nat} {listed:Array Bool} (h:wI m listed=true) (hk:k<m):listed.getD k false=true:=by
 have:=List.all_eq_true.1 h k (List.mem_range.2 hk)
 simpa using this
theorem KF {m k:Nat} {listed:Array Bool} (h:listed.getD k true=false) (hk:k<m):wI m listed=false:=by
 cases hl:wI m listed with
 | false=>rfl
 | true =>
  have h1:=Xs hl hk
  rcases Nat.lt_or_ge k listed.size with h' | h'
  simp[h'] at h h1;rw[h] at h1;cases h1
  simp[Array.getElem?_eq_none h'] at h
theorem VK {m k:Nat} {listed:Array Bool} (h:BO m listed=true) (hk:m≤k) (hs:k<listed.size):listed.getD k true=false:=by
 have:=List.all_eq_true.1 h k (List.mem_range.2 hs)
 simp only[Nat.blt,Bool.or_eq_true,Nat.ble_eq,Bool.not_eq_true'] at this
 rcases this with h1 | h1
 omega
 exact h1
theorem ae5 {m i:Nat} {listed:Array Bool} (h:BO m listed=true) (hi:i<m):BO m (listed.setIfInBounds i true)=true:=by
 refine List.all_eq_true.2 fun k hk=>?_
 rw[Array.size_setIfInBounds] at hk
 have hk:=List.mem_range.1 hk
 by_cases GY:k<m
 simp only[Nat.blt,Bool.or_eq_true,Nat.ble_eq];exact .inl GY
 have:i≠k:=by omega
 rw[getD_set_ne true this,VK h (by omega) hk]
 simp
theorem Xv {m i:Nat} {listed:Array Bool} (kO:Dg ops listed) (cV:listed.size=ops.size) (hh:BO m listed=true) (hi:listed.getD i true=false):∀ k,k≤ops.size→∀ j,j<k→listed.getD j false=true→(vx ops m i k).getD j false=true
 | 0,_,j,hj,_=>absurd hj (Nat.not_lt_zero j)
 | k+1,hk,j,hj,hl=>by
  have ih:=Xv kO cV hh hi k (by omega)
  rcases Nat.lt_or_ge j k with h | h
  have:=ih j h hl
  simp only[vx,List.getD_eq_getElem?_getD] at this ⊢
  rw[List.getElem?_append_left (by rw[zX];exact h)]
  exact this
  have e:j=k:=by omega
  subst e
  simp only[vx,List.getD_eq_getElem?_getD]
  rw[List.getElem?_append_right (by rw[zX];exact Nat.le_refl _),zX,Nat.sub_self]
  have O3:j<listed.size:=by omega
  have h1:Nat.blt j m=true:=by
   by_cases oA:j<m
   simp[Nat.blt];omega
   have:=VK hh (Nat.le_of_not_lt oA) O3
   simp[O3] at this hl;rw[hl] at this;cases this
  have h2:Nat.beq j i=false:=Bool.eq_false_iff.2 fun hb=>by
   have:=Nat.eq_of_beq_eq_true hb
   subst this
   simp[O3] at hi hl;rw[hl] at hi;cases hi
  have h3:ops[j]?=some (ops[j]'(by omega)):=Array.getElem?_eq_getElem _
  simp only[List.getElem?_cons_zero,Option.getD_some,h1,h2,h3,Bool.not_false,Bool.true_and]
  refine Array.all_eq_true'.2 fun e he=>?_
  cases hb:Region.binds .any e with
  | false=>simp
  | true =>
   by_cases OB:e.on<j
   have h4:=ih e.on OB (kO j _ h3 hl e he hb)
   have h5:(vx ops m i j).getD e.on true=true:=by
    rw[List.getD_eq_getElem?_getD] at h4 ⊢
    rw[List.getElem?_eq_getElem (by rw[zX];exact OB)] at h4 ⊢
    simpa using h4
   rw[List.getD_eq_getElem?_getD] at h5;rw[h5];simp
   have io:Nat.blt e.on j=false:=Bool.eq_false_iff.2 fun hx=>OB (by simpa [Nat.blt,Nat.lt_iff_add_one_le] using hx)
   rw[io];simp
theorem XQ {m i j:Nat} {listed:Array Bool} (cV:listed.size=ops.size) (kO:Dg ops listed) (hh:BO m listed=true) (hi:listed.getD i true=false) (hm:Region.ready .any ops (ER ops m i)=[i]) (hj:j∈Region.ready .any ops listed):j<m∨j=i:=by
 by_cases oA:j<m
 exact .inl oA
 right
 obtain⟨h0,o,ho,gx⟩:=mem_ready.1 hj
 have be:j<ops.size:=(Array.getElem?_eq_some_iff.1 ho).1
 have:j∈Region.ready .any ops (ER ops m i):=by
  refine mem_ready.2 ⟨?_,o,ho,fun e he hb=>?_⟩
  have hg:∀ k,j<k→(vx ops m i k).getD j true=false:=by
   intro k
   induction k with
   | zero=>intro h;omega
   | succ k ih =>
    intro h
    simp only[vx,List.getD_eq_getElem?_getD] at ih ⊢
    rcases Nat.lt_or_ge j k with h' | h'
    rw[List.getElem?_append_left (by rw[zX];exact h')];exact ih h'
    have e:j=k:=by omega
    subst e
    rw[List.getElem?_append_right (by rw[zX];exact Nat.le_refl _),zX,Nat.sub_self]
    have io:Nat.blt j m=false:=Bool.eq_false_iff.2 fun hx=>oA (by simpa [Nat.blt,Nat.lt_iff_add_one_le] using hx)
    simp[io]
  have:=hg ops.size be
  simpa [ER,List.getD_eq_getElem?_getD] using this
  have h1:=gx e he hb
  have h2:e.on<ops.size:=by
   rcases Nat.lt_or_ge e.on listed.size with h' | h'
   omega
   simp[Array.getElem?_eq_none h'] at h1
  have:=Xv kO cV hh hi ops.size (Nat.le_refl _) e.on h2 h1
  simpa [ER,List.getD_eq_getElem?_getD] using this
 rw[hm] at this
 simpa using this
theorem akK {m i:Nat} {oi:Oper} {v:Value} (gU:i<m) (hi:ops[i]?=some oi) (Wp:∀ (j:Nat) (o:Oper) cs b,ops[j]?=some o→o.op ≠ .select cs b)
  (hQ:∀ c a w,Q (.panic c) (a.put oi.dst v) w→Q (.panic c) a w) (hm:Region.ready .any ops (ER ops m i)=[i]) :
  ∀ (fuel:Nat) (listed:Array Bool) (a:Act) (w:World),listed.size=ops.size→Dg ops listed→BO m listed=true →
   (∀ j oj,ops[j]?=some oj→j≠i→listed.getD j true=false→(∀ e∈oj.after,Region.binds .any e=true→e.on≠i)→oi.apart ops oj=true) →
   i∈Region.ready .any ops listed→YieldsIf P ops S oi v a→S w →
   Fv P ops Q S m K fuel (listed.setIfInBounds i true) (a.put oi.dst v) w→Fv P ops Q S m K (fuel+1) listed a w:=by
 intro fuel
 induction fuel with
 | zero =>
  intro listed a w cV kO hh OH hr hy hS H
  have wA:=(mem_ready.1 hr).1
  refine⟨fun h=>(by rw[KF wA gU] at h;cases h),fun _=>⟨fun h=>(by rw[h] at hr;cases hr),fun j hj=>?_⟩⟩
  by_cases qy:j=i
  subst qy;exact⟨gU,hy.wpOp hi hS ⟨hS,H⟩⟩
  have oA:j<m:=(XQ cV kO hh wA hm hj).resolve_right qy
  have h1:=Xs H.1 oA
  have h2:=(mem_ready.1 hj).1
  have h3:(listed.setIfInBounds i true).getD j true=false:=by rw[getD_set_ne true (Ne.symm qy)];exact h2
  have:=KF h3 oA
  rw[H.1] at this;cases this
 | succ fuel ih =>
  intro listed a w cV kO hh OH hr hy hS H
  have wA:=(mem_ready.1 hr).1
  refine⟨fun h=>(by rw[KF wA gU] at h;cases h),fun _=>⟨fun h=>(by rw[h] at hr;cases hr),fun j hj=>?_⟩⟩
  by_cases qy:j=i
  subst qy;exact⟨gU,hy.wpOp hi hS ⟨hS,H⟩⟩
  have oA:j<m:=(XQ cV kO hh wA hm hj).resolve_right qy
  refine⟨oA,?_⟩
  have Ep:wI m (listed.setIfInBounds i true)=false:=KF (k:=j) (by rw[getD_set_ne true (Ne.symm qy)];exact (mem_ready.1 hj).1) oA
  have h1:=((H.2 Ep).2 j (ready_mono hj qy)).2
  obtain⟨VQ,oj,Pw,gx⟩:=mem_ready.1 hj
  have af0:∀ e∈oj.after,Region.binds .any e=true→e.on≠i:=fun e he hb dO=>by
   have h1:=gx e he hb
   rw[dO] at h1
   rcases Nat.lt_or_ge i listed.size with h' | h'
   simp[h'] at wA h1;rw[wA] at h1;cases h1
   simp[Array.getElem?_eq_none h'] at h1
  have h2:=wpOp_putIf Pw (OH j oj Pw qy VQ af0) (fun cs b=>Wp i oi cs b hi) (fun cs b=>Wp j oj cs b Pw) hQ hy h1
  have aeC:∀ k ok,ops[k]?=some ok→k≠i→(listed.setIfInBounds j true).getD k true=false →
    (∀ e∈ok.after,Region.binds .any e=true→e.on≠i)→oi.apart ops ok=true:=fun k ok hk Ej wA bW=>by
   refine OH k ok hk Ej ?_ bW
   by_cases zE:j=k
   subst zE;exact VQ
   rw[getD_set_ne true zE] at wA;exact wA
  refine wpOp_mono (fun a' w' h3=>⟨h3.2.1,ih (listed.setIfInBounds j true) a' w' (by simp[cV]) (abP kO hj) (ae5 hh oA) aeC (ready_mono hr (Ne.symm qy)) h3.1 h3.2.1 ?_⟩) h2
  rw[Array.setIfInBounds_comm _ _ qy]
  exact h3.2.2
def xq (ops:Array Oper) (m:Nat) (F:Array Bool):List (Bool × Nat)→Array Bool→Bool
 | [],listed=>wI m listed && listed==F
 | (true,i)::r,listed=>Nat.blt i m && Region.free .any ops listed i && (Region.ready .any ops listed).contains i && Region.ready .any ops (ER ops m i)==[i] && Tz ops listed && BO m listed && Nat.beq listed.size ops.size && xq ops m F r (listed.setIfInBounds i true)
 | (false,i)::r,listed=>Nat.blt i m && Region.ready .any ops listed==[i] && !wI m listed && xq ops m F r (listed.setIfInBounds i true)
theorem Mq (hs:Region.noSelect ops=true) (m:Nat) (F:Array Bool) (K:Act→World→Prop) (Q1:Exit→Act→World→Prop) (hK:∀ a w,Q1 .normal a w→K a w):∀ (l:List (Bool × Nat)) (listed:Array Bool) (a:Act) (w:World),(∀ x∈l,x.2<ops.size)→xq ops m F l listed=true→S w →
  RA P ops Q1 S (l.map fun x=>(x.1,ops.getD x.2 default)) a w→Fv P ops (n4 Q) S m (fun z a w=>z=F∧K a w) l.length listed a w
 | [],listed,a,w,_,hc,_,h=>by
  simp only[xq,Bool.and_eq_true,beq_iff_eq] at hc
  exact⟨hc.1,hc.2,hK _ _ h⟩
 | (true,i)::r,listed,a,w,hl,hc,hS,h=>by
  simp only[xq,Bool.and_eq_true,beq_iff_eq] at hc
  obtain⟨⟨⟨⟨⟨⟨⟨h1,h2⟩,h3⟩,h4⟩,h4c⟩,h5⟩,h6⟩,h7⟩:=hc
  obtain⟨v,hy,h'⟩:=h
  have hi:i<ops.size:=hl (true,i) (by simp)
  have ho:ops[i]?=some (ops.getD i default):=by simp[hi]
  have be:i<m:=by simpa [Nat.blt,Nat.lt_iff_add_one_le] using h1
  exact akK be ho (Region.noSelect_spec hs) (fun _ _ _ hh=>hh) h4 _ _ _ _ (Nat.eq_of_beq_eq_true h6) (abO h4c) h5 (Region.free_spec ho h2) (by simpa using h3) hy hS (Mq hs m F K Q1 hK r _ _ _ (fun x hx=>hl x (by simp[hx])) h7 hS h')
 | (false,i)::r,listed,a,w,hl,hc,hS,h=>by
  simp only[xq,Bool.and_eq_true,beq_iff_eq,Bool.not_eq_true'] at hc
  obtain⟨⟨⟨h1,h2⟩,h3⟩,h4⟩:=hc
  have hi:i<ops.size:=hl (false,i) (by simp)
  have ho:ops[i]?=some (ops.getD i default):=by simp[hi]
  have be:i<m:=by simpa [Nat.blt,Nat.lt_iff_add_one_le] using h1
  refine⟨fun hx=>(by rw[h3] at hx;cases hx),fun _=>⟨by rw[h2];simp,fun j hj=>?_⟩⟩
  rw[h2,List.mem_singleton] at hj
  subst hj
  refine⟨be,?_⟩
  have ih:∀ a' w',S w'∧RA P ops Q1 S (r.map fun x=>(x.1,ops.getD x.2 default)) a' w'→S w'∧Fv P ops (n4 Q) S m (fun z a w=>z=F∧K a w) r.length (listed.setIfInBounds j true) a' w' :=
   fun a' w' ⟨oq,h'⟩=>⟨oq,Mq hs m F K Q1 hK r _ a' w' (fun x hx=>hl x (by simp[hx])) h4 oq h'⟩
  simp only[List.map_cons,RA] at h
  generalize ops.getD j default=oj at *
  unfold wpOp
  simp only[ho]
  by_cases hw:Region.wanted oj (yielded ops a.tmps)=true
  rw[if_pos hw] at h ⊢
  exact .inl (Oper.wp_mono ih (LO h))
  rw[if_neg hw] at h ⊢
  exact ih _ _ ⟨hS,h⟩
theorem SV {m f2:Nat} (hK:∀ listed a w,K listed a w→wpAnyH P .any ops Q (fun _=>True) f2 listed a w):∀ (fuel:Nat) (listed:Array Bool) (a:Act) (w:World),Fv P ops Q S m K fuel listed a w→wpAnyH P .any ops Q (fun _=>True) (f2+fuel) listed a w
 | 0,listed,a,w,h=>hK _ _ _ h.2
 | fuel+1,listed,a,w,h=>by
  cases hl:wI m listed with
  | true=>exact I6 (by omega) (hK _ _ _ (h.1 hl))
  | false =>
   obtain⟨h1,h2⟩:=h.2 hl
   refine⟨fun h0=>absurd h0 h1,fun i hi=>?_⟩
   exact wpOp_mono (fun a' w' h3=>⟨trivial,SV hK fuel _ a' w' h3.2⟩) (h2 i hi).2
theorem akN {id:Nat} {a:Act} {w:World} (l1 l2:List (Bool × Nat)) (m:Nat) (F:Array Bool) (hm:P.follows .mixedOrders=true) (hs:Region.noSelect ops=true) (bV:Nat.beq (l2.length+l1.length) ops.size=true)
  (hl:((l1++l2).all fun x=>Nat.blt x.2 ops.size)=true) (fJ:xq ops m F l1 (Array.replicate ops.size false)=true) (gA:lQ ops l2 F=true) (hS:S w.drew)
  (h:RA P ops (fun _ a w=>RA P ops Q (fun _=>True) (l2.map fun x=>(x.1,ops.getD x.2 default)) a w) S (l1.map fun x=>(x.1,ops.getD x.2 default)) a w.drew):(Code.region id ops true).wp P Q a w:=by
 refine Code.wp_mono KR (wp_region_held (S:=fun _=>True) hm ?_)
 rw[←Nat.eq_of_beq_eq_true bV]
 rw[←Nat.eq_of_beq_eq_true bV] at fJ
 have cq:∀ x∈l1++l2,x.2<ops.size:=fun x hx=>by
  have:=List.all_eq_true.1 hl x hx
  simpa [Nat.blt,Nat.lt_iff_add_one_le] using this
 refine SV (K:=fun z a w=>z=F∧RA P ops Q (fun _=>True) (l2.map fun x=>(x.1,ops.getD x.2 default)) a w) (fun z a w hz=>?_) _ _ _ _ (Mq hs m F _ _ (fun _ _ hh=>hh) l1 _ a _ (fun x hx=>cq x (by simp[hx])) fJ hS h)
 obtain⟨rfl,hz⟩:=hz
 exact FJ hs l2 _ a _ (fun x hx=>cq x (by simp[hx])) gA trivial hz
end
section
variable {P:Program} {n:Nat} {Q:Exit→Act→World→Prop} {E:dE} {w:World}
theorem CW.TV {id:Nat} {l:List Oper} (l1 l2:List (Bool × Nat)) (m:Nat) (F:Array Bool) (S:World→Prop) (hm:P.follows .mixedOrders=true) (hs:Region.noSelect l.toArray=true) (bV:Nat.beq (l2.length+l1.length) l.toArray.size=true)
  (hl:((l1++l2).all fun x=>Nat.blt x.2 l.toArray.size)=true) (fJ:xq l.toArray m F l1 (Array.replicate l.toArray.size false)=true) (gA:lQ l.toArray l2 F=true) (hS:S w.drew)
  (h:RL P n l.toArray (fun _ a w=>RA P l.toArray Q (fun _=>True) (l2.map fun x=>(x.1,l.toArray.getD x.2 default)) a w) S (l1.map fun x=>(x.1,l.toArray.getD x.2 default)) E w.drew):CW P n (.region id l.toArray true) Q E w :=
 fun a ha=>akN l1 l2 m F hm hs bV hl fJ gA hS (h hS a ha)
theorem RL.next {ops:Array Oper} {S2:World→Prop} {l2:List (Bool × Oper)} (hS:S2 w) (h:RL P n ops Q S2 l2 E w):∀ a,At n E a→RA P ops Q S2 l2 a w:=fun a ha=>h hS a ha
end
end Go.Lw
namespace Go.Lw
open Go.RowKit
section
variable {α:Type} {R:aj→List Value→α→Prop} {sz c:Nat} {el:TypeId} {r r' s s' A A':aj} {a:Option Addr} {xs ys:List α}
def ee (R:aj→List Value→α→Prop) (sz:Nat) (r s:aj) (a:Option Addr) (c:Nat) (xs:List α):Prop:=xs.length≤c∧c≤maxLen∧(xs=[]∨∃ ad,a=some ad∧kI R sz r s ad xs)
theorem bm.eU (h:bm R sz s a c xs):ee R sz s s a c xs:=h
theorem aW.eU (h:aW R sz el s A a c xs):ee R sz A s a c xs:=by
 have hr:=h.row
 rcases h with ⟨rfl,rfl,rfl⟩ | ⟨g,cs,rfl,hg,hl,hc,dr,cD⟩
 exact⟨Nat.le_refl _,Nat.zero_le _,.inl rfl⟩
 exact⟨hl,hc,hr⟩
theorem ee.up (hR:Up R) (h:ee R sz r s a c xs) (hl:Le s s'):ee R sz r s' a c xs:=⟨h.1,h.2.1,h.2.2.imp id fun ⟨ad,e,hr⟩=>⟨ad,e,hr.le hR hl⟩⟩
theorem ee.mem (h:ee R sz r s a c xs) (hl:Le r r'):ee R sz r' s a c xs:=⟨h.1,h.2.1,h.2.2.imp id fun ⟨ad,e,hr⟩=>⟨ad,e,hr.mem hl⟩⟩
theorem ee.gL (h:ee R sz r s a c xs):xs.length≤maxLen:=Nat.le_trans h.1 h.2.1
theorem ee.nil (r s:aj) (a:Option Addr) (c:Nat) (hc:c≤maxLen):ee R sz r s a c []:=⟨Nat.zero_le _,hc,.inl rfl⟩
theorem ee.part {l h:Nat} (hI:ee R sz r s a c xs) (hl:l≤h) (hh:h≤xs.length) :
  ee R sz r s (if c=l then a else a.map (·.add (l*sz))) (c-l) ((xs.take h).drop l)∧((xs.take h).drop l).length=h-l:=by
 have bV:((xs.take h).drop l).length=h-l:=by simp;omega
 refine⟨⟨by rw[bV];have:=hI.1;omega,by have:=hI.2.1;omega,?_⟩,bV⟩
 by_cases he:h-l=0
 exact .inl (List.eq_nil_of_length_eq_zero (by rw[bV];exact he))
 refine .inr ?_
 have hc:=hI.1
 rcases hI.2.2 with rfl | ⟨ad,rfl,hr⟩
 simp at hh;omega
 have bH:¬ c=l:=by omega
 have e1:xs=(xs.take h).take l++((xs.take h).drop l++xs.drop h):=by rw[←List.append_assoc,List.take_append_drop,List.take_append_drop]
 rw[e1] at hr
 have ph:=hr.drop
 have e2:((xs.take h).take l).length=l:=by simp;omega
 rw[e2] at ph
 exact⟨ad.add (l*sz),by simp[bH],ph.take⟩
def Dj (a b:Option Addr):Prop:=∀ x y,a=some x→b=some y→x.block≠y.block
theorem Dj.symm {a b:Option Addr} (h:Dj a b):Dj b a:=fun x y hx hy=>(h y x hy hx).symm
theorem Dj.XR (b:Option Addr):Dj none b:=fun _ _ h=>nomatch h
theorem Dj.CN (a:Option Addr):Dj a none:=fun _ _ _ h=>nomatch h
theorem aW.dj {β:Type} {R':aj→List Value→β→Prop} {sz' c':Nat} {el':TypeId} {s2:aj} {b:Option Addr} {zs:List β} (h:aW R sz el s A a c xs) (h':aW R' sz' el' s2 A b c' zs) (bH:el≠el'):Dj a b:=by
 rintro x y rfl rfl e
 rcases h with ⟨h,_⟩ | ⟨g,cs,hx,hg,_⟩
 cases h
 rcases h' with ⟨h',_⟩ | ⟨g',cs',hy,fh,_⟩
 cases h'
 cases hx;cases hy
 simp only at e
 subst e
 rw[hg] at fh
 injection fh with fh
 injection fh with _ h2
 exact bH h2
theorem aW.cR {b:Option Addr} (h:aW R sz el s A a c xs) (hd:Dj b a) (hk:∀ k,A k≠none→(∀ ad,b=some ad→ad.block≠k)→A' k=A k):aW R sz el s A' a c xs:=by
 rcases h with h | ⟨g,cs,rfl,hg,h⟩
 exact .inl h
 exact .inr ⟨g,cs,rfl,by rw[hk g (by rw[hg];simp) (fun ad he=>hd _ _ he rfl)];exact hg,h⟩
theorem aW.Mp (h:aW R sz el s A a c xs) {ad:Addr} (ha:a=some ad):A ad.block≠none:=by
 rcases h with ⟨h,_⟩ | ⟨g,cs,hx,hg,_⟩
 rw[h] at ha;cases ha
 rw[hx] at ha;cases ha;simp[hg]
end
section
variable {P:Program} {n:Nat} {ops:Array Oper} {Q:Exit→Act→World→Prop} {S:World→Prop} {au:List (Bool × Oper)} {E:dE} {w:World} {o:Oper} {d:Nat} {v:Value}
variable {s A r:aj} {os:List aj} {x y:Operand} {T:Bool}
theorem RL.dX {α:Type} {R:aj→List Value→α→Prop} {t e:TypeId} {sz by_ c:Nat} {k:IntKind} {a:Option Addr} {xs:List α} {i:Int} (hg:bR ops E o=some true) (hd:o.dst=some d) (hb:Nat.blt d n=true)
  (ho:o.op = .indexAddr t x y) (ht:eJ P t=some (e,sz,by_)) (hx:ev E x=some (.slice a xs.length c)) (hy:ev E y=some (.int k i)) (hI:ee R sz r s a c xs) (h0:0≤i) (h1:i<xs.length)
  (h:∀ q vs,vs.length=sz→Holds r q vs→R s vs (xs[i.toNat]'(by omega))→RL P n ops Q S au ((d,.pointer (some (q.add 0)))::E) w):RL P n ops Q S ((T,o)::au) E w:=by
 have be:i.toNat<xs.length:=by omega
 rcases hI.2.2 with rfl | ⟨ad,rfl,hr⟩
 simp at be
 obtain⟨vs,hl,hh,hR⟩:=hr.get (List.getElem?_eq_getElem be)
 have e0:(ad.add (i.toNat*sz)).add 0=ad.add (i.toNat*sz):=by unfold Addr.add;simp
 have:=h _ vs hl hh hR
 rw[e0] at this
 refine RL.ij hg hd hb (fun w ac ha=>?_) this
 unfold execOp
 simp only[ho,ha.ev hx,ha.ev hy]
 simp[La ht h0 h1]
theorem RL.yx {α:Type} {R:aj→List Value→α→Prop} {t e:TypeId} {sz by_ c:Nat} {a:Option Addr} {xs:List α} {lo hi:Option Operand} (l h:Int) (hg:bR ops E o=some true) (hd:o.dst=some d) (hb:Nat.blt d n=true)
  (ho:o.op = .slice t x lo hi none) (ht:eJ P t=some (e,sz,by_)) (hx:ev E x=some (.slice a xs.length c))
  (u_:(lo=none∧l=0)∨∃ k z,lo=some z∧ev E z=some (.int k l)) (zC:(hi=none∧h=xs.length)∨∃ k z,hi=some z∧ev E z=some (.int k h))
  (hI:ee R sz r s a c xs) (h0:0≤l) (h1:l≤h) (h2:h≤xs.length)
  (hK:∀ a' c',ee R sz r s a' c' ((xs.take h.toNat).drop l.toNat)→RL P n ops Q S au ((d,.slice a' ((xs.take h.toNat).drop l.toNat).length c')::E) w):RL P n ops Q S ((T,o)::au) E w:=by
 obtain⟨F_,bV⟩:=hI.part (l:=l.toNat) (h:=h.toNat) (by omega) (by omega)
 refine RL.ij hg hd hb (fun w ac ha=>?_) (hK _ _ F_)
 obtain⟨hu,inf,oz,rfl,_⟩:=pE ht
 have cV:∀ w:World,(sizeOf e).run P w = .ok inf.size w:=fun w=>by simp[sizeOf,typeInfo,oz]
 have Oh:=hI.1
 have hZ:∀ k (y:Nat) code,l≤y→(Instr.sliceBound (.int k l) y code).run P w = .ok l.toNat w:=fun k y code hy=>run_sliceBound w k l y code h0 hy
 have zA:∀ k (y:Nat) code,h≤y→(Instr.sliceBound (.int k h) y code).run P w = .ok h.toNat w:=fun k y code hy=>run_sliceBound w k h y code (by omega) hy
 rw[bV]
 unfold execOp
 simp only[ho,ha.ev hx]
 rcases u_ with ⟨rfl,rfl⟩ | ⟨kl,zl,rfl,gW⟩<;>rcases zC with ⟨rfl,rfl⟩ | ⟨kh,zh,rfl,HR⟩
 simp[Instr.sliceAt,Instr.slice,Instr.sliceBounds,run_underlying hu,cV]
 simp[Instr.sliceAt,Instr.slice,Instr.sliceBounds,run_underlying hu,cV,ha.ev HR,zA kh c .sliceAcap (by omega)]
 simp[Instr.sliceAt,Instr.slice,Instr.sliceBounds,run_underlying hu,cV,ha.ev gW,hZ kl xs.length .sliceB (by omega)]
 simp[Instr.sliceAt,Instr.slice,Instr.sliceBounds,run_underlying hu,cV,ha.ev gW,ha.ev HR,zA kh c .sliceAcap (by omega),hZ kl h.toNat .sliceB (by omega)]
theorem cU.eU {α:Type} {R:aj→List Value→α→Prop} {t e:TypeId} {sz by_:Nat} {a:Option Addr} {c:Nat} {ys:List α} (ht:eJ P t=some (e,sz,by_)) (h:ee R sz r s a c ys) (cq:In r w) :
  ∃ bB,cU P w t sz (.slice a ys.length c) ys.length bB∧cF R sz s bB ys:=cU.row ht h.2.2 cq
theorem abb {α:Type} {R:aj→List Value→α→Prop} {t t2 ty e:TypeId} {sz by_ c:Nat} {x:Value} {bB z:List Value} {a:Option Addr} {xs ys:List α}
  (hg:ak w s (A::os)) (hs:eJ P t=some (e,sz,by_)) (hz:eY P e=some z) (gW:z.length=sz) (ky:lN R)
  (lD:aW R sz e s A a c xs) (fe:cU P w t2 sz x ys.length bB) (cD:cF R sz s bB ys) (o4:(xs.length+ys.length)*by_≤140737488355328) (ni:xs.length+ys.length≤maxLen) :
  ∃ a' c' A' w',(Builtin.append_ #[t,t2] ty #[.slice a xs.length c,x]).run P w = .ok (.slice a' (xs++ys).length c') w'∧ak w' s (A'::os)∧aW R sz e s A' a' c' (xs++ys)∧ar w w' ∧
   (∀ b,A b≠none→(∀ ad,a=some ad→ad.block≠b)→A' b=A b)∧(∀ ad,a'=some ad→a=some ad∨A ad.block=none):=by
 have qY:xs.length+ys.length≤9223372036854775807:=by simp only[maxLen] at ni;omega
 -- a new block
 have moved:∀ jx,(∀ w':World,w'.heap=w.heap→(Builtin.firstCells sz xs.length (.slice a xs.length c)).run P w' = .ok jx.toArray w')→cF R sz s jx xs→c<xs.length+ys.length →
   ∃ a' c' A' w',(Builtin.append_ #[t,t2] ty #[.slice a xs.length c,x]).run P w = .ok (.slice a' (xs++ys).length c') w'∧ak w' s (A'::os)∧aW R sz e s A' a' c' (xs++ys)∧ar w w' ∧
    (∀ b,A b≠none→(∀ ad,a=some ad→ad.block≠b)→A' b=A b)∧(∀ ad,a'=some ad→a=some ad∨A ad.block=none):=by
  intro jx hold kP iF
  have fo:=Rm (ty:=ty) hs hz fe hold iF qY o4
  have Eb:=grownCap_ge w (xs.length+ys.length) c e
  have ox:grownCap w (xs.length+ys.length) c e≤maxLen:=grownCap_le_maxLen w _ c e ni
  have fh:=(hg.drew.alloc (.cells (jx.toArray++bB.toArray++Builtin.zeroCells z.toArray (grownCap w (xs.length+ys.length) c e-(xs.length+ys.length))) e)).eN
  have wy:A w.heap.size=none:=by
   cases hA:A w.heap.size with
   | none=>rfl
   | some o=>exact absurd (hg.1.lt (by rw[hA];simp)) (Nat.lt_irrefl _)
  refine⟨_,_,_,_,by rw[List.length_append];exact fo,fh,.inr ⟨w.heap.size,_,rfl,QV _ _ _,by rw[List.length_append];exact Eb,ox,?_,?_⟩,(ar.drew w).trans (ar.alloc _ _),fun b hb _=>?_,fun ad he=>by cases he;exact .inr wy⟩
  have h1:=kP.length
  have h2:=cD.length
  simp only[Array.size_append,List.size_toArray,size_zeroCells,gW,h1,h2,← Nat.add_mul]
  congr 1
  omega
  have h1:=kP.length
  have h2:=cD.length
  have e1:(jx.toArray++bB.toArray++Builtin.zeroCells z.toArray (grownCap w (xs.length+ys.length) c e-(xs.length+ys.length))).toList.take ((xs++ys).length*sz)=jx++bB:=by
   simp only[Array.toList_append,List.length_append,Nat.add_mul,← h1,← h2]
   rw[←List.length_append]
   exact List.take_left
  rw[e1]
  exact kP.append cD
  have Gz:b≠w.heap.size:=fun h=>by subst h;exact hb wy
  simp[aj.eN,aj.one,Gz]
 rcases lD with ⟨rfl,rfl,rfl⟩ | ⟨g,cs,rfl,uG,El,ox,dr,kP⟩
 by_cases hm:ys.length=0
 have hy:ys=[]:=List.eq_nil_of_length_eq_zero hm
 subst hy
 have hn:bB=[]:=cD
 subst hn
 exact⟨none,0,A,w,Fa (a:=none) hs fe (by simp) (fun _=>rfl),hg,.inl ⟨rfl,rfl,rfl⟩,ar.refl w,(fun _ _ _=>rfl),fun _ he=>nomatch he⟩
 exact moved [] (fun w' _=>by simp[Builtin.firstCells]) rfl (by simp;omega)
 have a_:Holds A ⟨g,0,none⟩ (cs.toList.take (xs.length*sz)):=⟨cs,e,(0,0),uG,rfl,fun j u hu=>by
  rw[List.getElem?_take] at hu
  split at hu
  simpa using hu
  cases hu⟩
 by_cases iF:xs.length+ys.length≤c
 have wD:=hg.1 g _ uG
 have h1:=kP.length
 have h2:=cD.length
 have Bu:(⟨g,0,none⟩:Addr).add (xs.length*sz)=⟨g,xs.length*sz,none⟩:=by unfold Addr.add;split<;>simp_all
 have j5:xs.length*sz+bB.length≤cs.size:=by rw[h2,dr,← Nat.add_mul];exact Nat.mul_le_mul_right _ iF
 have cc:=run_storeCells_at P g (xs.length*sz) e bB 0 cs w wD (by simpa using j5) (cD.one ky)
 simp only[Nat.add_zero] at cc
 have fo:=Fa (ty:=ty) (a:=some ⟨g,0,none⟩) hs fe iF (by simp)
 simp only[Bu,cc,Result.andThen_ok] at fo
 let new:=(cs.toList.take (xs.length*sz)++bB++cs.toList.drop (xs.length*sz+bB.length)).toArray
 have zO:=hg.Al (w':=w.setRow g new) uG (setRow_heap w g cs new e (0,0) wD) (fun k _ hk=>setRow_other w g k new hk)
 refine⟨_,_,_,_,by rw[List.length_append];exact fo,zO,.inr ⟨g,_,rfl,dq _ _ _,by rw[List.length_append];exact iF,ox,?_,?_⟩,⟨rfl,rfl,rfl,by simp⟩,fun b _ hb=>?_,fun ad he=> .inl he⟩
 rw[←dr]
 simp only[new,List.size_toArray,List.length_append,List.length_take,List.length_drop,Array.length_toList]
 omega
 have e1:((cs.toList.take (xs.length*sz)++bB++cs.toList.drop (xs.length*sz+bB.length)).toArray).toList.take ((xs++ys).length*sz)=cs.toList.take (xs.length*sz)++bB:=by
  rw[List.length_append,Nat.add_mul,← h2]
  conv=>lhs;arg 1;rw[←h1]
  rw[←List.length_append]
  exact List.take_left
 rw[e1]
 exact kP.append cD
 have:b≠g:=fun h=>hb ⟨g,0,none⟩ rfl h.symm
 simp[aj.put,this]
 exact moved _ (fun w' hw=>run_firstCells_some w' sz xs.length ⟨g,0,none⟩ xs.length c _ kP.length (fun j v hj=>by
  have:=a_.cell hg.1 hj
  simpa [World.cell?,hw] using this)) kP (by omega)
theorem RL.gQ {α:Type} {R:aj→List Value→α→Prop} {t t2 e:TypeId} {sz by_ c:Nat} {i:Nat} {src:Value} {bB z:List Value} {a:Option Addr} {xs ys:List α} (hg:bR ops E o=some true) (hd:o.dst=some d) (hb:Nat.blt d n=true)
  (ho:o.op = .call { callee:= .builtin .append,args:= #[x,y],argTypes:= #[t,t2] }) (ht:eJ P t=some (e,sz,by_)) (hz:eY P e=some z) (gW:z.length=sz) (ky:lN R)
  (hx:ev E x=some (.slice a xs.length c)) (hy:ev E y=some src) (hG:ak w s os) (hi:os[i]?=some A) (lD:aW R sz e s A a c xs) (fe:cU P w t2 sz src ys.length bB) (cD:cF R sz s bB ys)
  (o4:(xs.length+ys.length)*by_≤140737488355328) (r7:0<by_)
  (h:∀ a' c' A' w',ak w' s (os.set i A')→aW R sz e s A' a' c' (xs++ys)→ar w w'→(∀ b,A b≠none→(∀ ad,a=some ad→ad.block≠b)→A' b=A b)→(∀ ad,a'=some ad→a=some ad∨A ad.block=none)→S w'∧RL P n ops Q S au ((d,.slice a' (xs++ys).length c')::E) w'):RL P n ops Q S ((false,o)::au) E w:=by
 have ni:xs.length+ys.length≤maxLen:=by
  have:(xs.length+ys.length)*1≤(xs.length+ys.length)*by_:=Nat.mul_le_mul_left _ r7
  simp only[maxLen];omega
 obtain⟨a',c',A',w',fo,Br,Ge,oV,hk,Hj⟩:=abb (ty:=o.type) (hG.ae i hi) ht hz gW ky lD fe cD o4 ni
 obtain⟨h1,h2⟩:=h a' c' A' w' (ak.xo i hi Br) Ge oV hk Hj
 refine RL.step hg hd hb (fun ac ha=>?_) h1 h2
 unfold execOp
 simp only[ho]
 simp only[resolve,invoke,builtin,Sem.run_bind,Sem.run_pure,Result.andThen_ok,List.map_toArray,List.map_cons,List.map_nil,ha.ev hx,ha.ev hy,fo]
end
end Go.Lw
namespace Go.Lw
def ay (b:Nat) (x:Obj) (w:World):Prop:=w.heap[b]?=some x
theorem ay.HU {b:Nat} {x:Obj} {w:World} (h:ay b x w):In (aj.one b x) w:=fun k y hk=>by
 simp only[aj.one] at hk
 split at hk
 rename_i e;cases hk;rw[e];exact h
 cases hk
theorem ay.holds {b:Nat} {cs:Array Value} {el:TypeId} {fr:Nat × Nat}:Holds (aj.one b (.cells cs el fr)) ⟨b,0,none⟩ cs.toList:=Holds.of (if_pos rfl)
theorem ak.bS {w:World} {s r:aj} {os:List aj} {b:Nat} {x:Obj} (hg:ak w s os) (hr:r∈os) (h:r b=some x):ay b x w:=hg.mem hr b x h
section
variable {P:Program} {n:Nat} {ops:Array Oper} {Q:Exit→Act→World→Prop} {S:World→Prop} {au:List (Bool × Oper)} {E:dE} {w:World} {o:Oper} {d:Nat} {v:Value}
variable {s A:aj} {os:List aj} {x y:Operand} {T:Bool}
theorem RL.abs {t:TypeId} (hg:bR ops E o=some true) (hd:o.dst=some d) (hb:Nat.blt d n=true) (ho:o.op = .box t x) (hx:ev E x=some v) (hG:ak w s os)
  (h:∀ b w' B,ak w' s (B::os)→ar w w'→B b=some (.cells v.cells t (0,0))→S w'∧RL P n ops Q S au ((d,.pointer (some ⟨b,0,none⟩))::E) w'):RL P n ops Q S ((false,o)::au) E w :=
 RL.box hg hd hb ho hx hG fun b w' h1 h2=>h b w' _ h1 h2 (if_pos rfl)
theorem RL.ST {t:TypeId} {z:List Value} (hg:bR ops E o=some true) (hd:o.dst=some d) (hb:Nat.blt d n=true) (ho:o.op = .alloc t) (hz:eY P t=some z) (hG:ak w s os)
  (h:∀ b w' B,ak w' s (B::os)→ar w w'→B b=some (.cells z.toArray t (0,0))→S w'∧RL P n ops Q S au ((d,.pointer (some ⟨b,0,none⟩))::E) w'):RL P n ops Q S ((false,o)::au) E w :=
 RL.alloc hg hd hb ho hz hG fun b w' h1 h2=>h b w' _ h1 h2 (if_pos rfl)
theorem RL.abu {t e:TypeId} {sz by_ len:Nat} {ps:Array (Nat × Operand)} {l:List (Nat × Value)} {z cs:List Value} (hg:bR ops E o=some true) (hd:o.dst=some d) (hb:Nat.blt d n=true)
  (ho:o.op = .buildSlice t len ps) (ht:eJ P t=some (e,sz,by_)) (hz:eY P e=some z) (gW:z.length=sz) (bV:Nat.ble (len*sz) 16777216=true) (yh:parts E ps.toList=some l)
  (BD:xw (fun i=>some (i*sz,sz)) (pG len z) l=some cs) (hG:ak w s os)
  (h:∀ b w' B,ak w' s (B::os)→ar w w'→B b=some (.cells cs.toArray e (0,0))→S w'∧RL P n ops Q S au ((d,.slice (some ⟨b,0,none⟩) len len)::E) w'):RL P n ops Q S ((false,o)::au) E w :=
 RL.buildSlice hg hd hb ho ht hz gW bV yh BD hG fun b w' h1 h2=>h b w' _ h1 h2 (if_pos rfl)
theorem RL.Fm {t:TypeId} {b k j:Nat} {i:Nat} {ag:Bool} {cs:Array Value} {el:TypeId} {u:Value} {ds:List Value} (hg:bR ops E o=some true) (hd:o.dst=none) (ho:o.op = .store t x y) (ht:dD P t=some (ag,k))
  (hx:ev E x=some (.pointer (some ((⟨b,0,none⟩:Addr).add j)))) (hy:ev E y=some u) (hG:ak w s os) (hi:os[i]?=some A) (hA:A b=some (.cells cs el (0,0))) (hk:u.cells.size=k) (h1:∀ z∈u.cells.toList,z.oneCell'=true) (hj:j+k≤cs.size)
  (he:cs.toList.take j++u.cells.toList++cs.toList.drop (j+k)=ds)
  (h:∀ w' A',ak w' s (os.set i A')→ar w w'→A' b=some (.cells ds.toArray el (0,0))→S w'∧RL P n ops Q S au E w'):RL P n ops Q S ((false,o)::au) E w :=
 RL.store hg hd ho ht hx hy hG hi hA hk h1 hj fun w' h2 h3=>by
  rw[he] at h2
  exact h w' _ h2 h3 (dq _ _ _)
theorem pz {t e:TypeId} {sz by_ b len:Nat} {cs:List Value} {B:aj} (ht:eJ P t=some (e,sz,by_)) (hl:cs.length=len*sz) (hB:B b=some (.cells cs.toArray e (0,0))) (cq:In B w):cU P w t sz (.slice (some ⟨b,0,none⟩) len len) len cs :=
 cU.slice ht hl (.inr ⟨_,rfl,Holds.of hB⟩) cq
end
end Go.Lw
namespace Go.Lw
open Go.Proofs
attribute [local irreducible] RL RA
structure Ste (k:Nat) (X:Prop):Prop where
 out:X
theorem ZK {α:Type} {a:α} {l:List α}:a∈a::l:=List.mem_cons_self
theorem ZL {α:Type} {a x0:α} {l:List α}:a∈x0::a::l:=List.mem_cons_of_mem _ ZK
theorem ZQ {α:Type} {a x0 x1:α} {l:List α}:a∈x0::x1::a::l:=List.mem_cons_of_mem _ ZL
theorem ZR {α:Type} {a x0 x1 x2:α} {l:List α}:a∈x0::x1::x2::a::l:=List.mem_cons_of_mem _ ZQ
theorem ZS {α:Type} {a x0 x1 x2 x3:α} {l:List α}:a∈x0::x1::x2::x3::a::l:=List.mem_cons_of_mem _ ZR
theorem ZT {α:Type} {a x0 x1 x2 x3 x4:α} {l:List α}:a∈x0::x1::x2::x3::x4::a::l:=List.mem_cons_of_mem _ ZS
theorem ZU {α:Type} {a x0 x1 x2 x3 x4 x5:α} {l:List α}:a∈x0::x1::x2::x3::x4::x5::a::l:=List.mem_cons_of_mem _ ZT
theorem ZV {α:Type} {a x0 x1 x2 x3 x4 x5 x6:α} {l:List α}:a∈x0::x1::x2::x3::x4::x5::x6::a::l:=List.mem_cons_of_mem _ ZU
theorem ZW {α:Type} {a x0 x1 x2 x3 x4 x5 x6 x7:α} {l:List α}:a∈x0::x1::x2::x3::x4::x5::x6::x7::a::l:=List.mem_cons_of_mem _ ZV
theorem ZX {α:Type} {a x0 x1 x2 x3 x4 x5 x6 x7 x8:α} {l:List α}:a∈x0::x1::x2::x3::x4::x5::x6::x7::x8::a::l:=List.mem_cons_of_mem _ ZW
theorem ZM {α:Type} {a x0 x1 x2 x3 x4 x5 x6 x7 x8 x9:α} {l:List α}:a∈x0::x1::x2::x3::x4::x5::x6::x7::x8::x9::a::l:=List.mem_cons_of_mem _ ZX
theorem ZN {α:Type} {a x0 x1 x2 x3 x4 x5 x6 x7 x8 x9 x10:α} {l:List α}:a∈x0::x1::x2::x3::x4::x5::x6::x7::x8::x9::x10::a::l:=List.mem_cons_of_mem _ ZM
theorem ZO {α:Type} {a x0 x1 x2 x3 x4 x5 x6 x7 x8 x9 x10 x11:α} {l:List α}:a∈x0::x1::x2::x3::x4::x5::x6::x7::x8::x9::x10::x11::a::l:=List.mem_cons_of_mem _ ZN
theorem ZP {α:Type} {a x0 x1 x2 x3 x4 x5 x6 x7 x8 x9 x10 x11 x12:α} {l:List α}:a∈x0::x1::x2::x3::x4::x5::x6::x7::x8::x9::x10::x11::x12::a::l:=List.mem_cons_of_mem _ ZO
theorem akY {α:Type} {a x0 x1 x2 x3 x4 x5 x6 x7 x8 x9 x10 x11 x12 x13:α} {l:List α}:a∈x0::x1::x2::x3::x4::x5::x6::x7::x8::x9::x10::x11::x12::x13::a::l:=List.mem_cons_of_mem _ ZP
theorem zm {α:Type} {a:α} {l:List α} (h:a∈l:=by first | exact ZK | exact ZL | exact ZQ | exact ZR | exact ZS | exact ZT | exact ZU | exact ZV | exact ZW | exact ZX | exact ZM | exact ZN | exact ZO | exact ZP | exact akY):a∈l:=h
theorem I5 {b i j:Nat}:(⟨b,i,none⟩:Addr).add j=⟨b,i+j,none⟩:=by
 unfold Addr.add
 split<;>simp_all
theorem FG {b j:Nat}:(⟨b,j,none⟩:Addr)=⟨b,j,none⟩:=rfl
theorem Ds {b j:Nat}:(⟨b,0,none⟩:Addr).add j=⟨b,j,none⟩:=by rw[I5,Nat.zero_add]
theorem Dt {b i j:Nat}:((⟨b,0,none⟩:Addr).add i).add j=⟨b,i+j,none⟩:=by rw[Ds,I5]
theorem Du {b i j k:Nat}:(((⟨b,0,none⟩:Addr).add i).add j).add k=⟨b,i+j+k,none⟩:=by rw[Dt,I5]
theorem FH {b i j k l:Nat}:((((⟨b,0,none⟩:Addr).add i).add j).add k).add l=⟨b,i+j+k+l,none⟩:=by rw[Du,I5]
section
variable {P:Program} {n:Nat} {ops:Array Oper} {Q:Exit→Act→World→Prop} {S:World→Prop} {au:List (Bool × Oper)} {E:dE} {w:World} {o:Oper} {d:Nat} {v:Value} {x y:Operand} {T:Bool} {A s:aj} {os:List aj} {q:Nat} {X Y:Prop}
theorem Ste.pu {t:Bool} (h:Ste q (RL P n ops Q S au ((d,v)::E) w)) (hg:bR ops E o=some true:=by exact rfl) (hp:pv (ev E) o.op=some v:=by exact rfl) (hd:o.dst=some d:=by exact rfl) (hb:Nat.blt d n=true:=by exact rfl):Ste (q+1) (RL P n ops Q S ((t,o)::au) E w):=⟨RL.pure hg hd hb hp h.out⟩
theorem Ste.pa {t:Bool} (h:Ste q (RL P n ops Q S au ((d,undef)::E) w)) (hg:bR ops E o=some false:=by exact rfl) (hd:o.dst=some d:=by exact rfl) (hb:Nat.blt d n=true:=by exact rfl):Ste (q+1) (RL P n ops Q S ((t,o)::au) E w):=⟨RL.pass hg hd hb h.out⟩
theorem Ste.fi {t:TypeId} {i k off:Nat} {ad:Addr} (h:Ste q (RL P n ops Q S au ((d,.pointer (some (ad.add off)))::E) w)) (ho:o.op = .fieldAddr t x i:=by exact rfl) (hg:bR ops E o=some true:=by exact rfl) (hd:o.dst=some d:=by exact rfl) (hb:Nat.blt d n=true:=by exact rfl) (hf:F0 P t i=some (off,k):=by exact Fl.out) (hk:Nat.blt 0 k=true:=by exact rfl) (hx:ev E x=some (.pointer (some ad)):=by exact rfl):Ste (q+1) (RL P n ops Q S ((T,o)::au) E w):=⟨RL.field hg hd hb ho hf hk hx h.out⟩
theorem Addr.yS (b j:Nat):(⟨b,j,none⟩:Addr)=(⟨b,0,none⟩:Addr).add j:=by simp[Addr.add]
theorem Ste.lo {t:TypeId} {b j:Nat} {ad:Addr} {r:aj} {cs:Array Value} {el:TypeId} {fr:Nat × Nat} (h:Ste q (RL P n ops Q S au ((d,v)::E) w)) (ho:o.op = .load t x:=by exact rfl) (hg:bR ops E o=some true:=by exact rfl) (hd:o.dst=some d:=by exact rfl) (hb:Nat.blt d n=true:=by exact rfl) (ht:dD P t=some (false,1):=by exact Fk.out) (hx:ev E x=some (.pointer (some ad)):=by exact rfl) (ha:ad=⟨b,j,none⟩:=by first | exact Ds | exact Dt | exact Du | exact FH | exact FG) (hG:ak w s os:=by assumption) (hc:r b=some (.cells cs el fr)∧r∈os:=by first | exact⟨(by assumption),zm⟩ | exact⟨Nd.cells (by assumption),zm⟩) (hv:cs.toList[j]?=some v:=by exact rfl):Ste (q+1) (RL P n ops Q S ((false,o)::au) E w):=⟨RL.load (ad:=⟨b,0,none⟩) (j:=j) hg hd hb ho ht (by rw[hx,ha,Addr.yS]) (Holds.of hc.1) (hG.mem hc.2) hv h.out⟩
theorem Ste.ls {t:TypeId} {b j k:Nat} {ad:Addr} {r:aj} {cs:Array Value} {us:List Value} {el:TypeId} {fr:Nat × Nat} (h:Ste q (RL P n ops Q S au ((d,.agg us.toArray)::E) w)) (ho:o.op = .load t x:=by exact rfl) (hg:bR ops E o=some true:=by exact rfl) (hd:o.dst=some d:=by exact rfl) (hb:Nat.blt d n=true:=by exact rfl) (ht:dD P t=some (true,k):=by exact Fk.out) (hx:ev E x=some (.pointer (some ad)):=by exact rfl) (ha:ad=⟨b,j,none⟩:=by first | exact Ds | exact Dt | exact Du | exact FH | exact FG) (hG:ak w s os:=by assumption) (hc:r b=some (.cells cs el fr)∧r∈os:=by first | exact⟨(by assumption),zm⟩ | exact⟨Nd.cells (by assumption),zm⟩) (hv:(cs.toList.drop j).take k=us:=by exact rfl) (hl:us.length=k:=by exact rfl):Ste (q+1) (RL P n ops Q S ((false,o)::au) E w):=⟨RL.gX (ad:=⟨b,0,none⟩) (j:=j) hg hd hb ho ht (by rw[hx,ha,Addr.yS]) (Holds.of hc.1) (hG.mem hc.2) hv hl h.out⟩
theorem Ste.lt {t:TypeId} {b j:Nat} {ad:Addr} {cs:Array Value} {el:TypeId} {fr:Nat × Nat} (h:Ste q (RL P n ops Q S au ((d,v)::E) w)) (ho:o.op = .load t x:=by exact rfl) (hg:bR ops E o=some true:=by exact rfl) (hd:o.dst=some d:=by exact rfl) (hb:Nat.blt d n=true:=by exact rfl) (ht:dD P t=some (false,1):=by exact Fk.out) (hx:ev E x=some (.pointer (some ad)):=by exact rfl) (ha:ad=⟨b,j,none⟩:=by first | exact Ds | exact Dt | exact Du | exact FH | exact FG) (hm:∀ w,S w→ay b (.cells cs el fr) w:=by first | exact fun _ h=>h.1 | exact fun _ h=>h.2.1 | exact fun _ h=>h.2.2.1) (hv:cs.toList[j]?=some v:=by exact rfl):Ste (q+1) (RL P n ops Q S ((true,o)::au) E w):=⟨RL.fV (ad:=⟨b,0,none⟩) (j:=j) hg hd hb ho ht (by rw[hx,ha,Addr.yS]) ay.holds (fun w h=>(hm w h).HU) hv h.out⟩
theorem Ste.lu {t:TypeId} {b j k:Nat} {ad:Addr} {cs:Array Value} {us:List Value} {el:TypeId} {fr:Nat × Nat} (h:Ste q (RL P n ops Q S au ((d,.agg us.toArray)::E) w)) (ho:o.op = .load t x:=by exact rfl) (hg:bR ops E o=some true:=by exact rfl) (hd:o.dst=some d:=by exact rfl) (hb:Nat.blt d n=true:=by exact rfl) (ht:dD P t=some (true,k):=by exact Fk.out) (hx:ev E x=some (.pointer (some ad)):=by exact rfl) (ha:ad=⟨b,j,none⟩:=by first | exact Ds | exact Dt | exact Du | exact FH | exact FG) (hm:∀ w,S w→ay b (.cells cs el fr) w:=by first | exact fun _ h=>h.1 | exact fun _ h=>h.2.1 | exact fun _ h=>h.2.2.1) (hv:(cs.toList.drop j).take k=us:=by exact rfl) (hl:us.length=k:=by exact rfl):Ste (q+1) (RL P n ops Q S ((true,o)::au) E w):=⟨RL.rB (ad:=⟨b,0,none⟩) (j:=j) hg hd hb ho ht (by rw[hx,ha,Addr.yS]) ay.holds (fun w h=>(hm w h).HU) hv hl h.out⟩
theorem Ste.ad {k:IntKind} {a b:Int} {t yt:TypeId} (h:Ste q (RL P n ops Q S au ((d,.int k (a+b))::E) w)) (ho:o.op = .binOp .add t x y yt:=by exact rfl) (hg:bR ops E o=some true:=by exact rfl) (hd:o.dst=some d:=by exact rfl) (hb:Nat.blt d n=true:=by exact rfl) (hx:ev E x=some (.int k a):=by exact rfl) (hy:ev E y=some (.int k b):=by exact rfl) (hr:aq k (a+b):=by first | (simp only[aq];omega) | (simp only[aq] at *;omega)):Ste (q+1) (RL P n ops Q S ((T,o)::au) E w):=⟨RL.add hg hd hb ho hx hy hr h.out⟩
theorem Ste.su {k:IntKind} {a b:Int} {t yt:TypeId} (h:Ste q (RL P n ops Q S au ((d,.int k (a-b))::E) w)) (ho:o.op = .binOp .sub t x y yt:=by exact rfl) (hg:bR ops E o=some true:=by exact rfl) (hd:o.dst=some d:=by exact rfl) (hb:Nat.blt d n=true:=by exact rfl) (hx:ev E x=some (.int k a):=by exact rfl) (hy:ev E y=some (.int k b):=by exact rfl) (hr:aq k (a-b):=by first | (simp only[aq];omega) | (simp only[aq] at *;omega)):Ste (q+1) (RL P n ops Q S ((T,o)::au) E w):=⟨RL.sub hg hd hb ho hx hy hr h.out⟩
theorem Ste.ln {t:TypeId} {e:TypeId} {sz by_ m c:Nat} {a:Option Addr} (h:Ste q (RL P n ops Q S au ((d,.int .i64 m)::E) w)) (ho:o.op = .call { callee:= .builtin .len,args:= #[x],argTypes:= #[t] }:=by exact rfl) (hg:bR ops E o=some true:=by exact rfl) (hd:o.dst=some d:=by exact rfl) (hb:Nat.blt d n=true:=by exact rfl) (ht:eJ P t=some (e,sz,by_):=by exact Fk.out) (hx:ev E x=some (.slice a m c):=by exact rfl):Ste (q+1) (RL P n ops Q S ((T,o)::au) E w):=⟨RL.len hg hd hb ho ht hx h.out⟩
theorem Ste.bu {t:TypeId} {ps:Array (Nat × Operand)} {l:List (Nat × Value)} {pl:List (Nat × Nat)} {z cs:List Value} (h:Ste q (RL P n ops Q S au ((d,.agg cs.toArray)::E) w)) (ho:o.op = .build t ps:=by exact rfl) (hg:bR ops E o=some true:=by exact rfl) (hd:o.dst=some d:=by exact rfl) (hb:Nat.blt d n=true:=by exact rfl) (hz:eY P t=some z:=by exact Fk.out) (hp:oJ P t=some pl:=by exact Fk.out) (yh:parts E ps.toList=some l:=by exact rfl) (hf:xw (fun i=>pl[i]?) z l=some cs:=by exact rfl):Ste (q+1) (RL P n ops Q S ((T,o)::au) E w):=⟨RL.build hg hd hb ho hz hp yh hf h.out⟩
theorem Ste.bo {t:TypeId} (h:Ste q (∀ b w' B,ak w' s (B::os)→ar w w'→B b=some (.cells v.cells t (0,0))→S w'∧RL P n ops Q S au ((d,.pointer (some ⟨b,0,none⟩))::E) w')) (ho:o.op = .box t x:=by exact rfl) (hg:bR ops E o=some true:=by exact rfl) (hd:o.dst=some d:=by exact rfl) (hb:Nat.blt d n=true:=by exact rfl) (hx:ev E x=some v:=by exact rfl) (hG:ak w s os:=by assumption):Ste (q+1) (RL P n ops Q S ((false,o)::au) E w):=⟨RL.abs hg hd hb ho hx hG h.out⟩
theorem Ste.al {t:TypeId} {z:List Value} (h:Ste q (∀ b w' B,ak w' s (B::os)→ar w w'→B b=some (.cells z.toArray t (0,0))→S w'∧RL P n ops Q S au ((d,.pointer (some ⟨b,0,none⟩))::E) w')) (ho:o.op = .alloc t:=by exact rfl) (hg:bR ops E o=some true:=by exact rfl) (hd:o.dst=some d:=by exact rfl) (hb:Nat.blt d n=true:=by exact rfl) (hz:eY P t=some z:=by exact Fk.out) (hG:ak w s os:=by assumption):Ste (q+1) (RL P n ops Q S ((false,o)::au) E w):=⟨RL.ST hg hd hb ho hz hG h.out⟩
theorem Ste.bn {t e:TypeId} {sz by_ len:Nat} {ps:Array (Nat × Operand)} {l:List (Nat × Value)} {z cs:List Value} (h:Ste q (∀ b w' B,ak w' s (B::os)→ar w w'→B b=some (.cells cs.toArray e (0,0))→S w'∧RL P n ops Q S au ((d,.slice (some ⟨b,0,none⟩) len len)::E) w')) (ho:o.op = .buildSlice t len ps:=by exact rfl) (hg:bR ops E o=some true:=by exact rfl) (hd:o.dst=some d:=by exact rfl) (hb:Nat.blt d n=true:=by exact rfl) (ht:eJ P t=some (e,sz,by_):=by exact Fk.out) (hz:eY P e=some z:=by exact Fk.out) (gW:z.length=sz:=by exact rfl) (bV:Nat.ble (len*sz) 16777216=true:=by exact rfl) (yh:parts E ps.toList=some l:=by exact rfl) (hf:xw (fun i=>some (i*sz,sz)) (pG len z) l=some cs:=by exact rfl) (hG:ak w s os:=by assumption):Ste (q+1) (RL P n ops Q S ((false,o)::au) E w):=⟨RL.abu hg hd hb ho ht hz gW bV yh hf hG h.out⟩
theorem ix0 {α:Type} {a:α} {l:List α}:(a::l)[0]?=some a:=rfl
theorem ix1 {α:Type} {a b:α} {l:List α}:(b::a::l)[1]?=some a:=rfl
theorem ix2 {α:Type} {a b c:α} {l:List α}:(b::c::a::l)[2]?=some a:=rfl
theorem ix3 {α:Type} {a b c d:α} {l:List α}:(b::c::d::a::l)[3]?=some a:=rfl
theorem ix4 {α:Type} {a b c d e:α} {l:List α}:(b::c::d::e::a::l)[4]?=some a:=rfl
theorem ix5 {α:Type} {a b c d e f:α} {l:List α}:(b::c::d::e::f::a::l)[5]?=some a:=rfl
theorem Ste.sb {t:TypeId} {b k j:Nat} {i:Nat} {ag:Bool} {ad:Addr} {cs:Array Value} {el:TypeId} {u:Value} {ds:List Value} (h:Ste q (∀ w' A',ak w' s (os.set i A')→ar w w'→A' b=some (.cells ds.toArray el (0,0))→S w'∧RL P n ops Q S au E w')) (ho:o.op = .store t x y:=by exact rfl) (hg:bR ops E o=some true:=by exact rfl) (hd:o.dst=none:=by exact rfl) (ht:dD P t=some (ag,k):=by exact Fk.out) (hx:ev E x=some (.pointer (some ad)):=by exact rfl) (ha:ad=⟨b,j,none⟩:=by first | exact Ds | exact Dt | exact Du | exact FH | exact FG) (hy:ev E y=some u:=by exact rfl) (hG:ak w s os:=by assumption) (hA:A b=some (.cells cs el (0,0))∧os[i]?=some A:=by refine⟨(by assumption),?_⟩;first | exact ix0 | exact ix1 | exact ix2 | exact ix3 | exact ix4 | exact ix5) (hk:u.cells.size=k:=by exact rfl) (he:cs.toList.take j++u.cells.toList++cs.toList.drop (j+k)=ds:=by exact rfl) (h1:∀ z∈u.cells.toList,z.oneCell'=true:=by first | (simp[Value.cells,Value.oneCell'];done) | simp[Value.cells,Value.oneCell',lx]) (hj:j+k≤cs.size:=by first | exact Nat.le_of_ble_eq_true rfl | (simp;done) | (simp;omega) | omega):Ste (q+1) (RL P n ops Q S ((false,o)::au) E w):=⟨RL.Fm hg hd ho ht (by rw[hx,ha,Addr.yS]) hy hG hA.2 hA.1 hk h1 hj he h.out⟩
theorem RL.sC {t:TypeId} {b k j:Nat} {i:Nat} {ag:Bool} {cs:Array Value} {el:TypeId} {u:Value} (hG:ak w s os) (h:∀ w',ak w' s (os.set i (A.put b (.cells (cs.toList.take j++u.cells.toList++cs.toList.drop (j+k)).toArray el (0,0))))→ar w w'→S w'∧RL P n ops Q S au E w') (hg:bR ops E o=some true:=by exact rfl) (hd:o.dst=none:=by exact rfl) (ho:o.op = .store t x y:=by exact rfl) (ht:dD P t=some (ag,k):=by exact Fk.out)
  (hx:ev E x=some (.pointer (some ((⟨b,0,none⟩:Addr).add j))):=by exact rfl) (hy:ev E y=some u:=by exact rfl) (hi:os[i]?=some A:=by exact rfl) (hA:A b=some (.cells cs el (0,0)):=by exact if_pos rfl) (hk:u.cells.size=k:=by exact rfl) (h1:∀ z∈u.cells.toList,z.oneCell'=true:=by first | (simp[Value.cells,Value.oneCell'];done) | simp[Value.cells,Value.oneCell',lx]) (hj:j+k≤cs.size:=by first | exact Nat.le_of_ble_eq_true rfl | (simp;done) | (simp;omega) | omega):RL P n ops Q S ((false,o)::au) E w:=RL.store hg hd ho ht hx hy hG hi hA hk h1 hj h
theorem RL.aC {α:Type} {R:aj→List Value→α→Prop} {t t2 e:TypeId} {sz by_ c:Nat} {i:Nat} {src:Value} {bB z:List Value} {a:Option Addr} {ys:List α} (hG:ak w s os) (fe:cU P w t2 sz src ys.length bB) (cD:cF R sz s bB ys)
  (h:∀ a' c' A' w',ak w' s (os.set i A')→aW R sz e s A' a' c' ([]++ys)→ar w w'→(∀ b,A b≠none→(∀ ad,a=some ad→ad.block≠b)→A' b=A b)→S w'∧RL P n ops Q S au ((d,.slice a' ([]++ys).length c')::E) w') (hg:bR ops E o=some true:=by exact rfl) (hd:o.dst=some d:=by exact rfl) (hb:Nat.blt d n=true:=by exact rfl)
  (ho:o.op = .call { callee:= .builtin .append,args:= #[x,y],argTypes:= #[t,t2] }:=by exact rfl) (ht:eJ P t=some (e,sz,by_):=by exact Fk.out) (hz:eY P e=some z:=by exact Fk.out) (gW:z.length=sz:=by exact rfl) (ky:lN R:=by first | exact ax.one _ | exact pJ.one | exact pI.one | assumption)
  (hx:ev E x=some (.slice a 0 c):=by exact rfl) (hy:ev E y=some src:=by exact rfl) (hi:os[i]?=some A:=by exact rfl) (lD:aW R sz e s A a c []:=by exact aW.fresh) (o4:ys.length*by_≤140737488355328:=by first | omega | (simp;omega)) (r7:0<by_:=by omega):RL P n ops Q S ((false,o)::au) E w:=RL.append hg hd hb ho ht hz gW ky hx hy hG hi lD fe cD (by simpa using o4) r7 h
theorem Ste.ca {f:FuncId} {args:Array Operand} {ats:Array TypeId} {l:List Value} (h:Ste q (Calls P f l.toArray w (fun e w'=>∃ v,e = .returned v∧S w'∧RL P n ops Q S au ((d,v)::E) w'))) (ho:o.op = .call { callee:= .value (.func f),args:=args,argTypes:=ats }:=by exact rfl) (hg:bR ops E o=some true:=by exact rfl) (hd:o.dst=some d:=by exact rfl) (hb:Nat.blt d n=true:=by exact rfl) (hl:jY E args.toList=some l:=by exact rfl) (hc:km P f=true:=by exact Ca.out):Ste (q+1) (RL P n ops Q S ((false,o)::au) E w):=⟨RL.rP hg hd hb ho hl hc h.out fun _ _ h=>h⟩
theorem zc {f:FuncId} {l:List Value} {w0:World} {s0:aj} {os0:List aj} {Φ:aj→aj→Value→Prop} {X:Value→World→Prop} (eK:Calls P f l.toArray w (aw w0 s0 os0 Φ)) (h:∀ v s' A w',Le s0 s'→ak w' s' (A::os0)→ar w0 w'→Φ s' A v→S w'∧X v w'):Calls P f l.toArray w (fun e w'=>∃ v,e = .returned v∧S w'∧X v w'):=eK.mono fun _ w' ⟨v,s',A,he,h1,h2,h3,h4⟩=>⟨v,he,h v s' A w' h1 h2 h3 h4⟩
theorem zw {f:FuncId} {l:List Value} {w0:World} {s0:aj} {os0:List aj} {Φ:Value→Prop} {X:Value→World→Prop} (eK:Calls P f l.toArray w (aQ w0 s0 os0 Φ)) (h:∀ v w',ak w' s0 os0→ar w0 w'→Φ v→S w'∧X v w'):Calls P f l.toArray w (fun e w'=>∃ v,e = .returned v∧S w'∧X v w'):=eK.mono fun _ w' ⟨v,he,h1,h2,h3⟩=>⟨v,he,h v w' h1 h2 h3⟩
theorem ak.Dw {r:aj} {b:Nat} {x:Obj} (hg:ak w s os) (h:r b=some x) (hr:r∈os):ay b x w:=hg.bS hr h
theorem Ste.dn (h:Ste q (∀ a,At n E a→Q .normal a w)):Ste (q+1) (RL P n ops Q S [] E w):=⟨RL.done h.out⟩
theorem Ste.nx {ops:Array Oper} {S2:World→Prop} {l2:List (Bool × Oper)} (h:Ste q (RL P n ops Q S2 l2 E w)) (hS:S2 w:=by exact trivial):Ste (q+1) (∀ a,At n E a→RA P ops Q S2 l2 a w):=⟨RL.next hS h.out⟩
theorem Ste.tr {B:Prop} (h:Ste q Y) (hb:B:=by first | exact trivial | (repeat (first | exact trivial | exact ak.Dw (by assumption) (by assumption) zm | exact ak.Dw (by assumption) (Nd.cells (by assumption)) zm | exact ak.mem (by assumption) zm | refine⟨?_,?_⟩))):Ste (q+1) (B∧Y):=⟨⟨hb,h.out⟩⟩
end
section
variable {P:Program} {n:Nat} {Q:Exit→Act→World→Prop} {E:dE} {w:World} {q:Nat} {X Y:Prop}
theorem Ste.sq {x y:Code} (h:Ste q (CW P n x (Exit.then (fun a w=>y.wp P Q a w) Q) E w)):Ste (q+1) (CW P n (.seq x y) Q E w):=⟨CW.seq h.out⟩
theorem Ste.bl {id:Nat} {c:Code} (h:Ste q (CW P n c (Exit.inBlock id Q) E w)):Ste (q+1) (CW P n (.block id c) Q E w):=⟨CW.block h.out⟩
theorem Ste.sk (h:Ste q (∀ a,At n E a→Q .normal a w)):Ste (q+1) (CW P n .skip Q E w):=⟨CW.skip h.out⟩
theorem Ste.ex {id:Nat} (h:Ste q (∀ a,At n E a→Q (.exit id) a w)):Ste (q+1) (CW P n (.exit id) Q E w):=⟨CW.exit h.out⟩
theorem Ste.pl {id:Nat} {l:List Oper} (h:Ste q (RL P n l.toArray Q (fun _=>True) (l.map fun o=>(false,o)) E w)):Ste (q+1) (CW P n (.region id l.toArray false) Q E w):=⟨CW.plain h.out⟩
theorem Ste.ys {c:Operand} {x y:Code} (h:Ste q (CW P n x Q E w)) (hc:ev E c=some (.bool true):=by first | rfl | exact congrArg (fun b=>some (Value.bool b)) (by assumption)):Ste (q+1) (CW P n (.cond c x y) Q E w):=⟨CW.dZ hc h.out⟩
theorem Ste.no {c:Operand} {x y:Code} (h:Ste q (CW P n y Q E w)) (hc:ev E c=some (.bool false):=by first | rfl | exact congrArg (fun b=>some (Value.bool b)) (by assumption)):Ste (q+1) (CW P n (.cond c x y) Q E w):=⟨CW.no hc h.out⟩
def od:List Nat→List (Bool × Nat)
 | []=>[]
 | a::l=>(Nat.beq (Nat.mod a 2) 1,Nat.div a 2)::od l
def tf (a b:Nat):Array Bool:=(List.replicate a true++List.replicate b false).toArray
theorem CW.dw {id:Nat} {l:List Oper} (o:List Nat) (S:World→Prop) (h:RL P n l.toArray Q S ((od o).map fun x=>(x.1,l.toArray.getD x.2 default)) E w.drew) (hm:P.follows .mixedOrders=true:=by exact mixed) (hs:Region.noSelect l.toArray=true:=by kernel_rfl) (bV:(od o).length=l.toArray.size:=by kernel_rfl) (hl:((od o).all fun x=>decide (x.2<l.toArray.size))=true:=by kernel_rfl) (hc:lQ l.toArray (od o) (Array.replicate l.toArray.size false)=true:=by kernel_rfl) (hS:S w.drew:=by first | exact trivial | (repeat (first | exact trivial | exact ak.Dw (by assumption) (by assumption) zm | exact ak.Dw (by assumption) (Nd.cells (by assumption)) zm | exact ak.mem (by assumption) zm | refine⟨?_,?_⟩))):CW P n (.region id l.toArray true) Q E w:=CW.iA (od o) S hm hs bV hl hc hS h
theorem CW.dx {id:Nat} {l:List Oper} (o1 o2:List Nat) (m r:Nat) (S:World→Prop) (h:RL P n l.toArray (fun _ a w=>RA P l.toArray Q (fun _=>True) ((od o2).map fun x=>(x.1,l.toArray.getD x.2 default)) a w) S ((od o1).map fun x=>(x.1,l.toArray.getD x.2 default)) E w.drew) (hm:P.follows .mixedOrders=true:=by exact mixed) (hs:Region.noSelect l.toArray=true:=by kernel_rfl) (bV:Nat.beq ((od o2).length+(od o1).length) l.toArray.size=true:=by kernel_rfl) (hl:((od o1++od o2).all fun x=>Nat.blt x.2 l.toArray.size)=true:=by kernel_rfl) (fJ:xq l.toArray m (tf m r) (od o1) (Array.replicate l.toArray.size false)=true:=by kernel_rfl) (gA:lQ l.toArray (od o2) (tf m r)=true:=by kernel_rfl) (hS:S w.drew:=by first | exact trivial | (repeat (first | exact trivial | exact ak.Dw (by assumption) (by assumption) zm | exact ak.Dw (by assumption) (Nd.cells (by assumption)) zm | exact ak.mem (by assumption) zm | refine⟨?_,?_⟩))):CW P n (.region id l.toArray true) Q E w:=CW.TV (od o1) (od o2) m (tf m r) S hm hs bV hl fJ gA hS h
theorem go (k:Nat) {X Y:Prop} (h:Y) (hh:Ste 0 Y→Ste k X:=by intro h;repeat (first | exact h | refine Ste.ad ?_ | refine Ste.su ?_ | refine Ste.pu ?_ | refine Ste.fi ?_ | refine Ste.lo ?_ | refine Ste.ls ?_ | refine Ste.lt ?_ | refine Ste.lu ?_ | refine Ste.dn ?_ | refine Ste.sq ?_ | refine Ste.pl ?_ | refine Ste.tr ?_ | refine Ste.pa ?_ | refine Ste.ca ?_ | refine Ste.sb ?_ | refine Ste.al ?_ | refine Ste.bu ?_ | refine Ste.bn ?_ | refine Ste.ln ?_ | refine Ste.bo ?_ | refine Ste.nx ?_ | refine Ste.bl ?_ | refine Ste.sk ?_ | refine Ste.ex ?_ | refine Ste.ys ?_ | refine Ste.no ?_)):X:=(hh ⟨h⟩).out
end
section
variable {P:Program} {n:Nat} {E:dE} {w:World} {fn:Func} {R:Ending→World→Prop} {v v2:Value}
theorem kE (h:R (.returned (whole [])) w) (hv:vP P w E fn.results.toList []:=by exact rfl):∀ a,At n E a→bodyPost P fn R .ret a w:=ret hv h
theorem bP (h:R (.returned (whole [v])) w) (hv:vP P w E fn.results.toList [v]:=by exact⟨_,_,rfl,rfl,rfl⟩):∀ a,At n E a→bodyPost P fn R .ret a w:=ret hv h
theorem nC (h:R (.returned (whole [v,v2])) w) (hv:vP P w E fn.results.toList [v,v2]:=by exact⟨_,_,rfl,rfl,_,_,rfl,rfl,rfl⟩):∀ a,At n E a→bodyPost P fn R .ret a w:=ret hv h
theorem zl {s r:aj} {os:List aj} {t:TypeId} {b:Nat} {cs:Array Value} {el:TypeId} {fr:Nat × Nat} {k:Nat} (hb:r b=some (.cells cs el fr)) (ht:dD P t=some (true,k):=by exact Fk.out) (hg:ak w s os:=by assumption) (hr:r∈os:=by simp) (hs:cs.size=k:=by exact rfl):(loadVar t ⟨b,0,none⟩).run P w = .ok (.agg cs) w:=mw (P:=P) ht hb (hg.mem hr) hs
end
theorem aw.mq {w w':World} {s s' A:aj} {os:List aj} {Φ:aj→aj→Value→Prop} {v:Value} (hg:ak w' s' (A::os)) (h:Φ s' A v) (ha:ar w w':=by repeat (first | assumption | exact ar.refl _ | exact ar.drew _ | refine ar.trans ?_ (by first | assumption | exact ar.drew _))) (hl:Le s s':=by repeat (first | assumption | exact Le.refl _ | refine Le.trans ?_ (by assumption))):aw w s os Φ (.returned v) w':=aw.mk hl hg ha h
theorem aQ.mq {w w':World} {s:aj} {os:List aj} {Φ:Value→Prop} {v:Value} (hg:ak w' s os) (h:Φ v) (ha:ar w w':=by repeat (first | assumption | exact ar.refl _ | exact ar.drew _ | refine ar.trans ?_ (by first | assumption | exact ar.drew _))):aQ w s os Φ (.returned v) w':=aQ.mk hg ha h
end Go.Lw
namespace Go.Lw
open Go.Proofs
theorem mixed:Tryz.prog.follows .mixedOrders=true:=by kernel_rfl
abbrev tV:Value:= .slice none 0 0
end Go.Lw
namespace Go.Lw
structure aY where
 av:List Int
 aD:List Int
 deriving DecidableEq
structure aA where
 index:Int
 ab:Int
 ao:Int
 data:List Int
 aJ:aY
structure gE where
 index:Int
 ab:Int
 aJ:aY
 data:List Int
structure Range where
 lo:ByteArray
 hi:ByteArray
structure aaG where
 offset:Int
 mT:ByteArray
 value:List Int
 X7:Int
 seq:Int
def fH:aj→List Value→aY→Prop:=fun s vs x =>
 ∃ a c a' c',vs=[.slice a x.av.length c,.slice a' x.aD.length c']∧bm (ax .i64) 1 s a c x.av∧bm (ax .i64) 1 s a' c' x.aD
theorem fH.up:Up fH:=fun _ _ _ _ hl ⟨a,c,a',c',h,h1,h2⟩=>⟨a,c,a',c',h,h1.up (ax.up _) hl,h2.up (ax.up _) hl⟩
theorem fH.one:lN fH:=fun _ _ _ ⟨a,c,a',c',h,_,_⟩ v hv=>by
 subst h
 simp only[List.mem_cons,List.not_mem_nil,or_false] at hv
 rcases hv with rfl | rfl<;>rfl
def bg:aj→List Value→aA→Prop:=fun s vs x =>
 ∃ a c a1 c1 a2 c2,vs=[.int .u64 x.index,.int .u64 x.ab,.int .i64 x.ao,.slice a x.data.length c,.slice a1 x.aJ.av.length c1,.slice a2 x.aJ.aD.length c2] ∧
  aq .u64 x.index∧aq .u64 x.ab∧aq .i64 x.ao∧bm (ax .u8) 1 s a c x.data∧bm (ax .i64) 1 s a1 c1 x.aJ.av∧bm (ax .i64) 1 s a2 c2 x.aJ.aD
theorem bg.up:Up bg:=fun _ _ _ _ hl ⟨a,c,a1,c1,a2,c2,h,r1,r2,r3,h1,h2,h3⟩=>⟨a,c,a1,c1,a2,c2,h,r1,r2,r3,h1.up (ax.up _) hl,h2.up (ax.up _) hl,h3.up (ax.up _) hl⟩
theorem bg.one:lN bg:=fun _ _ _ ⟨a,c,a1,c1,a2,c2,h,_⟩ v hv=>by
 subst h
 simp only[List.mem_cons,List.not_mem_nil,or_false] at hv
 rcases hv with rfl | rfl | rfl | rfl | rfl | rfl<;>rfl
def SA:aj→List Value→gE→Prop:=fun s vs x =>
 ∃ a c a1 c1 a2 c2,vs=[.int .u64 x.index,.int .u64 x.ab,.slice a1 x.aJ.av.length c1,.slice a2 x.aJ.aD.length c2,.slice a x.data.length c] ∧
  aq .u64 x.index∧aq .u64 x.ab∧bm (ax .u8) 1 s a c x.data∧bm (ax .i64) 1 s a1 c1 x.aJ.av∧bm (ax .i64) 1 s a2 c2 x.aJ.aD
theorem SA.one:lN SA:=fun _ _ _ ⟨a,c,a1,c1,a2,c2,h,_⟩ v hv=>by
 subst h
 simp only[List.mem_cons,List.not_mem_nil,or_false] at hv
 rcases hv with rfl | rfl | rfl | rfl | rfl<;>rfl
def Sy:aj→List Value→Range→Prop:=fun _ vs x=>vs=[.string x.lo,.string x.hi]∧x.lo.size≤maxLen∧x.hi.size≤maxLen
theorem Sy.one:lN Sy:=fun _ _ _ ⟨h,_⟩ v hv=>by
 subst h
 simp only[List.mem_cons,List.not_mem_nil,or_false] at hv
 rcases hv with rfl | rfl<;>rfl
def Sz:aj→List Value→aaG→Prop:=fun s vs x =>
 ∃ a c,vs=[.int .u64 x.offset,.string x.mT,.slice a x.value.length c,.int .u64 x.X7,.int .u64 x.seq] ∧
  aq .u64 x.offset∧x.mT.size≤maxLen∧bm (ax .u8) 1 s a c x.value∧aq .u64 x.X7∧aq .u64 x.seq
theorem Sz.one:lN Sz:=fun _ _ _ ⟨a,c,h,_⟩ v hv=>by
 subst h
 simp only[List.mem_cons,List.not_mem_nil,or_false] at hv
 rcases hv with rfl | rfl | rfl | rfl | rfl<;>rfl
end Go.Lw
namespace Go.Lw
structure br where
 aF:gE
 entries:List aA
def iv:Int:=4611686018427387904
def qW (c:aY):Bool:=decide (c.av.length+c.aD.length=0)
def sx (e:aA):Bool :=
 if e.ao=1 then qW e.aJ && decide (e.data.length=0) else if e.ao=2 then qW e.aJ else if e.ao=3 then decide (e.data.length=0) else false
def pL (e:aA) (i t:Int):Bool:=decide (e.index=i+1) && decide (t≤e.ab) && decide (e.ab<iv) && sx e
def fx:Int→Int→List aA→Bool
 | _,_,[]=>true
 | i,t,e::l=>pL e i t && fx e.index e.ab l
def lI (i t:Int) (l:List aA):Bool:=decide (i<iv) && decide ((l.length:Int)<iv-i) && fx i t l
def wH (l:br):Bool:=decide (l.aF.ab<iv) && lI l.aF.index l.aF.ab l.entries
def bX (l:br):Int × Int:=match l.entries.getLast? with
 | some e=>(e.index,e.ab)
 | none=>(l.aF.index,l.aF.ab)
def bF (x:Int):Int:=IntKind.u64.wrap (x+1)
def jT (x:Int):Int:=IntKind.i64.wrap (x+1)
theorem qg {x:Int} (h0:0≤x) (h:x<18446744073709551615):bF x=x+1:=by
 unfold bF;exact aq.wrap (k:= .u64) (by simp only[aq];omega)
theorem YZ {x:Int} (h0 : -9223372036854775809≤x) (h:x<9223372036854775807):jT x=x+1:=by
 unfold jT;exact aq.wrap (k:= .i64) (by simp only[aq];omega)
theorem vG (x:Int):aq .u64 (bF x):=CR _ _
def mY (p:Nat→Bool) (i j:Nat):Nat :=
 if h:i<j then if p ((i+j) / 2)=true then mY p i ((i+j) / 2) else mY p ((i+j) / 2+1) j else i
termination_by j-i
theorem Rx (p:Nat→Bool):∀ (k i j:Nat),j-i≤k→i≤j→mY p i j≤j∧i≤mY p i j
 | 0,i,j,hk,h=>by rw[mY,dif_neg (by omega)];omega
 | k+1,i,j,hk,h=>by
  rw[mY]
  split
  split
  have:=Rx p k i ((i+j) / 2) (by omega) (by omega);omega
  have:=Rx p k ((i+j) / 2+1) j (by omega) (by omega);omega
  omega
theorem Rw {p:Nat→Bool} {c n:Nat} (hp:∀ k,k<n→p k=decide (c≤k)):∀ (k i j:Nat),j-i≤k→i≤c→c≤j→j≤n→mY p i j=c
 | 0,i,j,hk,h1,h2,h3=>by rw[mY,dif_neg (by omega)];omega
 | k+1,i,j,hk,h1,h2,h3=>by
  rw[mY]
  split
  rw[hp _ (by omega)]
  by_cases hc:c≤(i+j) / 2
  rw[if_pos (by simpa using hc)];exact Rw hp k _ _ (by omega) h1 hc (by omega)
  rw[if_neg (by simpa using hc)];exact Rw hp k _ _ (by omega) (by omega) h2 h3
  omega
def KS (l:List aA) (i:Int) (k:Nat):Bool:=match l[k]? with | some e=>decide (i≤e.index) | none=>true
def eI (l:br) (i:Int):Nat:=mY (KS l.entries i) 0 l.entries.length
theorem Rc (l:br) (i:Int):eI l i≤l.entries.length:=(Rx _ _ _ _ (Nat.le_refl _) (Nat.zero_le _)).1
def cE (l:br) (i:Int):Int × Bool :=
 if i=l.aF.index then (l.aF.ab,true) else match l.entries[eI l i]? with
 | some e=>if e.index=i then (e.ab,true) else (0,false)
 | none=>(0,false)
def jB:List aA→Option (aY × Int)
 | []=>none
 | e::l=>match jB l with
  | some r=>some r
  | none=>if e.ao=3 then some (e.aJ,e.index) else none
def ce (l:br):aY × Int:=(jB l.entries).getD (l.aF.aJ,0)
def oL (l:br) (am most:Int):List aA × Int :=
 if am≤l.aF.index∨bF (bX l).1<am then ([],61) else ((l.entries.drop (eI l am)).take most.toNat,0)
def mz (l:br) (i t:Int):Bool:=if t≠(bX l).2 then decide ((bX l).2<t) else decide ((bX l).1≤i)
def sJ (l:br) (e:aA):Bool:=(cE l e.index).2 && decide ((cE l e.index).1≠e.ab)
def ed (l:br) (e:aA):Bool:= !(cE l e.index).2 || sJ l e
def gE.none:gE:=⟨0,0,⟨[],[]⟩,[]⟩
def br.none:br:=⟨gE.none,[]⟩
structure Dh where
 ah:br
 cut:Int
 came:List aA
 gH:Int
def fb (l:br) (aB i t:Int) (more:List aA):Dh :=
 if lI i t more=false then ⟨br.none,0,[],1⟩
 else if (cE l i).2=false∨(cE l i).1≠t then ⟨br.none,0,[],61⟩
 else if (more.any fun e=>decide (e.index≤aB) && sJ l e)=true then ⟨br.none,0,[],62⟩
 else match more.findIdx? (ed l) with
  | none=>⟨l,0,[],0⟩
  | some k =>
   let am:=(more[k]?.map (·.index)).getD 0
   ⟨⟨l.aF,l.entries.take (eI l am)++more.drop k⟩,if eI l am<l.entries.length then am else 0,more.drop k,0⟩
theorem sP:∀ {l:List aA} {i t:Int},fx i t l=true→∀ (k:Nat) (e:aA),l[k]?=some e→e.index=i+1+k
 | [],_,_,_,k,e,hk=>by simp at hk
 | x::l,i,t,h,k,e,hk=>by
  simp only[fx,pL,Bool.and_eq_true,decide_eq_true_eq] at h
  cases k with
  | zero=>simp at hk;subst hk;simpa using h.1.1.1.1
  | succ k =>
   have:=sP h.2 k e (by simpa using hk)
   rw[h.1.1.1.1] at this;omega
end Go.Lw
namespace Go.Lw
open Go.Proofs
abbrev fD (s:aj) (a:Option Addr) (c:Nat) (xs:List Int):Prop:=bm (ax .i64) 1 s a c xs
abbrev ib (s A:aj) (a:Option Addr) (c:Nat) (xs:List Int):Prop:=aW (ax .i64) 1 3 s A a c xs
theorem sZ {w:World} {s r:aj} {os:List aj} {xs:List Int} {xa:Option Addr} {xc:Nat} (hg:ak w s os) (hr:r=s∨r∈os) (hx:xs=[]∨∃ ad,xa=some ad∧kI (ax .i64) 1 r s ad xs) (hl:xs.length*8≤140737488355328) :
  Calls Tryz.prog 90 #[.slice xa xs.length xc] w (aw w s os fun s' A v=>s'=s∧∃ a c,v = .slice a xs.length c∧ib s' A a c xs):=by
 refine enter (l:=[.slice xa xs.length xc]) Tryz.func90 rfl Tryz.ntmps90 rfl ?_
 refine go 4 ?_
 refine CW.seq (CW.seq (CW.plain ?_))
 refine go 1 ?_
 refine RL.H4 rfl rfl rfl rfl bC.out rfl rfl ?_
 refine go 1 ?_
 refine CW.cond rfl (fun h=>?_) (fun h=>?_)
 refine CW.seq (CW.plain ?_)
 refine go 2 ?_
 have rk:xs=[]:=by
  rcases hx with hx | ⟨ad,rfl,_⟩
  exact hx
  cases h
 subst rk
 exact CW.ret (ret (vs:=[_]) ⟨_,_,rfl,rfl,rfl⟩ (aw.mk (Le.refl _) hg.nil (ar.refl _) ⟨rfl,none,0,rfl,aW.nil _ _ _ _ _⟩))
 refine CW.skip ?_
 refine go 2 ?_
 refine RL.buildSlice rfl rfl rfl rfl bC.out fY.out rfl rfl rfl rfl hg ?_
 rintro b w1 aH aN
 refine go 2 ?_
 obtain⟨bB,fe,cD⟩:=cU.row (c:=xc) bC.out hx (aH.drop.mI hr)
 refine RL.append (i:=0) (ys:=xs) rfl rfl rfl rfl bC.out fY.out rfl (by first | exact ax.one _ | exact pJ.one | exact pI.one | assumption) rfl rfl aH rfl (aW.fresh (R:=ax .i64) (sz:=1) (el:=3) (s:=s) (b:=b)) (fe) (cD) ((by simp;omega)) (by omega) ?_
 rintro a2 c2 A2 w2 aS x_ aR wq
 refine go 3 ?_
 exact CW.ret (ret (vs:=[_]) ⟨_,_,rfl,rfl,rfl⟩ (aw.mk (Le.refl _) aS (aN.trans aR) ⟨rfl,a2,c2,rfl,x_⟩))
theorem aar {w:World} {s:aj} {os:List aj} {xs:List Int} {xa:Option Addr} {xc:Nat} {v:Int} (hg:ak w s os) (hx:fD s xa xc xs) :
  Calls Tryz.prog 127 #[.slice xa xs.length xc,i64 v] w (aQ w s os fun r=>∃ i:Int,r=i64 i∧Lw.aq .i64 i∧(0≤i↔v∈xs)):=by
 refine enter (l:=[.slice xa xs.length xc,i64 v]) Tryz.func127 rfl Tryz.ntmps127 rfl ?_
 refine go 4 ?_
 refine CW.seq (CW.seq (CW.plain ?_))
 refine go 4 ?_
 have bV:=hx.gL
 simp only[maxLen] at bV
 refine CW.block (CW.loop (σ:=Nat) (fun j E w'=>w'=w∧∃ k:Nat,E=[(0,.slice xa xs.length xc),(1,i64 v),(7,i64 xs.length),(8,i64 k)]∧k+j=xs.length∧v∉xs.take k)
  (fun j=>j) xs.length [(0,.slice xa xs.length xc),(1,i64 v),(7,i64 xs.length),(8,i64 0)] ⟨rfl,rfl,rfl,rfl,trivial⟩ ⟨rfl,0,rfl,by omega,by simp⟩ ?_)
 rintro j E w' ⟨rfl,k,rfl,hk,bW⟩
 refine go 4 ?_
 refine CW.seq (CW.test rfl (fun h=>?_) (fun h=>?_))
 refine CW.skip ?_
 have cv:k<xs.length:=by omega
 refine CW.seq (CW.block (CW.seq (CW.plain ?_)))
 refine go 8 ?_
 refine RL.cW rfl rfl rfl rfl bC.out rfl rfl (hx) (by omega) (by omega) ?_
 rintro q vs eH hH ⟨rfl,p5⟩
 refine RL.load rfl rfl rfl rfl ey.out rfl (hH) (hg.sh) rfl ?_
 refine go 2 ?_
 refine CW.eq rfl (fun he=>?_) (fun he=>?_)
 refine CW.seq (CW.plain ?_)
 refine go 3 ?_
 have hm:v∈xs:=by subst he;exact List.getElem_mem _
 exact CW.ret (ret (vs:=[_]) ⟨_,_,rfl,rfl,rfl⟩ (aQ.mk hg (ar.refl _) ⟨k,rfl,by simp only[Lw.aq];omega,by simp[hm]⟩))
 refine CW.skip ?_
 refine go 4 ?_
 cases j with
 | zero=>omega
 | succ j =>
  refine fun ac ha=>⟨j,[(0,.slice xa xs.length xc),(1,i64 v),(7,i64 xs.length),(8,i64 ((k:Int)+1))],ha.sub ⟨rfl,rfl,rfl,rfl,trivial⟩,⟨rfl,k+1,rfl,by omega,?_⟩,Nat.lt_succ_self j⟩
  rw[List.take_succ_eq_append_getElem cv]
  simp only[List.mem_append,List.mem_singleton,not_or]
  exact⟨bW,he⟩
 refine CW.exit (CW.seq (CW.plain ?_))
 have cv:k=xs.length:=by omega
 refine go 2 ?_
 rw[cv,List.take_length] at bW
 exact CW.ret (ret (vs:=[_]) ⟨_,_,rfl,rfl,rfl⟩ (aQ.mk hg (ar.refl _) ⟨-1,rfl,by simp only[Lw.aq];omega,by simp[bW]⟩))
theorem IW {w:World} {s:aj} {os:List aj} {xs:List Int} {xa:Option Addr} {xc:Nat} {v:Int} (hg:ak w s os) (hx:fD s xa xc xs) :
  Calls Tryz.prog 98 #[.slice xa xs.length xc,i64 v] w (aQ w s os fun r=>r = .bool (decide (v∈xs))):=by
 refine enter (l:=[.slice xa xs.length xc,i64 v]) Tryz.func98 rfl Tryz.ntmps98 rfl ?_
 refine go 9 ?_
 refine zw (aar hg hx) ?_
 rintro r w1 aH aN ⟨i,rfl,hr,hm⟩
 refine go 4 ?_
 exact CW.ret (ret (vs:=[_]) ⟨_,_,rfl,rfl,rfl⟩ (aQ.mk aH aN (congrArg Value.bool (by simp only[hm]))))
end Go.Lw
namespace Go.Lw
def tR (xs:List Int):List Int:=xs.mergeSort fun x y=>decide (x≤y)
theorem KJ (xs:List Int):(tR xs).Perm xs:=List.mergeSort_perm _ _
theorem ah4 (xs:List Int):(tR xs).Pairwise (· ≤ ·):=by
 have:=List.pairwise_mergeSort (le:=fun x y:Int=>decide (x≤y)) (fun a b c h1 h2=>by simp at *;omega) (fun a b=>by simp;omega) xs
 exact this.imp (by simp)
theorem HY (xs:List Int):(tR xs).length=xs.length:=(KJ xs).length_eq
theorem Y2 (cs:Array Value) (ts:List Int) (h:ts.length≤cs.size):(Go.Sort.putCells (Value.int .i64) 0 ts.toArray cs).toList.take ts.length=ts.map (Value.int .i64):=by
 refine List.ext_getElem? fun j=>?_
 by_cases hj:j<ts.length
 have:j<cs.size:=by omega
 simp[Go.Sort.putCells,hj,this]
 rw[List.getElem?_eq_none (by simp;omega),List.getElem?_eq_none (by simp;omega)]
theorem ak.putRow {w:World} {s A:aj} {os:List aj} {g n:Nat} {cs:Array Value} {el:TypeId} {ts:List Int} {ns:Array Obj} (hg:ak w s (A::os)) (hA:A g=some (.cells cs el (0,0))) :
  ak (Go.Sort.grow (Go.Sort.putRow (Value.int .i64) (Go.Sort.ahead w n) g 0 ts.toArray) ns) s (A.put g (.cells (Go.Sort.putCells (Value.int .i64) 0 ts.toArray cs) el (0,0))::os) ∧
  ar w (Go.Sort.grow (Go.Sort.putRow (Value.int .i64) (Go.Sort.ahead w n) g 0 ts.toArray) ns):=by
 have hw:=hg.1 g _ hA
 have be:g<w.heap.size:=hg.1.lt (by rw[hA];simp)
 refine⟨hg.Al hA ?_ (fun k hk bH=>?_),⟨rfl,rfl,rfl,?_⟩⟩
 show ((w.heap.modify g (Go.Sort.onCells (Go.Sort.putCells (Value.int .i64) 0 ts.toArray)))++ns)[g]?=_
 rw[Array.getElem?_append_left (by simpa using be),Array.getElem?_modify,if_pos rfl,hw]
 rfl
 show ((w.heap.modify g (Go.Sort.onCells (Go.Sort.putCells (Value.int .i64) 0 ts.toArray)))++ns)[k]?=_
 rw[Array.getElem?_append_left (by simpa using hk),Array.getElem?_modify,if_neg (Ne.symm bH)]
 simp[Go.Sort.grow,Go.Sort.putRow,Go.Sort.mapBlock,Go.Sort.ahead]
end Go.Lw
namespace Go.Proofs
open Go.Shelf
def Tryz.abX:Go.Shelf.Ren:=⟨fun | 43=>126 | n=>n,fun | 22=>25 | 23=>3 | 3=>3 | 4=>4 | 0=>0 | n=>n,fun | n=>n⟩
theorem Tryz.TC:SlLaysN.n43 Tryz.prog Tryz.abX where
 mixed:=by kernel_rfl
 f43:=⟨Tryz.f126.name,by kernel_rfl,Tryz.func126.trans (congrArg some (by kernel_rfl))⟩
 t0:=Tryz.underlying0
 a0:=Tryz.isAgg0
 z0:=Tryz.sizeOf0
 v0:=Tryz.zeroValue0
 t3:=Tryz.underlying3
 a3:=Tryz.isAgg3
 z3:=Tryz.sizeOf3
 v3:=Tryz.zeroValue3
 t4:=Tryz.underlying4
 a4:=Tryz.isAgg4
 z4:=Tryz.sizeOf4
 v4:=Tryz.zeroValue4
 t22:=Tryz.underlying25
 a22:=Tryz.isAgg25
 z22:=Tryz.sizeOf25
 v22:=Tryz.zeroValue25
 t23:=Tryz.underlying3
 a23:=Tryz.isAgg3
 z23:=Tryz.sizeOf3
 v23:=Tryz.zeroValue3
 i23:=by kernel_rfl
end Go.Proofs
namespace Go.Lw
open Go.Proofs
theorem aag (kK off cap:Nat) (zs:List Int) (w:World) (hH:Go.Sort.Holds (Value.int .i64) w kK off zs.toArray) (cV:zs.length≤9223372036854775807) (Oh:zs.length≤cap) :
  Calls Tryz.prog 126 #[.slice (some ⟨kK,off,none⟩) zs.length cap] w fun e w'=>e = .returned (.slice (some ⟨kK,off,none⟩) (Lib.compact zs).length cap) ∧
   ∃ q,w'=Go.Sort.putRow (Value.int .i64) (Go.Sort.ahead w q) kK off (Lib.compact zs++List.replicate (zs.length-(Lib.compact zs).length) 0).toArray :=
 AnyG.slices_Compact_int Tryz.TC kK off cap zs w hH cV Oh
theorem TD (xs:List Int):(Lib.compact xs).length≤xs.length:=by
 simp only[Lib.compact,Lib.compactUpTo,List.length_map]
 exact Nat.le_trans (List.length_filter_le _ _) (by simp)
theorem TE {xs:List Int} {x:Int} (h:x∈Lib.compact xs):x∈xs:=by
 simp only[Lib.compact,Lib.compactUpTo,List.mem_map,List.mem_filter,List.mem_range] at h
 obtain⟨j,⟨hj,_⟩,rfl⟩:=h
 simp[hj]
theorem abZ {xs:List Int} {x:Int}:x∈Lib.compact xs↔x∈xs:=by
 refine⟨TE,fun h=>?_⟩
 have mT:∀ j,(hj:j<xs.length)→∃ i,i<xs.length∧Lib.keeps xs.toArray i=true∧xs.toArray[i]! = xs[j]:=by
  intro j
  induction j with
  | zero=>exact fun hj=>⟨0,hj,by simp[Lib.keeps],by simp[hj]⟩
  | succ j ih =>
   intro hj
   by_cases he:xs.toArray[j+1]! = xs.toArray[j]!
   obtain⟨i,h1,h2,h3⟩:=ih (by omega)
   refine⟨i,h1,h2,h3.trans ?_⟩
   have kR:j<xs.length:=by omega
   simpa [hj,kR] using he.symm
   exact⟨j+1,hj,by simpa [Lib.keeps] using he,by simp[hj]⟩
 obtain⟨j,hj,rfl⟩:=List.getElem_of_mem h
 obtain⟨i,h1,h2,h3⟩:=mT j hj
 simp only[Lib.compact,Lib.compactUpTo,List.mem_map,List.mem_filter,List.mem_range]
 exact⟨i,⟨h1,h2⟩,h3⟩
theorem ab0 {xs:List Int} (h:xs.Pairwise (· ≤ ·)):(Lib.compact xs).Pairwise (· < ·):=by
 simp only[Lib.compact,Lib.compactUpTo,List.pairwise_map]
 rw[List.pairwise_filter]
 have h0:(List.range xs.length).Pairwise (· < ·):=List.pairwise_lt_range
 rw[List.pairwise_iff_getElem] at h0 ⊢
 intro i j hi hj iE _ hk
 have oz:i<xs.length:=by simpa using hi
 have kR:j<xs.length:=by simpa using hj
 simp only[List.getElem_range] at *
 have hp:=List.pairwise_iff_getElem.1 h
 have h1:xs[i]≤xs[j-1]:=by
  by_cases e:i=j-1
  subst e;exact Int.le_refl _
  exact hp i (j-1) oz (by omega) (by omega)
 have h2:xs[j-1]≤xs[j]:=hp (j-1) j (by omega) kR (by omega)
 have rf:j-1<xs.length:=by omega
 have h3:xs[j]≠xs[j-1]:=by
  have:¬ j=0:=by omega
  simpa [Lib.keeps,this,kR,rf] using hk
 simp only[List.getElem!_toArray,oz,kR,getElem!_pos]
 omega
def cZ (xs:List Int):List Int:=Lib.compact (tR xs)
theorem sU {xs:List Int} {x:Int}:x∈cZ xs↔x∈xs:=by rw[cZ,abZ];exact (KJ xs).mem_iff
theorem Iu (xs:List Int):(cZ xs).Pairwise (· < ·):=ab0 (ah4 xs)
theorem Fp (xs:List Int):(cZ xs).Nodup:=(Iu xs).imp (fun h=>by omega)
theorem It (xs:List Int):(cZ xs).length≤xs.length:=by
 have:=TD (tR xs)
 rwa[HY] at this
theorem Sd {w:World} {s A:aj} {os:List aj} {xs:List Int} {a:Option Addr} {c:Nat} (hg:ak w s (A::os)) (ho:ib s A a c xs) :
  Calls Tryz.prog 126 #[.slice a xs.length c] w (aw w s os fun s' A' r=>s'=s∧r = .slice a (Lib.compact xs).length c∧ib s' A' a c (Lib.compact xs)):=by
 have Cc:=ho.gL
 simp only[maxLen] at Cc
 rcases ho with ⟨rfl,rfl,rfl⟩ | ⟨g,cs,rfl,hA,hl,hc,dr,cD⟩
 refine (AnyG.slices_Compact_int_empty Tryz.TC none 0 w).mono ?_
 rintro e w' ⟨rfl,rfl⟩
 exact aw.mq hg ⟨rfl,rfl,.inl ⟨rfl,rfl,rfl⟩⟩
 obtain⟨h1,h2⟩:=HV cD
 rw[Nat.mul_one] at h1 dr
 have hw:=hg.1 g _ hA
 have hH:Go.Sort.Holds (Value.int .i64) w g 0 xs.toArray:=by
  intro j hj
  have kR:j<xs.length:=by simpa using hj
  have e:cs.toList[j]?=(xs.map (Value.int .i64))[j]?:=by
   rw[←h1,List.getElem?_take,if_pos kR]
  have e2:cs[j]?=some (Value.int .i64 xs[j]):=by
   rw[←Array.getElem?_toList,e];simp[kR]
  have e3:xs.toArray[j]! = xs[j]:=by simp[kR]
  rw[e3]
  exact⟨by simp[World.cell?,hw,e2],by simp[World.frozen?,hw]⟩
 refine (aag g 0 c xs w hH (by omega) hl).mono ?_
 rintro e w' ⟨rfl,n,rfl⟩
 have cg:=TD xs
 obtain⟨fh,jq⟩:=ak.putRow (n:=n) (ts:=Lib.compact xs++List.replicate (xs.length-(Lib.compact xs).length) 0) (ns:= #[]) hg hA
 rw[Go.Sort.grow_empty] at fh jq
 refine aw.mq fh ⟨rfl,rfl,.inr ⟨g,Go.Sort.putCells (Value.int .i64) 0 (Lib.compact xs++List.replicate (xs.length-(Lib.compact xs).length) 0).toArray cs,rfl,dq _ _ _,by omega,hc,by simp[Go.Sort.putCells];omega,?_⟩⟩
 have ht:=Y2 cs (Lib.compact xs++List.replicate (xs.length-(Lib.compact xs).length) 0) (by simp;omega)
 have iP:=congrArg (List.take (Lib.compact xs).length) ht
 rw[List.take_take,Nat.min_eq_left (by simp)] at iP
 rw[Nat.mul_one,iP,List.map_append,List.take_left' (by simp)]
 exact FS fun x hx=>h2 x (TE hx)
theorem Se {w:World} {s A:aj} {os:List aj} {xs:List Int} {a:Option Addr} {c m:Nat} (hg:ak w s (A::os)) (ho:ib s A a c xs) (hm:m=xs.length) :
  Calls Tryz.prog 126 #[.slice a m c] w (aw w s os fun s' A' r=>s'=s∧r = .slice a (Lib.compact xs).length c∧ib s' A' a c (Lib.compact xs)):=by
 subst hm
 exact Sd hg ho
end Go.Lw
namespace Go.Proofs
open Go.Shelf
def Tryz.ajW:Go.Shelf.Ren:=⟨fun | 5=>163 | 8=>178 | 7=>177 | 19=>189 | 20=>190 | 10=>181 | 11=>182 | 12=>183 | 13=>184 | 14=>185 | 15=>186 | 16=>146 | 17=>187 | 18=>188 | 30=>201 | 31=>202 | 32=>203 | 33=>204 | 34=>205 | 35=>167 | 40=>210 | n=>n,fun | 23=>25 | 25=>3 | 3=>3 | 32=>200 | 22=>25 | 0=>0 | 44=>213 | 46=>22 | 4=>4 | 36=>207 | 35=>206 | 41=>190 | 5=>5 | 9=>9 | 53=>221 | 57=>224 | 63=>229 | 64=>230 | n=>n,fun | n=>n⟩
theorem Tryz.Rz:SlLaysM.n5 Tryz.prog Tryz.ajW where
 mixed:=by kernel_rfl
 f5:=⟨Tryz.f163.name,by kernel_rfl,Tryz.func163.trans (congrArg some (by kernel_rfl))⟩
 f7:=⟨Tryz.f177.name,by kernel_rfl,Tryz.func177.trans (congrArg some (by kernel_rfl))⟩
 f8:=Tryz.func178.trans (congrArg some (by kernel_rfl))
 f10:=⟨Tryz.f181.name,by kernel_rfl,Tryz.func181.trans (congrArg some (by kernel_rfl))⟩
 f11:=⟨Tryz.f182.name,by kernel_rfl,Tryz.func182.trans (congrArg some (by kernel_rfl))⟩
 f12:=⟨Tryz.f183.name,by kernel_rfl,Tryz.func183.trans (congrArg some (by kernel_rfl))⟩
 f13:=⟨Tryz.f184.name,by kernel_rfl,Tryz.func184.trans (congrArg some (by kernel_rfl))⟩
 f14:=⟨Tryz.f185.name,by kernel_rfl,Tryz.func185.trans (congrArg some (by kernel_rfl))⟩
 f15:=⟨Tryz.f186.name,by kernel_rfl,Tryz.func186.trans (congrArg some (by kernel_rfl))⟩
 f16:=⟨Tryz.f146.name,by kernel_rfl,Tryz.func146.trans (congrArg some (by kernel_rfl))⟩
 f17:=⟨Tryz.f187.name,by kernel_rfl,Tryz.func187.trans (congrArg some (by kernel_rfl))⟩
 f18:=⟨Tryz.f188.name,by kernel_rfl,Tryz.func188.trans (congrArg some (by kernel_rfl))⟩
 f19:=Tryz.func189.trans (congrArg some (by kernel_rfl))
 f20:=Tryz.func190.trans (congrArg some (by kernel_rfl))
 f30:=⟨Tryz.f201.name,by kernel_rfl,Tryz.func201.trans (congrArg some (by kernel_rfl))⟩
 f31:=Tryz.func202.trans (congrArg some (by kernel_rfl))
 f32:=Tryz.func203.trans (congrArg some (by kernel_rfl))
 f33:=⟨Tryz.f204.name,by kernel_rfl,Tryz.func204.trans (congrArg some (by kernel_rfl))⟩
 f34:=⟨Tryz.f205.name,by kernel_rfl,Tryz.func205.trans (congrArg some (by kernel_rfl))⟩
 f35:=⟨Tryz.f167.name,by kernel_rfl,Tryz.func167.trans (congrArg some (by kernel_rfl))⟩
 f40:=⟨Tryz.f210.name,by kernel_rfl,Tryz.func210.trans (congrArg some (by kernel_rfl))⟩
 t0:=Tryz.underlying0
 a0:=Tryz.isAgg0
 z0:=Tryz.sizeOf0
 v0:=Tryz.zeroValue0
 t3:=Tryz.underlying3
 a3:=Tryz.isAgg3
 z3:=Tryz.sizeOf3
 v3:=Tryz.zeroValue3
 t4:=Tryz.underlying4
 a4:=Tryz.isAgg4
 z4:=Tryz.sizeOf4
 v4:=Tryz.zeroValue4
 t5:=Tryz.underlying5
 a5:=Tryz.isAgg5
 z5:=Tryz.sizeOf5
 v5:=Tryz.zeroValue5
 t9:=Tryz.underlying9
 a9:=Tryz.isAgg9
 z9:=Tryz.sizeOf9
 v9:=Tryz.zeroValue9
 t22:=Tryz.underlying25
 a22:=Tryz.isAgg25
 z22:=Tryz.sizeOf25
 v22:=Tryz.zeroValue25
 t23:=Tryz.underlying25
 a23:=Tryz.isAgg25
 z23:=Tryz.sizeOf25
 v23:=Tryz.zeroValue25
 t25:=Tryz.underlying3
 a25:=Tryz.isAgg3
 z25:=Tryz.sizeOf3
 v25:=Tryz.zeroValue3
 t32:=Tryz.underlying200
 a32:=Tryz.isAgg200
 z32:=Tryz.sizeOf200
 v32:=Tryz.zeroValue200
 t35:=Tryz.underlying206
 a35:=Tryz.isAgg206
 z35:=Tryz.sizeOf206
 v35:=Tryz.zeroValue206
 t36:=Tryz.underlying207
 a36:=Tryz.isAgg207
 z36:=Tryz.sizeOf207
 v36:=Tryz.zeroValue207
 t41:=Tryz.underlying190
 a41:=Tryz.isAgg190
 z41:=Tryz.sizeOf190
 v41:=Tryz.zeroValue190
 t44:=Tryz.underlying213
 a44:=Tryz.isAgg213
 z44:=Tryz.sizeOf213
 v44:=Tryz.zeroValue213
 t46:=Tryz.underlying22
 a46:=Tryz.isAgg22
 z46:=Tryz.sizeOf22
 v46:=Tryz.zeroValue22
 t53:=Tryz.underlying221
 a53:=Tryz.isAgg221
 z53:=Tryz.sizeOf221
 v53:=Tryz.zeroValue221
 t57:=Tryz.underlying224
 a57:=Tryz.isAgg224
 z57:=Tryz.sizeOf224
 v57:=Tryz.zeroValue224
 t63:=Tryz.underlying229
 a63:=Tryz.isAgg229
 z63:=Tryz.sizeOf229
 v63:=Tryz.zeroValue229
 t64:=Tryz.underlying230
 a64:=Tryz.isAgg230
 z64:=Tryz.sizeOf230
 v64:=Tryz.zeroValue230
end Go.Proofs
namespace Go.Lw
open Go.Proofs
theorem aaV (kK off cap:Nat) (zs:List Int) (w:World) (hH:Go.Sort.Holds (Value.int .i64) w kK off zs.toArray) (ad_:kK<w.heap.size) (cV:zs.length<4611686018427387904) :
  Calls Tryz.prog 163 #[.slice (some ⟨kK,off,none⟩) zs.length cap] w fun e w' =>
   e = .returned (.tuple #[])∧∃ n os,w'=Go.Sort.grow (Go.Sort.putRow (Value.int .i64) (Go.Sort.ahead w n) kK off (tR zs).toArray) os :=
 calls_of_every_depth fun D=>AnySM.slices_Sort_int_in Tryz.Rz D kK off cap zs w hH ad_ cV
theorem SD {w:World} {s A:aj} {os:List aj} {xs:List Int} {a:Option Addr} {c:Nat} {el:TypeId} (hg:ak w s (A::os)) (ho:aW (ax .i64) 1 el s A a c xs) (cV:xs.length*8≤140737488355328) :
  Calls Tryz.prog 163 #[.slice a xs.length c] w (aw w s os fun s' A' r=>r = .tuple #[]∧s'=s∧aW (ax .i64) 1 el s' A' a c (tR xs)):=by
 rcases ho with ⟨rfl,rfl,rfl⟩ | ⟨g,cs,rfl,hA,hl,hc,dr,cD⟩
 refine (AnyM.slices_Sort_int_none Tryz.Rz none 0 w).mono ?_
 rintro e w' ⟨rfl,rfl⟩
 exact aw.mq hg ⟨rfl,rfl,.inl ⟨rfl,rfl,by simp[tR]⟩⟩
 obtain⟨h1,h2⟩:=HV cD
 rw[Nat.mul_one] at h1 dr
 have hw:=hg.1 g _ hA
 have be:g<w.heap.size:=hg.1.lt (by rw[hA];simp)
 have hH:Go.Sort.Holds (Value.int .i64) w g 0 xs.toArray:=by
  intro j hj
  have kR:j<xs.length:=by simpa using hj
  have e:cs.toList[j]?=(xs.map (Value.int .i64))[j]?:=by
   rw[←h1,List.getElem?_take,if_pos kR]
  have e2:cs[j]?=some (Value.int .i64 xs[j]):=by
   rw[←Array.getElem?_toList,e];simp[kR]
  have e3:xs.toArray[j]! = xs[j]:=by simp[kR]
  rw[e3]
  exact⟨by simp[World.cell?,hw,e2],by simp[World.frozen?,hw]⟩
 refine (aaV g 0 c xs w hH be (by omega)).mono ?_
 rintro e w' ⟨rfl,n,ns,rfl⟩
 obtain⟨fh,jq⟩:=ak.putRow (n:=n) (ts:=tR xs) (ns:=ns) hg hA
 refine aw.mq fh ⟨rfl,rfl,.inr ⟨g,Go.Sort.putCells (Value.int .i64) 0 (tR xs).toArray cs,rfl,dq _ _ _,by rw[HY];exact hl,hc,by simp[Go.Sort.putCells];omega,?_⟩⟩
 rw[Nat.mul_one,Y2 cs (tR xs) (by rw[HY];omega)]
 exact FS fun x hx=>h2 x ((KJ xs).mem_iff.1 hx)
end Go.Lw
namespace Go.Lw
open Go.Proofs
def most (n:Int):Int:=if n<1 then 0 else n / 2+1
theorem IX {w:World} {s:aj} {os:List aj} {n:Int} (hg:ak w s os) (hn:aq .i64 n) :
  Calls Tryz.prog 166 #[i64 n] w (aQ w s os fun r=>r=i64 (most n)):=by
 simp only[aq] at hn
 refine enter (l:=[i64 n]) Tryz.func166 rfl Tryz.ntmps166 rfl ?_
 refine go 4 ?_
 refine CW.seq (CW.seq (CW.plain ?_))
 refine go 3 ?_
 refine CW.test rfl (fun h=>?_) (fun h=>?_)
 refine CW.seq (CW.plain ?_)
 refine go 2 ?_
 exact CW.ret (ret (vs:=[_]) ⟨_,_,rfl,rfl,rfl⟩ (aQ.mk hg (ar.refl _) (by rw[most,if_pos h];rfl)))
 refine CW.skip ?_
 refine go 3 ?_
 refine RL.quo rfl rfl rfl rfl rfl rfl ((by omega)) ((by decide)) ((by simp only[aq];omega)) ?_
 refine go 3 ?_
 exact CW.ret (ret (vs:=[_]) ⟨_,_,rfl,rfl,rfl⟩ (aQ.mk hg (ar.refl _) (by rw[most,if_neg h];rfl)))
theorem TT {α:Type} (p:α→Bool) (xs:List α) (k:Nat) (hk:k<xs.length):(xs.take (k+1)).countP p=(xs.take k).countP p+if p xs[k] then 1 else 0:=by
 rw[List.take_succ_eq_append_getElem hk,List.countP_append,List.countP_singleton]
theorem MI {w:World} {s:aj} {os:List aj} {xs:List Int} {xa:Option Addr} {xc g:Nat} {cap:Array Value} {p:Int→Bool} (hg:ak w s os) (hx:fD s xa xc xs) (hc:km Tryz.prog g=true)
  (hp:∀ x∈xs,∀ w',ak w' s os→Calls Tryz.prog g (#[i64 x]++cap) w' (aQ w' s os fun r=>r = .bool (p x))) :
  Calls Tryz.prog 172 #[.slice xa xs.length xc,.func (.func g) #[] cap] w (aQ w s os fun r=>r=i64 (xs.countP p)):=by
 refine enter (l:=[.slice xa xs.length xc,.func (.func g) #[] cap]) Tryz.func172 rfl Tryz.ntmps172 rfl ?_
 refine go 8 ?_
 refine CW.seq (CW.seq (CW.plain ?_))
 refine go 4 ?_
 have bV:=hx.gL
 simp only[maxLen] at bV
 refine CW.block (CW.loop (σ:=Nat) (fun j E w'=>ak w' s os∧ar w w'∧∃ k:Nat,E=[(1,.func (.func g) #[] cap),(5,i64 ((xs.take k).countP p)),(8,.slice xa xs.length xc),(9,i64 xs.length),(10,i64 k)]∧k+j=xs.length)
  (fun j=>j) xs.length [(1,.func (.func g) #[] cap),(5,i64 0),(8,.slice xa xs.length xc),(9,i64 xs.length),(10,i64 0)] ⟨rfl,rfl,rfl,rfl,rfl,trivial⟩ ⟨hg,ar.refl _,0,rfl,by omega⟩ ?_)
 rintro j E w1 ⟨aH,aN,k,rfl,hk⟩
 refine go 4 ?_
 refine CW.seq (CW.test rfl (fun h=>?_) (fun h=>?_))
 refine CW.skip ?_
 have cv:k<xs.length:=by omega
 have kO:(xs.take k).countP p≤k:=Nat.le_trans List.countP_le_length (by simp;omega)
 refine CW.seq (CW.block (CW.seq (CW.plain ?_)))
 refine RL.cW rfl rfl rfl rfl bC.out rfl rfl (hx) (by omega) (by omega) ?_
 rintro q vs eH hH ⟨rfl,p5⟩
 refine RL.load rfl rfl rfl rfl ey.out rfl (hH) (aH.sh) rfl ?_
 refine go 6 ?_
 refine RL.tj rfl rfl rfl rfl rfl rfl hc (hp xs[k] (List.getElem_mem cv) w1 aH) ?_
 rintro e w2 ⟨v2,rfl,aS,aR,rfl⟩
 refine⟨_,rfl,trivial,?_⟩
 refine go 1 ?_
 refine CW.cond rfl (fun hb=>?_) (fun hb=>?_)
 refine CW.plain ?_
 refine go 8 ?_
 cases j with
 | zero=>omega
 | succ j =>
  refine fun ac ha=>⟨j,[(1,.func (.func g) #[] cap),(5,i64 ((xs.take (k+1)).countP p)),(8,.slice xa xs.length xc),(9,i64 xs.length),(10,i64 ((k:Int)+1))],ha.sub ⟨rfl,by rw[TT p xs k cv,if_pos hb];rfl,rfl,rfl,rfl,trivial⟩,⟨aS,aN.trans aR,k+1,rfl,by omega⟩,Nat.lt_succ_self j⟩
 refine CW.skip ?_
 refine go 4 ?_
 cases j with
 | zero=>omega
 | succ j =>
  refine fun ac ha=>⟨j,[(1,.func (.func g) #[] cap),(5,i64 ((xs.take (k+1)).countP p)),(8,.slice xa xs.length xc),(9,i64 xs.length),(10,i64 ((k:Int)+1))],ha.sub ⟨rfl,by rw[TT p xs k cv,hb];rfl,rfl,rfl,rfl,trivial⟩,⟨aS,aN.trans aR,k+1,rfl,by omega⟩,Nat.lt_succ_self j⟩
 refine CW.exit (CW.seq (CW.plain ?_))
 have cv:k=xs.length:=by omega
 subst cv
 refine go 3 ?_
 exact CW.ret (ret (vs:=[_]) ⟨_,_,rfl,rfl,rfl⟩ (aQ.mk aH aN (by rw[List.take_length];rfl)))
theorem XU {w:World} {s:aj} {os:List aj} {xs:List Int} {xa:Option Addr} {xc:Nat} (hg:ak w s os) (hx:fD s xa xc xs) (hl:xs.length*8≤140737488355328) :
  Calls Tryz.prog 164 #[.slice xa xs.length xc] w (aw w s os fun s' A v=>s'=s∧∃ a c,v = .slice a (cZ xs).length c∧ib s' A a c (cZ xs)):=by
 refine enter (l:=[.slice xa xs.length xc]) Tryz.func164 rfl Tryz.ntmps164 rfl ?_
 refine go 8 ?_
 refine zc (sZ hg (.inl rfl) hx.2.2 hl) ?_
 rintro v1 s1 A1 w1 eu aH aN ⟨rfl,a1,c1,rfl,nU⟩
 refine go 7 ?_
 refine zc (SD aH nU hl) ?_
 rintro v2 s2 A2 w2 jb aS aR ⟨rfl,rfl,mO⟩
 refine go 6 ?_
 refine zc (Se aS mO (HY xs).symm) ?_
 rintro v3 s3 A3 w3 cO aP bw ⟨rfl,rfl,tE⟩
 refine go 3 ?_
 exact CW.ret (ret (vs:=[_]) ⟨_,_,rfl,rfl,rfl⟩ (aw.mk (Le.refl _) aP (aN.trans (aR.trans bw)) ⟨rfl,a1,c1,rfl,tE⟩))
end Go.Lw
namespace Go.Lw
open Go.Proofs
def oY (v ys:List Int):Bool:=decide (0<v.length) && decide (most v.length≤(v.countP fun x=>decide (x∈ys):Nat))
theorem adF {v v' ys:List Int} (h:v.Perm v'):oY v ys=oY v' ys:=by rw[oY,oY,h.length_eq,h.countP_eq]
theorem Id {n:Nat} (h:n≤9223372036854775807):aq .i64 (n:Int):=by simp only[aq];omega
end Go.Lw
namespace Go.Lw
open Go.Proofs
abbrev nD:=Int × Bool
def g8:aj→List Value→nD→Prop:=fun _ vs x=>vs=[i64 x.1,.bool x.2]∧aq .i64 x.1
theorem g8.up:Up g8:=fun _ _ _ _ _ h=>h
theorem g8.one:lN g8:=fun _ vs x h v hv=>by rw[h.1] at hv;simp at hv;rcases hv with rfl | rfl<;>rfl
abbrev IR (s:aj) (a:Option Addr) (c:Nat) (xs:List nD):Prop:=bm g8 2 s a c xs
def vr (n:Int) (b:nD):Bool:=b.1==n
def aT (l:List nD) (n:Int):Option Bool:=(l.find? (vr n)).map (·.2)
def says (l:List nD) (y:Bool) (n:Int):Bool:=aT l n==some y
def kC (v:List Int) (l:List nD):Int :=
 if 0<v.length∧most v.length≤(v.countP (says l true):Nat) then 1 else if (v.length:Int)-(v.countP (says l false):Nat)<most v.length then -1 else 0
theorem acn {α:Type} {p:α→Bool} {xs:List α} {k:Nat} (hk:k<xs.length) (h:(xs.take k).find? p=none) (hp:p xs[k]=false):(xs.take (k+1)).find? p=none:=by
 rw[List.take_succ_eq_append_getElem hk,List.find?_append,h]
 simp[hp]
theorem aco {α:Type} {p:α→Bool} {xs:List α} {k:Nat} (hk:k<xs.length) (h:(xs.take k).find? p=none) (hp:p xs[k]=true):xs.find? p=some xs[k]:=by
 have e:xs=xs.take k++(xs[k]::xs.drop (k+1)):=by simp
 have e2:=congrArg (List.find? p) e
 rw[List.find?_append,h] at e2
 rw[e2,List.find?_cons,hp]
 rfl
theorem aao {w:World} {s:aj} {os:List aj} {xs:List nD} {xa:Option Addr} {xc g:Nat} {cap:Array Value} {p:nD→Bool} (hg:ak w s os) (hx:IR s xa xc xs) (hc:km Tryz.prog g=true)
  (hp:∀ x∈xs,∀ w',ak w' s os→Calls Tryz.prog g (#[.agg #[i64 x.1,.bool x.2]]++cap) w' (aQ w' s os fun r=>r = .bool (p x))) :
  Calls Tryz.prog 170 #[.slice xa xs.length xc,.func (.func g) #[] cap] w
   (aQ w s os fun r=>∃ i:Int,r=i64 i∧aq .i64 i∧((i<0∧xs.find? p=none)∨(0≤i∧∃ h:i.toNat<xs.length,xs.find? p=some xs[i.toNat]))):=by
 refine enter (l:=[.slice xa xs.length xc,.func (.func g) #[] cap]) Tryz.func170 rfl Tryz.ntmps170 rfl ?_
 refine go 4 ?_
 refine CW.seq (CW.seq (CW.plain ?_))
 refine go 4 ?_
 have bV:=hx.gL
 simp only[maxLen] at bV
 refine CW.block (CW.loop (σ:=Nat) (fun j E w'=>ak w' s os∧ar w w'∧∃ k:Nat,E=[(0,.slice xa xs.length xc),(1,.func (.func g) #[] cap),(7,i64 xs.length),(8,i64 k)]∧k+j=xs.length∧(xs.take k).find? p=none)
  (fun j=>j) xs.length [(0,.slice xa xs.length xc),(1,.func (.func g) #[] cap),(7,i64 xs.length),(8,i64 0)] ⟨rfl,rfl,rfl,rfl,trivial⟩ ⟨hg,ar.refl _,0,rfl,by omega,rfl⟩ ?_)
 rintro j E w1 ⟨aH,aN,k,rfl,hk,bW⟩
 refine go 4 ?_
 refine CW.seq (CW.test rfl (fun h=>?_) (fun h=>?_))
 refine CW.skip ?_
 have cv:k<xs.length:=by omega
 refine CW.seq (CW.block (CW.seq (CW.plain ?_)))
 refine go 8 ?_
 refine RL.cW rfl rfl rfl rfl vF.out rfl rfl (hx) (by omega) (by omega) ?_
 rintro q vs eH hH ⟨rfl,p5⟩
 refine RL.gX rfl rfl rfl rfl aku.out rfl (hH) (aH.sh) rfl rfl ?_
 refine RL.tj rfl rfl rfl rfl rfl rfl hc (hp xs[k] (List.getElem_mem cv) w1 aH) ?_
 rintro e w2 ⟨v2,rfl,aS,aR,rfl⟩
 refine⟨_,rfl,trivial,?_⟩
 refine go 1 ?_
 refine CW.cond rfl (fun hb=>?_) (fun hb=>?_)
 refine CW.seq (CW.plain ?_)
 refine go 3 ?_
 exact CW.ret (ret (vs:=[_]) ⟨_,_,rfl,rfl,rfl⟩ (aQ.mk aS (aN.trans aR) ⟨k,rfl,by simp only[aq];omega,.inr ⟨by omega,by omega,aco cv bW hb⟩⟩))
 refine CW.skip ?_
 refine go 4 ?_
 cases j with
 | zero=>omega
 | succ j =>
  refine fun ac ha=>⟨j,[(0,.slice xa xs.length xc),(1,.func (.func g) #[] cap),(7,i64 xs.length),(8,i64 ((k:Int)+1))],ha.sub ⟨rfl,rfl,rfl,rfl,trivial⟩,⟨aS,aN.trans aR,k+1,rfl,by omega,acn cv bW hb⟩,Nat.lt_succ_self j⟩
 refine CW.exit (CW.seq (CW.plain ?_))
 have cv:k=xs.length:=by omega
 refine go 2 ?_
 rw[cv,List.take_length] at bW
 exact CW.ret (ret (vs:=[_]) ⟨_,_,rfl,rfl,rfl⟩ (aQ.mk aH aN ⟨-1,rfl,by simp only[aq];omega,.inl ⟨by decide,bW⟩⟩))
theorem ahu {w:World} {s:aj} {os:List aj} {x:nD} {n:Int} {b:Nat} (hg:ak w s os) (hb:Holds s ⟨b,0,none⟩ [i64 n]) :
  Calls Tryz.prog 171 #[.agg #[i64 x.1,.bool x.2],ptr b] w (aQ w s os fun r=>r = .bool (vr n x)):=by
 refine enter (l:=[.agg #[i64 x.1,.bool x.2],ptr b]) Tryz.func171 rfl Tryz.ntmps171 rfl ?_
 refine go 2 ?_
 refine RL.box rfl rfl rfl rfl rfl hg ?_
 rintro p w1 aH aN
 refine go 6 ?_
 refine RL.load rfl rfl rfl rfl ey.out rfl ((Holds.of (if_pos rfl))) (aH.1) rfl ?_
 refine RL.load (j:=0) rfl rfl rfl rfl ey.out rfl (hb) (aH.sh) rfl ?_
 refine go 3 ?_
 exact CW.ret (ret (vs:=[_]) ⟨_,_,rfl,rfl,rfl⟩ (aQ.mk aH.drop aN rfl))
theorem Rt {w:World} {s:aj} {os:List aj} {l:List nD} {la:Option Addr} {lc b1 b2:Nat} {n:Int} {y:Bool} (hg:ak w s os) (hl:IR s la lc l) (h1:Holds s ⟨b1,0,none⟩ [.slice la l.length lc]) (h2:Holds s ⟨b2,0,none⟩ [.bool y]) :
  Calls Tryz.prog 169 #[i64 n,ptr b1,ptr b2] w (aQ w s os fun r=>r = .bool (says l y n)):=by
 refine enter (l:=[i64 n,ptr b1,ptr b2]) Tryz.func169 rfl Tryz.ntmps169 rfl ?_
 refine go 2 ?_
 refine RL.box rfl rfl rfl rfl rfl hg ?_
 rintro p w1 aH aN
 refine go 3 ?_
 obtain⟨D8,bN,gV,ad9⟩:=aH.CB
 have hp:Holds (s.eN (aj.one p (.cells #[i64 n] 3))) ⟨p,0,none⟩ [i64 n]:=(Holds.of (if_pos rfl)).le gV
 refine go 2 ?_
 refine RL.load (j:=0) rfl rfl rfl rfl Zf.out rfl (h1) (aH.sh) rfl ?_
 refine RL.tO rfl rfl rfl rfl rfl ?_
 refine go 1 ?_
 refine zw (aao D8 (hl.up g8.up bN) abz.out (p:=vr n) (fun x _ w' fh=>ahu fh hp)) ?_
 rintro v2 w2 aS aR ⟨i,rfl,Ex,Vv⟩
 refine go 3 ?_
 have GJ:=ad9 w2 aS
 refine go 1 ?_
 refine CW.iA [(true,0),(true,1),(true,2),(true,3),(true,4),(true,5),(true,6),(true,7),(true,8),(true,9),(true,10),(false,11)] (fun w'=>ak w' s os) mixed (by kernel_rfl) (by kernel_rfl) (by kernel_rfl) (by kernel_rfl) GJ.drop.drew ?_
 refine go 3 ?_
 refine RL.part 11 rfl (fun h=>?_) (fun h=>?_)
 have hi:0≤i:=by simpa using h
 rcases Vv with ⟨h0,_⟩ | ⟨h0,fK,hf⟩
 omega
 refine RL.fV (j:=0) rfl rfl rfl rfl Zf.out rfl (h1) (fun w h=>h.sh) rfl ?_
 refine go 1 ?_
 refine RL.cW rfl rfl rfl rfl vF.out rfl rfl (hl) (h0) (by omega) ?_
 rintro q vs eH hH ⟨rfl,p5⟩
 refine go 1 ?_
 refine RL.fV rfl rfl rfl rfl Zg.out rfl (hH) (fun w h=>h.sh) rfl ?_
 refine RL.fV (j:=0) rfl rfl rfl rfl Zg.out rfl (h2) (fun w h=>h.sh) rfl ?_
 refine RL.bEq rfl rfl rfl rfl Tryz.underlying4 rfl rfl ?_
 refine go 3 ?_
 refine CW.ret (ret (vs:=[_]) ⟨_,_,rfl,rfl,rfl⟩ (aQ.mk GJ.drop.drew (aN.trans (aR.trans (ar.drew _))) (congrArg Value.bool ?_)))
 rw[says,aT,hf]
 simp
 have hi:i<0:=by simpa using h
 rcases Vv with ⟨_,hf⟩ | ⟨h0,fK,hf⟩
 refine RL.pass rfl rfl rfl ?_
 refine go 9 ?_
 refine CW.ret (ret (vs:=[_]) ⟨_,_,rfl,rfl,rfl⟩ (aQ.mk GJ.drop.drew (aN.trans (aR.trans (ar.drew _))) (congrArg Value.bool ?_)))
 rw[says,aT,hf]
 simp
 omega
theorem Rs {w:World} {s:aj} {os:List aj} {b1:Nat} {y:Bool} (hg:ak w s os) :
  Calls Tryz.prog 168 #[.bool y,ptr b1] w (aw w s os fun _ A r=>∃ b2,A b2=some (.cells #[.bool y] 4)∧r = .func (.func 169) #[] #[ptr b1,ptr b2]):=by
 refine enter (l:=[.bool y,ptr b1]) Tryz.func168 rfl Tryz.ntmps168 rfl ?_
 refine go 2 ?_
 refine RL.box rfl rfl rfl rfl rfl hg ?_
 rintro p w1 aH aN
 refine go 5 ?_
 refine RL.tO rfl rfl rfl rfl rfl ?_
 refine go 2 ?_
 exact CW.ret (ret (vs:=[_]) ⟨_,_,rfl,rfl,rfl⟩ (aw.mk (Le.refl _) aH aN ⟨p,if_pos rfl,rfl⟩))
theorem aaX {w:World} {s:aj} {os:List aj} {xs:List Int} {l:List nD} {xa la:Option Addr} {xc lc:Nat} (hg:ak w s os) (hx:fD s xa xc xs) (hl:IR s la lc l) (hb:xs.length*8≤140737488355328) :
  Calls Tryz.prog 147 #[.slice xa xs.length xc,.slice la l.length lc] w (aw w s os fun _ _ r=>r=i64 (kC (cZ xs) l)):=by
 have Cq:=It xs
 refine enter (l:=[.slice xa xs.length xc,.slice la l.length lc]) Tryz.func147 rfl Tryz.ntmps147 rfl ?_
 refine go 2 ?_
 refine RL.box rfl rfl rfl rfl rfl hg ?_
 rintro b w1 aH aN
 refine go 3 ?_
 obtain⟨s1,D8,eu,Bn⟩:=aH.bY
 have h1:Holds s1 ⟨b,0,none⟩ [.slice la l.length lc]:=(Holds.of (if_pos rfl)).le Bn
 refine go 4 ?_
 refine zc (XU D8 (hx.up (ax.up _) eu) hb) ?_
 rintro v2 s2 A2 w2 jb aS aR ⟨rfl,a2,c2,rfl,mO⟩
 refine go 3 ?_
 obtain⟨s3,aP,cO,Nr⟩:=aS.bY
 have hv:fD s3 a2 c2 (cZ xs):=mO.ci (ax.up _) cO Nr
 have xP:IR s3 la lc l:=hl.up g8.up (eu.trans cO)
 have hP:∀ (y:Bool) (p:Int→Bool),(cZ xs).countP p≤(cZ xs).length:=fun _ p=>List.countP_le_length
 have hR:∀ n:Nat,n≤(cZ xs).length→aq .i64 (n:Int):=fun n hn=>Id (by omega)
 refine go 2 ?_
 refine RL.tO rfl rfl rfl rfl rfl ?_
 refine go 2 ?_
 have apQ:∀ n:Nat,n≤140737488355328→0≤most n∧most n≤n+1:=fun n _=>by unfold most;split<;>omega
 refine CW.seq (CW.block (CW.seq (CW.plain ?_)))
 -- the first case
 refine go 4 ?_
 refine RL.part 14 rfl (fun h=>?_) (fun h=>?_)
 have h':0<(cZ xs).length:=by simpa using h
 refine go 2 ?_
 refine RL.tj rfl rfl rfl rfl rfl rfl Mx.out (Rs (b1:=b) (y:=true) aP) ?_
 rintro e w4 ⟨v4,s4,A4,rfl,fL,bp,bJ,b4,hA4,rfl⟩
 refine⟨_,rfl,trivial,?_⟩
 obtain⟨s5,bh,dz,uF⟩:=bp.bY
 refine go 1 ?_
 refine zw (MI bh (hv.up (ax.up _) (fL.trans dz)) My.out (p:=says l true) (fun x hx w' fh=>Rt fh (xP.up g8.up (fL.trans dz)) (h1.le (cO.trans (fL.trans dz))) ((Holds.of hA4).le uF))) ?_
 rintro v6 w6 bx bM rfl
 refine go 4 ?_
 refine zw (IX bx (Id (by omega))) ?_
 rintro v7 w7 bO cj rfl
 refine go 5 ?_
 refine CW.test rfl (fun hc=>?_) (fun hc=>?_)
 refine CW.seq (CW.plain ?_)
 refine go 2 ?_
 refine CW.ret (ret (vs:=[_]) ⟨_,_,rfl,rfl,rfl⟩ (aw.mk (eu.trans (cO.trans (fL.trans dz))) bO.nil (aN.trans (aR.trans (bJ.trans (bM.trans cj)))) (congrArg i64 ?_)))
 rw[kC,if_pos ⟨h',by omega⟩]
 have Hi:¬ (0<(cZ xs).length∧most (cZ xs).length≤((cZ xs).countP (says l true):Nat)):=by omega
 refine go 6 ?_
 refine RL.tj rfl rfl rfl rfl rfl rfl Mx.out (Rs (b1:=b) (y:=false) bO) ?_
 rintro e nw ⟨Iw,vE,yL,rfl,gm,ck,g_,te,xD,rfl⟩
 refine⟨_,rfl,trivial,?_⟩
 obtain⟨CT,dt,gn,Jv⟩:=ck.bY
 have l3:=(fL.trans dz:Le s3 _)
 refine go 1 ?_
 refine zw (MI dt (hv.up (ax.up _) (l3.trans (gm.trans gn))) My.out (p:=says l false) (fun x hx w' fh=>Rt fh (xP.up g8.up (l3.trans (gm.trans gn))) (h1.le (cO.trans (l3.trans (gm.trans gn)))) ((Holds.of xD).le Jv))) ?_
 rintro w_ md eC ie rfl
 refine go 1 ?_
 have fT:=hP false (says l false)
 refine go 4 ?_
 refine zw (IX eC (Id (by omega))) ?_
 rintro C5 ny eZ hY rfl
 refine go 4 ?_
 refine CW.test rfl (fun hd=>?_) (fun hd=>?_)
 refine CW.seq (CW.plain ?_)
 refine go 2 ?_
 refine CW.ret (ret (vs:=[_]) ⟨_,_,rfl,rfl,rfl⟩ (aw.mk ((eu.trans (cO.trans (fL.trans dz))).trans (gm.trans gn)) eZ.nil ((aN.trans (aR.trans (bJ.trans (bM.trans cj)))).trans (g_.trans (ie.trans hY))) (congrArg i64 ?_)))
 rw[kC,if_neg Hi,if_pos hd]
 refine CW.skip ?_
 refine go 4 ?_
 refine CW.ret (ret (vs:=[_]) ⟨_,_,rfl,rfl,rfl⟩ (aw.mk ((eu.trans (cO.trans (fL.trans dz))).trans (gm.trans gn)) eZ.nil ((aN.trans (aR.trans (bJ.trans (bM.trans cj)))).trans (g_.trans (ie.trans hY))) (congrArg i64 ?_)))
 rw[kC,if_neg Hi,if_neg hd]
 have h':¬ 0<(cZ xs).length:=by simpa using h
 have Hi:¬ (0<(cZ xs).length∧most (cZ xs).length≤((cZ xs).countP (says l true):Nat)):=by omega
 refine go 11 ?_
 refine CW.cond rfl (fun hc=>?_) (fun _=>?_)
 cases hc
 refine go 6 ?_
 refine RL.tj rfl rfl rfl rfl rfl rfl Mx.out (Rs (b1:=b) (y:=false) aP) ?_
 rintro e nw ⟨Iw,vE,yL,rfl,gm,ck,g_,te,xD,rfl⟩
 refine⟨_,rfl,trivial,?_⟩
 obtain⟨CT,dt,gn,Jv⟩:=ck.bY
 have l3:=(Le.refl _:Le s3 _)
 refine go 1 ?_
 refine zw (MI dt (hv.up (ax.up _) (l3.trans (gm.trans gn))) My.out (p:=says l false) (fun x hx w' fh=>Rt fh (xP.up g8.up (l3.trans (gm.trans gn))) (h1.le (cO.trans (l3.trans (gm.trans gn)))) ((Holds.of xD).le Jv))) ?_
 rintro w_ md eC ie rfl
 refine go 1 ?_
 have fT:=hP false (says l false)
 refine go 4 ?_
 refine zw (IX eC (Id (by omega))) ?_
 rintro C5 ny eZ hY rfl
 refine go 4 ?_
 refine CW.test rfl (fun hd=>?_) (fun hd=>?_)
 refine CW.seq (CW.plain ?_)
 refine go 2 ?_
 refine CW.ret (ret (vs:=[_]) ⟨_,_,rfl,rfl,rfl⟩ (aw.mk ((eu.trans cO).trans (gm.trans gn)) eZ.nil ((aN.trans aR).trans (g_.trans (ie.trans hY))) (congrArg i64 ?_)))
 rw[kC,if_neg Hi,if_pos hd]
 refine CW.skip ?_
 refine go 4 ?_
 refine CW.ret (ret (vs:=[_]) ⟨_,_,rfl,rfl,rfl⟩ (aw.mk ((eu.trans cO).trans (gm.trans gn)) eZ.nil ((aN.trans aR).trans (g_.trans (ie.trans hY))) (congrArg i64 ?_)))
 rw[kC,if_neg Hi,if_neg hd]
end Go.Lw
namespace Go.Lw
open Go.Proofs
end Go.Lw
namespace Go.Lw
theorem MH (p q:Int→Bool):∀ v:List Int,v.countP p+v.countP q≤v.length+v.countP fun x=>p x && q x
 | []=>by simp
 | x::v=>by
  have:=MH p q v
  simp only[List.countP_cons,List.length_cons]
  cases p x<;>cases q x<;>simp<;>omega
theorem XF {n:Nat} (h:0<n):most (n:Int)=n / 2+1:=by unfold most;rw[if_neg (by omega)]
theorem JJ {v ys:List Int} (h:oY v ys=true):0<v.length∧v.length / 2+1≤v.countP fun x=>decide (x∈ys):=by
 simp only[oY,Bool.and_eq_true,decide_eq_true_eq] at h
 obtain⟨h1,h2⟩:=h
 rw[XF h1] at h2
 omega
theorem QH {v us zs:List Int} (h1:oY v us=true) (h2:oY v zs=true):∃ x,x∈us∧x∈zs:=by
 obtain⟨h3,h4⟩:=JJ h1
 obtain⟨_,h6⟩:=JJ h2
 have h7:=MH (fun x=>decide (x∈us)) (fun x=>decide (x∈zs)) v
 have h8:0<v.countP fun x=>decide (x∈us) && decide (x∈zs):=by omega
 obtain⟨x,_,hx⟩:=List.countP_pos_iff.1 h8
 simp only[Bool.and_eq_true,decide_eq_true_eq] at hx
 exact⟨x,hx⟩
theorem akx (xs:List Int) (m:Int):(cZ (xs++[m])).Perm (if m∈xs then cZ xs else m::cZ xs):=by
 split
 rename_i h
 refine (List.perm_ext_iff_of_nodup (Fp _) (Fp _)).2 fun y=>?_
 simp only[sU,List.mem_append,List.mem_singleton]
 exact⟨fun h'=>h'.elim id fun e=>e▸h,.inl⟩
 rename_i h
 refine (List.perm_ext_iff_of_nodup (Fp _) (List.nodup_cons.2 ⟨by rw[sU];exact h,Fp _⟩)).2 fun y=>?_
 simp only[sU,List.mem_append,List.mem_cons,List.not_mem_nil,or_false]
 exact Or.comm
theorem XB {xs us zs:List Int} {m:Int} (h1:oY (cZ xs) us=true) (h2:oY (cZ (xs++[m])) zs=true):∃ x,x∈us∧x∈zs:=by
 rw[adF (akx xs m)] at h2
 split at h2
 exact QH h1 h2
 obtain⟨h3,h4⟩:=JJ h1
 obtain⟨_,h6⟩:=JJ h2
 have h7:=MH (fun x=>decide (x∈us)) (fun x=>decide (x∈zs)) (cZ xs)
 simp only[List.countP_cons,List.length_cons] at h6
 have h8:0<(cZ xs).countP fun x=>decide (x∈us) && decide (x∈zs):=by split at h6<;>omega
 obtain⟨x,_,hx⟩:=List.countP_pos_iff.1 h8
 simp only[Bool.and_eq_true,decide_eq_true_eq] at hx
 exact⟨x,hx⟩
end Go.Lw
namespace Go.Lw
structure cK where
 node:Int
 next:Int
 cA:Int
def mx (a b:Int):Int:=if b>a then b else a
def Xw (x:Int) (n:Int) (p:cK):Int:=if p.node==x then mx n p.cA else n
def fW (l:List cK) (x:Int):Int:=l.foldl (Xw x) 0
theorem ahS (l:List cK) (x:Int) (k:Nat) (hk:k<l.length):fW (l.take (k+1)) x=Xw x (fW (l.take k) x) l[k]:=by
 rw[List.take_succ_eq_append_getElem hk,fW,List.foldl_append];rfl
theorem ah5 (a b:Int):a≤mx a b∧b≤mx a b∧(mx a b=a∨mx a b=b):=by unfold mx;split<;>omega
theorem M5 {α:Type} (q:α→Bool) (f:α→Int):∀ (l:List α) (b0:Int),b0≤l.foldl (fun n x=>if q x then mx n (f x) else n) b0∧(∀ x∈l,q x=true→f x≤l.foldl (fun n x=>if q x then mx n (f x) else n) b0) ∧
  (l.foldl (fun n x=>if q x then mx n (f x) else n) b0=b0∨∃ x∈l,q x=true∧f x=l.foldl (fun n x=>if q x then mx n (f x) else n) b0)
 | [],b0=>by simp
 | y::l,b0=>by
  obtain⟨h1,h2,h3⟩:=M5 q f l (if q y then mx b0 (f y) else b0)
  simp only[List.foldl_cons]
  generalize l.foldl (fun n x=>if q x then mx n (f x) else n) (if q y then mx b0 (f y) else b0)=r at *
  obtain⟨m1,m2,m3⟩:=ah5 b0 (f y)
  cases hq:q y with
  | true =>
   simp only[hq,if_true] at h1 h2 h3 ⊢
   refine⟨by omega,fun x hx yi=>?_,?_⟩
   rcases List.mem_cons.1 hx with rfl | hx
   omega
   exact h2 x hx yi
   rcases h3 with h3 | ⟨x,hx,yi,he⟩
   rcases m3 with m3 | m3
   exact .inl (by omega)
   exact .inr ⟨y,by simp,hq,by omega⟩
   exact .inr ⟨x,by simp[hx],yi,he⟩
  | false =>
   simp only[hq,Bool.false_eq_true,if_false] at h1 h2 h3 ⊢
   refine⟨h1,fun x hx yi=>?_,?_⟩
   rcases List.mem_cons.1 hx with rfl | hx
   rw[hq] at yi;cases yi
   exact h2 x hx yi
   rcases h3 with h3 | ⟨x,hx,yi,he⟩
   exact .inl h3
   exact .inr ⟨x,by simp[hx],yi,he⟩
theorem QF (l:List cK) (x:Int):0≤fW l x∧(∀ p∈l,p.node=x→p.cA≤fW l x)∧(fW l x=0∨∃ p∈l,p.node=x∧p.cA=fW l x):=by
 have h:=M5 (fun p:cK=>p.node==x) (·.cA) l 0
 exact⟨h.1,fun p hp hn=>h.2.1 p hp (by simpa using hn),h.2.2.imp id fun ⟨p,h1,h2,h3⟩=>⟨p,h1,by simpa using h2,h3⟩⟩
def uy (M:List Int) (K:Int) (c:Int):Prop:=c∈M∧K≤(M.countP (fun x=>decide (c≤x)):Nat)∧(M.countP (fun x=>decide (c<x)):Nat)<K
theorem uy.perm {M M':List Int} {K c:Int} (h:uy M K c) (hp:M.Perm M'):uy M' K c:=by
 obtain⟨h1,h2,h3⟩:=h
 exact⟨hp.mem_iff.1 h1,by rw[←hp.countP_eq];exact h2,by rw[←hp.countP_eq];exact h3⟩
theorem TS {α:Type} (p q:α→Bool) (l:List α) (h:∀ x∈l,p x=true→q x=true):l.countP p≤l.countP q:=by
 induction l with
 | nil=>simp
 | cons x l ih =>
  have h1:=ih fun y hy=>h y (by simp[hy])
  have h2:=h x (by simp)
  simp only[List.countP_cons]
  cases e1:p x<;>cases e2:q x<;>simp_all<;>omega
theorem uy.SP {M:List Int} {K c d:Int} (h:uy M K c) (hd:K≤(M.countP (fun x=>decide (d≤x)):Nat)):d≤c:=by
 by_cases be:d≤c
 exact be
 have:=TS (fun x=>decide (d≤x)) (fun x=>decide (c<x)) M (fun x _ hx=>by simp at *;omega)
 have h3:=h.2.2
 omega
theorem uy.RN {M:List Int} {K c d:Int} (h:uy M K c) (k:uy M K d):c=d:=Int.le_antisymm (k.SP h.2.1) (h.SP k.2.1)
def Ao (M:List Int) (c:Int):Prop:=(M=[]∧c=0)∨(M≠[]∧uy M (most M.length) c)
theorem Ao.RN {M M':List Int} {c d:Int} (h:Ao M c) (k:Ao M' d) (hp:M.Perm M'):c=d:=by
 rcases h with ⟨rfl,rfl⟩ | ⟨h1,h2⟩
 rcases k with ⟨_,rfl⟩ | ⟨k1,_⟩
 rfl
 exact absurd (List.nil_perm.1 hp) k1
 rcases k with ⟨rfl,_⟩ | ⟨k1,k2⟩
 exact absurd (List.perm_nil.1 hp) h1
 exact (h2.perm hp).RN (by rw[hp.length_eq];exact k2)
theorem ajX {M:List Int} {d:Array Int} (hp:d.toList.Perm M) (hs:∀ i j,i<j→j<d.size→d[i]! ≤ d[j]!) {K:Nat} (h1:1≤K) (hK:K≤d.size):uy M K d[d.size-K]! := by
 have hi:d.size-K<d.size:=by omega
 have nV:∀ i j,i≤j→j<d.size→d[i]! ≤ d[j]! := fun i j iE hj=>by
  rcases Nat.lt_or_eq_of_le iE with h | rfl
  exact hs i j h hj
  exact Int.le_refl _
 have Ec:∀ j,(hj:j<d.size)→d.toList[j]'(by simpa using hj)=d[j]! := fun j hj=>by simp[hj]
 refine uy.perm ⟨?_,?_,?_⟩ hp
 rw[getElem!_pos d _ hi];simp
 have e:d.toList=d.toList.take (d.size-K)++d.toList.drop (d.size-K):=by simp
 rw[e,List.countP_append]
 have:(d.toList.drop (d.size-K)).countP (fun x=>decide (d[d.size-K]! ≤ x))=(d.toList.drop (d.size-K)).length:=by
  rw[List.countP_eq_length]
  intro x hx
  obtain⟨j,hj,rfl⟩:=List.getElem_of_mem hx
  simp only[List.length_drop,Array.length_toList] at hj
  rw[List.getElem_drop,Ec _ (by omega)]
  exact decide_eq_true (nV _ _ (by omega) (by omega))
 rw[this,List.length_drop,Array.length_toList]
 omega
 have e:d.toList=d.toList.take (d.size-K+1)++d.toList.drop (d.size-K+1):=by simp
 rw[e,List.countP_append]
 have:(d.toList.take (d.size-K+1)).countP (fun x=>decide (d[d.size-K]! < x))=0:=by
  rw[List.countP_eq_zero]
  intro x hx
  obtain⟨j,hj,rfl⟩:=List.getElem_of_mem hx
  simp only[List.length_take,Array.length_toList] at hj
  rw[List.getElem_take,Ec _ (by omega)]
  have:=nV j (d.size-K) (by omega) hi
  simp only[decide_eq_true_eq]
  omega
 have h2:=List.countP_le_length (p:=fun x=>decide (d[d.size-K]! < x)) (l:=d.toList.drop (d.size-K+1))
 rw[List.length_drop,Array.length_toList] at h2
 omega
theorem ah2 {n:Nat} (h:0<n):1≤most (n:Int)∧most (n:Int)≤n:=by rw[XF h];omega
end Go.Lw
namespace Go.Lw
open Go.Proofs
open Go.Sort (swp size_swp)
abbrev KK:IntKind:= .u64
abbrev ET:TypeId:=22
def dB (A:aj) (g:Nat) (au:List Value) (d:Array Int):Prop:=A g=some (.cells (d.toList.map (Value.int KK)++au).toArray ET (0,0))
abbrev bf:Int→Int→Bool:=Go.Sort.ltInt
theorem abi (d:Array Int) {m:Nat} (h:m<d.size):d[m]! = d[m]:=getElem!_pos d m h
theorem Yp {d:Array Int} {au:List Value} {m:Nat} (h:m<d.size):(d.toList.map (Value.int KK)++au)[m]?=some (Value.int KK d[m]!):=by
 rw[List.getElem?_append_left (by simpa using h)]
 simp[h,abi d h]
theorem ajt {d:Array Int} {au:List Value} {m:Nat} (h:m<d.size) (x:Int) :
  (d.toList.map (Value.int KK)++au).take m++[Value.int KK x]++(d.toList.map (Value.int KK)++au).drop (m+1)=((d.setIfInBounds m x).toList.map (Value.int KK)++au):=by
 have hl:m<(d.toList.map (Value.int KK)).length:=by simpa using h
 rw[Array.toList_setIfInBounds,List.map_set,List.take_append_of_le_length (by omega),List.drop_append_of_le_length (by omega),List.set_eq_take_append_cons_drop,if_pos hl]
 simp
section
variable {P:Program} {n:Nat} {ops:Array Oper} {Q:Exit→Act→World→Prop} {S:World→Prop} {rest':List (Bool × Oper)} {E:dE} {w:World} {o:Oper} {q:Nat}
variable {s A:aj} {os:List aj} {x y:Operand} {T:Bool} {g:Nat} {au:List Value} {d:Array Int}
theorem RL.bK {t e:TypeId} {by_ c k:Nat} {kk:IntKind} {i:Int} (m:Nat) (hg:bR ops E o=some true) (hd:o.dst=some q) (hb:Nat.blt q n=true)
  (ho:o.op = .indexAddr t x y) (ht:eJ P t=some (e,1,by_)) (hx:ev E x=some (.slice (some ⟨g,0,none⟩) k c)) (hy:ev E y=some (.int kk i)) (hm:i=m) (h1:m<k)
  (h:RL P n ops Q S rest' ((q,.pointer (some ((⟨g,0,none⟩:Addr).add m)))::E) w):RL P n ops Q S ((T,o)::rest') E w:=by
 refine RL.ij hg hd hb (fun w ac ha=>?_) h
 unfold execOp
 simp only[ho,ha.ev hx,ha.ev hy]
 subst hm
 simp[La ht (Int.natCast_nonneg m) (by omega:((m:Nat):Int)<k)]
theorem RL.dJ {t:TypeId} (m:Nat) (hg:bR ops E o=some true) (hd:o.dst=some q) (hb:Nat.blt q n=true) (ho:o.op = .load t x) (ht:dD P t=some (false,1))
  (hx:ev E x=some (.pointer (some ((⟨g,0,none⟩:Addr).add m)))) (h:dB A g au d) (cq:In A w) (hm:m<d.size) (hr:RL P n ops Q S rest' ((q,.int KK d[m]!)::E) w):RL P n ops Q S ((false,o)::rest') E w :=
 RL.load hg hd hb ho ht hx (Holds.of h) cq (Yp hm) hr
theorem RL.j7 {t:TypeId} (m:Nat) (hg:bR ops E o=some true) (hd:o.dst=some q) (hb:Nat.blt q n=true) (ho:o.op = .load t x) (ht:dD P t=some (false,1))
  (hx:ev E x=some (.pointer (some ((⟨g,0,none⟩:Addr).add m)))) (h:dB A g au d) (cq:∀ w,S w→In A w) (hm:m<d.size) (hr:RL P n ops Q S rest' ((q,.int KK d[m]!)::E) w):RL P n ops Q S ((true,o)::rest') E w :=
 RL.fV hg hd hb ho ht hx (Holds.of h) cq (Yp hm) hr
theorem RL.dL {t:TypeId} {v:Int} (m:Nat) (hg:bR ops E o=some true) (hd:o.dst=none) (ho:o.op = .store t x y) (ht:dD P t=some (false,1))
  (hx:ev E x=some (.pointer (some ((⟨g,0,none⟩:Addr).add m)))) (hy:ev E y=some (.int KK v)) (hG:ak w s (A::os)) (h:dB A g au d) (hm:m<d.size)
  (hr:∀ w' A',ak w' s (A'::os)→ar w w'→dB A' g au (d.setIfInBounds m v)→S w'∧RL P n ops Q S rest' E w'):RL P n ops Q S ((false,o)::rest') E w:=by
 refine RL.store (i:=0) (j:=m) hg hd ho ht hx hy hG rfl h rfl (by simp[Value.cells,Value.oneCell']) (by simp;omega) ?_
 intro w' Br jq
 refine hr w' _ Br jq ?_
 have e:=ajt (au:=au) hm v
 simp only[dB,aj.put,if_true]
 rw[←e]
 rfl
end
end Go.Lw
namespace Go.Lw
open Go.Proofs
open Go.Sort (swp size_swp)
abbrev I3 (w:World) (s:aj) (os:List aj) (g:Nat) (au:List Value) (d:Array Int):Ending→World→Prop:=aw w s os fun s' A' r=>s'=s∧r = .tuple #[]∧dB A' g au d
theorem aht {w:World} {s:aj} {os:List aj} {x:Int} (hg:ak w s os):Calls Tryz.prog 209 #[.int KK x] w (aQ w s os fun r=>r = .bool false):=by
 refine enter (l:=[.int KK x]) Tryz.func209 rfl Tryz.ntmps209 rfl ?_
 refine go 11 ?_
 exact CW.ret (ret (vs:=[_]) ⟨_,_,rfl,rfl,rfl⟩ (aQ.mk hg (ar.refl _) (congrArg Value.bool (by simp))))
theorem qQ {w:World} {s:aj} {os:List aj} {x y:Int} (hg:ak w s os):Calls Tryz.prog 197 #[.int KK x,.int KK y] w (aQ w s os fun r=>r = .bool (bf x y)):=by
 refine enter (l:=[.int KK x,.int KK y]) Tryz.func197 rfl Tryz.ntmps197 rfl ?_
 refine go 8 ?_
 refine zw (aht hg) ?_
 rintro v w1 aH aN rfl
 refine go 13 ?_
 exact CW.ret (ret (vs:=[_]) ⟨_,_,rfl,rfl,rfl⟩ (aQ.mk aH aN rfl))
theorem ahl {a j:Nat} {d:Array Int} (h:a<j) (hl:bf d[j]! d[j-1]! = true):Go.Sort.insInner bf a j d=Go.Sort.insInner bf a (j-1) (swp d j (j-1)):=by
 obtain⟨j,rfl⟩:∃ i,j=i+1:=⟨j-1,by omega⟩
 rw[Go.Sort.insInner]
 simp only[Nat.add_sub_cancel] at *
 rw[if_pos (by simp[hl];omega)]
theorem WR {a j:Nat} {d:Array Int} (h:¬ a<j∨bf d[j]! d[j-1]! = false):Go.Sort.insInner bf a j d=d:=by
 cases j with
 | zero=>rfl
 | succ j =>
  rw[Go.Sort.insInner,if_neg]
  rcases h with h | h
  simp;omega
  simp only[Nat.add_sub_cancel] at h;simp[h]
theorem WS {a b i:Nat} {d:Array Int} (h:i<b):Go.Sort.insOuter bf a b i d=Go.Sort.insOuter bf a b (i+1) (Go.Sort.insInner bf a i d):=by
 rw[Go.Sort.insOuter,if_pos h]
theorem ahm {a b i:Nat} {d:Array Int} (h:¬ i<b):Go.Sort.insOuter bf a b i d=d:=by
 rw[Go.Sort.insOuter,if_neg h]
theorem aho {w:World} {s A:aj} {os:List aj} {g n c a b:Nat} {au:List Value} {d:Array Int} (hg:ak w s (A::os)) (a_:dB A g au d) (hn:d.size=n) (hb:b≤n) (lf:a≤n) (cV:n<4611686018427387904) :
  Calls Tryz.prog 191 #[.slice (some ⟨g,0,none⟩) n c,i64 a,i64 b] w (I3 w s os g au (Go.Sort.insertionSort bf d a b)):=by
 refine enter (l:=[.slice (some ⟨g,0,none⟩) n c,i64 a,i64 b]) Tryz.func191 rfl Tryz.ntmps191 rfl ?_
 refine go 6 ?_
 refine CW.block (CW.loop (σ:=Nat) (fun k E w'=>∃ A' dk i,ak w' s (A'::os)∧ar w w'∧dB A' g au dk∧dk.size=n∧a<i∧i≤n+1∧n+1-i≤k∧Go.Sort.insertionSort bf d a b=Go.Sort.insOuter bf a b i dk∧E=[(0,.slice (some ⟨g,0,none⟩) n c),(1,i64 a),(2,i64 b),(6,i64 (i:Nat))])
  (fun k=>k) (n+1) [(0,.slice (some ⟨g,0,none⟩) n c),(1,i64 a),(2,i64 b),(6,i64 ((a:Int)+1))] ⟨rfl,rfl,rfl,rfl,trivial⟩ ⟨A,d,a+1,hg,ar.refl _,a_,hn,by omega,by omega,by omega,rfl,rfl⟩ ?_)
 rintro k E w1 ⟨A1,d1,i,aH,aN,fB,fm,JG,cq,hk,dO,rfl⟩
 refine CW.seq (CW.seq (CW.plain ?_))
 refine go 4 ?_
 refine CW.test rfl (fun h=>?_) (fun h=>?_)
 refine CW.skip ?_
 have Ef:i<b:=by omega
 refine CW.seq (CW.block (CW.seq (CW.plain ?_)))
 refine go 3 ?_
 refine CW.block (CW.loop (σ:=Nat) (fun j E w'=>∃ A' dk,ak w' s (A'::os)∧ar w w'∧dB A' g au dk∧dk.size=n∧j≤i∧a≤j∧Go.Sort.insInner bf a i d1=Go.Sort.insInner bf a j dk∧E=[(0,.slice (some ⟨g,0,none⟩) n c),(1,i64 a),(2,i64 b),(6,i64 (i:Nat)),(7,i64 (j:Nat))])
  (fun j=>j) i [(0,.slice (some ⟨g,0,none⟩) n c),(1,i64 a),(2,i64 b),(6,i64 (i:Nat)),(7,i64 (i:Nat))] ⟨rfl,rfl,rfl,rfl,rfl,trivial⟩ ⟨A1,d1,aH,aN,fB,fm,Nat.le_refl _,by omega,rfl,rfl⟩ ?_)
 rintro j E w2 ⟨A2,d2,hg,aR,a_,sl,qy,U2,OC,rfl⟩
 refine CW.seq (CW.seq ?_)
 refine CW.iA [(true,0),(true,1),(true,2),(true,3),(true,4),(true,5),(true,6),(true,7),(true,8),(true,9),(true,10),(true,11),(true,12),(false,13),(true,14)] (fun w'=>ak w' s (A2::os)) mixed (by kernel_rfl) (by kernel_rfl) (by kernel_rfl) (by kernel_rfl) hg.drew ?_
 refine go 4 ?_
 refine RL.part 19 rfl (fun hc=>?_) (fun hc=>?_)
 have NW:a<j:=by simpa using hc
 refine go 2 ?_
 refine RL.bK j rfl rfl rfl rfl bG.out rfl rfl rfl (by omega) ?_
 refine RL.j7 j rfl rfl rfl rfl aV.out rfl a_ (fun w h=>h.1) (by omega) ?_
 refine go 3 ?_
 refine RL.bK (j-1) rfl rfl rfl rfl bG.out rfl rfl (by omega) (by omega) ?_
 refine RL.j7 (j-1) rfl rfl rfl rfl aV.out rfl a_ (fun w h=>h.1) (by omega) ?_
 refine go 1 ?_
 refine zw (qQ hg.drew) ?_
 rintro v w3 aP bw rfl
 refine⟨aP,?_⟩
 refine go 2 ?_
 have hg:=aP
 refine CW.cond rfl (fun hl=>?_) (fun hl=>?_)
 refine CW.skip ?_
 refine CW.cx (fun E' w'=>∃ A',ak w' s (A'::os)∧ar w w'∧dB A' g au (swp d2 j (j-1))∧E'=[(0,.slice (some ⟨g,0,none⟩) n c),(1,i64 a),(2,i64 b),(6,i64 (i:Nat)),(7,i64 (j:Nat))]) ?_ ?_
 refine CW.block ?_
 refine CW.lb (.dV [(true,0),(true,1),(true,2),(true,3),(true,4),(true,5),(true,6),(true,7),(true,8),(true,10),(true,11),(true,12)] (.line [(false,9),(false,13),(true,14),(false,15),(true,16),(false,17)]) (.line [(false,13),(false,9),(true,14),(false,15),(true,16),(false,17)])) (fun _=>True) mixed (by kernel_rfl) (by kernel_rfl) (by kernel_rfl) (by kernel_rfl) trivial ?_
 refine RT.pre trivial ?_
 refine go 8 ?_
 refine RL.bK (j-1) rfl rfl rfl rfl bG.out rfl rfl (by omega) (by omega) ?_
 refine go 2 ?_
 refine RL.bK (j) rfl rfl rfl rfl bG.out rfl rfl (by omega) (by omega) ?_
 refine go 1 ?_
 refine RT.eE (S:=fun _=>True) trivial (RT.di (S:=fun _=>True) trivial ?_) (RT.di (S:=fun _=>True) trivial ?_)
 refine RL.dJ (j-1) rfl rfl rfl rfl aV.out rfl a_ hg.drew.1 (by omega) ?_
 refine RL.dJ (j) rfl rfl rfl rfl aV.out rfl a_ hg.drew.1 (by omega) ?_
 refine RL.bK (j) rfl rfl rfl rfl bG.out rfl rfl (by omega) (by omega) ?_
 refine RL.dL (j) rfl rfl rfl aV.out rfl rfl hg.drew a_ (by omega) ?_
 intro ws1 As1 dp dP dS
 refine go 1 ?_
 refine RL.bK (j-1) rfl rfl rfl rfl bG.out rfl rfl (by omega) (by omega) ?_
 refine RL.dL (j-1) rfl rfl rfl aV.out rfl rfl dp dS (by simp;omega) ?_
 intro ws2 As2 dI dQ dT
 refine go 2 ?_
 exact fun ac ha=>⟨_,ha.sub (E':=[(0,.slice (some ⟨g,0,none⟩) n c),(1,i64 a),(2,i64 b),(6,i64 (i:Nat)),(7,i64 (j:Nat))]) ⟨rfl,rfl,rfl,rfl,rfl,trivial⟩,As2,dI,aR.trans ((ar.drew _).trans (bw.trans ((ar.drew _).trans (dP.trans dQ)))),dT,rfl⟩
 refine RL.dJ (j) rfl rfl rfl rfl aV.out rfl a_ hg.drew.1 (by omega) ?_
 refine RL.dJ (j-1) rfl rfl rfl rfl aV.out rfl a_ hg.drew.1 (by omega) ?_
 refine RL.bK (j) rfl rfl rfl rfl bG.out rfl rfl (by omega) (by omega) ?_
 refine RL.dL (j) rfl rfl rfl aV.out rfl rfl hg.drew a_ (by omega) ?_
 intro ws1 As1 dp dP dS
 refine go 1 ?_
 refine RL.bK (j-1) rfl rfl rfl rfl bG.out rfl rfl (by omega) (by omega) ?_
 refine RL.dL (j-1) rfl rfl rfl aV.out rfl rfl dp dS (by simp;omega) ?_
 intro ws2 As2 dI dQ dT
 refine go 2 ?_
 exact fun ac ha=>⟨_,ha.sub (E':=[(0,.slice (some ⟨g,0,none⟩) n c),(1,i64 a),(2,i64 b),(6,i64 (i:Nat)),(7,i64 (j:Nat))]) ⟨rfl,rfl,rfl,rfl,rfl,trivial⟩,As2,dI,aR.trans ((ar.drew _).trans (bw.trans ((ar.drew _).trans (dP.trans dQ)))),dT,rfl⟩
 rintro E' w5 ⟨A5,bh,bQ,pj,rfl⟩
 refine go 5 ?_
 refine fun ac ha=>⟨j-1,[(0,.slice (some ⟨g,0,none⟩) n c),(1,i64 a),(2,i64 b),(6,i64 (i:Nat)),(7,i64 ((j-1:Nat):Int))],ha.sub ⟨rfl,rfl,rfl,rfl,congrArg (fun z=>some (i64 z)) (by omega),trivial⟩,⟨A5,_,bh,bQ,pj,by rw[size_swp];exact sl,by omega,by omega,by rw[OC];exact ahl NW hl,rfl⟩,by omega⟩
 refine CW.exit ?_
 refine go 5 ?_
 have OD:=OC.trans (WR (.inr hl))
 refine fun ac ha=>⟨k-1,[(0,.slice (some ⟨g,0,none⟩) n c),(1,i64 a),(2,i64 b),(6,i64 ((i:Int)+1))],ha.sub ⟨rfl,rfl,rfl,rfl,trivial⟩,⟨A2,d2,i+1,aP,aR.trans ((ar.drew _).trans bw),a_,sl,by omega,by omega,by omega,by rw[dO,WS Ef,OD],rfl⟩,by omega⟩
 have NW:¬ a<j:=by simpa using hc
 refine go 12 ?_
 refine CW.no rfl ?_
 refine go 6 ?_
 have OD:=OC.trans (WR (.inl NW))
 refine fun ac ha=>⟨k-1,[(0,.slice (some ⟨g,0,none⟩) n c),(1,i64 a),(2,i64 b),(6,i64 ((i:Int)+1))],ha.sub ⟨rfl,rfl,rfl,rfl,trivial⟩,⟨A2,d2,i+1,hg.drew,aR.trans (ar.drew _),a_,sl,by omega,by omega,by omega,by rw[dO,WS Ef,OD],rfl⟩,by omega⟩
 refine CW.exit ?_
 refine cP (vs:=[]) rfl (aw.mk (Le.refl _) aH aN ⟨rfl,rfl,?_⟩)
 rw[dO,ahm (by omega)]
 exact fB
end Go.Lw
namespace Go.Lw
open Go.Proofs
open Go.Sort (swp size_swp)
theorem ajp {i j:Nat} {d:Array Int} (h:i<j):Go.Sort.reverseLoop i j d=Go.Sort.reverseLoop (i+1) (j-1) (swp d i j):=by rw[Go.Sort.reverseLoop,if_pos h]
theorem ajo {i j:Nat} {d:Array Int} (h:¬ i<j):Go.Sort.reverseLoop i j d=d:=by rw[Go.Sort.reverseLoop,if_neg h]
theorem ajn {w:World} {s A:aj} {os:List aj} {g n c a b:Nat} {au:List Value} {d:Array Int} (hg:ak w s (A::os)) (a_:dB A g au d) (hn:d.size=n) (hb:b≤n) (lf:a<b) (cV:n<4611686018427387904) :
  Calls Tryz.prog 195 #[.slice (some ⟨g,0,none⟩) n c,i64 a,i64 b] w (I3 w s os g au (Go.Sort.reverseRange d a b)):=by
 refine enter (l:=[.slice (some ⟨g,0,none⟩) n c,i64 a,i64 b]) Tryz.func195 rfl Tryz.ntmps195 rfl ?_
 refine go 11 ?_
 refine CW.block (CW.loop (σ:=Nat) (fun k E w'=>∃ A' dk i j,ak w' s (A'::os)∧ar w w'∧dB A' g au dk∧dk.size=n∧i≤j+1∧j<n∧j-i≤k∧Go.Sort.reverseRange d a b=Go.Sort.reverseLoop i j dk∧E=[(0,.slice (some ⟨g,0,none⟩) n c),(6,i64 (i:Nat)),(7,i64 (j:Nat))])
  (fun k=>k) n [(0,.slice (some ⟨g,0,none⟩) n c),(6,i64 a),(7,i64 ((b-1:Nat):Int))] ⟨rfl,rfl,congrArg (fun z=>some (i64 z)) (by omega),trivial⟩ ⟨A,d,a,b-1,hg,ar.refl _,a_,hn,by omega,by omega,by omega,rfl,rfl⟩ ?_)
 rintro k E w1 ⟨A1,d1,i,j,hg,aN,a_,fm,iE,J2,hk,dO,rfl⟩
 refine CW.seq (CW.seq (CW.plain ?_))
 refine go 4 ?_
 refine CW.test rfl (fun h=>?_) (fun h=>?_)
 refine CW.skip ?_
 refine go 1 ?_
 refine CW.cx (fun E' w'=>∃ A',ak w' s (A'::os)∧ar w w'∧dB A' g au (swp d1 i j)∧E'=[(0,.slice (some ⟨g,0,none⟩) n c),(6,i64 (i:Nat)),(7,i64 (j:Nat))]) ?_ ?_
 refine CW.lb (.dV [(true,0),(true,1),(true,2),(true,3),(true,4),(true,5),(true,6),(true,8),(true,9),(true,10)] (.line [(false,7),(false,11),(true,12),(false,13),(true,14),(false,15)]) (.line [(false,11),(false,7),(true,12),(false,13),(true,14),(false,15)])) (fun _=>True) mixed (by kernel_rfl) (by kernel_rfl) (by kernel_rfl) (by kernel_rfl) trivial ?_
 refine RT.pre trivial ?_
 refine go 6 ?_
 refine RL.bK (j) rfl rfl rfl rfl bG.out rfl rfl (by omega) (by omega) ?_
 refine go 2 ?_
 refine RL.bK (i) rfl rfl rfl rfl bG.out rfl rfl (by omega) (by omega) ?_
 refine go 1 ?_
 refine RT.eE (S:=fun _=>True) trivial (RT.di (S:=fun _=>True) trivial ?_) (RT.di (S:=fun _=>True) trivial ?_)
 refine RL.dJ (j) rfl rfl rfl rfl aV.out rfl a_ hg.drew.1 (by omega) ?_
 refine RL.dJ (i) rfl rfl rfl rfl aV.out rfl a_ hg.drew.1 (by omega) ?_
 refine RL.bK (i) rfl rfl rfl rfl bG.out rfl rfl (by omega) (by omega) ?_
 refine RL.dL (i) rfl rfl rfl aV.out rfl rfl hg.drew a_ (by omega) ?_
 intro ws1 As1 dp dP dS
 refine go 1 ?_
 refine RL.bK (j) rfl rfl rfl rfl bG.out rfl rfl (by omega) (by omega) ?_
 refine RL.dL (j) rfl rfl rfl aV.out rfl rfl dp dS (by simp;omega) ?_
 intro ws2 As2 dI dQ dT
 refine go 2 ?_
 exact fun ac ha=>⟨_,ha.sub (E':=[(0,.slice (some ⟨g,0,none⟩) n c),(6,i64 (i:Nat)),(7,i64 (j:Nat))]) ⟨rfl,rfl,rfl,trivial⟩,As2,dI,aN.trans ((ar.drew _).trans (dP.trans dQ)),dT,rfl⟩
 refine RL.dJ (i) rfl rfl rfl rfl aV.out rfl a_ hg.drew.1 (by omega) ?_
 refine RL.dJ (j) rfl rfl rfl rfl aV.out rfl a_ hg.drew.1 (by omega) ?_
 refine RL.bK (i) rfl rfl rfl rfl bG.out rfl rfl (by omega) (by omega) ?_
 refine RL.dL (i) rfl rfl rfl aV.out rfl rfl hg.drew a_ (by omega) ?_
 intro ws1 As1 dp dP dS
 refine go 1 ?_
 refine RL.bK (j) rfl rfl rfl rfl bG.out rfl rfl (by omega) (by omega) ?_
 refine RL.dL (j) rfl rfl rfl aV.out rfl rfl dp dS (by simp;omega) ?_
 intro ws2 As2 dI dQ dT
 refine go 2 ?_
 exact fun ac ha=>⟨_,ha.sub (E':=[(0,.slice (some ⟨g,0,none⟩) n c),(6,i64 (i:Nat)),(7,i64 (j:Nat))]) ⟨rfl,rfl,rfl,trivial⟩,As2,dI,aN.trans ((ar.drew _).trans (dP.trans dQ)),dT,rfl⟩
 rintro E' w5 ⟨A5,bh,bQ,pj,rfl⟩
 refine go 11 ?_
 have VM:i<j:=by omega
 refine fun ac ha=>⟨k-1,[(0,.slice (some ⟨g,0,none⟩) n c),(6,i64 ((i+1:Nat):Int)),(7,i64 ((j-1:Nat):Int))],ha.sub ⟨rfl,rfl,congrArg (fun z=>some (i64 z)) (by omega),trivial⟩,⟨A5,_,i+1,j-1,bh,bQ,pj,by rw[size_swp];exact fm,by omega,by omega,by omega,by rw[dO];exact ajp VM,rfl⟩,by omega⟩
 refine CW.exit ?_
 refine cP (vs:=[]) rfl (aw.mk (Le.refl _) hg aN ⟨rfl,rfl,?_⟩)
 rw[dO,ajo (by omega)]
 exact a_
def sc (hi first root:Nat) (d:Array Int):Nat:=if 2*root+1+1<hi∧bf d[first+(2*root+1)]! d[first+(2*root+1)+1]! = true then 2*root+2 else 2*root+1
theorem YO {hi first root ch:Nat} {d:Array Int} (h:2*root+1<hi) (hs:sc hi first root d=ch):Go.Sort.siftDown bf hi first root d=if bf d[first+root]! d[first+ch]! = true then Go.Sort.siftDown bf hi first ch (swp d (first+root) (first+ch)) else d:=by
 rw[Go.Sort.siftDown,dif_neg (by omega)]
 unfold sc at hs
 by_cases hc:2*root+1+1<hi∧bf d[first+(2*root+1)]! d[first+(2*root+1)+1]! = true
 rw[if_pos hc] at hs
 rw[if_pos (by simpa using hc)]
 subst hs
 have h2:2*root+2<hi:=by omega
 cases hl:bf d[first+root]! d[first+(2*root+2)]! <;> simp[h2]
 rw[if_neg hc] at hs
 rw[if_neg (by simpa using hc)]
 subst hs
 cases hl:bf d[first+root]! d[first+(2*root+1)]! <;> simp
theorem ajR {hi first root:Nat} {d:Array Int} (h:hi≤2*root+1):Go.Sort.siftDown bf hi first root d=d:=by rw[Go.Sort.siftDown,dif_pos (by omega)]
theorem YN {w:World} {s A:aj} {os:List aj} {g n c lo hi first:Nat} {au:List Value} {d:Array Int} (hg:ak w s (A::os)) (a_:dB A g au d) (hn:d.size=n) (hb:first+hi≤n) (u_:lo≤n) (cV:n<2305843009213693952) :
  Calls Tryz.prog 206 #[.slice (some ⟨g,0,none⟩) n c,i64 lo,i64 hi,i64 first] w (I3 w s os g au (Go.Sort.siftDown bf hi first lo d)):=by
 refine enter (l:=[.slice (some ⟨g,0,none⟩) n c,i64 lo,i64 hi,i64 first]) Tryz.func206 rfl Tryz.ntmps206 rfl ?_
 refine go 5 ?_
 refine CW.block (CW.loop (σ:=Nat) (fun k E w'=>∃ A' dk r,ak w' s (A'::os)∧ar w w'∧dB A' g au dk∧dk.size=n∧r≤n∧hi-r≤k∧Go.Sort.siftDown bf hi first lo d=Go.Sort.siftDown bf hi first r dk∧E=[(0,.slice (some ⟨g,0,none⟩) n c),(2,i64 hi),(3,i64 first),(8,i64 (r:Nat))])
  (fun k=>k) n [(0,.slice (some ⟨g,0,none⟩) n c),(2,i64 hi),(3,i64 first),(8,i64 lo)] ⟨rfl,rfl,rfl,rfl,trivial⟩ ⟨A,d,lo,hg,ar.refl _,a_,hn,u_,by omega,rfl,rfl⟩ ?_)
 rintro k E w1 ⟨A1,d1,r,aH,aN,a_,fm,PN,hk,dO,rfl⟩
 refine CW.block (CW.seq (CW.plain ?_))
 refine go 1 ?_
 refine RL.mul rfl rfl rfl rfl rfl rfl ((by simp only[aq];omega)) ?_
 refine go 3 ?_
 refine CW.seq (CW.seq (CW.plain ?_))
 refine go 4 ?_
 refine CW.test rfl (fun h=>?_) (fun h=>?_)
 refine CW.exit ?_
 refine cP (vs:=[]) rfl (aw.mk (Le.refl _) aH aN ⟨rfl,rfl,?_⟩)
 rw[dO,ajR (by omega)]
 exact a_
 refine CW.skip ?_
 have cD:2*r+1<hi:=by omega
 refine CW.cx (fun E' w'=>∃ ch,ch=sc hi first r d1∧r<ch∧ch<hi∧ak w' s (A1::os)∧ar w w'∧E'=[(0,.slice (some ⟨g,0,none⟩) n c),(2,i64 hi),(3,i64 first),(8,i64 (r:Nat)),(9,i64 (ch:Nat))]) ?_ ?_
 refine CW.seq ?_
 refine CW.iA [(true,0),(true,1),(true,2),(true,3),(true,4),(true,5),(true,6),(true,7),(true,8),(true,9),(true,10),(true,11),(true,12),(true,13),(true,14),(true,15),(true,16),(true,17),(false,18),(true,19)] (fun w'=>ak w' s (A1::os)) mixed (by kernel_rfl) (by kernel_rfl) (by kernel_rfl) (by kernel_rfl) aH.drew ?_
 refine go 5 ?_
 refine RL.part 21 rfl (fun hc=>?_) (fun hc=>?_)
 have h2:2*r+2<hi:=by have:=of_decide_eq_true hc;omega
 refine go 4 ?_
 refine RL.bK (first+(2*r+1)) rfl rfl rfl rfl bG.out rfl rfl (by omega) (by omega) ?_
 refine RL.j7 (first+(2*r+1)) rfl rfl rfl rfl aV.out rfl a_ (fun w h=>h.1) (by omega) ?_
 refine go 5 ?_
 refine RL.bK (first+(2*r+1)+1) rfl rfl rfl rfl bG.out rfl rfl (by omega) (by omega) ?_
 refine RL.j7 (first+(2*r+1)+1) rfl rfl rfl rfl aV.out rfl a_ (fun w h=>h.1) (by omega) ?_
 refine go 1 ?_
 refine zw (qQ aH.drew) ?_
 rintro v w3 aP bw rfl
 refine⟨aP,?_⟩
 refine go 2 ?_
 refine CW.cond rfl (fun hl=>?_) (fun hl=>?_)
 refine CW.plain ?_
 refine go 4 ?_
 refine fun ac ha=>⟨_,ha.sub (E':=[(0,.slice (some ⟨g,0,none⟩) n c),(2,i64 hi),(3,i64 first),(8,i64 (r:Nat)),(9,i64 ((2*r+2:Nat):Int))]) ⟨rfl,rfl,rfl,rfl,congrArg (fun z=>some (i64 z)) (by omega),trivial⟩,_,by rw[sc,if_pos ⟨by omega,hl⟩],by omega,by omega,aP,aN.trans ((ar.drew _).trans bw),rfl⟩
 refine CW.skip (fun ac ha=>⟨_,ha.sub (E':=[(0,.slice (some ⟨g,0,none⟩) n c),(2,i64 hi),(3,i64 first),(8,i64 (r:Nat)),(9,i64 ((2*r+1:Nat):Int))]) ⟨rfl,rfl,rfl,rfl,congrArg (fun z=>some (i64 z)) (by omega),trivial⟩,_,?_,by omega,by omega,aP,aN.trans ((ar.drew _).trans bw),rfl⟩)
 rw[sc,if_neg (fun hh=>by rw[hh.2] at hl;cases hl)]
 have h2:¬ 2*r+2<hi:=by have:=of_decide_eq_false hc;omega
 refine go 16 ?_
 refine CW.no rfl ?_
 refine CW.skip (fun ac ha=>⟨_,ha.sub (E':=[(0,.slice (some ⟨g,0,none⟩) n c),(2,i64 hi),(3,i64 first),(8,i64 (r:Nat)),(9,i64 ((2*r+1:Nat):Int))]) ⟨rfl,rfl,rfl,rfl,congrArg (fun z=>some (i64 z)) (by omega),trivial⟩,_,?_,by omega,by omega,aH.drew,aN.trans (ar.drew _),rfl⟩)
 rw[sc,if_neg (fun hh=>h2 hh.1)]
 rintro E' w4 ⟨ch,ir,PL,apa,hg,bJ,rfl⟩
 refine CW.seq (CW.seq ?_)
 refine CW.iA [(true,0),(true,1),(true,2),(true,3),(true,4),(true,5),(true,6),(true,7),(true,8),(true,9),(true,10),(true,11),(false,12),(true,13)] (fun w'=>ak w' s (A1::os)) mixed (by kernel_rfl) (by kernel_rfl) (by kernel_rfl) (by kernel_rfl) hg.drew ?_
 refine go 4 ?_
 refine RL.bK (first+r) rfl rfl rfl rfl bG.out rfl rfl (by omega) (by omega) ?_
 refine RL.j7 (first+r) rfl rfl rfl rfl aV.out rfl a_ (fun w h=>h.1) (by omega) ?_
 refine go 4 ?_
 refine RL.bK (first+ch) rfl rfl rfl rfl bG.out rfl rfl (by omega) (by omega) ?_
 refine RL.j7 (first+ch) rfl rfl rfl rfl aV.out rfl a_ (fun w h=>h.1) (by omega) ?_
 refine go 1 ?_
 refine zw (qQ hg.drew) ?_
 rintro v w5 bh bQ rfl
 refine⟨bh,?_⟩
 refine go 2 ?_
 refine CW.cond rfl (fun hl=>?_) (fun hl=>?_)
 have hZ:bf d1[first+r]! d1[first+ch]! = false:=by simpa using hl
 refine CW.ret (ret (vs:=[]) rfl (aw.mk (Le.refl _) bh (bJ.trans ((ar.drew _).trans bQ)) ⟨rfl,rfl,?_⟩))
 rw[dO,YO cD ir.symm,hZ,if_neg (by simp)]
 exact a_
 have hZ:bf d1[first+r]! d1[first+ch]! = true:=by simpa using hl
 refine go 1 ?_
 have hg:=bh
 refine CW.cx (fun E' w'=>∃ A',ak w' s (A'::os)∧ar w w'∧dB A' g au (swp d1 (first+r) (first+ch))∧E'=[(0,.slice (some ⟨g,0,none⟩) n c),(2,i64 hi),(3,i64 first),(9,i64 (ch:Nat))]) ?_ ?_
 refine CW.lb (.dV [(true,0),(true,1),(true,2),(true,3),(true,4),(true,5),(true,6),(true,7),(true,8),(true,9),(true,10),(true,11),(true,12),(true,14),(true,15),(true,16),(true,17),(true,18)] (.line [(false,13),(false,19),(true,20),(false,21),(true,22),(false,23)]) (.line [(false,19),(false,13),(true,20),(false,21),(true,22),(false,23)])) (fun _=>True) mixed (by kernel_rfl) (by kernel_rfl) (by kernel_rfl) (by kernel_rfl) trivial ?_
 refine RT.pre trivial ?_
 refine go 12 ?_
 refine RL.bK (first+ch) rfl rfl rfl rfl bG.out rfl rfl (by omega) (by omega) ?_
 refine go 4 ?_
 refine RL.bK (first+r) rfl rfl rfl rfl bG.out rfl rfl (by omega) (by omega) ?_
 refine go 1 ?_
 refine RT.eE (S:=fun _=>True) trivial (RT.di (S:=fun _=>True) trivial ?_) (RT.di (S:=fun _=>True) trivial ?_)
 refine RL.dJ (first+ch) rfl rfl rfl rfl aV.out rfl a_ hg.drew.1 (by omega) ?_
 refine RL.dJ (first+r) rfl rfl rfl rfl aV.out rfl a_ hg.drew.1 (by omega) ?_
 refine RL.bK (first+r) rfl rfl rfl rfl bG.out rfl rfl (by omega) (by omega) ?_
 refine RL.dL (first+r) rfl rfl rfl aV.out rfl rfl hg.drew a_ (by omega) ?_
 intro ws1 As1 dp dP dS
 refine go 1 ?_
 refine RL.bK (first+ch) rfl rfl rfl rfl bG.out rfl rfl (by omega) (by omega) ?_
 refine RL.dL (first+ch) rfl rfl rfl aV.out rfl rfl dp dS (by simp;omega) ?_
 intro ws2 As2 dI dQ dT
 refine go 2 ?_
 exact fun ac ha=>⟨_,ha.sub (E':=[(0,.slice (some ⟨g,0,none⟩) n c),(2,i64 hi),(3,i64 first),(9,i64 (ch:Nat))]) ⟨rfl,rfl,rfl,rfl,trivial⟩,As2,dI,bJ.trans ((ar.drew _).trans (bQ.trans ((ar.drew _).trans (dP.trans dQ)))),dT,rfl⟩
 refine RL.dJ (first+r) rfl rfl rfl rfl aV.out rfl a_ hg.drew.1 (by omega) ?_
 refine RL.dJ (first+ch) rfl rfl rfl rfl aV.out rfl a_ hg.drew.1 (by omega) ?_
 refine RL.bK (first+r) rfl rfl rfl rfl bG.out rfl rfl (by omega) (by omega) ?_
 refine RL.dL (first+r) rfl rfl rfl aV.out rfl rfl hg.drew a_ (by omega) ?_
 intro ws1 As1 dp dP dS
 refine go 1 ?_
 refine RL.bK (first+ch) rfl rfl rfl rfl bG.out rfl rfl (by omega) (by omega) ?_
 refine RL.dL (first+ch) rfl rfl rfl aV.out rfl rfl dp dS (by simp;omega) ?_
 intro ws2 As2 dI dQ dT
 refine go 2 ?_
 exact fun ac ha=>⟨_,ha.sub (E':=[(0,.slice (some ⟨g,0,none⟩) n c),(2,i64 hi),(3,i64 first),(9,i64 (ch:Nat))]) ⟨rfl,rfl,rfl,rfl,trivial⟩,As2,dI,bJ.trans ((ar.drew _).trans (bQ.trans ((ar.drew _).trans (dP.trans dQ)))),dT,rfl⟩
 rintro E' w6 ⟨A6,bx,bM,p6,rfl⟩
 refine go 4 ?_
 refine fun ac ha=>⟨k-1,[(0,.slice (some ⟨g,0,none⟩) n c),(2,i64 hi),(3,i64 first),(8,i64 (ch:Nat))],ha.sub ⟨rfl,rfl,rfl,rfl,trivial⟩,⟨A6,_,ch,bx,bM,p6,by rw[size_swp];exact fm,by omega,by omega,by rw[dO,YO cD ir.symm,if_pos hZ],rfl⟩,by omega⟩
theorem YP (hi first lo:Nat) (d:Array Int):(Go.Sort.siftDown bf hi first lo d).size=d.size:=by
 fun_induction Go.Sort.siftDown bf hi first lo d<;>simp_all [size_swp]
theorem aeq {w:World} {s A:aj} {os:List aj} {g n c a b:Nat} {au:List Value} {d:Array Int} (hg:ak w s (A::os)) (a_:dB A g au d) (hn:d.size=n) (hb:b≤n) (lf:a<b) (cV:n<2305843009213693952) :
  Calls Tryz.prog 192 #[.slice (some ⟨g,0,none⟩) n c,i64 a,i64 b] w (I3 w s os g au (Go.Sort.heapSort bf d a b)):=by
 refine enter (l:=[.slice (some ⟨g,0,none⟩) n c,i64 a,i64 b]) Tryz.func192 rfl Tryz.ntmps192 rfl ?_
 refine go 16 ?_
 refine CW.cx (fun E' w'=>∃ A' dk,ak w' s (A'::os)∧ar w w'∧dB A' g au dk∧dk.size=n∧dk=Go.Sort.heapBuild bf (b-a) a ((b-a-1) / 2+1) d∧E'=[(0,.slice (some ⟨g,0,none⟩) n c),(6,i64 a),(7,i64 0),(8,i64 ((b-a:Nat):Int))]) ?_ ?_
 refine CW.seq (CW.plain ?_)
 refine go 2 ?_
 refine RL.quo rfl rfl rfl rfl rfl rfl ((by omega)) ((by decide)) ((by simp only[aq];omega)) ?_
 refine go 2 ?_
 refine CW.block (CW.loop (σ:=Nat) (fun k E w'=>∃ A' dk,ak w' s (A'::os)∧ar w w'∧dB A' g au dk∧dk.size=n∧k≤n∧Go.Sort.heapBuild bf (b-a) a ((b-a-1) / 2+1) d=Go.Sort.heapBuild bf (b-a) a k dk∧E=[(0,.slice (some ⟨g,0,none⟩) n c),(6,i64 a),(7,i64 0),(8,i64 ((b-a:Nat):Int)),(9,i64 ((k:Int)-1))])
  (fun k=>k) ((b-a-1) / 2+1) [(0,.slice (some ⟨g,0,none⟩) n c),(6,i64 a),(7,i64 0),(8,i64 ((b-a:Nat):Int)),(9,i64 ((((b-a-1) / 2+1:Nat):Int)-1))] ⟨rfl,rfl,rfl,congrArg (fun z=>some (i64 z)) (by omega),congrArg (fun z=>some (i64 z)) (by omega),trivial⟩ ⟨A,d,hg,ar.refl _,a_,hn,by omega,rfl,rfl⟩ ?_)
 rintro k E w1 ⟨A1,d1,aH,aN,fB,fm,o7,dO,rfl⟩
 refine CW.seq (CW.seq (CW.plain ?_))
 refine go 3 ?_
 refine CW.test rfl (fun h=>?_) (fun h=>?_)
 refine CW.skip ?_
 obtain⟨k,rfl⟩:∃ j,k=j+1:=⟨k-1,by omega⟩
 refine CW.seq (CW.block (CW.plain ?_))
 refine go 4 ?_
 have ek:(((k+1:Nat):Int)-1)=((k:Nat):Int):=by omega
 rw[ek]
 refine go 1 ?_
 refine zc (l:=[.slice (some ⟨g,0,none⟩) n c,i64 (k:Nat),i64 ((b-a:Nat):Int),i64 a]) (YN aH fB fm (by omega) (by omega) cV) ?_
 rintro v2 s2 A2 w2 jb aS aR ⟨rfl,rfl,PO⟩
 refine go 7 ?_
 refine fun ac ha=>⟨k,[(0,.slice (some ⟨g,0,none⟩) n c),(6,i64 a),(7,i64 0),(8,i64 ((b-a:Nat):Int)),(9,i64 ((k:Int)-1))],ha.sub ⟨rfl,rfl,rfl,rfl,congrArg (fun z=>some (i64 z)) (by omega),trivial⟩,⟨A2,_,aS,aN.trans aR,PO,by rw[YP];exact fm,by omega,by rw[dO,Go.Sort.heapBuild],rfl⟩,by omega⟩
 refine CW.exit (fun ac ha=>⟨_,ha.sub (E':=[(0,.slice (some ⟨g,0,none⟩) n c),(6,i64 a),(7,i64 0),(8,i64 ((b-a:Nat):Int))]) ⟨rfl,rfl,rfl,rfl,trivial⟩,A1,d1,aH,aN,fB,fm,?_,rfl⟩)
 obtain rfl:k=0:=by omega
 rw[dO];rfl
 rintro E' w1 ⟨A1,d1,aH,aN,fB,fm,tw,rfl⟩
 refine go 6 ?_
 refine CW.block (CW.loop (σ:=Nat) (fun k E w'=>∃ A' dk,ak w' s (A'::os)∧ar w w'∧dB A' g au dk∧dk.size=n∧k≤b-a∧Go.Sort.heapSort bf d a b=Go.Sort.heapPop bf a k dk∧E=[(0,.slice (some ⟨g,0,none⟩) n c),(6,i64 a),(7,i64 0),(8,i64 ((b-a:Nat):Int)),(10,i64 ((k:Int)-1))])
  (fun k=>k) (b-a) [(0,.slice (some ⟨g,0,none⟩) n c),(6,i64 a),(7,i64 0),(8,i64 ((b-a:Nat):Int)),(10,i64 (((b-a:Nat):Int)-1))] ⟨rfl,rfl,rfl,rfl,rfl,trivial⟩ ⟨A1,d1,aH,aN,fB,fm,Nat.le_refl _,by rw[tw,Go.Sort.heapSort],rfl⟩ ?_)
 rintro k E w2 ⟨A2,d2,hg,aR,a_,sl,o7,dO,rfl⟩
 refine CW.seq (CW.seq (CW.plain ?_))
 refine go 3 ?_
 refine CW.test rfl (fun h=>?_) (fun h=>?_)
 refine CW.skip ?_
 obtain⟨k,rfl⟩:∃ j,k=j+1:=⟨k-1,by omega⟩
 refine CW.seq (CW.block ?_)
 refine CW.cx (fun E' w'=>∃ A',ak w' s (A'::os)∧ar w w'∧dB A' g au (swp d2 a (a+k))∧E'=[(0,.slice (some ⟨g,0,none⟩) n c),(6,i64 a),(7,i64 0),(8,i64 ((b-a:Nat):Int)),(10,i64 (((k+1:Nat):Int)-1))]) ?_ ?_
 refine CW.lb (.dV [(true,0),(true,1),(true,2),(true,3),(true,4),(true,5),(true,6),(true,7),(true,8),(true,9),(true,10),(true,12),(true,13),(true,14)] (.line [(false,11),(false,15),(true,16),(false,17),(true,18),(false,19)]) (.line [(false,15),(false,11),(true,16),(false,17),(true,18),(false,19)])) (fun _=>True) mixed (by kernel_rfl) (by kernel_rfl) (by kernel_rfl) (by kernel_rfl) trivial ?_
 refine RT.pre trivial ?_
 refine go 10 ?_
 refine RL.bK (a+k) rfl rfl rfl rfl bG.out rfl rfl (by omega) (by omega) ?_
 refine go 2 ?_
 refine RL.bK (a) rfl rfl rfl rfl bG.out rfl rfl (by omega) (by omega) ?_
 refine go 1 ?_
 refine RT.eE (S:=fun _=>True) trivial (RT.di (S:=fun _=>True) trivial ?_) (RT.di (S:=fun _=>True) trivial ?_)
 refine RL.dJ (a+k) rfl rfl rfl rfl aV.out rfl a_ hg.drew.1 (by omega) ?_
 refine RL.dJ (a) rfl rfl rfl rfl aV.out rfl a_ hg.drew.1 (by omega) ?_
 refine RL.bK (a) rfl rfl rfl rfl bG.out rfl rfl (by omega) (by omega) ?_
 refine RL.dL (a) rfl rfl rfl aV.out rfl rfl hg.drew a_ (by omega) ?_
 intro ws1 As1 dp dP dS
 refine go 1 ?_
 refine RL.bK (a+k) rfl rfl rfl rfl bG.out rfl rfl (by omega) (by omega) ?_
 refine RL.dL (a+k) rfl rfl rfl aV.out rfl rfl dp dS (by simp;omega) ?_
 intro ws2 As2 dI dQ dT
 refine go 2 ?_
 exact fun ac ha=>⟨_,ha.sub (E':=[(0,.slice (some ⟨g,0,none⟩) n c),(6,i64 a),(7,i64 0),(8,i64 ((b-a:Nat):Int)),(10,i64 (((k+1:Nat):Int)-1))]) ⟨rfl,rfl,rfl,rfl,rfl,trivial⟩,As2,dI,aR.trans ((ar.drew _).trans (dP.trans dQ)),dT,rfl⟩
 refine RL.dJ (a) rfl rfl rfl rfl aV.out rfl a_ hg.drew.1 (by omega) ?_
 refine RL.dJ (a+k) rfl rfl rfl rfl aV.out rfl a_ hg.drew.1 (by omega) ?_
 refine RL.bK (a) rfl rfl rfl rfl bG.out rfl rfl (by omega) (by omega) ?_
 refine RL.dL (a) rfl rfl rfl aV.out rfl rfl hg.drew a_ (by omega) ?_
 intro ws1 As1 dp dP dS
 refine go 1 ?_
 refine RL.bK (a+k) rfl rfl rfl rfl bG.out rfl rfl (by omega) (by omega) ?_
 refine RL.dL (a+k) rfl rfl rfl aV.out rfl rfl dp dS (by simp;omega) ?_
 intro ws2 As2 dI dQ dT
 refine go 2 ?_
 exact fun ac ha=>⟨_,ha.sub (E':=[(0,.slice (some ⟨g,0,none⟩) n c),(6,i64 a),(7,i64 0),(8,i64 ((b-a:Nat):Int)),(10,i64 (((k+1:Nat):Int)-1))]) ⟨rfl,rfl,rfl,rfl,rfl,trivial⟩,As2,dI,aR.trans ((ar.drew _).trans (dP.trans dQ)),dT,rfl⟩
 rintro E' w3 ⟨A3,aP,bw,Ey,rfl⟩
 have Hg:(swp d2 a (a+k)).size=n:=by rw[size_swp];exact sl
 refine go 5 ?_
 have ek:(((k+1:Nat):Int)-1)=((k:Nat):Int):=by omega
 rw[ek]
 refine go 1 ?_
 refine zc (l:=[.slice (some ⟨g,0,none⟩) n c,i64 ((0:Nat):Int),i64 (k:Nat),i64 a]) (YN aP Ey Hg (by omega) (by omega) cV) ?_
 rintro v4 s4 A4 w4 fL bp bJ ⟨rfl,rfl,ru⟩
 refine go 7 ?_
 refine fun ac ha=>⟨k,[(0,.slice (some ⟨g,0,none⟩) n c),(6,i64 a),(7,i64 0),(8,i64 ((b-a:Nat):Int)),(10,i64 ((k:Int)-1))],ha.sub ⟨rfl,rfl,rfl,rfl,rfl,trivial⟩,⟨A4,_,bp,bw.trans bJ,ru,by rw[YP];exact Hg,by omega,by rw[dO,Go.Sort.heapPop],rfl⟩,by omega⟩
 refine CW.exit ?_
 refine cP (vs:=[]) rfl (aw.mk (Le.refl _) hg aR ⟨rfl,rfl,?_⟩)
 obtain rfl:k=0:=by omega
 rw[dO]
 exact a_
end Go.Lw
