/- A region that draws its order, whose operations only read, make memory of their own, or call functions that do just that And what follows. -/
import Derived.Maps.RangeWalk
import Derived.StillTail
import Derived.Tactics
import Derived.KernelRfl
import Derived.WalkKit
import Derived.WalkSpells
import Derived.WalkLawsBesides
import Derived.Lib.Hide
import Derived.Lib.IndexBytes
import Derived.Deep.QuietTactic
import Derived.BigQuiet
import Derived.Deep.RegionWith
import Derived.Deep.DeepMust
import Derived.BigRegion
import Derived.Lib.ConvBytes
import Derived.Laws.MakeOwn
import Derived.Test.YtcgonejkkpbepaaGreatDoorProg
set_option linter.unusedVariables false
set_option linter.unusedSimpArgs false
set_option maxHeartbeats 25600000
set_option maxRecDepth 100000
namespace Go.Proofs.YtcgonejkkpbepaaGreatDoor
section
def Zq(p:Prop):Prop:=p
theorem Zq.o{p:Prop}(h:Zq p):p:=h
theorem zq{p:Prop}(h:p):Zq p:=h
end
namespace Grow
open Go
abbrev Kind:=Option (Value ⊕ (Value->World->Prop))
section
variable (P:Program) (ops:Array Oper) (R:World->World->Prop) (w1:World)
def nk (w:World) (v:Value):Result Next->Prop
 | .ok (.value u) w'=>u=v/\R w w'
 | .ok .skip w'=>undef=v/\R w w'
 | _=>False
def yj (w:World) (Y:Value->World->Prop):Result Next->Prop
 | .ok (.value u) w'=>Y u w'/\R w w'
 | .ok .skip w'=>Y undef w'/\R w w'
 | .ok (.enter f args) w'=>Calls P f args w' λe w''=>∃ v,e=.returned v/\Y v w''/\R w w''
 | _=>False
def kr (o:Oper) (a:Act) (w:World) (v:Value):Prop:=nk R w v ((execOp a.eval o).run P w)
def fq (o:Oper) (a:Act) (w:World) (Y:Value->World->Prop):Prop:=yj P R w Y ((execOp a.eval o).run P w)
def depF (F:List (Tmp×(World->Prop))) (o:Oper) (w:World):Prop:=∀ p∈F,p.1∈o.looksAt ops->p.2 w
def ae9 (d:Option Tmp) (p:World->Prop) (F:List (Tmp×(World->Prop))):List (Tmp×(World->Prop)) :=
 match d with
 | some d=>(d,p) :: F
 | none=>F
def wpG (Fin:Act->World->Prop):List Oper->List Kind->List (Tmp×(World->Prop))->Act->Prop
 | [],_,F,a=>∀ w,R w1 w->(∀ p∈F,p.2 w)->Fin a w
 | o :: rest,Ys,F,a =>
   if Region.wanted o (yielded ops a.tmps) then
    match Ys.headD none with
    | none=>∃ v,(∀ w,R w1 w->depF ops F o w->kr P R o a w v)/\wpG Fin rest Ys.tail F (a.put o.dst v)
    | some (.inl c)=>(∀ w,R w1 w->depF ops F o w->fq P R o a w λu _=>u=c)/\wpG Fin rest Ys.tail F (a.put o.dst c)
    | some (.inr Y)=>(∀ w,R w1 w->depF ops F o w->fq P R o a w Y)/\∀ v,wpG Fin rest Ys.tail (ae9 o.dst (Y v) F) (a.put o.dst v)
   else wpG Fin rest Ys.tail F (a.put o.dst undef)
def bound (o:Oper) (k:Nat):Bool:=o.after.any λe=>Region.binds .any e && e.on == k
theorem bu {o:Oper} {k:Nat} (h:bound o k=true):∃ e∈o.after,Region.binds .any e=true/\e.on=k:=by
 unfold bound at h;obtain ⟨e,A,hb⟩:=Array.any_eq_true'.1 h;simp only [Bool.and_eq_true,beq_iff_eq] at hb;exact ⟨e,A,hb.1,hb.2⟩
def ao2:Bool:=(List.range ops.size).all λi=>((ops[i]?).map λo=>o.after.all λe=>!Region.binds .any e || decide (e.on < i)).getD true
def aqh (n:Nat):Bool:=(List.range n).all λi=>(List.range n).all λj=>i == j || (((ops[i]?).bind (·.dst)).isNone || (ops[i]?).bind (·.dst) != (ops[j]?).bind (·.dst))
def aqi (n:Nat):Bool:=(List.range n).all λi=>((ops[i]?).map λo=>(o.looksAt ops).all λs=>(List.range n).all λk =>
 (ops[k]?).bind (·.dst) != some s || i == k || bound o k || ((ops[k]?).map λp=>bound p i).getD false).getD true
def ari (n:Nat):Bool:=n == ops.size || (List.range n).all λh=>(List.range (n+1)).any λj=>decide (h < j) && ((ops[j]?).map λo=>bound o h).getD false
def ary (n:Nat):Bool:=(List.range ops.size).all λt=>decide (t<=n) || ((ops[t]?).map λo=>bound o (t - 1)).getD false
def gB (n:Nat):Bool:=Region.noSelect ops && decide (n<=ops.size) && ao2 ops && aqh ops n && aqi ops n && ari ops n && ary ops n
def inB (a:Act):Bool:=ops.all λo=>o.dst.all λd=>decide (d < a.tmps.size)
end
section
variable {P:Program} {ops:Array Oper} {R:World->World->Prop} {w1:World}
theorem mh {a b:Act} {o:Oper} (hs:∀ cs c,o.op≠.select cs c) (h:∀ s∈o.looksAt ops,a.tmps[s]?=b.tmps[s]?) :
 execOp a.eval o=execOp b.eval o/\Region.wanted o (yielded ops a.tmps)=Region.wanted o (yielded ops b.tmps):=by
 refine ⟨execOp_congr o hs λx A=>?_,?_⟩
 ·
  cases x with
  | tmp t =>
    have:=h t (List.mem_append_left _ (List.mem_filterMap.2 ⟨.tmp t,by simpa using A,rfl⟩));simp only [Act.eval,Array.getD_eq_getD_getElem?,this]
  | _=>rfl
 ·
  unfold Region.wanted
  cases hg:o.guard with
  | none=>rfl
  | some gw =>
    obtain ⟨g,want⟩:=gw
    have B:yielded ops a.tmps g=yielded ops b.tmps g:=by
     unfold yielded
     cases ht:(ops[g]?).bind (·.dst) with
     | none=>rfl
     | some t =>
       have:=h t (by simp [Oper.looksAt,hg,ht]);simp only [Option.bind_some,this]
    simp only [B]
def L (listed:Array Bool) (k:Nat):Prop:=listed.getD k false=true
def D (ops:Array Oper) (k:Nat):Option Tmp:=(ops[k]?).bind (·.dst)
def slot (a:Act) (d:Tmp):Value:=a.tmps.getD d undef
structure Chk (ops:Array Oper) (n:Nat):Prop where
 sel:∀ (j:Nat) (o:Oper) cs b,ops[j]?=some o->o.op≠.select cs b
 le:n<=ops.size
 low:∀ i o,ops[i]?=some o->∀ e∈o.after,Region.binds .any e=true->e.on < i
 uniq:∀ i j d,i < n->j < n->D ops i=some d->D ops j=some d->i=j
 looks:∀ i o s k,i < n->ops[i]?=some o->s∈o.looksAt ops->k < n->D ops k=some s->i=k\/bound o k=true\/∃ p,ops[k]?=some p/\bound p i=true
 waits:n=ops.size\/∀ h,h < n->∃ j o,h < j/\j<=n/\ops[j]?=some o/\bound o h=true
 seq:∀ t o,n < t->ops[t]?=some o->bound o (t - 1)=true
theorem Chk.of {n:Nat} (h:gB ops n=true):Chk ops n:=by
 unfold gB at h;simp only [Bool.and_eq_true,decide_eq_true_eq] at h;obtain ⟨⟨⟨⟨⟨⟨h0,J⟩,h1⟩,N⟩,O⟩,B⟩,R⟩:=h;refine ⟨Region.noSelect_spec h0,J,?_,?_,?_,?_,?_⟩
 ·
  intro i o A e U hb;have E:i < ops.size:=(Array.getElem?_eq_some_iff.1 A).1;have:=List.all_eq_true.1 h1 i (List.mem_range.2 E);simp only [A,Option.map_some,Option.getD_some] at this;have:=Array.all_eq_true_iff_forall_mem.1 this e U
  simpa [hb] using this
 ·
  intro i j d E M F I;have:=List.all_eq_true.1 N i (List.mem_range.2 E);have:=List.all_eq_true.1 this j (List.mem_range.2 M);unfold D at F I
  simpa [F,I] using this
 ·
  intro i o s k E A X hk hd;have:=List.all_eq_true.1 O i (List.mem_range.2 E);simp only [A,Option.map_some,Option.getD_some] at this;have:=List.all_eq_true.1 this s X;have:=List.all_eq_true.1 this k (List.mem_range.2 hk);unfold D at hd
  cases hk2:ops[k]? with
  | none=>simp [hk2] at hd
  | some q =>
    simp only [hk2,Option.bind_some] at hd;simp only [hk2,Option.bind_some,hd,Option.map_some,Option.getD_some,Bool.or_eq_true,beq_iff_eq,bne_self_eq_false,Bool.false_eq_true,false_or] at this
    rcases this with (h | h) | h
    . exact .inl h
    . exact .inr (.inl h)
    . exact .inr (.inr ⟨q,rfl,h⟩)
 ·
  unfold ari at B;simp only [Bool.or_eq_true,beq_iff_eq] at B
  rcases B with B | B
  . exact .inl B
  ·
   refine .inr λh Y=>?_
   have:=List.all_eq_true.1 B h (List.mem_range.2 Y);obtain ⟨j,M,hb⟩:=List.any_eq_true.1 this;simp only [Bool.and_eq_true,decide_eq_true_eq] at hb
   cases A:ops[j]? with
   | none=>simp [A] at hb
   | some o=>exact ⟨j,o,hb.1,by have:=List.mem_range.1 M; omega,A,by simpa [A] using hb.2⟩
 ·
  intro t o Z A;have E:t < ops.size:=(Array.getElem?_eq_some_iff.1 A).1;have:=List.all_eq_true.1 R t (List.mem_range.2 E)
  simpa [A,show ¬ t<=n by omega] using this
def Agree (ops:Array Oper) (a0 a b:Act) (k:Nat) (o:Oper):Prop :=
 (∀ s∈o.looksAt ops,∀ j,j < k->D ops j=some s->b.tmps[s]?=a.tmps[s]?)/\(∀ s∈o.looksAt ops,(∀ j,j < k->D ops j≠some s)->b.tmps[s]?=a0.tmps[s]?)
theorem Agree.same {a0 a b b':Act} {k:Nat} {o:Oper} (h:Agree ops a0 a b k o) (h':Agree ops a0 a b' k o):∀ s∈o.looksAt ops,b.tmps[s]?=b'.tmps[s]?:=by
 intro s B
 by_cases A:∃ j,j < k/\D ops j=some s
 . obtain ⟨j,A,hd⟩:=A
   rw [h.1 s B j A hd,h'.1 s B j A hd]
 . have F:∀ j,j < k->D ops j≠some s:=λj E hd=>A ⟨j,E,hd⟩
   rw [h.2 s B F,h'.2 s B F]
section
variable (P:Program) (ops:Array Oper) (R:World->World->Prop) (w1:World) (a0:Act) (n:Nat) (kind:Nat->Kind)
def GoodF (a:Act) (k:Nat) (o:Oper) (F:List (Tmp×(World->Prop))):Prop:=∀ p∈F,p.1∈o.looksAt ops ->
 ∃ j oj Y bj,j < k/\ops[j]?=some oj/\oj.dst=some p.1/\kind j=some (.inr Y)/\Agree ops a0 a bj j oj/\Region.wanted oj (yielded ops bj.tmps)=true/\p.2=Y (slot a p.1)
def Holds (a:Act) (w:World) (k:Nat) (o:Oper) (d:Tmp) (b:Act):Prop :=
 if Region.wanted o (yielded ops b.tmps)=true then
  match kind k with
  | none=>∀ v F,GoodF ops a0 kind a k o F->(∀ w',R w1 w'->depF ops F o w'->kr P R o b w' v)->slot a d=v
  | some (.inl c)=>slot a d=c
  | some (.inr Y)=>Y (slot a d) w
 else slot a d=undef
structure Inv (listed:Array Bool) (a:Act) (w:World):Prop where
 size:listed.size=ops.size
 reach:R w1 w
 defs:a.defers=a0.defers
 tsz:a.tmps.size=a0.tmps.size
 closed:∀ k o,ops[k]?=some o->L listed k->∀ e∈o.after,Region.binds .any e=true->L listed e.on
 slots:∀ s,(∀ k,L listed k->D ops k≠some s)->a.tmps[s]?=a0.tmps[s]?
 head:∀ k,L listed k->k < n
 vals:∀ k o d,ops[k]?=some o->L listed k->o.dst=some d->∀ b,Agree ops a0 a b k o->Holds P ops R w1 a0 kind a w k o d b
end
variable {a0:Act} {n:Nat} {kind:Nat->Kind}
theorem bound_lt (C:Chk ops n) {i k:Nat} {o:Oper} (ho:ops[i]?=some o) (h:bound o k=true):k < i:=by
 obtain ⟨e,A,hb,rfl⟩:=bu h;exact C.low i o ho e A hb
theorem dep_listed (C:Chk ops n) {listed:Array Bool} {k j:Nat} {o:Oper} {s:Tmp} (hk:k < n) (ho:ops[k]?=some o)
 (hall:∀ e∈o.after,Region.binds .any e=true->L listed e.on) (hs:s∈o.looksAt ops) (hj:j < k) (hd:D ops j=some s):L listed j:=by
 rcases C.looks k o s j hk ho hs (by omega) hd with h | h | ⟨p,hp,h⟩
 . omega
 . obtain ⟨e,A,hb,rfl⟩:=bu h
   exact hall e A hb
 . have:=bound_lt C hp h; omega
theorem depF_of (C:Chk ops n) {listed:Array Bool} {a:Act} {w:World} (I:Inv P ops R w1 a0 n kind listed a w) {k:Nat} {o:Oper} (hk:k < n) (ho:ops[k]?=some o)
 (hall:∀ e∈o.after,Region.binds .any e=true->L listed e.on) {F:List (Tmp×(World->Prop))} (hF:GoodF ops a0 kind a k o F):depF ops F o w:=by
 intro p hp J;obtain ⟨j,oj,Y,M,N,A,hd,B,hb,O,U⟩:=hF p hp J;have E:=dep_listed C hk ho hall J N (by simp [D,A,hd]);have:=I.vals j oj p.1 A E hd M hb;unfold Holds at this;rw [if_pos O,B] at this;rw [U]; exact this
theorem ed {listed:Array Bool} {i k:Nat} (hi:i < listed.size):L (listed.setIfInBounds i true) k↔k=i\/L listed k:=by
 unfold L
 by_cases h:k=i
 . subst h; simp [hi]
 . simp [h,Array.getElem?_setIfInBounds_ne (Ne.symm h)]
theorem j4 {a:Act} {d:Tmp} {v:Value} (hd:d < a.tmps.size):slot (a.put (some d) v) d=v:=by
 simp [slot,Act.put,hd]
theorem dm {a:Act} {x:Option Tmp} {s:Tmp} {v:Value} (h:x≠some s):(a.put x v).tmps[s]?=a.tmps[s]?:=by
 cases x with
 | none=>rfl
 | some d=>exact Array.getElem?_setIfInBounds_ne (λe=>h (by rw [e]))
theorem iy {a:Act} {x:Option Tmp} {s:Tmp} {v:Value} (h:x≠some s):slot (a.put x v) s=slot a s:=by
 unfold slot; rw [Array.getD_eq_getD_getElem?,Array.getD_eq_getD_getElem?,dm h]
theorem qw {a:Act} {x:Option Tmp} {v:Value}:(a.put x v).tmps.size=a.tmps.size:=by
 cases x <;> simp [Act.put]
theorem qx {a:Act} {x:Option Tmp} {v:Value}:(a.put x v).defers=a.defers:=by
 cases x <;> rfl
theorem Inv.step (C:Chk ops n) (htr:∀ u v w:World,R u v->R v w->R u w) (hstab:∀ k Y,kind k=some (.inr Y)->∀ v w w',R w w'->Y v w->Y v w')
 {listed:Array Bool} {a:Act} {w w':World} (I:Inv P ops R w1 a0 n kind listed a w) {i:Nat} {o:Oper} (hin:i < n) (ho:ops[i]?=some o) (hun:¬ L listed i)
 (hall:∀ e∈o.after,Region.binds .any e=true->L listed e.on) {v:Value} (hR:R w w')
 (hv:∀ d,o.dst=some d->∀ b,Agree ops a0 (a.put o.dst v) b i o->Holds P ops R w1 a0 kind (a.put o.dst v) w' i o d b) :
 Inv P ops R w1 a0 n kind (listed.setIfInBounds i true) (a.put o.dst v) w':=by
 have E:i < listed.size:=by rw [I.size]; exact (Array.getElem?_eq_some_iff.1 ho).1
 have J:D ops i=o.dst:=by simp [D,ho]
 have keep:∀ k ok,ops[k]?=some ok->L listed k->∀ s∈ok.looksAt ops,∀ j,j < k->D ops j=some s->o.dst≠some s:=by
  intro k ok A hk s M j B hd U;have ac:=I.head k hk;have:j=i:=C.uniq j i s (by omega) hin hd (by rw [J,U]);subst this;exact hun (dep_listed C ac A (I.closed k ok A hk) M B hd)
 have X:∀ k ok,ops[k]?=some ok->L listed k->∀ b,Agree ops a0 (a.put o.dst v) b k ok↔Agree ops a0 a b k ok:=by
  intro k ok A hk b
  constructor
  iterate 2
   . intro h; exact ⟨λs M j B hd=>by rw [h.1 s M j B hd,dm (keep k ok A hk s M j B hd)],h.2⟩
 refine ⟨by simpa using I.size,htr _ _ _ I.reach hR,qx.trans I.defs,qw.trans I.tsz,?_,?_,?_,?_⟩
 ·
  intro k ok A hk e U hb
  rcases (ed E).1 hk with rfl | hk
  . rw [ho] at A; cases A; exact (ed E).2 (.inr (hall e U hb))
  . exact (ed E).2 (.inr (I.closed k ok A hk e U hb))
 . intro s M
   rw [dm (by rw [<- J]; exact M i ((ed E).2 (.inl rfl)))];exact I.slots s λk hk=>M k ((ed E).2 (.inr hk))
 ·
  intro k hk
  rcases (ed E).1 hk with rfl | hk
  . exact hin
  . exact I.head k hk
 ·
  intro k ok d A hk hd b hb
  rcases (ed E).1 hk with rfl | hk
  . rw [ho] at A; cases A; exact hv d hd b hb
  ·
   have ad:k≠i:=λe=>hun (e ▸ hk)
   have ak:o.dst≠some d:=λe=>ad (C.uniq k i d (I.head k hk) hin (by simp [D,A,hd]) (by rw [J,e]))
   have h:=I.vals k ok d A hk hd b ((X k ok A hk b).1 hb);unfold Holds at h ⊢;rw [iy ak]
   split
   ·
    rename_i hw
    rw [if_pos hw] at h
    cases hkd:kind k with
    | none =>
      rw [hkd] at h;intro v' F hF N;refine h v' F (λp hp hl=>?_) N;obtain ⟨j,oj,Y,bj,B,O,Z,an,ao,ap,U⟩:=hF p hp hl;have ab:D ops j=some p.1:=by simp [D,O,Z]
      have ar:=dep_listed C (I.head k hk) A (I.closed k ok A hk) hl B ab;exact ⟨j,oj,Y,bj,B,O,Z,an,(X j oj O ar bj).1 ao,ap,by rw [U,iy (keep k ok A hk p.1 hl j B ab)]⟩
    | some x =>
      rw [hkd] at h
      cases x with
      | inl c=>exact h
      | inr Y=>exact hstab k Y hkd _ _ _ hR h
   . rename_i hw
     rw [if_neg hw] at h;exact h
section
variable (P:Program) (ops:Array Oper) (R:World->World->Prop) (w1:World) (a0:Act) (n:Nat) (kind:Nat->Kind)
structure Path (listed:Array Bool) (a:Act) (k:Nat) (b:Act) (F:List (Tmp×(World->Prop))):Prop where
 defs:b.defers=a0.defers
 tsz:b.tmps.size=a0.tmps.size
 other:∀ s,(∀ j,j < k->D ops j≠some s)->b.tmps[s]?=a0.tmps[s]?
 same:∀ j,j < k->L listed j->∀ d,D ops j=some d->b.tmps[d]?=a.tmps[d]?
 facts:∀ p∈F,∃ j oj Y v,j < k/\ops[j]?=some oj/\oj.dst=some p.1/\kind j=some (.inr Y)/\p.2=Y v /\
  (L listed j->v=slot a p.1/\∃ bj,Agree ops a0 a bj j oj/\Region.wanted oj (yielded ops bj.tmps)=true)
def Spec (a:Act) (i:Nat) (o:Oper):Prop:=∃ b F,Agree ops a0 a b i o/\GoodF ops a0 kind a i o F/\(Region.wanted o (yielded ops b.tmps)=true ->
 match kind i with
 | none=>∃ v,∀ w',R w1 w'->depF ops F o w'->kr P R o b w' v
 | some (.inl c)=>∀ w',R w1 w'->depF ops F o w'->fq P R o b w' λu _=>u=c
 | some (.inr Y)=>∀ w',R w1 w'->depF ops F o w'->fq P R o b w' Y)
end
theorem Path.agree (C:Chk ops n) {listed:Array Bool} {a b:Act} {F:List (Tmp×(World->Prop))} {k:Nat} {o:Oper} (hp:Path ops a0 kind listed a k b F) (hk:k < n) (ho:ops[k]?=some o)
 (hall:∀ e∈o.after,Region.binds .any e=true->L listed e.on):Agree ops a0 a b k o/\GoodF ops a0 kind a k o F:=by
 refine ⟨⟨λs M j A hd=>hp.same j A (dep_listed C hk ho hall M A hd) s hd,λs _ N=>hp.other s N⟩,λp E O=>?_⟩;obtain ⟨j,oj,Y,v,A,B,hd,I,R,U⟩:=hp.facts p E;obtain ⟨X,Z,J,hw⟩:=U (dep_listed C hk ho hall O A (by simp [D,B,hd]));exact ⟨j,oj,Y,Z,A,B,hd,I,J,hw,by rw [R,X]⟩
theorem Path.step (C:Chk ops n) {listed:Array Bool} {a b:Act} {w:World} {F:List (Tmp×(World->Prop))} {k:Nat} {o:Oper} (I:Inv P ops R w1 a0 n kind listed a w)
 (hin:∀ o d,o∈ops->o.dst=some d->d < a0.tmps.size) (hp:Path ops a0 kind listed a k b F) (hk:k < n) (ho:ops[k]?=some o) (v:Value)
 (hv:L listed k->∀ d,o.dst=some d->v=slot a d):Path ops a0 kind listed a (k+1) (b.put o.dst v) F:=by
 have A:D ops k=o.dst:=by simp [D,ho]
 refine ⟨qx.trans hp.defs,qw.trans hp.tsz,λs M=>?_,λj N E d hd=>?_,λp J=>?_⟩
 . rw [dm (by rw [<- A]; exact M k (by omega))]
   exact hp.other s λj N=>M j (by omega)
 ·
  by_cases e:j=k
  ·
   subst e;rw [A] at hd;have B:=hin o d (Array.mem_of_getElem? ho) hd;have:=hv E d hd;rw [hd];have h1:d < b.tmps.size:=by rw [hp.tsz]; exact B
   have O:d < a.tmps.size:=by rw [I.tsz]; exact B
   simp only [Act.put,Array.getElem?_setIfInBounds_self_of_lt h1,this,slot];simp [O]
  . rw [dm λU=>e (C.uniq j k d (I.head j E) hk hd (by rw [A,U]))]
    exact hp.same j (by omega) E d hd
 . obtain ⟨j,oj,Y,v,N,h⟩:=hp.facts p J
   exact ⟨j,oj,Y,v,by omega,h⟩
theorem Path.fact {listed:Array Bool} {a b b':Act} {F:List (Tmp×(World->Prop))} {k:Nat} {o:Oper} (hp:Path ops a0 kind listed a (k+1) b' F) (ho:ops[k]?=some o) {Y:Value->World->Prop}
 (hY:kind k=some (.inr Y)) (v:Value) (hv:L listed k->(∀ d,o.dst=some d->v=slot a d)/\Agree ops a0 a b k o/\Region.wanted o (yielded ops b.tmps)=true) :
 Path ops a0 kind listed a (k+1) b' (ae9 o.dst (Y v) F):=by
 refine ⟨hp.defs,hp.tsz,hp.other,hp.same,λp A=>?_⟩;unfold ae9 at A
 split at A
 ·
  rename_i d hd
  rcases List.mem_cons.1 A with rfl | A
  . exact ⟨k,o,Y,v,by omega,ho,hd,hY,rfl,λB=>⟨(hv B).1 d hd,b,(hv B).2⟩⟩
  . exact hp.facts p A
 . exact hp.facts p A
theorem descend (C:Chk ops n) (hin:∀ o d,o∈ops->o.dst=some d->d < a0.tmps.size) {Fin:Act->World->Prop} {listed:Array Bool} {a:Act} {w:World} (I:Inv P ops R w1 a0 n kind listed a w) :
 ∀ (l:List Oper) (k:Nat) (Ks:List Kind) (F:List (Tmp×(World->Prop))) (b:Act),k+l.length=n->(∀ j,j < l.length->l[j]?=ops[k+j]?)->(∀ j,Ks.getD j none=kind (k+j)) ->
  Path ops a0 kind listed a k b F->wpG P ops R w1 Fin l Ks F b ->
  (∀ i o,k<=i->i < n->ops[i]?=some o->(∀ e∈o.after,Region.binds .any e=true->L listed e.on)->Spec P ops R w1 a0 kind a i o) /\
  (∃ b F,Path ops a0 kind listed a n b F/\∀ w,R w1 w->(∀ p∈F,p.2 w)->Fin b w)
 | [],k,Ks,F,b,hn,_,_,hp,h=>by
   have:k=n:=by simpa using hn
   subst this;exact ⟨λi o h1 U=>by omega,b,F,hp,h⟩
 | o :: l,k,Ks,F,b,hn,hl,hK,hp,h=>by
   simp only [List.length_cons] at hn;have A:ops[k]?=some o:=by have:=hl 0 (by simp); simpa using this.symm
   have hk:k < n:=by omega
   have Z:∀ j,j < l.length->l[j]?=ops[(k+1)+j]?:=λj hj=>by
    have:=hl (j+1) (by simp; omega);rw [show k+1+j=k+(j+1) by omega,<- this]; rfl
   have ab:∀ j,Ks.tail.getD j none=kind ((k+1)+j):=λj=>by
    have:=hK (j+1);rw [show k+1+j=k+(j+1) by omega,<- this]
    cases Ks <;> simp
   have ac:Ks.headD none=kind k:=by
    have:=hK 0;rw [Nat.add_zero] at this;rw [<- this]
    cases Ks <;> simp
   have B:L listed k->∀ e∈o.after,Region.binds .any e=true->L listed e.on:=λE=>I.closed k o A E
   have key:∃ X F',Path ops a0 kind listed a (k+1) X F'/\wpG P ops R w1 Fin l Ks.tail F' X /\
    (Region.wanted o (yielded ops b.tmps)=true->match kind k with
     | none=>∃ v,∀ w',R w1 w'->depF ops F o w'->kr P R o b w' v
     | some (.inl c)=>∀ w',R w1 w'->depF ops F o w'->fq P R o b w' λu _=>u=c
     | some (.inr Y)=>∀ w',R w1 w'->depF ops F o w'->fq P R o b w' Y):=by
    unfold wpG at h
    split at h
    ·
     rename_i O
     rw [ac] at h
     cases hkd:kind k with
     | none =>
       rw [hkd] at h;obtain ⟨v,J,h⟩:=h;refine ⟨_,F,hp.step C I hin hk A v λE d hd=>?_,h,λ_=>⟨v,J⟩⟩;obtain ⟨hA,hG⟩:=hp.agree C hk A (B E);have:=I.vals k o d A E hd b hA;unfold Holds at this;rw [if_pos O,hkd] at this;exact (this v F hG J).symm
     | some x =>
       rw [hkd] at h
       cases x with
       | inl c =>
         obtain ⟨J,h⟩:=h;refine ⟨_,F,hp.step C I hin hk A c λE d hd=>?_,h,λ_=>J⟩;obtain ⟨hA,hG⟩:=hp.agree C hk A (B E);have:=I.vals k o d A E hd b hA;unfold Holds at this;rw [if_pos O,hkd] at this;exact this.symm
       | inr Y =>
         obtain ⟨J,h⟩:=h;have hv:L listed k->∀ d,o.dst=some d->(o.dst.map (slot a)).getD undef=slot a d:=λ_ d hd=>by simp [hd]
         refine ⟨_,_,(hp.step C I hin hk A _ hv).fact A hkd _ λE=>⟨hv E,(hp.agree C hk A (B E)).1,O⟩,h _,λ_=>J⟩
    . rename_i O
      refine ⟨_,F,hp.step C I hin hk A undef λE d hd=>?_,h,λak=>absurd ak O⟩;have:=I.vals k o d A E hd b (hp.agree C hk A (B E)).1;unfold Holds at this;rw [if_neg O] at this;exact this.symm
   obtain ⟨X,F',al,h',J⟩:=key;obtain ⟨r1,r2⟩:=descend C hin I l (k+1) Ks.tail F' X (by omega) Z ab al h';refine ⟨λi oi h1 U M N=>?_,r2⟩
   by_cases e:i=k
   . subst e
     rw [A] at M; cases M;exact ⟨b,F,(hp.agree C U A N).1,(hp.agree C U A N).2,J⟩
   . exact r1 i oi (by omega) U M N
def left (listed:Array Bool):Nat->Nat
 | 0=>0
 | n+1=>left listed n+if listed.getD n false then 0 else 1
theorem acx {listed:Array Bool} {i:Nat}:∀ n,n<=i->left (listed.setIfInBounds i true) n=left listed n
 | 0,_=>rfl
 | n+1,h=>by
   unfold left;rw [acx n (by omega)]
   have:(listed.setIfInBounds i true).getD n false=listed.getD n false:=by
    rw [Array.getD_eq_getD_getElem?,Array.getD_eq_getD_getElem?,Array.getElem?_setIfInBounds_ne (by omega)]
   rw [this]
theorem yl {listed:Array Bool} {i:Nat} (hi:i < listed.size) (hun:¬ L listed i):∀ n,i < n->left (listed.setIfInBounds i true) n+1=left listed n
 | 0,h=>by omega
 | n+1,h=>by
   unfold left
   by_cases e:i=n
   . subst e
     rw [acx i (Nat.le_refl _)];have h1:(listed.setIfInBounds i true).getD i false=true:=(ed hi).2 (.inl rfl);have A:listed.getD i false=false:=by unfold L at hun; simpa using hun
     rw [h1,A]; simp
   . have:=yl hi hun n (by omega)
     have h1:(listed.setIfInBounds i true).getD n false=listed.getD n false:=by
      rw [Array.getD_eq_getD_getElem?,Array.getD_eq_getD_getElem?,Array.getElem?_setIfInBounds_ne (by omega)]
     rw [h1]; omega
theorem mo {listed:Array Bool}:∀ n,left listed n=0->∀ k,k < n->L listed k
 | 0,_,k,hk=>by omega
 | n+1,h,k,hk=>by
   unfold left at h
   by_cases e:k=n
   . subst e
     unfold L
     by_cases h1:listed.getD k false=true
     . exact h1
     . rw [if_neg h1] at h; omega
   . exact mo n (by omega) k (by omega)
theorem u6 {listed:Array Bool}:∀ n,0 < left listed n->∃ k,k < n/\¬ L listed k/\∀ j,j < k->L listed j
 | 0,h=>by simp [left] at h
 | n+1,h=>by
   by_cases h0:0 < left listed n
   . obtain ⟨k,hk,h1,B⟩:=u6 n h0
     exact ⟨k,by omega,h1,B⟩
   ·
    have E:=mo (listed:=listed) n (by omega);refine ⟨n,by omega,λA=>?_,E⟩;unfold left at h;unfold L at A;rw [if_pos A] at h;omega
theorem jc {listed:Array Bool} (hs:listed.size=ops.size) {j:Nat}:j∈Region.ready .any ops listed ↔
 ¬ L listed j/\∃ o,ops[j]?=some o/\∀ e∈o.after,Region.binds .any e=true->L listed e.on:=by
 rw [mem_ready]
 constructor
 ·
  rintro ⟨h0,o,A,h⟩;have B:j < listed.size:=by rw [hs]; exact (Array.getElem?_eq_some_iff.1 A).1
  refine ⟨?_,o,A,h⟩;unfold L;simp [B] at h0 ⊢;exact h0
 ·
  rintro ⟨h0,o,A,h⟩;have B:j < listed.size:=by rw [hs]; exact (Array.getElem?_eq_some_iff.1 A).1
  refine ⟨?_,o,A,h⟩;unfold L at h0;simp [B] at h0 ⊢;exact h0
theorem qy (C:Chk ops n) {Q:Exit->Act->World->Prop}:∀ (l:List Oper) (m:Nat) (listed:Array Bool) (a:Act) (w:World),n<=m->(∀ j,l[j]?=ops[m+j]?)->l.length=ops.size - m->listed.size=ops.size ->
 (∀ k,k < ops.size->(L listed k↔k < m))->wpList P ops Q l a w->wpAny P .any ops Q l.length listed a w
 | [],m,listed,a,w,hm,hl,hlen,hs,hL,h=>by
   refine ⟨List.eq_nil_iff_forall_not_mem.2 λj U=>?_,h⟩;obtain ⟨h0,o,B,_⟩:=(jc hs).1 U;have N:=(Array.getElem?_eq_some_iff.1 B).1;exact h0 ((hL j N).2 (by simp at hlen; omega))
 | o :: l,m,listed,a,w,hm,hl,hlen,hs,hL,h=>by
   have B:ops[m]?=some o:=by simpa using (hl 0).symm
   have A:m < ops.size:=(Array.getElem?_eq_some_iff.1 B).1;have E:m∈Region.ready .any ops listed:=(jc hs).2 ⟨λh=>by have:=(hL m A).1 h; omega,o,B,λe M hb=>(hL e.on (by have:=C.low m o B e M hb; omega)).2 (C.low m o B e M hb)⟩;refine ⟨λh0=>(by rw [h0] at E; cases E),λi X=>?_⟩;obtain ⟨h0,Y,F,I⟩:=(jc hs).1 X;have J:=(Array.getElem?_eq_some_iff.1 F).1
   have O:i=m:=by
    by_cases e:i=m
    . exact e
    . have Z:¬ i < m:=λh=>h0 ((hL i J).2 h)
      obtain ⟨e',M,hb,R⟩:=bu (C.seq i Y (by omega) F);have:=(hL (i - 1) (by omega)).1 (R ▸ I e' M hb);omega
   subst O;have hw:wpOp P ops Q i (wpList P ops Q l) a w:=by unfold wpOp; simp only [B]; exact h
   refine wpOp_mono (λa' w' h'=>qy C l (i+1) _ a' w' (by omega) (λj=>?_) (by simp at hlen; omega) (by simpa using hs) (λk hk=>?_) h') hw
   . have:=hl (j+1)
     rw [show i+1+j=i+(j+1) by omega,<- this]; rfl
   . rw [ed (by rw [hs]; exact A),hL k hk]; omega
theorem zn {o:Oper} {a:Act} {w:World} {v:Value} {K:Act->World->Prop} {Q:Exit->Act->World->Prop} (h:kr P R o a w v) (hK:∀ w',R w w'->K (a.put o.dst v) w'):o.wp P a w K Q:=by
 unfold kr at h;unfold Oper.wp;generalize (execOp a.eval o).run P w=r at *
 cases r with
 | ok x w' =>
   cases x <;> simp only [nk] at h <;> simp only [Oper.upon]
   case value u=>obtain ⟨rfl,A⟩:=h; exact hK _ A
   case skip=>obtain ⟨rfl,A⟩:=h; exact hK _ A
 | halt x w'=>simp only [nk] at h
theorem kz {o:Oper} {a:Act} {w:World} {Y:Value->World->Prop} {K:Act->World->Prop} {Q:Exit->Act->World->Prop} (h:fq P R o a w Y) (hK:∀ v w',Y v w'->R w w'->K (a.put o.dst v) w'):o.wp P a w K Q:=by
 unfold fq at h;unfold Oper.wp;generalize (execOp a.eval o).run P w=r at *
 cases r with
 | ok x w' =>
   cases x <;> simp only [yj] at h <;> simp only [Oper.upon]
   case value u=>exact hK _ _ h.1 h.2
   case skip=>exact hK _ _ h.1 h.2
   case enter f args=>exact h.mono λe A ⟨v,B,E,F⟩=>by subst B; exact hK _ _ E F
 | halt x w'=>simp only [yj] at h
theorem Inv.settle {listed:Array Bool} {a:Act} {w:World} (I:Inv P ops R w1 a0 n kind listed a w) (hall:∀ k,k < n->L listed k)
 {b:Act} {F:List (Tmp×(World->Prop))} (hp:Path ops a0 kind listed a n b F):b=a/\∀ p∈F,p.2 w:=by
 constructor
 ·
  have ht:b.tmps=a.tmps:=by
   apply Array.ext_getElem?;intro s
   by_cases A:∃ j,j < n/\D ops j=some s
   . obtain ⟨j,A,hd⟩:=A
     exact hp.same j A (hall j A) s hd
   . have O:∀ j,j < n->D ops j≠some s:=λj B hd=>A ⟨j,B,hd⟩
     rw [hp.other s O,I.slots s λk hk=>O k (I.head k hk)]
  have hd:b.defers=a.defers:=hp.defs.trans I.defs.symm
  cases a; cases b; simp_all
 ·
  intro p E;obtain ⟨j,oj,Y,v,A,J,hd,M,U,X⟩:=hp.facts p E;obtain ⟨Z,bj,N,hw⟩:=X (hall j A);have:=I.vals j oj p.1 J (hall j A) hd bj N;unfold Holds at this;rw [if_pos hw,M] at this;rw [U,Z]; exact this
theorem wpAny_of_g (C:Chk ops n) (hrf:∀ w:World,R w w) (htr:∀ u v w:World,R u v->R v w->R u w) (hstab:∀ k Y,kind k=some (.inr Y)->∀ v w w',R w w'->Y v w->Y v w')
 (hin:∀ o d,o∈ops->o.dst=some d->d < a0.tmps.size) {Q:Exit->Act->World->Prop} {l:List Oper} (hll:l.length=n) (hl:∀ j,j < l.length->l[j]?=ops[0+j]?) {Ks:List Kind} (hK:∀ j,Ks.getD j none=kind (0+j))
 {t:List Oper} (htl:t.length=ops.size - n) (ht:∀ j,t[j]?=ops[n+j]?)
 (h:wpG P ops R w1 (λa' w'=>wpList P ops Q t a' w') l Ks [] a0) :
 ∀ (fuel:Nat) (listed:Array Bool) (a:Act) (w:World),fuel=left listed n+t.length->Inv P ops R w1 a0 n kind listed a w->wpAny P .any ops Q fuel listed a w:=by
 intro fuel
 induction fuel with
 | zero =>
   intro listed a w hf I;have A:=mo n (show left listed n=0 by omega);have h0:Path ops a0 kind listed a 0 a0 []:=⟨rfl,rfl,λ_ _=>rfl,λj hj=>by omega,λp hp=>by cases hp⟩;obtain ⟨b,F,hp,ac⟩:=(descend C hin I l 0 Ks [] a0 (by omega) hl hK h0 h).2;obtain ⟨rfl,hF⟩:=I.settle A hp;have:=qy C t n listed b w (Nat.le_refl _) ht htl I.size (λk hk=>⟨I.head k,A k⟩) (ac w I.reach hF);rw [show t.length=0 by omega] at this;exact this
 | succ fuel ih =>
   intro listed a w hf I;have h0:Path ops a0 kind listed a 0 a0 []:=⟨rfl,rfl,λ_ _=>rfl,λj hj=>by omega,λp hp=>by cases hp⟩;obtain ⟨b3,b,F,hp,ac⟩:=descend C hin I l 0 Ks [] a0 (by omega) hl hK h0 h
   by_cases hz:left listed n=0
   . have A:=mo n hz
     obtain ⟨rfl,hF⟩:=I.settle A hp;have:=qy C t n listed b w (Nat.le_refl _) ht htl I.size (λk hk=>⟨I.head k,A k⟩) (ac w I.reach hF);rw [show t.length=fuel+1 by omega] at this;exact this
   ·
    obtain ⟨k,b4,am,ap⟩:=u6 n (by omega:0 < left listed n);have bc:k < ops.size:=by have:=C.le; omega
    refine ⟨λhr=>?_,λi hi=>?_⟩
    . have:k∈Region.ready .any ops listed:=(jc I.size).2 ⟨am,ops[k],Array.getElem?_eq_getElem bc,λe he hb=>ap _ (C.low k _ (Array.getElem?_eq_getElem bc) e he hb)⟩
      rw [hr] at this; cases this
    ·
     obtain ⟨J,o,N,A⟩:=(jc I.size).1 hi;have b5:=(Array.getElem?_eq_some_iff.1 N).1
     have B:i < n:=by
      by_cases hlt:i < n
      . exact hlt
      ·
       -- the last of the first n that is still to come is waited for
       have ar:∀ m,m<=n->(∀ j,m<=j->j < n->L listed j)->False:=by
        intro m
        induction m with
        | zero=>intro _ hm; exact am (hm k (by omega) b4)
        | succ m ihm =>
          intro cp hm
          by_cases hLm:L listed m
          . exact ihm (by omega) λj h1 h2=>by
             by_cases e:j=m
             . subst e; exact hLm
             . exact hm j (by omega) h2
          ·
           rcases C.waits with hw | hw
           . omega
           . obtain ⟨j,oj,h1,h2,X,hb⟩:=hw m (by omega)
             obtain ⟨e,he,bd,bh⟩:=bu hb
             by_cases hjn:j < n
             . exact hLm (bh ▸ I.closed j oj X (hm j (by omega) hjn) e he bd)
             . have bk:j=n:=by omega
               subst bk
               by_cases hij:i=j
               . subst hij
                 rw [N] at X; cases X;exact hLm (bh ▸ A e he bd)
               . obtain ⟨e',b6,b7,bl⟩:=bu (C.seq i o (by omega) N)
                 have:=I.head (i - 1) (bl ▸ A e' b6 b7);omega
       exact (ar n (Nat.le_refl _) λj h1 h2=>by omega).elim
     obtain ⟨b',F',hA,hG,E⟩:=b3 i o (by omega) B N A;have ao:=λcs c=>C.sel i o cs c N
     have b9:∀ s∈o.looksAt ops,a.tmps[s]?=b'.tmps[s]?:=by
      intro s hs
      by_cases hj:∃ j,j < i/\D ops j=some s
      . obtain ⟨j,hj,hd⟩:=hj
        exact (hA.1 s hs j hj hd).symm
      . have bm:∀ j,j < i->D ops j≠some s:=λj av hd=>hj ⟨j,av,hd⟩
        rw [hA.2 s hs bm];refine I.slots s λj a1 hd=>?_
        rcases C.looks i o s j B N hs (I.head j a1) hd with hij | hij | ⟨q,hq,hij⟩
        . subst hij; exact J a1
        . exact bm j (bound_lt C N hij) hd
        . obtain ⟨e,he,hb,rfl⟩:=bu hij
          exact J (I.closed j q hq a1 e he hb)
     obtain ⟨hex,bo⟩:=mh (ops:=ops) ao b9;have U:=depF_of C I B N A hG
     have O:fuel=left (listed.setIfInBounds i true) n+t.length:=by
      have:=yl (listed:=listed) (by rw [I.size]; exact b5) J n B; omega
     have same:∀ (v:Value) b,Agree ops a0 (a.put o.dst v) b i o->execOp b.eval o=execOp b'.eval o/\Region.wanted o (yielded ops b.tmps)=Region.wanted o (yielded ops b'.tmps):=by
      intro v b hb
      have ca:Agree ops a0 a b i o:=by
       refine ⟨λs hs j hj hd=>?_,hb.2⟩;rw [hb.1 s hs j hj hd];refine dm λe=>?_
       have:j=i:=C.uniq j i s (by omega) B hd (by simp [D,N,e]);omega
      exact mh ao (ca.same hA)
     have bp:∀ (v:Value) F,GoodF ops a0 kind (a.put o.dst v) i o F->GoodF ops a0 kind a i o F:=by
      intro v F hF p hp hl;obtain ⟨j,oj,Y,bj,hj,X,br,cb,bs,cc,he⟩:=hF p hp hl;have bw:D ops j=some p.1:=by simp [D,X,br]
      have cx:=dep_listed C B N A hl hj bw
      have cd:o.dst≠some p.1:=λe=>by
       have:j=i:=C.uniq j i p.1 (by omega) B bw (by simp [D,N,e]);omega
      refine ⟨j,oj,Y,bj,hj,X,br,cb,⟨λs hs j' av bz=>?_,bs.2⟩,cc,by rw [he,iy cd]⟩;rw [bs.1 s hs j' av bz];refine dm λe=>?_
      have:j'=i:=C.uniq j' i s (by omega) B bz (by simp [D,N,e]);subst this;omega
     have al:∀ d,o.dst=some d->d < a.tmps.size:=λd hd=>by rw [I.tsz]; exact hin o d (Array.mem_of_getElem? N) hd
     unfold wpOp;simp only [N]
     split
     ·
      rename_i hw
      have Z:Region.wanted o (yielded ops b'.tmps)=true:=by rw [<- bo]; exact hw
      have E:=E Z;refine .inl ?_
      cases hkd:kind i with
      | none =>
        rw [hkd] at E;obtain ⟨v,hs⟩:=E;have hd:kr P R o a w v:=by unfold kr; rw [hex]; exact hs w I.reach U
        refine zn hd λw' hR=>ih _ _ _ O (I.step C htr hstab B N J A hR λd M b hb=>?_)
        obtain ⟨e1,e2⟩:=same v b hb;unfold Holds;rw [if_pos (by rw [e2]; exact Z),hkd];intro v' F2 cf cg;have h1:=hs w I.reach U;have h2:=cg w I.reach (depF_of C I B N A (bp v F2 cf));unfold kr at h1 h2;rw [e1] at h2;rw [M,j4 (al d M)];generalize (execOp b'.eval o).run P w=r at h1 h2
        cases r with
        | ok x w'' =>
          cases x <;> simp only [nk] at h1 h2
          case value u=>rw [<- h1.1,h2.1]
          case skip=>rw [<- h1.1,h2.1]
        | halt x w''=>simp only [nk] at h1
      | some x =>
        rw [hkd] at E
        cases x with
        | inl c =>
          have hg:fq P R o a w λu _=>u=c:=by unfold fq; rw [hex]; exact E w I.reach U
          refine kz hg λv w' hv hR=>ih _ _ _ O (I.step C htr hstab B N J A hR λd M b hb=>?_)
          obtain ⟨e1,e2⟩:=same v b hb;unfold Holds;rw [if_pos (by rw [e2]; exact Z),hkd];show slot _ d=c;rw [M,j4 (al d M)]; exact hv
        | inr Y =>
          have hg:fq P R o a w Y:=by unfold fq; rw [hex]; exact E w I.reach U
          refine kz hg λv w' hv hR=>ih _ _ _ O (I.step C htr hstab B N J A hR λd M b hb=>?_)
          obtain ⟨e1,e2⟩:=same v b hb;unfold Holds;rw [if_pos (by rw [e2]; exact Z),hkd];show Y (slot _ d) w';rw [M,j4 (al d M)]; exact hv
     . rename_i hw
       have Z:¬ Region.wanted o (yielded ops b'.tmps)=true:=by rw [<- bo]; exact hw
       refine ih _ _ _ O (I.step C htr hstab B N J A (hrf w) λd M b hb=>?_);obtain ⟨e1,e2⟩:=same undef b hb;unfold Holds;rw [if_neg (by rw [e2]; exact Z)];rw [M,j4 (al d M)]
theorem ja {id:Nat} {l:List Oper} {Q:Exit->Act->World->Prop} {a:Act} {w:World} (n:Nat) (Ks:List Kind) (R:World->World->Prop) (hm:P.follows .mixedOrders=true)
 (hB:gB l.toArray n=true) (hin:inB l.toArray a=true) (hrf:∀ w:World,R w w) (htr:∀ u v w:World,R u v->R v w->R u w)
 (hstab:∀ K∈Ks,∀ Y,K=some (.inr Y)->∀ v w w',R w w'->Y v w->Y v w')
 (h:wpG P l.toArray R w.drew (λM w'=>wpList P l.toArray Q (l.drop n) M w') (l.take n) Ks [] a):(Code.region id l.toArray true).wp P Q a w:=by
 have C:=Chk.of hB;have B:n<=l.length:=by have:=C.le; simpa using this
 have E:∀ o d,o∈l.toArray->o.dst=some d->d < a.tmps.size:=by
  intro o d N hd;unfold inB at hin;have:=Array.all_eq_true_iff_forall_mem.1 hin o N
  simpa [hd] using this
 refine wp_region_any hm ?_
 refine wpAny_of_g (a0:=a) (n:=n) (kind:=λk=>Ks.getD k none) C hrf htr (λk Y hk v w w' O U=>?_) E (l:=l.take n) (Ks:=Ks) (by simp [B]) (λj X=>?_) (λj=>by simp)
  (t:=l.drop n) (by simp) (λj=>by simp) h _ _ _ _ ?_ ?_
 ·
  have I:k < Ks.length:=by
   rcases Nat.lt_or_ge k Ks.length with h | h
   . exact h
   . simp [List.getD,List.getElem?_eq_none h] at hk
  have J:(some (.inr Y):Kind)∈Ks:=by
   rw [<- hk,List.getD_eq_getElem?_getD,List.getElem?_eq_getElem I]; exact List.getElem_mem I
  exact hstab _ J Y rfl v w w' O U
 . have:j < n:=by simp at X; omega
   simp [this]
 ·
  have:∀ m,m<=l.length->left (Array.replicate l.length false) m=m:=by
   intro m
   induction m with
   | zero=>intro _; rfl
   | succ m ih=>intro Z; unfold left; rw [ih (by omega)]; simp [show m < l.length by omega]
  have h2:=this n B;simp only [List.size_toArray,List.length_drop];rw [h2]; omega
 ·
  have A:∀ k,¬ L (Array.replicate l.toArray.size false) k:=by
   intro k hk;unfold L at hk;simp only [Array.getD_eq_getD_getElem?,Array.getElem?_replicate] at hk
   split at hk <;> simp at hk
  exact ⟨by simp,hrf _,rfl,rfl,λk o _ hk=>(A k hk).elim,λ_ _=>rfl,λk hk=>(A k hk).elim,λk o d _ hk=>(A k hk).elim⟩
section
variable {Fin:Act->World->Prop} {o:Oper} {rest:List Oper} {Ks:List Kind} {F:List (Tmp×(World->Prop))} {a:Act}
theorem g_nil (h:∀ w,R w1 w->(∀ p∈F,p.2 w)->Fin a w):wpG P ops R w1 Fin [] Ks F a:=h
theorem g_det (hw:Region.wanted o (yielded ops a.tmps)=true) (h:∃ v,(∀ w,R w1 w->depF ops F o w->kr P R o a w v)/\wpG P ops R w1 Fin rest Ks F (a.put o.dst v)) :
 wpG P ops R w1 Fin (o :: rest) (none :: Ks) F a:=by
 unfold wpG; rw [if_pos hw]; exact h
theorem g_con {c:Value} (hw:Region.wanted o (yielded ops a.tmps)=true) (h:∀ w,R w1 w->depF ops F o w->fq P R o a w λu _=>u=c) (hk:wpG P ops R w1 Fin rest Ks F (a.put o.dst c)) :
 wpG P ops R w1 Fin (o :: rest) (some (.inl c) :: Ks) F a:=by
 unfold wpG; rw [if_pos hw]; exact ⟨h,hk⟩
theorem g_new {Y:Value->World->Prop} (hw:Region.wanted o (yielded ops a.tmps)=true) (h:∀ w,R w1 w->depF ops F o w->fq P R o a w Y) (hk:∀ v,wpG P ops R w1 Fin rest Ks (ae9 o.dst (Y v) F) (a.put o.dst v)) :
 wpG P ops R w1 Fin (o :: rest) (some (.inr Y) :: Ks) F a:=by
 unfold wpG; rw [if_pos hw]; exact ⟨h,hk⟩
theorem g_skip {K:Kind} (hw:Region.wanted o (yielded ops a.tmps)=false) (hk:wpG P ops R w1 Fin rest Ks F (a.put o.dst undef)) :
 wpG P ops R w1 Fin (o :: rest) (K :: Ks) F a:=by
 unfold wpG; rw [if_neg (by rw [hw]; exact Bool.false_ne_true)]; exact hk
end
end
attribute [go_sem] kr nk fq yj
attribute [irreducible] wpG
end Grow
namespace GrowN
open Go Go.Proofs.YtcgonejkkpbepaaGreatDoor.Grow
abbrev Kind:=Option (Value ⊕ (List (Option Value)->Value->World->Prop))
def arj:Kind->Bool
 | some (.inr _)=>false
 | _=>true
theorem jo {Ks:List Kind} {R:World->World->Prop} (h:Ks.all arj=true):∀ K∈Ks,∀ Y,K=some (.inr Y)->∀ l v w w',R w w'->Y l v w->Y l v w':=λK A Y B=>by
 have:=List.all_eq_true.1 h K A;rw [B] at this
 cases this
def look (ops:Array Oper) (a:Act) (o:Oper):List (Option Value):=(o.looksAt ops).map λs=>a.tmps[s]?
def rv (o:Oper) (u:Value):Value:=if o.dst.isSome then u else undef
def val (a:Act) (o:Oper):Value:=match o.dst with | some d=>slot a d | none=>undef
section
variable (P:Program) (ops:Array Oper) (R:World->World->Prop) (w1:World)
def depF (F:List (Nat×(World->Prop))) (o:Oper) (w:World):Prop:=∀ p∈F,bound o p.1=true->p.2 w
def wpG (Fin:Act->World->Prop):Nat->List Oper->List Kind->List (Nat×(World->Prop))->Act->Prop
 | _,[],_,F,a=>∀ w,R w1 w->(∀ p∈F,p.2 w)->Fin a w
 | i,o :: rest,Ys,F,a =>
   if Region.wanted o (yielded ops a.tmps) then
    match Ys.headD none with
    | none=>∃ v,(∀ w,R w1 w->depF F o w->kr P R o a w v)/\wpG Fin (i+1) rest Ys.tail F (a.put o.dst v)
    | some (.inl c)=>(∀ w,R w1 w->depF F o w->fq P R o a w λu _=>u=c)/\wpG Fin (i+1) rest Ys.tail F (a.put o.dst c)
    | some (.inr Y)=>(∀ w,R w1 w->depF F o w->fq P R o a w λu=>Y (look ops a o) (rv o u))/\∀ v,wpG Fin (i+1) rest Ys.tail ((i,Y (look ops a o) v) :: F) (a.put o.dst v)
   else wpG Fin (i+1) rest Ys.tail F (a.put o.dst undef)
end
section
variable {P:Program} {ops:Array Oper} {R:World->World->Prop} {w1:World}
section
variable (P:Program) (ops:Array Oper) (R:World->World->Prop) (w1:World) (a0:Act) (n:Nat) (kind:Nat->Kind)
def GoodF (a:Act) (k:Nat) (o:Oper) (F:List (Nat×(World->Prop))):Prop:=∀ p∈F,bound o p.1=true ->
 ∃ oj Y bj,p.1 < k/\ops[p.1]?=some oj/\kind p.1=some (.inr Y)/\Agree ops a0 a bj p.1 oj/\Region.wanted oj (yielded ops bj.tmps)=true/\p.2=Y (look ops bj oj) (val a oj)
def Holds (a:Act) (w:World) (k:Nat) (o:Oper) (b:Act):Prop :=
 if Region.wanted o (yielded ops b.tmps)=true then
  match kind k with
  | none=>∀ v F,GoodF ops a0 kind a k o F->(∀ w',R w1 w'->depF F o w'->kr P R o b w' v)->∀ d,o.dst=some d->slot a d=v
  | some (.inl c)=>∀ d,o.dst=some d->slot a d=c
  | some (.inr Y)=>Y (look ops b o) (val a o) w
 else ∀ d,o.dst=some d->slot a d=undef
structure Inv (listed:Array Bool) (a:Act) (w:World):Prop where
 size:listed.size=ops.size
 reach:R w1 w
 defs:a.defers=a0.defers
 tsz:a.tmps.size=a0.tmps.size
 closed:∀ k o,ops[k]?=some o->L listed k->∀ e∈o.after,Region.binds .any e=true->L listed e.on
 slots:∀ s,(∀ k,L listed k->D ops k≠some s)->a.tmps[s]?=a0.tmps[s]?
 head:∀ k,L listed k->k < n
 vals:∀ k o,ops[k]?=some o->L listed k->∀ b,Agree ops a0 a b k o->Holds P ops R w1 a0 kind a w k o b
end
variable {a0:Act} {n:Nat} {kind:Nat->Kind}
theorem depF_of {listed:Array Bool} {a:Act} {w:World} (I:Inv P ops R w1 a0 n kind listed a w) {k:Nat} {o:Oper}
 (hall:∀ e∈o.after,Region.binds .any e=true->L listed e.on) {F:List (Nat×(World->Prop))} (hF:GoodF ops a0 kind a k o F):depF F o w:=by
 intro p hp O;obtain ⟨oj,Y,U,hj,A,B,hb,X,Z⟩:=hF p hp O;obtain ⟨e,E,J,M⟩:=bu O;have N:L listed p.1:=M ▸ hall e E J;have:=I.vals p.1 oj A N U hb;unfold Holds at this;rw [if_pos X,B] at this;rw [Z]; exact this
theorem val_put {a:Act} {o ok:Oper} {v:Value} (h:∀ d,ok.dst=some d->o.dst≠some d):val (a.put o.dst v) ok=val a ok:=by
 unfold val
 cases hd:ok.dst with
 | none=>rfl
 | some d=>exact iy (h d hd)
theorem Inv.step (C:Chk ops n) (htr:∀ u v w:World,R u v->R v w->R u w) (hstab:∀ k Y,kind k=some (.inr Y)->∀ l v w w',R w w'->Y l v w->Y l v w')
 {listed:Array Bool} {a:Act} {w w':World} (I:Inv P ops R w1 a0 n kind listed a w) {i:Nat} {o:Oper} (hin:i < n) (ho:ops[i]?=some o) (hun:¬ L listed i)
 (hall:∀ e∈o.after,Region.binds .any e=true->L listed e.on) {v:Value} (hR:R w w')
 (hv:∀ b,Agree ops a0 (a.put o.dst v) b i o->Holds P ops R w1 a0 kind (a.put o.dst v) w' i o b) :
 Inv P ops R w1 a0 n kind (listed.setIfInBounds i true) (a.put o.dst v) w':=by
 have B:i < listed.size:=by rw [I.size]; exact (Array.getElem?_eq_some_iff.1 ho).1
 have E:D ops i=o.dst:=by simp [D,ho]
 have keep:∀ k ok,ops[k]?=some ok->L listed k->∀ s∈ok.looksAt ops,∀ j,j < k->D ops j=some s->o.dst≠some s:=by
  intro k ok A hk s J j U hd X;have al:=I.head k hk;have:j=i:=C.uniq j i s (by omega) hin hd (by rw [E,X]);subst this;exact hun (dep_listed C al A (I.closed k ok A hk) J U hd)
 have ab:∀ k ok,ops[k]?=some ok->L listed k->∀ b,Agree ops a0 (a.put o.dst v) b k ok↔Agree ops a0 a b k ok:=by
  intro k ok A hk b
  constructor
  iterate 2
   . intro h; exact ⟨λs J j U hd=>by rw [h.1 s J j U hd,dm (keep k ok A hk s J j U hd)],h.2⟩
 refine ⟨by simpa using I.size,htr _ _ _ I.reach hR,qx.trans I.defs,qw.trans I.tsz,?_,?_,?_,?_⟩
 ·
  intro k ok A hk e X hb
  rcases (ed B).1 hk with rfl | hk
  . rw [ho] at A; cases A; exact (ed B).2 (.inr (hall e X hb))
  . exact (ed B).2 (.inr (I.closed k ok A hk e X hb))
 . intro s J
   rw [dm (by rw [<- E]; exact J i ((ed B).2 (.inl rfl)))];exact I.slots s λk hk=>J k ((ed B).2 (.inr hk))
 ·
  intro k hk
  rcases (ed B).1 hk with rfl | hk
  . exact hin
  . exact I.head k hk
 ·
  intro k ok A hk b hb
  rcases (ed B).1 hk with rfl | hk
  . rw [ho] at A; cases A; exact hv b hb
  ·
   have a8:k≠i:=λe=>hun (e ▸ hk)
   have ne:∀ Z M,ops[Z]?=some M->L listed Z->∀ d,M.dst=some d->o.dst≠some d:=λZ M ac ad d hd e =>
    (λ(e2:Z=i)=>hun (e2 ▸ ad)) (C.uniq Z i d (I.head Z ad) hin (by simp [D,ac,hd]) (by rw [E,e]))
   have h:=I.vals k ok A hk b ((ab k ok A hk b).1 hb);unfold Holds at h ⊢
   split
   ·
    rename_i hw
    rw [if_pos hw] at h
    cases hkd:kind k with
    | none =>
      rw [hkd] at h;intro v' F hF N d hd;rw [iy (ne k ok A hk d hd)];refine h v' F (λp hp hl=>?_) N d hd;obtain ⟨oj,Y,bj,U,O,an,ao,ap,X⟩:=hF p hp hl;obtain ⟨e,ar,av,a1⟩:=bu hl;have ak:L listed p.1:=a1 ▸ I.closed k ok A hk e ar av;exact ⟨oj,Y,bj,U,O,an,(ab p.1 oj O ak bj).1 ao,ap,by rw [X,val_put (ne p.1 oj O ak)]⟩
    | some x =>
      rw [hkd] at h
      cases x with
      | inl c=>exact λd hd=>by rw [iy (ne k ok A hk d hd)]; exact h d hd
      | inr Y =>
        show Y _ (val _ ok) w';rw [val_put (ne k ok A hk)];exact hstab k Y hkd _ _ _ _ hR h
   . rename_i hw
     rw [if_neg hw] at h;exact λd hd=>by rw [iy (ne k ok A hk d hd)]; exact h d hd
section
variable (P:Program) (ops:Array Oper) (R:World->World->Prop) (w1:World) (a0:Act) (n:Nat) (kind:Nat->Kind)
structure Path (listed:Array Bool) (a:Act) (k:Nat) (b:Act) (F:List (Nat×(World->Prop))):Prop where
 defs:b.defers=a0.defers
 tsz:b.tmps.size=a0.tmps.size
 other:∀ s,(∀ j,j < k->D ops j≠some s)->b.tmps[s]?=a0.tmps[s]?
 same:∀ j,j < k->L listed j->∀ d,D ops j=some d->b.tmps[d]?=a.tmps[d]?
 facts:∀ p∈F,∃ oj Y v bj,p.1 < k/\ops[p.1]?=some oj/\kind p.1=some (.inr Y)/\p.2=Y (look ops bj oj) v /\
  (L listed p.1->v=val a oj/\Agree ops a0 a bj p.1 oj/\Region.wanted oj (yielded ops bj.tmps)=true)
def Spec (a:Act) (i:Nat) (o:Oper):Prop:=∃ b F,Agree ops a0 a b i o/\GoodF ops a0 kind a i o F/\(Region.wanted o (yielded ops b.tmps)=true ->
 match kind i with
 | none=>∃ v,∀ w',R w1 w'->depF F o w'->kr P R o b w' v
 | some (.inl c)=>∀ w',R w1 w'->depF F o w'->fq P R o b w' λu _=>u=c
 | some (.inr Y)=>∀ w',R w1 w'->depF F o w'->fq P R o b w' λu=>Y (look ops b o) (rv o u))
end
theorem Path.agree (C:Chk ops n) {listed:Array Bool} {a b:Act} {F:List (Nat×(World->Prop))} {k:Nat} {o:Oper} (hp:Path ops a0 kind listed a k b F) (hk:k < n) (ho:ops[k]?=some o)
 (hall:∀ e∈o.after,Region.binds .any e=true->L listed e.on):Agree ops a0 a b k o/\GoodF ops a0 kind a k o F:=by
 refine ⟨⟨λs R j A hd=>hp.same j A (dep_listed C hk ho hall R A hd) s hd,λs _ U=>hp.other s U⟩,λp B X=>?_⟩;obtain ⟨oj,Y,v,Z,A,E,I,he,hL⟩:=hp.facts p B;obtain ⟨e,J,M,N⟩:=bu X;obtain ⟨hv,O,hw⟩:=hL (N ▸ hall e J M);exact ⟨oj,Y,Z,A,E,I,O,hw,by rw [he,hv]⟩
theorem Path.step (C:Chk ops n) {listed:Array Bool} {a b:Act} {w:World} {F:List (Nat×(World->Prop))} {k:Nat} {o:Oper} (I:Inv P ops R w1 a0 n kind listed a w)
 (hin:∀ o d,o∈ops->o.dst=some d->d < a0.tmps.size) (hp:Path ops a0 kind listed a k b F) (hk:k < n) (ho:ops[k]?=some o) (v:Value)
 (hv:L listed k->∀ d,o.dst=some d->v=slot a d):Path ops a0 kind listed a (k+1) (b.put o.dst v) F:=by
 have A:D ops k=o.dst:=by simp [D,ho]
 refine ⟨qx.trans hp.defs,qw.trans hp.tsz,λs M=>?_,λj N E d hd=>?_,λp J=>?_⟩
 . rw [dm (by rw [<- A]; exact M k (by omega))]
   exact hp.other s λj N=>M j (by omega)
 ·
  by_cases e:j=k
  ·
   subst e;rw [A] at hd;have B:=hin o d (Array.mem_of_getElem? ho) hd;have:=hv E d hd;rw [hd];have h1:d < b.tmps.size:=by rw [hp.tsz]; exact B
   have O:d < a.tmps.size:=by rw [I.tsz]; exact B
   simp only [Act.put,Array.getElem?_setIfInBounds_self_of_lt h1,this,slot];simp [O]
  . rw [dm λU=>e (C.uniq j k d (I.head j E) hk hd (by rw [A,U]))]
    exact hp.same j (by omega) E d hd
 . obtain ⟨oj,Y,v,X,N,h⟩:=hp.facts p J
   exact ⟨oj,Y,v,X,by omega,h⟩
theorem Path.fact {listed:Array Bool} {a b b':Act} {F:List (Nat×(World->Prop))} {k:Nat} {o:Oper} (hp:Path ops a0 kind listed a (k+1) b' F) (ho:ops[k]?=some o) {Y:List (Option Value)->Value->World->Prop}
 (hY:kind k=some (.inr Y)) (v:Value) (hv:L listed k->v=val a o/\Agree ops a0 a b k o/\Region.wanted o (yielded ops b.tmps)=true) :
 Path ops a0 kind listed a (k+1) b' ((k,Y (look ops b o) v) :: F):=by
 refine ⟨hp.defs,hp.tsz,hp.other,hp.same,λp A=>?_⟩
 rcases List.mem_cons.1 A with rfl | A
 . exact ⟨o,Y,v,b,by show k < k+1; omega,ho,hY,rfl,hv⟩
 . exact hp.facts p A
theorem descend (C:Chk ops n) (hin:∀ o d,o∈ops->o.dst=some d->d < a0.tmps.size) {Fin:Act->World->Prop} {listed:Array Bool} {a:Act} {w:World} (I:Inv P ops R w1 a0 n kind listed a w) :
 ∀ (l:List Oper) (k:Nat) (Ks:List Kind) (F:List (Nat×(World->Prop))) (b:Act),k+l.length=n->(∀ j,j < l.length->l[j]?=ops[k+j]?)->(∀ j,Ks.getD j none=kind (k+j)) ->
  Path ops a0 kind listed a k b F->wpG P ops R w1 Fin k l Ks F b ->
  (∀ i o,k<=i->i < n->ops[i]?=some o->(∀ e∈o.after,Region.binds .any e=true->L listed e.on)->Spec P ops R w1 a0 kind a i o) /\
  (∃ b F,Path ops a0 kind listed a n b F/\∀ w,R w1 w->(∀ p∈F,p.2 w)->Fin b w)
 | [],k,Ks,F,b,hn,_,_,hp,h=>by
   have:k=n:=by simpa using hn
   subst this;exact ⟨λi o h1 U=>by omega,b,F,hp,h⟩
 | o :: l,k,Ks,F,b,hn,hl,hK,hp,h=>by
   simp only [List.length_cons] at hn;have A:ops[k]?=some o:=by have:=hl 0 (by simp); simpa using this.symm
   have hk:k < n:=by omega
   have Z:∀ j,j < l.length->l[j]?=ops[(k+1)+j]?:=λj hj=>by
    have:=hl (j+1) (by simp; omega);rw [show k+1+j=k+(j+1) by omega,<- this]; rfl
   have ab:∀ j,Ks.tail.getD j none=kind ((k+1)+j):=λj=>by
    have:=hK (j+1);rw [show k+1+j=k+(j+1) by omega,<- this]
    cases Ks <;> simp
   have ac:Ks.headD none=kind k:=by
    have:=hK 0;rw [Nat.add_zero] at this;rw [<- this]
    cases Ks <;> simp
   have B:L listed k->∀ e∈o.after,Region.binds .any e=true->L listed e.on:=λE=>I.closed k o A E
   have key:∃ X F',Path ops a0 kind listed a (k+1) X F'/\wpG P ops R w1 Fin (k+1) l Ks.tail F' X /\
    (Region.wanted o (yielded ops b.tmps)=true->match kind k with
     | none=>∃ v,∀ w',R w1 w'->depF F o w'->kr P R o b w' v
     | some (.inl c)=>∀ w',R w1 w'->depF F o w'->fq P R o b w' λu _=>u=c
     | some (.inr Y)=>∀ w',R w1 w'->depF F o w'->fq P R o b w' λu=>Y (look ops b o) (rv o u)):=by
    unfold wpG at h
    split at h
    ·
     rename_i O
     rw [ac] at h
     cases hkd:kind k with
     | none =>
       rw [hkd] at h;obtain ⟨v,J,h⟩:=h;refine ⟨_,F,hp.step C I hin hk A v λE d hd=>?_,h,λ_=>⟨v,J⟩⟩;obtain ⟨hA,hG⟩:=hp.agree C hk A (B E);have:=I.vals k o A E b hA;unfold Holds at this;rw [if_pos O,hkd] at this;exact (this v F hG J d hd).symm
     | some x =>
       rw [hkd] at h
       cases x with
       | inl c =>
         obtain ⟨J,h⟩:=h;refine ⟨_,F,hp.step C I hin hk A c λE d hd=>?_,h,λ_=>J⟩;obtain ⟨hA,hG⟩:=hp.agree C hk A (B E);have:=I.vals k o A E b hA;unfold Holds at this;rw [if_pos O,hkd] at this;exact (this d hd).symm
       | inr Y =>
         obtain ⟨J,h⟩:=h;have hv:L listed k->∀ d,o.dst=some d->val a o=slot a d:=λ_ d hd=>by simp [val,hd]
         exact ⟨_,_,(hp.step C I hin hk A _ hv).fact A hkd _ λE=>⟨rfl,(hp.agree C hk A (B E)).1,O⟩,h _,λ_=>J⟩
    . rename_i O
      refine ⟨_,F,hp.step C I hin hk A undef λE d hd=>?_,h,λak=>absurd ak O⟩;have:=I.vals k o A E b (hp.agree C hk A (B E)).1;unfold Holds at this;rw [if_neg O] at this;exact (this d hd).symm
   obtain ⟨X,F',al,h',J⟩:=key;obtain ⟨r1,r2⟩:=descend C hin I l (k+1) Ks.tail F' X (by omega) Z ab al h';refine ⟨λi oi h1 U M N=>?_,r2⟩
   by_cases e:i=k
   . subst e
     rw [A] at M; cases M;exact ⟨b,F,(hp.agree C U A N).1,(hp.agree C U A N).2,J⟩
   . exact r1 i oi (by omega) U M N
theorem Inv.settle {listed:Array Bool} {a:Act} {w:World} (I:Inv P ops R w1 a0 n kind listed a w) (hall:∀ k,k < n->L listed k)
 {b:Act} {F:List (Nat×(World->Prop))} (hp:Path ops a0 kind listed a n b F):b=a/\∀ p∈F,p.2 w:=by
 constructor
 ·
  have ht:b.tmps=a.tmps:=by
   apply Array.ext_getElem?;intro s
   by_cases A:∃ j,j < n/\D ops j=some s
   . obtain ⟨j,A,hd⟩:=A
     exact hp.same j A (hall j A) s hd
   . have O:∀ j,j < n->D ops j≠some s:=λj B hd=>A ⟨j,B,hd⟩
     rw [hp.other s O,I.slots s λk hk=>O k (I.head k hk)]
  have hd:b.defers=a.defers:=hp.defs.trans I.defs.symm
  cases a; cases b; simp_all
 ·
  intro p E;obtain ⟨oj,Y,v,U,A,J,M,X,Z⟩:=hp.facts p E;obtain ⟨hv,N,hw⟩:=Z (hall p.1 A);have:=I.vals p.1 oj J (hall p.1 A) U N;unfold Holds at this;rw [if_pos hw,M] at this;rw [X,hv]; exact this
theorem wpAny_of_g (C:Chk ops n) (hrf:∀ w:World,R w w) (htr:∀ u v w:World,R u v->R v w->R u w) (hstab:∀ k Y,kind k=some (.inr Y)->∀ l v w w',R w w'->Y l v w->Y l v w')
 (hin:∀ o d,o∈ops->o.dst=some d->d < a0.tmps.size) {Q:Exit->Act->World->Prop} {l:List Oper} (hll:l.length=n) (hl:∀ j,j < l.length->l[j]?=ops[0+j]?) {Ks:List Kind} (hK:∀ j,Ks.getD j none=kind (0+j))
 {t:List Oper} (htl:t.length=ops.size - n) (ht:∀ j,t[j]?=ops[n+j]?)
 (h:wpG P ops R w1 (λa' w'=>wpList P ops Q t a' w') 0 l Ks [] a0) :
 ∀ (fuel:Nat) (listed:Array Bool) (a:Act) (w:World),fuel=left listed n+t.length->Inv P ops R w1 a0 n kind listed a w->wpAny P .any ops Q fuel listed a w:=by
 intro fuel
 induction fuel with
 | zero =>
   intro listed a w hf I;have A:=mo n (show left listed n=0 by omega);have h0:Path ops a0 kind listed a 0 a0 []:=⟨rfl,rfl,λ_ _=>rfl,λj hj=>by omega,λp hp=>by cases hp⟩;obtain ⟨b,F,hp,ab⟩:=(descend C hin I l 0 Ks [] a0 (by omega) hl hK h0 h).2;obtain ⟨rfl,hF⟩:=I.settle A hp;have:=qy C t n listed b w (Nat.le_refl _) ht htl I.size (λk hk=>⟨I.head k,A k⟩) (ab w I.reach hF);rw [show t.length=0 by omega] at this;exact this
 | succ fuel ih =>
   intro listed a w hf I;have h0:Path ops a0 kind listed a 0 a0 []:=⟨rfl,rfl,λ_ _=>rfl,λj hj=>by omega,λp hp=>by cases hp⟩;obtain ⟨b3,b,F,hp,ab⟩:=descend C hin I l 0 Ks [] a0 (by omega) hl hK h0 h
   by_cases hz:left listed n=0
   . have A:=mo n hz
     obtain ⟨rfl,hF⟩:=I.settle A hp;have:=qy C t n listed b w (Nat.le_refl _) ht htl I.size (λk hk=>⟨I.head k,A k⟩) (ab w I.reach hF);rw [show t.length=fuel+1 by omega] at this;exact this
   ·
    obtain ⟨k,b4,am,ar⟩:=u6 n (by omega:0 < left listed n);have bb:k < ops.size:=by have:=C.le; omega
    refine ⟨λhr=>?_,λi hi=>?_⟩
    . have:k∈Region.ready .any ops listed:=(jc I.size).2 ⟨am,ops[k],Array.getElem?_eq_getElem bb,λe he hb=>ar _ (C.low k _ (Array.getElem?_eq_getElem bb) e he hb)⟩
      rw [hr] at this; cases this
    ·
     obtain ⟨J,o,O,A⟩:=(jc I.size).1 hi;have b5:=(Array.getElem?_eq_some_iff.1 O).1
     have B:i < n:=by
      by_cases hlt:i < n
      . exact hlt
      ·
       -- the last of the first n that is still to come is waited for
       have av:∀ m,m<=n->(∀ j,m<=j->j < n->L listed j)->False:=by
        intro m
        induction m with
        | zero=>intro _ hm; exact am (hm k (by omega) b4)
        | succ m ihm =>
          intro co hm
          by_cases hLm:L listed m
          . exact ihm (by omega) λj h1 h2=>by
             by_cases e:j=m
             . subst e; exact hLm
             . exact hm j (by omega) h2
          ·
           rcases C.waits with hw | hw
           . omega
           . obtain ⟨j,oj,h1,h2,X,hb⟩:=hw m (by omega)
             obtain ⟨e,he,bc,bd⟩:=bu hb
             by_cases hjn:j < n
             . exact hLm (bd ▸ I.closed j oj X (hm j (by omega) hjn) e he bc)
             . have bh:j=n:=by omega
               subst bh
               by_cases hij:i=j
               . subst hij
                 rw [O] at X; cases X;exact hLm (bd ▸ A e he bc)
               . obtain ⟨e',b6,b7,bk⟩:=bu (C.seq i o (by omega) O)
                 have:=I.head (i - 1) (bk ▸ A e' b6 b7);omega
       exact (av n (Nat.le_refl _) λj h1 h2=>by omega).elim
     obtain ⟨b',F',hA,hG,E⟩:=b3 i o (by omega) B O A;have ap:=λcs c=>C.sel i o cs c O
     have b8:∀ s∈o.looksAt ops,a.tmps[s]?=b'.tmps[s]?:=by
      intro s hs
      by_cases hj:∃ j,j < i/\D ops j=some s
      . obtain ⟨j,hj,hd⟩:=hj
        exact (hA.1 s hs j hj hd).symm
      . have bl:∀ j,j < i->D ops j≠some s:=λj a1 hd=>hj ⟨j,a1,hd⟩
        rw [hA.2 s hs bl];refine I.slots s λj a6 hd=>?_
        rcases C.looks i o s j B O hs (I.head j a6) hd with hij | hij | ⟨q,hq,hij⟩
        . subst hij; exact J a6
        . exact bl j (bound_lt C O hij) hd
        . obtain ⟨e,he,hb,rfl⟩:=bu hij
          exact J (I.closed j q hq a6 e he hb)
     obtain ⟨hex,bm⟩:=mh (ops:=ops) ap b8;have U:=depF_of I A hG
     have N:fuel=left (listed.setIfInBounds i true) n+t.length:=by
      have:=yl (listed:=listed) (by rw [I.size]; exact b5) J n B; omega
     have same:∀ (v:Value) b,Agree ops a0 (a.put o.dst v) b i o->execOp b.eval o=execOp b'.eval o/\Region.wanted o (yielded ops b.tmps)=Region.wanted o (yielded ops b'.tmps)/\look ops b o=look ops b' o:=by
      intro v b hb
      have bo:Agree ops a0 a b i o:=by
       refine ⟨λs hs j hj hd=>?_,hb.2⟩;rw [hb.1 s hs j hj hd];refine dm λe=>?_
       have:j=i:=C.uniq j i s (by omega) B hd (by simp [D,O,e]);omega
      obtain ⟨q1,q2⟩:=mh ap (bo.same hA);exact ⟨q1,q2,List.map_congr_left (bo.same hA)⟩
     have bp:∀ (v:Value) F,GoodF ops a0 kind (a.put o.dst v) i o F->GoodF ops a0 kind a i o F:=by
      intro v F hF p hp hl;obtain ⟨oj,Y,bj,hj,X,b9,br,ca,he⟩:=hF p hp hl
      have cb:∀ d,oj.dst=some d->o.dst≠some d:=λd hd e=>by
       have:p.1=i:=C.uniq p.1 i d (by omega) B (by simp [D,X,hd]) (by simp [D,O,e]);omega
      refine ⟨oj,Y,bj,hj,X,b9,⟨λs hs j' a1 bs=>?_,br.2⟩,ca,by rw [he,val_put cb]⟩;rw [br.1 s hs j' a1 bs];refine dm λe=>?_
      have:j'=i:=C.uniq j' i s (by omega) B bs (by simp [D,O,e]);subst this;omega
     have al:∀ d,o.dst=some d->d < a.tmps.size:=λd hd=>by rw [I.tsz]; exact hin o d (Array.mem_of_getElem? O) hd
     unfold wpOp;simp only [O]
     split
     ·
      rename_i hw
      have Z:Region.wanted o (yielded ops b'.tmps)=true:=by rw [<- bm]; exact hw
      have E:=E Z;refine .inl ?_
      cases hkd:kind i with
      | none =>
        rw [hkd] at E;obtain ⟨v,hs⟩:=E;have hd:kr P R o a w v:=by unfold kr; rw [hex]; exact hs w I.reach U
        refine zn hd λw' hR=>ih _ _ _ N (I.step C htr hstab B O J A hR λb hb=>?_)
        obtain ⟨e1,e2,_⟩:=same v b hb;unfold Holds;rw [if_pos (by rw [e2]; exact Z),hkd];intro v' F2 cd ce d M;have h1:=hs w I.reach U;have h2:=ce w I.reach (depF_of I A (bp v F2 cd));unfold kr at h1 h2;rw [e1] at h2;rw [M,j4 (al d M)];generalize (execOp b'.eval o).run P w=r at h1 h2
        cases r with
        | ok x w'' =>
          cases x <;> simp only [nk] at h1 h2
          case value u=>rw [<- h1.1,h2.1]
          case skip=>rw [<- h1.1,h2.1]
        | halt x w''=>simp only [nk] at h1
      | some x =>
        rw [hkd] at E
        cases x with
        | inl c =>
          have hg:fq P R o a w λu _=>u=c:=by unfold fq; rw [hex]; exact E w I.reach U
          refine kz hg λv w' hv hR=>ih _ _ _ N (I.step C htr hstab B O J A hR λb hb=>?_)
          obtain ⟨e1,e2,_⟩:=same v b hb;unfold Holds;rw [if_pos (by rw [e2]; exact Z),hkd];intro d M;rw [M,j4 (al d M)]; exact hv
        | inr Y =>
          have hg:fq P R o a w λu=>Y (look ops b' o) (rv o u):=by unfold fq; rw [hex]; exact E w I.reach U
          refine kz hg λv w' hv hR=>ih _ _ _ N (I.step C htr hstab B O J A hR λb hb=>?_)
          obtain ⟨e1,e2,_⟩:=same v b hb;unfold Holds;rw [if_pos (by rw [e2]; exact Z),hkd];show Y (look ops b o) (val _ o) w';rw [(same v b hb).2.2]
          have ci:val (a.put o.dst v) o=rv o v:=by
           unfold val rv
           cases M:o.dst with
           | none=>rfl
           | some d=>exact j4 (al d M)
          rw [ci]; exact hv
     ·
      rename_i hw
      have Z:¬ Region.wanted o (yielded ops b'.tmps)=true:=by rw [<- bm]; exact hw
      refine ih _ _ _ N (I.step C htr hstab B O J A (hrf w) λb hb=>?_);obtain ⟨e1,e2,_⟩:=same undef b hb;unfold Holds;rw [if_neg (by rw [e2]; exact Z)];intro d M;rw [M,j4 (al d M)]
theorem au {id:Nat} {l:List Oper} {Q:Exit->Act->World->Prop} {a:Act} {w:World} (n:Nat) (Ks:List Kind) (R:World->World->Prop) (hm:P.follows .mixedOrders=true)
 (hB:gB l.toArray n=true) (hin:inB l.toArray a=true) (hrf:∀ w:World,R w w) (htr:∀ u v w:World,R u v->R v w->R u w)
 (hstab:∀ K∈Ks,∀ Y,K=some (.inr Y)->∀ l v w w',R w w'->Y l v w->Y l v w')
 (h:wpG P l.toArray R w.drew (λM w'=>wpList P l.toArray Q (l.drop n) M w') 0 (l.take n) Ks [] a):(Code.region id l.toArray true).wp P Q a w:=by
 have C:=Chk.of hB;have B:n<=l.length:=by have:=C.le; simpa using this
 have E:∀ o d,o∈l.toArray->o.dst=some d->d < a.tmps.size:=by
  intro o d N hd;unfold inB at hin;have:=Array.all_eq_true_iff_forall_mem.1 hin o N
  simpa [hd] using this
 refine wp_region_any hm ?_
 refine wpAny_of_g (a0:=a) (n:=n) (kind:=λk=>Ks.getD k none) C hrf htr (λk Y hk l v w w' O U=>?_) E (l:=l.take n) (Ks:=Ks) (by simp [B]) (λj X=>?_) (λj=>by simp)
  (t:=l.drop n) (by simp) (λj=>by simp) h _ _ _ _ ?_ ?_
 ·
  have I:k < Ks.length:=by
   rcases Nat.lt_or_ge k Ks.length with h | h
   . exact h
   . simp [List.getD,List.getElem?_eq_none h] at hk
  have J:(some (.inr Y):Kind)∈Ks:=by
   rw [<- hk,List.getD_eq_getElem?_getD,List.getElem?_eq_getElem I]; exact List.getElem_mem I
  exact hstab _ J Y rfl l v w w' O U
 . have:j < n:=by simp at X; omega
   simp [this]
 ·
  have:∀ m,m<=l.length->left (Array.replicate l.length false) m=m:=by
   intro m
   induction m with
   | zero=>intro _; rfl
   | succ m ih=>intro Z; unfold left; rw [ih (by omega)]; simp [show m < l.length by omega]
  have h2:=this n B;simp only [List.size_toArray,List.length_drop];rw [h2]; omega
 ·
  have A:∀ k,¬ L (Array.replicate l.toArray.size false) k:=by
   intro k hk;unfold L at hk;simp only [Array.getD_eq_getD_getElem?,Array.getElem?_replicate] at hk
   split at hk <;> simp at hk
  exact ⟨by simp,hrf _,rfl,rfl,λk o _ hk=>(A k hk).elim,λ_ _=>rfl,λk hk=>(A k hk).elim,λk o _ hk=>(A k hk).elim⟩
section
variable {Fin:Act->World->Prop} {o:Oper} {rest:List Oper} {Ks:List Kind} {F:List (Nat×(World->Prop))} {a:Act}
variable {i:Nat}
theorem g_nil (h:∀ w,R w1 w->(∀ p∈F,p.2 w)->Fin a w):wpG P ops R w1 Fin i [] Ks F a:=h
theorem g_det (hw:Region.wanted o (yielded ops a.tmps)=true) (h:∃ v,(∀ w,R w1 w->depF F o w->kr P R o a w v)/\wpG P ops R w1 Fin (i+1) rest Ks F (a.put o.dst v)) :
 wpG P ops R w1 Fin i (o :: rest) (none :: Ks) F a:=by
 unfold wpG; rw [if_pos hw]; exact h
theorem g_con {c:Value} (hw:Region.wanted o (yielded ops a.tmps)=true) (h:∀ w,R w1 w->depF F o w->fq P R o a w λu _=>u=c) (hk:wpG P ops R w1 Fin (i+1) rest Ks F (a.put o.dst c)) :
 wpG P ops R w1 Fin i (o :: rest) (some (.inl c) :: Ks) F a:=by
 unfold wpG; rw [if_pos hw]; exact ⟨h,hk⟩
theorem g_new {Y:List (Option Value)->Value->World->Prop} (hw:Region.wanted o (yielded ops a.tmps)=true) (h:∀ w,R w1 w->depF F o w->fq P R o a w λu=>Y (look ops a o) (rv o u)) (hk:∀ v,wpG P ops R w1 Fin (i+1) rest Ks ((i,Y (look ops a o) v) :: F) (a.put o.dst v)) :
 wpG P ops R w1 Fin i (o :: rest) (some (.inr Y) :: Ks) F a:=by
 unfold wpG; rw [if_pos hw]; exact ⟨h,hk⟩
theorem g_skip {K:Kind} (hw:Region.wanted o (yielded ops a.tmps)=false) (hk:wpG P ops R w1 Fin (i+1) rest Ks F (a.put o.dst undef)) :
 wpG P ops R w1 Fin i (o :: rest) (K :: Ks) F a:=by
 unfold wpG; rw [if_neg (by rw [hw]; exact Bool.false_ne_true)]; exact hk
end
end
attribute [irreducible] wpG
end GrowN
namespace GrowM
open Go
open Go.Proofs.YtcgonejkkpbepaaGreatDoor.Grow (nk yj kr fq bound bu ao2 aqh aqi inB mh L D slot Agree Agree.same ed j4 dm iy qw qx left acx yl mo u6 jc zn kz)
open Go.Proofs.YtcgonejkkpbepaaGreatDoor.GrowN (Kind rv val depF wpG)
abbrev look:=@GrowN.look
def ark (ops:Array Oper) (m n:Nat):Bool:=n == ops.size || (List.range n).all λh=>decide (h < m) || (List.range (n+1)).any λj=>decide (h < j) && ((ops[j]?).map λo=>bound o h).getD false
def arl (ops:Array Oper) (n:Nat):Bool:=(List.range ops.size).all λt=>decide (t<=n) || ((ops[t]?).map λo=>(List.range t).any λj=>decide (n<=j) && bound o j).getD false
def gM (ops:Array Oper) (m n:Nat):Bool:=Region.noSelect ops && decide (n<=ops.size) && decide (m<=n) && ao2 ops && aqh ops n && aqi ops n && ark ops m n && arl ops n
structure Chk (ops:Array Oper) (m n:Nat):Prop where
 sel:∀ (j:Nat) (o:Oper) cs b,ops[j]?=some o->o.op≠.select cs b
 le:n<=ops.size
 mn:m<=n
 low:∀ i o,ops[i]?=some o->∀ e∈o.after,Region.binds .any e=true->e.on < i
 uniq:∀ i j d,i < n->j < n->D ops i=some d->D ops j=some d->i=j
 looks:∀ i o s k,i < n->ops[i]?=some o->s∈o.looksAt ops->k < n->D ops k=some s->i=k\/bound o k=true\/∃ p,ops[k]?=some p/\bound p i=true
 waits:n=ops.size\/∀ h,m<=h->h < n->∃ j o,h < j/\j<=n/\ops[j]?=some o/\bound o h=true
 seq:∀ t o,n < t->ops[t]?=some o->∃ j,n<=j/\j < t/\bound o j=true
theorem Chk.of {ops:Array Oper} {m n:Nat} (h:gM ops m n=true):Chk ops m n:=by
 unfold gM at h;simp only [Bool.and_eq_true,decide_eq_true_eq] at h;obtain ⟨⟨⟨⟨⟨⟨⟨h0,M⟩,N⟩,h1⟩,O⟩,U⟩,B⟩,X⟩:=h;refine ⟨Region.noSelect_spec h0,M,N,?_,?_,?_,?_,?_⟩
 ·
  intro i o A e Y hb;have E:i < ops.size:=(Array.getElem?_eq_some_iff.1 A).1;have:=List.all_eq_true.1 h1 i (List.mem_range.2 E);simp only [A,Option.map_some,Option.getD_some] at this;have:=Array.all_eq_true_iff_forall_mem.1 this e Y
  simpa [hb] using this
 ·
  intro i j d E F I J;have:=List.all_eq_true.1 O i (List.mem_range.2 E);have:=List.all_eq_true.1 this j (List.mem_range.2 F);unfold D at I J
  simpa [I,J] using this
 ·
  intro i o s k E A Z hk hd;have:=List.all_eq_true.1 U i (List.mem_range.2 E);simp only [A,Option.map_some,Option.getD_some] at this;have:=List.all_eq_true.1 this s Z;have:=List.all_eq_true.1 this k (List.mem_range.2 hk);unfold D at hd
  cases hk2:ops[k]? with
  | none=>simp [hk2] at hd
  | some q =>
    simp only [hk2,Option.bind_some] at hd;simp only [hk2,Option.bind_some,hd,Option.map_some,Option.getD_some,Bool.or_eq_true,beq_iff_eq,bne_self_eq_false,Bool.false_eq_true,false_or] at this
    rcases this with (h | h) | h
    . exact .inl h
    . exact .inr (.inl h)
    . exact .inr (.inr ⟨q,rfl,h⟩)
 ·
  unfold ark at B;simp only [Bool.or_eq_true,beq_iff_eq] at B
  rcases B with B | B
  . exact .inl B
  ·
   refine .inr λh hm hh=>?_
   have:=List.all_eq_true.1 B h (List.mem_range.2 hh);rw [Bool.or_eq_true,decide_eq_true_eq] at this;obtain ⟨j,F,hb⟩:=List.any_eq_true.1 (this.resolve_left (by omega));simp only [Bool.and_eq_true,decide_eq_true_eq] at hb
   cases A:ops[j]? with
   | none=>simp [A] at hb
   | some o=>exact ⟨j,o,hb.1,by have:=List.mem_range.1 F; omega,A,by simpa [A] using hb.2⟩
 ·
  intro t o ht A;have E:t < ops.size:=(Array.getElem?_eq_some_iff.1 A).1;have:=List.all_eq_true.1 X t (List.mem_range.2 E);rw [Bool.or_eq_true,decide_eq_true_eq] at this;have:=this.resolve_left (by omega);rw [A] at this;obtain ⟨j,F,hb⟩:=List.any_eq_true.1 (show ((List.range t).any λj=>decide (n<=j) && bound o j)=true from this);rw [Bool.and_eq_true,decide_eq_true_eq] at hb;exact ⟨j,hb.1,List.mem_range.1 F,hb.2⟩
section
variable {P:Program} {ops:Array Oper} {R:World->World->Prop} {w1:World}
section
variable (P:Program) (ops:Array Oper) (R:World->World->Prop) (w1:World) (a0:Act) (m n:Nat) (kind:Nat->Kind)
def GoodF (a:Act) (k:Nat) (o:Oper) (F:List (Nat×(World->Prop))):Prop:=∀ p∈F,bound o p.1=true ->
 ∃ oj Y bj,(m<=p.1/\p.1 < k)/\ops[p.1]?=some oj/\kind p.1=some (.inr Y)/\Agree ops a0 a bj p.1 oj/\Region.wanted oj (yielded ops bj.tmps)=true/\p.2=Y (look ops bj oj) (val a oj)
def Holds (a:Act) (w:World) (k:Nat) (o:Oper) (b:Act):Prop :=
 if Region.wanted o (yielded ops b.tmps)=true then
  match kind k with
  | none=>∀ v F,GoodF ops a0 m kind a k o F->(∀ w',R w1 w'->depF F o w'->kr P R o b w' v)->∀ d,o.dst=some d->slot a d=v
  | some (.inl c)=>∀ d,o.dst=some d->slot a d=c
  | some (.inr Y)=>Y (look ops b o) (val a o) w
 else ∀ d,o.dst=some d->slot a d=undef
structure Inv (listed:Array Bool) (a:Act) (w:World):Prop where
 size:listed.size=ops.size
 reach:R w1 w
 defs:a.defers=a0.defers
 tsz:a.tmps.size=a0.tmps.size
 closed:∀ k o,ops[k]?=some o->L listed k->∀ e∈o.after,Region.binds .any e=true->L listed e.on
 slots:∀ s,(∀ k,m<=k->L listed k->D ops k≠some s)->a.tmps[s]?=a0.tmps[s]?
 head:∀ k,L listed k->k < n
 vals:∀ k o,ops[k]?=some o->m<=k->L listed k->∀ b,Agree ops a0 a b k o->Holds P ops R w1 a0 m kind a w k o b
 lowL:∀ k,k < m->L listed k
end
variable {a0:Act} {m n:Nat} {kind:Nat->Kind}
theorem bound_lt (C:Chk ops m n) {i k:Nat} {o:Oper} (ho:ops[i]?=some o) (h:bound o k=true):k < i:=by
 obtain ⟨e,A,hb,rfl⟩:=bu h;exact C.low i o ho e A hb
theorem dep_listed (C:Chk ops m n) {listed:Array Bool} {k j:Nat} {o:Oper} {s:Tmp} (hk:k < n) (ho:ops[k]?=some o)
 (hall:∀ e∈o.after,Region.binds .any e=true->L listed e.on) (hs:s∈o.looksAt ops) (hj:j < k) (hd:D ops j=some s):L listed j:=by
 rcases C.looks k o s j hk ho hs (by omega) hd with h | h | ⟨p,hp,h⟩
 . omega
 . obtain ⟨e,A,hb,rfl⟩:=bu h
   exact hall e A hb
 . have:=bound_lt C hp h; omega
theorem depF_of {listed:Array Bool} {a:Act} {w:World} (I:Inv P ops R w1 a0 m n kind listed a w) {k:Nat} {o:Oper}
 (hall:∀ e∈o.after,Region.binds .any e=true->L listed e.on) {F:List (Nat×(World->Prop))} (hF:GoodF ops a0 m kind a k o F):depF F o w:=by
 intro p hp O;obtain ⟨oj,Y,U,X,A,B,hb,Z,he⟩:=hF p hp O;obtain ⟨e,E,J,M⟩:=bu O;have N:L listed p.1:=M ▸ hall e E J;have:=I.vals p.1 oj A X.1 N U hb;unfold Holds at this;rw [if_pos Z,B] at this;rw [he]; exact this
theorem val_put {a:Act} {o ok:Oper} {v:Value} (h:∀ d,ok.dst=some d->o.dst≠some d):val (a.put o.dst v) ok=val a ok:=by
 unfold val
 cases hd:ok.dst with
 | none=>rfl
 | some d=>exact iy (h d hd)
theorem Inv.step (C:Chk ops m n) (htr:∀ u v w:World,R u v->R v w->R u w) (hstab:∀ k Y,kind k=some (.inr Y)->∀ l v w w',R w w'->Y l v w->Y l v w')
 {listed:Array Bool} {a:Act} {w w':World} (I:Inv P ops R w1 a0 m n kind listed a w) {i:Nat} {o:Oper} (hin:i < n) (ho:ops[i]?=some o) (hun:¬ L listed i)
 (hall:∀ e∈o.after,Region.binds .any e=true->L listed e.on) {v:Value} (hR:R w w')
 (hv:∀ b,Agree ops a0 (a.put o.dst v) b i o->Holds P ops R w1 a0 m kind (a.put o.dst v) w' i o b) :
 Inv P ops R w1 a0 m n kind (listed.setIfInBounds i true) (a.put o.dst v) w':=by
 have B:i < listed.size:=by rw [I.size]; exact (Array.getElem?_eq_some_iff.1 ho).1
 have E:D ops i=o.dst:=by simp [D,ho]
 have keep:∀ k ok,ops[k]?=some ok->L listed k->∀ s∈ok.looksAt ops,∀ j,j < k->D ops j=some s->o.dst≠some s:=by
  intro k ok A hk s J j X hd Z;have am:=I.head k hk;have:j=i:=C.uniq j i s (by omega) hin hd (by rw [E,Z]);subst this;exact hun (dep_listed C am A (I.closed k ok A hk) J X hd)
 have ac:∀ k ok,ops[k]?=some ok->L listed k->∀ b,Agree ops a0 (a.put o.dst v) b k ok↔Agree ops a0 a b k ok:=by
  intro k ok A hk b
  constructor
  iterate 2
   . intro h; exact ⟨λs J j X hd=>by rw [h.1 s J j X hd,dm (keep k ok A hk s J j X hd)],h.2⟩
 have an:m<=i:=Nat.le_of_not_lt λh=>hun (I.lowL i h)
 refine ⟨by simpa using I.size,htr _ _ _ I.reach hR,qx.trans I.defs,qw.trans I.tsz,?_,?_,?_,?_,λk hk=>(ed B).2 (.inr (I.lowL k hk))⟩
 ·
  intro k ok A hk e Z hb
  rcases (ed B).1 hk with rfl | hk
  . rw [ho] at A; cases A; exact (ed B).2 (.inr (hall e Z hb))
  . exact (ed B).2 (.inr (I.closed k ok A hk e Z hb))
 . intro s J
   rw [dm (by rw [<- E]; exact J i an ((ed B).2 (.inl rfl)))];exact I.slots s λk M hk=>J k M ((ed B).2 (.inr hk))
 ·
  intro k hk
  rcases (ed B).1 hk with rfl | hk
  . exact hin
  . exact I.head k hk
 ·
  intro k ok A M hk b hb
  rcases (ed B).1 hk with rfl | hk
  . rw [ho] at A; cases A; exact hv b hb
  ·
   have bb:k≠i:=λe=>hun (e ▸ hk)
   have ne:∀ k' N,ops[k']?=some N->L listed k'->∀ d,N.dst=some d->o.dst≠some d:=λk' N ad ak d hd e =>
    (λ(e2:k'=i)=>hun (e2 ▸ ak)) (C.uniq k' i d (I.head k' ak) hin (by simp [D,ad,hd]) (by rw [E,e]))
   have h:=I.vals k ok A M hk b ((ac k ok A hk b).1 hb);unfold Holds at h ⊢
   split
   ·
    rename_i hw
    rw [if_pos hw] at h
    cases hkd:kind k with
    | none =>
      rw [hkd] at h;intro v' F hF O d hd;rw [iy (ne k ok A hk d hd)];refine h v' F (λp hp hl=>?_) O d hd;obtain ⟨oj,Y,bj,X,U,ap,ar,av,Z⟩:=hF p hp hl;obtain ⟨e,a1,a6,a7⟩:=bu hl;have al:L listed p.1:=a7 ▸ I.closed k ok A hk e a1 a6;exact ⟨oj,Y,bj,X,U,ap,(ac p.1 oj U al bj).1 ar,av,by rw [Z,val_put (ne p.1 oj U al)]⟩
    | some x =>
      rw [hkd] at h
      cases x with
      | inl c=>exact λd hd=>by rw [iy (ne k ok A hk d hd)]; exact h d hd
      | inr Y =>
        show Y _ (val _ ok) w';rw [val_put (ne k ok A hk)];exact hstab k Y hkd _ _ _ _ hR h
   . rename_i hw
     rw [if_neg hw] at h;exact λd hd=>by rw [iy (ne k ok A hk d hd)]; exact h d hd
section
variable (P:Program) (ops:Array Oper) (R:World->World->Prop) (w1:World) (a0:Act) (m n:Nat) (kind:Nat->Kind)
structure Path (listed:Array Bool) (a:Act) (k:Nat) (b:Act) (F:List (Nat×(World->Prop))):Prop where
 defs:b.defers=a0.defers
 tsz:b.tmps.size=a0.tmps.size
 other:∀ s,(∀ j,m<=j->j < k->D ops j≠some s)->b.tmps[s]?=a0.tmps[s]?
 same:∀ j,j < k->L listed j->∀ d,D ops j=some d->b.tmps[d]?=a.tmps[d]?
 facts:∀ p∈F,∃ oj Y v bj,(m<=p.1/\p.1 < k)/\ops[p.1]?=some oj/\kind p.1=some (.inr Y)/\p.2=Y (look ops bj oj) v /\
  (L listed p.1->v=val a oj/\Agree ops a0 a bj p.1 oj/\Region.wanted oj (yielded ops bj.tmps)=true)
def Spec (a:Act) (i:Nat) (o:Oper):Prop:=∃ b F,Agree ops a0 a b i o/\GoodF ops a0 m kind a i o F/\(Region.wanted o (yielded ops b.tmps)=true ->
 match kind i with
 | none=>∃ v,∀ w',R w1 w'->depF F o w'->kr P R o b w' v
 | some (.inl c)=>∀ w',R w1 w'->depF F o w'->fq P R o b w' λu _=>u=c
 | some (.inr Y)=>∀ w',R w1 w'->depF F o w'->fq P R o b w' λu=>Y (look ops b o) (rv o u))
end
theorem Path.agree (C:Chk ops m n) {listed:Array Bool} {a b:Act} {F:List (Nat×(World->Prop))} {k:Nat} {o:Oper} (hp:Path ops a0 m kind listed a k b F) (hk:k < n) (ho:ops[k]?=some o)
 (hall:∀ e∈o.after,Region.binds .any e=true->L listed e.on):Agree ops a0 a b k o/\GoodF ops a0 m kind a k o F:=by
 refine ⟨⟨λs R j A hd=>hp.same j A (dep_listed C hk ho hall R A hd) s hd,λs _ U=>hp.other s λj _ A=>U j A⟩,λp B X=>?_⟩;obtain ⟨oj,Y,v,Z,A,E,I,he,hL⟩:=hp.facts p B;obtain ⟨e,J,M,N⟩:=bu X;obtain ⟨hv,O,hw⟩:=hL (N ▸ hall e J M);exact ⟨oj,Y,Z,A,E,I,O,hw,by rw [he,hv]⟩
theorem Path.step (C:Chk ops m n) {listed:Array Bool} {a b:Act} {w:World} {F:List (Nat×(World->Prop))} {k:Nat} {o:Oper} (I:Inv P ops R w1 a0 m n kind listed a w)
 (hin:∀ o d,o∈ops->o.dst=some d->d < a0.tmps.size) (hp:Path ops a0 m kind listed a k b F) (hmk:m<=k) (hk:k < n) (ho:ops[k]?=some o) (v:Value)
 (hv:L listed k->∀ d,o.dst=some d->v=slot a d):Path ops a0 m kind listed a (k+1) (b.put o.dst v) F:=by
 have A:D ops k=o.dst:=by simp [D,ho]
 refine ⟨qx.trans hp.defs,qw.trans hp.tsz,λs N=>?_,λj O E d hd=>?_,λp J=>?_⟩
 . rw [dm (by rw [<- A]; exact N k hmk (by omega))]
   exact hp.other s λj M O=>N j M (by omega)
 ·
  by_cases e:j=k
  ·
   subst e;rw [A] at hd;have B:=hin o d (Array.mem_of_getElem? ho) hd;have:=hv E d hd;rw [hd];have h1:d < b.tmps.size:=by rw [hp.tsz]; exact B
   have U:d < a.tmps.size:=by rw [I.tsz]; exact B
   simp only [Act.put,Array.getElem?_setIfInBounds_self_of_lt h1,this,slot];simp [U]
  . rw [dm λX=>e (C.uniq j k d (I.head j E) hk hd (by rw [A,X]))]
    exact hp.same j (by omega) E d hd
 . obtain ⟨oj,Y,v,Z,O,h⟩:=hp.facts p J
   exact ⟨oj,Y,v,Z,by omega,h⟩
theorem Path.fact {listed:Array Bool} {a b b':Act} {F:List (Nat×(World->Prop))} {k:Nat} {o:Oper} (hp:Path ops a0 m kind listed a (k+1) b' F) (hmk:m<=k) (ho:ops[k]?=some o) {Y:List (Option Value)->Value->World->Prop}
 (hY:kind k=some (.inr Y)) (v:Value) (hv:L listed k->v=val a o/\Agree ops a0 a b k o/\Region.wanted o (yielded ops b.tmps)=true) :
 Path ops a0 m kind listed a (k+1) b' ((k,Y (look ops b o) v) :: F):=by
 refine ⟨hp.defs,hp.tsz,hp.other,hp.same,λp A=>?_⟩
 rcases List.mem_cons.1 A with rfl | A
 . exact ⟨o,Y,v,b,⟨hmk,by show k < k+1; omega⟩,ho,hY,rfl,hv⟩
 . exact hp.facts p A
theorem descend (C:Chk ops m n) (hin:∀ o d,o∈ops->o.dst=some d->d < a0.tmps.size) {Fin:Act->World->Prop} {listed:Array Bool} {a:Act} {w:World} (I:Inv P ops R w1 a0 m n kind listed a w) :
 ∀ (l:List Oper) (k:Nat) (Ks:List Kind) (F:List (Nat×(World->Prop))) (b:Act),k+l.length=n->m<=k->(∀ j,j < l.length->l[j]?=ops[k+j]?)->(∀ j,Ks.getD j none=kind (k+j)) ->
  Path ops a0 m kind listed a k b F->wpG P ops R w1 Fin k l Ks F b ->
  (∀ i o,k<=i->i < n->ops[i]?=some o->(∀ e∈o.after,Region.binds .any e=true->L listed e.on)->Spec P ops R w1 a0 m kind a i o) /\
  (∃ b F,Path ops a0 m kind listed a n b F/\∀ w,R w1 w->(∀ p∈F,p.2 w)->Fin b w)
 | [],k,Ks,F,b,hn,_,_,_,hp,h=>by
   have:k=n:=by simpa using hn
   subst this;exact ⟨λi o h1 U=>by omega,b,F,hp,by unfold wpG at h; exact h⟩
 | o :: l,k,Ks,F,b,hn,hmk,hl,hK,hp,h=>by
   simp only [List.length_cons] at hn;have A:ops[k]?=some o:=by have:=hl 0 (by simp); simpa using this.symm
   have hk:k < n:=by omega
   have Z:∀ j,j < l.length->l[j]?=ops[(k+1)+j]?:=λj hj=>by
    have:=hl (j+1) (by simp; omega);rw [show k+1+j=k+(j+1) by omega,<- this]; rfl
   have ab:∀ j,Ks.tail.getD j none=kind ((k+1)+j):=λj=>by
    have:=hK (j+1);rw [show k+1+j=k+(j+1) by omega,<- this]
    cases Ks <;> simp
   have ac:Ks.headD none=kind k:=by
    have:=hK 0;rw [Nat.add_zero] at this;rw [<- this]
    cases Ks <;> simp
   have B:L listed k->∀ e∈o.after,Region.binds .any e=true->L listed e.on:=λE=>I.closed k o A E
   have key:∃ X F',Path ops a0 m kind listed a (k+1) X F'/\wpG P ops R w1 Fin (k+1) l Ks.tail F' X /\
    (Region.wanted o (yielded ops b.tmps)=true->match kind k with
     | none=>∃ v,∀ w',R w1 w'->depF F o w'->kr P R o b w' v
     | some (.inl c)=>∀ w',R w1 w'->depF F o w'->fq P R o b w' λu _=>u=c
     | some (.inr Y)=>∀ w',R w1 w'->depF F o w'->fq P R o b w' λu=>Y (look ops b o) (rv o u)):=by
    unfold wpG at h
    split at h
    ·
     rename_i O
     rw [ac] at h
     cases hkd:kind k with
     | none =>
       rw [hkd] at h;obtain ⟨v,J,h⟩:=h;refine ⟨_,F,hp.step C I hin hmk hk A v λE d hd=>?_,h,λ_=>⟨v,J⟩⟩;obtain ⟨hA,hG⟩:=hp.agree C hk A (B E);have:=I.vals k o A hmk E b hA;unfold Holds at this;rw [if_pos O,hkd] at this;exact (this v F hG J d hd).symm
     | some x =>
       rw [hkd] at h
       cases x with
       | inl c =>
         obtain ⟨J,h⟩:=h;refine ⟨_,F,hp.step C I hin hmk hk A c λE d hd=>?_,h,λ_=>J⟩;obtain ⟨hA,hG⟩:=hp.agree C hk A (B E);have:=I.vals k o A hmk E b hA;unfold Holds at this;rw [if_pos O,hkd] at this;exact (this d hd).symm
       | inr Y =>
         obtain ⟨J,h⟩:=h;have hv:L listed k->∀ d,o.dst=some d->val a o=slot a d:=λ_ d hd=>by simp [val,hd]
         exact ⟨_,_,(hp.step C I hin hmk hk A _ hv).fact hmk A hkd _ λE=>⟨rfl,(hp.agree C hk A (B E)).1,O⟩,h _,λ_=>J⟩
    . rename_i O
      refine ⟨_,F,hp.step C I hin hmk hk A undef λE d hd=>?_,h,λak=>absurd ak O⟩;have:=I.vals k o A hmk E b (hp.agree C hk A (B E)).1;unfold Holds at this;rw [if_neg O] at this;exact (this d hd).symm
   obtain ⟨X,F',al,h',J⟩:=key;obtain ⟨r1,r2⟩:=descend C hin I l (k+1) Ks.tail F' X (by omega) (by omega) Z ab al h';refine ⟨λi oi h1 U M N=>?_,r2⟩
   by_cases e:i=k
   . subst e
     rw [A] at M; cases M;exact ⟨b,F,(hp.agree C U A N).1,(hp.agree C U A N).2,J⟩
   . exact r1 i oi (by omega) U M N
theorem Inv.settle {listed:Array Bool} {a:Act} {w:World} (I:Inv P ops R w1 a0 m n kind listed a w) (hall:∀ k,k < n->L listed k)
 {b:Act} {F:List (Nat×(World->Prop))} (hp:Path ops a0 m kind listed a n b F):b=a/\∀ p∈F,p.2 w:=by
 constructor
 ·
  have ht:b.tmps=a.tmps:=by
   apply Array.ext_getElem?;intro s
   by_cases A:∃ j,j < n/\D ops j=some s
   . obtain ⟨j,A,hd⟩:=A
     exact hp.same j A (hall j A) s hd
   . have O:∀ j,j < n->D ops j≠some s:=λj B hd=>A ⟨j,B,hd⟩
     rw [hp.other s (λj _ A=>O j A),I.slots s λk _ hk=>O k (I.head k hk)]
  have hd:b.defers=a.defers:=hp.defs.trans I.defs.symm
  cases a; cases b; simp_all
 ·
  intro p E;obtain ⟨oj,Y,v,U,A,J,M,X,Z⟩:=hp.facts p E;obtain ⟨hv,N,hw⟩:=Z (hall p.1 A.2);have:=I.vals p.1 oj J A.1 (hall p.1 A.2) U N;unfold Holds at this;rw [if_pos hw,M] at this;rw [X,hv]; exact this
theorem afv {listed:Array Bool} {m:Nat} (h:∀ k,L listed k↔k < m):∀ n,left listed n=n - m
 | 0=>by simp [left]
 | n+1=>by
   unfold left;rw [afv h n]
   by_cases hn:n < m
   . have:listed.getD n false=true:=(h n).2 hn
     rw [this]; simp; omega
   . have:¬ listed.getD n false=true:=λA=>hn ((h n).1 A)
     rw [if_neg this]; omega
def St (P:Program) (ops:Array Oper) (Q:Exit->Act->World->Prop) (m:Nat) (a:Act) (w:World):Prop :=
 ∀ listed:Array Bool,listed.size=ops.size->(∀ k,L listed k↔k < m)->wpAny P .any ops Q (ops.size - m) listed a w
theorem ahw (C:Chk ops m n) (hrf:∀ w:World,R w w) (htr:∀ u v w:World,R u v->R v w->R u w) (hstab:∀ k Y,kind k=some (.inr Y)->∀ l v w w',R w w'->Y l v w->Y l v w')
 (hin:∀ o d,o∈ops->o.dst=some d->d < a0.tmps.size) {Q:Exit->Act->World->Prop} {l:List Oper} (hll:m+l.length=n) (hl:∀ j,j < l.length->l[j]?=ops[m+j]?) {Ks:List Kind} (hK:∀ j,Ks.getD j none=kind (m+j))
 (h:wpG P ops R w1 (St P ops Q n) m l Ks [] a0) :
 ∀ (fuel:Nat) (listed:Array Bool) (a:Act) (w:World),fuel=left listed n+(ops.size - n)->Inv P ops R w1 a0 m n kind listed a w->wpAny P .any ops Q fuel listed a w:=by
 have first:∀ (listed:Array Bool) (a:Act) (w:World),Inv P ops R w1 a0 m n kind listed a w->Path ops a0 m kind listed a m a0 []:=λlisted a w I =>
  ⟨rfl,rfl,λ_ _=>rfl,λj hj hL d hd=>(I.slots d λk hk b0 b1=>(by have:=C.uniq j k d (by have:=C.mn; omega) (I.head k b0) hd b1; omega)).symm,λp hp=>by cases hp⟩
 have last:∀ (listed:Array Bool) (a:Act) (w:World),Inv P ops R w1 a0 m n kind listed a w->left listed n=0->wpAny P .any ops Q (ops.size - n) listed a w:=by
  intro listed a w I hz;have A:=mo n hz;obtain ⟨b,F,hp,an⟩:=(descend C hin I l m Ks [] a0 hll (Nat.le_refl _) hl hK (first _ _ _ I) h).2;obtain ⟨rfl,hF⟩:=I.settle A hp;exact an w I.reach hF listed I.size λk=>⟨I.head k,A k⟩
 intro fuel
 induction fuel with
 | zero =>
   intro listed a w hf I;have:=last listed a w I (by omega);rw [show ops.size - n=0 by omega] at this;exact this
 | succ fuel ih =>
   intro listed a w hf I;obtain ⟨b4,b,F,hp,an⟩:=descend C hin I l m Ks [] a0 hll (Nat.le_refl _) hl hK (first _ _ _ I) h
   by_cases hz:left listed n=0
   . have:=last listed a w I hz
     rw [show ops.size - n=fuel+1 by omega] at this;exact this
   ·
    obtain ⟨k,b5,ao,a6⟩:=u6 n (by omega:0 < left listed n);have bc:k < ops.size:=by have:=C.le; omega
    refine ⟨λhr=>?_,λi hi=>?_⟩
    . have:k∈Region.ready .any ops listed:=(jc I.size).2 ⟨ao,ops[k],Array.getElem?_eq_getElem bc,λe he hb=>a6 _ (C.low k _ (Array.getElem?_eq_getElem bc) e he hb)⟩
      rw [hr] at this; cases this
    ·
     obtain ⟨J,o,O,A⟩:=(jc I.size).1 hi;have b6:=(Array.getElem?_eq_some_iff.1 O).1;have co:m<=i:=Nat.le_of_not_lt λh=>J (I.lowL i h)
     have B:i < n:=by
      by_cases hlt:i < n
      . exact hlt
      ·
       -- one of the first n is still to come: it is waited for, by the n-th at the furthest
       rcases C.waits with hw | hw
       . omega
       ·
        have top:∀ d h,h < n->n - h<=d->L listed h\/(∃ h',h<=h'/\h' < n/\¬ L listed h'/\∃ o,ops[n]?=some o/\bound o h'=true):=by
         intro d
         induction d with
         | zero=>intro h h1 h2; omega
         | succ d ihd =>
           intro h h1 h2
           by_cases hLh:L listed h
           . exact .inl hLh
           . have b7:m<=h:=Nat.le_of_not_lt λh3=>hLh (I.lowL h h3)
             obtain ⟨j,oj,h3,h4,ac,hb⟩:=hw h b7 h1
             by_cases hjn:j=n
             . exact .inr ⟨h,Nat.le_refl _,h1,hLh,oj,hjn ▸ ac,hb⟩
             . rcases ihd j (by omega) (by omega) with h5 | ⟨h',a1,a2,a3,a4⟩
               . obtain ⟨e,he,ad,X⟩:=bu hb
                 exact absurd (X ▸ I.closed j oj ac h5 e he ad) hLh
               . exact .inr ⟨h',by omega,a2,a3,a4⟩
        rcases top (n - k) k b5 (Nat.le_refl _) with h5 | ⟨h',_,a2,a3,on,X,hb⟩
        . exact absurd h5 ao
        . by_cases hie:i=n
          . subst hie
            rw [O] at X; cases X;obtain ⟨e,he,ad,X⟩:=bu hb;exact absurd (X ▸ A e he ad) a3
          . obtain ⟨j,h6,h7,h8⟩:=C.seq i o (by omega) O
            obtain ⟨e,he,ad,bd⟩:=bu h8;have:=I.head j (bd ▸ A e he ad);omega
     obtain ⟨b',F',hA,hG,E⟩:=b4 i o (by omega) B O A;have av:=λcs c=>C.sel i o cs c O
     have b8:∀ s∈o.looksAt ops,a.tmps[s]?=b'.tmps[s]?:=by
      intro s hs
      by_cases hj:∃ j,j < i/\D ops j=some s
      . obtain ⟨j,hj,hd⟩:=hj
        exact (hA.1 s hs j hj hd).symm
      . have bh:∀ j,j < i->D ops j≠some s:=λj a7 hd=>hj ⟨j,a7,hd⟩
        rw [hA.2 s hs bh];refine I.slots s λj _ a8 hd=>?_
        rcases C.looks i o s j B O hs (I.head j a8) hd with hij | hij | ⟨q,hq,hij⟩
        . subst hij; exact J a8
        . exact bh j (bound_lt C O hij) hd
        . obtain ⟨e,he,hb,rfl⟩:=bu hij
          exact J (I.closed j q hq a8 e he hb)
     obtain ⟨hex,bk⟩:=mh (ops:=ops) av b8;have U:=depF_of I A hG
     have N:fuel=left (listed.setIfInBounds i true) n+(ops.size - n):=by
      have:=yl (listed:=listed) (by rw [I.size]; exact b6) J n B; omega
     have same:∀ (v:Value) b,Agree ops a0 (a.put o.dst v) b i o->execOp b.eval o=execOp b'.eval o/\Region.wanted o (yielded ops b.tmps)=Region.wanted o (yielded ops b'.tmps)/\look ops b o=look ops b' o:=by
      intro v b hb
      have bl:Agree ops a0 a b i o:=by
       refine ⟨λs hs j hj hd=>?_,hb.2⟩;rw [hb.1 s hs j hj hd];refine dm λe=>?_
       have:j=i:=C.uniq j i s (by omega) B hd (by simp [D,O,e]);omega
      obtain ⟨q1,q2⟩:=mh av (bl.same hA);exact ⟨q1,q2,List.map_congr_left (bl.same hA)⟩
     have bm:∀ (v:Value) F,GoodF ops a0 m kind (a.put o.dst v) i o F->GoodF ops a0 m kind a i o F:=by
      intro v F hF p hp hl;obtain ⟨oj,Y,bj,hj,ac,b9,bo,ca,he⟩:=hF p hp hl
      have cb:∀ d,oj.dst=some d->o.dst≠some d:=λd hd e=>by
       have:p.1=i:=C.uniq p.1 i d (by omega) B (by simp [D,ac,hd]) (by simp [D,O,e]);omega
      refine ⟨oj,Y,bj,hj,ac,b9,⟨λs hs j' a7 bp=>?_,bo.2⟩,ca,by rw [he,val_put cb]⟩;rw [bo.1 s hs j' a7 bp];refine dm λe=>?_
      have:j'=i:=C.uniq j' i s (by omega) B bp (by simp [D,O,e]);subst this;omega
     have am:∀ d,o.dst=some d->d < a.tmps.size:=λd hd=>by rw [I.tsz]; exact hin o d (Array.mem_of_getElem? O) hd
     unfold wpOp;simp only [O]
     split
     ·
      rename_i hw
      have Z:Region.wanted o (yielded ops b'.tmps)=true:=by rw [<- bk]; exact hw
      have E:=E Z;refine .inl ?_
      cases hkd:kind i with
      | none =>
        rw [hkd] at E;obtain ⟨v,hs⟩:=E;have hd:kr P R o a w v:=by unfold kr; rw [hex]; exact hs w I.reach U
        refine zn hd λw' hR=>ih _ _ _ N (I.step C htr hstab B O J A hR λb hb=>?_)
        obtain ⟨e1,e2,_⟩:=same v b hb;unfold Holds;rw [if_pos (by rw [e2]; exact Z),hkd];intro v' F2 cd ce d M;have h1:=hs w I.reach U;have h2:=ce w I.reach (depF_of I A (bm v F2 cd));unfold kr at h1 h2;rw [e1] at h2;rw [M,j4 (am d M)];generalize (execOp b'.eval o).run P w=r at h1 h2
        cases r with
        | ok x w'' =>
          cases x <;> simp only [nk] at h1 h2
          case value u=>rw [<- h1.1,h2.1]
          case skip=>rw [<- h1.1,h2.1]
        | halt x w''=>simp only [nk] at h1
      | some x =>
        rw [hkd] at E
        cases x with
        | inl c =>
          have hg:fq P R o a w λu _=>u=c:=by unfold fq; rw [hex]; exact E w I.reach U
          refine kz hg λv w' hv hR=>ih _ _ _ N (I.step C htr hstab B O J A hR λb hb=>?_)
          obtain ⟨e1,e2,_⟩:=same v b hb;unfold Holds;rw [if_pos (by rw [e2]; exact Z),hkd];intro d M;rw [M,j4 (am d M)]; exact hv
        | inr Y =>
          have hg:fq P R o a w λu=>Y (look ops b' o) (rv o u):=by unfold fq; rw [hex]; exact E w I.reach U
          refine kz hg λv w' hv hR=>ih _ _ _ N (I.step C htr hstab B O J A hR λb hb=>?_)
          obtain ⟨e1,e2,_⟩:=same v b hb;unfold Holds;rw [if_pos (by rw [e2]; exact Z),hkd];show Y (look ops b o) (val _ o) w';rw [(same v b hb).2.2]
          have ci:val (a.put o.dst v) o=rv o v:=by
           unfold val rv
           cases M:o.dst with
           | none=>rfl
           | some d=>exact j4 (am d M)
          rw [ci]; exact hv
     ·
      rename_i hw
      have Z:¬ Region.wanted o (yielded ops b'.tmps)=true:=by rw [<- bk]; exact hw
      refine ih _ _ _ N (I.step C htr hstab B O J A (hrf w) λb hb=>?_);obtain ⟨e1,e2,_⟩:=same undef b hb;unfold Holds;rw [if_neg (by rw [e2]; exact Z)];intro d M;rw [M,j4 (am d M)]
variable {Q:Exit->Act->World->Prop}
theorem jl {a:Act} {w:World} (n:Nat) (Ks:List Kind) (R:World->World->Prop) {l:List Oper} {m:Nat}
 (hB:gM l.toArray m n=true) (hin:inB l.toArray a=true) (hrf:∀ w:World,R w w) (htr:∀ u v w:World,R u v->R v w->R u w)
 (hstab:∀ K∈Ks,∀ Y,K=some (.inr Y)->∀ l v w w',R w w'->Y l v w->Y l v w')
 (h:wpG P l.toArray R w (St P l.toArray Q n) m ((l.drop m).take (n - m)) Ks [] a):St P l.toArray Q m a w:=by
 have C:=Chk.of hB;have J:n<=l.length:=by have:=C.le; simpa using this
 have M:=C.mn
 have B:∀ o d,o∈l.toArray->o.dst=some d->d < a.tmps.size:=by
  intro o d I hd;unfold inB at hin;have:=Array.all_eq_true_iff_forall_mem.1 hin o I
  simpa [hd] using this
 intro listed N A
 refine ahw (R:=R) (w1:=w) (a0:=a) (m:=m) (n:=n) (kind:=λk=>if m<=k then Ks.getD (k - m) none else none) C hrf htr (λk Y hk l v w w' O U=>?_) B (l:=(l.drop m).take (n - m)) (Ks:=Ks)
  (by simp; omega) (λj X=>?_) (λj=>by simp) h _ _ _ _ ?_ ?_
 ·
  split at hk
  ·
   have E:k - m < Ks.length:=by
    rcases Nat.lt_or_ge (k - m) Ks.length with h | h
    . exact h
    . simp [List.getD,List.getElem?_eq_none h] at hk
   have F:(some (.inr Y):Kind)∈Ks:=by
    rw [<- hk,List.getD_eq_getElem?_getD,List.getElem?_eq_getElem E]; exact List.getElem_mem E
   exact hstab _ F Y rfl l v w w' O U
  . cases hk
 . have:j < n - m:=by simp at X; omega
   simp [this]
 . rw [afv A n]
   have:l.toArray.size=l.length:=rfl;omega
 . exact ⟨N,hrf _,rfl,rfl,λk o I hk e Z hb=>(A _).2 (by have:=C.low k o I e Z hb; have:=(A k).1 hk; omega),λ_ _=>rfl,λk hk=>by have:=(A k).1 hk; omega,
    λk o I ab hk=>by have:=(A k).1 hk; omega,λk hk=>(A k).2 hk⟩
theorem nu {a:Act} {w:World} {l:List Oper} {m:Nat} {o:Oper} (Y:Value->World->Prop) (hB:(ao2 l.toArray && arl l.toArray m)=true) (ho:l[m]?=some o) (hw:Region.wanted o (yielded l.toArray a.tmps)=true)
 (h:fq P (λ_ _=>True) o a w Y) (hK:∀ v w',Y v w'->St P l.toArray Q (m+1) (a.put o.dst v) w'):St P l.toArray Q m a w:=by
 rw [Bool.and_eq_true] at hB;intro listed R B;have E:m < l.length:=(List.getElem?_eq_some_iff.1 ho).1;have A:l.toArray[m]?=some o:=by simpa using ho
 obtain ⟨f,hf⟩:∃ f,l.toArray.size - m=f+1:=⟨l.length - m - 1,by simp; omega⟩;rw [hf]
 have F:∀ e∈o.after,Region.binds .any e=true->e.on < m:=by
  intro e I hb;have:=List.all_eq_true.1 hB.1 m (List.mem_range.2 (by simpa using E));simp only [A,Option.map_some,Option.getD_some] at this;have:=Array.all_eq_true_iff_forall_mem.1 this e I
  simpa [hb] using this
 have J:m∈Region.ready .any l.toArray listed:=(jc R).2 ⟨λh=>by have:=(B m).1 h; omega,o,A,λe I hb=>(B _).2 (F e I hb)⟩;refine ⟨λh0=>(by rw [h0] at J; cases J),λi hi=>?_⟩;obtain ⟨h0,oi,M,N⟩:=(jc R).1 hi;have O:=(Array.getElem?_eq_some_iff.1 M).1
 have U:i=m:=by
  by_cases e:i=m
  . exact e
  ·
   have ak:¬ i < m:=λh=>h0 ((B i).2 h)
   have:=List.all_eq_true.1 hB.2 i (List.mem_range.2 O);rw [Bool.or_eq_true,decide_eq_true_eq] at this;have:=this.resolve_left (by omega);rw [M] at this;obtain ⟨j,hj,hb⟩:=List.any_eq_true.1 (show ((List.range i).any λj=>decide (m<=j) && bound oi j)=true from this);rw [Bool.and_eq_true,decide_eq_true_eq] at hb;obtain ⟨e',I,X,Z⟩:=bu hb.2;have:=(B j).1 (Z ▸ N e' I X);omega
 subst U;unfold wpOp;simp only [A,hw,if_true];refine .inl (kz h λv w' hv _=>?_)
 have:=hK v w' hv (listed.setIfInBounds i true) (by simpa using R) λk=>by
  rw [ed (by rw [R]; simpa using E),B k]; omega
 rw [show l.toArray.size - (i+1)=f by omega] at this;exact this
theorem qz {a:Act} {w:World} {l:List Oper} {m:Nat} (hm:m=l.length) (h:wpList P l.toArray Q [] a w):St P l.toArray Q m a w:=by
 subst hm;intro listed A B;rw [show l.toArray.size - l.length=0 by simp];refine ⟨List.eq_nil_iff_forall_not_mem.2 λj E=>?_,h⟩;obtain ⟨h0,o,F,_⟩:=(jc A).1 E;exact h0 ((B j).2 (by have:=(Array.getElem?_eq_some_iff.1 F).1; simpa using this))
theorem jh {id:Nat} {l:List Oper} {a:Act} {w:World} (hm:P.follows .mixedOrders=true) (h:St P l.toArray Q 0 a w.drew):(Code.region id l.toArray true).wp P Q a w:=by
 refine wp_region_any hm ?_;refine h _ (by simp) λk=>⟨λhk=>?_,λhk=>by omega⟩
 unfold L at hk;simp only [Array.getD_eq_getD_getElem?,Array.getElem?_replicate] at hk
 split at hk <;> simp at hk
end
end GrowM
section
open Go.RowKit
theorem vz {k:IntKind} {a b:Int} (h:a=b):Ending.returned (.int k a)=Ending.returned (.int k b):=by rw [h]
theorem wh {a b:ByteArray} (h:a=b):Ending.returned (.string a)=Ending.returned (.string b):=by rw [h]
theorem ax {a b:Bool} (h:a=b):Ending.returned (.bool a)=Ending.returned (.bool b):=by rw [h]
def Drawn (W w:World):Prop:=∃ n,w=W.drewN n
theorem Drawn.refl (W:World):Drawn W W:=⟨0,rfl⟩
theorem Drawn.drewN {W w:World} (h:Drawn W w) (n:Nat):Drawn W (w.drewN n):=by obtain ⟨m,rfl⟩:=h; exact ⟨m+n,World.drewN_drewN ..⟩
theorem Drawn.drew {W w:World} (h:Drawn W w):Drawn W w.drew:=h.drewN 1
theorem Drawn.trans {W w u:World} (h:Drawn W w) (k:Drawn w u):Drawn W u:=by obtain ⟨m,rfl⟩:=k; exact h.drewN m
theorem Drawn.cell {W w:World} (h:Drawn W w) (a:Addr):w.cell? a=W.cell? a:=by obtain ⟨m,rfl⟩:=h; rfl
theorem Drawn.heap {W w:World} (h:Drawn W w):w.heap=W.heap:=by obtain ⟨m,rfl⟩:=h; rfl
theorem Drawn.below {W w:World} (h:Drawn W w) (B:Nat):Below B W w:=by obtain ⟨m,rfl⟩:=h; exact below_drewN (Below.refl _ _) m
theorem qb {P:Program} {f:FuncId} {args:Array Value} {w:World} {n:Nat} {v:Value}
 (h:Calls P f args (w.drewN n) λe w'=>e=.returned v/\Drawn (w.drewN n) w'):Calls P f args (w.drewN n) λe A=>e=.returned v/\∃ m,A=w.drewN m :=
 h.mono λ_ _ ⟨B,E⟩=>⟨B,Drawn.trans ⟨n,rfl⟩ E⟩
theorem ahx {P:Program} {f:FuncId} {args:Array Value} {w:World} {n:Nat} {v:Value}
 (h:Calls P f args (w.drewN n) λe w'=>e=.returned v/\w.drewN n=w'):Calls P f args (w.drewN n) λe A=>e=.returned v/\∃ m,A=w.drewN m :=
 h.mono λ_ _ ⟨B,E⟩=>⟨B,n,E.symm⟩
theorem bq {w:World} {a:Addr} {v:Value} (h:w.cell? a=some v):a.block < w.heap.size:=by
 unfold World.cell? at h
 rcases Nat.lt_or_ge a.block w.heap.size with hl | hl
 . exact hl
 . rw [Array.getElem?_eq_none hl] at h; cases h
theorem cell_spot {w:World} {a:Addr} {v:Value} (h:w.cell? a=some v):a.spot=none:=by
 unfold World.cell? at h
 split at h
 ·
  split at h
  . cases h
  . cases hs:a.spot with
    | none=>rfl
    | some x=>simp [hs] at *
 . cases h
def Strs (w:World) (a:Option Addr) (ss:List ByteArray):Prop:=∀ i (h:i < ss.length),∃ b off,a=some ⟨b,off,none⟩/\w.cell? ⟨b,off+i,none⟩=some (.string ss[i])
theorem Strs.below {W w:World} {a:Option Addr} {ss:List ByteArray} (h:Strs W a ss) (hb:Below W.heap.size W w):Strs w a ss:=by
 intro i A;obtain ⟨b,off,rfl,hc⟩:=h i A;exact ⟨b,off,rfl,by rw [hb.cell (bq hc)]; exact hc⟩
theorem Strs.of_cells {w:World} {a:Addr} {ss:List ByteArray} (h:∀ i (A:i < ss.length),w.cell? (a.add i)=some (.string ss[i])):Strs w (some a) ss:=by
 intro i A;have h0:=h 0 (by omega)
 have E:a.spot=none:=by
  have:a.add 0=a:=by unfold Addr.add; rw [if_pos rfl]
  rw [this] at h0; exact cell_spot h0
 refine ⟨a.block,a.off,by cases a; simp_all,?_⟩;have:=h i A
 have B:a.add i=⟨a.block,a.off+i,none⟩:=by
  unfold Addr.add
  split
  . rename_i e; subst e; cases a; simp_all
  . cases a; simp_all
 rw [<- B]; exact this
theorem aa0 {P:Program} (w:World) (src e dst:TypeId) (hs:P.underlying src=some (.slice e)) (he:P.underlying e=some (.int .u8)) (hd:P.underlying dst=some .string)
 (b off cap:Nat) (l:List UInt8) (hcell:∀ i (h:i < l.length),w.cell? ⟨b,off+i,none⟩=some (.int .u8 l[i].toNat)) (n:Nat) (hn:n=l.length) :
 (convert src dst (.slice (some ⟨b,off,none⟩) n cap)).run P w=.ok (.string ⟨l.toArray⟩) w:=by
 subst hn
 have:=run_convert_bytes_arg (P:=P) w src e hs he b off l.length cap (l.map λc=>(c.toNat:Int)) (by simp) (λi A=>by
  rw [hcell i A]; simp [List.getD,List.getElem?_eq_getElem A]) dst hd
 rw [this];unfold strOfNums;congr 3;simp;exact (List.map_congr_left (λc _=>by simp)).trans (List.map_id l)
theorem afa {P:Program} (w:World) (src dst e:TypeId) (s:ByteArray) (hs:P.underlying src=some .string) (hd:P.underlying dst=some (.slice e)) (he:P.underlying e=some (.int .u8)) :
 ∃ c w',(convert src dst (.string s)).run P w=.ok (.slice (some ⟨w.heap.size,0,none⟩) s.size c) w'/\Below w.heap.size w w'/\w'.heap.size=w.heap.size+1/\s.size<=c /\
  (∀ j (A:j < s.size),w'.cell? ⟨w.heap.size,j,none⟩=some (.int .u8 (s[j].toNat:Int)))/\∀ j,j < s.size->w'.frozen? ⟨w.heap.size,j,none⟩=false:=by
 refine ⟨_,_,Lib.run_convert_string_bytes w src dst e s hs hd he,⟨?_,?_,?_,?_,?_⟩,Lib.bytesWorld_size w e s,?_,?_,?_⟩
 iterate 3
  . simp [Lib.bytesWorld,World.freeze,World.alloc,World.drew,-World.alloc_eq,-World.drew_eq]
 . rw [Lib.bytesWorld_size]; omega
 . intro k hk; exact Lib.bytesWorld_at_old w e s k hk
 . unfold grownCap; exact Nat.le_add_right _ _
 ·
  intro j A;rw [Lib.bytesWorld_cell w e s j A];simp [List.getD,A];rfl
 ·
  intro j A;have hC:s.size<=(Lib.bytesCells w e s).size:=by unfold Lib.bytesCells; rw [Array.size_append,Array.size_map]; exact Nat.le_add_right _ _
  unfold World.frozen?;rw [Lib.bytesWorld_at_new];simp; omega
structure Row (g:Nat) (l:List UInt8) (w:World):Prop where
 lt:g < w.heap.size
 cell:∀ j (h:j < l.length),w.cell? ⟨g,j,none⟩=some (.int .u8 (l[j].toNat:Int))
 free:∀ j,j < l.length->w.frozen? ⟨g,j,none⟩=false
theorem Row.set {g:Nat} {l:List UInt8} {w:World} (h:Row g l w) (k:Nat) (hk:k < l.length) (v:UInt8):Row g (l.set k v) (w.setCell ⟨g,k,none⟩ (.int .u8 (v.toNat:Int))):=by
 refine ⟨by simpa using h.lt,λj A=>?_,λj A=>?_⟩
 ·
  have B:j < l.length:=by simpa using A
  by_cases e:k=j
  . subst e
    rw [World.cell?_setCell_same _ _ _ (h.cell k hk)]; simp
  . rw [World.cell?_setCell_other _ _ _ _ (λh=>e (congrArg Addr.off h)),h.cell j B]
    simp [e]
 . rw [World.frozen?_setCell]; exact h.free j (by simpa using A)
def zeros (n:Nat):Array Value:=madeCells #[.int .u8 0] n
theorem ym {P:Program} (w:World) (t e:TypeId) (i:TypeInfo) (ht:P.underlying t=some (.slice e)) (hi:P.info? e=some i) (hz:i.zero=some (.int .u8 0)) (hs:i.size=1) (hb:i.bytes=1) (n:Nat) (hn:n<=1048576) :
 (Instr.makeSlice t (.int .i64 (n:Int)) (.int .i64 (n:Int))).run P w=.ok (.slice (some ⟨w.heap.size,0,none⟩) n n) (w.alloc (.cells (zeros n) e)):=by
 have h:=run_make w t e i _ ht hi hz .i64 .i64 (n:Int) (n:Int) (by omega) (Int.le_refl _) (by rw [hb]; omega) (by omega);rw [hs] at h
 simpa [zeros,Value.cells] using h
theorem aeh (w:World) (e:TypeId) (n:Nat):Row w.heap.size (List.replicate n 0) (w.alloc (.cells (zeros n) e)):=by
 refine ⟨by simp,λj B=>?_,λj B=>?_⟩
 ·
  have A:j < n:=by simpa using B
  rw [World.cell?_alloc_new];unfold zeros madeCells;simp [A];simp [Nat.mod_one]
 ·
  unfold World.frozen?;have:(w.alloc (.cells (zeros n) e)).heap[w.heap.size]?=some (.cells (zeros n) e):=heap_alloc_new w _;simp only [this];simp
theorem wm {P:Program} {g:Nat} {l:List UInt8} {w:World} (h:Row g l w) (src e dst:TypeId) (hs:P.underlying src=some (.slice e)) (he:P.underlying e=some (.int .u8)) (hd:P.underlying dst=some .string)
 (cap n:Nat) (hn:n=l.length):(convert src dst (.slice (some ⟨g,0,none⟩) n cap)).run P w=.ok (.string ⟨l.toArray⟩) w :=
 aa0 (P:=P) w src e dst hs he hd g 0 cap l (λj A=>by rw [Nat.zero_add]; exact h.cell j A) n hn
structure Mod (M:Nat->Prop) (w w':World):Prop where
 os:w'.os=w.os
 tape:w'.tape=w.tape
 output:w'.output=w.output
 size:w.heap.size<=w'.heap.size
 block:∀ k,k < w.heap.size->¬ M k->w'.heap[k]?=w.heap[k]?
theorem Mod.refl (M:Nat->Prop) (w:World):Mod M w w:=⟨rfl,rfl,rfl,Nat.le_refl _,λ_ _ _=>rfl⟩
theorem Mod.trans {M:Nat->Prop} {u v w:World} (h:Mod M u v) (k:Mod M v w):Mod M u w :=
 ⟨k.os.trans h.os,k.tape.trans h.tape,k.output.trans h.output,Nat.le_trans h.size k.size,λi A B=>(k.block i (Nat.lt_of_lt_of_le A h.size) B).trans (h.block i A B)⟩
theorem Mod.mono {M N:Nat->Prop} {u v:World} (h:Mod M u v) (hMN:∀ k,k < u.heap.size->M k->N k):Mod N u v :=
 ⟨h.os,h.tape,h.output,h.size,λi A B=>h.block i A λE=>B (hMN i A E)⟩
theorem Mod.of_below {M:Nat->Prop} {u v:World} (h:Below u.heap.size u v):Mod M u v:=⟨h.os,h.tape,h.output,h.size,λi A _=>h.block i A⟩
theorem Mod.to_below {M:Nat->Prop} {u v:World} (h:Mod M u v) (B:Nat) (hB:B<=u.heap.size) (hM:∀ k,M k->B<=k):Below B u v :=
 ⟨h.os,h.tape,h.output,h.size,λk hk=>h.block k (by omega) λA=>by have:=hM k A; omega⟩
theorem Mod.drew {M:Nat->Prop} {u v:World} (h:Mod M u v):Mod M u v.drew:=⟨h.os,h.tape,h.output,h.size,h.block⟩
theorem Mod.drawn {M:Nat->Prop} {u v w:World} (h:Mod M u v) (k:Drawn v w):Mod M u w:=by obtain ⟨n,rfl⟩:=k; exact ⟨h.os,h.tape,h.output,h.size,h.block⟩
theorem Mod.alloc {M:Nat->Prop} {u v:World} (h:Mod M u v) (o:Obj):Mod M u (v.alloc o) :=
 h.trans (Mod.of_below ((Below.refl _ _).alloc (Nat.le_refl _) _))
theorem Mod.setCell {M:Nat->Prop} {u v:World} (h:Mod M u v) {a:Addr} (ha:M a.block\/u.heap.size<=a.block) (x:Value):Mod M u (v.setCell a x):=by
 refine ⟨h.os,h.tape,h.output,by simpa using h.size,λk hk A=>?_⟩;rw [Below.heap_setCell _ _ _ _ (λe=>by subst e; rcases ha with ha | ha; exact A ha; omega)];exact h.block k hk A
theorem Mod.cell {M:Nat->Prop} {w w':World} (h:Mod M w w') {p:Addr} (hp:p.block < w.heap.size) (hM:¬ M p.block):w'.cell? p=w.cell? p:=World.cell?_of_block (w:=w) (h.block p.block hp hM)
end
namespace OctMath
def S (l:List UInt8):ByteArray:=⟨l.toArray⟩
theorem ah (l:List UInt8):(S l).size=l.length:=by show l.toArray.size=_; simp
theorem jv (l:List UInt8):(S l).data.toList=l:=by simp [S]
theorem ao3 (s:ByteArray):S s.data.toList=s:=by cases s; simp [S]
theorem gm (a b:List UInt8):S a++S b=S (a++b):=by
 apply ByteArray.ext; simp [S]
theorem S_inj {a b:List UInt8} (h:S a=S b):a=b:=by rw [<- jv a,h,jv]
theorem amk (l:List UInt8) (a:Nat):(S l).extract a (S l).size=S (l.drop a):=by
 apply ByteArray.ext;apply Array.ext';rw [ah];simp [S,ByteArray.data_extract];exact List.take_of_length_le (by simp)
theorem aqj (l:List UInt8) (b:Nat):(S l).extract 0 b=S (l.take b):=by
 apply ByteArray.ext;apply Array.ext';simp [S,ByteArray.data_extract]
def be:Nat->Nat->List UInt8
 | 0,_=>[]
 | k+1,x=>UInt8.ofNat (x / 256 ^ k) :: be k x
theorem bf (k x:Nat):(be k x).length=k:=by
 induction k with
 | zero=>rfl
 | succ k ih=>simp [be,ih]
def val (l:List UInt8):Nat:=l.foldl (λx c=>256 * x+c.toNat) 0
theorem aml (l:List UInt8) (x:Nat):l.foldl (λx c=>256 * x+c.toNat) x=x * 256 ^ l.length+val l:=by
 unfold val
 induction l generalizing x with
 | nil=>simp
 | cons c l ih =>
   simp only [List.foldl_cons,List.length_cons];rw [ih,ih (256 * 0+c.toNat),Nat.pow_succ];rw [Nat.add_mul,Nat.mul_zero,Nat.zero_add,Nat.mul_comm 256 x,Nat.mul_assoc,Nat.mul_comm 256,Nat.add_assoc]
theorem afw (c:UInt8) (l:List UInt8):val (c :: l)=c.toNat * 256 ^ l.length+val l:=by
 show l.foldl _ (256 * 0+c.toNat)=_;rw [aml]; simp
theorem amm (l:List UInt8) (c:UInt8):val (l++[c])=256 * val l+c.toNat:=by
 unfold val; rw [List.foldl_append]; rfl
theorem ahy (l:List UInt8):val l < 256 ^ l.length:=by
 induction l with
 | nil=>simp [val]
 | cons c l ih =>
   rw [afw,List.length_cons,Nat.pow_succ];have h:=c.toNat_lt;have A:c.toNat * 256 ^ l.length<=255 * 256 ^ l.length:=Nat.mul_le_mul_right _ (by omega);omega
theorem amn (k x:Nat):val (be k x)=x % 256 ^ k:=by
 induction k with
 | zero=>simp [be,val,Nat.mod_one]
 | succ k ih =>
   simp only [be];rw [afw,ih,bf,UInt8.toNat_ofNat',show 2 ^ 8=256 from rfl,Nat.pow_succ,Nat.mod_mul (x:=x) (a:=256 ^ k) (b:=256),Nat.add_comm,Nat.mul_comm (256 ^ k)]
structure RS where
 s:List UInt8
 e:Nat
def di (n:Int) (r:RS):List UInt8×RS :=
 if r.e≠0 then ([],r) else if n < 0 then ([],⟨r.s,1⟩) else if (r.s.length:Int) < n then ([],⟨r.s,3⟩) else (r.s.take n.toNat,⟨r.s.drop n.toNat,0⟩)
def dw (n:Int) (r:RS):Nat×RS :=
 if r.e≠0 then (0,r) else if n < 1\/7 < n then (0,⟨r.s,1⟩) else (val (di n r).1,(di n r).2)
def cz (b:Bool) (r:RS):RS:=if r.e=0/\b=true then ⟨r.s,6⟩ else r
def ib (most:Int) (r:RS):List UInt8×RS :=
 if r.e≠0 then ([],r) else
 let x:=dw 2 r
 let y:=di (x.1:Int) (cz (decide (most < (x.1:Int))) x.2)
 if y.2.e≠0 then (y.1,⟨r.s,y.2.e⟩) else y
def az (most:Int):Nat->RS->List (List UInt8)×RS
 | 0,r=>([],r)
 | n+1,r=>((ib most r).1 :: (az most n (ib most r).2).1,(az most n (ib most r).2).2)
def ql (many most:Int) (r:RS):List (List UInt8)×RS :=
 if r.e≠0 then ([],r) else
 let x:=dw 1 r
 let y:=az most x.1 (cz (decide (many < (x.1:Int))) x.2)
 if y.2.e≠0 then ([],⟨r.s,y.2.e⟩) else y
def abn (r:RS):Nat:=if r.e≠0 then r.e else if r.s.length=0 then 0 else 4
end OctMath
namespace OctW
open Go.RowKit OctMath
theorem aqk (n k x:Nat) (h:k < n):(List.replicate (n - k) (0:UInt8)++be k x).set (n - 1 - k) (UInt8.ofNat (x / 256 ^ k))=List.replicate (n - (k+1)) 0++be (k+1) x:=by
 rw [show n - k=(n - (k+1))+1 by omega,List.replicate_succ',show n - 1 - k=n - (k+1) by omega,List.append_assoc,List.set_append_right _ _ (by simp)];simp [be]
theorem put_any (n x:Nat) (hn:n<=1048576) (hx:x<=9223372036854775807) (W:World) :
 Calls Tryz.prog 173 #[.int .i64 (n:Int),.int .i64 (x:Int)] W λe w'=>e=.returned (.string (S (be n x)))/\Below W.heap.size W w':=by
 obtain ⟨i0,hi,U,X,Y⟩:=info_parts (show (Tryz.prog.info? 5).map (λi=>(i.zero,i.size,i.bytes))=some (some (.int .u8 0),1,1) by kernel_rfl);have I:=ym (P:=Tryz.prog) W 231 5 i0 Tryz.underlying231 hi U X Y n hn;have A:=aeh W 5 n;have B:Mod (λk=>k=W.heap.size) W (W.alloc (.cells (zeros n) 5)):=(Mod.refl _ W).alloc _;have ab:W.heap.size < (W.alloc (.cells (zeros n) 5)).heap.size:=by simp
 have J:=zq I; clear I;go_enter Tryz.func173,Tryz.ntmps173;go_wp2_with fail;rw [J.o];clear J hi U X Y;generalize W.alloc (.cells (zeros n) 5)=W0 at *
 generalize hg:W.heap.size=g at *
 have HG:=zq hg; clear hg;have M:=zq A; clear A;have O:=zq B; clear B;clear ab;go_wp2_with fail;go_loopw [1,11] (λy i wr=>∃ k z:Nat,k<=n/\i=.int .i64 k/\y=.int .i64 z/\z<=9223372036854775807/\Zq (z=x / 256 ^ k)/\Zq (Row g (List.replicate (n - k) 0++be k x) wr)/\Zq (Mod (λk=>k=g) W wr)) (λ_ i _=>n - (intOf i).toNat)
 case atStart=>exact ⟨0,x,by omega,rfl,rfl,hx,by simp [Zq],by simpa [Zq,be] using M.o,O⟩
 case round =>
  clear M O;obtain ⟨k,z,hk,rfl,rfl,hz,HZ,R,O⟩:=hrel
  by_cases hlt:k < n
  ·
   have F:n - 1 - k < (List.replicate (n - k) (0:UInt8)++be k x).length:=by simp [bf]; omega
   have E:=R.o.set (n - 1 - k) F (UInt8.ofNat z);rw [HZ.o,aqk n k x hlt,<- HZ.o] at E;have B:=O.o.setCell (a:=⟨g,n - 1 - k,none⟩) (Or.inl rfl) (.int .u8 ((UInt8.ofNat z).toNat:Int));have ad:=R.o.cell (n - 1 - k) F;have ak:=R.o.free (n - 1 - k) F;have hc:((UInt8.ofNat z).toNat:Int)=(z:Int) % 256:=by simp
   rw [hc] at E B;have HS:=zq E;have al:=zq B;clear E B hc R O;generalize hL:((List.replicate (n - k) (0:UInt8)++be k x)[n - 1 - k]).toNat=L at *
   clear hL;go_wp2_with fail;go_roundw
   case rel =>
    refine ⟨k+1,z / 256,by omega,by go_num,by go_num,by omega,?_,HS,al⟩;show z / 256=x / 256 ^ (k+1);rw [HZ.o,Nat.div_div_eq_div_mul,Nat.pow_succ]
   case measure=>simp [intOf]; omega
  ·
   have e:k=n:=by omega
   have A:=R.o;rw [e,Nat.sub_self,List.replicate_zero,List.nil_append] at A;have N:=wm (P:=Tryz.prog) A 231 5 9 Tryz.underlying231 Tryz.underlying5 Tryz.underlying9 n n (by rw [bf]);have Z:=zq N;clear N A R;go_wp2_with fail;rw [Z.o];go_wp2_with fail;go_ret;exact ⟨rfl,O.o.to_below _ (Nat.le_refl _) (λk hk=>by rw [hk,HG.o]; exact Nat.le_refl _)⟩
theorem aql (a:Nat) (c:UInt8) (ha:a < 256 ^ 6):bits .or .i64 ((a:Int) * 256) (wrap64 (c.toNat:Int))=((256 * a+c.toNat:Nat):Int):=by
 have hc:=c.toNat_lt;rw [IntWalk.wrap64_in _ (by omega),show (a:Int) * 256=((256 * a:Nat):Int) by omega]
 have h1:(BitVec.ofInt 64 ((256 * a:Nat):Int)).toNat=256 * a:=by
  rw [BitVec.ofInt_natCast,BitVec.toNat_ofNat]; exact Nat.mod_eq_of_lt (by omega)
 have A:(BitVec.ofInt 64 ((c.toNat:Nat):Int)).toNat=c.toNat:=by
  rw [BitVec.ofInt_natCast,BitVec.toNat_ofNat]; exact Nat.mod_eq_of_lt (by omega)
 have B:2 ^ 8 * a+c.toNat=2 ^ 8 * a ||| c.toNat:=Nat.two_pow_add_eq_or_of_lt (i:=8) (by omega) a
 show IntKind.i64.wrap ((BitVec.ofInt 64 ((256 * a:Nat):Int) ||| BitVec.ofInt 64 ((c.toNat:Nat):Int)).toNat:Int)=_;rw [BitVec.toNat_or,h1,A,show 256 * a ||| c.toNat=256 * a+c.toNat from B.symm];rw [IntKind.wrap_i64]; omega
theorem ao4 (l:List UInt8) (hn:l.length<=7) (W:World) :
 Calls Tryz.prog 141 #[.string (S l)] W λe w'=>e=.returned (.int .i64 (val l:Int))/\Drawn W w':=by
 have B:(S l).size=l.length:=ah l;go_enter Tryz.func141,Tryz.ntmps141;go_wp2_with fail;go_loopw [3,7] (λy i wr=>∃ k:Nat,k<=l.length/\i=.int .i64 k/\y=.int .i64 (val (l.take k):Int)/\Zq (Drawn W wr)) (λ_ i _=>l.length - (intOf i).toNat)
 case atStart=>exact ⟨0,by omega,rfl,rfl,Drawn.refl _⟩
 case round =>
  obtain ⟨k,hk,rfl,rfl,F⟩:=hrel
  by_cases hlt:k < l.length
  ·
   have N:val (l.take k) < 256 ^ 6:=by
    refine Nat.lt_of_lt_of_le (ahy _) (Nat.pow_le_pow_right (by omega) ?_);simp; omega
   have A:val (l.take (k+1))=256 * val (l.take k)+l[k].toNat:=by
    rw [List.take_succ_eq_append_getElem hlt,amm]
   have O:k < (S l).size:=by rw [B]; exact hlt
   have I:(S l)[k]=l[k]:=by simp only [S]; rfl
   generalize hC:l[k]=c at *
   clear hC;generalize hV:val (l.take k)=V at *
   have J:=zq hV; clear hV;have E:=zq A; clear A;go_wp2_with fail;rw [aql V c N];go_roundw
   case rel=>exact ⟨k+1,by omega,by go_num,by rw [E.o],F⟩
   case measure=>simp [intOf]; omega
  ·
   have e:k=l.length:=by omega
   have M:val (l.take k)=val l:=by rw [e,List.take_length]
   generalize val (l.take k)=V at *
   have J:=zq M; clear M;go_wp2_with fail;go_ret;exact ⟨vz (by rw [J.o]),F.o⟩
theorem u7 {w:World} {B:Nat} {cs:Array Value} {T:TypeId} {f:Nat×Nat} (h:w.heap[B]?=some (.cells cs T f)) (k:Nat) (v:Value) :
 (w.setCell ⟨B,k,none⟩ v).heap[B]?=some (.cells (cs.setIfInBounds k v) T f):=by
 simp only [World.setCell,Array.getElem?_modify];simp [h]
def Rd (B:Nat) (r:RS) (w:World):Prop:=w.heap[B]?=some (.cells #[.string (S r.s),.int .i64 (r.e:Int)] 228 (0,0))
theorem Rd.s_cell {B:Nat} {r:RS} {w:World} (h:Rd B r w):w.cell? ⟨B,0,none⟩=some (.string (S r.s)):=by unfold World.cell?; rw [show w.heap[(⟨B,0,none⟩:Addr).block]?=_ from h]; rfl
theorem Rd.e_cell {B:Nat} {r:RS} {w:World} (h:Rd B r w):w.cell? ⟨B,1,none⟩=some (.int .i64 (r.e:Int)):=by unfold World.cell?; rw [show w.heap[(⟨B,1,none⟩:Addr).block]?=_ from h]; rfl
theorem Rd.s_free {B:Nat} {r:RS} {w:World} (h:Rd B r w):w.frozen? ⟨B,0,none⟩=false:=by unfold World.frozen?; rw [show w.heap[(⟨B,0,none⟩:Addr).block]?=_ from h]; rfl
theorem Rd.e_free {B:Nat} {r:RS} {w:World} (h:Rd B r w):w.frozen? ⟨B,1,none⟩=false:=by unfold World.frozen?; rw [show w.heap[(⟨B,1,none⟩:Addr).block]?=_ from h]; rfl
theorem Rd.lt {B:Nat} {r:RS} {w:World} (h:Rd B r w):B < w.heap.size:=(Array.getElem?_eq_some_iff.1 h).1
theorem Rd.set0 {B:Nat} {r:RS} {w:World} (h:Rd B r w) (s:List UInt8):Rd B ⟨s,r.e⟩ (w.setCell ⟨B,0,none⟩ (.string (S s))):=u7 h 0 _
theorem Rd.set1 {B:Nat} {r:RS} {w:World} (h:Rd B r w) (e:Nat):Rd B ⟨r.s,e⟩ (w.setCell ⟨B,1,none⟩ (.int .i64 (e:Int))):=u7 h 1 _
theorem Rd.mod {M:Nat->Prop} {B:Nat} {r:RS} {w w':World} (h:Rd B r w) (hm:Mod M w w') (hB:¬ M B):Rd B r w':=(hm.block B h.lt hB).trans h
theorem Rd.drawn {B:Nat} {r:RS} {w w':World} (h:Rd B r w) (hd:Drawn w w'):Rd B r w':=by obtain ⟨n,rfl⟩:=hd; exact h
abbrev One (B:Nat) (w w':World):Prop:=Mod (λk=>k=B) w w'
theorem zo (B:Nat) (r:RS) (w:World) (h:Rd B r w):Calls Tryz.prog 79 #[.pointer (some ⟨B,0,none⟩)] w λe w'=>e=.returned (.int .i64 (r.e:Int))/\w=w':=by
 have A:=h.e_cell;clear h;go_enter Tryz.func79,Tryz.ntmps79;go_wp2_with fail;go_ret;exact ⟨rfl,rfl⟩
theorem left_any (B:Nat) (r:RS) (w:World) (h:Rd B r w):Calls Tryz.prog 202 #[.pointer (some ⟨B,0,none⟩)] w λe w'=>e=.returned (.int .i64 (r.s.length:Int))/\w=w':=by
 have A:=h.s_cell;have E:=ah r.s;clear h;go_enter Tryz.func202,Tryz.ntmps202;go_wp2_with fail;go_ret;exact ⟨rfl,rfl⟩
theorem new_any (l:List UInt8) (w:World):Calls Tryz.prog 76 #[.string (S l)] w λe w'=>e=.returned (.pointer (some ⟨w.heap.size,0,none⟩))/\Rd w.heap.size ⟨l,0⟩ w'/\Below w.heap.size w w':=by
 go_enter Tryz.func76,Tryz.ntmps76;go_wp2_with fail;go_ret;exact ⟨rfl,heap_alloc_new _ _,(Below.refl _ w).alloc (Nat.le_refl _) _⟩
theorem qp (B:Nat) (r:RS) (w:World) (h:Rd B r w) (k:Nat) (s:List UInt8):Calls Tryz.prog 201 #[.pointer (some ⟨B,0,none⟩),.int .i64 (k:Int),.string (S s)] w λe w'=>e=.returned (.tuple #[])/\Rd B ⟨s,k⟩ w'/\One B w w':=by
 have J:=h.e_cell;have M:=h.s_cell;have F:=h.e_free;have I:=h.s_free;have A:=(h.set1 k).set0 s;have E:One B w ((w.setCell ⟨B,1,none⟩ (.int .i64 (k:Int))).setCell ⟨B,0,none⟩ (.string (S s))):=((Mod.refl (λk=>k=B) w).setCell (a:=⟨B,1,none⟩) (Or.inl rfl) _).setCell (a:=⟨B,0,none⟩) (Or.inl rfl) _;have A:=zq A;have E:=zq E;clear h;go_enter Tryz.func201,Tryz.ntmps201;go_wp2_with fail;go_end0;exact ⟨rfl,A.o,E.o⟩
theorem abo {e:Nat} (h:e≠0):((e:Int) != 0)=true:=by simp; omega
theorem acy {e:Nat} (h:e=0):((e:Int) != 0)=false:=by simp; omega
theorem aqm {e:Nat} (h:e=0):((e:Int) == 0)=true:=by simp; omega
theorem ao5 {e:Nat} (h:¬ e=0):((e:Int) == 0)=false:=by simp; omega
theorem end_any (B:Nat) (r:RS) (w:World) (h:Rd B r w):Calls Tryz.prog 147 #[.pointer (some ⟨B,0,none⟩)] w λe w'=>e=.returned (.int .i64 ((abn r:Nat):Int))/\w=w':=by
 have I:=zq h; clear h;go_enter Tryz.func147,Tryz.ntmps147;go_wp2_with (go_at_call 79; refine (zo B r _ I.o).mono ?_);rintro e w' ⟨rfl,rfl⟩
 by_cases hz:r.e≠0
 ·
  have hb:=abo hz;have A:=zq hz; clear hz;go_wp2_with fail;go_ret;exact ⟨vz (by unfold abn; rw [if_pos A.o]),rfl⟩
 ·
  have hb:=acy (show r.e=0 by omega);have A:Zq (r.e=0):=by simp only [Zq]; omega
  clear hz;generalize hE:r.e=en at *
  have J:=zq hE; clear hE;have E:Zq (abn r=if r.s.length=0 then 0 else 4):=by unfold abn; rw [J.o,if_neg (by rw [A.o]; simp)]; rfl
  go_wp2_with (go_at_call 202; refine (left_any B r _ I.o).mono ?_);rintro e w' ⟨rfl,rfl⟩
  by_cases hl:r.s.length=0
  ·
   have F:=aqm hl;rw [if_pos hl] at E;generalize r.s.length=ln at *
   clear hl;go_wp2_with fail;go_ret;exact ⟨vz (by rw [E.o,A.o]),rfl⟩
  ·
   have F:=ao5 hl;rw [if_neg hl] at E;generalize r.s.length=ln at *
   clear hl;go_wp2_with fail;go_ret;exact ⟨vz (by rw [E.o]; rfl),rfl⟩
theorem ve (B:Nat) (r:RS) (n:Int) (hn0 : -9223372036854775808<=n) (hn1:n<=9223372036854775807) (hl:r.s.length<=1152921504606846976) (w:World) (h:Rd B r w) :
 Calls Tryz.prog 77 #[.pointer (some ⟨B,0,none⟩),.int .i64 n] w λe w'=>e=.returned (.string (S (di n r).1))/\Rd B (di n r).2 w'/\One B w w':=by
 have R:=zq h;have Z:=h.e_cell;have hs:=h.s_cell;have U:=h.e_free;have X:=h.s_free;have M:=ah r.s;go_enter Tryz.func77,Tryz.ntmps77;go_wp2_with (go_at_call 79; refine (zo B r _ R.o).mono ?_);rintro e w' ⟨rfl,rfl⟩
 by_cases hz:r.e≠0
 ·
  have hb:=abo hz;have E:=zq hz; clear hz;go_wp2_with fail;go_ret;unfold di;rw [if_pos E.o];exact ⟨rfl,R.o,Mod.refl _ _⟩
 ·
  have A:r.e=0:=by omega
  have hb:=acy A;have E:=zq hz; clear hz;have N:=zq A; clear A
  by_cases h0:n < 0
  ·
   have F:=zq (h.set1 1);have I:Zq (One B w (w.setCell ⟨B,1,none⟩ (.int .i64 ((1:Nat):Int)))):=(Mod.refl (λk=>k=B) w).setCell (a:=⟨B,1,none⟩) (Or.inl rfl) _;have J:Zq (di n r=([],⟨r.s,1⟩)):=by unfold di; rw [if_neg E.o,if_pos h0]; rfl
   clear h;go_wp2_with fail;go_ret;rw [J.o];exact ⟨rfl,F.o,I.o⟩
  ·
   by_cases h3:(r.s.length:Int) < n
   ·
    have F:=zq (h.set1 3);have I:Zq (One B w (w.setCell ⟨B,1,none⟩ (.int .i64 ((3:Nat):Int)))):=(Mod.refl (λk=>k=B) w).setCell (a:=⟨B,1,none⟩) (Or.inl rfl) _;have J:Zq (di n r=([],⟨r.s,3⟩)):=by unfold di; rw [if_neg E.o,if_neg h0,if_pos h3]; rfl
    clear h;go_wp2_with fail;go_ret;rw [J.o];exact ⟨rfl,F.o,I.o⟩
   ·
    obtain ⟨m,rfl⟩:∃ m:Nat,n=m:=⟨n.toNat,by omega⟩;have Y:m<=(S r.s).size:=by rw [M]; omega
    have F:Zq (Rd B ⟨r.s.drop m,0⟩ (w.setCell ⟨B,0,none⟩ (.string (S (r.s.drop m))))):=by have:=h.set0 (r.s.drop m); rw [N.o] at this; exact this
    have I:Zq (One B w (w.setCell ⟨B,0,none⟩ (.string (S (r.s.drop m))))):=(Mod.refl (λk=>k=B) w).setCell (a:=⟨B,0,none⟩) (Or.inl rfl) _;have hd:Zq ((S r.s).extract m r.s.length=S (r.s.drop m)):=by have:=amk r.s m; rw [ah] at this; exact this
    have O:Zq ((S r.s).extract 0 m=S (r.s.take m)):=aqj _ _;have J:Zq (di (m:Int) r=(r.s.take m,⟨r.s.drop m,0⟩)):=by unfold di; rw [if_neg E.o,if_neg h0,if_neg h3]; rfl
    clear h;go_wp2_with fail;rw [hd.o,O.o];go_ret;rw [J.o];exact ⟨rfl,F.o,I.o⟩
end OctW
end Go.Proofs.YtcgonejkkpbepaaGreatDoor
