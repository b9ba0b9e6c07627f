/- A region that draws its order, whose operations only read, make memory of their own, or call functions that do just that And what follows. -/
import Derived.Maps.RangeWalk
import Derived.StillTail
import Derived.Tactics
import Derived.KernelRfl
import Derived.WalkKit
import Derived.WalkSpells
import Derived.WalkLawsBesides
import Derived.Lib.Hide
import Derived.Lib.IndexBytes
import Derived.Deep.QuietTactic
import Derived.BigQuiet
import Derived.Deep.RegionWith
import Derived.Deep.DeepMust
import Derived.BigRegion
import Derived.Lib.ConvBytes
import Derived.Laws.MakeOwn
import Derived.Test.YtnoehodmmkioaaaGreatDoorProg
set_option maxHeartbeats 25600000
set_option maxRecDepth 100000
set_option linter.unusedVariables false
set_option linter.unusedSimpArgs false
namespace Go.Proofs.YtnoehodmmkioaaaGreatDoor.Grow
open Go
abbrev Kind:=Option (Value ⊕ (Value→World→Prop))
section
variable (P:Program) (ops:Array Oper) (R:World→World→Prop) (w1:World)
def detUpon (w:World) (v:Value):Result Next→Prop
 | .ok (.value u) w'=>u=v∧R w w'
 | .ok .skip w'=>undef=v∧R w w'
 | _=>False
def growUpon (w:World) (Y:Value→World→Prop):Result Next→Prop
 | .ok (.value u) w'=>Y u w'∧R w w'
 | .ok .skip w'=>Y undef w'∧R w w'
 | .ok (.enter f args) w'=>Calls P f args w' fun e w''=>∃ v,e=.returned v∧Y v w''∧R w w''
 | _=>False
def detAt (o:Oper) (a:Act) (w:World) (v:Value):Prop:=detUpon R w v ((execOp a.eval o).run P w)
def growAt (o:Oper) (a:Act) (w:World) (Y:Value→World→Prop):Prop:=growUpon P R w Y ((execOp a.eval o).run P w)
def depF (F:List (Tmp×(World→Prop))) (o:Oper) (w:World):Prop:=∀ p∈F,p.1∈o.looksAt ops→p.2 w
def addF (d:Option Tmp) (p:World→Prop) (F:List (Tmp×(World→Prop))):List (Tmp×(World→Prop)) :=
 match d with
 | some d=>(d,p) :: F
 | none=>F
def wpG (Fin:Act→World→Prop):List Oper→List Kind→List (Tmp×(World→Prop))→Act→Prop
 | [],_,F,a=>∀ w,R w1 w→(∀ p∈F,p.2 w)→Fin a w
 | o :: rest,Ys,F,a =>
   if Region.wanted o (yielded ops a.tmps) then
    match Ys.headD none with
    | none=>∃ v,(∀ w,R w1 w→depF ops F o w→detAt P R o a w v)∧wpG Fin rest Ys.tail F (a.put o.dst v)
    | some (.inl c)=>(∀ w,R w1 w→depF ops F o w→growAt P R o a w fun u _=>u=c)∧wpG Fin rest Ys.tail F (a.put o.dst c)
    | some (.inr Y)=>(∀ w,R w1 w→depF ops F o w→growAt P R o a w Y)∧∀ v,wpG Fin rest Ys.tail (addF o.dst (Y v) F) (a.put o.dst v)
   else wpG Fin rest Ys.tail F (a.put o.dst undef)
def bound (o:Oper) (k:Nat):Bool:=o.after.any fun e=>Region.binds .any e && e.on == k
theorem bound_spec {o:Oper} {k:Nat} (h:bound o k=true):∃ e∈o.after,Region.binds .any e=true∧e.on=k:=by
 unfold bound at h
 obtain ⟨e,he,hb⟩:=Array.any_eq_true'.1 h
 simp only [Bool.and_eq_true,beq_iff_eq] at hb
 exact ⟨e,he,hb.1,hb.2⟩
def chk1:Bool:=(List.range ops.size).all fun i=>((ops[i]?).map fun o=>o.after.all fun e=>!Region.binds .any e || decide (e.on < i)).getD true
def chk2 (n:Nat):Bool:=(List.range n).all fun i=>(List.range n).all fun j=>i == j || (((ops[i]?).bind (·.dst)).isNone || (ops[i]?).bind (·.dst) != (ops[j]?).bind (·.dst))
def chk3 (n:Nat):Bool:=(List.range n).all fun i=>((ops[i]?).map fun o=>(o.looksAt ops).all fun s=>(List.range n).all fun k =>
 (ops[k]?).bind (·.dst) != some s || i == k || bound o k || ((ops[k]?).map fun p=>bound p i).getD false).getD true
def chk4 (n:Nat):Bool:=n == ops.size || (List.range n).all fun h=>(List.range (n+1)).any fun j=>decide (h < j) && ((ops[j]?).map fun o=>bound o h).getD false
def chk5 (n:Nat):Bool:=(List.range ops.size).all fun t=>decide (t≤n) || ((ops[t]?).map fun o=>bound o (t - 1)).getD false
def gB (n:Nat):Bool:=Region.noSelect ops && decide (n≤ops.size) && chk1 ops && chk2 ops n && chk3 ops n && chk4 ops n && chk5 ops n
def inB (a:Act):Bool:=ops.all fun o=>o.dst.all fun d=>decide (d < a.tmps.size)
end
section
variable {P:Program} {ops:Array Oper} {R:World→World→Prop} {w1:World}
theorem look_congr {a b:Act} {o:Oper} (hs:∀ cs c,o.op≠.select cs c) (h:∀ s∈o.looksAt ops,a.tmps[s]?=b.tmps[s]?) :
 execOp a.eval o=execOp b.eval o∧Region.wanted o (yielded ops a.tmps)=Region.wanted o (yielded ops b.tmps):=by
 refine ⟨execOp_congr o hs fun x hx=>?_,?_⟩
 ·
  cases x with
  | tmp t =>
    have:=h t (List.mem_append_left _ (List.mem_filterMap.2 ⟨.tmp t,by simpa using hx,rfl⟩))
    simp only [Act.eval,Array.getD_eq_getD_getElem?,this]
  | _=>rfl
 ·
  unfold Region.wanted
  cases hg:o.guard with
  | none=>rfl
  | some gw =>
    obtain ⟨g,want⟩:=gw
    have hy:yielded ops a.tmps g=yielded ops b.tmps g:=by
     unfold yielded
     cases ht:(ops[g]?).bind (·.dst) with
     | none=>rfl
     | some t =>
       have:=h t (by simp [Oper.looksAt,hg,ht])
       simp only [Option.bind_some,this]
    simp only [hy]
def L (listed:Array Bool) (k:Nat):Prop:=listed.getD k false=true
def D (ops:Array Oper) (k:Nat):Option Tmp:=(ops[k]?).bind (·.dst)
def slot (a:Act) (d:Tmp):Value:=a.tmps.getD d undef
structure Chk (ops:Array Oper) (n:Nat):Prop where
 sel:∀ (j:Nat) (o:Oper) cs b,ops[j]?=some o→o.op≠.select cs b
 le:n≤ops.size
 low:∀ i o,ops[i]?=some o→∀ e∈o.after,Region.binds .any e=true→e.on < i
 uniq:∀ i j d,i < n→j < n→D ops i=some d→D ops j=some d→i=j
 looks:∀ i o s k,i < n→ops[i]?=some o→s∈o.looksAt ops→k < n→D ops k=some s→i=k∨bound o k=true∨∃ p,ops[k]?=some p∧bound p i=true
 waits:n=ops.size∨∀ h,h < n→∃ j o,h < j∧j≤n∧ops[j]?=some o∧bound o h=true
 seq:∀ t o,n < t→ops[t]?=some o→bound o (t - 1)=true
theorem Chk.of {n:Nat} (h:gB ops n=true):Chk ops n:=by
 unfold gB at h
 simp only [Bool.and_eq_true,decide_eq_true_eq] at h
 obtain ⟨⟨⟨⟨⟨⟨h0,hle⟩,h1⟩,h2⟩,h3⟩,h4⟩,h5⟩:=h
 refine ⟨Region.noSelect_spec h0,hle,?_,?_,?_,?_,?_⟩
 ·
  intro i o ho e he hb
  have hi:i < ops.size:=(Array.getElem?_eq_some_iff.1 ho).1
  have:=List.all_eq_true.1 h1 i (List.mem_range.2 hi)
  simp only [ho,Option.map_some,Option.getD_some] at this
  have:=Array.all_eq_true_iff_forall_mem.1 this e he
  simpa [hb] using this
 ·
  intro i j d hi hj hdi hdj
  have:=List.all_eq_true.1 h2 i (List.mem_range.2 hi)
  have:=List.all_eq_true.1 this j (List.mem_range.2 hj)
  unfold D at hdi hdj
  simpa [hdi,hdj] using this
 ·
  intro i o s k hi ho hs hk hd
  have:=List.all_eq_true.1 h3 i (List.mem_range.2 hi)
  simp only [ho,Option.map_some,Option.getD_some] at this
  have:=List.all_eq_true.1 this s hs
  have:=List.all_eq_true.1 this k (List.mem_range.2 hk)
  unfold D at hd
  cases hk2:ops[k]? with
  | none=>simp [hk2] at hd
  | some q =>
    simp only [hk2,Option.bind_some] at hd
    simp only [hk2,Option.bind_some,hd,Option.map_some,Option.getD_some,Bool.or_eq_true,beq_iff_eq,bne_self_eq_false,Bool.false_eq_true,false_or] at this
    rcases this with (h | h) | h
    · exact .inl h
    · exact .inr (.inl h)
    · exact .inr (.inr ⟨q,rfl,h⟩)
 ·
  unfold chk4 at h4
  simp only [Bool.or_eq_true,beq_iff_eq] at h4
  rcases h4 with h4 | h4
  · exact .inl h4
  ·
   refine .inr fun h hh=>?_
   have:=List.all_eq_true.1 h4 h (List.mem_range.2 hh)
   obtain ⟨j,hj,hb⟩:=List.any_eq_true.1 this
   simp only [Bool.and_eq_true,decide_eq_true_eq] at hb
   cases ho:ops[j]? with
   | none=>simp [ho] at hb
   | some o=>exact ⟨j,o,hb.1,by have:=List.mem_range.1 hj; omega,ho,by simpa [ho] using hb.2⟩
 ·
  intro t o ht ho
  have hi:t < ops.size:=(Array.getElem?_eq_some_iff.1 ho).1
  have:=List.all_eq_true.1 h5 t (List.mem_range.2 hi)
  simpa [ho,show ¬ t≤n by omega] using this
def Agree (ops:Array Oper) (a0 a b:Act) (k:Nat) (o:Oper):Prop :=
 (∀ s∈o.looksAt ops,∀ j,j < k→D ops j=some s→b.tmps[s]?=a.tmps[s]?)∧(∀ s∈o.looksAt ops,(∀ j,j < k→D ops j≠some s)→b.tmps[s]?=a0.tmps[s]?)
theorem Agree.same {a0 a b b':Act} {k:Nat} {o:Oper} (h:Agree ops a0 a b k o) (h':Agree ops a0 a b' k o):∀ s∈o.looksAt ops,b.tmps[s]?=b'.tmps[s]?:=by
 intro s hs
 by_cases hj:∃ j,j < k∧D ops j=some s
 · obtain ⟨j,hj,hd⟩:=hj
   rw [h.1 s hs j hj hd,h'.1 s hs j hj hd]
 · have hn:∀ j,j < k→D ops j≠some s:=fun j hj' hd=>hj ⟨j,hj',hd⟩
   rw [h.2 s hs hn,h'.2 s hs hn]
section
variable (P:Program) (ops:Array Oper) (R:World→World→Prop) (w1:World) (a0:Act) (n:Nat) (kind:Nat→Kind)
def GoodF (a:Act) (k:Nat) (o:Oper) (F:List (Tmp×(World→Prop))):Prop:=∀ p∈F,p.1∈o.looksAt ops →
 ∃ j oj Y bj,j < k∧ops[j]?=some oj∧oj.dst=some p.1∧kind j=some (.inr Y)∧Agree ops a0 a bj j oj∧Region.wanted oj (yielded ops bj.tmps)=true∧p.2=Y (slot a p.1)
def Holds (a:Act) (w:World) (k:Nat) (o:Oper) (d:Tmp) (b:Act):Prop :=
 if Region.wanted o (yielded ops b.tmps)=true then
  match kind k with
  | none=>∀ v F,GoodF ops a0 kind a k o F→(∀ w',R w1 w'→depF ops F o w'→detAt P R o b w' v)→slot a d=v
  | some (.inl c)=>slot a d=c
  | some (.inr Y)=>Y (slot a d) w
 else slot a d=undef
structure Inv (listed:Array Bool) (a:Act) (w:World):Prop where
 size:listed.size=ops.size
 reach:R w1 w
 defs:a.defers=a0.defers
 tsz:a.tmps.size=a0.tmps.size
 closed:∀ k o,ops[k]?=some o→L listed k→∀ e∈o.after,Region.binds .any e=true→L listed e.on
 slots:∀ s,(∀ k,L listed k→D ops k≠some s)→a.tmps[s]?=a0.tmps[s]?
 head:∀ k,L listed k→k < n
 vals:∀ k o d,ops[k]?=some o→L listed k→o.dst=some d→∀ b,Agree ops a0 a b k o→Holds P ops R w1 a0 kind a w k o d b
end
variable {a0:Act} {n:Nat} {kind:Nat→Kind}
theorem bound_lt (C:Chk ops n) {i k:Nat} {o:Oper} (ho:ops[i]?=some o) (h:bound o k=true):k < i:=by
 obtain ⟨e,he,hb,rfl⟩:=bound_spec h
 exact C.low i o ho e he hb
theorem dep_listed (C:Chk ops n) {listed:Array Bool} {k j:Nat} {o:Oper} {s:Tmp} (hk:k < n) (ho:ops[k]?=some o)
 (hall:∀ e∈o.after,Region.binds .any e=true→L listed e.on) (hs:s∈o.looksAt ops) (hj:j < k) (hd:D ops j=some s):L listed j:=by
 rcases C.looks k o s j hk ho hs (by omega) hd with h | h | ⟨p,hp,h⟩
 · omega
 · obtain ⟨e,he,hb,rfl⟩:=bound_spec h
   exact hall e he hb
 · have:=bound_lt C hp h; omega
theorem depF_of (C:Chk ops n) {listed:Array Bool} {a:Act} {w:World} (I:Inv P ops R w1 a0 n kind listed a w) {k:Nat} {o:Oper} (hk:k < n) (ho:ops[k]?=some o)
 (hall:∀ e∈o.after,Region.binds .any e=true→L listed e.on) {F:List (Tmp×(World→Prop))} (hF:GoodF ops a0 kind a k o F):depF ops F o w:=by
 intro p hp hl
 obtain ⟨j,oj,Y,bj,hj,hoj,hd,hk',hb,hw,he⟩:=hF p hp hl
 have hlj:=dep_listed C hk ho hall hl hj (by simp [D,hoj,hd])
 have:=I.vals j oj p.1 hoj hlj hd bj hb
 unfold Holds at this
 rw [if_pos hw,hk'] at this
 rw [he]; exact this
theorem getD_set {listed:Array Bool} {i k:Nat} (hi:i < listed.size):L (listed.setIfInBounds i true) k↔k=i∨L listed k:=by
 unfold L
 by_cases h:k=i
 · subst h; simp [hi]
 · simp [h,Array.getElem?_setIfInBounds_ne (Ne.symm h)]
theorem put_slot {a:Act} {d:Tmp} {v:Value} (hd:d < a.tmps.size):slot (a.put (some d) v) d=v:=by
 simp [slot,Act.put,hd]
theorem put_get_ne {a:Act} {x:Option Tmp} {s:Tmp} {v:Value} (h:x≠some s):(a.put x v).tmps[s]?=a.tmps[s]?:=by
 cases x with
 | none=>rfl
 | some d=>exact Array.getElem?_setIfInBounds_ne (fun e=>h (by rw [e]))
theorem put_slot_ne {a:Act} {x:Option Tmp} {s:Tmp} {v:Value} (h:x≠some s):slot (a.put x v) s=slot a s:=by
 unfold slot; rw [Array.getD_eq_getD_getElem?,Array.getD_eq_getD_getElem?,put_get_ne h]
theorem put_size {a:Act} {x:Option Tmp} {v:Value}:(a.put x v).tmps.size=a.tmps.size:=by
 cases x <;> simp [Act.put]
theorem put_defs {a:Act} {x:Option Tmp} {v:Value}:(a.put x v).defers=a.defers:=by
 cases x <;> rfl
theorem Inv.step (C:Chk ops n) (htr:∀ u v w:World,R u v→R v w→R u w) (hstab:∀ k Y,kind k=some (.inr Y)→∀ v w w',R w w'→Y v w→Y v w')
 {listed:Array Bool} {a:Act} {w w':World} (I:Inv P ops R w1 a0 n kind listed a w) {i:Nat} {o:Oper} (hin:i < n) (ho:ops[i]?=some o) (hun:¬ L listed i)
 (hall:∀ e∈o.after,Region.binds .any e=true→L listed e.on) {v:Value} (hR:R w w')
 (hv:∀ d,o.dst=some d→∀ b,Agree ops a0 (a.put o.dst v) b i o→Holds P ops R w1 a0 kind (a.put o.dst v) w' i o d b) :
 Inv P ops R w1 a0 n kind (listed.setIfInBounds i true) (a.put o.dst v) w':=by
 have hi:i < listed.size:=by rw [I.size]; exact (Array.getElem?_eq_some_iff.1 ho).1
 have hDi:D ops i=o.dst:=by simp [D,ho]
 have keep:∀ k ok,ops[k]?=some ok→L listed k→∀ s∈ok.looksAt ops,∀ j,j < k→D ops j=some s→o.dst≠some s:=by
  intro k ok hok hk s hs j hj hd he
  have hkn:=I.head k hk
  have:j=i:=C.uniq j i s (by omega) hin hd (by rw [hDi,he])
  subst this
  exact hun (dep_listed C hkn hok (I.closed k ok hok hk) hs hj hd)
 have agr:∀ k ok,ops[k]?=some ok→L listed k→∀ b,Agree ops a0 (a.put o.dst v) b k ok↔Agree ops a0 a b k ok:=by
  intro k ok hok hk b
  constructor
  iterate 2
   · intro h; exact ⟨fun s hs j hj hd=>by rw [h.1 s hs j hj hd,put_get_ne (keep k ok hok hk s hs j hj hd)],h.2⟩
 refine ⟨by simpa using I.size,htr _ _ _ I.reach hR,put_defs.trans I.defs,put_size.trans I.tsz,?_,?_,?_,?_⟩
 ·
  intro k ok hok hk e he hb
  rcases (getD_set hi).1 hk with rfl | hk
  · rw [ho] at hok; cases hok; exact (getD_set hi).2 (.inr (hall e he hb))
  · exact (getD_set hi).2 (.inr (I.closed k ok hok hk e he hb))
 · intro s hs
   rw [put_get_ne (by rw [← hDi]; exact hs i ((getD_set hi).2 (.inl rfl)))]
   exact I.slots s fun k hk=>hs k ((getD_set hi).2 (.inr hk))
 ·
  intro k hk
  rcases (getD_set hi).1 hk with rfl | hk
  · exact hin
  · exact I.head k hk
 ·
  intro k ok d hok hk hd b hb
  rcases (getD_set hi).1 hk with rfl | hk
  · rw [ho] at hok; cases hok; exact hv d hd b hb
  ·
   have hki:k≠i:=fun e=>hun (e ▸ hk)
   have hne:o.dst≠some d:=fun e=>hki (C.uniq k i d (I.head k hk) hin (by simp [D,hok,hd]) (by rw [hDi,e]))
   have h:=I.vals k ok d hok hk hd b ((agr k ok hok hk b).1 hb)
   unfold Holds at h ⊢
   rw [put_slot_ne hne]
   split
   ·
    rename_i hw
    rw [if_pos hw] at h
    cases hkd:kind k with
    | none =>
      rw [hkd] at h
      intro v' F hF hspec
      refine h v' F (fun p hp hl=>?_) hspec
      obtain ⟨j,oj,Y,bj,hj,hoj,hdj,hkj,hbj,hwj,he⟩:=hF p hp hl
      have hDj:D ops j=some p.1:=by simp [D,hoj,hdj]
      have hlj:=dep_listed C (I.head k hk) hok (I.closed k ok hok hk) hl hj hDj
      exact ⟨j,oj,Y,bj,hj,hoj,hdj,hkj,(agr j oj hoj hlj bj).1 hbj,hwj,by rw [he,put_slot_ne (keep k ok hok hk p.1 hl j hj hDj)]⟩
    | some x =>
      rw [hkd] at h
      cases x with
      | inl c=>exact h
      | inr Y=>exact hstab k Y hkd _ _ _ hR h
   · rename_i hw
     rw [if_neg hw] at h
     exact h
section
variable (P:Program) (ops:Array Oper) (R:World→World→Prop) (w1:World) (a0:Act) (n:Nat) (kind:Nat→Kind)
structure Path (listed:Array Bool) (a:Act) (k:Nat) (b:Act) (F:List (Tmp×(World→Prop))):Prop where
 defs:b.defers=a0.defers
 tsz:b.tmps.size=a0.tmps.size
 other:∀ s,(∀ j,j < k→D ops j≠some s)→b.tmps[s]?=a0.tmps[s]?
 same:∀ j,j < k→L listed j→∀ d,D ops j=some d→b.tmps[d]?=a.tmps[d]?
 facts:∀ p∈F,∃ j oj Y v,j < k∧ops[j]?=some oj∧oj.dst=some p.1∧kind j=some (.inr Y)∧p.2=Y v ∧
  (L listed j→v=slot a p.1∧∃ bj,Agree ops a0 a bj j oj∧Region.wanted oj (yielded ops bj.tmps)=true)
def Spec (a:Act) (i:Nat) (o:Oper):Prop:=∃ b F,Agree ops a0 a b i o∧GoodF ops a0 kind a i o F∧(Region.wanted o (yielded ops b.tmps)=true →
 match kind i with
 | none=>∃ v,∀ w',R w1 w'→depF ops F o w'→detAt P R o b w' v
 | some (.inl c)=>∀ w',R w1 w'→depF ops F o w'→growAt P R o b w' fun u _=>u=c
 | some (.inr Y)=>∀ w',R w1 w'→depF ops F o w'→growAt P R o b w' Y)
end
theorem Path.agree (C:Chk ops n) {listed:Array Bool} {a b:Act} {F:List (Tmp×(World→Prop))} {k:Nat} {o:Oper} (hp:Path ops a0 kind listed a k b F) (hk:k < n) (ho:ops[k]?=some o)
 (hall:∀ e∈o.after,Region.binds .any e=true→L listed e.on):Agree ops a0 a b k o∧GoodF ops a0 kind a k o F:=by
 refine ⟨⟨fun s hs j hj hd=>hp.same j hj (dep_listed C hk ho hall hs hj hd) s hd,fun s _ hn=>hp.other s hn⟩,fun p hpF hl=>?_⟩
 obtain ⟨j,oj,Y,v,hj,hoj,hd,hkj,he,hL⟩:=hp.facts p hpF
 obtain ⟨hv,bj,hbj,hw⟩:=hL (dep_listed C hk ho hall hl hj (by simp [D,hoj,hd]))
 exact ⟨j,oj,Y,bj,hj,hoj,hd,hkj,hbj,hw,by rw [he,hv]⟩
theorem Path.step (C:Chk ops n) {listed:Array Bool} {a b:Act} {w:World} {F:List (Tmp×(World→Prop))} {k:Nat} {o:Oper} (I:Inv P ops R w1 a0 n kind listed a w)
 (hin:∀ o d,o∈ops→o.dst=some d→d < a0.tmps.size) (hp:Path ops a0 kind listed a k b F) (hk:k < n) (ho:ops[k]?=some o) (v:Value)
 (hv:L listed k→∀ d,o.dst=some d→v=slot a d):Path ops a0 kind listed a (k+1) (b.put o.dst v) F:=by
 have hDk:D ops k=o.dst:=by simp [D,ho]
 refine ⟨put_defs.trans hp.defs,put_size.trans hp.tsz,fun s hs=>?_,fun j hj hL d hd=>?_,fun p hpF=>?_⟩
 · rw [put_get_ne (by rw [← hDk]; exact hs k (by omega))]
   exact hp.other s fun j hj=>hs j (by omega)
 ·
  by_cases e:j=k
  ·
   subst e
   rw [hDk] at hd
   have hd1:=hin o d (Array.mem_of_getElem? ho) hd
   have:=hv hL d hd
   rw [hd]
   have h1:d < b.tmps.size:=by rw [hp.tsz]; exact hd1
   have h2:d < a.tmps.size:=by rw [I.tsz]; exact hd1
   simp only [Act.put,Array.getElem?_setIfInBounds_self_of_lt h1,this,slot]
   simp [h2]
  · rw [put_get_ne fun e'=>e (C.uniq j k d (I.head j hL) hk hd (by rw [hDk,e']))]
    exact hp.same j (by omega) hL d hd
 · obtain ⟨j,oj,Y,v,hj,h⟩:=hp.facts p hpF
   exact ⟨j,oj,Y,v,by omega,h⟩
theorem Path.fact {listed:Array Bool} {a b b':Act} {F:List (Tmp×(World→Prop))} {k:Nat} {o:Oper} (hp:Path ops a0 kind listed a (k+1) b' F) (ho:ops[k]?=some o) {Y:Value→World→Prop}
 (hY:kind k=some (.inr Y)) (v:Value) (hv:L listed k→(∀ d,o.dst=some d→v=slot a d)∧Agree ops a0 a b k o∧Region.wanted o (yielded ops b.tmps)=true) :
 Path ops a0 kind listed a (k+1) b' (addF o.dst (Y v) F):=by
 refine ⟨hp.defs,hp.tsz,hp.other,hp.same,fun p hpF=>?_⟩
 unfold addF at hpF
 split at hpF
 ·
  rename_i d hd
  rcases List.mem_cons.1 hpF with rfl | hpF
  · exact ⟨k,o,Y,v,by omega,ho,hd,hY,rfl,fun hL=>⟨(hv hL).1 d hd,b,(hv hL).2⟩⟩
  · exact hp.facts p hpF
 · exact hp.facts p hpF
theorem descend (C:Chk ops n) (hin:∀ o d,o∈ops→o.dst=some d→d < a0.tmps.size) {Fin:Act→World→Prop} {listed:Array Bool} {a:Act} {w:World} (I:Inv P ops R w1 a0 n kind listed a w) :
 ∀ (l:List Oper) (k:Nat) (Ks:List Kind) (F:List (Tmp×(World→Prop))) (b:Act),k+l.length=n→(∀ j,j < l.length→l[j]?=ops[k+j]?)→(∀ j,Ks.getD j none=kind (k+j)) →
  Path ops a0 kind listed a k b F→wpG P ops R w1 Fin l Ks F b →
  (∀ i o,k≤i→i < n→ops[i]?=some o→(∀ e∈o.after,Region.binds .any e=true→L listed e.on)→Spec P ops R w1 a0 kind a i o) ∧
  (∃ b F,Path ops a0 kind listed a n b F∧∀ w,R w1 w→(∀ p∈F,p.2 w)→Fin b w)
 | [],k,Ks,F,b,hn,_,_,hp,h=>by
   have:k=n:=by simpa using hn
   subst this
   exact ⟨fun i o h1 h2=>by omega,b,F,hp,h⟩
 | o :: l,k,Ks,F,b,hn,hl,hK,hp,h=>by
   simp only [List.length_cons] at hn
   have ho:ops[k]?=some o:=by have:=hl 0 (by simp); simpa using this.symm
   have hk:k < n:=by omega
   have hl':∀ j,j < l.length→l[j]?=ops[(k+1)+j]?:=fun j hj=>by
    have:=hl (j+1) (by simp; omega)
    rw [show k+1+j=k+(j+1) by omega,← this]; rfl
   have hK':∀ j,Ks.tail.getD j none=kind ((k+1)+j):=fun j=>by
    have:=hK (j+1)
    rw [show k+1+j=k+(j+1) by omega,← this]
    cases Ks <;> simp
   have hK0:Ks.headD none=kind k:=by
    have:=hK 0
    rw [Nat.add_zero] at this
    rw [← this]
    cases Ks <;> simp
   have hall:L listed k→∀ e∈o.after,Region.binds .any e=true→L listed e.on:=fun hL=>I.closed k o ho hL
   have key:∃ b' F',Path ops a0 kind listed a (k+1) b' F'∧wpG P ops R w1 Fin l Ks.tail F' b' ∧
    (Region.wanted o (yielded ops b.tmps)=true→match kind k with
     | none=>∃ v,∀ w',R w1 w'→depF ops F o w'→detAt P R o b w' v
     | some (.inl c)=>∀ w',R w1 w'→depF ops F o w'→growAt P R o b w' fun u _=>u=c
     | some (.inr Y)=>∀ w',R w1 w'→depF ops F o w'→growAt P R o b w' Y):=by
    unfold wpG at h
    split at h
    ·
     rename_i hw
     rw [hK0] at h
     cases hkd:kind k with
     | none =>
       rw [hkd] at h
       obtain ⟨v,hs,h⟩:=h
       refine ⟨_,F,hp.step C I hin hk ho v fun hL d hd=>?_,h,fun _=>⟨v,hs⟩⟩
       obtain ⟨hA,hG⟩:=hp.agree C hk ho (hall hL)
       have:=I.vals k o d ho hL hd b hA
       unfold Holds at this
       rw [if_pos hw,hkd] at this
       exact (this v F hG hs).symm
     | some x =>
       rw [hkd] at h
       cases x with
       | inl c =>
         obtain ⟨hs,h⟩:=h
         refine ⟨_,F,hp.step C I hin hk ho c fun hL d hd=>?_,h,fun _=>hs⟩
         obtain ⟨hA,hG⟩:=hp.agree C hk ho (hall hL)
         have:=I.vals k o d ho hL hd b hA
         unfold Holds at this
         rw [if_pos hw,hkd] at this
         exact this.symm
       | inr Y =>
         obtain ⟨hs,h⟩:=h
         have hv:L listed k→∀ d,o.dst=some d→(o.dst.map (slot a)).getD undef=slot a d:=fun _ d hd=>by simp [hd]
         refine ⟨_,_,(hp.step C I hin hk ho _ hv).fact ho hkd _ fun hL=>⟨hv hL,(hp.agree C hk ho (hall hL)).1,hw⟩,h _,fun _=>hs⟩
    · rename_i hw
      refine ⟨_,F,hp.step C I hin hk ho undef fun hL d hd=>?_,h,fun hw'=>absurd hw' hw⟩
      have:=I.vals k o d ho hL hd b (hp.agree C hk ho (hall hL)).1
      unfold Holds at this
      rw [if_neg hw] at this
      exact this.symm
   obtain ⟨b',F',hp',h',hs⟩:=key
   obtain ⟨r1,r2⟩:=descend C hin I l (k+1) Ks.tail F' b' (by omega) hl' hK' hp' h'
   refine ⟨fun i oi h1 h2 hoi hai=>?_,r2⟩
   by_cases e:i=k
   · subst e
     rw [ho] at hoi; cases hoi
     exact ⟨b,F,(hp.agree C h2 ho hai).1,(hp.agree C h2 ho hai).2,hs⟩
   · exact r1 i oi (by omega) h2 hoi hai
def left (listed:Array Bool):Nat→Nat
 | 0=>0
 | n+1=>left listed n+if listed.getD n false then 0 else 1
theorem left_far {listed:Array Bool} {i:Nat}:∀ n,n≤i→left (listed.setIfInBounds i true) n=left listed n
 | 0,_=>rfl
 | n+1,h=>by
   unfold left
   rw [left_far n (by omega)]
   have:(listed.setIfInBounds i true).getD n false=listed.getD n false:=by
    rw [Array.getD_eq_getD_getElem?,Array.getD_eq_getD_getElem?,Array.getElem?_setIfInBounds_ne (by omega)]
   rw [this]
theorem left_set {listed:Array Bool} {i:Nat} (hi:i < listed.size) (hun:¬ L listed i):∀ n,i < n→left (listed.setIfInBounds i true) n+1=left listed n
 | 0,h=>by omega
 | n+1,h=>by
   unfold left
   by_cases e:i=n
   · subst e
     rw [left_far i (Nat.le_refl _)]
     have h1:(listed.setIfInBounds i true).getD i false=true:=(getD_set hi).2 (.inl rfl)
     have h2:listed.getD i false=false:=by unfold L at hun; simpa using hun
     rw [h1,h2]; simp
   · have:=left_set hi hun n (by omega)
     have h1:(listed.setIfInBounds i true).getD n false=listed.getD n false:=by
      rw [Array.getD_eq_getD_getElem?,Array.getD_eq_getD_getElem?,Array.getElem?_setIfInBounds_ne (by omega)]
     rw [h1]; omega
theorem left_none {listed:Array Bool}:∀ n,left listed n=0→∀ k,k < n→L listed k
 | 0,_,k,hk=>by omega
 | n+1,h,k,hk=>by
   unfold left at h
   by_cases e:k=n
   · subst e
     unfold L
     by_cases h1:listed.getD k false=true
     · exact h1
     · rw [if_neg h1] at h; omega
   · exact left_none n (by omega) k (by omega)
theorem left_some {listed:Array Bool}:∀ n,0 < left listed n→∃ k,k < n∧¬ L listed k∧∀ j,j < k→L listed j
 | 0,h=>by simp [left] at h
 | n+1,h=>by
   by_cases h0:0 < left listed n
   · obtain ⟨k,hk,h1,h2⟩:=left_some n h0
     exact ⟨k,by omega,h1,h2⟩
   ·
    have hn:=left_none (listed:=listed) n (by omega)
    refine ⟨n,by omega,fun hL=>?_,hn⟩
    unfold left at h
    unfold L at hL
    rw [if_pos hL] at h
    omega
theorem mem_ready' {listed:Array Bool} (hs:listed.size=ops.size) {j:Nat}:j∈Region.ready .any ops listed ↔
 ¬ L listed j∧∃ o,ops[j]?=some o∧∀ e∈o.after,Region.binds .any e=true→L listed e.on:=by
 rw [mem_ready]
 constructor
 ·
  rintro ⟨h0,o,ho,h⟩
  have hj:j < listed.size:=by rw [hs]; exact (Array.getElem?_eq_some_iff.1 ho).1
  refine ⟨?_,o,ho,h⟩
  unfold L
  simp [hj] at h0 ⊢
  exact h0
 ·
  rintro ⟨h0,o,ho,h⟩
  have hj:j < listed.size:=by rw [hs]; exact (Array.getElem?_eq_some_iff.1 ho).1
  refine ⟨?_,o,ho,h⟩
  unfold L at h0
  simp [hj] at h0 ⊢
  exact h0
theorem wpAny_tail (C:Chk ops n) {Q:Exit→Act→World→Prop}:∀ (l:List Oper) (m:Nat) (listed:Array Bool) (a:Act) (w:World),n≤m→(∀ j,l[j]?=ops[m+j]?)→l.length=ops.size - m→listed.size=ops.size →
 (∀ k,k < ops.size→(L listed k↔k < m))→wpList P ops Q l a w→wpAny P .any ops Q l.length listed a w
 | [],m,listed,a,w,hm,hl,hlen,hs,hL,h=>by
   refine ⟨List.eq_nil_iff_forall_not_mem.2 fun j hj=>?_,h⟩
   obtain ⟨h0,o,ho,_⟩:=(mem_ready' hs).1 hj
   have hj':=(Array.getElem?_eq_some_iff.1 ho).1
   exact h0 ((hL j hj').2 (by simp at hlen; omega))
 | o :: l,m,listed,a,w,hm,hl,hlen,hs,hL,h=>by
   have ho:ops[m]?=some o:=by simpa using (hl 0).symm
   have hmlt:m < ops.size:=(Array.getElem?_eq_some_iff.1 ho).1
   have hmr:m∈Region.ready .any ops listed:=(mem_ready' hs).2 ⟨fun h=>by have:=(hL m hmlt).1 h; omega,o,ho,fun e he hb=>(hL e.on (by have:=C.low m o ho e he hb; omega)).2 (C.low m o ho e he hb)⟩
   refine ⟨fun h0=>(by rw [h0] at hmr; cases hmr),fun i hi=>?_⟩
   obtain ⟨h0,oi,hoi,hall⟩:=(mem_ready' hs).1 hi
   have hilt:=(Array.getElem?_eq_some_iff.1 hoi).1
   have him:i=m:=by
    by_cases e:i=m
    · exact e
    · have hge:¬ i < m:=fun h=>h0 ((hL i hilt).2 h)
      obtain ⟨e',he,hb,hon⟩:=bound_spec (C.seq i oi (by omega) hoi)
      have:=(hL (i - 1) (by omega)).1 (hon ▸ hall e' he hb)
      omega
   subst him
   have hw:wpOp P ops Q i (wpList P ops Q l) a w:=by unfold wpOp; simp only [ho]; exact h
   refine wpOp_mono (fun a' w' h'=>wpAny_tail C l (i+1) _ a' w' (by omega) (fun j=>?_) (by simp at hlen; omega) (by simpa using hs) (fun k hk=>?_) h') hw
   · have:=hl (j+1)
     rw [show i+1+j=i+(j+1) by omega,← this]; rfl
   · rw [getD_set (by rw [hs]; exact hmlt),hL k hk]; omega
theorem wp_of_det {o:Oper} {a:Act} {w:World} {v:Value} {K:Act→World→Prop} {Q:Exit→Act→World→Prop} (h:detAt P R o a w v) (hK:∀ w',R w w'→K (a.put o.dst v) w'):o.wp P a w K Q:=by
 unfold detAt at h
 unfold Oper.wp
 generalize (execOp a.eval o).run P w=r at *
 cases r with
 | ok x w' =>
   cases x <;> simp only [detUpon] at h <;> simp only [Oper.upon]
   case value u=>obtain ⟨rfl,hR⟩:=h; exact hK _ hR
   case skip=>obtain ⟨rfl,hR⟩:=h; exact hK _ hR
 | halt x w'=>simp only [detUpon] at h
theorem wp_of_grow {o:Oper} {a:Act} {w:World} {Y:Value→World→Prop} {K:Act→World→Prop} {Q:Exit→Act→World→Prop} (h:growAt P R o a w Y) (hK:∀ v w',Y v w'→R w w'→K (a.put o.dst v) w'):o.wp P a w K Q:=by
 unfold growAt at h
 unfold Oper.wp
 generalize (execOp a.eval o).run P w=r at *
 cases r with
 | ok x w' =>
   cases x <;> simp only [growUpon] at h <;> simp only [Oper.upon]
   case value u=>exact hK _ _ h.1 h.2
   case skip=>exact hK _ _ h.1 h.2
   case enter f args=>exact h.mono fun e w'' ⟨v,he,hY,hR⟩=>by subst he; exact hK _ _ hY hR
 | halt x w'=>simp only [growUpon] at h
theorem Inv.settle {listed:Array Bool} {a:Act} {w:World} (I:Inv P ops R w1 a0 n kind listed a w) (hall:∀ k,k < n→L listed k)
 {b:Act} {F:List (Tmp×(World→Prop))} (hp:Path ops a0 kind listed a n b F):b=a∧∀ p∈F,p.2 w:=by
 constructor
 ·
  have ht:b.tmps=a.tmps:=by
   apply Array.ext_getElem?
   intro s
   by_cases hj:∃ j,j < n∧D ops j=some s
   · obtain ⟨j,hj,hd⟩:=hj
     exact hp.same j hj (hall j hj) s hd
   · have hn:∀ j,j < n→D ops j≠some s:=fun j hj' hd=>hj ⟨j,hj',hd⟩
     rw [hp.other s hn,I.slots s fun k hk=>hn k (I.head k hk)]
  have hd:b.defers=a.defers:=hp.defs.trans I.defs.symm
  cases a; cases b; simp_all
 ·
  intro p hpF
  obtain ⟨j,oj,Y,v,hj,hoj,hd,hkj,he,hL⟩:=hp.facts p hpF
  obtain ⟨hv,bj,hbj,hw⟩:=hL (hall j hj)
  have:=I.vals j oj p.1 hoj (hall j hj) hd bj hbj
  unfold Holds at this
  rw [if_pos hw,hkj] at this
  rw [he,hv]; exact this
theorem wpAny_of_g (C:Chk ops n) (hrf:∀ w:World,R w w) (htr:∀ u v w:World,R u v→R v w→R u w) (hstab:∀ k Y,kind k=some (.inr Y)→∀ v w w',R w w'→Y v w→Y v w')
 (hin:∀ o d,o∈ops→o.dst=some d→d < a0.tmps.size) {Q:Exit→Act→World→Prop} {l:List Oper} (hll:l.length=n) (hl:∀ j,j < l.length→l[j]?=ops[0+j]?) {Ks:List Kind} (hK:∀ j,Ks.getD j none=kind (0+j))
 {t:List Oper} (htl:t.length=ops.size - n) (ht:∀ j,t[j]?=ops[n+j]?)
 (h:wpG P ops R w1 (fun a' w'=>wpList P ops Q t a' w') l Ks [] a0) :
 ∀ (fuel:Nat) (listed:Array Bool) (a:Act) (w:World),fuel=left listed n+t.length→Inv P ops R w1 a0 n kind listed a w→wpAny P .any ops Q fuel listed a w:=by
 intro fuel
 induction fuel with
 | zero =>
   intro listed a w hf I
   have hall:=left_none n (show left listed n=0 by omega)
   have h0:Path ops a0 kind listed a 0 a0 []:=⟨rfl,rfl,fun _ _=>rfl,fun j hj=>by omega,fun p hp=>by cases hp⟩
   obtain ⟨b,F,hp,hfin⟩:=(descend C hin I l 0 Ks [] a0 (by omega) hl hK h0 h).2
   obtain ⟨rfl,hF⟩:=I.settle hall hp
   have:=wpAny_tail C t n listed b w (Nat.le_refl _) ht htl I.size (fun k hk=>⟨I.head k,hall k⟩) (hfin w I.reach hF)
   rw [show t.length=0 by omega] at this
   exact this
 | succ fuel ih =>
   intro listed a w hf I
   have h0:Path ops a0 kind listed a 0 a0 []:=⟨rfl,rfl,fun _ _=>rfl,fun j hj=>by omega,fun p hp=>by cases hp⟩
   obtain ⟨hsp,b,F,hp,hfin⟩:=descend C hin I l 0 Ks [] a0 (by omega) hl hK h0 h
   by_cases hz:left listed n=0
   · have hall:=left_none n hz
     obtain ⟨rfl,hF⟩:=I.settle hall hp
     have:=wpAny_tail C t n listed b w (Nat.le_refl _) ht htl I.size (fun k hk=>⟨I.head k,hall k⟩) (hfin w I.reach hF)
     rw [show t.length=fuel+1 by omega] at this
     exact this
   ·
    obtain ⟨k,hkn,hkun,hklow⟩:=left_some n (by omega:0 < left listed n)
    have hks:k < ops.size:=by have:=C.le; omega
    refine ⟨fun hr=>?_,fun i hi=>?_⟩
    · have:k∈Region.ready .any ops listed:=(mem_ready' I.size).2 ⟨hkun,ops[k],Array.getElem?_eq_getElem hks,fun e he hb=>hklow _ (C.low k _ (Array.getElem?_eq_getElem hks) e he hb)⟩
      rw [hr] at this; cases this
    ·
     obtain ⟨hiun,o,ho,hall⟩:=(mem_ready' I.size).1 hi
     have his:=(Array.getElem?_eq_some_iff.1 ho).1
     have hin':i < n:=by
      by_cases hlt:i < n
      · exact hlt
      ·
       -- the last of the first n that is still to come is waited for
       have hlast:∀ m,m≤n→(∀ j,m≤j→j < n→L listed j)→False:=by
        intro m
        induction m with
        | zero=>intro _ hm; exact hkun (hm k (by omega) hkn)
        | succ m ihm =>
          intro hmn hm
          by_cases hLm:L listed m
          · exact ihm (by omega) fun j h1 h2=>by
             by_cases e:j=m
             · subst e; exact hLm
             · exact hm j (by omega) h2
          ·
           rcases C.waits with hw | hw
           · omega
           · obtain ⟨j,oj,h1,h2,hoj,hb⟩:=hw m (by omega)
             obtain ⟨e,he,hbe,hon⟩:=bound_spec hb
             by_cases hjn:j < n
             · exact hLm (hon ▸ I.closed j oj hoj (hm j (by omega) hjn) e he hbe)
             · have hjn':j=n:=by omega
               subst hjn'
               by_cases hij:i=j
               · subst hij
                 rw [ho] at hoj; cases hoj
                 exact hLm (hon ▸ hall e he hbe)
               · obtain ⟨e',he',hb',hon'⟩:=bound_spec (C.seq i o (by omega) ho)
                 have:=I.head (i - 1) (hon' ▸ hall e' he' hb')
                 omega
       exact (hlast n (Nat.le_refl _) fun j h1 h2=>by omega).elim
     obtain ⟨b',F',hA,hG,hspec⟩:=hsp i o (by omega) hin' ho hall
     have hsel:=fun cs c=>C.sel i o cs c ho
     have hab:∀ s∈o.looksAt ops,a.tmps[s]?=b'.tmps[s]?:=by
      intro s hs
      by_cases hj:∃ j,j < i∧D ops j=some s
      · obtain ⟨j,hj,hd⟩:=hj
        exact (hA.1 s hs j hj hd).symm
      · have hn':∀ j,j < i→D ops j≠some s:=fun j hj' hd=>hj ⟨j,hj',hd⟩
        rw [hA.2 s hs hn']
        refine I.slots s fun j hLj hd=>?_
        rcases C.looks i o s j hin' ho hs (I.head j hLj) hd with hij | hij | ⟨q,hq,hij⟩
        · subst hij; exact hiun hLj
        · exact hn' j (bound_lt C ho hij) hd
        · obtain ⟨e,he,hb,rfl⟩:=bound_spec hij
          exact hiun (I.closed j q hq hLj e he hb)
     obtain ⟨hex,hwa⟩:=look_congr (ops:=ops) hsel hab
     have hdep:=depF_of C I hin' ho hall hG
     have hfuel:fuel=left (listed.setIfInBounds i true) n+t.length:=by
      have:=left_set (listed:=listed) (by rw [I.size]; exact his) hiun n hin'; omega
     have same:∀ (v:Value) b,Agree ops a0 (a.put o.dst v) b i o→execOp b.eval o=execOp b'.eval o∧Region.wanted o (yielded ops b.tmps)=Region.wanted o (yielded ops b'.tmps):=by
      intro v b hb
      have hb2:Agree ops a0 a b i o:=by
       refine ⟨fun s hs j hj hd=>?_,hb.2⟩
       rw [hb.1 s hs j hj hd]
       refine put_get_ne fun e=>?_
       have:j=i:=C.uniq j i s (by omega) hin' hd (by simp [D,ho,e])
       omega
      exact look_congr hsel (hb2.same hA)
     have good:∀ (v:Value) F,GoodF ops a0 kind (a.put o.dst v) i o F→GoodF ops a0 kind a i o F:=by
      intro v F hF p hp hl
      obtain ⟨j,oj,Y,bj,hj,hoj,hdj,hkj,hbj,hwj,he⟩:=hF p hp hl
      have hDj:D ops j=some p.1:=by simp [D,hoj,hdj]
      have hlj:=dep_listed C hin' ho hall hl hj hDj
      have hne:o.dst≠some p.1:=fun e=>by
       have:j=i:=C.uniq j i p.1 (by omega) hin' hDj (by simp [D,ho,e])
       omega
      refine ⟨j,oj,Y,bj,hj,hoj,hdj,hkj,⟨fun s hs j' hj' hd'=>?_,hbj.2⟩,hwj,by rw [he,put_slot_ne hne]⟩
      rw [hbj.1 s hs j' hj' hd']
      refine put_get_ne fun e=>?_
      have:j'=i:=C.uniq j' i s (by omega) hin' hd' (by simp [D,ho,e])
      subst this
      omega
     have hd1:∀ d,o.dst=some d→d < a.tmps.size:=fun d hd=>by rw [I.tsz]; exact hin o d (Array.mem_of_getElem? ho) hd
     unfold wpOp
     simp only [ho]
     split
     ·
      rename_i hw
      have hwb:Region.wanted o (yielded ops b'.tmps)=true:=by rw [← hwa]; exact hw
      have hspec:=hspec hwb
      refine .inl ?_
      cases hkd:kind i with
      | none =>
        rw [hkd] at hspec
        obtain ⟨v,hs⟩:=hspec
        have hd:detAt P R o a w v:=by unfold detAt; rw [hex]; exact hs w I.reach hdep
        refine wp_of_det hd fun w' hR=>ih _ _ _ hfuel (I.step C htr hstab hin' ho hiun hall hR fun d hdd b hb=>?_)
        obtain ⟨e1,e2⟩:=same v b hb
        unfold Holds
        rw [if_pos (by rw [e2]; exact hwb),hkd]
        intro v' F2 hF2 hs2
        have h1:=hs w I.reach hdep
        have h2:=hs2 w I.reach (depF_of C I hin' ho hall (good v F2 hF2))
        unfold detAt at h1 h2
        rw [e1] at h2
        rw [hdd,put_slot (hd1 d hdd)]
        generalize (execOp b'.eval o).run P w=r at h1 h2
        cases r with
        | ok x w'' =>
          cases x <;> simp only [detUpon] at h1 h2
          case value u=>rw [← h1.1,h2.1]
          case skip=>rw [← h1.1,h2.1]
        | halt x w''=>simp only [detUpon] at h1
      | some x =>
        rw [hkd] at hspec
        cases x with
        | inl c =>
          have hg:growAt P R o a w fun u _=>u=c:=by unfold growAt; rw [hex]; exact hspec w I.reach hdep
          refine wp_of_grow hg fun v w' hv hR=>ih _ _ _ hfuel (I.step C htr hstab hin' ho hiun hall hR fun d hdd b hb=>?_)
          obtain ⟨e1,e2⟩:=same v b hb
          unfold Holds
          rw [if_pos (by rw [e2]; exact hwb),hkd]
          show slot _ d=c
          rw [hdd,put_slot (hd1 d hdd)]; exact hv
        | inr Y =>
          have hg:growAt P R o a w Y:=by unfold growAt; rw [hex]; exact hspec w I.reach hdep
          refine wp_of_grow hg fun v w' hv hR=>ih _ _ _ hfuel (I.step C htr hstab hin' ho hiun hall hR fun d hdd b hb=>?_)
          obtain ⟨e1,e2⟩:=same v b hb
          unfold Holds
          rw [if_pos (by rw [e2]; exact hwb),hkd]
          show Y (slot _ d) w'
          rw [hdd,put_slot (hd1 d hdd)]; exact hv
     · rename_i hw
       have hwb:¬ Region.wanted o (yielded ops b'.tmps)=true:=by rw [← hwa]; exact hw
       refine ih _ _ _ hfuel (I.step C htr hstab hin' ho hiun hall (hrf w) fun d hdd b hb=>?_)
       obtain ⟨e1,e2⟩:=same undef b hb
       unfold Holds
       rw [if_neg (by rw [e2]; exact hwb)]
       rw [hdd,put_slot (hd1 d hdd)]
theorem wp_region_g {id:Nat} {l:List Oper} {Q:Exit→Act→World→Prop} {a:Act} {w:World} (n:Nat) (Ks:List Kind) (R:World→World→Prop) (hm:P.follows .mixedOrders=true)
 (hB:gB l.toArray n=true) (hin:inB l.toArray a=true) (hrf:∀ w:World,R w w) (htr:∀ u v w:World,R u v→R v w→R u w)
 (hstab:∀ K∈Ks,∀ Y,K=some (.inr Y)→∀ v w w',R w w'→Y v w→Y v w')
 (h:wpG P l.toArray R w.drew (fun a' w'=>wpList P l.toArray Q (l.drop n) a' w') (l.take n) Ks [] a):(Code.region id l.toArray true).wp P Q a w:=by
 have C:=Chk.of hB
 have hle:n≤l.length:=by have:=C.le; simpa using this
 have hin':∀ o d,o∈l.toArray→o.dst=some d→d < a.tmps.size:=by
  intro o d ho hd
  unfold inB at hin
  have:=Array.all_eq_true_iff_forall_mem.1 hin o ho
  simpa [hd] using this
 refine wp_region_any hm ?_
 refine wpAny_of_g (a0:=a) (n:=n) (kind:=fun k=>Ks.getD k none) C hrf htr (fun k Y hk v w w' hR hY=>?_) hin' (l:=l.take n) (Ks:=Ks) (by simp [hle]) (fun j hj=>?_) (fun j=>by simp)
  (t:=l.drop n) (by simp) (fun j=>by simp) h _ _ _ _ ?_ ?_
 ·
  have hlt:k < Ks.length:=by
   rcases Nat.lt_or_ge k Ks.length with h | h
   · exact h
   · simp [List.getD,List.getElem?_eq_none h] at hk
  have hmem:(some (.inr Y):Kind)∈Ks:=by
   rw [← hk,List.getD_eq_getElem?_getD,List.getElem?_eq_getElem hlt]; exact List.getElem_mem hlt
  exact hstab _ hmem Y rfl v w w' hR hY
 · have:j < n:=by simp at hj; omega
   simp [this]
 ·
  have:∀ m,m≤l.length→left (Array.replicate l.length false) m=m:=by
   intro m
   induction m with
   | zero=>intro _; rfl
   | succ m ih=>intro hm'; unfold left; rw [ih (by omega)]; simp [show m < l.length by omega]
  have h2:=this n hle
  simp only [List.size_toArray,List.length_drop]
  rw [h2]; omega
 ·
  have hno:∀ k,¬ L (Array.replicate l.toArray.size false) k:=by
   intro k hk
   unfold L at hk
   simp only [Array.getD_eq_getD_getElem?,Array.getElem?_replicate] at hk
   split at hk <;> simp at hk
  exact ⟨by simp,hrf _,rfl,rfl,fun k o _ hk=>(hno k hk).elim,fun _ _=>rfl,fun k hk=>(hno k hk).elim,fun k o d _ hk=>(hno k hk).elim⟩
section
variable {Fin:Act→World→Prop} {o:Oper} {rest:List Oper} {Ks:List Kind} {F:List (Tmp×(World→Prop))} {a:Act}
theorem g_nil (h:∀ w,R w1 w→(∀ p∈F,p.2 w)→Fin a w):wpG P ops R w1 Fin [] Ks F a:=h
theorem g_det (hw:Region.wanted o (yielded ops a.tmps)=true) (h:∃ v,(∀ w,R w1 w→depF ops F o w→detAt P R o a w v)∧wpG P ops R w1 Fin rest Ks F (a.put o.dst v)) :
 wpG P ops R w1 Fin (o :: rest) (none :: Ks) F a:=by
 unfold wpG; rw [if_pos hw]; exact h
theorem g_con {c:Value} (hw:Region.wanted o (yielded ops a.tmps)=true) (h:∀ w,R w1 w→depF ops F o w→growAt P R o a w fun u _=>u=c) (hk:wpG P ops R w1 Fin rest Ks F (a.put o.dst c)) :
 wpG P ops R w1 Fin (o :: rest) (some (.inl c) :: Ks) F a:=by
 unfold wpG; rw [if_pos hw]; exact ⟨h,hk⟩
theorem g_new {Y:Value→World→Prop} (hw:Region.wanted o (yielded ops a.tmps)=true) (h:∀ w,R w1 w→depF ops F o w→growAt P R o a w Y) (hk:∀ v,wpG P ops R w1 Fin rest Ks (addF o.dst (Y v) F) (a.put o.dst v)) :
 wpG P ops R w1 Fin (o :: rest) (some (.inr Y) :: Ks) F a:=by
 unfold wpG; rw [if_pos hw]; exact ⟨h,hk⟩
theorem g_skip {K:Kind} (hw:Region.wanted o (yielded ops a.tmps)=false) (hk:wpG P ops R w1 Fin rest Ks F (a.put o.dst undef)) :
 wpG P ops R w1 Fin (o :: rest) (K :: Ks) F a:=by
 unfold wpG; rw [if_neg (by rw [hw]; exact Bool.false_ne_true)]; exact hk
end
end
attribute [go_sem] detAt detUpon growAt growUpon
attribute [irreducible] wpG
end Go.Proofs.YtnoehodmmkioaaaGreatDoor.Grow
namespace Go.Proofs.YtnoehodmmkioaaaGreatDoor.GrowN
open Go Go.Proofs.YtnoehodmmkioaaaGreatDoor.Grow
abbrev Kind:=Option (Value ⊕ (List (Option Value)→Value→World→Prop))
def noInr:Kind→Bool
 | some (.inr _)=>false
 | _=>true
theorem stab0 {Ks:List Kind} {R:World→World→Prop} (h:Ks.all noInr=true):∀ K∈Ks,∀ Y,K=some (.inr Y)→∀ l v w w',R w w'→Y l v w→Y l v w':=fun K hK Y hY=>by
 have:=List.all_eq_true.1 h K hK
 rw [hY] at this
 cases this
def look (ops:Array Oper) (a:Act) (o:Oper):List (Option Value):=(o.looksAt ops).map fun s=>a.tmps[s]?
def rv (o:Oper) (u:Value):Value:=if o.dst.isSome then u else undef
def val (a:Act) (o:Oper):Value:=match o.dst with | some d=>slot a d | none=>undef
section
variable (P:Program) (ops:Array Oper) (R:World→World→Prop) (w1:World)
def depF (F:List (Nat×(World→Prop))) (o:Oper) (w:World):Prop:=∀ p∈F,bound o p.1=true→p.2 w
def wpG (Fin:Act→World→Prop):Nat→List Oper→List Kind→List (Nat×(World→Prop))→Act→Prop
 | _,[],_,F,a=>∀ w,R w1 w→(∀ p∈F,p.2 w)→Fin a w
 | i,o :: rest,Ys,F,a =>
   if Region.wanted o (yielded ops a.tmps) then
    match Ys.headD none with
    | none=>∃ v,(∀ w,R w1 w→depF F o w→detAt P R o a w v)∧wpG Fin (i+1) rest Ys.tail F (a.put o.dst v)
    | some (.inl c)=>(∀ w,R w1 w→depF F o w→growAt P R o a w fun u _=>u=c)∧wpG Fin (i+1) rest Ys.tail F (a.put o.dst c)
    | some (.inr Y)=>(∀ w,R w1 w→depF F o w→growAt P R o a w fun u=>Y (look ops a o) (rv o u))∧∀ v,wpG Fin (i+1) rest Ys.tail ((i,Y (look ops a o) v) :: F) (a.put o.dst v)
   else wpG Fin (i+1) rest Ys.tail F (a.put o.dst undef)
end
section
variable {P:Program} {ops:Array Oper} {R:World→World→Prop} {w1:World}
section
variable (P:Program) (ops:Array Oper) (R:World→World→Prop) (w1:World) (a0:Act) (n:Nat) (kind:Nat→Kind)
def GoodF (a:Act) (k:Nat) (o:Oper) (F:List (Nat×(World→Prop))):Prop:=∀ p∈F,bound o p.1=true →
 ∃ oj Y bj,p.1 < k∧ops[p.1]?=some oj∧kind p.1=some (.inr Y)∧Agree ops a0 a bj p.1 oj∧Region.wanted oj (yielded ops bj.tmps)=true∧p.2=Y (look ops bj oj) (val a oj)
def Holds (a:Act) (w:World) (k:Nat) (o:Oper) (b:Act):Prop :=
 if Region.wanted o (yielded ops b.tmps)=true then
  match kind k with
  | none=>∀ v F,GoodF ops a0 kind a k o F→(∀ w',R w1 w'→depF F o w'→detAt P R o b w' v)→∀ d,o.dst=some d→slot a d=v
  | some (.inl c)=>∀ d,o.dst=some d→slot a d=c
  | some (.inr Y)=>Y (look ops b o) (val a o) w
 else ∀ d,o.dst=some d→slot a d=undef
structure Inv (listed:Array Bool) (a:Act) (w:World):Prop where
 size:listed.size=ops.size
 reach:R w1 w
 defs:a.defers=a0.defers
 tsz:a.tmps.size=a0.tmps.size
 closed:∀ k o,ops[k]?=some o→L listed k→∀ e∈o.after,Region.binds .any e=true→L listed e.on
 slots:∀ s,(∀ k,L listed k→D ops k≠some s)→a.tmps[s]?=a0.tmps[s]?
 head:∀ k,L listed k→k < n
 vals:∀ k o,ops[k]?=some o→L listed k→∀ b,Agree ops a0 a b k o→Holds P ops R w1 a0 kind a w k o b
end
variable {a0:Act} {n:Nat} {kind:Nat→Kind}
theorem depF_of {listed:Array Bool} {a:Act} {w:World} (I:Inv P ops R w1 a0 n kind listed a w) {k:Nat} {o:Oper}
 (hall:∀ e∈o.after,Region.binds .any e=true→L listed e.on) {F:List (Nat×(World→Prop))} (hF:GoodF ops a0 kind a k o F):depF F o w:=by
 intro p hp hl
 obtain ⟨oj,Y,bj,hj,hoj,hk',hb,hw,he⟩:=hF p hp hl
 obtain ⟨e,hem,heb,heo⟩:=bound_spec hl
 have hlj:L listed p.1:=heo ▸ hall e hem heb
 have:=I.vals p.1 oj hoj hlj bj hb
 unfold Holds at this
 rw [if_pos hw,hk'] at this
 rw [he]; exact this
theorem val_put {a:Act} {o ok:Oper} {v:Value} (h:∀ d,ok.dst=some d→o.dst≠some d):val (a.put o.dst v) ok=val a ok:=by
 unfold val
 cases hd:ok.dst with
 | none=>rfl
 | some d=>exact put_slot_ne (h d hd)
theorem Inv.step (C:Chk ops n) (htr:∀ u v w:World,R u v→R v w→R u w) (hstab:∀ k Y,kind k=some (.inr Y)→∀ l v w w',R w w'→Y l v w→Y l v w')
 {listed:Array Bool} {a:Act} {w w':World} (I:Inv P ops R w1 a0 n kind listed a w) {i:Nat} {o:Oper} (hin:i < n) (ho:ops[i]?=some o) (hun:¬ L listed i)
 (hall:∀ e∈o.after,Region.binds .any e=true→L listed e.on) {v:Value} (hR:R w w')
 (hv:∀ b,Agree ops a0 (a.put o.dst v) b i o→Holds P ops R w1 a0 kind (a.put o.dst v) w' i o b) :
 Inv P ops R w1 a0 n kind (listed.setIfInBounds i true) (a.put o.dst v) w':=by
 have hi:i < listed.size:=by rw [I.size]; exact (Array.getElem?_eq_some_iff.1 ho).1
 have hDi:D ops i=o.dst:=by simp [D,ho]
 have keep:∀ k ok,ops[k]?=some ok→L listed k→∀ s∈ok.looksAt ops,∀ j,j < k→D ops j=some s→o.dst≠some s:=by
  intro k ok hok hk s hs j hj hd he
  have hkn:=I.head k hk
  have:j=i:=C.uniq j i s (by omega) hin hd (by rw [hDi,he])
  subst this
  exact hun (dep_listed C hkn hok (I.closed k ok hok hk) hs hj hd)
 have agr:∀ k ok,ops[k]?=some ok→L listed k→∀ b,Agree ops a0 (a.put o.dst v) b k ok↔Agree ops a0 a b k ok:=by
  intro k ok hok hk b
  constructor
  iterate 2
   · intro h; exact ⟨fun s hs j hj hd=>by rw [h.1 s hs j hj hd,put_get_ne (keep k ok hok hk s hs j hj hd)],h.2⟩
 refine ⟨by simpa using I.size,htr _ _ _ I.reach hR,put_defs.trans I.defs,put_size.trans I.tsz,?_,?_,?_,?_⟩
 ·
  intro k ok hok hk e he hb
  rcases (getD_set hi).1 hk with rfl | hk
  · rw [ho] at hok; cases hok; exact (getD_set hi).2 (.inr (hall e he hb))
  · exact (getD_set hi).2 (.inr (I.closed k ok hok hk e he hb))
 · intro s hs
   rw [put_get_ne (by rw [← hDi]; exact hs i ((getD_set hi).2 (.inl rfl)))]
   exact I.slots s fun k hk=>hs k ((getD_set hi).2 (.inr hk))
 ·
  intro k hk
  rcases (getD_set hi).1 hk with rfl | hk
  · exact hin
  · exact I.head k hk
 ·
  intro k ok hok hk b hb
  rcases (getD_set hi).1 hk with rfl | hk
  · rw [ho] at hok; cases hok; exact hv b hb
  ·
   have hki:k≠i:=fun e=>hun (e ▸ hk)
   have ne:∀ k' ok',ops[k']?=some ok'→L listed k'→∀ d,ok'.dst=some d→o.dst≠some d:=fun k' ok' hok' hk' d hd e =>
    (fun (e2:k'=i)=>hun (e2 ▸ hk')) (C.uniq k' i d (I.head k' hk') hin (by simp [D,hok',hd]) (by rw [hDi,e]))
   have h:=I.vals k ok hok hk b ((agr k ok hok hk b).1 hb)
   unfold Holds at h ⊢
   split
   ·
    rename_i hw
    rw [if_pos hw] at h
    cases hkd:kind k with
    | none =>
      rw [hkd] at h
      intro v' F hF hspec d hd
      rw [put_slot_ne (ne k ok hok hk d hd)]
      refine h v' F (fun p hp hl=>?_) hspec d hd
      obtain ⟨oj,Y,bj,hj,hoj,hkj,hbj,hwj,he⟩:=hF p hp hl
      obtain ⟨e,hem,heb,heo⟩:=bound_spec hl
      have hlj:L listed p.1:=heo ▸ I.closed k ok hok hk e hem heb
      exact ⟨oj,Y,bj,hj,hoj,hkj,(agr p.1 oj hoj hlj bj).1 hbj,hwj,by rw [he,val_put (ne p.1 oj hoj hlj)]⟩
    | some x =>
      rw [hkd] at h
      cases x with
      | inl c=>exact fun d hd=>by rw [put_slot_ne (ne k ok hok hk d hd)]; exact h d hd
      | inr Y =>
        show Y _ (val _ ok) w'
        rw [val_put (ne k ok hok hk)]
        exact hstab k Y hkd _ _ _ _ hR h
   · rename_i hw
     rw [if_neg hw] at h
     exact fun d hd=>by rw [put_slot_ne (ne k ok hok hk d hd)]; exact h d hd
section
variable (P:Program) (ops:Array Oper) (R:World→World→Prop) (w1:World) (a0:Act) (n:Nat) (kind:Nat→Kind)
structure Path (listed:Array Bool) (a:Act) (k:Nat) (b:Act) (F:List (Nat×(World→Prop))):Prop where
 defs:b.defers=a0.defers
 tsz:b.tmps.size=a0.tmps.size
 other:∀ s,(∀ j,j < k→D ops j≠some s)→b.tmps[s]?=a0.tmps[s]?
 same:∀ j,j < k→L listed j→∀ d,D ops j=some d→b.tmps[d]?=a.tmps[d]?
 facts:∀ p∈F,∃ oj Y v bj,p.1 < k∧ops[p.1]?=some oj∧kind p.1=some (.inr Y)∧p.2=Y (look ops bj oj) v ∧
  (L listed p.1→v=val a oj∧Agree ops a0 a bj p.1 oj∧Region.wanted oj (yielded ops bj.tmps)=true)
def Spec (a:Act) (i:Nat) (o:Oper):Prop:=∃ b F,Agree ops a0 a b i o∧GoodF ops a0 kind a i o F∧(Region.wanted o (yielded ops b.tmps)=true →
 match kind i with
 | none=>∃ v,∀ w',R w1 w'→depF F o w'→detAt P R o b w' v
 | some (.inl c)=>∀ w',R w1 w'→depF F o w'→growAt P R o b w' fun u _=>u=c
 | some (.inr Y)=>∀ w',R w1 w'→depF F o w'→growAt P R o b w' fun u=>Y (look ops b o) (rv o u))
end
theorem Path.agree (C:Chk ops n) {listed:Array Bool} {a b:Act} {F:List (Nat×(World→Prop))} {k:Nat} {o:Oper} (hp:Path ops a0 kind listed a k b F) (hk:k < n) (ho:ops[k]?=some o)
 (hall:∀ e∈o.after,Region.binds .any e=true→L listed e.on):Agree ops a0 a b k o∧GoodF ops a0 kind a k o F:=by
 refine ⟨⟨fun s hs j hj hd=>hp.same j hj (dep_listed C hk ho hall hs hj hd) s hd,fun s _ hn=>hp.other s hn⟩,fun p hpF hl=>?_⟩
 obtain ⟨oj,Y,v,bj,hj,hoj,hkj,he,hL⟩:=hp.facts p hpF
 obtain ⟨e,hem,heb,heo⟩:=bound_spec hl
 obtain ⟨hv,hbj,hw⟩:=hL (heo ▸ hall e hem heb)
 exact ⟨oj,Y,bj,hj,hoj,hkj,hbj,hw,by rw [he,hv]⟩
theorem Path.step (C:Chk ops n) {listed:Array Bool} {a b:Act} {w:World} {F:List (Nat×(World→Prop))} {k:Nat} {o:Oper} (I:Inv P ops R w1 a0 n kind listed a w)
 (hin:∀ o d,o∈ops→o.dst=some d→d < a0.tmps.size) (hp:Path ops a0 kind listed a k b F) (hk:k < n) (ho:ops[k]?=some o) (v:Value)
 (hv:L listed k→∀ d,o.dst=some d→v=slot a d):Path ops a0 kind listed a (k+1) (b.put o.dst v) F:=by
 have hDk:D ops k=o.dst:=by simp [D,ho]
 refine ⟨put_defs.trans hp.defs,put_size.trans hp.tsz,fun s hs=>?_,fun j hj hL d hd=>?_,fun p hpF=>?_⟩
 · rw [put_get_ne (by rw [← hDk]; exact hs k (by omega))]
   exact hp.other s fun j hj=>hs j (by omega)
 ·
  by_cases e:j=k
  ·
   subst e
   rw [hDk] at hd
   have hd1:=hin o d (Array.mem_of_getElem? ho) hd
   have:=hv hL d hd
   rw [hd]
   have h1:d < b.tmps.size:=by rw [hp.tsz]; exact hd1
   have h2:d < a.tmps.size:=by rw [I.tsz]; exact hd1
   simp only [Act.put,Array.getElem?_setIfInBounds_self_of_lt h1,this,slot]
   simp [h2]
  · rw [put_get_ne fun e'=>e (C.uniq j k d (I.head j hL) hk hd (by rw [hDk,e']))]
    exact hp.same j (by omega) hL d hd
 · obtain ⟨oj,Y,v,bj,hj,h⟩:=hp.facts p hpF
   exact ⟨oj,Y,v,bj,by omega,h⟩
theorem Path.fact {listed:Array Bool} {a b b':Act} {F:List (Nat×(World→Prop))} {k:Nat} {o:Oper} (hp:Path ops a0 kind listed a (k+1) b' F) (ho:ops[k]?=some o) {Y:List (Option Value)→Value→World→Prop}
 (hY:kind k=some (.inr Y)) (v:Value) (hv:L listed k→v=val a o∧Agree ops a0 a b k o∧Region.wanted o (yielded ops b.tmps)=true) :
 Path ops a0 kind listed a (k+1) b' ((k,Y (look ops b o) v) :: F):=by
 refine ⟨hp.defs,hp.tsz,hp.other,hp.same,fun p hpF=>?_⟩
 rcases List.mem_cons.1 hpF with rfl | hpF
 · exact ⟨o,Y,v,b,by show k < k+1; omega,ho,hY,rfl,hv⟩
 · exact hp.facts p hpF
theorem descend (C:Chk ops n) (hin:∀ o d,o∈ops→o.dst=some d→d < a0.tmps.size) {Fin:Act→World→Prop} {listed:Array Bool} {a:Act} {w:World} (I:Inv P ops R w1 a0 n kind listed a w) :
 ∀ (l:List Oper) (k:Nat) (Ks:List Kind) (F:List (Nat×(World→Prop))) (b:Act),k+l.length=n→(∀ j,j < l.length→l[j]?=ops[k+j]?)→(∀ j,Ks.getD j none=kind (k+j)) →
  Path ops a0 kind listed a k b F→wpG P ops R w1 Fin k l Ks F b →
  (∀ i o,k≤i→i < n→ops[i]?=some o→(∀ e∈o.after,Region.binds .any e=true→L listed e.on)→Spec P ops R w1 a0 kind a i o) ∧
  (∃ b F,Path ops a0 kind listed a n b F∧∀ w,R w1 w→(∀ p∈F,p.2 w)→Fin b w)
 | [],k,Ks,F,b,hn,_,_,hp,h=>by
   have:k=n:=by simpa using hn
   subst this
   exact ⟨fun i o h1 h2=>by omega,b,F,hp,h⟩
 | o :: l,k,Ks,F,b,hn,hl,hK,hp,h=>by
   simp only [List.length_cons] at hn
   have ho:ops[k]?=some o:=by have:=hl 0 (by simp); simpa using this.symm
   have hk:k < n:=by omega
   have hl':∀ j,j < l.length→l[j]?=ops[(k+1)+j]?:=fun j hj=>by
    have:=hl (j+1) (by simp; omega)
    rw [show k+1+j=k+(j+1) by omega,← this]; rfl
   have hK':∀ j,Ks.tail.getD j none=kind ((k+1)+j):=fun j=>by
    have:=hK (j+1)
    rw [show k+1+j=k+(j+1) by omega,← this]
    cases Ks <;> simp
   have hK0:Ks.headD none=kind k:=by
    have:=hK 0
    rw [Nat.add_zero] at this
    rw [← this]
    cases Ks <;> simp
   have hall:L listed k→∀ e∈o.after,Region.binds .any e=true→L listed e.on:=fun hL=>I.closed k o ho hL
   have key:∃ b' F',Path ops a0 kind listed a (k+1) b' F'∧wpG P ops R w1 Fin (k+1) l Ks.tail F' b' ∧
    (Region.wanted o (yielded ops b.tmps)=true→match kind k with
     | none=>∃ v,∀ w',R w1 w'→depF F o w'→detAt P R o b w' v
     | some (.inl c)=>∀ w',R w1 w'→depF F o w'→growAt P R o b w' fun u _=>u=c
     | some (.inr Y)=>∀ w',R w1 w'→depF F o w'→growAt P R o b w' fun u=>Y (look ops b o) (rv o u)):=by
    unfold wpG at h
    split at h
    ·
     rename_i hw
     rw [hK0] at h
     cases hkd:kind k with
     | none =>
       rw [hkd] at h
       obtain ⟨v,hs,h⟩:=h
       refine ⟨_,F,hp.step C I hin hk ho v fun hL d hd=>?_,h,fun _=>⟨v,hs⟩⟩
       obtain ⟨hA,hG⟩:=hp.agree C hk ho (hall hL)
       have:=I.vals k o ho hL b hA
       unfold Holds at this
       rw [if_pos hw,hkd] at this
       exact (this v F hG hs d hd).symm
     | some x =>
       rw [hkd] at h
       cases x with
       | inl c =>
         obtain ⟨hs,h⟩:=h
         refine ⟨_,F,hp.step C I hin hk ho c fun hL d hd=>?_,h,fun _=>hs⟩
         obtain ⟨hA,hG⟩:=hp.agree C hk ho (hall hL)
         have:=I.vals k o ho hL b hA
         unfold Holds at this
         rw [if_pos hw,hkd] at this
         exact (this d hd).symm
       | inr Y =>
         obtain ⟨hs,h⟩:=h
         have hv:L listed k→∀ d,o.dst=some d→val a o=slot a d:=fun _ d hd=>by simp [val,hd]
         exact ⟨_,_,(hp.step C I hin hk ho _ hv).fact ho hkd _ fun hL=>⟨rfl,(hp.agree C hk ho (hall hL)).1,hw⟩,h _,fun _=>hs⟩
    · rename_i hw
      refine ⟨_,F,hp.step C I hin hk ho undef fun hL d hd=>?_,h,fun hw'=>absurd hw' hw⟩
      have:=I.vals k o ho hL b (hp.agree C hk ho (hall hL)).1
      unfold Holds at this
      rw [if_neg hw] at this
      exact (this d hd).symm
   obtain ⟨b',F',hp',h',hs⟩:=key
   obtain ⟨r1,r2⟩:=descend C hin I l (k+1) Ks.tail F' b' (by omega) hl' hK' hp' h'
   refine ⟨fun i oi h1 h2 hoi hai=>?_,r2⟩
   by_cases e:i=k
   · subst e
     rw [ho] at hoi; cases hoi
     exact ⟨b,F,(hp.agree C h2 ho hai).1,(hp.agree C h2 ho hai).2,hs⟩
   · exact r1 i oi (by omega) h2 hoi hai
theorem Inv.settle {listed:Array Bool} {a:Act} {w:World} (I:Inv P ops R w1 a0 n kind listed a w) (hall:∀ k,k < n→L listed k)
 {b:Act} {F:List (Nat×(World→Prop))} (hp:Path ops a0 kind listed a n b F):b=a∧∀ p∈F,p.2 w:=by
 constructor
 ·
  have ht:b.tmps=a.tmps:=by
   apply Array.ext_getElem?
   intro s
   by_cases hj:∃ j,j < n∧D ops j=some s
   · obtain ⟨j,hj,hd⟩:=hj
     exact hp.same j hj (hall j hj) s hd
   · have hn:∀ j,j < n→D ops j≠some s:=fun j hj' hd=>hj ⟨j,hj',hd⟩
     rw [hp.other s hn,I.slots s fun k hk=>hn k (I.head k hk)]
  have hd:b.defers=a.defers:=hp.defs.trans I.defs.symm
  cases a; cases b; simp_all
 ·
  intro p hpF
  obtain ⟨oj,Y,v,bj,hj,hoj,hkj,he,hL⟩:=hp.facts p hpF
  obtain ⟨hv,hbj,hw⟩:=hL (hall p.1 hj)
  have:=I.vals p.1 oj hoj (hall p.1 hj) bj hbj
  unfold Holds at this
  rw [if_pos hw,hkj] at this
  rw [he,hv]; exact this
theorem wpAny_of_g (C:Chk ops n) (hrf:∀ w:World,R w w) (htr:∀ u v w:World,R u v→R v w→R u w) (hstab:∀ k Y,kind k=some (.inr Y)→∀ l v w w',R w w'→Y l v w→Y l v w')
 (hin:∀ o d,o∈ops→o.dst=some d→d < a0.tmps.size) {Q:Exit→Act→World→Prop} {l:List Oper} (hll:l.length=n) (hl:∀ j,j < l.length→l[j]?=ops[0+j]?) {Ks:List Kind} (hK:∀ j,Ks.getD j none=kind (0+j))
 {t:List Oper} (htl:t.length=ops.size - n) (ht:∀ j,t[j]?=ops[n+j]?)
 (h:wpG P ops R w1 (fun a' w'=>wpList P ops Q t a' w') 0 l Ks [] a0) :
 ∀ (fuel:Nat) (listed:Array Bool) (a:Act) (w:World),fuel=left listed n+t.length→Inv P ops R w1 a0 n kind listed a w→wpAny P .any ops Q fuel listed a w:=by
 intro fuel
 induction fuel with
 | zero =>
   intro listed a w hf I
   have hall:=left_none n (show left listed n=0 by omega)
   have h0:Path ops a0 kind listed a 0 a0 []:=⟨rfl,rfl,fun _ _=>rfl,fun j hj=>by omega,fun p hp=>by cases hp⟩
   obtain ⟨b,F,hp,hfin⟩:=(descend C hin I l 0 Ks [] a0 (by omega) hl hK h0 h).2
   obtain ⟨rfl,hF⟩:=I.settle hall hp
   have:=wpAny_tail C t n listed b w (Nat.le_refl _) ht htl I.size (fun k hk=>⟨I.head k,hall k⟩) (hfin w I.reach hF)
   rw [show t.length=0 by omega] at this
   exact this
 | succ fuel ih =>
   intro listed a w hf I
   have h0:Path ops a0 kind listed a 0 a0 []:=⟨rfl,rfl,fun _ _=>rfl,fun j hj=>by omega,fun p hp=>by cases hp⟩
   obtain ⟨hsp,b,F,hp,hfin⟩:=descend C hin I l 0 Ks [] a0 (by omega) hl hK h0 h
   by_cases hz:left listed n=0
   · have hall:=left_none n hz
     obtain ⟨rfl,hF⟩:=I.settle hall hp
     have:=wpAny_tail C t n listed b w (Nat.le_refl _) ht htl I.size (fun k hk=>⟨I.head k,hall k⟩) (hfin w I.reach hF)
     rw [show t.length=fuel+1 by omega] at this
     exact this
   ·
    obtain ⟨k,hkn,hkun,hklow⟩:=left_some n (by omega:0 < left listed n)
    have hks:k < ops.size:=by have:=C.le; omega
    refine ⟨fun hr=>?_,fun i hi=>?_⟩
    · have:k∈Region.ready .any ops listed:=(mem_ready' I.size).2 ⟨hkun,ops[k],Array.getElem?_eq_getElem hks,fun e he hb=>hklow _ (C.low k _ (Array.getElem?_eq_getElem hks) e he hb)⟩
      rw [hr] at this; cases this
    ·
     obtain ⟨hiun,o,ho,hall⟩:=(mem_ready' I.size).1 hi
     have his:=(Array.getElem?_eq_some_iff.1 ho).1
     have hin':i < n:=by
      by_cases hlt:i < n
      · exact hlt
      ·
       -- the last of the first n that is still to come is waited for
       have hlast:∀ m,m≤n→(∀ j,m≤j→j < n→L listed j)→False:=by
        intro m
        induction m with
        | zero=>intro _ hm; exact hkun (hm k (by omega) hkn)
        | succ m ihm =>
          intro hmn hm
          by_cases hLm:L listed m
          · exact ihm (by omega) fun j h1 h2=>by
             by_cases e:j=m
             · subst e; exact hLm
             · exact hm j (by omega) h2
          ·
           rcases C.waits with hw | hw
           · omega
           · obtain ⟨j,oj,h1,h2,hoj,hb⟩:=hw m (by omega)
             obtain ⟨e,he,hbe,hon⟩:=bound_spec hb
             by_cases hjn:j < n
             · exact hLm (hon ▸ I.closed j oj hoj (hm j (by omega) hjn) e he hbe)
             · have hjn':j=n:=by omega
               subst hjn'
               by_cases hij:i=j
               · subst hij
                 rw [ho] at hoj; cases hoj
                 exact hLm (hon ▸ hall e he hbe)
               · obtain ⟨e',he',hb',hon'⟩:=bound_spec (C.seq i o (by omega) ho)
                 have:=I.head (i - 1) (hon' ▸ hall e' he' hb')
                 omega
       exact (hlast n (Nat.le_refl _) fun j h1 h2=>by omega).elim
     obtain ⟨b',F',hA,hG,hspec⟩:=hsp i o (by omega) hin' ho hall
     have hsel:=fun cs c=>C.sel i o cs c ho
     have hab:∀ s∈o.looksAt ops,a.tmps[s]?=b'.tmps[s]?:=by
      intro s hs
      by_cases hj:∃ j,j < i∧D ops j=some s
      · obtain ⟨j,hj,hd⟩:=hj
        exact (hA.1 s hs j hj hd).symm
      · have hn':∀ j,j < i→D ops j≠some s:=fun j hj' hd=>hj ⟨j,hj',hd⟩
        rw [hA.2 s hs hn']
        refine I.slots s fun j hLj hd=>?_
        rcases C.looks i o s j hin' ho hs (I.head j hLj) hd with hij | hij | ⟨q,hq,hij⟩
        · subst hij; exact hiun hLj
        · exact hn' j (bound_lt C ho hij) hd
        · obtain ⟨e,he,hb,rfl⟩:=bound_spec hij
          exact hiun (I.closed j q hq hLj e he hb)
     obtain ⟨hex,hwa⟩:=look_congr (ops:=ops) hsel hab
     have hdep:=depF_of I hall hG
     have hfuel:fuel=left (listed.setIfInBounds i true) n+t.length:=by
      have:=left_set (listed:=listed) (by rw [I.size]; exact his) hiun n hin'; omega
     have same:∀ (v:Value) b,Agree ops a0 (a.put o.dst v) b i o→execOp b.eval o=execOp b'.eval o∧Region.wanted o (yielded ops b.tmps)=Region.wanted o (yielded ops b'.tmps)∧look ops b o=look ops b' o:=by
      intro v b hb
      have hb2:Agree ops a0 a b i o:=by
       refine ⟨fun s hs j hj hd=>?_,hb.2⟩
       rw [hb.1 s hs j hj hd]
       refine put_get_ne fun e=>?_
       have:j=i:=C.uniq j i s (by omega) hin' hd (by simp [D,ho,e])
       omega
      obtain ⟨q1,q2⟩:=look_congr hsel (hb2.same hA)
      exact ⟨q1,q2,List.map_congr_left (hb2.same hA)⟩
     have good:∀ (v:Value) F,GoodF ops a0 kind (a.put o.dst v) i o F→GoodF ops a0 kind a i o F:=by
      intro v F hF p hp hl
      obtain ⟨oj,Y,bj,hj,hoj,hkj,hbj,hwj,he⟩:=hF p hp hl
      have hne:∀ d,oj.dst=some d→o.dst≠some d:=fun d hd e=>by
       have:p.1=i:=C.uniq p.1 i d (by omega) hin' (by simp [D,hoj,hd]) (by simp [D,ho,e])
       omega
      refine ⟨oj,Y,bj,hj,hoj,hkj,⟨fun s hs j' hj' hd'=>?_,hbj.2⟩,hwj,by rw [he,val_put hne]⟩
      rw [hbj.1 s hs j' hj' hd']
      refine put_get_ne fun e=>?_
      have:j'=i:=C.uniq j' i s (by omega) hin' hd' (by simp [D,ho,e])
      subst this
      omega
     have hd1:∀ d,o.dst=some d→d < a.tmps.size:=fun d hd=>by rw [I.tsz]; exact hin o d (Array.mem_of_getElem? ho) hd
     unfold wpOp
     simp only [ho]
     split
     ·
      rename_i hw
      have hwb:Region.wanted o (yielded ops b'.tmps)=true:=by rw [← hwa]; exact hw
      have hspec:=hspec hwb
      refine .inl ?_
      cases hkd:kind i with
      | none =>
        rw [hkd] at hspec
        obtain ⟨v,hs⟩:=hspec
        have hd:detAt P R o a w v:=by unfold detAt; rw [hex]; exact hs w I.reach hdep
        refine wp_of_det hd fun w' hR=>ih _ _ _ hfuel (I.step C htr hstab hin' ho hiun hall hR fun b hb=>?_)
        obtain ⟨e1,e2,_⟩:=same v b hb
        unfold Holds
        rw [if_pos (by rw [e2]; exact hwb),hkd]
        intro v' F2 hF2 hs2 d hdd
        have h1:=hs w I.reach hdep
        have h2:=hs2 w I.reach (depF_of I hall (good v F2 hF2))
        unfold detAt at h1 h2
        rw [e1] at h2
        rw [hdd,put_slot (hd1 d hdd)]
        generalize (execOp b'.eval o).run P w=r at h1 h2
        cases r with
        | ok x w'' =>
          cases x <;> simp only [detUpon] at h1 h2
          case value u=>rw [← h1.1,h2.1]
          case skip=>rw [← h1.1,h2.1]
        | halt x w''=>simp only [detUpon] at h1
      | some x =>
        rw [hkd] at hspec
        cases x with
        | inl c =>
          have hg:growAt P R o a w fun u _=>u=c:=by unfold growAt; rw [hex]; exact hspec w I.reach hdep
          refine wp_of_grow hg fun v w' hv hR=>ih _ _ _ hfuel (I.step C htr hstab hin' ho hiun hall hR fun b hb=>?_)
          obtain ⟨e1,e2,_⟩:=same v b hb
          unfold Holds
          rw [if_pos (by rw [e2]; exact hwb),hkd]
          intro d hdd
          rw [hdd,put_slot (hd1 d hdd)]; exact hv
        | inr Y =>
          have hg:growAt P R o a w fun u=>Y (look ops b' o) (rv o u):=by unfold growAt; rw [hex]; exact hspec w I.reach hdep
          refine wp_of_grow hg fun v w' hv hR=>ih _ _ _ hfuel (I.step C htr hstab hin' ho hiun hall hR fun b hb=>?_)
          obtain ⟨e1,e2,_⟩:=same v b hb
          unfold Holds
          rw [if_pos (by rw [e2]; exact hwb),hkd]
          show Y (look ops b o) (val _ o) w'
          rw [(same v b hb).2.2]
          have hvv:val (a.put o.dst v) o=rv o v:=by
           unfold val rv
           cases hdd:o.dst with
           | none=>rfl
           | some d=>exact put_slot (hd1 d hdd)
          rw [hvv]; exact hv
     ·
      rename_i hw
      have hwb:¬ Region.wanted o (yielded ops b'.tmps)=true:=by rw [← hwa]; exact hw
      refine ih _ _ _ hfuel (I.step C htr hstab hin' ho hiun hall (hrf w) fun b hb=>?_)
      obtain ⟨e1,e2,_⟩:=same undef b hb
      unfold Holds
      rw [if_neg (by rw [e2]; exact hwb)]
      intro d hdd
      rw [hdd,put_slot (hd1 d hdd)]
theorem wp_region_n {id:Nat} {l:List Oper} {Q:Exit→Act→World→Prop} {a:Act} {w:World} (n:Nat) (Ks:List Kind) (R:World→World→Prop) (hm:P.follows .mixedOrders=true)
 (hB:gB l.toArray n=true) (hin:inB l.toArray a=true) (hrf:∀ w:World,R w w) (htr:∀ u v w:World,R u v→R v w→R u w)
 (hstab:∀ K∈Ks,∀ Y,K=some (.inr Y)→∀ l v w w',R w w'→Y l v w→Y l v w')
 (h:wpG P l.toArray R w.drew (fun a' w'=>wpList P l.toArray Q (l.drop n) a' w') 0 (l.take n) Ks [] a):(Code.region id l.toArray true).wp P Q a w:=by
 have C:=Chk.of hB
 have hle:n≤l.length:=by have:=C.le; simpa using this
 have hin':∀ o d,o∈l.toArray→o.dst=some d→d < a.tmps.size:=by
  intro o d ho hd
  unfold inB at hin
  have:=Array.all_eq_true_iff_forall_mem.1 hin o ho
  simpa [hd] using this
 refine wp_region_any hm ?_
 refine wpAny_of_g (a0:=a) (n:=n) (kind:=fun k=>Ks.getD k none) C hrf htr (fun k Y hk l v w w' hR hY=>?_) hin' (l:=l.take n) (Ks:=Ks) (by simp [hle]) (fun j hj=>?_) (fun j=>by simp)
  (t:=l.drop n) (by simp) (fun j=>by simp) h _ _ _ _ ?_ ?_
 ·
  have hlt:k < Ks.length:=by
   rcases Nat.lt_or_ge k Ks.length with h | h
   · exact h
   · simp [List.getD,List.getElem?_eq_none h] at hk
  have hmem:(some (.inr Y):Kind)∈Ks:=by
   rw [← hk,List.getD_eq_getElem?_getD,List.getElem?_eq_getElem hlt]; exact List.getElem_mem hlt
  exact hstab _ hmem Y rfl l v w w' hR hY
 · have:j < n:=by simp at hj; omega
   simp [this]
 ·
  have:∀ m,m≤l.length→left (Array.replicate l.length false) m=m:=by
   intro m
   induction m with
   | zero=>intro _; rfl
   | succ m ih=>intro hm'; unfold left; rw [ih (by omega)]; simp [show m < l.length by omega]
  have h2:=this n hle
  simp only [List.size_toArray,List.length_drop]
  rw [h2]; omega
 ·
  have hno:∀ k,¬ L (Array.replicate l.toArray.size false) k:=by
   intro k hk
   unfold L at hk
   simp only [Array.getD_eq_getD_getElem?,Array.getElem?_replicate] at hk
   split at hk <;> simp at hk
  exact ⟨by simp,hrf _,rfl,rfl,fun k o _ hk=>(hno k hk).elim,fun _ _=>rfl,fun k hk=>(hno k hk).elim,fun k o _ hk=>(hno k hk).elim⟩
section
variable {Fin:Act→World→Prop} {o:Oper} {rest:List Oper} {Ks:List Kind} {F:List (Nat×(World→Prop))} {a:Act}
variable {i:Nat}
theorem g_nil (h:∀ w,R w1 w→(∀ p∈F,p.2 w)→Fin a w):wpG P ops R w1 Fin i [] Ks F a:=h
theorem g_det (hw:Region.wanted o (yielded ops a.tmps)=true) (h:∃ v,(∀ w,R w1 w→depF F o w→detAt P R o a w v)∧wpG P ops R w1 Fin (i+1) rest Ks F (a.put o.dst v)) :
 wpG P ops R w1 Fin i (o :: rest) (none :: Ks) F a:=by
 unfold wpG; rw [if_pos hw]; exact h
theorem g_con {c:Value} (hw:Region.wanted o (yielded ops a.tmps)=true) (h:∀ w,R w1 w→depF F o w→growAt P R o a w fun u _=>u=c) (hk:wpG P ops R w1 Fin (i+1) rest Ks F (a.put o.dst c)) :
 wpG P ops R w1 Fin i (o :: rest) (some (.inl c) :: Ks) F a:=by
 unfold wpG; rw [if_pos hw]; exact ⟨h,hk⟩
theorem g_new {Y:List (Option Value)→Value→World→Prop} (hw:Region.wanted o (yielded ops a.tmps)=true) (h:∀ w,R w1 w→depF F o w→growAt P R o a w fun u=>Y (look ops a o) (rv o u)) (hk:∀ v,wpG P ops R w1 Fin (i+1) rest Ks ((i,Y (look ops a o) v) :: F) (a.put o.dst v)) :
 wpG P ops R w1 Fin i (o :: rest) (some (.inr Y) :: Ks) F a:=by
 unfold wpG; rw [if_pos hw]; exact ⟨h,hk⟩
theorem g_skip {K:Kind} (hw:Region.wanted o (yielded ops a.tmps)=false) (hk:wpG P ops R w1 Fin (i+1) rest Ks F (a.put o.dst undef)) :
 wpG P ops R w1 Fin i (o :: rest) (K :: Ks) F a:=by
 unfold wpG; rw [if_neg (by rw [hw]; exact Bool.false_ne_true)]; exact hk
end
end
attribute [irreducible] wpG
end Go.Proofs.YtnoehodmmkioaaaGreatDoor.GrowN
namespace Go.Proofs.YtnoehodmmkioaaaGreatDoor.GrowM
open Go
open Go.Proofs.YtnoehodmmkioaaaGreatDoor.Grow (detUpon growUpon detAt growAt bound bound_spec chk1 chk2 chk3 inB look_congr L D slot Agree Agree.same getD_set put_slot put_get_ne put_slot_ne put_size put_defs left left_far left_set left_none left_some mem_ready' wp_of_det wp_of_grow)
open Go.Proofs.YtnoehodmmkioaaaGreatDoor.GrowN (Kind rv val depF wpG)
abbrev look:=@GrowN.look
def chkW (ops:Array Oper) (m n:Nat):Bool:=n == ops.size || (List.range n).all fun h=>decide (h < m) || (List.range (n+1)).any fun j=>decide (h < j) && ((ops[j]?).map fun o=>bound o h).getD false
def chkS (ops:Array Oper) (n:Nat):Bool:=(List.range ops.size).all fun t=>decide (t≤n) || ((ops[t]?).map fun o=>(List.range t).any fun j=>decide (n≤j) && bound o j).getD false
def gM (ops:Array Oper) (m n:Nat):Bool:=Region.noSelect ops && decide (n≤ops.size) && decide (m≤n) && chk1 ops && chk2 ops n && chk3 ops n && chkW ops m n && chkS ops n
structure Chk (ops:Array Oper) (m n:Nat):Prop where
 sel:∀ (j:Nat) (o:Oper) cs b,ops[j]?=some o→o.op≠.select cs b
 le:n≤ops.size
 mn:m≤n
 low:∀ i o,ops[i]?=some o→∀ e∈o.after,Region.binds .any e=true→e.on < i
 uniq:∀ i j d,i < n→j < n→D ops i=some d→D ops j=some d→i=j
 looks:∀ i o s k,i < n→ops[i]?=some o→s∈o.looksAt ops→k < n→D ops k=some s→i=k∨bound o k=true∨∃ p,ops[k]?=some p∧bound p i=true
 waits:n=ops.size∨∀ h,m≤h→h < n→∃ j o,h < j∧j≤n∧ops[j]?=some o∧bound o h=true
 seq:∀ t o,n < t→ops[t]?=some o→∃ j,n≤j∧j < t∧bound o j=true
theorem Chk.of {ops:Array Oper} {m n:Nat} (h:gM ops m n=true):Chk ops m n:=by
 unfold gM at h
 simp only [Bool.and_eq_true,decide_eq_true_eq] at h
 obtain ⟨⟨⟨⟨⟨⟨⟨h0,hle⟩,hmn⟩,h1⟩,h2⟩,h3⟩,h4⟩,h5⟩:=h
 refine ⟨Region.noSelect_spec h0,hle,hmn,?_,?_,?_,?_,?_⟩
 ·
  intro i o ho e he hb
  have hi:i < ops.size:=(Array.getElem?_eq_some_iff.1 ho).1
  have:=List.all_eq_true.1 h1 i (List.mem_range.2 hi)
  simp only [ho,Option.map_some,Option.getD_some] at this
  have:=Array.all_eq_true_iff_forall_mem.1 this e he
  simpa [hb] using this
 ·
  intro i j d hi hj hdi hdj
  have:=List.all_eq_true.1 h2 i (List.mem_range.2 hi)
  have:=List.all_eq_true.1 this j (List.mem_range.2 hj)
  unfold D at hdi hdj
  simpa [hdi,hdj] using this
 ·
  intro i o s k hi ho hs hk hd
  have:=List.all_eq_true.1 h3 i (List.mem_range.2 hi)
  simp only [ho,Option.map_some,Option.getD_some] at this
  have:=List.all_eq_true.1 this s hs
  have:=List.all_eq_true.1 this k (List.mem_range.2 hk)
  unfold D at hd
  cases hk2:ops[k]? with
  | none=>simp [hk2] at hd
  | some q =>
    simp only [hk2,Option.bind_some] at hd
    simp only [hk2,Option.bind_some,hd,Option.map_some,Option.getD_some,Bool.or_eq_true,beq_iff_eq,bne_self_eq_false,Bool.false_eq_true,false_or] at this
    rcases this with (h | h) | h
    · exact .inl h
    · exact .inr (.inl h)
    · exact .inr (.inr ⟨q,rfl,h⟩)
 ·
  unfold chkW at h4
  simp only [Bool.or_eq_true,beq_iff_eq] at h4
  rcases h4 with h4 | h4
  · exact .inl h4
  ·
   refine .inr fun h hm hh=>?_
   have:=List.all_eq_true.1 h4 h (List.mem_range.2 hh)
   rw [Bool.or_eq_true,decide_eq_true_eq] at this
   obtain ⟨j,hj,hb⟩:=List.any_eq_true.1 (this.resolve_left (by omega))
   simp only [Bool.and_eq_true,decide_eq_true_eq] at hb
   cases ho:ops[j]? with
   | none=>simp [ho] at hb
   | some o=>exact ⟨j,o,hb.1,by have:=List.mem_range.1 hj; omega,ho,by simpa [ho] using hb.2⟩
 ·
  intro t o ht ho
  have hi:t < ops.size:=(Array.getElem?_eq_some_iff.1 ho).1
  have:=List.all_eq_true.1 h5 t (List.mem_range.2 hi)
  rw [Bool.or_eq_true,decide_eq_true_eq] at this
  have:=this.resolve_left (by omega)
  rw [ho] at this
  obtain ⟨j,hj,hb⟩:=List.any_eq_true.1 (show ((List.range t).any fun j=>decide (n≤j) && bound o j)=true from this)
  rw [Bool.and_eq_true,decide_eq_true_eq] at hb
  exact ⟨j,hb.1,List.mem_range.1 hj,hb.2⟩
section
variable {P:Program} {ops:Array Oper} {R:World→World→Prop} {w1:World}
section
variable (P:Program) (ops:Array Oper) (R:World→World→Prop) (w1:World) (a0:Act) (m n:Nat) (kind:Nat→Kind)
def GoodF (a:Act) (k:Nat) (o:Oper) (F:List (Nat×(World→Prop))):Prop:=∀ p∈F,bound o p.1=true →
 ∃ oj Y bj,(m≤p.1∧p.1 < k)∧ops[p.1]?=some oj∧kind p.1=some (.inr Y)∧Agree ops a0 a bj p.1 oj∧Region.wanted oj (yielded ops bj.tmps)=true∧p.2=Y (look ops bj oj) (val a oj)
def Holds (a:Act) (w:World) (k:Nat) (o:Oper) (b:Act):Prop :=
 if Region.wanted o (yielded ops b.tmps)=true then
  match kind k with
  | none=>∀ v F,GoodF ops a0 m kind a k o F→(∀ w',R w1 w'→depF F o w'→detAt P R o b w' v)→∀ d,o.dst=some d→slot a d=v
  | some (.inl c)=>∀ d,o.dst=some d→slot a d=c
  | some (.inr Y)=>Y (look ops b o) (val a o) w
 else ∀ d,o.dst=some d→slot a d=undef
structure Inv (listed:Array Bool) (a:Act) (w:World):Prop where
 size:listed.size=ops.size
 reach:R w1 w
 defs:a.defers=a0.defers
 tsz:a.tmps.size=a0.tmps.size
 closed:∀ k o,ops[k]?=some o→L listed k→∀ e∈o.after,Region.binds .any e=true→L listed e.on
 slots:∀ s,(∀ k,m≤k→L listed k→D ops k≠some s)→a.tmps[s]?=a0.tmps[s]?
 head:∀ k,L listed k→k < n
 vals:∀ k o,ops[k]?=some o→m≤k→L listed k→∀ b,Agree ops a0 a b k o→Holds P ops R w1 a0 m kind a w k o b
 lowL:∀ k,k < m→L listed k
end
variable {a0:Act} {m n:Nat} {kind:Nat→Kind}
theorem bound_lt (C:Chk ops m n) {i k:Nat} {o:Oper} (ho:ops[i]?=some o) (h:bound o k=true):k < i:=by
 obtain ⟨e,he,hb,rfl⟩:=bound_spec h
 exact C.low i o ho e he hb
theorem dep_listed (C:Chk ops m n) {listed:Array Bool} {k j:Nat} {o:Oper} {s:Tmp} (hk:k < n) (ho:ops[k]?=some o)
 (hall:∀ e∈o.after,Region.binds .any e=true→L listed e.on) (hs:s∈o.looksAt ops) (hj:j < k) (hd:D ops j=some s):L listed j:=by
 rcases C.looks k o s j hk ho hs (by omega) hd with h | h | ⟨p,hp,h⟩
 · omega
 · obtain ⟨e,he,hb,rfl⟩:=bound_spec h
   exact hall e he hb
 · have:=bound_lt C hp h; omega
theorem depF_of {listed:Array Bool} {a:Act} {w:World} (I:Inv P ops R w1 a0 m n kind listed a w) {k:Nat} {o:Oper}
 (hall:∀ e∈o.after,Region.binds .any e=true→L listed e.on) {F:List (Nat×(World→Prop))} (hF:GoodF ops a0 m kind a k o F):depF F o w:=by
 intro p hp hl
 obtain ⟨oj,Y,bj,hj,hoj,hk',hb,hw,he⟩:=hF p hp hl
 obtain ⟨e,hem,heb,heo⟩:=bound_spec hl
 have hlj:L listed p.1:=heo ▸ hall e hem heb
 have:=I.vals p.1 oj hoj hj.1 hlj bj hb
 unfold Holds at this
 rw [if_pos hw,hk'] at this
 rw [he]; exact this
theorem val_put {a:Act} {o ok:Oper} {v:Value} (h:∀ d,ok.dst=some d→o.dst≠some d):val (a.put o.dst v) ok=val a ok:=by
 unfold val
 cases hd:ok.dst with
 | none=>rfl
 | some d=>exact put_slot_ne (h d hd)
theorem Inv.step (C:Chk ops m n) (htr:∀ u v w:World,R u v→R v w→R u w) (hstab:∀ k Y,kind k=some (.inr Y)→∀ l v w w',R w w'→Y l v w→Y l v w')
 {listed:Array Bool} {a:Act} {w w':World} (I:Inv P ops R w1 a0 m n kind listed a w) {i:Nat} {o:Oper} (hin:i < n) (ho:ops[i]?=some o) (hun:¬ L listed i)
 (hall:∀ e∈o.after,Region.binds .any e=true→L listed e.on) {v:Value} (hR:R w w')
 (hv:∀ b,Agree ops a0 (a.put o.dst v) b i o→Holds P ops R w1 a0 m kind (a.put o.dst v) w' i o b) :
 Inv P ops R w1 a0 m n kind (listed.setIfInBounds i true) (a.put o.dst v) w':=by
 have hi:i < listed.size:=by rw [I.size]; exact (Array.getElem?_eq_some_iff.1 ho).1
 have hDi:D ops i=o.dst:=by simp [D,ho]
 have keep:∀ k ok,ops[k]?=some ok→L listed k→∀ s∈ok.looksAt ops,∀ j,j < k→D ops j=some s→o.dst≠some s:=by
  intro k ok hok hk s hs j hj hd he
  have hkn:=I.head k hk
  have:j=i:=C.uniq j i s (by omega) hin hd (by rw [hDi,he])
  subst this
  exact hun (dep_listed C hkn hok (I.closed k ok hok hk) hs hj hd)
 have agr:∀ k ok,ops[k]?=some ok→L listed k→∀ b,Agree ops a0 (a.put o.dst v) b k ok↔Agree ops a0 a b k ok:=by
  intro k ok hok hk b
  constructor
  iterate 2
   · intro h; exact ⟨fun s hs j hj hd=>by rw [h.1 s hs j hj hd,put_get_ne (keep k ok hok hk s hs j hj hd)],h.2⟩
 have hmi:m≤i:=Nat.le_of_not_lt fun h=>hun (I.lowL i h)
 refine ⟨by simpa using I.size,htr _ _ _ I.reach hR,put_defs.trans I.defs,put_size.trans I.tsz,?_,?_,?_,?_,fun k hk=>(getD_set hi).2 (.inr (I.lowL k hk))⟩
 ·
  intro k ok hok hk e he hb
  rcases (getD_set hi).1 hk with rfl | hk
  · rw [ho] at hok; cases hok; exact (getD_set hi).2 (.inr (hall e he hb))
  · exact (getD_set hi).2 (.inr (I.closed k ok hok hk e he hb))
 · intro s hs
   rw [put_get_ne (by rw [← hDi]; exact hs i hmi ((getD_set hi).2 (.inl rfl)))]
   exact I.slots s fun k hmk hk=>hs k hmk ((getD_set hi).2 (.inr hk))
 ·
  intro k hk
  rcases (getD_set hi).1 hk with rfl | hk
  · exact hin
  · exact I.head k hk
 ·
  intro k ok hok hmk hk b hb
  rcases (getD_set hi).1 hk with rfl | hk
  · rw [ho] at hok; cases hok; exact hv b hb
  ·
   have hki:k≠i:=fun e=>hun (e ▸ hk)
   have ne:∀ k' ok',ops[k']?=some ok'→L listed k'→∀ d,ok'.dst=some d→o.dst≠some d:=fun k' ok' hok' hk' d hd e =>
    (fun (e2:k'=i)=>hun (e2 ▸ hk')) (C.uniq k' i d (I.head k' hk') hin (by simp [D,hok',hd]) (by rw [hDi,e]))
   have h:=I.vals k ok hok hmk hk b ((agr k ok hok hk b).1 hb)
   unfold Holds at h ⊢
   split
   ·
    rename_i hw
    rw [if_pos hw] at h
    cases hkd:kind k with
    | none =>
      rw [hkd] at h
      intro v' F hF hspec d hd
      rw [put_slot_ne (ne k ok hok hk d hd)]
      refine h v' F (fun p hp hl=>?_) hspec d hd
      obtain ⟨oj,Y,bj,hj,hoj,hkj,hbj,hwj,he⟩:=hF p hp hl
      obtain ⟨e,hem,heb,heo⟩:=bound_spec hl
      have hlj:L listed p.1:=heo ▸ I.closed k ok hok hk e hem heb
      exact ⟨oj,Y,bj,hj,hoj,hkj,(agr p.1 oj hoj hlj bj).1 hbj,hwj,by rw [he,val_put (ne p.1 oj hoj hlj)]⟩
    | some x =>
      rw [hkd] at h
      cases x with
      | inl c=>exact fun d hd=>by rw [put_slot_ne (ne k ok hok hk d hd)]; exact h d hd
      | inr Y =>
        show Y _ (val _ ok) w'
        rw [val_put (ne k ok hok hk)]
        exact hstab k Y hkd _ _ _ _ hR h
   · rename_i hw
     rw [if_neg hw] at h
     exact fun d hd=>by rw [put_slot_ne (ne k ok hok hk d hd)]; exact h d hd
section
variable (P:Program) (ops:Array Oper) (R:World→World→Prop) (w1:World) (a0:Act) (m n:Nat) (kind:Nat→Kind)
structure Path (listed:Array Bool) (a:Act) (k:Nat) (b:Act) (F:List (Nat×(World→Prop))):Prop where
 defs:b.defers=a0.defers
 tsz:b.tmps.size=a0.tmps.size
 other:∀ s,(∀ j,m≤j→j < k→D ops j≠some s)→b.tmps[s]?=a0.tmps[s]?
 same:∀ j,j < k→L listed j→∀ d,D ops j=some d→b.tmps[d]?=a.tmps[d]?
 facts:∀ p∈F,∃ oj Y v bj,(m≤p.1∧p.1 < k)∧ops[p.1]?=some oj∧kind p.1=some (.inr Y)∧p.2=Y (look ops bj oj) v ∧
  (L listed p.1→v=val a oj∧Agree ops a0 a bj p.1 oj∧Region.wanted oj (yielded ops bj.tmps)=true)
def Spec (a:Act) (i:Nat) (o:Oper):Prop:=∃ b F,Agree ops a0 a b i o∧GoodF ops a0 m kind a i o F∧(Region.wanted o (yielded ops b.tmps)=true →
 match kind i with
 | none=>∃ v,∀ w',R w1 w'→depF F o w'→detAt P R o b w' v
 | some (.inl c)=>∀ w',R w1 w'→depF F o w'→growAt P R o b w' fun u _=>u=c
 | some (.inr Y)=>∀ w',R w1 w'→depF F o w'→growAt P R o b w' fun u=>Y (look ops b o) (rv o u))
end
theorem Path.agree (C:Chk ops m n) {listed:Array Bool} {a b:Act} {F:List (Nat×(World→Prop))} {k:Nat} {o:Oper} (hp:Path ops a0 m kind listed a k b F) (hk:k < n) (ho:ops[k]?=some o)
 (hall:∀ e∈o.after,Region.binds .any e=true→L listed e.on):Agree ops a0 a b k o∧GoodF ops a0 m kind a k o F:=by
 refine ⟨⟨fun s hs j hj hd=>hp.same j hj (dep_listed C hk ho hall hs hj hd) s hd,fun s _ hn=>hp.other s fun j _ hj=>hn j hj⟩,fun p hpF hl=>?_⟩
 obtain ⟨oj,Y,v,bj,hj,hoj,hkj,he,hL⟩:=hp.facts p hpF
 obtain ⟨e,hem,heb,heo⟩:=bound_spec hl
 obtain ⟨hv,hbj,hw⟩:=hL (heo ▸ hall e hem heb)
 exact ⟨oj,Y,bj,hj,hoj,hkj,hbj,hw,by rw [he,hv]⟩
theorem Path.step (C:Chk ops m n) {listed:Array Bool} {a b:Act} {w:World} {F:List (Nat×(World→Prop))} {k:Nat} {o:Oper} (I:Inv P ops R w1 a0 m n kind listed a w)
 (hin:∀ o d,o∈ops→o.dst=some d→d < a0.tmps.size) (hp:Path ops a0 m kind listed a k b F) (hmk:m≤k) (hk:k < n) (ho:ops[k]?=some o) (v:Value)
 (hv:L listed k→∀ d,o.dst=some d→v=slot a d):Path ops a0 m kind listed a (k+1) (b.put o.dst v) F:=by
 have hDk:D ops k=o.dst:=by simp [D,ho]
 refine ⟨put_defs.trans hp.defs,put_size.trans hp.tsz,fun s hs=>?_,fun j hj hL d hd=>?_,fun p hpF=>?_⟩
 · rw [put_get_ne (by rw [← hDk]; exact hs k hmk (by omega))]
   exact hp.other s fun j hmj hj=>hs j hmj (by omega)
 ·
  by_cases e:j=k
  ·
   subst e
   rw [hDk] at hd
   have hd1:=hin o d (Array.mem_of_getElem? ho) hd
   have:=hv hL d hd
   rw [hd]
   have h1:d < b.tmps.size:=by rw [hp.tsz]; exact hd1
   have h2:d < a.tmps.size:=by rw [I.tsz]; exact hd1
   simp only [Act.put,Array.getElem?_setIfInBounds_self_of_lt h1,this,slot]
   simp [h2]
  · rw [put_get_ne fun e'=>e (C.uniq j k d (I.head j hL) hk hd (by rw [hDk,e']))]
    exact hp.same j (by omega) hL d hd
 · obtain ⟨oj,Y,v,bj,hj,h⟩:=hp.facts p hpF
   exact ⟨oj,Y,v,bj,by omega,h⟩
theorem Path.fact {listed:Array Bool} {a b b':Act} {F:List (Nat×(World→Prop))} {k:Nat} {o:Oper} (hp:Path ops a0 m kind listed a (k+1) b' F) (hmk:m≤k) (ho:ops[k]?=some o) {Y:List (Option Value)→Value→World→Prop}
 (hY:kind k=some (.inr Y)) (v:Value) (hv:L listed k→v=val a o∧Agree ops a0 a b k o∧Region.wanted o (yielded ops b.tmps)=true) :
 Path ops a0 m kind listed a (k+1) b' ((k,Y (look ops b o) v) :: F):=by
 refine ⟨hp.defs,hp.tsz,hp.other,hp.same,fun p hpF=>?_⟩
 rcases List.mem_cons.1 hpF with rfl | hpF
 · exact ⟨o,Y,v,b,⟨hmk,by show k < k+1; omega⟩,ho,hY,rfl,hv⟩
 · exact hp.facts p hpF
theorem descend (C:Chk ops m n) (hin:∀ o d,o∈ops→o.dst=some d→d < a0.tmps.size) {Fin:Act→World→Prop} {listed:Array Bool} {a:Act} {w:World} (I:Inv P ops R w1 a0 m n kind listed a w) :
 ∀ (l:List Oper) (k:Nat) (Ks:List Kind) (F:List (Nat×(World→Prop))) (b:Act),k+l.length=n→m≤k→(∀ j,j < l.length→l[j]?=ops[k+j]?)→(∀ j,Ks.getD j none=kind (k+j)) →
  Path ops a0 m kind listed a k b F→wpG P ops R w1 Fin k l Ks F b →
  (∀ i o,k≤i→i < n→ops[i]?=some o→(∀ e∈o.after,Region.binds .any e=true→L listed e.on)→Spec P ops R w1 a0 m kind a i o) ∧
  (∃ b F,Path ops a0 m kind listed a n b F∧∀ w,R w1 w→(∀ p∈F,p.2 w)→Fin b w)
 | [],k,Ks,F,b,hn,_,_,_,hp,h=>by
   have:k=n:=by simpa using hn
   subst this
   exact ⟨fun i o h1 h2=>by omega,b,F,hp,by unfold wpG at h; exact h⟩
 | o :: l,k,Ks,F,b,hn,hmk,hl,hK,hp,h=>by
   simp only [List.length_cons] at hn
   have ho:ops[k]?=some o:=by have:=hl 0 (by simp); simpa using this.symm
   have hk:k < n:=by omega
   have hl':∀ j,j < l.length→l[j]?=ops[(k+1)+j]?:=fun j hj=>by
    have:=hl (j+1) (by simp; omega)
    rw [show k+1+j=k+(j+1) by omega,← this]; rfl
   have hK':∀ j,Ks.tail.getD j none=kind ((k+1)+j):=fun j=>by
    have:=hK (j+1)
    rw [show k+1+j=k+(j+1) by omega,← this]
    cases Ks <;> simp
   have hK0:Ks.headD none=kind k:=by
    have:=hK 0
    rw [Nat.add_zero] at this
    rw [← this]
    cases Ks <;> simp
   have hall:L listed k→∀ e∈o.after,Region.binds .any e=true→L listed e.on:=fun hL=>I.closed k o ho hL
   have key:∃ b' F',Path ops a0 m kind listed a (k+1) b' F'∧wpG P ops R w1 Fin (k+1) l Ks.tail F' b' ∧
    (Region.wanted o (yielded ops b.tmps)=true→match kind k with
     | none=>∃ v,∀ w',R w1 w'→depF F o w'→detAt P R o b w' v
     | some (.inl c)=>∀ w',R w1 w'→depF F o w'→growAt P R o b w' fun u _=>u=c
     | some (.inr Y)=>∀ w',R w1 w'→depF F o w'→growAt P R o b w' fun u=>Y (look ops b o) (rv o u)):=by
    unfold wpG at h
    split at h
    ·
     rename_i hw
     rw [hK0] at h
     cases hkd:kind k with
     | none =>
       rw [hkd] at h
       obtain ⟨v,hs,h⟩:=h
       refine ⟨_,F,hp.step C I hin hmk hk ho v fun hL d hd=>?_,h,fun _=>⟨v,hs⟩⟩
       obtain ⟨hA,hG⟩:=hp.agree C hk ho (hall hL)
       have:=I.vals k o ho hmk hL b hA
       unfold Holds at this
       rw [if_pos hw,hkd] at this
       exact (this v F hG hs d hd).symm
     | some x =>
       rw [hkd] at h
       cases x with
       | inl c =>
         obtain ⟨hs,h⟩:=h
         refine ⟨_,F,hp.step C I hin hmk hk ho c fun hL d hd=>?_,h,fun _=>hs⟩
         obtain ⟨hA,hG⟩:=hp.agree C hk ho (hall hL)
         have:=I.vals k o ho hmk hL b hA
         unfold Holds at this
         rw [if_pos hw,hkd] at this
         exact (this d hd).symm
       | inr Y =>
         obtain ⟨hs,h⟩:=h
         have hv:L listed k→∀ d,o.dst=some d→val a o=slot a d:=fun _ d hd=>by simp [val,hd]
         exact ⟨_,_,(hp.step C I hin hmk hk ho _ hv).fact hmk ho hkd _ fun hL=>⟨rfl,(hp.agree C hk ho (hall hL)).1,hw⟩,h _,fun _=>hs⟩
    · rename_i hw
      refine ⟨_,F,hp.step C I hin hmk hk ho undef fun hL d hd=>?_,h,fun hw'=>absurd hw' hw⟩
      have:=I.vals k o ho hmk hL b (hp.agree C hk ho (hall hL)).1
      unfold Holds at this
      rw [if_neg hw] at this
      exact (this d hd).symm
   obtain ⟨b',F',hp',h',hs⟩:=key
   obtain ⟨r1,r2⟩:=descend C hin I l (k+1) Ks.tail F' b' (by omega) (by omega) hl' hK' hp' h'
   refine ⟨fun i oi h1 h2 hoi hai=>?_,r2⟩
   by_cases e:i=k
   · subst e
     rw [ho] at hoi; cases hoi
     exact ⟨b,F,(hp.agree C h2 ho hai).1,(hp.agree C h2 ho hai).2,hs⟩
   · exact r1 i oi (by omega) h2 hoi hai
theorem Inv.settle {listed:Array Bool} {a:Act} {w:World} (I:Inv P ops R w1 a0 m n kind listed a w) (hall:∀ k,k < n→L listed k)
 {b:Act} {F:List (Nat×(World→Prop))} (hp:Path ops a0 m kind listed a n b F):b=a∧∀ p∈F,p.2 w:=by
 constructor
 ·
  have ht:b.tmps=a.tmps:=by
   apply Array.ext_getElem?
   intro s
   by_cases hj:∃ j,j < n∧D ops j=some s
   · obtain ⟨j,hj,hd⟩:=hj
     exact hp.same j hj (hall j hj) s hd
   · have hn:∀ j,j < n→D ops j≠some s:=fun j hj' hd=>hj ⟨j,hj',hd⟩
     rw [hp.other s (fun j _ hj=>hn j hj),I.slots s fun k _ hk=>hn k (I.head k hk)]
  have hd:b.defers=a.defers:=hp.defs.trans I.defs.symm
  cases a; cases b; simp_all
 ·
  intro p hpF
  obtain ⟨oj,Y,v,bj,hj,hoj,hkj,he,hL⟩:=hp.facts p hpF
  obtain ⟨hv,hbj,hw⟩:=hL (hall p.1 hj.2)
  have:=I.vals p.1 oj hoj hj.1 (hall p.1 hj.2) bj hbj
  unfold Holds at this
  rw [if_pos hw,hkj] at this
  rw [he,hv]; exact this
theorem left_low {listed:Array Bool} {m:Nat} (h:∀ k,L listed k↔k < m):∀ n,left listed n=n - m
 | 0=>by simp [left]
 | n+1=>by
   unfold left
   rw [left_low h n]
   by_cases hn:n < m
   · have:listed.getD n false=true:=(h n).2 hn
     rw [this]; simp; omega
   · have:¬ listed.getD n false=true:=fun h2=>hn ((h n).1 h2)
     rw [if_neg this]; omega
def St (P:Program) (ops:Array Oper) (Q:Exit→Act→World→Prop) (m:Nat) (a:Act) (w:World):Prop :=
 ∀ listed:Array Bool,listed.size=ops.size→(∀ k,L listed k↔k < m)→wpAny P .any ops Q (ops.size - m) listed a w
theorem wpAny_of_m (C:Chk ops m n) (hrf:∀ w:World,R w w) (htr:∀ u v w:World,R u v→R v w→R u w) (hstab:∀ k Y,kind k=some (.inr Y)→∀ l v w w',R w w'→Y l v w→Y l v w')
 (hin:∀ o d,o∈ops→o.dst=some d→d < a0.tmps.size) {Q:Exit→Act→World→Prop} {l:List Oper} (hll:m+l.length=n) (hl:∀ j,j < l.length→l[j]?=ops[m+j]?) {Ks:List Kind} (hK:∀ j,Ks.getD j none=kind (m+j))
 (h:wpG P ops R w1 (St P ops Q n) m l Ks [] a0) :
 ∀ (fuel:Nat) (listed:Array Bool) (a:Act) (w:World),fuel=left listed n+(ops.size - n)→Inv P ops R w1 a0 m n kind listed a w→wpAny P .any ops Q fuel listed a w:=by
 have first:∀ (listed:Array Bool) (a:Act) (w:World),Inv P ops R w1 a0 m n kind listed a w→Path ops a0 m kind listed a m a0 []:=fun listed a w I =>
  ⟨rfl,rfl,fun _ _=>rfl,fun j hj hL d hd=>(I.slots d fun k hk hLk hdk=>(by have:=C.uniq j k d (by have:=C.mn; omega) (I.head k hLk) hd hdk; omega)).symm,fun p hp=>by cases hp⟩
 have last:∀ (listed:Array Bool) (a:Act) (w:World),Inv P ops R w1 a0 m n kind listed a w→left listed n=0→wpAny P .any ops Q (ops.size - n) listed a w:=by
  intro listed a w I hz
  have hall:=left_none n hz
  obtain ⟨b,F,hp,hfin⟩:=(descend C hin I l m Ks [] a0 hll (Nat.le_refl _) hl hK (first _ _ _ I) h).2
  obtain ⟨rfl,hF⟩:=I.settle hall hp
  exact hfin w I.reach hF listed I.size fun k=>⟨I.head k,hall k⟩
 intro fuel
 induction fuel with
 | zero =>
   intro listed a w hf I
   have:=last listed a w I (by omega)
   rw [show ops.size - n=0 by omega] at this
   exact this
 | succ fuel ih =>
   intro listed a w hf I
   obtain ⟨hsp,b,F,hp,hfin⟩:=descend C hin I l m Ks [] a0 hll (Nat.le_refl _) hl hK (first _ _ _ I) h
   by_cases hz:left listed n=0
   · have:=last listed a w I hz
     rw [show ops.size - n=fuel+1 by omega] at this
     exact this
   ·
    obtain ⟨k,hkn,hkun,hklow⟩:=left_some n (by omega:0 < left listed n)
    have hks:k < ops.size:=by have:=C.le; omega
    refine ⟨fun hr=>?_,fun i hi=>?_⟩
    · have:k∈Region.ready .any ops listed:=(mem_ready' I.size).2 ⟨hkun,ops[k],Array.getElem?_eq_getElem hks,fun e he hb=>hklow _ (C.low k _ (Array.getElem?_eq_getElem hks) e he hb)⟩
      rw [hr] at this; cases this
    ·
     obtain ⟨hiun,o,ho,hall⟩:=(mem_ready' I.size).1 hi
     have his:=(Array.getElem?_eq_some_iff.1 ho).1
     have hmi:m≤i:=Nat.le_of_not_lt fun h=>hiun (I.lowL i h)
     have hin':i < n:=by
      by_cases hlt:i < n
      · exact hlt
      ·
       -- one of the first n is still to come: it is waited for, by the n-th at the furthest
       rcases C.waits with hw | hw
       · omega
       ·
        have top:∀ d h,h < n→n - h≤d→L listed h∨(∃ h',h≤h'∧h' < n∧¬ L listed h'∧∃ o,ops[n]?=some o∧bound o h'=true):=by
         intro d
         induction d with
         | zero=>intro h h1 h2; omega
         | succ d ihd =>
           intro h h1 h2
           by_cases hLh:L listed h
           · exact .inl hLh
           · have hmh:m≤h:=Nat.le_of_not_lt fun h3=>hLh (I.lowL h h3)
             obtain ⟨j,oj,h3,h4,hoj,hb⟩:=hw h hmh h1
             by_cases hjn:j=n
             · exact .inr ⟨h,Nat.le_refl _,h1,hLh,oj,hjn ▸ hoj,hb⟩
             · rcases ihd j (by omega) (by omega) with h5 | ⟨h',a1,a2,a3,a4⟩
               · obtain ⟨e,he,hbe,hon⟩:=bound_spec hb
                 exact absurd (hon ▸ I.closed j oj hoj h5 e he hbe) hLh
               · exact .inr ⟨h',by omega,a2,a3,a4⟩
        rcases top (n - k) k hkn (Nat.le_refl _) with h5 | ⟨h',_,a2,a3,on,hon,hb⟩
        · exact absurd h5 hkun
        · by_cases hie:i=n
          · subst hie
            rw [ho] at hon; cases hon
            obtain ⟨e,he,hbe,hon⟩:=bound_spec hb
            exact absurd (hon ▸ hall e he hbe) a3
          · obtain ⟨j,h6,h7,h8⟩:=C.seq i o (by omega) ho
            obtain ⟨e,he,hbe,hon2⟩:=bound_spec h8
            have:=I.head j (hon2 ▸ hall e he hbe)
            omega
     obtain ⟨b',F',hA,hG,hspec⟩:=hsp i o (by omega) hin' ho hall
     have hsel:=fun cs c=>C.sel i o cs c ho
     have hab:∀ s∈o.looksAt ops,a.tmps[s]?=b'.tmps[s]?:=by
      intro s hs
      by_cases hj:∃ j,j < i∧D ops j=some s
      · obtain ⟨j,hj,hd⟩:=hj
        exact (hA.1 s hs j hj hd).symm
      · have hn':∀ j,j < i→D ops j≠some s:=fun j hj' hd=>hj ⟨j,hj',hd⟩
        rw [hA.2 s hs hn']
        refine I.slots s fun j _ hLj hd=>?_
        rcases C.looks i o s j hin' ho hs (I.head j hLj) hd with hij | hij | ⟨q,hq,hij⟩
        · subst hij; exact hiun hLj
        · exact hn' j (bound_lt C ho hij) hd
        · obtain ⟨e,he,hb,rfl⟩:=bound_spec hij
          exact hiun (I.closed j q hq hLj e he hb)
     obtain ⟨hex,hwa⟩:=look_congr (ops:=ops) hsel hab
     have hdep:=depF_of I hall hG
     have hfuel:fuel=left (listed.setIfInBounds i true) n+(ops.size - n):=by
      have:=left_set (listed:=listed) (by rw [I.size]; exact his) hiun n hin'; omega
     have same:∀ (v:Value) b,Agree ops a0 (a.put o.dst v) b i o→execOp b.eval o=execOp b'.eval o∧Region.wanted o (yielded ops b.tmps)=Region.wanted o (yielded ops b'.tmps)∧look ops b o=look ops b' o:=by
      intro v b hb
      have hb2:Agree ops a0 a b i o:=by
       refine ⟨fun s hs j hj hd=>?_,hb.2⟩
       rw [hb.1 s hs j hj hd]
       refine put_get_ne fun e=>?_
       have:j=i:=C.uniq j i s (by omega) hin' hd (by simp [D,ho,e])
       omega
      obtain ⟨q1,q2⟩:=look_congr hsel (hb2.same hA)
      exact ⟨q1,q2,List.map_congr_left (hb2.same hA)⟩
     have good:∀ (v:Value) F,GoodF ops a0 m kind (a.put o.dst v) i o F→GoodF ops a0 m kind a i o F:=by
      intro v F hF p hp hl
      obtain ⟨oj,Y,bj,hj,hoj,hkj,hbj,hwj,he⟩:=hF p hp hl
      have hne:∀ d,oj.dst=some d→o.dst≠some d:=fun d hd e=>by
       have:p.1=i:=C.uniq p.1 i d (by omega) hin' (by simp [D,hoj,hd]) (by simp [D,ho,e])
       omega
      refine ⟨oj,Y,bj,hj,hoj,hkj,⟨fun s hs j' hj' hd'=>?_,hbj.2⟩,hwj,by rw [he,val_put hne]⟩
      rw [hbj.1 s hs j' hj' hd']
      refine put_get_ne fun e=>?_
      have:j'=i:=C.uniq j' i s (by omega) hin' hd' (by simp [D,ho,e])
      subst this
      omega
     have hd1:∀ d,o.dst=some d→d < a.tmps.size:=fun d hd=>by rw [I.tsz]; exact hin o d (Array.mem_of_getElem? ho) hd
     unfold wpOp
     simp only [ho]
     split
     ·
      rename_i hw
      have hwb:Region.wanted o (yielded ops b'.tmps)=true:=by rw [← hwa]; exact hw
      have hspec:=hspec hwb
      refine .inl ?_
      cases hkd:kind i with
      | none =>
        rw [hkd] at hspec
        obtain ⟨v,hs⟩:=hspec
        have hd:detAt P R o a w v:=by unfold detAt; rw [hex]; exact hs w I.reach hdep
        refine wp_of_det hd fun w' hR=>ih _ _ _ hfuel (I.step C htr hstab hin' ho hiun hall hR fun b hb=>?_)
        obtain ⟨e1,e2,_⟩:=same v b hb
        unfold Holds
        rw [if_pos (by rw [e2]; exact hwb),hkd]
        intro v' F2 hF2 hs2 d hdd
        have h1:=hs w I.reach hdep
        have h2:=hs2 w I.reach (depF_of I hall (good v F2 hF2))
        unfold detAt at h1 h2
        rw [e1] at h2
        rw [hdd,put_slot (hd1 d hdd)]
        generalize (execOp b'.eval o).run P w=r at h1 h2
        cases r with
        | ok x w'' =>
          cases x <;> simp only [detUpon] at h1 h2
          case value u=>rw [← h1.1,h2.1]
          case skip=>rw [← h1.1,h2.1]
        | halt x w''=>simp only [detUpon] at h1
      | some x =>
        rw [hkd] at hspec
        cases x with
        | inl c =>
          have hg:growAt P R o a w fun u _=>u=c:=by unfold growAt; rw [hex]; exact hspec w I.reach hdep
          refine wp_of_grow hg fun v w' hv hR=>ih _ _ _ hfuel (I.step C htr hstab hin' ho hiun hall hR fun b hb=>?_)
          obtain ⟨e1,e2,_⟩:=same v b hb
          unfold Holds
          rw [if_pos (by rw [e2]; exact hwb),hkd]
          intro d hdd
          rw [hdd,put_slot (hd1 d hdd)]; exact hv
        | inr Y =>
          have hg:growAt P R o a w fun u=>Y (look ops b' o) (rv o u):=by unfold growAt; rw [hex]; exact hspec w I.reach hdep
          refine wp_of_grow hg fun v w' hv hR=>ih _ _ _ hfuel (I.step C htr hstab hin' ho hiun hall hR fun b hb=>?_)
          obtain ⟨e1,e2,_⟩:=same v b hb
          unfold Holds
          rw [if_pos (by rw [e2]; exact hwb),hkd]
          show Y (look ops b o) (val _ o) w'
          rw [(same v b hb).2.2]
          have hvv:val (a.put o.dst v) o=rv o v:=by
           unfold val rv
           cases hdd:o.dst with
           | none=>rfl
           | some d=>exact put_slot (hd1 d hdd)
          rw [hvv]; exact hv
     ·
      rename_i hw
      have hwb:¬ Region.wanted o (yielded ops b'.tmps)=true:=by rw [← hwa]; exact hw
      refine ih _ _ _ hfuel (I.step C htr hstab hin' ho hiun hall (hrf w) fun b hb=>?_)
      obtain ⟨e1,e2,_⟩:=same undef b hb
      unfold Holds
      rw [if_neg (by rw [e2]; exact hwb)]
      intro d hdd
      rw [hdd,put_slot (hd1 d hdd)]
variable {Q:Exit→Act→World→Prop}
theorem st_grow {a:Act} {w:World} (n:Nat) (Ks:List Kind) (R:World→World→Prop) {l:List Oper} {m:Nat}
 (hB:gM l.toArray m n=true) (hin:inB l.toArray a=true) (hrf:∀ w:World,R w w) (htr:∀ u v w:World,R u v→R v w→R u w)
 (hstab:∀ K∈Ks,∀ Y,K=some (.inr Y)→∀ l v w w',R w w'→Y l v w→Y l v w')
 (h:wpG P l.toArray R w (St P l.toArray Q n) m ((l.drop m).take (n - m)) Ks [] a):St P l.toArray Q m a w:=by
 have C:=Chk.of hB
 have hle:n≤l.length:=by have:=C.le; simpa using this
 have hmn:=C.mn
 have hin':∀ o d,o∈l.toArray→o.dst=some d→d < a.tmps.size:=by
  intro o d ho hd
  unfold inB at hin
  have:=Array.all_eq_true_iff_forall_mem.1 hin o ho
  simpa [hd] using this
 intro listed hs hL
 refine wpAny_of_m (R:=R) (w1:=w) (a0:=a) (m:=m) (n:=n) (kind:=fun k=>if m≤k then Ks.getD (k - m) none else none) C hrf htr (fun k Y hk l v w w' hR hY=>?_) hin' (l:=(l.drop m).take (n - m)) (Ks:=Ks)
  (by simp; omega) (fun j hj=>?_) (fun j=>by simp) h _ _ _ _ ?_ ?_
 ·
  split at hk
  ·
   have hlt:k - m < Ks.length:=by
    rcases Nat.lt_or_ge (k - m) Ks.length with h | h
    · exact h
    · simp [List.getD,List.getElem?_eq_none h] at hk
   have hmem:(some (.inr Y):Kind)∈Ks:=by
    rw [← hk,List.getD_eq_getElem?_getD,List.getElem?_eq_getElem hlt]; exact List.getElem_mem hlt
   exact hstab _ hmem Y rfl l v w w' hR hY
  · cases hk
 · have:j < n - m:=by simp at hj; omega
   simp [this]
 · rw [left_low hL n]
   have:l.toArray.size=l.length:=rfl
   omega
 · exact ⟨hs,hrf _,rfl,rfl,fun k o ho hk e he hb=>(hL _).2 (by have:=C.low k o ho e he hb; have:=(hL k).1 hk; omega),fun _ _=>rfl,fun k hk=>by have:=(hL k).1 hk; omega,
    fun k o ho hmk hk=>by have:=(hL k).1 hk; omega,fun k hk=>(hL k).2 hk⟩
theorem st_call {a:Act} {w:World} {l:List Oper} {m:Nat} {o:Oper} (Y:Value→World→Prop) (hB:(chk1 l.toArray && chkS l.toArray m)=true) (ho:l[m]?=some o) (hw:Region.wanted o (yielded l.toArray a.tmps)=true)
 (h:growAt P (fun _ _=>True) o a w Y) (hK:∀ v w',Y v w'→St P l.toArray Q (m+1) (a.put o.dst v) w'):St P l.toArray Q m a w:=by
 rw [Bool.and_eq_true] at hB
 intro listed hs hL
 have hml:m < l.length:=(List.getElem?_eq_some_iff.1 ho).1
 have ho':l.toArray[m]?=some o:=by simpa using ho
 obtain ⟨f,hf⟩:∃ f,l.toArray.size - m=f+1:=⟨l.length - m - 1,by simp; omega⟩
 rw [hf]
 have hlow:∀ e∈o.after,Region.binds .any e=true→e.on < m:=by
  intro e he hb
  have:=List.all_eq_true.1 hB.1 m (List.mem_range.2 (by simpa using hml))
  simp only [ho',Option.map_some,Option.getD_some] at this
  have:=Array.all_eq_true_iff_forall_mem.1 this e he
  simpa [hb] using this
 have hmr:m∈Region.ready .any l.toArray listed:=(mem_ready' hs).2 ⟨fun h=>by have:=(hL m).1 h; omega,o,ho',fun e he hb=>(hL _).2 (hlow e he hb)⟩
 refine ⟨fun h0=>(by rw [h0] at hmr; cases hmr),fun i hi=>?_⟩
 obtain ⟨h0,oi,hoi,hall⟩:=(mem_ready' hs).1 hi
 have hilt:=(Array.getElem?_eq_some_iff.1 hoi).1
 have him:i=m:=by
  by_cases e:i=m
  · exact e
  ·
   have hge:¬ i < m:=fun h=>h0 ((hL i).2 h)
   have:=List.all_eq_true.1 hB.2 i (List.mem_range.2 hilt)
   rw [Bool.or_eq_true,decide_eq_true_eq] at this
   have:=this.resolve_left (by omega)
   rw [hoi] at this
   obtain ⟨j,hj,hb⟩:=List.any_eq_true.1 (show ((List.range i).any fun j=>decide (m≤j) && bound oi j)=true from this)
   rw [Bool.and_eq_true,decide_eq_true_eq] at hb
   obtain ⟨e',he,hb2,hon⟩:=bound_spec hb.2
   have:=(hL j).1 (hon ▸ hall e' he hb2)
   omega
 subst him
 unfold wpOp
 simp only [ho',hw,if_true]
 refine .inl (wp_of_grow h fun v w' hv _=>?_)
 have:=hK v w' hv (listed.setIfInBounds i true) (by simpa using hs) fun k=>by
  rw [getD_set (by rw [hs]; simpa using hml),hL k]; omega
 rw [show l.toArray.size - (i+1)=f by omega] at this
 exact this
theorem st_end {a:Act} {w:World} {l:List Oper} {m:Nat} (hm:m=l.length) (h:wpList P l.toArray Q [] a w):St P l.toArray Q m a w:=by
 subst hm
 intro listed hs hL
 rw [show l.toArray.size - l.length=0 by simp]
 refine ⟨List.eq_nil_iff_forall_not_mem.2 fun j hj=>?_,h⟩
 obtain ⟨h0,o,ho,_⟩:=(mem_ready' hs).1 hj
 exact h0 ((hL j).2 (by have:=(Array.getElem?_eq_some_iff.1 ho).1; simpa using this))
theorem wp_region_s {id:Nat} {l:List Oper} {a:Act} {w:World} (hm:P.follows .mixedOrders=true) (h:St P l.toArray Q 0 a w.drew):(Code.region id l.toArray true).wp P Q a w:=by
 refine wp_region_any hm ?_
 refine h _ (by simp) fun k=>⟨fun hk=>?_,fun hk=>by omega⟩
 unfold L at hk
 simp only [Array.getD_eq_getD_getElem?,Array.getElem?_replicate] at hk
 split at hk <;> simp at hk
end
end Go.Proofs.YtnoehodmmkioaaaGreatDoor.GrowM
namespace Go.Proofs.YtnoehodmmkioaaaGreatDoor
open Go.RowKit
theorem ret_int {k:IntKind} {a b:Int} (h:a=b):Ending.returned (.int k a)=Ending.returned (.int k b):=by rw [h]
theorem ret_str {a b:ByteArray} (h:a=b):Ending.returned (.string a)=Ending.returned (.string b):=by rw [h]
theorem ret_bool {a b:Bool} (h:a=b):Ending.returned (.bool a)=Ending.returned (.bool b):=by rw [h]
def Drawn (W w:World):Prop:=∃ n,w=W.drewN n
theorem Drawn.refl (W:World):Drawn W W:=⟨0,rfl⟩
theorem Drawn.drewN {W w:World} (h:Drawn W w) (n:Nat):Drawn W (w.drewN n):=by obtain ⟨m,rfl⟩:=h; exact ⟨m+n,World.drewN_drewN ..⟩
theorem Drawn.drew {W w:World} (h:Drawn W w):Drawn W w.drew:=h.drewN 1
theorem Drawn.trans {W w u:World} (h:Drawn W w) (k:Drawn w u):Drawn W u:=by obtain ⟨m,rfl⟩:=k; exact h.drewN m
theorem Drawn.cell {W w:World} (h:Drawn W w) (a:Addr):w.cell? a=W.cell? a:=by obtain ⟨m,rfl⟩:=h; rfl
theorem Drawn.heap {W w:World} (h:Drawn W w):w.heap=W.heap:=by obtain ⟨m,rfl⟩:=h; rfl
theorem Drawn.below {W w:World} (h:Drawn W w) (B:Nat):Below B W w:=by obtain ⟨m,rfl⟩:=h; exact below_drewN (Below.refl _ _) m
theorem quiet_drawn {P:Program} {f:FuncId} {args:Array Value} {w:World} {n:Nat} {v:Value}
 (h:Calls P f args (w.drewN n) fun e w'=>e=.returned v∧Drawn (w.drewN n) w'):Calls P f args (w.drewN n) fun e w''=>e=.returned v∧∃ m,w''=w.drewN m :=
 h.mono fun _ _ ⟨he,hm⟩=>⟨he,Drawn.trans ⟨n,rfl⟩ hm⟩
theorem quiet_same {P:Program} {f:FuncId} {args:Array Value} {w:World} {n:Nat} {v:Value}
 (h:Calls P f args (w.drewN n) fun e w'=>e=.returned v∧w.drewN n=w'):Calls P f args (w.drewN n) fun e w''=>e=.returned v∧∃ m,w''=w.drewN m :=
 h.mono fun _ _ ⟨he,hm⟩=>⟨he,n,hm.symm⟩
theorem cell_lt {w:World} {a:Addr} {v:Value} (h:w.cell? a=some v):a.block < w.heap.size:=by
 unfold World.cell? at h
 rcases Nat.lt_or_ge a.block w.heap.size with hl | hl
 · exact hl
 · rw [Array.getElem?_eq_none hl] at h; cases h
theorem cell_spot {w:World} {a:Addr} {v:Value} (h:w.cell? a=some v):a.spot=none:=by
 unfold World.cell? at h
 split at h
 ·
  split at h
  · cases h
  · cases hs:a.spot with
    | none=>rfl
    | some x=>simp [hs] at *
 · cases h
def Strs (w:World) (a:Option Addr) (ss:List ByteArray):Prop:=∀ i (h:i < ss.length),∃ b off,a=some ⟨b,off,none⟩∧w.cell? ⟨b,off+i,none⟩=some (.string ss[i])
theorem Strs.below {W w:World} {a:Option Addr} {ss:List ByteArray} (h:Strs W a ss) (hb:Below W.heap.size W w):Strs w a ss:=by
 intro i hi
 obtain ⟨b,off,rfl,hc⟩:=h i hi
 exact ⟨b,off,rfl,by rw [hb.cell (cell_lt hc)]; exact hc⟩
theorem Strs.of_cells {w:World} {a:Addr} {ss:List ByteArray} (h:∀ i (hi:i < ss.length),w.cell? (a.add i)=some (.string ss[i])):Strs w (some a) ss:=by
 intro i hi
 have h0:=h 0 (by omega)
 have hs:a.spot=none:=by
  have:a.add 0=a:=by unfold Addr.add; rw [if_pos rfl]
  rw [this] at h0; exact cell_spot h0
 refine ⟨a.block,a.off,by cases a; simp_all,?_⟩
 have:=h i hi
 have ha:a.add i=⟨a.block,a.off+i,none⟩:=by
  unfold Addr.add
  split
  · rename_i e; subst e; cases a; simp_all
  · cases a; simp_all
 rw [← ha]; exact this
theorem bytes_string {P:Program} (w:World) (src e dst:TypeId) (hs:P.underlying src=some (.slice e)) (he:P.underlying e=some (.int .u8)) (hd:P.underlying dst=some .string)
 (b off cap:Nat) (l:List UInt8) (hcell:∀ i (h:i < l.length),w.cell? ⟨b,off+i,none⟩=some (.int .u8 l[i].toNat)) (n:Nat) (hn:n=l.length) :
 (convert src dst (.slice (some ⟨b,off,none⟩) n cap)).run P w=.ok (.string ⟨l.toArray⟩) w:=by
 subst hn
 have:=run_convert_bytes_arg (P:=P) w src e hs he b off l.length cap (l.map fun c=>(c.toNat:Int)) (by simp) (fun i hi=>by
  rw [hcell i hi]; simp [List.getD,List.getElem?_eq_getElem hi]) dst hd
 rw [this]
 unfold strOfNums
 congr 3
 simp
 exact (List.map_congr_left (fun c _=>by simp)).trans (List.map_id l)
theorem string_bytes {P:Program} (w:World) (src dst e:TypeId) (s:ByteArray) (hs:P.underlying src=some .string) (hd:P.underlying dst=some (.slice e)) (he:P.underlying e=some (.int .u8)) :
 ∃ c w',(convert src dst (.string s)).run P w=.ok (.slice (some ⟨w.heap.size,0,none⟩) s.size c) w'∧Below w.heap.size w w'∧w'.heap.size=w.heap.size+1∧s.size≤c ∧
  (∀ j (hj:j < s.size),w'.cell? ⟨w.heap.size,j,none⟩=some (.int .u8 (s[j].toNat:Int)))∧∀ j,j < s.size→w'.frozen? ⟨w.heap.size,j,none⟩=false:=by
 refine ⟨_,_,Lib.run_convert_string_bytes w src dst e s hs hd he,⟨?_,?_,?_,?_,?_⟩,Lib.bytesWorld_size w e s,?_,?_,?_⟩
 iterate 3
  · simp [Lib.bytesWorld,World.freeze,World.alloc,World.drew,-World.alloc_eq,-World.drew_eq]
 · rw [Lib.bytesWorld_size]; omega
 · intro k hk; exact Lib.bytesWorld_at_old w e s k hk
 · unfold grownCap; exact Nat.le_add_right _ _
 ·
  intro j hj
  rw [Lib.bytesWorld_cell w e s j hj]
  simp [List.getD,hj]
  rfl
 ·
  intro j hj
  have hC:s.size≤(Lib.bytesCells w e s).size:=by unfold Lib.bytesCells; rw [Array.size_append,Array.size_map]; exact Nat.le_add_right _ _
  unfold World.frozen?
  rw [Lib.bytesWorld_at_new]
  simp; omega
structure Row (g:Nat) (l:List UInt8) (w:World):Prop where
 lt:g < w.heap.size
 cell:∀ j (h:j < l.length),w.cell? ⟨g,j,none⟩=some (.int .u8 (l[j].toNat:Int))
 free:∀ j,j < l.length→w.frozen? ⟨g,j,none⟩=false
theorem Row.set {g:Nat} {l:List UInt8} {w:World} (h:Row g l w) (k:Nat) (hk:k < l.length) (v:UInt8):Row g (l.set k v) (w.setCell ⟨g,k,none⟩ (.int .u8 (v.toNat:Int))):=by
 refine ⟨by simpa using h.lt,fun j hj=>?_,fun j hj=>?_⟩
 ·
  have hj':j < l.length:=by simpa using hj
  by_cases e:k=j
  · subst e
    rw [World.cell?_setCell_same _ _ _ (h.cell k hk)]; simp
  · rw [World.cell?_setCell_other _ _ _ _ (fun h=>e (congrArg Addr.off h)),h.cell j hj']
    simp [e]
 · rw [World.frozen?_setCell]; exact h.free j (by simpa using hj)
def zeros (n:Nat):Array Value:=madeCells #[.int .u8 0] n
theorem run_make_bytes {P:Program} (w:World) (t e:TypeId) (i:TypeInfo) (ht:P.underlying t=some (.slice e)) (hi:P.info? e=some i) (hz:i.zero=some (.int .u8 0)) (hs:i.size=1) (hb:i.bytes=1) (n:Nat) (hn:n≤1048576) :
 (Instr.makeSlice t (.int .i64 (n:Int)) (.int .i64 (n:Int))).run P w=.ok (.slice (some ⟨w.heap.size,0,none⟩) n n) (w.alloc (.cells (zeros n) e)):=by
 have h:=run_make w t e i _ ht hi hz .i64 .i64 (n:Int) (n:Int) (by omega) (Int.le_refl _) (by rw [hb]; omega) (by omega)
 rw [hs] at h
 simpa [zeros,Value.cells] using h
theorem row_zeros (w:World) (e:TypeId) (n:Nat):Row w.heap.size (List.replicate n 0) (w.alloc (.cells (zeros n) e)):=by
 refine ⟨by simp,fun j hj=>?_,fun j hj=>?_⟩
 ·
  have hj':j < n:=by simpa using hj
  rw [World.cell?_alloc_new]
  unfold zeros madeCells
  simp [hj']
  simp [Nat.mod_one]
 ·
  unfold World.frozen?
  have:(w.alloc (.cells (zeros n) e)).heap[w.heap.size]?=some (.cells (zeros n) e):=heap_alloc_new w _
  simp only [this]
  simp
theorem row_string {P:Program} {g:Nat} {l:List UInt8} {w:World} (h:Row g l w) (src e dst:TypeId) (hs:P.underlying src=some (.slice e)) (he:P.underlying e=some (.int .u8)) (hd:P.underlying dst=some .string)
 (cap n:Nat) (hn:n=l.length):(convert src dst (.slice (some ⟨g,0,none⟩) n cap)).run P w=.ok (.string ⟨l.toArray⟩) w :=
 bytes_string (P:=P) w src e dst hs he hd g 0 cap l (fun j hj=>by rw [Nat.zero_add]; exact h.cell j hj) n hn
structure Mod (M:Nat→Prop) (w w':World):Prop where
 os:w'.os=w.os
 tape:w'.tape=w.tape
 output:w'.output=w.output
 size:w.heap.size≤w'.heap.size
 block:∀ k,k < w.heap.size→¬ M k→w'.heap[k]?=w.heap[k]?
theorem Mod.refl (M:Nat→Prop) (w:World):Mod M w w:=⟨rfl,rfl,rfl,Nat.le_refl _,fun _ _ _=>rfl⟩
theorem Mod.trans {M:Nat→Prop} {u v w:World} (h:Mod M u v) (k:Mod M v w):Mod M u w :=
 ⟨k.os.trans h.os,k.tape.trans h.tape,k.output.trans h.output,Nat.le_trans h.size k.size,fun i hi hM=>(k.block i (Nat.lt_of_lt_of_le hi h.size) hM).trans (h.block i hi hM)⟩
theorem Mod.mono {M N:Nat→Prop} {u v:World} (h:Mod M u v) (hMN:∀ k,k < u.heap.size→M k→N k):Mod N u v :=
 ⟨h.os,h.tape,h.output,h.size,fun i hi hN=>h.block i hi fun hM=>hN (hMN i hi hM)⟩
theorem Mod.of_below {M:Nat→Prop} {u v:World} (h:Below u.heap.size u v):Mod M u v:=⟨h.os,h.tape,h.output,h.size,fun i hi _=>h.block i hi⟩
theorem Mod.to_below {M:Nat→Prop} {u v:World} (h:Mod M u v) (B:Nat) (hB:B≤u.heap.size) (hM:∀ k,M k→B≤k):Below B u v :=
 ⟨h.os,h.tape,h.output,h.size,fun k hk=>h.block k (by omega) fun hm=>by have:=hM k hm; omega⟩
theorem Mod.drew {M:Nat→Prop} {u v:World} (h:Mod M u v):Mod M u v.drew:=⟨h.os,h.tape,h.output,h.size,h.block⟩
theorem Mod.drawn {M:Nat→Prop} {u v w:World} (h:Mod M u v) (k:Drawn v w):Mod M u w:=by obtain ⟨n,rfl⟩:=k; exact ⟨h.os,h.tape,h.output,h.size,h.block⟩
theorem Mod.alloc {M:Nat→Prop} {u v:World} (h:Mod M u v) (o:Obj):Mod M u (v.alloc o) :=
 h.trans (Mod.of_below ((Below.refl _ _).alloc (Nat.le_refl _) _))
theorem Mod.setCell {M:Nat→Prop} {u v:World} (h:Mod M u v) {a:Addr} (ha:M a.block∨u.heap.size≤a.block) (x:Value):Mod M u (v.setCell a x):=by
 refine ⟨h.os,h.tape,h.output,by simpa using h.size,fun k hk hM=>?_⟩
 rw [Below.heap_setCell _ _ _ _ (fun e=>by subst e; rcases ha with ha | ha; exact hM ha; omega)]
 exact h.block k hk hM
theorem Mod.cell {M:Nat→Prop} {w w':World} (h:Mod M w w') {p:Addr} (hp:p.block < w.heap.size) (hM:¬ M p.block):w'.cell? p=w.cell? p:=World.cell?_of_block (w:=w) (h.block p.block hp hM)
end Go.Proofs.YtnoehodmmkioaaaGreatDoor
namespace Go.Proofs.YtnoehodmmkioaaaGreatDoor.OctMath
def S (l:List UInt8):ByteArray:=⟨l.toArray⟩
theorem S_size (l:List UInt8):(S l).size=l.length:=by show l.toArray.size=_; simp
theorem S_list (l:List UInt8):(S l).data.toList=l:=by simp [S]
theorem S_of (s:ByteArray):S s.data.toList=s:=by cases s; simp [S]
theorem S_append (a b:List UInt8):S a++S b=S (a++b):=by
 apply ByteArray.ext; simp [S]
theorem S_inj {a b:List UInt8} (h:S a=S b):a=b:=by rw [← S_list a,h,S_list]
theorem S_drop (l:List UInt8) (a:Nat):(S l).extract a (S l).size=S (l.drop a):=by
 apply ByteArray.ext
 apply Array.ext'
 rw [S_size]
 simp [S,ByteArray.data_extract]
 exact List.take_of_length_le (by simp)
theorem S_take (l:List UInt8) (b:Nat):(S l).extract 0 b=S (l.take b):=by
 apply ByteArray.ext
 apply Array.ext'
 simp [S,ByteArray.data_extract]
def be:Nat→Nat→List UInt8
 | 0,_=>[]
 | k+1,x=>UInt8.ofNat (x / 256 ^ k) :: be k x
theorem be_length (k x:Nat):(be k x).length=k:=by
 induction k with
 | zero=>rfl
 | succ k ih=>simp [be,ih]
def val (l:List UInt8):Nat:=l.foldl (fun x c=>256 * x+c.toNat) 0
theorem val_from (l:List UInt8) (x:Nat):l.foldl (fun x c=>256 * x+c.toNat) x=x * 256 ^ l.length+val l:=by
 unfold val
 induction l generalizing x with
 | nil=>simp
 | cons c l ih =>
   simp only [List.foldl_cons,List.length_cons]
   rw [ih,ih (256 * 0+c.toNat),Nat.pow_succ]
   rw [Nat.add_mul,Nat.mul_zero,Nat.zero_add,Nat.mul_comm 256 x,Nat.mul_assoc,Nat.mul_comm 256,Nat.add_assoc]
theorem val_cons (c:UInt8) (l:List UInt8):val (c :: l)=c.toNat * 256 ^ l.length+val l:=by
 show l.foldl _ (256 * 0+c.toNat)=_
 rw [val_from]; simp
theorem val_snoc (l:List UInt8) (c:UInt8):val (l++[c])=256 * val l+c.toNat:=by
 unfold val; rw [List.foldl_append]; rfl
theorem val_lt (l:List UInt8):val l < 256 ^ l.length:=by
 induction l with
 | nil=>simp [val]
 | cons c l ih =>
   rw [val_cons,List.length_cons,Nat.pow_succ]
   have h:=c.toNat_lt
   have h2:c.toNat * 256 ^ l.length≤255 * 256 ^ l.length:=Nat.mul_le_mul_right _ (by omega)
   omega
theorem val_be (k x:Nat):val (be k x)=x % 256 ^ k:=by
 induction k with
 | zero=>simp [be,val,Nat.mod_one]
 | succ k ih =>
   simp only [be]
   rw [val_cons,ih,be_length,UInt8.toNat_ofNat',show 2 ^ 8=256 from rfl,Nat.pow_succ,Nat.mod_mul (x:=x) (a:=256 ^ k) (b:=256),Nat.add_comm,Nat.mul_comm (256 ^ k)]
structure RS where
 s:List UInt8
 e:Nat
def takeR (n:Int) (r:RS):List UInt8×RS :=
 if r.e≠0 then ([],r) else if n < 0 then ([],⟨r.s,1⟩) else if (r.s.length:Int) < n then ([],⟨r.s,3⟩) else (r.s.take n.toNat,⟨r.s.drop n.toNat,0⟩)
def numR (n:Int) (r:RS):Nat×RS :=
 if r.e≠0 then (0,r) else if n < 1∨7 < n then (0,⟨r.s,1⟩) else (val (takeR n r).1,(takeR n r).2)
def longR (b:Bool) (r:RS):RS:=if r.e=0∧b=true then ⟨r.s,6⟩ else r
def textR (most:Int) (r:RS):List UInt8×RS :=
 if r.e≠0 then ([],r) else
 let x:=numR 2 r
 let y:=takeR (x.1:Int) (longR (decide (most < (x.1:Int))) x.2)
 if y.2.e≠0 then (y.1,⟨r.s,y.2.e⟩) else y
def textsR (most:Int):Nat→RS→List (List UInt8)×RS
 | 0,r=>([],r)
 | n+1,r=>((textR most r).1 :: (textsR most n (textR most r).2).1,(textsR most n (textR most r).2).2)
def listR (many most:Int) (r:RS):List (List UInt8)×RS :=
 if r.e≠0 then ([],r) else
 let x:=numR 1 r
 let y:=textsR most x.1 (longR (decide (many < (x.1:Int))) x.2)
 if y.2.e≠0 then ([],⟨r.s,y.2.e⟩) else y
def endR (r:RS):Nat:=if r.e≠0 then r.e else if r.s.length=0 then 0 else 4
end Go.Proofs.YtnoehodmmkioaaaGreatDoor.OctMath
namespace Go.Proofs.YtnoehodmmkioaaaGreatDoor.OctW
open Go.RowKit OctMath
theorem set_be (n k x:Nat) (h:k < n):(List.replicate (n - k) (0:UInt8)++be k x).set (n - 1 - k) (UInt8.ofNat (x / 256 ^ k))=List.replicate (n - (k+1)) 0++be (k+1) x:=by
 rw [show n - k=(n - (k+1))+1 by omega,List.replicate_succ',show n - 1 - k=n - (k+1) by omega,List.append_assoc,List.set_append_right _ _ (by simp)]
 simp [be]
theorem put_any (n x:Nat) (hn:n≤1048576) (hx:x≤9223372036854775807) (W:World) :
 Calls Tryz.prog 158 #[.int .i64 (n:Int),.int .i64 (x:Int)] W fun e w'=>e=.returned (.string (S (be n x)))∧Below W.heap.size W w':=by
 obtain ⟨i0,hi,hz0,hz1,hz2⟩:=info_parts (show (Tryz.prog.info? 5).map (fun i=>(i.zero,i.size,i.bytes))=some (some (.int .u8 0),1,1) by kernel_rfl)
 have hrun:=run_make_bytes (P:=Tryz.prog) W 218 5 i0 Tryz.underlying218 hi hz0 hz1 hz2 n hn
 have hrow:=row_zeros W 5 n
 have hmod:Mod (fun k=>k=W.heap.size) W (W.alloc (.cells (zeros n) 5)):=(Mod.refl _ W).alloc _
 have hsz:W.heap.size < (W.alloc (.cells (zeros n) 5)).heap.size:=by simp
 have HRUN:=Lib.hid hrun; clear hrun
 go_enter Tryz.func158,Tryz.ntmps158
 go_wp2_with fail
 rw [HRUN.out]
 clear HRUN hi hz0 hz1 hz2
 generalize W.alloc (.cells (zeros n) 5)=W0 at *
 generalize hg:W.heap.size=g at *
 have HG:=Lib.hid hg; clear hg
 have HROW:=Lib.hid hrow; clear hrow
 have HM:=Lib.hid hmod; clear hmod
 clear hsz
 go_wp2_with fail
 go_loopw [1,11] (fun y i wr=>∃ k z:Nat,k≤n∧i=.int .i64 k∧y=.int .i64 z∧z≤9223372036854775807∧Hid (z=x / 256 ^ k)∧Hid (Row g (List.replicate (n - k) 0++be k x) wr)∧Hid (Mod (fun k=>k=g) W wr)) (fun _ i _=>n - (intOf i).toNat)
 case atStart=>exact ⟨0,x,by omega,rfl,rfl,hx,by simp [Hid],by simpa [Hid,be] using HROW.out,HM⟩
 case round =>
  clear HROW HM
  obtain ⟨k,z,hk,rfl,rfl,hz,HZ,HR,HM⟩:=hrel
  by_cases hlt:k < n
  ·
   have hlen:n - 1 - k < (List.replicate (n - k) (0:UInt8)++be k x).length:=by simp [be_length]; omega
   have hset:=HR.out.set (n - 1 - k) hlen (UInt8.ofNat z)
   rw [HZ.out,set_be n k x hlt,← HZ.out] at hset
   have hmod:=HM.out.setCell (a:=⟨g,n - 1 - k,none⟩) (Or.inl rfl) (.int .u8 ((UInt8.ofNat z).toNat:Int))
   have hcell:=HR.out.cell (n - 1 - k) hlen
   have hfree:=HR.out.free (n - 1 - k) hlen
   have hc:((UInt8.ofNat z).toNat:Int)=(z:Int) % 256:=by simp
   rw [hc] at hset hmod
   have HS:=Lib.hid hset
   have HM2:=Lib.hid hmod
   clear hset hmod hc HR HM
   generalize hL:((List.replicate (n - k) (0:UInt8)++be k x)[n - 1 - k]).toNat=L at *
   clear hL
   go_wp2_with fail
   go_roundw
   case rel =>
    refine ⟨k+1,z / 256,by omega,by go_num,by go_num,by omega,?_,HS,HM2⟩
    show z / 256=x / 256 ^ (k+1)
    rw [HZ.out,Nat.div_div_eq_div_mul,Nat.pow_succ]
   case measure=>simp [intOf]; omega
  ·
   have e:k=n:=by omega
   have hrow:=HR.out
   rw [e,Nat.sub_self,List.replicate_zero,List.nil_append] at hrow
   have hstr:=row_string (P:=Tryz.prog) hrow 218 5 9 Tryz.underlying218 Tryz.underlying5 Tryz.underlying9 n n (by rw [be_length])
   have HSTR:=Lib.hid hstr
   clear hstr hrow HR
   go_wp2_with fail
   rw [HSTR.out]
   go_wp2_with fail
   go_ret
   exact ⟨rfl,HM.out.to_below _ (Nat.le_refl _) (fun k hk=>by rw [hk,HG.out]; exact Nat.le_refl _)⟩
theorem or_low (a:Nat) (c:UInt8) (ha:a < 256 ^ 6):bits .or .i64 ((a:Int) * 256) (wrap64 (c.toNat:Int))=((256 * a+c.toNat:Nat):Int):=by
 have hc:=c.toNat_lt
 rw [IntWalk.wrap64_in _ (by omega),show (a:Int) * 256=((256 * a:Nat):Int) by omega]
 have h1:(BitVec.ofInt 64 ((256 * a:Nat):Int)).toNat=256 * a:=by
  rw [BitVec.ofInt_natCast,BitVec.toNat_ofNat]; exact Nat.mod_eq_of_lt (by omega)
 have h2:(BitVec.ofInt 64 ((c.toNat:Nat):Int)).toNat=c.toNat:=by
  rw [BitVec.ofInt_natCast,BitVec.toNat_ofNat]; exact Nat.mod_eq_of_lt (by omega)
 have h3:2 ^ 8 * a+c.toNat=2 ^ 8 * a ||| c.toNat:=Nat.two_pow_add_eq_or_of_lt (i:=8) (by omega) a
 show IntKind.i64.wrap ((BitVec.ofInt 64 ((256 * a:Nat):Int) ||| BitVec.ofInt 64 ((c.toNat:Nat):Int)).toNat:Int)=_
 rw [BitVec.toNat_or,h1,h2,show 256 * a ||| c.toNat=256 * a+c.toNat from h3.symm]
 rw [IntKind.wrap_i64]; omega
theorem get_any (l:List UInt8) (hn:l.length≤7) (W:World) :
 Calls Tryz.prog 182 #[.string (S l)] W fun e w'=>e=.returned (.int .i64 (val l:Int))∧Drawn W w':=by
 have hsz:(S l).size=l.length:=S_size l
 go_enter Tryz.func182,Tryz.ntmps182
 go_wp2_with fail
 go_loopw [3,7] (fun y i wr=>∃ k:Nat,k≤l.length∧i=.int .i64 k∧y=.int .i64 (val (l.take k):Int)∧Hid (Drawn W wr)) (fun _ i _=>l.length - (intOf i).toNat)
 case atStart=>exact ⟨0,by omega,rfl,rfl,Drawn.refl _⟩
 case round =>
  obtain ⟨k,hk,rfl,rfl,HD⟩:=hrel
  by_cases hlt:k < l.length
  ·
   have hv:val (l.take k) < 256 ^ 6:=by
    refine Nat.lt_of_lt_of_le (val_lt _) (Nat.pow_le_pow_right (by omega) ?_)
    simp; omega
   have hstep:val (l.take (k+1))=256 * val (l.take k)+l[k].toNat:=by
    rw [List.take_succ_eq_append_getElem hlt,val_snoc]
   have hi:k < (S l).size:=by rw [hsz]; exact hlt
   have hget:(S l)[k]=l[k]:=by simp only [S]; rfl
   generalize hC:l[k]=c at *
   clear hC
   generalize hV:val (l.take k)=V at *
   have HV:=Lib.hid hV; clear hV
   have HST:=Lib.hid hstep; clear hstep
   go_wp2_with fail
   rw [or_low V c hv]
   go_roundw
   case rel=>exact ⟨k+1,by omega,by go_num,by rw [HST.out],HD⟩
   case measure=>simp [intOf]; omega
  ·
   have e:k=l.length:=by omega
   have ev:val (l.take k)=val l:=by rw [e,List.take_length]
   generalize val (l.take k)=V at *
   have HV:=Lib.hid ev; clear ev
   go_wp2_with fail
   go_ret
   exact ⟨ret_int (by rw [HV.out]),HD.out⟩
theorem heap_setCell_own {w:World} {B:Nat} {cs:Array Value} {T:TypeId} {f:Nat×Nat} (h:w.heap[B]?=some (.cells cs T f)) (k:Nat) (v:Value) :
 (w.setCell ⟨B,k,none⟩ v).heap[B]?=some (.cells (cs.setIfInBounds k v) T f):=by
 simp only [World.setCell,Array.getElem?_modify]
 simp [h]
def Rd (B:Nat) (r:RS) (w:World):Prop:=w.heap[B]?=some (.cells #[.string (S r.s),.int .i64 (r.e:Int)] 277 (0,0))
theorem Rd.s_cell {B:Nat} {r:RS} {w:World} (h:Rd B r w):w.cell? ⟨B,0,none⟩=some (.string (S r.s)):=by unfold World.cell?; rw [show w.heap[(⟨B,0,none⟩:Addr).block]?=_ from h]; rfl
theorem Rd.e_cell {B:Nat} {r:RS} {w:World} (h:Rd B r w):w.cell? ⟨B,1,none⟩=some (.int .i64 (r.e:Int)):=by unfold World.cell?; rw [show w.heap[(⟨B,1,none⟩:Addr).block]?=_ from h]; rfl
theorem Rd.s_free {B:Nat} {r:RS} {w:World} (h:Rd B r w):w.frozen? ⟨B,0,none⟩=false:=by unfold World.frozen?; rw [show w.heap[(⟨B,0,none⟩:Addr).block]?=_ from h]; rfl
theorem Rd.e_free {B:Nat} {r:RS} {w:World} (h:Rd B r w):w.frozen? ⟨B,1,none⟩=false:=by unfold World.frozen?; rw [show w.heap[(⟨B,1,none⟩:Addr).block]?=_ from h]; rfl
theorem Rd.lt {B:Nat} {r:RS} {w:World} (h:Rd B r w):B < w.heap.size:=(Array.getElem?_eq_some_iff.1 h).1
theorem Rd.set0 {B:Nat} {r:RS} {w:World} (h:Rd B r w) (s:List UInt8):Rd B ⟨s,r.e⟩ (w.setCell ⟨B,0,none⟩ (.string (S s))):=heap_setCell_own h 0 _
theorem Rd.set1 {B:Nat} {r:RS} {w:World} (h:Rd B r w) (e:Nat):Rd B ⟨r.s,e⟩ (w.setCell ⟨B,1,none⟩ (.int .i64 (e:Int))):=heap_setCell_own h 1 _
theorem Rd.mod {M:Nat→Prop} {B:Nat} {r:RS} {w w':World} (h:Rd B r w) (hm:Mod M w w') (hB:¬ M B):Rd B r w':=(hm.block B h.lt hB).trans h
theorem Rd.drawn {B:Nat} {r:RS} {w w':World} (h:Rd B r w) (hd:Drawn w w'):Rd B r w':=by obtain ⟨n,rfl⟩:=hd; exact h
abbrev One (B:Nat) (w w':World):Prop:=Mod (fun k=>k=B) w w'
theorem err_any (B:Nat) (r:RS) (w:World) (h:Rd B r w):Calls Tryz.prog 179 #[.pointer (some ⟨B,0,none⟩)] w fun e w'=>e=.returned (.int .i64 (r.e:Int))∧w=w':=by
 have he:=h.e_cell
 clear h
 go_enter Tryz.func179,Tryz.ntmps179
 go_wp2_with fail
 go_ret
 exact ⟨rfl,rfl⟩
theorem left_any (B:Nat) (r:RS) (w:World) (h:Rd B r w):Calls Tryz.prog 185 #[.pointer (some ⟨B,0,none⟩)] w fun e w'=>e=.returned (.int .i64 (r.s.length:Int))∧w=w':=by
 have he:=h.s_cell
 have hs:=S_size r.s
 clear h
 go_enter Tryz.func185,Tryz.ntmps185
 go_wp2_with fail
 go_ret
 exact ⟨rfl,rfl⟩
theorem new_any (l:List UInt8) (w:World):Calls Tryz.prog 118 #[.string (S l)] w fun e w'=>e=.returned (.pointer (some ⟨w.heap.size,0,none⟩))∧Rd w.heap.size ⟨l,0⟩ w'∧Below w.heap.size w w':=by
 go_enter Tryz.func118,Tryz.ntmps118
 go_wp2_with fail
 go_ret
 exact ⟨rfl,heap_alloc_new _ _,(Below.refl _ w).alloc (Nat.le_refl _) _⟩
theorem fails_any (B:Nat) (r:RS) (w:World) (h:Rd B r w) (k:Nat) (s:List UInt8):Calls Tryz.prog 184 #[.pointer (some ⟨B,0,none⟩),.int .i64 (k:Int),.string (S s)] w fun e w'=>e=.returned (.tuple #[])∧Rd B ⟨s,k⟩ w'∧One B w w':=by
 have he:=h.e_cell
 have hs:=h.s_cell
 have hef:=h.e_free
 have hsf:=h.s_free
 have h2:=(h.set1 k).set0 s
 have hm:One B w ((w.setCell ⟨B,1,none⟩ (.int .i64 (k:Int))).setCell ⟨B,0,none⟩ (.string (S s))):=((Mod.refl (fun k=>k=B) w).setCell (a:=⟨B,1,none⟩) (Or.inl rfl) _).setCell (a:=⟨B,0,none⟩) (Or.inl rfl) _
 have h2:=Lib.hid h2
 have hm:=Lib.hid hm
 clear h
 go_enter Tryz.func184,Tryz.ntmps184
 go_wp2_with fail
 go_end0
 exact ⟨rfl,h2.out,hm.out⟩
theorem ne_b {e:Nat} (h:e≠0):((e:Int) != 0)=true:=by simp; omega
theorem eq_b {e:Nat} (h:e=0):((e:Int) != 0)=false:=by simp; omega
theorem eq_t {e:Nat} (h:e=0):((e:Int) == 0)=true:=by simp; omega
theorem eq_f {e:Nat} (h:¬ e=0):((e:Int) == 0)=false:=by simp; omega
theorem end_any (B:Nat) (r:RS) (w:World) (h:Rd B r w):Calls Tryz.prog 122 #[.pointer (some ⟨B,0,none⟩)] w fun e w'=>e=.returned (.int .i64 ((endR r:Nat):Int))∧w=w':=by
 have HR:=Lib.hid h; clear h
 go_enter Tryz.func122,Tryz.ntmps122
 go_wp2_with (go_at_call 179; refine (err_any B r _ HR.out).mono ?_)
 rintro e w' ⟨rfl,rfl⟩
 by_cases hz:r.e≠0
 ·
  have hb:=ne_b hz
  have HZ:=Lib.hid hz; clear hz
  go_wp2_with fail
  go_ret
  exact ⟨ret_int (by unfold endR; rw [if_pos HZ.out]),rfl⟩
 ·
  have hb:=eq_b (show r.e=0 by omega)
  have HZ:Hid (r.e=0):=by simp only [Hid]; omega
  clear hz
  generalize hE:r.e=en at *
  have HE:=Lib.hid hE; clear hE
  have HF:Hid (endR r=if r.s.length=0 then 0 else 4):=by unfold endR; rw [HE.out,if_neg (by rw [HZ.out]; simp)]; rfl
  go_wp2_with (go_at_call 185; refine (left_any B r _ HR.out).mono ?_)
  rintro e w' ⟨rfl,rfl⟩
  by_cases hl:r.s.length=0
  ·
   have hb2:=eq_t hl
   rw [if_pos hl] at HF
   generalize r.s.length=ln at *
   clear hl
   go_wp2_with fail
   go_ret
   exact ⟨ret_int (by rw [HF.out,HZ.out]),rfl⟩
  ·
   have hb2:=eq_f hl
   rw [if_neg hl] at HF
   generalize r.s.length=ln at *
   clear hl
   go_wp2_with fail
   go_ret
   exact ⟨ret_int (by rw [HF.out]; rfl),rfl⟩
theorem take_any (B:Nat) (r:RS) (n:Int) (hn0 : -9223372036854775808≤n) (hn1:n≤9223372036854775807) (hl:r.s.length≤1152921504606846976) (w:World) (h:Rd B r w) :
 Calls Tryz.prog 183 #[.pointer (some ⟨B,0,none⟩),.int .i64 n] w fun e w'=>e=.returned (.string (S (takeR n r).1))∧Rd B (takeR n r).2 w'∧One B w w':=by
 have HR:=Lib.hid h
 have he:=h.e_cell
 have hs:=h.s_cell
 have hef:=h.e_free
 have hsf:=h.s_free
 have hsz:=S_size r.s
 go_enter Tryz.func183,Tryz.ntmps183
 go_wp2_with (go_at_call 179; refine (err_any B r _ HR.out).mono ?_)
 rintro e w' ⟨rfl,rfl⟩
 by_cases hz:r.e≠0
 ·
  have hb:=ne_b hz
  have HZ:=Lib.hid hz; clear hz
  go_wp2_with fail
  go_ret
  unfold takeR
  rw [if_pos HZ.out]
  exact ⟨rfl,HR.out,Mod.refl _ _⟩
 ·
  have hz0:r.e=0:=by omega
  have hb:=eq_b hz0
  have HZ:=Lib.hid hz; clear hz
  have HZ0:=Lib.hid hz0; clear hz0
  by_cases h0:n < 0
  ·
   have h2:=Lib.hid (h.set1 1)
   have hm:Hid (One B w (w.setCell ⟨B,1,none⟩ (.int .i64 ((1:Nat):Int)))):=(Mod.refl (fun k=>k=B) w).setCell (a:=⟨B,1,none⟩) (Or.inl rfl) _
   have HT:Hid (takeR n r=([],⟨r.s,1⟩)):=by unfold takeR; rw [if_neg HZ.out,if_pos h0]; rfl
   clear h
   go_wp2_with fail
   go_ret
   rw [HT.out]
   exact ⟨rfl,h2.out,hm.out⟩
  ·
   by_cases h3:(r.s.length:Int) < n
   ·
    have h2:=Lib.hid (h.set1 3)
    have hm:Hid (One B w (w.setCell ⟨B,1,none⟩ (.int .i64 ((3:Nat):Int)))):=(Mod.refl (fun k=>k=B) w).setCell (a:=⟨B,1,none⟩) (Or.inl rfl) _
    have HT:Hid (takeR n r=([],⟨r.s,3⟩)):=by unfold takeR; rw [if_neg HZ.out,if_neg h0,if_pos h3]; rfl
    clear h
    go_wp2_with fail
    go_ret
    rw [HT.out]
    exact ⟨rfl,h2.out,hm.out⟩
   ·
    obtain ⟨m,rfl⟩:∃ m:Nat,n=m:=⟨n.toNat,by omega⟩
    have hm1:m≤(S r.s).size:=by rw [hsz]; omega
    have h2:Hid (Rd B ⟨r.s.drop m,0⟩ (w.setCell ⟨B,0,none⟩ (.string (S (r.s.drop m))))):=by have:=h.set0 (r.s.drop m); rw [HZ0.out] at this; exact this
    have hm:Hid (One B w (w.setCell ⟨B,0,none⟩ (.string (S (r.s.drop m))))):=(Mod.refl (fun k=>k=B) w).setCell (a:=⟨B,0,none⟩) (Or.inl rfl) _
    have hd:Hid ((S r.s).extract m r.s.length=S (r.s.drop m)):=by have:=S_drop r.s m; rw [S_size] at this; exact this
    have hd2:Hid ((S r.s).extract 0 m=S (r.s.take m)):=S_take _ _
    have HT:Hid (takeR (m:Int) r=(r.s.take m,⟨r.s.drop m,0⟩)):=by unfold takeR; rw [if_neg HZ.out,if_neg h0,if_neg h3]; rfl
    clear h
    go_wp2_with fail
    rw [hd.out,hd2.out]
    go_ret
    rw [HT.out]
    exact ⟨rfl,h2.out,hm.out⟩
end Go.Proofs.YtnoehodmmkioaaaGreatDoor.OctW
