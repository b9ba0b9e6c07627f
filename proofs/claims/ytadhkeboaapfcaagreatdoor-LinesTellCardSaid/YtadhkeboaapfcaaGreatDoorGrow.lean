/- A region that draws its order, whose operations only read, make memory of their own, or call functions that do just that: one walk in the order of the text serves every order. Each operation is one of three kinds: one value in every world (none), a value known ahead (inl), or some value of which a lasting fact is known (inr). Behind the first n operations the others stand in a forced order. -/
import Derived.StillTail
import Derived.Tactics
import Derived.KernelRfl
namespace Go.Proofs.YtadhkeboaapfcaaGreatDoor.Grow
open Go

abbrev Kind := Option (Value ⊕ (Value → World → Prop))

section
variable (P : Program) (ops : Array Oper) (R : World → World → Prop) (w1 : World)

def detUpon (w : World) (v : Value) : Result Next → Prop
  | .ok (.value u) w' => u = v ∧ R w w'
  | .ok .skip w' => undef = v ∧ R w w'
  | _ => False
def growUpon (w : World) (Y : Value → World → Prop) : Result Next → Prop
  | .ok (.value u) w' => Y u w' ∧ R w w'
  | .ok .skip w' => Y undef w' ∧ R w w'
  | .ok (.enter f args) w' => Calls P f args w' fun e w'' => ∃ v, e = .returned v ∧ Y v w'' ∧ R w w''
  | _ => False
def detAt (o : Oper) (a : Act) (w : World) (v : Value) : Prop := detUpon R w v ((execOp a.eval o).run P w)
def growAt (o : Oper) (a : Act) (w : World) (Y : Value → World → Prop) : Prop := growUpon P R w Y ((execOp a.eval o).run P w)

/-- the facts that an operation may lean on: those of the slots that it looks at -/
def depF (F : List (Tmp × (World → Prop))) (o : Oper) (w : World) : Prop := ∀ p ∈ F, p.1 ∈ o.looksAt ops → p.2 w

def addF (d : Option Tmp) (p : World → Prop) (F : List (Tmp × (World → Prop))) : List (Tmp × (World → Prop)) :=
  match d with
  | some d => (d, p) :: F
  | none => F

/-- the walk in the order of the text -/
def wpG (Fin : Act → World → Prop) : List Oper → List Kind → List (Tmp × (World → Prop)) → Act → Prop
  | [], _, F, a => ∀ w, R w1 w → (∀ p ∈ F, p.2 w) → Fin a w
  | o :: rest, Ys, F, a =>
    if Region.wanted o (yielded ops a.tmps) then
      match Ys.headD none with
      | none => ∃ v, (∀ w, R w1 w → depF ops F o w → detAt P R o a w v) ∧ wpG Fin rest Ys.tail F (a.put o.dst v)
      | some (.inl c) => (∀ w, R w1 w → depF ops F o w → growAt P R o a w fun u _ => u = c) ∧ wpG Fin rest Ys.tail F (a.put o.dst c)
      | some (.inr Y) => (∀ w, R w1 w → depF ops F o w → growAt P R o a w Y) ∧ ∀ v, wpG Fin rest Ys.tail (addF o.dst (Y v) F) (a.put o.dst v)
    else wpG Fin rest Ys.tail F (a.put o.dst undef)

/-- an edge binds -/
def bound (o : Oper) (k : Nat) : Bool := o.after.any fun e => Region.binds .any e && e.on == k
theorem bound_spec {o : Oper} {k : Nat} (h : bound o k = true) : ∃ e ∈ o.after, Region.binds .any e = true ∧ e.on = k := by
  unfold bound at h
  obtain ⟨e, he, hb⟩ := Array.any_eq_true'.1 h
  simp only [Bool.and_eq_true, beq_iff_eq] at hb
  exact ⟨e, he, hb.1, hb.2⟩

def chk1 : Bool := (List.range ops.size).all fun i => ((ops[i]?).map fun o => o.after.all fun e => !Region.binds .any e || decide (e.on < i)).getD true
def chk2 (n : Nat) : Bool := (List.range n).all fun i => (List.range n).all fun j => i == j || (((ops[i]?).bind (·.dst)).isNone || (ops[i]?).bind (·.dst) != (ops[j]?).bind (·.dst))
def chk3 (n : Nat) : Bool := (List.range n).all fun i => ((ops[i]?).map fun o => (o.looksAt ops).all fun s => (List.range n).all fun k =>
  (ops[k]?).bind (·.dst) != some s || i == k || bound o k || ((ops[k]?).map fun p => bound p i).getD false).getD true
/-- each of the first n is waited for by one behind it, the n-th at the furthest -/
def chk4 (n : Nat) : Bool := n == ops.size || (List.range n).all fun h => (List.range (n + 1)).any fun j => decide (h < j) && ((ops[j]?).map fun o => bound o h).getD false
def chk5 (n : Nat) : Bool := (List.range ops.size).all fun t => decide (t ≤ n) || ((ops[t]?).map fun o => bound o (t - 1)).getD false
def gB (n : Nat) : Bool := Region.noSelect ops && decide (n ≤ ops.size) && chk1 ops && chk2 ops n && chk3 ops n && chk4 ops n && chk5 ops n
def inB (a : Act) : Bool := ops.all fun o => o.dst.all fun d => decide (d < a.tmps.size)
end

section
variable {P : Program} {ops : Array Oper} {R : World → World → Prop} {w1 : World}

theorem look_congr {a b : Act} {o : Oper} (hs : ∀ cs c, o.op ≠ .select cs c) (h : ∀ s ∈ o.looksAt ops, a.tmps[s]? = b.tmps[s]?) :
    execOp a.eval o = execOp b.eval o ∧ Region.wanted o (yielded ops a.tmps) = Region.wanted o (yielded ops b.tmps) := by
  refine ⟨execOp_congr o hs fun x hx => ?_, ?_⟩
  · cases x with
    | tmp t =>
      have := h t (List.mem_append_left _ (List.mem_filterMap.2 ⟨.tmp t, by simpa using hx, rfl⟩))
      simp only [Act.eval, Array.getD_eq_getD_getElem?, this]
    | _ => rfl
  · unfold Region.wanted
    cases hg : o.guard with
    | none => rfl
    | some gw =>
      obtain ⟨g, want⟩ := gw
      have hy : yielded ops a.tmps g = yielded ops b.tmps g := by
        unfold yielded
        cases ht : (ops[g]?).bind (·.dst) with
        | none => rfl
        | some t =>
          have := h t (by simp [Oper.looksAt, hg, ht])
          simp only [Option.bind_some, this]
      simp only [hy]

/-- an operation is listed -/
def L (listed : Array Bool) (k : Nat) : Prop := listed.getD k false = true
def D (ops : Array Oper) (k : Nat) : Option Tmp := (ops[k]?).bind (·.dst)
def slot (a : Act) (d : Tmp) : Value := a.tmps.getD d undef

structure Chk (ops : Array Oper) (n : Nat) : Prop where
  sel : ∀ (j : Nat) (o : Oper) cs b, ops[j]? = some o → o.op ≠ .select cs b
  le : n ≤ ops.size
  low : ∀ i o, ops[i]? = some o → ∀ e ∈ o.after, Region.binds .any e = true → e.on < i
  uniq : ∀ i j d, i < n → j < n → D ops i = some d → D ops j = some d → i = j
  looks : ∀ i o s k, i < n → ops[i]? = some o → s ∈ o.looksAt ops → k < n → D ops k = some s → i = k ∨ bound o k = true ∨ ∃ p, ops[k]? = some p ∧ bound p i = true
  waits : n = ops.size ∨ ∀ h, h < n → ∃ j o, h < j ∧ j ≤ n ∧ ops[j]? = some o ∧ bound o h = true
  seq : ∀ t o, n < t → ops[t]? = some o → bound o (t - 1) = true

theorem Chk.of {n : Nat} (h : gB ops n = true) : Chk ops n := by
  unfold gB at h
  simp only [Bool.and_eq_true, decide_eq_true_eq] at h
  obtain ⟨⟨⟨⟨⟨⟨h0, hle⟩, h1⟩, h2⟩, h3⟩, h4⟩, h5⟩ := h
  refine ⟨Region.noSelect_spec h0, hle, ?_, ?_, ?_, ?_, ?_⟩
  · intro i o ho e he hb
    have hi : i < ops.size := (Array.getElem?_eq_some_iff.1 ho).1
    have := List.all_eq_true.1 h1 i (List.mem_range.2 hi)
    simp only [ho, Option.map_some, Option.getD_some] at this
    have := Array.all_eq_true_iff_forall_mem.1 this e he
    simpa [hb] using this
  · intro i j d hi hj hdi hdj
    have := List.all_eq_true.1 h2 i (List.mem_range.2 hi)
    have := List.all_eq_true.1 this j (List.mem_range.2 hj)
    unfold D at hdi hdj
    simpa [hdi, hdj] using this
  · intro i o s k hi ho hs hk hd
    have := List.all_eq_true.1 h3 i (List.mem_range.2 hi)
    simp only [ho, Option.map_some, Option.getD_some] at this
    have := List.all_eq_true.1 this s hs
    have := List.all_eq_true.1 this k (List.mem_range.2 hk)
    unfold D at hd
    cases hk2 : ops[k]? with
    | none => simp [hk2] at hd
    | some q =>
      simp only [hk2, Option.bind_some] at hd
      simp only [hk2, Option.bind_some, hd, Option.map_some, Option.getD_some, Bool.or_eq_true, beq_iff_eq, bne_self_eq_false, Bool.false_eq_true, false_or] at this
      rcases this with (h | h) | h
      · exact .inl h
      · exact .inr (.inl h)
      · exact .inr (.inr ⟨q, rfl, h⟩)
  · unfold chk4 at h4
    simp only [Bool.or_eq_true, beq_iff_eq] at h4
    rcases h4 with h4 | h4
    · exact .inl h4
    · refine .inr fun h hh => ?_
      have := List.all_eq_true.1 h4 h (List.mem_range.2 hh)
      obtain ⟨j, hj, hb⟩ := List.any_eq_true.1 this
      simp only [Bool.and_eq_true, decide_eq_true_eq] at hb
      cases ho : ops[j]? with
      | none => simp [ho] at hb
      | some o => exact ⟨j, o, hb.1, by have := List.mem_range.1 hj; omega, ho, by simpa [ho] using hb.2⟩
  · intro t o ht ho
    have hi : t < ops.size := (Array.getElem?_eq_some_iff.1 ho).1
    have := List.all_eq_true.1 h5 t (List.mem_range.2 hi)
    simpa [ho, show ¬ t ≤ n by omega] using this

def Agree (ops : Array Oper) (a0 a b : Act) (k : Nat) (o : Oper) : Prop :=
  (∀ s ∈ o.looksAt ops, ∀ j, j < k → D ops j = some s → b.tmps[s]? = a.tmps[s]?) ∧ (∀ s ∈ o.looksAt ops, (∀ j, j < k → D ops j ≠ some s) → b.tmps[s]? = a0.tmps[s]?)

theorem Agree.same {a0 a b b' : Act} {k : Nat} {o : Oper} (h : Agree ops a0 a b k o) (h' : Agree ops a0 a b' k o) : ∀ s ∈ o.looksAt ops, b.tmps[s]? = b'.tmps[s]? := by
  intro s hs
  by_cases hj : ∃ j, j < k ∧ D ops j = some s
  · obtain ⟨j, hj, hd⟩ := hj
    rw [h.1 s hs j hj hd, h'.1 s hs j hj hd]
  · have hn : ∀ j, j < k → D ops j ≠ some s := fun j hj' hd => hj ⟨j, hj', hd⟩
    rw [h.2 s hs hn, h'.2 s hs hn]

section
variable (P : Program) (ops : Array Oper) (R : World → World → Prop) (w1 : World) (a0 : Act) (n : Nat) (kind : Nat → Kind)

def GoodF (a : Act) (k : Nat) (o : Oper) (F : List (Tmp × (World → Prop))) : Prop := ∀ p ∈ F, p.1 ∈ o.looksAt ops →
  ∃ j oj Y bj, j < k ∧ ops[j]? = some oj ∧ oj.dst = some p.1 ∧ kind j = some (.inr Y) ∧ Agree ops a0 a bj j oj ∧ Region.wanted oj (yielded ops bj.tmps) = true ∧ p.2 = Y (slot a p.1)

/-- what holds of the slot of an operation that is listed -/
def Holds (a : Act) (w : World) (k : Nat) (o : Oper) (d : Tmp) (b : Act) : Prop :=
  if Region.wanted o (yielded ops b.tmps) = true then
    match kind k with
    | none => ∀ v F, GoodF ops a0 kind a k o F → (∀ w', R w1 w' → depF ops F o w' → detAt P R o b w' v) → slot a d = v
    | some (.inl c) => slot a d = c
    | some (.inr Y) => Y (slot a d) w
  else slot a d = undef

structure Inv (listed : Array Bool) (a : Act) (w : World) : Prop where
  size : listed.size = ops.size
  reach : R w1 w
  defs : a.defers = a0.defers
  tsz : a.tmps.size = a0.tmps.size
  closed : ∀ k o, ops[k]? = some o → L listed k → ∀ e ∈ o.after, Region.binds .any e = true → L listed e.on
  slots : ∀ s, (∀ k, L listed k → D ops k ≠ some s) → a.tmps[s]? = a0.tmps[s]?
  head : ∀ k, L listed k → k < n
  vals : ∀ k o d, ops[k]? = some o → L listed k → o.dst = some d → ∀ b, Agree ops a0 a b k o → Holds P ops R w1 a0 kind a w k o d b
end

variable {a0 : Act} {n : Nat} {kind : Nat → Kind}

theorem bound_lt (C : Chk ops n) {i k : Nat} {o : Oper} (ho : ops[i]? = some o) (h : bound o k = true) : k < i := by
  obtain ⟨e, he, hb, rfl⟩ := bound_spec h
  exact C.low i o ho e he hb

/-- the slot's writer below k, of an operation all of whose forerunners are listed, is listed -/
theorem dep_listed (C : Chk ops n) {listed : Array Bool} {k j : Nat} {o : Oper} {s : Tmp} (hk : k < n) (ho : ops[k]? = some o)
    (hall : ∀ e ∈ o.after, Region.binds .any e = true → L listed e.on) (hs : s ∈ o.looksAt ops) (hj : j < k) (hd : D ops j = some s) : L listed j := by
  rcases C.looks k o s j hk ho hs (by omega) hd with h | h | ⟨p, hp, h⟩
  · omega
  · obtain ⟨e, he, hb, rfl⟩ := bound_spec h
    exact hall e he hb
  · have := bound_lt C hp h; omega

theorem depF_of (C : Chk ops n) {listed : Array Bool} {a : Act} {w : World} (I : Inv P ops R w1 a0 n kind listed a w) {k : Nat} {o : Oper} (hk : k < n) (ho : ops[k]? = some o)
    (hall : ∀ e ∈ o.after, Region.binds .any e = true → L listed e.on) {F : List (Tmp × (World → Prop))} (hF : GoodF ops a0 kind a k o F) : depF ops F o w := by
  intro p hp hl
  obtain ⟨j, oj, Y, bj, hj, hoj, hd, hk', hb, hw, he⟩ := hF p hp hl
  have hlj := dep_listed C hk ho hall hl hj (by simp [D, hoj, hd])
  have := I.vals j oj p.1 hoj hlj hd bj hb
  unfold Holds at this
  rw [if_pos hw, hk'] at this
  rw [he]; exact this

theorem getD_set {listed : Array Bool} {i k : Nat} (hi : i < listed.size) : L (listed.setIfInBounds i true) k ↔ k = i ∨ L listed k := by
  unfold L
  by_cases h : k = i
  · subst h; simp [hi]
  · simp [h, Array.getElem?_setIfInBounds_ne (Ne.symm h)]

theorem put_slot {a : Act} {d : Tmp} {v : Value} (hd : d < a.tmps.size) : slot (a.put (some d) v) d = v := by
  simp [slot, Act.put, hd]
theorem put_get_ne {a : Act} {x : Option Tmp} {s : Tmp} {v : Value} (h : x ≠ some s) : (a.put x v).tmps[s]? = a.tmps[s]? := by
  cases x with
  | none => rfl
  | some d => exact Array.getElem?_setIfInBounds_ne (fun e => h (by rw [e]))
theorem put_slot_ne {a : Act} {x : Option Tmp} {s : Tmp} {v : Value} (h : x ≠ some s) : slot (a.put x v) s = slot a s := by
  unfold slot; rw [Array.getD_eq_getD_getElem?, Array.getD_eq_getD_getElem?, put_get_ne h]
theorem put_size {a : Act} {x : Option Tmp} {v : Value} : (a.put x v).tmps.size = a.tmps.size := by
  cases x <;> simp [Act.put]
theorem put_defs {a : Act} {x : Option Tmp} {v : Value} : (a.put x v).defers = a.defers := by
  cases x <;> rfl

/-- one operation more is listed -/
theorem Inv.step (C : Chk ops n) (htr : ∀ u v w : World, R u v → R v w → R u w) (hstab : ∀ k Y, kind k = some (.inr Y) → ∀ v w w', R w w' → Y v w → Y v w')
    {listed : Array Bool} {a : Act} {w w' : World} (I : Inv P ops R w1 a0 n kind listed a w) {i : Nat} {o : Oper} (hin : i < n) (ho : ops[i]? = some o) (hun : ¬ L listed i)
    (hall : ∀ e ∈ o.after, Region.binds .any e = true → L listed e.on) {v : Value} (hR : R w w')
    (hv : ∀ d, o.dst = some d → ∀ b, Agree ops a0 (a.put o.dst v) b i o → Holds P ops R w1 a0 kind (a.put o.dst v) w' i o d b) :
    Inv P ops R w1 a0 n kind (listed.setIfInBounds i true) (a.put o.dst v) w' := by
  have hi : i < listed.size := by rw [I.size]; exact (Array.getElem?_eq_some_iff.1 ho).1
  have hDi : D ops i = o.dst := by simp [D, ho]
  -- a slot that an operation listed before looks at, written below it
  have keep : ∀ k ok, ops[k]? = some ok → L listed k → ∀ s ∈ ok.looksAt ops, ∀ j, j < k → D ops j = some s → o.dst ≠ some s := by
    intro k ok hok hk s hs j hj hd he
    have hkn := I.head k hk
    have : j = i := C.uniq j i s (by omega) hin hd (by rw [hDi, he])
    subst this
    exact hun (dep_listed C hkn hok (I.closed k ok hok hk) hs hj hd)
  have agr : ∀ k ok, ops[k]? = some ok → L listed k → ∀ b, Agree ops a0 (a.put o.dst v) b k ok ↔ Agree ops a0 a b k ok := by
    intro k ok hok hk b
    constructor
    · intro h; exact ⟨fun s hs j hj hd => by rw [h.1 s hs j hj hd, put_get_ne (keep k ok hok hk s hs j hj hd)], h.2⟩
    · intro h; exact ⟨fun s hs j hj hd => by rw [h.1 s hs j hj hd, put_get_ne (keep k ok hok hk s hs j hj hd)], h.2⟩
  refine ⟨by simpa using I.size, htr _ _ _ I.reach hR, put_defs.trans I.defs, put_size.trans I.tsz, ?_, ?_, ?_, ?_⟩
  · intro k ok hok hk e he hb
    rcases (getD_set hi).1 hk with rfl | hk
    · rw [ho] at hok; cases hok; exact (getD_set hi).2 (.inr (hall e he hb))
    · exact (getD_set hi).2 (.inr (I.closed k ok hok hk e he hb))
  · intro s hs
    rw [put_get_ne (by rw [← hDi]; exact hs i ((getD_set hi).2 (.inl rfl)))]
    exact I.slots s fun k hk => hs k ((getD_set hi).2 (.inr hk))
  · intro k hk
    rcases (getD_set hi).1 hk with rfl | hk
    · exact hin
    · exact I.head k hk
  · intro k ok d hok hk hd b hb
    rcases (getD_set hi).1 hk with rfl | hk
    · rw [ho] at hok; cases hok; exact hv d hd b hb
    · have hki : k ≠ i := fun e => hun (e ▸ hk)
      have hne : o.dst ≠ some d := fun e => hki (C.uniq k i d (I.head k hk) hin (by simp [D, hok, hd]) (by rw [hDi, e]))
      have h := I.vals k ok d hok hk hd b ((agr k ok hok hk b).1 hb)
      unfold Holds at h ⊢
      rw [put_slot_ne hne]
      split
      · rename_i hw
        rw [if_pos hw] at h
        cases hkd : kind k with
        | none =>
          rw [hkd] at h
          intro v' F hF hspec
          refine h v' F (fun p hp hl => ?_) hspec
          obtain ⟨j, oj, Y, bj, hj, hoj, hdj, hkj, hbj, hwj, he⟩ := hF p hp hl
          have hDj : D ops j = some p.1 := by simp [D, hoj, hdj]
          have hlj := dep_listed C (I.head k hk) hok (I.closed k ok hok hk) hl hj hDj
          exact ⟨j, oj, Y, bj, hj, hoj, hdj, hkj, (agr j oj hoj hlj bj).1 hbj, hwj, by rw [he, put_slot_ne (keep k ok hok hk p.1 hl j hj hDj)]⟩
        | some x =>
          rw [hkd] at h
          cases x with
          | inl c => exact h
          | inr Y => exact hstab k Y hkd _ _ _ hR h
      · rename_i hw
        rw [if_neg hw] at h
        exact h

section
variable (P : Program) (ops : Array Oper) (R : World → World → Prop) (w1 : World) (a0 : Act) (n : Nat) (kind : Nat → Kind)
/-- a frame of the walk in the order of the text that goes with what has been done -/
structure Path (listed : Array Bool) (a : Act) (k : Nat) (b : Act) (F : List (Tmp × (World → Prop))) : Prop where
  defs : b.defers = a0.defers
  tsz : b.tmps.size = a0.tmps.size
  other : ∀ s, (∀ j, j < k → D ops j ≠ some s) → b.tmps[s]? = a0.tmps[s]?
  same : ∀ j, j < k → L listed j → ∀ d, D ops j = some d → b.tmps[d]? = a.tmps[d]?
  facts : ∀ p ∈ F, ∃ j oj Y v, j < k ∧ ops[j]? = some oj ∧ oj.dst = some p.1 ∧ kind j = some (.inr Y) ∧ p.2 = Y v ∧
    (L listed j → v = slot a p.1 ∧ ∃ bj, Agree ops a0 a bj j oj ∧ Region.wanted oj (yielded ops bj.tmps) = true)

def Spec (a : Act) (i : Nat) (o : Oper) : Prop := ∃ b F, Agree ops a0 a b i o ∧ GoodF ops a0 kind a i o F ∧ (Region.wanted o (yielded ops b.tmps) = true →
  match kind i with
  | none => ∃ v, ∀ w', R w1 w' → depF ops F o w' → detAt P R o b w' v
  | some (.inl c) => ∀ w', R w1 w' → depF ops F o w' → growAt P R o b w' fun u _ => u = c
  | some (.inr Y) => ∀ w', R w1 w' → depF ops F o w' → growAt P R o b w' Y)
end

theorem Path.agree (C : Chk ops n) {listed : Array Bool} {a b : Act} {F : List (Tmp × (World → Prop))} {k : Nat} {o : Oper} (hp : Path ops a0 kind listed a k b F) (hk : k < n) (ho : ops[k]? = some o)
    (hall : ∀ e ∈ o.after, Region.binds .any e = true → L listed e.on) : Agree ops a0 a b k o ∧ GoodF ops a0 kind a k o F := by
  refine ⟨⟨fun s hs j hj hd => hp.same j hj (dep_listed C hk ho hall hs hj hd) s hd, fun s _ hn => hp.other s hn⟩, fun p hpF hl => ?_⟩
  obtain ⟨j, oj, Y, v, hj, hoj, hd, hkj, he, hL⟩ := hp.facts p hpF
  obtain ⟨hv, bj, hbj, hw⟩ := hL (dep_listed C hk ho hall hl hj (by simp [D, hoj, hd]))
  exact ⟨j, oj, Y, bj, hj, hoj, hd, hkj, hbj, hw, by rw [he, hv]⟩

theorem Path.step (C : Chk ops n) {listed : Array Bool} {a b : Act} {w : World} {F : List (Tmp × (World → Prop))} {k : Nat} {o : Oper} (I : Inv P ops R w1 a0 n kind listed a w)
    (hin : ∀ o d, o ∈ ops → o.dst = some d → d < a0.tmps.size) (hp : Path ops a0 kind listed a k b F) (hk : k < n) (ho : ops[k]? = some o) (v : Value)
    (hv : L listed k → ∀ d, o.dst = some d → v = slot a d) : Path ops a0 kind listed a (k + 1) (b.put o.dst v) F := by
  have hDk : D ops k = o.dst := by simp [D, ho]
  refine ⟨put_defs.trans hp.defs, put_size.trans hp.tsz, fun s hs => ?_, fun j hj hL d hd => ?_, fun p hpF => ?_⟩
  · rw [put_get_ne (by rw [← hDk]; exact hs k (by omega))]
    exact hp.other s fun j hj => hs j (by omega)
  · by_cases e : j = k
    · subst e
      rw [hDk] at hd
      have hd1 := hin o d (Array.mem_of_getElem? ho) hd
      have := hv hL d hd
      rw [hd]
      have h1 : d < b.tmps.size := by rw [hp.tsz]; exact hd1
      have h2 : d < a.tmps.size := by rw [I.tsz]; exact hd1
      simp only [Act.put, Array.getElem?_setIfInBounds_self_of_lt h1, this, slot]
      simp [h2]
    · rw [put_get_ne fun e' => e (C.uniq j k d (I.head j hL) hk hd (by rw [hDk, e']))]
      exact hp.same j (by omega) hL d hd
  · obtain ⟨j, oj, Y, v, hj, h⟩ := hp.facts p hpF
    exact ⟨j, oj, Y, v, by omega, h⟩

theorem Path.fact {listed : Array Bool} {a b b' : Act} {F : List (Tmp × (World → Prop))} {k : Nat} {o : Oper} (hp : Path ops a0 kind listed a (k + 1) b' F) (ho : ops[k]? = some o) {Y : Value → World → Prop}
    (hY : kind k = some (.inr Y)) (v : Value) (hv : L listed k → (∀ d, o.dst = some d → v = slot a d) ∧ Agree ops a0 a b k o ∧ Region.wanted o (yielded ops b.tmps) = true) :
    Path ops a0 kind listed a (k + 1) b' (addF o.dst (Y v) F) := by
  refine ⟨hp.defs, hp.tsz, hp.other, hp.same, fun p hpF => ?_⟩
  unfold addF at hpF
  split at hpF
  · rename_i d hd
    rcases List.mem_cons.1 hpF with rfl | hpF
    · exact ⟨k, o, Y, v, by omega, ho, hd, hY, rfl, fun hL => ⟨(hv hL).1 d hd, b, (hv hL).2⟩⟩
    · exact hp.facts p hpF
  · exact hp.facts p hpF

theorem descend (C : Chk ops n) (hin : ∀ o d, o ∈ ops → o.dst = some d → d < a0.tmps.size) {Fin : Act → World → Prop} {listed : Array Bool} {a : Act} {w : World} (I : Inv P ops R w1 a0 n kind listed a w) :
    ∀ (l : List Oper) (k : Nat) (Ks : List Kind) (F : List (Tmp × (World → Prop))) (b : Act), k + l.length = n → (∀ j, j < l.length → l[j]? = ops[k + j]?) → (∀ j, Ks.getD j none = kind (k + j)) →
      Path ops a0 kind listed a k b F → wpG P ops R w1 Fin l Ks F b →
      (∀ i o, k ≤ i → i < n → ops[i]? = some o → (∀ e ∈ o.after, Region.binds .any e = true → L listed e.on) → Spec P ops R w1 a0 kind a i o) ∧
      (∃ b F, Path ops a0 kind listed a n b F ∧ ∀ w, R w1 w → (∀ p ∈ F, p.2 w) → Fin b w)
  | [], k, Ks, F, b, hn, _, _, hp, h => by
    have : k = n := by simpa using hn
    subst this
    exact ⟨fun i o h1 h2 => by omega, b, F, hp, h⟩
  | o :: l, k, Ks, F, b, hn, hl, hK, hp, h => by
    simp only [List.length_cons] at hn
    have ho : ops[k]? = some o := by have := hl 0 (by simp); simpa using this.symm
    have hk : k < n := by omega
    have hl' : ∀ j, j < l.length → l[j]? = ops[(k + 1) + j]? := fun j hj => by
      have := hl (j + 1) (by simp; omega)
      rw [show k + 1 + j = k + (j + 1) by omega, ← this]; rfl
    have hK' : ∀ j, Ks.tail.getD j none = kind ((k + 1) + j) := fun j => by
      have := hK (j + 1)
      rw [show k + 1 + j = k + (j + 1) by omega, ← this]
      cases Ks <;> simp
    have hK0 : Ks.headD none = kind k := by
      have := hK 0
      rw [Nat.add_zero] at this
      rw [← this]
      cases Ks <;> simp
    have hall : L listed k → ∀ e ∈ o.after, Region.binds .any e = true → L listed e.on := fun hL => I.closed k o ho hL
    -- what the walk's own step says
    have key : ∃ b' F', Path ops a0 kind listed a (k + 1) b' F' ∧ wpG P ops R w1 Fin l Ks.tail F' b' ∧
        (Region.wanted o (yielded ops b.tmps) = true → match kind k with
          | none => ∃ v, ∀ w', R w1 w' → depF ops F o w' → detAt P R o b w' v
          | some (.inl c) => ∀ w', R w1 w' → depF ops F o w' → growAt P R o b w' fun u _ => u = c
          | some (.inr Y) => ∀ w', R w1 w' → depF ops F o w' → growAt P R o b w' Y) := by
      unfold wpG at h
      split at h
      · rename_i hw
        rw [hK0] at h
        cases hkd : kind k with
        | none =>
          rw [hkd] at h
          obtain ⟨v, hs, h⟩ := h
          refine ⟨_, F, hp.step C I hin hk ho v fun hL d hd => ?_, h, fun _ => ⟨v, hs⟩⟩
          obtain ⟨hA, hG⟩ := hp.agree C hk ho (hall hL)
          have := I.vals k o d ho hL hd b hA
          unfold Holds at this
          rw [if_pos hw, hkd] at this
          exact (this v F hG hs).symm
        | some x =>
          rw [hkd] at h
          cases x with
          | inl c =>
            obtain ⟨hs, h⟩ := h
            refine ⟨_, F, hp.step C I hin hk ho c fun hL d hd => ?_, h, fun _ => hs⟩
            obtain ⟨hA, hG⟩ := hp.agree C hk ho (hall hL)
            have := I.vals k o d ho hL hd b hA
            unfold Holds at this
            rw [if_pos hw, hkd] at this
            exact this.symm
          | inr Y =>
            obtain ⟨hs, h⟩ := h
            have hv : L listed k → ∀ d, o.dst = some d → (o.dst.map (slot a)).getD undef = slot a d := fun _ d hd => by simp [hd]
            refine ⟨_, _, (hp.step C I hin hk ho _ hv).fact ho hkd _ fun hL => ⟨hv hL, (hp.agree C hk ho (hall hL)).1, hw⟩, h _, fun _ => hs⟩
      · rename_i hw
        refine ⟨_, F, hp.step C I hin hk ho undef fun hL d hd => ?_, h, fun hw' => absurd hw' hw⟩
        have := I.vals k o d ho hL hd b (hp.agree C hk ho (hall hL)).1
        unfold Holds at this
        rw [if_neg hw] at this
        exact this.symm
    obtain ⟨b', F', hp', h', hs⟩ := key
    obtain ⟨r1, r2⟩ := descend C hin I l (k + 1) Ks.tail F' b' (by omega) hl' hK' hp' h'
    refine ⟨fun i oi h1 h2 hoi hai => ?_, r2⟩
    by_cases e : i = k
    · subst e
      rw [ho] at hoi; cases hoi
      exact ⟨b, F, (hp.agree C h2 ho hai).1, (hp.agree C h2 ho hai).2, hs⟩
    · exact r1 i oi (by omega) h2 hoi hai


/-- how many of the first n are still to come -/
def left (listed : Array Bool) : Nat → Nat
  | 0 => 0
  | n + 1 => left listed n + if listed.getD n false then 0 else 1
theorem left_far {listed : Array Bool} {i : Nat} : ∀ n, n ≤ i → left (listed.setIfInBounds i true) n = left listed n
  | 0, _ => rfl
  | n + 1, h => by
    unfold left
    rw [left_far n (by omega)]
    have : (listed.setIfInBounds i true).getD n false = listed.getD n false := by
      rw [Array.getD_eq_getD_getElem?, Array.getD_eq_getD_getElem?, Array.getElem?_setIfInBounds_ne (by omega)]
    rw [this]
theorem left_set {listed : Array Bool} {i : Nat} (hi : i < listed.size) (hun : ¬ L listed i) : ∀ n, i < n → left (listed.setIfInBounds i true) n + 1 = left listed n
  | 0, h => by omega
  | n + 1, h => by
    unfold left
    by_cases e : i = n
    · subst e
      rw [left_far i (Nat.le_refl _)]
      have h1 : (listed.setIfInBounds i true).getD i false = true := (getD_set hi).2 (.inl rfl)
      have h2 : listed.getD i false = false := by unfold L at hun; simpa using hun
      rw [h1, h2]; simp
    · have := left_set hi hun n (by omega)
      have h1 : (listed.setIfInBounds i true).getD n false = listed.getD n false := by
        rw [Array.getD_eq_getD_getElem?, Array.getD_eq_getD_getElem?, Array.getElem?_setIfInBounds_ne (by omega)]
      rw [h1]; omega
theorem left_none {listed : Array Bool} : ∀ n, left listed n = 0 → ∀ k, k < n → L listed k
  | 0, _, k, hk => by omega
  | n + 1, h, k, hk => by
    unfold left at h
    by_cases e : k = n
    · subst e
      unfold L
      by_cases h1 : listed.getD k false = true
      · exact h1
      · rw [if_neg h1] at h; omega
    · exact left_none n (by omega) k (by omega)
theorem left_some {listed : Array Bool} : ∀ n, 0 < left listed n → ∃ k, k < n ∧ ¬ L listed k ∧ ∀ j, j < k → L listed j
  | 0, h => by simp [left] at h
  | n + 1, h => by
    by_cases h0 : 0 < left listed n
    · obtain ⟨k, hk, h1, h2⟩ := left_some n h0
      exact ⟨k, by omega, h1, h2⟩
    · have hn := left_none (listed := listed) n (by omega)
      refine ⟨n, by omega, fun hL => ?_, hn⟩
      unfold left at h
      unfold L at hL
      rw [if_pos hL] at h
      omega

theorem mem_ready' {listed : Array Bool} (hs : listed.size = ops.size) {j : Nat} : j ∈ Region.ready .any ops listed ↔
    ¬ L listed j ∧ ∃ o, ops[j]? = some o ∧ ∀ e ∈ o.after, Region.binds .any e = true → L listed e.on := by
  rw [mem_ready]
  constructor
  · rintro ⟨h0, o, ho, h⟩
    have hj : j < listed.size := by rw [hs]; exact (Array.getElem?_eq_some_iff.1 ho).1
    refine ⟨?_, o, ho, h⟩
    unfold L
    simp [hj] at h0 ⊢
    exact h0
  · rintro ⟨h0, o, ho, h⟩
    have hj : j < listed.size := by rw [hs]; exact (Array.getElem?_eq_some_iff.1 ho).1
    refine ⟨?_, o, ho, h⟩
    unfold L at h0
    simp [hj] at h0 ⊢
    exact h0

theorem wpAny_tail (C : Chk ops n) {Q : Exit → Act → World → Prop} : ∀ (l : List Oper) (m : Nat) (listed : Array Bool) (a : Act) (w : World), n ≤ m → (∀ j, l[j]? = ops[m + j]?) → l.length = ops.size - m → listed.size = ops.size →
    (∀ k, k < ops.size → (L listed k ↔ k < m)) → wpList P ops Q l a w → wpAny P .any ops Q l.length listed a w
  | [], m, listed, a, w, hm, hl, hlen, hs, hL, h => by
    refine ⟨List.eq_nil_iff_forall_not_mem.2 fun j hj => ?_, h⟩
    obtain ⟨h0, o, ho, _⟩ := (mem_ready' hs).1 hj
    have hj' := (Array.getElem?_eq_some_iff.1 ho).1
    exact h0 ((hL j hj').2 (by simp at hlen; omega))
  | o :: l, m, listed, a, w, hm, hl, hlen, hs, hL, h => by
    have ho : ops[m]? = some o := by simpa using (hl 0).symm
    have hmlt : m < ops.size := (Array.getElem?_eq_some_iff.1 ho).1
    have hmr : m ∈ Region.ready .any ops listed := (mem_ready' hs).2 ⟨fun h => by have := (hL m hmlt).1 h; omega, o, ho, fun e he hb => (hL e.on (by have := C.low m o ho e he hb; omega)).2 (C.low m o ho e he hb)⟩
    refine ⟨fun h0 => (by rw [h0] at hmr; cases hmr), fun i hi => ?_⟩
    obtain ⟨h0, oi, hoi, hall⟩ := (mem_ready' hs).1 hi
    have hilt := (Array.getElem?_eq_some_iff.1 hoi).1
    have him : i = m := by
      by_cases e : i = m
      · exact e
      · have hge : ¬ i < m := fun h => h0 ((hL i hilt).2 h)
        obtain ⟨e', he, hb, hon⟩ := bound_spec (C.seq i oi (by omega) hoi)
        have := (hL (i - 1) (by omega)).1 (hon ▸ hall e' he hb)
        omega
    subst him
    have hw : wpOp P ops Q i (wpList P ops Q l) a w := by unfold wpOp; simp only [ho]; exact h
    refine wpOp_mono (fun a' w' h' => wpAny_tail C l (i + 1) _ a' w' (by omega) (fun j => ?_) (by simp at hlen; omega) (by simpa using hs) (fun k hk => ?_) h') hw
    · have := hl (j + 1)
      rw [show i + 1 + j = i + (j + 1) by omega, ← this]; rfl
    · rw [getD_set (by rw [hs]; exact hmlt), hL k hk]; omega

theorem wp_of_det {o : Oper} {a : Act} {w : World} {v : Value} {K : Act → World → Prop} {Q : Exit → Act → World → Prop} (h : detAt P R o a w v) (hK : ∀ w', R w w' → K (a.put o.dst v) w') : o.wp P a w K Q := by
  unfold detAt at h
  unfold Oper.wp
  generalize (execOp a.eval o).run P w = r at *
  cases r with
  | ok x w' =>
    cases x <;> simp only [detUpon] at h <;> simp only [Oper.upon]
    case value u => obtain ⟨rfl, hR⟩ := h; exact hK _ hR
    case skip => obtain ⟨rfl, hR⟩ := h; exact hK _ hR
  | halt x w' => simp only [detUpon] at h
theorem wp_of_grow {o : Oper} {a : Act} {w : World} {Y : Value → World → Prop} {K : Act → World → Prop} {Q : Exit → Act → World → Prop} (h : growAt P R o a w Y) (hK : ∀ v w', Y v w' → R w w' → K (a.put o.dst v) w') : o.wp P a w K Q := by
  unfold growAt at h
  unfold Oper.wp
  generalize (execOp a.eval o).run P w = r at *
  cases r with
  | ok x w' =>
    cases x <;> simp only [growUpon] at h <;> simp only [Oper.upon]
    case value u => exact hK _ _ h.1 h.2
    case skip => exact hK _ _ h.1 h.2
    case enter f args => exact h.mono fun e w'' ⟨v, he, hY, hR⟩ => by subst he; exact hK _ _ hY hR
  | halt x w' => simp only [growUpon] at h

theorem Inv.settle {listed : Array Bool} {a : Act} {w : World} (I : Inv P ops R w1 a0 n kind listed a w) (hall : ∀ k, k < n → L listed k)
    {b : Act} {F : List (Tmp × (World → Prop))} (hp : Path ops a0 kind listed a n b F) : b = a ∧ ∀ p ∈ F, p.2 w := by
  constructor
  · have ht : b.tmps = a.tmps := by
      apply Array.ext_getElem?
      intro s
      by_cases hj : ∃ j, j < n ∧ D ops j = some s
      · obtain ⟨j, hj, hd⟩ := hj
        exact hp.same j hj (hall j hj) s hd
      · have hn : ∀ j, j < n → D ops j ≠ some s := fun j hj' hd => hj ⟨j, hj', hd⟩
        rw [hp.other s hn, I.slots s fun k hk => hn k (I.head k hk)]
    have hd : b.defers = a.defers := hp.defs.trans I.defs.symm
    cases a; cases b; simp_all
  · intro p hpF
    obtain ⟨j, oj, Y, v, hj, hoj, hd, hkj, he, hL⟩ := hp.facts p hpF
    obtain ⟨hv, bj, hbj, hw⟩ := hL (hall j hj)
    have := I.vals j oj p.1 hoj (hall j hj) hd bj hbj
    unfold Holds at this
    rw [if_pos hw, hkj] at this
    rw [he, hv]; exact this

theorem wpAny_of_g (C : Chk ops n) (hrf : ∀ w : World, R w w) (htr : ∀ u v w : World, R u v → R v w → R u w) (hstab : ∀ k Y, kind k = some (.inr Y) → ∀ v w w', R w w' → Y v w → Y v w')
    (hin : ∀ o d, o ∈ ops → o.dst = some d → d < a0.tmps.size) {Q : Exit → Act → World → Prop} {l : List Oper} (hll : l.length = n) (hl : ∀ j, j < l.length → l[j]? = ops[0 + j]?) {Ks : List Kind} (hK : ∀ j, Ks.getD j none = kind (0 + j))
    {t : List Oper} (htl : t.length = ops.size - n) (ht : ∀ j, t[j]? = ops[n + j]?)
    (h : wpG P ops R w1 (fun a' w' => wpList P ops Q t a' w') l Ks [] a0) :
    ∀ (fuel : Nat) (listed : Array Bool) (a : Act) (w : World), fuel = left listed n + t.length → Inv P ops R w1 a0 n kind listed a w → wpAny P .any ops Q fuel listed a w := by
  intro fuel
  induction fuel with
  | zero =>
    intro listed a w hf I
    have hall := left_none n (show left listed n = 0 by omega)
    have h0 : Path ops a0 kind listed a 0 a0 [] := ⟨rfl, rfl, fun _ _ => rfl, fun j hj => by omega, fun p hp => by cases hp⟩
    obtain ⟨b, F, hp, hfin⟩ := (descend C hin I l 0 Ks [] a0 (by omega) hl hK h0 h).2
    obtain ⟨rfl, hF⟩ := I.settle hall hp
    have := wpAny_tail C t n listed b w (Nat.le_refl _) ht htl I.size (fun k hk => ⟨I.head k, hall k⟩) (hfin w I.reach hF)
    rw [show t.length = 0 by omega] at this
    exact this
  | succ fuel ih =>
    intro listed a w hf I
    have h0 : Path ops a0 kind listed a 0 a0 [] := ⟨rfl, rfl, fun _ _ => rfl, fun j hj => by omega, fun p hp => by cases hp⟩
    obtain ⟨hsp, b, F, hp, hfin⟩ := descend C hin I l 0 Ks [] a0 (by omega) hl hK h0 h
    by_cases hz : left listed n = 0
    · have hall := left_none n hz
      obtain ⟨rfl, hF⟩ := I.settle hall hp
      have := wpAny_tail C t n listed b w (Nat.le_refl _) ht htl I.size (fun k hk => ⟨I.head k, hall k⟩) (hfin w I.reach hF)
      rw [show t.length = fuel + 1 by omega] at this
      exact this
    · obtain ⟨k, hkn, hkun, hklow⟩ := left_some n (by omega : 0 < left listed n)
      have hks : k < ops.size := by have := C.le; omega
      refine ⟨fun hr => ?_, fun i hi => ?_⟩
      · have : k ∈ Region.ready .any ops listed := (mem_ready' I.size).2 ⟨hkun, ops[k], Array.getElem?_eq_getElem hks, fun e he hb => hklow _ (C.low k _ (Array.getElem?_eq_getElem hks) e he hb)⟩
        rw [hr] at this; cases this
      · obtain ⟨hiun, o, ho, hall⟩ := (mem_ready' I.size).1 hi
        have his := (Array.getElem?_eq_some_iff.1 ho).1
        have hin' : i < n := by
          by_cases hlt : i < n
          · exact hlt
          · -- the last of the first n that is still to come is waited for
            have hlast : ∀ m, m ≤ n → (∀ j, m ≤ j → j < n → L listed j) → False := by
              intro m
              induction m with
              | zero => intro _ hm; exact hkun (hm k (by omega) hkn)
              | succ m ihm =>
                intro hmn hm
                by_cases hLm : L listed m
                · exact ihm (by omega) fun j h1 h2 => by
                    by_cases e : j = m
                    · subst e; exact hLm
                    · exact hm j (by omega) h2
                · rcases C.waits with hw | hw
                  · omega
                  · obtain ⟨j, oj, h1, h2, hoj, hb⟩ := hw m (by omega)
                    obtain ⟨e, he, hbe, hon⟩ := bound_spec hb
                    by_cases hjn : j < n
                    · exact hLm (hon ▸ I.closed j oj hoj (hm j (by omega) hjn) e he hbe)
                    · have hjn' : j = n := by omega
                      subst hjn'
                      by_cases hij : i = j
                      · subst hij
                        rw [ho] at hoj; cases hoj
                        exact hLm (hon ▸ hall e he hbe)
                      · obtain ⟨e', he', hb', hon'⟩ := bound_spec (C.seq i o (by omega) ho)
                        have := I.head (i - 1) (hon' ▸ hall e' he' hb')
                        omega
            exact (hlast n (Nat.le_refl _) fun j h1 h2 => by omega).elim
        obtain ⟨b', F', hA, hG, hspec⟩ := hsp i o (by omega) hin' ho hall
        have hsel := fun cs c => C.sel i o cs c ho
        have hab : ∀ s ∈ o.looksAt ops, a.tmps[s]? = b'.tmps[s]? := by
          intro s hs
          by_cases hj : ∃ j, j < i ∧ D ops j = some s
          · obtain ⟨j, hj, hd⟩ := hj
            exact (hA.1 s hs j hj hd).symm
          · have hn' : ∀ j, j < i → D ops j ≠ some s := fun j hj' hd => hj ⟨j, hj', hd⟩
            rw [hA.2 s hs hn']
            refine I.slots s fun j hLj hd => ?_
            rcases C.looks i o s j hin' ho hs (I.head j hLj) hd with hij | hij | ⟨q, hq, hij⟩
            · subst hij; exact hiun hLj
            · exact hn' j (bound_lt C ho hij) hd
            · obtain ⟨e, he, hb, rfl⟩ := bound_spec hij
              exact hiun (I.closed j q hq hLj e he hb)
        obtain ⟨hex, hwa⟩ := look_congr (ops := ops) hsel hab
        have hdep := depF_of C I hin' ho hall hG
        have hfuel : fuel = left (listed.setIfInBounds i true) n + t.length := by
          have := left_set (listed := listed) (by rw [I.size]; exact his) hiun n hin'; omega
        -- whoever agrees looks at the same
        have same : ∀ (v : Value) b, Agree ops a0 (a.put o.dst v) b i o → execOp b.eval o = execOp b'.eval o ∧ Region.wanted o (yielded ops b.tmps) = Region.wanted o (yielded ops b'.tmps) := by
          intro v b hb
          have hb2 : Agree ops a0 a b i o := by
            refine ⟨fun s hs j hj hd => ?_, hb.2⟩
            rw [hb.1 s hs j hj hd]
            refine put_get_ne fun e => ?_
            have : j = i := C.uniq j i s (by omega) hin' hd (by simp [D, ho, e])
            omega
          exact look_congr hsel (hb2.same hA)
        have good : ∀ (v : Value) F, GoodF ops a0 kind (a.put o.dst v) i o F → GoodF ops a0 kind a i o F := by
          intro v F hF p hp hl
          obtain ⟨j, oj, Y, bj, hj, hoj, hdj, hkj, hbj, hwj, he⟩ := hF p hp hl
          have hDj : D ops j = some p.1 := by simp [D, hoj, hdj]
          have hlj := dep_listed C hin' ho hall hl hj hDj
          have hne : o.dst ≠ some p.1 := fun e => by
            have : j = i := C.uniq j i p.1 (by omega) hin' hDj (by simp [D, ho, e])
            omega
          refine ⟨j, oj, Y, bj, hj, hoj, hdj, hkj, ⟨fun s hs j' hj' hd' => ?_, hbj.2⟩, hwj, by rw [he, put_slot_ne hne]⟩
          rw [hbj.1 s hs j' hj' hd']
          refine put_get_ne fun e => ?_
          have : j' = i := C.uniq j' i s (by omega) hin' hd' (by simp [D, ho, e])
          subst this
          omega
        have hd1 : ∀ d, o.dst = some d → d < a.tmps.size := fun d hd => by rw [I.tsz]; exact hin o d (Array.mem_of_getElem? ho) hd
        unfold wpOp
        simp only [ho]
        split
        · rename_i hw
          have hwb : Region.wanted o (yielded ops b'.tmps) = true := by rw [← hwa]; exact hw
          have hspec := hspec hwb
          refine .inl ?_
          cases hkd : kind i with
          | none =>
            rw [hkd] at hspec
            obtain ⟨v, hs⟩ := hspec
            have hd : detAt P R o a w v := by unfold detAt; rw [hex]; exact hs w I.reach hdep
            refine wp_of_det hd fun w' hR => ih _ _ _ hfuel (I.step C htr hstab hin' ho hiun hall hR fun d hdd b hb => ?_)
            obtain ⟨e1, e2⟩ := same v b hb
            unfold Holds
            rw [if_pos (by rw [e2]; exact hwb), hkd]
            intro v' F2 hF2 hs2
            have h1 := hs w I.reach hdep
            have h2 := hs2 w I.reach (depF_of C I hin' ho hall (good v F2 hF2))
            unfold detAt at h1 h2
            rw [e1] at h2
            rw [hdd, put_slot (hd1 d hdd)]
            generalize (execOp b'.eval o).run P w = r at h1 h2
            cases r with
            | ok x w'' =>
              cases x <;> simp only [detUpon] at h1 h2
              case value u => rw [← h1.1, h2.1]
              case skip => rw [← h1.1, h2.1]
            | halt x w'' => simp only [detUpon] at h1
          | some x =>
            rw [hkd] at hspec
            cases x with
            | inl c =>
              have hg : growAt P R o a w fun u _ => u = c := by unfold growAt; rw [hex]; exact hspec w I.reach hdep
              refine wp_of_grow hg fun v w' hv hR => ih _ _ _ hfuel (I.step C htr hstab hin' ho hiun hall hR fun d hdd b hb => ?_)
              obtain ⟨e1, e2⟩ := same v b hb
              unfold Holds
              rw [if_pos (by rw [e2]; exact hwb), hkd]
              show slot _ d = c
              rw [hdd, put_slot (hd1 d hdd)]; exact hv
            | inr Y =>
              have hg : growAt P R o a w Y := by unfold growAt; rw [hex]; exact hspec w I.reach hdep
              refine wp_of_grow hg fun v w' hv hR => ih _ _ _ hfuel (I.step C htr hstab hin' ho hiun hall hR fun d hdd b hb => ?_)
              obtain ⟨e1, e2⟩ := same v b hb
              unfold Holds
              rw [if_pos (by rw [e2]; exact hwb), hkd]
              show Y (slot _ d) w'
              rw [hdd, put_slot (hd1 d hdd)]; exact hv
        · rename_i hw
          have hwb : ¬ Region.wanted o (yielded ops b'.tmps) = true := by rw [← hwa]; exact hw
          refine ih _ _ _ hfuel (I.step C htr hstab hin' ho hiun hall (hrf w) fun d hdd b hb => ?_)
          obtain ⟨e1, e2⟩ := same undef b hb
          unfold Holds
          rw [if_neg (by rw [e2]; exact hwb)]
          rw [hdd, put_slot (hd1 d hdd)]

/-- THE LAW: a region that draws its order, its first n operations by the walk in the order of the text, the rest in the order that is forced -/
theorem wp_region_g {id : Nat} {l : List Oper} {Q : Exit → Act → World → Prop} {a : Act} {w : World} (n : Nat) (Ks : List Kind) (R : World → World → Prop) (hm : P.follows .mixedOrders = true)
    (hB : gB l.toArray n = true) (hin : inB l.toArray a = true) (hrf : ∀ w : World, R w w) (htr : ∀ u v w : World, R u v → R v w → R u w)
    (hstab : ∀ K ∈ Ks, ∀ Y, K = some (.inr Y) → ∀ v w w', R w w' → Y v w → Y v w')
    (h : wpG P l.toArray R w.drew (fun a' w' => wpList P l.toArray Q (l.drop n) a' w') (l.take n) Ks [] a) : (Code.region id l.toArray true).wp P Q a w := by
  have C := Chk.of hB
  have hle : n ≤ l.length := by have := C.le; simpa using this
  have hin' : ∀ o d, o ∈ l.toArray → o.dst = some d → d < a.tmps.size := by
    intro o d ho hd
    unfold inB at hin
    have := Array.all_eq_true_iff_forall_mem.1 hin o ho
    simpa [hd] using this
  refine wp_region_any hm ?_
  refine wpAny_of_g (a0 := a) (n := n) (kind := fun k => Ks.getD k none) C hrf htr (fun k Y hk v w w' hR hY => ?_) hin' (l := l.take n) (Ks := Ks) (by simp [hle]) (fun j hj => ?_) (fun j => by simp)
    (t := l.drop n) (by simp) (fun j => by simp) h _ _ _ _ ?_ ?_
  · have hlt : k < Ks.length := by
      rcases Nat.lt_or_ge k Ks.length with h | h
      · exact h
      · simp [List.getD, List.getElem?_eq_none h] at hk
    have hmem : (some (.inr Y) : Kind) ∈ Ks := by
      rw [← hk, List.getD_eq_getElem?_getD, List.getElem?_eq_getElem hlt]; exact List.getElem_mem hlt
    exact hstab _ hmem Y rfl v w w' hR hY
  · have : j < n := by simp at hj; omega
    simp [this]
  · have : ∀ m, m ≤ l.length → left (Array.replicate l.length false) m = m := by
      intro m
      induction m with
      | zero => intro _; rfl
      | succ m ih => intro hm'; unfold left; rw [ih (by omega)]; simp [show m < l.length by omega]
    have h2 := this n hle
    simp only [List.size_toArray, List.length_drop]
    rw [h2]; omega
  · have hno : ∀ k, ¬ L (Array.replicate l.toArray.size false) k := by
      intro k hk
      unfold L at hk
      simp only [Array.getD_eq_getD_getElem?, Array.getElem?_replicate] at hk
      split at hk <;> simp at hk
    exact ⟨by simp, hrf _, rfl, rfl, fun k o _ hk => (hno k hk).elim, fun _ _ => rfl, fun k hk => (hno k hk).elim, fun k o d _ hk => (hno k hk).elim⟩


section
variable {Fin : Act → World → Prop} {o : Oper} {rest : List Oper} {Ks : List Kind} {F : List (Tmp × (World → Prop))} {a : Act}
theorem g_nil (h : ∀ w, R w1 w → (∀ p ∈ F, p.2 w) → Fin a w) : wpG P ops R w1 Fin [] Ks F a := h
theorem g_det (hw : Region.wanted o (yielded ops a.tmps) = true) (h : ∃ v, (∀ w, R w1 w → depF ops F o w → detAt P R o a w v) ∧ wpG P ops R w1 Fin rest Ks F (a.put o.dst v)) :
    wpG P ops R w1 Fin (o :: rest) (none :: Ks) F a := by
  unfold wpG; rw [if_pos hw]; exact h
theorem g_con {c : Value} (hw : Region.wanted o (yielded ops a.tmps) = true) (h : ∀ w, R w1 w → depF ops F o w → growAt P R o a w fun u _ => u = c) (hk : wpG P ops R w1 Fin rest Ks F (a.put o.dst c)) :
    wpG P ops R w1 Fin (o :: rest) (some (.inl c) :: Ks) F a := by
  unfold wpG; rw [if_pos hw]; exact ⟨h, hk⟩
theorem g_new {Y : Value → World → Prop} (hw : Region.wanted o (yielded ops a.tmps) = true) (h : ∀ w, R w1 w → depF ops F o w → growAt P R o a w Y) (hk : ∀ v, wpG P ops R w1 Fin rest Ks (addF o.dst (Y v) F) (a.put o.dst v)) :
    wpG P ops R w1 Fin (o :: rest) (some (.inr Y) :: Ks) F a := by
  unfold wpG; rw [if_pos hw]; exact ⟨h, hk⟩
theorem g_skip {K : Kind} (hw : Region.wanted o (yielded ops a.tmps) = false) (hk : wpG P ops R w1 Fin rest Ks F (a.put o.dst undef)) :
    wpG P ops R w1 Fin (o :: rest) (K :: Ks) F a := by
  unfold wpG; rw [if_neg (by rw [hw]; exact Bool.false_ne_true)]; exact hk
end
end
attribute [go_sem] detAt detUpon growAt growUpon
end Go.Proofs.YtadhkeboaapfcaaGreatDoor.Grow
