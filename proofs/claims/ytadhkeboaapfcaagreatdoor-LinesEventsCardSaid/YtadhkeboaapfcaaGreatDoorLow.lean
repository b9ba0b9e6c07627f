/- Small words for walks: a world that was only drawn from; the end of a call that hands back a number. -/
import Derived.WalkKit
import Derived.WalkSpells
import Derived.WalkLawsBesides
import Derived.Lib.Hide
import Derived.Lib.IndexBytes
import Derived.Deep.QuietTactic
import Derived.BigQuiet
import Derived.Deep.RegionWith
import Derived.Deep.DeepMust
import Derived.BigRegion
import Derived.KernelRfl
import Derived.Lib.ConvBytes
import Derived.StillTail
import Derived.Tactics
import Derived.Laws.MakeOwn
import Derived.Laws.OwnMore
import Derived.Laws.AppendOwn
import Derived.ArgAppend
import Derived.Shelf.Strings.Builder1
import Derived.Test.YtadhkeboaapfcaaGreatDoorProg
import Derived.Deep.DeepCutAuto
import Derived.MapKept
import Derived.Below
namespace Go.Proofs.YtadhkeboaapfcaaGreatDoor
open Go.RowKit

theorem ret_int {k : IntKind} {a b : Int} (h : a = b) : Ending.returned (.int k a) = Ending.returned (.int k b) := by rw [h]
theorem ret_str {a b : ByteArray} (h : a = b) : Ending.returned (.string a) = Ending.returned (.string b) := by rw [h]
theorem ret_bool {a b : Bool} (h : a = b) : Ending.returned (.bool a) = Ending.returned (.bool b) := by rw [h]

/-- w is W, but for draws -/
def Drawn (W w : World) : Prop := ∃ n, w = W.drewN n
theorem Drawn.refl (W : World) : Drawn W W := ⟨0, rfl⟩
theorem Drawn.drewN {W w : World} (h : Drawn W w) (n : Nat) : Drawn W (w.drewN n) := by obtain ⟨m, rfl⟩ := h; exact ⟨m + n, World.drewN_drewN ..⟩
theorem Drawn.drew {W w : World} (h : Drawn W w) : Drawn W w.drew := h.drewN 1
theorem Drawn.trans {W w u : World} (h : Drawn W w) (k : Drawn w u) : Drawn W u := by obtain ⟨m, rfl⟩ := k; exact h.drewN m
theorem Drawn.cell {W w : World} (h : Drawn W w) (a : Addr) : w.cell? a = W.cell? a := by obtain ⟨m, rfl⟩ := h; rfl
theorem Drawn.heap {W w : World} (h : Drawn W w) : w.heap = W.heap := by obtain ⟨m, rfl⟩ := h; rfl
theorem Drawn.frozen {W w : World} (h : Drawn W w) (a : Addr) : w.frozen? a = W.frozen? a := by obtain ⟨m, rfl⟩ := h; rfl
theorem Drawn.below {W w : World} (h : Drawn W w) (B : Nat) : Below B W w := by obtain ⟨m, rfl⟩ := h; exact below_drewN (Below.refl _ _) m
theorem Drawn.of_eq {W w : World} (h : W = w) : Drawn W w := h ▸ Drawn.refl W
theorem quiet_drawn {P : Program} {f : FuncId} {args : Array Value} {w : World} {n : Nat} {v : Value}
    (h : Calls P f args (w.drewN n) fun e w' => e = .returned v ∧ Drawn (w.drewN n) w') : Calls P f args (w.drewN n) fun e w'' => e = .returned v ∧ ∃ m, w'' = w.drewN m :=
  h.mono fun _ _ ⟨he, hm⟩ => ⟨he, Drawn.trans ⟨n, rfl⟩ hm⟩
theorem quiet_same {P : Program} {f : FuncId} {args : Array Value} {w : World} {n : Nat} {v : Value}
    (h : Calls P f args (w.drewN n) fun e w' => e = .returned v ∧ w.drewN n = w') : Calls P f args (w.drewN n) fun e w'' => e = .returned v ∧ ∃ m, w'' = w.drewN m :=
  h.mono fun _ _ ⟨he, hm⟩ => ⟨he, n, hm.symm⟩
theorem cell_lt {w : World} {a : Addr} {v : Value} (h : w.cell? a = some v) : a.block < w.heap.size := by
  unfold World.cell? at h
  rcases Nat.lt_or_ge a.block w.heap.size with hl | hl
  · exact hl
  · rw [Array.getElem?_eq_none hl] at h; cases h
theorem cell_spot {w : World} {a : Addr} {v : Value} (h : w.cell? a = some v) : a.spot = none := by
  unfold World.cell? at h
  split at h
  · split at h
    · cases h
    · cases hs : a.spot with
      | none => rfl
      | some x => simp [hs] at *
  · cases h
/-- a slice of texts that lies in memory -/
def Strs (w : World) (a : Option Addr) (ss : List ByteArray) : Prop := ∀ i (h : i < ss.length), ∃ b off, a = some ⟨b, off, none⟩ ∧ w.cell? ⟨b, off + i, none⟩ = some (.string ss[i])
theorem Strs.below {W w : World} {a : Option Addr} {ss : List ByteArray} (h : Strs W a ss) (hb : Below W.heap.size W w) : Strs w a ss := by
  intro i hi
  obtain ⟨b, off, rfl, hc⟩ := h i hi
  exact ⟨b, off, rfl, by rw [hb.cell (cell_lt hc)]; exact hc⟩
theorem Strs.of_cells {w : World} {a : Addr} {ss : List ByteArray} (h : ∀ i (hi : i < ss.length), w.cell? (a.add i) = some (.string ss[i])) : Strs w (some a) ss := by
  intro i hi
  have h0 := h 0 (by omega)
  have hs : a.spot = none := by
    have : a.add 0 = a := by unfold Addr.add; rw [if_pos rfl]
    rw [this] at h0; exact cell_spot h0
  refine ⟨a.block, a.off, by cases a; simp_all, ?_⟩
  have := h i hi
  have ha : a.add i = ⟨a.block, a.off + i, none⟩ := by
    unfold Addr.add
    split
    · rename_i e; subst e; cases a; simp_all
    · cases a; simp_all
  rw [← ha]; exact this

/-- bytes in memory, as a text -/
theorem bytes_string {P : Program} (w : World) (src e dst : TypeId) (hs : P.underlying src = some (.slice e)) (he : P.underlying e = some (.int .u8)) (hd : P.underlying dst = some .string)
    (b off cap : Nat) (l : List UInt8) (hcell : ∀ i (h : i < l.length), w.cell? ⟨b, off + i, none⟩ = some (.int .u8 l[i].toNat)) (n : Nat) (hn : n = l.length) :
    (convert src dst (.slice (some ⟨b, off, none⟩) n cap)).run P w = .ok (.string ⟨l.toArray⟩) w := by
  subst hn
  have := run_convert_bytes_arg (P := P) w src e hs he b off l.length cap (l.map fun c => (c.toNat : Int)) (by simp) (fun i hi => by
    rw [hcell i hi]; simp [List.getD, List.getElem?_eq_getElem hi]) dst hd
  rw [this]
  unfold strOfNums
  congr 3
  simp
  exact (List.map_congr_left (fun c _ => by simp)).trans (List.map_id l)
/-- a text's bytes in new memory -/
theorem string_bytes {P : Program} (w : World) (src dst e : TypeId) (s : ByteArray) (hs : P.underlying src = some .string) (hd : P.underlying dst = some (.slice e)) (he : P.underlying e = some (.int .u8)) :
    ∃ c w', (convert src dst (.string s)).run P w = .ok (.slice (some ⟨w.heap.size, 0, none⟩) s.size c) w' ∧ Below w.heap.size w w' ∧ w'.heap.size = w.heap.size + 1 ∧ s.size ≤ c ∧
      (∀ j (hj : j < s.size), w'.cell? ⟨w.heap.size, j, none⟩ = some (.int .u8 (s[j].toNat : Int))) ∧ ∀ j, j < s.size → w'.frozen? ⟨w.heap.size, j, none⟩ = false := by
  refine ⟨_, _, Lib.run_convert_string_bytes w src dst e s hs hd he, ⟨?_, ?_, ?_, ?_, ?_⟩, Lib.bytesWorld_size w e s, ?_, ?_, ?_⟩
  · simp [Lib.bytesWorld, World.freeze, World.alloc, World.drew, -World.alloc_eq, -World.drew_eq]
  · simp [Lib.bytesWorld, World.freeze, World.alloc, World.drew, -World.alloc_eq, -World.drew_eq]
  · simp [Lib.bytesWorld, World.freeze, World.alloc, World.drew, -World.alloc_eq, -World.drew_eq]
  · rw [Lib.bytesWorld_size]; omega
  · intro k hk; exact Lib.bytesWorld_at_old w e s k hk
  · unfold grownCap; exact Nat.le_add_right _ _
  · intro j hj
    rw [Lib.bytesWorld_cell w e s j hj]
    simp [List.getD, hj]
    rfl
  · intro j hj
    have hC : s.size ≤ (Lib.bytesCells w e s).size := by unfold Lib.bytesCells; rw [Array.size_append, Array.size_map]; exact Nat.le_add_right _ _
    unfold World.frozen?
    rw [Lib.bytesWorld_at_new]
    simp; omega
end Go.Proofs.YtadhkeboaapfcaaGreatDoor
namespace Go.Proofs.YtadhkeboaapfcaaGreatDoor.Grow
open Go

abbrev Kind := Option (Value ⊕ (Value → World → Prop))

section
variable (P : Program) (ops : Array Oper) (R : World → World → Prop) (w1 : World)

def detUpon (w : World) (v : Value) : Result Next → Prop
  | .ok (.value u) w' => u = v ∧ R w w'
  | .ok .skip w' => undef = v ∧ R w w'
  | _ => False
def growUpon (w : World) (Y : Value → World → Prop) : Result Next → Prop
  | .ok (.value u) w' => Y u w' ∧ R w w'
  | .ok .skip w' => Y undef w' ∧ R w w'
  | .ok (.enter f args) w' => Calls P f args w' fun e w'' => ∃ v, e = .returned v ∧ Y v w'' ∧ R w w''
  | _ => False
def detAt (o : Oper) (a : Act) (w : World) (v : Value) : Prop := detUpon R w v ((execOp a.eval o).run P w)
def growAt (o : Oper) (a : Act) (w : World) (Y : Value → World → Prop) : Prop := growUpon P R w Y ((execOp a.eval o).run P w)

/-- the facts that an operation may lean on: those of the slots that it looks at -/
def depF (F : List (Tmp × (World → Prop))) (o : Oper) (w : World) : Prop := ∀ p ∈ F, p.1 ∈ o.looksAt ops → p.2 w

def addF (d : Option Tmp) (p : World → Prop) (F : List (Tmp × (World → Prop))) : List (Tmp × (World → Prop)) :=
  match d with
  | some d => (d, p) :: F
  | none => F

/-- the walk in the order of the text -/
def wpG (Fin : Act → World → Prop) : List Oper → List Kind → List (Tmp × (World → Prop)) → Act → Prop
  | [], _, F, a => ∀ w, R w1 w → (∀ p ∈ F, p.2 w) → Fin a w
  | o :: rest, Ys, F, a =>
    if Region.wanted o (yielded ops a.tmps) then
      match Ys.headD none with
      | none => ∃ v, (∀ w, R w1 w → depF ops F o w → detAt P R o a w v) ∧ wpG Fin rest Ys.tail F (a.put o.dst v)
      | some (.inl c) => (∀ w, R w1 w → depF ops F o w → growAt P R o a w fun u _ => u = c) ∧ wpG Fin rest Ys.tail F (a.put o.dst c)
      | some (.inr Y) => (∀ w, R w1 w → depF ops F o w → growAt P R o a w Y) ∧ ∀ v, wpG Fin rest Ys.tail (addF o.dst (Y v) F) (a.put o.dst v)
    else wpG Fin rest Ys.tail F (a.put o.dst undef)

/-- an edge binds -/
def bound (o : Oper) (k : Nat) : Bool := o.after.any fun e => Region.binds .any e && e.on == k
theorem bound_spec {o : Oper} {k : Nat} (h : bound o k = true) : ∃ e ∈ o.after, Region.binds .any e = true ∧ e.on = k := by
  unfold bound at h
  obtain ⟨e, he, hb⟩ := Array.any_eq_true'.1 h
  simp only [Bool.and_eq_true, beq_iff_eq] at hb
  exact ⟨e, he, hb.1, hb.2⟩

def chk1 : Bool := (List.range ops.size).all fun i => ((ops[i]?).map fun o => o.after.all fun e => !Region.binds .any e || decide (e.on < i)).getD true
def chk2 (n : Nat) : Bool := (List.range n).all fun i => (List.range n).all fun j => i == j || (((ops[i]?).bind (·.dst)).isNone || (ops[i]?).bind (·.dst) != (ops[j]?).bind (·.dst))
def chk3 (n : Nat) : Bool := (List.range n).all fun i => ((ops[i]?).map fun o => (o.looksAt ops).all fun s => (List.range n).all fun k =>
  (ops[k]?).bind (·.dst) != some s || i == k || bound o k || ((ops[k]?).map fun p => bound p i).getD false).getD true
/-- each of the first n is waited for by one behind it, the n-th at the furthest -/
def chk4 (n : Nat) : Bool := n == ops.size || (List.range n).all fun h => (List.range (n + 1)).any fun j => decide (h < j) && ((ops[j]?).map fun o => bound o h).getD false
def chk5 (n : Nat) : Bool := (List.range ops.size).all fun t => decide (t ≤ n) || ((ops[t]?).map fun o => bound o (t - 1)).getD false
def gB (n : Nat) : Bool := Region.noSelect ops && decide (n ≤ ops.size) && chk1 ops && chk2 ops n && chk3 ops n && chk4 ops n && chk5 ops n
def inB (a : Act) : Bool := ops.all fun o => o.dst.all fun d => decide (d < a.tmps.size)
end

section
variable {P : Program} {ops : Array Oper} {R : World → World → Prop} {w1 : World}

theorem look_congr {a b : Act} {o : Oper} (hs : ∀ cs c, o.op ≠ .select cs c) (h : ∀ s ∈ o.looksAt ops, a.tmps[s]? = b.tmps[s]?) :
    execOp a.eval o = execOp b.eval o ∧ Region.wanted o (yielded ops a.tmps) = Region.wanted o (yielded ops b.tmps) := by
  refine ⟨execOp_congr o hs fun x hx => ?_, ?_⟩
  · cases x with
    | tmp t =>
      have := h t (List.mem_append_left _ (List.mem_filterMap.2 ⟨.tmp t, by simpa using hx, rfl⟩))
      simp only [Act.eval, Array.getD_eq_getD_getElem?, this]
    | _ => rfl
  · unfold Region.wanted
    cases hg : o.guard with
    | none => rfl
    | some gw =>
      obtain ⟨g, want⟩ := gw
      have hy : yielded ops a.tmps g = yielded ops b.tmps g := by
        unfold yielded
        cases ht : (ops[g]?).bind (·.dst) with
        | none => rfl
        | some t =>
          have := h t (by simp [Oper.looksAt, hg, ht])
          simp only [Option.bind_some, this]
      simp only [hy]

/-- an operation is listed -/
def L (listed : Array Bool) (k : Nat) : Prop := listed.getD k false = true
def D (ops : Array Oper) (k : Nat) : Option Tmp := (ops[k]?).bind (·.dst)
def slot (a : Act) (d : Tmp) : Value := a.tmps.getD d undef

structure Chk (ops : Array Oper) (n : Nat) : Prop where
  sel : ∀ (j : Nat) (o : Oper) cs b, ops[j]? = some o → o.op ≠ .select cs b
  le : n ≤ ops.size
  low : ∀ i o, ops[i]? = some o → ∀ e ∈ o.after, Region.binds .any e = true → e.on < i
  uniq : ∀ i j d, i < n → j < n → D ops i = some d → D ops j = some d → i = j
  looks : ∀ i o s k, i < n → ops[i]? = some o → s ∈ o.looksAt ops → k < n → D ops k = some s → i = k ∨ bound o k = true ∨ ∃ p, ops[k]? = some p ∧ bound p i = true
  waits : n = ops.size ∨ ∀ h, h < n → ∃ j o, h < j ∧ j ≤ n ∧ ops[j]? = some o ∧ bound o h = true
  seq : ∀ t o, n < t → ops[t]? = some o → bound o (t - 1) = true

theorem Chk.of {n : Nat} (h : gB ops n = true) : Chk ops n := by
  unfold gB at h
  simp only [Bool.and_eq_true, decide_eq_true_eq] at h
  obtain ⟨⟨⟨⟨⟨⟨h0, hle⟩, h1⟩, h2⟩, h3⟩, h4⟩, h5⟩ := h
  refine ⟨Region.noSelect_spec h0, hle, ?_, ?_, ?_, ?_, ?_⟩
  · intro i o ho e he hb
    have hi : i < ops.size := (Array.getElem?_eq_some_iff.1 ho).1
    have := List.all_eq_true.1 h1 i (List.mem_range.2 hi)
    simp only [ho, Option.map_some, Option.getD_some] at this
    have := Array.all_eq_true_iff_forall_mem.1 this e he
    simpa [hb] using this
  · intro i j d hi hj hdi hdj
    have := List.all_eq_true.1 h2 i (List.mem_range.2 hi)
    have := List.all_eq_true.1 this j (List.mem_range.2 hj)
    unfold D at hdi hdj
    simpa [hdi, hdj] using this
  · intro i o s k hi ho hs hk hd
    have := List.all_eq_true.1 h3 i (List.mem_range.2 hi)
    simp only [ho, Option.map_some, Option.getD_some] at this
    have := List.all_eq_true.1 this s hs
    have := List.all_eq_true.1 this k (List.mem_range.2 hk)
    unfold D at hd
    cases hk2 : ops[k]? with
    | none => simp [hk2] at hd
    | some q =>
      simp only [hk2, Option.bind_some] at hd
      simp only [hk2, Option.bind_some, hd, Option.map_some, Option.getD_some, Bool.or_eq_true, beq_iff_eq, bne_self_eq_false, Bool.false_eq_true, false_or] at this
      rcases this with (h | h) | h
      · exact .inl h
      · exact .inr (.inl h)
      · exact .inr (.inr ⟨q, rfl, h⟩)
  · unfold chk4 at h4
    simp only [Bool.or_eq_true, beq_iff_eq] at h4
    rcases h4 with h4 | h4
    · exact .inl h4
    · refine .inr fun h hh => ?_
      have := List.all_eq_true.1 h4 h (List.mem_range.2 hh)
      obtain ⟨j, hj, hb⟩ := List.any_eq_true.1 this
      simp only [Bool.and_eq_true, decide_eq_true_eq] at hb
      cases ho : ops[j]? with
      | none => simp [ho] at hb
      | some o => exact ⟨j, o, hb.1, by have := List.mem_range.1 hj; omega, ho, by simpa [ho] using hb.2⟩
  · intro t o ht ho
    have hi : t < ops.size := (Array.getElem?_eq_some_iff.1 ho).1
    have := List.all_eq_true.1 h5 t (List.mem_range.2 hi)
    simpa [ho, show ¬ t ≤ n by omega] using this

def Agree (ops : Array Oper) (a0 a b : Act) (k : Nat) (o : Oper) : Prop :=
  (∀ s ∈ o.looksAt ops, ∀ j, j < k → D ops j = some s → b.tmps[s]? = a.tmps[s]?) ∧ (∀ s ∈ o.looksAt ops, (∀ j, j < k → D ops j ≠ some s) → b.tmps[s]? = a0.tmps[s]?)

theorem Agree.same {a0 a b b' : Act} {k : Nat} {o : Oper} (h : Agree ops a0 a b k o) (h' : Agree ops a0 a b' k o) : ∀ s ∈ o.looksAt ops, b.tmps[s]? = b'.tmps[s]? := by
  intro s hs
  by_cases hj : ∃ j, j < k ∧ D ops j = some s
  · obtain ⟨j, hj, hd⟩ := hj
    rw [h.1 s hs j hj hd, h'.1 s hs j hj hd]
  · have hn : ∀ j, j < k → D ops j ≠ some s := fun j hj' hd => hj ⟨j, hj', hd⟩
    rw [h.2 s hs hn, h'.2 s hs hn]

section
variable (P : Program) (ops : Array Oper) (R : World → World → Prop) (w1 : World) (a0 : Act) (n : Nat) (kind : Nat → Kind)

def GoodF (a : Act) (k : Nat) (o : Oper) (F : List (Tmp × (World → Prop))) : Prop := ∀ p ∈ F, p.1 ∈ o.looksAt ops →
  ∃ j oj Y bj, j < k ∧ ops[j]? = some oj ∧ oj.dst = some p.1 ∧ kind j = some (.inr Y) ∧ Agree ops a0 a bj j oj ∧ Region.wanted oj (yielded ops bj.tmps) = true ∧ p.2 = Y (slot a p.1)

/-- what holds of the slot of an operation that is listed -/
def Holds (a : Act) (w : World) (k : Nat) (o : Oper) (d : Tmp) (b : Act) : Prop :=
  if Region.wanted o (yielded ops b.tmps) = true then
    match kind k with
    | none => ∀ v F, GoodF ops a0 kind a k o F → (∀ w', R w1 w' → depF ops F o w' → detAt P R o b w' v) → slot a d = v
    | some (.inl c) => slot a d = c
    | some (.inr Y) => Y (slot a d) w
  else slot a d = undef

structure Inv (listed : Array Bool) (a : Act) (w : World) : Prop where
  size : listed.size = ops.size
  reach : R w1 w
  defs : a.defers = a0.defers
  tsz : a.tmps.size = a0.tmps.size
  closed : ∀ k o, ops[k]? = some o → L listed k → ∀ e ∈ o.after, Region.binds .any e = true → L listed e.on
  slots : ∀ s, (∀ k, L listed k → D ops k ≠ some s) → a.tmps[s]? = a0.tmps[s]?
  head : ∀ k, L listed k → k < n
  vals : ∀ k o d, ops[k]? = some o → L listed k → o.dst = some d → ∀ b, Agree ops a0 a b k o → Holds P ops R w1 a0 kind a w k o d b
end

variable {a0 : Act} {n : Nat} {kind : Nat → Kind}

theorem bound_lt (C : Chk ops n) {i k : Nat} {o : Oper} (ho : ops[i]? = some o) (h : bound o k = true) : k < i := by
  obtain ⟨e, he, hb, rfl⟩ := bound_spec h
  exact C.low i o ho e he hb

/-- the slot's writer below k, of an operation all of whose forerunners are listed, is listed -/
theorem dep_listed (C : Chk ops n) {listed : Array Bool} {k j : Nat} {o : Oper} {s : Tmp} (hk : k < n) (ho : ops[k]? = some o)
    (hall : ∀ e ∈ o.after, Region.binds .any e = true → L listed e.on) (hs : s ∈ o.looksAt ops) (hj : j < k) (hd : D ops j = some s) : L listed j := by
  rcases C.looks k o s j hk ho hs (by omega) hd with h | h | ⟨p, hp, h⟩
  · omega
  · obtain ⟨e, he, hb, rfl⟩ := bound_spec h
    exact hall e he hb
  · have := bound_lt C hp h; omega

theorem depF_of (C : Chk ops n) {listed : Array Bool} {a : Act} {w : World} (I : Inv P ops R w1 a0 n kind listed a w) {k : Nat} {o : Oper} (hk : k < n) (ho : ops[k]? = some o)
    (hall : ∀ e ∈ o.after, Region.binds .any e = true → L listed e.on) {F : List (Tmp × (World → Prop))} (hF : GoodF ops a0 kind a k o F) : depF ops F o w := by
  intro p hp hl
  obtain ⟨j, oj, Y, bj, hj, hoj, hd, hk', hb, hw, he⟩ := hF p hp hl
  have hlj := dep_listed C hk ho hall hl hj (by simp [D, hoj, hd])
  have := I.vals j oj p.1 hoj hlj hd bj hb
  unfold Holds at this
  rw [if_pos hw, hk'] at this
  rw [he]; exact this

theorem getD_set {listed : Array Bool} {i k : Nat} (hi : i < listed.size) : L (listed.setIfInBounds i true) k ↔ k = i ∨ L listed k := by
  unfold L
  by_cases h : k = i
  · subst h; simp [hi]
  · simp [h, Array.getElem?_setIfInBounds_ne (Ne.symm h)]

theorem put_slot {a : Act} {d : Tmp} {v : Value} (hd : d < a.tmps.size) : slot (a.put (some d) v) d = v := by
  simp [slot, Act.put, hd]
theorem put_get_ne {a : Act} {x : Option Tmp} {s : Tmp} {v : Value} (h : x ≠ some s) : (a.put x v).tmps[s]? = a.tmps[s]? := by
  cases x with
  | none => rfl
  | some d => exact Array.getElem?_setIfInBounds_ne (fun e => h (by rw [e]))
theorem put_slot_ne {a : Act} {x : Option Tmp} {s : Tmp} {v : Value} (h : x ≠ some s) : slot (a.put x v) s = slot a s := by
  unfold slot; rw [Array.getD_eq_getD_getElem?, Array.getD_eq_getD_getElem?, put_get_ne h]
theorem put_size {a : Act} {x : Option Tmp} {v : Value} : (a.put x v).tmps.size = a.tmps.size := by
  cases x <;> simp [Act.put]
theorem put_defs {a : Act} {x : Option Tmp} {v : Value} : (a.put x v).defers = a.defers := by
  cases x <;> rfl

/-- one operation more is listed -/
theorem Inv.step (C : Chk ops n) (htr : ∀ u v w : World, R u v → R v w → R u w) (hstab : ∀ k Y, kind k = some (.inr Y) → ∀ v w w', R w w' → Y v w → Y v w')
    {listed : Array Bool} {a : Act} {w w' : World} (I : Inv P ops R w1 a0 n kind listed a w) {i : Nat} {o : Oper} (hin : i < n) (ho : ops[i]? = some o) (hun : ¬ L listed i)
    (hall : ∀ e ∈ o.after, Region.binds .any e = true → L listed e.on) {v : Value} (hR : R w w')
    (hv : ∀ d, o.dst = some d → ∀ b, Agree ops a0 (a.put o.dst v) b i o → Holds P ops R w1 a0 kind (a.put o.dst v) w' i o d b) :
    Inv P ops R w1 a0 n kind (listed.setIfInBounds i true) (a.put o.dst v) w' := by
  have hi : i < listed.size := by rw [I.size]; exact (Array.getElem?_eq_some_iff.1 ho).1
  have hDi : D ops i = o.dst := by simp [D, ho]
  -- a slot that an operation listed before looks at, written below it
  have keep : ∀ k ok, ops[k]? = some ok → L listed k → ∀ s ∈ ok.looksAt ops, ∀ j, j < k → D ops j = some s → o.dst ≠ some s := by
    intro k ok hok hk s hs j hj hd he
    have hkn := I.head k hk
    have : j = i := C.uniq j i s (by omega) hin hd (by rw [hDi, he])
    subst this
    exact hun (dep_listed C hkn hok (I.closed k ok hok hk) hs hj hd)
  have agr : ∀ k ok, ops[k]? = some ok → L listed k → ∀ b, Agree ops a0 (a.put o.dst v) b k ok ↔ Agree ops a0 a b k ok := by
    intro k ok hok hk b
    constructor
    · intro h; exact ⟨fun s hs j hj hd => by rw [h.1 s hs j hj hd, put_get_ne (keep k ok hok hk s hs j hj hd)], h.2⟩
    · intro h; exact ⟨fun s hs j hj hd => by rw [h.1 s hs j hj hd, put_get_ne (keep k ok hok hk s hs j hj hd)], h.2⟩
  refine ⟨by simpa using I.size, htr _ _ _ I.reach hR, put_defs.trans I.defs, put_size.trans I.tsz, ?_, ?_, ?_, ?_⟩
  · intro k ok hok hk e he hb
    rcases (getD_set hi).1 hk with rfl | hk
    · rw [ho] at hok; cases hok; exact (getD_set hi).2 (.inr (hall e he hb))
    · exact (getD_set hi).2 (.inr (I.closed k ok hok hk e he hb))
  · intro s hs
    rw [put_get_ne (by rw [← hDi]; exact hs i ((getD_set hi).2 (.inl rfl)))]
    exact I.slots s fun k hk => hs k ((getD_set hi).2 (.inr hk))
  · intro k hk
    rcases (getD_set hi).1 hk with rfl | hk
    · exact hin
    · exact I.head k hk
  · intro k ok d hok hk hd b hb
    rcases (getD_set hi).1 hk with rfl | hk
    · rw [ho] at hok; cases hok; exact hv d hd b hb
    · have hki : k ≠ i := fun e => hun (e ▸ hk)
      have hne : o.dst ≠ some d := fun e => hki (C.uniq k i d (I.head k hk) hin (by simp [D, hok, hd]) (by rw [hDi, e]))
      have h := I.vals k ok d hok hk hd b ((agr k ok hok hk b).1 hb)
      unfold Holds at h ⊢
      rw [put_slot_ne hne]
      split
      · rename_i hw
        rw [if_pos hw] at h
        cases hkd : kind k with
        | none =>
          rw [hkd] at h
          intro v' F hF hspec
          refine h v' F (fun p hp hl => ?_) hspec
          obtain ⟨j, oj, Y, bj, hj, hoj, hdj, hkj, hbj, hwj, he⟩ := hF p hp hl
          have hDj : D ops j = some p.1 := by simp [D, hoj, hdj]
          have hlj := dep_listed C (I.head k hk) hok (I.closed k ok hok hk) hl hj hDj
          exact ⟨j, oj, Y, bj, hj, hoj, hdj, hkj, (agr j oj hoj hlj bj).1 hbj, hwj, by rw [he, put_slot_ne (keep k ok hok hk p.1 hl j hj hDj)]⟩
        | some x =>
          rw [hkd] at h
          cases x with
          | inl c => exact h
          | inr Y => exact hstab k Y hkd _ _ _ hR h
      · rename_i hw
        rw [if_neg hw] at h
        exact h

section
variable (P : Program) (ops : Array Oper) (R : World → World → Prop) (w1 : World) (a0 : Act) (n : Nat) (kind : Nat → Kind)
/-- a frame of the walk in the order of the text that goes with what has been done -/
structure Path (listed : Array Bool) (a : Act) (k : Nat) (b : Act) (F : List (Tmp × (World → Prop))) : Prop where
  defs : b.defers = a0.defers
  tsz : b.tmps.size = a0.tmps.size
  other : ∀ s, (∀ j, j < k → D ops j ≠ some s) → b.tmps[s]? = a0.tmps[s]?
  same : ∀ j, j < k → L listed j → ∀ d, D ops j = some d → b.tmps[d]? = a.tmps[d]?
  facts : ∀ p ∈ F, ∃ j oj Y v, j < k ∧ ops[j]? = some oj ∧ oj.dst = some p.1 ∧ kind j = some (.inr Y) ∧ p.2 = Y v ∧
    (L listed j → v = slot a p.1 ∧ ∃ bj, Agree ops a0 a bj j oj ∧ Region.wanted oj (yielded ops bj.tmps) = true)

def Spec (a : Act) (i : Nat) (o : Oper) : Prop := ∃ b F, Agree ops a0 a b i o ∧ GoodF ops a0 kind a i o F ∧ (Region.wanted o (yielded ops b.tmps) = true →
  match kind i with
  | none => ∃ v, ∀ w', R w1 w' → depF ops F o w' → detAt P R o b w' v
  | some (.inl c) => ∀ w', R w1 w' → depF ops F o w' → growAt P R o b w' fun u _ => u = c
  | some (.inr Y) => ∀ w', R w1 w' → depF ops F o w' → growAt P R o b w' Y)
end

theorem Path.agree (C : Chk ops n) {listed : Array Bool} {a b : Act} {F : List (Tmp × (World → Prop))} {k : Nat} {o : Oper} (hp : Path ops a0 kind listed a k b F) (hk : k < n) (ho : ops[k]? = some o)
    (hall : ∀ e ∈ o.after, Region.binds .any e = true → L listed e.on) : Agree ops a0 a b k o ∧ GoodF ops a0 kind a k o F := by
  refine ⟨⟨fun s hs j hj hd => hp.same j hj (dep_listed C hk ho hall hs hj hd) s hd, fun s _ hn => hp.other s hn⟩, fun p hpF hl => ?_⟩
  obtain ⟨j, oj, Y, v, hj, hoj, hd, hkj, he, hL⟩ := hp.facts p hpF
  obtain ⟨hv, bj, hbj, hw⟩ := hL (dep_listed C hk ho hall hl hj (by simp [D, hoj, hd]))
  exact ⟨j, oj, Y, bj, hj, hoj, hd, hkj, hbj, hw, by rw [he, hv]⟩

theorem Path.step (C : Chk ops n) {listed : Array Bool} {a b : Act} {w : World} {F : List (Tmp × (World → Prop))} {k : Nat} {o : Oper} (I : Inv P ops R w1 a0 n kind listed a w)
    (hin : ∀ o d, o ∈ ops → o.dst = some d → d < a0.tmps.size) (hp : Path ops a0 kind listed a k b F) (hk : k < n) (ho : ops[k]? = some o) (v : Value)
    (hv : L listed k → ∀ d, o.dst = some d → v = slot a d) : Path ops a0 kind listed a (k + 1) (b.put o.dst v) F := by
  have hDk : D ops k = o.dst := by simp [D, ho]
  refine ⟨put_defs.trans hp.defs, put_size.trans hp.tsz, fun s hs => ?_, fun j hj hL d hd => ?_, fun p hpF => ?_⟩
  · rw [put_get_ne (by rw [← hDk]; exact hs k (by omega))]
    exact hp.other s fun j hj => hs j (by omega)
  · by_cases e : j = k
    · subst e
      rw [hDk] at hd
      have hd1 := hin o d (Array.mem_of_getElem? ho) hd
      have := hv hL d hd
      rw [hd]
      have h1 : d < b.tmps.size := by rw [hp.tsz]; exact hd1
      have h2 : d < a.tmps.size := by rw [I.tsz]; exact hd1
      simp only [Act.put, Array.getElem?_setIfInBounds_self_of_lt h1, this, slot]
      simp [h2]
    · rw [put_get_ne fun e' => e (C.uniq j k d (I.head j hL) hk hd (by rw [hDk, e']))]
      exact hp.same j (by omega) hL d hd
  · obtain ⟨j, oj, Y, v, hj, h⟩ := hp.facts p hpF
    exact ⟨j, oj, Y, v, by omega, h⟩

theorem Path.fact {listed : Array Bool} {a b b' : Act} {F : List (Tmp × (World → Prop))} {k : Nat} {o : Oper} (hp : Path ops a0 kind listed a (k + 1) b' F) (ho : ops[k]? = some o) {Y : Value → World → Prop}
    (hY : kind k = some (.inr Y)) (v : Value) (hv : L listed k → (∀ d, o.dst = some d → v = slot a d) ∧ Agree ops a0 a b k o ∧ Region.wanted o (yielded ops b.tmps) = true) :
    Path ops a0 kind listed a (k + 1) b' (addF o.dst (Y v) F) := by
  refine ⟨hp.defs, hp.tsz, hp.other, hp.same, fun p hpF => ?_⟩
  unfold addF at hpF
  split at hpF
  · rename_i d hd
    rcases List.mem_cons.1 hpF with rfl | hpF
    · exact ⟨k, o, Y, v, by omega, ho, hd, hY, rfl, fun hL => ⟨(hv hL).1 d hd, b, (hv hL).2⟩⟩
    · exact hp.facts p hpF
  · exact hp.facts p hpF

theorem descend (C : Chk ops n) (hin : ∀ o d, o ∈ ops → o.dst = some d → d < a0.tmps.size) {Fin : Act → World → Prop} {listed : Array Bool} {a : Act} {w : World} (I : Inv P ops R w1 a0 n kind listed a w) :
    ∀ (l : List Oper) (k : Nat) (Ks : List Kind) (F : List (Tmp × (World → Prop))) (b : Act), k + l.length = n → (∀ j, j < l.length → l[j]? = ops[k + j]?) → (∀ j, Ks.getD j none = kind (k + j)) →
      Path ops a0 kind listed a k b F → wpG P ops R w1 Fin l Ks F b →
      (∀ i o, k ≤ i → i < n → ops[i]? = some o → (∀ e ∈ o.after, Region.binds .any e = true → L listed e.on) → Spec P ops R w1 a0 kind a i o) ∧
      (∃ b F, Path ops a0 kind listed a n b F ∧ ∀ w, R w1 w → (∀ p ∈ F, p.2 w) → Fin b w)
  | [], k, Ks, F, b, hn, _, _, hp, h => by
    have : k = n := by simpa using hn
    subst this
    exact ⟨fun i o h1 h2 => by omega, b, F, hp, h⟩
  | o :: l, k, Ks, F, b, hn, hl, hK, hp, h => by
    simp only [List.length_cons] at hn
    have ho : ops[k]? = some o := by have := hl 0 (by simp); simpa using this.symm
    have hk : k < n := by omega
    have hl' : ∀ j, j < l.length → l[j]? = ops[(k + 1) + j]? := fun j hj => by
      have := hl (j + 1) (by simp; omega)
      rw [show k + 1 + j = k + (j + 1) by omega, ← this]; rfl
    have hK' : ∀ j, Ks.tail.getD j none = kind ((k + 1) + j) := fun j => by
      have := hK (j + 1)
      rw [show k + 1 + j = k + (j + 1) by omega, ← this]
      cases Ks <;> simp
    have hK0 : Ks.headD none = kind k := by
      have := hK 0
      rw [Nat.add_zero] at this
      rw [← this]
      cases Ks <;> simp
    have hall : L listed k → ∀ e ∈ o.after, Region.binds .any e = true → L listed e.on := fun hL => I.closed k o ho hL
    -- what the walk's own step says
    have key : ∃ b' F', Path ops a0 kind listed a (k + 1) b' F' ∧ wpG P ops R w1 Fin l Ks.tail F' b' ∧
        (Region.wanted o (yielded ops b.tmps) = true → match kind k with
          | none => ∃ v, ∀ w', R w1 w' → depF ops F o w' → detAt P R o b w' v
          | some (.inl c) => ∀ w', R w1 w' → depF ops F o w' → growAt P R o b w' fun u _ => u = c
          | some (.inr Y) => ∀ w', R w1 w' → depF ops F o w' → growAt P R o b w' Y) := by
      unfold wpG at h
      split at h
      · rename_i hw
        rw [hK0] at h
        cases hkd : kind k with
        | none =>
          rw [hkd] at h
          obtain ⟨v, hs, h⟩ := h
          refine ⟨_, F, hp.step C I hin hk ho v fun hL d hd => ?_, h, fun _ => ⟨v, hs⟩⟩
          obtain ⟨hA, hG⟩ := hp.agree C hk ho (hall hL)
          have := I.vals k o d ho hL hd b hA
          unfold Holds at this
          rw [if_pos hw, hkd] at this
          exact (this v F hG hs).symm
        | some x =>
          rw [hkd] at h
          cases x with
          | inl c =>
            obtain ⟨hs, h⟩ := h
            refine ⟨_, F, hp.step C I hin hk ho c fun hL d hd => ?_, h, fun _ => hs⟩
            obtain ⟨hA, hG⟩ := hp.agree C hk ho (hall hL)
            have := I.vals k o d ho hL hd b hA
            unfold Holds at this
            rw [if_pos hw, hkd] at this
            exact this.symm
          | inr Y =>
            obtain ⟨hs, h⟩ := h
            have hv : L listed k → ∀ d, o.dst = some d → (o.dst.map (slot a)).getD undef = slot a d := fun _ d hd => by simp [hd]
            refine ⟨_, _, (hp.step C I hin hk ho _ hv).fact ho hkd _ fun hL => ⟨hv hL, (hp.agree C hk ho (hall hL)).1, hw⟩, h _, fun _ => hs⟩
      · rename_i hw
        refine ⟨_, F, hp.step C I hin hk ho undef fun hL d hd => ?_, h, fun hw' => absurd hw' hw⟩
        have := I.vals k o d ho hL hd b (hp.agree C hk ho (hall hL)).1
        unfold Holds at this
        rw [if_neg hw] at this
        exact this.symm
    obtain ⟨b', F', hp', h', hs⟩ := key
    obtain ⟨r1, r2⟩ := descend C hin I l (k + 1) Ks.tail F' b' (by omega) hl' hK' hp' h'
    refine ⟨fun i oi h1 h2 hoi hai => ?_, r2⟩
    by_cases e : i = k
    · subst e
      rw [ho] at hoi; cases hoi
      exact ⟨b, F, (hp.agree C h2 ho hai).1, (hp.agree C h2 ho hai).2, hs⟩
    · exact r1 i oi (by omega) h2 hoi hai


/-- how many of the first n are still to come -/
def left (listed : Array Bool) : Nat → Nat
  | 0 => 0
  | n + 1 => left listed n + if listed.getD n false then 0 else 1
theorem left_far {listed : Array Bool} {i : Nat} : ∀ n, n ≤ i → left (listed.setIfInBounds i true) n = left listed n
  | 0, _ => rfl
  | n + 1, h => by
    unfold left
    rw [left_far n (by omega)]
    have : (listed.setIfInBounds i true).getD n false = listed.getD n false := by
      rw [Array.getD_eq_getD_getElem?, Array.getD_eq_getD_getElem?, Array.getElem?_setIfInBounds_ne (by omega)]
    rw [this]
theorem left_set {listed : Array Bool} {i : Nat} (hi : i < listed.size) (hun : ¬ L listed i) : ∀ n, i < n → left (listed.setIfInBounds i true) n + 1 = left listed n
  | 0, h => by omega
  | n + 1, h => by
    unfold left
    by_cases e : i = n
    · subst e
      rw [left_far i (Nat.le_refl _)]
      have h1 : (listed.setIfInBounds i true).getD i false = true := (getD_set hi).2 (.inl rfl)
      have h2 : listed.getD i false = false := by unfold L at hun; simpa using hun
      rw [h1, h2]; simp
    · have := left_set hi hun n (by omega)
      have h1 : (listed.setIfInBounds i true).getD n false = listed.getD n false := by
        rw [Array.getD_eq_getD_getElem?, Array.getD_eq_getD_getElem?, Array.getElem?_setIfInBounds_ne (by omega)]
      rw [h1]; omega
theorem left_none {listed : Array Bool} : ∀ n, left listed n = 0 → ∀ k, k < n → L listed k
  | 0, _, k, hk => by omega
  | n + 1, h, k, hk => by
    unfold left at h
    by_cases e : k = n
    · subst e
      unfold L
      by_cases h1 : listed.getD k false = true
      · exact h1
      · rw [if_neg h1] at h; omega
    · exact left_none n (by omega) k (by omega)
theorem left_some {listed : Array Bool} : ∀ n, 0 < left listed n → ∃ k, k < n ∧ ¬ L listed k ∧ ∀ j, j < k → L listed j
  | 0, h => by simp [left] at h
  | n + 1, h => by
    by_cases h0 : 0 < left listed n
    · obtain ⟨k, hk, h1, h2⟩ := left_some n h0
      exact ⟨k, by omega, h1, h2⟩
    · have hn := left_none (listed := listed) n (by omega)
      refine ⟨n, by omega, fun hL => ?_, hn⟩
      unfold left at h
      unfold L at hL
      rw [if_pos hL] at h
      omega

theorem mem_ready' {listed : Array Bool} (hs : listed.size = ops.size) {j : Nat} : j ∈ Region.ready .any ops listed ↔
    ¬ L listed j ∧ ∃ o, ops[j]? = some o ∧ ∀ e ∈ o.after, Region.binds .any e = true → L listed e.on := by
  rw [mem_ready]
  constructor
  · rintro ⟨h0, o, ho, h⟩
    have hj : j < listed.size := by rw [hs]; exact (Array.getElem?_eq_some_iff.1 ho).1
    refine ⟨?_, o, ho, h⟩
    unfold L
    simp [hj] at h0 ⊢
    exact h0
  · rintro ⟨h0, o, ho, h⟩
    have hj : j < listed.size := by rw [hs]; exact (Array.getElem?_eq_some_iff.1 ho).1
    refine ⟨?_, o, ho, h⟩
    unfold L at h0
    simp [hj] at h0 ⊢
    exact h0

theorem wpAny_tail (C : Chk ops n) {Q : Exit → Act → World → Prop} : ∀ (l : List Oper) (m : Nat) (listed : Array Bool) (a : Act) (w : World), n ≤ m → (∀ j, l[j]? = ops[m + j]?) → l.length = ops.size - m → listed.size = ops.size →
    (∀ k, k < ops.size → (L listed k ↔ k < m)) → wpList P ops Q l a w → wpAny P .any ops Q l.length listed a w
  | [], m, listed, a, w, hm, hl, hlen, hs, hL, h => by
    refine ⟨List.eq_nil_iff_forall_not_mem.2 fun j hj => ?_, h⟩
    obtain ⟨h0, o, ho, _⟩ := (mem_ready' hs).1 hj
    have hj' := (Array.getElem?_eq_some_iff.1 ho).1
    exact h0 ((hL j hj').2 (by simp at hlen; omega))
  | o :: l, m, listed, a, w, hm, hl, hlen, hs, hL, h => by
    have ho : ops[m]? = some o := by simpa using (hl 0).symm
    have hmlt : m < ops.size := (Array.getElem?_eq_some_iff.1 ho).1
    have hmr : m ∈ Region.ready .any ops listed := (mem_ready' hs).2 ⟨fun h => by have := (hL m hmlt).1 h; omega, o, ho, fun e he hb => (hL e.on (by have := C.low m o ho e he hb; omega)).2 (C.low m o ho e he hb)⟩
    refine ⟨fun h0 => (by rw [h0] at hmr; cases hmr), fun i hi => ?_⟩
    obtain ⟨h0, oi, hoi, hall⟩ := (mem_ready' hs).1 hi
    have hilt := (Array.getElem?_eq_some_iff.1 hoi).1
    have him : i = m := by
      by_cases e : i = m
      · exact e
      · have hge : ¬ i < m := fun h => h0 ((hL i hilt).2 h)
        obtain ⟨e', he, hb, hon⟩ := bound_spec (C.seq i oi (by omega) hoi)
        have := (hL (i - 1) (by omega)).1 (hon ▸ hall e' he hb)
        omega
    subst him
    have hw : wpOp P ops Q i (wpList P ops Q l) a w := by unfold wpOp; simp only [ho]; exact h
    refine wpOp_mono (fun a' w' h' => wpAny_tail C l (i + 1) _ a' w' (by omega) (fun j => ?_) (by simp at hlen; omega) (by simpa using hs) (fun k hk => ?_) h') hw
    · have := hl (j + 1)
      rw [show i + 1 + j = i + (j + 1) by omega, ← this]; rfl
    · rw [getD_set (by rw [hs]; exact hmlt), hL k hk]; omega

theorem wp_of_det {o : Oper} {a : Act} {w : World} {v : Value} {K : Act → World → Prop} {Q : Exit → Act → World → Prop} (h : detAt P R o a w v) (hK : ∀ w', R w w' → K (a.put o.dst v) w') : o.wp P a w K Q := by
  unfold detAt at h
  unfold Oper.wp
  generalize (execOp a.eval o).run P w = r at *
  cases r with
  | ok x w' =>
    cases x <;> simp only [detUpon] at h <;> simp only [Oper.upon]
    case value u => obtain ⟨rfl, hR⟩ := h; exact hK _ hR
    case skip => obtain ⟨rfl, hR⟩ := h; exact hK _ hR
  | halt x w' => simp only [detUpon] at h
theorem wp_of_grow {o : Oper} {a : Act} {w : World} {Y : Value → World → Prop} {K : Act → World → Prop} {Q : Exit → Act → World → Prop} (h : growAt P R o a w Y) (hK : ∀ v w', Y v w' → R w w' → K (a.put o.dst v) w') : o.wp P a w K Q := by
  unfold growAt at h
  unfold Oper.wp
  generalize (execOp a.eval o).run P w = r at *
  cases r with
  | ok x w' =>
    cases x <;> simp only [growUpon] at h <;> simp only [Oper.upon]
    case value u => exact hK _ _ h.1 h.2
    case skip => exact hK _ _ h.1 h.2
    case enter f args => exact h.mono fun e w'' ⟨v, he, hY, hR⟩ => by subst he; exact hK _ _ hY hR
  | halt x w' => simp only [growUpon] at h

theorem Inv.settle {listed : Array Bool} {a : Act} {w : World} (I : Inv P ops R w1 a0 n kind listed a w) (hall : ∀ k, k < n → L listed k)
    {b : Act} {F : List (Tmp × (World → Prop))} (hp : Path ops a0 kind listed a n b F) : b = a ∧ ∀ p ∈ F, p.2 w := by
  constructor
  · have ht : b.tmps = a.tmps := by
      apply Array.ext_getElem?
      intro s
      by_cases hj : ∃ j, j < n ∧ D ops j = some s
      · obtain ⟨j, hj, hd⟩ := hj
        exact hp.same j hj (hall j hj) s hd
      · have hn : ∀ j, j < n → D ops j ≠ some s := fun j hj' hd => hj ⟨j, hj', hd⟩
        rw [hp.other s hn, I.slots s fun k hk => hn k (I.head k hk)]
    have hd : b.defers = a.defers := hp.defs.trans I.defs.symm
    cases a; cases b; simp_all
  · intro p hpF
    obtain ⟨j, oj, Y, v, hj, hoj, hd, hkj, he, hL⟩ := hp.facts p hpF
    obtain ⟨hv, bj, hbj, hw⟩ := hL (hall j hj)
    have := I.vals j oj p.1 hoj (hall j hj) hd bj hbj
    unfold Holds at this
    rw [if_pos hw, hkj] at this
    rw [he, hv]; exact this

theorem wpAny_of_g (C : Chk ops n) (hrf : ∀ w : World, R w w) (htr : ∀ u v w : World, R u v → R v w → R u w) (hstab : ∀ k Y, kind k = some (.inr Y) → ∀ v w w', R w w' → Y v w → Y v w')
    (hin : ∀ o d, o ∈ ops → o.dst = some d → d < a0.tmps.size) {Q : Exit → Act → World → Prop} {l : List Oper} (hll : l.length = n) (hl : ∀ j, j < l.length → l[j]? = ops[0 + j]?) {Ks : List Kind} (hK : ∀ j, Ks.getD j none = kind (0 + j))
    {t : List Oper} (htl : t.length = ops.size - n) (ht : ∀ j, t[j]? = ops[n + j]?)
    (h : wpG P ops R w1 (fun a' w' => wpList P ops Q t a' w') l Ks [] a0) :
    ∀ (fuel : Nat) (listed : Array Bool) (a : Act) (w : World), fuel = left listed n + t.length → Inv P ops R w1 a0 n kind listed a w → wpAny P .any ops Q fuel listed a w := by
  intro fuel
  induction fuel with
  | zero =>
    intro listed a w hf I
    have hall := left_none n (show left listed n = 0 by omega)
    have h0 : Path ops a0 kind listed a 0 a0 [] := ⟨rfl, rfl, fun _ _ => rfl, fun j hj => by omega, fun p hp => by cases hp⟩
    obtain ⟨b, F, hp, hfin⟩ := (descend C hin I l 0 Ks [] a0 (by omega) hl hK h0 h).2
    obtain ⟨rfl, hF⟩ := I.settle hall hp
    have := wpAny_tail C t n listed b w (Nat.le_refl _) ht htl I.size (fun k hk => ⟨I.head k, hall k⟩) (hfin w I.reach hF)
    rw [show t.length = 0 by omega] at this
    exact this
  | succ fuel ih =>
    intro listed a w hf I
    have h0 : Path ops a0 kind listed a 0 a0 [] := ⟨rfl, rfl, fun _ _ => rfl, fun j hj => by omega, fun p hp => by cases hp⟩
    obtain ⟨hsp, b, F, hp, hfin⟩ := descend C hin I l 0 Ks [] a0 (by omega) hl hK h0 h
    by_cases hz : left listed n = 0
    · have hall := left_none n hz
      obtain ⟨rfl, hF⟩ := I.settle hall hp
      have := wpAny_tail C t n listed b w (Nat.le_refl _) ht htl I.size (fun k hk => ⟨I.head k, hall k⟩) (hfin w I.reach hF)
      rw [show t.length = fuel + 1 by omega] at this
      exact this
    · obtain ⟨k, hkn, hkun, hklow⟩ := left_some n (by omega : 0 < left listed n)
      have hks : k < ops.size := by have := C.le; omega
      refine ⟨fun hr => ?_, fun i hi => ?_⟩
      · have : k ∈ Region.ready .any ops listed := (mem_ready' I.size).2 ⟨hkun, ops[k], Array.getElem?_eq_getElem hks, fun e he hb => hklow _ (C.low k _ (Array.getElem?_eq_getElem hks) e he hb)⟩
        rw [hr] at this; cases this
      · obtain ⟨hiun, o, ho, hall⟩ := (mem_ready' I.size).1 hi
        have his := (Array.getElem?_eq_some_iff.1 ho).1
        have hin' : i < n := by
          by_cases hlt : i < n
          · exact hlt
          · -- the last of the first n that is still to come is waited for
            have hlast : ∀ m, m ≤ n → (∀ j, m ≤ j → j < n → L listed j) → False := by
              intro m
              induction m with
              | zero => intro _ hm; exact hkun (hm k (by omega) hkn)
              | succ m ihm =>
                intro hmn hm
                by_cases hLm : L listed m
                · exact ihm (by omega) fun j h1 h2 => by
                    by_cases e : j = m
                    · subst e; exact hLm
                    · exact hm j (by omega) h2
                · rcases C.waits with hw | hw
                  · omega
                  · obtain ⟨j, oj, h1, h2, hoj, hb⟩ := hw m (by omega)
                    obtain ⟨e, he, hbe, hon⟩ := bound_spec hb
                    by_cases hjn : j < n
                    · exact hLm (hon ▸ I.closed j oj hoj (hm j (by omega) hjn) e he hbe)
                    · have hjn' : j = n := by omega
                      subst hjn'
                      by_cases hij : i = j
                      · subst hij
                        rw [ho] at hoj; cases hoj
                        exact hLm (hon ▸ hall e he hbe)
                      · obtain ⟨e', he', hb', hon'⟩ := bound_spec (C.seq i o (by omega) ho)
                        have := I.head (i - 1) (hon' ▸ hall e' he' hb')
                        omega
            exact (hlast n (Nat.le_refl _) fun j h1 h2 => by omega).elim
        obtain ⟨b', F', hA, hG, hspec⟩ := hsp i o (by omega) hin' ho hall
        have hsel := fun cs c => C.sel i o cs c ho
        have hab : ∀ s ∈ o.looksAt ops, a.tmps[s]? = b'.tmps[s]? := by
          intro s hs
          by_cases hj : ∃ j, j < i ∧ D ops j = some s
          · obtain ⟨j, hj, hd⟩ := hj
            exact (hA.1 s hs j hj hd).symm
          · have hn' : ∀ j, j < i → D ops j ≠ some s := fun j hj' hd => hj ⟨j, hj', hd⟩
            rw [hA.2 s hs hn']
            refine I.slots s fun j hLj hd => ?_
            rcases C.looks i o s j hin' ho hs (I.head j hLj) hd with hij | hij | ⟨q, hq, hij⟩
            · subst hij; exact hiun hLj
            · exact hn' j (bound_lt C ho hij) hd
            · obtain ⟨e, he, hb, rfl⟩ := bound_spec hij
              exact hiun (I.closed j q hq hLj e he hb)
        obtain ⟨hex, hwa⟩ := look_congr (ops := ops) hsel hab
        have hdep := depF_of C I hin' ho hall hG
        have hfuel : fuel = left (listed.setIfInBounds i true) n + t.length := by
          have := left_set (listed := listed) (by rw [I.size]; exact his) hiun n hin'; omega
        -- whoever agrees looks at the same
        have same : ∀ (v : Value) b, Agree ops a0 (a.put o.dst v) b i o → execOp b.eval o = execOp b'.eval o ∧ Region.wanted o (yielded ops b.tmps) = Region.wanted o (yielded ops b'.tmps) := by
          intro v b hb
          have hb2 : Agree ops a0 a b i o := by
            refine ⟨fun s hs j hj hd => ?_, hb.2⟩
            rw [hb.1 s hs j hj hd]
            refine put_get_ne fun e => ?_
            have : j = i := C.uniq j i s (by omega) hin' hd (by simp [D, ho, e])
            omega
          exact look_congr hsel (hb2.same hA)
        have good : ∀ (v : Value) F, GoodF ops a0 kind (a.put o.dst v) i o F → GoodF ops a0 kind a i o F := by
          intro v F hF p hp hl
          obtain ⟨j, oj, Y, bj, hj, hoj, hdj, hkj, hbj, hwj, he⟩ := hF p hp hl
          have hDj : D ops j = some p.1 := by simp [D, hoj, hdj]
          have hlj := dep_listed C hin' ho hall hl hj hDj
          have hne : o.dst ≠ some p.1 := fun e => by
            have : j = i := C.uniq j i p.1 (by omega) hin' hDj (by simp [D, ho, e])
            omega
          refine ⟨j, oj, Y, bj, hj, hoj, hdj, hkj, ⟨fun s hs j' hj' hd' => ?_, hbj.2⟩, hwj, by rw [he, put_slot_ne hne]⟩
          rw [hbj.1 s hs j' hj' hd']
          refine put_get_ne fun e => ?_
          have : j' = i := C.uniq j' i s (by omega) hin' hd' (by simp [D, ho, e])
          subst this
          omega
        have hd1 : ∀ d, o.dst = some d → d < a.tmps.size := fun d hd => by rw [I.tsz]; exact hin o d (Array.mem_of_getElem? ho) hd
        unfold wpOp
        simp only [ho]
        split
        · rename_i hw
          have hwb : Region.wanted o (yielded ops b'.tmps) = true := by rw [← hwa]; exact hw
          have hspec := hspec hwb
          refine .inl ?_
          cases hkd : kind i with
          | none =>
            rw [hkd] at hspec
            obtain ⟨v, hs⟩ := hspec
            have hd : detAt P R o a w v := by unfold detAt; rw [hex]; exact hs w I.reach hdep
            refine wp_of_det hd fun w' hR => ih _ _ _ hfuel (I.step C htr hstab hin' ho hiun hall hR fun d hdd b hb => ?_)
            obtain ⟨e1, e2⟩ := same v b hb
            unfold Holds
            rw [if_pos (by rw [e2]; exact hwb), hkd]
            intro v' F2 hF2 hs2
            have h1 := hs w I.reach hdep
            have h2 := hs2 w I.reach (depF_of C I hin' ho hall (good v F2 hF2))
            unfold detAt at h1 h2
            rw [e1] at h2
            rw [hdd, put_slot (hd1 d hdd)]
            generalize (execOp b'.eval o).run P w = r at h1 h2
            cases r with
            | ok x w'' =>
              cases x <;> simp only [detUpon] at h1 h2
              case value u => rw [← h1.1, h2.1]
              case skip => rw [← h1.1, h2.1]
            | halt x w'' => simp only [detUpon] at h1
          | some x =>
            rw [hkd] at hspec
            cases x with
            | inl c =>
              have hg : growAt P R o a w fun u _ => u = c := by unfold growAt; rw [hex]; exact hspec w I.reach hdep
              refine wp_of_grow hg fun v w' hv hR => ih _ _ _ hfuel (I.step C htr hstab hin' ho hiun hall hR fun d hdd b hb => ?_)
              obtain ⟨e1, e2⟩ := same v b hb
              unfold Holds
              rw [if_pos (by rw [e2]; exact hwb), hkd]
              show slot _ d = c
              rw [hdd, put_slot (hd1 d hdd)]; exact hv
            | inr Y =>
              have hg : growAt P R o a w Y := by unfold growAt; rw [hex]; exact hspec w I.reach hdep
              refine wp_of_grow hg fun v w' hv hR => ih _ _ _ hfuel (I.step C htr hstab hin' ho hiun hall hR fun d hdd b hb => ?_)
              obtain ⟨e1, e2⟩ := same v b hb
              unfold Holds
              rw [if_pos (by rw [e2]; exact hwb), hkd]
              show Y (slot _ d) w'
              rw [hdd, put_slot (hd1 d hdd)]; exact hv
        · rename_i hw
          have hwb : ¬ Region.wanted o (yielded ops b'.tmps) = true := by rw [← hwa]; exact hw
          refine ih _ _ _ hfuel (I.step C htr hstab hin' ho hiun hall (hrf w) fun d hdd b hb => ?_)
          obtain ⟨e1, e2⟩ := same undef b hb
          unfold Holds
          rw [if_neg (by rw [e2]; exact hwb)]
          rw [hdd, put_slot (hd1 d hdd)]

/-- THE LAW: a region that draws its order, its first n operations by the walk in the order of the text, the rest in the order that is forced -/
theorem wp_region_g {id : Nat} {l : List Oper} {Q : Exit → Act → World → Prop} {a : Act} {w : World} (n : Nat) (Ks : List Kind) (R : World → World → Prop) (hm : P.follows .mixedOrders = true)
    (hB : gB l.toArray n = true) (hin : inB l.toArray a = true) (hrf : ∀ w : World, R w w) (htr : ∀ u v w : World, R u v → R v w → R u w)
    (hstab : ∀ K ∈ Ks, ∀ Y, K = some (.inr Y) → ∀ v w w', R w w' → Y v w → Y v w')
    (h : wpG P l.toArray R w.drew (fun a' w' => wpList P l.toArray Q (l.drop n) a' w') (l.take n) Ks [] a) : (Code.region id l.toArray true).wp P Q a w := by
  have C := Chk.of hB
  have hle : n ≤ l.length := by have := C.le; simpa using this
  have hin' : ∀ o d, o ∈ l.toArray → o.dst = some d → d < a.tmps.size := by
    intro o d ho hd
    unfold inB at hin
    have := Array.all_eq_true_iff_forall_mem.1 hin o ho
    simpa [hd] using this
  refine wp_region_any hm ?_
  refine wpAny_of_g (a0 := a) (n := n) (kind := fun k => Ks.getD k none) C hrf htr (fun k Y hk v w w' hR hY => ?_) hin' (l := l.take n) (Ks := Ks) (by simp [hle]) (fun j hj => ?_) (fun j => by simp)
    (t := l.drop n) (by simp) (fun j => by simp) h _ _ _ _ ?_ ?_
  · have hlt : k < Ks.length := by
      rcases Nat.lt_or_ge k Ks.length with h | h
      · exact h
      · simp [List.getD, List.getElem?_eq_none h] at hk
    have hmem : (some (.inr Y) : Kind) ∈ Ks := by
      rw [← hk, List.getD_eq_getElem?_getD, List.getElem?_eq_getElem hlt]; exact List.getElem_mem hlt
    exact hstab _ hmem Y rfl v w w' hR hY
  · have : j < n := by simp at hj; omega
    simp [this]
  · have : ∀ m, m ≤ l.length → left (Array.replicate l.length false) m = m := by
      intro m
      induction m with
      | zero => intro _; rfl
      | succ m ih => intro hm'; unfold left; rw [ih (by omega)]; simp [show m < l.length by omega]
    have h2 := this n hle
    simp only [List.size_toArray, List.length_drop]
    rw [h2]; omega
  · have hno : ∀ k, ¬ L (Array.replicate l.toArray.size false) k := by
      intro k hk
      unfold L at hk
      simp only [Array.getD_eq_getD_getElem?, Array.getElem?_replicate] at hk
      split at hk <;> simp at hk
    exact ⟨by simp, hrf _, rfl, rfl, fun k o _ hk => (hno k hk).elim, fun _ _ => rfl, fun k hk => (hno k hk).elim, fun k o d _ hk => (hno k hk).elim⟩


section
variable {Fin : Act → World → Prop} {o : Oper} {rest : List Oper} {Ks : List Kind} {F : List (Tmp × (World → Prop))} {a : Act}
theorem g_nil (h : ∀ w, R w1 w → (∀ p ∈ F, p.2 w) → Fin a w) : wpG P ops R w1 Fin [] Ks F a := h
theorem g_det (hw : Region.wanted o (yielded ops a.tmps) = true) (h : ∃ v, (∀ w, R w1 w → depF ops F o w → detAt P R o a w v) ∧ wpG P ops R w1 Fin rest Ks F (a.put o.dst v)) :
    wpG P ops R w1 Fin (o :: rest) (none :: Ks) F a := by
  unfold wpG; rw [if_pos hw]; exact h
theorem g_con {c : Value} (hw : Region.wanted o (yielded ops a.tmps) = true) (h : ∀ w, R w1 w → depF ops F o w → growAt P R o a w fun u _ => u = c) (hk : wpG P ops R w1 Fin rest Ks F (a.put o.dst c)) :
    wpG P ops R w1 Fin (o :: rest) (some (.inl c) :: Ks) F a := by
  unfold wpG; rw [if_pos hw]; exact ⟨h, hk⟩
theorem g_new {Y : Value → World → Prop} (hw : Region.wanted o (yielded ops a.tmps) = true) (h : ∀ w, R w1 w → depF ops F o w → growAt P R o a w Y) (hk : ∀ v, wpG P ops R w1 Fin rest Ks (addF o.dst (Y v) F) (a.put o.dst v)) :
    wpG P ops R w1 Fin (o :: rest) (some (.inr Y) :: Ks) F a := by
  unfold wpG; rw [if_pos hw]; exact ⟨h, hk⟩
theorem g_skip {K : Kind} (hw : Region.wanted o (yielded ops a.tmps) = false) (hk : wpG P ops R w1 Fin rest Ks F (a.put o.dst undef)) :
    wpG P ops R w1 Fin (o :: rest) (K :: Ks) F a := by
  unfold wpG; rw [if_neg (by rw [hw]; exact Bool.false_ne_true)]; exact hk
end
end
attribute [go_sem] detAt detUpon growAt growUpon
end Go.Proofs.YtadhkeboaapfcaaGreatDoor.Grow
namespace Go.Proofs.YtadhkeboaapfcaaGreatDoor
open Go.RowKit
set_option linter.unusedSimpArgs false
set_option linter.unusedVariables false

/-- block g holds the bytes l from its head on, and may be written -/
structure Row (g : Nat) (l : List UInt8) (w : World) : Prop where
  lt : g < w.heap.size
  cell : ∀ j (h : j < l.length), w.cell? ⟨g, j, none⟩ = some (.int .u8 (l[j].toNat : Int))
  free : ∀ j, j < l.length → w.frozen? ⟨g, j, none⟩ = false
theorem Row.below {g : Nat} {l : List UInt8} {w w' : World} (h : Row g l w) (hb : Below w.heap.size w w') : Row g l w' :=
  ⟨Nat.lt_of_lt_of_le h.lt hb.size, fun j hj => by rw [hb.cell h.lt]; exact h.cell j hj, fun j hj => by rw [hb.frozen h.lt]; exact h.free j hj⟩
theorem Row.drew {g : Nat} {l : List UInt8} {w : World} (h : Row g l w) : Row g l w.drew := ⟨h.lt, h.cell, h.free⟩
theorem Row.set {g : Nat} {l : List UInt8} {w : World} (h : Row g l w) (k : Nat) (hk : k < l.length) (v : UInt8) : Row g (l.set k v) (w.setCell ⟨g, k, none⟩ (.int .u8 (v.toNat : Int))) := by
  refine ⟨by simpa using h.lt, fun j hj => ?_, fun j hj => ?_⟩
  · have hj' : j < l.length := by simpa using hj
    by_cases e : k = j
    · subst e
      rw [World.cell?_setCell_same _ _ _ (h.cell k hk)]; simp
    · rw [World.cell?_setCell_other _ _ _ _ (fun h => e (congrArg Addr.off h)), h.cell j hj']
      simp [e]
  · rw [World.frozen?_setCell]; exact h.free j (by simpa using hj)
theorem Row.other {g g' : Nat} {l : List UInt8} {w : World} (h : Row g l w) (hne : g' ≠ g) (k : Nat) (v : Value) : Row g l (w.setCell ⟨g', k, none⟩ v) :=
  ⟨by simpa using h.lt, fun j hj => by rw [World.cell?_setCell_other _ _ _ _ (fun h => hne (congrArg Addr.block h))]; exact h.cell j hj, fun j hj => by rw [World.frozen?_setCell]; exact h.free j hj⟩

def zeros (n : Nat) : Array Value := madeCells #[.int .u8 0] n
theorem run_make_bytes {P : Program} (w : World) (t e : TypeId) (i : TypeInfo) (ht : P.underlying t = some (.slice e)) (hi : P.info? e = some i) (hz : i.zero = some (.int .u8 0)) (hs : i.size = 1) (hb : i.bytes = 1) (n : Nat) (hn : n ≤ 1048576) :
    (Instr.makeSlice t (.int .i64 (n : Int)) (.int .i64 (n : Int))).run P w = .ok (.slice (some ⟨w.heap.size, 0, none⟩) n n) (w.alloc (.cells (zeros n) e)) := by
  have h := run_make w t e i _ ht hi hz .i64 .i64 (n : Int) (n : Int) (by omega) (Int.le_refl _) (by rw [hb]; omega) (by omega)
  rw [hs] at h
  simpa [zeros, Value.cells] using h
theorem row_zeros (w : World) (e : TypeId) (n : Nat) : Row w.heap.size (List.replicate n 0) (w.alloc (.cells (zeros n) e)) := by
  refine ⟨by simp, fun j hj => ?_, fun j hj => ?_⟩
  · have hj' : j < n := by simpa using hj
    rw [World.cell?_alloc_new]
    unfold zeros madeCells
    simp [hj']
    simp [Nat.mod_one]
  · unfold World.frozen?
    have : (w.alloc (.cells (zeros n) e)).heap[w.heap.size]? = some (.cells (zeros n) e) := heap_alloc_new w _
    simp only [this]
    simp
theorem row_string {P : Program} {g : Nat} {l : List UInt8} {w : World} (h : Row g l w) (src e dst : TypeId) (hs : P.underlying src = some (.slice e)) (he : P.underlying e = some (.int .u8)) (hd : P.underlying dst = some .string)
    (cap n : Nat) (hn : n = l.length) : (convert src dst (.slice (some ⟨g, 0, none⟩) n cap)).run P w = .ok (.string ⟨l.toArray⟩) w :=
  bytes_string (P := P) w src e dst hs he hd g 0 cap l (fun j hj => by rw [Nat.zero_add]; exact h.cell j hj) n hn

/-- only blocks of M, of those that were there, may have changed -/
structure Mod (M : Nat → Prop) (w w' : World) : Prop where
  os : w'.os = w.os
  tape : w'.tape = w.tape
  output : w'.output = w.output
  size : w.heap.size ≤ w'.heap.size
  block : ∀ k, k < w.heap.size → ¬ M k → w'.heap[k]? = w.heap[k]?
theorem Mod.refl (M : Nat → Prop) (w : World) : Mod M w w := ⟨rfl, rfl, rfl, Nat.le_refl _, fun _ _ _ => rfl⟩
theorem Mod.trans {M : Nat → Prop} {u v w : World} (h : Mod M u v) (k : Mod M v w) : Mod M u w :=
  ⟨k.os.trans h.os, k.tape.trans h.tape, k.output.trans h.output, Nat.le_trans h.size k.size, fun i hi hM => (k.block i (Nat.lt_of_lt_of_le hi h.size) hM).trans (h.block i hi hM)⟩
theorem Mod.mono {M N : Nat → Prop} {u v : World} (h : Mod M u v) (hMN : ∀ k, k < u.heap.size → M k → N k) : Mod N u v :=
  ⟨h.os, h.tape, h.output, h.size, fun i hi hN => h.block i hi fun hM => hN (hMN i hi hM)⟩
theorem Mod.of_below {M : Nat → Prop} {u v : World} (h : Below u.heap.size u v) : Mod M u v := ⟨h.os, h.tape, h.output, h.size, fun i hi _ => h.block i hi⟩
theorem Mod.to_below {M : Nat → Prop} {u v : World} (h : Mod M u v) (B : Nat) (hB : B ≤ u.heap.size) (hM : ∀ k, M k → B ≤ k) : Below B u v :=
  ⟨h.os, h.tape, h.output, h.size, fun k hk => h.block k (by omega) fun hm => by have := hM k hm; omega⟩
theorem Mod.drew {M : Nat → Prop} {u v : World} (h : Mod M u v) : Mod M u v.drew := ⟨h.os, h.tape, h.output, h.size, h.block⟩
theorem Mod.drawn {M : Nat → Prop} {u v w : World} (h : Mod M u v) (k : Drawn v w) : Mod M u w := by obtain ⟨n, rfl⟩ := k; exact ⟨h.os, h.tape, h.output, h.size, h.block⟩
theorem Mod.alloc {M : Nat → Prop} {u v : World} (h : Mod M u v) (o : Obj) : Mod M u (v.alloc o) :=
  h.trans (Mod.of_below ((Below.refl _ _).alloc (Nat.le_refl _) _))
theorem Mod.setCell {M : Nat → Prop} {u v : World} (h : Mod M u v) {a : Addr} (ha : M a.block ∨ u.heap.size ≤ a.block) (x : Value) : Mod M u (v.setCell a x) := by
  refine ⟨h.os, h.tape, h.output, by simpa using h.size, fun k hk hM => ?_⟩
  rw [Below.heap_setCell _ _ _ _ (fun e => by subst e; rcases ha with ha | ha; exact hM ha; omega)]
  exact h.block k hk hM
theorem Mod.cell {M : Nat → Prop} {w w' : World} (h : Mod M w w') {p : Addr} (hp : p.block < w.heap.size) (hM : ¬ M p.block) : w'.cell? p = w.cell? p := World.cell?_of_block (w := w) (h.block p.block hp hM)
theorem Mod.frozen {M : Nat → Prop} {w w' : World} (h : Mod M w w') {p : Addr} (hp : p.block < w.heap.size) (hM : ¬ M p.block) : w'.frozen? p = w.frozen? p := World.frozen?_of_block (w := w) (h.block p.block hp hM)
end Go.Proofs.YtadhkeboaapfcaaGreatDoor
namespace Go.Proofs.YtadhkeboaapfcaaGreatDoor.OctMath

/-- a text of bytes -/
def S (l : List UInt8) : ByteArray := ⟨l.toArray⟩
theorem S_size (l : List UInt8) : (S l).size = l.length := by show l.toArray.size = _; simp
theorem S_list (l : List UInt8) : (S l).data.toList = l := by simp [S]
theorem S_of (s : ByteArray) : S s.data.toList = s := by cases s; simp [S]
theorem S_append (a b : List UInt8) : S a ++ S b = S (a ++ b) := by
  apply ByteArray.ext; simp [S]
theorem S_inj {a b : List UInt8} (h : S a = S b) : a = b := by rw [← S_list a, h, S_list]
theorem S_drop (l : List UInt8) (a : Nat) : (S l).extract a (S l).size = S (l.drop a) := by
  apply ByteArray.ext
  apply Array.ext'
  rw [S_size]
  simp [S, ByteArray.data_extract]
  exact List.take_of_length_le (by simp)
theorem S_take (l : List UInt8) (b : Nat) : (S l).extract 0 b = S (l.take b) := by
  apply ByteArray.ext
  apply Array.ext'
  simp [S, ByteArray.data_extract]
theorem S_mid (l : List UInt8) (a b : Nat) : (S l).extract a b = S ((l.drop a).take (b - a)) := by
  apply ByteArray.ext
  apply Array.ext'
  simp [S, ByteArray.data_extract, List.extract_eq_take_drop]

/-- a number's lowest k bytes, the highest first -/
def be : Nat → Nat → List UInt8
  | 0, _ => []
  | k + 1, x => UInt8.ofNat (x / 256 ^ k) :: be k x
theorem be_length (k x : Nat) : (be k x).length = k := by
  induction k with
  | zero => rfl
  | succ k ih => simp [be, ih]

/-- the number of bytes -/
def val (l : List UInt8) : Nat := l.foldl (fun x c => 256 * x + c.toNat) 0
theorem val_from (l : List UInt8) (x : Nat) : l.foldl (fun x c => 256 * x + c.toNat) x = x * 256 ^ l.length + val l := by
  unfold val
  induction l generalizing x with
  | nil => simp
  | cons c l ih =>
    simp only [List.foldl_cons, List.length_cons]
    rw [ih, ih (256 * 0 + c.toNat), Nat.pow_succ]
    rw [Nat.add_mul, Nat.mul_zero, Nat.zero_add, Nat.mul_comm 256 x, Nat.mul_assoc, Nat.mul_comm 256, Nat.add_assoc]
theorem val_cons (c : UInt8) (l : List UInt8) : val (c :: l) = c.toNat * 256 ^ l.length + val l := by
  show l.foldl _ (256 * 0 + c.toNat) = _
  rw [val_from]; simp
theorem val_snoc (l : List UInt8) (c : UInt8) : val (l ++ [c]) = 256 * val l + c.toNat := by
  unfold val; rw [List.foldl_append]; rfl
theorem val_lt (l : List UInt8) : val l < 256 ^ l.length := by
  induction l with
  | nil => simp [val]
  | cons c l ih =>
    rw [val_cons, List.length_cons, Nat.pow_succ]
    have h := c.toNat_lt
    have h2 : c.toNat * 256 ^ l.length ≤ 255 * 256 ^ l.length := Nat.mul_le_mul_right _ (by omega)
    omega
theorem val_be (k x : Nat) : val (be k x) = x % 256 ^ k := by
  induction k with
  | zero => simp [be, val, Nat.mod_one]
  | succ k ih =>
    simp only [be]
    rw [val_cons, ih, be_length, UInt8.toNat_ofNat', show 2 ^ 8 = 256 from rfl, Nat.pow_succ, Nat.mod_mul (x := x) (a := 256 ^ k) (b := 256), Nat.add_comm, Nat.mul_comm (256 ^ k)]
theorem be_mod (k x : Nat) : ∀ m, k ≤ m → be k (x % 256 ^ m) = be k x := by
  induction k with
  | zero => intro m _; rfl
  | succ k ih =>
    intro m hm
    simp only [be]
    rw [ih m (by omega)]
    congr 1
    apply UInt8.toNat_inj.1
    rw [UInt8.toNat_ofNat', UInt8.toNat_ofNat']
    obtain ⟨d, rfl⟩ : ∃ d, m = k + (d + 1) := ⟨m - k - 1, by omega⟩
    rw [Nat.pow_add, Nat.mod_mul_right_div_self, Nat.pow_succ, Nat.mul_comm (256 ^ d), Nat.mod_mul_right_mod]
theorem be_val (l : List UInt8) : be l.length (val l) = l := by
  induction l with
  | nil => rfl
  | cons c l ih =>
    simp only [List.length_cons, be]
    have hl := val_lt l
    have hd : val (c :: l) / 256 ^ l.length = c.toNat := by
      rw [val_cons, Nat.add_comm, Nat.add_mul_div_right _ _ (Nat.pow_pos (by omega)), Nat.div_eq_of_lt hl]; simp
    rw [hd, UInt8.ofNat_toNat]
    congr 1
    have hm := be_mod l.length (val (c :: l)) l.length (Nat.le_refl _)
    rw [← hm, val_cons, Nat.add_comm, Nat.add_mul_mod_self_right, Nat.mod_eq_of_lt hl, ih]

/-- a reader: what is left, and its first error's number -/
structure RS where
  s : List UInt8
  e : Nat

def takeR (n : Int) (r : RS) : List UInt8 × RS :=
  if r.e ≠ 0 then ([], r) else if n < 0 then ([], ⟨r.s, 1⟩) else if (r.s.length : Int) < n then ([], ⟨r.s, 3⟩) else (r.s.take n.toNat, ⟨r.s.drop n.toNat, 0⟩)
def numR (n : Int) (r : RS) : Nat × RS :=
  if r.e ≠ 0 then (0, r) else if n < 1 ∨ 7 < n then (0, ⟨r.s, 1⟩) else (val (takeR n r).1, (takeR n r).2)
/-- an error is noted: too long -/
def longR (b : Bool) (r : RS) : RS := if r.e = 0 ∧ b = true then ⟨r.s, 6⟩ else r
def textR (most : Int) (r : RS) : List UInt8 × RS :=
  if r.e ≠ 0 then ([], r) else
  let x := numR 2 r
  let y := takeR (x.1 : Int) (longR (decide (most < (x.1 : Int))) x.2)
  if y.2.e ≠ 0 then (y.1, ⟨r.s, y.2.e⟩) else y
def textsR (most : Int) : Nat → RS → List (List UInt8) × RS
  | 0, r => ([], r)
  | n + 1, r => ((textR most r).1 :: (textsR most n (textR most r).2).1, (textsR most n (textR most r).2).2)
def listR (many most : Int) (r : RS) : List (List UInt8) × RS :=
  if r.e ≠ 0 then ([], r) else
  let x := numR 1 r
  let y := textsR most x.1 (longR (decide (many < (x.1 : Int))) x.2)
  if y.2.e ≠ 0 then ([], ⟨r.s, y.2.e⟩) else y

def endR (r : RS) : Nat := if r.e ≠ 0 then r.e else if r.s.length = 0 then 0 else 4

theorem takeR_err {n : Int} {r : RS} (h : (takeR n r).2.e ≠ 0) : (takeR n r).1 = [] := by
  unfold takeR at h ⊢
  split
  · rfl
  · split
    · rfl
    · split
      · rfl
      · rename_i h1 h2 h3; rw [if_neg h1, if_neg h2, if_neg h3] at h; simp at h

end Go.Proofs.YtadhkeboaapfcaaGreatDoor.OctMath
namespace Go.Proofs.YtadhkeboaapfcaaGreatDoor
open Go.RowKit
set_option linter.unusedSimpArgs false
set_option linter.unusedVariables false

/-- the cells of a slice, from its head on -/
def Row1 (w : World) (a : Option Addr) (vs : List Value) : Prop := ∀ i (h : i < vs.length), ∃ b off, a = some ⟨b, off, none⟩ ∧ w.cell? ⟨b, off + i, none⟩ = some vs[i]
theorem Row1.below {W w : World} {a : Option Addr} {vs : List Value} (h : Row1 W a vs) (hb : Below W.heap.size W w) : Row1 w a vs := by
  intro i hi
  obtain ⟨b, off, rfl, hc⟩ := h i hi
  exact ⟨b, off, rfl, by rw [hb.cell (cell_lt hc)]; exact hc⟩
theorem Row1.mod {M : Nat → Prop} {W w : World} {a : Option Addr} {vs : List Value} (h : Row1 W a vs) (hb : Mod M W w) (hM : ∀ ad, a = some ad → ¬ M ad.block) : Row1 w a vs := by
  intro i hi
  obtain ⟨b, off, rfl, hc⟩ := h i hi
  exact ⟨b, off, rfl, by rw [hb.cell (p := ⟨b, off + i, none⟩) (cell_lt hc) (show ¬ M b from hM ⟨b, off, none⟩ rfl)]; exact hc⟩
theorem Row1.of_strs {w : World} {a : Option Addr} {ss : List ByteArray} (h : Strs w a ss) : Row1 w a (ss.map .string) := by
  intro i hi
  obtain ⟨b, off, rfl, hc⟩ := h i (by simpa using hi)
  exact ⟨b, off, rfl, by rw [hc, List.getElem_map]⟩
theorem Row1.to_strs {w : World} {a : Option Addr} {ss : List ByteArray} (h : Row1 w a (ss.map .string)) : Strs w a ss := by
  intro i hi
  obtain ⟨b, off, rfl, hc⟩ := h i (by simpa using hi)
  exact ⟨b, off, rfl, by rw [hc, List.getElem_map]⟩
theorem Row1.of_own {w : World} {base n : Nat} {e : TypeId} {v : Value} {xs : List Value} (h : w.ownsRow base e 1 v n xs) : ∃ a cap, v = .slice a n cap ∧ Row1 w a xs ∧ xs.length = n := by
  obtain ⟨hl, h⟩ := h
  rcases h with ⟨rfl, h0⟩ | ⟨g, cap, cur, rfl, hb, hg, hc1, hc2, hcs, hcur⟩
  · exact ⟨none, 0, by rw [h0], fun i hi => by omega, by omega⟩
  · refine ⟨some ⟨g, 0, none⟩, cap, rfl, fun i hi => ⟨g, 0, rfl, ?_⟩, by omega⟩
    unfold World.cell?
    rw [hg]
    have : cur[0 + i]? = (cur.toList.take (n * 1))[i]? := by
      rw [List.getElem?_take, if_pos (by omega)]; simp
    simp only [this, hcur]
    simp [hi]

section
variable {P : Program} {w : World}
theorem run_append_none (base : Nat) (t ty e : TypeId) (i : TypeInfo) (ht : P.underlying t = some (.slice e)) (hi : P.info? e = some i)
    (v : Value) (n : Nat) (xs : List Value) (hown : w.ownsRow base e 1 v n xs) (c : Nat) : (Builtin.append_ #[t, t] ty #[v, .slice none 0 c]).run P w = .ok v w := by
  rcases hown.2 with ⟨rfl, rfl⟩ | ⟨g, cap, cur, rfl, _, _, hnc, _⟩
  · simp [Builtin.append_, run_underlying ht, sizeOf, typeInfo, hi, Builtin.lenOf, Builtin.firstCells]
  · simp [Builtin.append_, run_underlying ht, sizeOf, typeInfo, hi, Builtin.lenOf, Builtin.firstCells, hnc, storeCells]
theorem run_append_row (base : Nat) (t ty e : TypeId) (i : TypeInfo) (z : Value) (bytes : Nat) (ht : P.underlying t = some (.slice e)) (hi : P.info? e = some i) (hz : i.zero = some z)
    (hsize : i.size = 1) (hby : i.bytes = bytes) (hzs : z.cells.size = 1) (v : Value) (n : Nat) (xs : List Value) (hown : w.ownsRow base e 1 v n xs)
    (a : Option Addr) (c : Nat) (news : List Value) (hr : Row1 w a news) (h1 : ∀ u ∈ news, u.oneCell' = true)
    (h63 : n + news.length ≤ maxLen) (hbytes : (n + news.length) * bytes ≤ 140737488355328) (hbase : base ≤ w.heap.size) :
    ∃ v' w', (Builtin.append_ #[t, t] ty #[v, .slice a news.length c]).run P w = .ok v' w' ∧ w'.ownsRow base e 1 v' (n + news.length) (xs ++ news) ∧ w.grownBy w' v.ownBlock := by
  cases a with
  | none =>
    have : news = [] := by
      cases news with
      | nil => rfl
      | cons x l => obtain ⟨b, off, h, _⟩ := hr 0 (by simp); cases h
    subst this
    exact ⟨v, w, run_append_none base t ty e i ht hi v n xs hown c, by simpa using hown, World.grownBy.refl w _⟩
  | some ad =>
    have hcells : ∀ j u, news[j]? = some u → w.cell? (ad.add j) = some u := by
      intro j u hu
      obtain ⟨hj, hju⟩ := List.getElem?_eq_some_iff.1 hu
      obtain ⟨b, off, h, hc⟩ := hr j hj
      cases h
      rw [hju] at hc
      unfold Addr.add
      split
      · rename_i e; subst e; exact hc
      · exact hc
    obtain ⟨v', w', hrun, h2, h3, _⟩ := run_append_own (P := P) (w := w) base t ty e i z 1 bytes ht hi hz hsize hby hzs (by omega) v n xs hown ad news.length c news (by omega) hcells h1 h63 hbytes hbase
    exact ⟨v', w', hrun, h2, h3⟩
theorem wpList_append_row {ops : Array Oper} {rest : List Oper} {o : Oper} {a : Act} {Q : Exit → Act → World → Prop} (hgd : o.guard = none) (s x : Operand) (t : TypeId)
    (ho : o.op = .call { callee := .builtin .append, args := #[s, x], argTypes := #[t, t] })
    (base : Nat) (e : TypeId) (i : TypeInfo) (z : Value) (bytes : Nat) (ht : P.underlying t = some (.slice e)) (hi : P.info? e = some i) (hz : i.zero = some z)
    (hsize : i.size = 1) (hby : i.bytes = bytes) (hzs : z.cells.size = 1) (v : Value) (n : Nat) (xs : List Value) (hs : a.eval s = v) (hown : w.ownsRow base e 1 v n xs)
    (ad : Option Addr) (m c : Nat) (news : List Value) (hx : a.eval x = .slice ad m c) (hm : m = news.length) (hr : Row1 w ad news) (h1 : ∀ u ∈ news, u.oneCell' = true)
    (h63 : n + m ≤ maxLen) (hbytes : (n + m) * bytes ≤ 140737488355328) (hbase : base ≤ w.heap.size)
    (h : ∀ v' w', w'.ownsRow base e 1 v' (n + m) (xs ++ news) → w.grownBy w' v.ownBlock → wpList P ops Q rest (a.put o.dst v') w') : wpList P ops Q (o :: rest) a w := by
  subst hm
  refine wpList_plain hgd fun K hK => ?_
  obtain ⟨v', w', hrun, h2, h3⟩ := run_append_row (P := P) (w := w) base t o.type e i z bytes ht hi hz hsize hby hzs v n xs hown ad c news hr h1 h63 hbytes hbase
  unfold Oper.wp
  simp [execOp, ho, resolve, invoke, builtin, hs, hx, hrun, Result.andThen]
  exact hK _ _ (h v' w' h2 h3)
end
theorem ownBlock_of_own {w : World} {base n : Nat} {e : TypeId} {sz : Nat} {v : Value} {xs : List Value} (h : w.ownsRow base e sz v n xs) : ∀ g, v.ownBlock = some g → base ≤ g := by
  intro g hg
  rcases h.2 with ⟨rfl, _⟩ | ⟨g', cap, cur, rfl, hb, _⟩
  · cases hg
  · cases hg; exact hb
theorem ownsRow_empty (w : World) (base : Nat) (e : TypeId) (hb : base ≤ w.heap.size) : (w.alloc (.cells #[] e)).ownsRow base e 1 (.slice (some ⟨w.heap.size, 0, none⟩) 0 0) 0 [] :=
  ⟨rfl, .inr ⟨w.heap.size, 0, #[], rfl, hb, heap_alloc_new w _, Nat.le_refl _, by unfold maxLen; omega, rfl, rfl⟩⟩
end Go.Proofs.YtadhkeboaapfcaaGreatDoor
namespace Go.Proofs.YtadhkeboaapfcaaGreatDoor
open Go.RowKit
set_option linter.unusedSimpArgs false
set_option linter.unusedVariables false

section
variable {P : Program} {w : World}
theorem run_append_zero (t ty e : TypeId) (i : TypeInfo) (ht : P.underlying t = some (.slice e)) (hi : P.info? e = some i) (b a : Option Addr) (c : Nat) :
    (Builtin.append_ #[t, t] ty #[.slice b 0 0, .slice a 0 c]).run P w = .ok (.slice b 0 0) w := by
  cases a <;> cases b <;> simp [Builtin.append_, run_underlying ht, sizeOf, typeInfo, hi, Builtin.lenOf, Builtin.firstCells, storeCells, loadCells, loadCellsFrom]
/-- the result is the call's own, from B on; w.heap.size is a bound of what was there -/
theorem run_append_empty (B : Nat) (t ty e : TypeId) (i : TypeInfo) (z : Value) (bytes : Nat) (ht : P.underlying t = some (.slice e)) (hi : P.info? e = some i) (hz : i.zero = some z)
    (hsize : i.size = 1) (hby : i.bytes = bytes) (hzs : z.cells.size = 1) (b : Option Addr) (hown : w.ownsRow B e 1 (.slice b 0 0) 0 [])
    (a : Option Addr) (c : Nat) (news : List Value) (hr : Row1 w a news) (h1 : ∀ u ∈ news, u.oneCell' = true) (h63 : news.length ≤ maxLen) (hbytes : news.length * bytes ≤ 140737488355328) (hB : B ≤ w.heap.size) :
    ∃ v' w', (Builtin.append_ #[t, t] ty #[.slice b 0 0, .slice a news.length c]).run P w = .ok v' w' ∧ w'.ownsRow B e 1 v' news.length news ∧ Below w.heap.size w w' := by
  cases news with
  | nil => exact ⟨_, w, run_append_zero t ty e i ht hi b a c, hown, Below.refl _ _⟩
  | cons x l =>
    obtain ⟨g, off, rfl, hc⟩ := hr 0 (by simp)
    have hcells : ∀ j u, (x :: l)[j]? = some u → w.cell? ((⟨g, off, none⟩ : Addr).add j) = some u := by
      intro j u hu
      obtain ⟨hj, hju⟩ := List.getElem?_eq_some_iff.1 hu
      obtain ⟨b', off', h, hc⟩ := hr j hj
      cases h
      rw [hju] at hc
      unfold Addr.add
      split
      · rename_i e; subst e; exact hc
      · exact hc
    cases b with
    | none =>
      obtain ⟨v', w', hrun, h2, h3, _⟩ := run_append_own (P := P) (w := w) w.heap.size t ty e i z 1 bytes ht hi hz hsize hby hzs (by omega) (.slice none 0 0) 0 [] ⟨rfl, .inl ⟨rfl, rfl⟩⟩ ⟨g, off, none⟩ (x :: l).length c (x :: l) (by omega) hcells h1 (by omega) (by rw [Nat.zero_add]; exact hbytes) (Nat.le_refl _)
      refine ⟨v', w', hrun, ?_, (Below.refl _ _).grown h3 (Nat.le_refl _) (by simp [Value.ownBlock])⟩
      rw [Nat.zero_add, List.nil_append] at h2
      refine ⟨h2.1, ?_⟩
      rcases h2.2 with h | ⟨g', cap, cur, e1, e2, rest⟩
      · exact .inl h
      · exact .inr ⟨g', cap, cur, e1, Nat.le_trans hB e2, rest⟩
    | some bb =>
      obtain ⟨v', w', hrun, h2, h3⟩ := run_append_arg_grows (P := P) (w := w) t ty e i z 1 bytes ht hi hz hsize hby hzs (by omega) bb 0 0 [] rfl (by simp) ⟨g, off, none⟩ (x :: l).length c (x :: l) (by omega) hcells (by simp) (by omega) (by rw [Nat.zero_add]; exact hbytes)
      rw [Nat.zero_add, List.nil_append] at h2
      refine ⟨v', w', hrun, ⟨h2.1, ?_⟩, (Below.refl _ _).grown h3 (Nat.le_refl _) (by simp)⟩
      rcases h2.2 with h | ⟨g', cap, cur, e1, e2, rest⟩
      · exact .inl h
      · exact .inr ⟨g', cap, cur, e1, Nat.le_trans hB e2, rest⟩
end
end Go.Proofs.YtadhkeboaapfcaaGreatDoor
namespace Go.Proofs.YtadhkeboaapfcaaGreatDoor.Bld
open Go.Shelf Go.RowKit
set_option maxRecDepth 100000
set_option linter.unusedSimpArgs false
set_option linter.unusedVariables false

def ren : Go.Shelf.Ren := ⟨fun | 169 => 53 | n => n, fun | 70 => 69 | 9 => 9 | 0 => 0 | 72 => 71 | 37 => 61 | 127 => 94 | 3 => 3 | 5 => 5 | n => n, fun | n => n⟩
theorem lays : Go.Proofs.Lays.n169 Tryz.prog ren := {
  mixed := by kernel_rfl
  f169 := Tryz.func53.trans (congrArg some (by kernel_rfl))
  t0 := Tryz.underlying0
  a0 := Tryz.isAgg0
  z0 := Tryz.sizeOf0
  v0 := Tryz.zeroValue0
  t3 := Tryz.underlying3
  a3 := Tryz.isAgg3
  z3 := Tryz.sizeOf3
  v3 := Tryz.zeroValue3
  t9 := Tryz.underlying9
  a9 := Tryz.isAgg9
  z9 := Tryz.sizeOf9
  v9 := Tryz.zeroValue9
  t37 := Tryz.underlying61
  a37 := Tryz.isAgg61
  z37 := Tryz.sizeOf61
  v37 := Tryz.zeroValue61
  t70 := Tryz.underlying69
  a70 := Tryz.isAgg69
  z70 := Tryz.sizeOf69
  v70 := Tryz.zeroValue69
  t72 := Tryz.underlying71
  a72 := Tryz.isAgg71
  z72 := Tryz.sizeOf71
  v72 := Tryz.zeroValue71
  t127 := Tryz.underlying94
  a127 := Tryz.isAgg94
  z127 := Tryz.sizeOf94
  v127 := Tryz.zeroValue94 }
theorem extra : Builder.Extra Tryz.prog ren := {
  sizeBuilder := by kernel_rfl
  liesBuilder := by kernel_rfl
  t5 := Tryz.underlying5
  a5 := Tryz.isAgg5
  z5 := Tryz.sizeOf5
  v5 := Tryz.zeroValue5
  infoByte := by kernel_rfl
  cellsByte := by kernel_rfl
  sizeByte := by kernel_rfl
  neB5 := by decide }
theorem string_any (B b : Nat) (l : List UInt8) (w : World) (h : Lib.IsBuilder 71 5 B b (Lib.byteCells l) w) (hBw : B ≤ w.heap.size) :
    Calls Tryz.prog 53 #[.pointer (some ⟨b, 0, none⟩)] w fun e w' => e = .returned (.string ⟨l.toArray⟩) ∧ Below B w w' := Any.Builder_String_any lays extra B b l w h hBw

theorem size_builder : (Tryz.prog.info? 71).map (·.size) = some 2 := by kernel_rfl
theorem lies_builder : liesAt Tryz.prog Tryz.prog.depth 71 (2 / Tryz.prog.cellsOf 71) 0 71 1 = true := by kernel_rfl
theorem info_byte : (Tryz.prog.info? 5).map (fun i => (i.zero, i.size, i.bytes)) = some (some (.int .u8 0), 1, 1) := by kernel_rfl

set_option maxHeartbeats 1000000 in
theorem copyCheck_used (b : Nat) (w : World) (h0 : w.cell? ⟨b, 0, none⟩ = some (.pointer (some ⟨b, 0, none⟩))) :
    Calls Tryz.prog 74 #[.pointer (some ⟨b, 0, none⟩)] w fun e w' => e = .returned (.tuple #[]) ∧ w' = w := by
  obtain ⟨j, hj, _⟩ := Option.map_eq_some_iff.1 size_builder
  go_enter Tryz.func74, Tryz.ntmps74
  go_wp2
  rw [Lib.run_neq_ptr_same w _ Tryz.underlying69 hj]
  go_wp2
  go_end0
  exact ⟨rfl, rfl⟩

set_option maxHeartbeats 1000000 in
theorem copyCheck_fresh (b : Nat) (w : World) (h0 : w.cell? ⟨b, 0, none⟩ = some (.pointer none)) (hsh : w.shape? b = some (71, 2)) (hfz : w.frozen? ⟨b, 0, none⟩ = false) :
    Calls Tryz.prog 74 #[.pointer (some ⟨b, 0, none⟩)] w fun e w' => e = .returned (.tuple #[]) ∧ w' = w.setCell ⟨b, 0, none⟩ (.pointer (some ⟨b, 0, none⟩)) := by
  obtain ⟨j, hj, hjs⟩ := Option.map_eq_some_iff.1 size_builder
  go_enter Tryz.func74, Tryz.ntmps74
  go_wp2
  rw [Lib.run_to_unsafe w ⟨b, 0, none⟩ Tryz.underlying69 Tryz.underlying104 hj (by rw [hjs]; decide) hsh (Nat.zero_lt_succ 1)]
  simp only [Result.andThen]
  rw [Oper.upon_value]
  go_wp2
  rw [run_callFunc_extern Tryz.func93 (by kernel_rfl) (by kernel_rfl) (by kernel_rfl) (e := Extern.AbiNoEscape.same) (by kernel_rfl)]
  rw [Lib.run_noEscape]
  simp only [Result.andThen]
  rw [Oper.upon_value]
  go_wp2
  rw [Lib.run_from_unsafe w ⟨b, 0, none⟩ Tryz.underlying104 Tryz.underlying69 hj hsh lies_builder]
  simp only [Result.andThen]
  rw [Oper.upon_value]
  go_wp2
  go_end0
  exact ⟨rfl, rfl⟩

theorem copyCheck_any (B b : Nat) (bs : List Value) (w : World) (h : Lib.IsBuilder 71 5 B b bs w) :
    Calls Tryz.prog 74 #[.pointer (some ⟨b, 0, none⟩)] w fun e w' => e = .returned (.tuple #[]) ∧ (Lib.BuilderAt 71 5 B b (.pointer (some ⟨b, 0, none⟩)) bs w' ∧ Below B w w') := by
  rcases h with h | h
  · refine (copyCheck_fresh b w h.cell0 h.shape h.frozen0).mono ?_
    rintro e w' ⟨rfl, rfl⟩
    exact ⟨rfl, h.used _, (Below.refl B w).setCell (p := ⟨b, 0, none⟩) h.1 _⟩
  · refine (copyCheck_used b w h.cell0).mono ?_
    rintro e w' ⟨rfl, rfl⟩
    exact ⟨rfl, h, Below.refl B _⟩

set_option maxHeartbeats 2000000 in
theorem writeString_any (B b : Nat) (bs : List Value) (s : ByteArray) (w : World) (h : Lib.IsBuilder 71 5 B b bs w) (hlen : bs.length + s.size ≤ 140737488355328) (hBw : B ≤ w.heap.size) :
    Calls Tryz.prog 52 #[.pointer (some ⟨b, 0, none⟩), .string s] w fun e w' => e = .returned (.tuple #[.int .i64 s.size, .nilIface]) ∧ (Lib.BuilderAt 71 5 B b (.pointer (some ⟨b, 0, none⟩)) (bs ++ Lib.strCells s) w' ∧ Below B w w') := by
  obtain ⟨i0, hi, hz0, hz1, hz2⟩ := info_parts info_byte
  go_enter Tryz.func52, Tryz.ntmps52
  go_wp2_with (go_at_call 74; refine (copyCheck_any B b bs _ h).mono ?_)
  rintro e w1 ⟨rfl, h1, hb1⟩
  obtain ⟨hB, v, hbk, hown, hne⟩ := h1
  have c0 : w1.cell? ⟨b, 0, none⟩ = some (.pointer (some ⟨b, 0, none⟩)) := by rw [Lib.cell_of_heap hbk]; rfl
  have c1 : w1.cell? ⟨b, 1, none⟩ = some v := by rw [Lib.cell_of_heap hbk]; rfl
  go_wp2_with (at_builtin; go_must (refine Lib.wpList_append_own_string _ rfl _ _ 61 9 rfl B 5 i0 Tryz.underlying61 Tryz.underlying9 hi hz0 hz1 hz2 _ _ _ rfl hown s rfl ?c3 ?c4 ?c5 ?_))
  case c3 => unfold maxLen; omega
  case c4 => omega
  case c5 => have := hb1.size; omega
  intro v' w2 hown' hgrow _
  have hlt : b < w1.heap.size := by
    rcases Nat.lt_or_ge b w1.heap.size with h' | h'
    · exact h'
    · simp [Array.getElem?_eq_none h'] at hbk
  have hb2 : w2.heap[b]? = some (.cells #[.pointer (some ⟨b, 0, none⟩), v] 71 (0, 0)) := by
    rw [hgrow.block b hlt (fun e => hne e.symm)]
    exact hbk
  have d0 : w2.cell? ⟨b, 0, none⟩ = some (.pointer (some ⟨b, 0, none⟩)) := by rw [Lib.cell_of_heap hb2]; rfl
  have d1 : w2.cell? ⟨b, 1, none⟩ = some v := by rw [Lib.cell_of_heap hb2]; rfl
  have f1 : w2.frozen? ⟨b, 1, none⟩ = false := Lib.frozen_of_heap hb2 1
  obtain ⟨ao, n', cap, rfl⟩ : ∃ ao n' cap, v' = .slice ao n' cap := by
    rcases hown'.2 with ⟨hv, _⟩ | ⟨g, cap, cur, hv, _⟩
    · exact ⟨_, _, _, hv⟩
    · exact ⟨_, _, _, hv⟩
  go_wp2
  go_ret2
  refine ⟨rfl, ?_, ?_⟩
  · exact Lib.BuilderAt.put (T := 71) (e := 5) hB hb2 (bs' := bs ++ Lib.strCells s) (by simpa [Lib.strCells_length] using hown') (by decide)
  · exact (hb1.grown hgrow (by have := hb1.size; omega) (fun k hk => (hown.lt k hk).1)).setCell (p := ⟨b, 1, none⟩) hB _
end Go.Proofs.YtadhkeboaapfcaaGreatDoor.Bld
namespace Go.Proofs.YtadhkeboaapfcaaGreatDoor.HexMath

def digs : List UInt8 := [48, 49, 50, 51, 52, 53, 54, 55, 56, 57, 97, 98, 99, 100, 101, 102]
def dig (n : Nat) : UInt8 := digs.getD n 0
def hexB (b : UInt8) : List UInt8 := [dig (b.toNat / 16), dig (b.toNat % 16)]
/-- a text's digits -/
def hexD (l : List UInt8) : List UInt8 := l.flatMap hexB
/-- a text's word -/
def hexL (l : List UInt8) : List UInt8 := if l = [] then [46] else hexD l
/-- a digit's number -/
def dval (c : UInt8) : Option Nat := if 48 ≤ c.toNat ∧ c.toNat ≤ 57 then some (c.toNat - 48) else if 97 ≤ c.toNat ∧ c.toNat ≤ 102 then some (c.toNat - 87) else none
def pairs : List UInt8 → Option (List UInt8)
  | a :: b :: r => match dval a, dval b with
    | some x, some y => (pairs r).map fun l => UInt8.ofNat (x * 16 + y) :: l
    | _, _ => none
  | _ => some []
/-- the text of a word -/
def unhexL (w : List UInt8) : List UInt8 × Bool :=
  if w = [46] then ([], true) else
  match pairs w with
  | none => ([], false)
  | some l => if l = [] ∨ hexL l ≠ w then ([], false) else (l, true)

theorem hexD_snoc (l : List UInt8) (b : UInt8) : hexD (l ++ [b]) = hexD l ++ hexB b := by simp [hexD]
theorem hexD_length (l : List UInt8) : (hexD l).length = 2 * l.length := by
  induction l with
  | nil => rfl
  | cons b l ih =>
    have : hexD (b :: l) = hexB b ++ hexD l := by simp [hexD]
    rw [this, List.length_append, ih, List.length_cons]; simp [hexB]; omega
theorem dig_lt (n : Nat) (h : n < 10) : dig n = UInt8.ofNat (48 + n) := by
  match n, h with
  | 0, _ => rfl
  | 1, _ => rfl
  | 2, _ => rfl
  | 3, _ => rfl
  | 4, _ => rfl
  | 5, _ => rfl
  | 6, _ => rfl
  | 7, _ => rfl
  | 8, _ => rfl
  | 9, _ => rfl
theorem dig_ge (n : Nat) (h : 10 ≤ n) (h' : n < 16) : dig n = UInt8.ofNat (87 + n) := by
  match n, h, h' with
  | 10, _, _ => rfl
  | 11, _, _ => rfl
  | 12, _, _ => rfl
  | 13, _, _ => rfl
  | 14, _, _ => rfl
  | 15, _, _ => rfl
  | n + 16, _, h => exact absurd h (by omega)
theorem dval_dig (n : Nat) (h : n < 16) : dval (dig n) = some n := by
  unfold dval
  by_cases h10 : n < 10
  · rw [dig_lt n h10, UInt8.toNat_ofNat']
    rw [if_pos (by omega)]; congr 1; omega
  · rw [dig_ge n (by omega) h, UInt8.toNat_ofNat']
    rw [if_neg (by omega), if_pos (by omega)]; congr 1; omega
theorem dig_dval (c : UInt8) (n : Nat) (h : dval c = some n) : n < 16 ∧ dig n = c := by
  unfold dval at h
  by_cases h1 : 48 ≤ c.toNat ∧ c.toNat ≤ 57
  · rw [if_pos h1] at h
    obtain rfl : c.toNat - 48 = n := by simpa using h
    refine ⟨by omega, ?_⟩
    rw [dig_lt _ (by omega)]
    apply UInt8.toNat_inj.1
    rw [UInt8.toNat_ofNat']; omega
  · rw [if_neg h1] at h
    by_cases h2 : 97 ≤ c.toNat ∧ c.toNat ≤ 102
    · rw [if_pos h2] at h
      obtain rfl : c.toNat - 87 = n := by simpa using h
      refine ⟨by omega, ?_⟩
      rw [dig_ge _ (by omega) (by omega)]
      apply UInt8.toNat_inj.1
      rw [UInt8.toNat_ofNat']; omega
    · rw [if_neg h2] at h; cases h
theorem pairs_hexD (l : List UInt8) : pairs (hexD l) = some l := by
  induction l with
  | nil => rfl
  | cons b l ih =>
    have : hexD (b :: l) = dig (b.toNat / 16) :: dig (b.toNat % 16) :: hexD l := by simp [hexD, hexB]
    have hb := b.toNat_lt
    rw [this]
    unfold pairs
    rw [dval_dig _ (by omega), dval_dig _ (by omega), ih]
    simp only [Option.map_some]
    have e : b.toNat / 16 * 16 + b.toNat % 16 = b.toNat := by omega
    rw [e, UInt8.ofNat_toNat]
theorem hexD_ne (l : List UInt8) : hexD l ≠ [46] := by
  intro h
  have := congrArg List.length h
  rw [hexD_length] at this
  simp at this; omega
theorem unhex_hex (l : List UInt8) : unhexL (hexL l) = (l, true) := by
  unfold hexL
  by_cases h : l = []
  · subst h; rfl
  · rw [if_neg h]
    unfold unhexL
    rw [if_neg (hexD_ne l), pairs_hexD]
    simp only
    rw [if_neg]
    intro hh
    rcases hh with hh | hh
    · exact h hh
    · unfold hexL at hh; rw [if_neg h] at hh; exact hh rfl
theorem unhex_false (w : List UInt8) (h : (unhexL w).2 = false) : (unhexL w).1 = [] := by
  unfold unhexL at h ⊢
  split
  · rfl
  · rename_i h1
    rw [if_neg h1] at h
    cases hp : pairs w with
    | none => rfl
    | some l =>
      simp only [hp] at h ⊢
      split
      · rfl
      · rename_i h2; rw [if_neg h2] at h; cases h
theorem unhex_true (w : List UInt8) (h : (unhexL w).2 = true) : hexL (unhexL w).1 = w := by
  unfold unhexL at h ⊢
  split
  · rename_i h1; rw [h1]; rfl
  · rename_i h1
    rw [if_neg h1] at h
    cases hp : pairs w with
    | none => simp only [hp] at h; cases h
    | some l =>
      simp only [hp] at h ⊢
      split
      · rename_i h2; rw [if_pos h2] at h; cases h
      · rename_i h2
        exact Decidable.not_not.1 (fun hh => h2 (.inr hh))

/-- is it a word's? -/
def digitB (c : UInt8) : Bool := (decide (48 ≤ c.toNat) && decide (c.toNat ≤ 57)) || (decide (97 ≤ c.toNat) && decide (c.toNat ≤ 102))
def evenB (w : List UInt8) : Bool := decide (w = [46]) || (!decide (w.length = 0) && decide (w.length % 2 = 0) && w.all digitB)
theorem dval_digit (c : UInt8) : (dval c).isSome = digitB c := by
  unfold dval digitB
  by_cases h1 : 48 ≤ c.toNat ∧ c.toNat ≤ 57
  · rw [if_pos h1]; simp [h1]
  · rw [if_neg h1]
    by_cases h2 : 97 ≤ c.toNat ∧ c.toNat ≤ 102
    · rw [if_pos h2]; simp [h2]
    · rw [if_neg h2]
      simp only [Option.isSome_none]
      symm
      rw [Bool.eq_false_iff]
      intro h
      simp at h
      omega
theorem pairs_digits : ∀ (n : Nat) (w : List UInt8), w.length = 2 * n → w.all digitB = true → ∃ l, pairs w = some l ∧ hexD l = w := by
  intro n
  induction n with
  | zero =>
    intro w h _
    have : w = [] := List.eq_nil_of_length_eq_zero (by omega)
    subst this
    exact ⟨[], rfl, rfl⟩
  | succ n ih =>
    intro w h hd
    match w, h with
    | a :: b :: r, h =>
      simp only [List.all_cons, Bool.and_eq_true] at hd
      obtain ⟨ha, hb, hr⟩ := hd
      obtain ⟨l, hl, he⟩ := ih r (by simp at h; omega) hr
      rw [← dval_digit] at ha hb
      obtain ⟨x, hx⟩ := Option.isSome_iff_exists.1 ha
      obtain ⟨y, hy⟩ := Option.isSome_iff_exists.1 hb
      obtain ⟨x16, ex⟩ := dig_dval a x hx
      obtain ⟨y16, ey⟩ := dig_dval b y hy
      refine ⟨UInt8.ofNat (x * 16 + y) :: l, by unfold pairs; rw [hx, hy, hl]; rfl, ?_⟩
      have hn : (UInt8.ofNat (x * 16 + y)).toNat = x * 16 + y := by rw [UInt8.toNat_ofNat']; omega
      have : hexD (UInt8.ofNat (x * 16 + y) :: l) = hexB (UInt8.ofNat (x * 16 + y)) ++ hexD l := by simp [hexD]
      rw [this, he]
      unfold hexB
      rw [hn, show (x * 16 + y) / 16 = x by omega, show (x * 16 + y) % 16 = y by omega, ex, ey]; rfl
theorem hexD_digits (l : List UInt8) : (hexD l).all digitB = true := by
  induction l with
  | nil => rfl
  | cons b l ih =>
    have : hexD (b :: l) = dig (b.toNat / 16) :: dig (b.toNat % 16) :: hexD l := by simp [hexD, hexB]
    have hb := b.toNat_lt
    rw [this, List.all_cons, List.all_cons, ih, ← dval_digit, ← dval_digit, dval_dig _ (by omega), dval_dig _ (by omega)]; rfl
theorem unhex_even (w : List UInt8) : (unhexL w).2 = evenB w := by
  by_cases h46 : w = [46]
  · subst h46; rfl
  · unfold evenB
    rw [decide_eq_false h46, Bool.false_or]
    cases hu : (unhexL w).2 with
    | true =>
      have h := unhex_true w hu
      unfold hexL at h
      by_cases hn : (unhexL w).1 = []
      · rw [if_pos hn] at h; exact absurd h.symm h46
      · rw [if_neg hn] at h
        have hl : w.length = 2 * (unhexL w).1.length := by rw [← hexD_length, h]
        have hd : w.all digitB = true := by rw [← h]; exact hexD_digits _
        have hp : 0 < (unhexL w).1.length := List.length_pos_iff.2 hn
        rw [hd]
        simp; exact ⟨by intro e; subst e; simp at hl; omega, by omega⟩
    | false =>
      symm
      rw [Bool.eq_false_iff]
      intro h
      simp only [Bool.and_eq_true, Bool.not_eq_true', decide_eq_false_iff_not, decide_eq_true_eq] at h
      obtain ⟨⟨h0, h2⟩, hd⟩ := h
      obtain ⟨l, hl, he⟩ := pairs_digits (w.length / 2) w (by omega) hd
      have hln : l ≠ [] := by
        intro e; subst e
        simp [hexD] at he
        subst he; simp at h0
      unfold unhexL at hu
      rw [if_neg h46, hl] at hu
      simp only at hu
      rw [if_neg] at hu
      · cases hu
      · intro hh
        rcases hh with hh | hh
        · exact hln hh
        · unfold hexL at hh; rw [if_neg hln] at hh; exact hh he
end Go.Proofs.YtadhkeboaapfcaaGreatDoor.HexMath
namespace Go.Proofs.YtadhkeboaapfcaaGreatDoor.LinW
open Go.RowKit OctMath HexMath
set_option maxRecDepth 100000
set_option linter.unusedSimpArgs false
set_option linter.unusedVariables false

theorem S_toList (l : List UInt8) : (S l).toList = l := by rw [ByteArray.toList_eq, S_list]
def Ext (w w' : World) : Prop := Below w.heap.size w w'
theorem Ext.refl (w : World) : Ext w w := Below.refl _ _
theorem Ext.trans {u v w : World} (h : Ext u v) (k : Ext v w) : Ext u w := Below.trans h (Below.mono k h.size)
theorem own_ext {B n : Nat} {e : TypeId} {v : Value} {xs : List Value} {w w' : World} (h : w.ownsRow B e 1 v n xs) (hR : Ext w w') : w'.ownsRow B e 1 v n xs := by
  refine ⟨h.1, ?_⟩
  rcases h.2 with hn | ⟨g, cap, cur, hv, hb, hg, rest⟩
  · exact .inl hn
  · exact .inr ⟨g, cap, cur, hv, hb, (Below.block hR g (Array.getElem?_eq_some_iff.1 hg).1).trans hg, rest⟩
theorem row1_ext {a : Option Addr} {vs : List Value} {w w' : World} (h : Row1 w a vs) (hR : Ext w w') : Row1 w' a vs := h.below hR
/-- a row of bytes of the call's own -/
abbrev Bytes (base : Nat) (v : Value) (l : List UInt8) (w : World) : Prop := w.ownsRow base 5 1 v l.length (l.map fun c => .int .u8 (c.toNat : Int))

theorem index_dig (n : Nat) (h : n < 16) (w : World) : (Instr.index 9 (.string { data := #[48, 49, 50, 51, 52, 53, 54, 55, 56, 57, 97, 98, 99, 100, 101, 102] }) (.int .u8 (n : Int))).run Tryz.prog w = .ok (.int .u8 ((dig n).toNat : Int)) w := by
  match n, h with
  | 0, _ => show _ = _; kernel_rfl
  | 1, _ => show _ = _; kernel_rfl
  | 2, _ => show _ = _; kernel_rfl
  | 3, _ => show _ = _; kernel_rfl
  | 4, _ => show _ = _; kernel_rfl
  | 5, _ => show _ = _; kernel_rfl
  | 6, _ => show _ = _; kernel_rfl
  | 7, _ => show _ = _; kernel_rfl
  | 8, _ => show _ = _; kernel_rfl
  | 9, _ => show _ = _; kernel_rfl
  | 10, _ => show _ = _; kernel_rfl
  | 11, _ => show _ = _; kernel_rfl
  | 12, _ => show _ = _; kernel_rfl
  | 13, _ => show _ = _; kernel_rfl
  | 14, _ => show _ = _; kernel_rfl
  | 15, _ => show _ = _; kernel_rfl
  | n + 16, h => exact absurd h (by omega)

theorem conv_nil (w : World) : (convert 61 9 (.slice none 0 0)).run Tryz.prog w = .ok (.string ⟨#[]⟩) w := by kernel_rfl
theorem bytes_conv {base : Nat} {v : Value} {l : List UInt8} {w : World} (h : Bytes base v l w) : (convert 61 9 v).run Tryz.prog w = .ok (.string (S l)) w := by
  obtain ⟨hl, h⟩ := h
  rcases h with ⟨rfl, h0⟩ | ⟨g, cap, cur, rfl, hb, hg, hc1, hc2, hcs, hcur⟩
  · have : l = [] := List.eq_nil_of_length_eq_zero h0
    subst this
    exact conv_nil w
  · refine bytes_string (P := Tryz.prog) w 61 5 9 Tryz.underlying61 Tryz.underlying5 Tryz.underlying9 g 0 cap l (fun i hi => ?_) l.length rfl
    unfold World.cell?
    rw [hg]
    have : cur[0 + i]? = (cur.toList.take (l.length * 1))[i]? := by
      rw [List.getElem?_take, if_pos (by omega)]; simp
    simp only [this, hcur]
    simp [hi]

theorem and_15 (n : Nat) (h : n < 256) : bits .and .u8 (n : Int) 15 = (n : Int) % 16 := by
  have h1 : (BitVec.ofInt 8 (n : Int)).toNat = n := by
    rw [BitVec.ofInt_natCast, BitVec.toNat_ofNat]; exact Nat.mod_eq_of_lt (by omega)
  have h2 : (BitVec.ofInt 8 (15 : Int)).toNat = 15 := by decide
  show IntKind.u8.wrap ((BitVec.ofInt 8 (n : Int) &&& BitVec.ofInt 8 (15 : Int)).toNat : Int) = _
  rw [BitVec.toNat_and, h1, h2]
  have h3 : n &&& 15 = n % 16 := Nat.and_two_pow_sub_one_eq_mod n 4
  rw [h3, IntKind.wrap_u8]; omega

set_option maxHeartbeats 1600000 in
theorem hex_any (l : List UInt8) (hl : l.length ≤ 1099511627776) (W : World) :
    Calls Tryz.prog 13 #[.string (S l)] W fun e w' => e = .returned (.string (S (hexL l))) ∧ Below W.heap.size W w' := by
  obtain ⟨i0, hi0, hz0, hz1, hz2⟩ := info_parts (show (Tryz.prog.info? 5).map (fun i => (i.zero, i.size, i.bytes)) = some (some (.int .u8 0), 1, 1) by kernel_rfl)
  have hsz := S_size l
  have htl := S_toList l
  by_cases h0 : l = []
  · subst h0
    go_enter Tryz.func13, Tryz.ntmps13
    go_wp2_with fail
    go_ret
    exact ⟨rfl, Below.refl _ _⟩
  have hem : l.isEmpty = false := by cases l with | nil => exact absurd rfl h0 | cons _ _ => rfl
  have HL : Hid (hexL l = hexD l) := by show _ = _; unfold hexL; rw [if_neg h0]
  have HI0 := Lib.hid hi0
  have HZ0 := Lib.hid hz0
  have HZ1 := Lib.hid hz1
  have HZ2 := Lib.hid hz2
  clear hi0 hz0 hz1 hz2 h0
  go_enter Tryz.func13, Tryz.ntmps13
  go_wp2_with fail
  clear htl hem
  go_loopw [3, 9] (fun v i wr => ∃ k : Nat, k ≤ l.length ∧ i = .int .i64 k ∧ Hid (Bytes W.heap.size v (hexD (l.take k)) wr) ∧ Hid (Below W.heap.size W wr)) (fun _ i _ => l.length - (intOf i).toNat)
  case atStart => exact ⟨0, by omega, rfl, ⟨rfl, .inl ⟨rfl, rfl⟩⟩, Below.refl _ _⟩
  case round =>
    obtain ⟨k, hk, rfl, HTX, HB⟩ := hrel
    by_cases hlt : k < l.length
    · have hi : k < (S l).size := by rw [hsz]; exact hlt
      have hget : (S l)[k] = l[k] := rfl
      have hstep : hexD (l.take (k + 1)) = hexD (l.take k) ++ hexB l[k] := by rw [List.take_succ_eq_append_getElem hlt, hexD_snoc]; rfl
      generalize l[k] = c at *
      have HST := Lib.hid hstep
      have hc := c.toNat_lt
      clear hstep
      have hd1 : ∀ w : World, (Instr.index 9 (.string { data := #[48, 49, 50, 51, 52, 53, 54, 55, 56, 57, 97, 98, 99, 100, 101, 102] }) (.int .u8 ((c.toNat : Int) / 16))).run Tryz.prog w = .ok (.int .u8 ((dig (c.toNat / 16)).toNat : Int)) w := fun w => index_dig (c.toNat / 16) (by omega) w
      have hd2 : ∀ w : World, (Instr.index 9 (.string { data := #[48, 49, 50, 51, 52, 53, 54, 55, 56, 57, 97, 98, 99, 100, 101, 102] }) (.int .u8 ((c.toNat : Int) % 16))).run Tryz.prog w = .ok (.int .u8 ((dig (c.toNat % 16)).toNat : Int)) w := fun w => index_dig (c.toNat % 16) (by omega) w
      have hand := and_15 c.toNat hc
      go_wp2_with fail
      refine Grow.wp_region_g 12 [none, none, none, none, none, none, none, none, none, none, none,
        some (.inr fun v w => ∃ g, v = .slice (some ⟨g, 0, none⟩) 2 2 ∧ Row1 w (some ⟨g, 0, none⟩) [.int .u8 ((dig (c.toNat / 16)).toNat : Int), .int .u8 ((dig (c.toNat % 16)).toNat : Int)])] Ext (by kernel_rfl) (by kernel_rfl) (by kernel_rfl) Ext.refl (fun _ _ _ => Ext.trans) ?_ ?_
      · intro K hK Y hY v w w' hR h
        simp only [List.mem_cons, List.not_mem_nil, or_false] at hK
        rcases hK with rfl | rfl | rfl | rfl | rfl | rfl | rfl | rfl | rfl | rfl | rfl | rfl <;> simp only [reduceCtorEq, Option.some.injEq, Sum.inr.injEq] at hY
        subst hY; obtain ⟨g, rfl, ho⟩ := h; exact ⟨g, rfl, row1_ext ho hR⟩
      simp only [List.take_succ_cons, List.take_zero, List.drop_succ_cons, List.drop_zero]
      iterate 11 (
        refine Grow.g_det rfl ?_
        apply Exists.intro
        refine ⟨fun w hw hF => ?_, ?_⟩
        · clear hF
          go_simp
          exact ⟨rfl, Ext.refl _⟩
        simp only [Act.put, List.setIfInBounds_toArray, List.set_cons_zero, List.set_cons_succ])
      refine Grow.g_new rfl (fun w2 hw hF => ?_) (fun v => ?_)
      · clear hF
        go_simp
        refine ⟨fun i hi => ⟨_, _, rfl, ?_⟩, (Below.refl _ _).alloc (Nat.le_refl _) _⟩
        rw [World.cell?_alloc_new]
        match i, hi with
        | 0, _ => rfl
        | 1, _ => rfl
      simp only [Act.put, List.setIfInBounds_toArray, List.set_cons_zero, List.set_cons_succ, Grow.addF]
      refine Grow.g_nil fun w3 hw3 hF => ?_
      obtain ⟨g5, rfl, hrow5⟩ := hF _ (List.Mem.head _)
      clear hF hd1 hd2 hand hget hi
      have HB3 : Hid (Below W.heap.size W w3) := HB.out.drew.trans (Below.mono hw3 HB.out.drew.size)
      have HOWN : Hid (w3.ownsRow W.heap.size 5 1 u3 (hexD (l.take k)).length ((hexD (l.take k)).map fun c => .int .u8 (c.toNat : Int))) := own_ext (w := wr.drew) HTX.out hw3
      have HROW := Lib.hid hrow5
      have hlk := hexD_length (l.take k)
      rw [List.length_take] at hlk
      have hle : (hexD (l.take k)).length ≤ 2199023255552 := by omega
      clear hw3 hrow5 HB HTX hlk
      refine wpList_append_row rfl (.tmp 12) (.tmp 23) 61 rfl W.heap.size 5 i0 (.int .u8 0) 1 Tryz.underlying61 HI0.out HZ0.out HZ1.out HZ2.out rfl u3 (hexD (l.take k)).length _ rfl HOWN.out (some ⟨g5, 0, none⟩) 2 2 [.int .u8 ((dig (c.toNat / 16)).toNat : Int), .int .u8 ((dig (c.toNat % 16)).toNat : Int)] rfl rfl HROW.out ?c2 ?c3 ?c4 ?c5 ?_
      case c2 => intro u hu; simp at hu; rcases hu with rfl | rfl <;> rfl
      case c3 => unfold maxLen; omega
      case c4 => omega
      case c5 => exact HB3.out.size
      intro v6 w4 hown4 hg4
      have HB4 : Hid (Below W.heap.size W w4) := HB3.out.grown hg4 HB3.out.size (ownBlock_of_own HOWN.out)
      have HO4 : Hid (Bytes W.heap.size v6 (hexD (l.take (k + 1))) w4) := by
        show w4.ownsRow _ _ _ _ (hexD (l.take (k + 1))).length _
        rw [HST.out, List.length_append, List.map_append]
        exact hown4
      clear hown4 hg4 HB3 HOWN HROW hle
      repeat go_step
      go_wp2_with fail
      go_roundw
      case rel => exact ⟨k + 1, by omega, by go_num, HO4, HB4⟩
      case measure => simp [intOf]; omega
    · have ek : k = l.length := by omega
      subst ek
      rw [List.take_length] at HTX
      have hstr := bytes_conv HTX.out
      have HSTR := Lib.hid hstr
      clear hstr
      go_wp2_with fail
      rw [HSTR.out]
      go_wp2_with fail
      go_ret
      rw [HL.out]
      exact ⟨rfl, HB.out⟩

theorem cut_dig (n : Nat) (h : n < 16) : ({ data := #[48, 49, 50, 51, 52, 53, 54, 55, 56, 57, 97, 98, 99, 100, 101, 102] } : ByteArray).extract n (n + 1) = S [dig n] := by
  match n, h with
  | 0, _ => rfl
  | 1, _ => rfl
  | 2, _ => rfl
  | 3, _ => rfl
  | 4, _ => rfl
  | 5, _ => rfl
  | 6, _ => rfl
  | 7, _ => rfl
  | 8, _ => rfl
  | 9, _ => rfl
  | 10, _ => rfl
  | 11, _ => rfl
  | 12, _ => rfl
  | 13, _ => rfl
  | 14, _ => rfl
  | 15, _ => rfl
  | n + 16, h => exact absurd h (by omega)
theorem slice_dig (n : Nat) (h : n < 16) (w : World) : (Instr.slice 9 (.string { data := #[48, 49, 50, 51, 52, 53, 54, 55, 56, 57, 97, 98, 99, 100, 101, 102] }) (some (.int .i64 (n : Int))) (some (.int .i64 ((n : Int) + 1))) none).run Tryz.prog w = .ok (.string (S [dig n])) w := by
  match n, h with
  | 0, _ => show _ = _; kernel_rfl
  | 1, _ => show _ = _; kernel_rfl
  | 2, _ => show _ = _; kernel_rfl
  | 3, _ => show _ = _; kernel_rfl
  | 4, _ => show _ = _; kernel_rfl
  | 5, _ => show _ = _; kernel_rfl
  | 6, _ => show _ = _; kernel_rfl
  | 7, _ => show _ = _; kernel_rfl
  | 8, _ => show _ = _; kernel_rfl
  | 9, _ => show _ = _; kernel_rfl
  | 10, _ => show _ = _; kernel_rfl
  | 11, _ => show _ = _; kernel_rfl
  | 12, _ => show _ = _; kernel_rfl
  | 13, _ => show _ = _; kernel_rfl
  | 14, _ => show _ = _; kernel_rfl
  | 15, _ => show _ = _; kernel_rfl
  | n + 16, h => exact absurd h (by omega)

set_option maxHeartbeats 1600000 in
theorem rhex_any (l : List UInt8) (hl : l.length ≤ 1073741824) (W : World) :
    Calls Tryz.prog 15 #[.string (S l)] W fun e w' => e = .returned (.string (S (hexL l))) ∧ Drawn W w' := by
  have hsz := S_size l
  have htl := S_toList l
  by_cases h0 : l = []
  · subst h0
    go_enter Tryz.func15, Tryz.ntmps15
    go_wp2_with fail
    go_ret
    exact ⟨rfl, Drawn.refl _⟩
  have hem : l.isEmpty = false := by cases l with | nil => exact absurd rfl h0 | cons _ _ => rfl
  have HL : Hid (hexL l = hexD l) := by show _ = _; unfold hexL; rw [if_neg h0]
  clear h0
  go_enter Tryz.func15, Tryz.ntmps15
  go_wp2_with fail
  clear htl hem
  have HCD := Lib.hid cut_dig
  have HSD := Lib.hid slice_dig
  have hD16 : ({ data := #[48, 49, 50, 51, 52, 53, 54, 55, 56, 57, 97, 98, 99, 100, 101, 102] } : ByteArray).size = 16 := rfl
  have HD16 := Lib.hid hD16
  clear hD16
  generalize ({ data := #[48, 49, 50, 51, 52, 53, 54, 55, 56, 57, 97, 98, 99, 100, 101, 102] } : ByteArray) = D at *
  go_loopw [4, 5] (fun s i wr => ∃ k : Nat, k ≤ l.length ∧ i = .int .i64 k ∧ s = .string (S (hexD (l.take k))) ∧ Hid (Drawn W wr)) (fun _ i _ => l.length - (intOf i).toNat)
  case atStart => exact ⟨0, by omega, rfl, rfl, Drawn.refl _⟩
  case round =>
    obtain ⟨k, hk, rfl, rfl, HD⟩ := hrel
    by_cases hlt : k < l.length
    · have hi : k < (S l).size := by rw [hsz]; exact hlt
      have hget : (S l)[k] = l[k] := rfl
      have hstep : hexD (l.take (k + 1)) = hexD (l.take k) ++ hexB l[k] := by rw [List.take_succ_eq_append_getElem hlt, hexD_snoc]; rfl
      generalize l[k] = c at *
      have HST := Lib.hid hstep
      have hc := c.toNat_lt
      have hlk := hexD_length (l.take k)
      rw [List.length_take] at hlk
      have hs1 : (S (hexD (l.take k))).size ≤ 2147483648 := by rw [S_size]; omega
      clear hstep hlk
      go_wp2_with fail
      go_quiet (fail)
      go_wp2_with fail
      have hd1 := fun w => HSD.out (c.toNat / 16) (by omega) w
      have hd2 := fun w => HSD.out (c.toNat % 16) (by omega) w
      have he1 := HCD.out (c.toNat / 16) (by omega)
      have he2 := HCD.out (c.toNat % 16) (by omega)
      have hDs := HD16.out
      have ha : ((c.toNat : Int) / 16) = ((c.toNat / 16 : Nat) : Int) := by omega
      have hb : ((c.toNat : Int) % 16) = ((c.toNat % 16 : Nat) : Int) := by omega
      have ha16 : c.toNat / 16 < 16 := by omega
      have hb16 : c.toNat % 16 < 16 := by omega
      have hcat1 : Hid (S (hexD (l.take k)) ++ S [dig (c.toNat / 16)] = S (hexD (l.take k) ++ [dig (c.toNat / 16)])) := S_append _ _
      have hcat2 : Hid (S (hexD (l.take k) ++ [dig (c.toNat / 16)]) ++ S [dig (c.toNat % 16)] = S (hexD (l.take (k + 1)))) := by
        show _ = _
        rw [S_append, HST.out, List.append_assoc]; rfl
      have hs2 : (S (hexD (l.take k) ++ [dig (c.toNat / 16)])).size ≤ 2147483649 := by rw [S_size, List.length_append]; rw [S_size] at hs1; simp; omega
      have hs3 : (S [dig (c.toNat / 16)]).size ≤ 1 := by rw [S_size]; simp
      have hs4 : (S [dig (c.toNat % 16)]).size ≤ 1 := by rw [S_size]; simp
      have HD2 : Hid (Drawn W (wr.drewN nq)) := HD.out.drewN nq
      generalize wr.drewN nq = w2 at *
      rw [ha, hb]
      generalize c.toNat / 16 = a at *
      generalize c.toNat % 16 = b at *
      clear ha hb hc hi hget
      have hw1 : IntKind.i64.wrap ((a : Int) + 1) = (a : Int) + 1 := IntWalk.i64_in _ (by omega)
      have hw2 : IntKind.i64.wrap ((b : Int) + 1) = (b : Int) + 1 := IntWalk.i64_in _ (by omega)
      rw [show S (hexD (l.take k) ++ [dig a]) = S (hexD (l.take k)) ++ S [dig a] from hcat1.out.symm] at hcat2 hs2
      generalize S (hexD (l.take k)) = s1 at *
      generalize S [dig a] = x1 at *
      generalize S [dig b] = x2 at *
      clear hcat1
      go_quiet (fail)
      rw [hcat2.out]
      have HD3 : Hid (Drawn W (w2.drewN nq)) := HD2.out.drewN nq
      clear hd1 hd2 he1 he2 hw1 hw2 hs2 hs3 hs4 hcat2 HD2
      generalize w2.drewN nq = w3 at *
      go_wp2_with fail
      go_roundw
      case rel => exact ⟨k + 1, by omega, by go_num, rfl, HD3⟩
      case measure => simp [intOf]; omega
    · have ek : k = l.length := by omega
      subst ek
      rw [List.take_length]
      go_wp2_with fail
      go_ret
      rw [HL.out]
      exact ⟨rfl, HD.out⟩
end Go.Proofs.YtadhkeboaapfcaaGreatDoor.LinW
namespace Go.Proofs.YtadhkeboaapfcaaGreatDoor.EvW
open Go.RowKit OctMath
set_option linter.unusedVariables false
set_option linter.unusedSimpArgs false
set_option maxRecDepth 100000

/-- the verbs' names -/
def verbN (k : Nat) : List UInt8 := match k with
  | 1 => [67, 82, 69, 65, 84, 69]
  | 2 => [83, 69, 78, 68]
  | 3 => [76, 65, 84, 69, 82]
  | 4 => [67, 65, 78, 67, 69, 76]
  | 5 => [80, 85, 76, 76]
  | 6 => [67, 79, 77, 77, 73, 84]
  | 7 => [78, 65, 67, 75]
  | 8 => [65, 67, 75]
  | 9 => [75, 69, 89]
  | 10 => [83, 84, 65, 84, 85, 83]
  | 11 => [80, 73, 67, 75]
  | 12 => [80, 65, 83, 83]
  | 13 => [70, 85, 83, 69]
  | 14 => [67, 82, 65, 83, 72]
  | 15 => [83, 69, 84, 84, 76, 69]
  | _ => []
/-- the verbs' letters -/
def verbL (k : Nat) : List UInt8 := match k with
  | 1 => [84, 78]
  | 2 => [84, 81, 116, 107, 98, 115]
  | 3 => [78, 84, 81, 116, 107, 98, 115]
  | 4 => [78]
  | 5 => [84, 81, 65, 78, 102]
  | 6 => [71, 84, 81, 65]
  | 7 => [71, 84, 81, 65, 115]
  | 8 => [71, 84, 81, 65]
  | 9 => [84, 120, 78]
  | 10 => [78]
  | 11 => [78]
  | 12 => [78]
  | 13 => [78]
  | 14 => [112, 76, 98]
  | _ => []
def verbCells : Array Value := #[.string ⟨#[]⟩, .string ⟨#[]⟩, .string ⟨#[67, 82, 69, 65, 84, 69]⟩, .string ⟨#[84, 78]⟩, .string ⟨#[83, 69, 78, 68]⟩, .string ⟨#[84, 81, 116, 107, 98, 115]⟩, .string ⟨#[76, 65, 84, 69, 82]⟩, .string ⟨#[78, 84, 81, 116, 107, 98, 115]⟩, .string ⟨#[67, 65, 78, 67, 69, 76]⟩, .string ⟨#[78]⟩, .string ⟨#[80, 85, 76, 76]⟩, .string ⟨#[84, 81, 65, 78, 102]⟩, .string ⟨#[67, 79, 77, 77, 73, 84]⟩, .string ⟨#[71, 84, 81, 65]⟩, .string ⟨#[78, 65, 67, 75]⟩, .string ⟨#[71, 84, 81, 65, 115]⟩, .string ⟨#[65, 67, 75]⟩, .string ⟨#[71, 84, 81, 65]⟩, .string ⟨#[75, 69, 89]⟩, .string ⟨#[84, 120, 78]⟩, .string ⟨#[83, 84, 65, 84, 85, 83]⟩, .string ⟨#[78]⟩, .string ⟨#[80, 73, 67, 75]⟩, .string ⟨#[78]⟩, .string ⟨#[80, 65, 83, 83]⟩, .string ⟨#[78]⟩, .string ⟨#[70, 85, 83, 69]⟩, .string ⟨#[78]⟩, .string ⟨#[67, 82, 65, 83, 72]⟩, .string ⟨#[112, 76, 98]⟩, .string ⟨#[83, 69, 84, 84, 76, 69]⟩, .string ⟨#[]⟩]
theorem verb_cells (k : Nat) (h : k < 16) : verbCells[2 * k]? = some (.string (S (verbN k))) ∧ verbCells[2 * k + 1]? = some (.string (S (verbL k))) := by
  match k, h with
  | 0, _ => exact ⟨rfl, rfl⟩
  | 1, _ => exact ⟨rfl, rfl⟩
  | 2, _ => exact ⟨rfl, rfl⟩
  | 3, _ => exact ⟨rfl, rfl⟩
  | 4, _ => exact ⟨rfl, rfl⟩
  | 5, _ => exact ⟨rfl, rfl⟩
  | 6, _ => exact ⟨rfl, rfl⟩
  | 7, _ => exact ⟨rfl, rfl⟩
  | 8, _ => exact ⟨rfl, rfl⟩
  | 9, _ => exact ⟨rfl, rfl⟩
  | 10, _ => exact ⟨rfl, rfl⟩
  | 11, _ => exact ⟨rfl, rfl⟩
  | 12, _ => exact ⟨rfl, rfl⟩
  | 13, _ => exact ⟨rfl, rfl⟩
  | 14, _ => exact ⟨rfl, rfl⟩
  | 15, _ => exact ⟨rfl, rfl⟩
  | n + 16, h => exact absurd h (by omega)
theorem verbL_ascii (k : Nat) : ∀ c ∈ verbL k, c.toNat < 128 := by
  unfold verbL
  split <;> decide
theorem verbL_len (k : Nat) : (verbL k).length ≤ 8 := by
  unfold verbL
  split <;> decide
set_option maxHeartbeats 1600000 in
theorem verbs_any (W : World) :
    Calls Tryz.prog 19 #[] W fun e w' => e = .returned (.slice (some ⟨W.heap.size, 0, none⟩) 16 16) ∧ w' = W.alloc (.cells verbCells 48) := by
  go_enter Tryz.func19, Tryz.ntmps19
  go_wp2_with fail
  go_ret
  exact ⟨rfl, rfl⟩
end Go.Proofs.YtadhkeboaapfcaaGreatDoor.EvW
namespace Go.Proofs.YtadhkeboaapfcaaGreatDoor.GrowN
open Go Go.Proofs.YtadhkeboaapfcaaGreatDoor.Grow

abbrev Kind := Option (Value ⊕ (List (Option Value) → Value → World → Prop))
/-- what an operation looks at -/
def look (ops : Array Oper) (a : Act) (o : Oper) : List (Option Value) := (o.looksAt ops).map fun s => a.tmps[s]?
def rv (o : Oper) (u : Value) : Value := if o.dst.isSome then u else undef
def val (a : Act) (o : Oper) : Value := match o.dst with | some d => slot a d | none => undef
section
variable (P : Program) (ops : Array Oper) (R : World → World → Prop) (w1 : World)
def depF (F : List (Nat × (World → Prop))) (o : Oper) (w : World) : Prop := ∀ p ∈ F, bound o p.1 = true → p.2 w
/-- the walk in the order of the text, from operation i -/
def wpG (Fin : Act → World → Prop) : Nat → List Oper → List Kind → List (Nat × (World → Prop)) → Act → Prop
  | _, [], _, F, a => ∀ w, R w1 w → (∀ p ∈ F, p.2 w) → Fin a w
  | i, o :: rest, Ys, F, a =>
    if Region.wanted o (yielded ops a.tmps) then
      match Ys.headD none with
      | none => ∃ v, (∀ w, R w1 w → depF F o w → detAt P R o a w v) ∧ wpG Fin (i + 1) rest Ys.tail F (a.put o.dst v)
      | some (.inl c) => (∀ w, R w1 w → depF F o w → growAt P R o a w fun u _ => u = c) ∧ wpG Fin (i + 1) rest Ys.tail F (a.put o.dst c)
      | some (.inr Y) => (∀ w, R w1 w → depF F o w → growAt P R o a w fun u => Y (look ops a o) (rv o u)) ∧ ∀ v, wpG Fin (i + 1) rest Ys.tail ((i, Y (look ops a o) v) :: F) (a.put o.dst v)
    else wpG Fin (i + 1) rest Ys.tail F (a.put o.dst undef)
end

section
variable {P : Program} {ops : Array Oper} {R : World → World → Prop} {w1 : World}
section
variable (P : Program) (ops : Array Oper) (R : World → World → Prop) (w1 : World) (a0 : Act) (n : Nat) (kind : Nat → Kind)

def GoodF (a : Act) (k : Nat) (o : Oper) (F : List (Nat × (World → Prop))) : Prop := ∀ p ∈ F, bound o p.1 = true →
  ∃ oj Y bj, p.1 < k ∧ ops[p.1]? = some oj ∧ kind p.1 = some (.inr Y) ∧ Agree ops a0 a bj p.1 oj ∧ Region.wanted oj (yielded ops bj.tmps) = true ∧ p.2 = Y (look ops bj oj) (val a oj)

/-- what holds of an operation that is listed -/
def Holds (a : Act) (w : World) (k : Nat) (o : Oper) (b : Act) : Prop :=
  if Region.wanted o (yielded ops b.tmps) = true then
    match kind k with
    | none => ∀ v F, GoodF ops a0 kind a k o F → (∀ w', R w1 w' → depF F o w' → detAt P R o b w' v) → ∀ d, o.dst = some d → slot a d = v
    | some (.inl c) => ∀ d, o.dst = some d → slot a d = c
    | some (.inr Y) => Y (look ops b o) (val a o) w
  else ∀ d, o.dst = some d → slot a d = undef

structure Inv (listed : Array Bool) (a : Act) (w : World) : Prop where
  size : listed.size = ops.size
  reach : R w1 w
  defs : a.defers = a0.defers
  tsz : a.tmps.size = a0.tmps.size
  closed : ∀ k o, ops[k]? = some o → L listed k → ∀ e ∈ o.after, Region.binds .any e = true → L listed e.on
  slots : ∀ s, (∀ k, L listed k → D ops k ≠ some s) → a.tmps[s]? = a0.tmps[s]?
  head : ∀ k, L listed k → k < n
  vals : ∀ k o, ops[k]? = some o → L listed k → ∀ b, Agree ops a0 a b k o → Holds P ops R w1 a0 kind a w k o b
end

variable {a0 : Act} {n : Nat} {kind : Nat → Kind}

theorem depF_of {listed : Array Bool} {a : Act} {w : World} (I : Inv P ops R w1 a0 n kind listed a w) {k : Nat} {o : Oper}
    (hall : ∀ e ∈ o.after, Region.binds .any e = true → L listed e.on) {F : List (Nat × (World → Prop))} (hF : GoodF ops a0 kind a k o F) : depF F o w := by
  intro p hp hl
  obtain ⟨oj, Y, bj, hj, hoj, hk', hb, hw, he⟩ := hF p hp hl
  obtain ⟨e, hem, heb, heo⟩ := bound_spec hl
  have hlj : L listed p.1 := heo ▸ hall e hem heb
  have := I.vals p.1 oj hoj hlj bj hb
  unfold Holds at this
  rw [if_pos hw, hk'] at this
  rw [he]; exact this

theorem val_put {a : Act} {o ok : Oper} {v : Value} (h : ∀ d, ok.dst = some d → o.dst ≠ some d) : val (a.put o.dst v) ok = val a ok := by
  unfold val
  cases hd : ok.dst with
  | none => rfl
  | some d => exact put_slot_ne (h d hd)

/-- one operation more is listed -/
theorem Inv.step (C : Chk ops n) (htr : ∀ u v w : World, R u v → R v w → R u w) (hstab : ∀ k Y, kind k = some (.inr Y) → ∀ l v w w', R w w' → Y l v w → Y l v w')
    {listed : Array Bool} {a : Act} {w w' : World} (I : Inv P ops R w1 a0 n kind listed a w) {i : Nat} {o : Oper} (hin : i < n) (ho : ops[i]? = some o) (hun : ¬ L listed i)
    (hall : ∀ e ∈ o.after, Region.binds .any e = true → L listed e.on) {v : Value} (hR : R w w')
    (hv : ∀ b, Agree ops a0 (a.put o.dst v) b i o → Holds P ops R w1 a0 kind (a.put o.dst v) w' i o b) :
    Inv P ops R w1 a0 n kind (listed.setIfInBounds i true) (a.put o.dst v) w' := by
  have hi : i < listed.size := by rw [I.size]; exact (Array.getElem?_eq_some_iff.1 ho).1
  have hDi : D ops i = o.dst := by simp [D, ho]
  -- a slot that an operation listed before looks at, written below it
  have keep : ∀ k ok, ops[k]? = some ok → L listed k → ∀ s ∈ ok.looksAt ops, ∀ j, j < k → D ops j = some s → o.dst ≠ some s := by
    intro k ok hok hk s hs j hj hd he
    have hkn := I.head k hk
    have : j = i := C.uniq j i s (by omega) hin hd (by rw [hDi, he])
    subst this
    exact hun (dep_listed C hkn hok (I.closed k ok hok hk) hs hj hd)
  have agr : ∀ k ok, ops[k]? = some ok → L listed k → ∀ b, Agree ops a0 (a.put o.dst v) b k ok ↔ Agree ops a0 a b k ok := by
    intro k ok hok hk b
    constructor
    · intro h; exact ⟨fun s hs j hj hd => by rw [h.1 s hs j hj hd, put_get_ne (keep k ok hok hk s hs j hj hd)], h.2⟩
    · intro h; exact ⟨fun s hs j hj hd => by rw [h.1 s hs j hj hd, put_get_ne (keep k ok hok hk s hs j hj hd)], h.2⟩
  refine ⟨by simpa using I.size, htr _ _ _ I.reach hR, put_defs.trans I.defs, put_size.trans I.tsz, ?_, ?_, ?_, ?_⟩
  · intro k ok hok hk e he hb
    rcases (getD_set hi).1 hk with rfl | hk
    · rw [ho] at hok; cases hok; exact (getD_set hi).2 (.inr (hall e he hb))
    · exact (getD_set hi).2 (.inr (I.closed k ok hok hk e he hb))
  · intro s hs
    rw [put_get_ne (by rw [← hDi]; exact hs i ((getD_set hi).2 (.inl rfl)))]
    exact I.slots s fun k hk => hs k ((getD_set hi).2 (.inr hk))
  · intro k hk
    rcases (getD_set hi).1 hk with rfl | hk
    · exact hin
    · exact I.head k hk
  · intro k ok hok hk b hb
    rcases (getD_set hi).1 hk with rfl | hk
    · rw [ho] at hok; cases hok; exact hv b hb
    · have hki : k ≠ i := fun e => hun (e ▸ hk)
      have ne : ∀ k' ok', ops[k']? = some ok' → L listed k' → ∀ d, ok'.dst = some d → o.dst ≠ some d := fun k' ok' hok' hk' d hd e =>
        (fun (e2 : k' = i) => hun (e2 ▸ hk')) (C.uniq k' i d (I.head k' hk') hin (by simp [D, hok', hd]) (by rw [hDi, e]))
      have h := I.vals k ok hok hk b ((agr k ok hok hk b).1 hb)
      unfold Holds at h ⊢
      split
      · rename_i hw
        rw [if_pos hw] at h
        cases hkd : kind k with
        | none =>
          rw [hkd] at h
          intro v' F hF hspec d hd
          rw [put_slot_ne (ne k ok hok hk d hd)]
          refine h v' F (fun p hp hl => ?_) hspec d hd
          obtain ⟨oj, Y, bj, hj, hoj, hkj, hbj, hwj, he⟩ := hF p hp hl
          obtain ⟨e, hem, heb, heo⟩ := bound_spec hl
          have hlj : L listed p.1 := heo ▸ I.closed k ok hok hk e hem heb
          exact ⟨oj, Y, bj, hj, hoj, hkj, (agr p.1 oj hoj hlj bj).1 hbj, hwj, by rw [he, val_put (ne p.1 oj hoj hlj)]⟩
        | some x =>
          rw [hkd] at h
          cases x with
          | inl c => exact fun d hd => by rw [put_slot_ne (ne k ok hok hk d hd)]; exact h d hd
          | inr Y =>
            show Y _ (val _ ok) w'
            rw [val_put (ne k ok hok hk)]
            exact hstab k Y hkd _ _ _ _ hR h
      · rename_i hw
        rw [if_neg hw] at h
        exact fun d hd => by rw [put_slot_ne (ne k ok hok hk d hd)]; exact h d hd

section
variable (P : Program) (ops : Array Oper) (R : World → World → Prop) (w1 : World) (a0 : Act) (n : Nat) (kind : Nat → Kind)
/-- a frame of the walk in the order of the text that goes with what has been done -/
structure Path (listed : Array Bool) (a : Act) (k : Nat) (b : Act) (F : List (Nat × (World → Prop))) : Prop where
  defs : b.defers = a0.defers
  tsz : b.tmps.size = a0.tmps.size
  other : ∀ s, (∀ j, j < k → D ops j ≠ some s) → b.tmps[s]? = a0.tmps[s]?
  same : ∀ j, j < k → L listed j → ∀ d, D ops j = some d → b.tmps[d]? = a.tmps[d]?
  facts : ∀ p ∈ F, ∃ oj Y v bj, p.1 < k ∧ ops[p.1]? = some oj ∧ kind p.1 = some (.inr Y) ∧ p.2 = Y (look ops bj oj) v ∧
    (L listed p.1 → v = val a oj ∧ Agree ops a0 a bj p.1 oj ∧ Region.wanted oj (yielded ops bj.tmps) = true)

def Spec (a : Act) (i : Nat) (o : Oper) : Prop := ∃ b F, Agree ops a0 a b i o ∧ GoodF ops a0 kind a i o F ∧ (Region.wanted o (yielded ops b.tmps) = true →
  match kind i with
  | none => ∃ v, ∀ w', R w1 w' → depF F o w' → detAt P R o b w' v
  | some (.inl c) => ∀ w', R w1 w' → depF F o w' → growAt P R o b w' fun u _ => u = c
  | some (.inr Y) => ∀ w', R w1 w' → depF F o w' → growAt P R o b w' fun u => Y (look ops b o) (rv o u))
end

theorem Path.agree (C : Chk ops n) {listed : Array Bool} {a b : Act} {F : List (Nat × (World → Prop))} {k : Nat} {o : Oper} (hp : Path ops a0 kind listed a k b F) (hk : k < n) (ho : ops[k]? = some o)
    (hall : ∀ e ∈ o.after, Region.binds .any e = true → L listed e.on) : Agree ops a0 a b k o ∧ GoodF ops a0 kind a k o F := by
  refine ⟨⟨fun s hs j hj hd => hp.same j hj (dep_listed C hk ho hall hs hj hd) s hd, fun s _ hn => hp.other s hn⟩, fun p hpF hl => ?_⟩
  obtain ⟨oj, Y, v, bj, hj, hoj, hkj, he, hL⟩ := hp.facts p hpF
  obtain ⟨e, hem, heb, heo⟩ := bound_spec hl
  obtain ⟨hv, hbj, hw⟩ := hL (heo ▸ hall e hem heb)
  exact ⟨oj, Y, bj, hj, hoj, hkj, hbj, hw, by rw [he, hv]⟩

theorem Path.step (C : Chk ops n) {listed : Array Bool} {a b : Act} {w : World} {F : List (Nat × (World → Prop))} {k : Nat} {o : Oper} (I : Inv P ops R w1 a0 n kind listed a w)
    (hin : ∀ o d, o ∈ ops → o.dst = some d → d < a0.tmps.size) (hp : Path ops a0 kind listed a k b F) (hk : k < n) (ho : ops[k]? = some o) (v : Value)
    (hv : L listed k → ∀ d, o.dst = some d → v = slot a d) : Path ops a0 kind listed a (k + 1) (b.put o.dst v) F := by
  have hDk : D ops k = o.dst := by simp [D, ho]
  refine ⟨put_defs.trans hp.defs, put_size.trans hp.tsz, fun s hs => ?_, fun j hj hL d hd => ?_, fun p hpF => ?_⟩
  · rw [put_get_ne (by rw [← hDk]; exact hs k (by omega))]
    exact hp.other s fun j hj => hs j (by omega)
  · by_cases e : j = k
    · subst e
      rw [hDk] at hd
      have hd1 := hin o d (Array.mem_of_getElem? ho) hd
      have := hv hL d hd
      rw [hd]
      have h1 : d < b.tmps.size := by rw [hp.tsz]; exact hd1
      have h2 : d < a.tmps.size := by rw [I.tsz]; exact hd1
      simp only [Act.put, Array.getElem?_setIfInBounds_self_of_lt h1, this, slot]
      simp [h2]
    · rw [put_get_ne fun e' => e (C.uniq j k d (I.head j hL) hk hd (by rw [hDk, e']))]
      exact hp.same j (by omega) hL d hd
  · obtain ⟨oj, Y, v, bj, hj, h⟩ := hp.facts p hpF
    exact ⟨oj, Y, v, bj, by omega, h⟩

theorem Path.fact {listed : Array Bool} {a b b' : Act} {F : List (Nat × (World → Prop))} {k : Nat} {o : Oper} (hp : Path ops a0 kind listed a (k + 1) b' F) (ho : ops[k]? = some o) {Y : List (Option Value) → Value → World → Prop}
    (hY : kind k = some (.inr Y)) (v : Value) (hv : L listed k → v = val a o ∧ Agree ops a0 a b k o ∧ Region.wanted o (yielded ops b.tmps) = true) :
    Path ops a0 kind listed a (k + 1) b' ((k, Y (look ops b o) v) :: F) := by
  refine ⟨hp.defs, hp.tsz, hp.other, hp.same, fun p hpF => ?_⟩
  rcases List.mem_cons.1 hpF with rfl | hpF
  · exact ⟨o, Y, v, b, by show k < k + 1; omega, ho, hY, rfl, hv⟩
  · exact hp.facts p hpF

theorem descend (C : Chk ops n) (hin : ∀ o d, o ∈ ops → o.dst = some d → d < a0.tmps.size) {Fin : Act → World → Prop} {listed : Array Bool} {a : Act} {w : World} (I : Inv P ops R w1 a0 n kind listed a w) :
    ∀ (l : List Oper) (k : Nat) (Ks : List Kind) (F : List (Nat × (World → Prop))) (b : Act), k + l.length = n → (∀ j, j < l.length → l[j]? = ops[k + j]?) → (∀ j, Ks.getD j none = kind (k + j)) →
      Path ops a0 kind listed a k b F → wpG P ops R w1 Fin k l Ks F b →
      (∀ i o, k ≤ i → i < n → ops[i]? = some o → (∀ e ∈ o.after, Region.binds .any e = true → L listed e.on) → Spec P ops R w1 a0 kind a i o) ∧
      (∃ b F, Path ops a0 kind listed a n b F ∧ ∀ w, R w1 w → (∀ p ∈ F, p.2 w) → Fin b w)
  | [], k, Ks, F, b, hn, _, _, hp, h => by
    have : k = n := by simpa using hn
    subst this
    exact ⟨fun i o h1 h2 => by omega, b, F, hp, h⟩
  | o :: l, k, Ks, F, b, hn, hl, hK, hp, h => by
    simp only [List.length_cons] at hn
    have ho : ops[k]? = some o := by have := hl 0 (by simp); simpa using this.symm
    have hk : k < n := by omega
    have hl' : ∀ j, j < l.length → l[j]? = ops[(k + 1) + j]? := fun j hj => by
      have := hl (j + 1) (by simp; omega)
      rw [show k + 1 + j = k + (j + 1) by omega, ← this]; rfl
    have hK' : ∀ j, Ks.tail.getD j none = kind ((k + 1) + j) := fun j => by
      have := hK (j + 1)
      rw [show k + 1 + j = k + (j + 1) by omega, ← this]
      cases Ks <;> simp
    have hK0 : Ks.headD none = kind k := by
      have := hK 0
      rw [Nat.add_zero] at this
      rw [← this]
      cases Ks <;> simp
    have hall : L listed k → ∀ e ∈ o.after, Region.binds .any e = true → L listed e.on := fun hL => I.closed k o ho hL
    -- what the walk's own step says
    have key : ∃ b' F', Path ops a0 kind listed a (k + 1) b' F' ∧ wpG P ops R w1 Fin (k + 1) l Ks.tail F' b' ∧
        (Region.wanted o (yielded ops b.tmps) = true → match kind k with
          | none => ∃ v, ∀ w', R w1 w' → depF F o w' → detAt P R o b w' v
          | some (.inl c) => ∀ w', R w1 w' → depF F o w' → growAt P R o b w' fun u _ => u = c
          | some (.inr Y) => ∀ w', R w1 w' → depF F o w' → growAt P R o b w' fun u => Y (look ops b o) (rv o u)) := by
      unfold wpG at h
      split at h
      · rename_i hw
        rw [hK0] at h
        cases hkd : kind k with
        | none =>
          rw [hkd] at h
          obtain ⟨v, hs, h⟩ := h
          refine ⟨_, F, hp.step C I hin hk ho v fun hL d hd => ?_, h, fun _ => ⟨v, hs⟩⟩
          obtain ⟨hA, hG⟩ := hp.agree C hk ho (hall hL)
          have := I.vals k o ho hL b hA
          unfold Holds at this
          rw [if_pos hw, hkd] at this
          exact (this v F hG hs d hd).symm
        | some x =>
          rw [hkd] at h
          cases x with
          | inl c =>
            obtain ⟨hs, h⟩ := h
            refine ⟨_, F, hp.step C I hin hk ho c fun hL d hd => ?_, h, fun _ => hs⟩
            obtain ⟨hA, hG⟩ := hp.agree C hk ho (hall hL)
            have := I.vals k o ho hL b hA
            unfold Holds at this
            rw [if_pos hw, hkd] at this
            exact (this d hd).symm
          | inr Y =>
            obtain ⟨hs, h⟩ := h
            have hv : L listed k → ∀ d, o.dst = some d → val a o = slot a d := fun _ d hd => by simp [val, hd]
            exact ⟨_, _, (hp.step C I hin hk ho _ hv).fact ho hkd _ fun hL => ⟨rfl, (hp.agree C hk ho (hall hL)).1, hw⟩, h _, fun _ => hs⟩
      · rename_i hw
        refine ⟨_, F, hp.step C I hin hk ho undef fun hL d hd => ?_, h, fun hw' => absurd hw' hw⟩
        have := I.vals k o ho hL b (hp.agree C hk ho (hall hL)).1
        unfold Holds at this
        rw [if_neg hw] at this
        exact (this d hd).symm
    obtain ⟨b', F', hp', h', hs⟩ := key
    obtain ⟨r1, r2⟩ := descend C hin I l (k + 1) Ks.tail F' b' (by omega) hl' hK' hp' h'
    refine ⟨fun i oi h1 h2 hoi hai => ?_, r2⟩
    by_cases e : i = k
    · subst e
      rw [ho] at hoi; cases hoi
      exact ⟨b, F, (hp.agree C h2 ho hai).1, (hp.agree C h2 ho hai).2, hs⟩
    · exact r1 i oi (by omega) h2 hoi hai


theorem Inv.settle {listed : Array Bool} {a : Act} {w : World} (I : Inv P ops R w1 a0 n kind listed a w) (hall : ∀ k, k < n → L listed k)
    {b : Act} {F : List (Nat × (World → Prop))} (hp : Path ops a0 kind listed a n b F) : b = a ∧ ∀ p ∈ F, p.2 w := by
  constructor
  · have ht : b.tmps = a.tmps := by
      apply Array.ext_getElem?
      intro s
      by_cases hj : ∃ j, j < n ∧ D ops j = some s
      · obtain ⟨j, hj, hd⟩ := hj
        exact hp.same j hj (hall j hj) s hd
      · have hn : ∀ j, j < n → D ops j ≠ some s := fun j hj' hd => hj ⟨j, hj', hd⟩
        rw [hp.other s hn, I.slots s fun k hk => hn k (I.head k hk)]
    have hd : b.defers = a.defers := hp.defs.trans I.defs.symm
    cases a; cases b; simp_all
  · intro p hpF
    obtain ⟨oj, Y, v, bj, hj, hoj, hkj, he, hL⟩ := hp.facts p hpF
    obtain ⟨hv, hbj, hw⟩ := hL (hall p.1 hj)
    have := I.vals p.1 oj hoj (hall p.1 hj) bj hbj
    unfold Holds at this
    rw [if_pos hw, hkj] at this
    rw [he, hv]; exact this

theorem wpAny_of_g (C : Chk ops n) (hrf : ∀ w : World, R w w) (htr : ∀ u v w : World, R u v → R v w → R u w) (hstab : ∀ k Y, kind k = some (.inr Y) → ∀ l v w w', R w w' → Y l v w → Y l v w')
    (hin : ∀ o d, o ∈ ops → o.dst = some d → d < a0.tmps.size) {Q : Exit → Act → World → Prop} {l : List Oper} (hll : l.length = n) (hl : ∀ j, j < l.length → l[j]? = ops[0 + j]?) {Ks : List Kind} (hK : ∀ j, Ks.getD j none = kind (0 + j))
    {t : List Oper} (htl : t.length = ops.size - n) (ht : ∀ j, t[j]? = ops[n + j]?)
    (h : wpG P ops R w1 (fun a' w' => wpList P ops Q t a' w') 0 l Ks [] a0) :
    ∀ (fuel : Nat) (listed : Array Bool) (a : Act) (w : World), fuel = left listed n + t.length → Inv P ops R w1 a0 n kind listed a w → wpAny P .any ops Q fuel listed a w := by
  intro fuel
  induction fuel with
  | zero =>
    intro listed a w hf I
    have hall := left_none n (show left listed n = 0 by omega)
    have h0 : Path ops a0 kind listed a 0 a0 [] := ⟨rfl, rfl, fun _ _ => rfl, fun j hj => by omega, fun p hp => by cases hp⟩
    obtain ⟨b, F, hp, hfin⟩ := (descend C hin I l 0 Ks [] a0 (by omega) hl hK h0 h).2
    obtain ⟨rfl, hF⟩ := I.settle hall hp
    have := wpAny_tail C t n listed b w (Nat.le_refl _) ht htl I.size (fun k hk => ⟨I.head k, hall k⟩) (hfin w I.reach hF)
    rw [show t.length = 0 by omega] at this
    exact this
  | succ fuel ih =>
    intro listed a w hf I
    have h0 : Path ops a0 kind listed a 0 a0 [] := ⟨rfl, rfl, fun _ _ => rfl, fun j hj => by omega, fun p hp => by cases hp⟩
    obtain ⟨hsp, b, F, hp, hfin⟩ := descend C hin I l 0 Ks [] a0 (by omega) hl hK h0 h
    by_cases hz : left listed n = 0
    · have hall := left_none n hz
      obtain ⟨rfl, hF⟩ := I.settle hall hp
      have := wpAny_tail C t n listed b w (Nat.le_refl _) ht htl I.size (fun k hk => ⟨I.head k, hall k⟩) (hfin w I.reach hF)
      rw [show t.length = fuel + 1 by omega] at this
      exact this
    · obtain ⟨k, hkn, hkun, hklow⟩ := left_some n (by omega : 0 < left listed n)
      have hks : k < ops.size := by have := C.le; omega
      refine ⟨fun hr => ?_, fun i hi => ?_⟩
      · have : k ∈ Region.ready .any ops listed := (mem_ready' I.size).2 ⟨hkun, ops[k], Array.getElem?_eq_getElem hks, fun e he hb => hklow _ (C.low k _ (Array.getElem?_eq_getElem hks) e he hb)⟩
        rw [hr] at this; cases this
      · obtain ⟨hiun, o, ho, hall⟩ := (mem_ready' I.size).1 hi
        have his := (Array.getElem?_eq_some_iff.1 ho).1
        have hin' : i < n := by
          by_cases hlt : i < n
          · exact hlt
          · -- the last of the first n that is still to come is waited for
            have hlast : ∀ m, m ≤ n → (∀ j, m ≤ j → j < n → L listed j) → False := by
              intro m
              induction m with
              | zero => intro _ hm; exact hkun (hm k (by omega) hkn)
              | succ m ihm =>
                intro hmn hm
                by_cases hLm : L listed m
                · exact ihm (by omega) fun j h1 h2 => by
                    by_cases e : j = m
                    · subst e; exact hLm
                    · exact hm j (by omega) h2
                · rcases C.waits with hw | hw
                  · omega
                  · obtain ⟨j, oj, h1, h2, hoj, hb⟩ := hw m (by omega)
                    obtain ⟨e, he, hbe, hon⟩ := bound_spec hb
                    by_cases hjn : j < n
                    · exact hLm (hon ▸ I.closed j oj hoj (hm j (by omega) hjn) e he hbe)
                    · have hjn' : j = n := by omega
                      subst hjn'
                      by_cases hij : i = j
                      · subst hij
                        rw [ho] at hoj; cases hoj
                        exact hLm (hon ▸ hall e he hbe)
                      · obtain ⟨e', he', hb', hon'⟩ := bound_spec (C.seq i o (by omega) ho)
                        have := I.head (i - 1) (hon' ▸ hall e' he' hb')
                        omega
            exact (hlast n (Nat.le_refl _) fun j h1 h2 => by omega).elim
        obtain ⟨b', F', hA, hG, hspec⟩ := hsp i o (by omega) hin' ho hall
        have hsel := fun cs c => C.sel i o cs c ho
        have hab : ∀ s ∈ o.looksAt ops, a.tmps[s]? = b'.tmps[s]? := by
          intro s hs
          by_cases hj : ∃ j, j < i ∧ D ops j = some s
          · obtain ⟨j, hj, hd⟩ := hj
            exact (hA.1 s hs j hj hd).symm
          · have hn' : ∀ j, j < i → D ops j ≠ some s := fun j hj' hd => hj ⟨j, hj', hd⟩
            rw [hA.2 s hs hn']
            refine I.slots s fun j hLj hd => ?_
            rcases C.looks i o s j hin' ho hs (I.head j hLj) hd with hij | hij | ⟨q, hq, hij⟩
            · subst hij; exact hiun hLj
            · exact hn' j (bound_lt C ho hij) hd
            · obtain ⟨e, he, hb, rfl⟩ := bound_spec hij
              exact hiun (I.closed j q hq hLj e he hb)
        obtain ⟨hex, hwa⟩ := look_congr (ops := ops) hsel hab
        have hdep := depF_of I hall hG
        have hfuel : fuel = left (listed.setIfInBounds i true) n + t.length := by
          have := left_set (listed := listed) (by rw [I.size]; exact his) hiun n hin'; omega
        -- whoever agrees looks at the same
        have same : ∀ (v : Value) b, Agree ops a0 (a.put o.dst v) b i o → execOp b.eval o = execOp b'.eval o ∧ Region.wanted o (yielded ops b.tmps) = Region.wanted o (yielded ops b'.tmps) ∧ look ops b o = look ops b' o := by
          intro v b hb
          have hb2 : Agree ops a0 a b i o := by
            refine ⟨fun s hs j hj hd => ?_, hb.2⟩
            rw [hb.1 s hs j hj hd]
            refine put_get_ne fun e => ?_
            have : j = i := C.uniq j i s (by omega) hin' hd (by simp [D, ho, e])
            omega
          obtain ⟨q1, q2⟩ := look_congr hsel (hb2.same hA)
          exact ⟨q1, q2, List.map_congr_left (hb2.same hA)⟩
        have good : ∀ (v : Value) F, GoodF ops a0 kind (a.put o.dst v) i o F → GoodF ops a0 kind a i o F := by
          intro v F hF p hp hl
          obtain ⟨oj, Y, bj, hj, hoj, hkj, hbj, hwj, he⟩ := hF p hp hl
          have hne : ∀ d, oj.dst = some d → o.dst ≠ some d := fun d hd e => by
            have : p.1 = i := C.uniq p.1 i d (by omega) hin' (by simp [D, hoj, hd]) (by simp [D, ho, e])
            omega
          refine ⟨oj, Y, bj, hj, hoj, hkj, ⟨fun s hs j' hj' hd' => ?_, hbj.2⟩, hwj, by rw [he, val_put hne]⟩
          rw [hbj.1 s hs j' hj' hd']
          refine put_get_ne fun e => ?_
          have : j' = i := C.uniq j' i s (by omega) hin' hd' (by simp [D, ho, e])
          subst this
          omega
        have hd1 : ∀ d, o.dst = some d → d < a.tmps.size := fun d hd => by rw [I.tsz]; exact hin o d (Array.mem_of_getElem? ho) hd
        unfold wpOp
        simp only [ho]
        split
        · rename_i hw
          have hwb : Region.wanted o (yielded ops b'.tmps) = true := by rw [← hwa]; exact hw
          have hspec := hspec hwb
          refine .inl ?_
          cases hkd : kind i with
          | none =>
            rw [hkd] at hspec
            obtain ⟨v, hs⟩ := hspec
            have hd : detAt P R o a w v := by unfold detAt; rw [hex]; exact hs w I.reach hdep
            refine wp_of_det hd fun w' hR => ih _ _ _ hfuel (I.step C htr hstab hin' ho hiun hall hR fun b hb => ?_)
            obtain ⟨e1, e2, _⟩ := same v b hb
            unfold Holds
            rw [if_pos (by rw [e2]; exact hwb), hkd]
            intro v' F2 hF2 hs2 d hdd
            have h1 := hs w I.reach hdep
            have h2 := hs2 w I.reach (depF_of I hall (good v F2 hF2))
            unfold detAt at h1 h2
            rw [e1] at h2
            rw [hdd, put_slot (hd1 d hdd)]
            generalize (execOp b'.eval o).run P w = r at h1 h2
            cases r with
            | ok x w'' =>
              cases x <;> simp only [detUpon] at h1 h2
              case value u => rw [← h1.1, h2.1]
              case skip => rw [← h1.1, h2.1]
            | halt x w'' => simp only [detUpon] at h1
          | some x =>
            rw [hkd] at hspec
            cases x with
            | inl c =>
              have hg : growAt P R o a w fun u _ => u = c := by unfold growAt; rw [hex]; exact hspec w I.reach hdep
              refine wp_of_grow hg fun v w' hv hR => ih _ _ _ hfuel (I.step C htr hstab hin' ho hiun hall hR fun b hb => ?_)
              obtain ⟨e1, e2, _⟩ := same v b hb
              unfold Holds
              rw [if_pos (by rw [e2]; exact hwb), hkd]
              intro d hdd
              rw [hdd, put_slot (hd1 d hdd)]; exact hv
            | inr Y =>
              have hg : growAt P R o a w fun u => Y (look ops b' o) (rv o u) := by unfold growAt; rw [hex]; exact hspec w I.reach hdep
              refine wp_of_grow hg fun v w' hv hR => ih _ _ _ hfuel (I.step C htr hstab hin' ho hiun hall hR fun b hb => ?_)
              obtain ⟨e1, e2, _⟩ := same v b hb
              unfold Holds
              rw [if_pos (by rw [e2]; exact hwb), hkd]
              show Y (look ops b o) (val _ o) w'
              rw [(same v b hb).2.2]
              have hvv : val (a.put o.dst v) o = rv o v := by
                unfold val rv
                cases hdd : o.dst with
                | none => rfl
                | some d => exact put_slot (hd1 d hdd)
              rw [hvv]; exact hv
        · rename_i hw
          have hwb : ¬ Region.wanted o (yielded ops b'.tmps) = true := by rw [← hwa]; exact hw
          refine ih _ _ _ hfuel (I.step C htr hstab hin' ho hiun hall (hrf w) fun b hb => ?_)
          obtain ⟨e1, e2, _⟩ := same undef b hb
          unfold Holds
          rw [if_neg (by rw [e2]; exact hwb)]
          intro d hdd
          rw [hdd, put_slot (hd1 d hdd)]

/-- THE LAW: a region that draws its order, its first n operations by the walk in the order of the text, the rest in the order that is forced -/
theorem wp_region_n {id : Nat} {l : List Oper} {Q : Exit → Act → World → Prop} {a : Act} {w : World} (n : Nat) (Ks : List Kind) (R : World → World → Prop) (hm : P.follows .mixedOrders = true)
    (hB : gB l.toArray n = true) (hin : inB l.toArray a = true) (hrf : ∀ w : World, R w w) (htr : ∀ u v w : World, R u v → R v w → R u w)
    (hstab : ∀ K ∈ Ks, ∀ Y, K = some (.inr Y) → ∀ l v w w', R w w' → Y l v w → Y l v w')
    (h : wpG P l.toArray R w.drew (fun a' w' => wpList P l.toArray Q (l.drop n) a' w') 0 (l.take n) Ks [] a) : (Code.region id l.toArray true).wp P Q a w := by
  have C := Chk.of hB
  have hle : n ≤ l.length := by have := C.le; simpa using this
  have hin' : ∀ o d, o ∈ l.toArray → o.dst = some d → d < a.tmps.size := by
    intro o d ho hd
    unfold inB at hin
    have := Array.all_eq_true_iff_forall_mem.1 hin o ho
    simpa [hd] using this
  refine wp_region_any hm ?_
  refine wpAny_of_g (a0 := a) (n := n) (kind := fun k => Ks.getD k none) C hrf htr (fun k Y hk l v w w' hR hY => ?_) hin' (l := l.take n) (Ks := Ks) (by simp [hle]) (fun j hj => ?_) (fun j => by simp)
    (t := l.drop n) (by simp) (fun j => by simp) h _ _ _ _ ?_ ?_
  · have hlt : k < Ks.length := by
      rcases Nat.lt_or_ge k Ks.length with h | h
      · exact h
      · simp [List.getD, List.getElem?_eq_none h] at hk
    have hmem : (some (.inr Y) : Kind) ∈ Ks := by
      rw [← hk, List.getD_eq_getElem?_getD, List.getElem?_eq_getElem hlt]; exact List.getElem_mem hlt
    exact hstab _ hmem Y rfl l v w w' hR hY
  · have : j < n := by simp at hj; omega
    simp [this]
  · have : ∀ m, m ≤ l.length → left (Array.replicate l.length false) m = m := by
      intro m
      induction m with
      | zero => intro _; rfl
      | succ m ih => intro hm'; unfold left; rw [ih (by omega)]; simp [show m < l.length by omega]
    have h2 := this n hle
    simp only [List.size_toArray, List.length_drop]
    rw [h2]; omega
  · have hno : ∀ k, ¬ L (Array.replicate l.toArray.size false) k := by
      intro k hk
      unfold L at hk
      simp only [Array.getD_eq_getD_getElem?, Array.getElem?_replicate] at hk
      split at hk <;> simp at hk
    exact ⟨by simp, hrf _, rfl, rfl, fun k o _ hk => (hno k hk).elim, fun _ _ => rfl, fun k hk => (hno k hk).elim, fun k o _ hk => (hno k hk).elim⟩


section
variable {Fin : Act → World → Prop} {o : Oper} {rest : List Oper} {Ks : List Kind} {F : List (Nat × (World → Prop))} {a : Act}
variable {i : Nat}
theorem g_nil (h : ∀ w, R w1 w → (∀ p ∈ F, p.2 w) → Fin a w) : wpG P ops R w1 Fin i [] Ks F a := h
theorem g_det (hw : Region.wanted o (yielded ops a.tmps) = true) (h : ∃ v, (∀ w, R w1 w → depF F o w → detAt P R o a w v) ∧ wpG P ops R w1 Fin (i + 1) rest Ks F (a.put o.dst v)) :
    wpG P ops R w1 Fin i (o :: rest) (none :: Ks) F a := by
  unfold wpG; rw [if_pos hw]; exact h
theorem g_con {c : Value} (hw : Region.wanted o (yielded ops a.tmps) = true) (h : ∀ w, R w1 w → depF F o w → growAt P R o a w fun u _ => u = c) (hk : wpG P ops R w1 Fin (i + 1) rest Ks F (a.put o.dst c)) :
    wpG P ops R w1 Fin i (o :: rest) (some (.inl c) :: Ks) F a := by
  unfold wpG; rw [if_pos hw]; exact ⟨h, hk⟩
theorem g_new {Y : List (Option Value) → Value → World → Prop} (hw : Region.wanted o (yielded ops a.tmps) = true) (h : ∀ w, R w1 w → depF F o w → growAt P R o a w fun u => Y (look ops a o) (rv o u)) (hk : ∀ v, wpG P ops R w1 Fin (i + 1) rest Ks ((i, Y (look ops a o) v) :: F) (a.put o.dst v)) :
    wpG P ops R w1 Fin i (o :: rest) (some (.inr Y) :: Ks) F a := by
  unfold wpG; rw [if_pos hw]; exact ⟨h, hk⟩
theorem g_skip {K : Kind} (hw : Region.wanted o (yielded ops a.tmps) = false) (hk : wpG P ops R w1 Fin (i + 1) rest Ks F (a.put o.dst undef)) :
    wpG P ops R w1 Fin i (o :: rest) (K :: Ks) F a := by
  unfold wpG; rw [if_neg (by rw [hw]; exact Bool.false_ne_true)]; exact hk
end
end
end Go.Proofs.YtadhkeboaapfcaaGreatDoor.GrowN
namespace Go.Proofs.YtadhkeboaapfcaaGreatDoor.LitMap
open Go Go.MapKept Go.RowKit
set_option linter.unusedVariables false
set_option linter.unusedSimpArgs false

def txt (k : Int) : ByteArray := if k = 4 then ⟨#[67, 65, 78, 67, 69, 76, 32]⟩ else if k = 10 then ⟨#[83, 84, 65, 84, 85, 83, 32]⟩ else if k = 11 then ⟨#[80, 73, 67, 75, 32]⟩ else if k = 12 then ⟨#[80, 65, 83, 83, 32]⟩ else ⟨#[70, 85, 83, 69, 32]⟩
def Sub (es : Array MapEntry) : Prop := ∀ e ∈ es.toList, ∃ k : Int, e.key = .int .i64 k ∧ e.val = .string (txt k)
def MapAt (w : World) (b : Nat) : Prop := ∃ es c, w.heap[b]? = some (.map es c) ∧ Sub es
def Has (w : World) (b : Nat) (k : Int) : Prop := ∃ es c, w.heap[b]? = some (.map es c) ∧ Sub es ∧ ∃ e ∈ es.toList, e.key = .int .i64 k
theorem Has.at {w : World} {b : Nat} {k : Int} (h : Has w b k) : MapAt w b := by
  obtain ⟨es, c, h1, h2, _⟩ := h; exact ⟨es, c, h1, h2⟩
structure Lasts (N : Nat) (u v : World) : Prop where
  below : Below N u v
  map : ∀ b, MapAt u b → MapAt v b
  has : ∀ b k, Has u b k → Has v b k
theorem Lasts.refl (N : Nat) (w : World) : Lasts N w w := ⟨Below.refl _ _, fun _ h => h, fun _ _ h => h⟩
theorem Lasts.trans {N : Nat} {u v w : World} (h : Lasts N u v) (g : Lasts N v w) : Lasts N u w := ⟨h.below.trans g.below, fun b q => g.map b (h.map b q), fun b k q => g.has b k (h.has b k q)⟩
theorem MapAt.lt {w : World} {b : Nat} (h : MapAt w b) : b < w.heap.size := by
  obtain ⟨es, c, h, _⟩ := h; exact (Array.getElem?_eq_some_iff.1 h).1
theorem Lasts.made {N : Nat} (w : World) (h : N ≤ w.heap.size) : Lasts N w (w.alloc (.map #[] 0)) ∧ MapAt (w.alloc (.map #[] 0)) w.heap.size := by
  refine ⟨⟨(Below.refl _ _).alloc h _, fun b hb => ?_, fun b k hb => ?_⟩, ⟨#[], 0, (heap_alloc w _).1, fun e he => by cases he⟩⟩
  · have hl := hb.lt
    obtain ⟨es, c, h1, h2⟩ := hb
    exact ⟨es, c, by rw [(heap_alloc w _).2 b hl]; exact h1, h2⟩
  · have hl := hb.at.lt
    obtain ⟨es, c, h1, h2, h3⟩ := hb
    exact ⟨es, c, by rw [(heap_alloc w _).2 b hl]; exact h1, h2, h3⟩
theorem isKey_of {es : Array MapEntry} (h : Sub es) : ∀ x ∈ es.toList, IsKey (.int .i64) x.key := fun x hx => by
  obtain ⟨k, hk, _⟩ := h x hx; rw [hk]; rfl
section
variable {P : Program} {w : World} {mty kt et : TypeId} {b N : Nat}
theorem set_block {es : Array MapEntry} {c : Nat} (hb : w.heap[b]? = some (.map es c)) (hN : N ≤ b) {es' : Array MapEntry} {c' : Nat} (hs : Sub es') (k : Int)
    (hk : ∃ e ∈ es'.toList, e.key = .int .i64 k) (hall : ∀ k, (∃ e ∈ es.toList, e.key = .int .i64 k) → ∃ e ∈ es'.toList, e.key = .int .i64 k) :
    Has { w with heap := w.heap.setIfInBounds b (.map es' c') } b k ∧ Lasts N w { w with heap := w.heap.setIfInBounds b (.map es' c') } := by
  have h1 := (heap_set (o' := .map es' c') hb).1
  have h2 := (heap_set (o' := .map es' c') hb).2
  refine ⟨⟨es', c', h1, hs, hk⟩, ⟨⟨rfl, rfl, rfl, by simp, fun j hj => h2 j (by omega)⟩, fun j hj => ?_, fun j q hj => ?_⟩⟩
  · by_cases e : j = b
    · subst e; exact ⟨es', c', h1, hs⟩
    · obtain ⟨es2, c2, g1, g2⟩ := hj
      exact ⟨es2, c2, (h2 j e).trans g1, g2⟩
  · by_cases e : j = b
    · subst e
      obtain ⟨es2, c2, g1, g2, g3⟩ := hj
      rw [hb] at g1; cases g1
      exact ⟨es', c', h1, hs, hall q g3⟩
    · obtain ⟨es2, c2, g1, g2, g3⟩ := hj
      exact ⟨es2, c2, (h2 j e).trans g1, g2, g3⟩
theorem insert_step (hm : P.underlying mty = some (.map kt et)) (hd : P.underlying kt = some (.int .i64)) (h : MapAt w b) (hN : N ≤ b) (k : Int) :
    ∃ w', (Instr.mapUpdate mty (.map (some b)) (.int .i64 k) (.string (txt k))).run P w = .ok () w' ∧ Has w' b k ∧ Lasts N w w' := by
  obtain ⟨es, c, hb, hs⟩ := h
  have hks := isKey_of hs
  have hk : IsKey (.int .i64) (.int .i64 k) := rfl
  rcases findNow_spec hk es.toList 0 hks with ⟨h1, h2⟩ | ⟨j, e, h1, h2, h3⟩
  · refine ⟨_, by simp [Instr.mapUpdate, run_underlying hm, Go.MapKept.run_getObj_map hb, Go.MapKept.run_checkKey hd hk, Go.MapKept.run_findKey hd h1, Go.MapKept.run_setObj_map _ hb, Result.andThen]; rfl, ?_⟩
    refine set_block hb hN (fun x hx => ?_) k ⟨⟨.int .i64 k, .string (txt k), c⟩, by simp, rfl⟩ (fun q hq => ?_)
    · simp only [Array.toList_push, List.mem_append, List.mem_singleton] at hx
      rcases hx with hx | rfl
      · exact hs x hx
      · exact ⟨k, rfl, rfl⟩
    · obtain ⟨x, hx, hxk⟩ := hq
      exact ⟨x, by simp only [Array.toList_push, List.mem_append]; exact .inl hx, hxk⟩
  · have hj : es[j]? = some e := by simpa using h2
    refine ⟨_, by simp [Instr.mapUpdate, run_underlying hm, Go.MapKept.run_getObj_map hb, Go.MapKept.run_checkKey hd hk, Go.MapKept.run_findKey hd h1, hj, h3, Go.MapKept.run_keyThatStays hk, Go.MapKept.run_setObj_map _ hb, Result.andThen]; rfl, ?_⟩
    have hkey : ∀ e', es[j]? = some e' → ({ e' with key := .int .i64 k, val := .string (txt k) } : MapEntry).key = e'.key := fun e' he' => by rw [hj] at he'; cases he'; exact h3.symm
    have hkeys := modify_keys j (fun e' => ({ e' with key := .int .i64 k, val := .string (txt k) } : MapEntry)) hkey
    refine set_block hb hN (fun x hx => ?_) k ?_ (fun q hq => ?_)
    · obtain ⟨i, hi, rfl⟩ := List.getElem_of_mem hx
      simp only [Array.length_toList, Array.size_modify] at hi
      simp only [Array.getElem_toList, Array.getElem_modify]
      split
      · exact ⟨k, rfl, rfl⟩
      · exact hs _ (by rw [← Array.getElem_toList]; exact List.getElem_mem _)
    · have : (Value.int .i64 k) ∈ es.toList.map (·.key) := List.mem_map.2 ⟨e, List.mem_of_getElem? h2, h3⟩
      rw [← hkeys] at this
      obtain ⟨y, hy, e⟩ := List.mem_map.1 this
      exact ⟨y, hy, e⟩
    · obtain ⟨x, hx, hxk⟩ := hq
      have : (Value.int .i64 q) ∈ es.toList.map (·.key) := List.mem_map.2 ⟨x, hx, hxk⟩
      rw [← hkeys] at this
      obtain ⟨y, hy, e⟩ := List.mem_map.1 this
      exact ⟨y, hy, e⟩
theorem lookup_has (hm : P.underlying mty = some (.map kt et)) (hd : P.underlying kt = some (.int .i64)) {k : Int} (h : Has w b k) :
    (Instr.lookup mty (.map (some b)) (.int .i64 k) false).run P w = .ok (.string (txt k)) w := by
  obtain ⟨es, c, hb, hs, hx⟩ := h
  have hks := isKey_of hs
  have hk : IsKey (.int .i64) (.int .i64 k) := rfl
  rcases findNow_spec hk es.toList 0 hks with ⟨h1, h2⟩ | ⟨j, e, h1, h2, h3⟩
  · obtain ⟨x, hx, hxk⟩ := hx
    exact absurd hxk (h2 x hx)
  · have he : e.val = .string (txt k) := by
      obtain ⟨q, hq, hv⟩ := hs e (List.mem_of_getElem? h2)
      rw [h3] at hq; cases hq; exact hv
    simp [Instr.lookup, run_underlying hm, Go.MapKept.run_getObj_map hb, Go.MapKept.run_checkKey hd hk, Go.MapKept.run_findKey hd h1, Result.andThen, he]
end

/-! a row of cells that is filled in any order -/
def RowAt (B : Nat) (ty : TypeId) (n : Nat) (w : World) : Prop := ∃ cs, w.heap[B]? = some (.cells cs ty (0, 0)) ∧ cs.size = n
def At (B : Nat) (ty : TypeId) (T : Array Value) (f : Nat) (w : World) : Prop := ∃ cs, w.heap[B]? = some (.cells cs ty (0, 0)) ∧ cs.size = T.size ∧ cs[f]? = T[f]?
structure Sets (B : Nat) (ty : TypeId) (T : Array Value) (u v : World) : Prop where
  below : Below B u v
  row : ∀ cs, u.heap[B]? = some (.cells cs ty (0, 0)) → cs.size = T.size → ∃ cs', v.heap[B]? = some (.cells cs' ty (0, 0)) ∧ cs'.size = T.size ∧ ∀ i : Nat, cs'[i]? = cs[i]? ∨ cs'[i]? = T[i]?
theorem Sets.refl (B : Nat) (ty : TypeId) (T : Array Value) (w : World) : Sets B ty T w w := ⟨Below.refl _ _, fun cs h hs => ⟨cs, h, hs, fun _ => .inl rfl⟩⟩
theorem Sets.trans {B : Nat} {ty : TypeId} {T : Array Value} {u v w : World} (h : Sets B ty T u v) (g : Sets B ty T v w) : Sets B ty T u w := by
  refine ⟨h.below.trans g.below, fun cs hc hs => ?_⟩
  obtain ⟨c1, h1, s1, q1⟩ := h.row cs hc hs
  obtain ⟨c2, h2, s2, q2⟩ := g.row c1 h1 s1
  refine ⟨c2, h2, s2, fun i => ?_⟩
  rcases q2 i with e | e
  · rcases q1 i with e1 | e1
    · exact .inl (e.trans e1)
    · exact .inr (e.trans e1)
  · exact .inr e
theorem At.lasts {B : Nat} {ty : TypeId} {T : Array Value} {f : Nat} {u v : World} (h : At B ty T f u) (hR : Sets B ty T u v) : At B ty T f v := by
  obtain ⟨cs, h1, h2, h3⟩ := h
  obtain ⟨c1, g1, g2, g3⟩ := hR.row cs h1 h2
  exact ⟨c1, g1, g2, (g3 f).elim (fun e => e.trans h3) id⟩
theorem Sets.store {B : Nat} {ty : TypeId} {T : Array Value} {w1 w : World} (hw : Sets B ty T w1 w) (hrow : RowAt B ty T.size w1) (f : Nat) (x : Value) (hx : T[f]? = some x) :
    ∃ old, w.cell? ⟨B, f, none⟩ = some old ∧ w.frozen? ⟨B, f, none⟩ = false ∧ Sets B ty T w (w.setCell ⟨B, f, none⟩ x) ∧ At B ty T f (w.setCell ⟨B, f, none⟩ x) := by
  obtain ⟨c0, h0, s0⟩ := hrow
  obtain ⟨cs, hc, hs, _⟩ := hw.row c0 h0 s0
  have hf : f < cs.size := by rw [hs]; exact (Array.getElem?_eq_some_iff.1 hx).1
  have hset := heap_setCell_same w B f cs ty x hc
  have hself : (cs.setIfInBounds f x)[f]? = T[f]? := by rw [hx]; simp [hf]
  refine ⟨cs[f], ?_, ?_, ⟨(Below.refl B w).setCell (p := ⟨B, f, none⟩) (Nat.le_refl _) _, fun c hcc hss => ?_⟩, ⟨_, hset, by simp [hs], hself⟩⟩
  · unfold World.cell?; rw [show w.heap[(⟨B, f, none⟩ : Addr).block]? = _ from hc]; simp [hf]
  · unfold World.frozen?; rw [show w.heap[(⟨B, f, none⟩ : Addr).block]? = _ from hc]; rfl
  · rw [hc] at hcc; cases hcc
    refine ⟨_, hset, by simp [hs], fun i => ?_⟩
    by_cases e : f = i
    · subst e; exact .inr hself
    · exact .inl (Array.getElem?_setIfInBounds_ne e)
theorem Sets.done {B : Nat} {ty : TypeId} {T c0 : Array Value} {w1 w : World} (hw : Sets B ty T w1 w) (h0 : w1.heap[B]? = some (.cells c0 ty (0, 0))) (hs : c0.size = T.size)
    (hall : ∀ i, i < T.size → c0[i]? = T[i]? ∨ At B ty T i w) : w.heap[B]? = some (.cells T ty (0, 0)) := by
  obtain ⟨cs, hc, hcs, hq⟩ := hw.row c0 h0 hs
  have : cs = T := by
    apply Array.ext_getElem?
    intro i
    by_cases hi : i < T.size
    · rcases hall i hi with e | ⟨c2, g1, g2, g3⟩
      · rcases hq i with e2 | e2
        · exact e2.trans e
        · exact e2
      · rw [hc] at g1; cases g1; exact g3
    · rw [Array.getElem?_eq_none (by omega), Array.getElem?_eq_none (by omega)]
  rw [← this]; exact hc
end Go.Proofs.YtadhkeboaapfcaaGreatDoor.LitMap
