/- A row of bytes in memory of the call's own; and which blocks a call may have changed. -/
import Derived.Test.YtadhkeboaapfcaaGreatDoorBase
import Derived.Laws.MakeOwn
namespace Go.Proofs.YtadhkeboaapfcaaGreatDoor
open Go.RowKit
set_option linter.unusedSimpArgs false
set_option linter.unusedVariables false

/-- block g holds the bytes l from its head on, and may be written -/
structure Row (g : Nat) (l : List UInt8) (w : World) : Prop where
  lt : g < w.heap.size
  cell : ∀ j (h : j < l.length), w.cell? ⟨g, j, none⟩ = some (.int .u8 (l[j].toNat : Int))
  free : ∀ j, j < l.length → w.frozen? ⟨g, j, none⟩ = false
theorem Row.below {g : Nat} {l : List UInt8} {w w' : World} (h : Row g l w) (hb : Below w.heap.size w w') : Row g l w' :=
  ⟨Nat.lt_of_lt_of_le h.lt hb.size, fun j hj => by rw [hb.cell h.lt]; exact h.cell j hj, fun j hj => by rw [hb.frozen h.lt]; exact h.free j hj⟩
theorem Row.drew {g : Nat} {l : List UInt8} {w : World} (h : Row g l w) : Row g l w.drew := ⟨h.lt, h.cell, h.free⟩
theorem Row.set {g : Nat} {l : List UInt8} {w : World} (h : Row g l w) (k : Nat) (hk : k < l.length) (v : UInt8) : Row g (l.set k v) (w.setCell ⟨g, k, none⟩ (.int .u8 (v.toNat : Int))) := by
  refine ⟨by simpa using h.lt, fun j hj => ?_, fun j hj => ?_⟩
  · have hj' : j < l.length := by simpa using hj
    by_cases e : k = j
    · subst e
      rw [World.cell?_setCell_same _ _ _ (h.cell k hk)]; simp
    · rw [World.cell?_setCell_other _ _ _ _ (fun h => e (congrArg Addr.off h)), h.cell j hj']
      simp [e]
  · rw [World.frozen?_setCell]; exact h.free j (by simpa using hj)
theorem Row.other {g g' : Nat} {l : List UInt8} {w : World} (h : Row g l w) (hne : g' ≠ g) (k : Nat) (v : Value) : Row g l (w.setCell ⟨g', k, none⟩ v) :=
  ⟨by simpa using h.lt, fun j hj => by rw [World.cell?_setCell_other _ _ _ _ (fun h => hne (congrArg Addr.block h))]; exact h.cell j hj, fun j hj => by rw [World.frozen?_setCell]; exact h.free j hj⟩

def zeros (n : Nat) : Array Value := madeCells #[.int .u8 0] n
theorem run_make_bytes {P : Program} (w : World) (t e : TypeId) (i : TypeInfo) (ht : P.underlying t = some (.slice e)) (hi : P.info? e = some i) (hz : i.zero = some (.int .u8 0)) (hs : i.size = 1) (hb : i.bytes = 1) (n : Nat) (hn : n ≤ 1048576) :
    (Instr.makeSlice t (.int .i64 (n : Int)) (.int .i64 (n : Int))).run P w = .ok (.slice (some ⟨w.heap.size, 0, none⟩) n n) (w.alloc (.cells (zeros n) e)) := by
  have h := run_make w t e i _ ht hi hz .i64 .i64 (n : Int) (n : Int) (by omega) (Int.le_refl _) (by rw [hb]; omega) (by omega)
  rw [hs] at h
  simpa [zeros, Value.cells] using h
theorem row_zeros (w : World) (e : TypeId) (n : Nat) : Row w.heap.size (List.replicate n 0) (w.alloc (.cells (zeros n) e)) := by
  refine ⟨by simp, fun j hj => ?_, fun j hj => ?_⟩
  · have hj' : j < n := by simpa using hj
    rw [World.cell?_alloc_new]
    unfold zeros madeCells
    simp [hj']
    simp [Nat.mod_one]
  · unfold World.frozen?
    have : (w.alloc (.cells (zeros n) e)).heap[w.heap.size]? = some (.cells (zeros n) e) := heap_alloc_new w _
    simp only [this]
    simp
theorem row_string {P : Program} {g : Nat} {l : List UInt8} {w : World} (h : Row g l w) (src e dst : TypeId) (hs : P.underlying src = some (.slice e)) (he : P.underlying e = some (.int .u8)) (hd : P.underlying dst = some .string)
    (cap n : Nat) (hn : n = l.length) : (convert src dst (.slice (some ⟨g, 0, none⟩) n cap)).run P w = .ok (.string ⟨l.toArray⟩) w :=
  bytes_string (P := P) w src e dst hs he hd g 0 cap l (fun j hj => by rw [Nat.zero_add]; exact h.cell j hj) n hn

/-- only blocks of M, of those that were there, may have changed -/
structure Mod (M : Nat → Prop) (w w' : World) : Prop where
  os : w'.os = w.os
  tape : w'.tape = w.tape
  output : w'.output = w.output
  size : w.heap.size ≤ w'.heap.size
  block : ∀ k, k < w.heap.size → ¬ M k → w'.heap[k]? = w.heap[k]?
theorem Mod.refl (M : Nat → Prop) (w : World) : Mod M w w := ⟨rfl, rfl, rfl, Nat.le_refl _, fun _ _ _ => rfl⟩
theorem Mod.trans {M : Nat → Prop} {u v w : World} (h : Mod M u v) (k : Mod M v w) : Mod M u w :=
  ⟨k.os.trans h.os, k.tape.trans h.tape, k.output.trans h.output, Nat.le_trans h.size k.size, fun i hi hM => (k.block i (Nat.lt_of_lt_of_le hi h.size) hM).trans (h.block i hi hM)⟩
theorem Mod.mono {M N : Nat → Prop} {u v : World} (h : Mod M u v) (hMN : ∀ k, k < u.heap.size → M k → N k) : Mod N u v :=
  ⟨h.os, h.tape, h.output, h.size, fun i hi hN => h.block i hi fun hM => hN (hMN i hi hM)⟩
theorem Mod.of_below {M : Nat → Prop} {u v : World} (h : Below u.heap.size u v) : Mod M u v := ⟨h.os, h.tape, h.output, h.size, fun i hi _ => h.block i hi⟩
theorem Mod.to_below {M : Nat → Prop} {u v : World} (h : Mod M u v) (B : Nat) (hB : B ≤ u.heap.size) (hM : ∀ k, M k → B ≤ k) : Below B u v :=
  ⟨h.os, h.tape, h.output, h.size, fun k hk => h.block k (by omega) fun hm => by have := hM k hm; omega⟩
theorem Mod.drew {M : Nat → Prop} {u v : World} (h : Mod M u v) : Mod M u v.drew := ⟨h.os, h.tape, h.output, h.size, h.block⟩
theorem Mod.drawn {M : Nat → Prop} {u v w : World} (h : Mod M u v) (k : Drawn v w) : Mod M u w := by obtain ⟨n, rfl⟩ := k; exact ⟨h.os, h.tape, h.output, h.size, h.block⟩
theorem Mod.alloc {M : Nat → Prop} {u v : World} (h : Mod M u v) (o : Obj) : Mod M u (v.alloc o) :=
  h.trans (Mod.of_below ((Below.refl _ _).alloc (Nat.le_refl _) _))
theorem Mod.setCell {M : Nat → Prop} {u v : World} (h : Mod M u v) {a : Addr} (ha : M a.block ∨ u.heap.size ≤ a.block) (x : Value) : Mod M u (v.setCell a x) := by
  refine ⟨h.os, h.tape, h.output, by simpa using h.size, fun k hk hM => ?_⟩
  rw [Below.heap_setCell _ _ _ _ (fun e => by subst e; rcases ha with ha | ha; exact hM ha; omega)]
  exact h.block k hk hM
theorem Mod.cell {M : Nat → Prop} {w w' : World} (h : Mod M w w') {p : Addr} (hp : p.block < w.heap.size) (hM : ¬ M p.block) : w'.cell? p = w.cell? p := World.cell?_of_block (w := w) (h.block p.block hp hM)
theorem Mod.frozen {M : Nat → Prop} {w w' : World} (h : Mod M w w') {p : Addr} (hp : p.block < w.heap.size) (hM : ¬ M p.block) : w'.frozen? p = w.frozen? p := World.frozen?_of_block (w := w) (h.block p.block hp hM)
end Go.Proofs.YtadhkeboaapfcaaGreatDoor
