/- Small words for walks: a world that was only drawn from; the end of a call that hands back a number. -/
import Derived.WalkKit
import Derived.WalkSpells
import Derived.WalkLawsBesides
import Derived.Lib.Hide
import Derived.Lib.IndexBytes
import Derived.Deep.QuietTactic
import Derived.BigQuiet
import Derived.Deep.RegionWith
import Derived.Deep.DeepMust
import Derived.BigRegion
import Derived.KernelRfl
import Derived.Lib.ConvBytes
namespace Go.Proofs.YtadhkeboaapfcaaGreatDoor
open Go.RowKit

theorem ret_int {k : IntKind} {a b : Int} (h : a = b) : Ending.returned (.int k a) = Ending.returned (.int k b) := by rw [h]
theorem ret_str {a b : ByteArray} (h : a = b) : Ending.returned (.string a) = Ending.returned (.string b) := by rw [h]
theorem ret_bool {a b : Bool} (h : a = b) : Ending.returned (.bool a) = Ending.returned (.bool b) := by rw [h]

/-- w is W, but for draws -/
def Drawn (W w : World) : Prop := ∃ n, w = W.drewN n
theorem Drawn.refl (W : World) : Drawn W W := ⟨0, rfl⟩
theorem Drawn.drewN {W w : World} (h : Drawn W w) (n : Nat) : Drawn W (w.drewN n) := by obtain ⟨m, rfl⟩ := h; exact ⟨m + n, World.drewN_drewN ..⟩
theorem Drawn.drew {W w : World} (h : Drawn W w) : Drawn W w.drew := h.drewN 1
theorem Drawn.trans {W w u : World} (h : Drawn W w) (k : Drawn w u) : Drawn W u := by obtain ⟨m, rfl⟩ := k; exact h.drewN m
theorem Drawn.cell {W w : World} (h : Drawn W w) (a : Addr) : w.cell? a = W.cell? a := by obtain ⟨m, rfl⟩ := h; rfl
theorem Drawn.heap {W w : World} (h : Drawn W w) : w.heap = W.heap := by obtain ⟨m, rfl⟩ := h; rfl
theorem Drawn.frozen {W w : World} (h : Drawn W w) (a : Addr) : w.frozen? a = W.frozen? a := by obtain ⟨m, rfl⟩ := h; rfl
theorem Drawn.below {W w : World} (h : Drawn W w) (B : Nat) : Below B W w := by obtain ⟨m, rfl⟩ := h; exact below_drewN (Below.refl _ _) m
theorem Drawn.of_eq {W w : World} (h : W = w) : Drawn W w := h ▸ Drawn.refl W
theorem quiet_drawn {P : Program} {f : FuncId} {args : Array Value} {w : World} {n : Nat} {v : Value}
    (h : Calls P f args (w.drewN n) fun e w' => e = .returned v ∧ Drawn (w.drewN n) w') : Calls P f args (w.drewN n) fun e w'' => e = .returned v ∧ ∃ m, w'' = w.drewN m :=
  h.mono fun _ _ ⟨he, hm⟩ => ⟨he, Drawn.trans ⟨n, rfl⟩ hm⟩
theorem quiet_same {P : Program} {f : FuncId} {args : Array Value} {w : World} {n : Nat} {v : Value}
    (h : Calls P f args (w.drewN n) fun e w' => e = .returned v ∧ w.drewN n = w') : Calls P f args (w.drewN n) fun e w'' => e = .returned v ∧ ∃ m, w'' = w.drewN m :=
  h.mono fun _ _ ⟨he, hm⟩ => ⟨he, n, hm.symm⟩
theorem cell_lt {w : World} {a : Addr} {v : Value} (h : w.cell? a = some v) : a.block < w.heap.size := by
  unfold World.cell? at h
  rcases Nat.lt_or_ge a.block w.heap.size with hl | hl
  · exact hl
  · rw [Array.getElem?_eq_none hl] at h; cases h
theorem cell_spot {w : World} {a : Addr} {v : Value} (h : w.cell? a = some v) : a.spot = none := by
  unfold World.cell? at h
  split at h
  · split at h
    · cases h
    · cases hs : a.spot with
      | none => rfl
      | some x => simp [hs] at *
  · cases h
/-- a slice of texts that lies in memory -/
def Strs (w : World) (a : Option Addr) (ss : List ByteArray) : Prop := ∀ i (h : i < ss.length), ∃ b off, a = some ⟨b, off, none⟩ ∧ w.cell? ⟨b, off + i, none⟩ = some (.string ss[i])
theorem Strs.below {W w : World} {a : Option Addr} {ss : List ByteArray} (h : Strs W a ss) (hb : Below W.heap.size W w) : Strs w a ss := by
  intro i hi
  obtain ⟨b, off, rfl, hc⟩ := h i hi
  exact ⟨b, off, rfl, by rw [hb.cell (cell_lt hc)]; exact hc⟩
theorem Strs.of_cells {w : World} {a : Addr} {ss : List ByteArray} (h : ∀ i (hi : i < ss.length), w.cell? (a.add i) = some (.string ss[i])) : Strs w (some a) ss := by
  intro i hi
  have h0 := h 0 (by omega)
  have hs : a.spot = none := by
    have : a.add 0 = a := by unfold Addr.add; rw [if_pos rfl]
    rw [this] at h0; exact cell_spot h0
  refine ⟨a.block, a.off, by cases a; simp_all, ?_⟩
  have := h i hi
  have ha : a.add i = ⟨a.block, a.off + i, none⟩ := by
    unfold Addr.add
    split
    · rename_i e; subst e; cases a; simp_all
    · cases a; simp_all
  rw [← ha]; exact this

/-- bytes in memory, as a text -/
theorem bytes_string {P : Program} (w : World) (src e dst : TypeId) (hs : P.underlying src = some (.slice e)) (he : P.underlying e = some (.int .u8)) (hd : P.underlying dst = some .string)
    (b off cap : Nat) (l : List UInt8) (hcell : ∀ i (h : i < l.length), w.cell? ⟨b, off + i, none⟩ = some (.int .u8 l[i].toNat)) (n : Nat) (hn : n = l.length) :
    (convert src dst (.slice (some ⟨b, off, none⟩) n cap)).run P w = .ok (.string ⟨l.toArray⟩) w := by
  subst hn
  have := run_convert_bytes_arg (P := P) w src e hs he b off l.length cap (l.map fun c => (c.toNat : Int)) (by simp) (fun i hi => by
    rw [hcell i hi]; simp [List.getD, List.getElem?_eq_getElem hi]) dst hd
  rw [this]
  unfold strOfNums
  congr 3
  simp
  exact (List.map_congr_left (fun c _ => by simp)).trans (List.map_id l)
/-- a text's bytes in new memory -/
theorem string_bytes {P : Program} (w : World) (src dst e : TypeId) (s : ByteArray) (hs : P.underlying src = some .string) (hd : P.underlying dst = some (.slice e)) (he : P.underlying e = some (.int .u8)) :
    ∃ c w', (convert src dst (.string s)).run P w = .ok (.slice (some ⟨w.heap.size, 0, none⟩) s.size c) w' ∧ Below w.heap.size w w' ∧ w'.heap.size = w.heap.size + 1 ∧ s.size ≤ c ∧
      (∀ j (hj : j < s.size), w'.cell? ⟨w.heap.size, j, none⟩ = some (.int .u8 (s[j].toNat : Int))) ∧ ∀ j, j < s.size → w'.frozen? ⟨w.heap.size, j, none⟩ = false := by
  refine ⟨_, _, Lib.run_convert_string_bytes w src dst e s hs hd he, ⟨?_, ?_, ?_, ?_, ?_⟩, Lib.bytesWorld_size w e s, ?_, ?_, ?_⟩
  · simp [Lib.bytesWorld, World.freeze, World.alloc, World.drew, -World.alloc_eq, -World.drew_eq]
  · simp [Lib.bytesWorld, World.freeze, World.alloc, World.drew, -World.alloc_eq, -World.drew_eq]
  · simp [Lib.bytesWorld, World.freeze, World.alloc, World.drew, -World.alloc_eq, -World.drew_eq]
  · rw [Lib.bytesWorld_size]; omega
  · intro k hk; exact Lib.bytesWorld_at_old w e s k hk
  · unfold grownCap; exact Nat.le_add_right _ _
  · intro j hj
    rw [Lib.bytesWorld_cell w e s j hj]
    simp [List.getD, hj]
    rfl
  · intro j hj
    have hC : s.size ≤ (Lib.bytesCells w e s).size := by unfold Lib.bytesCells; rw [Array.size_append, Array.size_map]; exact Nat.le_add_right _ _
    unfold World.frozen?
    rw [Lib.bytesWorld_at_new]
    simp; omega
end Go.Proofs.YtadhkeboaapfcaaGreatDoor
