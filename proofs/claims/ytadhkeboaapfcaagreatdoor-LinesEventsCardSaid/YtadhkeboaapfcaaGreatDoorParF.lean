/- an event copied into a block of its own. -/
import Derived.Test.YtadhkeboaapfcaaGreatDoorParE
namespace Go.Proofs.YtadhkeboaapfcaaGreatDoor.EvW
open Go.RowKit OctMath NameMath HexMath
set_option linter.unusedVariables false
set_option linter.unusedSimpArgs false

/-- all cells of an event set -/
def putEv (w : World) (B : Nat) (v : Ev) (s : EvS) : World := put14 w B (.int .i64 v.kind) (.int .i64 v.queue) (.int .i64 v.n) (.int .i64 v.aat) (.int .i64 v.lack) (.string (S v.topic)) (.string (S v.group)) (.string (S v.tag)) (.string (S v.key)) (.string (S v.body)) (.slice s.ka v.keys.length s.kc) (.slice s.ta v.tags.length s.tc) (.slice s.pa v.keep.length s.pc) (.bool v.sync)
theorem putEv_below {W w : World} {N B : Nat} (h : Below N W w) (hN : N ≤ B) (v : Ev) (s : EvS) : Below N W (putEv w B v s) := put14_below h hN _ _ _ _ _ _ _ _ _ _ _ _ _ _
theorem mod_set {M : Nat → Prop} {W w : World} {B : Nat} (h : Mod M W w) (hM : M B ∨ W.heap.size ≤ B) (j : Nat) (x : Value) : Mod M W (w.setCell ⟨B, j, none⟩ x) := h.setCell (a := ⟨B, j, none⟩) hM x
theorem putEv_mod {M : Nat → Prop} {W w : World} {B : Nat} (h : Mod M W w) (hM : M B ∨ W.heap.size ≤ B) (v : Ev) (s : EvS) : Mod M W (putEv w B v s) := by
  unfold putEv put14
  iterate 14 refine mod_set ?_ hM _ _
  exact h
theorem putEv_row {w : World} {a : Option Addr} {vs : List Value} (h : Row1 w a vs) {B : Nat} (hne : ∀ ad, a = some ad → ad.block ≠ B) (v : Ev) (s : EvS) : Row1 (putEv w B v s) a vs := by
  unfold putEv put14
  iterate 14 refine row1_set ?_ hne _ _
  exact h
theorem putEv_strs {w : World} {a : Option Addr} {ts : List (List UInt8)} (h : Strs w a (ts.map S)) {B : Nat} (hne : ∀ ad, a = some ad → ad.block ≠ B) (v : Ev) (s : EvS) : Strs (putEv w B v s) a (ts.map S) := by
  unfold putEv put14
  iterate 14 refine strs_set ?_ hne _ _
  exact h
theorem putEv_heap {w : World} {B : Nat} {z : Array Value} (hz : z.size = 14) (h : w.heap[B]? = some (.cells z 25 (0, 0))) (v : Ev) (s : EvS) : (putEv w B v s).heap[B]? = some (.cells (v.cells s) 25 (0, 0)) := put14_heap hz h _ _ _ _ _ _ _ _ _ _ _ _ _ _
/-- where an event's slices lie -/
structure EvFrom (N : Nat) (s : EvS) : Prop where
  ka : ∀ ad, s.ka = some ad → N ≤ ad.block
  ta : ∀ ad, s.ta = some ad → N ≤ ad.block
  pa : ∀ ad, s.pa = some ad → N ≤ ad.block
theorem EvFrom.mono {M N : Nat} {s : EvS} (h : EvFrom N s) (hMN : M ≤ N) : EvFrom M s := ⟨fun ad e => Nat.le_trans hMN (h.ka ad e), fun ad e => Nat.le_trans hMN (h.ta ad e), fun ad e => Nat.le_trans hMN (h.pa ad e)⟩
theorem EvAt.from_ {B : Nat} {w : World} {v : Ev} {s : EvS} (h : EvAt B w v s) : EvFrom (B + 1) s := ⟨h.ka, h.ta, h.pa⟩
theorem putEv_in {w : World} {v : Ev} {s : EvS} (h : EvIn w v s) {B N : Nat} (hF : EvFrom N s) (hB : B < N) (v' : Ev) (s' : EvS) : EvIn (putEv w B v' s') v s :=
  ⟨putEv_strs h.keys (fun ad e => by have := hF.ka ad e; omega) v' s', putEv_strs h.tags (fun ad e => by have := hF.ta ad e; omega) v' s', putEv_row h.keep (fun ad e => by have := hF.pa ad e; omega) v' s'⟩

/-- a kind's event, with nothing else -/
def ev0 (k : Int) : Ev := ⟨k, 0, 0, 0, 0, [], [], [], [], [], [], [], [], false⟩
def evs0 : EvS := ⟨none, 0, none, 0, none, 0⟩
theorem ev0_in (w : World) (k : Int) : EvIn w (ev0 k) evs0 := ⟨fun i hi => absurd hi (by simp [ev0]), fun i hi => absurd hi (by simp [ev0]), fun i hi => absurd hi (by simp [ev0])⟩
/-- what letters set, of words -/
def setsF (v : Ev) : List UInt8 → List (List UInt8) → Ev
  | [], _ => v
  | _ :: _, [] => v
  | c :: cs, w :: ws => if c = 102 then { v with tags := filterL (w :: ws) } else setsF (set1 v c w) cs ws
def readL (l : List UInt8) : Ev :=
  if kindL ((splitC 32 l).headD []) < 1 then ev0 (kindL ((splitC 32 l).headD [])) else setsF (ev0 (kindL ((splitC 32 l).headD []))) (verbL (kindL ((splitC 32 l).headD [])).toNat) (splitC 32 l).tail
end Go.Proofs.YtadhkeboaapfcaaGreatDoor.EvW
