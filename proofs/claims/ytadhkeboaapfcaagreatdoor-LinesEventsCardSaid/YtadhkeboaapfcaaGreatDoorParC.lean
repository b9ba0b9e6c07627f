/- an event in memory that may be written; what lines.set sets. -/
import Derived.Test.YtadhkeboaapfcaaGreatDoorParB
import Derived.Test.YtadhkeboaapfcaaGreatDoorEvF
namespace Go.Proofs.YtadhkeboaapfcaaGreatDoor.EvW
open Go.RowKit OctMath NameMath HexMath
set_option linter.unusedVariables false
set_option linter.unusedSimpArgs false

/-- an event in block B, its slices in others -/
structure EvAt (B : Nat) (w : World) (v : Ev) (s : EvS) : Prop where
  cells : w.heap[B]? = some (.cells (v.cells s) 25 (0, 0))
  ev : EvIn w v s
  ka : ∀ ad, s.ka = some ad → B < ad.block
  ta : ∀ ad, s.ta = some ad → B < ad.block
  pa : ∀ ad, s.pa = some ad → B < ad.block
theorem EvAt.lt {B : Nat} {w : World} {v : Ev} {s : EvS} (h : EvAt B w v s) : B < w.heap.size := (Array.getElem?_eq_some_iff.1 h.cells).1
theorem EvAt.below {B : Nat} {W w : World} {v : Ev} {s : EvS} (h : EvAt B W v s) (hb : Below W.heap.size W w) : EvAt B w v s :=
  ⟨(hb.block B h.lt).trans h.cells, h.ev.below hb, h.ka, h.ta, h.pa⟩
theorem EvAt.boxed {B : Nat} {w : World} {v : Ev} {s : EvS} (h : EvAt B w v s) : Boxed w B (v.cells s) := fun k x hx => by
  unfold World.cell?; rw [show w.heap[(⟨B, k, none⟩ : Addr).block]? = _ from h.cells]; exact hx
theorem gt_ne {a : Option Addr} {B : Nat} (h : ∀ ad, a = some ad → B < ad.block) : ∀ ad, a = some ad → ad.block ≠ B := fun ad e => Nat.ne_of_gt (h ad e)
theorem row1_set {w : World} {a : Option Addr} {vs : List Value} (h : Row1 w a vs) {B : Nat} (hne : ∀ ad, a = some ad → ad.block ≠ B) (k : Nat) (x : Value) : Row1 (w.setCell ⟨B, k, none⟩ x) a vs := by
  intro i hi
  obtain ⟨b, off, rfl, hc⟩ := h i hi
  refine ⟨b, off, rfl, ?_⟩
  rw [World.cell?_setCell_other _ _ _ _ (fun e => hne _ rfl (by have := congrArg Addr.block e; simpa using this.symm))]
  exact hc
theorem strs_set {w : World} {a : Option Addr} {ts : List (List UInt8)} (h : Strs w a (ts.map S)) {B : Nat} (hne : ∀ ad, a = some ad → ad.block ≠ B) (k : Nat) (x : Value) : Strs (w.setCell ⟨B, k, none⟩ x) a (ts.map S) := by
  apply Row1.to_strs
  exact row1_set (Row1.of_strs h) hne k x
theorem EvAt.put {B : Nat} {w : World} {v : Ev} {s : EvS} (h : EvAt B w v s) (k : Nat) (x : Value) (v' : Ev) (he : (v.cells s).setIfInBounds k x = v'.cells s) (hk : v'.keys = v.keys) (ht : v'.tags = v.tags) (hp : v'.keep = v.keep) : EvAt B (w.setCell ⟨B, k, none⟩ x) v' s := by
  refine ⟨by rw [← he]; exact heap_setCell_same w B k _ _ x h.cells, ⟨?_, ?_, ?_⟩, h.ka, h.ta, h.pa⟩
  · rw [hk]; exact strs_set h.ev.keys (gt_ne h.ka) k x
  · rw [ht]; exact strs_set h.ev.tags (gt_ne h.ta) k x
  · rw [hp]; exact row1_set h.ev.keep (gt_ne h.pa) k x
theorem EvAt.putKeys {B : Nat} {w : World} {v : Ev} {s : EvS} (h : EvAt B w v s) (a : Option Addr) (c : Nat) (ls : List (List UInt8)) (hne : ∀ ad, a = some ad → B < ad.block) (hS : Strs w a (ls.map S)) : EvAt B (w.setCell ⟨B, 10, none⟩ (.slice a ls.length c)) { v with keys := ls } { s with ka := a, kc := c } :=
  ⟨heap_setCell_same w B 10 _ _ _ h.cells, ⟨strs_set hS (gt_ne hne) _ _, strs_set h.ev.tags (gt_ne h.ta) _ _, row1_set h.ev.keep (gt_ne h.pa) _ _⟩, hne, h.ta, h.pa⟩
theorem EvAt.putTags {B : Nat} {w : World} {v : Ev} {s : EvS} (h : EvAt B w v s) (a : Option Addr) (c : Nat) (ls : List (List UInt8)) (hne : ∀ ad, a = some ad → B < ad.block) (hS : Strs w a (ls.map S)) : EvAt B (w.setCell ⟨B, 11, none⟩ (.slice a ls.length c)) { v with tags := ls } { s with ta := a, tc := c } :=
  ⟨heap_setCell_same w B 11 _ _ _ h.cells, ⟨strs_set h.ev.keys (gt_ne h.ka) _ _, strs_set hS (gt_ne hne) _ _, row1_set h.ev.keep (gt_ne h.pa) _ _⟩, h.ka, hne, h.pa⟩
theorem EvAt.putKeep {B : Nat} {w : World} {v : Ev} {s : EvS} (h : EvAt B w v s) (a : Option Addr) (c : Nat) (ls : List Bool) (hne : ∀ ad, a = some ad → B < ad.block) (hS : Row1 w a (ls.map .bool)) : EvAt B (w.setCell ⟨B, 12, none⟩ (.slice a ls.length c)) { v with keep := ls } { s with pa := a, pc := c } :=
  ⟨heap_setCell_same w B 12 _ _ _ h.cells, ⟨strs_set h.ev.keys (gt_ne h.ka) _ _, strs_set h.ev.tags (gt_ne h.ta) _ _, row1_set hS (gt_ne hne) _ _⟩, h.ka, h.ta, hne⟩

/-- what a letter's word sets -/
def set1 (v : Ev) (c : UInt8) (l : List UInt8) : Ev :=
  if c = 84 then { v with topic := l } else if c = 71 then { v with group := l } else if c = 81 then { v with queue := atoiV l } else if c = 78 then { v with n := atoiV l }
  else if c = 65 then { v with aat := atoiV l } else if c = 76 then { v with lack := atoiV l } else if c = 116 then { v with tag := if l = [46] then [] else l } else if c = 107 then { v with keys := unkeysL l }
  else if c = 98 then { v with body := (unhexL l).1 } else if c = 120 then { v with key := (unhexL l).1 } else if c = 112 then { v with keep := truthsL l } else if c = 115 then { v with sync := true } else v
end Go.Proofs.YtadhkeboaapfcaaGreatDoor.EvW
