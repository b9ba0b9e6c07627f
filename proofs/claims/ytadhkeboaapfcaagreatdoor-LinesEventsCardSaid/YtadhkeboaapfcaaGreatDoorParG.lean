/- lines.read. -/
import Derived.Test.YtadhkeboaapfcaaGreatDoorParF
import Derived.Test.YtadhkeboaapfcaaGreatDoorEvH
import Derived.Deep.DeepCutAuto
namespace Go.Proofs.YtadhkeboaapfcaaGreatDoor.EvW
open Go.RowKit OctMath NameMath HexMath
set_option linter.unusedVariables false
set_option linter.unusedSimpArgs false
set_option maxRecDepth 100000

theorem kindL_bounds (x : List UInt8) : kindL x = -1 ∨ (0 ≤ kindL x ∧ kindL x < 16) := by
  rcases kind_bounds x 16 0 with h | h
  · exact .inl h
  · exact .inr ⟨by have := h.1; unfold kindL; omega, by have := h.2; unfold kindL; omega⟩
theorem row1_get {w : World} {b off : Nat} {vs : List Value} (h : Row1 w (some ⟨b, off, none⟩) vs) (i : Nat) (hi : i < vs.length) : w.cell? ⟨b, off + i, none⟩ = some vs[i] := by
  obtain ⟨b', off', he, hc⟩ := h i hi
  cases he
  exact hc

theorem strs_iterAt {w : World} {B p : Nat} {a : Option Addr} {ts : List (List UInt8)} (h : Strs w a (ts.map S)) {s : ByteArray} (hit : w.heap[B]? = some (.stringIter s p)) (s' : ByteArray) (q : Nat) : Strs (w.iterAt B s' q) a (ts.map S) := by
  intro i hi
  obtain ⟨b, off, rfl, hc⟩ := h i hi
  refine ⟨b, off, rfl, ?_⟩
  have hne : b ≠ B := by
    rintro rfl
    unfold World.cell? at hc
    simp only [hit] at hc
    cases hc
  rw [← hc]
  exact World.cell?_of_block (w := w) (Lib.iterAt_other w B b s' q hne)
theorem row1_iterAt {w : World} {B p : Nat} {a : Option Addr} {vs : List Value} (h : Row1 w a vs) {s : ByteArray} (hit : w.heap[B]? = some (.stringIter s p)) (s' : ByteArray) (q : Nat) : Row1 (w.iterAt B s' q) a vs := by
  intro i hi
  obtain ⟨b, off, rfl, hc⟩ := h i hi
  refine ⟨b, off, rfl, ?_⟩
  have hne : b ≠ B := by
    rintro rfl
    unfold World.cell? at hc
    simp only [hit] at hc
    cases hc
  rw [← hc]
  exact World.cell?_of_block (w := w) (Lib.iterAt_other w B b s' q hne)
theorem EvAt.iterAt {w : World} {A B p : Nat} {v : Ev} {s : EvS} (h : EvAt A w v s) {x : ByteArray} (hit : w.heap[B]? = some (.stringIter x p)) (x' : ByteArray) (q : Nat) : EvAt A (w.iterAt B x' q) v s := by
  refine ⟨(Lib.iterAt_other w B A x' q ?_).trans h.cells, ⟨strs_iterAt h.ev.keys hit x' q, strs_iterAt h.ev.tags hit x' q, row1_iterAt h.ev.keep hit x' q⟩, h.ka, h.ta, h.pa⟩
  rintro rfl
  have := h.cells; rw [hit] at this; cases this
def readW (ws : List (List UInt8)) : Ev := if kindL (ws.headD []) < 1 then ev0 (kindL (ws.headD [])) else setsF (ev0 (kindL (ws.headD []))) (verbL (kindL (ws.headD [])).toNat) ws.tail
theorem readW_cons (w0 : List UInt8) (wt : List (List UInt8)) : readW (w0 :: wt) = if kindL w0 < 1 then ev0 (kindL w0) else setsF (ev0 (kindL w0)) (verbL (kindL w0).toNat) wt := rfl
set_option maxHeartbeats 6400000 in
theorem read_any (l : List UInt8) (hl : l.length ≤ 1048576) (W : World) (henv : Env W) :
    Calls Tryz.prog 34 #[.string (S l)] W fun e w' => ∃ s', e = .returned (.agg ((readL l).cells s')) ∧ EvIn w' (readL l) s' ∧ EvFrom W.heap.size s' ∧ (readL l).tags.length ≤ s'.tc ∧ Below W.heap.size W w' := by
  have HE := Lib.hid henv
  have HR0 : Hid (readL l = readW (splitC 32 l)) := rfl
  have HSP := Lib.hid (fun w h => split_any 32 l (by omega) w h)
  have hwl := splitC_len 32 l
  have HWE := Lib.hid (splitC_elem 32 l)
  have hne := splitC_ne 32 l
  clear henv
  go_enter Tryz.func34, Tryz.ntmps34
  go_wp2_with fail
  generalize splitC 32 l = ws at *
  obtain ⟨w0, wt, rfl⟩ : ∃ w0 wt, ws = w0 :: wt := by
    cases ws with
    | nil => exact absurd rfl hne
    | cons a b => exact ⟨a, b, rfl⟩
  have HR := Lib.hid (HR0.out.trans (readW_cons w0 wt))
  clear HR0
  have hwn : (w0 :: wt).length = wt.length + 1 := rfl
  clear hne
  have HB0 : Hid (Below W.heap.size W (W.alloc (.cells #[.int .i64 0, .int .i64 0, .int .i64 0, .int .i64 0, .int .i64 0, .string ⟨#[]⟩, .string ⟨#[]⟩, .string ⟨#[]⟩, .string ⟨#[]⟩, .string ⟨#[]⟩, .slice none 0 0, .slice none 0 0, .slice none 0 0, .bool false] 25))) := (Below.refl _ W).alloc (Nat.le_refl _) _
  refine (HSP.out _ (HE.out.below HB0.out)).mono ?_
  rintro e w1 ⟨rfl, rfl⟩
  have hzz0 : ∃ z : Array Value, z.size = 14 ∧ ((W.alloc (.cells #[.int .i64 0, .int .i64 0, .int .i64 0, .int .i64 0, .int .i64 0, .string ⟨#[]⟩, .string ⟨#[]⟩, .string ⟨#[]⟩, .string ⟨#[]⟩, .string ⟨#[]⟩, .slice none 0 0, .slice none 0 0, .slice none 0 0, .bool false] 25)).alloc (.cells ((w0 :: wt).map fun x => .string (S x)).toArray 9)).heap[W.heap.size]? = some (.cells z 25 (0, 0)) :=
    ⟨_, rfl, (Below.heap_alloc _ _ _ (by simp)).trans (World.alloc_heap_new W _)⟩
  obtain ⟨z, hzs, hz1⟩ := hzz0
  have HZ1 := Lib.hid hz1
  have HB1 := Lib.hid (HB0.out.alloc HB0.out.size (.cells ((w0 :: wt).map fun x => .string (S x)).toArray 9))
  have HW1 := Lib.hid (strs_new (W.alloc (.cells #[.int .i64 0, .int .i64 0, .int .i64 0, .int .i64 0, .int .i64 0, .string ⟨#[]⟩, .string ⟨#[]⟩, .string ⟨#[]⟩, .string ⟨#[]⟩, .string ⟨#[]⟩, .slice none 0 0, .slice none 0 0, .slice none 0 0, .bool false] 25)) (w0 :: wt) 9)
  rw [World.size_alloc] at HW1 ⊢
  have hs1 : ((W.alloc (.cells #[.int .i64 0, .int .i64 0, .int .i64 0, .int .i64 0, .int .i64 0, .string ⟨#[]⟩, .string ⟨#[]⟩, .string ⟨#[]⟩, .string ⟨#[]⟩, .string ⟨#[]⟩, .slice none 0 0, .slice none 0 0, .slice none 0 0, .bool false] 25)).alloc (.cells ((w0 :: wt).map fun x => .string (S x)).toArray 9)).heap.size = W.heap.size + 2 := by rw [World.size_alloc, World.size_alloc]
  clear hz1 HSP
  generalize ((W.alloc (.cells #[.int .i64 0, .int .i64 0, .int .i64 0, .int .i64 0, .int .i64 0, .string ⟨#[]⟩, .string ⟨#[]⟩, .string ⟨#[]⟩, .string ⟨#[]⟩, .string ⟨#[]⟩, .slice none 0 0, .slice none 0 0, .slice none 0 0, .bool false] 25)).alloc (.cells ((w0 :: wt).map fun x => .string (S x)).toArray 9)) = w1 at *
  clear HB0
  obtain ⟨z0, z1, z2, z3, z4, z5, z6, z7, z8, z9, z10, z11, z12, z13, rfl⟩ := fourteen z hzs
  go_wp2_with fail
  refine (verbs_any _).mono ?_
  rintro e w2 ⟨rfl, rfl⟩
  have hs2 : (w1.alloc (.cells #[.slice (some ⟨W.heap.size + 1, 0, none⟩) (wt.length + 1) (wt.length + 1)] 22)).heap.size = W.heap.size + 3 := by rw [World.size_alloc]; omega
  have HV2 := Lib.hid (Boxed.new (w1.alloc (.cells #[.slice (some ⟨W.heap.size + 1, 0, none⟩) (wt.length + 1) (wt.length + 1)] 22)) verbCells 48)
  rw [hs2] at HV2 ⊢
  have HE2 : Hid (LinW.Ext w1 ((w1.alloc (.cells #[.slice (some ⟨W.heap.size + 1, 0, none⟩) (wt.length + 1) (wt.length + 1)] 22)).alloc (.cells verbCells 48))) := ((Below.refl _ _).alloc (Nat.le_refl _) _).alloc (by simp) _
  have hc3 : ((w1.alloc (.cells #[.slice (some ⟨W.heap.size + 1, 0, none⟩) (wt.length + 1) (wt.length + 1)] 22)).alloc (.cells verbCells 48)).heap[W.heap.size + 2]? = some (.cells #[.slice (some ⟨W.heap.size + 1, 0, none⟩) (wt.length + 1) (wt.length + 1)] 22 (0, 0)) := by
    refine (Below.heap_alloc _ _ _ (by rw [hs2]; omega)).trans ?_
    have := World.alloc_heap_new w1 (.cells #[.slice (some ⟨W.heap.size + 1, 0, none⟩) (wt.length + 1) (wt.length + 1)] 22)
    rw [hs1] at this; exact this
  have HC3 := Lib.hid hc3
  clear hc3
  generalize ((w1.alloc (.cells #[.slice (some ⟨W.heap.size + 1, 0, none⟩) (wt.length + 1) (wt.length + 1)] 22)).alloc (.cells verbCells 48)) = w2 at *
  have HB2 := Lib.hid (HB1.out.trans (Below.mono HE2.out (by omega)))
  have HW2 := Lib.hid (HW1.out.below HE2.out)
  have HZ2 := Lib.hid ((Below.block HE2.out _ (by omega)).trans HZ1.out)
  have HE5 := Lib.hid (HE.out.below HB2.out)
  clear HE2 HB1 HW1 HZ1 hs1 hs2
  have hcb3 : w2.cell? ⟨W.heap.size + 2, 0, none⟩ = some (.slice (some ⟨W.heap.size + 1, 0, none⟩) (wt.length + 1) (wt.length + 1)) := by
    unfold World.cell?; rw [show w2.heap[(⟨W.heap.size + 2, 0, none⟩ : Addr).block]? = _ from HC3.out]; rfl
  have HKA := Lib.hid (kind_any (W.heap.size + 3) (W.heap.size + 2) (W.heap.size + 1) 0 (wt.length + 1) (wt.length + 1) w0 (by omega) w2 HV2.out hcb3 (row1_get HW2.out 0 (by simp)))
  clear hcb3
  have hkb := kindL_bounds w0
  obtain ⟨kk, hkk⟩ : ∃ kk, kindL w0 = kk := ⟨_, rfl⟩
  rw [hkk] at HKA HR hkb
  clear hkk
  go_wp2_with fail
  refine HKA.out.mono ?_
  rintro e w3 ⟨rfl, hb⟩
  have HB3 := Lib.hid (HB2.out.trans (hb.mono HB2.out.size))
  have HW3 := Lib.hid (HW2.out.below hb)
  have HZ3 := Lib.hid ((hb.block _ (Array.getElem?_eq_some_iff.1 HZ2.out).1).trans HZ2.out)
  have HC4 := Lib.hid ((hb.block _ (Array.getElem?_eq_some_iff.1 HC3.out).1).trans HC3.out)
  have hlt3 : W.heap.size + 2 < w3.heap.size := (Array.getElem?_eq_some_iff.1 HC4.out).1
  clear hb HKA HB2 HW2 HZ2 HC3 HV2 HE5
  clear w2 w1
  have hz5 : (w3.alloc (.cells #[.int .i64 kk, .int .i64 0, .int .i64 0, .int .i64 0, .int .i64 0, .string ⟨#[]⟩, .string ⟨#[]⟩, .string ⟨#[]⟩, .string ⟨#[]⟩, .string ⟨#[]⟩, .slice none 0 0, .slice none 0 0, .slice none 0 0, .bool false] 25)).heap[w3.heap.size]? = some (.cells ((ev0 kk).cells evs0) 25 (0, 0)) := heap_alloc_new w3 _
  have HA4 : Hid (EvAt w3.heap.size (w3.alloc (.cells #[.int .i64 kk, .int .i64 0, .int .i64 0, .int .i64 0, .int .i64 0, .string ⟨#[]⟩, .string ⟨#[]⟩, .string ⟨#[]⟩, .string ⟨#[]⟩, .string ⟨#[]⟩, .slice none 0 0, .slice none 0 0, .slice none 0 0, .bool false] 25)) (ev0 kk) evs0) := ⟨hz5, ev0_in _ _, fun ad h => absurd h (by simp [evs0]), fun ad h => absurd h (by simp [evs0]), fun ad h => absurd h (by simp [evs0])⟩
  have HB4 : Hid (Below W.heap.size W (w3.alloc (.cells #[.int .i64 kk, .int .i64 0, .int .i64 0, .int .i64 0, .int .i64 0, .string ⟨#[]⟩, .string ⟨#[]⟩, .string ⟨#[]⟩, .string ⟨#[]⟩, .string ⟨#[]⟩, .slice none 0 0, .slice none 0 0, .slice none 0 0, .bool false] 25))) := HB3.out.alloc HB3.out.size _
  have HX4 : Hid (LinW.Ext w3 (w3.alloc (.cells #[.int .i64 kk, .int .i64 0, .int .i64 0, .int .i64 0, .int .i64 0, .string ⟨#[]⟩, .string ⟨#[]⟩, .string ⟨#[]⟩, .string ⟨#[]⟩, .string ⟨#[]⟩, .slice none 0 0, .slice none 0 0, .slice none 0 0, .bool false] 25))) := (Below.refl _ _).alloc (Nat.le_refl _) _
  clear hz5
  have HZ4 := Lib.hid ((Below.block HX4.out _ (by omega)).trans HZ3.out)
  have HC5 := Lib.hid ((Below.block HX4.out _ hlt3).trans HC4.out)
  have HW4 := Lib.hid (HW3.out.below HX4.out)
  have hs4 : (w3.alloc (.cells #[.int .i64 kk, .int .i64 0, .int .i64 0, .int .i64 0, .int .i64 0, .string ⟨#[]⟩, .string ⟨#[]⟩, .string ⟨#[]⟩, .string ⟨#[]⟩, .string ⟨#[]⟩, .slice none 0 0, .slice none 0 0, .slice none 0 0, .bool false] 25)).heap.size = w3.heap.size + 1 := World.size_alloc _ _
  clear HX4 HZ3 HC4 HW3 HB3
  by_cases hk1 : kk < 1
  · have HT : Hid (readL l = ev0 kk) := by show _ = _; rw [HR.out, if_pos hk1]
    clear HR HC5 HW4
    have hd1 : decide (kk < 1) = true := decide_eq_true hk1
    have HCAP : Hid ((ev0 kk).tags.length ≤ evs0.tc) := Nat.le_refl _
    have hzz := HZ4.out
    have hzf := HZ4.out
    have d0 : (w3.alloc (.cells #[.int .i64 kk, .int .i64 0, .int .i64 0, .int .i64 0, .int .i64 0, .string ⟨#[]⟩, .string ⟨#[]⟩, .string ⟨#[]⟩, .string ⟨#[]⟩, .string ⟨#[]⟩, .slice none 0 0, .slice none 0 0, .slice none 0 0, .bool false] 25)).cell? ⟨W.heap.size, 0, none⟩ = some z0 := by unfold World.cell?; rw [show (w3.alloc (.cells #[.int .i64 kk, .int .i64 0, .int .i64 0, .int .i64 0, .int .i64 0, .string ⟨#[]⟩, .string ⟨#[]⟩, .string ⟨#[]⟩, .string ⟨#[]⟩, .string ⟨#[]⟩, .slice none 0 0, .slice none 0 0, .slice none 0 0, .bool false] 25)).heap[(⟨W.heap.size, 0, none⟩ : Addr).block]? = _ from hzf]; rfl
    have d1 : (w3.alloc (.cells #[.int .i64 kk, .int .i64 0, .int .i64 0, .int .i64 0, .int .i64 0, .string ⟨#[]⟩, .string ⟨#[]⟩, .string ⟨#[]⟩, .string ⟨#[]⟩, .string ⟨#[]⟩, .slice none 0 0, .slice none 0 0, .slice none 0 0, .bool false] 25)).cell? ⟨W.heap.size, 1, none⟩ = some z1 := by unfold World.cell?; rw [show (w3.alloc (.cells #[.int .i64 kk, .int .i64 0, .int .i64 0, .int .i64 0, .int .i64 0, .string ⟨#[]⟩, .string ⟨#[]⟩, .string ⟨#[]⟩, .string ⟨#[]⟩, .string ⟨#[]⟩, .slice none 0 0, .slice none 0 0, .slice none 0 0, .bool false] 25)).heap[(⟨W.heap.size, 1, none⟩ : Addr).block]? = _ from hzf]; rfl
    have d2 : (w3.alloc (.cells #[.int .i64 kk, .int .i64 0, .int .i64 0, .int .i64 0, .int .i64 0, .string ⟨#[]⟩, .string ⟨#[]⟩, .string ⟨#[]⟩, .string ⟨#[]⟩, .string ⟨#[]⟩, .slice none 0 0, .slice none 0 0, .slice none 0 0, .bool false] 25)).cell? ⟨W.heap.size, 2, none⟩ = some z2 := by unfold World.cell?; rw [show (w3.alloc (.cells #[.int .i64 kk, .int .i64 0, .int .i64 0, .int .i64 0, .int .i64 0, .string ⟨#[]⟩, .string ⟨#[]⟩, .string ⟨#[]⟩, .string ⟨#[]⟩, .string ⟨#[]⟩, .slice none 0 0, .slice none 0 0, .slice none 0 0, .bool false] 25)).heap[(⟨W.heap.size, 2, none⟩ : Addr).block]? = _ from hzf]; rfl
    have d3 : (w3.alloc (.cells #[.int .i64 kk, .int .i64 0, .int .i64 0, .int .i64 0, .int .i64 0, .string ⟨#[]⟩, .string ⟨#[]⟩, .string ⟨#[]⟩, .string ⟨#[]⟩, .string ⟨#[]⟩, .slice none 0 0, .slice none 0 0, .slice none 0 0, .bool false] 25)).cell? ⟨W.heap.size, 3, none⟩ = some z3 := by unfold World.cell?; rw [show (w3.alloc (.cells #[.int .i64 kk, .int .i64 0, .int .i64 0, .int .i64 0, .int .i64 0, .string ⟨#[]⟩, .string ⟨#[]⟩, .string ⟨#[]⟩, .string ⟨#[]⟩, .string ⟨#[]⟩, .slice none 0 0, .slice none 0 0, .slice none 0 0, .bool false] 25)).heap[(⟨W.heap.size, 3, none⟩ : Addr).block]? = _ from hzf]; rfl
    have d4 : (w3.alloc (.cells #[.int .i64 kk, .int .i64 0, .int .i64 0, .int .i64 0, .int .i64 0, .string ⟨#[]⟩, .string ⟨#[]⟩, .string ⟨#[]⟩, .string ⟨#[]⟩, .string ⟨#[]⟩, .slice none 0 0, .slice none 0 0, .slice none 0 0, .bool false] 25)).cell? ⟨W.heap.size, 4, none⟩ = some z4 := by unfold World.cell?; rw [show (w3.alloc (.cells #[.int .i64 kk, .int .i64 0, .int .i64 0, .int .i64 0, .int .i64 0, .string ⟨#[]⟩, .string ⟨#[]⟩, .string ⟨#[]⟩, .string ⟨#[]⟩, .string ⟨#[]⟩, .slice none 0 0, .slice none 0 0, .slice none 0 0, .bool false] 25)).heap[(⟨W.heap.size, 4, none⟩ : Addr).block]? = _ from hzf]; rfl
    have d5 : (w3.alloc (.cells #[.int .i64 kk, .int .i64 0, .int .i64 0, .int .i64 0, .int .i64 0, .string ⟨#[]⟩, .string ⟨#[]⟩, .string ⟨#[]⟩, .string ⟨#[]⟩, .string ⟨#[]⟩, .slice none 0 0, .slice none 0 0, .slice none 0 0, .bool false] 25)).cell? ⟨W.heap.size, 5, none⟩ = some z5 := by unfold World.cell?; rw [show (w3.alloc (.cells #[.int .i64 kk, .int .i64 0, .int .i64 0, .int .i64 0, .int .i64 0, .string ⟨#[]⟩, .string ⟨#[]⟩, .string ⟨#[]⟩, .string ⟨#[]⟩, .string ⟨#[]⟩, .slice none 0 0, .slice none 0 0, .slice none 0 0, .bool false] 25)).heap[(⟨W.heap.size, 5, none⟩ : Addr).block]? = _ from hzf]; rfl
    have d6 : (w3.alloc (.cells #[.int .i64 kk, .int .i64 0, .int .i64 0, .int .i64 0, .int .i64 0, .string ⟨#[]⟩, .string ⟨#[]⟩, .string ⟨#[]⟩, .string ⟨#[]⟩, .string ⟨#[]⟩, .slice none 0 0, .slice none 0 0, .slice none 0 0, .bool false] 25)).cell? ⟨W.heap.size, 6, none⟩ = some z6 := by unfold World.cell?; rw [show (w3.alloc (.cells #[.int .i64 kk, .int .i64 0, .int .i64 0, .int .i64 0, .int .i64 0, .string ⟨#[]⟩, .string ⟨#[]⟩, .string ⟨#[]⟩, .string ⟨#[]⟩, .string ⟨#[]⟩, .slice none 0 0, .slice none 0 0, .slice none 0 0, .bool false] 25)).heap[(⟨W.heap.size, 6, none⟩ : Addr).block]? = _ from hzf]; rfl
    have d7 : (w3.alloc (.cells #[.int .i64 kk, .int .i64 0, .int .i64 0, .int .i64 0, .int .i64 0, .string ⟨#[]⟩, .string ⟨#[]⟩, .string ⟨#[]⟩, .string ⟨#[]⟩, .string ⟨#[]⟩, .slice none 0 0, .slice none 0 0, .slice none 0 0, .bool false] 25)).cell? ⟨W.heap.size, 7, none⟩ = some z7 := by unfold World.cell?; rw [show (w3.alloc (.cells #[.int .i64 kk, .int .i64 0, .int .i64 0, .int .i64 0, .int .i64 0, .string ⟨#[]⟩, .string ⟨#[]⟩, .string ⟨#[]⟩, .string ⟨#[]⟩, .string ⟨#[]⟩, .slice none 0 0, .slice none 0 0, .slice none 0 0, .bool false] 25)).heap[(⟨W.heap.size, 7, none⟩ : Addr).block]? = _ from hzf]; rfl
    have d8 : (w3.alloc (.cells #[.int .i64 kk, .int .i64 0, .int .i64 0, .int .i64 0, .int .i64 0, .string ⟨#[]⟩, .string ⟨#[]⟩, .string ⟨#[]⟩, .string ⟨#[]⟩, .string ⟨#[]⟩, .slice none 0 0, .slice none 0 0, .slice none 0 0, .bool false] 25)).cell? ⟨W.heap.size, 8, none⟩ = some z8 := by unfold World.cell?; rw [show (w3.alloc (.cells #[.int .i64 kk, .int .i64 0, .int .i64 0, .int .i64 0, .int .i64 0, .string ⟨#[]⟩, .string ⟨#[]⟩, .string ⟨#[]⟩, .string ⟨#[]⟩, .string ⟨#[]⟩, .slice none 0 0, .slice none 0 0, .slice none 0 0, .bool false] 25)).heap[(⟨W.heap.size, 8, none⟩ : Addr).block]? = _ from hzf]; rfl
    have d9 : (w3.alloc (.cells #[.int .i64 kk, .int .i64 0, .int .i64 0, .int .i64 0, .int .i64 0, .string ⟨#[]⟩, .string ⟨#[]⟩, .string ⟨#[]⟩, .string ⟨#[]⟩, .string ⟨#[]⟩, .slice none 0 0, .slice none 0 0, .slice none 0 0, .bool false] 25)).cell? ⟨W.heap.size, 9, none⟩ = some z9 := by unfold World.cell?; rw [show (w3.alloc (.cells #[.int .i64 kk, .int .i64 0, .int .i64 0, .int .i64 0, .int .i64 0, .string ⟨#[]⟩, .string ⟨#[]⟩, .string ⟨#[]⟩, .string ⟨#[]⟩, .string ⟨#[]⟩, .slice none 0 0, .slice none 0 0, .slice none 0 0, .bool false] 25)).heap[(⟨W.heap.size, 9, none⟩ : Addr).block]? = _ from hzf]; rfl
    have d10 : (w3.alloc (.cells #[.int .i64 kk, .int .i64 0, .int .i64 0, .int .i64 0, .int .i64 0, .string ⟨#[]⟩, .string ⟨#[]⟩, .string ⟨#[]⟩, .string ⟨#[]⟩, .string ⟨#[]⟩, .slice none 0 0, .slice none 0 0, .slice none 0 0, .bool false] 25)).cell? ⟨W.heap.size, 10, none⟩ = some z10 := by unfold World.cell?; rw [show (w3.alloc (.cells #[.int .i64 kk, .int .i64 0, .int .i64 0, .int .i64 0, .int .i64 0, .string ⟨#[]⟩, .string ⟨#[]⟩, .string ⟨#[]⟩, .string ⟨#[]⟩, .string ⟨#[]⟩, .slice none 0 0, .slice none 0 0, .slice none 0 0, .bool false] 25)).heap[(⟨W.heap.size, 10, none⟩ : Addr).block]? = _ from hzf]; rfl
    have d11 : (w3.alloc (.cells #[.int .i64 kk, .int .i64 0, .int .i64 0, .int .i64 0, .int .i64 0, .string ⟨#[]⟩, .string ⟨#[]⟩, .string ⟨#[]⟩, .string ⟨#[]⟩, .string ⟨#[]⟩, .slice none 0 0, .slice none 0 0, .slice none 0 0, .bool false] 25)).cell? ⟨W.heap.size, 11, none⟩ = some z11 := by unfold World.cell?; rw [show (w3.alloc (.cells #[.int .i64 kk, .int .i64 0, .int .i64 0, .int .i64 0, .int .i64 0, .string ⟨#[]⟩, .string ⟨#[]⟩, .string ⟨#[]⟩, .string ⟨#[]⟩, .string ⟨#[]⟩, .slice none 0 0, .slice none 0 0, .slice none 0 0, .bool false] 25)).heap[(⟨W.heap.size, 11, none⟩ : Addr).block]? = _ from hzf]; rfl
    have d12 : (w3.alloc (.cells #[.int .i64 kk, .int .i64 0, .int .i64 0, .int .i64 0, .int .i64 0, .string ⟨#[]⟩, .string ⟨#[]⟩, .string ⟨#[]⟩, .string ⟨#[]⟩, .string ⟨#[]⟩, .slice none 0 0, .slice none 0 0, .slice none 0 0, .bool false] 25)).cell? ⟨W.heap.size, 12, none⟩ = some z12 := by unfold World.cell?; rw [show (w3.alloc (.cells #[.int .i64 kk, .int .i64 0, .int .i64 0, .int .i64 0, .int .i64 0, .string ⟨#[]⟩, .string ⟨#[]⟩, .string ⟨#[]⟩, .string ⟨#[]⟩, .string ⟨#[]⟩, .slice none 0 0, .slice none 0 0, .slice none 0 0, .bool false] 25)).heap[(⟨W.heap.size, 12, none⟩ : Addr).block]? = _ from hzf]; rfl
    have d13 : (w3.alloc (.cells #[.int .i64 kk, .int .i64 0, .int .i64 0, .int .i64 0, .int .i64 0, .string ⟨#[]⟩, .string ⟨#[]⟩, .string ⟨#[]⟩, .string ⟨#[]⟩, .string ⟨#[]⟩, .slice none 0 0, .slice none 0 0, .slice none 0 0, .bool false] 25)).cell? ⟨W.heap.size, 13, none⟩ = some z13 := by unfold World.cell?; rw [show (w3.alloc (.cells #[.int .i64 kk, .int .i64 0, .int .i64 0, .int .i64 0, .int .i64 0, .string ⟨#[]⟩, .string ⟨#[]⟩, .string ⟨#[]⟩, .string ⟨#[]⟩, .string ⟨#[]⟩, .slice none 0 0, .slice none 0 0, .slice none 0 0, .bool false] 25)).heap[(⟨W.heap.size, 13, none⟩ : Addr).block]? = _ from hzf]; rfl
    have hfr : ∀ j, (w3.alloc (.cells #[.int .i64 kk, .int .i64 0, .int .i64 0, .int .i64 0, .int .i64 0, .string ⟨#[]⟩, .string ⟨#[]⟩, .string ⟨#[]⟩, .string ⟨#[]⟩, .string ⟨#[]⟩, .slice none 0 0, .slice none 0 0, .slice none 0 0, .bool false] 25)).frozen? ⟨W.heap.size, j, none⟩ = false := fun j => by unfold World.frozen?; rw [show (w3.alloc (.cells #[.int .i64 kk, .int .i64 0, .int .i64 0, .int .i64 0, .int .i64 0, .string ⟨#[]⟩, .string ⟨#[]⟩, .string ⟨#[]⟩, .string ⟨#[]⟩, .string ⟨#[]⟩, .slice none 0 0, .slice none 0 0, .slice none 0 0, .bool false] 25)).heap[(⟨W.heap.size, j, none⟩ : Addr).block]? = _ from hzf]; rfl
    have HBE := Lib.hid (putEv_below HB4.out (Nat.le_refl _) (ev0 kk) evs0)
    have HZE := Lib.hid (putEv_heap rfl hzz (ev0 kk) evs0)
    have HIE := Lib.hid (putEv_in HA4.out.ev HA4.out.from_ (B := W.heap.size) (by omega) (ev0 kk) evs0)
    have HFE := Lib.hid (HA4.out.from_)
    clear hzz hzf
    go_wp2_with fail
    clear  d0 d1 d2 d3 d4 d5 d6 d7 d8 d9 d10 d11 d12 d13 hfr
    change bodyPost _ _ _ _ _ (putEv (w3.alloc (.cells #[.int .i64 kk, .int .i64 0, .int .i64 0, .int .i64 0, .int .i64 0, .string ⟨#[]⟩, .string ⟨#[]⟩, .string ⟨#[]⟩, .string ⟨#[]⟩, .string ⟨#[]⟩, .slice none 0 0, .slice none 0 0, .slice none 0 0, .bool false] 25)) W.heap.size (ev0 kk) evs0)
    generalize putEv (w3.alloc (.cells #[.int .i64 kk, .int .i64 0, .int .i64 0, .int .i64 0, .int .i64 0, .string ⟨#[]⟩, .string ⟨#[]⟩, .string ⟨#[]⟩, .string ⟨#[]⟩, .string ⟨#[]⟩, .slice none 0 0, .slice none 0 0, .slice none 0 0, .bool false] 25)) W.heap.size (ev0 kk) evs0 = w9 at *
    have hz9 := HZE.out
    have c0 : w9.cell? ⟨W.heap.size, 0, none⟩ = some (.int .i64 (ev0 kk).kind) := by unfold World.cell?; rw [show w9.heap[(⟨W.heap.size, 0, none⟩ : Addr).block]? = _ from hz9]; rfl
    have c1 : w9.cell? ⟨W.heap.size, 1, none⟩ = some (.int .i64 (ev0 kk).queue) := by unfold World.cell?; rw [show w9.heap[(⟨W.heap.size, 1, none⟩ : Addr).block]? = _ from hz9]; rfl
    have c2 : w9.cell? ⟨W.heap.size, 2, none⟩ = some (.int .i64 (ev0 kk).n) := by unfold World.cell?; rw [show w9.heap[(⟨W.heap.size, 2, none⟩ : Addr).block]? = _ from hz9]; rfl
    have c3 : w9.cell? ⟨W.heap.size, 3, none⟩ = some (.int .i64 (ev0 kk).aat) := by unfold World.cell?; rw [show w9.heap[(⟨W.heap.size, 3, none⟩ : Addr).block]? = _ from hz9]; rfl
    have c4 : w9.cell? ⟨W.heap.size, 4, none⟩ = some (.int .i64 (ev0 kk).lack) := by unfold World.cell?; rw [show w9.heap[(⟨W.heap.size, 4, none⟩ : Addr).block]? = _ from hz9]; rfl
    have c5 : w9.cell? ⟨W.heap.size, 5, none⟩ = some (.string (S (ev0 kk).topic)) := by unfold World.cell?; rw [show w9.heap[(⟨W.heap.size, 5, none⟩ : Addr).block]? = _ from hz9]; rfl
    have c6 : w9.cell? ⟨W.heap.size, 6, none⟩ = some (.string (S (ev0 kk).group)) := by unfold World.cell?; rw [show w9.heap[(⟨W.heap.size, 6, none⟩ : Addr).block]? = _ from hz9]; rfl
    have c7 : w9.cell? ⟨W.heap.size, 7, none⟩ = some (.string (S (ev0 kk).tag)) := by unfold World.cell?; rw [show w9.heap[(⟨W.heap.size, 7, none⟩ : Addr).block]? = _ from hz9]; rfl
    have c8 : w9.cell? ⟨W.heap.size, 8, none⟩ = some (.string (S (ev0 kk).key)) := by unfold World.cell?; rw [show w9.heap[(⟨W.heap.size, 8, none⟩ : Addr).block]? = _ from hz9]; rfl
    have c9 : w9.cell? ⟨W.heap.size, 9, none⟩ = some (.string (S (ev0 kk).body)) := by unfold World.cell?; rw [show w9.heap[(⟨W.heap.size, 9, none⟩ : Addr).block]? = _ from hz9]; rfl
    have c10 : w9.cell? ⟨W.heap.size, 10, none⟩ = some (.slice evs0.ka (ev0 kk).keys.length evs0.kc) := by unfold World.cell?; rw [show w9.heap[(⟨W.heap.size, 10, none⟩ : Addr).block]? = _ from hz9]; rfl
    have c11 : w9.cell? ⟨W.heap.size, 11, none⟩ = some (.slice evs0.ta (ev0 kk).tags.length evs0.tc) := by unfold World.cell?; rw [show w9.heap[(⟨W.heap.size, 11, none⟩ : Addr).block]? = _ from hz9]; rfl
    have c12 : w9.cell? ⟨W.heap.size, 12, none⟩ = some (.slice evs0.pa (ev0 kk).keep.length evs0.pc) := by unfold World.cell?; rw [show w9.heap[(⟨W.heap.size, 12, none⟩ : Addr).block]? = _ from hz9]; rfl
    have c13 : w9.cell? ⟨W.heap.size, 13, none⟩ = some (.bool (ev0 kk).sync) := by unfold World.cell?; rw [show w9.heap[(⟨W.heap.size, 13, none⟩ : Addr).block]? = _ from hz9]; rfl
    refine bodyPost_ret (v := .agg ((ev0 kk).cells evs0)) ?_ rfl ⟨evs0, by rw [HT.out], by rw [HT.out]; exact HIE.out, HFE.out.mono (by omega), by rw [HT.out]; exact HCAP.out, HBE.out⟩
    clear hz9 HZE HIE HFE HBE
    simp [results, Tryz.results34, go_sem, Ev.cells, c0, c1, c2, c3, c4, c5, c6, c7, c8, c9, c10, c11, c12, c13]
  obtain ⟨k, rfl⟩ : ∃ k : Nat, kk = k := ⟨kk.toNat, by omega⟩
  have hk16 : k < 16 := by omega
  have HT0 : Hid (readL l = setsF (ev0 k) (verbL k) wt) := by show _ = _; rw [HR.out, if_neg hk1, Int.toNat_natCast]
  have hd1 : decide ((k : Int) < 1) = false := decide_eq_false hk1
  clear HR hk1 hkb
  go_wp2_with fail
  refine (verbs_any _).mono ?_
  rintro e w5 ⟨rfl, rfl⟩
  rw [hs4]
  have HV5 := Lib.hid (Boxed.new (w3.alloc (.cells #[.int .i64 (k : Int), .int .i64 0, .int .i64 0, .int .i64 0, .int .i64 0, .string ⟨#[]⟩, .string ⟨#[]⟩, .string ⟨#[]⟩, .string ⟨#[]⟩, .string ⟨#[]⟩, .slice none 0 0, .slice none 0 0, .slice none 0 0, .bool false] 25)) verbCells 48)
  rw [hs4] at HV5
  have HX5 : Hid (LinW.Ext (w3.alloc (.cells #[.int .i64 (k : Int), .int .i64 0, .int .i64 0, .int .i64 0, .int .i64 0, .string ⟨#[]⟩, .string ⟨#[]⟩, .string ⟨#[]⟩, .string ⟨#[]⟩, .string ⟨#[]⟩, .slice none 0 0, .slice none 0 0, .slice none 0 0, .bool false] 25)) ((w3.alloc (.cells #[.int .i64 (k : Int), .int .i64 0, .int .i64 0, .int .i64 0, .int .i64 0, .string ⟨#[]⟩, .string ⟨#[]⟩, .string ⟨#[]⟩, .string ⟨#[]⟩, .string ⟨#[]⟩, .slice none 0 0, .slice none 0 0, .slice none 0 0, .bool false] 25)).alloc (.cells verbCells 48))) := (Below.refl _ _).alloc (Nat.le_refl _) _
  have hs5 : ((w3.alloc (.cells #[.int .i64 (k : Int), .int .i64 0, .int .i64 0, .int .i64 0, .int .i64 0, .string ⟨#[]⟩, .string ⟨#[]⟩, .string ⟨#[]⟩, .string ⟨#[]⟩, .string ⟨#[]⟩, .slice none 0 0, .slice none 0 0, .slice none 0 0, .bool false] 25)).alloc (.cells verbCells 48)).heap.size = w3.heap.size + 2 := by rw [World.size_alloc, hs4]
  generalize ((w3.alloc (.cells #[.int .i64 (k : Int), .int .i64 0, .int .i64 0, .int .i64 0, .int .i64 0, .string ⟨#[]⟩, .string ⟨#[]⟩, .string ⟨#[]⟩, .string ⟨#[]⟩, .string ⟨#[]⟩, .slice none 0 0, .slice none 0 0, .slice none 0 0, .bool false] 25)).alloc (.cells verbCells 48)) = w5 at *
  have HA5 := Lib.hid (HA4.out.below HX5.out)
  have HB5 := Lib.hid (HB4.out.trans (Below.mono HX5.out (by rw [hs4]; omega)))
  have HZ5 := Lib.hid ((Below.block HX5.out _ (by rw [hs4]; omega)).trans HZ4.out)
  have HC6 := Lib.hid ((Below.block HX5.out _ (by rw [hs4]; omega)).trans HC5.out)
  have HW5 := Lib.hid (HW4.out.below HX5.out)
  clear HX5 HA4 HB4 HZ4 HC5 HW4 hs4
  have hlc := HV5.out (2 * k + 1) _ (verb_cells k hk16).2
  rw [Nat.mul_comm] at hlc
  have hasc := verbL_ascii k
  have hsz := S_size (verbL k)
  have hlen := verbL_len k
  clear HV5
  generalize verbL k = letters at *
  have hk16' : (k : Int) < 16 := by omega
  go_wp2_with fail
  clear hlc
  go_loopg [] letters.length (fun gf wx => ∃ (j : Nat) (v : Ev) (s : EvS), j + gf = letters.length ∧ Hid (readL l = setsF v (letters.drop j) (wt.drop j)) ∧ Hid (wx.heap[w3.heap.size + 2]? = some (.stringIter (S letters) j)) ∧ Hid (EvAt w3.heap.size wx v s) ∧ Hid (wx.heap[W.heap.size]? = some (.cells #[z0, z1, z2, z3, z4, z5, z6, z7, z8, z9, z10, z11, z12, z13] 25 (0, 0))) ∧ Hid (wx.heap[W.heap.size + 2]? = some (.cells #[.slice (some ⟨W.heap.size + 1, 0, none⟩) (wt.length + 1) (wt.length + 1)] 22 (0, 0))) ∧ Hid (Row1 wx (some ⟨W.heap.size + 1, 0, none⟩) ((w0 :: wt).map fun x => .string (S x))) ∧ Hid (Below W.heap.size W wx) ∧ Hid (v.tags.length ≤ s.tc))
  case atStart =>
    have HX6 : Hid (LinW.Ext w5 (w5.iter (S letters) 0)) := (Below.refl _ _).alloc (Nat.le_refl _) _
    refine ⟨0, ev0 k, evs0, by omega, HT0, ?_, HA5.out.below HX6.out, (Below.block HX6.out _ (by omega)).trans HZ5.out, (Below.block HX6.out _ (by omega)).trans HC6.out, HW5.out.below HX6.out, HB5.out.trans (Below.mono HX6.out (by omega)), Nat.le_refl _⟩
    have := World.alloc_heap_new w5 (.stringIter (S letters) 0)
    rw [hs5] at this; exact this
  case round =>
    obtain ⟨j, v, s, hj, HT, HIT, HA, HZ, HC, HWR, HB, HCAP⟩ := hrel
    by_cases hlt2 : j < letters.length
    · obtain ⟨g', rfl⟩ : ∃ g', gk = g' + 1 := ⟨gk - 1, by omega⟩
      have hnx : ∀ ty, (Instr.next (.pointer (some ⟨w3.heap.size + 2, 0, none⟩)) true ty).run Tryz.prog wr = _ := fun ty => Lib.run_next_any_at wr (w3.heap.size + 2) (S letters) j ty HIT.out (by rw [hsz]; exact hlt2)
      have hasc2 : letters[j].toNat < 128 := hasc _ (List.getElem_mem hlt2)
      rw [NameMath.decode_ascii letters j hlt2 hasc2] at hnx
      simp only [] at hnx
      have hdl : letters.drop j = letters[j] :: letters.drop (j + 1) := List.drop_eq_getElem_cons hlt2
      have HT2 := Lib.hid (HT.out.trans (by rw [hdl]))
      clear hdl HT
      have HI2 := Lib.hid (Lib.iterAt_heap wr (w3.heap.size + 2) (S letters) j (j + 1) HIT.out)
      have HA2 := Lib.hid (HA.out.iterAt HIT.out (S letters) (j + 1))
      have HZ2 := Lib.hid ((Lib.iterAt_other wr (w3.heap.size + 2) W.heap.size (S letters) (j + 1) (by omega)).trans HZ.out)
      have HC2 := Lib.hid ((Lib.iterAt_other wr (w3.heap.size + 2) (W.heap.size + 2) (S letters) (j + 1) (by omega)).trans HC.out)
      have HW2 := Lib.hid (row1_iterAt HWR.out HIT.out (S letters) (j + 1))
      have HB2 := Lib.hid (Lib.below_iterAt HB.out (k := w3.heap.size + 2) (by omega) (S letters) (j + 1))
      clear HIT HA HZ HC HWR HB
      obtain ⟨w2, hw2⟩ : ∃ w2, wr.iterAt (w3.heap.size + 2) (S letters) (j + 1) = w2 := ⟨_, rfl⟩
      rw [hw2] at hnx HI2 HA2 HZ2 HC2 HW2 HB2
      clear hw2
      generalize letters[j] = c at *
      have hcell3 : w2.cell? ⟨W.heap.size + 2, 0, none⟩ = some (.slice (some ⟨W.heap.size + 1, 0, none⟩) (wt.length + 1) (wt.length + 1)) := by
        unfold World.cell?; rw [show w2.heap[(⟨W.heap.size + 2, 0, none⟩ : Addr).block]? = _ from HC2.out]; rfl
      by_cases hjw : j < wt.length
      · have hwd : wt.drop j = wt[j] :: wt.drop (j + 1) := List.drop_eq_getElem_cons hjw
        have hx : w2.cell? ⟨W.heap.size + 1, j + 1, none⟩ = some (.string (S wt[j])) := by
          have := row1_get HW2.out (j + 1) (by simp; omega)
          simpa using this
        have hwl2 : wt[j].length ≤ 1048576 := Nat.le_trans (HWE.out _ (List.mem_cons_of_mem _ (List.getElem_mem hjw))) hl
        have hdg : decide ((wt.length : Int) + 1 ≤ (j : Int) + 1) = false := decide_eq_false (by omega)
        by_cases hc : c = 102
        · subst hc
          have HT3 : Hid (readL l = { v with tags := filterL (wt.drop j) }) := by
            show _ = _
            rw [HT2.out, hwd]; rfl
          have hrow : Row1 w2 (some ⟨W.heap.size + 1, j + 1, none⟩) ((wt.drop j).map fun x => .string (S x)) := by
            intro i hi
            rw [List.length_map, List.length_drop] at hi
            refine ⟨_, _, rfl, ?_⟩
            have := row1_get HW2.out (j + 1 + i) (by simp; omega)
            rw [Nat.zero_add] at this
            rw [this]
            simp [Nat.add_right_comm j 1 i]
          have hdlen : (wt.drop j).length = wt.length - j := List.length_drop ..
          have HF := Lib.hid (filter_any (some ⟨W.heap.size + 1, j + 1, none⟩) (wt.length - j) (wt.drop j) (by rw [hdlen]; omega) w2 hrow)
          rw [hdlen] at HF
          clear hrow hwd hx HT2
          have hjn : ¬ wt.length ≤ j := by omega
          go_wp2_with fail
          refine HF.out.mono ?_
          rintro e w4 ⟨_, rfl, ⟨a, cp, rfl, hN, hS⟩, hb, ⟨a', n', c', hvc, hcp⟩⟩
          replace HCAP : Hid ((filterL (wt.drop j)).length ≤ cp) := by cases hvc; exact hcp
          clear hvc hcp
          have hlt5 := HA2.out.lt
          have HA4 := Lib.hid (HA2.out.below hb)
          have HNE : Hid (∀ ad, a = some ad → w3.heap.size < ad.block) := fun ad ha => by have := hN ad ha; omega
          have HA9 := Lib.hid (HA4.out.putTags a cp _ HNE.out hS)
          have HB4 := Lib.hid (HB2.out.trans (hb.mono HB2.out.size))
          have HZ4 := Lib.hid ((hb.block _ (Array.getElem?_eq_some_iff.1 HZ2.out).1).trans HZ2.out)
          have HB9 := Lib.hid (HB4.out.setCell (p := ⟨w3.heap.size, 11, none⟩) (by show W.heap.size ≤ w3.heap.size; omega) (.slice a (filterL (wt.drop j)).length cp))
          have HZ9 := Lib.hid ((heap_setCell_other w4 ⟨w3.heap.size, 11, none⟩ W.heap.size (.slice a (filterL (wt.drop j)).length cp) (by show W.heap.size ≠ w3.heap.size; omega)).trans HZ4.out)
          have hf11 : w4.frozen? ⟨w3.heap.size, 11, none⟩ = false := by unfold World.frozen?; rw [show w4.heap[(⟨w3.heap.size, 11, none⟩ : Addr).block]? = _ from HA4.out.cells]; rfl
          clear hN hS hb HF hcell3 hnx HA2 HB2 HZ2 HC2 HW2 HI2
          have hc11 : w4.cell? ⟨w3.heap.size, 11, none⟩ = some (.slice s.ta v.tags.length s.tc) := HA4.out.boxed 11 _ rfl
          generalize filterL (wt.drop j) = fl at *
          go_upto_region 13 with fail
          clear hf11 hc11 HA4 HZ4 HB4
          generalize (w4.setCell ⟨w3.heap.size, 11, none⟩ (.slice a fl.length cp)) = w5 at *
          have hvv : ∃ v9 s9, ({ v with tags := fl } : Ev) = v9 ∧ ({ s with ta := a, tc := cp } : EvS) = s9 := ⟨_, _, rfl, rfl⟩
          obtain ⟨v9, s9, hv9, hs9⟩ := hvv
          replace HCAP : Hid (v9.tags.length ≤ s9.tc) := by rw [← hv9, ← hs9]; exact HCAP.out
          rw [hv9, hs9] at HA9
          rw [hv9] at HT3
          clear hv9 hs9
          have hzz := HZ9.out
          have hzf := HZ9.out
          have c0 : w5.cell? ⟨w3.heap.size, 0, none⟩ = some (.int .i64 v9.kind) := HA9.out.boxed 0 _ rfl
          have c1 : w5.cell? ⟨w3.heap.size, 1, none⟩ = some (.int .i64 v9.queue) := HA9.out.boxed 1 _ rfl
          have c2 : w5.cell? ⟨w3.heap.size, 2, none⟩ = some (.int .i64 v9.n) := HA9.out.boxed 2 _ rfl
          have c3 : w5.cell? ⟨w3.heap.size, 3, none⟩ = some (.int .i64 v9.aat) := HA9.out.boxed 3 _ rfl
          have c4 : w5.cell? ⟨w3.heap.size, 4, none⟩ = some (.int .i64 v9.lack) := HA9.out.boxed 4 _ rfl
          have c5 : w5.cell? ⟨w3.heap.size, 5, none⟩ = some (.string (S v9.topic)) := HA9.out.boxed 5 _ rfl
          have c6 : w5.cell? ⟨w3.heap.size, 6, none⟩ = some (.string (S v9.group)) := HA9.out.boxed 6 _ rfl
          have c7 : w5.cell? ⟨w3.heap.size, 7, none⟩ = some (.string (S v9.tag)) := HA9.out.boxed 7 _ rfl
          have c8 : w5.cell? ⟨w3.heap.size, 8, none⟩ = some (.string (S v9.key)) := HA9.out.boxed 8 _ rfl
          have c9 : w5.cell? ⟨w3.heap.size, 9, none⟩ = some (.string (S v9.body)) := HA9.out.boxed 9 _ rfl
          have c10 : w5.cell? ⟨w3.heap.size, 10, none⟩ = some (.slice s9.ka v9.keys.length s9.kc) := HA9.out.boxed 10 _ rfl
          have c11 : w5.cell? ⟨w3.heap.size, 11, none⟩ = some (.slice s9.ta v9.tags.length s9.tc) := HA9.out.boxed 11 _ rfl
          have c12 : w5.cell? ⟨w3.heap.size, 12, none⟩ = some (.slice s9.pa v9.keep.length s9.pc) := HA9.out.boxed 12 _ rfl
          have c13 : w5.cell? ⟨w3.heap.size, 13, none⟩ = some (.bool v9.sync) := HA9.out.boxed 13 _ rfl
          have d0 : w5.cell? ⟨W.heap.size, 0, none⟩ = some z0 := by unfold World.cell?; rw [show w5.heap[(⟨W.heap.size, 0, none⟩ : Addr).block]? = _ from hzf]; rfl
          have d1 : w5.cell? ⟨W.heap.size, 1, none⟩ = some z1 := by unfold World.cell?; rw [show w5.heap[(⟨W.heap.size, 1, none⟩ : Addr).block]? = _ from hzf]; rfl
          have d2 : w5.cell? ⟨W.heap.size, 2, none⟩ = some z2 := by unfold World.cell?; rw [show w5.heap[(⟨W.heap.size, 2, none⟩ : Addr).block]? = _ from hzf]; rfl
          have d3 : w5.cell? ⟨W.heap.size, 3, none⟩ = some z3 := by unfold World.cell?; rw [show w5.heap[(⟨W.heap.size, 3, none⟩ : Addr).block]? = _ from hzf]; rfl
          have d4 : w5.cell? ⟨W.heap.size, 4, none⟩ = some z4 := by unfold World.cell?; rw [show w5.heap[(⟨W.heap.size, 4, none⟩ : Addr).block]? = _ from hzf]; rfl
          have d5 : w5.cell? ⟨W.heap.size, 5, none⟩ = some z5 := by unfold World.cell?; rw [show w5.heap[(⟨W.heap.size, 5, none⟩ : Addr).block]? = _ from hzf]; rfl
          have d6 : w5.cell? ⟨W.heap.size, 6, none⟩ = some z6 := by unfold World.cell?; rw [show w5.heap[(⟨W.heap.size, 6, none⟩ : Addr).block]? = _ from hzf]; rfl
          have d7 : w5.cell? ⟨W.heap.size, 7, none⟩ = some z7 := by unfold World.cell?; rw [show w5.heap[(⟨W.heap.size, 7, none⟩ : Addr).block]? = _ from hzf]; rfl
          have d8 : w5.cell? ⟨W.heap.size, 8, none⟩ = some z8 := by unfold World.cell?; rw [show w5.heap[(⟨W.heap.size, 8, none⟩ : Addr).block]? = _ from hzf]; rfl
          have d9 : w5.cell? ⟨W.heap.size, 9, none⟩ = some z9 := by unfold World.cell?; rw [show w5.heap[(⟨W.heap.size, 9, none⟩ : Addr).block]? = _ from hzf]; rfl
          have d10 : w5.cell? ⟨W.heap.size, 10, none⟩ = some z10 := by unfold World.cell?; rw [show w5.heap[(⟨W.heap.size, 10, none⟩ : Addr).block]? = _ from hzf]; rfl
          have d11 : w5.cell? ⟨W.heap.size, 11, none⟩ = some z11 := by unfold World.cell?; rw [show w5.heap[(⟨W.heap.size, 11, none⟩ : Addr).block]? = _ from hzf]; rfl
          have d12 : w5.cell? ⟨W.heap.size, 12, none⟩ = some z12 := by unfold World.cell?; rw [show w5.heap[(⟨W.heap.size, 12, none⟩ : Addr).block]? = _ from hzf]; rfl
          have d13 : w5.cell? ⟨W.heap.size, 13, none⟩ = some z13 := by unfold World.cell?; rw [show w5.heap[(⟨W.heap.size, 13, none⟩ : Addr).block]? = _ from hzf]; rfl
          have hfr : ∀ j, w5.frozen? ⟨W.heap.size, j, none⟩ = false := fun j => by unfold World.frozen?; rw [show w5.heap[(⟨W.heap.size, j, none⟩ : Addr).block]? = _ from hzf]; rfl
          have HBE := Lib.hid (putEv_below HB9.out (Nat.le_refl _) (v9) s9)
          have HZE := Lib.hid (putEv_heap rfl hzz (v9) s9)
          have HIE := Lib.hid (putEv_in HA9.out.ev HA9.out.from_ (B := W.heap.size) (by omega) (v9) s9)
          have HFE := Lib.hid (HA9.out.from_)
          clear hzz hzf
          go_wp2_with fail
          clear c0 c1 c2 c3 c4 c5 c6 c7 c8 c9 c10 c11 c12 c13 d0 d1 d2 d3 d4 d5 d6 d7 d8 d9 d10 d11 d12 d13 hfr
          change bodyPost _ _ _ _ _ (putEv w5 W.heap.size (v9) s9)
          generalize putEv w5 W.heap.size (v9) s9 = w9 at *
          have hz9 := HZE.out
          have c0 : w9.cell? ⟨W.heap.size, 0, none⟩ = some (.int .i64 v9.kind) := by unfold World.cell?; rw [show w9.heap[(⟨W.heap.size, 0, none⟩ : Addr).block]? = _ from hz9]; rfl
          have c1 : w9.cell? ⟨W.heap.size, 1, none⟩ = some (.int .i64 v9.queue) := by unfold World.cell?; rw [show w9.heap[(⟨W.heap.size, 1, none⟩ : Addr).block]? = _ from hz9]; rfl
          have c2 : w9.cell? ⟨W.heap.size, 2, none⟩ = some (.int .i64 v9.n) := by unfold World.cell?; rw [show w9.heap[(⟨W.heap.size, 2, none⟩ : Addr).block]? = _ from hz9]; rfl
          have c3 : w9.cell? ⟨W.heap.size, 3, none⟩ = some (.int .i64 v9.aat) := by unfold World.cell?; rw [show w9.heap[(⟨W.heap.size, 3, none⟩ : Addr).block]? = _ from hz9]; rfl
          have c4 : w9.cell? ⟨W.heap.size, 4, none⟩ = some (.int .i64 v9.lack) := by unfold World.cell?; rw [show w9.heap[(⟨W.heap.size, 4, none⟩ : Addr).block]? = _ from hz9]; rfl
          have c5 : w9.cell? ⟨W.heap.size, 5, none⟩ = some (.string (S v9.topic)) := by unfold World.cell?; rw [show w9.heap[(⟨W.heap.size, 5, none⟩ : Addr).block]? = _ from hz9]; rfl
          have c6 : w9.cell? ⟨W.heap.size, 6, none⟩ = some (.string (S v9.group)) := by unfold World.cell?; rw [show w9.heap[(⟨W.heap.size, 6, none⟩ : Addr).block]? = _ from hz9]; rfl
          have c7 : w9.cell? ⟨W.heap.size, 7, none⟩ = some (.string (S v9.tag)) := by unfold World.cell?; rw [show w9.heap[(⟨W.heap.size, 7, none⟩ : Addr).block]? = _ from hz9]; rfl
          have c8 : w9.cell? ⟨W.heap.size, 8, none⟩ = some (.string (S v9.key)) := by unfold World.cell?; rw [show w9.heap[(⟨W.heap.size, 8, none⟩ : Addr).block]? = _ from hz9]; rfl
          have c9 : w9.cell? ⟨W.heap.size, 9, none⟩ = some (.string (S v9.body)) := by unfold World.cell?; rw [show w9.heap[(⟨W.heap.size, 9, none⟩ : Addr).block]? = _ from hz9]; rfl
          have c10 : w9.cell? ⟨W.heap.size, 10, none⟩ = some (.slice s9.ka v9.keys.length s9.kc) := by unfold World.cell?; rw [show w9.heap[(⟨W.heap.size, 10, none⟩ : Addr).block]? = _ from hz9]; rfl
          have c11 : w9.cell? ⟨W.heap.size, 11, none⟩ = some (.slice s9.ta v9.tags.length s9.tc) := by unfold World.cell?; rw [show w9.heap[(⟨W.heap.size, 11, none⟩ : Addr).block]? = _ from hz9]; rfl
          have c12 : w9.cell? ⟨W.heap.size, 12, none⟩ = some (.slice s9.pa v9.keep.length s9.pc) := by unfold World.cell?; rw [show w9.heap[(⟨W.heap.size, 12, none⟩ : Addr).block]? = _ from hz9]; rfl
          have c13 : w9.cell? ⟨W.heap.size, 13, none⟩ = some (.bool v9.sync) := by unfold World.cell?; rw [show w9.heap[(⟨W.heap.size, 13, none⟩ : Addr).block]? = _ from hz9]; rfl
          refine bodyPost_ret (v := .agg ((v9).cells s9)) ?_ rfl ⟨s9, by rw [HT3.out], by rw [HT3.out]; exact HIE.out, HFE.out.mono (by omega), by rw [HT3.out]; exact HCAP.out, HBE.out⟩
          clear hz9 HZE HIE HFE HBE
          simp [results, Tryz.results34, go_sem, Ev.cells, c0, c1, c2, c3, c4, c5, c6, c7, c8, c9, c10, c11, c12, c13]
        · have HT3 : Hid (readL l = setsF (set1 v c wt[j]) (letters.drop (j + 1)) (wt.drop (j + 1))) := by
            show _ = _
            rw [HT2.out, hwd]
            show (if c = 102 then _ else _) = _
            rw [if_neg hc]
          have hjn : ¬ wt.length ≤ j := by omega
          have hb102 : ((c.toNat : Int) == 102) = false := beq_eq_false_iff_ne.2 (fun h => hc (by apply UInt8.toNat_inj.1; show c.toNat = 102; omega))
          have HSA := Lib.hid (set_any w3.heap.size v s c hasc2 wt[j] hwl2 w2 (HE.out.below HB2.out) HA2.out)
          generalize wt[j] = wj at *
          generalize set1 v c wj = v' at *
          clear HT2 hwd
          go_wp2_with fail
          refine HSA.out.mono ?_
          rintro e w4 ⟨rfl, s', hA', ⟨htc, htg⟩, hM⟩
          replace HCAP : Hid (v'.tags.length ≤ s'.tc) := by show _ ≤ _; rw [htc, htg]; exact HCAP.out
          clear htc htg
          have hlt5 := HA2.out.lt
          have HI4 := Lib.hid ((hM.block _ (Array.getElem?_eq_some_iff.1 HI2.out).1 (by omega)).trans HI2.out)
          have HA4 := Lib.hid hA'
          have HZ4 := Lib.hid ((hM.block _ (Array.getElem?_eq_some_iff.1 HZ2.out).1 (by omega)).trans HZ2.out)
          have HC4 := Lib.hid ((hM.block _ (Array.getElem?_eq_some_iff.1 HC2.out).1 (by omega)).trans HC2.out)
          have HW4 := Lib.hid (HW2.out.mod hM (fun ad e => by cases e; show ¬ W.heap.size + 1 = w3.heap.size; omega))
          have HB4 := Lib.hid (HB2.out.trans (hM.to_below W.heap.size HB2.out.size (fun q hq => by subst hq; omega)))
          clear hA' hM HSA HI2 HA2 HZ2 HC2 HW2 HB2 hcell3 hx
          go_wp2_with fail
          go_roundg g'
          case measure => omega
          case rel => exact ⟨j + 1, v', s', by omega, HT3, HI4, HA4, HZ4, HC4, HW4, HB4, HCAP⟩
      · have hjn : wt.length ≤ j := by omega
        have HT3 : Hid (readL l = v) := by
          show _ = _
          rw [HT2.out, List.drop_of_length_le hjn]; rfl
        clear HT2 HI2 HC2 HW2
        have hzz := HZ2.out
        have hzf := HZ2.out
        have c0 : w2.cell? ⟨w3.heap.size, 0, none⟩ = some (.int .i64 v.kind) := HA2.out.boxed 0 _ rfl
        have c1 : w2.cell? ⟨w3.heap.size, 1, none⟩ = some (.int .i64 v.queue) := HA2.out.boxed 1 _ rfl
        have c2 : w2.cell? ⟨w3.heap.size, 2, none⟩ = some (.int .i64 v.n) := HA2.out.boxed 2 _ rfl
        have c3 : w2.cell? ⟨w3.heap.size, 3, none⟩ = some (.int .i64 v.aat) := HA2.out.boxed 3 _ rfl
        have c4 : w2.cell? ⟨w3.heap.size, 4, none⟩ = some (.int .i64 v.lack) := HA2.out.boxed 4 _ rfl
        have c5 : w2.cell? ⟨w3.heap.size, 5, none⟩ = some (.string (S v.topic)) := HA2.out.boxed 5 _ rfl
        have c6 : w2.cell? ⟨w3.heap.size, 6, none⟩ = some (.string (S v.group)) := HA2.out.boxed 6 _ rfl
        have c7 : w2.cell? ⟨w3.heap.size, 7, none⟩ = some (.string (S v.tag)) := HA2.out.boxed 7 _ rfl
        have c8 : w2.cell? ⟨w3.heap.size, 8, none⟩ = some (.string (S v.key)) := HA2.out.boxed 8 _ rfl
        have c9 : w2.cell? ⟨w3.heap.size, 9, none⟩ = some (.string (S v.body)) := HA2.out.boxed 9 _ rfl
        have c10 : w2.cell? ⟨w3.heap.size, 10, none⟩ = some (.slice s.ka v.keys.length s.kc) := HA2.out.boxed 10 _ rfl
        have c11 : w2.cell? ⟨w3.heap.size, 11, none⟩ = some (.slice s.ta v.tags.length s.tc) := HA2.out.boxed 11 _ rfl
        have c12 : w2.cell? ⟨w3.heap.size, 12, none⟩ = some (.slice s.pa v.keep.length s.pc) := HA2.out.boxed 12 _ rfl
        have c13 : w2.cell? ⟨w3.heap.size, 13, none⟩ = some (.bool v.sync) := HA2.out.boxed 13 _ rfl
        have d0 : w2.cell? ⟨W.heap.size, 0, none⟩ = some z0 := by unfold World.cell?; rw [show w2.heap[(⟨W.heap.size, 0, none⟩ : Addr).block]? = _ from hzf]; rfl
        have d1 : w2.cell? ⟨W.heap.size, 1, none⟩ = some z1 := by unfold World.cell?; rw [show w2.heap[(⟨W.heap.size, 1, none⟩ : Addr).block]? = _ from hzf]; rfl
        have d2 : w2.cell? ⟨W.heap.size, 2, none⟩ = some z2 := by unfold World.cell?; rw [show w2.heap[(⟨W.heap.size, 2, none⟩ : Addr).block]? = _ from hzf]; rfl
        have d3 : w2.cell? ⟨W.heap.size, 3, none⟩ = some z3 := by unfold World.cell?; rw [show w2.heap[(⟨W.heap.size, 3, none⟩ : Addr).block]? = _ from hzf]; rfl
        have d4 : w2.cell? ⟨W.heap.size, 4, none⟩ = some z4 := by unfold World.cell?; rw [show w2.heap[(⟨W.heap.size, 4, none⟩ : Addr).block]? = _ from hzf]; rfl
        have d5 : w2.cell? ⟨W.heap.size, 5, none⟩ = some z5 := by unfold World.cell?; rw [show w2.heap[(⟨W.heap.size, 5, none⟩ : Addr).block]? = _ from hzf]; rfl
        have d6 : w2.cell? ⟨W.heap.size, 6, none⟩ = some z6 := by unfold World.cell?; rw [show w2.heap[(⟨W.heap.size, 6, none⟩ : Addr).block]? = _ from hzf]; rfl
        have d7 : w2.cell? ⟨W.heap.size, 7, none⟩ = some z7 := by unfold World.cell?; rw [show w2.heap[(⟨W.heap.size, 7, none⟩ : Addr).block]? = _ from hzf]; rfl
        have d8 : w2.cell? ⟨W.heap.size, 8, none⟩ = some z8 := by unfold World.cell?; rw [show w2.heap[(⟨W.heap.size, 8, none⟩ : Addr).block]? = _ from hzf]; rfl
        have d9 : w2.cell? ⟨W.heap.size, 9, none⟩ = some z9 := by unfold World.cell?; rw [show w2.heap[(⟨W.heap.size, 9, none⟩ : Addr).block]? = _ from hzf]; rfl
        have d10 : w2.cell? ⟨W.heap.size, 10, none⟩ = some z10 := by unfold World.cell?; rw [show w2.heap[(⟨W.heap.size, 10, none⟩ : Addr).block]? = _ from hzf]; rfl
        have d11 : w2.cell? ⟨W.heap.size, 11, none⟩ = some z11 := by unfold World.cell?; rw [show w2.heap[(⟨W.heap.size, 11, none⟩ : Addr).block]? = _ from hzf]; rfl
        have d12 : w2.cell? ⟨W.heap.size, 12, none⟩ = some z12 := by unfold World.cell?; rw [show w2.heap[(⟨W.heap.size, 12, none⟩ : Addr).block]? = _ from hzf]; rfl
        have d13 : w2.cell? ⟨W.heap.size, 13, none⟩ = some z13 := by unfold World.cell?; rw [show w2.heap[(⟨W.heap.size, 13, none⟩ : Addr).block]? = _ from hzf]; rfl
        have hfr : ∀ j, w2.frozen? ⟨W.heap.size, j, none⟩ = false := fun j => by unfold World.frozen?; rw [show w2.heap[(⟨W.heap.size, j, none⟩ : Addr).block]? = _ from hzf]; rfl
        have HBE := Lib.hid (putEv_below HB2.out (Nat.le_refl _) (v) s)
        have HZE := Lib.hid (putEv_heap rfl hzz (v) s)
        have HIE := Lib.hid (putEv_in HA2.out.ev HA2.out.from_ (B := W.heap.size) (by omega) (v) s)
        have HFE := Lib.hid (HA2.out.from_)
        clear hzz hzf
        go_wp2_with fail
        clear c0 c1 c2 c3 c4 c5 c6 c7 c8 c9 c10 c11 c12 c13 d0 d1 d2 d3 d4 d5 d6 d7 d8 d9 d10 d11 d12 d13 hfr
        change bodyPost _ _ _ _ _ (putEv w2 W.heap.size (v) s)
        generalize putEv w2 W.heap.size (v) s = w9 at *
        have hz9 := HZE.out
        have c0 : w9.cell? ⟨W.heap.size, 0, none⟩ = some (.int .i64 v.kind) := by unfold World.cell?; rw [show w9.heap[(⟨W.heap.size, 0, none⟩ : Addr).block]? = _ from hz9]; rfl
        have c1 : w9.cell? ⟨W.heap.size, 1, none⟩ = some (.int .i64 v.queue) := by unfold World.cell?; rw [show w9.heap[(⟨W.heap.size, 1, none⟩ : Addr).block]? = _ from hz9]; rfl
        have c2 : w9.cell? ⟨W.heap.size, 2, none⟩ = some (.int .i64 v.n) := by unfold World.cell?; rw [show w9.heap[(⟨W.heap.size, 2, none⟩ : Addr).block]? = _ from hz9]; rfl
        have c3 : w9.cell? ⟨W.heap.size, 3, none⟩ = some (.int .i64 v.aat) := by unfold World.cell?; rw [show w9.heap[(⟨W.heap.size, 3, none⟩ : Addr).block]? = _ from hz9]; rfl
        have c4 : w9.cell? ⟨W.heap.size, 4, none⟩ = some (.int .i64 v.lack) := by unfold World.cell?; rw [show w9.heap[(⟨W.heap.size, 4, none⟩ : Addr).block]? = _ from hz9]; rfl
        have c5 : w9.cell? ⟨W.heap.size, 5, none⟩ = some (.string (S v.topic)) := by unfold World.cell?; rw [show w9.heap[(⟨W.heap.size, 5, none⟩ : Addr).block]? = _ from hz9]; rfl
        have c6 : w9.cell? ⟨W.heap.size, 6, none⟩ = some (.string (S v.group)) := by unfold World.cell?; rw [show w9.heap[(⟨W.heap.size, 6, none⟩ : Addr).block]? = _ from hz9]; rfl
        have c7 : w9.cell? ⟨W.heap.size, 7, none⟩ = some (.string (S v.tag)) := by unfold World.cell?; rw [show w9.heap[(⟨W.heap.size, 7, none⟩ : Addr).block]? = _ from hz9]; rfl
        have c8 : w9.cell? ⟨W.heap.size, 8, none⟩ = some (.string (S v.key)) := by unfold World.cell?; rw [show w9.heap[(⟨W.heap.size, 8, none⟩ : Addr).block]? = _ from hz9]; rfl
        have c9 : w9.cell? ⟨W.heap.size, 9, none⟩ = some (.string (S v.body)) := by unfold World.cell?; rw [show w9.heap[(⟨W.heap.size, 9, none⟩ : Addr).block]? = _ from hz9]; rfl
        have c10 : w9.cell? ⟨W.heap.size, 10, none⟩ = some (.slice s.ka v.keys.length s.kc) := by unfold World.cell?; rw [show w9.heap[(⟨W.heap.size, 10, none⟩ : Addr).block]? = _ from hz9]; rfl
        have c11 : w9.cell? ⟨W.heap.size, 11, none⟩ = some (.slice s.ta v.tags.length s.tc) := by unfold World.cell?; rw [show w9.heap[(⟨W.heap.size, 11, none⟩ : Addr).block]? = _ from hz9]; rfl
        have c12 : w9.cell? ⟨W.heap.size, 12, none⟩ = some (.slice s.pa v.keep.length s.pc) := by unfold World.cell?; rw [show w9.heap[(⟨W.heap.size, 12, none⟩ : Addr).block]? = _ from hz9]; rfl
        have c13 : w9.cell? ⟨W.heap.size, 13, none⟩ = some (.bool v.sync) := by unfold World.cell?; rw [show w9.heap[(⟨W.heap.size, 13, none⟩ : Addr).block]? = _ from hz9]; rfl
        refine bodyPost_ret (v := .agg ((v).cells s)) ?_ rfl ⟨s, by rw [HT3.out], by rw [HT3.out]; exact HIE.out, HFE.out.mono (by omega), by rw [HT3.out]; exact HCAP.out, HBE.out⟩
        clear hz9 HZE HIE HFE HBE
        simp [results, Tryz.results34, go_sem, Ev.cells, c0, c1, c2, c3, c4, c5, c6, c7, c8, c9, c10, c11, c12, c13]
    · have ej : j = letters.length := by omega
      have HT3 : Hid (readL l = v) := by
        show _ = _
        rw [HT.out, ej, List.drop_length]; rfl
      have hnx : ∀ ty, (Instr.next (.pointer (some ⟨w3.heap.size + 2, 0, none⟩)) true ty).run Tryz.prog wr = _ := fun ty => Lib.run_next_end_at wr (w3.heap.size + 2) (S letters) j ty HIT.out (by rw [hsz]; omega)
      clear HT HC HWR
      have hzz := HZ.out
      have hzf := HZ.out
      have c0 : wr.cell? ⟨w3.heap.size, 0, none⟩ = some (.int .i64 v.kind) := HA.out.boxed 0 _ rfl
      have c1 : wr.cell? ⟨w3.heap.size, 1, none⟩ = some (.int .i64 v.queue) := HA.out.boxed 1 _ rfl
      have c2 : wr.cell? ⟨w3.heap.size, 2, none⟩ = some (.int .i64 v.n) := HA.out.boxed 2 _ rfl
      have c3 : wr.cell? ⟨w3.heap.size, 3, none⟩ = some (.int .i64 v.aat) := HA.out.boxed 3 _ rfl
      have c4 : wr.cell? ⟨w3.heap.size, 4, none⟩ = some (.int .i64 v.lack) := HA.out.boxed 4 _ rfl
      have c5 : wr.cell? ⟨w3.heap.size, 5, none⟩ = some (.string (S v.topic)) := HA.out.boxed 5 _ rfl
      have c6 : wr.cell? ⟨w3.heap.size, 6, none⟩ = some (.string (S v.group)) := HA.out.boxed 6 _ rfl
      have c7 : wr.cell? ⟨w3.heap.size, 7, none⟩ = some (.string (S v.tag)) := HA.out.boxed 7 _ rfl
      have c8 : wr.cell? ⟨w3.heap.size, 8, none⟩ = some (.string (S v.key)) := HA.out.boxed 8 _ rfl
      have c9 : wr.cell? ⟨w3.heap.size, 9, none⟩ = some (.string (S v.body)) := HA.out.boxed 9 _ rfl
      have c10 : wr.cell? ⟨w3.heap.size, 10, none⟩ = some (.slice s.ka v.keys.length s.kc) := HA.out.boxed 10 _ rfl
      have c11 : wr.cell? ⟨w3.heap.size, 11, none⟩ = some (.slice s.ta v.tags.length s.tc) := HA.out.boxed 11 _ rfl
      have c12 : wr.cell? ⟨w3.heap.size, 12, none⟩ = some (.slice s.pa v.keep.length s.pc) := HA.out.boxed 12 _ rfl
      have c13 : wr.cell? ⟨w3.heap.size, 13, none⟩ = some (.bool v.sync) := HA.out.boxed 13 _ rfl
      have d0 : wr.cell? ⟨W.heap.size, 0, none⟩ = some z0 := by unfold World.cell?; rw [show wr.heap[(⟨W.heap.size, 0, none⟩ : Addr).block]? = _ from hzf]; rfl
      have d1 : wr.cell? ⟨W.heap.size, 1, none⟩ = some z1 := by unfold World.cell?; rw [show wr.heap[(⟨W.heap.size, 1, none⟩ : Addr).block]? = _ from hzf]; rfl
      have d2 : wr.cell? ⟨W.heap.size, 2, none⟩ = some z2 := by unfold World.cell?; rw [show wr.heap[(⟨W.heap.size, 2, none⟩ : Addr).block]? = _ from hzf]; rfl
      have d3 : wr.cell? ⟨W.heap.size, 3, none⟩ = some z3 := by unfold World.cell?; rw [show wr.heap[(⟨W.heap.size, 3, none⟩ : Addr).block]? = _ from hzf]; rfl
      have d4 : wr.cell? ⟨W.heap.size, 4, none⟩ = some z4 := by unfold World.cell?; rw [show wr.heap[(⟨W.heap.size, 4, none⟩ : Addr).block]? = _ from hzf]; rfl
      have d5 : wr.cell? ⟨W.heap.size, 5, none⟩ = some z5 := by unfold World.cell?; rw [show wr.heap[(⟨W.heap.size, 5, none⟩ : Addr).block]? = _ from hzf]; rfl
      have d6 : wr.cell? ⟨W.heap.size, 6, none⟩ = some z6 := by unfold World.cell?; rw [show wr.heap[(⟨W.heap.size, 6, none⟩ : Addr).block]? = _ from hzf]; rfl
      have d7 : wr.cell? ⟨W.heap.size, 7, none⟩ = some z7 := by unfold World.cell?; rw [show wr.heap[(⟨W.heap.size, 7, none⟩ : Addr).block]? = _ from hzf]; rfl
      have d8 : wr.cell? ⟨W.heap.size, 8, none⟩ = some z8 := by unfold World.cell?; rw [show wr.heap[(⟨W.heap.size, 8, none⟩ : Addr).block]? = _ from hzf]; rfl
      have d9 : wr.cell? ⟨W.heap.size, 9, none⟩ = some z9 := by unfold World.cell?; rw [show wr.heap[(⟨W.heap.size, 9, none⟩ : Addr).block]? = _ from hzf]; rfl
      have d10 : wr.cell? ⟨W.heap.size, 10, none⟩ = some z10 := by unfold World.cell?; rw [show wr.heap[(⟨W.heap.size, 10, none⟩ : Addr).block]? = _ from hzf]; rfl
      have d11 : wr.cell? ⟨W.heap.size, 11, none⟩ = some z11 := by unfold World.cell?; rw [show wr.heap[(⟨W.heap.size, 11, none⟩ : Addr).block]? = _ from hzf]; rfl
      have d12 : wr.cell? ⟨W.heap.size, 12, none⟩ = some z12 := by unfold World.cell?; rw [show wr.heap[(⟨W.heap.size, 12, none⟩ : Addr).block]? = _ from hzf]; rfl
      have d13 : wr.cell? ⟨W.heap.size, 13, none⟩ = some z13 := by unfold World.cell?; rw [show wr.heap[(⟨W.heap.size, 13, none⟩ : Addr).block]? = _ from hzf]; rfl
      have hfr : ∀ j, wr.frozen? ⟨W.heap.size, j, none⟩ = false := fun j => by unfold World.frozen?; rw [show wr.heap[(⟨W.heap.size, j, none⟩ : Addr).block]? = _ from hzf]; rfl
      have HBE := Lib.hid (putEv_below HB.out (Nat.le_refl _) (v) s)
      have HZE := Lib.hid (putEv_heap rfl hzz (v) s)
      have HIE := Lib.hid (putEv_in HA.out.ev HA.out.from_ (B := W.heap.size) (by omega) (v) s)
      have HFE := Lib.hid (HA.out.from_)
      clear hzz hzf
      go_wp2_with fail
      clear c0 c1 c2 c3 c4 c5 c6 c7 c8 c9 c10 c11 c12 c13 d0 d1 d2 d3 d4 d5 d6 d7 d8 d9 d10 d11 d12 d13 hfr
      change bodyPost _ _ _ _ _ (putEv wr W.heap.size (v) s)
      generalize putEv wr W.heap.size (v) s = w9 at *
      have hz9 := HZE.out
      have c0 : w9.cell? ⟨W.heap.size, 0, none⟩ = some (.int .i64 v.kind) := by unfold World.cell?; rw [show w9.heap[(⟨W.heap.size, 0, none⟩ : Addr).block]? = _ from hz9]; rfl
      have c1 : w9.cell? ⟨W.heap.size, 1, none⟩ = some (.int .i64 v.queue) := by unfold World.cell?; rw [show w9.heap[(⟨W.heap.size, 1, none⟩ : Addr).block]? = _ from hz9]; rfl
      have c2 : w9.cell? ⟨W.heap.size, 2, none⟩ = some (.int .i64 v.n) := by unfold World.cell?; rw [show w9.heap[(⟨W.heap.size, 2, none⟩ : Addr).block]? = _ from hz9]; rfl
      have c3 : w9.cell? ⟨W.heap.size, 3, none⟩ = some (.int .i64 v.aat) := by unfold World.cell?; rw [show w9.heap[(⟨W.heap.size, 3, none⟩ : Addr).block]? = _ from hz9]; rfl
      have c4 : w9.cell? ⟨W.heap.size, 4, none⟩ = some (.int .i64 v.lack) := by unfold World.cell?; rw [show w9.heap[(⟨W.heap.size, 4, none⟩ : Addr).block]? = _ from hz9]; rfl
      have c5 : w9.cell? ⟨W.heap.size, 5, none⟩ = some (.string (S v.topic)) := by unfold World.cell?; rw [show w9.heap[(⟨W.heap.size, 5, none⟩ : Addr).block]? = _ from hz9]; rfl
      have c6 : w9.cell? ⟨W.heap.size, 6, none⟩ = some (.string (S v.group)) := by unfold World.cell?; rw [show w9.heap[(⟨W.heap.size, 6, none⟩ : Addr).block]? = _ from hz9]; rfl
      have c7 : w9.cell? ⟨W.heap.size, 7, none⟩ = some (.string (S v.tag)) := by unfold World.cell?; rw [show w9.heap[(⟨W.heap.size, 7, none⟩ : Addr).block]? = _ from hz9]; rfl
      have c8 : w9.cell? ⟨W.heap.size, 8, none⟩ = some (.string (S v.key)) := by unfold World.cell?; rw [show w9.heap[(⟨W.heap.size, 8, none⟩ : Addr).block]? = _ from hz9]; rfl
      have c9 : w9.cell? ⟨W.heap.size, 9, none⟩ = some (.string (S v.body)) := by unfold World.cell?; rw [show w9.heap[(⟨W.heap.size, 9, none⟩ : Addr).block]? = _ from hz9]; rfl
      have c10 : w9.cell? ⟨W.heap.size, 10, none⟩ = some (.slice s.ka v.keys.length s.kc) := by unfold World.cell?; rw [show w9.heap[(⟨W.heap.size, 10, none⟩ : Addr).block]? = _ from hz9]; rfl
      have c11 : w9.cell? ⟨W.heap.size, 11, none⟩ = some (.slice s.ta v.tags.length s.tc) := by unfold World.cell?; rw [show w9.heap[(⟨W.heap.size, 11, none⟩ : Addr).block]? = _ from hz9]; rfl
      have c12 : w9.cell? ⟨W.heap.size, 12, none⟩ = some (.slice s.pa v.keep.length s.pc) := by unfold World.cell?; rw [show w9.heap[(⟨W.heap.size, 12, none⟩ : Addr).block]? = _ from hz9]; rfl
      have c13 : w9.cell? ⟨W.heap.size, 13, none⟩ = some (.bool v.sync) := by unfold World.cell?; rw [show w9.heap[(⟨W.heap.size, 13, none⟩ : Addr).block]? = _ from hz9]; rfl
      refine bodyPost_ret (v := .agg ((v).cells s)) ?_ rfl ⟨s, by rw [HT3.out], by rw [HT3.out]; exact HIE.out, HFE.out.mono (by omega), by rw [HT3.out]; exact HCAP.out, HBE.out⟩
      clear hz9 HZE HIE HFE HBE
      simp [results, Tryz.results34, go_sem, Ev.cells, c0, c1, c2, c3, c4, c5, c6, c7, c8, c9, c10, c11, c12, c13]
end Go.Proofs.YtadhkeboaapfcaaGreatDoor.EvW
