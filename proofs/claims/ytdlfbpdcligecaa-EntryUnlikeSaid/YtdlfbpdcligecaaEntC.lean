/- entry: what reads entries; the law's own helpers. -/
import Derived.Test.YtdlfbpdcligecaaEntB
namespace Go.Proofs.Ytdlfbpdcligecaa.EntW
open Go.RowKit OctW OctMath
set_option maxRecDepth 100000
set_option linter.unusedSimpArgs false
set_option linter.unusedVariables false

theorem heap_at {w : World} {o : Obj} {k : Nat} (h : k = w.heap.size) : (w.alloc o).heap[k]? = some o := by subst h; exact heap_alloc_new w o
theorem heap_old {w : World} {o : Obj} {k : Nat} (h : k < w.heap.size) : (w.alloc o).heap[k]? = w.heap[k]? := Below.heap_alloc w o k h

/-- what is read of twenty bytes: the numbers, and whether they are some -/
def getW (ns : List Nat) (l : List UInt8) : List Nat × Bool := if endR (numsR ns ⟨l, 0⟩).2 = 0 then ((numsR ns ⟨l, 0⟩).1, true) else ([], false)
theorem getW_eq (ns : List Nat) (l : List UInt8) : getW ns l = if endR (numsR ns ⟨l, 0⟩).2 = 0 then ((numsR ns ⟨l, 0⟩).1, true) else ([], false) := rfl
def agg4 (xs : List Nat) : Value := .agg #[.int .i64 (xs.getD 0 0 : Nat), .int .i64 (xs.getD 1 0 : Nat), .int .i64 (xs.getD 2 0 : Nat), .int .i64 (xs.getD 3 0 : Nat)]

set_option maxHeartbeats 1600000 in
theorem place_get (l : List UInt8) (hs : l.length ≤ 140737488351232) (W : World) :
    Calls Try.prog 33 #[.string (S l)] W fun e w' => e = .returned (.tuple #[agg4 (getW [6, 2, 5, 7] l).1, .bool (getW [6, 2, 5, 7] l).2]) ∧ Below W.heap.size W w' := by
  go_enter Try.func33, Try.ntmps33
  go_wp2_with fail
  generalize hW6 : (((((W.alloc _).alloc _).alloc _).alloc _).alloc _).alloc _ = W6
  have hz : W6.heap.size = W.heap.size + 6 := by rw [← hW6]; simp
  have hWb : Wb (W.heap.size + 1) [6, 2, 5, 7] [] W6 := by
    intro i hi
    have hi : i < 4 := hi
    rw [← hW6]
    match i, hi with
    | 0, _ => exact (heap_old (by simp only [World.size_alloc]; omega)).trans ((heap_old (by simp only [World.size_alloc]; omega)).trans ((heap_old (by simp only [World.size_alloc]; omega)).trans ((heap_old (by simp only [World.size_alloc]; omega)).trans (heap_at (by simp)))))
    | 1, _ => exact (heap_old (by simp only [World.size_alloc]; omega)).trans ((heap_old (by simp only [World.size_alloc]; omega)).trans ((heap_old (by simp only [World.size_alloc]; omega)).trans (heap_at (by simp))))
    | 2, _ => exact (heap_old (by simp only [World.size_alloc]; omega)).trans ((heap_old (by simp only [World.size_alloc]; omega)).trans (heap_at (by simp)))
    | 3, _ => exact (heap_old (by simp only [World.size_alloc]; omega)).trans (heap_at (by simp))
  have hSb : W6.heap[W.heap.size + 1 + 1 + 1 + 1 + 1]? = some (.cells #[.pointer (some ⟨W.heap.size + 1, 0, none⟩), .pointer (some ⟨W.heap.size + 1 + 1, 0, none⟩), .pointer (some ⟨W.heap.size + 1 + 1 + 1, 0, none⟩), .pointer (some ⟨W.heap.size + 1 + 1 + 1 + 1, 0, none⟩)] 94 (0, 0)) := by
    rw [← hW6]; exact heap_at (by simp)
  have hS : ∀ i, i < 4 → W6.cell? ⟨W.heap.size + 1 + 1 + 1 + 1 + 1, i, none⟩ = some (.pointer (some ⟨W.heap.size + 1 + i, 0, none⟩)) := by
    intro i hi
    rw [Lib.cell_of_heap hSb]
    match i, hi with
    | 0, _ => rfl
    | 1, _ => rfl
    | 2, _ => rfl
    | 3, _ => rfl
  have hB0 : W6.heap[W.heap.size]? = some (.cells #[.int .i64 0, .int .i64 0, .int .i64 0, .int .i64 0] 23 (0, 0)) := by
    rw [← hW6]; exact (heap_old (by simp only [World.size_alloc]; omega)).trans ((heap_old (by simp only [World.size_alloc]; omega)).trans ((heap_old (by simp only [World.size_alloc]; omega)).trans ((heap_old (by simp only [World.size_alloc]; omega)).trans ((heap_old (by simp only [World.size_alloc]; omega)).trans (heap_at (by simp))))))
  have hB : Below W.heap.size W W6 := by
    rw [← hW6]
    refine ((((((Below.refl _ _).alloc (Nat.le_refl _) _).alloc ?_ _).alloc ?_ _).alloc ?_ _).alloc ?_ _).alloc ?_ _ <;> simp <;> omega
  clear hW6
  refine (get_any (W.heap.size + 1) (W.heap.size + 1 + 1 + 1 + 1 + 1) 4 [6, 2, 5, 7] (by decide) (by decide) l hs W6 hS hWb (fun i hi => by have hi : i < 4 := hi; omega)).mono ?_
  rintro e w2 ⟨rfl, hwb2, hm2⟩
  have hG : w2.heap[W.heap.size]? = some (.cells #[.int .i64 0, .int .i64 0, .int .i64 0, .int .i64 0] 23 (0, 0)) := (hm2.block _ (by omega) (fun h => by omega)).trans hB0
  have hB2 : Below W.heap.size W w2 := hB.trans (hm2.to_below _ (by omega) (fun k h => by omega))
  have hxl := numsR_length [6, 2, 5, 7] ⟨l, 0⟩
  have HB2 := Lib.hid hB2
  have HG := Lib.hid hG
  clear hB hB0 hS hSb hWb hm2 hB2 hG hz
  have hgw := getW_eq [6, 2, 5, 7] l
  generalize numsR [6, 2, 5, 7] ⟨l, 0⟩ = q at *
  obtain ⟨xs, r⟩ := q
  simp only at *
  have hc0 := hwb2.cell1 0 (by decide)
  have hc1 := hwb2.cell1 1 (by decide)
  have hc2 := hwb2.cell1 2 (by decide)
  have hc3 := hwb2.cell1 3 (by decide)
  have g0 : ∀ i, i < 4 → w2.cell? ⟨W.heap.size, i, none⟩ = some (.int .i64 0) := fun i hi => by
    rw [Lib.cell_of_heap HG.out]
    match i, hi with
    | 0, _ => rfl
    | 1, _ => rfl
    | 2, _ => rfl
    | 3, _ => rfl
  have f0 := fun i => Lib.frozen_of_heap HG.out i
  have a0 := g0 0 (by omega)
  have a1 := g0 1 (by omega)
  have a2 := g0 2 (by omega)
  have a3 := g0 3 (by omega)
  have b0 := f0 0
  have b1 := f0 1
  have b2 := f0 2
  have b3 := f0 3
  clear g0 f0 hwb2 hxl
  by_cases he : endR r = 0
  · have hb : (endR r == 0) = true := beq_iff_eq.2 he
    rw [if_pos he] at hgw
    have HGW := Lib.hid hgw
    clear hgw he
    rw [hb]
    clear hb
    go_wp2_with fail
    refine bodyPost_ret (v := .tuple #[agg4 xs, .bool true]) ?_ rfl ⟨by rw [HGW.out], ?_⟩
    · simp [results, Try.results33, go_sem, agg4, a0, a1, a2, a3]
    · exact ((((HB2.out.setCell (p := ⟨W.heap.size, 0, none⟩) (Nat.le_refl _) _).setCell (p := ⟨W.heap.size, 1, none⟩) (Nat.le_refl _) _).setCell (p := ⟨W.heap.size, 2, none⟩) (Nat.le_refl _) _).setCell (p := ⟨W.heap.size, 3, none⟩) (Nat.le_refl _) _)
  · have hb : (endR r == 0) = false := beq_eq_false_iff_ne.2 he
    rw [if_neg he] at hgw
    have HGW := Lib.hid hgw
    clear hgw he
    rw [hb]
    clear hb
    go_wp2_with fail
    refine bodyPost_ret (v := .tuple #[agg4 [], .bool false]) ?_ rfl ⟨by rw [HGW.out], ?_⟩
    · simp [results, Try.results33, go_sem, agg4, a0, a1, a2, a3]
    · exact ((((HB2.out.setCell (p := ⟨W.heap.size, 0, none⟩) (Nat.le_refl _) _).setCell (p := ⟨W.heap.size, 1, none⟩) (Nat.le_refl _) _).setCell (p := ⟨W.heap.size, 2, none⟩) (Nat.le_refl _) _).setCell (p := ⟨W.heap.size, 3, none⟩) (Nat.le_refl _) _)

set_option maxHeartbeats 1600000 in
theorem link_get (l : List UInt8) (hs : l.length ≤ 140737488351232) (W : World) :
    Calls Try.prog 34 #[.string (S l)] W fun e w' => e = .returned (.tuple #[agg4 (getW [5, 6, 6, 3] l).1, .bool (getW [5, 6, 6, 3] l).2]) ∧ Below W.heap.size W w' := by
  go_enter Try.func34, Try.ntmps34
  go_wp2_with fail
  generalize hW6 : (((((W.alloc _).alloc _).alloc _).alloc _).alloc _).alloc _ = W6
  have hz : W6.heap.size = W.heap.size + 6 := by rw [← hW6]; simp
  have hWb : Wb (W.heap.size + 1) [5, 6, 6, 3] [] W6 := by
    intro i hi
    have hi : i < 4 := hi
    rw [← hW6]
    match i, hi with
    | 0, _ => exact (heap_old (by simp only [World.size_alloc]; omega)).trans ((heap_old (by simp only [World.size_alloc]; omega)).trans ((heap_old (by simp only [World.size_alloc]; omega)).trans ((heap_old (by simp only [World.size_alloc]; omega)).trans (heap_at (by simp)))))
    | 1, _ => exact (heap_old (by simp only [World.size_alloc]; omega)).trans ((heap_old (by simp only [World.size_alloc]; omega)).trans ((heap_old (by simp only [World.size_alloc]; omega)).trans (heap_at (by simp))))
    | 2, _ => exact (heap_old (by simp only [World.size_alloc]; omega)).trans ((heap_old (by simp only [World.size_alloc]; omega)).trans (heap_at (by simp)))
    | 3, _ => exact (heap_old (by simp only [World.size_alloc]; omega)).trans (heap_at (by simp))
  have hSb : W6.heap[W.heap.size + 1 + 1 + 1 + 1 + 1]? = some (.cells #[.pointer (some ⟨W.heap.size + 1, 0, none⟩), .pointer (some ⟨W.heap.size + 1 + 1, 0, none⟩), .pointer (some ⟨W.heap.size + 1 + 1 + 1, 0, none⟩), .pointer (some ⟨W.heap.size + 1 + 1 + 1 + 1, 0, none⟩)] 94 (0, 0)) := by
    rw [← hW6]; exact heap_at (by simp)
  have hS : ∀ i, i < 4 → W6.cell? ⟨W.heap.size + 1 + 1 + 1 + 1 + 1, i, none⟩ = some (.pointer (some ⟨W.heap.size + 1 + i, 0, none⟩)) := by
    intro i hi
    rw [Lib.cell_of_heap hSb]
    match i, hi with
    | 0, _ => rfl
    | 1, _ => rfl
    | 2, _ => rfl
    | 3, _ => rfl
  have hB0 : W6.heap[W.heap.size]? = some (.cells #[.int .i64 0, .int .i64 0, .int .i64 0, .int .i64 0] 56 (0, 0)) := by
    rw [← hW6]; exact (heap_old (by simp only [World.size_alloc]; omega)).trans ((heap_old (by simp only [World.size_alloc]; omega)).trans ((heap_old (by simp only [World.size_alloc]; omega)).trans ((heap_old (by simp only [World.size_alloc]; omega)).trans ((heap_old (by simp only [World.size_alloc]; omega)).trans (heap_at (by simp))))))
  have hB : Below W.heap.size W W6 := by
    rw [← hW6]
    refine ((((((Below.refl _ _).alloc (Nat.le_refl _) _).alloc ?_ _).alloc ?_ _).alloc ?_ _).alloc ?_ _).alloc ?_ _ <;> simp <;> omega
  clear hW6
  refine (get_any (W.heap.size + 1) (W.heap.size + 1 + 1 + 1 + 1 + 1) 4 [5, 6, 6, 3] (by decide) (by decide) l hs W6 hS hWb (fun i hi => by have hi : i < 4 := hi; omega)).mono ?_
  rintro e w2 ⟨rfl, hwb2, hm2⟩
  have hG : w2.heap[W.heap.size]? = some (.cells #[.int .i64 0, .int .i64 0, .int .i64 0, .int .i64 0] 56 (0, 0)) := (hm2.block _ (by omega) (fun h => by omega)).trans hB0
  have hB2 : Below W.heap.size W w2 := hB.trans (hm2.to_below _ (by omega) (fun k h => by omega))
  have hxl := numsR_length [5, 6, 6, 3] ⟨l, 0⟩
  have HB2 := Lib.hid hB2
  have HG := Lib.hid hG
  clear hB hB0 hS hSb hWb hm2 hB2 hG hz
  have hgw := getW_eq [5, 6, 6, 3] l
  generalize numsR [5, 6, 6, 3] ⟨l, 0⟩ = q at *
  obtain ⟨xs, r⟩ := q
  simp only at *
  have hc0 := hwb2.cell1 0 (by decide)
  have hc1 := hwb2.cell1 1 (by decide)
  have hc2 := hwb2.cell1 2 (by decide)
  have hc3 := hwb2.cell1 3 (by decide)
  have g0 : ∀ i, i < 4 → w2.cell? ⟨W.heap.size, i, none⟩ = some (.int .i64 0) := fun i hi => by
    rw [Lib.cell_of_heap HG.out]
    match i, hi with
    | 0, _ => rfl
    | 1, _ => rfl
    | 2, _ => rfl
    | 3, _ => rfl
  have f0 := fun i => Lib.frozen_of_heap HG.out i
  have a0 := g0 0 (by omega)
  have a1 := g0 1 (by omega)
  have a2 := g0 2 (by omega)
  have a3 := g0 3 (by omega)
  have b0 := f0 0
  have b1 := f0 1
  have b2 := f0 2
  have b3 := f0 3
  clear g0 f0 hwb2 hxl
  by_cases he : endR r = 0
  · have hb : (endR r == 0) = true := beq_iff_eq.2 he
    rw [if_pos he] at hgw
    have HGW := Lib.hid hgw
    clear hgw he
    rw [hb]
    clear hb
    go_wp2_with fail
    refine bodyPost_ret (v := .tuple #[agg4 xs, .bool true]) ?_ rfl ⟨by rw [HGW.out], ?_⟩
    · simp [results, Try.results34, go_sem, agg4, a0, a1, a2, a3]
    · exact ((((HB2.out.setCell (p := ⟨W.heap.size, 0, none⟩) (Nat.le_refl _) _).setCell (p := ⟨W.heap.size, 1, none⟩) (Nat.le_refl _) _).setCell (p := ⟨W.heap.size, 2, none⟩) (Nat.le_refl _) _).setCell (p := ⟨W.heap.size, 3, none⟩) (Nat.le_refl _) _)
  · have hb : (endR r == 0) = false := beq_eq_false_iff_ne.2 he
    rw [if_neg he] at hgw
    have HGW := Lib.hid hgw
    clear hgw he
    rw [hb]
    clear hb
    go_wp2_with fail
    refine bodyPost_ret (v := .tuple #[agg4 [], .bool false]) ?_ rfl ⟨by rw [HGW.out], ?_⟩
    · simp [results, Try.results34, go_sem, agg4, a0, a1, a2, a3]
    · exact ((((HB2.out.setCell (p := ⟨W.heap.size, 0, none⟩) (Nat.le_refl _) _).setCell (p := ⟨W.heap.size, 1, none⟩) (Nat.le_refl _) _).setCell (p := ⟨W.heap.size, 2, none⟩) (Nat.le_refl _) _).setCell (p := ⟨W.heap.size, 3, none⟩) (Nat.le_refl _) _)

set_option maxHeartbeats 1600000 in
theorem mark_get (l : List UInt8) (hs : l.length ≤ 140737488351232) (W : World) :
    Calls Try.prog 35 #[.string (S l)] W fun e w' => e = .returned (.tuple #[agg4 (getW [6, 6, 6, 2] l).1, .bool (getW [6, 6, 6, 2] l).2]) ∧ Below W.heap.size W w' := by
  go_enter Try.func35, Try.ntmps35
  go_wp2_with fail
  generalize hW6 : (((((W.alloc _).alloc _).alloc _).alloc _).alloc _).alloc _ = W6
  have hz : W6.heap.size = W.heap.size + 6 := by rw [← hW6]; simp
  have hWb : Wb (W.heap.size + 1) [6, 6, 6, 2] [] W6 := by
    intro i hi
    have hi : i < 4 := hi
    rw [← hW6]
    match i, hi with
    | 0, _ => exact (heap_old (by simp only [World.size_alloc]; omega)).trans ((heap_old (by simp only [World.size_alloc]; omega)).trans ((heap_old (by simp only [World.size_alloc]; omega)).trans ((heap_old (by simp only [World.size_alloc]; omega)).trans (heap_at (by simp)))))
    | 1, _ => exact (heap_old (by simp only [World.size_alloc]; omega)).trans ((heap_old (by simp only [World.size_alloc]; omega)).trans ((heap_old (by simp only [World.size_alloc]; omega)).trans (heap_at (by simp))))
    | 2, _ => exact (heap_old (by simp only [World.size_alloc]; omega)).trans ((heap_old (by simp only [World.size_alloc]; omega)).trans (heap_at (by simp)))
    | 3, _ => exact (heap_old (by simp only [World.size_alloc]; omega)).trans (heap_at (by simp))
  have hSb : W6.heap[W.heap.size + 1 + 1 + 1 + 1 + 1]? = some (.cells #[.pointer (some ⟨W.heap.size + 1, 0, none⟩), .pointer (some ⟨W.heap.size + 1 + 1, 0, none⟩), .pointer (some ⟨W.heap.size + 1 + 1 + 1, 0, none⟩), .pointer (some ⟨W.heap.size + 1 + 1 + 1 + 1, 0, none⟩)] 94 (0, 0)) := by
    rw [← hW6]; exact heap_at (by simp)
  have hS : ∀ i, i < 4 → W6.cell? ⟨W.heap.size + 1 + 1 + 1 + 1 + 1, i, none⟩ = some (.pointer (some ⟨W.heap.size + 1 + i, 0, none⟩)) := by
    intro i hi
    rw [Lib.cell_of_heap hSb]
    match i, hi with
    | 0, _ => rfl
    | 1, _ => rfl
    | 2, _ => rfl
    | 3, _ => rfl
  have hB0 : W6.heap[W.heap.size]? = some (.cells #[.int .i64 0, .int .i64 0, .int .i64 0, .int .i64 0] 26 (0, 0)) := by
    rw [← hW6]; exact (heap_old (by simp only [World.size_alloc]; omega)).trans ((heap_old (by simp only [World.size_alloc]; omega)).trans ((heap_old (by simp only [World.size_alloc]; omega)).trans ((heap_old (by simp only [World.size_alloc]; omega)).trans ((heap_old (by simp only [World.size_alloc]; omega)).trans (heap_at (by simp))))))
  have hB : Below W.heap.size W W6 := by
    rw [← hW6]
    refine ((((((Below.refl _ _).alloc (Nat.le_refl _) _).alloc ?_ _).alloc ?_ _).alloc ?_ _).alloc ?_ _).alloc ?_ _ <;> simp <;> omega
  clear hW6
  refine (get_any (W.heap.size + 1) (W.heap.size + 1 + 1 + 1 + 1 + 1) 4 [6, 6, 6, 2] (by decide) (by decide) l hs W6 hS hWb (fun i hi => by have hi : i < 4 := hi; omega)).mono ?_
  rintro e w2 ⟨rfl, hwb2, hm2⟩
  have hG : w2.heap[W.heap.size]? = some (.cells #[.int .i64 0, .int .i64 0, .int .i64 0, .int .i64 0] 26 (0, 0)) := (hm2.block _ (by omega) (fun h => by omega)).trans hB0
  have hB2 : Below W.heap.size W w2 := hB.trans (hm2.to_below _ (by omega) (fun k h => by omega))
  have hxl := numsR_length [6, 6, 6, 2] ⟨l, 0⟩
  have HB2 := Lib.hid hB2
  have HG := Lib.hid hG
  clear hB hB0 hS hSb hWb hm2 hB2 hG hz
  have hgw := getW_eq [6, 6, 6, 2] l
  generalize numsR [6, 6, 6, 2] ⟨l, 0⟩ = q at *
  obtain ⟨xs, r⟩ := q
  simp only at *
  have hc0 := hwb2.cell1 0 (by decide)
  have hc1 := hwb2.cell1 1 (by decide)
  have hc2 := hwb2.cell1 2 (by decide)
  have hc3 := hwb2.cell1 3 (by decide)
  have g0 : ∀ i, i < 4 → w2.cell? ⟨W.heap.size, i, none⟩ = some (.int .i64 0) := fun i hi => by
    rw [Lib.cell_of_heap HG.out]
    match i, hi with
    | 0, _ => rfl
    | 1, _ => rfl
    | 2, _ => rfl
    | 3, _ => rfl
  have f0 := fun i => Lib.frozen_of_heap HG.out i
  have a0 := g0 0 (by omega)
  have a1 := g0 1 (by omega)
  have a2 := g0 2 (by omega)
  have a3 := g0 3 (by omega)
  have b0 := f0 0
  have b1 := f0 1
  have b2 := f0 2
  have b3 := f0 3
  clear g0 f0 hwb2 hxl
  by_cases he : endR r = 0
  · have hb : (endR r == 0) = true := beq_iff_eq.2 he
    rw [if_pos he] at hgw
    have HGW := Lib.hid hgw
    clear hgw he
    rw [hb]
    clear hb
    go_wp2_with fail
    refine bodyPost_ret (v := .tuple #[agg4 xs, .bool true]) ?_ rfl ⟨by rw [HGW.out], ?_⟩
    · simp [results, Try.results35, go_sem, agg4, a0, a1, a2, a3]
    · exact ((((HB2.out.setCell (p := ⟨W.heap.size, 0, none⟩) (Nat.le_refl _) _).setCell (p := ⟨W.heap.size, 1, none⟩) (Nat.le_refl _) _).setCell (p := ⟨W.heap.size, 2, none⟩) (Nat.le_refl _) _).setCell (p := ⟨W.heap.size, 3, none⟩) (Nat.le_refl _) _)
  · have hb : (endR r == 0) = false := beq_eq_false_iff_ne.2 he
    rw [if_neg he] at hgw
    have HGW := Lib.hid hgw
    clear hgw he
    rw [hb]
    clear hb
    go_wp2_with fail
    refine bodyPost_ret (v := .tuple #[agg4 [], .bool false]) ?_ rfl ⟨by rw [HGW.out], ?_⟩
    · simp [results, Try.results35, go_sem, agg4, a0, a1, a2, a3]
    · exact ((((HB2.out.setCell (p := ⟨W.heap.size, 0, none⟩) (Nat.le_refl _) _).setCell (p := ⟨W.heap.size, 1, none⟩) (Nat.le_refl _) _).setCell (p := ⟨W.heap.size, 2, none⟩) (Nat.le_refl _) _).setCell (p := ⟨W.heap.size, 3, none⟩) (Nat.le_refl _) _)

end Go.Proofs.Ytdlfbpdcligecaa.EntW
