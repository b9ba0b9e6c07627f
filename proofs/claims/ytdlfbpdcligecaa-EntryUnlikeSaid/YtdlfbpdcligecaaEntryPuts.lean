/- The statement EntryPuts: any entry has the bytes that the document says, or none, and comes back from them. No condition. -/
import Derived.Test.YtdlfbpdcligecaaEntE
import Derived.Lib.SmallJoins
namespace Go.Proofs.Ytdlfbpdcligecaa.entryPuts
open Go.ChangeShapes Go.WideShapes Go.ChangeAt Go.RowKit OctW OctMath EntW
set_option maxRecDepth 100000
set_option linter.unusedSimpArgs false
set_option linter.unusedVariables false

abbrev In (x : Int) : Prop := -9223372036854775808 ≤ x ∧ x ≤ 9223372036854775807
theorem get_cases (n0 n1 n2 n3 : Nat) (a b c d : Int) (h : ∀ p ∈ ws4 n0 n1 n2 n3 a b c d, 1 ≤ p.1 ∧ p.1 ≤ 7) :
    (widOk (ws4 n0 n1 n2 n3 a b c d) = true ∧ getW [n0, n1, n2, n3] (widW (ws4 n0 n1 n2 n3 a b c d)) = ([a.toNat, b.toNat, c.toNat, d.toNat], true) ∧ ((a.toNat : Int) = a ∧ (b.toNat : Int) = b ∧ (c.toNat : Int) = c ∧ (d.toNat : Int) = d)) ∨
    (widOk (ws4 n0 n1 n2 n3 a b c d) = false ∧ getW [n0, n1, n2, n3] (widW (ws4 n0 n1 n2 n3 a b c d)) = ([], false)) := by
  have hg := getW_four n0 n1 n2 n3 a b c d h
  cases ho : widOk (ws4 n0 n1 n2 n3 a b c d) with
  | true =>
    rw [ho, if_pos rfl] at hg
    obtain ⟨a', b', c', d', rfl, rfl, rfl, rfl⟩ := widOk_nat n0 n1 n2 n3 a b c d ho
    exact .inl ⟨rfl, hg, rfl, rfl, rfl, rfl⟩
  | false => rw [ho] at hg; exact .inr ⟨rfl, hg⟩

theorem cells4 {w : World} {g : Nat} {v0 v1 v2 v3 : Value} {T : TypeId} (h : w.heap[g]? = some (.cells #[v0, v1, v2, v3] T (0, 0))) :
    w.cell? ⟨g, 0, none⟩ = some v0 ∧ w.cell? ⟨g, 1, none⟩ = some v1 ∧ w.cell? ⟨g, 2, none⟩ = some v2 ∧ w.cell? ⟨g, 3, none⟩ = some v3 := by
  refine ⟨?_, ?_, ?_, ?_⟩ <;> rw [Lib.cell_of_heap h] <;> rfl

theorem place_back (a b c d : Int) (hl : (widW (ws4 6 2 5 7 a b c d)).length ≤ 28) : ∃ p0 p1 p2 p3 : Nat, (widOk (ws4 6 2 5 7 a b c d) = true → (p0 : Int) = a ∧ (p1 : Int) = b ∧ (p2 : Int) = c ∧ (p3 : Int) = d) ∧
    ∀ w, Calls Try.prog 33 #[.string (S (widW (ws4 6 2 5 7 a b c d)))] w fun e w' => e = .returned (.tuple #[.agg #[.int .i64 p0, .int .i64 p1, .int .i64 p2, .int .i64 p3], .bool (widOk (ws4 6 2 5 7 a b c d))]) ∧ Below w.heap.size w w' := by
  have hg := fun w => place_get (widW (ws4 6 2 5 7 a b c d)) (by omega) w
  rcases get_cases 6 2 5 7 a b c d (by intro p hp; simp only [ws4, List.mem_cons, List.not_mem_nil, or_false] at hp; rcases hp with rfl | rfl | rfl | rfl <;> exact ⟨by simp, by simp⟩) with ⟨ho, h, hh⟩ | ⟨ho, h⟩
  · rw [h] at hg; rw [ho]; exact ⟨_, _, _, _, fun _ => hh, hg⟩
  · rw [h] at hg; rw [ho]; exact ⟨0, 0, 0, 0, (fun x => by cases x), hg⟩
theorem link_back (a b c d : Int) (hl : (widW (ws4 5 6 6 3 a b c d)).length ≤ 28) : ∃ p0 p1 p2 p3 : Nat, (widOk (ws4 5 6 6 3 a b c d) = true → (p0 : Int) = a ∧ (p1 : Int) = b ∧ (p2 : Int) = c ∧ (p3 : Int) = d) ∧
    ∀ w, Calls Try.prog 34 #[.string (S (widW (ws4 5 6 6 3 a b c d)))] w fun e w' => e = .returned (.tuple #[.agg #[.int .i64 p0, .int .i64 p1, .int .i64 p2, .int .i64 p3], .bool (widOk (ws4 5 6 6 3 a b c d))]) ∧ Below w.heap.size w w' := by
  have hg := fun w => link_get (widW (ws4 5 6 6 3 a b c d)) (by omega) w
  rcases get_cases 5 6 6 3 a b c d (by intro p hp; simp only [ws4, List.mem_cons, List.not_mem_nil, or_false] at hp; rcases hp with rfl | rfl | rfl | rfl <;> exact ⟨by simp, by simp⟩) with ⟨ho, h, hh⟩ | ⟨ho, h⟩
  · rw [h] at hg; rw [ho]; exact ⟨_, _, _, _, fun _ => hh, hg⟩
  · rw [h] at hg; rw [ho]; exact ⟨0, 0, 0, 0, (fun x => by cases x), hg⟩
theorem mark_back (a b c d : Int) (hl : (widW (ws4 6 6 6 2 a b c d)).length ≤ 28) : ∃ p0 p1 p2 p3 : Nat, (widOk (ws4 6 6 6 2 a b c d) = true → (p0 : Int) = a ∧ (p1 : Int) = b ∧ (p2 : Int) = c ∧ (p3 : Int) = d) ∧
    ∀ w, Calls Try.prog 35 #[.string (S (widW (ws4 6 6 6 2 a b c d)))] w fun e w' => e = .returned (.tuple #[.agg #[.int .i64 p0, .int .i64 p1, .int .i64 p2, .int .i64 p3], .bool (widOk (ws4 6 6 6 2 a b c d))]) ∧ Below w.heap.size w w' := by
  have hg := fun w => mark_get (widW (ws4 6 6 6 2 a b c d)) (by omega) w
  rcases get_cases 6 6 6 2 a b c d (by intro p hp; simp only [ws4, List.mem_cons, List.not_mem_nil, or_false] at hp; rcases hp with rfl | rfl | rfl | rfl <;> exact ⟨by simp, by simp⟩) with ⟨ho, h, hh⟩ | ⟨ho, h⟩
  · rw [h] at hg; rw [ho]; exact ⟨_, _, _, _, fun _ => hh, hg⟩
  · rw [h] at hg; rw [ho]; exact ⟨0, 0, 0, 0, (fun x => by cases x), hg⟩

set_option maxHeartbeats 4000000 in
theorem law (W : World) (a : Int) (ha : In a) (b : Int) (hb : In b) (c : Int) (hc : In c) (d : Int) (hd : In d) (a2 : Int) (ha2 : In a2) (b2 : Int) (hb2 : In b2) (c2 : Int) (hc2 : In c2) (d2 : Int) (hd2 : In d2) (a3 : Int) (ha3 : In a3) (b3 : Int) (hb3 : In b3) (c3 : Int) (hc3 : In c3) (d3 : Int) (hd3 : In d3) :
    Calls Try.prog 7 #[.agg #[.int .i64 a, .int .i64 b, .int .i64 c, .int .i64 d], .agg #[.int .i64 a2, .int .i64 b2, .int .i64 c2, .int .i64 d2], .agg #[.int .i64 a3, .int .i64 b3, .int .i64 c3, .int .i64 d3]] W fun e w' => e = .returned (.bool true) ∧ Below W.heap.size W w' := by
  have HP : Hid (∀ w, Calls Try.prog 13 #[.agg #[.int .i64 a, .int .i64 b, .int .i64 c, .int .i64 d]] w fun e w' => e = .returned (.tuple #[.string (S (widW (ws4 6 2 5 7 a b c d))), .bool (widOk (ws4 6 2 5 7 a b c d))]) ∧ Below w.heap.size w w') := fun w => place_put a b c d ha hb hc hd w
  have HPB : Hid (∀ w, Calls Try.prog 32 #[.agg #[.int .i64 6, .int .i64 2, .int .i64 5, .int .i64 7], .agg #[.int .i64 a, .int .i64 b, .int .i64 c, .int .i64 d]] w fun e w' => e = .returned (.tuple #[.string (S (widW (ws4 6 2 5 7 a b c d))), .bool (widOk (ws4 6 2 5 7 a b c d))]) ∧ Below w.heap.size w w') := fun w => bytes_any 6 2 5 7 (by omega) (by omega) (by omega) (by omega) a b c d ha hb hc hd w
  have HPL : Hid ((widW (ws4 6 2 5 7 a b c d)).length ≤ 28) := by
    show _ ≤ _
    unfold widW; split
    · exact widL_le _ (by intro p hp; simp only [ws4, List.mem_cons, List.not_mem_nil, or_false] at hp; rcases hp with rfl | rfl | rfl | rfl <;> simp)
    · simp
  have HL : Hid (∀ w, Calls Try.prog 31 #[.agg #[.int .i64 a2, .int .i64 b2, .int .i64 c2, .int .i64 d2]] w fun e w' => e = .returned (.tuple #[.string (S (widW (ws4 5 6 6 3 a2 b2 c2 d2))), .bool (widOk (ws4 5 6 6 3 a2 b2 c2 d2))]) ∧ Below w.heap.size w w') := fun w => link_put a2 b2 c2 d2 ha2 hb2 hc2 hd2 w
  have HLB : Hid (∀ w, Calls Try.prog 32 #[.agg #[.int .i64 5, .int .i64 6, .int .i64 6, .int .i64 3], .agg #[.int .i64 a2, .int .i64 b2, .int .i64 c2, .int .i64 d2]] w fun e w' => e = .returned (.tuple #[.string (S (widW (ws4 5 6 6 3 a2 b2 c2 d2))), .bool (widOk (ws4 5 6 6 3 a2 b2 c2 d2))]) ∧ Below w.heap.size w w') := fun w => bytes_any 5 6 6 3 (by omega) (by omega) (by omega) (by omega) a2 b2 c2 d2 ha2 hb2 hc2 hd2 w
  have HLL : Hid ((widW (ws4 5 6 6 3 a2 b2 c2 d2)).length ≤ 28) := by
    show _ ≤ _
    unfold widW; split
    · exact widL_le _ (by intro p hp; simp only [ws4, List.mem_cons, List.not_mem_nil, or_false] at hp; rcases hp with rfl | rfl | rfl | rfl <;> simp)
    · simp
  have HM : Hid (∀ w, Calls Try.prog 14 #[.agg #[.int .i64 a3, .int .i64 b3, .int .i64 c3, .int .i64 d3]] w fun e w' => e = .returned (.tuple #[.string (S (widW (ws4 6 6 6 2 a3 b3 c3 d3))), .bool (widOk (ws4 6 6 6 2 a3 b3 c3 d3))]) ∧ Below w.heap.size w w') := fun w => mark_put a3 b3 c3 d3 ha3 hb3 hc3 hd3 w
  have HMB : Hid (∀ w, Calls Try.prog 32 #[.agg #[.int .i64 6, .int .i64 6, .int .i64 6, .int .i64 2], .agg #[.int .i64 a3, .int .i64 b3, .int .i64 c3, .int .i64 d3]] w fun e w' => e = .returned (.tuple #[.string (S (widW (ws4 6 6 6 2 a3 b3 c3 d3))), .bool (widOk (ws4 6 6 6 2 a3 b3 c3 d3))]) ∧ Below w.heap.size w w') := fun w => bytes_any 6 6 6 2 (by omega) (by omega) (by omega) (by omega) a3 b3 c3 d3 ha3 hb3 hc3 hd3 w
  have HML : Hid ((widW (ws4 6 6 6 2 a3 b3 c3 d3)).length ≤ 28) := by
    show _ ≤ _
    unfold widW; split
    · exact widL_le _ (by intro p hp; simp only [ws4, List.mem_cons, List.not_mem_nil, or_false] at hp; rcases hp with rfl | rfl | rfl | rfl <;> simp)
    · simp
  obtain ⟨p0P, p1P, p2P, p3P, hPE, hPG⟩ := place_back a b c d HPL.out
  have HPG := Lib.hid hPG
  have HPE := Lib.hid hPE
  clear hPG hPE
  obtain ⟨p0L, p1L, p2L, p3L, hLE, hLG⟩ := link_back a2 b2 c2 d2 HLL.out
  have HLG := Lib.hid hLG
  have HLE := Lib.hid hLE
  clear hLG hLE
  obtain ⟨p0M, p1M, p2M, p3M, hME, hMG⟩ := mark_back a3 b3 c3 d3 HML.out
  have HMG := Lib.hid hMG
  have HME := Lib.hid hME
  clear hMG hME
  clear ha hb hc hd ha2 hb2 hc2 hd2 ha3 hb3 hc3 hd3
  generalize ws4 6 2 5 7 a b c d = wP at *
  generalize ws4 5 6 6 3 a2 b2 c2 d2 = wL at *
  generalize ws4 6 6 6 2 a3 b3 c3 d3 = wM at *
  go_enter Try.func7, Try.ntmps7
  go_wp2_with fail
  generalize hW3 : ((W.alloc (.cells #[.int .i64 a, .int .i64 b, .int .i64 c, .int .i64 d] 23)).alloc (.cells #[.int .i64 a2, .int .i64 b2, .int .i64 c2, .int .i64 d2] 56)).alloc (.cells #[.int .i64 a3, .int .i64 b3, .int .i64 c3, .int .i64 d3] 26) = W3
  have B0 : Hid (W3.heap[W.heap.size]? = some (.cells #[.int .i64 a, .int .i64 b, .int .i64 c, .int .i64 d] 23 (0, 0))) := by rw [← hW3]; exact (heap_old (by simp only [World.size_alloc]; omega)).trans ((heap_old (by simp only [World.size_alloc]; omega)).trans (heap_at (by simp)))
  have B1 : Hid (W3.heap[W.heap.size + 1]? = some (.cells #[.int .i64 a2, .int .i64 b2, .int .i64 c2, .int .i64 d2] 56 (0, 0))) := by rw [← hW3]; exact (heap_old (by simp only [World.size_alloc]; omega)).trans (heap_at (by simp))
  have B2 : Hid (W3.heap[W.heap.size + 1 + 1]? = some (.cells #[.int .i64 a3, .int .i64 b3, .int .i64 c3, .int .i64 d3] 26 (0, 0))) := by rw [← hW3]; exact heap_at (by simp)
  have HB : Hid (Below W.heap.size W W3) := by rw [← hW3]; exact (((Below.refl _ W).alloc (Nat.le_refl _) _).alloc (by simp) _).alloc (by simp; omega) _
  have hz : W3.heap.size = W.heap.size + 3 := by rw [← hW3]; simp
  clear hW3
  have HZ := Lib.hid hz
  clear hz
  refine (awake07_any _).mono ?_
  rintro e w1_ ⟨rfl, hb1⟩
  have E1 : Hid (Below (W.heap.size + 3) W3 w1_) := by rw [← HZ.out]; exact hb1
  clear hb1
  obtain ⟨k0, k1, k2, k3⟩ := cells4 ((E1.out.block _ (by omega)).trans B0.out)
  go_wp2_with fail
  clear k0 k1 k2 k3
  refine (HP.out w1_).mono ?_
  rintro e w2_ ⟨rfl, hb1⟩
  have E2 : Hid (Below (W.heap.size + 3) W3 w2_) := E1.out.trans (hb1.mono (by have := E1.out.size; have := HZ.out; omega))
  clear hb1 E1
  obtain ⟨k0, k1, k2, k3⟩ := cells4 ((E2.out.block _ (by omega)).trans B1.out)
  go_wp2_with fail
  clear k0 k1 k2 k3
  refine (HL.out w2_).mono ?_
  rintro e w3_ ⟨rfl, hb1⟩
  have E3 : Hid (Below (W.heap.size + 3) W3 w3_) := E2.out.trans (hb1.mono (by have := E2.out.size; have := HZ.out; omega))
  clear hb1 E2
  obtain ⟨k0, k1, k2, k3⟩ := cells4 ((E3.out.block _ (by omega)).trans B2.out)
  go_wp2_with fail
  clear k0 k1 k2 k3
  refine (HM.out w3_).mono ?_
  rintro e w4_ ⟨rfl, hb1⟩
  have E4 : Hid (Below (W.heap.size + 3) W3 w4_) := E3.out.trans (hb1.mono (by have := E3.out.size; have := HZ.out; omega))
  clear hb1 E3
  obtain ⟨k0, k1, k2, k3⟩ := cells4 ((E4.out.block _ (by omega)).trans B0.out)
  go_wp2_with fail
  clear k0 k1 k2 k3
  refine (HPB.out w4_).mono ?_
  rintro e w5_ ⟨rfl, hb1⟩
  have E5 : Hid (Below (W.heap.size + 3) W3 w5_) := E4.out.trans (hb1.mono (by have := E4.out.size; have := HZ.out; omega))
  clear hb1 E4
  obtain ⟨k0, k1, k2, k3⟩ := cells4 ((E5.out.block _ (by omega)).trans B1.out)
  go_wp2_with fail
  clear k0 k1 k2 k3
  refine (HLB.out w5_).mono ?_
  rintro e w6_ ⟨rfl, hb1⟩
  have E6 : Hid (Below (W.heap.size + 3) W3 w6_) := E5.out.trans (hb1.mono (by have := E5.out.size; have := HZ.out; omega))
  clear hb1 E5
  obtain ⟨k0, k1, k2, k3⟩ := cells4 ((E6.out.block _ (by omega)).trans B2.out)
  go_wp2_with fail
  clear k0 k1 k2 k3
  refine (HMB.out w6_).mono ?_
  rintro e w7_ ⟨rfl, hb1⟩
  have E7 : Hid (Below (W.heap.size + 3) W3 w7_) := E6.out.trans (hb1.mono (by have := E6.out.size; have := HZ.out; omega))
  clear hb1 E6
  go_wp2_with fail
  refine (HPG.out _).mono ?_
  rintro e y0 ⟨rfl, hb1⟩
  have F0 : Hid (Below (W.heap.size + 3) W3 (y0.alloc (.cells #[.int .i64 p0P, .int .i64 p1P, .int .i64 p2P, .int .i64 p3P] 23))) := (E7.out.trans (hb1.mono (by have := E7.out.size; have := HZ.out; omega))).alloc (by have := E7.out.size; have := hb1.size; have := HZ.out; omega) _
  have K0_0 : Hid ((y0.alloc (.cells #[.int .i64 p0P, .int .i64 p1P, .int .i64 p2P, .int .i64 p3P] 23)).heap[y0.heap.size]? = some (.cells #[.int .i64 p0P, .int .i64 p1P, .int .i64 p2P, .int .i64 p3P] 23 (0, 0))) := heap_at rfl
  clear hb1 E7
  go_wp2_with fail
  refine (HLG.out _).mono ?_
  rintro e y1 ⟨rfl, hb1⟩
  have F1 : Hid (Below (W.heap.size + 3) W3 (y1.alloc (.cells #[.int .i64 p0L, .int .i64 p1L, .int .i64 p2L, .int .i64 p3L] 56))) := (F0.out.trans (hb1.mono (by have := F0.out.size; have := HZ.out; omega))).alloc (by have := F0.out.size; have := hb1.size; have := HZ.out; omega) _
  have K0_1 : Hid ((y1.alloc (.cells #[.int .i64 p0L, .int .i64 p1L, .int .i64 p2L, .int .i64 p3L] 56)).heap[y0.heap.size]? = some (.cells #[.int .i64 p0P, .int .i64 p1P, .int .i64 p2P, .int .i64 p3P] 23 (0, 0))) := (heap_old (Nat.lt_of_lt_of_le (Array.getElem?_eq_some_iff.1 K0_0.out).1 hb1.size)).trans ((hb1.block _ (Array.getElem?_eq_some_iff.1 K0_0.out).1).trans K0_0.out)
  have K1_1 : Hid ((y1.alloc (.cells #[.int .i64 p0L, .int .i64 p1L, .int .i64 p2L, .int .i64 p3L] 56)).heap[y1.heap.size]? = some (.cells #[.int .i64 p0L, .int .i64 p1L, .int .i64 p2L, .int .i64 p3L] 56 (0, 0))) := heap_at rfl
  clear hb1 F0 K0_0
  go_wp2_with fail
  refine (HMG.out _).mono ?_
  rintro e y2 ⟨rfl, hb1⟩
  have F2 : Hid (Below (W.heap.size + 3) W3 (y2.alloc (.cells #[.int .i64 p0M, .int .i64 p1M, .int .i64 p2M, .int .i64 p3M] 26))) := (F1.out.trans (hb1.mono (by have := F1.out.size; have := HZ.out; omega))).alloc (by have := F1.out.size; have := hb1.size; have := HZ.out; omega) _
  have K0_2 : Hid ((y2.alloc (.cells #[.int .i64 p0M, .int .i64 p1M, .int .i64 p2M, .int .i64 p3M] 26)).heap[y0.heap.size]? = some (.cells #[.int .i64 p0P, .int .i64 p1P, .int .i64 p2P, .int .i64 p3P] 23 (0, 0))) := (heap_old (Nat.lt_of_lt_of_le (Array.getElem?_eq_some_iff.1 K0_1.out).1 hb1.size)).trans ((hb1.block _ (Array.getElem?_eq_some_iff.1 K0_1.out).1).trans K0_1.out)
  have K1_2 : Hid ((y2.alloc (.cells #[.int .i64 p0M, .int .i64 p1M, .int .i64 p2M, .int .i64 p3M] 26)).heap[y1.heap.size]? = some (.cells #[.int .i64 p0L, .int .i64 p1L, .int .i64 p2L, .int .i64 p3L] 56 (0, 0))) := (heap_old (Nat.lt_of_lt_of_le (Array.getElem?_eq_some_iff.1 K1_1.out).1 hb1.size)).trans ((hb1.block _ (Array.getElem?_eq_some_iff.1 K1_1.out).1).trans K1_1.out)
  have K2_2 : Hid ((y2.alloc (.cells #[.int .i64 p0M, .int .i64 p1M, .int .i64 p2M, .int .i64 p3M] 26)).heap[y2.heap.size]? = some (.cells #[.int .i64 p0M, .int .i64 p1M, .int .i64 p2M, .int .i64 p3M] 26 (0, 0))) := heap_at rfl
  clear hb1 F1 K0_1 K1_1
  go_upto_region 14 with fail
  have HF : Hid (Below W.heap.size W (y2.alloc (.cells #[.int .i64 p0M, .int .i64 p1M, .int .i64 p2M, .int .i64 p3M] 26))) := HB.out.trans (F2.out.mono (by omega))
  have C0 := Lib.hid ((F2.out.block _ (by omega)).trans B0.out)
  have C1 := Lib.hid ((F2.out.block _ (by omega)).trans B1.out)
  have C2 := Lib.hid ((F2.out.block _ (by omega)).trans B2.out)
  clear F2 HB B0 B1 B2 HP HL HM HPB HLB HMB HPG HLG HMG HPL HLL HML
  generalize y2.alloc (.cells #[.int .i64 p0M, .int .i64 p1M, .int .i64 p2M, .int .i64 p3M] 26) = Y at *
  generalize y0.heap.size = g0 at *
  generalize y1.heap.size = g1 at *
  generalize y2.heap.size = g2 at *
  generalize widOk wP = oP at *
  generalize widOk wL = oL at *
  generalize widOk wM = oM at *
  have l1 := cells4 C0.out
  have l2 := cells4 C1.out
  have l3 := cells4 C2.out
  have l4 := cells4 K0_2.out
  have l5 := cells4 K1_2.out
  have l6 := cells4 K2_2.out
  clear C0 C1 C2 K0_2 K1_2 K2_2
  obtain ⟨l10, l11, l12, l13⟩ := l1
  obtain ⟨l20, l21, l22, l23⟩ := l2
  obtain ⟨l30, l31, l32, l33⟩ := l3
  obtain ⟨l40, l41, l42, l43⟩ := l4
  obtain ⟨l50, l51, l52, l53⟩ := l5
  obtain ⟨l60, l61, l62, l63⟩ := l6
  cases oP <;> cases oL <;> cases oM
  all_goals
    try obtain ⟨rfl, rfl, rfl, rfl⟩ := HPE.out rfl
    try obtain ⟨rfl, rfl, rfl, rfl⟩ := HLE.out rfl
    try obtain ⟨rfl, rfl, rfl, rfl⟩ := HME.out rfl
    go_wp2_with fail
    go_ret
    exact ⟨rfl, HF.out⟩

theorem lifted (os : Os) (started : os.Started) (H : Type) (enc : TypeId × Value → H) :
    ReturnsInHanded {} Try.checked os 7 .any (Rows.entryPutsSpec.pre6 enc Try.prog Try.f7 Rows.entryPutsRow.domain false) (Rows.entryPutsSpec.post enc Try.prog Try.f7 false true false false) := by
  refine returnsInHanded_of_change (C := Try.checked) own started (by kernel_rfl) Try.func7
    (ChangeSpec.witness6 (enc := enc) (C := Try.checked) false ⟨#[], #[.agg #[.int .i64 0, .int .i64 0, .int .i64 0, .int .i64 0], .agg #[.int .i64 0, .int .i64 0, .int .i64 0, .int .i64 0], .agg #[.int .i64 0, .int .i64 0, .int .i64 0, .int .i64 0]], []⟩ 8 (by kernel_rfl) (by kernel_rfl) (by kernel_rfl) (by kernel_rfl)) ?_
  intro W base args ds gs before hval0 hW hcnd0 _
  have hval : ∀ (j : Nat) t v, Try.f7.params[j]? = some t → args[j]? = some v → Value.okWide Try.prog W .any base t v := hval0
  have hW' := hW
  obtain ⟨p, q, hA0, hV, rfl, hfz, hnd⟩ := hW
  have hA : DataW.TrodAll enc Try.prog W 0 (fun _ => true) true Try.f7.params.toList args.toList ds p := hA0
  rw [Try.params7] at hA hval
  obtain ⟨v0, v1, v2, d0, d1, d2, p0, p1, p2, rfl, rfl, rfl, h0, h1, h2⟩ := trodAll_three hA
  obtain ⟨rfl, rfl⟩ := trodVars_none hV
  obtain ⟨c0, c1, c2, c3, y0, y1, y2, y3, m, rfl, rfl, rfl, hy0, hy1, hy2, hy3⟩ := Go.Joins.open_agg4 Try.underlying23 (by kernel_rfl) (by kernel_rfl) (hval 0 23 v0 rfl rfl) h0
  obtain ⟨x0_0, e0, rfl, k0_0⟩ := DataW.trod_int Try.underlying3 hy0
  obtain rfl : c0 = .int .i64 x0_0 := by simpa using e0
  obtain ⟨x0_1, e1, rfl, k0_1⟩ := DataW.trod_int Try.underlying3 hy1
  obtain rfl : c1 = .int .i64 x0_1 := by simpa using e1
  obtain ⟨x0_2, e2, rfl, k0_2⟩ := DataW.trod_int Try.underlying3 hy2
  obtain rfl : c2 = .int .i64 x0_2 := by simpa using e2
  obtain ⟨x0_3, e3, rfl, k0_3⟩ := DataW.trod_int Try.underlying3 hy3
  obtain rfl : c3 = .int .i64 x0_3 := by simpa using e3
  clear e0 e1 e2 e3 hy0 hy1 hy2 hy3
  obtain ⟨c0, c1, c2, c3, y0, y1, y2, y3, m, rfl, rfl, rfl, hy0, hy1, hy2, hy3⟩ := Go.Joins.open_agg4 Try.underlying56 (by kernel_rfl) (by kernel_rfl) (hval 1 56 v1 rfl rfl) h1
  obtain ⟨x1_0, e0, rfl, k1_0⟩ := DataW.trod_int Try.underlying3 hy0
  obtain rfl : c0 = .int .i64 x1_0 := by simpa using e0
  obtain ⟨x1_1, e1, rfl, k1_1⟩ := DataW.trod_int Try.underlying3 hy1
  obtain rfl : c1 = .int .i64 x1_1 := by simpa using e1
  obtain ⟨x1_2, e2, rfl, k1_2⟩ := DataW.trod_int Try.underlying3 hy2
  obtain rfl : c2 = .int .i64 x1_2 := by simpa using e2
  obtain ⟨x1_3, e3, rfl, k1_3⟩ := DataW.trod_int Try.underlying3 hy3
  obtain rfl : c3 = .int .i64 x1_3 := by simpa using e3
  clear e0 e1 e2 e3 hy0 hy1 hy2 hy3
  obtain ⟨c0, c1, c2, c3, y0, y1, y2, y3, m, rfl, rfl, rfl, hy0, hy1, hy2, hy3⟩ := Go.Joins.open_agg4 Try.underlying26 (by kernel_rfl) (by kernel_rfl) (hval 2 26 v2 rfl rfl) h2
  obtain ⟨x2_0, e0, rfl, k2_0⟩ := DataW.trod_int Try.underlying3 hy0
  obtain rfl : c0 = .int .i64 x2_0 := by simpa using e0
  obtain ⟨x2_1, e1, rfl, k2_1⟩ := DataW.trod_int Try.underlying3 hy1
  obtain rfl : c1 = .int .i64 x2_1 := by simpa using e1
  obtain ⟨x2_2, e2, rfl, k2_2⟩ := DataW.trod_int Try.underlying3 hy2
  obtain rfl : c2 = .int .i64 x2_2 := by simpa using e2
  obtain ⟨x2_3, e3, rfl, k2_3⟩ := DataW.trod_int Try.underlying3 hy3
  obtain rfl : c3 = .int .i64 x2_3 := by simpa using e3
  clear e0 e1 e2 e3 hy0 hy1 hy2 hy3
  clear hA0 hval0
  refine (law W x0_0 (i64_range k0_0) x0_1 (i64_range k0_1) x0_2 (i64_range k0_2) x0_3 (i64_range k0_3) x1_0 (i64_range k1_0) x1_1 (i64_range k1_1) x1_2 (i64_range k1_2) x1_3 (i64_range k1_3) x2_0 (i64_range k2_0) x2_1 (i64_range k2_1) x2_2 (i64_range k2_2) x2_3 (i64_range k2_3)).mono fun e W' ⟨he, hb⟩ => ?_
  subst he
  refine ⟨_, rfl, law_post hW' ?_ (tb := 4) (by kernel_rfl) Try.underlying4 rfl ⟨rfl, rfl, rfl⟩ hb⟩
  rw [Try.params7]
  intro t ht
  have : t = 23 ∨ t = 56 ∨ t = 26 := by simpa using ht
  rcases this with rfl | rfl | rfl <;> exact ⟨by kernel_rfl, of_decide_eq_true (by kernel_rfl)⟩

theorem proved : Rows.EntryPutsSaid :=
  OpenClaim.holds_of_wide 7 Try.f7 rfl rfl rfl rfl rfl rfl rfl ⟨rfl, rfl, rfl, rfl, rfl⟩ rfl rfl rfl rfl rfl (by kernel_rfl) Try.func7 (by kernel_rfl)
    (of_decide_eq_true (by kernel_rfl)) (by unfold Func.isWrapper; rw [if_neg (of_decide_eq_false (by kernel_rfl))]; exact ⟨rfl, rfl⟩)
    (fun os started H enc _ => lifted os started H enc)
end Go.Proofs.Ytdlfbpdcligecaa.entryPuts
