/- an argument that is an event, opened. -/
import Derived.Test.YtadhkeboaapfcaaGreatDoorLinLaid
import Derived.Test.YtadhkeboaapfcaaGreatDoorEvE
import Derived.Deep.Grids
namespace Go.Proofs.YtadhkeboaapfcaaGreatDoor
open Go.ChangeShapes Go.WideShapes Go.ChangeAt Go.RowKit EvW OctMath
set_option linter.unusedVariables false
set_option maxRecDepth 100000

section
variable {H : Type} {enc : TypeId × Value → H} {W : World}
theorem open_texts {n : Nat} {c : Value} {y : DataW H × List MemPlace} (h : DataW.trod enc Tryz.prog W 0 (fun _ => true) true n 22 [c] = some y) : ∃ a cp, ∃ ts : List (List UInt8), c = .slice a ts.length cp ∧ Strs W a (ts.map S) ∧ ts.length ≤ cp := by
  rcases open_strings Tryz.underlying22 Tryz.underlying9 (by kernel_rfl) h with ⟨hcs, _⟩ | ⟨a, len, cap, ss, hcs, _, hl, hm, hz, _, hcell, _⟩
  · obtain rfl := List.singleton_inj.1 hcs
    exact ⟨none, 0, [], rfl, fun i hi => absurd hi (by simp), Nat.le_refl _⟩
  · obtain rfl := List.singleton_inj.1 hcs
    have hz' : ss.length = cap := by rw [hz]; simp
    refine ⟨some a, cap, (ss.take len).map fun s => s.data.toList, ?_, ?_, by rw [List.length_map, List.length_take]; omega⟩
    · rw [List.length_map, List.length_take, Nat.min_eq_left (by omega)]
    · rw [List.map_map]
      have e : (S ∘ fun s : ByteArray => s.data.toList) = id := by funext s; exact S_of s
      rw [e, List.map_id]
      refine Strs.of_cells fun i hi => ?_
      have hi' : i < ss.length := by simp at hi; omega
      rw [hcell i hi']
      simp [List.getD, hi']
theorem open_truths {n : Nat} {c : Value} {y : DataW H × List MemPlace} (h : DataW.trod enc Tryz.prog W 0 (fun _ => true) true n 23 [c] = some y) : ∃ a cp, ∃ bs : List Bool, c = .slice a bs.length cp ∧ Row1 W a (bs.map .bool) := by
  rcases Deep.open_bools Tryz.underlying23 Tryz.underlying4 (by kernel_rfl) h with ⟨hcs, _⟩ | ⟨a, len, cap, B, hcs, _, hl, hm, _, hcell⟩
  · obtain rfl := List.singleton_inj.1 hcs
    exact ⟨none, 0, [], rfl, fun i hi => absurd hi (by simp)⟩
  · obtain rfl := List.singleton_inj.1 hcs
    refine ⟨some a, cap, (List.range len).map B, by simp, fun i hi => ?_⟩
    have hi' : i < len := by simpa using hi
    have hc := hcell i (by omega)
    have hs := World.cell?_spot (hcell 0 (by omega))
    obtain ⟨b, off, spot⟩ := a
    have hspot : spot = none := by simpa [Addr.add] using hs
    subst hspot
    refine ⟨b, off, rfl, ?_⟩
    simp only [List.getElem_map, List.getElem_range]
    rw [← hc]
    unfold Addr.add
    split
    · rename_i e; subst e; rfl
    · rfl
theorem i64_in {z : Int} (h : (Lit.int .i64 z).wf = true) : -9223372036854775808 ≤ z ∧ z ≤ 9223372036854775807 := by simpa [Lit.wf, IntKind.min, IntKind.max, IntKind.signed, IntKind.bits] using h
theorem open_event {base : Nat} {v : Value} {d : DataW H} {p : List MemPlace} (hval : Value.okWide Tryz.prog W .any base 25 v) (h0 : DataW.Trod enc Tryz.prog W 0 (fun _ => true) true 25 v d p) :
    ∃ ev s, v = .agg (Ev.cells ev s) ∧ EvIn W ev s ∧ EvI ev ∧ ev.tags.length ≤ s.tc := by
  obtain ⟨cs, rfl, hsz⟩ := okWide_struct Tryz.underlying25 hval
  have hc14 : cs.size = 14 := hsz.trans (by kernel_rfl)
  obtain ⟨c0, c1, c2, c3, c4, c5, c6, c7, c8, c9, c10, c11, c12, c13, rfl⟩ := fourteen cs hc14
  obtain ⟨fuel, hf⟩ := h0
  obtain ⟨xs, n, _, _, _, hlen, hel⟩ := DataW.trod_struct Tryz.underlying25 hf
  have hlen' : xs.length = 14 := hlen
  have c1i : Tryz.prog.cellsOf 3 = 1 := by kernel_rfl
  have c1s : Tryz.prog.cellsOf 9 = 1 := by kernel_rfl
  have c1b : Tryz.prog.cellsOf 4 = 1 := by kernel_rfl
  have c1t : Tryz.prog.cellsOf 22 = 1 := by kernel_rfl
  have c1u : Tryz.prog.cellsOf 23 = 1 := by kernel_rfl
  match xs, hlen' with
  | [y0, y1, y2, y3, y4, y5, y6, y7, y8, y9, y10, y11, y12, y13], _ =>
    have k0 : DataW.trod enc Tryz.prog W 0 (fun _ => true) true n 3 [c0] = some y0 := by
      have h : DataW.trod enc Tryz.prog W 0 (fun _ => true) true n 3 (([c0, c1, c2, c3, c4, c5, c6, c7, c8, c9, c10, c11, c12, c13].drop 0).take (Tryz.prog.cellsOf 3)) = some y0 := hel 0 _ rfl
      rw [c1i] at h
      exact h
    have k1 : DataW.trod enc Tryz.prog W 0 (fun _ => true) true n 3 [c1] = some y1 := by
      have h : DataW.trod enc Tryz.prog W 0 (fun _ => true) true n 3 (([c0, c1, c2, c3, c4, c5, c6, c7, c8, c9, c10, c11, c12, c13].drop 1).take (Tryz.prog.cellsOf 3)) = some y1 := hel 1 _ rfl
      rw [c1i] at h
      exact h
    have k2 : DataW.trod enc Tryz.prog W 0 (fun _ => true) true n 3 [c2] = some y2 := by
      have h : DataW.trod enc Tryz.prog W 0 (fun _ => true) true n 3 (([c0, c1, c2, c3, c4, c5, c6, c7, c8, c9, c10, c11, c12, c13].drop 2).take (Tryz.prog.cellsOf 3)) = some y2 := hel 2 _ rfl
      rw [c1i] at h
      exact h
    have k3 : DataW.trod enc Tryz.prog W 0 (fun _ => true) true n 3 [c3] = some y3 := by
      have h : DataW.trod enc Tryz.prog W 0 (fun _ => true) true n 3 (([c0, c1, c2, c3, c4, c5, c6, c7, c8, c9, c10, c11, c12, c13].drop 3).take (Tryz.prog.cellsOf 3)) = some y3 := hel 3 _ rfl
      rw [c1i] at h
      exact h
    have k4 : DataW.trod enc Tryz.prog W 0 (fun _ => true) true n 3 [c4] = some y4 := by
      have h : DataW.trod enc Tryz.prog W 0 (fun _ => true) true n 3 (([c0, c1, c2, c3, c4, c5, c6, c7, c8, c9, c10, c11, c12, c13].drop 4).take (Tryz.prog.cellsOf 3)) = some y4 := hel 4 _ rfl
      rw [c1i] at h
      exact h
    have k5 : DataW.trod enc Tryz.prog W 0 (fun _ => true) true n 9 [c5] = some y5 := by
      have h : DataW.trod enc Tryz.prog W 0 (fun _ => true) true n 9 (([c0, c1, c2, c3, c4, c5, c6, c7, c8, c9, c10, c11, c12, c13].drop 5).take (Tryz.prog.cellsOf 9)) = some y5 := hel 5 _ rfl
      rw [c1s] at h
      exact h
    have k6 : DataW.trod enc Tryz.prog W 0 (fun _ => true) true n 9 [c6] = some y6 := by
      have h : DataW.trod enc Tryz.prog W 0 (fun _ => true) true n 9 (([c0, c1, c2, c3, c4, c5, c6, c7, c8, c9, c10, c11, c12, c13].drop 6).take (Tryz.prog.cellsOf 9)) = some y6 := hel 6 _ rfl
      rw [c1s] at h
      exact h
    have k7 : DataW.trod enc Tryz.prog W 0 (fun _ => true) true n 9 [c7] = some y7 := by
      have h : DataW.trod enc Tryz.prog W 0 (fun _ => true) true n 9 (([c0, c1, c2, c3, c4, c5, c6, c7, c8, c9, c10, c11, c12, c13].drop 7).take (Tryz.prog.cellsOf 9)) = some y7 := hel 7 _ rfl
      rw [c1s] at h
      exact h
    have k8 : DataW.trod enc Tryz.prog W 0 (fun _ => true) true n 9 [c8] = some y8 := by
      have h : DataW.trod enc Tryz.prog W 0 (fun _ => true) true n 9 (([c0, c1, c2, c3, c4, c5, c6, c7, c8, c9, c10, c11, c12, c13].drop 8).take (Tryz.prog.cellsOf 9)) = some y8 := hel 8 _ rfl
      rw [c1s] at h
      exact h
    have k9 : DataW.trod enc Tryz.prog W 0 (fun _ => true) true n 9 [c9] = some y9 := by
      have h : DataW.trod enc Tryz.prog W 0 (fun _ => true) true n 9 (([c0, c1, c2, c3, c4, c5, c6, c7, c8, c9, c10, c11, c12, c13].drop 9).take (Tryz.prog.cellsOf 9)) = some y9 := hel 9 _ rfl
      rw [c1s] at h
      exact h
    have k10 : DataW.trod enc Tryz.prog W 0 (fun _ => true) true n 22 [c10] = some y10 := by
      have h : DataW.trod enc Tryz.prog W 0 (fun _ => true) true n 22 (([c0, c1, c2, c3, c4, c5, c6, c7, c8, c9, c10, c11, c12, c13].drop 10).take (Tryz.prog.cellsOf 22)) = some y10 := hel 10 _ rfl
      rw [c1t] at h
      exact h
    have k11 : DataW.trod enc Tryz.prog W 0 (fun _ => true) true n 22 [c11] = some y11 := by
      have h : DataW.trod enc Tryz.prog W 0 (fun _ => true) true n 22 (([c0, c1, c2, c3, c4, c5, c6, c7, c8, c9, c10, c11, c12, c13].drop 11).take (Tryz.prog.cellsOf 22)) = some y11 := hel 11 _ rfl
      rw [c1t] at h
      exact h
    have k12 : DataW.trod enc Tryz.prog W 0 (fun _ => true) true n 23 [c12] = some y12 := by
      have h : DataW.trod enc Tryz.prog W 0 (fun _ => true) true n 23 (([c0, c1, c2, c3, c4, c5, c6, c7, c8, c9, c10, c11, c12, c13].drop 12).take (Tryz.prog.cellsOf 23)) = some y12 := hel 12 _ rfl
      rw [c1u] at h
      exact h
    have k13 : DataW.trod enc Tryz.prog W 0 (fun _ => true) true n 4 [c13] = some y13 := by
      have h : DataW.trod enc Tryz.prog W 0 (fun _ => true) true n 4 (([c0, c1, c2, c3, c4, c5, c6, c7, c8, c9, c10, c11, c12, c13].drop 13).take (Tryz.prog.cellsOf 4)) = some y13 := hel 13 _ rfl
      rw [c1b] at h
      exact h
    obtain ⟨z0, e0, _, w0⟩ := DataW.trod_int Tryz.underlying3 k0
    obtain rfl := List.singleton_inj.1 e0
    obtain ⟨z1, e1, _, w1⟩ := DataW.trod_int Tryz.underlying3 k1
    obtain rfl := List.singleton_inj.1 e1
    obtain ⟨z2, e2, _, w2⟩ := DataW.trod_int Tryz.underlying3 k2
    obtain rfl := List.singleton_inj.1 e2
    obtain ⟨z3, e3, _, w3⟩ := DataW.trod_int Tryz.underlying3 k3
    obtain rfl := List.singleton_inj.1 e3
    obtain ⟨z4, e4, _, w4⟩ := DataW.trod_int Tryz.underlying3 k4
    obtain rfl := List.singleton_inj.1 e4
    obtain ⟨z5, e5, _, _⟩ := DataW.trod_string Tryz.underlying9 k5
    obtain rfl := List.singleton_inj.1 e5
    obtain ⟨l5, rfl⟩ : ∃ l, z5 = S l := ⟨z5.data.toList, (S_of z5).symm⟩
    obtain ⟨z6, e6, _, _⟩ := DataW.trod_string Tryz.underlying9 k6
    obtain rfl := List.singleton_inj.1 e6
    obtain ⟨l6, rfl⟩ : ∃ l, z6 = S l := ⟨z6.data.toList, (S_of z6).symm⟩
    obtain ⟨z7, e7, _, _⟩ := DataW.trod_string Tryz.underlying9 k7
    obtain rfl := List.singleton_inj.1 e7
    obtain ⟨l7, rfl⟩ : ∃ l, z7 = S l := ⟨z7.data.toList, (S_of z7).symm⟩
    obtain ⟨z8, e8, _, _⟩ := DataW.trod_string Tryz.underlying9 k8
    obtain rfl := List.singleton_inj.1 e8
    obtain ⟨l8, rfl⟩ : ∃ l, z8 = S l := ⟨z8.data.toList, (S_of z8).symm⟩
    obtain ⟨z9, e9, _, _⟩ := DataW.trod_string Tryz.underlying9 k9
    obtain rfl := List.singleton_inj.1 e9
    obtain ⟨l9, rfl⟩ : ∃ l, z9 = S l := ⟨z9.data.toList, (S_of z9).symm⟩
    obtain ⟨a10, p10, t10, rfl, h10, _⟩ := open_texts k10
    obtain ⟨a11, p11, t11, rfl, h11, k11'⟩ := open_texts k11
    obtain ⟨a12, p12, t12, rfl, h12⟩ := open_truths k12
    obtain ⟨z13, e13, _⟩ := DataW.trod_bool Tryz.underlying4 k13
    obtain rfl := List.singleton_inj.1 e13
    exact ⟨⟨z0, z1, z2, z3, z4, l5, l6, l7, l8, l9, t10, t11, t12, z13⟩, ⟨a10, p10, a11, p11, a12, p12⟩, rfl, ⟨h10, h11, h12⟩, ⟨i64_in w1, i64_in w2, i64_in w3, i64_in w4⟩, k11'⟩
end
end Go.Proofs.YtadhkeboaapfcaaGreatDoor
