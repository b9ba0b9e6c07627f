/- slices.IndexFunc, ContainsFunc at ints and at texts, with a predicate that changes nothing. -/
import Derived.Test.YtadhkeboaapfcaaGreatDoorNameE
import Derived.Test.YtadhkeboaapfcaaGreatDoorAppend
namespace Go.Proofs.YtadhkeboaapfcaaGreatDoor.ContW
open Go.RowKit OctMath
set_option linter.unusedVariables false
set_option linter.unusedSimpArgs false

set_option maxRecDepth 100000 in
set_option maxHeartbeats 1600000 in
theorem index_int (g : Nat) (eg : ∀ args w, (callFunc g args).run Tryz.prog w = .ok (.enter g args) w) (p : Int → Bool) (a : Option Addr) (cap : Nat) (xs : List (Int)) (hx : xs.length ≤ 1048576) (hP : ∀ x ∈ xs, ∀ w : World, Calls Tryz.prog g #[.int .i64 x] w fun e w' => e = .returned (.bool (p x)) ∧ w' = w) (W : World) (h : Row1 W a (xs.map fun x => .int .i64 x)) :
    Calls Tryz.prog 91 #[.slice a xs.length cap, .func (.func g) #[] #[]] W fun e w' => ∃ r : Int, e = .returned (.int .i64 r) ∧ decide (0 ≤ r) = xs.any p ∧ Drawn W w' := by
  have HS := Lib.hid h
  clear h
  go_enter Tryz.func91, Tryz.ntmps91
  go_wp2_with fail
  go_loopw [8] (fun i wr => ∃ k : Nat, k ≤ xs.length ∧ i = .int .i64 (k : Int) ∧ Hid ((xs.take k).any p = false) ∧ Hid (Drawn W wr)) (fun i _ => xs.length + 1 - (intOf i).toNat)
  case atStart => exact ⟨0, by omega, rfl, rfl, Drawn.refl _⟩
  case round =>
    obtain ⟨k, hk, rfl, HA, HD⟩ := hrel
    by_cases hlt : k < xs.length
    · obtain ⟨b, off, rfl, hcell⟩ := HS.out k (by rw [List.length_map]; exact hlt)
      rw [← HD.out.cell, List.getElem_map] at hcell
      have hstep : (xs.take (k + 1)).any p = ((xs.take k).any p || p xs[k]) := by rw [List.take_succ_eq_append_getElem hlt, List.any_append, List.any_cons, List.any_nil, Bool.or_false]
      have hmem : p xs[k] = true → xs.any p = true := fun h => by rw [List.any_eq_true]; exact ⟨xs[k], List.getElem_mem hlt, h⟩
      have hC := hP xs[k] (List.getElem_mem hlt)
      generalize xs[k] = x at *
      have HST := Lib.hid hstep
      have HMEM := Lib.hid hmem
      clear hstep hmem
      generalize p x = px at *
      go_wp2_with fail
      refine (hC _).mono ?_
      rintro e w2 ⟨rfl, rfl⟩
      clear hC hcell
      cases px with
      | true =>
        have HT : Hid (xs.any p = true) := HMEM.out rfl
        clear HST HMEM HA
        go_wp2_with fail
        go_ret
        exact ⟨_, rfl, by rw [HT.out]; exact decide_eq_true (by omega), HD.out⟩
      | false =>
        have HT : Hid ((xs.take (k + 1)).any p = false) := by show _ = _; rw [HST.out, HA.out]; rfl
        clear HST HMEM HA
        go_wp2_with fail
        go_roundw
        case rel => exact ⟨k + 1, by omega, by go_num, HT, HD⟩
        case measure => simp [intOf]; omega
    · have ek : k = xs.length := by omega
      subst ek
      rw [List.take_length] at HA
      go_wp2_with fail
      go_ret
      exact ⟨_, rfl, by rw [HA.out]; rfl, HD.out⟩
set_option maxHeartbeats 1600000 in
theorem contains_int (g : Nat) (eg : ∀ args w, (callFunc g args).run Tryz.prog w = .ok (.enter g args) w) (p : Int → Bool) (a : Option Addr) (cap : Nat) (xs : List (Int)) (hx : xs.length ≤ 1048576) (hP : ∀ x ∈ xs, ∀ w : World, Calls Tryz.prog g #[.int .i64 x] w fun e w' => e = .returned (.bool (p x)) ∧ w' = w) (W : World) (h : Row1 W a (xs.map fun x => .int .i64 x)) :
    Calls Tryz.prog 70 #[.slice a xs.length cap, .func (.func g) #[] #[]] W fun e w' => e = .returned (.bool (xs.any p)) ∧ Drawn W w' := by
  have hC := index_int g eg p a cap xs hx hP W h
  clear h hP
  go_enter Tryz.func70, Tryz.ntmps70
  go_wp2_with fail
  refine hC.mono ?_
  rintro e w2 ⟨r, rfl, hr, hd⟩
  go_wp2_with fail
  go_ret
  rw [← hr]
  exact ⟨rfl, hd⟩

set_option maxRecDepth 100000 in
set_option maxHeartbeats 1600000 in
theorem index_str (g : Nat) (eg : ∀ args w, (callFunc g args).run Tryz.prog w = .ok (.enter g args) w) (p : List UInt8 → Bool) (a : Option Addr) (cap : Nat) (xs : List (List UInt8)) (hx : xs.length ≤ 1048576) (hP : ∀ x ∈ xs, ∀ w : World, Calls Tryz.prog g #[.string (S x)] w fun e w' => e = .returned (.bool (p x)) ∧ w' = w) (W : World) (h : Row1 W a (xs.map fun x => .string (S x))) :
    Calls Tryz.prog 73 #[.slice a xs.length cap, .func (.func g) #[] #[]] W fun e w' => ∃ r : Int, e = .returned (.int .i64 r) ∧ decide (0 ≤ r) = xs.any p ∧ Drawn W w' := by
  have HS := Lib.hid h
  clear h
  go_enter Tryz.func73, Tryz.ntmps73
  go_wp2_with fail
  go_loopw [8] (fun i wr => ∃ k : Nat, k ≤ xs.length ∧ i = .int .i64 (k : Int) ∧ Hid ((xs.take k).any p = false) ∧ Hid (Drawn W wr)) (fun i _ => xs.length + 1 - (intOf i).toNat)
  case atStart => exact ⟨0, by omega, rfl, rfl, Drawn.refl _⟩
  case round =>
    obtain ⟨k, hk, rfl, HA, HD⟩ := hrel
    by_cases hlt : k < xs.length
    · obtain ⟨b, off, rfl, hcell⟩ := HS.out k (by rw [List.length_map]; exact hlt)
      rw [← HD.out.cell, List.getElem_map] at hcell
      have hstep : (xs.take (k + 1)).any p = ((xs.take k).any p || p xs[k]) := by rw [List.take_succ_eq_append_getElem hlt, List.any_append, List.any_cons, List.any_nil, Bool.or_false]
      have hmem : p xs[k] = true → xs.any p = true := fun h => by rw [List.any_eq_true]; exact ⟨xs[k], List.getElem_mem hlt, h⟩
      have hC := hP xs[k] (List.getElem_mem hlt)
      generalize xs[k] = x at *
      have HST := Lib.hid hstep
      have HMEM := Lib.hid hmem
      clear hstep hmem
      generalize p x = px at *
      go_wp2_with fail
      refine (hC _).mono ?_
      rintro e w2 ⟨rfl, rfl⟩
      clear hC hcell
      cases px with
      | true =>
        have HT : Hid (xs.any p = true) := HMEM.out rfl
        clear HST HMEM HA
        go_wp2_with fail
        go_ret
        exact ⟨_, rfl, by rw [HT.out]; exact decide_eq_true (by omega), HD.out⟩
      | false =>
        have HT : Hid ((xs.take (k + 1)).any p = false) := by show _ = _; rw [HST.out, HA.out]; rfl
        clear HST HMEM HA
        go_wp2_with fail
        go_roundw
        case rel => exact ⟨k + 1, by omega, by go_num, HT, HD⟩
        case measure => simp [intOf]; omega
    · have ek : k = xs.length := by omega
      subst ek
      rw [List.take_length] at HA
      go_wp2_with fail
      go_ret
      exact ⟨_, rfl, by rw [HA.out]; rfl, HD.out⟩
set_option maxHeartbeats 1600000 in
theorem contains_str (g : Nat) (eg : ∀ args w, (callFunc g args).run Tryz.prog w = .ok (.enter g args) w) (p : List UInt8 → Bool) (a : Option Addr) (cap : Nat) (xs : List (List UInt8)) (hx : xs.length ≤ 1048576) (hP : ∀ x ∈ xs, ∀ w : World, Calls Tryz.prog g #[.string (S x)] w fun e w' => e = .returned (.bool (p x)) ∧ w' = w) (W : World) (h : Row1 W a (xs.map fun x => .string (S x))) :
    Calls Tryz.prog 46 #[.slice a xs.length cap, .func (.func g) #[] #[]] W fun e w' => e = .returned (.bool (xs.any p)) ∧ Drawn W w' := by
  have hC := index_str g eg p a cap xs hx hP W h
  clear h hP
  go_enter Tryz.func46, Tryz.ntmps46
  go_wp2_with fail
  refine hC.mono ?_
  rintro e w2 ⟨r, rfl, hr, hd⟩
  go_wp2_with fail
  go_ret
  rw [← hr]
  exact ⟨rfl, hd⟩
end Go.Proofs.YtadhkeboaapfcaaGreatDoor.ContW
