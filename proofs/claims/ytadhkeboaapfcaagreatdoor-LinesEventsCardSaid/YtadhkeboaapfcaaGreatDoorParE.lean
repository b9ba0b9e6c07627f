/- the kind of a line's first word. -/
import Derived.Test.YtadhkeboaapfcaaGreatDoorParD
import Derived.Test.YtadhkeboaapfcaaGreatDoorSeqM
import Derived.Test.YtadhkeboaapfcaaGreatDoorLow
namespace Go.Proofs.YtadhkeboaapfcaaGreatDoor.EvW
open Go.RowKit OctMath NameMath HexMath
set_option linter.unusedVariables false
set_option linter.unusedSimpArgs false
set_option maxRecDepth 100000

theorem L_beq (a b : List UInt8) : (a == b) = decide (a = b) := by
  by_cases h : a = b <;> simp [h]
set_option maxHeartbeats 1600000 in
theorem read1_any (nm le x : List UInt8) (b3 b off n c : Nat) (hn : 0 < n) (W : World) (h3 : W.cell? ⟨b3, 0, none⟩ = some (.slice (some ⟨b, off, none⟩) n c)) (hx : W.cell? ⟨b, off, none⟩ = some (.string (S x))) :
    Calls Tryz.prog 58 #[.agg #[.string (S nm), .string (S le)], .pointer (some ⟨b3, 0, none⟩)] W fun e w' => e = .returned (.bool (decide (nm = x))) ∧ Below W.heap.size W w' := by
  have k3 : (W.alloc (.cells #[.string (S nm), .string (S le)] 48)).cell? ⟨b3, 0, none⟩ = some (.slice (some ⟨b, off, none⟩) n c) := (World.cell?_of_block (w := W) (Below.heap_alloc _ _ _ (cell_lt h3))).trans h3
  have k1 : (W.alloc (.cells #[.string (S nm), .string (S le)] 48)).cell? ⟨b, off, none⟩ = some (.string (S x)) := (World.cell?_of_block (w := W) (Below.heap_alloc _ _ _ (cell_lt hx))).trans hx
  have HB : Hid (Below W.heap.size W (W.alloc (.cells #[.string (S nm), .string (S le)] 48))) := (Below.refl _ W).alloc (Nat.le_refl _) _
  clear h3 hx
  go_enter Tryz.func58, Tryz.ntmps58
  go_wp2_with fail
  go_quiet (fail)
  go_wp2_with fail
  go_ret
  exact ⟨by show Ending.returned (.bool ((S nm).toList == (S x).toList)) = _; rw [NameW.S_toList, NameW.S_toList, L_beq], HB.out.trans ⟨rfl, rfl, rfl, Nat.le_refl _, fun _ _ => rfl⟩⟩
/-- the first kind below n, from k on, whose verb is x -/
def kindFrom (x : List UInt8) : Nat → Nat → Int
  | _, 0 => -1
  | k, f + 1 => if verbN k = x then (k : Int) else kindFrom x (k + 1) f
def kindL (x : List UInt8) : Int := kindFrom x 0 16
theorem kind_bounds (x : List UInt8) : ∀ f k, kindFrom x k f = -1 ∨ ((k : Int) ≤ kindFrom x k f ∧ kindFrom x k f < (k + f : Nat))
  | 0, k => .inl rfl
  | f + 1, k => by
    unfold kindFrom
    by_cases h : verbN k = x
    · rw [if_pos h]; exact .inr ⟨Int.le_refl _, by omega⟩
    · rw [if_neg h]
      rcases kind_bounds x f (k + 1) with h1 | h1
      · exact .inl h1
      · exact .inr ⟨by omega, by omega⟩
theorem kindFrom_hit (x : List UInt8) (k f : Nat) (h : verbN k = x) : kindFrom x k (f + 1) = (k : Int) := by unfold kindFrom; rw [if_pos h]
theorem kindFrom_miss (x : List UInt8) (k f : Nat) (h : verbN k ≠ x) : kindFrom x k (f + 1) = kindFrom x (k + 1) f := by
  conv => lhs; unfold kindFrom
  rw [if_neg h]
theorem read1_enters : ∀ args w, (callFunc 58 args).run Tryz.prog w = .ok (.enter 58 args) w := fun args w => rfl
set_option maxHeartbeats 3200000 in
theorem kind_any (g b3 b off n c : Nat) (x : List UInt8) (hn : 0 < n) (W : World) (hV : Boxed W g verbCells) (h3 : W.cell? ⟨b3, 0, none⟩ = some (.slice (some ⟨b, off, none⟩) n c)) (hx : W.cell? ⟨b, off, none⟩ = some (.string (S x))) :
    Calls Tryz.prog 57 #[.slice (some ⟨g, 0, none⟩) 16 16, .func (.func 58) #[] #[.pointer (some ⟨b3, 0, none⟩)]] W fun e w' => e = .returned (.int .i64 (kindL x)) ∧ Below W.heap.size W w' := by
  have HV := Lib.hid hV
  have H3 := Lib.hid h3
  have HX := Lib.hid hx
  have eg := read1_enters
  clear hV h3 hx
  go_enter Tryz.func57, Tryz.ntmps57
  go_wp2_with fail
  go_loopw [8] (fun i wr => ∃ k : Nat, k ≤ 16 ∧ i = .int .i64 (k : Int) ∧ Hid (kindL x = kindFrom x k (16 - k)) ∧ Hid (Below W.heap.size W wr)) (fun i _ => 17 - (intOf i).toNat)
  case atStart => exact ⟨0, by omega, rfl, rfl, Below.refl _ _⟩
  case round =>
    obtain ⟨k, hk, rfl, HA, HB⟩ := hrel
    by_cases hlt : k < 16
    · have c0 := (HV.out.below HB.out) (2 * k) _ (verb_cells k hlt).1
      have c1 := (HV.out.below HB.out) (2 * k + 1) _ (verb_cells k hlt).2
      rw [Nat.mul_comm] at c0 c1
      have hC := read1_any (verbN k) (verbL k) x b3 b off n c hn wr ((HB.out.cell (cell_lt H3.out)).trans H3.out) ((HB.out.cell (cell_lt HX.out)).trans HX.out)
      have HC := Lib.hid hC
      clear hC
      have h16 : 16 - k = (16 - k - 1) + 1 := by omega
      have h17 : 16 - k - 1 = 16 - (k + 1) := by omega
      have HM := Lib.hid (kindFrom_miss x k (16 - k - 1))
      have HH := Lib.hid (kindFrom_hit x k (16 - k - 1))
      rw [← h16] at HM HH
      rw [h17] at HM
      have hlt' : (k : Int) < 16 := by omega
      clear h16 h17
      go_wp2_with fail
      refine (HC.out).mono ?_
      rintro e w2 ⟨rfl, hb⟩
      have HB2 := Lib.hid (HB.out.trans (hb.mono HB.out.size))
      clear hb HC c0 c1
      by_cases hkx : verbN k = x
      · have HT : Hid (kindL x = (k : Int)) := HA.out.trans (HH.out hkx)
        clear HH HM HA
        have hd : decide (verbN k = x) = true := decide_eq_true hkx
        clear hkx
        rw [hd]
        go_wp2_with fail
        go_ret
        rw [HT.out]
        exact ⟨rfl, HB2.out⟩
      · have HT : Hid (kindL x = kindFrom x (k + 1) (16 - (k + 1))) := HA.out.trans (HM.out hkx)
        clear HH HM HA
        have hd : decide (verbN k = x) = false := decide_eq_false hkx
        clear hkx
        rw [hd]
        go_wp2_with fail
        go_roundw
        case rel => exact ⟨k + 1, by omega, by go_num, HT, HB2⟩
        case measure => simp [intOf]; omega
    · have ek : k = 16 := by omega
      subst ek
      go_wp2_with fail
      go_ret
      rw [HA.out]
      exact ⟨rfl, HB.out⟩
end Go.Proofs.YtadhkeboaapfcaaGreatDoor.EvW
