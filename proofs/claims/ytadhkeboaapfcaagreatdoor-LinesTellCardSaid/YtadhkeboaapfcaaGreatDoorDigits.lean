/- reveilleref30.Digits: the decimal digits of a number. -/
import Derived.Test.YtadhkeboaapfcaaGreatDoorWordC
import Derived.Lib.ItoaLen
namespace Go.Proofs.YtadhkeboaapfcaaGreatDoor.EvW
open Go.RowKit OctMath NameMath
set_option linter.unusedVariables false
set_option linter.unusedSimpArgs false
set_option maxRecDepth 100000

theorem cut_ten (n : Nat) (h : n < 10) : (⟨#[48, 49, 50, 51, 52, 53, 54, 55, 56, 57]⟩ : ByteArray).extract n (n + 1) = S [UInt8.ofNat (48 + n)] := by
  have : n = 0 ∨ n = 1 ∨ n = 2 ∨ n = 3 ∨ n = 4 ∨ n = 5 ∨ n = 6 ∨ n = 7 ∨ n = 8 ∨ n = 9 := by omega
  rcases this with rfl | rfl | rfl | rfl | rfl | rfl | rfl | rfl | rfl | rfl <;> rfl
theorem dec_len (u : Nat) (h : u ≤ 9223372036854775808) : (Lib.decDigits u).length ≤ 20 := by
  rw [Lib.decDigits_length]; exact Lib.nDigits_le20 u (by omega)
set_option maxHeartbeats 3200000 in
theorem digits_pos : ∀ (n u : Nat), u ≤ n → u ≤ 9223372036854775807 → ∀ w : World, Calls Tryz.prog 17 #[.int .i64 (u : Int)] w fun e w' => e = .returned (.string (S (Lib.decDigits u))) ∧ w' = w := by
  intro n
  induction n with
  | zero =>
    intro u hu hb w
    obtain rfl : u = 0 := by omega
    have HR : Hid (S (Lib.decDigits 0) = S [48]) := by show _ = _; rw [Lib.decDigits_one (by omega)]; rfl
    go_enter Tryz.func17, Tryz.ntmps17
    go_wp2_with fail
    go_ret
    rw [HR.out]
    exact ⟨rfl, rfl⟩
  | succ n ih =>
    intro u hu hb w
    have IH := Lib.hid ih
    clear ih
    have hm : ((u : Int) % 10) = ((u % 10 : Nat) : Int) := by omega
    have hm2 : Int.tmod (u : Int) 10 = ((u % 10 : Nat) : Int) := by rw [Int.tmod_eq_emod_of_nonneg (by omega)]; omega
    have hq1 : ((u : Int) / 10) = ((u / 10 : Nat) : Int) := by omega
    have hq2 : Int.tdiv (u : Int) 10 = ((u / 10 : Nat) : Int) := by rw [Int.tdiv_eq_ediv_of_nonneg (by omega)]; omega
    have hm10 : u % 10 < 10 := by omega
    have HC := Lib.hid (cut_ten (u % 10) hm10)
    by_cases h10 : u < 10
    · have HR : Hid (S (Lib.decDigits u) = S [UInt8.ofNat (48 + u % 10)]) := by show _ = _; rw [Lib.decDigits_one h10, show u % 10 = u by omega]
      go_enter Tryz.func17, Tryz.ntmps17
      generalize u % 10 = d at *
      go_wp2_with fail
      go_ret
      rw [HR.out, ← HC.out]
      exact ⟨rfl, rfl⟩
    · have HR : Hid (S (Lib.decDigits u) = S (Lib.decDigits (u / 10)) ++ S [UInt8.ofNat (48 + u % 10)]) := by
        show _ = _
        rw [S_append]
        conv => lhs; rw [Lib.decDigits, dif_neg h10]
      have hl : (S (Lib.decDigits (u / 10))).size ≤ 20 := by rw [S_size]; exact dec_len _ (by omega)
      have hq : u / 10 ≤ n := by omega
      have hqb : u / 10 ≤ 9223372036854775807 := by omega
      have HI := Lib.hid (IH.out (u / 10) hq hqb)
      clear IH hq hqb
      go_enter Tryz.func17, Tryz.ntmps17
      obtain ⟨X, hX⟩ : ∃ X, (⟨#[48, 49, 50, 51, 52, 53, 54, 55, 56, 57]⟩ : ByteArray).extract (u % 10) (u % 10 + 1) = X := ⟨_, rfl⟩
      have hXs : X.size ≤ 1 := by rw [← hX, HC.out, S_size]; simp
      have hXS : Hid (S [UInt8.ofNat (48 + u % 10)] = X) := HC.out.symm.trans hX
      rw [hXS.out] at HR
      clear HC hXS
      generalize Lib.decDigits (u / 10) = dl at *
      generalize u % 10 = d at *
      generalize u / 10 = q at *
      go_wp2_with fail
      refine (HI.out _).mono ?_
      rintro e w2 ⟨rfl, rfl⟩
      go_wp2_with fail
      go_ret
      rw [HR.out]
      exact ⟨rfl, rfl⟩
set_option maxHeartbeats 3200000 in
theorem digits_neg : ∀ (n u : Nat), u ≤ n → 1 ≤ u → u ≤ 9223372036854775808 → ∀ w : World, Calls Tryz.prog 17 #[.int .i64 (-(u : Int))] w fun e w' => e = .returned (.string (S (45 :: Lib.decDigits u))) ∧ w' = w := by
  intro n
  induction n with
  | zero =>
    intro u hu h1 hb w
    omega
  | succ n ih =>
    intro u hu h1 hb w
    have IH := Lib.hid ih
    clear ih
    have hm2 : Int.tmod (-(u : Int)) 10 = -((u % 10 : Nat) : Int) := by rw [Int.neg_tmod, Int.tmod_eq_emod_of_nonneg (by omega)]; omega
    have hq2 : Int.tdiv (-(u : Int)) 10 = -((u / 10 : Nat) : Int) := by rw [Int.neg_tdiv, Int.tdiv_eq_ediv_of_nonneg (by omega)]; omega
    have hm10 : u % 10 < 10 := by omega
    have hdd : ∀ d : Nat, (1 - (-(d : Int))) = ((d + 1 : Nat) : Int) := fun d => by omega
    have HC := Lib.hid (cut_ten (u % 10) hm10)
    obtain ⟨X, hX⟩ : ∃ X, (⟨#[48, 49, 50, 51, 52, 53, 54, 55, 56, 57]⟩ : ByteArray).extract (u % 10) (u % 10 + 1) = X := ⟨_, rfl⟩
    have hXs : X.size ≤ 1 := by rw [← hX, HC.out, S_size]; simp
    have hXS : Hid (S [UInt8.ofNat (48 + u % 10)] = X) := HC.out.symm.trans hX
    have hd10 : u % 10 ≤ u := Nat.mod_le _ _
    by_cases h10 : u < 10
    · have HR : Hid (S (45 :: Lib.decDigits u) = ⟨#[45]⟩ ++ X) := by
        show _ = _
        rw [Lib.decDigits_one h10, ← hXS.out, show u % 10 = u by omega]
        exact (S_append [45] _).symm
      clear HC hXS IH
      go_enter Tryz.func17, Tryz.ntmps17
      generalize u % 10 = d at *
      go_wp2_with fail
      go_ret
      rw [HR.out]
      exact ⟨rfl, rfl⟩
    · have HR : Hid (S (45 :: Lib.decDigits u) = S (45 :: Lib.decDigits (u / 10)) ++ X) := by
        show _ = _
        rw [← hXS.out, S_append]
        conv => lhs; rw [Lib.decDigits, dif_neg h10]
        rfl
      have hl : (S (45 :: Lib.decDigits (u / 10))).size ≤ 21 := by rw [S_size, List.length_cons]; have := dec_len (u / 10) (by omega); omega
      have hq : u / 10 ≤ n := by omega
      have hq0 : 1 ≤ u / 10 := by omega
      have hqb : u / 10 ≤ 9223372036854775808 := by omega
      have HI := Lib.hid (IH.out (u / 10) hq hq0 hqb)
      clear IH HC hXS
      go_enter Tryz.func17, Tryz.ntmps17
      generalize Lib.decDigits (u / 10) = dl at *
      generalize u % 10 = d at *
      generalize u / 10 = q at *
      go_wp2_with fail
      refine (HI.out _).mono ?_
      rintro e w2 ⟨rfl, rfl⟩
      go_wp2_with fail
      go_ret
      rw [HR.out]
      exact ⟨rfl, rfl⟩
theorem digits_any (n : Int) (h0 : -9223372036854775808 ≤ n) (h1 : n ≤ 9223372036854775807) (w : World) : Calls Tryz.prog 17 #[.int .i64 n] w fun e w' => e = .returned (.string (S (Lib.itoa n))) ∧ w' = w := by
  by_cases h : n < 0
  · obtain ⟨u, rfl⟩ : ∃ u : Nat, n = -(u : Int) := ⟨n.natAbs, by omega⟩
    have e : Lib.itoa (-(u : Int)) = 45 :: Lib.decDigits u := by unfold Lib.itoa; rw [if_pos h]; simp
    rw [e]
    exact digits_neg u u (Nat.le_refl _) (by omega) (by omega) w
  · obtain ⟨u, rfl⟩ : ∃ u : Nat, n = u := ⟨n.toNat, by omega⟩
    have e : Lib.itoa (u : Int) = Lib.decDigits u := by unfold Lib.itoa; rw [if_neg h, Int.toNat_natCast]
    rw [e]
    exact digits_pos u u (Nat.le_refl _) (by omega) w
end Go.Proofs.YtadhkeboaapfcaaGreatDoor.EvW
