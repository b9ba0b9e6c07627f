/- What the references for sums compute (reveilleref02): Sum, At, Seal; and the document's example. -/
import Derived.Test.YtfndekonkcdboaaCrcD
import Derived.Test.YtfndekonkcdboaaNumW
namespace Go.Proofs.Ytfndekonkcdboaa.CrcW
open Go.RowKit CrcMath
set_option maxRecDepth 100000
set_option linter.unusedSimpArgs false
set_option linter.unusedVariables false

theorem xor_i64_nat (x y : Nat) (hx : x < 4294967296) (hy : y < 4294967296) : bits .xor .i64 (x : Int) (y : Int) = ((x ^^^ y : Nat) : Int) := by
  have hx' : (BitVec.ofInt 64 (x : Int)).toNat = x := by rw [BitVec.toNat_ofInt]; omega
  have hy' : (BitVec.ofInt 64 (y : Int)).toNat = y := by rw [BitVec.toNat_ofInt]; omega
  have hlt : x ^^^ y < 2 ^ 32 := Nat.xor_lt_two_pow (by simpa using hx) (by simpa using hy)
  have hr : (BitVec.ofInt 64 (x : Int) ^^^ BitVec.ofInt 64 (y : Int)).toNat = x ^^^ y := by rw [BitVec.toNat_xor, hx', hy']
  show IntKind.i64.wrap (((BitVec.ofInt 64 (x : Int) ^^^ BitVec.ofInt 64 (y : Int)).toNat : Nat) : Int) = _
  rw [hr, IntWalk.i64_left, IntWalk.wrap64_in _ (by omega)]
theorem xor_i64 (x y : BitVec 32) : bits .xor .i64 (x.toNat : Int) (y.toNat : Int) = ((x ^^^ y).toNat : Int) := by
  rw [xor_i64_nat _ _ x.isLt y.isLt, BitVec.toNat_xor]
theorem xor_i64_byte (x : BitVec 32) (c : UInt8) : bits .xor .i64 (x.toNat : Int) (c.toNat : Int) = ((x ^^^ ext c.toBitVec).toNat : Int) := by
  have := c.toNat_lt
  rw [xor_i64_nat _ _ x.isLt (by omega), BitVec.toNat_xor]
  simp [ext]
theorem odd_of (x : BitVec 32) : ((x.toNat : Int) % 2 == 1) = x.getLsbD 0 := by
  rw [BitVec.getLsbD, Nat.testBit_zero]
  cases Nat.mod_two_eq_zero_or_one x.toNat with
  | inl e => rw [e, show (x.toNat : Int) % 2 = 0 by omega]; rfl
  | inr e => rw [e, show (x.toNat : Int) % 2 = 1 by omega]; rfl
theorem istep_one (x : BitVec 32) (h : ((x.toNat : Int) % (2 : Int) == 1) = true) : bits .xor .i64 ((x.toNat : Int) / (2 : Int)) 3988292384 = ((cstep x).toNat : Int) := by
  rw [odd_of] at h
  unfold cstep; rw [if_pos h, half]
  exact xor_i64 (x >>> 1) poly
theorem istep_nought (x : BitVec 32) (h : ((x.toNat : Int) % (2 : Int) == 1) = false) : (x.toNat : Int) / (2 : Int) = ((cstep x).toNat : Int) := by
  rw [odd_of] at h
  unfold cstep; rw [h, half, if_neg (by simp)]

set_option maxHeartbeats 400000 in
theorem rat_any (k : Nat) (b : BitVec 32) (hk : k < 4) (w : World) :
    Calls Try.prog 14 #[.int .i64 (k : Int), .int .i64 (b.toNat : Int)] w fun e w' => e = .returned (.int .i64 ((steps (8 * (k + 1)) b).toNat : Int)) ∧ w = w' := by
  go_enter Try.func14, Try.ntmps14
  go_wp2_with fail
  go_loop [1, 5] (fun v i => ∃ j : Nat, j ≤ 8 * (k + 1) ∧ i = .int .i64 j ∧ v = .int .i64 (steps j b).toNat) (fun _ i => 8 * (k + 1) - (intOf i).toNat)
  case atStart => exact ⟨0, by omega, rfl, rfl⟩
  case round =>
    obtain ⟨j, hj, rfl, rfl⟩ := hrel
    have hx := bv_lt (steps j b)
    by_cases hlt : j < 8 * (k + 1)
    · go_wp2_with fail
      · go_round
        case rel => exact ⟨j + 1, by omega, by go_num, by rw [steps_succ', istep_one _ (by assumption)]⟩
        case measure => simp [intOf]; omega
      · go_round
        case rel => exact ⟨j + 1, by omega, by go_num, by rw [steps_succ', istep_nought _ (by assumption)]⟩
        case measure => simp [intOf]; omega
    · go_wp2_with fail
      go_ret
      exact ⟨ret_int (by rw [show j = 8 * (k + 1) by omega]), rfl⟩

set_option maxHeartbeats 400000 in
theorem rsum_any (s : ByteArray) (hs : s.size ≤ 140737488355328) (w : World) :
    Calls Try.prog 9 #[.string s] w fun e w' => e = .returned (.int .i64 ((sum s.data.toList).toNat : Int)) ∧ w = w' := by
  go_enter Try.func9, Try.ntmps9
  go_wp2_with fail
  go_loop [3, 4] (fun r i => ∃ k : Nat, k ≤ s.size ∧ i = .int .i64 k ∧ r = .int .i64 (reg (BitVec.allOnes 32) (s.data.toList.take k)).toNat) (fun _ i => s.size - (intOf i).toNat)
  case atStart => exact ⟨0, by omega, rfl, rfl⟩
  case round =>
    obtain ⟨k, hk, rfl, rfl⟩ := hrel
    by_cases hlt : k < s.size
    · generalize hX : reg (BitVec.allOnes 32) (s.data.toList.take k) = X
      have HX := Lib.hid hX; clear hX
      have hx := bv_lt X
      have ex := xor_i64_byte X s[k]
      have hbk : (s[k].toNat : Int) < 256 := by have := s[k].toNat_lt; omega
      go_wp2_with fail
      go_loop [3, 5] (fun v i => ∃ j : Nat, j ≤ 8 ∧ i = .int .i64 j ∧ v = .int .i64 (steps j (X ^^^ ext s[k].toBitVec)).toNat) (fun _ i => 8 - (intOf i).toNat)
      case atStart => exact ⟨0, by omega, rfl, rfl⟩
      case round =>
        clear ex
        obtain ⟨j, hj, rfl, rfl⟩ := hrel
        have hx := bv_lt (steps j (X ^^^ ext s[k].toBitVec))
        by_cases hlt : j < 8
        · go_wp2_with fail
          · go_round
            case rel => exact ⟨j + 1, by omega, by go_num, by rw [steps_succ', istep_one _ (by assumption)]⟩
            case measure => simp [intOf]; omega
          · go_round
            case rel => exact ⟨j + 1, by omega, by go_num, by rw [steps_succ', istep_nought _ (by assumption)]⟩
            case measure => simp [intOf]; omega
        · go_wp2_with fail
          go_round
          case rel =>
            refine ⟨k + 1, by omega, by go_num, ?_⟩
            rw [← reg_take _ s k (by omega), HX.out, show j = 8 by omega]; rfl
          case measure => simp [intOf]; omega
    · have hx := bv_lt (reg (BitVec.allOnes 32) (s.data.toList.take k))
      go_wp2_with fail
      go_ret
      refine ⟨ret_int ?_, rfl⟩
      have hk2 : s.data.toList.take k = s.data.toList := List.take_of_length_le (by have : s.data.toList.length = s.size := rfl; omega)
      rw [hk2]
      unfold sum
      rw [BitVec.toNat_not]
      rw [show (4294967295#32 : BitVec 32) = BitVec.allOnes 32 from rfl]
      have h2 := (reg (BitVec.allOnes 32) s.data.toList).isLt
      generalize (reg (BitVec.allOnes 32) s.data.toList).toNat = q at *
      omega

/-- the reference's four bytes are the program's -/
theorem be_four (x : Nat) : NumW.be 4 x = be4 x := by simp [NumW.be, be4]

set_option maxHeartbeats 400000 in
theorem rseal_any (s : ByteArray) (hs : s.size ≤ 140737488355328) (w : World) :
    Calls Try.prog 17 #[.string s] w fun e w' => e = .returned (.string ⟨(sealed s.data.toList).toArray⟩) ∧ Below w.heap.size w w' := by
  have hn := (sum s.data.toList).isLt
  have HF : Hid (NumW.be 4 (sum s.data.toList).toNat ++ s.data.toList = sealed s.data.toList) := by unfold sealed; rw [be_four]; rfl
  have hl : (NumW.be 4 (sum s.data.toList).toNat).length = 4 := NumW.be_length _ _
  have h1 := rsum_any s hs w
  have h2 := fun w => NumW.num_any 4 (sum s.data.toList).toNat (by omega) (by omega) w
  generalize (sum s.data.toList).toNat = n at *
  generalize NumW.be 4 n = l at *
  have H1 := Lib.hid h1; clear h1
  have H2 := Lib.hid h2; clear h2
  go_enter Try.func17, Try.ntmps17
  go_wp2_with fail
  refine H1.out.mono ?_
  rintro e w' ⟨rfl, rfl⟩
  go_wp2_with fail
  refine (H2.out _).mono ?_
  rintro e w' ⟨rfl, hb⟩
  have HB := Lib.hid hb; clear hb
  go_wp2_with fail
  go_ret
  refine ⟨ret_str ?_, HB.out⟩
  rw [← HF.out]
  apply ByteArray.ext
  apply Array.ext'
  simp

/-- the document's example -/
theorem sum_nine : (sum (flat [⟨#[49, 50, 51, 52, 53, 54, 55, 56, 57]⟩])).toNat = 3421780262 := by
  have : flat [⟨#[49, 50, 51, 52, 53, 54, 55, 56, 57]⟩] = [49, 50, 51, 52, 53, 54, 55, 56, 57] := rfl
  rw [this, sum_check]; rfl
theorem sum_nine_cut : (sum (flat [⟨#[49, 50, 51, 52, 53]⟩, ⟨#[54, 55, 56, 57]⟩])).toNat = 3421780262 := by
  have : flat [⟨#[49, 50, 51, 52, 53]⟩, ⟨#[54, 55, 56, 57]⟩] = [49, 50, 51, 52, 53, 54, 55, 56, 57] := rfl
  rw [this, sum_check]; rfl

set_option maxHeartbeats 400000 in
theorem awake_any (w : World) :
    Calls Try.prog 8 #[] w fun e w' => e = .returned (.bool true) ∧ Below w.heap.size w w' := by
  go_enter Try.func8, Try.ntmps8
  have n1 := sum_nine
  have n2 := sum_nine_cut
  go_wp2_with fail
  refine (sum_any (some ⟨w.heap.size, 0, none⟩) 1 [⟨#[49, 50, 51, 52, 53, 54, 55, 56, 57]⟩] (by simp [maxLen]) (fun i hi => ?_) _ (fun i hi => ?_)).mono ?_
  · have : i = 0 := by simpa using hi
    subst this; simp [maxLen, ByteArray.size]
  · have : i = 0 := by simpa using hi
    subst this; exact ⟨_, _, rfl, by rw [Nat.zero_add, World.cell?_alloc_new]; rfl⟩
  rintro e w1 ⟨rfl, hb1⟩
  rw [n1]
  have HB1 : Hid (Below w.heap.size w w1) := ((Below.refl _ _).alloc (Nat.le_refl _) _).trans (hb1.mono (by simp))
  clear hb1 n1
  have HN2 := Lib.hid n2; clear n2
  go_wp2_with fail
  refine (new_any _).mono ?_
  rintro e w2 ⟨B, rfl, hl⟩
  have HL := Lib.hid hl; clear hl
  go_wp2_with fail
  refine (tsum_any B (some ⟨w2.heap.size, 0, none⟩) 2 [⟨#[49, 50, 51, 52, 53]⟩, ⟨#[54, 55, 56, 57]⟩] (by simp [maxLen]) (fun i hi => ?_) _ (fun i hi => ?_) (HL.out.tabs.ext HL.out.size ((Below.refl _ _).alloc (Nat.le_refl _) _))).mono ?_
  · have : i = 0 ∨ i = 1 := by simp at hi; omega
    rcases this with rfl | rfl <;> simp [maxLen, ByteArray.size]
  · refine ⟨_, _, rfl, ?_⟩
    rw [Nat.zero_add, World.cell?_alloc_new]
    have : i = 0 ∨ i = 1 := by simp at hi; omega
    rcases this with rfl | rfl <;> rfl
  rintro e w3 ⟨rfl, hd⟩
  rw [HN2.out]
  have HB : Hid (Below w.heap.size w w3) := ((HB1.out.trans (HL.out.below.mono HB1.out.size)).alloc (Nat.le_trans HB1.out.size HL.out.below.size) _).trans (hd.below _)
  clear hd
  go_wp2_with fail
  go_ret
  exact ⟨rfl, HB.out⟩
end Go.Proofs.Ytfndekonkcdboaa.CrcW
