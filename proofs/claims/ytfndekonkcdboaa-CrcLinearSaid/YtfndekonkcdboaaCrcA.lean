/- What the small functions of package crc compute: first, one, four, word, in numbers of 32 bits. No condition but that the table lies in memory. -/
import Derived.Test.YtfndekonkcdboaaProg
import Derived.Test.YtfndekonkcdboaaCrcMath
import Derived.Test.YtfndekonkcdboaaBase
namespace Go.Proofs.Ytfndekonkcdboaa.CrcW
open Go.RowKit CrcMath
set_option maxRecDepth 100000

theorem bv_lt (x : BitVec 32) : 0 ≤ (x.toNat : Int) ∧ (x.toNat : Int) < 4294967296 := by have := x.isLt; omega
theorem and_u32 (x y : BitVec 32) : bits .and .u32 (x.toNat : Int) (y.toNat : Int) = ((x &&& y).toNat : Int) := by
  rw [u32_and_nat _ _ x.isLt y.isLt, BitVec.toNat_and]
theorem or_u32 (x y : BitVec 32) : bits .or .u32 (x.toNat : Int) (y.toNat : Int) = ((x ||| y).toNat : Int) := by
  rw [u32_or_nat _ _ x.isLt y.isLt, BitVec.toNat_or]
theorem xor_u32 (x y : BitVec 32) : bits .xor .u32 (x.toNat : Int) (y.toNat : Int) = ((x ^^^ y).toNat : Int) := by
  rw [u32_xor_nat _ _ x.isLt y.isLt, BitVec.toNat_xor]
theorem xor_u8 (x y : BitVec 8) : bits .xor .u8 (x.toNat : Int) (y.toNat : Int) = ((x ^^^ y).toNat : Int) := by
  rw [u8_xor_nat _ _ x.isLt y.isLt, BitVec.toNat_xor]
theorem half (x : BitVec 32) : (x.toNat : Int) / (2 : Int) = ((x >>> 1).toNat : Int) := by simp [BitVec.toNat_ushiftRight, Nat.shiftRight_eq_div_pow]
theorem shr8 (x : BitVec 32) : (x.toNat : Int) / (256 : Int) = ((x >>> 8).toNat : Int) := by simp [BitVec.toNat_ushiftRight, Nat.shiftRight_eq_div_pow]
theorem low8 (x : BitVec 32) : (x.toNat : Int) % (256 : Int) = ((x.setWidth 8).toNat : Int) := by simp
theorem and_one (x : BitVec 32) : (bits .and .u32 (x.toNat : Int) 1 == 1) = x.getLsbD 0 := by
  have h := and_u32 x 1#32
  simp only [BitVec.toNat_ofNat] at h
  rw [show ((1 % 2 ^ 32 : Nat) : Int) = 1 from rfl] at h
  rw [h, BitVec.toNat_and]
  simp only [BitVec.toNat_ofNat]
  rw [show 1 % 2 ^ 32 = 1 from rfl, Nat.and_one_is_mod]
  rw [BitVec.getLsbD, Nat.testBit_zero]
  cases Nat.mod_two_eq_zero_or_one x.toNat with
  | inl e => rw [e]; rfl
  | inr e => rw [e]; rfl
theorem step_one (x : BitVec 32) (h : (bits .and .u32 (x.toNat : Int) 1 == 1) = true) : bits .xor .u32 ((x.toNat : Int) / (2 : Int)) 3988292384 = ((cstep x).toNat : Int) := by
  rw [and_one] at h
  unfold cstep; rw [if_pos h, half]
  exact xor_u32 (x >>> 1) poly
theorem step_nought (x : BitVec 32) (h : (bits .and .u32 (x.toNat : Int) 1 == 1) = false) : (x.toNat : Int) / (2 : Int) = ((cstep x).toNat : Int) := by
  rw [and_one] at h
  unfold cstep; rw [h, half, if_neg (by simp)]
set_option maxHeartbeats 400000 in
theorem first_any (b : BitVec 32) (w : World) :
    Calls Try.prog 18 #[.int .u32 b.toNat] w fun e w' => e = .returned (.int .u32 (steps 8 b).toNat) ∧ w = w' := by
  go_enter Try.func18, Try.ntmps18
  go_wp2
  go_loop [0, 4] (fun v i => ∃ k : Nat, k ≤ 8 ∧ i = .int .i64 k ∧ v = .int .u32 (steps k b).toNat) (fun _ i => 8 - (intOf i).toNat)
  case atStart => exact ⟨0, by omega, rfl, rfl⟩
  case round =>
    obtain ⟨k, hk, rfl, rfl⟩ := hrel
    have hx := bv_lt (steps k b)
    by_cases hlt : k < 8
    · go_wp2
      · go_round
        case rel => exact ⟨k + 1, by omega, by go_num, by rw [steps_succ', step_one _ (by assumption)]⟩
        case measure => simp [intOf]; omega
      · go_round
        case rel => exact ⟨k + 1, by omega, by go_num, by rw [steps_succ', step_nought _ (by assumption)]⟩
        case measure => simp [intOf]; omega
    · go_wp2
      go_ret
      exact ⟨by simp [show k = 8 by omega], rfl⟩

/-- the four tables lie in block B -/
def Tabs (w : World) (B : Nat) : Prop := ∀ k j, k < 4 → j < 256 → w.cell? ⟨B, 256 * k + j, none⟩ = some (.int .u32 (tab k (BitVec.ofNat 8 j)).toNat)

theorem Tabs.at {w : World} {B : Nat} (h : Tabs w B) (k : Nat) (hk : k < 4) (x : BitVec 8) : w.cell? ⟨B, 256 * k + x.toNat, none⟩ = some (.int .u32 (tab k x).toNat) := by
  have := h k x.toNat hk x.isLt
  rwa [BitVec.ofNat_toNat, BitVec.setWidth_eq] at this

set_option maxHeartbeats 400000 in
theorem one_any (B : Nat) (x : BitVec 32) (c : UInt8) (w : World) (hT : Tabs w B) :
    Calls Try.prog 20 #[.pointer (some ⟨B, 0, none⟩), .int .u32 x.toNat, .int .u8 c.toNat] w fun e w' => e = .returned (.int .u32 (upd x c.toBitVec).toNat) ∧ w = w' := by
  have hx := bv_lt x
  have e1 : bits .xor .u8 ((x.toNat : Int) % (256 : Int)) (c.toNat : Int) = (((x.setWidth 8 ^^^ c.toBitVec).toNat : Nat) : Int) := by
    rw [low8]; exact xor_u8 _ _
  have hc := hT.at 0 (by omega) (x.setWidth 8 ^^^ c.toBitVec)
  have e2 := one_eq x c.toBitVec
  generalize x.setWidth 8 ^^^ c.toBitVec = i at *
  have hi : (i.toNat : Int) < 256 := by have := i.isLt; omega
  simp only [Nat.mul_zero, Nat.zero_add] at hc
  have E2 := Lib.hid e2; clear e2
  have HT := Lib.hid hT; clear hT
  go_enter Try.func20, Try.ntmps20
  go_wp2
  go_ret
  exact ⟨ret_int (by rw [E2.out, shr8, xor_u32]), rfl⟩

theorem ext_nat (b : UInt8) : (b.toNat : Int) % 4294967296 = ((ext b.toBitVec).toNat : Int) := by
  have := b.toNat_lt
  simp [ext]; omega
theorem ext_shl (b : UInt8) (n : Nat) : (b.toNat : Int) % 4294967296 * ((2 ^ n : Nat) : Int) % 4294967296 = ((ext b.toBitVec <<< n).toNat : Int) := by
  rw [ext_nat, BitVec.toNat_shiftLeft, Nat.shiftLeft_eq]
  simp
theorem word_int (x : BitVec 32) (a b c d : UInt8) :
    bits .xor .u32 (x.toNat : Int) (bits .or .u32 (bits .or .u32 (bits .or .u32 ((a.toNat : Int) % 4294967296) ((b.toNat : Int) % 4294967296 * 256 % 4294967296)) ((c.toNat : Int) % 4294967296 * 65536 % 4294967296)) ((d.toNat : Int) % 4294967296 * 16777216 % 4294967296)) = ((x ^^^ word4 a.toBitVec b.toBitVec c.toBitVec d.toBitVec).toNat : Int) := by
  have h1 : (b.toNat : Int) % 4294967296 * 256 % 4294967296 = _ := ext_shl b 8
  have h2 : (c.toNat : Int) % 4294967296 * 65536 % 4294967296 = _ := ext_shl c 16
  have h3 : (d.toNat : Int) % 4294967296 * 16777216 % 4294967296 = _ := ext_shl d 24
  rw [ext_nat, h1, h2, h3, or_u32, or_u32, or_u32, xor_u32]; rfl
theorem and255 (y : BitVec 32) : bits .and .u32 (y.toNat : Int) 255 = ((y.setWidth 8).toNat : Int) := by
  have h := and_u32 y 255#32
  simp only [BitVec.toNat_ofNat] at h
  rw [show ((255 % 2 ^ 32 : Nat) : Int) = 255 from rfl] at h
  rw [h, BitVec.toNat_and]
  simp only [BitVec.toNat_ofNat, BitVec.toNat_setWidth]
  rw [show 255 % 2 ^ 32 = 2 ^ 8 - 1 from rfl, Nat.and_two_pow_sub_one_eq_mod]
theorem shr_int (y : BitVec 32) (n : Nat) : (y.toNat : Int) / ((2 ^ n : Nat) : Int) = ((y >>> n).toNat : Int) := by
  rw [BitVec.toNat_ushiftRight, Nat.shiftRight_eq_div_pow]; rfl
theorem top8 (y : BitVec 32) : ((y >>> 24).toNat : Int) = (((y >>> 24).setWidth 8).toNat : Int) := by
  have := y.isLt
  simp [BitVec.toNat_ushiftRight, Nat.shiftRight_eq_div_pow]; omega

theorem take4 (s : ByteArray) (h : 4 ≤ s.size) : s.data.toList.take 4 = [s[0]'(by omega), s[1]'(by omega), s[2]'(by omega), s[3]'(by omega)] := by
  obtain ⟨⟨l⟩⟩ := s
  match l, h with
  | a :: b :: c :: d :: l, _ => rfl

set_option maxHeartbeats 1000000 in
theorem four_any (B : Nat) (x : BitVec 32) (s : ByteArray) (h4 : 4 ≤ s.size) (w : World) (hT : Tabs w B) :
    Calls Try.prog 19 #[.pointer (some ⟨B, 0, none⟩), .int .u32 x.toNat, .string s] w fun e w' => e = .returned (.int .u32 (reg x (s.data.toList.take 4)).toNat) ∧ Drawn w w' := by
  have ew := word_int x (s[0]'(by omega)) (s[1]'(by omega)) (s[2]'(by omega)) (s[3]'(by omega))
  have HR : Hid (reg x (s.data.toList.take 4) = _) := (congrArg (reg x) (take4 s h4)).trans (four_eq x (s[0]'(by omega)).toBitVec (s[1]'(by omega)).toBitVec (s[2]'(by omega)).toBitVec (s[3]'(by omega)).toBitVec)
  generalize x ^^^ word4 (s[0]'(by omega)).toBitVec (s[1]'(by omega)).toBitVec (s[2]'(by omega)).toBitVec (s[3]'(by omega)).toBitVec = y at ew HR
  have hx := bv_lt x
  have hy := bv_lt y
  have i3 := and255 y
  have s2 : (y.toNat : Int) / (256 : Int) = _ := shr_int y 8
  have s1 : (y.toNat : Int) / (65536 : Int) = _ := shr_int y 16
  have s0 : (y.toNat : Int) / (16777216 : Int) = _ := shr_int y 24
  have i2 : bits .and .u32 ((y.toNat : Int) / (256 : Int)) 255 = (((y >>> 8).setWidth 8).toNat : Int) := by rw [s2]; exact and255 (y >>> 8)
  have i1 : bits .and .u32 ((y.toNat : Int) / (65536 : Int)) 255 = (((y >>> 16).setWidth 8).toNat : Int) := by rw [s1]; exact and255 (y >>> 16)
  have i0 : (y.toNat : Int) / (16777216 : Int) = (((y >>> 24).setWidth 8).toNat : Int) := by rw [s0]; exact top8 y
  clear s0 s1 s2
  have c3 := hT.at 3 (by omega) (y.setWidth 8)
  have c2 := hT.at 2 (by omega) ((y >>> 8).setWidth 8)
  have c1 := hT.at 1 (by omega) ((y >>> 16).setWidth 8)
  have c0 := hT.at 0 (by omega) ((y >>> 24).setWidth 8)
  generalize y.setWidth 8 = a3 at *
  generalize (y >>> 8).setWidth 8 = a2 at *
  generalize (y >>> 16).setWidth 8 = a1 at *
  generalize (y >>> 24).setWidth 8 = a0 at *
  simp only [Nat.reduceMul, Nat.zero_add] at c0 c1 c2 c3
  have b3 : (a3.toNat : Int) < 256 := by have := a3.isLt; omega
  have b2 : (a2.toNat : Int) < 256 := by have := a2.isLt; omega
  have b1 : (a1.toNat : Int) < 256 := by have := a1.isLt; omega
  have b0 : (a0.toNat : Int) < 256 := by have := a0.isLt; omega
  have h0 : 0 < s.size := by omega
  have h1 : (1 : Int) < (s.size : Int) := by omega
  have h2 : (2 : Int) < (s.size : Int) := by omega
  have h3 : (3 : Int) < (s.size : Int) := by omega
  have HT := Lib.hid hT; clear hT
  go_enter Try.func19, Try.ntmps19
  go_wp2_with fail
  go_quiet (fail)
  go_wp2_with fail
  go_quiet (fail)
  go_wp2_with fail
  go_ret
  exact ⟨ret_int (by rw [HR.out, xor_u32, xor_u32, xor_u32]), _, World.drewN_drewN ..⟩
end Go.Proofs.Ytfndekonkcdboaa.CrcW
