/- The reference's numbers as bytes (reveilleref01.Num): n bytes, the highest first. For n and x not negative. -/
import Derived.Test.YtdlfbpdcligecaaProg
import Derived.Test.YtdlfbpdcligecaaBase
namespace Go.Proofs.Ytdlfbpdcligecaa.NumW
open Go.RowKit
set_option maxRecDepth 100000
set_option linter.unusedSimpArgs false
set_option linter.unusedVariables false

/-- a number's lowest k bytes, the highest first -/
def be : Nat → Nat → List UInt8
  | 0, _ => []
  | k + 1, x => UInt8.ofNat (x / 256 ^ k) :: be k x
theorem be_length (k x : Nat) : (be k x).length = k := by
  induction k with
  | zero => rfl
  | succ k ih => simp [be, ih]

set_option maxHeartbeats 400000 in
theorem num_any (n x : Nat) (hn : n ≤ 4611686018427387904) (hx : x ≤ 9223372036854775807) (W : World) :
    Calls Try.prog 18 #[.int .i64 (n : Int), .int .i64 (x : Int)] W fun e w' => e = .returned (.string ⟨(be n x).toArray⟩) ∧ Below W.heap.size W w' := by
  go_enter Try.func18, Try.ntmps18
  go_wp2_with fail
  go_loopw [1, 5, 6] (fun y s i wr => ∃ k z : Nat, k ≤ n ∧ i = .int .i64 k ∧ y = .int .i64 z ∧ z ≤ 9223372036854775807 ∧ s = .string ⟨(be k x).toArray⟩ ∧ Below W.heap.size W wr ∧ Hid (z = x / 256 ^ k)) (fun _ _ i _ => n - (intOf i).toNat)
  case atStart => exact ⟨0, x, by omega, rfl, rfl, hx, rfl, Below.refl _ _, by simp [Hid]⟩
  case round =>
    obtain ⟨k, z, hk, rfl, rfl, hz, rfl, hb, HZ⟩ := hrel
    have hlen : (be k x).length ≤ 4611686018427387904 := by rw [be_length]; omega
    by_cases hlt : k < n
    · have HB := Lib.hid hb; clear hb
      generalize hL : be k x = L at *
      have HL := Lib.hid hL; clear hL
      go_wp2_with fail
      have hc : ((z : Int) % 256) = ((UInt8.ofNat z).toNat : Int) := by simp
      rw [hc, bytes_string (P := Try.prog) _ 67 5 9 Try.underlying67 Try.underlying5 Try.underlying9 wr.heap.size 0 1 [UInt8.ofNat z] (fun i hi => by
        have : i = 0 := by simpa using hi
        subst this; rw [World.cell?_alloc_new]; rfl) 1 rfl]
      have hcat : (⟨#[UInt8.ofNat z]⟩ : ByteArray) ++ ⟨L.toArray⟩ = ⟨(UInt8.ofNat z :: L).toArray⟩ := by
        apply ByteArray.ext; simp
      clear hc
      go_wp2_with fail
      go_roundw
      case rel =>
        refine ⟨k + 1, z / 256, by omega, by go_num, by go_num, by omega, ?_, HB.out.alloc HB.out.size _, ?_⟩
        · rw [← HL.out, HZ.out]; rfl
        · show z / 256 = x / 256 ^ (k + 1)
          rw [HZ.out, Nat.div_div_eq_div_mul, Nat.pow_succ]
      case measure => simp [intOf]; omega
    · go_wp2_with fail
      go_ret
      exact ⟨ret_str (by rw [show k = n by omega]), hb⟩
end Go.Proofs.Ytdlfbpdcligecaa.NumW
