/- octet: numbers as bytes and back. -/
import Derived.Test.YtdlfbpdcligecaaProg
import Derived.Test.YtdlfbpdcligecaaRow
import Derived.Test.YtdlfbpdcligecaaOctMath
import Derived.Lib.IndexBytes
namespace Go.Proofs.Ytdlfbpdcligecaa.OctW
open Go.RowKit OctMath
set_option maxRecDepth 100000
set_option linter.unusedSimpArgs false
set_option linter.unusedVariables false

theorem set_be (n k x : Nat) (h : k < n) : (List.replicate (n - k) (0 : UInt8) ++ be k x).set (n - 1 - k) (UInt8.ofNat (x / 256 ^ k)) = List.replicate (n - (k + 1)) 0 ++ be (k + 1) x := by
  rw [show n - k = (n - (k + 1)) + 1 by omega, List.replicate_succ', show n - 1 - k = n - (k + 1) by omega, List.append_assoc, List.set_append_right _ _ (by simp)]
  simp [be]

set_option maxHeartbeats 800000 in
theorem put_any (n x : Nat) (hn : n ≤ 1048576) (hx : x ≤ 9223372036854775807) (W : World) :
    Calls Try.prog 43 #[.int .i64 (n : Int), .int .i64 (x : Int)] W fun e w' => e = .returned (.string (S (be n x))) ∧ Below W.heap.size W w' := by
  obtain ⟨i0, hi, hz0, hz1, hz2⟩ := info_parts (show (Try.prog.info? 5).map (fun i => (i.zero, i.size, i.bytes)) = some (some (.int .u8 0), 1, 1) by kernel_rfl)
  have hrun := run_make_bytes (P := Try.prog) W 67 5 i0 Try.underlying67 hi hz0 hz1 hz2 n hn
  have hrow := row_zeros W 5 n
  have hmod : Mod (fun k => k = W.heap.size) W (W.alloc (.cells (zeros n) 5)) := (Mod.refl _ W).alloc _
  have hsz : W.heap.size < (W.alloc (.cells (zeros n) 5)).heap.size := by simp
  have HRUN := Lib.hid hrun; clear hrun
  go_enter Try.func43, Try.ntmps43
  go_wp2_with fail
  rw [HRUN.out]
  clear HRUN hi hz0 hz1 hz2
  generalize W.alloc (.cells (zeros n) 5) = W0 at *
  generalize hg : W.heap.size = g at *
  have HG := Lib.hid hg; clear hg
  have HROW := Lib.hid hrow; clear hrow
  have HM := Lib.hid hmod; clear hmod
  clear hsz
  go_wp2_with fail
  go_loopw [1, 11] (fun y i wr => ∃ k z : Nat, k ≤ n ∧ i = .int .i64 k ∧ y = .int .i64 z ∧ z ≤ 9223372036854775807 ∧ Hid (z = x / 256 ^ k) ∧ Hid (Row g (List.replicate (n - k) 0 ++ be k x) wr) ∧ Hid (Mod (fun k => k = g) W wr)) (fun _ i _ => n - (intOf i).toNat)
  case atStart => exact ⟨0, x, by omega, rfl, rfl, hx, by simp [Hid], by simpa [Hid, be] using HROW.out, HM⟩
  case round =>
    clear HROW HM
    obtain ⟨k, z, hk, rfl, rfl, hz, HZ, HR, HM⟩ := hrel
    by_cases hlt : k < n
    · have hlen : n - 1 - k < (List.replicate (n - k) (0 : UInt8) ++ be k x).length := by simp [be_length]; omega
      have hset := HR.out.set (n - 1 - k) hlen (UInt8.ofNat z)
      rw [HZ.out, set_be n k x hlt, ← HZ.out] at hset
      have hmod := HM.out.setCell (a := ⟨g, n - 1 - k, none⟩) (Or.inl rfl) (.int .u8 ((UInt8.ofNat z).toNat : Int))
      have hcell := HR.out.cell (n - 1 - k) hlen
      have hfree := HR.out.free (n - 1 - k) hlen
      have hc : ((UInt8.ofNat z).toNat : Int) = (z : Int) % 256 := by simp
      rw [hc] at hset hmod
      have HS := Lib.hid hset
      have HM2 := Lib.hid hmod
      clear hset hmod hc HR HM
      generalize hL : ((List.replicate (n - k) (0 : UInt8) ++ be k x)[n - 1 - k]).toNat = L at *
      clear hL
      go_wp2_with fail
      go_roundw
      case rel =>
        refine ⟨k + 1, z / 256, by omega, by go_num, by go_num, by omega, ?_, HS, HM2⟩
        show z / 256 = x / 256 ^ (k + 1)
        rw [HZ.out, Nat.div_div_eq_div_mul, Nat.pow_succ]
      case measure => simp [intOf]; omega
    · have e : k = n := by omega
      have hrow := HR.out
      rw [e, Nat.sub_self, List.replicate_zero, List.nil_append] at hrow
      have hstr := row_string (P := Try.prog) hrow 67 5 9 Try.underlying67 Try.underlying5 Try.underlying9 n n (by rw [be_length])
      have HSTR := Lib.hid hstr
      clear hstr hrow HR
      go_wp2_with fail
      rw [HSTR.out]
      go_wp2_with fail
      go_ret
      exact ⟨rfl, HM.out.to_below _ (Nat.le_refl _) (fun k hk => by rw [hk, HG.out]; exact Nat.le_refl _)⟩

theorem or_low (a : Nat) (c : UInt8) (ha : a < 256 ^ 6) : bits .or .i64 ((a : Int) * 256) (wrap64 (c.toNat : Int)) = ((256 * a + c.toNat : Nat) : Int) := by
  have hc := c.toNat_lt
  rw [IntWalk.wrap64_in _ (by omega), show (a : Int) * 256 = ((256 * a : Nat) : Int) by omega]
  have h1 : (BitVec.ofInt 64 ((256 * a : Nat) : Int)).toNat = 256 * a := by
    rw [BitVec.ofInt_natCast, BitVec.toNat_ofNat]; exact Nat.mod_eq_of_lt (by omega)
  have h2 : (BitVec.ofInt 64 ((c.toNat : Nat) : Int)).toNat = c.toNat := by
    rw [BitVec.ofInt_natCast, BitVec.toNat_ofNat]; exact Nat.mod_eq_of_lt (by omega)
  have h3 : 2 ^ 8 * a + c.toNat = 2 ^ 8 * a ||| c.toNat := Nat.two_pow_add_eq_or_of_lt (i := 8) (by omega) a
  show IntKind.i64.wrap ((BitVec.ofInt 64 ((256 * a : Nat) : Int) ||| BitVec.ofInt 64 ((c.toNat : Nat) : Int)).toNat : Int) = _
  rw [BitVec.toNat_or, h1, h2, show 256 * a ||| c.toNat = 256 * a + c.toNat from h3.symm]
  rw [IntKind.wrap_i64]; omega

set_option maxHeartbeats 800000 in
theorem get_any (l : List UInt8) (hn : l.length ≤ 7) (W : World) :
    Calls Try.prog 45 #[.string (S l)] W fun e w' => e = .returned (.int .i64 (val l : Int)) ∧ Drawn W w' := by
  have hsz : (S l).size = l.length := S_size l
  go_enter Try.func45, Try.ntmps45
  go_wp2_with fail
  go_loopw [3, 7] (fun y i wr => ∃ k : Nat, k ≤ l.length ∧ i = .int .i64 k ∧ y = .int .i64 (val (l.take k) : Int) ∧ Hid (Drawn W wr)) (fun _ i _ => l.length - (intOf i).toNat)
  case atStart => exact ⟨0, by omega, rfl, rfl, Drawn.refl _⟩
  case round =>
    obtain ⟨k, hk, rfl, rfl, HD⟩ := hrel
    by_cases hlt : k < l.length
    · have hv : val (l.take k) < 256 ^ 6 := by
        refine Nat.lt_of_lt_of_le (val_lt _) (Nat.pow_le_pow_right (by omega) ?_)
        simp; omega
      have hstep : val (l.take (k + 1)) = 256 * val (l.take k) + l[k].toNat := by
        rw [List.take_succ_eq_append_getElem hlt, val_snoc]
      have hi : k < (S l).size := by rw [hsz]; exact hlt
      have hget : (S l)[k] = l[k] := by simp only [S]; rfl
      generalize hC : l[k] = c at *
      clear hC
      generalize hV : val (l.take k) = V at *
      have HV := Lib.hid hV; clear hV
      have HST := Lib.hid hstep; clear hstep
      go_wp2_with fail
      rw [or_low V c hv]
      go_roundw
      case rel => exact ⟨k + 1, by omega, by go_num, by rw [HST.out], HD⟩
      case measure => simp [intOf]; omega
    · have e : k = l.length := by omega
      have ev : val (l.take k) = val l := by rw [e, List.take_length]
      generalize val (l.take k) = V at *
      have HV := Lib.hid ev; clear ev
      go_wp2_with fail
      go_ret
      exact ⟨ret_int (by rw [HV.out]), HD.out⟩
end Go.Proofs.Ytdlfbpdcligecaa.OctW
