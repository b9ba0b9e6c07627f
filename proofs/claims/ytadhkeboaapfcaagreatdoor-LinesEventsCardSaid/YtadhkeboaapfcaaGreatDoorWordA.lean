/- lines.bits. -/
import Derived.Test.YtadhkeboaapfcaaGreatDoorLow
namespace Go.Proofs.YtadhkeboaapfcaaGreatDoor.EvW
open Go.RowKit OctMath HexMath
set_option linter.unusedVariables false
set_option linter.unusedSimpArgs false
set_option maxRecDepth 100000

def bitC (b : Bool) : UInt8 := if b then 49 else 48
def bitsL (l : List Bool) : List UInt8 := if l = [] then [46] else l.map bitC
set_option maxHeartbeats 1600000 in
theorem bits_any (a : Option Addr) (cap : Nat) (bs : List Bool) (hx : bs.length ≤ 1048576) (W : World) (h : Row1 W a (bs.map .bool)) :
    Calls Tryz.prog 49 #[.slice a bs.length cap] W fun e w' => e = .returned (.string (S (bitsL bs))) ∧ Below W.heap.size W w' := by
  obtain ⟨i0, hi0, hz0, hz1, hz2⟩ := info_parts (show (Tryz.prog.info? 5).map (fun i => (i.zero, i.size, i.bytes)) = some (some (.int .u8 0), 1, 1) by kernel_rfl)
  have HI0 := Lib.hid hi0
  have HZ0 := Lib.hid hz0
  have HZ1 := Lib.hid hz1
  have HZ2 := Lib.hid hz2
  have HH := Lib.hid h
  clear hi0 hz0 hz1 hz2 h
  go_enter Tryz.func49, Tryz.ntmps49
  go_wp2_with fail
  go_loopw [3, 9] (fun v i wr => ∃ k : Nat, k ≤ bs.length ∧ i = .int .i64 k ∧ Hid (LinW.Bytes W.heap.size v ((bs.take k).map bitC) wr) ∧ Hid (Below W.heap.size W wr)) (fun _ i _ => bs.length - (intOf i).toNat)
  case atStart => exact ⟨0, by omega, rfl, ⟨rfl, .inl ⟨rfl, rfl⟩⟩, Below.refl _ _⟩
  case round =>
    obtain ⟨k, hk, rfl, HTX, HB⟩ := hrel
    by_cases hlt : k < bs.length
    · obtain ⟨b, off, rfl, hc⟩ := (HH.out.below HB.out) k (by simpa using hlt)
      rw [List.getElem_map] at hc
      have hstep : (bs.take (k + 1)).map bitC = (bs.take k).map bitC ++ [bitC bs[k]] := by rw [List.take_succ_eq_append_getElem hlt, List.map_append]; rfl
      have hlk : ((bs.take k).map bitC).length ≤ 1048576 := by simp; omega
      generalize bs[k] = c at *
      generalize (bs.take k).map bitC = pre at *
      have HST := Lib.hid hstep
      clear hstep
      have HROW : ∀ x : Int, Hid (Row1 (wr.alloc (.cells #[.int .u8 x] 5)) (some ⟨wr.heap.size, 0, none⟩) [.int .u8 x]) := fun x i hi => ⟨_, 0, rfl, by rw [World.cell?_alloc_new]; match i, hi with | 0, _ => rfl⟩
      have HBA : ∀ x : Int, Hid (Below W.heap.size W (wr.alloc (.cells #[.int .u8 x] 5))) := fun x => HB.out.alloc HB.out.size _
      have HS := Lib.hid HROW
      have HA := Lib.hid HBA
      clear HROW HBA
      cases c
      · go_wp2_with (at_builtin; refine wpList_append_row rfl (.tmp 14) (.tmp 16) 61 rfl W.heap.size 5 i0 (.int .u8 0) 1 Tryz.underlying61 HI0.out HZ0.out HZ1.out HZ2.out rfl u3 pre.length _ rfl (HTX.out.alloc _) (some ⟨wr.heap.size, 0, none⟩) 1 1 [.int .u8 48] rfl rfl (HS.out 48).out ?c2 ?c3 ?c4 ?c5 ?_)
        case c2 => intro u hu; simp at hu; subst hu; rfl
        case c3 => unfold maxLen; omega
        case c4 => omega
        case c5 => exact (HA.out 48).out.size
        intro v' w4 hown4 hg4
        have HB4 : Hid (Below W.heap.size W w4) := (HA.out 48).out.grown hg4 (HA.out 48).out.size (ownBlock_of_own HTX.out)
        have HO4 : Hid (LinW.Bytes W.heap.size v' ((bs.take (k + 1)).map bitC) w4) := by
          show w4.ownsRow _ _ _ _ (List.map bitC (bs.take (k + 1))).length _
          rw [HST.out, List.length_append, List.map_append]
          exact hown4
        clear hown4 hg4 HA HS HTX HB
        go_wp2_with fail
        go_roundw
        case rel => exact ⟨k + 1, by omega, by go_num, HO4, HB4⟩
        case measure => simp [intOf]; omega
      · go_wp2_with (at_builtin; refine wpList_append_row rfl (.tmp 14) (.tmp 16) 61 rfl W.heap.size 5 i0 (.int .u8 0) 1 Tryz.underlying61 HI0.out HZ0.out HZ1.out HZ2.out rfl u3 pre.length _ rfl (HTX.out.alloc _) (some ⟨wr.heap.size, 0, none⟩) 1 1 [.int .u8 49] rfl rfl (HS.out 49).out ?c2 ?c3 ?c4 ?c5 ?_)
        case c2 => intro u hu; simp at hu; subst hu; rfl
        case c3 => unfold maxLen; omega
        case c4 => omega
        case c5 => exact (HA.out 49).out.size
        intro v' w4 hown4 hg4
        have HB4 : Hid (Below W.heap.size W w4) := (HA.out 49).out.grown hg4 (HA.out 49).out.size (ownBlock_of_own HTX.out)
        have HO4 : Hid (LinW.Bytes W.heap.size v' ((bs.take (k + 1)).map bitC) w4) := by
          show w4.ownsRow _ _ _ _ (List.map bitC (bs.take (k + 1))).length _
          rw [HST.out, List.length_append, List.map_append]
          exact hown4
        clear hown4 hg4 HA HS HTX HB
        go_wp2_with fail
        go_roundw
        case rel => exact ⟨k + 1, by omega, by go_num, HO4, HB4⟩
        case measure => simp [intOf]; omega
    · have ek : k = bs.length := by omega
      subst ek
      rw [List.take_length] at HTX
      have hcv := LinW.bytes_conv HTX.out
      have HCV := Lib.hid hcv
      obtain ⟨ad, cp, rfl, hrow, _⟩ := Row1.of_own HTX.out
      have hl : (bs.map bitC).length = bs.length := List.length_map _
      rw [hl] at HCV ⊢
      clear hcv hrow
      by_cases h0 : bs.length = 0
      · have HL : Hid (bitsL bs = [46]) := by show _ = _; unfold bitsL; rw [if_pos (List.eq_nil_of_length_eq_zero h0)]
        have hb : ((bs.length : Int) == 0) = true := beq_iff_eq.2 (by omega)
        go_wp2_with fail
        go_ret
        rw [HL.out]
        exact ⟨rfl, HB.out⟩
      · have HL : Hid (bitsL bs = bs.map bitC) := by show _ = _; unfold bitsL; rw [if_neg (fun e => h0 (by rw [e]; rfl))]
        have hb : ((bs.length : Int) == 0) = false := beq_eq_false_iff_ne.2 (by omega)
        go_wp2_with fail
        rw [HCV.out]
        go_wp2_with fail
        go_ret
        rw [HL.out]
        exact ⟨rfl, HB.out⟩
end Go.Proofs.YtadhkeboaapfcaaGreatDoor.EvW
