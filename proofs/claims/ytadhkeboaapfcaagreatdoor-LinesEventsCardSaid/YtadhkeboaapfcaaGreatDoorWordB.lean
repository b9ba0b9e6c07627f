/- lines.keys. -/
import Derived.Test.YtadhkeboaapfcaaGreatDoorWordA
import Derived.Test.YtadhkeboaapfcaaGreatDoorEvM
namespace Go.Proofs.YtadhkeboaapfcaaGreatDoor.EvW
open Go.RowKit OctMath NameMath HexMath
set_option linter.unusedVariables false
set_option linter.unusedSimpArgs false
set_option maxRecDepth 100000

def keysL (l : List (List UInt8)) : List UInt8 := if l = [] then [46] else Lib.join (l.map hexL) [44]
theorem strs_own {w : World} {B : Nat} {e : TypeId} {v : Value} {ls : List (List UInt8)} (h : w.ownsRow B e 1 v ls.length (ls.map fun x => .string (S x))) : ∃ a cap, v = .slice a ls.length cap ∧ Strs w a (ls.map S) ∧ ls.length ≤ cap := by
  obtain ⟨a, cap, rfl, hrow, _⟩ := Row1.of_own h
  refine ⟨a, cap, rfl, Row1.to_strs ?_, TagW.own_cap h⟩
  rw [List.map_map]; exact hrow
set_option maxHeartbeats 1600000 in
theorem keys_any (a : Option Addr) (cap : Nat) (ls : List (List UInt8)) (hx : ls.length ≤ 1048576) (hz : ∀ t ∈ ls, t.length ≤ 1099511627776) (hlen : (Lib.join (ls.map hexL) [44]).length ≤ 140737488355328) (W : World) (h : Strs W a (ls.map S)) :
    Calls Tryz.prog 48 #[.slice a ls.length cap] W fun e w' => e = .returned (.string (S (keysL ls))) ∧ Below W.heap.size W w' := by
  obtain ⟨i0, hi0, hz0, hz1, hz2⟩ := info_parts (show (Tryz.prog.info? 9).map (fun i => (i.zero, i.size, i.bytes)) = some (some (.string ⟨#[]⟩), 1, 16) by kernel_rfl)
  have HI0 := Lib.hid hi0
  have HZ0 := Lib.hid hz0
  have HZ1 := Lib.hid hz1
  have HZ2 := Lib.hid hz2
  have HH := Lib.hid (row_strs h)
  have HZ := Lib.hid hz
  have HLN := Lib.hid hlen
  clear hi0 hz0 hz1 hz2 h hz hlen
  go_enter Tryz.func48, Tryz.ntmps48
  go_wp2_with fail
  go_loopw [3, 8] (fun v i wr => ∃ k : Nat, k ≤ ls.length ∧ i = .int .i64 k ∧ Hid (wr.ownsRow W.heap.size 9 1 v k (((ls.take k).map hexL).map fun x => .string (S x))) ∧ Hid (Below W.heap.size W wr)) (fun _ i _ => ls.length - (intOf i).toNat)
  case atStart => exact ⟨0, by omega, rfl, ⟨rfl, .inl ⟨rfl, rfl⟩⟩, Below.refl _ _⟩
  case round =>
    obtain ⟨k, hk, rfl, HTX, HB⟩ := hrel
    by_cases hlt : k < ls.length
    · obtain ⟨b, off, rfl, hc⟩ := (HH.out.below HB.out) k (by simpa using hlt)
      rw [List.getElem_map] at hc
      have hstep : (ls.take (k + 1)).map hexL = (ls.take k).map hexL ++ [hexL ls[k]] := by rw [List.take_succ_eq_append_getElem hlt, List.map_append]; rfl
      have HCX := Lib.hid (fun w => LinW.hex_any ls[k] (HZ.out _ (List.getElem_mem hlt)) w)
      generalize ls[k] = c at *
      generalize (ls.take k).map hexL = pre at *
      have HST := Lib.hid hstep
      clear hstep
      go_wp2_with fail
      refine (HCX.out _).mono ?_
      rintro e w2 ⟨rfl, hb⟩
      have HB2 := Lib.hid (HB.out.trans (hb.mono HB.out.size))
      have HTX2 := Lib.hid (LinW.own_ext HTX.out hb)
      generalize hexL c = d at *
      have HROW : Hid (Row1 (w2.alloc (.cells #[.string (S d)] 9)) (some ⟨w2.heap.size, 0, none⟩) [.string (S d)]) := fun i hi => ⟨_, 0, rfl, by rw [World.cell?_alloc_new]; match i, hi with | 0, _ => rfl⟩
      have HBA : Hid (Below W.heap.size W (w2.alloc (.cells #[.string (S d)] 9))) := HB2.out.alloc HB2.out.size _
      clear hb HB HTX HCX hc
      go_wp2_with (at_builtin; refine wpList_append_row rfl (.tmp 12) (.tmp 15) 22 rfl W.heap.size 9 i0 (.string ⟨#[]⟩) 16 Tryz.underlying22 HI0.out HZ0.out HZ1.out HZ2.out rfl u3 k _ rfl (HTX2.out.alloc _) (some ⟨w2.heap.size, 0, none⟩) 1 1 [.string (S d)] rfl rfl HROW.out ?c2 ?c3 ?c4 ?c5 ?_)
      case c2 => intro u hu; simp at hu; subst hu; rfl
      case c3 => unfold maxLen; omega
      case c4 => omega
      case c5 => exact HBA.out.size
      intro v' w4 hown4 hg4
      have HB4 : Hid (Below W.heap.size W w4) := HBA.out.grown hg4 HBA.out.size (ownBlock_of_own HTX2.out)
      have HO4 : Hid (w4.ownsRow W.heap.size 9 1 v' (k + 1) (((ls.take (k + 1)).map hexL).map fun x => .string (S x))) := by
        show w4.ownsRow _ _ _ _ _ _
        rw [HST.out, List.map_append]
        exact hown4
      clear hown4 hg4 HBA HROW HTX2 HB2
      go_wp2_with fail
      go_roundw
      case rel => exact ⟨k + 1, by omega, by go_num, HO4, HB4⟩
      case measure => simp [intOf]; omega
    · have ek : k = ls.length := by omega
      subst ek
      rw [List.take_length] at HTX
      have hll : (ls.map hexL).length = ls.length := List.length_map _
      have hown := HTX.out
      rw [← hll] at hown
      obtain ⟨ad, cp, rfl, hS, hcap⟩ := strs_own hown
      have HJ := Lib.hid (join_any ad cp (ls.map hexL) [44] (by rw [hll]; exact hx) hcap HLN.out wr hS)
      rw [hll] at HJ ⊢
      clear hown hS hcap
      by_cases h0 : ls.length = 0
      · have HL : Hid (keysL ls = [46]) := by show _ = _; unfold keysL; rw [if_pos (List.eq_nil_of_length_eq_zero h0)]
        have hb : ((ls.length : Int) == 0) = true := beq_iff_eq.2 (by omega)
        go_wp2_with fail
        go_ret
        rw [HL.out]
        exact ⟨rfl, HB.out⟩
      · have HL : Hid (keysL ls = Lib.join (ls.map hexL) [44]) := by show _ = _; unfold keysL; rw [if_neg (fun e => h0 (by rw [e]; rfl))]
        have hb : ((ls.length : Int) == 0) = false := beq_eq_false_iff_ne.2 (by omega)
        go_wp2_with fail
        refine HJ.out.mono ?_
        rintro e w2 ⟨rfl, hb2⟩
        have HB2 := Lib.hid (HB.out.trans (hb2.mono HB.out.size))
        clear hb2
        go_wp2_with fail
        go_ret
        rw [HL.out]
        exact ⟨rfl, HB2.out⟩
end Go.Proofs.YtadhkeboaapfcaaGreatDoor.EvW
