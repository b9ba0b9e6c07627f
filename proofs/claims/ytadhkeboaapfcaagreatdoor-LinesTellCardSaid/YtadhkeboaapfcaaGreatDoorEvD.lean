/- strings.Join of texts; tag.Filter.Text; lines.empty. -/
import Derived.Test.YtadhkeboaapfcaaGreatDoorEvC
namespace Go.Proofs.YtadhkeboaapfcaaGreatDoor.EvW
open Go.RowKit OctMath NameMath
set_option linter.unusedVariables false
set_option linter.unusedSimpArgs false

theorem join_any (a : Option Addr) (cap : Nat) (ts : List (List UInt8)) (sep : List UInt8) (hx : ts.length ≤ 1048576) (hcap : ts.length ≤ cap) (hlen : (Lib.join ts sep).length ≤ 140737488355328) (w : World) (hS : Strs w a (ts.map S)) :
    Calls Tryz.prog 24 #[.slice a ts.length cap, .string (S sep)] w fun e w' => e = .returned (.string (S (Lib.join ts sep))) ∧ Below w.heap.size w w' := by
  by_cases h0 : ts = []
  · subst h0
    refine (Tryz.strings_Join_none a cap (S sep) w).mono ?_
    rintro e w' ⟨rfl, rfl⟩
    exact ⟨by rfl, Below.refl _ _⟩
  · obtain ⟨b, off, rfl, hc0⟩ := hS 0 (by rw [List.length_map]; exact List.length_pos_iff.2 h0)
    have hm : (ts.map S).map (fun s : ByteArray => s.data.toList) = ts := by
      rw [List.map_map]
      conv => rhs; rw [← List.map_id ts]
      exact List.map_congr_left fun t _ => S_list t
    have hJ := Tryz.strings_Join b off cap (ts.map S) (S sep) w (fun j x hx => by
      obtain ⟨hj, rfl⟩ := List.getElem?_eq_some_iff.1 hx
      obtain ⟨b', off', h, hc⟩ := hS j hj
      cases h; exact hc) (cell_lt hc0) (by rw [List.length_map]; omega) (by rw [List.length_map]; exact hcap) (by rw [hm, S_list]; exact hlen)
    rw [hm, S_list, List.length_map] at hJ
    exact hJ

/-- a filter's text -/
def textL (ts : List (List UInt8)) : List UInt8 := if ts = [] then [42] else Lib.join ts [32, 124, 124, 32]
set_option maxHeartbeats 1600000 in
theorem text_any (base : Nat) (p : Value) (ts : List (List UInt8)) (hx : ts.length ≤ 1048576) (hlen : (Lib.join ts [32, 124, 124, 32]).length ≤ 140737488355328) (w : World) (h : TagW.FilterAt base w p ts) :
    Calls Tryz.prog 50 #[p] w fun e w' => e = .returned (.string (S (textL ts))) ∧ Below w.heap.size w w' := by
  obtain ⟨B, ad, cp, rfl, _, hc, hS, hcap⟩ := h
  have hJ := join_any ad cp ts [32, 124, 124, 32] hx hcap hlen w hS
  change Calls _ _ #[_, .string { data := #[32, 124, 124, 32] }] _ _ at hJ
  by_cases h0 : ts.length = 0
  · have hn : ts = [] := List.eq_nil_of_length_eq_zero h0
    have hb : ((ts.length : Int) == 0) = true := beq_iff_eq.2 (by omega)
    have HR : Hid (textL ts = [42]) := by show _ = _; unfold textL; rw [if_pos hn]
    clear hJ hn h0
    go_enter Tryz.func50, Tryz.ntmps50
    go_wp2_with fail
    go_ret
    rw [HR.out]
    exact ⟨rfl, Below.refl _ _⟩
  · have hb : ((ts.length : Int) == 0) = false := beq_eq_false_iff_ne.2 (by omega)
    have HR : Hid (textL ts = Lib.join ts [32, 124, 124, 32]) := by show _ = _; unfold textL; rw [if_neg (fun e => h0 (by rw [e]; rfl))]
    have HJ := Lib.hid hJ
    clear hJ h0
    go_enter Tryz.func50, Tryz.ntmps50
    go_wp2_with fail
    refine HJ.out.mono ?_
    rintro e w' ⟨rfl, hb⟩
    go_wp2_with fail
    go_ret
    rw [HR.out]
    exact ⟨rfl, hb⟩
end Go.Proofs.YtadhkeboaapfcaaGreatDoor.EvW
