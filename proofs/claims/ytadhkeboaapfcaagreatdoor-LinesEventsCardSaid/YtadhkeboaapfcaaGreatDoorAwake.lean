/- the example that each statement of the lines plays first. -/
import Derived.Test.YtadhkeboaapfcaaGreatDoorParH
import Derived.Test.YtadhkeboaapfcaaGreatDoorReadBack
namespace Go.Proofs.YtadhkeboaapfcaaGreatDoor.EvW
open Go.RowKit OctMath NameMath HexMath
set_option linter.unusedVariables false
set_option linter.unusedSimpArgs false
set_option maxRecDepth 100000

def awl : List UInt8 := [83, 69, 78, 68, 32, 97, 32, 48, 32, 46, 32, 46, 32, 54, 56, 54, 57, 32, 83, 89, 78, 67]
def awv : Ev := ⟨2, 0, 0, 0, 0, [97], [], [], [], [104, 105], [], [], [], true⟩
theorem itoa_zero : Lib.itoa 0 = [48] := by
  unfold Lib.itoa
  rw [if_neg (by omega)]
  exact Lib.decDigits_one (by omega)
theorem aw_event : eventL awv = awl := by
  have hw : wordsL awv 2 = [[97], [48], [46], [46], [54, 56, 54, 57], [83, 89, 78, 67]] := by
    show ([[97], Lib.itoa 0, [46], [46], [54, 56, 54, 57], [83, 89, 78, 67]] : List (List UInt8)).filter (fun x => !x.isEmpty) = _
    rw [itoa_zero]; rfl
  show (if awv.kind < 1 ∨ 15 < awv.kind then [] else if rightB awv (verbL 2) && emptyB (wipeV awv (verbL 2)) then Lib.join (verbN 2 :: wordsL awv 2) [32] else []) = _
  rw [if_neg (by decide), hw, if_pos (by decide)]
  decide
theorem aw_read : readL awl = awv := by
  have := read_event awv (by rw [aw_event]; decide)
  rwa [aw_event] at this
theorem aw_parse : parseL awl = (awv, 0) := by
  unfold parseL
  rw [aw_read, aw_event, if_neg (by decide)]
set_option maxHeartbeats 3200000 in
theorem awake_any (W : World) (henv : Env W) :
    Calls Tryz.prog 7 #[] W fun e w' => e = .returned (.bool true) ∧ Below W.heap.size W w' := by
  have HP := Lib.hid (parse_any awl (by decide) W henv)
  rw [aw_parse] at HP
  have HE := Lib.hid henv
  have hgd := good_read awl (by decide)
  rw [aw_read] at hgd
  have HEV := Lib.hid (fun s w h1 h2 => event_any awv s hgd.ok hgd.ints w h1 h2)
  rw [aw_event] at HEV
  clear henv hgd
  go_enter Tryz.func7, Tryz.ntmps7
  go_wp2_with fail
  refine HP.out.mono ?_
  rintro e w1 ⟨s, rfl, hin, _, hb⟩
  have HB1 := Lib.hid hb
  have HE1 := Lib.hid (HE.out.below hb)
  have HI1 := Lib.hid hin
  clear HP HE hin hb
  rw [show awv.cells s = #[.int .i64 2, .int .i64 0, .int .i64 0, .int .i64 0, .int .i64 0, .string (S [97]), .string (S []), .string (S []), .string (S []), .string (S [104, 105]), .slice s.ka 0 s.kc, .slice s.ta 0 s.tc, .slice s.pa 0 s.pc, .bool true] from rfl]
  have HX2 : Hid (LinW.Ext w1 (w1.alloc (.cells #[.int .i64 2, .int .i64 0, .int .i64 0, .int .i64 0, .int .i64 0, .string (S [97]), .string (S []), .string (S []), .string (S []), .string (S [104, 105]), .slice s.ka 0 s.kc, .slice s.ta 0 s.tc, .slice s.pa 0 s.pc, .bool true] 25))) := (Below.refl _ _).alloc (Nat.le_refl _) _
  have HEV2 := Lib.hid (HEV.out s _ (HI1.out.below HX2.out) (HE1.out.tab.below HX2.out))
  have HB2 := Lib.hid (HB1.out.trans (Below.mono HX2.out HB1.out.size))
  clear HEV HE1 HI1 HB1 HX2
  rw [show awv.cells s = #[.int .i64 2, .int .i64 0, .int .i64 0, .int .i64 0, .int .i64 0, .string (S [97]), .string (S []), .string (S []), .string (S []), .string (S [104, 105]), .slice s.ka 0 s.kc, .slice s.ta 0 s.tc, .slice s.pa 0 s.pc, .bool true] from rfl] at HEV2
  have htl := fun t => NameW.S_toList t
  go_wp2_with fail
  refine HEV2.out.mono ?_
  rintro e w3 ⟨rfl, hb⟩
  have HB3 := Lib.hid (HB2.out.trans (hb.mono HB2.out.size))
  clear hb HB2 HEV2
  go_wp2_with fail
  go_ret
  exact ⟨rfl, HB3.out⟩
end Go.Proofs.YtadhkeboaapfcaaGreatDoor.EvW
