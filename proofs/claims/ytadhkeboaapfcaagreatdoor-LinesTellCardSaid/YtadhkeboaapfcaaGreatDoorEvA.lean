/- lines.num, plain, and the small closures of right; verbs. -/
import Derived.Test.YtadhkeboaapfcaaGreatDoorContF
import Derived.Test.YtadhkeboaapfcaaGreatDoorTagA
namespace Go.Proofs.YtadhkeboaapfcaaGreatDoor.EvW
open Go.RowKit OctMath NameMath
set_option linter.unusedVariables false
set_option linter.unusedSimpArgs false

def badN (x : Int) : Bool := decide (x < -1099511627776) || decide (1099511627776 < x)
set_option maxHeartbeats 1600000 in
theorem badn_any (x : Int) (w : World) : Calls Tryz.prog 71 #[.int .i64 x] w fun e w' => e = .returned (.bool (badN x)) ∧ w' = w := by
  have HR : Hid (badN x = (decide (x < -1099511627776) || decide (1099511627776 < x))) := rfl
  by_cases h1 : x < -1099511627776
  · have d1 : decide (x < -1099511627776) = true := decide_eq_true h1
    go_enter Tryz.func71, Tryz.ntmps71
    go_wp2_with fail
    go_ret
    rw [HR.out, d1]
    exact ⟨rfl, rfl⟩
  · have d1 : decide (x < -1099511627776) = false := decide_eq_false h1
    go_enter Tryz.func71, Tryz.ntmps71
    go_wp2_with fail
    go_ret
    rw [HR.out, d1]
    exact ⟨rfl, rfl⟩
set_option maxHeartbeats 1600000 in
theorem num_any (a : Option Addr) (cap : Nat) (xs : List Int) (hx : xs.length ≤ 1048576) (W : World) (h : Row1 W a (xs.map fun x => .int .i64 x)) :
    Calls Tryz.prog 42 #[.slice a xs.length cap] W fun e w' => e = .returned (.bool (!xs.any badN)) ∧ Drawn W w' := by
  have hC := ContW.contains_int 71 (enters_of Tryz.func71 (by kernel_rfl) rfl) badN a cap xs hx (fun x _ w => badn_any x w) W h
  clear h
  generalize xs.any badN = b at *
  go_enter Tryz.func42, Tryz.ntmps42
  go_wp2_with fail
  refine hC.mono ?_
  rintro e w2 ⟨rfl, hd⟩
  go_wp2_with fail
  go_ret
  exact ⟨rfl, hd⟩
set_option maxHeartbeats 1600000 in
theorem plain_word (l : List UInt8) (w : World) : Calls Tryz.prog 47 #[.string (S l)] w fun e w' => e = .returned (.string (S (if l.isEmpty then [46] else l))) ∧ w' = w := by
  have htl := NameW.S_toList l
  generalize he : l.isEmpty = e
  cases e <;>
  (go_enter Tryz.func47, Tryz.ntmps47
   go_wp2_with fail
   go_ret
   exact ⟨rfl, rfl⟩)
/-- a bad key -/
def badK (l : List UInt8) : Bool := l.isEmpty || decide (300 < l.length)
set_option maxHeartbeats 1600000 in
theorem badk_any (l : List UInt8) (hl : l.length ≤ 1099511627776) (w : World) : Calls Tryz.prog 40 #[.string (S l)] w fun e w' => e = .returned (.bool (badK l)) ∧ w' = w := by
  have htl := NameW.S_toList l
  have hsz := S_size l
  have HR : Hid (badK l = (l.isEmpty || decide (300 < l.length))) := rfl
  have d3 : decide (300 < (l.length : Int)) = decide (300 < l.length) := decide_eq_decide.2 (by omega)
  generalize decide (300 < l.length) = b3 at *
  generalize he : l.isEmpty = e at *
  cases e <;>
  (go_enter Tryz.func40, Tryz.ntmps40
   go_wp2_with fail
   go_ret
   rw [HR.out]
   exact ⟨rfl, rfl⟩)
end Go.Proofs.YtadhkeboaapfcaaGreatDoor.EvW
