/- lines.without as an event. -/
import Derived.Test.YtadhkeboaapfcaaGreatDoorEvE
namespace Go.Proofs.YtadhkeboaapfcaaGreatDoor.EvW
open Go.RowKit OctMath NameMath
set_option linter.unusedVariables false
set_option linter.unusedSimpArgs false

/-- an event without what a letter stands for -/
def wipe1 (v : Ev) (c : UInt8) : Ev :=
  if c = 84 then { v with topic := [] } else if c = 71 then { v with group := [] } else if c = 81 then { v with queue := 0 } else if c = 78 then { v with n := 0 }
  else if c = 65 then { v with aat := 0 } else if c = 76 then { v with lack := 0 } else if c = 116 then { v with tag := [] } else if c = 107 then { v with keys := [] }
  else if c = 98 then { v with body := [] } else if c = 120 then { v with key := [] } else if c = 112 then { v with keep := [] } else if c = 102 then { v with tags := [] } else { v with sync := false }
def wipe1S (s : EvS) (c : UInt8) : EvS := if c = 107 then { s with ka := none, kc := 0 } else if c = 112 then { s with pa := none, pc := 0 } else if c = 102 then { s with ta := none, tc := 0 } else s
def wipeV (v : Ev) (l : List UInt8) : Ev := l.foldl wipe1 v
def wipeS (s : EvS) (l : List UInt8) : EvS := l.foldl wipe1S s
theorem wipe1_cells (c : UInt8) (v : Ev) (s : EvS) : (v.cells s).setIfInBounds (slotOf c).1 (slotOf c).2 = (wipe1 v c).cells (wipe1S s c) := by
  by_cases h84 : c = 84
  · subst h84; rfl
  by_cases h71 : c = 71
  · subst h71; rfl
  by_cases h81 : c = 81
  · subst h81; rfl
  by_cases h78 : c = 78
  · subst h78; rfl
  by_cases h65 : c = 65
  · subst h65; rfl
  by_cases h76 : c = 76
  · subst h76; rfl
  by_cases h116 : c = 116
  · subst h116; rfl
  by_cases h107 : c = 107
  · subst h107; rfl
  by_cases h98 : c = 98
  · subst h98; rfl
  by_cases h120 : c = 120
  · subst h120; rfl
  by_cases h112 : c = 112
  · subst h112; rfl
  by_cases h102 : c = 102
  · subst h102; rfl
  have hso : slotOf c = (13, .bool false) := by unfold slotOf; rw [if_neg h84, if_neg h71, if_neg h81, if_neg h78, if_neg h65, if_neg h76, if_neg h116, if_neg h107, if_neg h98, if_neg h120, if_neg h112, if_neg h102]
  have hw : wipe1 v c = { v with sync := false } := by unfold wipe1; rw [if_neg h84, if_neg h71, if_neg h81, if_neg h78, if_neg h65, if_neg h76, if_neg h116, if_neg h107, if_neg h98, if_neg h120, if_neg h112, if_neg h102]
  have hs : wipe1S s c = s := by unfold wipe1S; rw [if_neg h107, if_neg h112, if_neg h102]
  rw [hso, hw, hs]
  rfl
theorem wipe_cells (l : List UInt8) (v : Ev) (s : EvS) : wipe (v.cells s) l = (wipeV v l).cells (wipeS s l) := by
  unfold wipe wipeV wipeS
  induction l generalizing v s with
  | nil => rfl
  | cons c l ih => rw [List.foldl_cons, List.foldl_cons, List.foldl_cons, wipe1_cells]; exact ih _ _
/-- what holds of each field -/
theorem wipe1_cases (P : Ev → Prop) (v : Ev) (h : P v) (h84 : P { v with topic := [] }) (h71 : P { v with group := [] }) (h81 : P { v with queue := 0 }) (h78 : P { v with n := 0 }) (h65 : P { v with aat := 0 }) (h76 : P { v with lack := 0 })
    (h116 : P { v with tag := [] }) (h107 : P { v with keys := [] }) (h98 : P { v with body := [] }) (h120 : P { v with key := [] }) (h112 : P { v with keep := [] }) (h102 : P { v with tags := [] }) (hs : P { v with sync := false }) (c : UInt8) : P (wipe1 v c) := by
  by_cases e84 : c = 84
  · subst e84; exact h84
  by_cases e71 : c = 71
  · subst e71; exact h71
  by_cases e81 : c = 81
  · subst e81; exact h81
  by_cases e78 : c = 78
  · subst e78; exact h78
  by_cases e65 : c = 65
  · subst e65; exact h65
  by_cases e76 : c = 76
  · subst e76; exact h76
  by_cases e116 : c = 116
  · subst e116; exact h116
  by_cases e107 : c = 107
  · subst e107; exact h107
  by_cases e98 : c = 98
  · subst e98; exact h98
  by_cases e120 : c = 120
  · subst e120; exact h120
  by_cases e112 : c = 112
  · subst e112; exact h112
  by_cases e102 : c = 102
  · subst e102; exact h102
  unfold wipe1
  rw [if_neg e84, if_neg e71, if_neg e81, if_neg e78, if_neg e65, if_neg e76, if_neg e116, if_neg e107, if_neg e98, if_neg e120, if_neg e112, if_neg e102]
  exact hs
theorem EvI.wipe1 {v : Ev} (h : EvI v) (c : UInt8) : EvI (wipe1 v c) := by
  have z : -9223372036854775808 ≤ (0 : Int) ∧ (0 : Int) ≤ 9223372036854775807 := by omega
  obtain ⟨a1, a2, a3, a4⟩ := h
  apply wipe1_cases EvI v ⟨a1, a2, a3, a4⟩ <;> constructor <;> first | assumption | exact z
theorem EvOk.wipe1 {v : Ev} (h : EvOk v) (c : UInt8) : EvOk (wipe1 v c) := by
  obtain ⟨a1, a2, a3, a4, a5, a6, a7, a8, a9, a10⟩ := h
  apply wipe1_cases EvOk v ⟨a1, a2, a3, a4, a5, a6, a7, a8, a9, a10⟩ <;> constructor <;> first | assumption | simp
theorem EvI.wipe {v : Ev} (h : EvI v) (l : List UInt8) : EvI (wipeV v l) := by
  unfold wipeV
  induction l generalizing v with
  | nil => exact h
  | cons c l ih => exact ih (h.wipe1 c)
theorem EvOk.wipe {v : Ev} (h : EvOk v) (l : List UInt8) : EvOk (wipeV v l) := by
  unfold wipeV
  induction l generalizing v with
  | nil => exact h
  | cons c l ih => exact ih (h.wipe1 c)
end Go.Proofs.YtadhkeboaapfcaaGreatDoor.EvW
