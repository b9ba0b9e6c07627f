/- lines.verbs. -/
import Derived.Test.YtadhkeboaapfcaaGreatDoorHexA
namespace Go.Proofs.YtadhkeboaapfcaaGreatDoor.EvW
open Go.RowKit OctMath
set_option linter.unusedVariables false
set_option linter.unusedSimpArgs false
set_option maxRecDepth 100000

/-- the verbs' names -/
def verbN (k : Nat) : List UInt8 := match k with
  | 1 => [67, 82, 69, 65, 84, 69]
  | 2 => [83, 69, 78, 68]
  | 3 => [76, 65, 84, 69, 82]
  | 4 => [67, 65, 78, 67, 69, 76]
  | 5 => [80, 85, 76, 76]
  | 6 => [67, 79, 77, 77, 73, 84]
  | 7 => [78, 65, 67, 75]
  | 8 => [65, 67, 75]
  | 9 => [75, 69, 89]
  | 10 => [83, 84, 65, 84, 85, 83]
  | 11 => [80, 73, 67, 75]
  | 12 => [80, 65, 83, 83]
  | 13 => [70, 85, 83, 69]
  | 14 => [67, 82, 65, 83, 72]
  | 15 => [83, 69, 84, 84, 76, 69]
  | _ => []
/-- the verbs' letters -/
def verbL (k : Nat) : List UInt8 := match k with
  | 1 => [84, 78]
  | 2 => [84, 81, 116, 107, 98, 115]
  | 3 => [78, 84, 81, 116, 107, 98, 115]
  | 4 => [78]
  | 5 => [84, 81, 65, 78, 102]
  | 6 => [71, 84, 81, 65]
  | 7 => [71, 84, 81, 65, 115]
  | 8 => [71, 84, 81, 65]
  | 9 => [84, 120, 78]
  | 10 => [78]
  | 11 => [78]
  | 12 => [78]
  | 13 => [78]
  | 14 => [112, 76, 98]
  | _ => []
def verbCells : Array Value := #[.string ⟨#[]⟩, .string ⟨#[]⟩, .string ⟨#[67, 82, 69, 65, 84, 69]⟩, .string ⟨#[84, 78]⟩, .string ⟨#[83, 69, 78, 68]⟩, .string ⟨#[84, 81, 116, 107, 98, 115]⟩, .string ⟨#[76, 65, 84, 69, 82]⟩, .string ⟨#[78, 84, 81, 116, 107, 98, 115]⟩, .string ⟨#[67, 65, 78, 67, 69, 76]⟩, .string ⟨#[78]⟩, .string ⟨#[80, 85, 76, 76]⟩, .string ⟨#[84, 81, 65, 78, 102]⟩, .string ⟨#[67, 79, 77, 77, 73, 84]⟩, .string ⟨#[71, 84, 81, 65]⟩, .string ⟨#[78, 65, 67, 75]⟩, .string ⟨#[71, 84, 81, 65, 115]⟩, .string ⟨#[65, 67, 75]⟩, .string ⟨#[71, 84, 81, 65]⟩, .string ⟨#[75, 69, 89]⟩, .string ⟨#[84, 120, 78]⟩, .string ⟨#[83, 84, 65, 84, 85, 83]⟩, .string ⟨#[78]⟩, .string ⟨#[80, 73, 67, 75]⟩, .string ⟨#[78]⟩, .string ⟨#[80, 65, 83, 83]⟩, .string ⟨#[78]⟩, .string ⟨#[70, 85, 83, 69]⟩, .string ⟨#[78]⟩, .string ⟨#[67, 82, 65, 83, 72]⟩, .string ⟨#[112, 76, 98]⟩, .string ⟨#[83, 69, 84, 84, 76, 69]⟩, .string ⟨#[]⟩]
theorem verb_cells (k : Nat) (h : k < 16) : verbCells[2 * k]? = some (.string (S (verbN k))) ∧ verbCells[2 * k + 1]? = some (.string (S (verbL k))) := by
  match k, h with
  | 0, _ => exact ⟨rfl, rfl⟩
  | 1, _ => exact ⟨rfl, rfl⟩
  | 2, _ => exact ⟨rfl, rfl⟩
  | 3, _ => exact ⟨rfl, rfl⟩
  | 4, _ => exact ⟨rfl, rfl⟩
  | 5, _ => exact ⟨rfl, rfl⟩
  | 6, _ => exact ⟨rfl, rfl⟩
  | 7, _ => exact ⟨rfl, rfl⟩
  | 8, _ => exact ⟨rfl, rfl⟩
  | 9, _ => exact ⟨rfl, rfl⟩
  | 10, _ => exact ⟨rfl, rfl⟩
  | 11, _ => exact ⟨rfl, rfl⟩
  | 12, _ => exact ⟨rfl, rfl⟩
  | 13, _ => exact ⟨rfl, rfl⟩
  | 14, _ => exact ⟨rfl, rfl⟩
  | 15, _ => exact ⟨rfl, rfl⟩
  | n + 16, h => exact absurd h (by omega)
theorem verbL_ascii (k : Nat) : ∀ c ∈ verbL k, c.toNat < 128 := by
  unfold verbL
  split <;> decide
theorem verbL_len (k : Nat) : (verbL k).length ≤ 8 := by
  unfold verbL
  split <;> decide
set_option maxHeartbeats 1600000 in
theorem verbs_any (W : World) :
    Calls Tryz.prog 19 #[] W fun e w' => e = .returned (.slice (some ⟨W.heap.size, 0, none⟩) 16 16) ∧ w' = W.alloc (.cells verbCells 48) := by
  go_enter Tryz.func19, Tryz.ntmps19
  go_wp2_with fail
  go_ret
  exact ⟨rfl, rfl⟩
end Go.Proofs.YtadhkeboaapfcaaGreatDoor.EvW
