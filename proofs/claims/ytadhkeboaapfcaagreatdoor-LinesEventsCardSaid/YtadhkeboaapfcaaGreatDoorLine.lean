/- reveillelaw30.line, at any event. -/
import Derived.Test.YtadhkeboaapfcaaGreatDoorLineK
import Derived.Test.YtadhkeboaapfcaaGreatDoorLineL
import Derived.Test.YtadhkeboaapfcaaGreatDoorLineN
import Derived.Test.YtadhkeboaapfcaaGreatDoorLineM
import Derived.Test.YtadhkeboaapfcaaGreatDoorLineO
namespace Go.Proofs.YtadhkeboaapfcaaGreatDoor.EvW
open Go.RowKit OctMath NameMath HexMath
set_option linter.unusedVariables false
set_option linter.unusedSimpArgs false

theorem line_any (v : Ev) (s : EvS) (hsm : EvOk v) (hi : EvI v) (W : World) (hin : EvIn W v s) (hcap : v.tags.length ≤ s.tc) :
    Calls Tryz.prog 10 #[.agg (v.cells s)] W fun e w' => e = .returned (.string (S (lineL v))) ∧ Below W.heap.size W w' := by
  by_cases hno : (v.kind < 1 ∨ 15 < v.kind) ∨ guardB v = false ∨ v.keys.any badK = true
  · have e : lineL v = [] := by
      unfold lineL
      rcases hno with h | h | h
      · rw [if_pos h]
      · rw [h]; split <;> rfl
      · rw [h]; split <;> simp
    rw [e]; exact line_no v s hsm hi W hin hcap hno
  · have hk1 : ¬ (v.kind < 1 ∨ 15 < v.kind) := fun h => hno (.inl h)
    have hg : guardB v = true := by
      cases h : guardB v with
      | true => rfl
      | false => exact absurd (.inr (.inl h)) hno
    have hb : v.keys.any badK = false := by
      cases h : v.keys.any badK with
      | false => rfl
      | true => exact absurd (.inr (.inr h)) hno
    obtain ⟨k, hk⟩ : ∃ k : Nat, v.kind = k := ⟨v.kind.toNat, by omega⟩
    have e : lineL v = if condB v k then lineS v k else [] := by
      unfold lineL
      rw [if_neg hk1, hg, hb, hk, Int.toNat_natCast]; rfl
    rw [e]
    have hl1 : 1 ≤ k := by omega
    have hl2 : k ≤ 15 := by omega
    clear e hno hk1
    rcases kinds k hl1 hl2 with rfl | rfl | rfl | rfl | rfl | rfl | rfl | rfl | rfl | rfl | rfl | rfl | rfl | rfl | rfl
    · exact line_1 v s hsm hi W hin hcap (by simpa using hk) hg hb
    · exact line_2 v s hsm hi W hin hcap (by simpa using hk) hg hb
    · exact line_3 v s hsm hi W hin hcap (by simpa using hk) hg hb
    · exact line_4 v s hsm hi W hin hcap (by simpa using hk) hg hb
    · exact line_5 v s hsm hi W hin hcap (by simpa using hk) hg hb
    · exact line_6 v s hsm hi W hin hcap (by simpa using hk) hg hb
    · exact line_7 v s hsm hi W hin hcap (by simpa using hk) hg hb
    · exact line_8 v s hsm hi W hin hcap (by simpa using hk) hg hb
    · exact line_9 v s hsm hi W hin hcap (by simpa using hk) hg hb
    · exact line_10 v s hsm hi W hin hcap (by simpa using hk) hg hb
    · exact line_11 v s hsm hi W hin hcap (by simpa using hk) hg hb
    · exact line_12 v s hsm hi W hin hcap (by simpa using hk) hg hb
    · exact line_13 v s hsm hi W hin hcap (by simpa using hk) hg hb
    · exact line_14 v s hsm hi W hin hcap (by simpa using hk) hg hb
    · exact line_15 v s hsm hi W hin hcap (by simpa using hk) hg hb
end Go.Proofs.YtadhkeboaapfcaaGreatDoor.EvW
