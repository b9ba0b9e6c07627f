/- name.sign, name.Plain, name.Group; reveilleref03.Plain, Group. -/
import Derived.Test.YtadhkeboaapfcaaGreatDoorBase
import Derived.Test.YtadhkeboaapfcaaGreatDoorNameMath
import Derived.Test.YtadhkeboaapfcaaGreatDoorShelf
namespace Go.Proofs.YtadhkeboaapfcaaGreatDoor.NameW
open Go.RowKit OctMath NameMath
set_option maxRecDepth 100000
set_option linter.unusedSimpArgs false
set_option linter.unusedVariables false

theorem S_toList (l : List UInt8) : (S l).toList = l := by rw [ByteArray.toList_eq, S_list]
set_option maxHeartbeats 1600000 in
theorem sign_any (n : Nat) (W : World) : Calls Tryz.prog 87 #[.int .i32 (n : Int)] W fun e w' => e = .returned (.bool (signN n)) ∧ w' = W := by
  have h1 : decide ((97 : Int) ≤ (n : Int)) = decide (97 ≤ n) := decide_eq_decide.2 (by omega)
  have h2 : decide ((n : Int) ≤ 122) = decide (n ≤ 122) := decide_eq_decide.2 (by omega)
  have h3 : decide ((48 : Int) ≤ (n : Int)) = decide (48 ≤ n) := decide_eq_decide.2 (by omega)
  have h4 : decide ((n : Int) ≤ 57) = decide (n ≤ 57) := decide_eq_decide.2 (by omega)
  have h5 : ((n : Int) == 45) = (n == 45) := by
    by_cases h : n = 45
    · subst h; rfl
    · rw [beq_eq_false_iff_ne.2 h, beq_eq_false_iff_ne.2 (by omega)]
  have HR : Hid (signN n = ((decide (97 ≤ n) && decide (n ≤ 122)) || (decide (48 ≤ n) && decide (n ≤ 57)) || n == 45)) := rfl
  generalize decide (97 ≤ n) = b1 at *
  generalize decide (n ≤ 122) = b2 at *
  generalize decide (48 ≤ n) = b3 at *
  generalize decide (n ≤ 57) = b4 at *
  generalize (n == 45) = b5 at *
  cases b1 <;> cases b2 <;> cases b3 <;> cases b4 <;> cases b5 <;>
  (go_enter Tryz.func87, Tryz.ntmps87
   go_wp2_with fail
   go_ret
   rw [HR.out]
   exact ⟨rfl, rfl⟩)

set_option maxHeartbeats 1600000 in
theorem unsign_any (n : Nat) (W : World) : Calls Tryz.prog 86 #[.int .i32 (n : Int)] W fun e w' => e = .returned (.bool (!signN n)) ∧ ∃ q, w' = W.drewN q := by
  go_enter Tryz.func86, Tryz.ntmps86
  go_wp2_with (go_at_call 87; refine (sign_any n _).mono ?_; rintro e w2 ⟨rfl, rfl⟩)
  go_ret
  exact ⟨rfl, 0, rfl⟩

set_option maxHeartbeats 1600000 in
theorem plain_any (l : List UInt8) (hl : l.length ≤ 1099511627776) (W : World) : Calls Tryz.prog 65 #[.string (S l)] W fun e w' => e = .returned (.bool (plainL l)) ∧ Below W.heap.size W w' := by
  have hC := fun w => Tryz.strings_IndexFunc 86 #[] (enters_of Tryz.func86 (by kernel_rfl) rfl) (fun n => !signN n) (S l) w (fun W' x hb => unsign_any x W')
  have hsz := S_size l
  have hE := plain_eq l
  have htl := S_toList l
  by_cases h0 : l = []
  · have hb : l.isEmpty = true := by subst h0; rfl
    have HR : Hid (plainL l = false) := by show _ = _; rw [hE, decide_eq_false (by simpa using h0)]; rfl
    clear hE h0
    go_enter Tryz.func65, Tryz.ntmps65
    go_wp2_with fail
    go_ret
    rw [HR.out]
    exact ⟨rfl, Below.refl _ _⟩
  have hb : l.isEmpty = false := by cases l with | nil => exact absurd rfl h0 | cons _ _ => rfl
  rw [decide_eq_true h0, Bool.true_and] at hE
  by_cases h1 : l.length ≤ 16
  · have HR : Hid (plainL l = decide (Lib.idxFunc (fun n => !signN n) true (S l) < (0 : Int))) := by show _ = _; rw [hE, decide_eq_true h1]; rfl
    have h16 : decide ((l.length : Int) ≤ 16) = true := decide_eq_true (by omega)
    clear hE h0
    go_enter Tryz.func65, Tryz.ntmps65
    go_wp2_with (go_at_call 85; refine (hC _).mono ?_; rintro e w2 ⟨rfl, hb2⟩)
    go_ret
    rw [HR.out]
    exact ⟨rfl, hb2⟩
  · have HR : Hid (plainL l = false) := by show _ = _; rw [hE, decide_eq_false h1]; rfl
    have h16 : decide ((l.length : Int) ≤ 16) = false := decide_eq_false (by omega)
    clear hE h0
    go_enter Tryz.func65, Tryz.ntmps65
    go_wp2_with fail
    go_ret
    rw [HR.out]
    exact ⟨rfl, Below.refl _ _⟩

set_option maxHeartbeats 1600000 in
theorem group_any (l : List UInt8) (hl : l.length ≤ 1099511627776) (W : World) : Calls Tryz.prog 45 #[.string (S l)] W fun e w' => e = .returned (.bool (groupL l)) ∧ Below W.heap.size W w' := by
  have hsz := S_size l
  have HR : Hid (groupL l = (plainL l && decide (l.length ≤ 8))) := rfl
  have h8 : decide ((l.length : Int) ≤ 8) = decide (l.length ≤ 8) := decide_eq_decide.2 (by omega)
  have hC := fun w => plain_any l hl w
  generalize plainL l = b at *
  generalize decide (l.length ≤ 8) = b2 at *
  cases b <;>
  (go_enter Tryz.func45, Tryz.ntmps45
   go_wp2_with (go_at_call 65; refine (hC _).mono ?_; rintro e w2 ⟨rfl, hb2⟩)
   go_ret
   rw [HR.out]
   exact ⟨rfl, hb2⟩)
end Go.Proofs.YtadhkeboaapfcaaGreatDoor.NameW
