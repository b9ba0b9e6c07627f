/- reveilleref03: Plain, Group, has, Of, Topic, Tag; name.Of, Topic, Tag. -/
import Derived.Test.YtadhkeboaapfcaaGreatDoorNameA
namespace Go.Proofs.YtadhkeboaapfcaaGreatDoor.NameW
open Go.RowKit OctMath NameMath
set_option maxRecDepth 100000
set_option linter.unusedSimpArgs false
set_option linter.unusedVariables false

theorem index_at (l : List UInt8) (n : Nat) (i : Int) (hi : i = n) (h : n < l.length) (k : IntKind) (w : World) : (Instr.index 9 (.string (S l)) (.int k i)).run Tryz.prog w = .ok (.int .u8 (l[n].toNat : Int)) w := by
  subst hi
  have hs := S_size l
  rw [run_index_string (h := Tryz.underlying9), dif_pos ⟨by omega, by omega⟩]; rfl

set_option maxHeartbeats 1600000 in
theorem rplain_any (l : List UInt8) (hl : l.length ≤ 1099511627776) (W : World) : Calls Tryz.prog 54 #[.string (S l)] W fun e w' => e = .returned (.bool (plainL l)) ∧ Drawn W w' := by
  have hsz := S_size l
  have HE : Hid (plainL l = (decide (1 ≤ l.length) && decide (l.length ≤ 16) && l.all signB)) := rfl
  go_enter Tryz.func54, Tryz.ntmps54
  go_wp2_with fail
  go_loopw [3] (fun i wr => ∃ k : Nat, k ≤ l.length ∧ i = .int .i64 (k : Int) ∧ Hid ((l.take k).all signB = true) ∧ Hid (Drawn W wr)) (fun i _ => l.length + 1 - (intOf i).toNat)
  case atStart => exact ⟨0, by omega, rfl, rfl, Drawn.refl _⟩
  case round =>
    obtain ⟨k, hk, rfl, HA, HD⟩ := hrel
    by_cases hlt : k < l.length
    · have hi1 : k < (S l).size := by rw [hsz]; exact hlt
      have hx1 := fun w => index_at l k (k : Int) rfl hlt .i64 w
      have hstep : (l.take (k + 1)).all signB = ((l.take k).all signB && signB l[k]) := by rw [List.take_succ_eq_append_getElem hlt, List.all_append, List.all_cons, List.all_nil, Bool.and_true]; rfl
      have hmem : signB l[k] = false → l.all signB = false := fun h => by rw [List.all_eq_false]; exact ⟨l[k], List.getElem_mem hlt, by rw [h]; simp⟩
      have hdg : signB l[k] = signN l[k].toNat := rfl
      generalize l[k] = c at *
      have HST := Lib.hid hstep
      have HMEM := Lib.hid hmem
      have HDG := Lib.hid hdg
      have hc := c.toNat_lt
      clear hstep hmem hdg
      rcases (show (c.toNat < 45) ∨ (c.toNat = 45) ∨ (45 < c.toNat ∧ c.toNat < 48) ∨ (48 ≤ c.toNat ∧ c.toNat ≤ 57) ∨ (57 < c.toNat ∧ c.toNat < 97) ∨ (97 ≤ c.toNat ∧ c.toNat ≤ 122) ∨ (122 < c.toNat) by omega) with h | h | h | h | h | h | h
      · have HS : Hid (signB c = false) := by show _ = _; rw [HDG.out]; unfold signN; simp; omega
        have d97 : decide (97 ≤ (c.toNat : Int)) = false := decide_eq_false (by omega)
        have d122 : decide ((c.toNat : Int) ≤ 122) = true := decide_eq_true (by omega)
        have d48 : decide (48 ≤ (c.toNat : Int)) = false := decide_eq_false (by omega)
        have d57 : decide ((c.toNat : Int) ≤ 57) = true := decide_eq_true (by omega)
        have b45 : ((c.toNat : Int) != 45) = true := bne_iff_ne.2 (by omega)
        clear HDG
        have HT : Hid (plainL l = false) := by show _ = _; rw [HE.out, HMEM.out HS.out, Bool.and_false]
        clear HMEM HST HS h
        go_wp2_with fail
        go_ret
        rw [HT.out]
        exact ⟨rfl, HD.out⟩
      · have HS : Hid (signB c = true) := by show _ = _; rw [HDG.out]; unfold signN; simp; omega
        have d97 : decide (97 ≤ (c.toNat : Int)) = false := decide_eq_false (by omega)
        have d122 : decide ((c.toNat : Int) ≤ 122) = true := decide_eq_true (by omega)
        have d48 : decide (48 ≤ (c.toNat : Int)) = false := decide_eq_false (by omega)
        have d57 : decide ((c.toNat : Int) ≤ 57) = true := decide_eq_true (by omega)
        have b45 : ((c.toNat : Int) != 45) = false := by rw [h]; rfl
        clear HDG
        have HT : Hid ((l.take (k + 1)).all signB = true) := by show _ = _; rw [HST.out, HA.out, HS.out]; rfl
        clear HMEM HST HS h
        go_wp2_with fail
        go_roundw
        case rel => exact ⟨k + 1, by omega, by go_num, HT, HD⟩
        case measure => simp [intOf]; omega
      · have HS : Hid (signB c = false) := by show _ = _; rw [HDG.out]; unfold signN; simp; omega
        have d97 : decide (97 ≤ (c.toNat : Int)) = false := decide_eq_false (by omega)
        have d122 : decide ((c.toNat : Int) ≤ 122) = true := decide_eq_true (by omega)
        have d48 : decide (48 ≤ (c.toNat : Int)) = false := decide_eq_false (by omega)
        have d57 : decide ((c.toNat : Int) ≤ 57) = true := decide_eq_true (by omega)
        have b45 : ((c.toNat : Int) != 45) = true := bne_iff_ne.2 (by omega)
        clear HDG
        have HT : Hid (plainL l = false) := by show _ = _; rw [HE.out, HMEM.out HS.out, Bool.and_false]
        clear HMEM HST HS h
        go_wp2_with fail
        go_ret
        rw [HT.out]
        exact ⟨rfl, HD.out⟩
      · have HS : Hid (signB c = true) := by show _ = _; rw [HDG.out]; unfold signN; simp; omega
        have d97 : decide (97 ≤ (c.toNat : Int)) = false := decide_eq_false (by omega)
        have d122 : decide ((c.toNat : Int) ≤ 122) = true := decide_eq_true (by omega)
        have d48 : decide (48 ≤ (c.toNat : Int)) = true := decide_eq_true (by omega)
        have d57 : decide ((c.toNat : Int) ≤ 57) = true := decide_eq_true (by omega)
        have b45 : ((c.toNat : Int) != 45) = true := bne_iff_ne.2 (by omega)
        clear HDG
        have HT : Hid ((l.take (k + 1)).all signB = true) := by show _ = _; rw [HST.out, HA.out, HS.out]; rfl
        clear HMEM HST HS h
        go_wp2_with fail
        go_roundw
        case rel => exact ⟨k + 1, by omega, by go_num, HT, HD⟩
        case measure => simp [intOf]; omega
      · have HS : Hid (signB c = false) := by show _ = _; rw [HDG.out]; unfold signN; simp; omega
        have d97 : decide (97 ≤ (c.toNat : Int)) = false := decide_eq_false (by omega)
        have d122 : decide ((c.toNat : Int) ≤ 122) = true := decide_eq_true (by omega)
        have d48 : decide (48 ≤ (c.toNat : Int)) = true := decide_eq_true (by omega)
        have d57 : decide ((c.toNat : Int) ≤ 57) = false := decide_eq_false (by omega)
        have b45 : ((c.toNat : Int) != 45) = true := bne_iff_ne.2 (by omega)
        clear HDG
        have HT : Hid (plainL l = false) := by show _ = _; rw [HE.out, HMEM.out HS.out, Bool.and_false]
        clear HMEM HST HS h
        go_wp2_with fail
        go_ret
        rw [HT.out]
        exact ⟨rfl, HD.out⟩
      · have HS : Hid (signB c = true) := by show _ = _; rw [HDG.out]; unfold signN; simp; omega
        have d97 : decide (97 ≤ (c.toNat : Int)) = true := decide_eq_true (by omega)
        have d122 : decide ((c.toNat : Int) ≤ 122) = true := decide_eq_true (by omega)
        have d48 : decide (48 ≤ (c.toNat : Int)) = true := decide_eq_true (by omega)
        have d57 : decide ((c.toNat : Int) ≤ 57) = false := decide_eq_false (by omega)
        have b45 : ((c.toNat : Int) != 45) = true := bne_iff_ne.2 (by omega)
        clear HDG
        have HT : Hid ((l.take (k + 1)).all signB = true) := by show _ = _; rw [HST.out, HA.out, HS.out]; rfl
        clear HMEM HST HS h
        go_wp2_with fail
        go_roundw
        case rel => exact ⟨k + 1, by omega, by go_num, HT, HD⟩
        case measure => simp [intOf]; omega
      · have HS : Hid (signB c = false) := by show _ = _; rw [HDG.out]; unfold signN; simp; omega
        have d97 : decide (97 ≤ (c.toNat : Int)) = true := decide_eq_true (by omega)
        have d122 : decide ((c.toNat : Int) ≤ 122) = false := decide_eq_false (by omega)
        have d48 : decide (48 ≤ (c.toNat : Int)) = true := decide_eq_true (by omega)
        have d57 : decide ((c.toNat : Int) ≤ 57) = false := decide_eq_false (by omega)
        have b45 : ((c.toNat : Int) != 45) = true := bne_iff_ne.2 (by omega)
        clear HDG
        have HT : Hid (plainL l = false) := by show _ = _; rw [HE.out, HMEM.out HS.out, Bool.and_false]
        clear HMEM HST HS h
        go_wp2_with fail
        go_ret
        rw [HT.out]
        exact ⟨rfl, HD.out⟩
    · have ek : k = l.length := by omega
      subst ek
      rw [List.take_length] at HA
      have HT : Hid (plainL l = (decide (1 ≤ l.length) && decide (l.length ≤ 16))) := by show _ = _; rw [HE.out, HA.out, Bool.and_true]
      have d1 : decide (1 ≤ (l.length : Int)) = decide (1 ≤ l.length) := decide_eq_decide.2 (by omega)
      have d16 : decide ((l.length : Int) ≤ 16) = decide (l.length ≤ 16) := decide_eq_decide.2 (by omega)
      clear HE HA
      generalize decide (1 ≤ l.length) = b1 at *
      generalize decide (l.length ≤ 16) = b2 at *
      cases b1 <;>
      (go_wp2_with fail
       go_ret
       rw [HT.out]
       exact ⟨rfl, HD.out⟩)

set_option maxHeartbeats 1600000 in
theorem rgroup_any (l : List UInt8) (hl : l.length ≤ 1099511627776) (W : World) : Calls Tryz.prog 33 #[.string (S l)] W fun e w' => e = .returned (.bool (groupL l)) ∧ Drawn W w' := by
  have hsz := S_size l
  have HR : Hid (groupL l = (plainL l && decide (l.length ≤ 8))) := rfl
  have h8 : decide ((l.length : Int) ≤ 8) = decide (l.length ≤ 8) := decide_eq_decide.2 (by omega)
  have hC := fun w => rplain_any l hl w
  generalize plainL l = b at *
  generalize decide (l.length ≤ 8) = b2 at *
  cases b <;>
  (go_enter Tryz.func33, Tryz.ntmps33
   go_wp2_with (go_at_call 54; refine (hC _).mono ?_; rintro e w2 ⟨rfl, hb2⟩)
   go_ret
   rw [HR.out]
   exact ⟨rfl, hb2⟩)
end Go.Proofs.YtadhkeboaapfcaaGreatDoor.NameW
