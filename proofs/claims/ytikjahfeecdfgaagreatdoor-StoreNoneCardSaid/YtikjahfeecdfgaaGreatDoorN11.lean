/- What the first texts left out, and the walks of the law. -/
import Derived.Test.YtikjahfeecdfgaaGreatDoorM00
import Derived.Test.YtikjahfeecdfgaaGreatDoorM01
import Derived.Test.YtikjahfeecdfgaaGreatDoorM02
import Derived.Test.YtikjahfeecdfgaaGreatDoorM03
import Derived.Test.YtikjahfeecdfgaaGreatDoorM04
import Derived.Test.YtikjahfeecdfgaaGreatDoorM05
import Derived.Test.YtikjahfeecdfgaaGreatDoorM06
import Derived.Test.YtikjahfeecdfgaaGreatDoorM07
import Derived.Test.YtikjahfeecdfgaaGreatDoorM08
import Derived.Test.YtikjahfeecdfgaaGreatDoorM09
import Derived.Test.YtikjahfeecdfgaaGreatDoorRows
import Derived.ProofKit
import Derived.OpenShut
import Derived.SizedLaws
import Derived.SliceStrings
import Derived.ChangeShapes
import Derived.ChangeArms
import Derived.Deep.Grids
import Derived.Lay
import Derived.LaidLaws
import Derived.LaidMore
import Derived.Lib.LaidTab
import Derived.Shelf.Vars
namespace Go.Proofs.YtikjahfeecdfgaaGreatDoor.NameW
open Go.RowKit OctMath NameMath
set_option maxRecDepth 100000
set_option linter.unusedSimpArgs false
set_option linter.unusedVariables false
theorem index_at (l : List UInt8) (n : Nat) (i : Int) (hi : i = n) (h : n < l.length) (k : IntKind) (w : World) : (Instr.index 9 (.string (S l)) (.int k i)).run Tryz.prog w = .ok (.int .u8 (l[n].toNat : Int)) w := by
  subst hi
  have hs := S_size l
  rw [run_index_string (h := Tryz.underlying9), dif_pos ⟨by omega, by omega⟩]; rfl
set_option maxHeartbeats 1600000 in
theorem rplain_any (l : List UInt8) (hl : l.length ≤ 1099511627776) (W : World) : Calls Tryz.prog 174 #[.string (S l)] W fun e w' => e = .returned (.bool (plainL l)) ∧ Drawn W w' := by
  have hsz := S_size l
  have HE : Hid (plainL l = (decide (1 ≤ l.length) && decide (l.length ≤ 16) && l.all signB)) := rfl
  go_enter Tryz.func174, Tryz.ntmps174
  go_wp2_with fail
  go_loopw [3] (fun i wr => ∃ k : Nat, k ≤ l.length ∧ i = .int .i64 (k : Int) ∧ Hid ((l.take k).all signB = true) ∧ Hid (Drawn W wr)) (fun i _ => l.length + 1 - (intOf i).toNat)
  case atStart => exact ⟨0, by omega, rfl, rfl, Drawn.refl _⟩
  case round =>
    obtain ⟨k, hk, rfl, HA, HD⟩ := hrel
    by_cases hlt : k < l.length
    · have hi1 : k < (S l).size := by rw [hsz]; exact hlt
      have hx1 := fun w => index_at l k (k : Int) rfl hlt .i64 w
      have hstep : (l.take (k + 1)).all signB = ((l.take k).all signB && signB l[k]) := by rw [List.take_succ_eq_append_getElem hlt, List.all_append, List.all_cons, List.all_nil, Bool.and_true]; rfl
      have hmem : signB l[k] = false → l.all signB = false := fun h => by rw [List.all_eq_false]; exact ⟨l[k], List.getElem_mem hlt, by rw [h]; simp⟩
      have hdg : signB l[k] = signN l[k].toNat := rfl
      generalize l[k] = c at *
      have HST := Lib.hid hstep
      have HMEM := Lib.hid hmem
      have HDG := Lib.hid hdg
      have hc := c.toNat_lt
      clear hstep hmem hdg
      rcases (show (c.toNat < 45) ∨ (c.toNat = 45) ∨ (45 < c.toNat ∧ c.toNat < 48) ∨ (48 ≤ c.toNat ∧ c.toNat ≤ 57) ∨ (57 < c.toNat ∧ c.toNat < 97) ∨ (97 ≤ c.toNat ∧ c.toNat ≤ 122) ∨ (122 < c.toNat) by omega) with h | h | h | h | h | h | h
      · have HS : Hid (signB c = false) := by show _ = _; rw [HDG.out]; unfold signN; simp; omega
        have d97 : decide (97 ≤ (c.toNat : Int)) = false := decide_eq_false (by omega)
        have d122 : decide ((c.toNat : Int) ≤ 122) = true := decide_eq_true (by omega)
        have d48 : decide (48 ≤ (c.toNat : Int)) = false := decide_eq_false (by omega)
        have d57 : decide ((c.toNat : Int) ≤ 57) = true := decide_eq_true (by omega)
        have b45 : ((c.toNat : Int) != 45) = true := bne_iff_ne.2 (by omega)
        clear HDG
        have HT : Hid (plainL l = false) := by show _ = _; rw [HE.out, HMEM.out HS.out, Bool.and_false]
        clear HMEM HST HS h
        go_wp2_with fail
        go_ret
        rw [HT.out]
        exact ⟨rfl, HD.out⟩
      · have HS : Hid (signB c = true) := by show _ = _; rw [HDG.out]; unfold signN; simp; omega
        have d97 : decide (97 ≤ (c.toNat : Int)) = false := decide_eq_false (by omega)
        have d122 : decide ((c.toNat : Int) ≤ 122) = true := decide_eq_true (by omega)
        have d48 : decide (48 ≤ (c.toNat : Int)) = false := decide_eq_false (by omega)
        have d57 : decide ((c.toNat : Int) ≤ 57) = true := decide_eq_true (by omega)
        have b45 : ((c.toNat : Int) != 45) = false := by rw [h]; rfl
        clear HDG
        have HT : Hid ((l.take (k + 1)).all signB = true) := by show _ = _; rw [HST.out, HA.out, HS.out]; rfl
        clear HMEM HST HS h
        go_wp2_with fail
        go_roundw
        case rel => exact ⟨k + 1, by omega, by go_num, HT, HD⟩
        case measure => simp [intOf]; omega
      · have HS : Hid (signB c = false) := by show _ = _; rw [HDG.out]; unfold signN; simp; omega
        have d97 : decide (97 ≤ (c.toNat : Int)) = false := decide_eq_false (by omega)
        have d122 : decide ((c.toNat : Int) ≤ 122) = true := decide_eq_true (by omega)
        have d48 : decide (48 ≤ (c.toNat : Int)) = false := decide_eq_false (by omega)
        have d57 : decide ((c.toNat : Int) ≤ 57) = true := decide_eq_true (by omega)
        have b45 : ((c.toNat : Int) != 45) = true := bne_iff_ne.2 (by omega)
        clear HDG
        have HT : Hid (plainL l = false) := by show _ = _; rw [HE.out, HMEM.out HS.out, Bool.and_false]
        clear HMEM HST HS h
        go_wp2_with fail
        go_ret
        rw [HT.out]
        exact ⟨rfl, HD.out⟩
      · have HS : Hid (signB c = true) := by show _ = _; rw [HDG.out]; unfold signN; simp; omega
        have d97 : decide (97 ≤ (c.toNat : Int)) = false := decide_eq_false (by omega)
        have d122 : decide ((c.toNat : Int) ≤ 122) = true := decide_eq_true (by omega)
        have d48 : decide (48 ≤ (c.toNat : Int)) = true := decide_eq_true (by omega)
        have d57 : decide ((c.toNat : Int) ≤ 57) = true := decide_eq_true (by omega)
        have b45 : ((c.toNat : Int) != 45) = true := bne_iff_ne.2 (by omega)
        clear HDG
        have HT : Hid ((l.take (k + 1)).all signB = true) := by show _ = _; rw [HST.out, HA.out, HS.out]; rfl
        clear HMEM HST HS h
        go_wp2_with fail
        go_roundw
        case rel => exact ⟨k + 1, by omega, by go_num, HT, HD⟩
        case measure => simp [intOf]; omega
      · have HS : Hid (signB c = false) := by show _ = _; rw [HDG.out]; unfold signN; simp; omega
        have d97 : decide (97 ≤ (c.toNat : Int)) = false := decide_eq_false (by omega)
        have d122 : decide ((c.toNat : Int) ≤ 122) = true := decide_eq_true (by omega)
        have d48 : decide (48 ≤ (c.toNat : Int)) = true := decide_eq_true (by omega)
        have d57 : decide ((c.toNat : Int) ≤ 57) = false := decide_eq_false (by omega)
        have b45 : ((c.toNat : Int) != 45) = true := bne_iff_ne.2 (by omega)
        clear HDG
        have HT : Hid (plainL l = false) := by show _ = _; rw [HE.out, HMEM.out HS.out, Bool.and_false]
        clear HMEM HST HS h
        go_wp2_with fail
        go_ret
        rw [HT.out]
        exact ⟨rfl, HD.out⟩
      · have HS : Hid (signB c = true) := by show _ = _; rw [HDG.out]; unfold signN; simp; omega
        have d97 : decide (97 ≤ (c.toNat : Int)) = true := decide_eq_true (by omega)
        have d122 : decide ((c.toNat : Int) ≤ 122) = true := decide_eq_true (by omega)
        have d48 : decide (48 ≤ (c.toNat : Int)) = true := decide_eq_true (by omega)
        have d57 : decide ((c.toNat : Int) ≤ 57) = false := decide_eq_false (by omega)
        have b45 : ((c.toNat : Int) != 45) = true := bne_iff_ne.2 (by omega)
        clear HDG
        have HT : Hid ((l.take (k + 1)).all signB = true) := by show _ = _; rw [HST.out, HA.out, HS.out]; rfl
        clear HMEM HST HS h
        go_wp2_with fail
        go_roundw
        case rel => exact ⟨k + 1, by omega, by go_num, HT, HD⟩
        case measure => simp [intOf]; omega
      · have HS : Hid (signB c = false) := by show _ = _; rw [HDG.out]; unfold signN; simp; omega
        have d97 : decide (97 ≤ (c.toNat : Int)) = true := decide_eq_true (by omega)
        have d122 : decide ((c.toNat : Int) ≤ 122) = false := decide_eq_false (by omega)
        have d48 : decide (48 ≤ (c.toNat : Int)) = true := decide_eq_true (by omega)
        have d57 : decide ((c.toNat : Int) ≤ 57) = false := decide_eq_false (by omega)
        have b45 : ((c.toNat : Int) != 45) = true := bne_iff_ne.2 (by omega)
        clear HDG
        have HT : Hid (plainL l = false) := by show _ = _; rw [HE.out, HMEM.out HS.out, Bool.and_false]
        clear HMEM HST HS h
        go_wp2_with fail
        go_ret
        rw [HT.out]
        exact ⟨rfl, HD.out⟩
    · have ek : k = l.length := by omega
      subst ek
      rw [List.take_length] at HA
      have HT : Hid (plainL l = (decide (1 ≤ l.length) && decide (l.length ≤ 16))) := by show _ = _; rw [HE.out, HA.out, Bool.and_true]
      have d1 : decide (1 ≤ (l.length : Int)) = decide (1 ≤ l.length) := decide_eq_decide.2 (by omega)
      have d16 : decide ((l.length : Int) ≤ 16) = decide (l.length ≤ 16) := decide_eq_decide.2 (by omega)
      clear HE HA
      generalize decide (1 ≤ l.length) = b1 at *
      generalize decide (l.length ≤ 16) = b2 at *
      cases b1 <;>
      (go_wp2_with fail
       go_ret
       rw [HT.out]
       exact ⟨rfl, HD.out⟩)
set_option maxHeartbeats 1600000 in
theorem rgroup_any (l : List UInt8) (hl : l.length ≤ 1099511627776) (W : World) : Calls Tryz.prog 220 #[.string (S l)] W fun e w' => e = .returned (.bool (groupL l)) ∧ Drawn W w' := by
  have hsz := S_size l
  have HR : Hid (groupL l = (plainL l && decide (l.length ≤ 8))) := rfl
  have h8 : decide ((l.length : Int) ≤ 8) = decide (l.length ≤ 8) := decide_eq_decide.2 (by omega)
  have hC := fun w => rplain_any l hl w
  generalize plainL l = b at *
  generalize decide (l.length ≤ 8) = b2 at *
  cases b <;>
  (go_enter Tryz.func220, Tryz.ntmps220
   go_wp2_with (go_at_call 174; refine (hC _).mono ?_; rintro e w2 ⟨rfl, hb2⟩)
   go_ret
   rw [HR.out]
   exact ⟨rfl, hb2⟩)
end Go.Proofs.YtikjahfeecdfgaaGreatDoor.NameW
namespace Go.Proofs.YtikjahfeecdfgaaGreatDoor.NameW
open Go.RowKit OctMath NameMath
set_option maxRecDepth 100000
set_option linter.unusedSimpArgs false
set_option linter.unusedVariables false
set_option maxHeartbeats 1600000 in
theorem has_any (l p : List UInt8) (hl : l.length ≤ 1099511627776) (hp : p.length ≤ 1099511627776) (W : World) : Calls Tryz.prog 219 #[.string (S l), .string (S p)] W fun e w' => e = .returned (.bool (Lib.hasPrefix l p)) ∧ Drawn W w' := by
  have hsz := S_size l
  have hsp := S_size p
  have htl := S_toList (l.take p.length)
  have htp := S_toList p
  by_cases hlt : p.length ≤ l.length
  · have d1 : decide ((p.length : Int) ≤ (l.length : Int)) = true := decide_eq_true (by omega)
    have hd2 : (S l).extract 0 p.length = S (l.take p.length) := S_take _ _
    have HR : Hid (Lib.hasPrefix l p = (l.take p.length == p)) := by
      show p.isPrefixOf l = _
      rw [Bool.eq_iff_iff, List.isPrefixOf_iff_prefix, List.prefix_iff_eq_take, beq_iff_eq]; exact eq_comm
    go_enter Tryz.func219, Tryz.ntmps219
    go_wp2_with fail
    go_ret
    rw [HR.out]
    exact ⟨rfl, Drawn.refl _⟩
  · have d1 : decide ((p.length : Int) ≤ (l.length : Int)) = false := decide_eq_false (by omega)
    have HR : Hid (Lib.hasPrefix l p = false) := by
      show p.isPrefixOf l = _
      rw [Bool.eq_false_iff, ne_eq, List.isPrefixOf_iff_prefix]; intro h; exact hlt h.length_le
    go_enter Tryz.func219, Tryz.ntmps219
    go_wp2_with fail
    go_ret
    rw [HR.out]
    exact ⟨rfl, Drawn.refl _⟩
set_option maxHeartbeats 1600000 in
theorem rtag_any (l : List UInt8) (hl : l.length ≤ 1099511627776) (W : World) : Calls Tryz.prog 117 #[.string (S l)] W fun e w' => e = .returned (.bool (l.isEmpty || plainL l)) ∧ Drawn W w' := by
  have htl := S_toList l
  generalize he : l.isEmpty = e
  cases e <;>
  (go_enter Tryz.func117, Tryz.ntmps117
   go_wp2_with (go_at_call 174; refine (rplain_any l hl _).mono ?_; rintro e w2 ⟨rfl, hb2⟩)
   go_ret
   first | exact ⟨rfl, hb2⟩ | exact ⟨rfl, Drawn.refl _⟩)
set_option maxHeartbeats 1600000 in
theorem rof_any (l : List UInt8) (hl : l.length ≤ 1099511627776) (W : World) : Calls Tryz.prog 175 #[.string (S l)] W fun e w' => e = .returned (.string (S (ofL l))) ∧ Drawn W w' := by
  have hsz := S_size l
  have HR : Hid (ofL l = if (Lib.hasPrefix l retryL && groupL (l.drop 7)) = true then l.drop 7 else if (Lib.hasPrefix l deadL && groupL (l.drop 6)) = true then l.drop 6 else []) := rfl
  have hC1 := fun w => has_any l retryL hl (by decide) w
  have hC2 := fun w => has_any l deadL hl (by decide) w
  change ∀ w, Calls _ _ #[.string (S l), .string { data := #[37, 114, 101, 116, 114, 121, 37] }] w _ at hC1
  change ∀ w, Calls _ _ #[.string (S l), .string { data := #[37, 100, 101, 97, 100, 37] }] w _ at hC2
  have HC3 := Lib.hid (fun w => rgroup_any (l.drop 7) (by rw [List.length_drop]; omega) w)
  have HC4 := Lib.hid (fun w => rgroup_any (l.drop 6) (by rw [List.length_drop]; omega) w)
  have HD7 := Lib.hid (S_drop l 7)
  have HD6 := Lib.hid (S_drop l 6)
  rw [hsz] at HD7 HD6
  have HL1 : Hid (Lib.hasPrefix l retryL = true → 7 ≤ l.length) := fun h => by
    have := (List.isPrefixOf_iff_prefix.1 h).length_le
    exact this
  have HL2 : Hid (Lib.hasPrefix l deadL = true → 6 ≤ l.length) := fun h => by
    have := (List.isPrefixOf_iff_prefix.1 h).length_le
    exact this
  have HC1 := Lib.hid hC1
  have HC2 := Lib.hid hC2
  clear hC1 hC2
  generalize Lib.hasPrefix l retryL = b1 at *
  generalize Lib.hasPrefix l deadL = b2 at *
  generalize groupL (l.drop 7) = g7 at *
  generalize groupL (l.drop 6) = g6 at *
  go_enter Tryz.func175, Tryz.ntmps175
  go_wp2_with fail
  refine (HC1.out _).mono ?_
  rintro e w2 ⟨rfl, hb⟩
  have HB := Lib.hid hb
  clear hb HC1
  cases b1 with
  | true =>
    have h7 := HL1.out rfl
    have d7 := HD7.out
    go_wp2_with fail
    refine (HC3.out _).mono ?_
    rintro e w3 ⟨rfl, hb⟩
    have HB3 := Lib.hid (HB.out.trans hb)
    clear hb
    cases g7 with
    | true =>
      have HT : Hid (ofL l = l.drop 7) := HR.out
      clear HR HC2 HC3 HC4
      go_wp2_with fail
      go_ret
      rw [HT.out]
      exact ⟨rfl, HB3.out⟩
    | false =>
      have HT : Hid (ofL l = if (b2 && g6) = true then l.drop 6 else []) := HR.out
      clear HR d7 h7 HD7
      go_wp2_with fail
      refine (HC2.out _).mono ?_
      rintro e w4 ⟨rfl, hb⟩
      have HB4 := Lib.hid (HB3.out.trans hb)
      clear hb
      cases b2 with
      | true =>
        have h6 := HL2.out rfl
        have d6 := HD6.out
        go_wp2_with fail
        refine (HC4.out _).mono ?_
        rintro e w5 ⟨rfl, hb⟩
        have HB5 := Lib.hid (HB4.out.trans hb)
        clear hb
        cases g6 with
        | true =>
          go_wp2_with fail
          go_ret
          rw [HT.out]
          exact ⟨rfl, HB5.out⟩
        | false =>
          go_wp2_with fail
          go_ret
          rw [HT.out]
          exact ⟨rfl, HB5.out⟩
      | false =>
        go_wp2_with fail
        go_ret
        rw [HT.out]
        exact ⟨rfl, HB4.out⟩
  | false =>
    have HT : Hid (ofL l = if (b2 && g6) = true then l.drop 6 else []) := HR.out
    clear HR HD7
    go_wp2_with fail
    refine (HC2.out _).mono ?_
    rintro e w4 ⟨rfl, hb⟩
    have HB4 := Lib.hid (HB.out.trans hb)
    clear hb
    cases b2 with
    | true =>
      have h6 := HL2.out rfl
      have d6 := HD6.out
      go_wp2_with fail
      refine (HC4.out _).mono ?_
      rintro e w5 ⟨rfl, hb⟩
      have HB5 := Lib.hid (HB4.out.trans hb)
      clear hb
      cases g6 with
      | true =>
        go_wp2_with fail
        go_ret
        rw [HT.out]
        exact ⟨rfl, HB5.out⟩
      | false =>
        go_wp2_with fail
        go_ret
        rw [HT.out]
        exact ⟨rfl, HB5.out⟩
    | false =>
      go_wp2_with fail
      go_ret
      rw [HT.out]
      exact ⟨rfl, HB4.out⟩
set_option maxHeartbeats 1600000 in
theorem rtopic_any (l : List UInt8) (hl : l.length ≤ 1099511627776) (W : World) : Calls Tryz.prog 116 #[.string (S l)] W fun e w' => e = .returned (.bool (topicL l)) ∧ Drawn W w' := by
  have HR : Hid (topicL l = (plainL l || !(ofL l).isEmpty)) := rfl
  have HP := Lib.hid (fun w => rplain_any l hl w)
  have htl := S_toList (ofL l)
  generalize plainL l = b at *
  go_enter Tryz.func116, Tryz.ntmps116
  go_wp2_with fail
  refine (HP.out _).mono ?_
  rintro e w2 ⟨rfl, hb⟩
  have HB := Lib.hid hb
  clear hb HP
  cases b with
  | true =>
    go_wp2_with fail
    go_ret
    rw [HR.out]
    exact ⟨rfl, HB.out⟩
  | false =>
    go_wp2_with fail
    refine (rof_any l hl _).mono ?_
    rintro e w3 ⟨rfl, hb⟩
    have HB3 := Lib.hid (HB.out.trans hb)
    clear hb
    generalize he : (ofL l).isEmpty = e at *
    go_wp2_with fail
    go_ret
    rw [HR.out]
    exact ⟨rfl, HB3.out⟩
end Go.Proofs.YtikjahfeecdfgaaGreatDoor.NameW
namespace Go.Proofs.YtikjahfeecdfgaaGreatDoor.StoW
open Go.RowKit Go.MapKept OctMath RecMath RecW TapeMath DskW SegW MapG TapeW PendW CacheW CqW
set_option linter.unusedVariables false
set_option linter.unusedSimpArgs false
set_option maxRecDepth 100000
theorem put_nil (m : Msg) (a : Option Addr) (c : Nat) (sy : Bool) (w : World) : Calls Tryz.prog 10 #[.pointer none, .agg (cellsM m a c), .bool sy] w fun e w' => e = .returned (.tuple #[.int .i64 0, .int .i64 1]) ∧ Below w.heap.size w w' := by
  have hcu : (cellsM m a c).size = 10 := rfl
  go_enter Tryz.func10, Tryz.ntmps10
  go_wp2_with fail
  go_ret2
  exact ⟨rfl, (Below.refl _ w).alloc (Nat.le_refl _) _⟩
theorem enq_nil (w : World) : Calls Tryz.prog 19 #[.pointer none] w fun e w' => e = .returned (.tuple #[.bool false, .int .i64 1]) ∧ w' = w := by
  go_enter Tryz.func19, Tryz.ntmps19
  go_wp2_with fail
  go_ret2
  exact ⟨rfl, rfl⟩
theorem deq_nil (w : World) : Calls Tryz.prog 20 #[.pointer none] w fun e w' => e = .returned (.tuple #[.bool false, .int .i64 1]) ∧ w' = w := by
  go_enter Tryz.func20, Tryz.ntmps20
  go_wp2_with fail
  go_ret2
  exact ⟨rfl, rfl⟩
theorem second_nil (w : World) : Calls Tryz.prog 21 #[.pointer none] w fun e w' => e = .returned (.tuple #[.int .i64 0, .bool false]) ∧ w' = w := by
  go_enter Tryz.func21, Tryz.ntmps21
  go_wp2_with fail
  go_ret2
  exact ⟨rfl, rfl⟩
theorem drop_nil (w : World) : Calls Tryz.prog 22 #[.pointer none] w fun e w' => e = .returned (.int .i64 1) ∧ w' = w := by
  go_enter Tryz.func22, Tryz.ntmps22
  go_wp2_with fail
  go_ret
  exact ⟨rfl, rfl⟩
theorem now_nil (w : World) : Calls Tryz.prog 23 #[.pointer none] w fun e w' => e = .returned (.int .i64 0) ∧ w' = w := by
  go_enter Tryz.func23, Tryz.ntmps23
  go_wp2_with fail
  go_ret
  exact ⟨rfl, rfl⟩
theorem pass_nil (n : Int) (w : World) : Calls Tryz.prog 24 #[.pointer none, .int .i64 n] w fun e w' => e = .returned (.int .i64 0) ∧ w' = w := by
  go_enter Tryz.func24, Tryz.ntmps24
  go_wp2_with fail
  go_ret
  exact ⟨rfl, rfl⟩
theorem open_nil1 (v : Value) (n : Int) (w : World) : Calls Tryz.prog 9 #[.pointer none, v, .int .i64 n] w fun e w' => e = .returned (.tuple #[.pointer none, .int .i64 1]) ∧ w' = w := by
  go_enter Tryz.func9, Tryz.ntmps9
  go_wp2_with fail
  go_ret2
  exact ⟨rfl, rfl⟩
theorem open_nil2 (b : Addr) (n : Int) (w : World) : Calls Tryz.prog 9 #[.pointer (some b), .pointer none, .int .i64 n] w fun e w' => e = .returned (.tuple #[.pointer none, .int .i64 1]) ∧ w' = w := by
  go_enter Tryz.func9, Tryz.ntmps9
  go_wp2_with fail
  go_ret2
  exact ⟨rfl, rfl⟩
theorem info_disk : ∃ j, Tryz.prog.info? 77 = some j := by
  obtain ⟨j, hj, _⟩ := Option.map_eq_some_iff.1 size_disk
  exact ⟨j, hj⟩
theorem eql_disk_same (a : Addr) (w : World) : Sem.run Tryz.prog (binOp .eql 26 (.pointer (some a)) (.pointer (some a))) w = .ok (.bool true) w := by
  obtain ⟨j, hj⟩ := info_disk
  exact run_eql_ptr_same w a Tryz.underlying26 hj
theorem open_same (b : Addr) (n : Int) (w : World) : Calls Tryz.prog 9 #[.pointer (some b), .pointer (some b), .int .i64 n] w fun e w' => e = .returned (.tuple #[.pointer none, .int .i64 1]) ∧ w' = w := by
  have h := eql_disk_same b w
  go_enter Tryz.func9, Tryz.ntmps9
  go_wp2_with fail
  go_ret2
  exact ⟨rfl, rfl⟩
theorem open_time {base : Nat} {D D2 : DiskD} (n : Int) (w : World) (hD : DiskAt base w D) (h2 : DiskAt base w D2) (hne : D.blk ≠ D2.blk) (hn : n < 0 ∨ 1099511626776 < n) : Calls Tryz.prog 9 #[.pointer (some ⟨D.blk, 0, none⟩), .pointer (some ⟨D2.blk, 0, none⟩), .int .i64 n] w fun e w' => e = .returned (.tuple #[.pointer none, .int .i64 1]) ∧ w' = w := by
  have h := eql_disk (w := w) hne hD.head h2.head
  clear hD h2 hne
  rcases (show n < 0 ∨ (0 ≤ n ∧ 1099511626776 < n) by omega) with h1 | ⟨h1, h2⟩
  iterate 2
    · go_enter Tryz.func9, Tryz.ntmps9
      go_wp2_with fail
      go_ret2
      exact ⟨rfl, rfl⟩
def passI (now n : Int) : Int := min (now + min (max n 0) 100000) 1099511626776
theorem cpass_any (b : Nat) (o : Nat) (now n : Int) (w : World) (hc : w.cell? ⟨b, o, none⟩ = some (.int .i64 now)) (hf : w.frozen? ⟨b, o, none⟩ = false) (hn : 0 ≤ now ∧ now ≤ 1099511626776) :
    Calls Tryz.prog 59 #[.pointer (some ⟨b, o, none⟩), .int .i64 n] w fun e w' => e = .returned (.int .i64 (passI now n)) ∧ w' = w.setCell ⟨b, o, none⟩ (.int .i64 (passI now n)) := by
  have HP : Hid (passI now n = min (now + min (max n 0) 100000) 1099511626776) := rfl
  have hb : 0 ≤ min (max n 0) 100000 ∧ min (max n 0) 100000 ≤ 100000 := by omega
  generalize hm : min (max n 0) 100000 = mm at *
  have hw : IntKind.i64.wrap (now + mm) = now + mm := IntWalk.i64_in _ (by omega)
  go_enter Tryz.func59, Tryz.ntmps59
  go_wp2_with fail
  go_ret
  rw [HP.out]
  exact ⟨rfl, rfl⟩
theorem StoAt.setNow {base : Nat} {w : World} {S : StoD} (h : StoAt base w S) (v : Int) : StoAt base (w.setCell ⟨S.blk, 11, none⟩ (.int .i64 v)) { S with now := v } :=
  have hm : Mod (fun k => k = S.blk) w (w.setCell ⟨S.blk, 11, none⟩ (.int .i64 v)) := Mod.setCell (M := fun k => k = S.blk) (Mod.refl _ w) (a := ⟨S.blk, 11, none⟩) (.inl rfl) _
  ⟨heap_setCell_same w S.blk 11 _ _ (.int .i64 v) h.cells, h.tape.mod hm (fun k hk e => (h.away.1 k hk).1 e), h.pend.mod hm (fun k hk e => h.away.2 k hk e), h.low, h.away⟩
theorem pass_any {base : Nat} {S : StoD} (n : Int) (w : World) (h : StoAt base w S) (hn : 0 ≤ S.now ∧ S.now ≤ 1099511626776) :
    Calls Tryz.prog 24 #[.pointer (some ⟨S.blk, 0, none⟩), .int .i64 n] w fun e w' => e = .returned (.int .i64 (passI S.now n)) ∧ StoAt base w' { S with now := passI S.now n } ∧ Mod (fun k => k = S.blk) w w' := by
  have HC := Lib.hid (cpass_any S.blk 11 S.now n w (h.cell 11 _ rfl) (by
    have := frozen_at h.cells 11
    exact this) hn)
  have HS := Lib.hid (h.setNow (passI S.now n))
  clear h hn
  generalize passI S.now n = v at *
  generalize hb : S.blk = b at *
  go_enter Tryz.func24, Tryz.ntmps24
  go_wp2_with fail
  refine HC.out.mono ?_
  rintro e w2 ⟨rfl, rfl⟩
  go_wp2_with fail
  go_ret
  exact ⟨rfl, HS.out, Mod.setCell (M := fun k => k = b) (Mod.refl _ w) (a := ⟨b, 11, none⟩) (.inl rfl) _⟩
theorem pass_ex {base : Nat} {S : StoD} (n : Int) (w : World) (h : StoAt base w S) (hn : 0 ≤ S.now ∧ S.now ≤ 1099511626776) :
    Calls Tryz.prog 24 #[.pointer (some ⟨S.blk, 0, none⟩), .int .i64 n] w fun e w' => e = .returned (.int .i64 (passI S.now n)) ∧ ∃ S2, StoAt base w' S2 ∧ S2.T = S.T ∧ S2.blk = S.blk ∧ S2.now = passI S.now n ∧ (∀ k, S2.foot k → S.foot k) ∧ Mod (fun k => k = S.blk) w w' :=
  (pass_any n w h hn).mono fun e w' ⟨h1, h2, h3⟩ => ⟨h1, _, h2, rfl, rfl, rfl, fun _ hk => hk, h3⟩
end Go.Proofs.YtikjahfeecdfgaaGreatDoor.StoW
namespace Go.Proofs.YtikjahfeecdfgaaGreatDoor
open Go.ChangeShapes Go.WideShapes Go.ChangeAt Go.RowKit
set_option linter.unusedVariables false
set_option maxRecDepth 100000
theorem own : ownKnob Tryz.prog.godebug = none := by kernel_rfl
theorem laidOut : laidOutB Tryz.prog = true := by kernel_rfl
theorem trodAll_stays {H : Type} {enc : TypeId × Value → H} {W W' : World} (hb : Below W.heap.size W W') : ∀ (ts : List TypeId) (vs : List Value) (ds : List (DataW H)) (ps : List MemPlace),
    (∀ t ∈ ts, Tryz.prog.readableRec t = true ∧ t < Tryz.prog.types.size) → (∀ x ∈ ps, x.block < W.heap.size) →
    DataW.TrodAll enc Tryz.prog W 0 (fun _ => true) true ts vs ds ps → DataW.TrodAll enc Tryz.prog W' 0 (fun b => decide (b < W.heap.size)) true ts vs ds ps
  | [], vs, ds, ps, _, _, h => by obtain ⟨rfl, rfl, rfl⟩ := trodAll_nil h; exact trodAll_mk0
  | t :: ts, vs, ds, ps, hr, hlt, h => by
    obtain ⟨v, vs', d, ds', p, q, rfl, rfl, rfl, h1, h2⟩ := trodAll_cons h
    exact trodAll_cons_mk (Below.trod laidOut (hr t (List.mem_cons_self ..)).1 (hr t (List.mem_cons_self ..)).2 h1 hb fun x hx => hlt x (List.mem_append_left _ hx))
      (trodAll_stays hb ts vs' ds' q (fun t ht => hr t (List.mem_cons_of_mem _ ht)) (fun x hx => hlt x (List.mem_append_right _ hx)) h2)
theorem law_post {f : Func} {s : ChangeSpec} {H : Type} {enc : TypeId × Value → H} {W W' : World} {args : Array Value} {ds gs : List (DataW H)} {before : List MemPlace} {tb : TypeId}
    (hW : DataW.Whole enc Tryz.prog f.params.toList s.vars false W args.toList ds gs before)
    (hr : ∀ t ∈ f.params.toList, Tryz.prog.readableRec t = true ∧ t < Tryz.prog.types.size) (hres : f.resultTypes = #[tb]) (hbool : Tryz.prog.underlying tb = some .bool) (hv : s.vars = [])
    (hfn : (s.fn H (ds ++ gs)).results = [.lit (.bool true)] ∧ (s.fn H (ds ++ gs)).args = ds ∧ (s.fn H (ds ++ gs)).vars = []) (hb : Below W.heap.size W W') :
    s.post enc Tryz.prog f false true false false W args (.bool true) W' := by
  have hlt : ∀ x ∈ before, x.block < W.heap.size := fun x hx => by simpa using hW.lt x hx
  have hW' := hW
  obtain ⟨p, q, hA, hV, rfl, _, _⟩ := hW
  rw [hv] at hV
  obtain ⟨rfl, rfl⟩ := trodVars_none hV
  refine ⟨ds, [], p ++ [], [], p, [], hW', ?_, ?_, ?_, hb.frame _, fun h => by cases h⟩
  · rw [hfn.1, hres]
    exact trodAll_mk1 (shut_bool hbool true)
  · rw [hfn.2.1]
    exact trodAll_stays hb _ _ _ _ hr (fun x hx => hlt x (by simpa using hx)) hA
  · rw [hfn.2.2, hv]; rfl
end Go.Proofs.YtikjahfeecdfgaaGreatDoor
namespace Go.Proofs.YtikjahfeecdfgaaGreatDoor.StoW
open Go.ChangeShapes Go.WideShapes Go.ChangeAt Go.RowKit OctMath RecMath RecW
set_option linter.unusedVariables false
set_option maxRecDepth 100000
structure Ints (m : Msg) : Prop where
  kind : inI m.kind
  queue : inI m.queue
  due : inI m.due
  retry : inI m.retry
  ref : inI m.ref
  born : inI m.born
theorem ten {α : Type} (l : List α) (h : l.length = 10) : ∃ a b c d e f g h i j, l = [a, b, c, d, e, f, g, h, i, j] := by
  match l, h with
  | [a, b, c, d, e, f, g, h, i, j], _ => exact ⟨a, b, c, d, e, f, g, h, i, j, rfl⟩
section
variable {H : Type} {enc : TypeId × Value → H} {W : World}
theorem i64_in {z : Int} (h : (Lit.int .i64 z).wf = true) : -9223372036854775808 ≤ z ∧ z ≤ 9223372036854775807 := by simpa [Lit.wf, IntKind.min, IntKind.max, IntKind.signed, IntKind.bits] using h
theorem open_texts {n : Nat} {c : Value} {y : DataW H × List MemPlace} (h : DataW.trod enc Tryz.prog W 0 (fun _ => true) true n 32 [c] = some y) : ∃ a cp, ∃ ts : List (List UInt8), c = .slice a ts.length cp ∧ Strs W a (ts.map S) ∧ ts.length ≤ cp := by
  rcases open_strings Tryz.underlying32 Tryz.underlying9 (by kernel_rfl) h with ⟨hcs, _⟩ | ⟨a, len, cap, ss, hcs, _, hl, hm, hz, _, hcell, _⟩
  · obtain rfl := List.singleton_inj.1 hcs
    exact ⟨none, 0, [], rfl, fun i hi => absurd hi (by simp), Nat.le_refl _⟩
  · obtain rfl := List.singleton_inj.1 hcs
    have hz' : ss.length = cap := by rw [hz]; simp
    refine ⟨some a, cap, (ss.take len).map fun s => s.data.toList, ?_, ?_, by rw [List.length_map, List.length_take]; omega⟩
    · rw [List.length_map, List.length_take, Nat.min_eq_left (by omega)]
    · rw [List.map_map]
      have e : (S ∘ fun s : ByteArray => s.data.toList) = id := by funext s; exact S_of s
      rw [e, List.map_id]
      refine Strs.of_cells fun i hi => ?_
      have hi' : i < ss.length := by simp at hi; omega
      rw [hcell i hi']
      simp [List.getD, hi']
theorem open_msg {fuel : Nat} {cs : List Value} {y : DataW H × List MemPlace} (hc : cs.length = 10) (hf : DataW.trod enc Tryz.prog W 0 (fun _ => true) true fuel 34 cs = some y) :
    ∃ m a c, cs = (cellsM m a c).toList ∧ Strs W a (m.keys.map S) ∧ Ints m := by
  obtain ⟨c0, c1, c2, c3, c4, c5, c6, c7, c8, c9, rfl⟩ := ten cs hc
  obtain ⟨xs, n, _, _, _, hlen, hel⟩ := DataW.trod_struct Tryz.underlying34 hf
  have hlen' : xs.length = 10 := hlen
  have c1i : Tryz.prog.cellsOf 3 = 1 := by kernel_rfl
  have c1s : Tryz.prog.cellsOf 9 = 1 := by kernel_rfl
  have c1t : Tryz.prog.cellsOf 32 = 1 := by kernel_rfl
  match xs, hlen' with
  | [y0, y1, y2, y3, y4, y5, y6, y7, y8, y9], _ =>
    have k0 : DataW.trod enc Tryz.prog W 0 (fun _ => true) true n 3 [c0] = some y0 := by
      have h : DataW.trod enc Tryz.prog W 0 (fun _ => true) true n 3 (([c0, c1, c2, c3, c4, c5, c6, c7, c8, c9].drop 0).take (Tryz.prog.cellsOf 3)) = some y0 := hel 0 _ rfl
      rw [c1i] at h
      exact h
    have k1 : DataW.trod enc Tryz.prog W 0 (fun _ => true) true n 3 [c1] = some y1 := by
      have h : DataW.trod enc Tryz.prog W 0 (fun _ => true) true n 3 (([c0, c1, c2, c3, c4, c5, c6, c7, c8, c9].drop 1).take (Tryz.prog.cellsOf 3)) = some y1 := hel 1 _ rfl
      rw [c1i] at h
      exact h
    have k2 : DataW.trod enc Tryz.prog W 0 (fun _ => true) true n 3 [c2] = some y2 := by
      have h : DataW.trod enc Tryz.prog W 0 (fun _ => true) true n 3 (([c0, c1, c2, c3, c4, c5, c6, c7, c8, c9].drop 2).take (Tryz.prog.cellsOf 3)) = some y2 := hel 2 _ rfl
      rw [c1i] at h
      exact h
    have k3 : DataW.trod enc Tryz.prog W 0 (fun _ => true) true n 3 [c3] = some y3 := by
      have h : DataW.trod enc Tryz.prog W 0 (fun _ => true) true n 3 (([c0, c1, c2, c3, c4, c5, c6, c7, c8, c9].drop 3).take (Tryz.prog.cellsOf 3)) = some y3 := hel 3 _ rfl
      rw [c1i] at h
      exact h
    have k4 : DataW.trod enc Tryz.prog W 0 (fun _ => true) true n 3 [c4] = some y4 := by
      have h : DataW.trod enc Tryz.prog W 0 (fun _ => true) true n 3 (([c0, c1, c2, c3, c4, c5, c6, c7, c8, c9].drop 4).take (Tryz.prog.cellsOf 3)) = some y4 := hel 4 _ rfl
      rw [c1i] at h
      exact h
    have k5 : DataW.trod enc Tryz.prog W 0 (fun _ => true) true n 3 [c5] = some y5 := by
      have h : DataW.trod enc Tryz.prog W 0 (fun _ => true) true n 3 (([c0, c1, c2, c3, c4, c5, c6, c7, c8, c9].drop 5).take (Tryz.prog.cellsOf 3)) = some y5 := hel 5 _ rfl
      rw [c1i] at h
      exact h
    have k6 : DataW.trod enc Tryz.prog W 0 (fun _ => true) true n 9 [c6] = some y6 := by
      have h : DataW.trod enc Tryz.prog W 0 (fun _ => true) true n 9 (([c0, c1, c2, c3, c4, c5, c6, c7, c8, c9].drop 6).take (Tryz.prog.cellsOf 9)) = some y6 := hel 6 _ rfl
      rw [c1s] at h
      exact h
    have k7 : DataW.trod enc Tryz.prog W 0 (fun _ => true) true n 9 [c7] = some y7 := by
      have h : DataW.trod enc Tryz.prog W 0 (fun _ => true) true n 9 (([c0, c1, c2, c3, c4, c5, c6, c7, c8, c9].drop 7).take (Tryz.prog.cellsOf 9)) = some y7 := hel 7 _ rfl
      rw [c1s] at h
      exact h
    have k8 : DataW.trod enc Tryz.prog W 0 (fun _ => true) true n 9 [c8] = some y8 := by
      have h : DataW.trod enc Tryz.prog W 0 (fun _ => true) true n 9 (([c0, c1, c2, c3, c4, c5, c6, c7, c8, c9].drop 8).take (Tryz.prog.cellsOf 9)) = some y8 := hel 8 _ rfl
      rw [c1s] at h
      exact h
    have k9 : DataW.trod enc Tryz.prog W 0 (fun _ => true) true n 32 [c9] = some y9 := by
      have h : DataW.trod enc Tryz.prog W 0 (fun _ => true) true n 32 (([c0, c1, c2, c3, c4, c5, c6, c7, c8, c9].drop 9).take (Tryz.prog.cellsOf 32)) = some y9 := hel 9 _ rfl
      rw [c1t] at h
      exact h
    obtain ⟨z0, e0, _, w0⟩ := DataW.trod_int Tryz.underlying3 k0
    obtain rfl := List.singleton_inj.1 e0
    obtain ⟨z1, e1, _, w1⟩ := DataW.trod_int Tryz.underlying3 k1
    obtain rfl := List.singleton_inj.1 e1
    obtain ⟨z2, e2, _, w2⟩ := DataW.trod_int Tryz.underlying3 k2
    obtain rfl := List.singleton_inj.1 e2
    obtain ⟨z3, e3, _, w3⟩ := DataW.trod_int Tryz.underlying3 k3
    obtain rfl := List.singleton_inj.1 e3
    obtain ⟨z4, e4, _, w4⟩ := DataW.trod_int Tryz.underlying3 k4
    obtain rfl := List.singleton_inj.1 e4
    obtain ⟨z5, e5, _, w5⟩ := DataW.trod_int Tryz.underlying3 k5
    obtain rfl := List.singleton_inj.1 e5
    obtain ⟨z6, e6, _, _⟩ := DataW.trod_string Tryz.underlying9 k6
    obtain rfl := List.singleton_inj.1 e6
    obtain ⟨l6, rfl⟩ : ∃ l, z6 = S l := ⟨z6.data.toList, (S_of z6).symm⟩
    obtain ⟨z7, e7, _, _⟩ := DataW.trod_string Tryz.underlying9 k7
    obtain rfl := List.singleton_inj.1 e7
    obtain ⟨l7, rfl⟩ : ∃ l, z7 = S l := ⟨z7.data.toList, (S_of z7).symm⟩
    obtain ⟨z8, e8, _, _⟩ := DataW.trod_string Tryz.underlying9 k8
    obtain rfl := List.singleton_inj.1 e8
    obtain ⟨l8, rfl⟩ : ∃ l, z8 = S l := ⟨z8.data.toList, (S_of z8).symm⟩
    obtain ⟨a9, p9, t9, rfl, h9, _⟩ := open_texts k9
    exact ⟨⟨z0, z1, z2, z3, z4, z5, l6, l7, l8, t9⟩, a9, p9, rfl, h9, ⟨i64_in w0, i64_in w1, i64_in w2, i64_in w3, i64_in w4, i64_in w5⟩⟩
end
end Go.Proofs.YtikjahfeecdfgaaGreatDoor.StoW
namespace Go.Proofs.YtikjahfeecdfgaaGreatDoor.StoW
open Go.RowKit Go.MapKept OctMath RecMath RecW TapeMath DskW SegW MapG TapeW PendW CacheW CqW
set_option linter.unusedVariables false
set_option linter.unusedSimpArgs false
set_option maxRecDepth 100000
theorem ok_of_great {m : Msg} (h : Ints m) (hg : greatM m = false) : MsgOk m := by
  unfold greatM great1 at hg
  simp only [Bool.or_eq_false_iff, decide_eq_false_iff_not, List.any_eq_false, decide_eq_true_eq] at hg
  obtain ⟨⟨g1, g2, g3, g4⟩, g5⟩ := hg
  exact ⟨h.kind, h.queue, h.due, h.retry, h.ref, h.born, by omega, by omega, by omega, by omega, fun t ht => by have := g5 t ht; omega⟩
theorem put_recs {base B : Nat} {w w2 : World} {S0 S1 : StoD} {m : Msg} {sy : Bool} (h : StoAt base w S0) (h1 : StoAt base w2 S1) (hp : Put B S0 S1 m sy) :
    (S0.T.R.e + (fillOf S0.T.R.e m).length, m) ∈ S1.T.O.recs ∧ S1.T.O.recs.length = S0.T.O.recs.length + 1 ∧ S1.T.R.e = S0.T.R.e + (fillOf S0.T.R.e m).length + (recL m).length := by
  have e0 := bytes_e h.tape
  have e1 := bytes_e h1.tape
  have hr : S1.T.O.recs = S0.T.O.recs ++ [(S0.T.R.e + (fillOf S0.T.R.e m).length, m)] := by
    rw [h1.tape.recs, hp.its, hp.b, recs_app, ← e0, recs_laid, ← h.tape.recs]
  refine ⟨by rw [hr]; simp, by rw [hr]; simp, ?_⟩
  rw [e1, hp.b, hp.its, bytesL_app, bytes_laid, List.length_append, List.length_append]
  omega
structure LoopI (base : Nat) (W w : World) (sb db ob most k : Nat) (last : Int) (S0 : StoD) : Prop where
  sto : StoAt base w S0
  quiet : Quiet S0.T.D
  blk : S0.blk = sb
  dblk : S0.T.D.blk = db
  oblk : S0.T.O.blk = ob
  room : (((most - k) * 1531 : Nat) : Int) ≤ S0.T.D.room
  wl : S0.T.D.waits.length ≤ 2 * k
  e : S0.T.R.e ≤ 1531 * k
  rl : S0.T.O.recs.length ≤ k
  last : last < (S0.T.R.e : Int) ∧ -1 ≤ last
  ft : ∀ j, S0.foot j → base ≤ j
  low : Below base W w
theorem LoopI.below {base : Nat} {W w w' : World} {sb db ob most k : Nat} {last : Int} {S0 : StoD} (h : LoopI base W w sb db ob most k last S0) (hb : Below w.heap.size w w') (hs : base ≤ w.heap.size) : LoopI base W w' sb db ob most k last S0 :=
  { h with sto := h.sto.below hb, low := h.low.trans (hb.mono hs) }
theorem LoopI.skip {base : Nat} {W w : World} {sb db ob most k : Nat} {last : Int} {S0 : StoD} (h : LoopI base W w sb db ob most k last S0) : LoopI base W w sb db ob most (k + 1) last S0 :=
  { h with room := by have := h.room; omega, wl := by have := h.wl; omega, e := by have := h.e; omega, rl := by have := h.rl; omega }
theorem LoopI.next {base : Nat} {W w w2 : World} {sb db ob most k : Nat} {last : Int} {S0 S1 : StoD} {m : Msg} {sy : Bool} (h : LoopI base W w sb db ob most k last S0) (hk : k < most) (hr : rightL m = true) (h0 : m.kind ≠ 0) (hs : base ≤ w.heap.size)
    (h1 : StoAt base w2 S1) (hp : Put w.heap.size S0 S1 m sy) (hm : Mod S0.foot w w2) : LoopI base W w2 sb db ob most (k + 1) ((S0.T.R.e + (fillOf S0.T.R.e m).length : Nat) : Int) S1 := by
  obtain ⟨_, r2, r3⟩ := put_recs h.sto h1 hp
  obtain ⟨l1, l2⟩ := rec_len hr h0
  have hf := fillOf_len S0.T.R.e m (loose_e h.sto.tape)
  have hroom := room_le S0.T.R.e
  have hlen : (bytesL (laidOf S0.T.R.e m)).length = (fillOf S0.T.R.e m).length + (recL m).length := by rw [bytes_laid, List.length_append]
  have hfl : (fillOf S0.T.R.e m).length ≤ 1024 := by
    rcases hf with ⟨e, _⟩ | ⟨e, _⟩
    · rw [e]; exact Nat.zero_le _
    · omega
  refine ⟨h1, hp.quiet, by rw [hp.same]; exact h.blk, hp.dblk.trans h.dblk, hp.oblk.trans h.oblk, ?_, ?_, ?_, ?_, ?_, fun j hj => (hp.foot j hj).elim (h.ft j) fun h2 => by omega, h.low.trans (hm.to_below _ hs h.ft)⟩
  · rw [hp.room, hlen]; have := h.room; omega
  · have := hp.wl; have := h.wl; omega
  · have := h.e; omega
  · have := h.rl; omega
  · constructor <;> omega
theorem LoopI.fits {base : Nat} {W w : World} {sb db ob most k : Nat} {last : Int} {S0 : StoD} {m : Msg} (h : LoopI base W w sb db ob most k last S0) (hk : k < most) (hr : rightL m = true) (h0 : m.kind ≠ 0) : (((fillOf S0.T.R.e m).length + (recL m).length : Nat) : Int) ≤ S0.T.D.room ∧ (fillOf S0.T.R.e m).length ≤ 1024 := by
  obtain ⟨l1, l2⟩ := rec_len hr h0
  have hf := fillOf_len S0.T.R.e m (loose_e h.sto.tape)
  have hroom := room_le S0.T.R.e
  have hfl : (fillOf S0.T.R.e m).length ≤ 1024 := by
    rcases hf with ⟨e, _⟩ | ⟨e, _⟩
    · rw [e]; exact Nat.zero_le _
    · omega
  refine ⟨?_, hfl⟩
  have := h.room
  omega
theorem MsgRow.below {w w' : World} {a : Option Addr} {ms : List (Msg × Option Addr × Nat)} (h : MsgRow w a ms) (hb : Below w.heap.size w w') : MsgRow w' a ms := fun i hi => by
  obtain ⟨g, off, h1, h2, h3⟩ := h i hi
  refine ⟨g, off, h1, fun j v hv => ?_, h3.below hb⟩
  have h4 := h2 j v hv
  rw [hb.cell (cell_lt h4)]; exact h4
end Go.Proofs.YtikjahfeecdfgaaGreatDoor.StoW
namespace Go.Proofs.YtikjahfeecdfgaaGreatDoor.RecW
open Go.RowKit OctMath NameMath RecMath
set_option maxRecDepth 100000
set_option linter.unusedSimpArgs false
set_option linter.unusedVariables false
set_option maxHeartbeats 1600000 in
theorem rkey_any (l : List UInt8) (hl : l.length ≤ 1099511627776) (W : World) : Calls Tryz.prog 118 #[.string (S l)] W fun e w' => e = .returned (.bool (keyL l)) ∧ Drawn W w' := by
  have hsz := S_size l
  have HE : Hid (keyL l = (decide (l ≠ []) && decide (l.length ≤ 16) && l.all keySign)) := rfl
  go_enter Tryz.func118, Tryz.ntmps118
  go_wp2_with fail
  go_loopw [3] (fun i wr => ∃ k : Nat, k ≤ l.length ∧ i = .int .i64 (k : Int) ∧ Hid ((l.take k).all keySign = true) ∧ Hid (Drawn W wr)) (fun i _ => l.length + 1 - (intOf i).toNat)
  case atStart => exact ⟨0, by omega, rfl, rfl, Drawn.refl _⟩
  case round =>
    obtain ⟨k, hk, rfl, HA, HD⟩ := hrel
    by_cases hlt : k < l.length
    · have hi1 : k < (S l).size := by rw [hsz]; exact hlt
      have hx1 := fun w => NameW.index_at l k (k : Int) rfl hlt .i64 w
      have hstep : (l.take (k + 1)).all keySign = ((l.take k).all keySign && keySign l[k]) := by rw [List.take_succ_eq_append_getElem hlt, List.all_append, List.all_cons, List.all_nil, Bool.and_true]; rfl
      have hmem : keySign l[k] = false → l.all keySign = false := fun h => by rw [List.all_eq_false]; exact ⟨l[k], List.getElem_mem hlt, by rw [h]; simp⟩
      have hdg : keySign l[k] = (decide (33 ≤ l[k].toNat) && decide (l[k].toNat ≤ 126)) := rfl
      generalize l[k] = c at *
      have HST := Lib.hid hstep
      have HMEM := Lib.hid hmem
      have HDG := Lib.hid hdg
      have hc := c.toNat_lt
      clear hstep hmem hdg
      rcases (show (c.toNat < 33) ∨ (126 < c.toNat) ∨ (33 ≤ c.toNat ∧ c.toNat ≤ 126) by omega) with h | h | h
      · have HS : Hid (keySign c = false) := by show _ = _; rw [HDG.out]; simp; omega
        have d33 : decide ((c.toNat : Int) < 33) = true := decide_eq_true (by omega)
        have HT : Hid (keyL l = false) := by show _ = _; rw [HE.out, HMEM.out HS.out, Bool.and_false]
        clear HMEM HST HS h HDG
        go_wp2_with fail
        go_ret
        rw [HT.out]
        exact ⟨rfl, HD.out⟩
      · have HS : Hid (keySign c = false) := by show _ = _; rw [HDG.out]; simp; omega
        have d33 : decide ((c.toNat : Int) < 33) = false := decide_eq_false (by omega)
        have d126 : decide (126 < (c.toNat : Int)) = true := decide_eq_true (by omega)
        have HT : Hid (keyL l = false) := by show _ = _; rw [HE.out, HMEM.out HS.out, Bool.and_false]
        clear HMEM HST HS h HDG
        go_wp2_with fail
        go_ret
        rw [HT.out]
        exact ⟨rfl, HD.out⟩
      · have HS : Hid (keySign c = true) := by show _ = _; rw [HDG.out]; simp; omega
        have d33 : decide ((c.toNat : Int) < 33) = false := decide_eq_false (by omega)
        have d126 : decide (126 < (c.toNat : Int)) = false := decide_eq_false (by omega)
        have HT : Hid ((l.take (k + 1)).all keySign = true) := by show _ = _; rw [HST.out, HA.out, HS.out]; rfl
        clear HMEM HST HS h HDG
        go_wp2_with fail
        go_roundw
        case rel => exact ⟨k + 1, by omega, by go_num, HT, HD⟩
        case measure => simp [intOf]; omega
    · obtain rfl : k = l.length := by omega
      rw [List.take_length] at HA
      have HT : Hid (keyL l = (decide (l ≠ []) && decide (l.length ≤ 16))) := by show _ = _; rw [HE.out, HA.out, Bool.and_true]
      have h1 : decide (1 ≤ (l.length : Int)) = decide (l ≠ []) := by
        rw [decide_eq_decide]
        cases l with
        | nil => simp
        | cons _ _ => simp; omega
      have h2 : decide ((l.length : Int) ≤ 16) = decide (l.length ≤ 16) := decide_eq_decide.2 (by omega)
      clear HA HE
      generalize decide (l ≠ []) = b1 at *
      generalize decide (l.length ≤ 16) = b2 at *
      cases b1 <;>
      (go_wp2_with fail
       go_ret
       rw [HT.out]
       exact ⟨rfl, HD.out⟩)
theorem rnum_any (n : Int) (w : World) : Calls Tryz.prog 60 #[.int .i64 n] w fun e w' => e = .returned (.bool (!badNum n)) ∧ w' = w := by
  have HB : Hid ((!badNum n) = (decide (0 ≤ n) && decide (n ≤ 1099511627776))) := by
    show _ = _
    unfold badNum
    by_cases h1 : 0 ≤ n <;> by_cases h2 : n ≤ 1099511627776 <;> simp [h1, h2] <;> omega
  generalize h1 : decide (0 ≤ n) = b1 at *
  generalize h2 : decide (n ≤ 1099511627776) = b2 at *
  cases b1 <;>
  (go_enter Tryz.func60, Tryz.ntmps60
   go_wp2_with fail
   go_ret
   rw [HB.out]
   exact ⟨rfl, rfl⟩)
theorem nodup_snoc {α : Type} {xs : List α} {x : α} (h : xs.Nodup) (hx : x ∉ xs) : (xs ++ [x]).Nodup := by
  rw [List.nodup_append]
  refine ⟨h, List.nodup_cons.2 ⟨by simp, List.nodup_nil⟩, fun a ha b hb => ?_⟩
  rw [List.mem_singleton.1 hb]
  rintro rfl
  exact hx ha
theorem nodup_snoc2 {α : Type} {xs : List α} {x : α} (h : (xs ++ [x]).Nodup) : x ∉ xs := by
  rw [List.nodup_append] at h
  exact fun hx => h.2.2 x hx x (List.mem_singleton.2 rfl) rfl
theorem carries_not {m : Msg} (h : ¬ (topicL m.topic = true ∧ tagL m.tag = true ∧ 0 ≤ m.queue ∧ m.queue ≤ 2 ∧ 0 ≤ m.retry ∧ m.retry ≤ 4 ∧ m.keys.length ≤ 3 ∧ m.body.length ≤ 200 ∧ (∀ t ∈ m.keys, keyL t = true) ∧ m.keys.Nodup)) : carriesL m = false := by
  cases hc : carriesL m with
  | false => rfl
  | true =>
    unfold carriesL at hc
    simp only [Bool.and_eq_true, decide_eq_true_eq, List.all_eq_true] at hc
    obtain ⟨⟨⟨⟨⟨⟨⟨⟨⟨a1, a2⟩, a3⟩, a4⟩, a5⟩, a6⟩, a7⟩, a8⟩, a9⟩, b1⟩ := hc
    exact absurd ⟨a1, a6, a2, by omega, a4, a5, a7, b1, a8, a9⟩ h
theorem carries_yes {m : Msg} (h : topicL m.topic = true ∧ tagL m.tag = true ∧ 0 ≤ m.queue ∧ m.queue ≤ 2 ∧ 0 ≤ m.retry ∧ m.retry ≤ 4 ∧ m.keys.length ≤ 3 ∧ m.body.length ≤ 200 ∧ (∀ t ∈ m.keys, keyL t = true) ∧ m.keys.Nodup) : carriesL m = true := by
  obtain ⟨a1, a6, a2, a3, a4, a5, a7, b1, a8, a9⟩ := h
  unfold carriesL
  simp only [Bool.and_eq_true, decide_eq_true_eq, List.all_eq_true]
  exact ⟨⟨⟨⟨⟨⟨⟨⟨⟨a1, a2⟩, by omega⟩, a4⟩, a5⟩, a6⟩, a7⟩, a8⟩, a9⟩, b1⟩
set_option maxHeartbeats 6400000 in
theorem rcarries_any (m : Msg) (a : Option Addr) (c : Nat) (hm : MsgOk m) (W : World) (hS : Strs W a (m.keys.map S)) : Calls Tryz.prog 61 #[.agg (cellsM m a c)] W fun e w' => e = .returned (.bool (carriesL m)) ∧ Below W.heap.size W w' := by
  have HB0 : Hid (Below W.heap.size W (W.alloc (.cells (cellsM m a c) 34))) := (Below.refl _ W).alloc (Nat.le_refl _) _
  have HX0 : Hid (RecW.Boxed (W.alloc (.cells (cellsM m a c) 34)) W.heap.size (cellsM m a c)) := RecW.Boxed.new W _ _
  have HS0 := Lib.hid (Strs.below hS HB0.out)
  have HNO := Lib.hid (@carries_not m)
  have HYES := Lib.hid (@carries_yes m)
  have HTP := Lib.hid (fun w => NameW.rtopic_any m.topic (Nat.le_trans hm.topic (by decide)) w)
  have HTG := Lib.hid (fun w => NameW.rtag_any m.tag (Nat.le_trans hm.tag (by decide)) w)
  have HKL : Hid (∀ t ∈ m.keys, t.length ≤ 1073741824) := hm.key
  have hq := hm.queue
  have hrt := hm.retry
  unfold inI at hq hrt
  have hsz := S_size m.body
  have hkl : m.keys.length ≤ 1048576 := hm.keys
  have HTE : Hid ((m.tag.isEmpty || plainL m.tag) = tagL m.tag) := rfl
  rw [HTE.out] at HTG
  have hcu : (cellsM m a c).size = 10 := rfl
  clear hm hS HTE
  generalize hq9 : topicL m.topic = tb at *
  generalize hg9 : tagL m.tag = gb at *
  clear hq9 hg9
  go_enter Tryz.func61, Tryz.ntmps61
  go_upto_region 1 with fail
  generalize W.alloc (.cells (cellsM m a c) 34) = w1 at *
  obtain ⟨A, hA⟩ : ∃ A, W.heap.size = A := ⟨_, rfl⟩
  rw [hA] at HX0 ⊢
  have HAA := Lib.hid hA
  clear hcu hA
  have k0 : w1.cell? ⟨A, 0, none⟩ = some (.int .i64 m.kind) := HX0.out 0 _ rfl
  have k1 : w1.cell? ⟨A, 1, none⟩ = some (.int .i64 m.queue) := HX0.out 1 _ rfl
  have k2 : w1.cell? ⟨A, 2, none⟩ = some (.int .i64 m.due) := HX0.out 2 _ rfl
  have k3 : w1.cell? ⟨A, 3, none⟩ = some (.int .i64 m.retry) := HX0.out 3 _ rfl
  have k4 : w1.cell? ⟨A, 4, none⟩ = some (.int .i64 m.ref) := HX0.out 4 _ rfl
  have k5 : w1.cell? ⟨A, 5, none⟩ = some (.int .i64 m.born) := HX0.out 5 _ rfl
  have k6 : w1.cell? ⟨A, 6, none⟩ = some (.string (S m.topic)) := HX0.out 6 _ rfl
  have k7 : w1.cell? ⟨A, 7, none⟩ = some (.string (S m.tag)) := HX0.out 7 _ rfl
  have k8 : w1.cell? ⟨A, 8, none⟩ = some (.string (S m.body)) := HX0.out 8 _ rfl
  have k9 : w1.cell? ⟨A, 9, none⟩ = some (.slice a m.keys.length c) := HX0.out 9 _ rfl
  have HF : Hid (∀ b : Bool, (b = false → carriesL m = false) → True) := fun _ _ => trivial
  clear HF
  cases tb with
  | false =>
    have HT : Hid (carriesL m = false) := HNO.out (fun h => absurd h.1 (by simp))
    clear HNO HYES
    go_wp2_with (go_at_call 116; refine (HTP.out _).mono ?_; rintro e w2 ⟨rfl, hd2⟩)
    go_ret
    rw [HT.out]
    exact ⟨rfl, HB0.out.trans ((hd2.below _).mono HB0.out.size)⟩
  | true =>
  go_wp2_with fail
  refine (HTP.out _).mono ?_
  rintro e w2 ⟨rfl, hd2⟩
  have j0 : w2.cell? ⟨A, 0, none⟩ = some (.int .i64 m.kind) := (hd2.cell _).trans k0
  have j1 : w2.cell? ⟨A, 1, none⟩ = some (.int .i64 m.queue) := (hd2.cell _).trans k1
  have j2 : w2.cell? ⟨A, 2, none⟩ = some (.int .i64 m.due) := (hd2.cell _).trans k2
  have j3 : w2.cell? ⟨A, 3, none⟩ = some (.int .i64 m.retry) := (hd2.cell _).trans k3
  have j4 : w2.cell? ⟨A, 4, none⟩ = some (.int .i64 m.ref) := (hd2.cell _).trans k4
  have j5 : w2.cell? ⟨A, 5, none⟩ = some (.int .i64 m.born) := (hd2.cell _).trans k5
  have j6 : w2.cell? ⟨A, 6, none⟩ = some (.string (S m.topic)) := (hd2.cell _).trans k6
  have j7 : w2.cell? ⟨A, 7, none⟩ = some (.string (S m.tag)) := (hd2.cell _).trans k7
  have j8 : w2.cell? ⟨A, 8, none⟩ = some (.string (S m.body)) := (hd2.cell _).trans k8
  have j9 : w2.cell? ⟨A, 9, none⟩ = some (.slice a m.keys.length c) := (hd2.cell _).trans k9
  have HB2 : Hid (Below W.heap.size W w2) := HB0.out.trans ((hd2.below _).mono HB0.out.size)
  have HS2 := Lib.hid (Strs.below HS0.out (hd2.below _))
  clear hd2 k0 k1 k2 k3 k4 k5 k6 k7 k8 k9 HTP HX0 HB0 HS0
  cases gb with
  | false =>
    have HT : Hid (carriesL m = false) := HNO.out (fun h => absurd h.2.1 (by simp))
    clear HNO HYES
    go_wp2_with fail
    refine (HTG.out _).mono ?_
    rintro e w3 ⟨rfl, hd3⟩
    go_wp2_with fail
    go_ret
    rw [HT.out]
    exact ⟨rfl, HB2.out.trans ((hd3.below _).mono HB2.out.size)⟩
  | true =>
  go_wp2_with fail
  refine (HTG.out _).mono ?_
  rintro e w3 ⟨rfl, hd3⟩
  have k0 : w3.cell? ⟨A, 0, none⟩ = some (.int .i64 m.kind) := (hd3.cell _).trans j0
  have k1 : w3.cell? ⟨A, 1, none⟩ = some (.int .i64 m.queue) := (hd3.cell _).trans j1
  have k2 : w3.cell? ⟨A, 2, none⟩ = some (.int .i64 m.due) := (hd3.cell _).trans j2
  have k3 : w3.cell? ⟨A, 3, none⟩ = some (.int .i64 m.retry) := (hd3.cell _).trans j3
  have k4 : w3.cell? ⟨A, 4, none⟩ = some (.int .i64 m.ref) := (hd3.cell _).trans j4
  have k5 : w3.cell? ⟨A, 5, none⟩ = some (.int .i64 m.born) := (hd3.cell _).trans j5
  have k6 : w3.cell? ⟨A, 6, none⟩ = some (.string (S m.topic)) := (hd3.cell _).trans j6
  have k7 : w3.cell? ⟨A, 7, none⟩ = some (.string (S m.tag)) := (hd3.cell _).trans j7
  have k8 : w3.cell? ⟨A, 8, none⟩ = some (.string (S m.body)) := (hd3.cell _).trans j8
  have k9 : w3.cell? ⟨A, 9, none⟩ = some (.slice a m.keys.length c) := (hd3.cell _).trans j9
  have HB3 : Hid (Below W.heap.size W w3) := HB2.out.trans ((hd3.below _).mono HB2.out.size)
  have HS3 := Lib.hid (Strs.below HS2.out (hd3.below _))
  clear hd3 j0 j1 j2 j3 j4 j5 j6 j7 j8 j9 HTG HB2 HS2
  rcases (show m.queue < 0 ∨ 0 ≤ m.queue by omega) with hx | hx
  · have HT : Hid (carriesL m = false) := HNO.out (fun h => by have := h.2.2.1; omega)
    clear HNO HYES
    go_wp2_with fail
    go_ret
    rw [HT.out]
    exact ⟨rfl, HB3.out⟩
  have hy221 := hx
  clear hx
  rcases (show 2 < m.queue ∨ m.queue ≤ 2 by omega) with hx | hx
  · have HT : Hid (carriesL m = false) := HNO.out (fun h => by have := h.2.2.2.1; omega)
    clear HNO HYES
    go_wp2_with fail
    go_ret
    rw [HT.out]
    exact ⟨rfl, HB3.out⟩
  have hy2221 := hx
  clear hx
  rcases (show m.retry < 0 ∨ 0 ≤ m.retry by omega) with hx | hx
  · have HT : Hid (carriesL m = false) := HNO.out (fun h => by have := h.2.2.2.2.1; omega)
    clear HNO HYES
    go_wp2_with fail
    go_ret
    rw [HT.out]
    exact ⟨rfl, HB3.out⟩
  have hy22221 := hx
  clear hx
  rcases (show 4 < m.retry ∨ m.retry ≤ 4 by omega) with hx | hx
  · have HT : Hid (carriesL m = false) := HNO.out (fun h => by have := h.2.2.2.2.2.1; omega)
    clear HNO HYES
    go_wp2_with fail
    go_ret
    rw [HT.out]
    exact ⟨rfl, HB3.out⟩
  have hy222221 := hx
  clear hx
  rcases (show (3 : Int) < (m.keys.length : Int) ∨ (m.keys.length : Int) ≤ 3 by omega) with hx | hx
  · have HT : Hid (carriesL m = false) := HNO.out (fun h => by have := h.2.2.2.2.2.2.1; omega)
    clear HNO HYES
    go_wp2_with fail
    go_ret
    rw [HT.out]
    exact ⟨rfl, HB3.out⟩
  have hy2222221 := hx
  clear hx
  rcases (show (200 : Int) < ((S m.body).size : Int) ∨ ((S m.body).size : Int) ≤ 200 by omega) with hx | hx
  · have HT : Hid (carriesL m = false) := HNO.out (fun h => by have := h.2.2.2.2.2.2.2.1; omega)
    clear HNO HYES
    go_wp2_with fail
    go_ret
    rw [HT.out]
    exact ⟨rfl, HB3.out⟩
  have hy22222221 := hx
  clear hx
  have HN1 : Hid (¬ (∀ t ∈ m.keys, keyL t = true) → carriesL m = false) := fun hh => HNO.out (fun h => hh h.2.2.2.2.2.2.2.2.1)
  have HN2 : Hid (¬ m.keys.Nodup → carriesL m = false) := fun hh => HNO.out (fun h => hh h.2.2.2.2.2.2.2.2.2)
  have HY1 : Hid ((∀ t ∈ m.keys, keyL t = true) → m.keys.Nodup → carriesL m = true) := fun a1 a2 => HYES.out ⟨trivial, trivial, by omega, by omega, by omega, by omega, by omega, by omega, a1, a2⟩
  clear HNO HYES
  go_wp2_with fail
  go_loopw [3] (fun i wr => ∃ k : Nat, k ≤ m.keys.length ∧ i = .int .i64 (k : Int) ∧ Hid (∀ t ∈ m.keys.take k, keyL t = true) ∧ Hid ((m.keys.take k).Nodup) ∧ Hid (Drawn w3 wr)) (fun i _ => m.keys.length + 1 - (intOf i).toNat)
  case atStart => exact ⟨0, by omega, rfl, (fun t ht => by simp at ht), (by simp [Hid]), Drawn.refl _⟩
  case round =>
    obtain ⟨k, hk, rfl, HP, HN, HD⟩ := hrel
    have c9 : wr.cell? ⟨A, 9, none⟩ = some (.slice a m.keys.length c) := (HD.out.cell _).trans k9
    by_cases hlt : k < m.keys.length
    · obtain ⟨b, off, rfl, hcell⟩ := HS3.out k (by rw [List.length_map]; exact hlt)
      rw [← HD.out.cell, List.getElem_map] at hcell
      have hst : m.keys.take (k + 1) = m.keys.take k ++ [m.keys[k]] := List.take_succ_eq_append_getElem hlt
      have hlk := HKL.out m.keys[k] (List.getElem_mem hlt)
      have HMEM : Hid (keyL m.keys[k] = false → carriesL m = false) := fun h => HN1.out (fun hh => by rw [hh _ (List.getElem_mem hlt)] at h; cases h)
      have HND : Hid (m.keys[k] ∈ m.keys.take k → carriesL m = false) := fun h => HN2.out (fun hh => by
        have := hh.sublist (List.take_sublist (k + 1) m.keys)
        rw [hst] at this
        exact nodup_snoc2 this h)
      have HST := Lib.hid hst
      clear hst
      generalize m.keys[k] = x at *
      have HPC := Lib.hid (fun w => rkey_any x (by omega) w)
      go_wp2_with fail
      refine (HPC.out _).mono ?_
      rintro e w5 ⟨rfl, hd⟩
      have HD2 := Lib.hid (HD.out.trans hd)
      have HBD : Hid (Below W.heap.size W w5) := HB3.out.trans ((HD2.out.below _).mono HB3.out.size)
      have c92 : w5.cell? ⟨A, 9, none⟩ = some (.slice (some ⟨b, off, none⟩) m.keys.length c) := (hd.cell _).trans c9
      have hcell2 : w5.cell? ⟨b, off + k, none⟩ = some (.string (S x)) := (hd.cell _).trans hcell
      clear hd HPC hcell c9
      cases hpl : keyL x with
      | false =>
        have HT := Lib.hid (HMEM.out hpl)
        clear hpl HMEM HND
        go_wp2_with fail
        go_ret
        rw [HT.out]
        exact ⟨rfl, HBD.out⟩
      | true =>
      have HPL := Lib.hid hpl
      clear hpl HMEM
      go_wp2_with fail
      go_loopw [4] (fun i wr => ∃ j : Nat, j ≤ k ∧ i = .int .i64 (j : Int) ∧ Hid (x ∉ m.keys.take j) ∧ Hid (Drawn w5 wr)) (fun i _ => k + 1 - (intOf i).toNat)
      case atStart => exact ⟨0, by omega, rfl, (by simp [Hid]), Drawn.refl _⟩
      case round =>
        obtain ⟨j, hj, rfl, HX, HDJ⟩ := hrel
        by_cases hltj : j < k
        · have hjl : j < m.keys.length := by omega
          obtain ⟨b', off', hbo, hcj⟩ := HS3.out j (by rw [List.length_map]; exact hjl)
          cases hbo
          have hcj2 : wr.cell? ⟨b, off + j, none⟩ = some (.string (S m.keys[j])) := by rw [(HD2.out.trans HDJ.out).cell, hcj, List.getElem_map]
          have hck2 : wr.cell? ⟨b, off + k, none⟩ = some (.string (S x)) := (HDJ.out.cell _).trans hcell2
          have c93 : wr.cell? ⟨A, 9, none⟩ = some (.slice (some ⟨b, off, none⟩) m.keys.length c) := (HDJ.out.cell _).trans c92
          have hstj : m.keys.take (j + 1) = m.keys.take j ++ [m.keys[j]] := List.take_succ_eq_append_getElem hjl
          have hin : m.keys[j] ∈ m.keys.take k := by
            rw [List.mem_iff_getElem]
            exact ⟨j, by rw [List.length_take]; omega, List.getElem_take⟩
          clear hcj
          generalize m.keys[j] = y at *
          by_cases hyx : y = x
          · subst hyx
            have HT := Lib.hid (HND.out hin)
            clear hstj hin
            go_wp2_with fail
            go_quiet (fail)
            go_wp2_with fail
            go_ret
            rw [HT.out]
            exact ⟨rfl, HBD.out.trans ((((HDJ.out).drewN _).below _).mono HBD.out.size)⟩
          · have hyb : (y == x) = false := by simp [hyx]
            have HX2 : Hid (x ∉ m.keys.take (j + 1)) := fun h => by
              rw [hstj] at h
              rcases List.mem_append.1 h with h | h
              · exact HX.out h
              · exact hyx (List.mem_singleton.1 h).symm
            clear hstj hin HX hyx
            have hbb : ((S y).toList == (S x).toList) = false := by rw [NameW.S_toList, NameW.S_toList]; exact hyb
            go_wp2_with fail
            go_quiet (fail)
            go_wp2_with fail
            go_roundw
            case rel => exact ⟨j + 1, by omega, by go_num, HX2, HDJ.out.drewN _⟩
            case measure => simp [intOf]; omega
        · obtain rfl : j = k := by omega
          have HP2 : Hid (∀ t ∈ m.keys.take (j + 1), keyL t = true) := fun t ht => by
            rw [HST.out] at ht
            rcases List.mem_append.1 ht with ht | ht
            · exact HP.out t ht
            · rw [List.mem_singleton.1 ht]; exact HPL.out
          have HN3 : Hid ((m.keys.take (j + 1)).Nodup) := by show List.Nodup _; rw [HST.out]; exact nodup_snoc HN.out HX.out
          clear HP HN HST HX HPL HND
          go_wp2_with fail
          go_roundw
          case rel => exact ⟨j + 1, by omega, by go_num, HP2, HN3, HD2.out.trans HDJ.out⟩
          case measure => simp [intOf]; omega
    · obtain rfl : k = m.keys.length := by omega
      rw [List.take_length] at HP HN
      have HT : Hid (carriesL m = true) := HY1.out HP.out HN.out
      clear HP HN
      go_wp2_with fail
      go_ret
      rw [HT.out]
      exact ⟨rfl, HB3.out.trans ((HD.out.below _).mono HB3.out.size)⟩
end Go.Proofs.YtikjahfeecdfgaaGreatDoor.RecW
namespace Go.Proofs.YtikjahfeecdfgaaGreatDoor.RecW
open Go.RowKit OctMath NameMath RecMath
set_option maxRecDepth 100000
set_option linter.unusedSimpArgs false
set_option linter.unusedVariables false
theorem right_bad {m : Msg} (h : badNum m.due = true ∨ badNum m.ref = true ∨ badNum m.born = true) : rightL m = false := by
  unfold rightL
  rw [if_pos]
  rcases h with h | h | h <;> simp [h]
theorem right_1 {m : Msg} (h : badNum m.due = false ∧ badNum m.ref = false ∧ badNum m.born = false) (k : m.kind = 1) : rightL m = (carriesL m && decide (m.due = 0) && decide (m.ref = 0)) := by
  unfold rightL
  rw [if_neg (by simp [h]), if_pos k]
theorem right_23 {m : Msg} (h : badNum m.due = false ∧ badNum m.ref = false ∧ badNum m.born = false) (k : m.kind = 2 ∨ m.kind = 3) : rightL m = carriesL m := by
  unfold rightL
  rw [if_neg (by simp [h]), if_neg (by omega), if_pos k]
theorem right_4 {m : Msg} (h : badNum m.due = false ∧ badNum m.ref = false ∧ badNum m.born = false) (k : m.kind = 4) : rightL m = decide (m = { noMsg with kind := 4, ref := m.ref, born := m.born }) := by
  unfold rightL
  rw [if_neg (by simp [h]), if_neg (by omega), if_neg (by omega), if_pos k]
theorem right_0 {m : Msg} (h : badNum m.due = false ∧ badNum m.ref = false ∧ badNum m.born = false) (k : m.kind = 0) : rightL m = (decide (m.body.length ≤ 1024) && decide (m.body = noughts m.body.length) && decide (m = { noMsg with body := m.body })) := by
  unfold rightL
  rw [if_neg (by simp [h]), if_neg (by omega), if_neg (by omega), if_neg (by omega), if_pos k]
theorem right_else {m : Msg} (k : m.kind ≠ 1 ∧ m.kind ≠ 2 ∧ m.kind ≠ 3 ∧ m.kind ≠ 4 ∧ m.kind ≠ 0) : rightL m = false := by
  unfold rightL
  split
  · rfl
  · rw [if_neg k.1, if_neg (by omega), if_neg k.2.2.2.1, if_neg k.2.2.2.2]
def plain6 (m : Msg) : Prop := m.queue = 0 ∧ m.retry = 0 ∧ m.due = 0 ∧ m.topic = [] ∧ m.tag = [] ∧ m.keys = []
theorem right_some {m : Msg} (h : badNum m.due = false ∧ badNum m.ref = false ∧ badNum m.born = false) (k : m.kind ≠ 1 ∧ m.kind ≠ 2 ∧ m.kind ≠ 3) (hp : ¬ plain6 m) : rightL m = false := by
  by_cases h4 : m.kind = 4
  · rw [right_4 h h4]
    refine decide_eq_false fun e => hp ?_
    rw [e]; exact ⟨rfl, rfl, rfl, rfl, rfl, rfl⟩
  · by_cases h0 : m.kind = 0
    · rw [right_0 h h0, Bool.and_eq_false_iff]
      right
      refine decide_eq_false fun e => hp ?_
      rw [e]; exact ⟨rfl, rfl, rfl, rfl, rfl, rfl⟩
    · exact right_else ⟨k.1, k.2.1, k.2.2, h4, h0⟩
theorem right_c {m : Msg} (h : badNum m.due = false ∧ badNum m.ref = false ∧ badNum m.born = false) (k : m.kind = 4) (hp : plain6 m) : rightL m = m.body.isEmpty := by
  rw [right_4 h k]
  obtain ⟨kd, q, d, r, rf, b, t, g, bo, ks⟩ := m
  obtain ⟨h1, h2, h3, h4, h5, h6⟩ := hp
  simp only at k h1 h2 h3 h4 h5 h6
  subst k h1 h2 h3 h4 h5 h6
  cases bo <;> simp [noMsg]
theorem right_nz {m : Msg} (h : badNum m.due = false ∧ badNum m.ref = false ∧ badNum m.born = false) (k : m.kind ≠ 1 ∧ m.kind ≠ 2 ∧ m.kind ≠ 3 ∧ m.kind ≠ 4) (hb : ∃ c ∈ m.body, c ≠ 0) : rightL m = false := by
  by_cases h0 : m.kind = 0
  · rw [right_0 h h0, Bool.and_eq_false_iff]
    left
    rw [Bool.and_eq_false_iff]
    right
    obtain ⟨c, hc, hz⟩ := hb
    refine decide_eq_false fun e => hz ?_
    rw [e] at hc
    exact (List.mem_replicate.1 hc).2
  · exact right_else ⟨k.1, k.2.1, k.2.2.1, k.2.2.2, h0⟩
theorem right_f {m : Msg} (h : badNum m.due = false ∧ badNum m.ref = false ∧ badNum m.born = false) (k : m.kind ≠ 1 ∧ m.kind ≠ 2 ∧ m.kind ≠ 3 ∧ m.kind ≠ 4) (hp : plain6 m) (hb : ∀ c ∈ m.body, c = 0) : rightL m = (decide (m.kind = 0) && (decide (m.ref = 0) && (decide (m.born = 0) && decide (m.body.length ≤ 1024)))) := by
  by_cases h0 : m.kind = 0
  · rw [right_0 h h0]
    have hn : m.body = noughts m.body.length := List.eq_replicate_of_mem hb
    rw [decide_eq_true hn, Bool.and_true, decide_eq_true h0, Bool.true_and]
    have he : decide (m = { noMsg with body := m.body }) = (decide (m.ref = 0) && decide (m.born = 0)) := by
      obtain ⟨kd, q, d, r, rf, b, t, g, bo, ks⟩ := m
      obtain ⟨h1, h2, h3, h4, h5, h6⟩ := hp
      simp only at h0 h1 h2 h3 h4 h5 h6
      subst h0 h1 h2 h3 h4 h5 h6
      simp [noMsg]
    rw [he, Bool.and_comm, Bool.and_assoc]
  · rw [right_else ⟨k.1, k.2.1, k.2.2.1, k.2.2.2, h0⟩, decide_eq_false h0, Bool.false_and]
set_option maxHeartbeats 12800000 in
theorem rright_any (m : Msg) (a : Option Addr) (c : Nat) (hm : MsgOk m) (W : World) (hS : Strs W a (m.keys.map S)) : Calls Tryz.prog 25 #[.agg (cellsM m a c)] W fun e w' => e = .returned (.bool (rightL m)) ∧ Below W.heap.size W w' := by
  have HB0 : Hid (Below W.heap.size W (W.alloc (.cells (cellsM m a c) 34))) := (Below.refl _ W).alloc (Nat.le_refl _) _
  have HX0 : Hid (RecW.Boxed (W.alloc (.cells (cellsM m a c) 34)) W.heap.size (cellsM m a c)) := RecW.Boxed.new W _ _
  have HCA := Lib.hid (rcarries_any m a c hm _ (Strs.below hS HB0.out))
  have HD := Lib.hid (rnum_any m.due)
  have HR := Lib.hid (rnum_any m.ref)
  have HBo := Lib.hid (rnum_any m.born)
  have HRB := Lib.hid (@right_bad m)
  have HR1 := Lib.hid (@right_1 m)
  have HR23 := Lib.hid (@right_23 m)
  have HRC := Lib.hid (@right_c m)
  have HRS := Lib.hid (@right_some m)
  have HNZ := Lib.hid (@right_nz m)
  have HRF := Lib.hid (@right_f m)
  have htl := NameW.S_toList
  have hsz := S_size m.body
  have hbl := hm.body
  have hcu : (cellsM m a c).size = 10 := rfl
  clear hm hS
  generalize hd9 : badNum m.due = bd at *
  generalize hr9 : badNum m.ref = br at *
  generalize hb9 : badNum m.born = bb at *
  clear hd9 hr9 hb9
  go_enter Tryz.func25, Tryz.ntmps25
  go_upto_region 1 with fail
  generalize W.alloc (.cells (cellsM m a c) 34) = w1 at *
  obtain ⟨A, hA⟩ : ∃ A, W.heap.size = A := ⟨_, rfl⟩
  rw [hA] at HX0 ⊢
  have HAA := Lib.hid hA
  rw [show cellsM m a c = #[.int .i64 m.kind, .int .i64 m.queue, .int .i64 m.due, .int .i64 m.retry, .int .i64 m.ref, .int .i64 m.born, .string (S m.topic), .string (S m.tag), .string (S m.body), .slice a m.keys.length c] from rfl] at HCA
  clear hcu hA
  have k0 : w1.cell? ⟨A, 0, none⟩ = some (.int .i64 m.kind) := HX0.out 0 _ rfl
  have k1 : w1.cell? ⟨A, 1, none⟩ = some (.int .i64 m.queue) := HX0.out 1 _ rfl
  have k2 : w1.cell? ⟨A, 2, none⟩ = some (.int .i64 m.due) := HX0.out 2 _ rfl
  have k3 : w1.cell? ⟨A, 3, none⟩ = some (.int .i64 m.retry) := HX0.out 3 _ rfl
  have k4 : w1.cell? ⟨A, 4, none⟩ = some (.int .i64 m.ref) := HX0.out 4 _ rfl
  have k5 : w1.cell? ⟨A, 5, none⟩ = some (.int .i64 m.born) := HX0.out 5 _ rfl
  have k6 : w1.cell? ⟨A, 6, none⟩ = some (.string (S m.topic)) := HX0.out 6 _ rfl
  have k7 : w1.cell? ⟨A, 7, none⟩ = some (.string (S m.tag)) := HX0.out 7 _ rfl
  have k8 : w1.cell? ⟨A, 8, none⟩ = some (.string (S m.body)) := HX0.out 8 _ rfl
  have k9 : w1.cell? ⟨A, 9, none⟩ = some (.slice a m.keys.length c) := HX0.out 9 _ rfl
  clear HX0
  go_wp2_with fail
  refine (HD.out _).mono ?_
  rintro e w ⟨rfl, he⟩
  obtain rfl := he.symm
  cases bd with
  | true =>
    have HT : Hid (rightL m = false) := HRB.out (.inl rfl)
    clear HRB HR1 HR23 HRC HRS HNZ HRF
    go_wp2_with fail
    go_ret
    rw [HT.out]
    exact ⟨rfl, HB0.out⟩
  | false =>
  go_wp2_with fail
  refine (HR.out _).mono ?_
  rintro e w ⟨rfl, he⟩
  obtain rfl := he.symm
  cases br with
  | true =>
    have HT : Hid (rightL m = false) := HRB.out (.inr (.inl rfl))
    clear HRB HR1 HR23 HRC HRS HNZ HRF
    go_wp2_with fail
    go_ret
    rw [HT.out]
    exact ⟨rfl, HB0.out⟩
  | false =>
  go_wp2_with fail
  refine (HBo.out _).mono ?_
  rintro e w ⟨rfl, he⟩
  obtain rfl := he.symm
  cases bb with
  | true =>
    have HT : Hid (rightL m = false) := HRB.out (.inr (.inr rfl))
    clear HRB HR1 HR23 HRC HRS HNZ HRF
    go_wp2_with fail
    go_ret
    rw [HT.out]
    exact ⟨rfl, HB0.out⟩
  | false =>
  clear HD HR HBo HRB
  by_cases h1 : m.kind = 1
  · have HT := Lib.hid (HR1.out (by simp) h1)
    rw [h1] at k0 HCA
    clear HR1 HR23 HRC HRS HNZ HRF
    generalize carriesL m = cb at *
    generalize hdd : decide (m.due = 0) = dd at *
    generalize hrr : decide (m.ref = 0) = rr at *
    have hdb : (m.due == 0) = dd := by rw [← hdd]; rfl
    have hrb : (m.ref == 0) = rr := by rw [← hrr]; rfl
    clear hdd hrr
    go_wp2_with fail
    refine HCA.out.mono ?_
    rintro e w2 ⟨rfl, hb2⟩
    have j2 : w2.cell? ⟨A, 2, none⟩ = some (.int .i64 m.due) := (hb2.cell (cell_lt k2)).trans k2
    have j4 : w2.cell? ⟨A, 4, none⟩ = some (.int .i64 m.ref) := (hb2.cell (cell_lt k4)).trans k4
    have HB2 : Hid (Below W.heap.size W w2) := HB0.out.trans (hb2.mono HB0.out.size)
    clear hb2 k0 k1 k2 k3 k4 k5 k6 k7 k8 k9 HCA HB0
    cases cb <;> cases dd <;>
    (go_wp2_with fail
     go_ret
     rw [HT.out]
     exact ⟨rfl, HB2.out⟩)
  by_cases h23 : m.kind = 2 ∨ m.kind = 3
  · have HT := Lib.hid (HR23.out (by simp) h23)
    clear HR1 HR23 HRC HRS HNZ HRF
    generalize carriesL m = cb at *
    rcases h23 with h23 | h23 <;>
    (rw [h23] at k0 HCA
     go_wp2_with fail
     refine HCA.out.mono ?_
     rintro e w2 ⟨rfl, hb2⟩
     go_wp2_with fail
     go_ret
     rw [HT.out]
     exact ⟨rfl, HB0.out.trans (hb2.mono HB0.out.size)⟩)
  have n2 : ¬ m.kind = 2 := fun h => h23 (.inl h)
  have n3 : ¬ m.kind = 3 := fun h => h23 (.inr h)
  have q1 : (m.kind == 1) = false := beq_eq_false_iff_ne.2 h1
  have q2 : (m.kind == 2) = false := beq_eq_false_iff_ne.2 n2
  have q3 : (m.kind == 3) = false := beq_eq_false_iff_ne.2 n3
  have HNS : Hid (¬ plain6 m → rightL m = false) := HRS.out (by simp) ⟨h1, n2, n3⟩
  clear HR1 HR23 HRS HCA h23
  by_cases g0 : m.queue = 0
  case neg =>
    have gb : (m.queue != 0) = true := bne_iff_ne.2 g0
    have HT : Hid (rightL m = false) := HNS.out (fun h => g0 h.1)
    clear HNS HRC HNZ HRF
    go_wp2_with fail
    go_ret
    rw [HT.out]
    exact ⟨rfl, HB0.out⟩
  have HG0 := Lib.hid g0
  rw [g0] at k1
  clear g0
  by_cases g1 : m.retry = 0
  case neg =>
    have gb : (m.retry != 0) = true := bne_iff_ne.2 g1
    have HT : Hid (rightL m = false) := HNS.out (fun h => g1 h.2.1)
    clear HNS HRC HNZ HRF
    go_wp2_with fail
    go_ret
    rw [HT.out]
    exact ⟨rfl, HB0.out⟩
  have HG1 := Lib.hid g1
  rw [g1] at k3
  clear g1
  by_cases g2 : m.due = 0
  case neg =>
    have gb : (m.due != 0) = true := bne_iff_ne.2 g2
    have HT : Hid (rightL m = false) := HNS.out (fun h => g2 h.2.2.1)
    clear HNS HRC HNZ HRF
    go_wp2_with fail
    go_ret
    rw [HT.out]
    exact ⟨rfl, HB0.out⟩
  have HG2 := Lib.hid g2
  rw [g2] at k2
  clear g2
  by_cases g3 : m.topic = []
  case neg =>
    have ge : (m.topic == ([] : List UInt8)) = false := by cases hh : m.topic with | nil => exact absurd hh g3 | cons _ _ => rfl
    have gb : (m.topic != ([] : List UInt8)) = true := by rw [bne, ge]; rfl
    have HT : Hid (rightL m = false) := HNS.out (fun h => g3 h.2.2.2.1)
    clear HNS HRC HNZ HRF
    go_wp2_with fail
    go_ret
    rw [HT.out]
    exact ⟨rfl, HB0.out⟩
  have HG3 := Lib.hid g3
  rw [g3] at k6
  clear g3
  by_cases g4 : m.tag = []
  case neg =>
    have ge : (m.tag == ([] : List UInt8)) = false := by cases hh : m.tag with | nil => exact absurd hh g4 | cons _ _ => rfl
    have gb : (m.tag != ([] : List UInt8)) = true := by rw [bne, ge]; rfl
    have HT : Hid (rightL m = false) := HNS.out (fun h => g4 h.2.2.2.2.1)
    clear HNS HRC HNZ HRF
    go_wp2_with fail
    go_ret
    rw [HT.out]
    exact ⟨rfl, HB0.out⟩
  have HG4 := Lib.hid g4
  rw [g4] at k7
  clear g4
  by_cases g5 : m.keys = []
  case neg =>
    have gl : ((m.keys.length : Nat) : Int) ≠ 0 := by have := List.length_pos_iff.2 g5; omega
    have gb : (((m.keys.length : Nat) : Int) != 0) = true := bne_iff_ne.2 gl
    have HT : Hid (rightL m = false) := HNS.out (fun h => g5 h.2.2.2.2.2)
    clear HNS HRC HNZ HRF
    go_wp2_with fail
    go_ret
    rw [HT.out]
    exact ⟨rfl, HB0.out⟩
  have HG5 := Lib.hid g5
  rw [show m.keys.length = 0 by rw [g5]; rfl] at k9
  clear g5
  have HPL : Hid (plain6 m) := ⟨HG0.out, HG1.out, HG2.out, HG3.out, HG4.out, HG5.out⟩
  clear HNS
  by_cases h4 : m.kind = 4
  · have HT := Lib.hid (HRC.out (by simp) h4 HPL.out)
    have q4 : (m.kind == 4) = true := by rw [h4]; rfl
    clear HRC HNZ HRF
    cases hbd : m.body with
    | nil =>
      rw [hbd] at k8 HT
      go_wp2_with fail
      go_ret
      rw [HT.out]
      exact ⟨rfl, HB0.out⟩
    | cons x l =>
      rw [hbd] at k8 HT
      have htx : (S (x :: l)).toList = x :: l := htl _
      go_wp2_with fail
      go_ret
      rw [HT.out]
      exact ⟨rfl, HB0.out⟩
  have q4 : (m.kind == 4) = false := beq_eq_false_iff_ne.2 h4
  have HNZ2 : Hid ((∃ c ∈ m.body, c ≠ 0) → rightL m = false) := HNZ.out (by simp) ⟨h1, n2, n3, h4⟩
  have HRF2 : Hid ((∀ c ∈ m.body, c = 0) → rightL m = (decide (m.kind = 0) && (decide (m.ref = 0) && (decide (m.born = 0) && decide (m.body.length ≤ 1024))))) := HRF.out (by simp) ⟨h1, n2, n3, h4⟩ HPL.out
  clear HRC HNZ HRF HPL
  go_wp2_with fail
  go_loopw [3] (fun i wr => ∃ k : Nat, k ≤ m.body.length ∧ i = .int .i64 (k : Int) ∧ Hid (∀ x ∈ m.body.take k, x = 0) ∧ wr = w1) (fun i _ => m.body.length + 1 - (intOf i).toNat)
  case atStart => exact ⟨0, by omega, rfl, (fun t ht => by simp at ht), rfl⟩
  case round =>
    obtain ⟨k, hk, rfl, HZ, rfl⟩ := hrel
    by_cases hlt : k < m.body.length
    · have hi1 : k < (S m.body).size := by rw [hsz]; exact hlt
      have hx1 := fun w => NameW.index_at m.body k (k : Int) rfl hlt .i64 w
      have HST : Hid (m.body.take (k + 1) = m.body.take k ++ [m.body[k]]) := List.take_succ_eq_append_getElem hlt
      have HIN : Hid (m.body[k] ∈ m.body) := List.getElem_mem hlt
      generalize m.body[k] = x at *
      have hc := x.toNat_lt
      by_cases hx0 : x = 0
      · have hxn : (x.toNat : Int) = 0 := by rw [hx0]; rfl
        have HZ2 : Hid (∀ t ∈ m.body.take (k + 1), t = 0) := fun t ht => by
          rw [HST.out] at ht
          rcases List.mem_append.1 ht with ht | ht
          · exact HZ.out t ht
          · rw [List.mem_singleton.1 ht]; exact hx0
        rw [hxn] at hx1
        clear HST HIN hx0 hxn
        go_wp2_with fail
        go_roundw
        case rel => exact ⟨k + 1, by omega, by go_num, HZ2, trivial⟩
        case measure => simp [intOf]; omega
      · have hxn : (x.toNat : Int) ≠ 0 := fun e => hx0 (UInt8.toNat_inj.1 (by show x.toNat = 0; omega))
        have HT : Hid (rightL m = false) := HNZ2.out ⟨x, HIN.out, hx0⟩
        clear HST HIN hx0 HNZ2 HRF2
        go_wp2_with fail
        go_ret
        rw [HT.out]
        exact ⟨rfl, HB0.out⟩
    · obtain rfl : k = m.body.length := by omega
      rw [List.take_length] at HZ
      have HT := Lib.hid (HRF2.out HZ.out)
      clear HZ HNZ2 HRF2
      generalize hkk : decide (m.kind = 0) = b1 at *
      generalize hrr : decide (m.ref = 0) = b2 at *
      generalize hbo : decide (m.born = 0) = b3 at *
      have hll : decide ((m.body.length : Int) ≤ 1024) = decide (m.body.length ≤ 1024) := decide_eq_decide.2 (by omega)
      generalize decide (m.body.length ≤ 1024) = b4 at *
      have e1 : (m.kind == 0) = b1 := by rw [← hkk]; rfl
      have e2 : (m.ref == 0) = b2 := by rw [← hrr]; rfl
      have e3 : (m.born == 0) = b3 := by rw [← hbo]; rfl
      clear hkk hrr hbo
      cases b1 <;> cases b2 <;> cases b3 <;>
      (go_wp2_with fail
       go_ret
       rw [HT.out]
       exact ⟨rfl, HB0.out⟩)
end Go.Proofs.YtikjahfeecdfgaaGreatDoor.RecW
namespace Go.Proofs.YtikjahfeecdfgaaGreatDoor.StoW
open Go.RowKit Go.MapKept OctMath RecMath RecW TapeMath DskW SegW MapG TapeW PendW CacheW CqW
set_option linter.unusedVariables false
set_option linter.unusedSimpArgs false
set_option maxRecDepth 100000
set_option maxHeartbeats 12800000 in
theorem none_any (now sec : Int) (m : Msg) (a : Option Addr) (c : Nat) (W : World) (hT : Tab W) (hI : Ints m) (hS : Strs W a (m.keys.map S)) (hn : inI now) (hs : inI sec) :
    Calls Tryz.prog 5 #[.int .i64 now, .int .i64 sec, .agg (cellsM m a c)] W fun e w' => e = .returned (.bool true) ∧ Below W.heap.size W w' := by
  have HB0 : Hid (Below W.heap.size W (W.alloc (.cells (cellsM m a c) 34))) := (Below.refl _ W).alloc (Nat.le_refl _) _
  have HX0 : Hid (RecW.Boxed (W.alloc (.cells (cellsM m a c) 34)) W.heap.size (cellsM m a c)) := RecW.Boxed.new W _ _
  have HZ0 : Hid ((W.alloc (.cells (cellsM m a c) 34)).heap.size = W.heap.size + 1) := by exact Array.size_push _
  have HTB0 : Hid (∀ w, Below W.heap.size W w → TabB (W.heap.size + 1) w) := fun w hb => ⟨W, hT, Nat.le_succ _, hb⟩
  have HAW := Lib.hid (awake_any (W.alloc (.cells (cellsM m a c) 34)) (hT.below HB0.out))
  have HS := Lib.hid hS
  have HI := Lib.hid hI
  have HN := Lib.hid hn
  have hcu : (cellsM m a c).size = 10 := rfl
  clear hT hI hS hn hs
  go_enter Tryz.func5, Tryz.ntmps5
  go_upto_region 1 with fail
  generalize W.alloc (.cells (cellsM m a c) 34) = w1 at *
  obtain ⟨A, hA⟩ : ∃ A, W.heap.size = A := ⟨_, rfl⟩
  have HAA := Lib.hid hA
  have HTB : Hid (∀ w, Below W.heap.size W w → TabB (A + 1) w) := fun w hb => by
    have := HTB0.out w hb
    rw [HAA.out] at this
    exact this
  clear HTB0
  rw [hA] at HX0 HZ0 ⊢
  clear hcu hA
  go_wp2_with fail
  refine HAW.out.mono ?_
  rintro e w2 ⟨rfl, hb2⟩
  have HB2 : Hid (Below W.heap.size W w2) := HB0.out.trans (hb2.mono HB0.out.size)
  have HX2 := Lib.hid (HX0.out.below hb2)
  have HA2 : Hid (A < w2.heap.size) := by have := hb2.size; have := HZ0.out; show A < _; omega
  clear hb2 HAW HX0 HZ0 HB0
  have k0 : w2.cell? ⟨A, 0, none⟩ = some (.int .i64 m.kind) := HX2.out 0 _ rfl
  have k1 : w2.cell? ⟨A, 1, none⟩ = some (.int .i64 m.queue) := HX2.out 1 _ rfl
  have k2 : w2.cell? ⟨A, 2, none⟩ = some (.int .i64 m.due) := HX2.out 2 _ rfl
  have k3 : w2.cell? ⟨A, 3, none⟩ = some (.int .i64 m.retry) := HX2.out 3 _ rfl
  have k4 : w2.cell? ⟨A, 4, none⟩ = some (.int .i64 m.ref) := HX2.out 4 _ rfl
  have k5 : w2.cell? ⟨A, 5, none⟩ = some (.int .i64 m.born) := HX2.out 5 _ rfl
  have k6 : w2.cell? ⟨A, 6, none⟩ = some (.string (S m.topic)) := HX2.out 6 _ rfl
  have k7 : w2.cell? ⟨A, 7, none⟩ = some (.string (S m.tag)) := HX2.out 7 _ rfl
  have k8 : w2.cell? ⟨A, 8, none⟩ = some (.string (S m.body)) := HX2.out 8 _ rfl
  have k9 : w2.cell? ⟨A, 9, none⟩ = some (.slice a m.keys.length c) := HX2.out 9 _ rfl
  have HBg : Hid (Below W.heap.size W (w2.alloc (.cells #[.int .i64 m.kind, .int .i64 m.queue, .int .i64 m.due, .int .i64 m.retry, .int .i64 m.ref, .int .i64 m.born, .string (S m.topic), .string (S m.tag), .string (S m.body), .slice a m.keys.length c] 34))) := HB2.out.alloc HB2.out.size _
  have HG := Lib.hid (great_any [(m, a, c)] (some ⟨w2.heap.size, 0, none⟩) 1 (w2.alloc (.cells #[.int .i64 m.kind, .int .i64 m.queue, .int .i64 m.due, .int .i64 m.retry, .int .i64 m.ref, .int .i64 m.born, .string (S m.topic), .string (S m.tag), .string (S m.body), .slice a m.keys.length c] 34)) (fun i hi => by
    obtain rfl : i = 0 := by simp at hi; omega
    refine ⟨w2.heap.size, 0, rfl, fun j v hv => ?_, HS.out.below HBg.out⟩
    have := RecW.Boxed.new w2 #[.int .i64 m.kind, .int .i64 m.queue, .int .i64 m.due, .int .i64 m.retry, .int .i64 m.ref, .int .i64 m.born, .string (S m.topic), .string (S m.tag), .string (S m.body), .slice a m.keys.length c] 34 j v hv
    simpa using this) (by simp))
  have HXg : Hid (RecW.Boxed (w2.alloc (.cells #[.int .i64 m.kind, .int .i64 m.queue, .int .i64 m.due, .int .i64 m.retry, .int .i64 m.ref, .int .i64 m.born, .string (S m.topic), .string (S m.tag), .string (S m.body), .slice a m.keys.length c] 34)) A (cellsM m a c)) := HX2.out.below ((Below.refl _ w2).alloc (Nat.le_refl _) _)
  rw [show (List.any [(m, a, c)] fun p => greatM p.1) = greatM m by simp] at HG
  rw [show (([(m, a, c)] : List (Msg × Option Addr × Nat)).length) = 1 from rfl] at HG
  obtain ⟨gr, hgr⟩ : ∃ gr, gr = greatM m := ⟨_, rfl⟩
  rw [← hgr] at HG
  have HGR := Lib.hid hgr
  clear hgr
  go_wp2_with fail
  refine HG.out.mono ?_
  rintro e w3 ⟨rfl, hb3⟩
  have HB3 : Hid (Below W.heap.size W w3) := HBg.out.trans (hb3.mono HBg.out.size)
  have HX3 := Lib.hid (HXg.out.below hb3)
  have HA3 : Hid (A < w3.heap.size) := by have h1 := HA2.out; have h2 := hb3.size; rw [World.size_alloc] at h2; show A < _; omega
  clear hb3 HG HXg HBg HX2
  clear k0 k1 k2 k3 k4 k5 k6 k7 k8 k9
  cases gr with
  | true =>
    go_wp2_with fail
    go_ret
    exact ⟨rfl, HB3.out⟩
  | false =>
  have HOK : Hid (MsgOk m) := ok_of_great HI.out HGR.out.symm
  have HA3 : Hid (A + 1 ≤ w3.heap.size) := by have := HA3.out; exact this
  have HN1 := Lib.hid (DskW.new_any 10000 (A + 1) w3 HA3.out)
  go_wp2_with fail
  refine HN1.out.mono ?_
  rintro e w4 ⟨D, rfl, hD, hb4, h11, h12, h13, h14, h15, h16, h17, h18⟩
  clear HN1
  have HB4 : Hid (Below W.heap.size W w4) := HB3.out.trans (hb4.mono HB3.out.size)
  have HX4 := Lib.hid (HX3.out.below hb4)
  have HA4 : Hid (A + 1 ≤ w4.heap.size) := Nat.le_trans HA3.out hb4.size
  have H1 : Hid (DiskAt (A + 1) w4 D ∧ Quiet D ∧ D.files = [] ∧ D.waits = [] ∧ D.room = 10000) := ⟨hD, ⟨h13, h14⟩, h15, h16, room_new h15 (by rw [h18]; rfl)⟩
  clear hD hb4 h11 h12 h13 h14 h15 h16 h17 h18 HX3 HB3
  go_wp2_with fail
  refine (open_nil1 _ 0 _).mono ?_
  rintro e w ⟨rfl, he⟩
  obtain rfl := he.symm
  go_wp2_with fail
  refine (open_nil2 _ 0 _).mono ?_
  rintro e w ⟨rfl, he⟩
  obtain rfl := he.symm
  go_wp2_with fail
  refine (open_same _ 0 _).mono ?_
  rintro e w ⟨rfl, he⟩
  obtain rfl := he.symm
  have k0 : w4.cell? ⟨A, 0, none⟩ = some (.int .i64 m.kind) := HX4.out 0 _ rfl
  have k1 : w4.cell? ⟨A, 1, none⟩ = some (.int .i64 m.queue) := HX4.out 1 _ rfl
  have k2 : w4.cell? ⟨A, 2, none⟩ = some (.int .i64 m.due) := HX4.out 2 _ rfl
  have k3 : w4.cell? ⟨A, 3, none⟩ = some (.int .i64 m.retry) := HX4.out 3 _ rfl
  have k4 : w4.cell? ⟨A, 4, none⟩ = some (.int .i64 m.ref) := HX4.out 4 _ rfl
  have k5 : w4.cell? ⟨A, 5, none⟩ = some (.int .i64 m.born) := HX4.out 5 _ rfl
  have k6 : w4.cell? ⟨A, 6, none⟩ = some (.string (S m.topic)) := HX4.out 6 _ rfl
  have k7 : w4.cell? ⟨A, 7, none⟩ = some (.string (S m.tag)) := HX4.out 7 _ rfl
  have k8 : w4.cell? ⟨A, 8, none⟩ = some (.string (S m.body)) := HX4.out 8 _ rfl
  have k9 : w4.cell? ⟨A, 9, none⟩ = some (.slice a m.keys.length c) := HX4.out 9 _ rfl
  go_wp2_with fail
  refine (put_nil m a c true _).mono ?_
  rintro e w5 ⟨rfl, hb5⟩
  have HB5 : Hid (Below W.heap.size W w5) := HB4.out.trans (hb5.mono HB4.out.size)
  have HX5 := Lib.hid (HX4.out.below hb5)
  have HA5 : Hid (A + 1 ≤ w5.heap.size) := by have h1 := HA4.out; have h2 := hb5.size; show A + 1 ≤ _; omega
  have H5 : Hid (DiskAt (A + 1) w5 D ∧ Quiet D ∧ D.files = [] ∧ D.waits = [] ∧ D.room = 10000) := ⟨H1.out.1.below hb5, H1.out.2⟩
  have HN2 := Lib.hid (DskW.new_any 10000 (A + 1) w5 HA5.out)
  clear hb5 HB4 HX4 H1 k0 k1 k2 k3 k4 k5 k6 k7 k8 k9
  go_wp2_with fail
  refine (enq_nil _).mono ?_
  rintro e w ⟨rfl, he⟩
  obtain rfl := he.symm
  go_wp2_with fail
  refine (deq_nil _).mono ?_
  rintro e w ⟨rfl, he⟩
  obtain rfl := he.symm
  go_wp2_with fail
  refine (second_nil _).mono ?_
  rintro e w ⟨rfl, he⟩
  obtain rfl := he.symm
  go_wp2_with fail
  refine (drop_nil _).mono ?_
  rintro e w ⟨rfl, he⟩
  obtain rfl := he.symm
  go_wp2_with fail
  refine (now_nil _).mono ?_
  rintro e w ⟨rfl, he⟩
  obtain rfl := he.symm
  go_wp2_with fail
  refine (pass_nil 5 _).mono ?_
  rintro e w ⟨rfl, he⟩
  obtain rfl := he.symm
  go_wp2_with fail
  refine HN2.out.mono ?_
  rintro e w6 ⟨D2, rfl, hD2, hb6, h11, h12, h13, h14, h15, h16, h17, h18⟩
  clear HN2
  have HB6 : Hid (Below W.heap.size W w6) := HB5.out.trans (hb6.mono HB5.out.size)
  have HX6 := Lib.hid (HX5.out.below hb6)
  have HA6 : Hid (A + 1 ≤ w6.heap.size) := Nat.le_trans HA5.out hb6.size
  have hD6 := H5.out.1.below hb6
  have hdd : ∀ k, D.foot k → ¬ D2.foot k := fun k hk h2 => by have h3 := H5.out.1.lt hk; have h4 := foot_new hD2 h15 h17 h11 h12 k h2; omega
  rcases (show now < 0 ∨ (0 ≤ now ∧ 1099511626776 < now) ∨ (0 ≤ now ∧ now ≤ 1099511626776) by omega) with hnow | ⟨hnow, hnow2⟩ | ⟨hnow, hnow2⟩
  · have HT := Lib.hid (open_time now w6 hD6 hD2 (fun e => hdd D.blk (.inl rfl) (e ▸ .inl rfl)) (.inl hnow))
    clear hD2 hb6 h11 h12 h13 h14 h15 h16 h17 h18 hD6 hdd
    go_wp2_with fail
    refine HT.out.mono ?_
    rintro e w ⟨rfl, he⟩
    obtain rfl := he.symm
    go_wp2_with fail
    go_ret
    exact ⟨rfl, HB6.out⟩
  · have HT := Lib.hid (open_time now w6 hD6 hD2 (fun e => hdd D.blk (.inl rfl) (e ▸ .inl rfl)) (.inr hnow2))
    clear hD2 hb6 h11 h12 h13 h14 h15 h16 h17 h18 hD6 hdd
    go_wp2_with fail
    refine HT.out.mono ?_
    rintro e w ⟨rfl, he⟩
    obtain rfl := he.symm
    go_wp2_with fail
    go_ret
    exact ⟨rfl, HB6.out⟩
  obtain ⟨nn, rfl⟩ : ∃ nn : Nat, now = (nn : Int) := ⟨now.toNat, by omega⟩
  have HO := Lib.hid (sopen_fresh (base := A + 1) nn w6 hD6 H5.out.2.1 H5.out.2.2.1 H5.out.2.2.2.1 HA6.out (HTB.out w6 HB6.out) hD2 ⟨h13, h14⟩ h15 (by have := room_new (c := 10000) h15 (by rw [h18]; rfl); omega) h16 hdd (by omega))
  have HF : Hid (∀ k, D.foot k ∨ D2.foot k → A + 1 ≤ k) := fun k hk => hk.elim (fun h => hD6.base_le h) fun h => hD2.base_le h
  clear hD2 hb6 h11 h12 h13 h14 h15 h16 h17 h18 hD6 hdd HX5 HB5
  go_wp2_with fail
  refine HO.out.mono ?_
  rintro e w7 ⟨S0, rfl, hS, hnw, hits, hb, hsy, hwt, hq, hdb, hrm, hfs, hm, hft⟩
  clear HO
  have HB7 : Hid (Below W.heap.size W w7) := HB6.out.trans (hm.to_below _ HB6.out.size fun k hk => by have := HF.out k hk; have := HAA.out; omega)
  have HX7 : Hid (RecW.Boxed w7 A (cellsM m a c)) := fun j v hv => by
    rw [hm.cell (p := ⟨A, j, none⟩) HA6.out (fun h => by have h2 : A + 1 ≤ A := HF.out _ h; omega)]
    exact HX6.out j v hv
  have HA7 : Hid (A + 1 ≤ w7.heap.size) := Nat.le_trans HA6.out hm.size
  have HFS : Hid (∀ k, S0.foot k → A + 1 ≤ k) := fun k hk => (hft k hk).elim (fun h => HF.out k (.inl h)) fun h => by have := HA6.out; omega
  have he := e_zero hS.tape hits hb
  have hrc := recs_zero hS.tape hits
  have HS7 : Hid (StoAt (A + 1) w7 S0 ∧ S0.T.its = [] ∧ S0.T.R.e = 0 ∧ S0.T.O.recs = [] ∧ S0.T.D.waits = [] ∧ Quiet S0.T.D ∧ S0.T.D.room = 10000) := ⟨hS, hits, he, hrc, hwt, hq, by rw [hrm]; exact H5.out.2.2.2.2⟩
  have HNO := Lib.hid (now_any w7 hS)
  have HPS := Lib.hid (pass_ex sec w7 hS (by rw [hnw]; omega))
  rw [hnw] at HNO HPS
  have hmb : 0 ≤ min (max sec 0) 100000 ∧ min (max sec 0) 100000 ≤ 100000 := by omega
  unfold passI at HPS
  clear hS hits hb hsy hwt hq hdb hrm hfs hm hft he hrc hnw HX6 HB6 H5
  generalize hmm : min (max sec 0) 100000 = mm at *
  have hwr : IntKind.i64.wrap ((nn : Int) + mm) = (nn : Int) + mm := IntWalk.i64_in _ (by omega)
  generalize hpv : min ((nn : Int) + mm) 1099511626776 = pv at *
  go_wp2_with fail
  refine HNO.out.mono ?_
  rintro e w ⟨rfl, he⟩
  obtain rfl := he.symm
  go_wp2_with fail
  refine HPS.out.mono ?_
  rintro e w8 ⟨rfl, S2, hS8, hT2, hb2, hn2, hf2, hm8⟩
  have HN8 := Lib.hid (now_any w8 hS8)
  rw [hb2, hn2] at HN8
  have HS2 : Hid (S2.T = S0.T ∧ S2.blk = S0.blk ∧ ∀ k, S2.foot k → S0.foot k) := ⟨hT2, hb2, hf2⟩
  clear hT2 hb2 hn2 hf2
  have HS8 := Lib.hid hS8
  have HM8 := Lib.hid hm8
  clear hS8 hm8 HNO HPS
  go_wp2_with fail
  refine HN8.out.mono ?_
  rintro e w ⟨rfl, he⟩
  obtain rfl := he.symm
  clear HN8
  have hbl : A + 1 ≤ S0.blk := HFS.out _ (.inl rfl)
  have HB8 : Hid (Below W.heap.size W w8) := HB7.out.trans (HM8.out.to_below _ HB7.out.size fun k hk => by have h2 : k = S0.blk := hk; have := HAA.out; omega)
  have HX8 : Hid (RecW.Boxed w8 A (cellsM m a c)) := fun j v hv => by
    rw [HM8.out.cell (p := ⟨A, j, none⟩) HA7.out (fun h => by have h2 : A = S0.blk := h; omega)]
    exact HX7.out j v hv
  have HA8 : Hid (A + 1 ≤ w8.heap.size) := Nat.le_trans HA7.out HM8.out.size
  clear hbl HX7 HB7 HM8
  have k0 : w8.cell? ⟨A, 0, none⟩ = some (.int .i64 m.kind) := HX8.out 0 _ rfl
  have k1 : w8.cell? ⟨A, 1, none⟩ = some (.int .i64 m.queue) := HX8.out 1 _ rfl
  have k2 : w8.cell? ⟨A, 2, none⟩ = some (.int .i64 m.due) := HX8.out 2 _ rfl
  have k3 : w8.cell? ⟨A, 3, none⟩ = some (.int .i64 m.retry) := HX8.out 3 _ rfl
  have k4 : w8.cell? ⟨A, 4, none⟩ = some (.int .i64 m.ref) := HX8.out 4 _ rfl
  have k5 : w8.cell? ⟨A, 5, none⟩ = some (.int .i64 m.born) := HX8.out 5 _ rfl
  have k6 : w8.cell? ⟨A, 6, none⟩ = some (.string (S m.topic)) := HX8.out 6 _ rfl
  have k7 : w8.cell? ⟨A, 7, none⟩ = some (.string (S m.tag)) := HX8.out 7 _ rfl
  have k8 : w8.cell? ⟨A, 8, none⟩ = some (.string (S m.body)) := HX8.out 8 _ rfl
  have k9 : w8.cell? ⟨A, 9, none⟩ = some (.slice a m.keys.length c) := HX8.out 9 _ rfl
  have HK8 := Lib.hid (HS.out.below HB8.out)
  obtain ⟨sb, hsb⟩ : ∃ sb, sb = S0.blk := ⟨_, rfl⟩
  rw [← hsb]
  have HSBE := Lib.hid hsb
  clear hsb
  by_cases hr : rightL m = true ∧ m.kind ≠ 0
  case neg =>
    have hr2 : rightL m = false ∨ m.kind = 0 := by
      by_cases h : rightL m = true
      · right
        by_cases h0 : m.kind = 0
        · exact h0
        · exact absurd ⟨h, h0⟩ hr
      · left; simpa using h
    have HP := Lib.hid (put_arg m false HOK.out hr2 a c w8 HS8.out HK8.out)
    rw [HS2.out.2.1, ← HSBE.out, show cellsM m a c = #[.int .i64 m.kind, .int .i64 m.queue, .int .i64 m.due, .int .i64 m.retry, .int .i64 m.ref, .int .i64 m.born, .string (S m.topic), .string (S m.tag), .string (S m.body), .slice a m.keys.length c] from rfl] at HP
    go_wp2_with fail
    refine HP.out.mono ?_
    rintro e w9 ⟨rfl, hb9⟩
    have HB9 : Hid (Below W.heap.size W w9) := HB8.out.trans (hb9.mono HB8.out.size)
    have HX9 := Lib.hid (HX8.out.below hb9)
    have HRI := Lib.hid (rright_any m a c HOK.out w9 (HS.out.below HB9.out))
    rw [show cellsM m a c = #[.int .i64 m.kind, .int .i64 m.queue, .int .i64 m.due, .int .i64 m.retry, .int .i64 m.ref, .int .i64 m.born, .string (S m.topic), .string (S m.tag), .string (S m.body), .slice a m.keys.length c] from rfl] at HRI
    clear hb9 HP k0 k1 k2 k3 k4 k5 k6 k7 k8 k9 HX8
    have k0 : w9.cell? ⟨A, 0, none⟩ = some (.int .i64 m.kind) := HX9.out 0 _ rfl
    have k1 : w9.cell? ⟨A, 1, none⟩ = some (.int .i64 m.queue) := HX9.out 1 _ rfl
    have k2 : w9.cell? ⟨A, 2, none⟩ = some (.int .i64 m.due) := HX9.out 2 _ rfl
    have k3 : w9.cell? ⟨A, 3, none⟩ = some (.int .i64 m.retry) := HX9.out 3 _ rfl
    have k4 : w9.cell? ⟨A, 4, none⟩ = some (.int .i64 m.ref) := HX9.out 4 _ rfl
    have k5 : w9.cell? ⟨A, 5, none⟩ = some (.int .i64 m.born) := HX9.out 5 _ rfl
    have k6 : w9.cell? ⟨A, 6, none⟩ = some (.string (S m.topic)) := HX9.out 6 _ rfl
    have k7 : w9.cell? ⟨A, 7, none⟩ = some (.string (S m.tag)) := HX9.out 7 _ rfl
    have k8 : w9.cell? ⟨A, 8, none⟩ = some (.string (S m.body)) := HX9.out 8 _ rfl
    have k9 : w9.cell? ⟨A, 9, none⟩ = some (.slice a m.keys.length c) := HX9.out 9 _ rfl
    rcases (show rightL m = false ∨ (rightL m = true ∧ m.kind = 0) by
      rcases hr2 with h | h
      · exact .inl h
      · cases hh : rightL m with
        | false => exact .inl rfl
        | true => exact .inr ⟨rfl, h⟩) with h | ⟨h, h0⟩
    · rw [h] at HRI
      clear h hr hr2
      go_wp2_with fail
      refine HRI.out.mono ?_
      rintro e w10 ⟨rfl, hb10⟩
      go_wp2_with fail
      go_ret
      exact ⟨rfl, HB9.out.trans (hb10.mono HB9.out.size)⟩
    · rw [h] at HRI
      have q0 : (m.kind == 0) = true := by rw [h0]; rfl
      clear h h0 hr hr2
      go_wp2_with fail
      refine HRI.out.mono ?_
      rintro e w10 ⟨rfl, hb10⟩
      have j0 : w10.cell? ⟨A, 0, none⟩ = some (.int .i64 m.kind) := (hb10.cell (cell_lt k0)).trans k0
      go_wp2_with fail
      go_ret
      exact ⟨rfl, HB9.out.trans (hb10.mono HB9.out.size)⟩
  case pos =>
    obtain ⟨hr1, hk0⟩ := hr
    obtain ⟨hfl, hla⟩ := fill_nil hr1 hk0
    have hrl := (rec_len hr1 hk0).2
    obtain ⟨hs1, hs2, hs3, hs4, hs5, hs6, hs7⟩ := HS7.out
    have HP := Lib.hid (put_ok m false HOK.out hr1 hk0 a c w8 HS8.out HK8.out (by rw [HS2.out.1]; exact hs6) (HTB.out w8 HB8.out) HA8.out (by rw [HS2.out.1, hs3, hfl, hs7]; show ((0 + (recL m).length : Nat) : Int) ≤ 10000; omega) (by rw [HS2.out.1, hs5]; decide) (by rw [HS2.out.1]; omega) (by rw [HS2.out.1, hs4]; decide))
    rw [HS2.out.2.1, ← HSBE.out, show cellsM m a c = #[.int .i64 m.kind, .int .i64 m.queue, .int .i64 m.due, .int .i64 m.retry, .int .i64 m.ref, .int .i64 m.born, .string (S m.topic), .string (S m.tag), .string (S m.body), .slice a m.keys.length c] from rfl] at HP
    rw [show (S2.T.R.e + (fillOf S2.T.R.e m).length : Nat) = 0 by rw [HS2.out.1, hs3, hfl]; rfl] at HP
    go_wp2_with fail
    refine HP.out.mono ?_
    rintro e w9 ⟨rfl, S1, hS1, hput, hm9⟩
    have hFS : ∀ k, S2.foot k → A + 1 ≤ k := fun k hk => HFS.out k (HS2.out.2.2 k hk)
    have HB9 : Hid (Below W.heap.size W w9) := HB8.out.trans (hm9.to_below _ HB8.out.size fun k hk => by have := hFS k hk; have := HAA.out; omega)
    have HX9 : Hid (RecW.Boxed w9 A (cellsM m a c)) := fun j v hv => by
      rw [hm9.cell (p := ⟨A, j, none⟩) HA8.out (fun h => by have h2 : A + 1 ≤ A := hFS _ h; omega)]
      exact HX8.out j v hv
    have HA9 : Hid (A + 1 ≤ w9.heap.size) := Nat.le_trans HA8.out hm9.size
    have hmem : (0, m) ∈ S1.T.O.recs := by
      have := (put_recs HS8.out hS1 hput).1
      rw [show (S2.T.R.e + (fillOf S2.T.R.e m).length : Nat) = 0 by rw [HS2.out.1, hs3, hfl]; rfl] at this
      exact this
    have HRI := Lib.hid (rright_any m a c HOK.out w9 (HS.out.below HB9.out))
    rw [show cellsM m a c = #[.int .i64 m.kind, .int .i64 m.queue, .int .i64 m.due, .int .i64 m.retry, .int .i64 m.ref, .int .i64 m.born, .string (S m.topic), .string (S m.tag), .string (S m.body), .slice a m.keys.length c] from rfl, hr1] at HRI
    have q0 : (m.kind == 0) = false := beq_eq_false_iff_ne.2 hk0
    have HRD : Hid (∀ w, Below w9.heap.size w9 w → Calls Tryz.prog 14 #[.pointer (some ⟨S1.T.O.blk, 0, none⟩), .int .i64 0] w fun e w' => ∃ a c, e = .returned (.tuple #[.agg #[.int .i64 m.kind, .int .i64 m.queue, .int .i64 m.due, .int .i64 m.retry, .int .i64 m.ref, .int .i64 m.born, .string (S m.topic), .string (S m.tag), .string (S m.body), .slice a m.keys.length c], .int .i64 0]) ∧ Strs w' a (m.keys.map S) ∧ Below w.heap.size w w') := fun w hb => by
      have := TapeW.tread_any 0 m w (hS1.tape.below hb) hput.quiet.up ((HTB.out w9 HB9.out).below hb) (Nat.le_trans HA9.out hb.size) hmem
      exact this.mono fun e w' ⟨a, c, h1, h2, h3, _⟩ => ⟨a, c, h1, h2, h3⟩
    have HC9 : Hid (∀ w, Below w9.heap.size w9 w → w.cell? ⟨sb, 0, none⟩ = some (.pointer (some ⟨S1.T.O.blk, 0, none⟩))) := fun w hb => by
      have h1 : w.cell? ⟨S1.blk, 0, none⟩ = some (.pointer (some ⟨S1.T.O.blk, 0, none⟩)) := (hS1.below hb).cell 0 _ rfl
      rw [show S1.blk = sb by rw [hput.same]; exact HS2.out.2.1.trans HSBE.out.symm] at h1
      exact h1
    clear hs1 hs2 hs3 hs4 hs5 hs6 hs7 hS1 hput hm9 hFS hmem HP k0 k1 k2 k3 k4 k5 k6 k7 k8 k9 HX8 HS7 HS8 hfl hla hrl hr1 hk0
    have k0 : w9.cell? ⟨A, 0, none⟩ = some (.int .i64 m.kind) := HX9.out 0 _ rfl
    have k1 : w9.cell? ⟨A, 1, none⟩ = some (.int .i64 m.queue) := HX9.out 1 _ rfl
    have k2 : w9.cell? ⟨A, 2, none⟩ = some (.int .i64 m.due) := HX9.out 2 _ rfl
    have k3 : w9.cell? ⟨A, 3, none⟩ = some (.int .i64 m.retry) := HX9.out 3 _ rfl
    have k4 : w9.cell? ⟨A, 4, none⟩ = some (.int .i64 m.ref) := HX9.out 4 _ rfl
    have k5 : w9.cell? ⟨A, 5, none⟩ = some (.int .i64 m.born) := HX9.out 5 _ rfl
    have k6 : w9.cell? ⟨A, 6, none⟩ = some (.string (S m.topic)) := HX9.out 6 _ rfl
    have k7 : w9.cell? ⟨A, 7, none⟩ = some (.string (S m.tag)) := HX9.out 7 _ rfl
    have k8 : w9.cell? ⟨A, 8, none⟩ = some (.string (S m.body)) := HX9.out 8 _ rfl
    have k9 : w9.cell? ⟨A, 9, none⟩ = some (.slice a m.keys.length c) := HX9.out 9 _ rfl
    go_wp2_with fail
    refine HRI.out.mono ?_
    rintro e w10 ⟨rfl, hb10⟩
    have HB10 := Lib.hid hb10
    have c0 := HC9.out w10 hb10
    have j0 : w10.cell? ⟨A, 0, none⟩ = some (.int .i64 m.kind) := (hb10.cell (cell_lt k0)).trans k0
    clear hb10 HRI k0 k1 k2 k3 k4 k5 k6 k7 k8 k9
    go_wp2_with fail
    refine (HRD.out w10 HB10.out).mono ?_
    rintro e w11 ⟨a2, c2, rfl, hs11, hb11⟩
    have HB11 : Hid (Below w9.heap.size w9 w11) := HB10.out.trans (hb11.mono HB10.out.size)
    have HK11 := Lib.hid hs11
    clear hs11 hb11 HRD c0 j0 HC9
    have HBa : Hid (Below w11.heap.size w11 (w11.alloc (.cells #[.int .i64 m.kind, .int .i64 m.queue, .int .i64 m.due, .int .i64 m.retry, .int .i64 m.ref, .int .i64 m.born, .string (S m.topic), .string (S m.tag), .string (S m.body), .slice a2 m.keys.length c2] 34))) := (Below.refl _ w11).alloc (Nat.le_refl _) _
    have HXa : Hid (RecW.Boxed (w11.alloc (.cells #[.int .i64 m.kind, .int .i64 m.queue, .int .i64 m.due, .int .i64 m.retry, .int .i64 m.ref, .int .i64 m.born, .string (S m.topic), .string (S m.tag), .string (S m.body), .slice a2 m.keys.length c2] 34)) w11.heap.size #[.int .i64 m.kind, .int .i64 m.queue, .int .i64 m.due, .int .i64 m.retry, .int .i64 m.ref, .int .i64 m.born, .string (S m.topic), .string (S m.tag), .string (S m.body), .slice a2 m.keys.length c2]) := RecW.Boxed.new w11 _ _
    have HBW : Hid (Below W.heap.size W (w11.alloc (.cells #[.int .i64 m.kind, .int .i64 m.queue, .int .i64 m.due, .int .i64 m.retry, .int .i64 m.ref, .int .i64 m.born, .string (S m.topic), .string (S m.tag), .string (S m.body), .slice a2 m.keys.length c2] 34))) := HB9.out.trans ((HB11.out.trans (HBa.out.mono HB11.out.size)).mono HB9.out.size)
    have HXA : Hid (RecW.Boxed (w11.alloc (.cells #[.int .i64 m.kind, .int .i64 m.queue, .int .i64 m.due, .int .i64 m.retry, .int .i64 m.ref, .int .i64 m.born, .string (S m.topic), .string (S m.tag), .string (S m.body), .slice a2 m.keys.length c2] 34)) A (cellsM m a c)) := (HX9.out.below HB11.out).below HBa.out
    have HSM := Lib.hid (same_true m a2 a c2 c _ (HK11.out.below HBa.out) (HS.out.below HBW.out) (Nat.le_trans HOK.out.keys (by decide)))
    rw [show cellsM m a2 c2 = #[.int .i64 m.kind, .int .i64 m.queue, .int .i64 m.due, .int .i64 m.retry, .int .i64 m.ref, .int .i64 m.born, .string (S m.topic), .string (S m.tag), .string (S m.body), .slice a2 m.keys.length c2] from rfl, show cellsM m a c = #[.int .i64 m.kind, .int .i64 m.queue, .int .i64 m.due, .int .i64 m.retry, .int .i64 m.ref, .int .i64 m.born, .string (S m.topic), .string (S m.tag), .string (S m.body), .slice a m.keys.length c] from rfl] at HSM
    go_upto_region 26 with fail
    generalize w11.alloc (.cells #[.int .i64 m.kind, .int .i64 m.queue, .int .i64 m.due, .int .i64 m.retry, .int .i64 m.ref, .int .i64 m.born, .string (S m.topic), .string (S m.tag), .string (S m.body), .slice a2 m.keys.length c2] 34) = w12 at *
    obtain ⟨A4, hA4⟩ : ∃ A4, w11.heap.size = A4 := ⟨_, rfl⟩
    rw [hA4] at HXa ⊢
    have p0 : w12.cell? ⟨A4, 0, none⟩ = some (.int .i64 m.kind) := HXa.out 0 _ rfl
    have p1 : w12.cell? ⟨A4, 1, none⟩ = some (.int .i64 m.queue) := HXa.out 1 _ rfl
    have p2 : w12.cell? ⟨A4, 2, none⟩ = some (.int .i64 m.due) := HXa.out 2 _ rfl
    have p3 : w12.cell? ⟨A4, 3, none⟩ = some (.int .i64 m.retry) := HXa.out 3 _ rfl
    have p4 : w12.cell? ⟨A4, 4, none⟩ = some (.int .i64 m.ref) := HXa.out 4 _ rfl
    have p5 : w12.cell? ⟨A4, 5, none⟩ = some (.int .i64 m.born) := HXa.out 5 _ rfl
    have p6 : w12.cell? ⟨A4, 6, none⟩ = some (.string (S m.topic)) := HXa.out 6 _ rfl
    have p7 : w12.cell? ⟨A4, 7, none⟩ = some (.string (S m.tag)) := HXa.out 7 _ rfl
    have p8 : w12.cell? ⟨A4, 8, none⟩ = some (.string (S m.body)) := HXa.out 8 _ rfl
    have p9 : w12.cell? ⟨A4, 9, none⟩ = some (.slice a2 m.keys.length c2) := HXa.out 9 _ rfl
    have q10 : w12.cell? ⟨A, 0, none⟩ = some (.int .i64 m.kind) := HXA.out 0 _ rfl
    have q11 : w12.cell? ⟨A, 1, none⟩ = some (.int .i64 m.queue) := HXA.out 1 _ rfl
    have q12 : w12.cell? ⟨A, 2, none⟩ = some (.int .i64 m.due) := HXA.out 2 _ rfl
    have q13 : w12.cell? ⟨A, 3, none⟩ = some (.int .i64 m.retry) := HXA.out 3 _ rfl
    have q14 : w12.cell? ⟨A, 4, none⟩ = some (.int .i64 m.ref) := HXA.out 4 _ rfl
    have q15 : w12.cell? ⟨A, 5, none⟩ = some (.int .i64 m.born) := HXA.out 5 _ rfl
    have q16 : w12.cell? ⟨A, 6, none⟩ = some (.string (S m.topic)) := HXA.out 6 _ rfl
    have q17 : w12.cell? ⟨A, 7, none⟩ = some (.string (S m.tag)) := HXA.out 7 _ rfl
    have q18 : w12.cell? ⟨A, 8, none⟩ = some (.string (S m.body)) := HXA.out 8 _ rfl
    have q19 : w12.cell? ⟨A, 9, none⟩ = some (.slice a m.keys.length c) := HXA.out 9 _ rfl
    clear HXa HXA hA4
    go_wp2_with fail
    refine HSM.out.mono ?_
    rintro e w13 ⟨rfl, hb13⟩
    go_wp2_with fail
    go_ret
    exact ⟨rfl, HBW.out.trans (hb13.mono HBW.out.size)⟩
end Go.Proofs.YtikjahfeecdfgaaGreatDoor.StoW
namespace Go.Proofs.YtikjahfeecdfgaaGreatDoor
open Go.ChangeShapes Go.WideShapes Go.ChangeAt Go.RowKit
set_option linter.unusedVariables false
set_option maxRecDepth 100000
def laidL : List (String × DataW Unit) := [("math/bits.deBruijn32tab", Rows.laid_math_bits_deBruijn32tab), ("math/bits.deBruijn64tab", Rows.laid_math_bits_deBruijn64tab), ("internal/strconv.uint64pow10", Rows.laid_internal_strconv_uint64pow10), ("unicode/utf8.acceptRanges", Rows.laid_unicode_utf8_acceptRanges), ("strconv.ErrRange", Rows.laid_strconv_ErrRange), ("strconv.ErrSyntax", Rows.laid_strconv_ErrSyntax), ("unicode/utf8.first", Rows.laid_unicode_utf8_first)]
theorem laid_plain : ∀ W, laidMetH Tryz.prog laidL W = laidMet Tryz.prog laidL W := fun W => MakeChecks.laidMetH_plain _ _ _ (by kernel_rfl)
theorem tab_of {W : World} (h : laidMetH Tryz.prog laidL W) : SegW.Tab W := by
  rw [laid_plain] at h
  obtain ⟨ps, hL, _, _⟩ := h
  obtain ⟨g1, t1, c1, f1, p1, q1, _, _, _, _, hL, _⟩ := hL
  obtain ⟨g2, t2, c2, f2, p2, q2, _, _, _, _, hL, _⟩ := hL
  obtain ⟨g3, t3, c3, f3, p3, q3, hg3, ht3, hv3, hd3, hL, _⟩ := hL
  obtain rfl := Option.some.inj ((show Tryz.prog.globalNamed "internal/strconv.uint64pow10" = some 1 by kernel_rfl).symm.trans hg3)
  obtain rfl := Option.some.inj ((show (Tryz.prog.globals[1]?).map (·.type) = some 398 by kernel_rfl).symm.trans ht3)
  show Lib.TabIs Tryz.prog W "internal/strconv.uint64pow10" .u64 Lib.pow10Tab
  unfold Lib.TabIs
  rw [hv3, ← Lib.cells_of_tab Tryz.underlying398 Tryz.underlying315 (by kernel_rfl) (by kernel_rfl) (show DataW.trod (fun _ => ()) Tryz.prog W 0 (fun _ => true) false f3 398 c3.toList = some (Lib.tabData .u64 Lib.pow10Tab, p3) from hd3)]
section
variable {H : Type} {enc : TypeId × Value → H}
theorem returns_laid {a : Assume} {os : Os} {f : FuncId} {fn : Func} {s : ChangeSpec} {conds : List PathCond} {apart fresh handsOn again : Bool}
    (started : os.Started) (noInit : Tryz.prog.inits.idxOf? f = none) (hfn : Tryz.prog.funcs[f]? = some fn)
    (witness : ∃ (w : World) (tape : Tape) (i : Input), w.os = os ∧ (w.forCall tape i).Shaped Tryz.prog ∧ i.vars = [] ∧ Input.okWide Tryz.prog (w.forCall tape i) .any w.heap.size f i ∧
      ((s.pre enc Tryz.prog fn conds apart (w.forCall tape i).memory i.args ∧ laidMetH Tryz.prog laidL (w.forCall tape i).memory) ∧ sizedMet enc Tryz.prog fn (OpenSpec.ofChange s) apart (w.forCall tape i).memory i.args) ∧ a.holds Tryz.prog (lone (Frame.enter Tryz.prog f i.args .normal) [] (w.forCall tape i)))
    (contract : ∀ (W : World) (base : Nat) (args : Array Value) (ds gs : List (DataW H)) (before : List MemPlace),
      (∀ (j : Nat) t v, fn.params[j]? = some t → args[j]? = some v → Value.okWide Tryz.prog W .any base t v) →
      DataW.Whole enc Tryz.prog fn.params.toList s.vars apart W args.toList ds gs before →
      (DataW.weightsEach Tryz.prog (fn.params.toList ++ s.plain.varTypes Tryz.prog) (ds ++ gs)).all (· ≤ reachBytes) = true → SegW.Tab W →
      Calls Tryz.prog f args W fun e W' => ∃ v, e = .returned v ∧ s.post enc Tryz.prog fn apart fresh handsOn again W args v W') :
    ReturnsInHanded a Tryz.checked os f .any (fun w args => (s.pre enc Tryz.prog fn conds apart w args ∧ laidMetH Tryz.prog laidL w) ∧ sizedMet enc Tryz.prog fn (OpenSpec.ofChange s) apart w args) (s.post enc Tryz.prog fn apart fresh handsOn again) := by
  refine returnsInHanded_of_calls (C := Tryz.checked) own started noInit witness ?_
  intro w tape i _ hsh _ hok hpre hholds
  obtain ⟨_, _, _, fn', hfn', _, _, _, _, hval⟩ := hok
  have e : fn' = fn := Option.some.inj (hfn'.symm.trans hfn)
  subst e
  obtain ⟨⟨⟨ds, gs, before, hw, hc⟩, hx⟩, hz⟩ := hpre
  have hw' := DataW.Whole.of_heap (w' := w.forCall tape i) (by rfl) hw
  have hx' : laidMetH Tryz.prog laidL (w.forCall tape i) := hx.of_heap (by rfl)
  refine (contract (w.forCall tape i) w.heap.size i.args ds gs before hval hw' (hz.weights hw) (tab_of hx')).mono fun e W' ⟨v, he, hp⟩ => ?_
  subst he
  exact ChangeSpec.post_blind hp
end
theorem laid_met (os : Os) (args : Array Value) : laidMetH Tryz.prog laidL ((World.laidAll Tryz.prog os laidL).forCall (fun _ _ => 0) ⟨#[], args, []⟩).memory := by
  rw [laid_plain]
  exact laidMet_laidAll _ (by kernel_rfl) (by kernel_rfl)
theorem laid_shaped (os : Os) (args : Array Value) : ((World.laidAll Tryz.prog os laidL).forCall (fun _ _ => 0) ⟨#[], args, []⟩).Shaped Tryz.prog := World.shaped_of_ZipB (by kernel_rfl) (by kernel_rfl)
end Go.Proofs.YtikjahfeecdfgaaGreatDoor
