/- reveilleref03: has, Of, Topic, Tag; name.Of, Topic, Tag. -/
import Derived.Test.YtadhkeboaapfcaaGreatDoorNameB
namespace Go.Proofs.YtadhkeboaapfcaaGreatDoor.NameW
open Go.RowKit OctMath NameMath
set_option maxRecDepth 100000
set_option linter.unusedSimpArgs false
set_option linter.unusedVariables false

set_option maxHeartbeats 1600000 in
theorem has_any (l p : List UInt8) (hl : l.length ≤ 1099511627776) (hp : p.length ≤ 1099511627776) (W : World) : Calls Tryz.prog 76 #[.string (S l), .string (S p)] W fun e w' => e = .returned (.bool (Lib.hasPrefix l p)) ∧ Drawn W w' := by
  have hsz := S_size l
  have hsp := S_size p
  have htl := S_toList (l.take p.length)
  have htp := S_toList p
  by_cases hlt : p.length ≤ l.length
  · have d1 : decide ((p.length : Int) ≤ (l.length : Int)) = true := decide_eq_true (by omega)
    have hd2 : (S l).extract 0 p.length = S (l.take p.length) := S_take _ _
    have HR : Hid (Lib.hasPrefix l p = (l.take p.length == p)) := by
      show p.isPrefixOf l = _
      rw [Bool.eq_iff_iff, List.isPrefixOf_iff_prefix, List.prefix_iff_eq_take, beq_iff_eq]; exact eq_comm
    go_enter Tryz.func76, Tryz.ntmps76
    go_wp2_with fail
    go_ret
    rw [HR.out]
    exact ⟨rfl, Drawn.refl _⟩
  · have d1 : decide ((p.length : Int) ≤ (l.length : Int)) = false := decide_eq_false (by omega)
    have HR : Hid (Lib.hasPrefix l p = false) := by
      show p.isPrefixOf l = _
      rw [Bool.eq_false_iff, ne_eq, List.isPrefixOf_iff_prefix]; intro h; exact hlt h.length_le
    go_enter Tryz.func76, Tryz.ntmps76
    go_wp2_with fail
    go_ret
    rw [HR.out]
    exact ⟨rfl, Drawn.refl _⟩
set_option maxHeartbeats 1600000 in
theorem rtag_any (l : List UInt8) (hl : l.length ≤ 1099511627776) (W : World) : Calls Tryz.prog 26 #[.string (S l)] W fun e w' => e = .returned (.bool (l.isEmpty || plainL l)) ∧ Drawn W w' := by
  have htl := S_toList l
  generalize he : l.isEmpty = e
  cases e <;>
  (go_enter Tryz.func26, Tryz.ntmps26
   go_wp2_with (go_at_call 54; refine (rplain_any l hl _).mono ?_; rintro e w2 ⟨rfl, hb2⟩)
   go_ret
   first | exact ⟨rfl, hb2⟩ | exact ⟨rfl, Drawn.refl _⟩)
set_option maxHeartbeats 1600000 in
theorem tag_any (l : List UInt8) (hl : l.length ≤ 1099511627776) (W : World) : Calls Tryz.prog 43 #[.string (S l)] W fun e w' => e = .returned (.bool (l.isEmpty || plainL l)) ∧ Below W.heap.size W w' := by
  have htl := S_toList l
  generalize he : l.isEmpty = e
  cases e <;>
  (go_enter Tryz.func43, Tryz.ntmps43
   go_wp2_with (go_at_call 65; refine (plain_any l hl _).mono ?_; rintro e w2 ⟨rfl, hb2⟩)
   go_ret
   first | exact ⟨rfl, hb2⟩ | exact ⟨rfl, Below.refl _ _⟩)

set_option maxHeartbeats 1600000 in
theorem rof_any (l : List UInt8) (hl : l.length ≤ 1099511627776) (W : World) : Calls Tryz.prog 55 #[.string (S l)] W fun e w' => e = .returned (.string (S (ofL l))) ∧ Drawn W w' := by
  have hsz := S_size l
  have HR : Hid (ofL l = if (Lib.hasPrefix l retryL && groupL (l.drop 7)) = true then l.drop 7 else if (Lib.hasPrefix l deadL && groupL (l.drop 6)) = true then l.drop 6 else []) := rfl
  have hC1 := fun w => has_any l retryL hl (by decide) w
  have hC2 := fun w => has_any l deadL hl (by decide) w
  change ∀ w, Calls _ _ #[.string (S l), .string { data := #[37, 114, 101, 116, 114, 121, 37] }] w _ at hC1
  change ∀ w, Calls _ _ #[.string (S l), .string { data := #[37, 100, 101, 97, 100, 37] }] w _ at hC2
  have HC3 := Lib.hid (fun w => rgroup_any (l.drop 7) (by rw [List.length_drop]; omega) w)
  have HC4 := Lib.hid (fun w => rgroup_any (l.drop 6) (by rw [List.length_drop]; omega) w)
  have HD7 := Lib.hid (S_drop l 7)
  have HD6 := Lib.hid (S_drop l 6)
  rw [hsz] at HD7 HD6
  have HL1 : Hid (Lib.hasPrefix l retryL = true → 7 ≤ l.length) := fun h => by
    have := (List.isPrefixOf_iff_prefix.1 h).length_le
    exact this
  have HL2 : Hid (Lib.hasPrefix l deadL = true → 6 ≤ l.length) := fun h => by
    have := (List.isPrefixOf_iff_prefix.1 h).length_le
    exact this
  have HC1 := Lib.hid hC1
  have HC2 := Lib.hid hC2
  clear hC1 hC2
  generalize Lib.hasPrefix l retryL = b1 at *
  generalize Lib.hasPrefix l deadL = b2 at *
  generalize groupL (l.drop 7) = g7 at *
  generalize groupL (l.drop 6) = g6 at *
  go_enter Tryz.func55, Tryz.ntmps55
  go_wp2_with fail
  refine (HC1.out _).mono ?_
  rintro e w2 ⟨rfl, hb⟩
  have HB := Lib.hid hb
  clear hb HC1
  cases b1 with
  | true =>
    have h7 := HL1.out rfl
    have d7 := HD7.out
    go_wp2_with fail
    refine (HC3.out _).mono ?_
    rintro e w3 ⟨rfl, hb⟩
    have HB3 := Lib.hid (HB.out.trans hb)
    clear hb
    cases g7 with
    | true =>
      have HT : Hid (ofL l = l.drop 7) := HR.out
      clear HR HC2 HC3 HC4
      go_wp2_with fail
      go_ret
      rw [HT.out]
      exact ⟨rfl, HB3.out⟩
    | false =>
      have HT : Hid (ofL l = if (b2 && g6) = true then l.drop 6 else []) := HR.out
      clear HR d7 h7 HD7
      go_wp2_with fail
      refine (HC2.out _).mono ?_
      rintro e w4 ⟨rfl, hb⟩
      have HB4 := Lib.hid (HB3.out.trans hb)
      clear hb
      cases b2 with
      | true =>
        have h6 := HL2.out rfl
        have d6 := HD6.out
        go_wp2_with fail
        refine (HC4.out _).mono ?_
        rintro e w5 ⟨rfl, hb⟩
        have HB5 := Lib.hid (HB4.out.trans hb)
        clear hb
        cases g6 with
        | true =>
          go_wp2_with fail
          go_ret
          rw [HT.out]
          exact ⟨rfl, HB5.out⟩
        | false =>
          go_wp2_with fail
          go_ret
          rw [HT.out]
          exact ⟨rfl, HB5.out⟩
      | false =>
        go_wp2_with fail
        go_ret
        rw [HT.out]
        exact ⟨rfl, HB4.out⟩
  | false =>
    have HT : Hid (ofL l = if (b2 && g6) = true then l.drop 6 else []) := HR.out
    clear HR HD7
    go_wp2_with fail
    refine (HC2.out _).mono ?_
    rintro e w4 ⟨rfl, hb⟩
    have HB4 := Lib.hid (HB.out.trans hb)
    clear hb
    cases b2 with
    | true =>
      have h6 := HL2.out rfl
      have d6 := HD6.out
      go_wp2_with fail
      refine (HC4.out _).mono ?_
      rintro e w5 ⟨rfl, hb⟩
      have HB5 := Lib.hid (HB4.out.trans hb)
      clear hb
      cases g6 with
      | true =>
        go_wp2_with fail
        go_ret
        rw [HT.out]
        exact ⟨rfl, HB5.out⟩
      | false =>
        go_wp2_with fail
        go_ret
        rw [HT.out]
        exact ⟨rfl, HB5.out⟩
    | false =>
      go_wp2_with fail
      go_ret
      rw [HT.out]
      exact ⟨rfl, HB4.out⟩

set_option maxHeartbeats 1600000 in
theorem rtopic_any (l : List UInt8) (hl : l.length ≤ 1099511627776) (W : World) : Calls Tryz.prog 32 #[.string (S l)] W fun e w' => e = .returned (.bool (topicL l)) ∧ Drawn W w' := by
  have HR : Hid (topicL l = (plainL l || !(ofL l).isEmpty)) := rfl
  have HP := Lib.hid (fun w => rplain_any l hl w)
  have htl := S_toList (ofL l)
  generalize plainL l = b at *
  go_enter Tryz.func32, Tryz.ntmps32
  go_wp2_with fail
  refine (HP.out _).mono ?_
  rintro e w2 ⟨rfl, hb⟩
  have HB := Lib.hid hb
  clear hb HP
  cases b with
  | true =>
    go_wp2_with fail
    go_ret
    rw [HR.out]
    exact ⟨rfl, HB.out⟩
  | false =>
    go_wp2_with fail
    refine (rof_any l hl _).mono ?_
    rintro e w3 ⟨rfl, hb⟩
    have HB3 := Lib.hid (HB.out.trans hb)
    clear hb
    generalize he : (ofL l).isEmpty = e at *
    go_wp2_with fail
    go_ret
    rw [HR.out]
    exact ⟨rfl, HB3.out⟩
end Go.Proofs.YtadhkeboaapfcaaGreatDoor.NameW
