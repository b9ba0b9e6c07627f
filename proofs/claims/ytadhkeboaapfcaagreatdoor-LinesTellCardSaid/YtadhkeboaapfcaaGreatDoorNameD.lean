/- name.Of, Topic, All. -/
import Derived.Test.YtadhkeboaapfcaaGreatDoorNameC
namespace Go.Proofs.YtadhkeboaapfcaaGreatDoor.NameW
open Go.RowKit OctMath NameMath
set_option maxRecDepth 100000
set_option linter.unusedSimpArgs false
set_option linter.unusedVariables false

/-- what is left of Of's work at round k -/
def ofK (l : List UInt8) : Nat → List UInt8
  | 0 => ofL l
  | 1 => if (Lib.hasPrefix l deadL && groupL (l.drop 6)) = true then l.drop 6 else []
  | _ => []
theorem cut_of (l p : List UInt8) (W : World) : Calls Tryz.prog 92 #[.string (S l), .string (S p)] W fun e w' => e = .returned (.tuple #[.string (S (Lib.trimPrefix l p)), .bool (Lib.hasPrefix l p)]) ∧ w' = W := by
  have := Tryz.strings_CutPrefix (S l) (S p) W
  rw [S_list, S_list] at this
  exact this

set_option maxHeartbeats 1600000 in
theorem of_any (l : List UInt8) (hl : l.length ≤ 1099511627776) (W : World) : Calls Tryz.prog 72 #[.string (S l)] W fun e w' => e = .returned (.tuple #[.string (S (ofL l)), .bool (!(ofL l).isEmpty)]) ∧ Below W.heap.size W w' := by
  have hsz := S_size l
  go_enter Tryz.func72, Tryz.ntmps72
  go_wp2_with fail
  go_loopw [10] (fun i wr => ∃ k : Nat, k ≤ 2 ∧ i = .int .i64 (k : Int) ∧ Hid (ofL l = ofK l k) ∧ Hid (wr.cell? ⟨W.heap.size, 0, none⟩ = some (.string { data := #[37, 114, 101, 116, 114, 121, 37] }) ∧ wr.cell? ⟨W.heap.size, 1, none⟩ = some (.string { data := #[37, 100, 101, 97, 100, 37] })) ∧ Hid (Below W.heap.size W wr)) (fun i _ => 3 - (intOf i).toNat)
  case atStart => exact ⟨0, by omega, rfl, rfl, ⟨by rw [World.cell?_alloc_new]; rfl, by rw [World.cell?_alloc_new]; rfl⟩, (Below.refl _ _).alloc (Nat.le_refl _) _⟩
  case round =>
    obtain ⟨k, hk, rfl, HK, HC, HB⟩ := hrel
    rcases (show k = 0 ∨ k = 1 ∨ k = 2 by omega) with hk0 | hk1 | hk2
    · -- round 0
      subst hk0
      have hcell := HC.out.1
      have hC := fun w => cut_of l retryL w
      change ∀ w, Calls _ _ #[.string (S l), .string { data := #[37, 114, 101, 116, 114, 121, 37] }] w _ at hC
      have HG := Lib.hid (fun w => group_any (l.drop 7) (by rw [List.length_drop]; omega) w)
      have HX : Hid (ofL l = if (Lib.hasPrefix l retryL && groupL (l.drop 7)) = true then l.drop 7 else ofK l 1) := HK.out
      have HN := Lib.hid (group_ne (l.drop 7))
      by_cases hp : Lib.hasPrefix l retryL = true
      · have htr : Lib.trimPrefix l retryL = l.drop 7 := by unfold Lib.trimPrefix; rw [if_pos hp]; rfl
        rw [hp] at HX
        rw [htr, hp] at hC
        clear hp htr HK
        generalize groupL (l.drop 7) = g at *
        go_wp2_with (go_at_call 92; refine (hC _).mono ?_; rintro e w2 ⟨rfl, rfl⟩)
        refine (HG.out _).mono ?_
        rintro e w3 ⟨rfl, hb⟩
        have HB3 := Lib.hid (HB.out.trans (hb.mono HB.out.size))
        have HC3 : Hid (w3.cell? ⟨W.heap.size, 0, none⟩ = some (.string { data := #[37, 114, 101, 116, 114, 121, 37] }) ∧ w3.cell? ⟨W.heap.size, 1, none⟩ = some (.string { data := #[37, 100, 101, 97, 100, 37] })) := ⟨by rw [hb.cell (cell_lt HC.out.1)]; exact HC.out.1, by rw [hb.cell (cell_lt HC.out.2)]; exact HC.out.2⟩
        clear hb HG hC hcell
        cases g with
        | true =>
          have HT : Hid (ofL l = l.drop 7) := HX.out
          go_wp2_with fail
          go_ret2
          rw [HT.out, HN.out (by first | rfl | trivial)]
          exact ⟨rfl, HB3.out⟩
        | false =>
          have HT : Hid (ofL l = ofK l 1) := HX.out
          go_wp2_with fail
          go_roundw
          case rel => exact ⟨1, by omega, by go_num, HT, HC3, HB3⟩
          case measure => simp [intOf]
      · have hp' : Lib.hasPrefix l retryL = false := by simpa using hp
        have htr : Lib.trimPrefix l retryL = l := by unfold Lib.trimPrefix; rw [if_neg hp]
        rw [hp'] at HX
        rw [htr, hp'] at hC
        have HT : Hid (ofL l = ofK l 1) := HX.out
        clear hp hp' htr HK HX
        go_wp2_with (go_at_call 92; refine (hC _).mono ?_; rintro e w2 ⟨rfl, rfl⟩)
        go_roundw
        case rel => exact ⟨1, by omega, by go_num, HT, HC, HB⟩
        case measure => simp [intOf]
    · -- round 1
      subst hk1
      have hcell := HC.out.2
      have hC := fun w => cut_of l deadL w
      change ∀ w, Calls _ _ #[.string (S l), .string { data := #[37, 100, 101, 97, 100, 37] }] w _ at hC
      have HG := Lib.hid (fun w => group_any (l.drop 6) (by rw [List.length_drop]; omega) w)
      have HX : Hid (ofL l = if (Lib.hasPrefix l deadL && groupL (l.drop 6)) = true then l.drop 6 else ofK l 2) := HK.out
      have HN := Lib.hid (group_ne (l.drop 6))
      by_cases hp : Lib.hasPrefix l deadL = true
      · have htr : Lib.trimPrefix l deadL = l.drop 6 := by unfold Lib.trimPrefix; rw [if_pos hp]; rfl
        rw [hp] at HX
        rw [htr, hp] at hC
        clear hp htr HK
        generalize groupL (l.drop 6) = g at *
        go_wp2_with (go_at_call 92; refine (hC _).mono ?_; rintro e w2 ⟨rfl, rfl⟩)
        refine (HG.out _).mono ?_
        rintro e w3 ⟨rfl, hb⟩
        have HB3 := Lib.hid (HB.out.trans (hb.mono HB.out.size))
        have HC3 : Hid (w3.cell? ⟨W.heap.size, 0, none⟩ = some (.string { data := #[37, 114, 101, 116, 114, 121, 37] }) ∧ w3.cell? ⟨W.heap.size, 1, none⟩ = some (.string { data := #[37, 100, 101, 97, 100, 37] })) := ⟨by rw [hb.cell (cell_lt HC.out.1)]; exact HC.out.1, by rw [hb.cell (cell_lt HC.out.2)]; exact HC.out.2⟩
        clear hb HG hC hcell
        cases g with
        | true =>
          have HT : Hid (ofL l = l.drop 6) := HX.out
          go_wp2_with fail
          go_ret2
          rw [HT.out, HN.out (by first | rfl | trivial)]
          exact ⟨rfl, HB3.out⟩
        | false =>
          have HT : Hid (ofL l = ofK l 2) := HX.out
          go_wp2_with fail
          go_roundw
          case rel => exact ⟨2, by omega, by go_num, HT, HC3, HB3⟩
          case measure => simp [intOf]
      · have hp' : Lib.hasPrefix l deadL = false := by simpa using hp
        have htr : Lib.trimPrefix l deadL = l := by unfold Lib.trimPrefix; rw [if_neg hp]
        rw [hp'] at HX
        rw [htr, hp'] at hC
        have HT : Hid (ofL l = ofK l 2) := HX.out
        clear hp hp' htr HK HX
        go_wp2_with (go_at_call 92; refine (hC _).mono ?_; rintro e w2 ⟨rfl, rfl⟩)
        go_roundw
        case rel => exact ⟨2, by omega, by go_num, HT, HC, HB⟩
        case measure => simp [intOf]
    · subst hk2
      have HT : Hid (ofL l = []) := HK.out
      go_wp2_with fail
      go_ret2
      rw [HT.out]
      exact ⟨rfl, HB.out⟩

set_option maxHeartbeats 1600000 in
theorem topic_any (l : List UInt8) (hl : l.length ≤ 1099511627776) (W : World) : Calls Tryz.prog 44 #[.string (S l)] W fun e w' => e = .returned (.bool (topicL l)) ∧ Below W.heap.size W w' := by
  have HR : Hid (topicL l = (plainL l || !(ofL l).isEmpty)) := rfl
  have HP := Lib.hid (fun w => plain_any l hl w)
  have hO := fun w => of_any l hl w
  generalize plainL l = b at *
  generalize (ofL l).isEmpty = o at *
  go_enter Tryz.func44, Tryz.ntmps44
  go_wp2_with fail
  refine (hO _).mono ?_
  rintro e w2 ⟨rfl, hb⟩
  have HB := Lib.hid hb
  clear hb hO
  cases o with
  | false =>
    go_wp2_with fail
    go_ret
    rw [HR.out]
    cases b <;> exact ⟨rfl, HB.out⟩
  | true =>
    go_wp2_with fail
    refine (HP.out _).mono ?_
    rintro e w3 ⟨rfl, hb⟩
    have HB3 := Lib.hid (HB.out.trans (hb.mono HB.out.size))
    clear hb
    go_wp2_with fail
    go_ret
    rw [HR.out]
    cases b <;> exact ⟨rfl, HB3.out⟩
end Go.Proofs.YtadhkeboaapfcaaGreatDoor.NameW
