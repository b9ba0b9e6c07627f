/- The statement CrcTables: for all k and b the tables have what the document says, and outside them there is nothing. No condition. -/
import Derived.Test.YtfndekonkcdboaaCrcE
import Derived.Test.YtfndekonkcdboaaLaw
namespace Go.Proofs.Ytfndekonkcdboaa.crcTables
open Go.ChangeShapes Go.WideShapes Go.ChangeAt Go.RowKit CrcW CrcMath
set_option maxRecDepth 100000
set_option linter.unusedSimpArgs false
set_option linter.unusedVariables false

set_option maxHeartbeats 1000000 in
theorem law (k b : Int) (W : World) :
    Calls Try.prog 5 #[.int .i64 k, .int .i64 b] W fun e w' => e = .returned (.bool true) ∧ Below W.heap.size W w' := by
  by_cases hin : 0 ≤ k ∧ k ≤ 3 ∧ 0 ≤ b ∧ b ≤ 255
  · obtain ⟨h1, h2, h3, h4⟩ := hin
    obtain ⟨k, rfl⟩ := Int.eq_ofNat_of_zero_le h1
    obtain ⟨b, rfl⟩ := Int.eq_ofNat_of_zero_le h3
    have hbb : ((BitVec.ofNat 32 b).toNat : Int) = (b : Int) := by simp; omega
    have hst : Hid (steps (8 * (k + 1)) (BitVec.ofNat 32 b) = tab k (BitVec.ofNat 8 b)) := by
      unfold tab ext
      congr 1
      apply BitVec.eq_of_toNat_eq; simp; omega
    have hra := fun w => rat_any k (BitVec.ofNat 32 b) (by omega) w
    rw [hbb, hst.out] at hra
    have HRA := Lib.hid hra; clear hra hbb hst
    go_enter Try.func5, Try.ntmps5
    go_wp2_with (go_at_call 8; refine (awake_any _).mono ?_; rintro e w1 ⟨rfl, hb1⟩)
    have HB1 := Lib.hid hb1; clear hb1
    refine (new_any _).mono ?_
    rintro e w2 ⟨B, rfl, hl⟩
    have HB2 : Hid (Below W.heap.size W w2) := HB1.out.trans (hl.below.mono HB1.out.size)
    have HT := Lib.hid hl.tabs
    clear hl
    go_wp2_with fail
    refine (at_nil _ _ _).mono ?_
    rintro e w3 ⟨rfl, rfl⟩
    go_wp2_with fail
    refine (at_in B k b (by omega) (by omega) _ HT.out).mono ?_
    rintro e w4 ⟨rfl, rfl⟩
    go_wp2_with fail
    refine (HRA.out _).mono ?_
    rintro e w5 ⟨rfl, rfl⟩
    go_wp2_with fail
    go_ret
    exact ⟨ret_bool (by simp), HB2.out⟩
  · have hout : k < 0 ∨ 4 ≤ k ∨ b < 0 ∨ 256 ≤ b := by omega
    have hcases : k < 0 ∨ (0 ≤ k ∧ 3 < k) ∨ (0 ≤ k ∧ k ≤ 3 ∧ b < 0) ∨ (0 ≤ k ∧ k ≤ 3 ∧ 0 ≤ b ∧ 255 < b) := by omega
    have HO := Lib.hid hout; clear hout hin
    rcases hcases with h | ⟨h, h'⟩ | ⟨h, h', h''⟩ | ⟨h, h', h'', h3⟩
    all_goals
      go_enter Try.func5, Try.ntmps5
      go_wp2_with (go_at_call 8; refine (awake_any _).mono ?_; rintro e w1 ⟨rfl, hb1⟩)
      have HB1 := Lib.hid hb1; clear hb1
      refine (new_any _).mono ?_
      rintro e w2 ⟨B, rfl, hl⟩
      have HB2 : Hid (Below W.heap.size W w2) := HB1.out.trans (hl.below.mono HB1.out.size)
      clear hl
      go_wp2_with fail
      refine (at_nil _ _ _).mono ?_
      rintro e w3 ⟨rfl, rfl⟩
      go_wp2_with fail
      refine (at_out B k b HO.out _).mono ?_
      rintro e w4 ⟨rfl, rfl⟩
      go_wp2_with fail
      go_ret
      exact ⟨ret_bool (by simp), HB2.out⟩

theorem lifted (os : Os) (started : os.Started) (H : Type) (enc : TypeId × Value → H) :
    ReturnsInHanded {} Try.checked os 5 .any (Rows.crcTablesSpec.pre6 enc Try.prog Try.f5 Rows.crcTablesRow.domain false) (Rows.crcTablesSpec.post enc Try.prog Try.f5 false true false false) := by
  refine returnsInHanded_of_change (C := Try.checked) own started (by kernel_rfl) Try.func5
    (ChangeSpec.witness6 (enc := enc) (C := Try.checked) false ⟨#[], #[.int .i64 0, .int .i64 0], []⟩ 8 (by kernel_rfl) (by kernel_rfl) (by kernel_rfl) (by kernel_rfl)) ?_
  intro W base args ds gs before hval0 hW hcnd _
  have hval : ∀ (j : Nat) t v, Try.f5.params[j]? = some t → args[j]? = some v → Value.okWide Try.prog W .any base t v := hval0
  have hW' := hW
  obtain ⟨p, q, hA0, hV, rfl, hfz, hnd⟩ := hW
  have hA : DataW.TrodAll enc Try.prog W 0 (fun _ => true) true Try.f5.params.toList args.toList ds p := hA0
  rw [Try.params5] at hA hval
  obtain ⟨v0, v1, d0, d1, p0, p1, rfl, rfl, rfl, h0, h1⟩ := trodAll_two hA
  obtain ⟨rfl, rfl⟩ := trodVars_none hV
  obtain ⟨k, rfl, rfl, rfl, wa⟩ := open_int Try.underlying3 (hval 0 3 v0 rfl rfl) h0
  obtain ⟨b, rfl, rfl, rfl, wb⟩ := open_int Try.underlying3 (hval 1 3 v1 rfl rfl) h1
  clear hA0 hval0
  refine (law k b W).mono fun e W' ⟨he, hb⟩ => ?_
  subst he
  refine ⟨_, rfl, law_post hW' ?_ (tb := 4) (by kernel_rfl) Try.underlying4 rfl ⟨rfl, rfl, rfl⟩ hb⟩
  rw [Try.params5]
  intro t ht
  have : t = 3 := by simpa using ht
  subst this
  exact ⟨by kernel_rfl, of_decide_eq_true (by kernel_rfl)⟩

theorem proved : Rows.CrcTablesSaid :=
  OpenClaim.holds_of_wide 5 Try.f5 rfl rfl rfl rfl rfl rfl rfl ⟨rfl, rfl, rfl, rfl, rfl⟩ rfl rfl rfl rfl rfl (by kernel_rfl) Try.func5 (by kernel_rfl)
    (of_decide_eq_true (by kernel_rfl)) (by unfold Func.isWrapper; rw [if_neg (of_decide_eq_false (by kernel_rfl))]; exact ⟨rfl, rfl⟩)
    (fun os started H enc _ => lifted os started H enc)
end Go.Proofs.Ytfndekonkcdboaa.crcTables
