/- name.All of name.Plain. -/
import Derived.Test.YtadhkeboaapfcaaGreatDoorNameD
namespace Go.Proofs.YtadhkeboaapfcaaGreatDoor.NameW
open Go.RowKit OctMath NameMath
set_option maxRecDepth 100000
set_option linter.unusedSimpArgs false
set_option linter.unusedVariables false

theorem eql_nilf (g : Nat) (w : World) : Sem.run Tryz.prog (binOp .eql 37 (.func (.func g) #[] #[]) .nilFunc) w = .ok (.bool false) w := by
  rfl
set_option maxHeartbeats 1600000 in
theorem all_any (a : Option Addr) (cap : Nat) (ts : List (List UInt8)) (hx : ts.length ≤ 1048576) (hz : ∀ t ∈ ts, t.length ≤ 1099511627776) (W : World) (h : Strs W a (ts.map S)) :
    Calls Tryz.prog 64 #[.func (.func 65) #[] #[], .slice a ts.length cap] W fun e w' => e = .returned (.bool (ts.all plainL)) ∧ Below W.heap.size W w' := by
  have eg := enters_of Tryz.func65 (by kernel_rfl) rfl
  have HS := Lib.hid h
  clear h
  go_enter Tryz.func64, Tryz.ntmps64
  go_wp2_with fail
  go_loopw [9] (fun i wr => ∃ k : Nat, k ≤ ts.length ∧ i = .int .i64 (k : Int) ∧ Hid ((ts.take k).all plainL = true) ∧ Hid (Below W.heap.size W wr)) (fun i _ => ts.length + 1 - (intOf i).toNat)
  case atStart => exact ⟨0, by omega, rfl, rfl, Below.refl _ _⟩
  case round =>
    obtain ⟨k, hk, rfl, HA, HB⟩ := hrel
    by_cases hlt : k < ts.length
    · obtain ⟨b, off, rfl, hcell⟩ := (HS.out.below HB.out) k (by rw [List.length_map]; exact hlt)
      rw [List.getElem_map] at hcell
      have hstep : (ts.take (k + 1)).all plainL = ((ts.take k).all plainL && plainL ts[k]) := by rw [List.take_succ_eq_append_getElem hlt, List.all_append, List.all_cons, List.all_nil, Bool.and_true]
      have hmem : plainL ts[k] = false → ts.all plainL = false := fun h => by rw [List.all_eq_false]; exact ⟨ts[k], List.getElem_mem hlt, by rw [h]; simp⟩
      have hP := fun w => plain_any ts[k] (hz _ (List.getElem_mem hlt)) w
      generalize ts[k] = t at *
      have HST := Lib.hid hstep
      have HMEM := Lib.hid hmem
      clear hstep hmem
      have hnf := fun w => eql_nilf 65 w
      generalize plainL t = p at *
      go_wp2_with fail
      refine (hP _).mono ?_
      rintro e w2 ⟨rfl, hb⟩
      have HB2 := Lib.hid (HB.out.trans (hb.mono HB.out.size))
      clear hb hP hcell HB
      cases p with
      | true =>
        have HT : Hid ((ts.take (k + 1)).all plainL = true) := by show _ = _; rw [HST.out, HA.out]; rfl
        clear HST HMEM HA
        go_wp2_with fail
        go_roundw
        case rel => exact ⟨k + 1, by omega, by go_num, HT, HB2⟩
        case measure => simp [intOf]; omega
      | false =>
        have HT : Hid (ts.all plainL = false) := HMEM.out rfl
        clear HST HMEM HA
        go_wp2_with fail
        go_ret
        rw [HT.out]
        exact ⟨rfl, HB2.out⟩
    · have ek : k = ts.length := by omega
      subst ek
      rw [List.take_length] at HA
      go_wp2_with fail
      go_ret
      rw [HA.out]
      exact ⟨rfl, HB.out⟩
end Go.Proofs.YtadhkeboaapfcaaGreatDoor.NameW
