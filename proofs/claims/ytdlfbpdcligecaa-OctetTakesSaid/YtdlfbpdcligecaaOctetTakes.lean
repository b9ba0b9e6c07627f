/- The statement OctetTakes: so many bytes are taken, or why not; what isn't there reads nothing. No condition. -/
import Derived.Test.YtdlfbpdcligecaaOctH
import Derived.Test.YtdlfbpdcligecaaOctetNums
import Derived.Deep.DeepCutAuto
namespace Go.Proofs.Ytdlfbpdcligecaa.octetTakes
open Go.ChangeShapes Go.WideShapes Go.ChangeAt Go.RowKit OctW OctMath
set_option maxRecDepth 100000
set_option linter.unusedSimpArgs false
set_option linter.unusedVariables false

set_option maxHeartbeats 2000000 in
theorem law (W : World) (s : ByteArray) (hs : s.size ≤ 140737488351232) (n : Int) (hn0 : -9223372036854775808 ≤ n) (hn1 : n ≤ 9223372036854775807) :
    Calls Try.prog 6 #[.string s, .int .i64 n] W fun e w' => e = .returned (.bool true) ∧ Below W.heap.size W w' := by
  obtain ⟨l, rfl⟩ : ∃ l, s = S l := ⟨s.data.toList, (S_of s).symm⟩
  have hsz := S_size l
  rw [hsz] at hs
  have hnil := S_toList []
  go_enter Try.func6, Try.ntmps6
  go_wp2_with fail
  refine (awake01_any _).mono ?_
  rintro e w1 ⟨rfl, hb1⟩
  have HB1 := Lib.hid hb1; clear hb1
  by_cases hlen : 300 < l.length
  · go_wp2_with fail
    go_ret
    exact ⟨rfl, HB1.out⟩
  go_wp2_with fail
  refine (new_any l _).mono ?_
  rintro e w2 ⟨rfl, hra, hb2⟩
  have HG1 : Hid (W.heap.size ≤ w1.heap.size) := HB1.out.size
  have HB2 : Hid (Below W.heap.size W w2) := HB1.out.trans (hb2.mono HB1.out.size)
  have HRA := Lib.hid hra; clear hra hb2
  generalize w1.heap.size = A at *
  clear HB1 w1
  go_wp2_with fail
  have hcall := take_any A ⟨l, 0⟩ n (by omega) (by omega) (show l.length ≤ _ by omega) _ HRA.out
  have HT : Hid (takeR n ⟨l, 0⟩ = if n < 0 then ([], ⟨l, 1⟩) else if (l.length : Int) < n then ([], ⟨l, 3⟩) else (l.take n.toNat, ⟨l.drop n.toNat, 0⟩)) := by
    show _ = _
    unfold takeR; rw [if_neg (by simp)]
  refine hcall.mono ?_
  clear hcall HRA
  rintro e w3 ⟨rfl, hr3, hm3⟩
  have HR3 := Lib.hid hr3
  have HB3 : Hid (Below W.heap.size W w3) := one_below HB2.out HG1.out hm3
  clear hr3 hm3 HB2
  generalize takeR n ⟨l, 0⟩ = tr at *
  obtain ⟨t, r⟩ := tr
  simp only
  go_upto_region 8 with fail
  go_cut [51] (fun t wx => t = .bool false ∧ w3 = wx)
  case first =>
    go_wp2_with (first | (go_at_call 20; refine (num_nil 1 _).mono ?_; rintro e w' ⟨rfl, rfl⟩) | (go_at_call 26; refine (text_nil 9 _).mono ?_; rintro e w' ⟨rfl, rfl⟩) | (go_at_call 29; refine (list_nil 9 9 _).mono ?_; rintro e w' ⟨rfl, rfl⟩) | (go_at_call 30; refine (take_nil 0 _).mono ?_; rintro e w' ⟨rfl, rfl⟩) | (go_at_call 24; refine (left_nil _).mono ?_; rintro e w' ⟨rfl, rfl⟩) | (go_at_call 22; refine (err_nil _).mono ?_; rintro e w' ⟨rfl, rfl⟩) | (go_at_call 21; refine (end_nil _).mono ?_; rintro e w' ⟨rfl, rfl⟩))
    go_meet
    exact ⟨rfl, rfl⟩
  case rest =>
    obtain ⟨rfl, rfl⟩ := hcut
    by_cases h0 : n < 0
    · obtain ⟨rfl, rfl⟩ := Prod.mk.inj (HT.out.trans (if_pos h0))
      clear HT
      go_wp2_with (first | (go_at_call 22; refine (err_any A _ _ HR3.out).mono ?_; rintro e w' ⟨rfl, rfl⟩))
      go_ret
      exact ⟨rfl, HB3.out⟩
    · by_cases h1 : (l.length : Int) < n
      · obtain ⟨rfl, rfl⟩ := Prod.mk.inj (HT.out.trans ((if_neg h0).trans (if_pos h1)))
        clear HT
        go_wp2_with (first | (go_at_call 22; refine (err_any A _ _ HR3.out).mono ?_; rintro e w' ⟨rfl, rfl⟩) | (go_at_call 24; refine (left_any A _ _ HR3.out).mono ?_; rintro e w' ⟨rfl, rfl⟩))
        go_ret
        exact ⟨ret_bool (by simp), HB3.out⟩
      · obtain ⟨rfl, rfl⟩ := Prod.mk.inj (HT.out.trans ((if_neg h0).trans (if_neg h1)))
        clear HT
        obtain ⟨m, rfl⟩ : ∃ m : Nat, n = m := ⟨n.toNat, by omega⟩
        simp only [Int.toNat_natCast] at *
        have hm1 : m ≤ (S l).size := by rw [hsz]; omega
        have hd2 : (S l).extract 0 m = S (l.take m) := S_take _ _
        have hdl : (((l.drop m).length : Nat) : Int) = (l.length : Int) - m := by rw [List.length_drop]; omega
        have HL := left_any A _ _ HR3.out
        rw [hdl] at HL
        have HLL := Lib.hid HL
        clear HL hdl
        go_wp2_with fail
        refine HLL.out.mono ?_
        rintro e w' ⟨rfl, rfl⟩
        go_wp2_with (first | (go_at_call 22; refine (err_any A _ _ HR3.out).mono ?_; rintro e w' ⟨rfl, rfl⟩))
        go_ret
        exact ⟨ret_bool (by simp), HB3.out⟩

theorem lifted (os : Os) (started : os.Started) (H : Type) (enc : TypeId × Value → H) :
    ReturnsInHanded {} Try.checked os 6 .any (Rows.octetTakesSpec.pre6 enc Try.prog Try.f6 Rows.octetTakesRow.domain false) (Rows.octetTakesSpec.post enc Try.prog Try.f6 false true false false) := by
  refine returnsInHanded_of_change_sized (C := Try.checked) own started (by kernel_rfl) Try.func6
    (ChangeSpec.witness6 (enc := enc) (C := Try.checked) false ⟨#[], #[.string ⟨#[]⟩, .int .i64 0], []⟩ 8 (by kernel_rfl) (by kernel_rfl) (by kernel_rfl) (by kernel_rfl)) ?_
  intro W base args ds gs before hval0 hW hcnd0 hsz0 hholds
  have hval : ∀ (j : Nat) t v, Try.f6.params[j]? = some t → args[j]? = some v → Value.okWide Try.prog W .any base t v := hval0
  have hsz : (DataW.weightsEach Try.prog (Try.f6.params.toList ++ Rows.octetTakesSpec.plain.varTypes Try.prog) (ds ++ gs)).all (· ≤ reachBytes) = true := hsz0
  have hW' := hW
  obtain ⟨p, q, hA0, hV, rfl, hfz, hnd⟩ := hW
  have hA : DataW.TrodAll enc Try.prog W 0 (fun _ => true) true Try.f6.params.toList args.toList ds p := hA0
  rw [Try.params6] at hA hval hsz
  obtain ⟨v0, v1, d0, d1, p0, p1, rfl, rfl, rfl, h0, h1⟩ := trodAll_two hA
  obtain ⟨rfl, rfl⟩ := trodVars_none hV
  obtain ⟨x0, rfl, rfl, rfl, hx0⟩ := Go.ChangeMaps.open_string Try.underlying9 (hval 0 9 v0 rfl rfl) h0
  have z0 : x0.size ≤ 140737488351232 := of_decide_eq_true (List.all_eq_true.1 hsz _ (DataW.weights_mem_each (j := 0) (t := 9) rfl rfl x0.data.toList.length (by simp [DataW.weights])))
  obtain ⟨x1, rfl, rfl, rfl, w1⟩ := open_int Try.underlying3 (hval 1 3 v1 rfl rfl) h1
  clear hA0 hval0
  refine (law W x0 z0 x1 (i64_range w1).1 (i64_range w1).2).mono fun e W' ⟨he, hb⟩ => ?_
  subst he
  refine ⟨_, rfl, law_post hW' ?_ (tb := 4) (by kernel_rfl) Try.underlying4 rfl ⟨rfl, rfl, rfl⟩ hb⟩
  rw [Try.params6]
  intro t ht
  have : t = 9 ∨ t = 3 := by simpa using ht
  rcases this with rfl | rfl <;> exact ⟨by kernel_rfl, of_decide_eq_true (by kernel_rfl)⟩

theorem proved : Rows.OctetTakesSaid :=
  OpenClaim.holds_of_wide 6 Try.f6 rfl rfl rfl rfl rfl rfl rfl ⟨rfl, rfl, rfl, rfl, rfl⟩ rfl rfl rfl rfl rfl (by kernel_rfl) Try.func6 (by kernel_rfl)
    (of_decide_eq_true (by kernel_rfl)) (by unfold Func.isWrapper; rw [if_neg (of_decide_eq_false (by kernel_rfl))]; exact ⟨rfl, rfl⟩)
    (fun os started H enc _ => lifted os started H enc)
end Go.Proofs.Ytdlfbpdcligecaa.octetTakes
