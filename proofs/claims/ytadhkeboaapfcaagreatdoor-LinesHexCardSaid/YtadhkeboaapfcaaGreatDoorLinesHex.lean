/- The statement LinesHex: any text has the word that the document says, and is read of it; any word is a text's, or none's. No condition. -/
import Derived.Test.YtadhkeboaapfcaaGreatDoorAwake
import Derived.Test.YtadhkeboaapfcaaGreatDoorLinLaid
import Derived.Test.YtadhkeboaapfcaaGreatDoorCards
import Derived.Test.YtadhkeboaapfcaaGreatDoorTie
import Derived.SevenTiedAt
namespace Go.Proofs.YtadhkeboaapfcaaGreatDoor.linesHex
open Go.ChangeShapes Go.WideShapes Go.ChangeAt Go.RowKit OctMath HexMath EvW
set_option maxRecDepth 100000
set_option linter.unusedSimpArgs false
set_option linter.unusedVariables false

set_option maxHeartbeats 3200000 in
theorem law (W : World) (s w : ByteArray) (hs : s.size ≤ 140737488351232) (hw : w.size ≤ 140737488351232) (henv : Env W) :
    Calls Tryz.prog 4 #[.string s, .string w] W fun e w' => e = .returned (.bool true) ∧ Below W.heap.size W w' := by
  obtain ⟨l, rfl⟩ : ∃ l, s = S l := ⟨s.data.toList, (S_of s).symm⟩
  obtain ⟨m, rfl⟩ : ∃ l, w = S l := ⟨w.data.toList, (S_of w).symm⟩
  have hsz := S_size l
  have hsw := S_size m
  rw [hsz] at hs
  rw [hsw] at hw
  have htl := fun t => NameW.S_toList t
  have HAW := Lib.hid (awake_any W henv)
  clear henv
  go_enter Tryz.func4, Tryz.ntmps4
  go_wp2_with fail
  refine HAW.out.mono ?_
  rintro e w1 ⟨rfl, hb1⟩
  have HB1 := Lib.hid hb1; clear hb1 HAW
  by_cases h1 : 1000 < l.length
  · go_wp2_with fail
    go_ret
    exact ⟨rfl, HB1.out⟩
  by_cases h2 : 1000 < m.length
  · go_wp2_with fail
    go_ret
    exact ⟨rfl, HB1.out⟩
  have HH := Lib.hid (fun w => LinW.hex_any l (by omega) w)
  have HU : Hid (∀ w, Calls Tryz.prog 14 #[.string (S (hexL l))] w fun e w' => e = .returned (.tuple #[.string (S l), .bool true]) ∧ Below w.heap.size w w') := fun w => by
    have := LinW.unhex_any (hexL l) (by have := hexL_len l; omega) w
    rw [unhex_hex] at this; exact this
  have HRH := Lib.hid (fun w => LinW.rhex_any l (by omega) w)
  have HU2 := Lib.hid (fun w => LinW.unhex_any m (by omega) w)
  have HEV := Lib.hid (fun w => LinW.even_any m (by omega) w)
  have hf := unhex_false m
  have ht := unhex_true m
  have he := unhex_even m
  have hul := unhex_len m
  have HRH2 := Lib.hid (fun w => LinW.rhex_any (unhexL m).1 (by omega) w)
  rw [← he] at HEV
  clear he
  generalize hexL l = t at *
  generalize unhexL m = u at *
  obtain ⟨y, is⟩ := u
  simp only at hf ht HEV HRH2 HU2
  go_wp2_with fail
  refine (HH.out _).mono ?_
  rintro e w2 ⟨rfl, hb⟩
  have HB2 := Lib.hid (HB1.out.trans (hb.mono HB1.out.size)); clear hb HB1
  go_wp2_with fail
  refine (HU.out _).mono ?_
  rintro e w3 ⟨rfl, hb⟩
  have HB3 := Lib.hid (HB2.out.trans (hb.mono HB2.out.size)); clear hb HB2
  go_wp2_with fail
  refine (HRH.out _).mono ?_
  rintro e w4 ⟨rfl, hd⟩
  have HB4 := Lib.hid (HB3.out.trans ((hd.below _).mono HB3.out.size)); clear hd HB3
  go_wp2_with fail
  refine (HU2.out _).mono ?_
  rintro e w5 ⟨rfl, hb⟩
  have HB5 := Lib.hid (HB4.out.trans (hb.mono HB4.out.size)); clear hb HB4
  go_wp2_with fail
  refine (HEV.out _).mono ?_
  rintro e w6 ⟨rfl, hd⟩
  have HB6 := Lib.hid (HB5.out.trans ((hd.below _).mono HB5.out.size)); clear hd HB5
  clear HH HU HRH HU2 HEV
  cases is with
  | false =>
    obtain rfl := hf rfl
    clear hf ht
    go_wp2_with fail
    go_ret
    exact ⟨rfl, HB6.out⟩
  | true =>
    have hy := ht rfl
    rw [hy] at HRH2
    clear hf ht hy
    go_wp2_with fail
    refine (HRH2.out _).mono ?_
    rintro e w7 ⟨rfl, hd⟩
    have HB7 := Lib.hid (HB6.out.trans ((hd.below _).mono HB6.out.size)); clear hd HB6
    go_wp2_with fail
    go_ret
    exact ⟨ret_bool (by simp), HB7.out⟩

theorem lifted (os : Os) (started : os.Started) (H : Type) (enc : TypeId × Value → H) :
    ReturnsInHanded {} Tryz.checked os 4 .any (fun w args => (Rows.linesHexSpec.pre enc Tryz.prog Tryz.f4 [] false w args ∧ laidMetH Tryz.prog laidL w) ∧ sizedMet enc Tryz.prog Tryz.f4 (OpenSpec.ofChange Rows.linesHexSpec) false w args) (Rows.linesHexSpec.post enc Tryz.prog Tryz.f4 false true false false) := by
  refine returns_laid started (by kernel_rfl) Tryz.func4
    (ChangeSpec.witness_shaped (enc := enc) (C := Tryz.checked) (os := os) (X := fun w _ => laidMetH Tryz.prog laidL w) false (World.laidAll Tryz.prog os laidL) #[.string ⟨#[]⟩, .string ⟨#[]⟩] 8 (World.laidAll_os _ _ _)
      (laid_shaped _ _) (by kernel_rfl) (by kernel_rfl) (by kernel_rfl) (laid_met os _)) ?_
  intro W base args ds gs before hval0 hW hsz0 henv
  have hval : ∀ (j : Nat) t v, Tryz.f4.params[j]? = some t → args[j]? = some v → Value.okWide Tryz.prog W .any base t v := hval0
  have hsz : (DataW.weightsEach Tryz.prog (Tryz.f4.params.toList ++ Rows.linesHexSpec.plain.varTypes Tryz.prog) (ds ++ gs)).all (· ≤ reachBytes) = true := hsz0
  have hW' := hW
  obtain ⟨p, q, hA0, hV, rfl, hfz, hnd⟩ := hW
  have hA : DataW.TrodAll enc Tryz.prog W 0 (fun _ => true) true Tryz.f4.params.toList args.toList ds p := hA0
  rw [Tryz.params4] at hA hval hsz
  obtain ⟨v0, v1, d0, d1, p0, p1, rfl, rfl, rfl, h0, h1⟩ := trodAll_two hA
  obtain ⟨rfl, rfl⟩ := trodVars_none hV
  obtain ⟨x0, rfl, rfl, rfl, hx0⟩ := Go.ChangeMaps.open_string Tryz.underlying9 (hval 0 9 v0 rfl rfl) h0
  have z0 : x0.size ≤ 140737488351232 := of_decide_eq_true (List.all_eq_true.1 hsz _ (DataW.weights_mem_each (j := 0) (t := 9) rfl rfl x0.data.toList.length (by simp [DataW.weights])))
  obtain ⟨x1, rfl, rfl, rfl, hx1⟩ := Go.ChangeMaps.open_string Tryz.underlying9 (hval 1 9 v1 rfl rfl) h1
  have z1 : x1.size ≤ 140737488351232 := of_decide_eq_true (List.all_eq_true.1 hsz _ (DataW.weights_mem_each (j := 1) (t := 9) rfl rfl x1.data.toList.length (by simp [DataW.weights])))
  clear hA0 hval0
  refine (law W x0 x1 z0 z1 henv).mono fun e W' ⟨he, hb⟩ => ?_
  subst he
  refine ⟨_, rfl, law_post hW' ?_ (tb := 4) (by kernel_rfl) Tryz.underlying4 rfl ⟨rfl, rfl, rfl⟩ hb⟩
  rw [Tryz.params4]
  intro t ht
  have : t = 9 := by simpa using ht
  subst this
  exact ⟨by kernel_rfl, of_decide_eq_true (by kernel_rfl)⟩

theorem said : Rows.LinesHexSaid :=
  OpenClaim.holds_of_wide 4 Tryz.f4 rfl rfl rfl rfl rfl rfl rfl ⟨rfl, rfl, rfl, rfl, rfl⟩ rfl rfl rfl rfl rfl (by kernel_rfl) Tryz.func4 (by kernel_rfl)
    (of_decide_eq_true (by kernel_rfl)) (by unfold Func.isWrapper; first | (rw [if_pos (by decide +kernel)]; kernel_rfl) | (rw [if_neg (by decide +kernel)]; exact ⟨rfl, rfl⟩))
    (fun os started H enc _ => lifted os started H enc)
theorem proved : Rows.LinesHexCardSaid :=
  Claim7.holds_tied_plain_at .later [] [.data, .data, .data, .data, .sentinel, .sentinel, .pinned] true (true, "782409fd5045ed57317292997b71c8142b395dc0847e11fe0ede1823ea1308cd") true
    said (fun _ h => by cases h) (by kernel_rfl) (fun _ h => by cases h) linesHex_row_tie rfl ⟨rfl, rfl⟩ (by kernel_rfl) rfl
    (fun f fn hf hfn => by
      obtain rfl : f = 4 := Option.some.inj ((show Tryz.prog.funcNamed "reveille/reveillelaw30.LinesHex" = some 4 by kernel_rfl).symm.trans hf) |>.symm
      obtain rfl : fn = Tryz.f4 := (Option.some.inj (Tryz.func4.symm.trans hfn)).symm
      exact ⟨by kernel_rfl, fun j t ht => by
        rw [Tryz.params4] at ht
        have hm : t ∈ [9, 9] := by simpa using Array.mem_of_getElem? ht
        have hall : ([9, 9].all fun u => !Tryz.prog.wantsStandIn u) = true := by kernel_rfl
        exact (show Tryz.prog.wantsStandIn t = false by simpa using List.all_eq_true.1 hall t hm)⟩)
    (by kernel_rfl)
end Go.Proofs.YtadhkeboaapfcaaGreatDoor.linesHex
