/- The statement StoreNone: without two disks, or at no time, there is no store; what isn't there has nothing; the clock goes on, never back. No condition. -/
import Derived.Test.YtikjahfeecdfgaaGreatDoorN11
import Derived.Test.YtikjahfeecdfgaaGreatDoorCards
import Derived.Test.YtikjahfeecdfgaaGreatDoorTie
import Derived.SevenTiedAt
namespace Go.Proofs.YtikjahfeecdfgaaGreatDoor.storeNone
open Go.ChangeShapes Go.WideShapes Go.ChangeAt Go.RowKit OctMath StoW
set_option maxRecDepth 100000
set_option linter.unusedSimpArgs false
set_option linter.unusedVariables false
theorem lifted (os : Os) (started : os.Started) (H : Type) (enc : TypeId × Value → H) :
    ReturnsInHanded {} Tryz.checked os 5 .any (fun w args => (Rows.storeNoneSpec.pre enc Tryz.prog Tryz.f5 [] false w args ∧ laidMetH Tryz.prog laidL w) ∧ sizedMet enc Tryz.prog Tryz.f5 (OpenSpec.ofChange Rows.storeNoneSpec) false w args) (Rows.storeNoneSpec.post enc Tryz.prog Tryz.f5 false true false false) := by
  refine returns_laid started (by kernel_rfl) Tryz.func5
    (ChangeSpec.witness_shaped (enc := enc) (C := Tryz.checked) (os := os) (X := fun w _ => laidMetH Tryz.prog laidL w) false (World.laidAll Tryz.prog os laidL) #[.int .i64 0, .int .i64 0, .agg #[.int .i64 0, .int .i64 0, .int .i64 0, .int .i64 0, .int .i64 0, .int .i64 0, .string ⟨#[]⟩, .string ⟨#[]⟩, .string ⟨#[]⟩, .slice none 0 0]] 8 (World.laidAll_os _ _ _)
      (laid_shaped _ _) (by kernel_rfl) (by kernel_rfl) (by kernel_rfl) (laid_met os _)) ?_
  intro W base args ds gs before hval0 hW hsz0 henv
  have hval : ∀ (j : Nat) t v, Tryz.f5.params[j]? = some t → args[j]? = some v → Value.okWide Tryz.prog W .any base t v := hval0
  have hsz : (DataW.weightsEach Tryz.prog (Tryz.f5.params.toList ++ Rows.storeNoneSpec.plain.varTypes Tryz.prog) (ds ++ gs)).all (· ≤ reachBytes) = true := hsz0
  have hW' := hW
  obtain ⟨p, q, hA0, hV, rfl, hfz, hnd⟩ := hW
  have hA : DataW.TrodAll enc Tryz.prog W 0 (fun _ => true) true Tryz.f5.params.toList args.toList ds p := hA0
  rw [Tryz.params5] at hA hval hsz
  obtain ⟨v0, v1, v2, d0, d1, d2, p0, p1, p2, rfl, rfl, rfl, h0, h1, h2⟩ := trodAll_three hA
  obtain ⟨rfl, rfl⟩ := trodVars_none hV
  obtain ⟨x0, rfl, rfl, rfl, w0⟩ := open_int Tryz.underlying3 (hval 0 3 v0 rfl rfl) h0
  obtain ⟨x1, rfl, rfl, rfl, w1⟩ := open_int Tryz.underlying3 (hval 1 3 v1 rfl rfl) h1
  obtain ⟨cs, rfl, hcs⟩ := okWide_struct Tryz.underlying34 (hval 2 34 v2 rfl rfl)
  have hc10 : cs.size = 10 := hcs.trans (by kernel_rfl)
  obtain ⟨f2, hf2⟩ := h2
  obtain ⟨m, a, c, hv2, hS, hI⟩ := open_msg (cs := cs.toList) hc10 hf2
  obtain rfl : cs = RecW.cellsM m a c := Array.toList_inj.1 hv2
  clear hA0 hval0
  refine (none_any x0 x1 m a c W henv hI hS (i64_in w0) (i64_in w1)).mono fun e W' ⟨he, hb⟩ => ?_
  subst he
  refine ⟨_, rfl, law_post hW' ?_ (tb := 4) (by kernel_rfl) Tryz.underlying4 rfl ⟨rfl, rfl, rfl⟩ hb⟩
  rw [Tryz.params5]
  intro t ht
  have : t = 3 ∨ t = 34 := by simpa using ht
  rcases this with rfl | rfl <;> exact ⟨by kernel_rfl, of_decide_eq_true (by kernel_rfl)⟩
theorem fact0 : Rows.storeNoneRow.wf (OpenSpec.ofChange Rows.storeNoneSpec) = true := by kernel_rfl
theorem fact1 : laidOutB Tryz.prog = true := laidOut
theorem fact2 : mapsRowed Tryz.prog = true := by kernel_rfl
theorem fact3 : Tryz.f5.params.all (Tryz.prog.readableRec ·) = true := by kernel_rfl
theorem fact4 : namedTie Tryz.prog Rows.storeNoneRow.named Rows.storeNoneSpec.vars = true := by kernel_rfl
theorem fact5 : (Rows.storeNoneRow.stops == []) = true := by kernel_rfl
theorem fact6 : (Tryz.prog.stops == []) = true := by kernel_rfl
theorem fact7 : (Rows.storeNoneRow.knobs == []) = true := by kernel_rfl
theorem fact8 : (Tryz.prog.stopKnobs == []) = true := by kernel_rfl
theorem fact9 : (Rows.storeNoneRow.inPlace == Tryz.prog.inPlace 5) = true := by kernel_rfl
theorem fact10 : (Rows.storeNoneRow.unfollowed == Tryz.prog.unfollowed 5) = true := by kernel_rfl
theorem fact11 : (Rows.storeNoneRow.recurses == Tryz.prog.recurses 5) = true := by kernel_rfl
theorem fact12 : (Rows.storeNoneRow.named == Tryz.prog.varsNamed 5) = true := by kernel_rfl
theorem fact13 : (Rows.storeNoneRow.maps == (Tryz.f5.params.toList ++ Rows.storeNoneSpec.plain.varTypes Tryz.prog).any (Tryz.prog.mapsRec ·)) = true := by kernel_rfl
theorem fact14 : (Rows.storeNoneRow.ifaces == (Tryz.f5.params.toList ++ Rows.storeNoneSpec.plain.varTypes Tryz.prog).any (Tryz.prog.ifacesRec ·)) = true := by kernel_rfl
theorem fact15 : (Rows.storeNoneRow.mapsOut == Tryz.prog.mapsAmong Tryz.f5.resultTypes.toList) = true := by kernel_rfl
theorem fact16 : (Rows.storeNoneRow.loops == (Tryz.f5.params.toList ++ Rows.storeNoneSpec.plain.varTypes Tryz.prog).any (Tryz.prog.loopsFrom ·)) = true := by kernel_rfl
theorem fact17 : (Rows.storeNoneRow.wideKeys == (Tryz.f5.params.toList ++ Rows.storeNoneSpec.plain.varTypes Tryz.prog ++ Tryz.f5.resultTypes.toList).any (Tryz.prog.wideKeysFrom ·)) = true := by kernel_rfl
theorem fact18 : Rows.storeNoneSpec.vars.all (Tryz.prog.varReadable ·) = true := by kernel_rfl
theorem fact19 : Tryz.f5.resultTypes.all (fun t => Tryz.prog.readableRec t && decide (t < Tryz.prog.types.size)) = true := by kernel_rfl
theorem fact20 : (Rows.storeNoneRow.ifacesOut == Tryz.f5.resultTypes.toList.any (Tryz.prog.ifacesRec ·)) = true := by kernel_rfl
theorem fact21 : (Rows.storeNoneRow.loopsOut == Tryz.f5.resultTypes.toList.any (Tryz.prog.loopsFrom ·)) = true := by kernel_rfl
theorem fact22 : (Rows.storeNoneRow.plainKeys == Tryz.prog.plainKeys) = true := by kernel_rfl
theorem fact23 : Rows.storeNoneRow.shortTexts.isNone = true := by kernel_rfl
theorem fact24 : Tryz.prog.stopsHeard = true := by kernel_rfl
theorem fact25 : Tryz.prog.mayEnter = true := by kernel_rfl
theorem fact26 : (Rows.storeNoneRow.lifted == Tryz.prog.liftsFinal) = true := by kernel_rfl
theorem fact27 : (Tryz.prog.make == some Rows.storeNoneRow.make) = true := by kernel_rfl
theorem fact28 : (Rows.storeNoneRow.kinds == (if Rows.storeNoneRow.domain.isEmpty then [] else Tryz.f5.params.toList.map fun t => match Tryz.prog.underlying t with | some (.int k) => some k | _ => none)) = true := by kernel_rfl
theorem fact29 : (Rows.storeNoneRow.pinned == Rows.storeNoneRow.pinnedBy) = true := by kernel_rfl
theorem fact30 : (Rows.storeNoneRow.veiled == (Tryz.f5.params.toList ++ Rows.storeNoneSpec.plain.varTypes Tryz.prog ++ Tryz.f5.resultTypes.toList).any (Tryz.prog.veiledRec ·)) = true := by kernel_rfl
theorem fact31 : Rows.storeNoneRow.veiledFits Tryz.prog Tryz.f5.params.toList (Tryz.f5.params.toList ++ Rows.storeNoneSpec.plain.varTypes Tryz.prog ++ Tryz.f5.resultTypes.toList) = true := by kernel_rfl
theorem closed : joinedFacts Tryz.prog 5 Tryz.f5 Rows.storeNoneSpec Rows.storeNoneRow = true :=
  Bool.and_eq_true_iff.2 ⟨Bool.and_eq_true_iff.2 ⟨Bool.and_eq_true_iff.2 ⟨Bool.and_eq_true_iff.2 ⟨Bool.and_eq_true_iff.2 ⟨Bool.and_eq_true_iff.2 ⟨Bool.and_eq_true_iff.2 ⟨Bool.and_eq_true_iff.2 ⟨Bool.and_eq_true_iff.2 ⟨Bool.and_eq_true_iff.2 ⟨Bool.and_eq_true_iff.2 ⟨Bool.and_eq_true_iff.2 ⟨Bool.and_eq_true_iff.2 ⟨Bool.and_eq_true_iff.2 ⟨Bool.and_eq_true_iff.2 ⟨Bool.and_eq_true_iff.2 ⟨Bool.and_eq_true_iff.2 ⟨Bool.and_eq_true_iff.2 ⟨Bool.and_eq_true_iff.2 ⟨Bool.and_eq_true_iff.2 ⟨Bool.and_eq_true_iff.2 ⟨Bool.and_eq_true_iff.2 ⟨Bool.and_eq_true_iff.2 ⟨Bool.and_eq_true_iff.2 ⟨Bool.and_eq_true_iff.2 ⟨Bool.and_eq_true_iff.2 ⟨Bool.and_eq_true_iff.2 ⟨Bool.and_eq_true_iff.2 ⟨Bool.and_eq_true_iff.2 ⟨Bool.and_eq_true_iff.2 ⟨Bool.and_eq_true_iff.2 ⟨fact0, fact1⟩, fact2⟩, fact3⟩, fact4⟩, fact5⟩, fact6⟩, fact7⟩, fact8⟩, fact9⟩, fact10⟩, fact11⟩, fact12⟩, fact13⟩, fact14⟩, fact15⟩, fact16⟩, fact17⟩, fact18⟩, fact19⟩, fact20⟩, fact21⟩, fact22⟩, fact23⟩, fact24⟩, fact25⟩, fact26⟩, fact27⟩, fact28⟩, fact29⟩, fact30⟩, fact31⟩
theorem named : Tryz.prog.funcNamed "reveille/reveillelaw21.StoreNone" = some 5 := by kernel_rfl
theorem wrapper : Tryz.f5.isWrapper Tryz.prog Rows.storeNoneRow.wrapper Rows.storeNoneRow.mainSum := by unfold Func.isWrapper; first | (rw [if_pos (by decide +kernel)]; kernel_rfl) | (rw [if_neg (by decide +kernel)]; exact ⟨rfl, rfl⟩)
theorem said : Rows.StoreNoneSaid :=
  OpenClaim.holds_of_wide 5 Tryz.f5 rfl rfl rfl rfl rfl rfl rfl ⟨rfl, rfl, rfl, rfl, rfl⟩ rfl rfl rfl rfl rfl named Tryz.func5 closed
    (of_decide_eq_true (by kernel_rfl)) wrapper
    (fun os started H enc _ => lifted os started H enc)
theorem wfText : Rows.storeNoneRow.wfByText (OpenSpec.ofChange Rows.storeNoneSpec) = true := by kernel_rfl
theorem mainIs : Tryz.prog.mainIs = some (true, "ee2f4c2b7190b5991ab7e8e36880be3fe1cfd9177cf11c9c62b430ca28a29b97".toList) := by kernel_rfl
theorem looks : true = Tryz.prog.looks [] := by kernel_rfl
theorem goes : false = Rows.storeNoneRow.goesBy Tryz.prog := by kernel_rfl
theorem plainArgs : ([3, 3, 34].all fun u => !Tryz.prog.wantsStandIn u) = true := by kernel_rfl
theorem proved : Rows.StoreNoneCardSaid :=
  Claim7.holds_tied_plain_at .later [] [.data, .data, .data, .data, .sentinel, .sentinel, .pinned] true (true, "ee2f4c2b7190b5991ab7e8e36880be3fe1cfd9177cf11c9c62b430ca28a29b97") true
    said (fun _ h => by cases h) wfText (fun _ h => by cases h) storeNone_row_tie rfl ⟨rfl, rfl⟩ mainIs rfl
    (fun f fn hf hfn => by
      obtain rfl : f = 5 := Option.some.inj (named.symm.trans hf) |>.symm
      obtain rfl : fn = Tryz.f5 := (Option.some.inj (Tryz.func5.symm.trans hfn)).symm
      exact ⟨looks, fun j t ht => by
        rw [Tryz.params5] at ht
        have hm : t ∈ [3, 3, 34] := by simpa using Array.mem_of_getElem? ht
        exact (show Tryz.prog.wantsStandIn t = false by simpa using List.all_eq_true.1 plainArgs t hm)⟩)
    goes
end Go.Proofs.YtikjahfeecdfgaaGreatDoor.storeNone
