/- The statement SendSends: whatever is sent, now or later: its record stands on the tape, or why not, as the document says; what is refused leaves the tape as it was. No condition. -/
import Derived.Test.YtjjkhbfimpgplaaGreatDoorR10
import Derived.Test.YtjjkhbfimpgplaaGreatDoorR11
import Derived.Test.YtjjkhbfimpgplaaGreatDoorCards
import Derived.Test.YtjjkhbfimpgplaaGreatDoorTie
import Derived.SevenTiedAt
set_option maxHeartbeats 25600000
namespace Go.Proofs.YtjjkhbfimpgplaaGreatDoor.sendSends
open Go.ChangeShapes Go.WideShapes Go.ChangeAt Go.RowKit OctMath StoW SndW
set_option maxRecDepth 100000
set_option linter.unusedSimpArgs false
set_option linter.unusedVariables false
theorem lifted (os : Os) (started : os.Started) (H : Type) (enc : TypeId × Value → H) :
 ReturnsInHanded {} Tryz.checked os 5 .any (fun w args => (Rows.sendSendsSpec.pre enc Tryz.prog Tryz.f5 [] false w args ∧ laidMetH Tryz.prog laidL w) ∧ sizedMet enc Tryz.prog Tryz.f5 (OpenSpec.ofChange Rows.sendSendsSpec) false w args) (Rows.sendSendsSpec.post enc Tryz.prog Tryz.f5 false true false false) := by
 refine returns_laid started (by kernel_rfl) Tryz.func5
  (ChangeSpec.witness_shaped (enc := enc) (C := Tryz.checked) (os := os) (X := fun w _ => laidMetH Tryz.prog laidL w) false (World.laidAll Tryz.prog os laidL) #[.agg #[.string ⟨#[]⟩, .int .i64 0, .string ⟨#[]⟩, .slice none 0 0, .string ⟨#[]⟩], .agg #[.int .i64 0, .int .i64 0, .bool false, .int .u8 0]] 8 (World.laidAll_os _ _ _)
   (laid_shaped _ _) (by kernel_rfl) (by kernel_rfl) (by kernel_rfl) (laid_met os _)) ?_
 intro W base args ds gs before hval0 hW hsz0 henv
 have hval : ∀ (j : Nat) t v, Tryz.f5.params[j]? = some t → args[j]? = some v → Value.okWide Tryz.prog W .any base t v := hval0
 have hsz : (DataW.weightsEach Tryz.prog (Tryz.f5.params.toList ++ Rows.sendSendsSpec.plain.varTypes Tryz.prog) (ds ++ gs)).all (· ≤ reachBytes) = true := hsz0
 have hW' := hW
 obtain ⟨p, q, hA0, hV, rfl, hfz, hnd⟩ := hW
 have hA : DataW.TrodAll enc Tryz.prog W 0 (fun _ => true) true Tryz.f5.params.toList args.toList ds p := hA0
 rw [Tryz.params5] at hA hval hsz
 obtain ⟨v0, v1, d0, d1, p0, p1, rfl, rfl, rfl, h0, h1⟩ := trodAll_two hA
 obtain ⟨rfl, rfl⟩ := trodVars_none hV
 obtain ⟨cs, rfl, hcs⟩ := okWide_struct Tryz.underlying33 (hval 0 33 v0 rfl rfl)
 have hc5 : cs.size = 5 := hcs.trans (by kernel_rfl)
 obtain ⟨f0, hf0⟩ := h0
 obtain ⟨x, a, c, hv0, hS, hI, hC⟩ := open_want (cs := cs.toList) hc5 hf0
 obtain rfl : cs = cellsW x a c := Array.toList_inj.1 hv0
 obtain ⟨cn, rfl, hcn⟩ := okWide_struct Tryz.underlying75 (hval 1 75 v1 rfl rfl)
 have hc4 : cn.size = 4 := hcn.trans (by kernel_rfl)
 obtain ⟨f1, hf1⟩ := h1
 obtain ⟨now, at1, sy, full, hv1, hn, ha, hu⟩ := open_when (cs := cn.toList) hc4 hf1
 obtain rfl : cn = #[.int .i64 now, .int .i64 at1, .bool sy, .int .u8 full] := Array.toList_inj.1 hv1
 clear hA0 hval0
 refine (sendsends_any x now at1 sy full hI hn ha hu a c hC W henv hS).mono fun e W' ⟨he, hb⟩ => ?_
 subst he
 refine ⟨_, rfl, law_post hW' ?_ (tb := 4) (by kernel_rfl) Tryz.underlying4 rfl ⟨rfl, rfl, rfl⟩ hb⟩
 rw [Tryz.params5]
 intro t ht
 have : t = 33 ∨ t = 75 := by simpa using ht
 rcases this with rfl | rfl <;> exact ⟨by kernel_rfl, of_decide_eq_true (by kernel_rfl)⟩
theorem fact0 : Rows.sendSendsRow.wf (OpenSpec.ofChange Rows.sendSendsSpec) = true := by kernel_rfl
theorem fact1 : laidOutB Tryz.prog = true := laidOut
theorem fact2 : mapsRowed Tryz.prog = true := by kernel_rfl
theorem fact3 : Tryz.f5.params.all (Tryz.prog.readableRec ·) = true := by kernel_rfl
theorem fact4 : namedTie Tryz.prog Rows.sendSendsRow.named Rows.sendSendsSpec.vars = true := by kernel_rfl
theorem fact5 : (Rows.sendSendsRow.stops == []) = true := by kernel_rfl
theorem fact6 : (Tryz.prog.stops == []) = true := by kernel_rfl
theorem fact7 : (Rows.sendSendsRow.knobs == []) = true := by kernel_rfl
theorem fact8 : (Tryz.prog.stopKnobs == []) = true := by kernel_rfl
theorem fact9 : (Rows.sendSendsRow.inPlace == Tryz.prog.inPlace 5) = true := by kernel_rfl
theorem fact10 : (Rows.sendSendsRow.unfollowed == Tryz.prog.unfollowed 5) = true := by kernel_rfl
theorem fact11 : (Rows.sendSendsRow.recurses == Tryz.prog.recurses 5) = true := by kernel_rfl
theorem fact12 : (Rows.sendSendsRow.named == Tryz.prog.varsNamed 5) = true := by kernel_rfl
theorem fact13 : (Rows.sendSendsRow.maps == (Tryz.f5.params.toList ++ Rows.sendSendsSpec.plain.varTypes Tryz.prog).any (Tryz.prog.mapsRec ·)) = true := by kernel_rfl
theorem fact14 : (Rows.sendSendsRow.ifaces == (Tryz.f5.params.toList ++ Rows.sendSendsSpec.plain.varTypes Tryz.prog).any (Tryz.prog.ifacesRec ·)) = true := by kernel_rfl
theorem fact15 : (Rows.sendSendsRow.mapsOut == Tryz.prog.mapsAmong Tryz.f5.resultTypes.toList) = true := by kernel_rfl
theorem fact16 : (Rows.sendSendsRow.loops == (Tryz.f5.params.toList ++ Rows.sendSendsSpec.plain.varTypes Tryz.prog).any (Tryz.prog.loopsFrom ·)) = true := by kernel_rfl
theorem fact17 : (Rows.sendSendsRow.wideKeys == (Tryz.f5.params.toList ++ Rows.sendSendsSpec.plain.varTypes Tryz.prog ++ Tryz.f5.resultTypes.toList).any (Tryz.prog.wideKeysFrom ·)) = true := by kernel_rfl
theorem fact18 : Rows.sendSendsSpec.vars.all (Tryz.prog.varReadable ·) = true := by kernel_rfl
theorem fact19 : Tryz.f5.resultTypes.all (fun t => Tryz.prog.readableRec t && decide (t < Tryz.prog.types.size)) = true := by kernel_rfl
theorem fact20 : (Rows.sendSendsRow.ifacesOut == Tryz.f5.resultTypes.toList.any (Tryz.prog.ifacesRec ·)) = true := by kernel_rfl
theorem fact21 : (Rows.sendSendsRow.loopsOut == Tryz.f5.resultTypes.toList.any (Tryz.prog.loopsFrom ·)) = true := by kernel_rfl
theorem fact22 : (Rows.sendSendsRow.plainKeys == Tryz.prog.plainKeys) = true := by kernel_rfl
theorem fact23 : Rows.sendSendsRow.shortTexts.isNone = true := by kernel_rfl
theorem fact24 : Tryz.prog.stopsHeard = true := by kernel_rfl
theorem fact25 : Tryz.prog.mayEnter = true := by kernel_rfl
theorem fact26 : (Rows.sendSendsRow.lifted == Tryz.prog.liftsFinal) = true := by kernel_rfl
theorem fact27 : (Tryz.prog.make == some Rows.sendSendsRow.make) = true := by kernel_rfl
theorem fact28 : (Rows.sendSendsRow.kinds == (if Rows.sendSendsRow.domain.isEmpty then [] else Tryz.f5.params.toList.map fun t => match Tryz.prog.underlying t with | some (.int k) => some k | _ => none)) = true := by kernel_rfl
theorem fact29 : (Rows.sendSendsRow.pinned == Rows.sendSendsRow.pinnedBy) = true := by kernel_rfl
theorem fact30 : (Rows.sendSendsRow.veiled == (Tryz.f5.params.toList ++ Rows.sendSendsSpec.plain.varTypes Tryz.prog ++ Tryz.f5.resultTypes.toList).any (Tryz.prog.veiledRec ·)) = true := by kernel_rfl
theorem fact31 : Rows.sendSendsRow.veiledFits Tryz.prog Tryz.f5.params.toList (Tryz.f5.params.toList ++ Rows.sendSendsSpec.plain.varTypes Tryz.prog ++ Tryz.f5.resultTypes.toList) = true := by kernel_rfl
theorem closed : joinedFacts Tryz.prog 5 Tryz.f5 Rows.sendSendsSpec Rows.sendSendsRow = true :=
 Bool.and_eq_true_iff.2 ⟨Bool.and_eq_true_iff.2 ⟨Bool.and_eq_true_iff.2 ⟨Bool.and_eq_true_iff.2 ⟨Bool.and_eq_true_iff.2 ⟨Bool.and_eq_true_iff.2 ⟨Bool.and_eq_true_iff.2 ⟨Bool.and_eq_true_iff.2 ⟨Bool.and_eq_true_iff.2 ⟨Bool.and_eq_true_iff.2 ⟨Bool.and_eq_true_iff.2 ⟨Bool.and_eq_true_iff.2 ⟨Bool.and_eq_true_iff.2 ⟨Bool.and_eq_true_iff.2 ⟨Bool.and_eq_true_iff.2 ⟨Bool.and_eq_true_iff.2 ⟨Bool.and_eq_true_iff.2 ⟨Bool.and_eq_true_iff.2 ⟨Bool.and_eq_true_iff.2 ⟨Bool.and_eq_true_iff.2 ⟨Bool.and_eq_true_iff.2 ⟨Bool.and_eq_true_iff.2 ⟨Bool.and_eq_true_iff.2 ⟨Bool.and_eq_true_iff.2 ⟨Bool.and_eq_true_iff.2 ⟨Bool.and_eq_true_iff.2 ⟨Bool.and_eq_true_iff.2 ⟨Bool.and_eq_true_iff.2 ⟨Bool.and_eq_true_iff.2 ⟨Bool.and_eq_true_iff.2 ⟨Bool.and_eq_true_iff.2 ⟨fact0, fact1⟩, fact2⟩, fact3⟩, fact4⟩, fact5⟩, fact6⟩, fact7⟩, fact8⟩, fact9⟩, fact10⟩, fact11⟩, fact12⟩, fact13⟩, fact14⟩, fact15⟩, fact16⟩, fact17⟩, fact18⟩, fact19⟩, fact20⟩, fact21⟩, fact22⟩, fact23⟩, fact24⟩, fact25⟩, fact26⟩, fact27⟩, fact28⟩, fact29⟩, fact30⟩, fact31⟩
theorem named : Tryz.prog.funcNamed "reveille/reveillelaw22.SendSends" = some 5 := by kernel_rfl
theorem wrapper : Tryz.f5.isWrapper Tryz.prog Rows.sendSendsRow.wrapper Rows.sendSendsRow.mainSum := by unfold Func.isWrapper; first | (rw [if_pos (by decide +kernel)]; kernel_rfl) | (rw [if_neg (by decide +kernel)]; exact ⟨rfl, rfl⟩)
theorem said : Rows.SendSendsSaid :=
 OpenClaim.holds_of_wide 5 Tryz.f5 rfl rfl rfl rfl rfl rfl rfl ⟨rfl, rfl, rfl, rfl, rfl⟩ rfl rfl rfl rfl rfl named Tryz.func5 closed
  (of_decide_eq_true (by kernel_rfl)) wrapper
  (fun os started H enc _ => lifted os started H enc)
theorem wfText : Rows.sendSendsRow.wfByText (OpenSpec.ofChange Rows.sendSendsSpec) = true := by kernel_rfl
theorem mainIs : Tryz.prog.mainIs = some (true, "409958adb9ee5017522d6781efb7a3354a657ca26bb5c02b74792ee2effd86eb".toList) := by kernel_rfl
theorem looks : true = Tryz.prog.looks [] := by kernel_rfl
theorem goes : false = Rows.sendSendsRow.goesBy Tryz.prog := by kernel_rfl
theorem plainArgs : ([33, 75].all fun u => !Tryz.prog.wantsStandIn u) = true := by kernel_rfl
theorem proved : Rows.SendSendsCardSaid :=
 Claim7.holds_tied_plain_at .later [] [.data, .data, .data, .data, .sentinel, .sentinel, .pinned] true (true, "409958adb9ee5017522d6781efb7a3354a657ca26bb5c02b74792ee2effd86eb") true
  said (fun _ h => by cases h) wfText (fun _ h => by cases h) sendSends_row_tie rfl ⟨rfl, rfl⟩ mainIs rfl
  (fun f fn hf hfn => by
   obtain rfl : f = 5 := Option.some.inj (named.symm.trans hf) |>.symm
   obtain rfl : fn = Tryz.f5 := (Option.some.inj (Tryz.func5.symm.trans hfn)).symm
   exact ⟨looks, fun j t ht => by
    rw [Tryz.params5] at ht
    have hm : t ∈ [33, 75] := by simpa using Array.mem_of_getElem? ht
    exact (show Tryz.prog.wantsStandIn t = false by simpa using List.all_eq_true.1 plainArgs t hm)⟩)
  goes
end Go.Proofs.YtjjkhbfimpgplaaGreatDoor.sendSends
