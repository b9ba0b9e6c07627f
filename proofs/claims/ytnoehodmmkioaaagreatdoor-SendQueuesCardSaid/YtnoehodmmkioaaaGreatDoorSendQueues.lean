/- The statement SendQueues: messages stand, dispatched, in their own queues, in the order in which they were sent, and in no other one, up to 40. No condition. -/
import Derived.Test.YtnoehodmmkioaaaGreatDoorS11
import Derived.Test.YtnoehodmmkioaaaGreatDoorS12
import Derived.Test.YtnoehodmmkioaaaGreatDoorCards
import Derived.Test.YtnoehodmmkioaaaGreatDoorTie
import Derived.SevenTiedAt
set_option maxHeartbeats 25600000
set_option maxRecDepth 100000
set_option linter.unusedVariables false
set_option linter.unusedSimpArgs false
namespace Go.Proofs.YtnoehodmmkioaaaGreatDoor.sendQueues
open Go.ChangeShapes Go.WideShapes Go.ChangeAt Go.RowKit OctMath StoW SndW
theorem lifted (os:Os) (started:os.Started) (H:Type) (enc:TypeId×Value→H) :
 ReturnsInHanded {} Tryz.checked os 4 .any (fun w args=>(Rows.sendQueuesSpec.pre enc Tryz.prog Tryz.f4 [] false w args∧laidMetH Tryz.prog laidL w)∧sizedMet enc Tryz.prog Tryz.f4 (OpenSpec.ofChange Rows.sendQueuesSpec) false w args) (Rows.sendQueuesSpec.post enc Tryz.prog Tryz.f4 false true false false):=by
 refine returns_laid started (by kernel_rfl) Tryz.func4
  (ChangeSpec.witness_shaped (enc:=enc) (C:=Tryz.checked) (os:=os) (X:=fun w _=>laidMetH Tryz.prog laidL w) false (World.laidAll Tryz.prog os laidL) #[.slice none 0 0] 8 (World.laidAll_os _ _ _)
   (laid_shaped _ _) (by kernel_rfl) (by kernel_rfl) (by kernel_rfl) (laid_met os _)) ?_
 intro W base args ds gs before hval0 hW hsz0 henv
 have hval:∀ (j:Nat) t v,Tryz.f4.params[j]?=some t→args[j]?=some v→Value.okWide Tryz.prog W .any base t v:=hval0
 have hsz:(DataW.weightsEach Tryz.prog (Tryz.f4.params.toList++Rows.sendQueuesSpec.plain.varTypes Tryz.prog) (ds++gs)).all (·≤reachBytes)=true:=hsz0
 have hW':=hW
 obtain ⟨p,q,hA0,hV,rfl,hfz,hnd⟩:=hW
 have hA:DataW.TrodAll enc Tryz.prog W 0 (fun _=>true) true Tryz.f4.params.toList args.toList ds p:=hA0
 rw [Tryz.params4] at hA hval hsz
 obtain ⟨v0,d0,rfl,rfl,h0⟩:=trodAll_one hA
 obtain ⟨rfl,rfl⟩:=trodVars_none hV
 obtain ⟨b0,l0,c0,rfl⟩:=okWide_slice Tryz.underlying23 (hval 0 _ v0 rfl rfl)
 obtain ⟨f0,hf0⟩:=h0
 obtain ⟨a0,k0,ms,hv0,hM,hI,hC,hml⟩:=open_wants hf0
 rw [hv0] at hW' ⊢
 clear hA0 hval0
 refine (sendq_any ms a0 k0 W henv hM hI hC hml (Lib.hid (awake_any W henv))).mono fun e W' ⟨he,hb⟩=>?_
 subst he
 refine ⟨_,rfl,law_post hW' ?_ (tb:=4) (by kernel_rfl) Tryz.underlying4 rfl ⟨rfl,rfl,rfl⟩ hb⟩
 rw [Tryz.params4]
 intro t ht
 have:t=23:=by simpa using ht
 subst this
 exact ⟨by kernel_rfl,of_decide_eq_true (by kernel_rfl)⟩
theorem fact0:Rows.sendQueuesRow.wf (OpenSpec.ofChange Rows.sendQueuesSpec)=true:=by kernel_rfl
theorem fact1:laidOutB Tryz.prog=true:=laidOut
theorem fact2:mapsRowed Tryz.prog=true:=by kernel_rfl
theorem fact3:Tryz.f4.params.all (Tryz.prog.readableRec ·)=true:=by kernel_rfl
theorem fact4:namedTie Tryz.prog Rows.sendQueuesRow.named Rows.sendQueuesSpec.vars=true:=by kernel_rfl
theorem fact5:(Rows.sendQueuesRow.stops == [])=true:=by kernel_rfl
theorem fact6:(Tryz.prog.stops == [])=true:=by kernel_rfl
theorem fact7:(Rows.sendQueuesRow.knobs == [])=true:=by kernel_rfl
theorem fact8:(Tryz.prog.stopKnobs == [])=true:=by kernel_rfl
theorem fact9:(Rows.sendQueuesRow.inPlace == Tryz.prog.inPlace 4)=true:=by kernel_rfl
theorem fact10:(Rows.sendQueuesRow.unfollowed == Tryz.prog.unfollowed 4)=true:=by kernel_rfl
theorem fact11:(Rows.sendQueuesRow.recurses == Tryz.prog.recurses 4)=true:=by kernel_rfl
theorem fact12:(Rows.sendQueuesRow.named == Tryz.prog.varsNamed 4)=true:=by kernel_rfl
theorem fact13:(Rows.sendQueuesRow.maps == (Tryz.f4.params.toList++Rows.sendQueuesSpec.plain.varTypes Tryz.prog).any (Tryz.prog.mapsRec ·))=true:=by kernel_rfl
theorem fact14:(Rows.sendQueuesRow.ifaces == (Tryz.f4.params.toList++Rows.sendQueuesSpec.plain.varTypes Tryz.prog).any (Tryz.prog.ifacesRec ·))=true:=by kernel_rfl
theorem fact15:(Rows.sendQueuesRow.mapsOut == Tryz.prog.mapsAmong Tryz.f4.resultTypes.toList)=true:=by kernel_rfl
theorem fact16:(Rows.sendQueuesRow.loops == (Tryz.f4.params.toList++Rows.sendQueuesSpec.plain.varTypes Tryz.prog).any (Tryz.prog.loopsFrom ·))=true:=by kernel_rfl
theorem fact17:(Rows.sendQueuesRow.wideKeys == (Tryz.f4.params.toList++Rows.sendQueuesSpec.plain.varTypes Tryz.prog++Tryz.f4.resultTypes.toList).any (Tryz.prog.wideKeysFrom ·))=true:=by kernel_rfl
theorem fact18:Rows.sendQueuesSpec.vars.all (Tryz.prog.varReadable ·)=true:=by kernel_rfl
theorem fact19:Tryz.f4.resultTypes.all (fun t=>Tryz.prog.readableRec t && decide (t < Tryz.prog.types.size))=true:=by kernel_rfl
theorem fact20:(Rows.sendQueuesRow.ifacesOut == Tryz.f4.resultTypes.toList.any (Tryz.prog.ifacesRec ·))=true:=by kernel_rfl
theorem fact21:(Rows.sendQueuesRow.loopsOut == Tryz.f4.resultTypes.toList.any (Tryz.prog.loopsFrom ·))=true:=by kernel_rfl
theorem fact22:(Rows.sendQueuesRow.plainKeys == Tryz.prog.plainKeys)=true:=by kernel_rfl
theorem fact23:Rows.sendQueuesRow.shortTexts.isNone=true:=by kernel_rfl
theorem fact24:Tryz.prog.stopsHeard=true:=by kernel_rfl
theorem fact25:Tryz.prog.mayEnter=true:=by kernel_rfl
theorem fact26:(Rows.sendQueuesRow.lifted == Tryz.prog.liftsFinal)=true:=by kernel_rfl
theorem fact27:(Tryz.prog.make == some Rows.sendQueuesRow.make)=true:=by kernel_rfl
theorem fact28:(Rows.sendQueuesRow.kinds == (if Rows.sendQueuesRow.domain.isEmpty then [] else Tryz.f4.params.toList.map fun t=>match Tryz.prog.underlying t with | some (.int k)=>some k | _=>none))=true:=by kernel_rfl
theorem fact29:(Rows.sendQueuesRow.pinned == Rows.sendQueuesRow.pinnedBy)=true:=by kernel_rfl
theorem fact30:(Rows.sendQueuesRow.veiled == (Tryz.f4.params.toList++Rows.sendQueuesSpec.plain.varTypes Tryz.prog++Tryz.f4.resultTypes.toList).any (Tryz.prog.veiledRec ·))=true:=by kernel_rfl
theorem fact31:Rows.sendQueuesRow.veiledFits Tryz.prog Tryz.f4.params.toList (Tryz.f4.params.toList++Rows.sendQueuesSpec.plain.varTypes Tryz.prog++Tryz.f4.resultTypes.toList)=true:=by kernel_rfl
theorem closed:joinedFacts Tryz.prog 4 Tryz.f4 Rows.sendQueuesSpec Rows.sendQueuesRow=true :=
 Bool.and_eq_true_iff.2 ⟨Bool.and_eq_true_iff.2 ⟨Bool.and_eq_true_iff.2 ⟨Bool.and_eq_true_iff.2 ⟨Bool.and_eq_true_iff.2 ⟨Bool.and_eq_true_iff.2 ⟨Bool.and_eq_true_iff.2 ⟨Bool.and_eq_true_iff.2 ⟨Bool.and_eq_true_iff.2 ⟨Bool.and_eq_true_iff.2 ⟨Bool.and_eq_true_iff.2 ⟨Bool.and_eq_true_iff.2 ⟨Bool.and_eq_true_iff.2 ⟨Bool.and_eq_true_iff.2 ⟨Bool.and_eq_true_iff.2 ⟨Bool.and_eq_true_iff.2 ⟨Bool.and_eq_true_iff.2 ⟨Bool.and_eq_true_iff.2 ⟨Bool.and_eq_true_iff.2 ⟨Bool.and_eq_true_iff.2 ⟨Bool.and_eq_true_iff.2 ⟨Bool.and_eq_true_iff.2 ⟨Bool.and_eq_true_iff.2 ⟨Bool.and_eq_true_iff.2 ⟨Bool.and_eq_true_iff.2 ⟨Bool.and_eq_true_iff.2 ⟨Bool.and_eq_true_iff.2 ⟨Bool.and_eq_true_iff.2 ⟨Bool.and_eq_true_iff.2 ⟨Bool.and_eq_true_iff.2 ⟨Bool.and_eq_true_iff.2 ⟨fact0,fact1⟩,fact2⟩,fact3⟩,fact4⟩,fact5⟩,fact6⟩,fact7⟩,fact8⟩,fact9⟩,fact10⟩,fact11⟩,fact12⟩,fact13⟩,fact14⟩,fact15⟩,fact16⟩,fact17⟩,fact18⟩,fact19⟩,fact20⟩,fact21⟩,fact22⟩,fact23⟩,fact24⟩,fact25⟩,fact26⟩,fact27⟩,fact28⟩,fact29⟩,fact30⟩,fact31⟩
theorem named:Tryz.prog.funcNamed "reveille/reveillelaw22.SendQueues"=some 4:=by kernel_rfl
theorem wrapper:Tryz.f4.isWrapper Tryz.prog Rows.sendQueuesRow.wrapper Rows.sendQueuesRow.mainSum:=by unfold Func.isWrapper; first | (rw [if_pos (by decide +kernel)]; kernel_rfl) | (rw [if_neg (by decide +kernel)]; exact ⟨rfl,rfl⟩)
theorem said:Rows.SendQueuesSaid :=
 OpenClaim.holds_of_wide 4 Tryz.f4 rfl rfl rfl rfl rfl rfl rfl ⟨rfl,rfl,rfl,rfl,rfl⟩ rfl rfl rfl rfl rfl named Tryz.func4 closed
  (of_decide_eq_true (by kernel_rfl)) wrapper
  (fun os started H enc _=>lifted os started H enc)
theorem wfText:Rows.sendQueuesRow.wfByText (OpenSpec.ofChange Rows.sendQueuesSpec)=true:=by kernel_rfl
theorem mainIs:Tryz.prog.mainIs=some (true,"4be3073c38e2830ec432226e0d4cdabe549ee63b63703d49de8f9d6a255164ed".toList):=by kernel_rfl
theorem looks:true=Tryz.prog.looks []:=by kernel_rfl
theorem goes:false=Rows.sendQueuesRow.goesBy Tryz.prog:=by kernel_rfl
theorem plainArgs:([23].all fun u=>!Tryz.prog.wantsStandIn u)=true:=by kernel_rfl
theorem proved:Rows.SendQueuesCardSaid :=
 Claim7.holds_tied_plain_at .later [] [.data,.data,.data,.data,.sentinel,.sentinel,.pinned] true (true,"4be3073c38e2830ec432226e0d4cdabe549ee63b63703d49de8f9d6a255164ed") true
  said (fun _ h=>by cases h) wfText (fun _ h=>by cases h) sendQueues_row_tie rfl ⟨rfl,rfl⟩ mainIs rfl
  (fun f fn hf hfn=>by
   obtain rfl:f=4:=Option.some.inj (named.symm.trans hf) |>.symm
   obtain rfl:fn=Tryz.f4:=(Option.some.inj (Tryz.func4.symm.trans hfn)).symm
   exact ⟨looks,fun j t ht=>by
    rw [Tryz.params4] at ht
    have hm:t∈[23]:=by simpa using Array.mem_of_getElem? ht
    exact (show Tryz.prog.wantsStandIn t=false by simpa using List.all_eq_true.1 plainArgs t hm)⟩)
  goes
end Go.Proofs.YtnoehodmmkioaaaGreatDoor.sendQueues
