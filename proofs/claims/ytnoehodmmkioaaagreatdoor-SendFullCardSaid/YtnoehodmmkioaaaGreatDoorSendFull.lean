/- The statement SendFull: on a disk without room a message is refused, and nothing changes; a smaller one may go; up to 30 messages. No condition. -/
import Derived.Test.YtnoehodmmkioaaaGreatDoorF11
import Derived.Test.YtnoehodmmkioaaaGreatDoorF12
import Derived.Test.YtnoehodmmkioaaaGreatDoorCards
import Derived.Test.YtnoehodmmkioaaaGreatDoorTie
import Derived.SevenTiedAt
set_option maxHeartbeats 25600000
set_option maxRecDepth 100000
set_option linter.unusedVariables false
set_option linter.unusedSimpArgs false
namespace Go.Proofs.YtnoehodmmkioaaaGreatDoor.sendFull
open Go.ChangeShapes Go.WideShapes Go.ChangeAt Go.RowKit OctMath StoW SndW
theorem u16_in {z:Int} (h:(Lit.int .u16 z).wf=true):0≤z∧z≤65535:=by simpa [Lit.wf,IntKind.min,IntKind.max,IntKind.signed,IntKind.bits] using h
theorem lifted (os:Os) (started:os.Started) (H:Type) (enc:TypeId×Value→H) :
 ReturnsInHanded {} Tryz.checked os 3 .any (fun w args=>(Rows.sendFullSpec.pre enc Tryz.prog Tryz.f3 [] false w args∧laidMetH Tryz.prog laidL w)∧sizedMet enc Tryz.prog Tryz.f3 (OpenSpec.ofChange Rows.sendFullSpec) false w args) (Rows.sendFullSpec.post enc Tryz.prog Tryz.f3 false true false false):=by
 refine returns_laid started (by kernel_rfl) Tryz.func3
  (ChangeSpec.witness_shaped (enc:=enc) (C:=Tryz.checked) (os:=os) (X:=fun w _=>laidMetH Tryz.prog laidL w) false (World.laidAll Tryz.prog os laidL) #[.int .u16 0,.slice none 0 0] 8 (World.laidAll_os _ _ _)
   (laid_shaped _ _) (by kernel_rfl) (by kernel_rfl) (by kernel_rfl) (laid_met os _)) ?_
 intro W base args ds gs before hval0 hW hsz0 henv
 have hval:∀ (j:Nat) t v,Tryz.f3.params[j]?=some t→args[j]?=some v→Value.okWide Tryz.prog W .any base t v:=hval0
 have hsz:(DataW.weightsEach Tryz.prog (Tryz.f3.params.toList++Rows.sendFullSpec.plain.varTypes Tryz.prog) (ds++gs)).all (·≤reachBytes)=true:=hsz0
 have hW':=hW
 obtain ⟨p,q,hA0,hV,rfl,hfz,hnd⟩:=hW
 have hA:DataW.TrodAll enc Tryz.prog W 0 (fun _=>true) true Tryz.f3.params.toList args.toList ds p:=hA0
 rw [Tryz.params3] at hA hval hsz
 obtain ⟨v0,v1,d0,d1,p0,p1,rfl,rfl,rfl,h0,h1⟩:=trodAll_two hA
 obtain ⟨rfl,rfl⟩:=trodVars_none hV
 obtain ⟨cp,rfl,rfl,rfl,w0⟩:=open_int Tryz.underlying22 (hval 0 22 v0 rfl rfl) h0
 obtain ⟨b1,l1,c1,rfl⟩:=okWide_slice Tryz.underlying23 (hval 1 _ v1 rfl rfl)
 obtain ⟨f1,hf1⟩:=h1
 obtain ⟨a0,k0,ms,hv0,hM,hI,hC,hml⟩:=open_wants hf1
 rw [hv0] at hW' ⊢
 clear hA0 hval0
 refine (sendfull_any cp (u16_in w0) ms a0 k0 W henv hM hI hC hml).mono fun e W' ⟨he,hb⟩=>?_
 subst he
 refine ⟨_,rfl,law_post hW' ?_ (tb:=4) (by kernel_rfl) Tryz.underlying4 rfl ⟨rfl,rfl,rfl⟩ hb⟩
 rw [Tryz.params3]
 intro t ht
 have:t=22∨t=23:=by simpa using ht
 rcases this with rfl | rfl <;> exact ⟨by kernel_rfl,of_decide_eq_true (by kernel_rfl)⟩
theorem fact0:Rows.sendFullRow.wf (OpenSpec.ofChange Rows.sendFullSpec)=true:=by kernel_rfl
theorem fact1:laidOutB Tryz.prog=true:=laidOut
theorem fact2:mapsRowed Tryz.prog=true:=by kernel_rfl
theorem fact3:Tryz.f3.params.all (Tryz.prog.readableRec ·)=true:=by kernel_rfl
theorem fact4:namedTie Tryz.prog Rows.sendFullRow.named Rows.sendFullSpec.vars=true:=by kernel_rfl
theorem fact5:(Rows.sendFullRow.stops == [])=true:=by kernel_rfl
theorem fact6:(Tryz.prog.stops == [])=true:=by kernel_rfl
theorem fact7:(Rows.sendFullRow.knobs == [])=true:=by kernel_rfl
theorem fact8:(Tryz.prog.stopKnobs == [])=true:=by kernel_rfl
theorem fact9:(Rows.sendFullRow.inPlace == Tryz.prog.inPlace 3)=true:=by kernel_rfl
theorem fact10:(Rows.sendFullRow.unfollowed == Tryz.prog.unfollowed 3)=true:=by kernel_rfl
theorem fact11:(Rows.sendFullRow.recurses == Tryz.prog.recurses 3)=true:=by kernel_rfl
theorem fact12:(Rows.sendFullRow.named == Tryz.prog.varsNamed 3)=true:=by kernel_rfl
theorem fact13:(Rows.sendFullRow.maps == (Tryz.f3.params.toList++Rows.sendFullSpec.plain.varTypes Tryz.prog).any (Tryz.prog.mapsRec ·))=true:=by kernel_rfl
theorem fact14:(Rows.sendFullRow.ifaces == (Tryz.f3.params.toList++Rows.sendFullSpec.plain.varTypes Tryz.prog).any (Tryz.prog.ifacesRec ·))=true:=by kernel_rfl
theorem fact15:(Rows.sendFullRow.mapsOut == Tryz.prog.mapsAmong Tryz.f3.resultTypes.toList)=true:=by kernel_rfl
theorem fact16:(Rows.sendFullRow.loops == (Tryz.f3.params.toList++Rows.sendFullSpec.plain.varTypes Tryz.prog).any (Tryz.prog.loopsFrom ·))=true:=by kernel_rfl
theorem fact17:(Rows.sendFullRow.wideKeys == (Tryz.f3.params.toList++Rows.sendFullSpec.plain.varTypes Tryz.prog++Tryz.f3.resultTypes.toList).any (Tryz.prog.wideKeysFrom ·))=true:=by kernel_rfl
theorem fact18:Rows.sendFullSpec.vars.all (Tryz.prog.varReadable ·)=true:=by kernel_rfl
theorem fact19:Tryz.f3.resultTypes.all (fun t=>Tryz.prog.readableRec t && decide (t < Tryz.prog.types.size))=true:=by kernel_rfl
theorem fact20:(Rows.sendFullRow.ifacesOut == Tryz.f3.resultTypes.toList.any (Tryz.prog.ifacesRec ·))=true:=by kernel_rfl
theorem fact21:(Rows.sendFullRow.loopsOut == Tryz.f3.resultTypes.toList.any (Tryz.prog.loopsFrom ·))=true:=by kernel_rfl
theorem fact22:(Rows.sendFullRow.plainKeys == Tryz.prog.plainKeys)=true:=by kernel_rfl
theorem fact23:Rows.sendFullRow.shortTexts.isNone=true:=by kernel_rfl
theorem fact24:Tryz.prog.stopsHeard=true:=by kernel_rfl
theorem fact25:Tryz.prog.mayEnter=true:=by kernel_rfl
theorem fact26:(Rows.sendFullRow.lifted == Tryz.prog.liftsFinal)=true:=by kernel_rfl
theorem fact27:(Tryz.prog.make == some Rows.sendFullRow.make)=true:=by kernel_rfl
theorem fact28:(Rows.sendFullRow.kinds == (if Rows.sendFullRow.domain.isEmpty then [] else Tryz.f3.params.toList.map fun t=>match Tryz.prog.underlying t with | some (.int k)=>some k | _=>none))=true:=by kernel_rfl
theorem fact29:(Rows.sendFullRow.pinned == Rows.sendFullRow.pinnedBy)=true:=by kernel_rfl
theorem fact30:(Rows.sendFullRow.veiled == (Tryz.f3.params.toList++Rows.sendFullSpec.plain.varTypes Tryz.prog++Tryz.f3.resultTypes.toList).any (Tryz.prog.veiledRec ·))=true:=by kernel_rfl
theorem fact31:Rows.sendFullRow.veiledFits Tryz.prog Tryz.f3.params.toList (Tryz.f3.params.toList++Rows.sendFullSpec.plain.varTypes Tryz.prog++Tryz.f3.resultTypes.toList)=true:=by kernel_rfl
theorem closed:joinedFacts Tryz.prog 3 Tryz.f3 Rows.sendFullSpec Rows.sendFullRow=true :=
 Bool.and_eq_true_iff.2 ⟨Bool.and_eq_true_iff.2 ⟨Bool.and_eq_true_iff.2 ⟨Bool.and_eq_true_iff.2 ⟨Bool.and_eq_true_iff.2 ⟨Bool.and_eq_true_iff.2 ⟨Bool.and_eq_true_iff.2 ⟨Bool.and_eq_true_iff.2 ⟨Bool.and_eq_true_iff.2 ⟨Bool.and_eq_true_iff.2 ⟨Bool.and_eq_true_iff.2 ⟨Bool.and_eq_true_iff.2 ⟨Bool.and_eq_true_iff.2 ⟨Bool.and_eq_true_iff.2 ⟨Bool.and_eq_true_iff.2 ⟨Bool.and_eq_true_iff.2 ⟨Bool.and_eq_true_iff.2 ⟨Bool.and_eq_true_iff.2 ⟨Bool.and_eq_true_iff.2 ⟨Bool.and_eq_true_iff.2 ⟨Bool.and_eq_true_iff.2 ⟨Bool.and_eq_true_iff.2 ⟨Bool.and_eq_true_iff.2 ⟨Bool.and_eq_true_iff.2 ⟨Bool.and_eq_true_iff.2 ⟨Bool.and_eq_true_iff.2 ⟨Bool.and_eq_true_iff.2 ⟨Bool.and_eq_true_iff.2 ⟨Bool.and_eq_true_iff.2 ⟨Bool.and_eq_true_iff.2 ⟨Bool.and_eq_true_iff.2 ⟨fact0,fact1⟩,fact2⟩,fact3⟩,fact4⟩,fact5⟩,fact6⟩,fact7⟩,fact8⟩,fact9⟩,fact10⟩,fact11⟩,fact12⟩,fact13⟩,fact14⟩,fact15⟩,fact16⟩,fact17⟩,fact18⟩,fact19⟩,fact20⟩,fact21⟩,fact22⟩,fact23⟩,fact24⟩,fact25⟩,fact26⟩,fact27⟩,fact28⟩,fact29⟩,fact30⟩,fact31⟩
theorem named:Tryz.prog.funcNamed "reveille/reveillelaw22.SendFull"=some 3:=by kernel_rfl
theorem wrapper:Tryz.f3.isWrapper Tryz.prog Rows.sendFullRow.wrapper Rows.sendFullRow.mainSum:=by unfold Func.isWrapper; first | (rw [if_pos (by decide +kernel)]; kernel_rfl) | (rw [if_neg (by decide +kernel)]; exact ⟨rfl,rfl⟩)
theorem said:Rows.SendFullSaid :=
 OpenClaim.holds_of_wide 3 Tryz.f3 rfl rfl rfl rfl rfl rfl rfl ⟨rfl,rfl,rfl,rfl,rfl⟩ rfl rfl rfl rfl rfl named Tryz.func3 closed
  (of_decide_eq_true (by kernel_rfl)) wrapper
  (fun os started H enc _=>lifted os started H enc)
theorem wfText:Rows.sendFullRow.wfByText (OpenSpec.ofChange Rows.sendFullSpec)=true:=by kernel_rfl
theorem mainIs:Tryz.prog.mainIs=some (true,"4be3073c38e2830ec432226e0d4cdabe549ee63b63703d49de8f9d6a255164ed".toList):=by kernel_rfl
theorem looks:true=Tryz.prog.looks []:=by kernel_rfl
theorem goes:false=Rows.sendFullRow.goesBy Tryz.prog:=by kernel_rfl
theorem plainArgs:([22,23].all fun u=>!Tryz.prog.wantsStandIn u)=true:=by kernel_rfl
theorem proved:Rows.SendFullCardSaid :=
 Claim7.holds_tied_plain_at .later [] [.data,.data,.data,.data,.sentinel,.sentinel,.pinned] true (true,"4be3073c38e2830ec432226e0d4cdabe549ee63b63703d49de8f9d6a255164ed") true
  said (fun _ h=>by cases h) wfText (fun _ h=>by cases h) sendFull_row_tie rfl ⟨rfl,rfl⟩ mainIs rfl
  (fun f fn hf hfn=>by
   obtain rfl:f=3:=Option.some.inj (named.symm.trans hf) |>.symm
   obtain rfl:fn=Tryz.f3:=(Option.some.inj (Tryz.func3.symm.trans hfn)).symm
   exact ⟨looks,fun j t ht=>by
    rw [Tryz.params3] at ht
    have hm:t∈[22,23]:=by simpa using Array.mem_of_getElem? ht
    exact (show Tryz.prog.wantsStandIn t=false by simpa using List.all_eq_true.1 plainArgs t hm)⟩)
  goes
end Go.Proofs.YtnoehodmmkioaaaGreatDoor.sendFull
