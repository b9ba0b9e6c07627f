/- The statement RetryAcks: whatever positions a group is done with, in whatever order: its offset is behind the greatest of them, and never goes back, up to 40 calls. No condition. -/
import Derived.Test.YtckjigopecocaaaGreatDoorR13
import Derived.Test.YtckjigopecocaaaGreatDoorCards
import Derived.Test.YtckjigopecocaaaGreatDoorTie
import Derived.SevenTiedAt
set_option linter.unusedVariables false
set_option linter.unusedSimpArgs false
set_option maxHeartbeats 25600000
set_option maxRecDepth 100000
namespace Go.Proofs.YtckjigopecocaaaGreatDoor
namespace retryAcks
open Go.ChangeShapes Go.WideShapes Go.ChangeAt Go.RowKit OctMath StoW SndW RetW
theorem lifted (os:Os) (started:os.Started) (H:Type) (enc:TypeId×Value->H) :
 ReturnsInHanded {} Tryz.checked os 3 .any (λw args=>(Rows.retryAcksSpec.pre enc Tryz.prog Tryz.f3 [] false w args/\laidMetH Tryz.prog laidL w)/\sizedMet enc Tryz.prog Tryz.f3 (OpenSpec.ofChange Rows.retryAcksSpec) false w args) (Rows.retryAcksSpec.post enc Tryz.prog Tryz.f3 false true false false):=by
 refine agh started (by kernel_rfl) Tryz.func3
  (ChangeSpec.witness_shaped (enc:=enc) (C:=Tryz.checked) (os:=os) (X:=λw _=>laidMetH Tryz.prog laidL w) false (World.laidAll Tryz.prog os laidL) #[.int .u8 0,.slice none 0 0] 8 (World.laidAll_os _ _ _)
   (aic _ _) (by kernel_rfl) (by kernel_rfl) (by kernel_rfl) (ap3 os _)) ?_
 intro W base args R gs before A hW E F;have B:∀ (j:Nat) t v,Tryz.f3.params[j]?=some t->args[j]?=some v->Value.okWide Tryz.prog W .any base t v:=A;have M:(DataW.weightsEach Tryz.prog (Tryz.f3.params.toList++Rows.retryAcksSpec.plain.varTypes Tryz.prog) (R++gs)).all (·<=reachBytes)=true:=E;have I:=hW;obtain ⟨p,q,J,Y,rfl,Z,ab⟩:=hW;have U:DataW.TrodAll enc Tryz.prog W 0 (λ_=>true) true Tryz.f3.params.toList args.toList R p:=J;rw [Tryz.params3] at U B M;obtain ⟨v0,v1,d0,d1,p0,p1,rfl,rfl,rfl,h0,h1⟩:=trodAll_two U;obtain ⟨rfl,rfl⟩:=trodVars_none Y;obtain ⟨m,rfl,rfl,rfl,wm⟩:=open_int Tryz.underlying5 (B 0 5 v0 rfl rfl) h0;obtain ⟨b1,l1,c1,rfl⟩:=okWide_slice Tryz.underlying22 (B 1 _ v1 rfl rfl);obtain ⟨f1,N⟩:=h1;obtain ⟨a0,k0,ls,O,hR,hI,hL,hl⟩:=am5 N;rw [O] at I ⊢;clear J A;refine (ap2 m (by simpa [Lit.wf,IntKind.min,IntKind.max,IntKind.signed,IntKind.bits] using wm) a0 k0 ls W F hR hI hL hl).mono λe W' ⟨he,hb⟩=>?_
 subst he;refine ⟨_,rfl,ap0 I ?_ (tb:=4) (by kernel_rfl) Tryz.underlying4 rfl ⟨rfl,rfl,rfl⟩ hb⟩;rw [Tryz.params3];intro t ht;have:t=5\/t=22:=by simpa using ht
 rcases this with rfl | rfl <;> exact ⟨by kernel_rfl,of_decide_eq_true (by kernel_rfl)⟩
theorem fact0:Rows.retryAcksRow.wf (OpenSpec.ofChange Rows.retryAcksSpec)=true:=by kernel_rfl
theorem fact1:laidOutB Tryz.prog=true:=laidOut
theorem fact2:mapsRowed Tryz.prog=true:=by kernel_rfl
theorem fact3:Tryz.f3.params.all (Tryz.prog.readableRec ·)=true:=by kernel_rfl
theorem fact4:namedTie Tryz.prog Rows.retryAcksRow.named Rows.retryAcksSpec.vars=true:=by kernel_rfl
theorem fact5:(Rows.retryAcksRow.stops == [])=true:=by kernel_rfl
theorem fact6:(Tryz.prog.stops == [])=true:=by kernel_rfl
theorem fact7:(Rows.retryAcksRow.knobs == [])=true:=by kernel_rfl
theorem fact8:(Tryz.prog.stopKnobs == [])=true:=by kernel_rfl
theorem fact9:(Rows.retryAcksRow.inPlace == Tryz.prog.inPlace 3)=true:=by kernel_rfl
theorem fact10:(Rows.retryAcksRow.unfollowed == Tryz.prog.unfollowed 3)=true:=by kernel_rfl
theorem fact11:(Rows.retryAcksRow.recurses == Tryz.prog.recurses 3)=true:=by kernel_rfl
theorem fact12:(Rows.retryAcksRow.named == Tryz.prog.varsNamed 3)=true:=by kernel_rfl
theorem fact13:(Rows.retryAcksRow.maps == (Tryz.f3.params.toList++Rows.retryAcksSpec.plain.varTypes Tryz.prog).any (Tryz.prog.mapsRec ·))=true:=by kernel_rfl
theorem fact14:(Rows.retryAcksRow.ifaces == (Tryz.f3.params.toList++Rows.retryAcksSpec.plain.varTypes Tryz.prog).any (Tryz.prog.ifacesRec ·))=true:=by kernel_rfl
theorem fact15:(Rows.retryAcksRow.mapsOut == Tryz.prog.mapsAmong Tryz.f3.resultTypes.toList)=true:=by kernel_rfl
theorem fact16:(Rows.retryAcksRow.loops == (Tryz.f3.params.toList++Rows.retryAcksSpec.plain.varTypes Tryz.prog).any (Tryz.prog.loopsFrom ·))=true:=by kernel_rfl
theorem fact17:(Rows.retryAcksRow.wideKeys == (Tryz.f3.params.toList++Rows.retryAcksSpec.plain.varTypes Tryz.prog++Tryz.f3.resultTypes.toList).any (Tryz.prog.wideKeysFrom ·))=true:=by kernel_rfl
theorem fact18:Rows.retryAcksSpec.vars.all (Tryz.prog.varReadable ·)=true:=by kernel_rfl
theorem fact19:Tryz.f3.resultTypes.all (λt=>Tryz.prog.readableRec t && decide (t < Tryz.prog.types.size))=true:=by kernel_rfl
theorem fact20:(Rows.retryAcksRow.ifacesOut == Tryz.f3.resultTypes.toList.any (Tryz.prog.ifacesRec ·))=true:=by kernel_rfl
theorem fact21:(Rows.retryAcksRow.loopsOut == Tryz.f3.resultTypes.toList.any (Tryz.prog.loopsFrom ·))=true:=by kernel_rfl
theorem fact22:(Rows.retryAcksRow.plainKeys == Tryz.prog.plainKeys)=true:=by kernel_rfl
theorem fact23:Rows.retryAcksRow.shortTexts.isNone=true:=by kernel_rfl
theorem fact24:Tryz.prog.stopsHeard=true:=by kernel_rfl
theorem fact25:Tryz.prog.mayEnter=true:=by kernel_rfl
theorem fact26:(Rows.retryAcksRow.lifted == Tryz.prog.liftsFinal)=true:=by kernel_rfl
theorem fact27:(Tryz.prog.make == some Rows.retryAcksRow.make)=true:=by kernel_rfl
theorem fact28:(Rows.retryAcksRow.kinds == (if Rows.retryAcksRow.domain.isEmpty then [] else Tryz.f3.params.toList.map λt=>match Tryz.prog.underlying t with | some (.int k)=>some k | _=>none))=true:=by kernel_rfl
theorem fact29:(Rows.retryAcksRow.pinned == Rows.retryAcksRow.pinnedBy)=true:=by kernel_rfl
theorem fact30:(Rows.retryAcksRow.veiled == (Tryz.f3.params.toList++Rows.retryAcksSpec.plain.varTypes Tryz.prog++Tryz.f3.resultTypes.toList).any (Tryz.prog.veiledRec ·))=true:=by kernel_rfl
theorem fact31:Rows.retryAcksRow.veiledFits Tryz.prog Tryz.f3.params.toList (Tryz.f3.params.toList++Rows.retryAcksSpec.plain.varTypes Tryz.prog++Tryz.f3.resultTypes.toList)=true:=by kernel_rfl
theorem closed:joinedFacts Tryz.prog 3 Tryz.f3 Rows.retryAcksSpec Rows.retryAcksRow=true :=
 Bool.and_eq_true_iff.2 ⟨Bool.and_eq_true_iff.2 ⟨Bool.and_eq_true_iff.2 ⟨Bool.and_eq_true_iff.2 ⟨Bool.and_eq_true_iff.2 ⟨Bool.and_eq_true_iff.2 ⟨Bool.and_eq_true_iff.2 ⟨Bool.and_eq_true_iff.2 ⟨Bool.and_eq_true_iff.2 ⟨Bool.and_eq_true_iff.2 ⟨Bool.and_eq_true_iff.2 ⟨Bool.and_eq_true_iff.2 ⟨Bool.and_eq_true_iff.2 ⟨Bool.and_eq_true_iff.2 ⟨Bool.and_eq_true_iff.2 ⟨Bool.and_eq_true_iff.2 ⟨Bool.and_eq_true_iff.2 ⟨Bool.and_eq_true_iff.2 ⟨Bool.and_eq_true_iff.2 ⟨Bool.and_eq_true_iff.2 ⟨Bool.and_eq_true_iff.2 ⟨Bool.and_eq_true_iff.2 ⟨Bool.and_eq_true_iff.2 ⟨Bool.and_eq_true_iff.2 ⟨Bool.and_eq_true_iff.2 ⟨Bool.and_eq_true_iff.2 ⟨Bool.and_eq_true_iff.2 ⟨Bool.and_eq_true_iff.2 ⟨Bool.and_eq_true_iff.2 ⟨Bool.and_eq_true_iff.2 ⟨Bool.and_eq_true_iff.2 ⟨fact0,fact1⟩,fact2⟩,fact3⟩,fact4⟩,fact5⟩,fact6⟩,fact7⟩,fact8⟩,fact9⟩,fact10⟩,fact11⟩,fact12⟩,fact13⟩,fact14⟩,fact15⟩,fact16⟩,fact17⟩,fact18⟩,fact19⟩,fact20⟩,fact21⟩,fact22⟩,fact23⟩,fact24⟩,fact25⟩,fact26⟩,fact27⟩,fact28⟩,fact29⟩,fact30⟩,fact31⟩
theorem named:Tryz.prog.funcNamed "reveille/reveillelaw25.RetryAcks"=some 3:=by kernel_rfl
theorem wrapper:Tryz.f3.isWrapper Tryz.prog Rows.retryAcksRow.wrapper Rows.retryAcksRow.mainSum:=by unfold Func.isWrapper; first | (rw [if_pos (by decide +kernel)]; kernel_rfl) | (rw [if_neg (by decide +kernel)]; exact ⟨rfl,rfl⟩)
theorem said:Rows.RetryAcksSaid :=
 OpenClaim.holds_of_wide 3 Tryz.f3 rfl rfl rfl rfl rfl rfl rfl ⟨rfl,rfl,rfl,rfl,rfl⟩ rfl rfl rfl rfl rfl named Tryz.func3 closed
  (of_decide_eq_true (by kernel_rfl)) wrapper
  (λos started H enc _=>lifted os started H enc)
theorem wfText:Rows.retryAcksRow.wfByText (OpenSpec.ofChange Rows.retryAcksSpec)=true:=by kernel_rfl
theorem mainIs:Tryz.prog.mainIs=some (true,"13fbf496c2d1ff7793ae7ea1dd539df4e93c4693f327274c92be49edca3713a7".toList):=by kernel_rfl
theorem looks:true=Tryz.prog.looks []:=by kernel_rfl
theorem goes:false=Rows.retryAcksRow.goesBy Tryz.prog:=by kernel_rfl
theorem plainArgs:([5,22].all λu=>!Tryz.prog.wantsStandIn u)=true:=by kernel_rfl
theorem proved:Rows.RetryAcksCardSaid :=
 Claim7.holds_tied_plain_at .later [] [.data,.data,.data,.data,.sentinel,.sentinel,.pinned] true (true,"13fbf496c2d1ff7793ae7ea1dd539df4e93c4693f327274c92be49edca3713a7") true
  said (λ_ h=>by cases h) wfText (λ_ h=>by cases h) retryAcks_row_tie rfl ⟨rfl,rfl⟩ mainIs rfl
  (λf fn E A=>by
   obtain rfl:f=3:=Option.some.inj (named.symm.trans E) |>.symm
   obtain rfl:fn=Tryz.f3:=(Option.some.inj (Tryz.func3.symm.trans A)).symm
   exact ⟨looks,λj t B=>by
    rw [Tryz.params3] at B;have F:t∈[5,22]:=by simpa using Array.mem_of_getElem? B
    exact (show Tryz.prog.wantsStandIn t=false by simpa using List.all_eq_true.1 plainArgs t F)⟩)
  goes
end retryAcks
end Go.Proofs.YtckjigopecocaaaGreatDoor
