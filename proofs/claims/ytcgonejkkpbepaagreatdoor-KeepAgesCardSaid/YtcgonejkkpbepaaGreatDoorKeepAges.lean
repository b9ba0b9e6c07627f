/- The statement KeepAges: what isn't old at some age isn't at a greater one; as time passes what is old stays so, up to 60 messages. No condition. -/
import Derived.Test.YtcgonejkkpbepaaGreatDoorR11
import Derived.Test.YtcgonejkkpbepaaGreatDoorCards
import Derived.Test.YtcgonejkkpbepaaGreatDoorTie
import Derived.SevenTiedAt
set_option linter.unusedVariables false
set_option linter.unusedSimpArgs false
set_option maxHeartbeats 25600000
set_option maxRecDepth 100000
namespace Go.Proofs.YtcgonejkkpbepaaGreatDoor
namespace keepAges
open Go.ChangeShapes Go.WideShapes Go.ChangeAt Go.RowKit OctMath StoW SndW KepW
theorem lifted (os:Os) (started:os.Started) (H:Type) (enc:TypeId×Value->H) :
 ReturnsInHanded {} Tryz.checked os 3 .any (λw args=>(Rows.keepAgesSpec.pre enc Tryz.prog Tryz.f3 [] false w args/\laidMetH Tryz.prog laidL w)/\sizedMet enc Tryz.prog Tryz.f3 (OpenSpec.ofChange Rows.keepAgesSpec) false w args) (Rows.keepAgesSpec.post enc Tryz.prog Tryz.f3 false true false false):=by
 refine afu started (by kernel_rfl) Tryz.func3
  (ChangeSpec.witness_shaped (enc:=enc) (C:=Tryz.checked) (os:=os) (X:=λw _=>laidMetH Tryz.prog laidL w) false (World.laidAll Tryz.prog os laidL) #[.slice none 0 0,.agg #[.int .u16 0,.int .u16 0],.int .u16 0] 8 (World.laidAll_os _ _ _)
   (ahv _ _) (by kernel_rfl) (by kernel_rfl) (by kernel_rfl) (ao1 os _)) ?_
 intro W base args R gs before B hW E F;have A:∀ (j:Nat) t v,Tryz.f3.params[j]?=some t->args[j]?=some v->Value.okWide Tryz.prog W .any base t v:=B;have M:(DataW.weightsEach Tryz.prog (Tryz.f3.params.toList++Rows.keepAgesSpec.plain.varTypes Tryz.prog) (R++gs)).all (·<=reachBytes)=true:=E;have I:=hW;obtain ⟨p,q,J,Y,rfl,Z,ab⟩:=hW;have U:DataW.TrodAll enc Tryz.prog W 0 (λ_=>true) true Tryz.f3.params.toList args.toList R p:=J;rw [Tryz.params3] at U A M;obtain ⟨v0,v1,v2,d0,d1,d2,p0,p1,p2,rfl,rfl,rfl,h0,h1,h2⟩:=trodAll_three U;obtain ⟨rfl,rfl⟩:=trodVars_none Y;obtain ⟨b0,l0,c0,rfl⟩:=okWide_slice Tryz.underlying22 (A 0 _ v0 rfl rfl);obtain ⟨f0,N⟩:=h0;obtain ⟨a0,k0,ms,O,hR,hI,hl⟩:=ao0 N;rw [O] at I ⊢;obtain ⟨x,y,rfl,hx,hy⟩:=aju (A 1 24 v1 rfl rfl) h1;obtain ⟨z,rfl,rfl,rfl,wz⟩:=open_int Tryz.underlying23 (A 2 23 v2 rfl rfl) h2;clear J B;refine (aoy ms a0 k0 x y z hx hy (u16_in wz) W F hR hI hl).mono λe W' ⟨he,hb⟩=>?_
 subst he;refine ⟨_,rfl,aoz I ?_ (tb:=4) (by kernel_rfl) Tryz.underlying4 rfl ⟨rfl,rfl,rfl⟩ hb⟩;rw [Tryz.params3];intro t ht;have:t=22\/t=24\/t=23:=by simpa using ht
 rcases this with rfl | rfl | rfl <;> exact ⟨by kernel_rfl,of_decide_eq_true (by kernel_rfl)⟩
theorem fact0:Rows.keepAgesRow.wf (OpenSpec.ofChange Rows.keepAgesSpec)=true:=by kernel_rfl
theorem fact1:laidOutB Tryz.prog=true:=laidOut
theorem fact2:mapsRowed Tryz.prog=true:=by kernel_rfl
theorem fact3:Tryz.f3.params.all (Tryz.prog.readableRec ·)=true:=by kernel_rfl
theorem fact4:namedTie Tryz.prog Rows.keepAgesRow.named Rows.keepAgesSpec.vars=true:=by kernel_rfl
theorem fact5:(Rows.keepAgesRow.stops == [])=true:=by kernel_rfl
theorem fact6:(Tryz.prog.stops == [])=true:=by kernel_rfl
theorem fact7:(Rows.keepAgesRow.knobs == [])=true:=by kernel_rfl
theorem fact8:(Tryz.prog.stopKnobs == [])=true:=by kernel_rfl
theorem fact9:(Rows.keepAgesRow.inPlace == Tryz.prog.inPlace 3)=true:=by kernel_rfl
theorem fact10:(Rows.keepAgesRow.unfollowed == Tryz.prog.unfollowed 3)=true:=by kernel_rfl
theorem fact11:(Rows.keepAgesRow.recurses == Tryz.prog.recurses 3)=true:=by kernel_rfl
theorem fact12:(Rows.keepAgesRow.named == Tryz.prog.varsNamed 3)=true:=by kernel_rfl
theorem fact13:(Rows.keepAgesRow.maps == (Tryz.f3.params.toList++Rows.keepAgesSpec.plain.varTypes Tryz.prog).any (Tryz.prog.mapsRec ·))=true:=by kernel_rfl
theorem fact14:(Rows.keepAgesRow.ifaces == (Tryz.f3.params.toList++Rows.keepAgesSpec.plain.varTypes Tryz.prog).any (Tryz.prog.ifacesRec ·))=true:=by kernel_rfl
theorem fact15:(Rows.keepAgesRow.mapsOut == Tryz.prog.mapsAmong Tryz.f3.resultTypes.toList)=true:=by kernel_rfl
theorem fact16:(Rows.keepAgesRow.loops == (Tryz.f3.params.toList++Rows.keepAgesSpec.plain.varTypes Tryz.prog).any (Tryz.prog.loopsFrom ·))=true:=by kernel_rfl
theorem fact17:(Rows.keepAgesRow.wideKeys == (Tryz.f3.params.toList++Rows.keepAgesSpec.plain.varTypes Tryz.prog++Tryz.f3.resultTypes.toList).any (Tryz.prog.wideKeysFrom ·))=true:=by kernel_rfl
theorem fact18:Rows.keepAgesSpec.vars.all (Tryz.prog.varReadable ·)=true:=by kernel_rfl
theorem fact19:Tryz.f3.resultTypes.all (λt=>Tryz.prog.readableRec t && decide (t < Tryz.prog.types.size))=true:=by kernel_rfl
theorem fact20:(Rows.keepAgesRow.ifacesOut == Tryz.f3.resultTypes.toList.any (Tryz.prog.ifacesRec ·))=true:=by kernel_rfl
theorem fact21:(Rows.keepAgesRow.loopsOut == Tryz.f3.resultTypes.toList.any (Tryz.prog.loopsFrom ·))=true:=by kernel_rfl
theorem fact22:(Rows.keepAgesRow.plainKeys == Tryz.prog.plainKeys)=true:=by kernel_rfl
theorem fact23:Rows.keepAgesRow.shortTexts.isNone=true:=by kernel_rfl
theorem fact24:Tryz.prog.stopsHeard=true:=by kernel_rfl
theorem fact25:Tryz.prog.mayEnter=true:=by kernel_rfl
theorem fact26:(Rows.keepAgesRow.lifted == Tryz.prog.liftsFinal)=true:=by kernel_rfl
theorem fact27:(Tryz.prog.make == some Rows.keepAgesRow.make)=true:=by kernel_rfl
theorem fact28:(Rows.keepAgesRow.kinds == (if Rows.keepAgesRow.domain.isEmpty then [] else Tryz.f3.params.toList.map λt=>match Tryz.prog.underlying t with | some (.int k)=>some k | _=>none))=true:=by kernel_rfl
theorem fact29:(Rows.keepAgesRow.pinned == Rows.keepAgesRow.pinnedBy)=true:=by kernel_rfl
theorem fact30:(Rows.keepAgesRow.veiled == (Tryz.f3.params.toList++Rows.keepAgesSpec.plain.varTypes Tryz.prog++Tryz.f3.resultTypes.toList).any (Tryz.prog.veiledRec ·))=true:=by kernel_rfl
theorem fact31:Rows.keepAgesRow.veiledFits Tryz.prog Tryz.f3.params.toList (Tryz.f3.params.toList++Rows.keepAgesSpec.plain.varTypes Tryz.prog++Tryz.f3.resultTypes.toList)=true:=by kernel_rfl
theorem closed:joinedFacts Tryz.prog 3 Tryz.f3 Rows.keepAgesSpec Rows.keepAgesRow=true :=
 Bool.and_eq_true_iff.2 ⟨Bool.and_eq_true_iff.2 ⟨Bool.and_eq_true_iff.2 ⟨Bool.and_eq_true_iff.2 ⟨Bool.and_eq_true_iff.2 ⟨Bool.and_eq_true_iff.2 ⟨Bool.and_eq_true_iff.2 ⟨Bool.and_eq_true_iff.2 ⟨Bool.and_eq_true_iff.2 ⟨Bool.and_eq_true_iff.2 ⟨Bool.and_eq_true_iff.2 ⟨Bool.and_eq_true_iff.2 ⟨Bool.and_eq_true_iff.2 ⟨Bool.and_eq_true_iff.2 ⟨Bool.and_eq_true_iff.2 ⟨Bool.and_eq_true_iff.2 ⟨Bool.and_eq_true_iff.2 ⟨Bool.and_eq_true_iff.2 ⟨Bool.and_eq_true_iff.2 ⟨Bool.and_eq_true_iff.2 ⟨Bool.and_eq_true_iff.2 ⟨Bool.and_eq_true_iff.2 ⟨Bool.and_eq_true_iff.2 ⟨Bool.and_eq_true_iff.2 ⟨Bool.and_eq_true_iff.2 ⟨Bool.and_eq_true_iff.2 ⟨Bool.and_eq_true_iff.2 ⟨Bool.and_eq_true_iff.2 ⟨Bool.and_eq_true_iff.2 ⟨Bool.and_eq_true_iff.2 ⟨Bool.and_eq_true_iff.2 ⟨fact0,fact1⟩,fact2⟩,fact3⟩,fact4⟩,fact5⟩,fact6⟩,fact7⟩,fact8⟩,fact9⟩,fact10⟩,fact11⟩,fact12⟩,fact13⟩,fact14⟩,fact15⟩,fact16⟩,fact17⟩,fact18⟩,fact19⟩,fact20⟩,fact21⟩,fact22⟩,fact23⟩,fact24⟩,fact25⟩,fact26⟩,fact27⟩,fact28⟩,fact29⟩,fact30⟩,fact31⟩
theorem named:Tryz.prog.funcNamed "reveille/reveillelaw26.KeepAges"=some 3:=by kernel_rfl
theorem wrapper:Tryz.f3.isWrapper Tryz.prog Rows.keepAgesRow.wrapper Rows.keepAgesRow.mainSum:=by unfold Func.isWrapper; first | (rw [if_pos (by decide +kernel)]; kernel_rfl) | (rw [if_neg (by decide +kernel)]; exact ⟨rfl,rfl⟩)
theorem said:Rows.KeepAgesSaid :=
 OpenClaim.holds_of_wide 3 Tryz.f3 rfl rfl rfl rfl rfl rfl rfl ⟨rfl,rfl,rfl,rfl,rfl⟩ rfl rfl rfl rfl rfl named Tryz.func3 closed
  (of_decide_eq_true (by kernel_rfl)) wrapper
  (λos started H enc _=>lifted os started H enc)
theorem wfText:Rows.keepAgesRow.wfByText (OpenSpec.ofChange Rows.keepAgesSpec)=true:=by kernel_rfl
theorem mainIs:Tryz.prog.mainIs=some (true,"021e937809e38e95113d2047177a5ed6746fe9ab284b124469ac3694168fd214".toList):=by kernel_rfl
theorem looks:true=Tryz.prog.looks []:=by kernel_rfl
theorem goes:false=Rows.keepAgesRow.goesBy Tryz.prog:=by kernel_rfl
theorem plainArgs:([22,24,23].all λu=>!Tryz.prog.wantsStandIn u)=true:=by kernel_rfl
theorem proved:Rows.KeepAgesCardSaid :=
 Claim7.holds_tied_plain_at .later [] [.data,.data,.data,.data,.sentinel,.sentinel,.pinned] true (true,"021e937809e38e95113d2047177a5ed6746fe9ab284b124469ac3694168fd214") true
  said (λ_ h=>by cases h) wfText (λ_ h=>by cases h) keepAges_row_tie rfl ⟨rfl,rfl⟩ mainIs rfl
  (λf fn E A=>by
   obtain rfl:f=3:=Option.some.inj (named.symm.trans E) |>.symm
   obtain rfl:fn=Tryz.f3:=(Option.some.inj (Tryz.func3.symm.trans A)).symm
   exact ⟨looks,λj t B=>by
    rw [Tryz.params3] at B;have F:t∈[22,24,23]:=by simpa using Array.mem_of_getElem? B
    exact (show Tryz.prog.wantsStandIn t=false by simpa using List.all_eq_true.1 plainArgs t F)⟩)
  goes
end keepAges
end Go.Proofs.YtcgonejkkpbepaaGreatDoor
