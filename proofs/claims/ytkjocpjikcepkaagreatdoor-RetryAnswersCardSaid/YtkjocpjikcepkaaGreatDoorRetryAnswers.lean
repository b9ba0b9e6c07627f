/- The statement RetryAnswers: of any messages, and any group, topic, queue and positions: what comes again is put, offsets are set, or why not, as the document says, up to 40 messages, 20 positions. No condition. -/
import Derived.Test.YtkjocpjikcepkaaGreatDoorR12
import Derived.Test.YtkjocpjikcepkaaGreatDoorR13
import Derived.Test.YtkjocpjikcepkaaGreatDoorCards
import Derived.Test.YtkjocpjikcepkaaGreatDoorTie
import Derived.SevenTiedAt
set_option linter.unusedVariables false
set_option linter.unusedSimpArgs false
set_option maxHeartbeats 25600000
set_option maxRecDepth 100000
namespace Go.Proofs.YtkjocpjikcepkaaGreatDoor
namespace retryAnswers
open Go.ChangeShapes Go.WideShapes Go.ChangeAt Go.RowKit OctMath StoW SndW RetW
theorem lifted (os:Os) (started:os.Started) (H:Type) (enc:TypeId×Value->H) :
 ReturnsInHanded {} Tryz.checked os 3 .any (λw args=>(Rows.retryAnswersSpec.pre enc Tryz.prog Tryz.f3 [] false w args/\laidMetH Tryz.prog laidL w)/\sizedMet enc Tryz.prog Tryz.f3 (OpenSpec.ofChange Rows.retryAnswersSpec) false w args) (Rows.retryAnswersSpec.post enc Tryz.prog Tryz.f3 false true false false):=by
 refine agz started (by kernel_rfl) Tryz.func3
  (ChangeSpec.witness_shaped (enc:=enc) (C:=Tryz.checked) (os:=os) (X:=λw _=>laidMetH Tryz.prog laidL w) false (World.laidAll Tryz.prog os laidL) #[.slice none 0 0,.agg #[.string ⟨#[]⟩,.string ⟨#[]⟩,.int .i64 0,.int .i64 0],.slice none 0 0] 8 (World.laidAll_os _ _ _)
   (aiw _ _) (by kernel_rfl) (by kernel_rfl) (by kernel_rfl) (aq3 os _)) ?_
 intro W base args ds gs before B hW F I;have A:∀ (j:Nat) t v,Tryz.f3.params[j]?=some t->args[j]?=some v->Value.okWide Tryz.prog W .any base t v:=B;have M:(DataW.weightsEach Tryz.prog (Tryz.f3.params.toList++Rows.retryAnswersSpec.plain.varTypes Tryz.prog) (ds++gs)).all (·<=reachBytes)=true:=F;have E:=hW;obtain ⟨p,q,J,hV,rfl,av,a1⟩:=hW;have hA:DataW.TrodAll enc Tryz.prog W 0 (λ_=>true) true Tryz.f3.params.toList args.toList ds p:=J;rw [Tryz.params3] at hA A M;obtain ⟨v0,v1,v2,d0,d1,d2,p0,p1,p2,rfl,rfl,rfl,h0,h1,h2⟩:=trodAll_three hA;obtain ⟨rfl,rfl⟩:=trodVars_none hV;obtain ⟨b0,l0,c0,rfl⟩:=okWide_slice Tryz.underlying22 (A 0 _ v0 rfl rfl);obtain ⟨f0,N⟩:=h0;obtain ⟨a0,k0,ms,O,hM,hI,hC,R⟩:=akz N;rw [O] at E ⊢;obtain ⟨cs,rfl,U⟩:=okWide_struct Tryz.underlying24 (A 1 24 v1 rfl rfl);have Y:cs.size=4:=U.trans (by kernel_rfl);obtain ⟨f1,Z⟩:=h1;obtain ⟨g,t,qu,po,ab,hq,hp⟩:=aq2 (cs:=cs.toList) Y Z;obtain rfl:cs=#[.string (S g),.string (S t),.int .i64 qu,.int .i64 po]:=Array.toList_inj.1 ab;obtain ⟨b2,l2,c2,rfl⟩:=okWide_slice Tryz.underlying25 (A 2 _ v2 rfl rfl);obtain ⟨f2,ac⟩:=h2;obtain ⟨a2,k2,xs,ad,hX,ak,al⟩:=an7 ac;rw [ad] at E ⊢;clear J B;refine (an5 ms a0 k0 g t qu po a2 k2 xs W I hM hI hC R hX al ak hq hp).mono λe W' ⟨he,hb⟩=>?_
 subst he;refine ⟨_,rfl,aq1 E ?_ (tb:=4) (by kernel_rfl) Tryz.underlying4 rfl ⟨rfl,rfl,rfl⟩ hb⟩;rw [Tryz.params3];intro t ht;have:t=22\/t=24\/t=25:=by simpa using ht
 rcases this with rfl | rfl | rfl <;> exact ⟨by kernel_rfl,of_decide_eq_true (by kernel_rfl)⟩
theorem fact0:Rows.retryAnswersRow.wf (OpenSpec.ofChange Rows.retryAnswersSpec)=true:=by kernel_rfl
theorem fact1:laidOutB Tryz.prog=true:=laidOut
theorem fact2:mapsRowed Tryz.prog=true:=by kernel_rfl
theorem fact3:Tryz.f3.params.all (Tryz.prog.readableRec ·)=true:=by kernel_rfl
theorem fact4:namedTie Tryz.prog Rows.retryAnswersRow.named Rows.retryAnswersSpec.vars=true:=by kernel_rfl
theorem fact5:(Rows.retryAnswersRow.stops == [])=true:=by kernel_rfl
theorem fact6:(Tryz.prog.stops == [])=true:=by kernel_rfl
theorem fact7:(Rows.retryAnswersRow.knobs == [])=true:=by kernel_rfl
theorem fact8:(Tryz.prog.stopKnobs == [])=true:=by kernel_rfl
theorem fact9:(Rows.retryAnswersRow.inPlace == Tryz.prog.inPlace 3)=true:=by kernel_rfl
theorem fact10:(Rows.retryAnswersRow.unfollowed == Tryz.prog.unfollowed 3)=true:=by kernel_rfl
theorem fact11:(Rows.retryAnswersRow.recurses == Tryz.prog.recurses 3)=true:=by kernel_rfl
theorem fact12:(Rows.retryAnswersRow.named == Tryz.prog.varsNamed 3)=true:=by kernel_rfl
theorem fact13:(Rows.retryAnswersRow.maps == (Tryz.f3.params.toList++Rows.retryAnswersSpec.plain.varTypes Tryz.prog).any (Tryz.prog.mapsRec ·))=true:=by kernel_rfl
theorem fact14:(Rows.retryAnswersRow.ifaces == (Tryz.f3.params.toList++Rows.retryAnswersSpec.plain.varTypes Tryz.prog).any (Tryz.prog.ifacesRec ·))=true:=by kernel_rfl
theorem fact15:(Rows.retryAnswersRow.mapsOut == Tryz.prog.mapsAmong Tryz.f3.resultTypes.toList)=true:=by kernel_rfl
theorem fact16:(Rows.retryAnswersRow.loops == (Tryz.f3.params.toList++Rows.retryAnswersSpec.plain.varTypes Tryz.prog).any (Tryz.prog.loopsFrom ·))=true:=by kernel_rfl
theorem fact17:(Rows.retryAnswersRow.wideKeys == (Tryz.f3.params.toList++Rows.retryAnswersSpec.plain.varTypes Tryz.prog++Tryz.f3.resultTypes.toList).any (Tryz.prog.wideKeysFrom ·))=true:=by kernel_rfl
theorem fact18:Rows.retryAnswersSpec.vars.all (Tryz.prog.varReadable ·)=true:=by kernel_rfl
theorem fact19:Tryz.f3.resultTypes.all (λt=>Tryz.prog.readableRec t && decide (t < Tryz.prog.types.size))=true:=by kernel_rfl
theorem fact20:(Rows.retryAnswersRow.ifacesOut == Tryz.f3.resultTypes.toList.any (Tryz.prog.ifacesRec ·))=true:=by kernel_rfl
theorem fact21:(Rows.retryAnswersRow.loopsOut == Tryz.f3.resultTypes.toList.any (Tryz.prog.loopsFrom ·))=true:=by kernel_rfl
theorem fact22:(Rows.retryAnswersRow.plainKeys == Tryz.prog.plainKeys)=true:=by kernel_rfl
theorem fact23:Rows.retryAnswersRow.shortTexts.isNone=true:=by kernel_rfl
theorem fact24:Tryz.prog.stopsHeard=true:=by kernel_rfl
theorem fact25:Tryz.prog.mayEnter=true:=by kernel_rfl
theorem fact26:(Rows.retryAnswersRow.lifted == Tryz.prog.liftsFinal)=true:=by kernel_rfl
theorem fact27:(Tryz.prog.make == some Rows.retryAnswersRow.make)=true:=by kernel_rfl
theorem fact28:(Rows.retryAnswersRow.kinds == (if Rows.retryAnswersRow.domain.isEmpty then [] else Tryz.f3.params.toList.map λt=>match Tryz.prog.underlying t with | some (.int k)=>some k | _=>none))=true:=by kernel_rfl
theorem fact29:(Rows.retryAnswersRow.pinned == Rows.retryAnswersRow.pinnedBy)=true:=by kernel_rfl
theorem fact30:(Rows.retryAnswersRow.veiled == (Tryz.f3.params.toList++Rows.retryAnswersSpec.plain.varTypes Tryz.prog++Tryz.f3.resultTypes.toList).any (Tryz.prog.veiledRec ·))=true:=by kernel_rfl
theorem fact31:Rows.retryAnswersRow.veiledFits Tryz.prog Tryz.f3.params.toList (Tryz.f3.params.toList++Rows.retryAnswersSpec.plain.varTypes Tryz.prog++Tryz.f3.resultTypes.toList)=true:=by kernel_rfl
theorem closed:joinedFacts Tryz.prog 3 Tryz.f3 Rows.retryAnswersSpec Rows.retryAnswersRow=true :=
 Bool.and_eq_true_iff.2 ⟨Bool.and_eq_true_iff.2 ⟨Bool.and_eq_true_iff.2 ⟨Bool.and_eq_true_iff.2 ⟨Bool.and_eq_true_iff.2 ⟨Bool.and_eq_true_iff.2 ⟨Bool.and_eq_true_iff.2 ⟨Bool.and_eq_true_iff.2 ⟨Bool.and_eq_true_iff.2 ⟨Bool.and_eq_true_iff.2 ⟨Bool.and_eq_true_iff.2 ⟨Bool.and_eq_true_iff.2 ⟨Bool.and_eq_true_iff.2 ⟨Bool.and_eq_true_iff.2 ⟨Bool.and_eq_true_iff.2 ⟨Bool.and_eq_true_iff.2 ⟨Bool.and_eq_true_iff.2 ⟨Bool.and_eq_true_iff.2 ⟨Bool.and_eq_true_iff.2 ⟨Bool.and_eq_true_iff.2 ⟨Bool.and_eq_true_iff.2 ⟨Bool.and_eq_true_iff.2 ⟨Bool.and_eq_true_iff.2 ⟨Bool.and_eq_true_iff.2 ⟨Bool.and_eq_true_iff.2 ⟨Bool.and_eq_true_iff.2 ⟨Bool.and_eq_true_iff.2 ⟨Bool.and_eq_true_iff.2 ⟨Bool.and_eq_true_iff.2 ⟨Bool.and_eq_true_iff.2 ⟨Bool.and_eq_true_iff.2 ⟨fact0,fact1⟩,fact2⟩,fact3⟩,fact4⟩,fact5⟩,fact6⟩,fact7⟩,fact8⟩,fact9⟩,fact10⟩,fact11⟩,fact12⟩,fact13⟩,fact14⟩,fact15⟩,fact16⟩,fact17⟩,fact18⟩,fact19⟩,fact20⟩,fact21⟩,fact22⟩,fact23⟩,fact24⟩,fact25⟩,fact26⟩,fact27⟩,fact28⟩,fact29⟩,fact30⟩,fact31⟩
theorem named:Tryz.prog.funcNamed "reveille/reveillelaw25.RetryAnswers"=some 3:=by kernel_rfl
theorem wrapper:Tryz.f3.isWrapper Tryz.prog Rows.retryAnswersRow.wrapper Rows.retryAnswersRow.mainSum:=by unfold Func.isWrapper; first | (rw [if_pos (by decide +kernel)]; kernel_rfl) | (rw [if_neg (by decide +kernel)]; exact ⟨rfl,rfl⟩)
theorem said:Rows.RetryAnswersSaid :=
 OpenClaim.holds_of_wide 3 Tryz.f3 rfl rfl rfl rfl rfl rfl rfl ⟨rfl,rfl,rfl,rfl,rfl⟩ rfl rfl rfl rfl rfl named Tryz.func3 closed
  (of_decide_eq_true (by kernel_rfl)) wrapper
  (λos started H enc _=>lifted os started H enc)
theorem wfText:Rows.retryAnswersRow.wfByText (OpenSpec.ofChange Rows.retryAnswersSpec)=true:=by kernel_rfl
theorem mainIs:Tryz.prog.mainIs=some (true,"740985d5d62d4e9152da12649c679ebfe1660bcffffb6b5876e036410b03a0a7".toList):=by kernel_rfl
theorem looks:true=Tryz.prog.looks []:=by kernel_rfl
theorem goes:false=Rows.retryAnswersRow.goesBy Tryz.prog:=by kernel_rfl
theorem plainArgs:([22,24,25].all λu=>!Tryz.prog.wantsStandIn u)=true:=by kernel_rfl
theorem proved:Rows.RetryAnswersCardSaid :=
 Claim7.holds_tied_plain_at .later [] [.data,.data,.data,.data,.sentinel,.sentinel,.pinned] true (true,"740985d5d62d4e9152da12649c679ebfe1660bcffffb6b5876e036410b03a0a7") true
  said (λ_ h=>by cases h) wfText (λ_ h=>by cases h) retryAnswers_row_tie rfl ⟨rfl,rfl⟩ mainIs rfl
  (λf fn E A=>by
   obtain rfl:f=3:=Option.some.inj (named.symm.trans E) |>.symm
   obtain rfl:fn=Tryz.f3:=(Option.some.inj (Tryz.func3.symm.trans A)).symm
   exact ⟨looks,λj t B=>by
    rw [Tryz.params3] at B;have F:t∈[22,24,25]:=by simpa using Array.mem_of_getElem? B
    exact (show Tryz.prog.wantsStandIn t=false by simpa using List.all_eq_true.1 plainArgs t F)⟩)
  goes
end retryAnswers
end Go.Proofs.YtkjocpjikcepkaaGreatDoor
