/- Ends never fall, as long as the topic is there; starts never fall either. -/
import Derived.Test.YtfdhofabgdkkkaaGreatDoorJEndsA
namespace Go.Proofs.YtfdhofabgdkkkaaGreatDoor.stateEnds
open Go.ChangeShapes Go.WideShapes Go.ChangeAt Go.RowKit Go.Joins Go.Fm Go.BigFrame
set_option linter.unusedVariables false
set_option maxRecDepth 100000
theorem fact0:(Rows.stateEndsRow.wf (OpenSpec.ofChange Rows.stateEndsSpec))=true:=by kernel_rfl
theorem fact1:(laidOutB Tryz.prog)=true:=by kernel_rfl
theorem fact2:(mapsRowed Tryz.prog)=true:=by kernel_rfl
theorem fact3:(Tryz.f5.params.all (Tryz.prog.readableRec ·))=true:=by kernel_rfl
theorem fact4:(namedTie Tryz.prog Rows.stateEndsRow.named Rows.stateEndsSpec.vars)=true:=by kernel_rfl
theorem fact5:((Rows.stateEndsRow.stops == []))=true:=by kernel_rfl
theorem fact6:((Tryz.prog.stops == []))=true:=by kernel_rfl
theorem fact7:((Rows.stateEndsRow.knobs == []))=true:=by kernel_rfl
theorem fact8:((Tryz.prog.stopKnobs == []))=true:=by kernel_rfl
theorem fact9:((Rows.stateEndsRow.inPlace == Tryz.prog.inPlace 5))=true:=by kernel_rfl
theorem fact10:((Rows.stateEndsRow.unfollowed == Tryz.prog.unfollowed 5))=true:=by kernel_rfl
theorem fact11:((Rows.stateEndsRow.recurses == Tryz.prog.recurses 5))=true:=by kernel_rfl
theorem fact12:((Rows.stateEndsRow.named == Tryz.prog.varsNamed 5))=true:=by kernel_rfl
theorem fact13:((Rows.stateEndsRow.maps == (Tryz.f5.params.toList++Rows.stateEndsSpec.plain.varTypes Tryz.prog).any (Tryz.prog.mapsRec ·)))=true:=by kernel_rfl
theorem fact14:((Rows.stateEndsRow.ifaces == (Tryz.f5.params.toList++Rows.stateEndsSpec.plain.varTypes Tryz.prog).any (Tryz.prog.ifacesRec ·)))=true:=by kernel_rfl
theorem fact15:((Rows.stateEndsRow.mapsOut == Tryz.prog.mapsAmong Tryz.f5.resultTypes.toList))=true:=by kernel_rfl
theorem fact16:((Rows.stateEndsRow.loops == (Tryz.f5.params.toList++Rows.stateEndsSpec.plain.varTypes Tryz.prog).any (Tryz.prog.loopsFrom ·)))=true:=by kernel_rfl
theorem fact17:((Rows.stateEndsRow.wideKeys == (Tryz.f5.params.toList++Rows.stateEndsSpec.plain.varTypes Tryz.prog++Tryz.f5.resultTypes.toList).any (Tryz.prog.wideKeysFrom ·)))=true:=by kernel_rfl
theorem fact18:(Rows.stateEndsSpec.vars.all (Tryz.prog.varReadable ·))=true:=by kernel_rfl
theorem fact19:(Tryz.f5.resultTypes.all (fun t=>Tryz.prog.readableRec t && decide (t < Tryz.prog.types.size)))=true:=by kernel_rfl
theorem fact20:((Rows.stateEndsRow.ifacesOut == Tryz.f5.resultTypes.toList.any (Tryz.prog.ifacesRec ·)))=true:=by kernel_rfl
theorem fact21:((Rows.stateEndsRow.loopsOut == Tryz.f5.resultTypes.toList.any (Tryz.prog.loopsFrom ·)))=true:=by kernel_rfl
theorem fact22:((Rows.stateEndsRow.plainKeys == Tryz.prog.plainKeys))=true:=by kernel_rfl
theorem fact23:(Rows.stateEndsRow.shortTexts.isNone)=true:=by kernel_rfl
theorem fact24:(Tryz.prog.stopsHeard)=true:=by kernel_rfl
theorem fact25:(Tryz.prog.mayEnter)=true:=by kernel_rfl
theorem fact26:((Rows.stateEndsRow.lifted == Tryz.prog.liftsFinal))=true:=by kernel_rfl
theorem fact27:((Tryz.prog.make == some Rows.stateEndsRow.make))=true:=by kernel_rfl
theorem fact28:((Rows.stateEndsRow.kinds == (if Rows.stateEndsRow.domain.isEmpty then [] else Tryz.f5.params.toList.map fun t=>match Tryz.prog.underlying t with | some (.int k)=>some k | _=>none)))=true:=by kernel_rfl
theorem fact29:((Rows.stateEndsRow.pinned == Rows.stateEndsRow.pinnedBy))=true:=by kernel_rfl
theorem fact30:((Rows.stateEndsRow.veiled == (Tryz.f5.params.toList++Rows.stateEndsSpec.plain.varTypes Tryz.prog++Tryz.f5.resultTypes.toList).any (Tryz.prog.veiledRec ·)))=true:=by kernel_rfl
theorem fact31:(Rows.stateEndsRow.veiledFits Tryz.prog Tryz.f5.params.toList (Tryz.f5.params.toList++Rows.stateEndsSpec.plain.varTypes Tryz.prog++Tryz.f5.resultTypes.toList))=true:=by kernel_rfl
theorem both {a b:Bool} (ha:a=true) (hb:b=true):(a && b)=true:=by rw [ha,hb]; rfl
theorem closed:joinedFacts Tryz.prog 5 Tryz.f5 Rows.stateEndsSpec Rows.stateEndsRow=true:=by
 unfold joinedFacts
 exact (both (both (both (both (both (both (both (both (both (both (both (both (both (both (both (both (both (both (both (both (both (both (both (both (both (both (both (both (both (both (both fact0 fact1) fact2) fact3) fact4) fact5) fact6) fact7) fact8) fact9) fact10) fact11) fact12) fact13) fact14) fact15) fact16) fact17) fact18) fact19) fact20) fact21) fact22) fact23) fact24) fact25) fact26) fact27) fact28) fact29) fact30) fact31)
theorem over:Rows.StateEndsSaid:=
 OpenClaim.holds_of_wide 5 Tryz.f5 rfl rfl rfl rfl rfl rfl rfl ⟨rfl,rfl,rfl,rfl,rfl⟩ rfl rfl rfl rfl rfl (by kernel_rfl) Tryz.func5 closed
  (of_decide_eq_true (by kernel_rfl)) (by unfold Func.isWrapper; first | (rw [if_pos (by decide+kernel)]; kernel_rfl) | (rw [if_neg (by decide+kernel)]; exact ⟨rfl,rfl⟩))
  (fun os started H enc _=>lifted os started H enc)
end Go.Proofs.YtfdhofabgdkkkaaGreatDoor.stateEnds
