/- What one partition is told changes nothing of another one. -/
import Derived.Test.YtfdhofabgdkkkaaGreatDoorJApartA
namespace Go.Proofs.YtfdhofabgdkkkaaGreatDoor.stateApart
open Go.ChangeShapes Go.WideShapes Go.ChangeAt Go.RowKit Go.Joins Go.Fm Go.BigFrame
set_option linter.unusedVariables false
set_option maxRecDepth 100000
theorem fact0:(Rows.stateApartRow.wf (OpenSpec.ofChange Rows.stateApartSpec))=true:=by kernel_rfl
theorem fact1:(laidOutB Tryz.prog)=true:=by kernel_rfl
theorem fact2:(mapsRowed Tryz.prog)=true:=by kernel_rfl
theorem fact3:(Tryz.f7.params.all (Tryz.prog.readableRec ·))=true:=by kernel_rfl
theorem fact4:(namedTie Tryz.prog Rows.stateApartRow.named Rows.stateApartSpec.vars)=true:=by kernel_rfl
theorem fact5:((Rows.stateApartRow.stops == []))=true:=by kernel_rfl
theorem fact6:((Tryz.prog.stops == []))=true:=by kernel_rfl
theorem fact7:((Rows.stateApartRow.knobs == []))=true:=by kernel_rfl
theorem fact8:((Tryz.prog.stopKnobs == []))=true:=by kernel_rfl
theorem fact9:((Rows.stateApartRow.inPlace == Tryz.prog.inPlace 7))=true:=by kernel_rfl
theorem fact10:((Rows.stateApartRow.unfollowed == Tryz.prog.unfollowed 7))=true:=by kernel_rfl
theorem fact11:((Rows.stateApartRow.recurses == Tryz.prog.recurses 7))=true:=by kernel_rfl
theorem fact12:((Rows.stateApartRow.named == Tryz.prog.varsNamed 7))=true:=by kernel_rfl
theorem fact13:((Rows.stateApartRow.maps == (Tryz.f7.params.toList++Rows.stateApartSpec.plain.varTypes Tryz.prog).any (Tryz.prog.mapsRec ·)))=true:=by kernel_rfl
theorem fact14:((Rows.stateApartRow.ifaces == (Tryz.f7.params.toList++Rows.stateApartSpec.plain.varTypes Tryz.prog).any (Tryz.prog.ifacesRec ·)))=true:=by kernel_rfl
theorem fact15:((Rows.stateApartRow.mapsOut == Tryz.prog.mapsAmong Tryz.f7.resultTypes.toList))=true:=by kernel_rfl
theorem fact16:((Rows.stateApartRow.loops == (Tryz.f7.params.toList++Rows.stateApartSpec.plain.varTypes Tryz.prog).any (Tryz.prog.loopsFrom ·)))=true:=by kernel_rfl
theorem fact17:((Rows.stateApartRow.wideKeys == (Tryz.f7.params.toList++Rows.stateApartSpec.plain.varTypes Tryz.prog++Tryz.f7.resultTypes.toList).any (Tryz.prog.wideKeysFrom ·)))=true:=by kernel_rfl
theorem fact18:(Rows.stateApartSpec.vars.all (Tryz.prog.varReadable ·))=true:=by kernel_rfl
theorem fact19:(Tryz.f7.resultTypes.all (fun t=>Tryz.prog.readableRec t && decide (t < Tryz.prog.types.size)))=true:=by kernel_rfl
theorem fact20:((Rows.stateApartRow.ifacesOut == Tryz.f7.resultTypes.toList.any (Tryz.prog.ifacesRec ·)))=true:=by kernel_rfl
theorem fact21:((Rows.stateApartRow.loopsOut == Tryz.f7.resultTypes.toList.any (Tryz.prog.loopsFrom ·)))=true:=by kernel_rfl
theorem fact22:((Rows.stateApartRow.plainKeys == Tryz.prog.plainKeys))=true:=by kernel_rfl
theorem fact23:(Rows.stateApartRow.shortTexts.isNone)=true:=by kernel_rfl
theorem fact24:(Tryz.prog.stopsHeard)=true:=by kernel_rfl
theorem fact25:(Tryz.prog.mayEnter)=true:=by kernel_rfl
theorem fact26:((Rows.stateApartRow.lifted == Tryz.prog.liftsFinal))=true:=by kernel_rfl
theorem fact27:((Tryz.prog.make == some Rows.stateApartRow.make))=true:=by kernel_rfl
theorem fact28:((Rows.stateApartRow.kinds == (if Rows.stateApartRow.domain.isEmpty then [] else Tryz.f7.params.toList.map fun t=>match Tryz.prog.underlying t with | some (.int k)=>some k | _=>none)))=true:=by kernel_rfl
theorem fact29:((Rows.stateApartRow.pinned == Rows.stateApartRow.pinnedBy))=true:=by kernel_rfl
theorem fact30:((Rows.stateApartRow.veiled == (Tryz.f7.params.toList++Rows.stateApartSpec.plain.varTypes Tryz.prog++Tryz.f7.resultTypes.toList).any (Tryz.prog.veiledRec ·)))=true:=by kernel_rfl
theorem fact31:(Rows.stateApartRow.veiledFits Tryz.prog Tryz.f7.params.toList (Tryz.f7.params.toList++Rows.stateApartSpec.plain.varTypes Tryz.prog++Tryz.f7.resultTypes.toList))=true:=by kernel_rfl
theorem both {a b:Bool} (ha:a=true) (hb:b=true):(a && b)=true:=by rw [ha,hb]; rfl
theorem closed:joinedFacts Tryz.prog 7 Tryz.f7 Rows.stateApartSpec Rows.stateApartRow=true:=by
 unfold joinedFacts
 exact (both (both (both (both (both (both (both (both (both (both (both (both (both (both (both (both (both (both (both (both (both (both (both (both (both (both (both (both (both (both (both fact0 fact1) fact2) fact3) fact4) fact5) fact6) fact7) fact8) fact9) fact10) fact11) fact12) fact13) fact14) fact15) fact16) fact17) fact18) fact19) fact20) fact21) fact22) fact23) fact24) fact25) fact26) fact27) fact28) fact29) fact30) fact31)
theorem over:Rows.StateApartSaid:=
 OpenClaim.holds_of_wide 7 Tryz.f7 rfl rfl rfl rfl rfl rfl rfl ⟨rfl,rfl,rfl,rfl,rfl⟩ rfl rfl rfl rfl rfl (by kernel_rfl) Tryz.func7 closed
  (of_decide_eq_true (by kernel_rfl)) (by unfold Func.isWrapper; first | (rw [if_pos (by decide+kernel)]; kernel_rfl) | (rw [if_neg (by decide+kernel)]; exact ⟨rfl,rfl⟩))
  (fun os started H enc _=>lifted os started H enc)
end Go.Proofs.YtfdhofabgdkkkaaGreatDoor.stateApart
