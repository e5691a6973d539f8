/- Ends never fall, as long as the topic is there; starts never fall either. -/
import Derived.Test.YtfdhofabgdkkkaaGreatDoorJEndsB
namespace Go.Proofs.YtfdhofabgdkkkaaGreatDoor.stateEnds
open Go.ChangeShapes Go.WideShapes Go.ChangeAt Go.RowKit Go.Joins Go.Fm Go.BigFrame
set_option linter.unusedVariables false
set_option maxRecDepth 100000
theorem proved:Rows.StateEndsCardSaid:=
 Claim7.holds_tied_plain_at .later [] [.data,.data,.pinned] true (true, "dea7876b46f8d311670febbf903361ea52308cf7487194f2ff98cda2a737c5c4") false over (fun _ h=>by cases h) (by kernel_rfl) (fun _ h=>by cases h) stateEnds_row_tie rfl ⟨rfl,rfl⟩ (by kernel_rfl) rfl
  (fun f fn hf hfn=>by
   obtain rfl:f=5:=Option.some.inj ((show Tryz.prog.funcNamed "flotsam/flotsamlaw20.StateEnds"=some 5 by kernel_rfl).symm.trans hf) |>.symm
   obtain rfl:fn=Tryz.f5:=(Option.some.inj (Tryz.func5.symm.trans hfn)).symm
   exact ⟨by kernel_rfl,fun j t ht=>by
    rw [Tryz.params5] at ht
    have hm:t∈ [49,3]:=by simpa using Array.mem_of_getElem? ht
    have hall:([49,3].all fun u=>!Tryz.prog.wantsStandIn u)=true:=by kernel_rfl
    exact (show Tryz.prog.wantsStandIn t=false by simpa using List.all_eq_true.1 hall t hm)⟩)
  (by kernel_rfl)
end Go.Proofs.YtfdhofabgdkkkaaGreatDoor.stateEnds
