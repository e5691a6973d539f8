/- What one partition is told changes nothing of another one. -/
import Derived.Test.YtfdhofabgdkkkaaGreatDoorJApartB
namespace Go.Proofs.YtfdhofabgdkkkaaGreatDoor.stateApart
open Go.ChangeShapes Go.WideShapes Go.ChangeAt Go.RowKit Go.Joins Go.Fm Go.BigFrame
set_option linter.unusedVariables false
set_option maxRecDepth 100000
theorem proved:Rows.StateApartCardSaid:=
 Claim7.holds_tied_plain_at .later [] [.data,.data,.pinned] true (true, "dea7876b46f8d311670febbf903361ea52308cf7487194f2ff98cda2a737c5c4") false over (fun _ h=>by cases h) (by kernel_rfl) (fun _ h=>by cases h) stateApart_row_tie rfl ⟨rfl,rfl⟩ (by kernel_rfl) rfl
  (fun f fn hf hfn=>by
   obtain rfl:f=7:=Option.some.inj ((show Tryz.prog.funcNamed "flotsam/flotsamlaw20.StateApart"=some 7 by kernel_rfl).symm.trans hf) |>.symm
   obtain rfl:fn=Tryz.f7:=(Option.some.inj (Tryz.func7.symm.trans hfn)).symm
   exact ⟨by kernel_rfl,fun j t ht=>by
    rw [Tryz.params7] at ht
    have hm:t∈ [49]:=by simpa using Array.mem_of_getElem? ht
    have hall:([49].all fun u=>!Tryz.prog.wantsStandIn u)=true:=by kernel_rfl
    exact (show Tryz.prog.wantsStandIn t=false by simpa using List.all_eq_true.1 hall t hm)⟩)
  (by kernel_rfl)
end Go.Proofs.YtfdhofabgdkkkaaGreatDoor.stateApart
