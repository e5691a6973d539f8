/- What was produced is fetched, where At said: batch for batch. -/
import Derived.Test.YtfdhofabgdkkkaaGreatDoorY53
namespace Go.Proofs.YtfdhofabgdkkkaaGreatDoor.stateFetches
open Go.ChangeShapes Go.WideShapes Go.ChangeAt Go.RowKit Go.Joins Go.Fm Go.BigFrame
set_option linter.unusedVariables false
set_option maxRecDepth 100000

theorem proved : Rows.StateFetchesCardSaid :=
  Claim7.holds_tied_plain_at .later [] [.data, .data, .pinned] true (true, "dea7876b46f8d311670febbf903361ea52308cf7487194f2ff98cda2a737c5c4") false over (fun _ h => by cases h) (by kernel_rfl) (fun _ h => by cases h) stateFetches_row_tie rfl ⟨rfl, rfl⟩ (by kernel_rfl) rfl
    (fun f fn hf hfn => by
      obtain rfl : f = 3 := Option.some.inj ((show Tryz.prog.funcNamed "flotsam/flotsamlaw20.StateFetches" = some 3 by kernel_rfl).symm.trans hf) |>.symm
      obtain rfl : fn = Tryz.f3 := (Option.some.inj (Tryz.func3.symm.trans hfn)).symm
      exact ⟨by kernel_rfl, fun j t ht => by
        rw [Tryz.params3] at ht
        have hm : t ∈ [22] := by simpa using Array.mem_of_getElem? ht
        have hall : ([22].all fun u => !Tryz.prog.wantsStandIn u) = true := by kernel_rfl
        exact (show Tryz.prog.wantsStandIn t = false by simpa using List.all_eq_true.1 hall t hm)⟩)
    (by kernel_rfl)
end Go.Proofs.YtfdhofabgdkkkaaGreatDoor.stateFetches
