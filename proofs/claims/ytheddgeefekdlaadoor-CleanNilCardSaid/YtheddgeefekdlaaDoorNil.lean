/- 'CleanNil' for every input: a cleaner that is none cleans nothing; the variables that the row lists are laid as the program's text lays them (the card's tie). No other conditions. -/
import Derived.Test.YtheddgeefekdlaaDoorRows
import Derived.Test.YtheddgeefekdlaaDoorCards
import Derived.Test.YtheddgeefekdlaaDoorTie
import Derived.Test.YtheddgeefekdlaaDoorV1
import Derived.ProofKit
import Derived.Lib.SmallJoins
import Derived.Carry
import Derived.OpenShut
import Derived.LaidMore
import Derived.Lay
import Derived.SevenTiedAt
import Derived.Stop.Joined
namespace Go.Proofs.YtheddgeefekdlaaDoor.cleanNil
open Go.ChangeShapes Go.WideShapes Go.ChangeAt Go.RowKit Go.Joins Go.Fm Go.BigFrame
set_option linter.unusedVariables false

theorem step_nil (w : World) : Calls Tryd.prog 5 #[.pointer none] w fun e w' => e = .returned (.tuple #[.bool false, .int .i64 1]) ∧ Fr (fun _ => False) w w' := by
  go_enter Tryd.func5, Tryd.ntmps5
  go_wp2_with fail
  go_quiet (fail)
  go_wp2_with fail
  go_ret2
  exact ⟨rfl, (Fr.same w).drewN nq⟩

set_option maxHeartbeats 4000000 in
theorem nil_walk (before : Int) (w : World) : Calls Tryd.prog 3 #[.int .i64 before] w fun e w' => e = .returned (.bool true) ∧ Fr (fun _ => False) w w' := by
  go_enter Tryd.func3, Tryd.ntmps3
  go_wp2_with fail
  refine (new_nil before _).mono ?_
  rintro e w2 ⟨rfl, rfl⟩
  go_wp2_with fail
  refine (step_nil _).mono ?_
  rintro e w3 ⟨rfl, hf3⟩
  go_wp2_with fail
  refine (live_walk _).mono ?_
  rintro e w4 ⟨rfl, hf⟩
  go_wp2_with fail
  go_ret
  exact ⟨rfl, hf3.tr hf⟩

theorem own : ownKnob Tryd.prog.godebug = none := by kernel_rfl
theorem laidOut : laidOutB Tryd.prog = true := by kernel_rfl

set_option maxRecDepth 100000 in
theorem lifted (os : Os) (started : os.Started) (H : Type) (enc : TypeId × Value → H) :
    ReturnsInHanded {} Tryd.checked os 3 .any (fun w args => (Rows.cleanNilSpec.pre enc Tryd.prog Tryd.f3 Rows.cleanNilRow.domain false w args ∧ laidMetH Tryd.prog [("flotsam/crcc.steps", Rows.laid_flotsam_crcc_steps)] w) ∧ sizedMet enc Tryd.prog Tryd.f3 (OpenSpec.ofChange Rows.cleanNilSpec) false w args)
      (Rows.cleanNilSpec.post enc Tryd.prog Tryd.f3 false true false false) := by
  refine returnsInHanded_of_change_and (C := Tryd.checked) (X := fun w _ => laidMetH Tryd.prog [("flotsam/crcc.steps", Rows.laid_flotsam_crcc_steps)] w) (fun _ _ _ hh h => h.of_heap hh) own started (by kernel_rfl) Tryd.func3
    (ChangeSpec.witness_shaped (enc := enc) (C := Tryd.checked) (os := os) (X := fun w _ => laidMetH Tryd.prog [("flotsam/crcc.steps", Rows.laid_flotsam_crcc_steps)] w) false (World.laidAll Tryd.prog os [("flotsam/crcc.steps", Rows.laid_flotsam_crcc_steps)]) #[.int .i64 0] 8 (World.laidAll_os _ _ _)
      (World.shaped_of_ZipB (by kernel_rfl) (by kernel_rfl)) (by kernel_rfl) (by kernel_rfl) (by kernel_rfl)
      (by rw [MakeChecks.laidMetH_plain _ _ _ (by kernel_rfl)]; exact laidMet_laidAll _ (by kernel_rfl) (by kernel_rfl))) ?_
  intro W base args ds gs before hval0 hW hc _ hL _
  have hval : ∀ (j : Nat) t v, Tryd.f3.params[j]? = some t → args[j]? = some v → Value.okWide Tryd.prog W .any base t v := hval0
  have hW' := hW
  obtain ⟨p, q, hA0, hV, rfl, hfz, hnd⟩ := hW
  have hA : DataW.TrodAll enc Tryd.prog W 0 (fun _ => true) true Tryd.f3.params.toList args.toList ds p := hA0
  rw [Tryd.params3] at hA hval
  obtain ⟨v0, d0, rfl, rfl, h0⟩ := trodAll_one hA
  obtain ⟨rfl, rfl⟩ := trodVars_none hV
  obtain ⟨n1, rfl, rfl, rfl, w1⟩ := open_int Tryd.underlying3 (hval 0 3 v0 rfl rfl) h0
  clear hA0 hval0
  refine (nil_walk n1 W).mono fun e W' ⟨he, hf⟩ => ?_
  have bel : Below W.heap.size W W' := hf.below (Nat.le_refl _) fun k hk => hk.elim
  subst he
  exact ⟨_, rfl, _, _, _, [], _, [], hW', trodAll_mk1 (shut_bool Tryd.underlying4 _), trodAll_mk1 (shut_int Tryd.underlying3 w1), rfl, bel.frame _, fun h => by cases h⟩

theorem over : Rows.CleanNilSaid :=
  OpenClaim.holds_of_wide 3 Tryd.f3 rfl rfl rfl rfl rfl rfl rfl ⟨rfl, rfl, rfl, rfl, rfl⟩ rfl rfl rfl rfl rfl (by kernel_rfl) Tryd.func3 (by kernel_rfl)
    (of_decide_eq_true (by kernel_rfl)) (by unfold Func.isWrapper; first | (rw [if_pos (by decide +kernel)]; kernel_rfl) | (rw [if_neg (by decide +kernel)]; exact ⟨rfl, rfl⟩))
    (fun os started H enc _ => lifted os started H enc)

theorem proved : Rows.CleanNilCardSaid :=
  Claim7.holds_tied_plain_at .later [] [.data] true (true, "94595de77b031720b1653d6280d4f0ea90d77ff7894a2c1e1c1dd949d828f7fe") false over (fun _ h => by cases h) (by kernel_rfl) (fun _ h => by cases h) cleanNil_row_tie rfl ⟨rfl, rfl⟩ (by kernel_rfl) rfl
    (fun f fn hf hfn => by
      obtain rfl : f = 3 := Option.some.inj ((show Tryd.prog.funcNamed "flotsam/flotsamlaw12.CleanNil" = some 3 by kernel_rfl).symm.trans hf) |>.symm
      obtain rfl : fn = Tryd.f3 := (Option.some.inj (Tryd.func3.symm.trans hfn)).symm
      exact ⟨by kernel_rfl, fun j t ht => by
        rw [Tryd.params3] at ht
        have hm : t ∈ [3] := by simpa using Array.mem_of_getElem? ht
        have hall : ([3].all fun u => !Tryd.prog.wantsStandIn u) = true := by kernel_rfl
        exact (show Tryd.prog.wantsStandIn t = false by simpa using List.all_eq_true.1 hall t hm)⟩)
    (by kernel_rfl)
end Go.Proofs.YtheddgeefekdlaaDoor.cleanNil
