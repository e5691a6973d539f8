/- 'CleanKeeps' for every input: behind cleaning the last record of a key is still there; of at most 8 batches of 3000 bytes each, as the statement itself says; the one variable that the row lists is laid as the program's text lays it (the card's tie). No other conditions. -/
import Derived.Test.YtcnmggmfehdfoaaDoorRows
import Derived.Test.YtcnmggmfehdfoaaDoorCards
import Derived.Test.YtcnmggmfehdfoaaDoorTie
import Derived.Test.YtcnmggmfehdfoaaDoorO1
import Derived.Test.YtcnmggmfehdfoaaDoorK9
import Derived.ProofKit
import Derived.Lib.SmallJoins
import Derived.Carry
import Derived.OpenShut
import Derived.LaidMore
import Derived.Lay
import Derived.SevenTiedAt
import Derived.Stop.Joined
namespace Go.Proofs.YtcnmggmfehdfoaaDoor.cleanKeeps
open Go.ChangeShapes Go.WideShapes Go.ChangeAt Go.RowKit Go.Joins Go.Fm
set_option linter.unusedVariables false

theorem own : ownKnob Tryd.prog.godebug = none := by kernel_rfl
theorem laidOut : laidOutB Tryd.prog = true := by kernel_rfl

set_option maxRecDepth 100000 in
theorem lifted (os : Os) (started : os.Started) (H : Type) (enc : TypeId × Value → H) :
    ReturnsInHanded {} Tryd.checked os 4 .any (fun w args => (Rows.cleanKeepsSpec.pre enc Tryd.prog Tryd.f4 Rows.cleanKeepsRow.domain false w args ∧ laidMetH Tryd.prog [("flotsam/crcc.steps", Rows.laid_flotsam_crcc_steps)] w) ∧ sizedMet enc Tryd.prog Tryd.f4 (OpenSpec.ofChange Rows.cleanKeepsSpec) false w args)
      (Rows.cleanKeepsSpec.post enc Tryd.prog Tryd.f4 false true false false) := by
  refine returnsInHanded_of_change_and (C := Tryd.checked) (X := fun w _ => laidMetH Tryd.prog [("flotsam/crcc.steps", Rows.laid_flotsam_crcc_steps)] w) (fun _ _ _ hh h => h.of_heap hh) own started (by kernel_rfl) Tryd.func4
    (ChangeSpec.witness_shaped (enc := enc) (C := Tryd.checked) (os := os) (X := fun w _ => laidMetH Tryd.prog [("flotsam/crcc.steps", Rows.laid_flotsam_crcc_steps)] w) false (World.laidAll Tryd.prog os [("flotsam/crcc.steps", Rows.laid_flotsam_crcc_steps)]) #[.agg #[.slice none 0 0, .int .i64 0, .int .i64 0, .string ByteArray.empty]] 8 (World.laidAll_os _ _ _)
      (World.shaped_of_ZipB (by kernel_rfl) (by kernel_rfl)) (by kernel_rfl) (by kernel_rfl) (by kernel_rfl)
      (by rw [MakeChecks.laidMetH_plain _ _ _ (by kernel_rfl)]; exact laidMet_laidAll _ (by kernel_rfl) (by kernel_rfl))) ?_
  intro W base args ds gs before hval0 hW hc _ hL _
  have hval : ∀ (j : Nat) t v, Tryd.f4.params[j]? = some t → args[j]? = some v → Value.okWide Tryd.prog W .any base t v := hval0
  have hW' := hW
  obtain ⟨p, q, hA0, hV, rfl, hfz, hnd⟩ := hW
  have hA : DataW.TrodAll enc Tryd.prog W 0 (fun _ => true) true Tryd.f4.params.toList args.toList ds p := hA0
  rw [Tryd.params4] at hA hval
  obtain ⟨v0, vs0, d0, ds0, p0, q0, hargs, rfl, rfl, h0, r0⟩ := trodAll_cons hA
  obtain ⟨rfl, rfl, rfl⟩ := trodAll_nil r0
  obtain rfl : args = #[v0] := by cases args; simp_all
  obtain ⟨rfl, rfl⟩ := trodVars_none hV
  have k0 := h0
  have lt0 : ∀ x ∈ p0, x.block < W.heap.size := by obtain ⟨m, hm⟩ := k0; exact DataW.trod_lt m _ _ _ hm
  obtain ⟨c0, c1, c2, c3, y0, y1, y2, y3, m, rfl, rfl, rfl, hy0, hy1, hy2, hy3⟩ := open_agg4 Tryd.underlying24 (by kernel_rfl) (by kernel_rfl) (hval 0 24 v0 rfl rfl) h0
  obtain ⟨bs, hbs, hwf⟩ := bats_of hy0
  obtain ⟨n1, e1, rfl, w1⟩ := DataW.trod_int Tryd.underlying3 hy1
  obtain ⟨n2, e2, rfl, w2⟩ := DataW.trod_int Tryd.underlying3 hy2
  obtain ⟨s3, e3, rfl, w3⟩ := DataW.trod_string Tryd.underlying9 hy3
  simp only [List.cons.injEq, and_true] at e1 e2 e3
  subst e1 e2 e3
  clear hA0 hval0
  refine (keeps_walk (fun _ => True) bs n1 n2 s3 c0 W hbs hwf w3).mono fun e W' ⟨he, hf⟩ => ?_
  have bel : Below W.heap.size W W' := hf.below (Nat.le_refl _) fun k hk => hk.elim
  subst he
  exact ⟨_, rfl, _, _, _, [], _, [], hW', trodAll_mk1 (shut_bool Tryd.underlying4 _), (trodAll_cons_mk (Below.trod laidOut (by kernel_rfl) (of_decide_eq_true (by kernel_rfl)) k0 bel lt0) trodAll_mk0), rfl, bel.frame _, fun h => by cases h⟩

theorem over : Rows.CleanKeepsSaid :=
  OpenClaim.holds_of_wide 4 Tryd.f4 rfl rfl rfl rfl rfl rfl rfl ⟨rfl, rfl, rfl, rfl, rfl⟩ rfl rfl rfl rfl rfl (by kernel_rfl) Tryd.func4 (by kernel_rfl)
    (of_decide_eq_true (by kernel_rfl)) (by unfold Func.isWrapper; first | (rw [if_pos (by decide +kernel)]; kernel_rfl) | (rw [if_neg (by decide +kernel)]; exact ⟨rfl, rfl⟩))
    (fun os started H enc _ => lifted os started H enc)

theorem proved : Rows.CleanKeepsCardSaid :=
  Claim7.holds_tied_plain_at .later [] [.data] true (true, "34b798f6372827b02e7d28c1f772781bb4ef11b4eed88c2d7921f2be671e6855") false over (fun _ h => by cases h) (by kernel_rfl) (fun _ h => by cases h) cleanKeeps_row_tie rfl ⟨rfl, rfl⟩ (by kernel_rfl) rfl
    (fun f fn hf hfn => by
      obtain rfl : f = 4 := Option.some.inj ((show Tryd.prog.funcNamed "flotsam/flotsamlaw12.CleanKeeps" = some 4 by kernel_rfl).symm.trans hf) |>.symm
      obtain rfl : fn = Tryd.f4 := (Option.some.inj (Tryd.func4.symm.trans hfn)).symm
      exact ⟨by kernel_rfl, fun j t ht => by
        rw [Tryd.params4] at ht
        have hm : t ∈ [24] := by simpa using Array.mem_of_getElem? ht
        have hall : ([24].all fun u => !Tryd.prog.wantsStandIn u) = true := by kernel_rfl
        exact (show Tryd.prog.wantsStandIn t = false by simpa using List.all_eq_true.1 hall t hm)⟩)
    (by kernel_rfl)
end Go.Proofs.YtcnmggmfehdfoaaDoor.cleanKeeps
