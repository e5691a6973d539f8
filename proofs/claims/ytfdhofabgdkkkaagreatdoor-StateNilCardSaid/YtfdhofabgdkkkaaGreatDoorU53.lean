/- A machine that is none refuses all. -/
import Derived.Test.YtfdhofabgdkkkaaGreatDoorRows
import Derived.Test.YtfdhofabgdkkkaaGreatDoorCards
import Derived.Test.YtfdhofabgdkkkaaGreatDoorTie
import Derived.Test.YtfdhofabgdkkkaaGreatDoorU52
import Derived.Test.YtfdhofabgdkkkaaGreatDoorU51
import Derived.ProofKit
import Derived.Lib.SmallJoins
import Derived.Carry
import Derived.OpenShut
import Derived.LaidMore
import Derived.Lay
import Derived.SevenTiedAt
import Derived.Stop.Joined
namespace Go.Proofs.YtfdhofabgdkkkaaGreatDoor.stateNil
open Go.ChangeShapes Go.WideShapes Go.ChangeAt Go.RowKit Go.Joins Go.Fm Go.BigFrame
set_option linter.unusedVariables false
set_option maxRecDepth 100000
theorem own : ownKnob Tryz.prog.godebug = none := by kernel_rfl
theorem laidOut : laidOutB Tryz.prog = true := by kernel_rfl
theorem first_of {W : World} (h : laidMetH Tryz.prog [("flotsam/crcc.steps", Rows.laid_flotsam_crcc_steps), ("unicode/utf8.acceptRanges", Rows.laid_unicode_utf8_acceptRanges), ("unicode/utf8.first", Rows.laid_unicode_utf8_first)] W) : laidMetH Tryz.prog [("flotsam/crcc.steps", Rows.laid_flotsam_crcc_steps)] W := by
 rw [MakeChecks.laidMetH_plain _ _ _ (by kernel_rfl)] at h ⊢
 obtain ⟨ps, ⟨g, t, cs, fuel, p, q, h1, h2, h3, h4, h5, rfl⟩, nd, hc⟩ := h
 refine ⟨_, ⟨g, t, cs, fuel, p, [], h1, h2, h3, h4, rfl, rfl⟩, ?_, fun b off hm => hc b off ?_⟩
 ·rw [List.append_nil]; exact (List.nodup_append.1 nd).1
 ·rw [List.append_nil] at hm; exact List.mem_append_left _ hm
theorem lifted (os : Os) (started : os.Started) (H : Type) (enc : TypeId × Value → H) :
  ReturnsInHanded {} Tryz.checked os 9 .any (fun w args => (Rows.stateNilSpec.pre enc Tryz.prog Tryz.f9 Rows.stateNilRow.domain false w args ∧ laidMetH Tryz.prog [("flotsam/crcc.steps", Rows.laid_flotsam_crcc_steps), ("unicode/utf8.acceptRanges", Rows.laid_unicode_utf8_acceptRanges), ("unicode/utf8.first", Rows.laid_unicode_utf8_first)] w) ∧ sizedMet enc Tryz.prog Tryz.f9 (OpenSpec.ofChange Rows.stateNilSpec) false w args)
   (Rows.stateNilSpec.post enc Tryz.prog Tryz.f9 false true false false) := by
 refine returnsInHanded_of_change_and (C := Tryz.checked) (X := fun w _ => laidMetH Tryz.prog [("flotsam/crcc.steps", Rows.laid_flotsam_crcc_steps), ("unicode/utf8.acceptRanges", Rows.laid_unicode_utf8_acceptRanges), ("unicode/utf8.first", Rows.laid_unicode_utf8_first)] w) (fun _ _ _ hh h => h.of_heap hh) own started (by kernel_rfl) Tryz.func9
  (ChangeSpec.witness_shaped (enc := enc) (C := Tryz.checked) (os := os) (X := fun w _ => laidMetH Tryz.prog [("flotsam/crcc.steps", Rows.laid_flotsam_crcc_steps), ("unicode/utf8.acceptRanges", Rows.laid_unicode_utf8_acceptRanges), ("unicode/utf8.first", Rows.laid_unicode_utf8_first)] w) false (World.laidAll Tryz.prog os [("flotsam/crcc.steps", Rows.laid_flotsam_crcc_steps), ("unicode/utf8.acceptRanges", Rows.laid_unicode_utf8_acceptRanges), ("unicode/utf8.first", Rows.laid_unicode_utf8_first)]) #[.agg #[.int .i64 0, .string ⟨#[]⟩, .int .i64 0, .int .i64 0, .int .i64 0, .bool false, .int .i64 0, .int .i64 0, .int .i64 0, .int .i64 0, .int .i64 0, .slice none 0 0, .int .i64 0, .string ⟨#[]⟩, .string ⟨#[]⟩, .slice none 0 0, .string ⟨#[]⟩, .int .i64 0, .int .i64 0, .slice none 0 0, .int .i64 0]] 8 (World.laidAll_os _ _ _)
   (World.shaped_of_ZipB (by kernel_rfl) (by kernel_rfl)) (by kernel_rfl) (by kernel_rfl) (by kernel_rfl)
   (by rw [MakeChecks.laidMetH_plain _ _ _ (by kernel_rfl)]; exact laidMet_laidAll _ (by kernel_rfl) (by kernel_rfl))) ?_
 intro W base args ds gs before hval0 hW hc hsz hL _
 have hval : ∀ (j : Nat) t v, Tryz.f9.params[j]? = some t → args[j]? = some v → Value.okWide Tryz.prog W .any base t v := hval0
 have hW' := hW
 obtain ⟨p, q, hA0, hV, rfl, hfz, hnd⟩ := hW
 have hA : DataW.TrodAll enc Tryz.prog W 0 (fun _ => true) true Tryz.f9.params.toList args.toList ds p := hA0
 rw [Tryz.params9] at hA hval
 obtain ⟨v0, vs0, d0, ds0, p0, q0, hargs0, rfl, rfl, h0, r0⟩ := trodAll_cons hA
 obtain ⟨rfl, rfl, rfl⟩ := trodAll_nil r0
 obtain rfl : args = #[v0] := by cases args; simp_all
 obtain ⟨rfl, rfl⟩ := trodVars_none hV
 have k0 := h0
 have lt0 : ∀ x ∈ p0, x.block < W.heap.size := by obtain ⟨m, hm⟩ := k0; exact DataW.trod_lt m _ _ _ hm
 have hw9 : ∀ n ∈ d0.weights Tryz.prog 52, n ≤ reachBytes := fun n hn => by
  have h1 := List.all_eq_true.1 hsz n (DataW.weights_mem_each (j := 0) (t := 52) (d := d0) (by rw [Tryz.params9]; rfl) (by first | rfl | simp) n hn)
  simpa using h1
 obtain ⟨q, ks, tl, rv, kv, tv, now, rfl, hR⟩ := ask_of (hval 0 52 v0 rfl rfl) k0 hw9
 have hst := steps_of (first_of hL)
 have hw0 : 1 ≤ W.heap.size := World.block_lt_of_cell? W _ (hst.cell 0 (by omega))
 clear hA0 hval0
 refine (nil_walk q ks tl rv kv tv now W hR hst hw0).mono fun e W' ⟨he, hf⟩ => ?_
 have bel : Below W.heap.size W W' := hf.below (Nat.le_refl _) fun k hk => hk.elim
 subst he
 exact ⟨_, rfl, _, _, _, [], _, [], hW', trodAll_mk1 (shut_bool Tryz.underlying4 _), (trodAll_cons_mk (Below.trod laidOut (by kernel_rfl) (of_decide_eq_true (by kernel_rfl)) k0 bel lt0) trodAll_mk0), rfl, bel.frame _, fun h => by cases h⟩
end Go.Proofs.YtfdhofabgdkkkaaGreatDoor.stateNil
/- A machine that is none refuses all: the claim over all inputs. -/
namespace Go.Proofs.YtfdhofabgdkkkaaGreatDoor.stateNil
open Go.ChangeShapes Go.WideShapes Go.ChangeAt Go.RowKit Go.Joins Go.Fm Go.BigFrame
set_option linter.unusedVariables false
set_option maxRecDepth 100000
theorem fact0 : (Rows.stateNilRow.wf (OpenSpec.ofChange Rows.stateNilSpec)) = true := by kernel_rfl
theorem fact1 : (laidOutB Tryz.prog) = true := by kernel_rfl
theorem fact2 : (mapsRowed Tryz.prog) = true := by kernel_rfl
theorem fact3 : (Tryz.f9.params.all (Tryz.prog.readableRec ·)) = true := by kernel_rfl
theorem fact4 : (namedTie Tryz.prog Rows.stateNilRow.named Rows.stateNilSpec.vars) = true := by kernel_rfl
theorem fact5 : ((Rows.stateNilRow.stops == [])) = true := by kernel_rfl
theorem fact6 : ((Tryz.prog.stops == [])) = true := by kernel_rfl
theorem fact7 : ((Rows.stateNilRow.knobs == [])) = true := by kernel_rfl
theorem fact8 : ((Tryz.prog.stopKnobs == [])) = true := by kernel_rfl
theorem fact9 : ((Rows.stateNilRow.inPlace == Tryz.prog.inPlace 9)) = true := by kernel_rfl
theorem fact10 : ((Rows.stateNilRow.unfollowed == Tryz.prog.unfollowed 9)) = true := by kernel_rfl
theorem fact11 : ((Rows.stateNilRow.recurses == Tryz.prog.recurses 9)) = true := by kernel_rfl
theorem fact12 : ((Rows.stateNilRow.named == Tryz.prog.varsNamed 9)) = true := by kernel_rfl
theorem fact13 : ((Rows.stateNilRow.maps == (Tryz.f9.params.toList ++ Rows.stateNilSpec.plain.varTypes Tryz.prog).any (Tryz.prog.mapsRec ·))) = true := by kernel_rfl
theorem fact14 : ((Rows.stateNilRow.ifaces == (Tryz.f9.params.toList ++ Rows.stateNilSpec.plain.varTypes Tryz.prog).any (Tryz.prog.ifacesRec ·))) = true := by kernel_rfl
theorem fact15 : ((Rows.stateNilRow.mapsOut == Tryz.prog.mapsAmong Tryz.f9.resultTypes.toList)) = true := by kernel_rfl
theorem fact16 : ((Rows.stateNilRow.loops == (Tryz.f9.params.toList ++ Rows.stateNilSpec.plain.varTypes Tryz.prog).any (Tryz.prog.loopsFrom ·))) = true := by kernel_rfl
theorem fact17 : ((Rows.stateNilRow.wideKeys == (Tryz.f9.params.toList ++ Rows.stateNilSpec.plain.varTypes Tryz.prog ++ Tryz.f9.resultTypes.toList).any (Tryz.prog.wideKeysFrom ·))) = true := by kernel_rfl
theorem fact18 : (Rows.stateNilSpec.vars.all (Tryz.prog.varReadable ·)) = true := by kernel_rfl
theorem fact19 : (Tryz.f9.resultTypes.all (fun t => Tryz.prog.readableRec t && decide (t < Tryz.prog.types.size))) = true := by kernel_rfl
theorem fact20 : ((Rows.stateNilRow.ifacesOut == Tryz.f9.resultTypes.toList.any (Tryz.prog.ifacesRec ·))) = true := by kernel_rfl
theorem fact21 : ((Rows.stateNilRow.loopsOut == Tryz.f9.resultTypes.toList.any (Tryz.prog.loopsFrom ·))) = true := by kernel_rfl
theorem fact22 : ((Rows.stateNilRow.plainKeys == Tryz.prog.plainKeys)) = true := by kernel_rfl
theorem fact23 : (Rows.stateNilRow.shortTexts.isNone) = true := by kernel_rfl
theorem fact24 : (Tryz.prog.stopsHeard) = true := by kernel_rfl
theorem fact25 : (Tryz.prog.mayEnter) = true := by kernel_rfl
theorem fact26 : ((Rows.stateNilRow.lifted == Tryz.prog.liftsFinal)) = true := by kernel_rfl
theorem fact27 : ((Tryz.prog.make == some Rows.stateNilRow.make)) = true := by kernel_rfl
theorem fact28 : ((Rows.stateNilRow.kinds == (if Rows.stateNilRow.domain.isEmpty then [] else Tryz.f9.params.toList.map fun t => match Tryz.prog.underlying t with | some (.int k) => some k | _ => none))) = true := by kernel_rfl
theorem fact29 : ((Rows.stateNilRow.pinned == Rows.stateNilRow.pinnedBy)) = true := by kernel_rfl
theorem fact30 : ((Rows.stateNilRow.veiled == (Tryz.f9.params.toList ++ Rows.stateNilSpec.plain.varTypes Tryz.prog ++ Tryz.f9.resultTypes.toList).any (Tryz.prog.veiledRec ·))) = true := by kernel_rfl
theorem fact31 : (Rows.stateNilRow.veiledFits Tryz.prog Tryz.f9.params.toList (Tryz.f9.params.toList ++ Rows.stateNilSpec.plain.varTypes Tryz.prog ++ Tryz.f9.resultTypes.toList)) = true := by kernel_rfl
theorem both {a b : Bool} (ha : a = true) (hb : b = true) : (a && b) = true := by rw [ha, hb]; rfl
theorem closed : joinedFacts Tryz.prog 9 Tryz.f9 Rows.stateNilSpec Rows.stateNilRow = true := by
 unfold joinedFacts
 exact (both (both (both (both (both (both (both (both (both (both (both (both (both (both (both (both (both (both (both (both (both (both (both (both (both (both (both (both (both (both (both fact0 fact1) fact2) fact3) fact4) fact5) fact6) fact7) fact8) fact9) fact10) fact11) fact12) fact13) fact14) fact15) fact16) fact17) fact18) fact19) fact20) fact21) fact22) fact23) fact24) fact25) fact26) fact27) fact28) fact29) fact30) fact31)
theorem over : Rows.StateNilSaid :=
 OpenClaim.holds_of_wide 9 Tryz.f9 rfl rfl rfl rfl rfl rfl rfl ⟨rfl, rfl, rfl, rfl, rfl⟩ rfl rfl rfl rfl rfl (by kernel_rfl) Tryz.func9 closed
  (of_decide_eq_true (by kernel_rfl)) (by unfold Func.isWrapper; first | (rw [if_pos (by decide +kernel)]; kernel_rfl) | (rw [if_neg (by decide +kernel)]; exact ⟨rfl, rfl⟩))
  (fun os started H enc _ => lifted os started H enc)
end Go.Proofs.YtfdhofabgdkkkaaGreatDoor.stateNil
