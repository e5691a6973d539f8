/- 'SegmentNil' for every input: a segment that is none has nothing; of a batch of 3000 bytes, as the statement itself says; the variable that the row lists is laid as the program's text lays it (the card's tie). No other conditions. -/
import Derived.Test.YtgbcdgfpmihkcaaDoorRows
import Derived.Test.YtgbcdgfpmihkcaaDoorCards
import Derived.Test.YtgbcdgfpmihkcaaDoorTie
import Derived.Test.YtgbcdgfpmihkcaaDoorGC
import Derived.Test.YtgbcdgfpmihkcaaDoorGD
import Derived.Test.YtgbcdgfpmihkcaaDoorF1
import Derived.ProofKit
import Derived.Lib.SmallJoins
import Derived.Carry
import Derived.OpenShut
import Derived.LaidMore
import Derived.Lay
import Derived.SevenTiedAt
import Derived.Stop.Joined
namespace Go.Proofs.YtgbcdgfpmihkcaaDoor.segmentNil
open Go.ChangeShapes Go.WideShapes Go.ChangeAt Go.RowKit Go.Joins Go.Fm Go.BigFrame
set_option linter.unusedVariables false
set_option maxRecDepth 100000

theorem sappend_nil (K : Nat → Prop) (b : Bat) (v : Value) (w : World) (hr : RecsR K w v b.recs) (hst : StepsOK w) :
    Calls Tryd.prog 8 #[.pointer none, batV b v] w fun e w' => e = .returned (.int .i64 1) ∧ Fr (fun _ => False) w w' := by
  have hh := hr
  obtain ⟨ra, rcap, rfl, -⟩ := hh
  have hf0 := (Fr.same w).alloc (.cells (batBox b (.slice ra b.recs.length rcap)) 24)
  have F0 := Lib.hid hf0
  have HE := Lib.hid (bencode_walk K b (.slice ra b.recs.length rcap) (w.alloc (.cells (batBox b (.slice ra b.recs.length rcap)) 24)) (hr.old hf0) (hst.old hf0))
  clear hf0 hr hst
  unfold batV at HE
  unfold batV
  unfold batBox at F0 HE
  go_enter Tryd.func8, Tryd.ntmps8
  go_wp2_with fail
  generalize (w.alloc (.cells #[.int .i64 b.base, .int .i64 b.span, .int .i64 b.prod, .int .i64 b.epoch, .int .i64 b.seq, .slice ra b.recs.length rcap] 24)) = W at *
  refine HE.out.mono ?_
  rintro e w1 ⟨⟨hok, rfl⟩ | ⟨hno, rfl⟩, hf⟩
  all_goals
    have F1 := Lib.hid (F0.out.tr hf)
    clear hf HE
    go_wp2_with fail
    go_quiet (fail)
    have F2 := Lib.hid (F1.out.drewN nq)
    go_wp2_with fail
    go_ret
    exact ⟨rfl, F2.out⟩
set_option maxHeartbeats 8000000 in
theorem nil_walk (d n m : Int) (b : Bat) (rv kv : Value) (ks : List Int) (t : ByteArray) (w : World) (h : OpR w d n m b rv kv ks t) (hst : StepsOK w) (hw0 : 1 ≤ w.heap.size) :
    Calls Tryd.prog 3 #[opV d n m b rv kv t] w fun e w' => e = .returned (.bool true) ∧ Fr (fun _ => False) w w' := by
  obtain ⟨ra, rcap, hrv, -⟩ := h.recs
  obtain ⟨ka, kcap, hkv, -⟩ := h.keep
  subst hrv hkv
  have HR := Lib.hid h.recs
  have HST := Lib.hid hst
  clear h hst
  have hf0 := (Fr.same w).alloc (.cells #[.int .i64 d, .int .i64 b.base, .int .i64 b.span, .int .i64 b.prod, .int .i64 b.epoch, .int .i64 b.seq, .slice ra b.recs.length rcap, .int .i64 n, .int .i64 m, .slice ka ks.length kcap, .string t] 27)
  have hx0 := heap_alloc_self w (.cells #[.int .i64 d, .int .i64 b.base, .int .i64 b.span, .int .i64 b.prod, .int .i64 b.epoch, .int .i64 b.seq, .slice ra b.recs.length rcap, .int .i64 n, .int .i64 m, .slice ka ks.length kcap, .string t] 27)
  have F0 := Lib.hid hf0
  have X0 := Lib.hid hx0
  clear hf0 hx0
  unfold opV
  go_enter Tryd.func3, Tryd.ntmps3
  go_wp2_with fail
  generalize (w.alloc (.cells #[.int .i64 d, .int .i64 b.base, .int .i64 b.span, .int .i64 b.prod, .int .i64 b.epoch, .int .i64 b.seq, .slice ra b.recs.length rcap, .int .i64 n, .int .i64 m, .slice ka ks.length kcap, .string t] 27)) = W at *
  refine (small_walk _ b _ _ (HR.out.old F0.out)).mono ?_
  rintro e w1 ⟨c, rfl, -, hf1⟩
  have F1 := Lib.hid (F0.out.tr hf1)
  have X1 := Lib.hid ((hf1.block _ (lt_of_heap X0.out) fun h => h).trans X0.out)
  clear hf1 F0 X0
  cases c with
  | false =>
    go_wp2_with fail
    refine (live_walk _ (HST.out.old F1.out) (Nat.le_trans hw0 F1.out.size)).mono ?_
    rintro e w2 ⟨rfl, hf2⟩
    have F2 := Lib.hid (F1.out.tr hf2)
    clear hf2
    go_wp2_with fail
    go_ret
    exact ⟨rfl, F2.out⟩
  | true =>
    go_wp2_with fail
    refine (sopen_nil _ 0 1 _).mono ?_
    rintro e w2 ⟨rfl, hf2⟩
    have F2 := Lib.hid (F1.out.tr hf2)
    have X2 := Lib.hid ((hf2.block _ (lt_of_heap X1.out) fun h => h).trans X1.out)
    clear hf2 F1 X1
    have c7 : w2.cell? ⟨w.heap.size, 7, none⟩ = some (.int .i64 n) := (cell_of X2.out 7).trans rfl
    have c8 : w2.cell? ⟨w.heap.size, 8, none⟩ = some (.int .i64 m) := (cell_of X2.out 8).trans rfl
    have c1 : w2.cell? ⟨w.heap.size, 1, none⟩ = some (.int .i64 b.base) := (cell_of X2.out 1).trans rfl
    have c2 : w2.cell? ⟨w.heap.size, 2, none⟩ = some (.int .i64 b.span) := (cell_of X2.out 2).trans rfl
    have c3 : w2.cell? ⟨w.heap.size, 3, none⟩ = some (.int .i64 b.prod) := (cell_of X2.out 3).trans rfl
    have c4 : w2.cell? ⟨w.heap.size, 4, none⟩ = some (.int .i64 b.epoch) := (cell_of X2.out 4).trans rfl
    have c5 : w2.cell? ⟨w.heap.size, 5, none⟩ = some (.int .i64 b.seq) := (cell_of X2.out 5).trans rfl
    have c6 : w2.cell? ⟨w.heap.size, 6, none⟩ = some (.slice ra b.recs.length rcap) := (cell_of X2.out 6).trans rfl
    go_wp2_with fail
    refine (safter_nil n _).mono ?_
    rintro e w3 ⟨rfl, rfl⟩
    go_wp2_with fail
    have HAN := Lib.hid (sappend_nil _ b (.slice ra b.recs.length rcap) _ (HR.out.old F2.out) (HST.out.old F2.out))
    unfold batV at HAN
    refine HAN.out.mono ?_
    rintro e w3 ⟨rfl, hf3⟩
    have F3 := Lib.hid (F2.out.tr hf3)
    have X3 := Lib.hid ((hf3.block _ (lt_of_heap X2.out) fun h => h).trans X2.out)
    clear hf3 F2 X2 HAN c1 c2 c3 c4 c5 c6 c7 c8
    have c7 : w3.cell? ⟨w.heap.size, 7, none⟩ = some (.int .i64 n) := (cell_of X3.out 7).trans rfl
    have c8 : w3.cell? ⟨w.heap.size, 8, none⟩ = some (.int .i64 m) := (cell_of X3.out 8).trans rfl
    go_wp2_with fail
    refine (ssync_nil _).mono ?_
    rintro e w4 ⟨rfl, rfl⟩
    go_wp2_with fail
    refine (sread_nil n m _).mono ?_
    rintro e w4 ⟨rfl, rfl⟩
    go_wp2_with fail
    refine (sbase_nil _).mono ?_
    rintro e w4 ⟨rfl, rfl⟩
    go_wp2_with fail
    refine (send_nil _).mono ?_
    rintro e w4 ⟨rfl, rfl⟩
    go_wp2_with fail
    refine (ssize_nil _).mono ?_
    rintro e w4 ⟨rfl, rfl⟩
    go_wp2_with fail
    refine (live_walk _ (HST.out.old F3.out) (Nat.le_trans hw0 F3.out.size)).mono ?_
    rintro e w4 ⟨rfl, hf4⟩
    have F4 := Lib.hid (F3.out.tr hf4)
    clear hf4
    go_wp2_with fail
    go_ret
    exact ⟨rfl, F4.out⟩

theorem own : ownKnob Tryd.prog.godebug = none := by kernel_rfl
theorem laidOut : laidOutB Tryd.prog = true := by kernel_rfl

theorem lifted (os : Os) (started : os.Started) (H : Type) (enc : TypeId × Value → H) :
    ReturnsInHanded {} Tryd.checked os 3 .any (fun w args => (Rows.segmentNilSpec.pre enc Tryd.prog Tryd.f3 Rows.segmentNilRow.domain false w args ∧ laidMetH Tryd.prog [("flotsam/crcc.steps", Rows.laid_flotsam_crcc_steps)] w) ∧ sizedMet enc Tryd.prog Tryd.f3 (OpenSpec.ofChange Rows.segmentNilSpec) false w args)
      (Rows.segmentNilSpec.post enc Tryd.prog Tryd.f3 false true false false) := by
  refine returnsInHanded_of_change_and (C := Tryd.checked) (X := fun w _ => laidMetH Tryd.prog [("flotsam/crcc.steps", Rows.laid_flotsam_crcc_steps)] w) (fun _ _ _ hh h => h.of_heap hh) own started (by kernel_rfl) Tryd.func3
    (ChangeSpec.witness_shaped (enc := enc) (C := Tryd.checked) (os := os) (X := fun w _ => laidMetH Tryd.prog [("flotsam/crcc.steps", Rows.laid_flotsam_crcc_steps)] w) false (World.laidAll Tryd.prog os [("flotsam/crcc.steps", Rows.laid_flotsam_crcc_steps)]) #[.agg #[.int .i64 0, .int .i64 0, .int .i64 0, .int .i64 0, .int .i64 0, .int .i64 0, .slice none 0 0, .int .i64 0, .int .i64 0, .slice none 0 0, .string ByteArray.empty]] 8 (World.laidAll_os _ _ _)
      (World.shaped_of_ZipB (by kernel_rfl) (by kernel_rfl)) (by kernel_rfl) (by kernel_rfl) (by kernel_rfl)
      (by rw [MakeChecks.laidMetH_plain _ _ _ (by kernel_rfl)]; exact laidMet_laidAll _ (by kernel_rfl) (by kernel_rfl))) ?_
  intro W base args ds gs before hval0 hW hc _ hL _
  have hval : ∀ (j : Nat) t v, Tryd.f3.params[j]? = some t → args[j]? = some v → Value.okWide Tryd.prog W .any base t v := hval0
  have hW' := hW
  obtain ⟨p, q, hA0, hV, rfl, hfz, hnd⟩ := hW
  have hA : DataW.TrodAll enc Tryd.prog W 0 (fun _ => true) true Tryd.f3.params.toList args.toList ds p := hA0
  rw [Tryd.params3] at hA hval
  obtain ⟨v0, vs0, d0, ds0, p0, q0, hargs, rfl, rfl, h0, r0⟩ := trodAll_cons hA
  obtain ⟨rfl, rfl, rfl⟩ := trodAll_nil r0
  obtain rfl : args = #[v0] := by cases args; simp_all
  obtain ⟨rfl, rfl⟩ := trodVars_none hV
  have k0 := h0
  have lt0 : ∀ x ∈ p0, x.block < W.heap.size := by obtain ⟨m, hm⟩ := k0; exact DataW.trod_lt m _ _ _ hm
  obtain ⟨d, n, m, b, rv, kv, ks, t, rfl, hop⟩ := op_of (hval 0 27 v0 rfl rfl) h0
  have hst := steps_of hL
  have hw0 : 1 ≤ W.heap.size := World.block_lt_of_cell? W _ (hst.cell 0 (by omega))
  clear hA0 hval0
  refine (nil_walk d n m b rv kv ks t W hop hst hw0).mono fun e W' ⟨he, hf⟩ => ?_
  have bel : Below W.heap.size W W' := hf.below (Nat.le_refl _) fun k hk => hk.elim
  subst he
  exact ⟨_, rfl, _, _, _, [], _, [], hW', trodAll_mk1 (shut_bool Tryd.underlying4 _), (trodAll_cons_mk (Below.trod laidOut (by kernel_rfl) (of_decide_eq_true (by kernel_rfl)) k0 bel lt0) trodAll_mk0), rfl, bel.frame _, fun h => by cases h⟩

theorem over : Rows.SegmentNilSaid :=
  OpenClaim.holds_of_wide 3 Tryd.f3 rfl rfl rfl rfl rfl rfl rfl ⟨rfl, rfl, rfl, rfl, rfl⟩ rfl rfl rfl rfl rfl (by kernel_rfl) Tryd.func3 (by kernel_rfl)
    (of_decide_eq_true (by kernel_rfl)) (by unfold Func.isWrapper; first | (rw [if_pos (by decide +kernel)]; kernel_rfl) | (rw [if_neg (by decide +kernel)]; exact ⟨rfl, rfl⟩))
    (fun os started H enc _ => lifted os started H enc)

theorem proved : Rows.SegmentNilCardSaid :=
  Claim7.holds_tied_plain_at .later [] [.data] true (true, "1572887dbd24dad32800238c53e26fc3a2c7465479f33fd93debd4929510625f") false over (fun _ h => by cases h) (by kernel_rfl) (fun _ h => by cases h) segmentNil_row_tie rfl ⟨rfl, rfl⟩ (by kernel_rfl) rfl
    (fun f fn hf hfn => by
      obtain rfl : f = 3 := Option.some.inj ((show Tryd.prog.funcNamed "flotsam/flotsamlaw10.SegmentNil" = some 3 by kernel_rfl).symm.trans hf) |>.symm
      obtain rfl : fn = Tryd.f3 := (Option.some.inj (Tryd.func3.symm.trans hfn)).symm
      exact ⟨by kernel_rfl, fun j t ht => by
        rw [Tryd.params3] at ht
        have hm : t ∈ [27] := by simpa using Array.mem_of_getElem? ht
        have hall : ([27].all fun u => !Tryd.prog.wantsStandIn u) = true := by kernel_rfl
        exact (show Tryd.prog.wantsStandIn t = false by simpa using List.all_eq_true.1 hall t hm)⟩)
    (by kernel_rfl)
end Go.Proofs.YtgbcdgfpmihkcaaDoor.segmentNil
