/- New, keep, Cut of a disk: the walks. -/
import Derived.Test.YtgbcdgfpmihkcaaDoorDk2
namespace Go.Proofs.YtgbcdgfpmihkcaaDoor
open Go.RowKit Go.Fm Go.BigFrame Go.Shelf Go.Maps
set_option linter.unusedVariables false
set_option linter.unusedSimpArgs false

def NewDkPost (w : World) (room : Int) (F : ByteArray → ByteArray × Nat) (e : Ending) (w' : World) : Prop :=
  ∃ db mb, e = .returned (.tuple #[.pointer (some ⟨db, 0, none⟩), .int .i64 0]) ∧ Dk w' db mb room 0 (-1) [] F ∧ Fr (fun _ => False) w w' ∧ w.heap.size ≤ db ∧ w.heap.size ≤ mb
theorem dnew_walk (room : Int) (F : ByteArray → ByteArray × Nat) (w : World) (h1 : 1 ≤ room) (h2 : room ≤ 4194304) : Calls Tryd.prog 14 #[.int .i64 room] w (NewDkPost w room F) := by
  have hmm := @run_makeMap Tryd.prog
  go_enter Tryd.func14, Tryd.ntmps14
  go_wp2_with fail
  go_ret2
  refine ⟨w.heap.size + 1, w.heap.size, rfl, ⟨?_, ?_, fun r hr => (by cases hr), List.nodup_nil, by simp⟩, ((Fr.same w).alloc _).alloc _, by omega, Nat.le_refl _⟩
  · rw [show w.heap.size + 1 = (w.alloc (.map #[] 0)).heap.size by simp, heap_alloc_self]; rfl
  · exact (TabM.made w).to (heap_alloc_lt _ (by simp))
section
variable {w w' : World} {db mb : Nat} {room used fuse : Int} {L : List Row} {F : ByteArray → ByteArray × Nat}
set_option maxRecDepth 100000 in
set_option maxHeartbeats 4000000 in
/-- A file keeps its first bytes alone. -/
theorem keep_walk (h : Dk w db mb room used fuse L F) (nm : ByteArray) {fb : Nat} (hg : getL L nm = some fb) (t : ByteArray) (m n : Nat) (hFn : F nm = (t, m)) (hn : n ≤ t.size) (hF : t.size ≤ 1000000000) (hu0 : 0 ≤ used) (hu1 : used ≤ 1000000000) (hm : m ≤ 1000000000) :
    Calls Tryd.prog 34 #[.pointer (some ⟨db, 0, none⟩), .pointer (some ⟨fb, 0, none⟩), .int .i64 n] w fun e w' => e = .returned (.tuple #[]) ∧ Dk w' db mb room (used - (t.size - n)) fuse L (updF F nm (t.extract 0 n) (min m n)) ∧ Fr (DkS db mb L) w w' := by
  have hmm := getL_some hg
  have hob := h.f _ hmm
  rw [hFn] at hob
  dsimp only at hob
  have x1 : ∀ y : Lcl.InS (fun w' => Fr (fun _ => False) w w'), y.w.cell? ⟨db, 1, none⟩ = some (.int .i64 used) := fun y => y.h.cel ((cell_of h.d 1).trans rfl)
  have x2 : ∀ y : Lcl.InS (fun w' => Fr (fun _ => False) w w'), y.w.cell? ⟨fb, 0, none⟩ = some (.string t) := fun y => y.h.cel ((cell_of hob 0).trans rfl)
  have H := Lib.hid h
  have HFN := Lib.hid hFn
  have HMM := Lib.hid hmm
  clear h hob hFn hmm
  go_enter Tryd.func34, Tryd.ntmps34
  go_wp2_with fail
  refine Lcl.wp_region_calm (by kernel_rfl) [(true, [0, 1, 2, 4, 5, 6, 9]), (false, [3, 7]), (true, [8, 10, 11, 12, 13])] #[0, 1, 3, 7, 0, 16, 48, 112, 240, 0, 1008, 2047, 4095, 8191, 16383] [0, 1, 2, 3, 4, 5, 6, 7, 8, 9, 10] 1 #[true, true, true, true, true, true, true, true, true, true, true, true, true, true, false] (by kernel_rfl) (by kernel_rfl) (by kernel_rfl) (fun w' => Fr (fun _ => False) w w') (Fr.same w).drew (fun d c a v w h => by cases d <;> exact h) ?_
  simp only [Lcl.opsOf, List.map_cons, List.map_nil, List.getElem?_toArray, List.getElem?_cons_succ, List.getElem?_cons_zero, Option.getD_some]
  refine Lcl.wpCalm_t ?_
  repeat (go_big_quiet_step (rfl))
  refine wpQuiet_nil ?_
  refine Lcl.wpCalm_f ?_
  repeat (go_big_quiet_step (rfl))
  refine wpQuiet_nil ?_
  refine Lcl.wpCalm_t ?_
  repeat (go_big_quiet_step (rfl))
  refine wpQuiet_nil ?_
  refine Lcl.wpCalm_nil ?_
  clear x1 x2
  refine Lcl.wpG_run [14] _ _ _ (by kernel_rfl) ?_
  simp only [List.map_cons, List.map_nil, List.getElem?_toArray, List.getElem?_cons_succ, List.getElem?_cons_zero, Option.getD_some]
  have h0 := H.out.old (Fr.same w).drew
  have hfr0 := (Fr.refl (DkS db mb L) w).drew
  generalize w.drew = W0 at *
  have c1 : W0.cell? ⟨db, 1, none⟩ = some (.int .i64 used) := (cell_of h0.d 1).trans rfl
  have f1 := fz_of h0.d 1
  have hfr : Fr (fun i => i = db) W0 (W0.setCell ⟨db, 1, none⟩ (.int .i64 (used - (t.size - n)))) := Fr.setCell (S := fun i => i = db) (p := ⟨db, 1, none⟩) (Fr.refl _ _) (.inl rfl) _
  have D1 := h0.setNum _ (room' := room) (used' := used - (t.size - n)) (fuse' := fuse) (by rw [heap_setCell_self h0.d]; rfl) hfr
  have hfr1 := hfr0.trans hfr fun i e => .inl (.inl e)
  have D1 := Lib.hid D1
  have F1 := Lib.hid hfr1
  clear hfr1 hfr hfr0 h0
  go_wp2_with fail
  clear c1 f1
  generalize W0.setCell ⟨db, 1, none⟩ (.int .i64 (used - (t.size - n))) = W1 at *
  have hob := D1.out.f _ HMM.out
  rw [HFN.out] at hob
  dsimp only at hob
  have x2 : ∀ y : Lcl.InS (fun w' => Fr (fun _ => False) W1 w'), y.w.cell? ⟨fb, 0, none⟩ = some (.string t) := fun y => y.h.cel ((cell_of hob 0).trans rfl)
  have x3 : ∀ y : Lcl.InS (fun w' => Fr (fun _ => False) W1 w'), y.w.cell? ⟨fb, 1, none⟩ = some (.int .i64 m) := fun y => y.h.cel ((cell_of hob 1).trans rfl)
  have HOB := Lib.hid hob
  clear hob
  refine Lcl.wp_region_calm (by kernel_rfl) [(true, [0, 1, 2, 3, 4, 6, 8, 9, 10, 12]), (false, [5, 11]), (true, [7, 13, 14, 15])] #[0, 0, 0, 4, 12, 28, 0, 124, 0, 256, 768, 1792, 0, 7936, 4093, 20477, 53245, 131071, 262143, 524287] [0, 1, 2, 3, 4, 5, 6, 7, 8, 9, 10, 11, 12, 13] 4 #[true, true, true, true, true, true, true, true, true, true, true, true, true, true, true, true, false, false, false, false] (by kernel_rfl) (by kernel_rfl) (by kernel_rfl) (fun w' => Fr (fun _ => False) W1 w') (Fr.same W1).drew (fun d c a v w h => by cases d <;> exact h) ?_
  simp only [Lcl.opsOf, List.map_cons, List.map_nil, List.getElem?_toArray, List.getElem?_cons_succ, List.getElem?_cons_zero, Option.getD_some]
  refine Lcl.wpCalm_t ?_
  repeat (go_big_quiet_step (rfl))
  refine wpQuiet_nil ?_
  refine Lcl.wpCalm_f ?_
  repeat (go_big_quiet_step (rfl))
  refine wpQuiet_nil ?_
  refine Lcl.wpCalm_t ?_
  repeat (go_big_quiet_step (rfl))
  refine wpQuiet_nil ?_
  refine Lcl.wpCalm_nil ?_
  clear x2 x3
  refine Lcl.wpG_run [16, 17, 18, 19] _ _ _ (by kernel_rfl) ?_
  simp only [List.map_cons, List.map_nil, List.getElem?_toArray, List.getElem?_cons_succ, List.getElem?_cons_zero, Option.getD_some]
  have d1 := D1.out.old (Fr.same W1).drew
  have e1 := F1.out.drew
  have hob : W1.drew.heap[fb]? = some (fileObj t m) := HOB.out
  generalize W1.drew = W2 at *
  clear D1 F1 HOB
  have c0 : W2.cell? ⟨fb, 0, none⟩ = some (.string t) := (cell_of hob 0).trans rfl
  have c1 : W2.cell? ⟨fb, 1, none⟩ = some (.int .i64 m) := (cell_of hob 1).trans rfl
  have f0 := fz_of hob 0
  have f1 := fz_of hob 1
  have hfr : Fr (fun i => i = fb) W2 ((W2.setCell ⟨fb, 0, none⟩ (.string (t.extract 0 n))).setCell ⟨fb, 1, none⟩ (.int .i64 (min m n : Nat))) := Fr.setCell (S := fun i => i = fb) (p := ⟨fb, 1, none⟩) (Fr.setCell (S := fun i => i = fb) (p := ⟨fb, 0, none⟩) (Fr.refl _ _) (.inl rfl) _) (.inl rfl) _
  have D2 := Lib.hid (d1.setFile hg _ (t := t.extract 0 n) (n := min m n) (by rw [heap_setCell_self (heap_setCell_self hob _)]; rfl) hfr)
  have F2 := Lib.hid (e1.trans hfr fun i e => .inl (.inr (.inr ⟨_, HMM.out, e.symm⟩)))
  clear hob hfr d1 e1
  have hmin : ((min m n : Nat) : Int) = min (m : Int) (n : Int) := by omega
  rw [hmin] at D2 F2
  clear hmin
  go_wp2_with fail
  go_end0
  exact ⟨rfl, D2.out, F2.out⟩
set_option maxRecDepth 100000 in
set_option maxHeartbeats 4000000 in
theorem dcut_walk (h : Dk w db mb room used fuse L F) (hfu : fuse ≠ 0) (hfw : (Lit.int .i64 fuse).wf = true) (nm : ByteArray) (hnm : nm.size ≤ maxLen) {fb : Nat} (hg : getL L nm = some fb) (t : ByteArray) (m n : Nat) (hFn : F nm = (t, m)) (hn : n ≤ t.size) (hF : t.size ≤ 1000000000) (hu0 : 0 ≤ used) (hu1 : used ≤ 1000000000) (hm : m ≤ 1000000000) :
    Calls Tryd.prog 22 #[.pointer (some ⟨db, 0, none⟩), .string nm, .int .i64 n] w fun e w' => e = .returned (.int .i64 0) ∧ Dk w' db mb room (used - (t.size - n)) (burn fuse) L (updF F nm (t.extract 0 n) (min m n)) ∧ Fr (DkS db mb L) w w' := by
  have hc := file_walk h hfu nm hnm
  rw [hg] at hc
  simp only [Option.isSome_some, boxV, ptrV] at hc
  have HC := Lib.hid hc
  have hob := h.f _ (getL_some hg)
  rw [hFn] at hob
  dsimp only at hob
  have c0 : w.cell? ⟨fb, 0, none⟩ = some (.string t) := (cell_of hob 0).trans rfl
  have HK := Lib.hid (keep_walk h nm hg t m n hFn hn hF hu0 hu1 hm)
  have hn' : ¬ (t.size : Int) < n := by omega
  have HW := Lib.hid hfw
  clear hc h hob hFn hfw
  go_enter Tryd.func22, Tryd.ntmps22
  go_wp2_with fail
  refine HC.out.mono ?_
  rintro e w' ⟨rfl, rfl⟩
  go_wp2_with fail
  refine HK.out.mono ?_
  rintro e w2 ⟨rfl, hd, hf⟩
  have D2 := Lib.hid hd
  have F2 := Lib.hid hf
  clear hd hf HK
  go_wp2_with fail
  refine (changed_walk D2.out HW.out).mono ?_
  rintro e w3 ⟨rfl, hd, hf⟩
  have D3 := Lib.hid hd
  have F3 := Lib.hid (F2.out.trans hf fun i e => .inl (.inl e))
  clear hd hf
  go_wp2_with fail
  go_ret
  exact ⟨rfl, D3.out, F3.out⟩
end
end Go.Proofs.YtgbcdgfpmihkcaaDoor
