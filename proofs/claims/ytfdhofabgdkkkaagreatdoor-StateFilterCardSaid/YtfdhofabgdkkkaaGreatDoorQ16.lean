/- What a producer was heard with: add. -/
import Derived.Test.YtfdhofabgdkkkaaGreatDoorQ15
namespace Go.Proofs.YtfdhofabgdkkkaaGreatDoor
open Go.RowKit Go.Fm Go.BigFrame Go.Shelf Go.Maps
set_option linter.unusedVariables false
set_option linter.unusedSimpArgs false
set_option maxRecDepth 100000
section
variable {w w' : World} {hb : Nat} {ep : Int} {r : List Int} {f c : Nat} {S : Nat → Prop}
/-- The ring with one written at its i-th place. -/
def wrR (r : List Int) (p : Nat) (x y z : Int) : List Int := ((r.set (p * 3) x).set (p * 3 + 1) y).set (p * 3 + 2) z
theorem hearL_set (i : Nat) (x : Int) (e f c : Int) (h : r.length = 15) (hi : i < 15) : (hearL e r f c).set (1 + i) (.int .i64 x) = hearL e (r.set i x) f c := by
 unfold hearL
 rw [Nat.add_comm, List.set_cons_succ, List.set_append_left _ _ (by rw [List.length_map]; omega), List.map_set]
theorem hearL_c (e f c c' : Int) (h : r.length = 15) : (hearL e r f c).set 17 (.int .i64 c') = hearL e r f c' := by
 unfold hearL
 rw [List.set_cons_succ, List.set_append_right _ _ (by rw [List.length_map]; omega), List.length_map, h]
 rfl
theorem hearL_f (e f c f' : Int) (h : r.length = 15) : (hearL e r f c).set 16 (.int .i64 f') = hearL e r f' c := by
 unfold hearL
 rw [List.set_cons_succ, List.set_append_right _ _ (by rw [List.length_map]; omega), List.length_map, h]
 rfl
/-- A ring of 15, and what stands behind it, of any first and count. -/
structure HearB (w : World) (hb : Nat) (e : Int) (r : List Int) (f c : Int) : Prop where
 b : w.heap[hb]? = some (.cells (hearL e r f c).toArray 255 (0, 0))
 len : r.length = 15
theorem HearB.setF {e f c f' : Int} (h : HearB w hb e r f c) : HearB (w.setCell ⟨hb, 16, none⟩ (.int .i64 f')) hb e r f' c :=
 ⟨(heap_setCell_self h.b _).trans (by rw [List.setIfInBounds_toArray, hearL_f _ _ _ _ h.len]), h.len⟩
theorem HearB.setC {e f c f' : Int} (h : HearB w hb e r f c) : HearB (w.setCell ⟨hb, 17, none⟩ (.int .i64 f')) hb e r f f' :=
 ⟨(heap_setCell_self h.b _).trans (by rw [List.setIfInBounds_toArray, hearL_c _ _ _ _ h.len]), h.len⟩
theorem HearB.setR {e f c x : Int} (h : HearB w hb e r f c) (i : Nat) (hi : i < 15) : HearB (w.setCell ⟨hb, 1 + i, none⟩ (.int .i64 x)) hb e (r.set i x) f c :=
 ⟨(heap_setCell_self h.b _).trans (by rw [List.setIfInBounds_toArray, hearL_set _ _ _ _ _ h.len hi]), by rw [List.length_set]; exact h.len⟩
theorem HearB.get {e f c : Int} (h : HearB w hb e r f c) (i : Nat) (hi : i < 15) : (∃ v, w.cell? ⟨hb, 1 + i, none⟩ = some v) ∧ w.frozen? ⟨hb, 1 + i, none⟩ = false := by
 refine ⟨?_, fz_of h.b _⟩
 obtain ⟨n, hn⟩ := get_of_lt (show i < r.length by have := h.len; omega)
 refine ⟨.int .i64 n, (cell_of h.b _).trans ?_⟩
 rw [List.getElem?_toArray]
 unfold hearL
 rw [Nat.add_comm, List.getElem?_cons_succ, List.getElem?_append_left (by rw [List.length_map]; have := h.len; omega), List.getElem?_map, hn]
 rfl
theorem HearB.c17 {e f c : Int} (h : HearB w hb e r f c) : w.cell? ⟨hb, 17, none⟩ = some (.int .i64 c) ∧ w.frozen? ⟨hb, 17, none⟩ = false := by
 refine ⟨(cell_of h.b _).trans ?_, fz_of h.b _⟩
 rw [List.getElem?_toArray]
 unfold hearL
 rw [List.getElem?_cons_succ, List.getElem?_append_right (by rw [List.length_map, h.len]; omega), List.length_map, h.len]
 rfl
theorem HearB.c16 {e f c : Int} (h : HearB w hb e r f c) : w.cell? ⟨hb, 16, none⟩ = some (.int .i64 f) ∧ w.frozen? ⟨hb, 16, none⟩ = false := by
 refine ⟨(cell_of h.b _).trans ?_, fz_of h.b _⟩
 rw [List.getElem?_toArray]
 unfold hearL
 rw [List.getElem?_cons_succ, List.getElem?_append_right (by rw [List.length_map, h.len]; omega), List.length_map, h.len]
 rfl
theorem HearA.B (h : HearA w hb ep r f c) : HearB w hb ep r f c := ⟨h.b, h.len⟩
def w3R (w : World) (hb p : Nat) (x y z : Int) : World := ((w.setCell ⟨hb, 1 + p * 3, none⟩ (.int .i64 x)).setCell ⟨hb, 1 + p * 3 + 1, none⟩ (.int .i64 y)).setCell ⟨hb, 1 + p * 3 + 2, none⟩ (.int .i64 z)
theorem HearB.three {e f c x y z : Int} (h : HearB w hb e r f c) (p : Nat) (hp : p < 5) : HearB (w3R w hb p x y z) hb e (wrR r p x y z) f c :=
 ((h.setR (p * 3) (by omega)).setR (p * 3 + 1) (by omega)).setR (p * 3 + 2) (by omega)
theorem w3R_fr (w : World) (hb p : Nat) (x y z : Int) : Fr (fun i => i = hb) w (w3R w hb p x y z) :=
 (((Fr.refl (fun i => i = hb) w).setCell (p := ⟨hb, 1 + p * 3, none⟩) (.inl rfl) _).setCell (p := ⟨hb, 1 + p * 3 + 1, none⟩) (.inl rfl) _).setCell (p := ⟨hb, 1 + p * 3 + 2, none⟩) (.inl rfl) _
set_option maxHeartbeats 16000000 in
theorem hadd_less (h : HearA w hb ep r f c) (hc : c < 5) (x y z : Int) : Calls Tryz.prog 138 #[.pointer (some ⟨hb, 0, none⟩), .agg #[.int .i64 x, .int .i64 y, .int .i64 z]] w fun e w' => e = .returned (.tuple #[]) ∧ HearA w' hb ep (wrR r ((f + c) % 5) x y z) f (c + 1) ∧ Fr (fun i => i = hb) w w' := by
 have f1 := (Fr.same w).alloc (.cells #[.int .i64 x, .int .i64 y, .int .i64 z] 252)
 have x1 := heap_alloc_self w (.cells #[.int .i64 x, .int .i64 y, .int .i64 z] 252)
 have F1 := Lib.hid f1
 have X1 := Lib.hid x1
 have hlt := lt_of_heap h.b
 have HL := Lib.hid hlt
 have H1 := Lib.hid (h.old f1)
 have c5 := H1.out.count
 clear f1 x1 hlt h
 go_enter Tryz.func138, Tryz.ntmps138
 go_wp2_with fail
 generalize hw1 : (w.alloc (.cells #[.int .i64 x, .int .i64 y, .int .i64 z] 252)) = w1 at *
 clear hw1
 have z0 : ∀ q : Lcl.InS (fun w' => Fr (fun _ => False) w1 w'), q.w.cell? ⟨hb, 17, none⟩ = some (.int .i64 (c : Nat)) := fun q => q.h.cel H1.out.count
 have z1 : ∀ q : Lcl.InS (fun w' => Fr (fun _ => False) w1 w'), q.w.cell? ⟨w.heap.size, 0, none⟩ = some (.int .i64 x) := fun q => q.h.cel ((cell_of X1.out 0).trans rfl)
 have z2 : ∀ q : Lcl.InS (fun w' => Fr (fun _ => False) w1 w'), q.w.cell? ⟨w.heap.size, 1, none⟩ = some (.int .i64 y) := fun q => q.h.cel ((cell_of X1.out 1).trans rfl)
 have z3 : ∀ q : Lcl.InS (fun w' => Fr (fun _ => False) w1 w'), q.w.cell? ⟨w.heap.size, 2, none⟩ = some (.int .i64 z) := fun q => q.h.cel ((cell_of X1.out 2).trans rfl)
 refine Lcl.wp_region_calm (by kernel_rfl) [(true, [0, 1, 2, 3]), (false, [4, 6])] #[0, 0, 2, 6, 14, 31, 0, 127, 255] [0, 1, 2, 3, 4, 5, 6] 3 #[true, true, true, true, true, false, true, false, false] (by kernel_rfl) (by kernel_rfl) (by kernel_rfl) (fun w' => Fr (fun _ => False) w1 w') (Fr.same w1).drew (fun d c a v w h => by cases d <;> exact h) ?_
 simp only [Lcl.opsOf, List.map_cons, List.map_nil, List.getElem?_toArray, List.getElem?_cons_succ, List.getElem?_cons_zero, Option.getD_some]
 refine Lcl.wpCalm_t ?_
 repeat (go_big_quiet_step (rfl))
 refine wpQuiet_nil ?_
 refine Lcl.wpCalm_f ?_
 repeat (go_big_quiet_step (rfl))
 refine wpQuiet_nil ?_
 refine Lcl.wpCalm_nil ?_
 refine Lcl.wpG_one 5 rfl (by kernel_rfl) ?_
 clear z0 z1 z2 z3
 have F2 := Lib.hid F1.out.drew
 have H2 := Lib.hid (H1.out.old (Fr.same w1).drew)
 have hs2 : w1.heap.size ≤ w1.drew.heap.size := Nat.le_refl _
 have F12 := Lib.hid (Fr.same w1).drew
 clear c5 X1 F1 H1 hs2
 generalize w1.drew = w2 at *
 have HW := Lib.hid (hat_walk H2.out c (by omega))
 go_wp2_with fail
 refine HW.out.mono ?_
 rintro e w3 ⟨rfl, hf3⟩
 have F3 := Lib.hid (F2.out.tr hf3)
 have F13 := Lib.hid (F12.out.tr hf3)
 have H3 := Lib.hid (H2.out.old hf3)
 clear hf3 HW
 go_wp2_with fail
 refine ⟨fun _ _ => F13.out, ?_⟩
 refine Lcl.wpG_run [7, 8] _ _ _ (by kernel_rfl) ?_
 simp only [List.map_cons, List.map_nil, List.getElem?_toArray, List.getElem?_cons_succ, List.getElem?_cons_zero, Option.getD_some]
 have HB := Lib.hid H3.out.B
 have hp : (f + c) % 5 < 5 := Nat.mod_lt _ (by omega)
 have HP := Lib.hid hp
 clear hp
 generalize hpe : (f + c) % 5 = p at *
 have HPE := Lib.hid hpe
 clear hpe
 obtain ⟨⟨v0, c0⟩, z0⟩ := HB.out.get (p * 3) (by have := HP.out; omega)
 obtain ⟨⟨v1, c1⟩, z1⟩ := (HB.out.setR (x := x) (p * 3) (by have := HP.out; omega)).get (p * 3 + 1) (by have := HP.out; omega)
 obtain ⟨⟨v2, c2⟩, z2⟩ := ((HB.out.setR (x := x) (p * 3) (by have := HP.out; omega)).setR (x := y) (p * 3 + 1) (by have := HP.out; omega)).get (p * 3 + 2) (by have := HP.out; omega)
 have HB3 := Lib.hid (HB.out.three (x := x) (y := y) (z := z) p HP.out)
 have F4 := Lib.hid (w3R_fr w3 hb p x y z)
 unfold w3R at HB3 F4
 obtain ⟨c3, z3⟩ := HB3.out.c17
 rw [← Nat.add_assoc] at c1 z1 c2 z2
 rw [← Nat.add_assoc] at c2 z2
 have HB5 := Lib.hid (HB3.out.setC (f' := (c : Int) + 1))
 have F5 := Lib.hid (F4.out.setCell (p := ⟨hb, 17, none⟩) (.inl rfl) (.int .i64 ((c : Int) + 1)))
 have FIN := Lib.hid (F3.out.mono (S' := fun i => i = hb) fun _ h => h.elim)
 clear F3 HB F2 F4
 go_wp2_with fail
 go_end0
 rw [HPE.out]
 refine ⟨rfl, ⟨HB5.out.b, HB5.out.len, H3.out.f5, by omega⟩, FIN.out.trans F5.out fun _ h => .inl h⟩
set_option maxHeartbeats 16000000 in
theorem hadd_full (h : HearA w hb ep r f 5) (x y z : Int) : Calls Tryz.prog 138 #[.pointer (some ⟨hb, 0, none⟩), .agg #[.int .i64 x, .int .i64 y, .int .i64 z]] w fun e w' => e = .returned (.tuple #[]) ∧ HearA w' hb ep (wrR r (((f + 1) % 5 + 4) % 5) x y z) ((f + 1) % 5) 5 ∧ Fr (fun i => i = hb) w w' := by
 have f1 := (Fr.same w).alloc (.cells #[.int .i64 x, .int .i64 y, .int .i64 z] 252)
 have x1 := heap_alloc_self w (.cells #[.int .i64 x, .int .i64 y, .int .i64 z] 252)
 have F1 := Lib.hid f1
 have X1 := Lib.hid x1
 have hlt := lt_of_heap h.b
 have HL := Lib.hid hlt
 have G0 := Lib.hid (h.old f1).B
 have f5 := h.f5
 have FF5 := Lib.hid f5
 have hr5 : ((f : Int) + 1).tmod 5 = (((f + 1) % 5 : Nat) : Int) := by rw [Int.tmod_eq_emod_of_nonneg (by omega)]; omega
 obtain ⟨c17, q17⟩ := G0.out.c17
 obtain ⟨c16, q16⟩ := G0.out.c16
 have hf5 : (f + 1) % 5 < 5 := Nat.mod_lt _ (by omega)
 have F5L := Lib.hid hf5
 have G1 := Lib.hid (G0.out.setF (f' := ((f : Int) + 1) % 5))
 obtain ⟨d17, e17⟩ := G1.out.c17
 have G2 := Lib.hid (G1.out.setC (f' := 4))
 have g1 := Lib.hid ((Fr.same w).alloc (.cells #[.int .i64 x, .int .i64 y, .int .i64 z] 252))
 have g3 := Lib.hid (((Fr.refl (fun i => i = hb) (w.alloc (.cells #[.int .i64 x, .int .i64 y, .int .i64 z] 252))).setCell (p := ⟨hb, 16, none⟩) (.inl rfl) (.int .i64 (((f : Int) + 1) % 5))).setCell (p := ⟨hb, 17, none⟩) (.inl rfl) (.int .i64 4))
 have XX := Lib.hid (show _ from (g3.out.block _ (lt_of_heap X1.out) (by omega)).trans X1.out)
 clear f1 x1 hlt h hf5 G0 G1 X1
 go_enter Tryz.func138, Tryz.ntmps138
 go_wp2_with fail
 have e5 : ((f : Int) + 1) % 5 = (((f + 1) % 5 : Nat) : Int) := by omega
 rw [e5] at G2 g3 XX ⊢
 clear c17 q17 c16 q16 d17 e17 hr5 e5 F1
 generalize hfe : (f + 1) % 5 = fn at *
 have HFE := Lib.hid hfe
 have F1 := Lib.hid ((g1.out.mono (S' := fun i => i = hb) fun _ h => h.elim).trans g3.out fun _ h => .inl h)
 clear hfe g1 g3
 generalize hw1 : (((w.alloc (.cells #[.int .i64 x, .int .i64 y, .int .i64 z] 252)).setCell ⟨hb, 16, none⟩ (.int .i64 (fn : Int))).setCell ⟨hb, 17, none⟩ (.int .i64 4)) = w1 at *
 clear hw1
 have H1 := Lib.hid (show HearA w1 hb ep r fn 4 from ⟨G2.out.b, G2.out.len, F5L.out, by omega⟩)
 have X1 := XX
 clear XX G2
 have z0 : ∀ q : Lcl.InS (fun w' => Fr (fun _ => False) w1 w'), q.w.cell? ⟨hb, 17, none⟩ = some (.int .i64 (4 : Nat)) := fun q => q.h.cel H1.out.count
 have z1 : ∀ q : Lcl.InS (fun w' => Fr (fun _ => False) w1 w'), q.w.cell? ⟨w.heap.size, 0, none⟩ = some (.int .i64 x) := fun q => q.h.cel ((cell_of X1.out 0).trans rfl)
 have z2 : ∀ q : Lcl.InS (fun w' => Fr (fun _ => False) w1 w'), q.w.cell? ⟨w.heap.size, 1, none⟩ = some (.int .i64 y) := fun q => q.h.cel ((cell_of X1.out 1).trans rfl)
 have z3 : ∀ q : Lcl.InS (fun w' => Fr (fun _ => False) w1 w'), q.w.cell? ⟨w.heap.size, 2, none⟩ = some (.int .i64 z) := fun q => q.h.cel ((cell_of X1.out 2).trans rfl)
 refine Lcl.wp_region_calm (by kernel_rfl) [(true, [0, 1, 2, 3]), (false, [4, 6])] #[0, 0, 2, 6, 14, 31, 0, 127, 255] [0, 1, 2, 3, 4, 5, 6] 3 #[true, true, true, true, true, false, true, false, false] (by kernel_rfl) (by kernel_rfl) (by kernel_rfl) (fun w' => Fr (fun _ => False) w1 w') (Fr.same w1).drew (fun d c a v w h => by cases d <;> exact h) ?_
 simp only [Lcl.opsOf, List.map_cons, List.map_nil, List.getElem?_toArray, List.getElem?_cons_succ, List.getElem?_cons_zero, Option.getD_some]
 refine Lcl.wpCalm_t ?_
 repeat (go_big_quiet_step (rfl))
 refine wpQuiet_nil ?_
 refine Lcl.wpCalm_f ?_
 repeat (go_big_quiet_step (rfl))
 refine wpQuiet_nil ?_
 refine Lcl.wpCalm_nil ?_
 refine Lcl.wpG_one 5 rfl (by kernel_rfl) ?_
 clear z0 z1 z2 z3
 have F2 := Lib.hid F1.out.drew
 have H2 := Lib.hid (H1.out.old (Fr.same w1).drew)
 have hs2 : w1.heap.size ≤ w1.drew.heap.size := Nat.le_refl _
 have F12 := Lib.hid (Fr.same w1).drew
 clear X1 F1 H1 hs2
 generalize w1.drew = w2 at *
 have HW := Lib.hid (hat_walk H2.out 4 (by omega))
 go_wp2_with fail
 refine HW.out.mono ?_
 rintro e w3 ⟨rfl, hf3⟩
 have F3 := Lib.hid (F2.out.trans hf3 fun _ h => h.elim)
 have F13 := Lib.hid (F12.out.tr hf3)
 have H3 := Lib.hid (H2.out.old hf3)
 clear hf3 HW
 go_wp2_with fail
 refine ⟨fun _ _ => F13.out, ?_⟩
 refine Lcl.wpG_run [7, 8] _ _ _ (by kernel_rfl) ?_
 simp only [List.map_cons, List.map_nil, List.getElem?_toArray, List.getElem?_cons_succ, List.getElem?_cons_zero, Option.getD_some]
 have HB := Lib.hid H3.out.B
 have hp : (fn + 4) % 5 < 5 := Nat.mod_lt _ (by omega)
 have HP := Lib.hid hp
 clear hp
 generalize hpe : (fn + 4) % 5 = p at *
 have HPE := Lib.hid hpe
 clear hpe
 obtain ⟨⟨v0, c0⟩, z0⟩ := HB.out.get (p * 3) (by have := HP.out; omega)
 obtain ⟨⟨v1, c1⟩, z1⟩ := (HB.out.setR (x := x) (p * 3) (by have := HP.out; omega)).get (p * 3 + 1) (by have := HP.out; omega)
 obtain ⟨⟨v2, c2⟩, z2⟩ := ((HB.out.setR (x := x) (p * 3) (by have := HP.out; omega)).setR (x := y) (p * 3 + 1) (by have := HP.out; omega)).get (p * 3 + 2) (by have := HP.out; omega)
 have HB3 := Lib.hid (HB.out.three (x := x) (y := y) (z := z) p HP.out)
 have F4 := Lib.hid (w3R_fr w3 hb p x y z)
 unfold w3R at HB3 F4
 obtain ⟨c3, z3⟩ := HB3.out.c17
 rw [← Nat.add_assoc] at c1 z1 c2 z2
 rw [← Nat.add_assoc] at c2 z2
 have HB5 := Lib.hid (HB3.out.setC (f' := 5))
 have F5 := Lib.hid (F4.out.setCell (p := ⟨hb, 17, none⟩) (.inl rfl) (.int .i64 (5)))
 have FIN := F3
 clear F3 HB F2 F4
 go_wp2_with fail
 go_end0
 rw [HFE.out, HPE.out]
 refine ⟨rfl, ⟨HB5.out.b, HB5.out.len, F5L.out, Nat.le_refl _⟩, FIN.out.trans F5.out fun _ h => .inl h⟩
end
end Go.Proofs.YtfdhofabgdkkkaaGreatDoor
