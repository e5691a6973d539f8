/- The order of keys: the walks of cmp.Compare, cmp.Or and compare. -/
import Derived.Test.YtdgdhegbcjimbaaT8
import Derived.Test.YtdgdhegbcjimbaaLay
import Derived.Laws.Cover1
import Derived.Sort.Walk0
namespace Go.Proofs.Ytdgdhegbcjimbaa
open Go.RowKit Go.Fm Go.BigFrame Go.Maps Go.Shelf
set_option linter.unusedVariables false
set_option linter.unusedSimpArgs false

def cmpS (a b : ByteArray) : Int := if Op.bytesLess a.toList b.toList = true then -1 else if (a.toList == b.toList) = true then 0 else 1
def cmpI (a b : Int) : Int := if a < b then -1 else if b < a then 1 else 0
def orI (a b c : Int) : Int := if a ≠ 0 then a else if b ≠ 0 then b else c
def cmpK (x y : Key) : Int := orI (cmpS x.g y.g) (cmpS x.t y.t) (cmpI x.i y.i)
theorem nan_s (a : ByteArray) (w : World) : Calls Try.prog 59 #[.string a] w fun e w' => e = .returned (.bool false) ∧ w' = w := by
  go_enter Try.func59, Try.ntmps59
  go_wp2_with fail
  go_ret
  exact ⟨rfl, rfl⟩
theorem nan_i (a : Int) (w : World) : Calls Try.prog 60 #[.int .i64 a] w fun e w' => e = .returned (.bool false) ∧ w' = w := by
  go_enter Try.func60, Try.ntmps60
  go_wp2_with fail
  go_ret
  exact ⟨rfl, rfl⟩
theorem cmpS_walk (a b : ByteArray) (w : World) : Calls Try.prog 44 #[.string a, .string b] w fun e w' => e = .returned (.int .i64 (cmpS a b)) ∧ w' = w := by
  go_enter Try.func44, Try.ntmps44
  go_wp2_with (go_at_call 59; refine (nan_s _ _).mono ?_; rintro e w' ⟨rfl, rfl⟩)
  all_goals go_ret
  · rename_i h
    exact ⟨by simp [cmpS, h], rfl⟩
  · have h1 : Op.bytesLess a.toList b.toList = false := by assumption
    have h2 : (!(a.toList == b.toList)) = true := by assumption
    simp only [Bool.not_eq_true'] at h2
    exact ⟨by unfold cmpS; rw [if_neg (by rw [h1]; decide), if_neg (by rw [h2]; decide)]; rfl, rfl⟩
  · have h1 : Op.bytesLess a.toList b.toList = false := by assumption
    have h2 : (!(a.toList == b.toList)) = false := by assumption
    simp only [Bool.not_eq_false'] at h2
    exact ⟨by unfold cmpS; rw [if_neg (by rw [h1]; decide), if_pos h2]; rfl, rfl⟩
theorem cmpI_walk (a b : Int) (w : World) : Calls Try.prog 45 #[.int .i64 a, .int .i64 b] w fun e w' => e = .returned (.int .i64 (cmpI a b)) ∧ w' = w := by
  go_enter Try.func45, Try.ntmps45
  go_wp2_with (go_at_call 60; refine (nan_i _ _).mono ?_; rintro e w' ⟨rfl, rfl⟩)
  all_goals go_ret
  · have h : a < b := by assumption
    exact ⟨by unfold cmpI; rw [if_pos h]; rfl, rfl⟩
  · have h : b < a := by assumption
    exact ⟨by unfold cmpI; rw [if_neg (by omega), if_pos h]; rfl, rfl⟩
  · have h1 : b ≤ a := by assumption
    have h2 : a ≤ b := by assumption
    exact ⟨by unfold cmpI; rw [if_neg (by omega), if_neg (by omega)]; rfl, rfl⟩
theorem or_walk (x y z : Int) (b t : Nat) (w : World) (h : w.heap[b]? = some (.cells #[.int .i64 x, .int .i64 y, .int .i64 z] t (0, 0))) :
    Calls Try.prog 43 #[.slice (some ⟨b, 0, none⟩) 3 3] w fun e w' => e = .returned (.int .i64 (orI x y z)) ∧ w' = w := by
  have c0 := (cell_of h 0).trans rfl
  have c1 := (cell_of h 1).trans rfl
  have c2 := (cell_of h 2).trans rfl
  simp at c0 c1 c2
  have H := Lib.hid h
  clear h
  go_enter Try.func43, Try.ntmps43
  go_wp2_with fail
  go_loop [8] (fun k => ∃ i : Nat, k = .int .i64 i ∧ i ≤ 3 ∧ (1 ≤ i → x = 0) ∧ (2 ≤ i → y = 0) ∧ (3 ≤ i → z = 0)) (fun k => 3 - (intOf k).toNat)
  case atStart => exact ⟨0, rfl, by omega, by omega, by omega, by omega⟩
  case round =>
    obtain ⟨i, rfl, hi, h1, h2, h3⟩ := hrel
    have : i = 0 ∨ i = 1 ∨ i = 2 ∨ i = 3 := by omega
    rcases this with rfl | rfl | rfl | rfl
    · go_wp2_with fail
      · have hx : x ≠ 0 := by simpa using ‹(x != 0) = true›
        go_ret
        exact ⟨by unfold orI; rw [if_pos hx]; rfl, rfl⟩
      · have hx : x = 0 := by simpa using ‹(x != 0) = false›
        exact ⟨⟨1, rfl, by omega, fun _ => hx, fun _ => by omega, fun _ => by omega⟩, by simp [intOf]⟩
    · go_wp2_with fail
      · have hx : y ≠ 0 := by simpa using ‹(y != 0) = true›
        go_ret
        exact ⟨by unfold orI; rw [if_neg (by simp [h1 (by omega)]), if_pos hx]; rfl, rfl⟩
      · have hx : y = 0 := by simpa using ‹(y != 0) = false›
        exact ⟨⟨2, rfl, by omega, fun _ => h1 (by omega), fun _ => hx, fun _ => by omega⟩, by simp [intOf]⟩
    · go_wp2_with fail
      · have hx : z ≠ 0 := by simpa using ‹(z != 0) = true›
        go_ret
        exact ⟨by unfold orI; rw [if_neg (by simp [h1 (by omega)]), if_neg (by simp [h2 (by omega)])]; rfl, rfl⟩
      · have hx : z = 0 := by simpa using ‹(z != 0) = false›
        exact ⟨⟨3, rfl, by omega, fun _ => h1 (by omega), fun _ => h2 (by omega), fun _ => hx⟩, by simp [intOf]⟩
    · go_wp2_with fail
      go_ret
      exact ⟨by unfold orI; rw [if_neg (by simp [h1 (by omega)]), if_neg (by simp [h2 (by omega)])]; rfl, rfl⟩
/-- A world grown by some blocks, some orders drawn. -/
def Gr (W w' : World) : Prop := ∃ q os, w' = Sort.grow (W.drewN q) os
theorem Gr.refl (W : World) : Gr W W := ⟨0, #[], by simp [Sort.grow, World.drewN]⟩
theorem Gr.drew {W w : World} (h : Gr W w) : Gr W w.drew := by
  obtain ⟨q, os, rfl⟩ := h
  exact ⟨q + 1, os, rfl⟩
theorem Gr.alloc {W w : World} (h : Gr W w) (o : Obj) : Gr W (w.alloc o) := by
  obtain ⟨q, os, rfl⟩ := h
  exact ⟨q, os ++ #[o], by rw [Sort.alloc_eq_grow, Sort.grow_grow]⟩
theorem Gr.tr {A B C : World} (h : Gr A B) (k : Gr B C) : Gr A C := by
  obtain ⟨q, os, rfl⟩ := h
  obtain ⟨q2, os2, rfl⟩ := k
  exact ⟨q + q2, os ++ os2, by rw [← Sort.grow_grow]; simp [Sort.grow, World.drewN, Nat.add_assoc]⟩
theorem Gr.cell {W w : World} (h : Gr W w) {p : Addr} {v : Value} (hc : W.cell? p = some v) : w.cell? p = some v := by
  obtain ⟨q, os, rfl⟩ := h
  have hl := World.block_lt_of_cell? W p hc
  refine (World.cell?_of_block (w := W) ?_).trans hc
  show (W.heap ++ os)[p.block]? = _
  rw [Array.getElem?_append_left hl]
set_option maxRecDepth 100000 in
set_option maxHeartbeats 4000000 in
theorem compare_walk (x y : Key) (w : World) : Calls Try.prog 26 #[.agg (keyC x).toArray, .agg (keyC y).toArray] w fun e w' => e = .returned (.int .i64 (cmpK x y)) ∧ Gr w w' := by
  unfold keyC
  obtain ⟨w1, hw1⟩ : ∃ w1, w1 = w.alloc (.cells #[.string x.g, .string x.t, .int .i64 x.i] 36) := ⟨_, rfl⟩
  have g1 : Gr w w1 := by rw [hw1]; exact (Gr.refl w).alloc _
  have b1 : w1.heap[w.heap.size]? = some (.cells #[.string x.g, .string x.t, .int .i64 x.i] 36 (0, 0)) := by rw [hw1]; exact heap_alloc_self w _
  obtain ⟨w2, hw2⟩ : ∃ w2, w2 = w1.alloc (.cells #[.string y.g, .string y.t, .int .i64 y.i] 36) := ⟨_, rfl⟩
  have g2 : Gr w w2 := by rw [hw2]; exact g1.alloc _
  have b2 : w2.heap[w1.heap.size]? = some (.cells #[.string y.g, .string y.t, .int .i64 y.i] 36 (0, 0)) := by rw [hw2]; exact heap_alloc_self w1 _
  have b3 : w2.heap[w.heap.size]? = some (.cells #[.string x.g, .string x.t, .int .i64 x.i] 36 (0, 0)) := by rw [hw2]; exact (heap_alloc_lt _ (lt_of_heap b1)).trans b1
  have B2 := Lib.hid b2
  have B3 := Lib.hid b3
  have G2 := Lib.hid g2
  have hs : w1.heap.size = w.heap.size + 1 := by rw [hw1]; simp
  have HW := Lib.hid (show (w.alloc (.cells #[.string x.g, .string x.t, .int .i64 x.i] 36)).alloc (.cells #[.string y.g, .string y.t, .int .i64 y.i] 36) = w2 by rw [hw2, hw1])
  have HS := Lib.hid hs
  clear b1 b2 b3 g1 g2 hw1 hw2 hs
  go_enter Try.func26, Try.ntmps26
  go_wp2_with fail
  rw [HW.out]
  clear HW
  have y0 : ∀ q : Lcl.InS (Gr w2), q.w.cell? ⟨w.heap.size, 0, none⟩ = some (.string x.g) := fun q => q.h.cell ((cell_of B3.out 0).trans rfl)
  have y1 : ∀ q : Lcl.InS (Gr w2), q.w.cell? ⟨w.heap.size, 1, none⟩ = some (.string x.t) := fun q => q.h.cell ((cell_of B3.out 1).trans rfl)
  have y2 : ∀ q : Lcl.InS (Gr w2), q.w.cell? ⟨w.heap.size, 2, none⟩ = some (.int .i64 x.i) := fun q => q.h.cell ((cell_of B3.out 2).trans rfl)
  have z0 : ∀ q : Lcl.InS (Gr w2), q.w.cell? ⟨w.heap.size + 1, 0, none⟩ = some (.string y.g) := fun q => by have := q.h.cell ((cell_of B2.out 0).trans rfl); rwa [HS.out] at this
  have z1 : ∀ q : Lcl.InS (Gr w2), q.w.cell? ⟨w.heap.size + 1, 1, none⟩ = some (.string y.t) := fun q => by have := q.h.cell ((cell_of B2.out 1).trans rfl); rwa [HS.out] at this
  have z2 : ∀ q : Lcl.InS (Gr w2), q.w.cell? ⟨w.heap.size + 1, 2, none⟩ = some (.int .i64 y.i) := fun q => by have := q.h.cell ((cell_of B2.out 2).trans rfl); rwa [HS.out] at this
  refine Lcl.wp_region_calm (by kernel_rfl) [(true, [0, 2, 5, 6, 8, 9, 12, 13, 15, 16]), (false, [1, 3, 7, 10, 14, 17])] #[0, 1, 0, 4, 15, 0, 32, 96, 0, 256, 768, 2047, 0, 4096, 12288, 0, 32768, 98304, 262143, 524287, 1048575, 2097151] [0, 1, 2, 3, 4, 5, 6, 7, 8, 9, 10, 11, 12, 13, 14, 15, 16, 17] 6
    #[true, true, true, true, false, true, true, true, true, true, true, false, true, true, true, true, true, true, false, false, false, false] (by kernel_rfl) (by kernel_rfl) (by kernel_rfl) (Gr w2) (Gr.refl w2).drew (fun d c a v w h => by cases d <;> exact h) ?_
  simp only [Lcl.opsOf, List.map_cons, List.map_nil, List.getElem?_toArray, List.getElem?_cons_succ, List.getElem?_cons_zero, Option.getD_some]
  refine Lcl.wpCalm_t ?_
  repeat (go_big_quiet_step (rfl))
  refine wpQuiet_nil ?_
  refine Lcl.wpCalm_f ?_
  repeat (go_big_quiet_step (rfl))
  refine wpQuiet_nil ?_
  refine Lcl.wpCalm_nil ?_
  clear y0 y1 y2 z0 z1 z2
  have HG3 := Lib.hid (G2.out.tr (Gr.refl w2).drew)
  generalize w2.drew = w3 at HG3 ⊢
  refine Lcl.wpG_one 4 rfl (by kernel_rfl) ?_
  go_wp2_with (go_at_call 44; refine (cmpS_walk _ _ _).mono ?_; rintro e w' ⟨rfl, rfl⟩)
  refine ⟨fun _ h => h, ?_⟩
  refine Lcl.wpG_one 11 rfl (by kernel_rfl) ?_
  go_wp2_with (go_at_call 44; refine (cmpS_walk _ _ _).mono ?_; rintro e w' ⟨rfl, rfl⟩)
  refine ⟨fun _ h => h, ?_⟩
  refine Lcl.wpG_one 18 rfl (by kernel_rfl) ?_
  go_wp2_with (go_at_call 45; refine (cmpI_walk _ _ _).mono ?_; rintro e w' ⟨rfl, rfl⟩)
  refine ⟨fun _ h => h, ?_⟩
  refine Lcl.wpG_run [19, 20, 21] _ _ _ (by kernel_rfl) ?_
  simp only [List.map_cons, List.map_nil, List.getElem?_toArray, List.getElem?_cons_succ, List.getElem?_cons_zero, Option.getD_some]
  go_wp2_with (go_at_call 43; refine (or_walk (cmpS x.g y.g) (cmpS x.t y.t) (cmpI x.i y.i) _ _ _ (heap_alloc_self _ _)).mono ?_; rintro e w' ⟨rfl, rfl⟩)
  go_ret
  exact ⟨rfl, HG3.out.alloc _⟩
end Go.Proofs.Ytdgdhegbcjimbaa
