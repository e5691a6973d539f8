/- The document's Entry; Same of two records that are alike: the walks. -/
import Derived.Test.YtdgdhegbcjimbaaD5
namespace Go.Proofs.Ytdgdhegbcjimbaa
open Go.RowKit Go.Fm Go.BigFrame
set_option linter.unusedVariables false
set_option linter.unusedSimpArgs false

set_option maxRecDepth 100000 in
set_option maxHeartbeats 8000000 in
theorem rentry_yes (k : Key) (a tm : Int) (w : World) (h1 : mayB k = true) (h2 : withinB a (-1) = true) (h3 : withinB tm 0 = true) :
    Calls Try.prog 34 #[.string k.g, .agg #[.string k.t, .int .i64 k.i], .int .i64 a, .int .i64 tm] w fun e w' => e = .returned (.tuple #[recV (entR k a tm) (.slice none 0 0), .int .i64 0]) ∧ Fr (fun _ => False) w w' := by
  have hk := may_ok h1
  have hsz : k.g.size ≤ 100 ∧ k.t.size ≤ 100 := by
    simp [mayB, nameB] at h1; omega
  obtain ⟨hg, ht⟩ := hsz
  have ha : -1 ≤ a ∧ a ≤ 1099511627776 := by simpa [withinB] using h2
  have htm : 0 ≤ tm ∧ tm ≤ 1099511627776 := by simpa [withinB] using h3
  have hwf : (Lit.int .i64 a).wf = true := by simp [Lit.wf, IntKind.min, IntKind.max, IntKind.signed, IntKind.bits]; omega
  have s1 := textS_size (s := k.g) (by omega)
  have s2 := textS_size (s := k.t) (by omega)
  have s3 := putS_size hk.i
  have H1 := Lib.hid h1
  have HW := Lib.hid hwf
  have HI := Lib.hid hk.i
  have q1 : decide (tm < 0) = false := by simp; omega
  have q2 : decide (1099511627776 < tm) = false := by simp; omega
  have q3 : decide (a < -1) = false := by simp; omega
  have q4 : decide (1099511627776 < a) = false := by simp; omega
  clear h1 h2 h3 hk hwf ha htm
  unfold recV entR
  go_enter Try.func34, Try.ntmps34
  go_wp2_with fail
  refine (rkey_walk k true H1.out _).mono ?_
  rintro e w2 ⟨rfl, hf⟩
  have hf1 := ((Fr.same w).alloc (.cells #[.string k.t, .int .i64 k.i] 29)).alloc (.cells zrec 32)
  have b0 : w2.heap[w.heap.size]? = some (.cells #[.string k.t, .int .i64 k.i] 29 (0, 0)) := (hf.block _ (by simp; omega) fun h => h).trans ((heap_alloc_lt _ (by simp)).trans (heap_alloc_self w _))
  have b1 : w2.heap[w.heap.size + 1]? = some (.cells zrec 32 (0, 0)) := (hf.block _ (by simp) fun h => h).trans (by have := heap_alloc_self (w.alloc (.cells #[.string k.t, .int .i64 k.i] 29)) (.cells zrec 32); simpa using this)
  have F2 := Lib.hid (hf1.tr hf)
  have B0 := Lib.hid b0
  have B1 := Lib.hid b1
  have hw2 : w.heap.size + 2 ≤ w2.heap.size := by have := hf.size; simp at this; omega
  clear hf hf1 b1
  go_wp2_with fail
  clear q1 q2 q3 q4
  have fput : ∀ w1 (n : Int), (Lit.int .i64 n).wf = true → ∀ y : Lcl.InS (Fr (fun _ => False) w1), Calls Try.prog 55 #[.int .i64 n] y.w fun e w' => e = .returned (.string (putS n)) ∧ ∃ y : Lcl.InS (Fr (fun _ => False) w1), w' = y.w := fun w1 n hn y => quietly y (rput_walk n _ hn)
  have ftext : ∀ w1 (t : ByteArray), t.size ≤ 1000000000 → ∀ y : Lcl.InS (Fr (fun _ => False) w1), Calls Try.prog 54 #[.string t] y.w fun e w' => e = .returned (.string (textS t)) ∧ ∃ y : Lcl.InS (Fr (fun _ => False) w1), w' = y.w := fun w1 t ht y => quietly y (rtext_walk t _ ht)
  have a1 := fun w => strAdd w (textS k.g) (textS k.t) (by omega)
  have a2 := fun w => strAdd w (textS k.g ++ textS k.t) (putS k.i) (by rw [ByteArray.size_append]; omega)
  refine Lcl.wp_region_alloc (afin := ?afin) (by kernel_rfl) (R := Fr fun _ => False) Fr.same (fun _ _ _ h k => h.tr k) [(false, [0, 1, 2, 3, 4, 5, 6, 7, 8, 9, 10, 11])] 12 32 zrec rfl rfl rfl rfl (fun w => by kernel_rfl) (fun w => (Fr.same w).alloc _) #[0, 0, 2, 0, 8, 30, 62, 0, 128, 446, 1022, 2047, 0, 8191] 1 #[true, true, true, true, true, true, true, true, true, true, true, true, true, false] (by kernel_rfl) (by kernel_rfl) (by kernel_rfl) (fun d c a v w h => by cases d <;> exact h) ?calls ?rest
  case calls =>
    intro w1 hw1
    have y0 : ∀ y : Lcl.InS (Fr (fun _ => False) w1), y.w.cell? ⟨w.heap.size, 0, none⟩ = some (.string k.t) := fun y => y.h.cel (hw1.cel ((cell_of b0 0).trans rfl))
    have y1 : ∀ y : Lcl.InS (Fr (fun _ => False) w1), y.w.cell? ⟨w.heap.size, 1, none⟩ = some (.int .i64 k.i) := fun y => y.h.cel (hw1.cel ((cell_of b0 1).trans rfl))
    simp only [Lcl.opsOf, List.map_cons, List.map_nil, List.getElem?_toArray, List.getElem?_cons_succ, List.getElem?_cons_zero, Option.getD_some]
    refine Lcl.wpSegs_f ?_
    repeat (go_big_quiet_step (first | with_reducible rfl | exact ftext _ _ (by omega) _ | exact fput _ _ HI.out _))
    refine wpQuiet_nil ?_
    exact rfl
  case rest =>
    intro wx w3 hx hx3
    clear fput ftext a1 a2
    refine Lcl.wpG_run (needs := []) [13] _ _ _ (by kernel_rfl) ?_
    simp only [List.map_cons, List.map_nil, List.getElem?_toArray, List.getElem?_cons_succ, List.getElem?_cons_zero, Option.getD_some]
    dsimp only [Act.put]
    have hb3 : w3.heap[wx.heap.size]? = some (.cells zrec 32 (0, 0)) := (hx3.block _ (by simp) fun h => h).trans (heap_alloc_self wx _)
    have hf3 := (Fr.same w2).drew.tr (hx.tr (((Fr.same wx).alloc (.cells zrec 32)).tr hx3))
    have hsz3 : w2.heap.size ≤ wx.heap.size := hx.size
    refine wpList_store_all rfl 32 (.tmp 10) (.tmp 43) rfl wx.heap.size rfl 32 zrec (.agg #[.int .i64 0, .int .i64 tm, .bool false, .string (textS k.g ++ textS k.t ++ putS k.i), .bool false, .string ⟨#[]⟩, .slice none 0 0]) rfl hb3 rfl (by kernel_rfl) rfl ?_
    intro w4 hb4 hg4
    dsimp only [Value.cells] at hb4
    have hf4 : Fr (fun _ => False) w2 w4 := hf3.grown hg4 fun i e => by cases e; exact .inr hsz3
    have F4 := Lib.hid hf4
    have B4 := Lib.hid hb4
    have hb41 : w4.heap[w.heap.size + 1]? = some (.cells zrec 32 (0, 0)) := (hf4.block _ (by omega) fun h => h).trans B1.out
    have B41 := Lib.hid hb41
    obtain ⟨b, hb⟩ : ∃ b, b = wx.heap.size := ⟨_, rfl⟩
    rw [← hb] at B4 hsz3 ⊢
    have hne : b ≠ w.heap.size + 1 := by omega
    obtain ⟨ks, hks⟩ : ∃ ks, ks = textS k.g ++ textS k.t ++ putS k.i := ⟨_, rfl⟩
    rw [← hks] at B4 ⊢
    have KS := Lib.hid hks
    clear hb3 hf3 hg4 hf4 hx hx3 hb hb4 hb41 b0 s1 s2 s3 hg ht hks
    have c1 := cell_of B4.out 1
    have c2 := cell_of B4.out 2
    have c3 := cell_of B4.out 3
    have c4 := cell_of B4.out 4
    have c5 := cell_of B4.out 5
    have c6 := cell_of B4.out 6
    have c0 := cell_of B4.out 0
    have f4 := fz_of B4.out 4
    have f5 := fz_of B4.out 5
    simp at c0 c1 c2 c3 c4 c5 c6
    clear hw2
    by_cases h1 : a = -1
    · have ha : ((a : Int) == -1) = true := by simp [h1]
      have HH := Lib.hid h1
      clear h1
      go_wp2_with (with_reducible refine wpList_store_all rfl 32 (.tmp 8) (.tmp 50) rfl (w.heap.size + 1) rfl 32 zrec (.agg #[.int .i64 0, .int .i64 tm, .bool false, .string ks, .bool true, .string ⟨#[]⟩, .slice none 0 0]) rfl ?hg rfl (by kernel_rfl) rfl ?_)
      case hg => rw [heap_setCell_ne _ (Ne.symm hne)]; exact B41.out
      intro w6 hb6 hg6
      have hf6 : Fr (fun _ => False) w w6 := Fr.grown (F2.out.tr (F4.out.setCell (.inr hsz3) _)) hg6 fun i e => by cases e; exact .inr (by omega)
      have d0 := cell_of hb6 0
      have d1 := cell_of hb6 1
      have d2 := cell_of hb6 2
      have d3 := cell_of hb6 3
      have d4 := cell_of hb6 4
      have d5 := cell_of hb6 5
      have d6 := cell_of hb6 6
      simp at d0 d1 d2 d3 d4 d5 d6
      have F6 := Lib.hid hf6
      clear hb6 hg6 hf6 c0 c1 c2 c3 c4 c5 c6 f4 f5 ha
      have h1 := HH.out
      clear HH
      go_wp2_with fail
      refine bodyPost_ret (v := .tuple #[recV (entR k a tm) (.slice none 0 0), .int .i64 0]) (by
        have hks := KS.out
        have hks2 : keyS k = ks := by rw [hks]; rfl
        simp [results, Try.f34, go_sem, recV, entR, hks2, h1, d0, d1, d2, d3, d4, d5, d6]; try rfl) rfl ⟨by simp [recV, entR, h1], F6.out⟩
    · have ha : ((a : Int) == -1) = false := by simp [h1]
      have HH := Lib.hid h1
      clear h1
      go_wp2_with fail
      refine (rput_walk _ _ HW.out).mono ?_
      rintro e w5 ⟨rfl, hf5⟩
      have hb5 : w5.heap[b]? = some (.cells #[.int .i64 0, .int .i64 tm, .bool false, .string ks, .bool false, .string ⟨#[]⟩, .slice none 0 0] 32 (0, 0)) := (hf5.block b (lt_of_heap B4.out) fun h => h).trans B4.out
      have hb51 : w5.heap[w.heap.size + 1]? = some (.cells zrec 32 (0, 0)) := (hf5.block _ (lt_of_heap B41.out) fun h => h).trans B41.out
      have hff := F4.out.tr hf5
      have FF := Lib.hid hff
      have B5 := Lib.hid hb5
      have B51 := Lib.hid hb51
      clear hf5 hb5 hb51 hff c0 c1 c2 c3 c4 c5 c6 f4 f5
      have c1 := cell_of B5.out 1
      have c2 := cell_of B5.out 2
      have c3 := cell_of B5.out 3
      have c4 := cell_of B5.out 4
      have c5 := cell_of B5.out 5
      have c6 := cell_of B5.out 6
      have c0 := cell_of B5.out 0
      have f5 := fz_of B5.out 5
      simp at c0 c1 c2 c3 c4 c5 c6
      go_wp2_with (with_reducible refine wpList_store_all rfl 32 (.tmp 8) (.tmp 50) rfl (w.heap.size + 1) rfl 32 zrec (.agg #[.int .i64 0, .int .i64 tm, .bool false, .string ks, .bool false, .string (putS a), .slice none 0 0]) rfl ?hg rfl (by kernel_rfl) rfl ?_)
      case hg => rw [heap_setCell_ne _ (Ne.symm hne)]; exact B51.out
      intro w6 hb6 hg6
      have hf6 : Fr (fun _ => False) w w6 := Fr.grown (F2.out.tr (FF.out.setCell (.inr hsz3) _)) hg6 fun i e => by cases e; exact .inr (by omega)
      have d0 := cell_of hb6 0
      have d1 := cell_of hb6 1
      have d2 := cell_of hb6 2
      have d3 := cell_of hb6 3
      have d4 := cell_of hb6 4
      have d5 := cell_of hb6 5
      have d6 := cell_of hb6 6
      simp at d0 d1 d2 d3 d4 d5 d6
      have F6 := Lib.hid hf6
      clear hb6 hg6 hf6 c0 c1 c2 c3 c4 c5 c6 f5 ha
      have h1 := HH.out
      clear HH
      go_wp2_with fail
      refine bodyPost_ret (v := .tuple #[recV (entR k a tm) (.slice none 0 0), .int .i64 0]) (by
        have hks := KS.out
        have hks2 : keyS k = ks := by rw [hks]; rfl
        simp [results, Try.f34, go_sem, recV, entR, hks2, h1, d0, d1, d2, d3, d4, d5, d6]) rfl ⟨by simp [recV, entR, h1], F6.out⟩
set_option maxRecDepth 100000 in
set_option maxHeartbeats 8000000 in
theorem rentry_no (k : Key) (a tm : Int) (w : World) (h : entB k a tm = false) :
    Calls Try.prog 34 #[.string k.g, .agg #[.string k.t, .int .i64 k.i], .int .i64 a, .int .i64 tm] w fun e w' => e = .returned (.tuple #[recV zRec (.slice none 0 0), .int .i64 1]) ∧ Fr (fun _ => False) w w' := by
  obtain ⟨c, hc⟩ : ∃ c, mayB k = c := ⟨_, rfl⟩
  have hcase : c = false ∨ (c = true ∧ tm < 0) ∨ (c = true ∧ ¬ tm < 0 ∧ 1099511627776 < tm) ∨ (c = true ∧ ¬ tm < 0 ∧ ¬ 1099511627776 < tm ∧ a < -1) ∨ (c = true ∧ ¬ tm < 0 ∧ ¬ 1099511627776 < tm ∧ ¬ a < -1 ∧ 1099511627776 < a) := by
    cases c with
    | false => exact .inl rfl
    | true =>
      have hh : ¬ ((-1 ≤ a ∧ a ≤ 1099511627776) ∧ (0 ≤ tm ∧ tm ≤ 1099511627776)) := fun hh => by simp [entB, hc, withinB, hh] at h
      by_cases h1 : tm < 0
      · exact .inr (.inl ⟨rfl, h1⟩)
      · by_cases h2 : 1099511627776 < tm
        · exact .inr (.inr (.inl ⟨rfl, h1, h2⟩))
        · by_cases h3 : a < -1
          · exact .inr (.inr (.inr (.inl ⟨rfl, h1, h2, h3⟩)))
          · exact .inr (.inr (.inr (.inr ⟨rfl, h1, h2, h3, by omega⟩)))
  have HM := Lib.hid hc
  clear h hc
  rcases hcase with rfl | ⟨rfl, h1⟩ | ⟨rfl, h1, h2⟩ | ⟨rfl, h1, h2, h3⟩ | ⟨rfl, h1, h2, h3, h4⟩
  all_goals
    go_enter Try.func34, Try.ntmps34
    go_wp2_with fail
    refine (rkey_walk k _ HM.out _).mono ?_
    rintro e w2 ⟨rfl, hf⟩
    have b1 : w2.heap[w.heap.size + 1]? = some (.cells zrec 32 (0, 0)) := (hf.block _ (by simp) fun h => h).trans (by have := heap_alloc_self (w.alloc (.cells #[.string k.t, .int .i64 k.i] 29)) (.cells zrec 32); simpa using this)
    have F2 := Lib.hid ((((Fr.same w).alloc (.cells #[.string k.t, .int .i64 k.i] 29)).alloc (.cells zrec 32)).tr hf)
    have B1 := Lib.hid b1
    clear hf b1
    go_wp2_with (with_reducible refine wpList_store_all rfl 32 (.tmp 8) (.tmp 31) rfl (w.heap.size + 1) rfl 32 zrec (.agg zrec) rfl B1.out rfl (by kernel_rfl) rfl ?_)
    intro w6 hb6 hg6
    have hf6 : Fr (fun _ => False) w w6 := F2.out.grown hg6 fun i e => by cases e; exact .inr (by omega)
    have d0 := cell_of hb6 0
    have d1 := cell_of hb6 1
    have d2 := cell_of hb6 2
    have d3 := cell_of hb6 3
    have d4 := cell_of hb6 4
    have d5 := cell_of hb6 5
    have d6 := cell_of hb6 6
    simp [Value.cells] at d0 d1 d2 d3 d4 d5 d6
    have F6 := Lib.hid hf6
    clear hb6 hg6 hf6
    go_wp2_with fail
    refine bodyPost_ret (v := .tuple #[recV zRec (.slice none 0 0), .int .i64 1]) (by
      simp [results, Try.f34, go_sem, recV, zRec, d0, d1, d2, d3, d4, d5, d6]; rfl) rfl ⟨rfl, F6.out⟩
theorem rentry_walk (k : Key) (a tm : Int) (w : World) : Calls Try.prog 34 #[.string k.g, .agg #[.string k.t, .int .i64 k.i], .int .i64 a, .int .i64 tm] w fun e w' => e = .returned (.tuple #[recV (entS k a tm).1 (.slice none 0 0), .int .i64 (entS k a tm).2]) ∧ Fr (fun _ => False) w w' := by
  unfold entS
  cases h : entB k a tm with
  | true =>
    simp only [if_true]
    simp [entB] at h
    exact rentry_yes k a tm w h.1.1 h.1.2 h.2
  | false =>
    simp only [Bool.false_eq_true, if_false]
    exact rentry_no k a tm w h
set_option maxRecDepth 100000 in
set_option maxHeartbeats 8000000 in
theorem same_walk (r : Rec) (w : World) : Calls Try.prog 35 #[recV r (.slice none 0 0), recV r (.slice none 0 0)] w fun e w' => e = .returned (.bool true) ∧ Fr (fun _ => False) w w' := by
  obtain ⟨rat, rtm, rbare, rkey, rgone, rval, rhs⟩ := r
  unfold recV
  dsimp only
  have F := Lib.hid (((Fr.same w).alloc (.cells #[.int .i64 rat, .int .i64 rtm, .bool rbare, .string rkey, .bool rgone, .string rval, .slice none 0 0] 32)).alloc (.cells #[.int .i64 rat, .int .i64 rtm, .bool rbare, .string rkey, .bool rgone, .string rval, .slice none 0 0] 32))
  go_enter Try.func35, Try.ntmps35
  go_wp2_with fail
  refine wp_loop_once ?_
  go_wp2_with fail
  go_ret
  exact ⟨rfl, F.out⟩
end Go.Proofs.Ytdgdhegbcjimbaa
