/- Entry, read, Apply of a table: the walks. -/
import Derived.Test.YtdgdhegbcjimbaaT1
import Derived.Test.YtdgdhegbcjimbaaV2
import Derived.Test.YtdgdhegbcjimbaaV5
import Derived.Test.YtdgdhegbcjimbaaLoc2
import Derived.Test.YtdgdhegbcjimbaaSt
namespace Go.Proofs.Ytdgdhegbcjimbaa
open Go.RowKit Go.Fm Go.BigFrame
set_option linter.unusedVariables false
set_option linter.unusedSimpArgs false

theorem strAdd (w : World) (a b : ByteArray) (h : a.size + b.size ≤ 1000000000) : (binOp .add 9 (.string a) (.string b)).run Try.prog w = .ok (.string (a ++ b)) w := by
  simp [binOp, run_string_add_sum w a b (by omega)]
def entB (k : Key) (a tm : Int) : Bool := mayB k && withinB a (-1) && withinB tm 0
def keyS (k : Key) : ByteArray := textS k.g ++ textS k.t ++ putS k.i
/-- A commit as a record. -/
def entR (k : Key) (a tm : Int) : Rec := { at' := 0, tm := tm, bare := false, key := keyS k, gone := decide (a = -1), val := if a = -1 then ByteArray.empty else putS a, hs := [] }
def zRec : Rec := { at' := 0, tm := 0, bare := false, key := ByteArray.empty, gone := false, val := ByteArray.empty, hs := [] }
abbrev zrec : Array Value := #[.int .i64 0, .int .i64 0, .bool false, .string ⟨#[]⟩, .bool false, .string ⟨#[]⟩, .slice none 0 0]
def entS (k : Key) (a tm : Int) : Rec × Int := if entB k a tm = true then (entR k a tm, 0) else (zRec, 1)
set_option maxRecDepth 100000 in
set_option maxHeartbeats 8000000 in
theorem entry_yes (k : Key) (a tm : Int) (w : World) (h1 : mayB k = true) (h2 : withinB a (-1) = true) (h3 : withinB tm 0 = true) :
    Calls Try.prog 11 #[keyV k, .int .i64 a, .int .i64 tm] w fun e w' => e = .returned (.tuple #[recV (entR k a tm) (.slice none 0 0), .int .i64 0]) ∧ Fr (fun _ => False) w w' := by
  have hk := may_ok h1
  have hsz : k.g.size ≤ 100 ∧ k.t.size ≤ 100 := by
    simp [mayB, nameB] at h1; omega
  obtain ⟨hg, ht⟩ := hsz
  have ha : -1 ≤ a ∧ a ≤ 1099511627776 := by simpa [withinB] using h2
  obtain ⟨ha1, ha2⟩ := ha
  have hwf : (Lit.int .i64 a).wf = true := by simp [Lit.wf, IntKind.min, IntKind.max, IntKind.signed, IntKind.bits]; omega
  have s1 := textS_size (s := k.g) (by omega)
  have s2 := textS_size (s := k.t) (by omega)
  have s3 := putS_size hk.i
  have H1 := Lib.hid h1
  have H2 := Lib.hid h2
  have H3 := Lib.hid h3
  have HW := Lib.hid hwf
  have HI := Lib.hid hk.i
  clear h1 h2 h3 hk hwf
  unfold keyV recV entR
  go_enter Try.func11, Try.ntmps11
  go_wp2_with fail
  refine (may_walk k _ H1.out _).mono ?_
  rintro e w2 ⟨rfl, hf⟩
  have hf1 := ((Fr.same w).alloc (.cells #[.string k.g, .string k.t, .int .i64 k.i] 36)).alloc (.cells zrec 32)
  have b0 : w2.heap[w.heap.size]? = some (.cells #[.string k.g, .string k.t, .int .i64 k.i] 36 (0, 0)) := (hf.block _ (by simp; omega) fun h => h).trans ((heap_alloc_lt _ (by simp)).trans (heap_alloc_self w _))
  have b1 : w2.heap[w.heap.size + 1]? = some (.cells zrec 32 (0, 0)) := (hf.block _ (by simp) fun h => h).trans (by have := heap_alloc_self (w.alloc (.cells #[.string k.g, .string k.t, .int .i64 k.i] 36)) (.cells zrec 32); simpa using this)
  have F2 := Lib.hid (hf1.tr hf)
  have hw2 : w.heap.size + 2 ≤ w2.heap.size := by have := hf.size; simp at this; omega
  have B1 := Lib.hid b1
  clear hf hf1 b1
  go_wp2_with (go_at_call 20; first | ((with_reducible refine (within_walk _ _ _ H2.out _).mono ?_); rintro e w' ⟨rfl, rfl⟩) | ((with_reducible refine (within_walk _ _ _ H3.out _).mono ?_); rintro e w' ⟨rfl, rfl⟩))
  have fput : ∀ w1 (n : Int), (Lit.int .i64 n).wf = true → ∀ y : Lcl.InS (Fr (fun _ => False) w1), Calls Try.prog 22 #[.int .i64 n] y.w fun e w' => e = .returned (.string (putS n)) ∧ ∃ y : Lcl.InS (Fr (fun _ => False) w1), w' = y.w := fun w1 n hn y => quietly y (put_walk n _ hn)
  have ftext : ∀ w1 (t : ByteArray), t.size ≤ 1000000000 → ∀ y : Lcl.InS (Fr (fun _ => False) w1), Calls Try.prog 21 #[.string t] y.w fun e w' => e = .returned (.string (textS t)) ∧ ∃ y : Lcl.InS (Fr (fun _ => False) w1), w' = y.w := fun w1 t ht y => quietly y (text_walk t _ ht)
  have a1 := fun w => strAdd w (textS k.g) (textS k.t) (by omega)
  have a2 := fun w => strAdd w (textS k.g ++ textS k.t) (putS k.i) (by rw [ByteArray.size_append]; omega)
  refine Lcl.wp_region_alloc (afin := ?afin) (by kernel_rfl) (R := Fr fun _ => False) Fr.same (fun _ _ _ h k => h.tr k) [(false, [0, 1, 2, 3, 4, 5, 6, 7, 8, 9, 10, 11, 12, 13, 14])] 15 32 zrec rfl rfl rfl rfl (fun w => by kernel_rfl) (fun w => (Fr.same w).alloc _) #[0, 0, 2, 6, 0, 16, 48, 126, 254, 0, 512, 1536, 3838, 8190, 16383, 0, 65535] 1 #[true, true, true, true, true, true, true, true, true, true, true, true, true, true, true, true, false] (by kernel_rfl) (by kernel_rfl) (by kernel_rfl) (fun d c a v w h => by cases d <;> exact h) ?calls ?rest
  case calls =>
    intro w1 hw1
    have y0 : ∀ y : Lcl.InS (Fr (fun _ => False) w1), y.w.cell? ⟨w.heap.size, 0, none⟩ = some (.string k.g) := fun y => y.h.cel (hw1.cel ((cell_of b0 0).trans rfl))
    have y1 : ∀ y : Lcl.InS (Fr (fun _ => False) w1), y.w.cell? ⟨w.heap.size, 1, none⟩ = some (.string k.t) := fun y => y.h.cel (hw1.cel ((cell_of b0 1).trans rfl))
    have y2 : ∀ y : Lcl.InS (Fr (fun _ => False) w1), y.w.cell? ⟨w.heap.size, 2, none⟩ = some (.int .i64 k.i) := fun y => y.h.cel (hw1.cel ((cell_of b0 2).trans rfl))
    simp only [Lcl.opsOf, List.map_cons, List.map_nil, List.getElem?_toArray, List.getElem?_cons_succ, List.getElem?_cons_zero, Option.getD_some]
    refine Lcl.wpSegs_f ?_
    repeat (go_big_quiet_step (first | with_reducible rfl | exact ftext _ _ (by omega) _ | exact fput _ _ HI.out _))
    refine wpQuiet_nil ?_
    exact rfl
  case rest =>
    intro wx w3 hx hx3
    clear fput ftext a1 a2
    refine Lcl.wpG_run (needs := []) [16] _ _ _ (by kernel_rfl) ?_
    simp only [List.map_cons, List.map_nil, List.getElem?_toArray, List.getElem?_cons_succ, List.getElem?_cons_zero, Option.getD_some]
    dsimp only [Act.put]
    have hb3 : w3.heap[wx.heap.size]? = some (.cells zrec 32 (0, 0)) := (hx3.block _ (by simp) fun h => h).trans (heap_alloc_self wx _)
    have hf3 := (Fr.same w2).drew.tr (hx.tr (((Fr.same wx).alloc (.cells zrec 32)).tr hx3))
    have hsz3 : w2.heap.size ≤ wx.heap.size := hx.size
    refine wpList_store_all rfl 32 (.tmp 8) (.tmp 37) rfl wx.heap.size rfl 32 zrec (.agg #[.int .i64 0, .int .i64 tm, .bool false, .string (textS k.g ++ textS k.t ++ putS k.i), .bool false, .string ⟨#[]⟩, .slice none 0 0]) rfl hb3 rfl (by kernel_rfl) rfl ?_
    intro w4 hb4 hg4
    dsimp only [Value.cells] at hb4
    have hf4 : Fr (fun _ => False) w2 w4 := hf3.grown hg4 fun i e => by cases e; exact .inr hsz3
    have F4 := Lib.hid hf4
    have B4 := Lib.hid hb4
    have hb41 : w4.heap[w.heap.size + 1]? = some (.cells zrec 32 (0, 0)) := (hf4.block _ (by omega) fun h => h).trans B1.out
    have B41 := Lib.hid hb41
    obtain ⟨b, hb⟩ : ∃ b, b = wx.heap.size := ⟨_, rfl⟩
    rw [← hb] at B4 hsz3 ⊢
    have hne : b ≠ w.heap.size + 1 := by omega
    obtain ⟨ks, hks⟩ : ∃ ks, ks = textS k.g ++ textS k.t ++ putS k.i := ⟨_, rfl⟩
    rw [← hks] at B4 ⊢
    have KS := Lib.hid hks
    clear hb3 hf3 hg4 hf4 hx hx3 hb hb4 hb41 b0 s1 s2 s3 hg ht hks
    have c1 := cell_of B4.out 1
    have c2 := cell_of B4.out 2
    have c3 := cell_of B4.out 3
    have c4 := cell_of B4.out 4
    have c5 := cell_of B4.out 5
    have c6 := cell_of B4.out 6
    have c0 := cell_of B4.out 0
    have f4 := fz_of B4.out 4
    have f5 := fz_of B4.out 5
    simp at c0 c1 c2 c3 c4 c5 c6
    clear hw2
    by_cases h1 : a = -1
    · have ha : ((a : Int) == -1) = true := by simp [h1]
      have HH := Lib.hid h1
      clear h1
      go_wp2_with (with_reducible refine wpList_store_all rfl 32 (.tmp 6) (.tmp 47) rfl (w.heap.size + 1) rfl 32 zrec (.agg #[.int .i64 0, .int .i64 tm, .bool false, .string ks, .bool true, .string ⟨#[]⟩, .slice none 0 0]) rfl ?hg rfl (by kernel_rfl) rfl ?_)
      case hg => rw [heap_setCell_ne _ (Ne.symm hne)]; exact B41.out
      intro w6 hb6 hg6
      have hf6 : Fr (fun _ => False) w w6 := Fr.grown (F2.out.tr (F4.out.setCell (.inr hsz3) _)) hg6 fun i e => by cases e; exact .inr (by omega)
      have d0 := cell_of hb6 0
      have d1 := cell_of hb6 1
      have d2 := cell_of hb6 2
      have d3 := cell_of hb6 3
      have d4 := cell_of hb6 4
      have d5 := cell_of hb6 5
      have d6 := cell_of hb6 6
      simp at d0 d1 d2 d3 d4 d5 d6
      have F6 := Lib.hid hf6
      clear hb6 hg6 hf6 c0 c1 c2 c3 c4 c5 c6 f4 f5 ha
      have h1 := HH.out
      clear HH
      go_wp2_with fail
      refine bodyPost_ret (v := .tuple #[recV (entR k a tm) (.slice none 0 0), .int .i64 0]) (by
        have hks := KS.out
        have hks2 : keyS k = ks := by rw [hks]; rfl
        simp [results, Try.f11, go_sem, recV, entR, hks2, h1, d0, d1, d2, d3, d4, d5, d6]; rfl) rfl ⟨by simp [recV, entR, h1], F6.out⟩
    · have ha : ((a : Int) == -1) = false := by simp [h1]
      have HH := Lib.hid h1
      clear h1
      go_wp2_with fail
      refine (put_walk _ _ HW.out).mono ?_
      rintro e w5 ⟨rfl, hf5⟩
      have hb5 : w5.heap[b]? = some (.cells #[.int .i64 0, .int .i64 tm, .bool false, .string ks, .bool false, .string ⟨#[]⟩, .slice none 0 0] 32 (0, 0)) :=
        (hf5.block b (by simp [World.setCell]; exact lt_of_heap B4.out) fun h => h).trans (heap_setCell_self B4.out _)
      have hb51 : w5.heap[w.heap.size + 1]? = some (.cells zrec 32 (0, 0)) := (hf5.block _ (by simp [World.setCell]; exact lt_of_heap B41.out) fun h => h).trans ((heap_setCell_ne _ (Ne.symm hne) _).trans B41.out)
      have hff := (F4.out.setCell (p := ⟨b, 4, none⟩) (.inr hsz3) (.bool false)).tr hf5
      have FF := Lib.hid hff
      have B5 := Lib.hid hb5
      have B51 := Lib.hid hb51
      clear hf5 hb5 hb51 hff c0 c1 c2 c3 c4 c5 c6 f4 f5
      have c1 := cell_of B5.out 1
      have c2 := cell_of B5.out 2
      have c3 := cell_of B5.out 3
      have c4 := cell_of B5.out 4
      have c5 := cell_of B5.out 5
      have c6 := cell_of B5.out 6
      have c0 := cell_of B5.out 0
      have f5 := fz_of B5.out 5
      simp at c0 c1 c2 c3 c4 c5 c6
      go_wp2_with (with_reducible refine wpList_store_all rfl 32 (.tmp 6) (.tmp 47) rfl (w.heap.size + 1) rfl 32 zrec (.agg #[.int .i64 0, .int .i64 tm, .bool false, .string ks, .bool false, .string (putS a), .slice none 0 0]) rfl ?hg rfl (by kernel_rfl) rfl ?_)
      case hg => rw [heap_setCell_ne _ (Ne.symm hne)]; exact B51.out
      intro w6 hb6 hg6
      have hf6 : Fr (fun _ => False) w w6 := Fr.grown (F2.out.tr (FF.out.setCell (.inr hsz3) _)) hg6 fun i e => by cases e; exact .inr (by omega)
      have d0 := cell_of hb6 0
      have d1 := cell_of hb6 1
      have d2 := cell_of hb6 2
      have d3 := cell_of hb6 3
      have d4 := cell_of hb6 4
      have d5 := cell_of hb6 5
      have d6 := cell_of hb6 6
      simp at d0 d1 d2 d3 d4 d5 d6
      have F6 := Lib.hid hf6
      clear hb6 hg6 hf6 c0 c1 c2 c3 c4 c5 c6 f5 ha
      have h1 := HH.out
      clear HH
      go_wp2_with fail
      refine bodyPost_ret (v := .tuple #[recV (entR k a tm) (.slice none 0 0), .int .i64 0]) (by
        have hks := KS.out
        have hks2 : keyS k = ks := by rw [hks]; rfl
        simp [results, Try.f11, go_sem, recV, entR, hks2, h1, d0, d1, d2, d3, d4, d5, d6]) rfl ⟨by simp [recV, entR, h1], F6.out⟩
set_option maxRecDepth 100000 in
set_option maxHeartbeats 4000000 in
theorem entry_no (k : Key) (a tm : Int) (w : World) (h : entB k a tm = false) :
    Calls Try.prog 11 #[keyV k, .int .i64 a, .int .i64 tm] w fun e w' => e = .returned (.tuple #[recV zRec (.slice none 0 0), .int .i64 1]) ∧ Fr (fun _ => False) w w' := by
  unfold keyV
  cases h1 : mayB k with
  | false =>
    have HM := Lib.hid h1
    clear h h1
    go_enter Try.func11, Try.ntmps11
    go_wp2_with fail
    refine (may_walk k _ HM.out _).mono ?_
    rintro e w2 ⟨rfl, hf⟩
    have b1 : w2.heap[w.heap.size + 1]? = some (.cells zrec 32 (0, 0)) := (hf.block _ (by simp) fun h => h).trans (by have := heap_alloc_self (w.alloc (.cells #[.string k.g, .string k.t, .int .i64 k.i] 36)) (.cells zrec 32); simpa using this)
    have F2 := Lib.hid ((((Fr.same w).alloc (.cells #[.string k.g, .string k.t, .int .i64 k.i] 36)).alloc (.cells zrec 32)).tr hf)
    have B1 := Lib.hid b1
    clear hf b1
    go_wp2_with ((with_reducible refine wpList_store_all rfl 32 (.tmp 6) (.tmp 22) rfl (w.heap.size + 1) rfl 32 zrec (.agg zrec) rfl B1.out rfl (by kernel_rfl) rfl ?_))
    intro w6 hb6 hg6
    have hf6 : Fr (fun _ => False) w w6 := F2.out.grown hg6 fun i e => by cases e; exact .inr (by omega)
    have d0 := cell_of hb6 0
    have d1 := cell_of hb6 1
    have d2 := cell_of hb6 2
    have d3 := cell_of hb6 3
    have d4 := cell_of hb6 4
    have d5 := cell_of hb6 5
    have d6 := cell_of hb6 6
    simp [Value.cells] at d0 d1 d2 d3 d4 d5 d6
    have F6 := Lib.hid hf6
    clear hb6 hg6 hf6
    go_wp2_with fail
    refine bodyPost_ret (v := .tuple #[recV zRec (.slice none 0 0), .int .i64 1]) (by
      simp [results, Try.f11, go_sem, recV, zRec, d0, d1, d2, d3, d4, d5, d6]; rfl) rfl ⟨rfl, F6.out⟩
  | true =>
    cases h2 : withinB a (-1) with
    | false =>
      have HM := Lib.hid h1
      have HA := Lib.hid h2
      clear h h1 h2
      go_enter Try.func11, Try.ntmps11
      go_wp2_with fail
      refine (may_walk k _ HM.out _).mono ?_
      rintro e w2 ⟨rfl, hf⟩
      have b1 : w2.heap[w.heap.size + 1]? = some (.cells zrec 32 (0, 0)) := (hf.block _ (by simp) fun h => h).trans (by have := heap_alloc_self (w.alloc (.cells #[.string k.g, .string k.t, .int .i64 k.i] 36)) (.cells zrec 32); simpa using this)
      have F2 := Lib.hid ((((Fr.same w).alloc (.cells #[.string k.g, .string k.t, .int .i64 k.i] 36)).alloc (.cells zrec 32)).tr hf)
      have B1 := Lib.hid b1
      clear hf b1
      go_wp2_with (first | (with_reducible refine wpList_store_all rfl 32 (.tmp 6) (.tmp 22) rfl (w.heap.size + 1) rfl 32 zrec (.agg zrec) rfl B1.out rfl (by kernel_rfl) rfl ?_) | (go_at_call 20; ((with_reducible refine (within_walk _ _ _ HA.out _).mono ?_); rintro e w' ⟨rfl, rfl⟩)))
      intro w6 hb6 hg6
      have hf6 : Fr (fun _ => False) w w6 := F2.out.grown hg6 fun i e => by cases e; exact .inr (by omega)
      have d0 := cell_of hb6 0
      have d1 := cell_of hb6 1
      have d2 := cell_of hb6 2
      have d3 := cell_of hb6 3
      have d4 := cell_of hb6 4
      have d5 := cell_of hb6 5
      have d6 := cell_of hb6 6
      simp [Value.cells] at d0 d1 d2 d3 d4 d5 d6
      have F6 := Lib.hid hf6
      clear hb6 hg6 hf6
      go_wp2_with fail
      refine bodyPost_ret (v := .tuple #[recV zRec (.slice none 0 0), .int .i64 1]) (by
        simp [results, Try.f11, go_sem, recV, zRec, d0, d1, d2, d3, d4, d5, d6]; rfl) rfl ⟨rfl, F6.out⟩
    | true =>
      have h3 : withinB tm 0 = false := by simpa [entB, h1, h2] using h
      have HM := Lib.hid h1
      have HA := Lib.hid h2
      have HT := Lib.hid h3
      clear h h1 h2 h3
      go_enter Try.func11, Try.ntmps11
      go_wp2_with fail
      refine (may_walk k _ HM.out _).mono ?_
      rintro e w2 ⟨rfl, hf⟩
      have b1 : w2.heap[w.heap.size + 1]? = some (.cells zrec 32 (0, 0)) := (hf.block _ (by simp) fun h => h).trans (by have := heap_alloc_self (w.alloc (.cells #[.string k.g, .string k.t, .int .i64 k.i] 36)) (.cells zrec 32); simpa using this)
      have F2 := Lib.hid ((((Fr.same w).alloc (.cells #[.string k.g, .string k.t, .int .i64 k.i] 36)).alloc (.cells zrec 32)).tr hf)
      have B1 := Lib.hid b1
      clear hf b1
      go_wp2_with (first | (with_reducible refine wpList_store_all rfl 32 (.tmp 6) (.tmp 22) rfl (w.heap.size + 1) rfl 32 zrec (.agg zrec) rfl B1.out rfl (by kernel_rfl) rfl ?_) | (go_at_call 20; ((with_reducible refine (within_walk _ _ _ HA.out _).mono ?_); rintro e w' ⟨rfl, rfl⟩)) | (go_at_call 20; ((with_reducible refine (within_walk _ _ _ HT.out _).mono ?_); rintro e w' ⟨rfl, rfl⟩)))
      intro w6 hb6 hg6
      have hf6 : Fr (fun _ => False) w w6 := F2.out.grown hg6 fun i e => by cases e; exact .inr (by omega)
      have d0 := cell_of hb6 0
      have d1 := cell_of hb6 1
      have d2 := cell_of hb6 2
      have d3 := cell_of hb6 3
      have d4 := cell_of hb6 4
      have d5 := cell_of hb6 5
      have d6 := cell_of hb6 6
      simp [Value.cells] at d0 d1 d2 d3 d4 d5 d6
      have F6 := Lib.hid hf6
      clear hb6 hg6 hf6
      go_wp2_with fail
      refine bodyPost_ret (v := .tuple #[recV zRec (.slice none 0 0), .int .i64 1]) (by
        simp [results, Try.f11, go_sem, recV, zRec, d0, d1, d2, d3, d4, d5, d6]; rfl) rfl ⟨rfl, F6.out⟩
theorem entry_walk (k : Key) (a tm : Int) (w : World) : Calls Try.prog 11 #[keyV k, .int .i64 a, .int .i64 tm] w fun e w' => e = .returned (.tuple #[recV (entS k a tm).1 (.slice none 0 0), .int .i64 (entS k a tm).2]) ∧ Fr (fun _ => False) w w' := by
  unfold entS
  cases h : entB k a tm with
  | true =>
    simp only [if_true]
    simp [entB] at h
    exact entry_yes k a tm w h.1.1 h.1.2 h.2
  | false =>
    simp only [Bool.false_eq_true, if_false]
    exact entry_no k a tm w h
end Go.Proofs.Ytdgdhegbcjimbaa
