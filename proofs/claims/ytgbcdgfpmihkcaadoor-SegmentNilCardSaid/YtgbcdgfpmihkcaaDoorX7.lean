/- The reader of a record's numbers and texts: the walks. -/
import Derived.Test.YtgbcdgfpmihkcaaDoorX6
namespace Go.Proofs.YtgbcdgfpmihkcaaDoor
open Go.RowKit Go.Fm Go.BigFrame Go.Shelf
set_option linter.unusedVariables false
set_option linter.unusedSimpArgs false

/-- A reader in block b: its text, its place, its error. -/
def rdObj (s : ByteArray) (a e : Int) : Obj := .cells #[.string s, .int .i64 a, .int .i64 e] 133 (0, 0)
def rdNum (s : ByteArray) (a e : Int) : Int × Int × Int := if e = 0 then getS s a else (0, a, e)
def rdText (s : ByteArray) (a e : Int) : ByteArray × Int × Int := if e = 0 then takeS s a 1000 else (ByteArray.empty, a, e)
def rdWant (e : Int) (c : Bool) : Int := if e = 0 then (if c then 0 else 3) else e
def RdPost (b : Nat) (s : ByteArray) (w : World) (v : Value) (a e : Int) (x : Ending) (w' : World) : Prop := x = .returned v ∧ Fr (fun i => i = b) w w' ∧ w'.heap[b]? = some (rdObj s a e)
theorem rd_stores {w w1 : World} {b : Nat} {s : ByteArray} {a e : Int} (hf : Fr (fun _ => False) w w1) (h : w1.heap[b]? = some (rdObj s a e)) (a' e' : Int) :
    Fr (fun i => i = b) w ((w1.setCell ⟨b, 1, none⟩ (.int .i64 a')).setCell ⟨b, 2, none⟩ (.int .i64 e')) ∧
    ((w1.setCell ⟨b, 1, none⟩ (.int .i64 a')).setCell ⟨b, 2, none⟩ (.int .i64 e')).heap[b]? = some (rdObj s a' e') := by
  refine ⟨Fr.setCell (S := fun i => i = b) (p := ⟨b, 2, none⟩) (Fr.setCell (S := fun i => i = b) (p := ⟨b, 1, none⟩) (Fr.mono hf fun _ h => h.elim) (.inl rfl) _) (.inl rfl) _, ?_⟩
  rw [heap_setCell_self (heap_setCell_self h _)]
  rfl
set_option maxRecDepth 100000 in
set_option maxHeartbeats 8000000 in
theorem number_walk (b : Nat) (s : ByteArray) (a e : Int) (w : World) (hs : s.size ≤ maxLen) (h : w.heap[b]? = some (rdObj s a e)) :
    Calls Tryd.prog 72 #[.pointer (some ⟨b, 0, none⟩)] w (RdPost b s w (.int .i64 (rdNum s a e).1) (rdNum s a e).2.1 (rdNum s a e).2.2) := by
  have H := Lib.hid h
  have c0 : w.cell? ⟨b, 0, none⟩ = some (.string s) := (cell_of h 0).trans rfl
  have c1 : w.cell? ⟨b, 1, none⟩ = some (.int .i64 a) := (cell_of h 1).trans rfl
  have c2 : w.cell? ⟨b, 2, none⟩ = some (.int .i64 e) := (cell_of h 2).trans rfl
  have hg : rdNum s a e = if e = 0 then getS s a else (0, a, e) := rfl
  generalize hr : rdNum s a e = r at hg ⊢
  clear hr
  by_cases he : e = 0
  · subst he
    rw [if_pos rfl] at hg
    have HG := Lib.hid hg
    clear h hg
    go_enter Tryd.func72, Tryd.ntmps72
    go_wp2_with fail
    clear c0 c1 c2
    have x0 : ∀ y : Lcl.InS (fun w' => Fr (fun _ => False) w w'), y.w.cell? ⟨b, 0, none⟩ = some (.string s) := fun y => y.h.cel ((cell_of H.out 0).trans rfl)
    have x1 : ∀ y : Lcl.InS (fun w' => Fr (fun _ => False) w w'), y.w.cell? ⟨b, 1, none⟩ = some (.int .i64 a) := fun y => y.h.cel ((cell_of H.out 1).trans rfl)
    have fget : ∀ y : Lcl.InS (fun w' => Fr (fun _ => False) w w'), Calls Tryd.prog 58 #[.string s, .int .i64 a] y.w fun e w' => e = .returned (.tuple #[.int .i64 r.1, .int .i64 r.2.1, .int .i64 r.2.2]) ∧ ∃ y : Lcl.InS (fun w' => Fr (fun _ => False) w w'), w' = y.w := fun y => (gets_walk s a _ hs).mono fun e w' ⟨h1, h2⟩ => ⟨by rw [HG.out]; exact h1, ⟨y, h2.symm⟩⟩
    refine Lcl.wp_region_part (C := fun w' => ∃ y : Lcl.InS (fun w' => Fr (fun _ => False) w w'), w' = y.w) (by kernel_rfl) [(true, [0, 1]), (false, [2, 3, 4, 5, 6, 7, 8, 9, 10, 11, 12]), (true, [13, 14])] #[0, 0, 0, 4, 12, 28, 0, 64, 192, 448, 1020, 2044, 4092, 4092, 4092, 8188, 49149, 114685, 245757, 524287, 1048575, 2097151] 7 #[true, true, true, true, true, true, true, true, true, true, true, true, true, true, true, false, false, false, false, false, false, false] (by kernel_rfl) (by kernel_rfl) (by kernel_rfl) ⟨⟨w.drew, (Fr.same w).drew⟩, rfl⟩ (fun d c a v w h => by cases d <;> exact h) ?_
    simp only [Lcl.opsOf, List.map_cons, List.map_nil, List.getElem?_toArray, List.getElem?_cons_succ, List.getElem?_cons_zero, Option.getD_some]
    refine Lcl.wpSegs_t ?_
    repeat (go_big_quiet_step (with_reducible rfl))
    refine wpQuiet_nil ?_
    refine Lcl.wpSegs_f ?_
    repeat (go_big_quiet_step (first | with_reducible rfl | exact fget _))
    refine wpQuiet_nil ?_
    refine Lcl.wpSegs_t ?_
    repeat (go_big_quiet_step (with_reducible rfl))
    refine wpQuiet_nil ?_
    refine Lcl.wpSegs_nil ?_
    rintro _ ⟨y, rfl⟩
    clear fget x0 x1
    refine Lcl.wpAny_of_G (S := fun _ => True) (need := fun j => ([] : List Nat).contains j) _ _ _ _ ?_
    refine Lcl.wpG_run (needs := []) [15, 16, 17, 18, 19, 20, 21] _ _ _ (by kernel_rfl) ?_
    simp only [List.map_cons, List.map_nil, List.getElem?_toArray, List.getElem?_cons_succ, List.getElem?_cons_zero, Option.getD_some]
    have hy := (y.h.block _ (lt_of_heap H.out) fun h => h).trans H.out
    have hf := y.h
    generalize y.w = wy at *
    clear y
    have HF := Lib.hid (rd_stores hf hy r.2.1 r.2.2)
    have d0 : wy.cell? ⟨b, 0, none⟩ = some (.string s) := (cell_of hy 0).trans rfl
    have d1 : wy.cell? ⟨b, 1, none⟩ = some (.int .i64 a) := (cell_of hy 1).trans rfl
    have d2 : wy.cell? ⟨b, 2, none⟩ = some (.int .i64 0) := (cell_of hy 2).trans rfl
    have f1 := fz_of hy 1
    have f2 := fz_of hy 2
    clear hf hy
    go_wp2_with fail
    go_ret
    exact ⟨rfl, HF.out⟩
  · rw [if_neg he] at hg
    have HG := Lib.hid hg
    have he' : (e == 0) = false := by simpa using he
    clear h hg
    go_enter Tryd.func72, Tryd.ntmps72
    go_wp2_with fail
    go_ret
    exact ⟨by rw [HG.out]; rfl, Fr.refl _ _, by rw [HG.out]; exact H.out⟩
set_option maxRecDepth 100000 in
set_option maxHeartbeats 8000000 in
theorem rtext_walk (b : Nat) (s : ByteArray) (a e : Int) (w : World) (hs : s.size ≤ maxLen) (h : w.heap[b]? = some (rdObj s a e)) :
    Calls Tryd.prog 73 #[.pointer (some ⟨b, 0, none⟩)] w (RdPost b s w (.string (rdText s a e).1) (rdText s a e).2.1 (rdText s a e).2.2) := by
  have H := Lib.hid h
  have c0 : w.cell? ⟨b, 0, none⟩ = some (.string s) := (cell_of h 0).trans rfl
  have c1 : w.cell? ⟨b, 1, none⟩ = some (.int .i64 a) := (cell_of h 1).trans rfl
  have c2 : w.cell? ⟨b, 2, none⟩ = some (.int .i64 e) := (cell_of h 2).trans rfl
  have hg : rdText s a e = if e = 0 then takeS s a 1000 else (ByteArray.empty, a, e) := rfl
  generalize hr : rdText s a e = r at hg ⊢
  clear hr
  by_cases he : e = 0
  · subst he
    rw [if_pos rfl] at hg
    have HG := Lib.hid hg
    clear h hg
    go_enter Tryd.func73, Tryd.ntmps73
    go_wp2_with fail
    clear c0 c1 c2
    have x0 : ∀ y : Lcl.InS (fun w' => Fr (fun _ => False) w w'), y.w.cell? ⟨b, 0, none⟩ = some (.string s) := fun y => y.h.cel ((cell_of H.out 0).trans rfl)
    have x1 : ∀ y : Lcl.InS (fun w' => Fr (fun _ => False) w w'), y.w.cell? ⟨b, 1, none⟩ = some (.int .i64 a) := fun y => y.h.cel ((cell_of H.out 1).trans rfl)
    have fget : ∀ y : Lcl.InS (fun w' => Fr (fun _ => False) w w'), Calls Tryd.prog 90 #[.string s, .int .i64 a, .int .i64 1000] y.w fun e w' => e = .returned (.tuple #[.string r.1, .int .i64 r.2.1, .int .i64 r.2.2]) ∧ ∃ y : Lcl.InS (fun w' => Fr (fun _ => False) w w'), w' = y.w := fun y => (takes_walk s a 1000 _ hs).mono fun e w' ⟨h1, h2⟩ => ⟨by rw [HG.out]; exact h1, ⟨y, h2.symm⟩⟩
    refine Lcl.wp_region_part (C := fun w' => ∃ y : Lcl.InS (fun w' => Fr (fun _ => False) w w'), w' = y.w) (by kernel_rfl) [(true, [0, 1]), (false, [2, 3, 4, 5, 6, 7, 8, 9, 10, 11, 12]), (true, [13, 14])] #[0, 0, 0, 4, 12, 28, 0, 64, 192, 448, 1020, 2044, 4092, 4092, 4092, 8188, 49149, 114685, 245757, 524287, 1048575, 2097151] 7 #[true, true, true, true, true, true, true, true, true, true, true, true, true, true, true, false, false, false, false, false, false, false] (by kernel_rfl) (by kernel_rfl) (by kernel_rfl) ⟨⟨w.drew, (Fr.same w).drew⟩, rfl⟩ (fun d c a v w h => by cases d <;> exact h) ?_
    simp only [Lcl.opsOf, List.map_cons, List.map_nil, List.getElem?_toArray, List.getElem?_cons_succ, List.getElem?_cons_zero, Option.getD_some]
    refine Lcl.wpSegs_t ?_
    repeat (go_big_quiet_step (with_reducible rfl))
    refine wpQuiet_nil ?_
    refine Lcl.wpSegs_f ?_
    repeat (go_big_quiet_step (first | with_reducible rfl | exact fget _))
    refine wpQuiet_nil ?_
    refine Lcl.wpSegs_t ?_
    repeat (go_big_quiet_step (with_reducible rfl))
    refine wpQuiet_nil ?_
    refine Lcl.wpSegs_nil ?_
    rintro _ ⟨y, rfl⟩
    clear fget x0 x1
    refine Lcl.wpAny_of_G (S := fun _ => True) (need := fun j => ([] : List Nat).contains j) _ _ _ _ ?_
    refine Lcl.wpG_run (needs := []) [15, 16, 17, 18, 19, 20, 21] _ _ _ (by kernel_rfl) ?_
    simp only [List.map_cons, List.map_nil, List.getElem?_toArray, List.getElem?_cons_succ, List.getElem?_cons_zero, Option.getD_some]
    have hy := (y.h.block _ (lt_of_heap H.out) fun h => h).trans H.out
    have hf := y.h
    generalize y.w = wy at *
    clear y
    have HF := Lib.hid (rd_stores hf hy r.2.1 r.2.2)
    have d0 : wy.cell? ⟨b, 0, none⟩ = some (.string s) := (cell_of hy 0).trans rfl
    have d1 : wy.cell? ⟨b, 1, none⟩ = some (.int .i64 a) := (cell_of hy 1).trans rfl
    have d2 : wy.cell? ⟨b, 2, none⟩ = some (.int .i64 0) := (cell_of hy 2).trans rfl
    have f1 := fz_of hy 1
    have f2 := fz_of hy 2
    clear hf hy
    go_wp2_with fail
    go_ret
    exact ⟨rfl, HF.out⟩
  · rw [if_neg he] at hg
    have HG := Lib.hid hg
    have he' : (e == 0) = false := by simpa using he
    clear h hg
    go_enter Tryd.func73, Tryd.ntmps73
    go_wp2_with fail
    go_ret
    exact ⟨by rw [HG.out]; rfl, Fr.refl _ _, by rw [HG.out]; exact H.out⟩
set_option maxHeartbeats 1000000 in
theorem want_walk (b : Nat) (s : ByteArray) (a e : Int) (c : Bool) (w : World) (h : w.heap[b]? = some (rdObj s a e)) :
    Calls Tryd.prog 74 #[.pointer (some ⟨b, 0, none⟩), .bool c] w fun x w' => x = .returned (.tuple #[]) ∧ Fr (fun i => i = b) w w' ∧ w'.heap[b]? = some (rdObj s a (rdWant e c)) := by
  have H := Lib.hid h
  have c2 : w.cell? ⟨b, 2, none⟩ = some (.int .i64 e) := (cell_of h 2).trans rfl
  have f2 := fz_of h 2
  have HF : Hid (Fr (fun i => i = b) w (w.setCell ⟨b, 2, none⟩ (.int .i64 3)) ∧ (w.setCell ⟨b, 2, none⟩ (.int .i64 3)).heap[b]? = some (rdObj s a 3)) := by
    refine Lib.hid ⟨Fr.setCell (S := fun i => i = b) (p := ⟨b, 2, none⟩) (Fr.refl _ w) (.inl rfl) _, ?_⟩
    rw [heap_setCell_self h]
    rfl
  clear h
  by_cases he : e = 0
  · subst he
    cases c with
    | true =>
      go_enter Tryd.func74, Tryd.ntmps74
      go_wp2_with fail
      go_end0
      exact ⟨rfl, Fr.refl _ _, H.out⟩
    | false =>
      go_enter Tryd.func74, Tryd.ntmps74
      go_wp2_with fail
      go_end0
      exact ⟨rfl, HF.out⟩
  · have he' : (e == 0) = false := by simpa using he
    have HE : Hid (rdWant e c = e) := Lib.hid (by unfold rdWant; rw [if_neg he])
    go_enter Tryd.func74, Tryd.ntmps74
    go_wp2_with fail
    go_end0
    exact ⟨rfl, Fr.refl _ _, by rw [HE.out]; exact H.out⟩
end Go.Proofs.YtgbcdgfpmihkcaaDoor
