/- Requests as bytes: what the writer keeps; want, number. -/
import Derived.Test.YtfdhofabgdkkkaaGreatDoorQ18
namespace Go.Proofs.YtfdhofabgdkkkaaGreatDoor
open Go.RowKit Go.Fm Go.BigFrame Go.Shelf Go.Maps
set_option linter.unusedVariables false
set_option linter.unusedSimpArgs false
set_option maxRecDepth 100000
theorem len_wfX {n : Nat} (h : n ≤ 1000000000000000000) : (Lit.int .i64 (n : Int)).wf = true := by
 simp [Lit.wf, IntKind.min, IntKind.max, IntKind.signed, IntKind.bits]; omega
theorem textS_sizeX {s : ByteArray} (h : s.size ≤ 1000000000000000000) : (textS s).size ≤ 10 + s.size := by
 have := putS_size (len_wfX h)
 unfold textS
 rw [ByteArray.size_append]
 omega
set_option maxHeartbeats 4000000 in
theorem text_walkX (s : ByteArray) (w : World) (hs : s.size ≤ 1000000000000000000) :
  Calls Tryz.prog 186 #[.string s] w fun e w' => e = .returned (.string (textS s)) ∧ Fr (fun _ => False) w w' := by
 have hp := putS_size (len_wfX hs)
 go_enter Tryz.func186, Tryz.ntmps186
 go_wp2_with fail
 refine (put_walk _ _ (len_wfX hs)).mono ?_
 rintro e w2 ⟨rfl, hf⟩
 go_wp2_with fail
 go_ret
 exact ⟨rfl, hf⟩
section
variable {w w' : World} {cb : Nat} {s : ByteArray} {bad : Bool} {S : Nat → Prop}
/-- What the writer keeps: the bytes, and whether something may not be. -/
def CodA (w : World) (cb : Nat) (s : ByteArray) (bad : Bool) : Prop := w.heap[cb]? = some (.cells #[.string s, .int .i64 0, .bool false, .bool bad] 221 (0, 0))
theorem CodA.fr (h : CodA w cb s bad) (hf : Fr S w w') (h1 : ¬ S cb) : CodA w' cb s bad := (hf.block cb (lt_of_heap h) h1).trans h
theorem CodA.old (h : CodA w cb s bad) (hf : Fr (fun _ => False) w w') : CodA w' cb s bad := h.fr hf fun h => h
theorem CodA.setBad (h : CodA w cb s bad) (b : Bool) : CodA (w.setCell ⟨cb, 3, none⟩ (.bool b)) cb s b := (heap_setCell_self h _).trans rfl
theorem CodA.setStr (h : CodA w cb s bad) (t : ByteArray) : CodA (w.setCell ⟨cb, 0, none⟩ (.string t)) cb t bad := (heap_setCell_self h _).trans rfl
def CodPost (w : World) (cb : Nat) (s : ByteArray) (bad : Bool) (e : Ending) (w' : World) : Prop := e = .returned (.tuple #[]) ∧ CodA w' cb s bad ∧ Fr (fun i => i = cb) w w'
theorem cwant_walk (h : CodA w cb s bad) (c : Bool) : Calls Tryz.prog 184 #[.pointer (some ⟨cb, 0, none⟩), .bool c] w (CodPost w cb s (bad || !c)) := by
 have dd := fun j => cell_of h j
 have fz := fun j => fz_of h j
 have H := Lib.hid (h.setBad (bad || !c))
 have F := Lib.hid ((Fr.refl (fun i => i = cb) w).setCell (p := ⟨cb, 3, none⟩) (.inl rfl) (.bool (bad || !c)))
 clear h
 cases bad <;> cases c
 all_goals
  go_enter Tryz.func184, Tryz.ntmps184
  go_wp2_with fail
  go_end0
  exact ⟨rfl, H.out, F.out⟩
def okN (n lo hi : Int) : Bool := decide (lo ≤ n ∧ n ≤ hi)
set_option maxHeartbeats 16000000 in
theorem cnumber_walk (h : CodA w cb s bad) (p : Addr) (n lo hi : Int) (hn : (Lit.int .i64 n).wf = true) (hp : w.cell? p = some (.int .i64 n)) (hne : p.block ≠ cb) (hs : s.size ≤ 2000000000000000) :
  Calls Tryz.prog 118 #[.pointer (some ⟨cb, 0, none⟩), .pointer (some p), .int .i64 lo, .int .i64 hi] w (CodPost w cb (s ++ putS n) (bad || !okN n lo hi)) := by
 have dd := fun j => cell_of h j
 have H := Lib.hid h
 have HP := Lib.hid hp
 have HPS := Lib.hid (putS_size hn)
 have z0 : ∀ y : Lcl.InS (fun w' => Fr (fun _ => False) w w'), y.w.cell? ⟨cb, 0, none⟩ = some (.string s) := fun y => y.h.cel ((cell_of H.out 0).trans rfl)
 have z1 : ∀ y : Lcl.InS (fun w' => Fr (fun _ => False) w w'), y.w.cell? p = some (.int .i64 n) := fun y => y.h.cel HP.out
 clear h hp
 go_enter Tryz.func118, Tryz.ntmps118
 go_wp2_with fail
 refine Lcl.wp_region_calm (by kernel_rfl) [(true, [0, 1, 2, 4, 5]), (false, [3, 6])] #[0, 1, 3, 7, 0, 16, 48, 112, 255, 511, 1023, 2047] [0, 1, 2, 3, 4, 5, 6, 7] 5 #[true, true, true, true, true, true, true, false, false, false, false, false] (by kernel_rfl) (by kernel_rfl) (by kernel_rfl) (fun w' => Fr (fun _ => False) w w') (Fr.same w).drew (fun d c a v w h => by cases d <;> exact h) ?_
 simp only [Lcl.opsOf, List.map_cons, List.map_nil, List.getElem?_toArray, List.getElem?_cons_succ, List.getElem?_cons_zero, Option.getD_some]
 refine Lcl.wpCalm_t ?_
 repeat (go_big_quiet_step (rfl))
 refine wpQuiet_nil ?_
 refine Lcl.wpCalm_f ?_
 repeat (go_big_quiet_step (rfl))
 refine wpQuiet_nil ?_
 refine Lcl.wpCalm_nil ?_
 have F1 := Lib.hid (Fr.same w).drew
 have H1 := Lib.hid (H.out.old F1.out)
 have P1 := Lib.hid (F1.out.cel HP.out)
 clear z0 z1 dd
 generalize w.drew = w1 at *
 refine Lcl.wpG_one 7 rfl (by kernel_rfl) ?_
 go_wp2_with fail
 refine (put_walk n w1 hn).mono ?_
 rintro e w2 ⟨rfl, hf2⟩
 have F2 := Lib.hid (F1.out.tr hf2)
 have H2 := Lib.hid (H1.out.old hf2)
 have P2 := Lib.hid (hf2.cel P1.out)
 clear hf2 H1 P1 F1
 go_wp2_with fail
 refine ⟨fun _ _ => F2.out, ?_⟩
 refine Lcl.wpG_run [8, 9, 10, 11] _ _ _ (by kernel_rfl) ?_
 simp only [List.map_cons, List.map_nil, List.getElem?_toArray, List.getElem?_cons_succ, List.getElem?_cons_zero, Option.getD_some]
 have hps := HPS.out
 have dd := fun j => cell_of H2.out j
 have fz := fun j => fz_of H2.out j
 have hF3 : Fr (fun i => i = cb) w2 (w2.setCell ⟨cb, 0, none⟩ (.string (s ++ putS n))) := (Fr.refl (fun i => i = cb) w2).setCell (p := ⟨cb, 0, none⟩) (.inl rfl) _
 have F3 := Lib.hid ((F2.out.mono (S' := fun i => i = cb) fun _ h => h.elim).trans hF3 fun _ h => .inl h)
 have H3 := Lib.hid (H2.out.setStr (s ++ putS n))
 have p3 : (w2.setCell ⟨cb, 0, none⟩ (.string (s ++ putS n))).cell? p = some (.int .i64 n) := hF3.cell P2.out hne
 have W := Lib.hid (cwant_walk H3.out (okN n lo hi))
 clear hF3
 by_cases h1 : lo ≤ n
 ·by_cases h2 : n ≤ hi
  ·have OK := Lib.hid (show okN n lo hi = true from decide_eq_true ⟨h1, h2⟩)
   rw [OK.out] at W
   go_wp2_with fail
   refine W.out.mono ?_
   rintro e w4 ⟨rfl, h4, f4⟩
   have H4 := Lib.hid h4
   have F4 := Lib.hid f4
   clear h4 f4
   go_wp2_with fail
   go_end0
   rw [OK.out]
   exact ⟨rfl, H4.out, F3.out.trans F4.out fun _ h => .inl h⟩
  ·have OK := Lib.hid (show okN n lo hi = false from decide_eq_false fun x => h2 x.2)
   rw [OK.out] at W
   have d2 : decide (n ≤ hi) = false := decide_eq_false h2
   go_wp2_with fail
   refine W.out.mono ?_
   rintro e w4 ⟨rfl, h4, f4⟩
   have H4 := Lib.hid h4
   have F4 := Lib.hid f4
   clear h4 f4
   go_wp2_with fail
   go_end0
   rw [OK.out]
   exact ⟨rfl, H4.out, F3.out.trans F4.out fun _ h => .inl h⟩
 ·have OK := Lib.hid (show okN n lo hi = false from decide_eq_false fun x => h1 x.1)
  rw [OK.out] at W
  go_wp2_with fail
  refine W.out.mono ?_
  rintro e w4 ⟨rfl, h4, f4⟩
  have H4 := Lib.hid h4
  have F4 := Lib.hid f4
  clear h4 f4
  go_wp2_with fail
  go_end0
  rw [OK.out]
  exact ⟨rfl, H4.out, F3.out.trans F4.out fun _ h => .inl h⟩
end
end Go.Proofs.YtfdhofabgdkkkaaGreatDoor
/- Requests as bytes: text, flag, plain. -/
namespace Go.Proofs.YtfdhofabgdkkkaaGreatDoor
open Go.RowKit Go.Fm Go.BigFrame Go.Shelf Go.Maps
set_option linter.unusedVariables false
set_option linter.unusedSimpArgs false
set_option maxRecDepth 100000
section
variable {w w' : World} {cb : Nat} {s : ByteArray} {bad : Bool} {S : Nat → Prop}
theorem setSame {arr : Array Value} {j : Nat} {v : Value} (h : arr[j]? = some v) : arr.setIfInBounds j v = arr := by
 apply Array.ext_getElem?
 intro i
 rw [Array.getElem?_setIfInBounds]
 split
 ·rename_i e
  subst e
  rw [h, if_pos (Array.getElem?_eq_some_iff.1 h).1]
 ·rfl
def okT (t : ByteArray) (most : Int) : Bool := decide ((t.size : Int) ≤ most)
set_option maxHeartbeats 16000000 in
theorem ctext_walk (h : CodA w cb s bad) (p : Addr) (t : ByteArray) (most : Int) (ht : t.size ≤ 2000000000000000) (hp : w.cell? p = some (.string t)) (hne : p.block ≠ cb) (hs : s.size ≤ 2000000000000000) :
  Calls Tryz.prog 119 #[.pointer (some ⟨cb, 0, none⟩), .pointer (some p), .int .i64 most] w (CodPost w cb (s ++ textS t) (bad || !okT t most)) := by
 have dd := fun j => cell_of h j
 have H := Lib.hid h
 have HP := Lib.hid hp
 have HPS := Lib.hid (textS_sizeX (s := t) (by omega))
 have W := Lib.hid (cwant_walk h (okT t most))
 unfold okT at W
 clear h
 go_enter Tryz.func119, Tryz.ntmps119
 go_wp2_with fail
 refine W.out.mono ?_
 rintro e w1 ⟨rfl, h1, f1⟩
 have H1 := Lib.hid h1
 have FX1 := Lib.hid f1
 have P1 := Lib.hid (f1.cell hp hne)
 clear h1 f1 hp dd W
 have z0 : ∀ y : Lcl.InS (fun w' => Fr (fun _ => False) w1 w'), y.w.cell? ⟨cb, 0, none⟩ = some (.string s) := fun y => y.h.cel ((cell_of H1.out 0).trans rfl)
 have z1 : ∀ y : Lcl.InS (fun w' => Fr (fun _ => False) w1 w'), y.w.cell? p = some (.string t) := fun y => y.h.cel P1.out
 go_wp2_with fail
 refine Lcl.wp_region_calm (by kernel_rfl) [(true, [0, 1, 2, 4, 5]), (false, [3, 6])] #[0, 1, 3, 7, 0, 16, 48, 112, 255, 511, 1023, 2047] [0, 1, 2, 3, 4, 5, 6, 7] 5 #[true, true, true, true, true, true, true, false, false, false, false, false] (by kernel_rfl) (by kernel_rfl) (by kernel_rfl) (fun w' => Fr (fun _ => False) w1 w') (Fr.same w1).drew (fun d c a v w h => by cases d <;> exact h) ?_
 simp only [Lcl.opsOf, List.map_cons, List.map_nil, List.getElem?_toArray, List.getElem?_cons_succ, List.getElem?_cons_zero, Option.getD_some]
 refine Lcl.wpCalm_t ?_
 repeat (go_big_quiet_step (rfl))
 refine wpQuiet_nil ?_
 refine Lcl.wpCalm_f ?_
 repeat (go_big_quiet_step (rfl))
 refine wpQuiet_nil ?_
 refine Lcl.wpCalm_nil ?_
 have F1 := Lib.hid (Fr.same w1).drew
 have H2 := Lib.hid (H1.out.old F1.out)
 clear z0 z1
 generalize w1.drew = w2 at *
 refine Lcl.wpG_one 7 rfl (by kernel_rfl) ?_
 go_wp2_with fail
 refine (text_walkX t w2 (by omega)).mono ?_
 rintro e w3 ⟨rfl, hf3⟩
 have F3 := Lib.hid (F1.out.tr hf3)
 have H3 := Lib.hid (H2.out.old hf3)
 clear hf3 H1 H2 F1
 go_wp2_with fail
 refine ⟨fun _ _ => F3.out, ?_⟩
 refine Lcl.wpG_run [8, 9, 10, 11] _ _ _ (by kernel_rfl) ?_
 simp only [List.map_cons, List.map_nil, List.getElem?_toArray, List.getElem?_cons_succ, List.getElem?_cons_zero, Option.getD_some]
 have hps := HPS.out
 have dd := fun j => cell_of H3.out j
 have fz := fun j => fz_of H3.out j
 have hF4 : Fr (fun i => i = cb) w3 (w3.setCell ⟨cb, 0, none⟩ (.string (s ++ textS t))) := (Fr.refl (fun i => i = cb) w3).setCell (p := ⟨cb, 0, none⟩) (.inl rfl) _
 have F4 := Lib.hid ((F3.out.mono (S' := fun i => i = cb) fun _ h => h.elim).trans hF4 fun _ h => .inl h)
 have H4 := Lib.hid (H3.out.setStr (s ++ textS t))
 clear hF4
 go_wp2_with fail
 go_end0
 exact ⟨rfl, H4.out, FX1.out.trans F4.out fun _ h => .inl h⟩
set_option maxHeartbeats 16000000 in
theorem cflag_walk (h : CodA w cb s bad) (xb j : Nat) (arr : Array Value) (t : TypeId) (v : Bool) (hx : w.heap[xb]? = some (.cells arr t (0, 0))) (hv : arr[j]? = some (.bool v)) (hne : xb ≠ cb) (hs : s.size ≤ 2000000000000000) :
  Calls Tryz.prog 121 #[.pointer (some ⟨cb, 0, none⟩), .pointer (some ⟨xb, j, none⟩)] w (CodPost w cb (s ++ putS (if v then 1 else 0)) bad) := by
 have hsz := lt_of_heap h
 have LX := Lib.hid (lt_of_heap hx)
 have HV := Lib.hid hv
 have f0 := (Fr.same w).alloc (.cells #[.int .i64 0] 3)
 have x0 := heap_alloc_self w (.cells #[.int .i64 0] 3)
 have cv := f0.cel ((cell_of hx j).trans hv)
 cases v
 ·show Calls Tryz.prog 121 #[.pointer (some ⟨cb, 0, none⟩), .pointer (some ⟨xb, j, none⟩)] w (CodPost w cb (s ++ putS 0) bad)
  have HX := Lib.hid ((f0.block _ (lt_of_heap hx) fun h => h).trans hx)
  have HW := Lib.hid (cnumber_walk (h.old f0) ⟨w.heap.size, 0, none⟩ 0 0 1 rfl ((cell_of x0 0).trans rfl) (by show w.heap.size ≠ cb; omega) hs)
  rw [show (bad || !okN 0 0 1) = bad by cases bad <;> rfl] at HW
  have X0 := Lib.hid x0
  have F0 := Lib.hid (f0.mono (S' := fun i => i = cb) fun _ h => h.elim)
  clear h hx x0 f0 hv
  go_enter Tryz.func121, Tryz.ntmps121
  go_wp2_with fail
  generalize (w.alloc (.cells #[.int .i64 0] 3)) = w0 at *
  refine HW.out.mono ?_
  rintro e w1 ⟨rfl, h1, f1⟩
  have H1 := Lib.hid h1
  have F1 := Lib.hid (F0.out.trans f1 fun _ h => .inl h)
  have X1 := Lib.hid ((f1.block _ (lt_of_heap X0.out) (by omega)).trans X0.out)
  have B1 := Lib.hid ((f1.block _ (lt_of_heap HX.out) hne).trans HX.out)
  clear h1 f1 HW cv
  have d0 : w1.cell? ⟨w.heap.size, 0, none⟩ = some (.int .i64 0) := (cell_of X1.out 0).trans rfl
  have d1 : w1.cell? ⟨xb, j, none⟩ = some (.bool false) := (cell_of B1.out j).trans HV.out
  have d2 := fz_of B1.out j
  have E1 := Lib.hid (show (w1.setCell ⟨xb, j, none⟩ (.bool false)).heap[xb]? = w1.heap[xb]? from (heap_setCell_self B1.out _).trans (by rw [B1.out, setSame HV.out]))
  have B1lt := lt_of_heap B1.out
  have X2 := Lib.hid (show CodA (w1.setCell ⟨xb, j, none⟩ (.bool false)) cb (s ++ putS 0) bad from (heap_setCell_ne w1 hne.symm _).trans H1.out)
  have F2 := Lib.hid (show Fr (fun i => i = cb) w (w1.setCell ⟨xb, j, none⟩ (.bool false)) from F1.out.trans (S' := fun _ => False) ⟨rfl, rfl, rfl, by simp [World.setCell], fun k hk _ => by
   by_cases e : k = xb
   ·subst e; exact E1.out
   ·exact heap_setCell_ne w1 e _⟩ fun _ h => h.elim)
  go_wp2_with fail
  go_end0
  exact ⟨rfl, X2.out, F2.out⟩
 ·show Calls Tryz.prog 121 #[.pointer (some ⟨cb, 0, none⟩), .pointer (some ⟨xb, j, none⟩)] w (CodPost w cb (s ++ putS 1) bad)
  have f1 := (Fr.same w).alloc (.cells #[.int .i64 1] 3)
  have x1 := heap_alloc_self w (.cells #[.int .i64 1] 3)
  have HX := Lib.hid ((f1.block _ (lt_of_heap hx) fun h => h).trans hx)
  have HW := Lib.hid (cnumber_walk (h.old f1) ⟨w.heap.size, 0, none⟩ 1 0 1 rfl ((cell_of x1 0).trans rfl) (by show w.heap.size ≠ cb; omega) hs)
  rw [show (bad || !okN 1 0 1) = bad by cases bad <;> rfl] at HW
  have X0 := Lib.hid x1
  have F0 := Lib.hid (f1.mono (S' := fun i => i = cb) fun _ h => h.elim)
  clear h hx x0 f0 hv x1 f1
  go_enter Tryz.func121, Tryz.ntmps121
  go_wp2_with fail
  generalize (w.alloc (.cells #[.int .i64 1] 3)) = w0 at *
  refine HW.out.mono ?_
  rintro e w1 ⟨rfl, h1, f1⟩
  have H1 := Lib.hid h1
  have F1 := Lib.hid (F0.out.trans f1 fun _ h => .inl h)
  have X1 := Lib.hid ((f1.block _ (lt_of_heap X0.out) (by omega)).trans X0.out)
  have B1 := Lib.hid ((f1.block _ (lt_of_heap HX.out) hne).trans HX.out)
  clear h1 f1 HW cv
  have d0 : w1.cell? ⟨w.heap.size, 0, none⟩ = some (.int .i64 1) := (cell_of X1.out 0).trans rfl
  have d1 : w1.cell? ⟨xb, j, none⟩ = some (.bool true) := (cell_of B1.out j).trans HV.out
  have d2 := fz_of B1.out j
  have E1 := Lib.hid (show (w1.setCell ⟨xb, j, none⟩ (.bool true)).heap[xb]? = w1.heap[xb]? from (heap_setCell_self B1.out _).trans (by rw [B1.out, setSame HV.out]))
  have B1lt := lt_of_heap B1.out
  have X2 := Lib.hid (show CodA (w1.setCell ⟨xb, j, none⟩ (.bool true)) cb (s ++ putS 1) bad from (heap_setCell_ne w1 hne.symm _).trans H1.out)
  have F2 := Lib.hid (show Fr (fun i => i = cb) w (w1.setCell ⟨xb, j, none⟩ (.bool true)) from F1.out.trans (S' := fun _ => False) ⟨rfl, rfl, rfl, by simp [World.setCell], fun k hk _ => by
   by_cases e : k = xb
   ·subst e; exact E1.out
   ·exact heap_setCell_ne w1 e _⟩ fun _ h => h.elim)
  go_wp2_with fail
  go_end0
  exact ⟨rfl, X2.out, F2.out⟩
/-- Numbers one behind another. -/
def plS (s : ByteArray) (l : List Int) : ByteArray := l.foldl (fun s n => s ++ putS n) s
def plB (bad : Bool) (l : List Int) : Bool := l.foldl (fun b n => b || !okN n (-1) 2199023255552) bad
theorem plS_size : ∀ (l : List Int) (s : ByteArray), (∀ n ∈ l, (Lit.int .i64 n).wf = true) → (plS s l).size ≤ s.size + 10 * l.length
 | [], s, _ => Nat.le_refl _
 | n :: l, s, h => by
  have h1 := putS_size (h n (List.mem_cons_self))
  have h2 := plS_size l (s ++ putS n) fun m hm => h m (List.mem_cons_of_mem _ hm)
  have h3 : plS s (n :: l) = plS (s ++ putS n) l := rfl
  rw [h3, List.length_cons]
  rw [ByteArray.size_append] at h2
  omega
theorem take_snoc {α : Type} {l : List α} {k : Nat} {x : α} (h : l[k]? = some x) : l.take (k + 1) = l.take k ++ [x] := by
 rw [List.take_add_one, h]; rfl
set_option maxHeartbeats 16000000 in
theorem cplain_walk (h : CodA w cb s bad) (a : Addr) (L : List (Addr × Int)) (hL : L.length ≤ 10) (hc : ∀ k x, L[k]? = some x → w.cell? (a.add k) = some (.pointer (some x.1)) ∧ w.cell? x.1 = some (.int .i64 x.2) ∧ x.1.block ≠ cb ∧ (Lit.int .i64 x.2).wf = true) (ha : a.block ≠ cb) (hs : s.size ≤ 1800000000000000) :
  Calls Tryz.prog 120 #[.pointer (some ⟨cb, 0, none⟩), .slice (some a) L.length L.length] w (CodPost w cb (plS s (L.map (·.2))) (plB bad (L.map (·.2)))) := by
 have H := Lib.hid h
 have HC := Lib.hid hc
 clear h hc
 go_enter Tryz.func120, Tryz.ntmps120
 go_wp2_with fail
 go_loopw [8] (fun i wr => ∃ k : Nat, i = .int .i64 k ∧ k ≤ L.length ∧ CodA wr cb (plS s ((L.take k).map (·.2))) (plB bad ((L.take k).map (·.2))) ∧ Fr (fun i => i = cb) w wr) (fun i _ => L.length - (intOf i).toNat)
 case atStart => exact ⟨0, rfl, Nat.zero_le _, H.out, Fr.refl _ _⟩
 case round =>
  obtain ⟨k, rfl, hk, hcod, hf⟩ := hrel
  have CD := Lib.hid hcod
  have F := Lib.hid hf
  clear hcod hf
  rcases Nat.lt_or_ge k L.length with hlt | hge
  ·obtain ⟨x, hx⟩ := get_of_lt hlt
   obtain ⟨c1, c2, c3, c4⟩ := HC.out k x hx
   have C3 := Lib.hid c3
   have HX := Lib.hid hx
   have d1 := F.out.cell c1 (by rw [add_block]; exact ha)
   have d2 := F.out.cell c2 c3
   have hsz := plS_size ((L.take k).map (·.2)) s (by
    intro n hn
    obtain ⟨y, hy, rfl⟩ := List.mem_map.1 hn
    obtain ⟨i, hi⟩ := List.mem_iff_getElem?.1 (List.mem_of_mem_take hy)
    exact (HC.out i y hi).2.2.2)
   rw [List.length_map, List.length_take] at hsz
   have W := Lib.hid (cnumber_walk CD.out x.1 x.2 (-1) 2199023255552 c4 d2 c3 (by omega))
   clear c1 c2 c3 c4 d2 hx hsz
   go_wp2_with fail
   refine W.out.mono ?_
   rintro e w2 ⟨rfl, h2, f2⟩
   have H2 := Lib.hid h2
   have F2 := Lib.hid (F.out.trans f2 fun _ h => .inl h)
   clear h2 f2 W d1
   have HT := Lib.hid (take_snoc HX.out)
   go_wp2_with fail
   go_roundw
   case rel =>
    refine ⟨k + 1, by go_num, by omega, ?_, F2.out⟩
    rw [HT.out, List.map_append]
    unfold plS plB
    rw [List.foldl_append, List.foldl_append]
    exact H2.out
   case measure => simp [intOf]; omega
  ·obtain rfl : k = L.length := by omega
   rw [List.take_length] at CD
   go_wp2_with fail
   go_end0
   exact ⟨rfl, CD.out, F.out⟩
end
end Go.Proofs.YtfdhofabgdkkkaaGreatDoor
