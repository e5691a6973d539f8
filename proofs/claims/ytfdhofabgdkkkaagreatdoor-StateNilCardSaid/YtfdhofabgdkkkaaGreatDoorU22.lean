/- Requests as bytes: what the writer keeps; want, number. -/
import Derived.Test.YtfdhofabgdkkkaaGreatDoorU21
namespace Go.Proofs.YtfdhofabgdkkkaaGreatDoor
open Go.RowKit Go.Fm Go.BigFrame Go.Shelf Go.Maps
set_option linter.unusedVariables false
set_option linter.unusedSimpArgs false
set_option maxRecDepth 100000
theorem len_wfX {n : Nat} (h : n ≤ 1000000000000000000) : (Lit.int .i64 (n : Int)).wf = true := by
 simp [Lit.wf, IntKind.min, IntKind.max, IntKind.signed, IntKind.bits]; omega
theorem textS_sizeX {s : ByteArray} (h : s.size ≤ 1000000000000000000) : (textS s).size ≤ 10 + s.size := by
 have := putS_size (len_wfX h)
 unfold textS
 rw [ByteArray.size_append]
 omega
set_option maxHeartbeats 4000000 in
theorem text_walkX (s : ByteArray) (w : World) (hs : s.size ≤ 1000000000000000000) :
  Calls Tryz.prog 186 #[.string s] w fun e w' => e = .returned (.string (textS s)) ∧ Fr (fun _ => False) w w' := by
 have hp := putS_size (len_wfX hs)
 go_enter Tryz.func186, Tryz.ntmps186
 go_wp2_with fail
 refine (put_walk _ _ (len_wfX hs)).mono ?_
 rintro e w2 ⟨rfl, hf⟩
 go_wp2_with fail
 go_ret
 exact ⟨rfl, hf⟩
section
variable {w w' : World} {cb : Nat} {s : ByteArray} {bad : Bool} {S : Nat → Prop}
/-- What the writer keeps: the bytes, and whether something may not be. -/
def CodA (w : World) (cb : Nat) (s : ByteArray) (bad : Bool) : Prop := w.heap[cb]? = some (.cells #[.string s, .int .i64 0, .bool false, .bool bad] 221 (0, 0))
theorem CodA.fr (h : CodA w cb s bad) (hf : Fr S w w') (h1 : ¬ S cb) : CodA w' cb s bad := (hf.block cb (lt_of_heap h) h1).trans h
theorem CodA.old (h : CodA w cb s bad) (hf : Fr (fun _ => False) w w') : CodA w' cb s bad := h.fr hf fun h => h
theorem CodA.setBad (h : CodA w cb s bad) (b : Bool) : CodA (w.setCell ⟨cb, 3, none⟩ (.bool b)) cb s b := (heap_setCell_self h _).trans rfl
theorem CodA.setStr (h : CodA w cb s bad) (t : ByteArray) : CodA (w.setCell ⟨cb, 0, none⟩ (.string t)) cb t bad := (heap_setCell_self h _).trans rfl
def CodPost (w : World) (cb : Nat) (s : ByteArray) (bad : Bool) (e : Ending) (w' : World) : Prop := e = .returned (.tuple #[]) ∧ CodA w' cb s bad ∧ Fr (fun i => i = cb) w w'
theorem cwant_walk (h : CodA w cb s bad) (c : Bool) : Calls Tryz.prog 184 #[.pointer (some ⟨cb, 0, none⟩), .bool c] w (CodPost w cb s (bad || !c)) := by
 have dd := fun j => cell_of h j
 have fz := fun j => fz_of h j
 have H := Lib.hid (h.setBad (bad || !c))
 have F := Lib.hid ((Fr.refl (fun i => i = cb) w).setCell (p := ⟨cb, 3, none⟩) (.inl rfl) (.bool (bad || !c)))
 clear h
 cases bad <;> cases c
 all_goals
  go_enter Tryz.func184, Tryz.ntmps184
  go_wp2_with fail
  go_end0
  exact ⟨rfl, H.out, F.out⟩
def okN (n lo hi : Int) : Bool := decide (lo ≤ n ∧ n ≤ hi)
set_option maxHeartbeats 16000000 in
theorem cnumber_walk (h : CodA w cb s bad) (p : Addr) (n lo hi : Int) (hn : (Lit.int .i64 n).wf = true) (hp : w.cell? p = some (.int .i64 n)) (hne : p.block ≠ cb) (hs : s.size ≤ 2000000000000000) :
  Calls Tryz.prog 118 #[.pointer (some ⟨cb, 0, none⟩), .pointer (some p), .int .i64 lo, .int .i64 hi] w (CodPost w cb (s ++ putS n) (bad || !okN n lo hi)) := by
 have dd := fun j => cell_of h j
 have H := Lib.hid h
 have HP := Lib.hid hp
 have HPS := Lib.hid (putS_size hn)
 have z0 : ∀ y : Lcl.InS (fun w' => Fr (fun _ => False) w w'), y.w.cell? ⟨cb, 0, none⟩ = some (.string s) := fun y => y.h.cel ((cell_of H.out 0).trans rfl)
 have z1 : ∀ y : Lcl.InS (fun w' => Fr (fun _ => False) w w'), y.w.cell? p = some (.int .i64 n) := fun y => y.h.cel HP.out
 clear h hp
 go_enter Tryz.func118, Tryz.ntmps118
 go_wp2_with fail
 refine Lcl.wp_region_calm (by kernel_rfl) [(true, [0, 1, 2, 4, 5]), (false, [3, 6])] #[0, 1, 3, 7, 0, 16, 48, 112, 255, 511, 1023, 2047] [0, 1, 2, 3, 4, 5, 6, 7] 5 #[true, true, true, true, true, true, true, false, false, false, false, false] (by kernel_rfl) (by kernel_rfl) (by kernel_rfl) (fun w' => Fr (fun _ => False) w w') (Fr.same w).drew (fun d c a v w h => by cases d <;> exact h) ?_
 simp only [Lcl.opsOf, List.map_cons, List.map_nil, List.getElem?_toArray, List.getElem?_cons_succ, List.getElem?_cons_zero, Option.getD_some]
 refine Lcl.wpCalm_t ?_
 repeat (go_big_quiet_step (rfl))
 refine wpQuiet_nil ?_
 refine Lcl.wpCalm_f ?_
 repeat (go_big_quiet_step (rfl))
 refine wpQuiet_nil ?_
 refine Lcl.wpCalm_nil ?_
 have F1 := Lib.hid (Fr.same w).drew
 have H1 := Lib.hid (H.out.old F1.out)
 have P1 := Lib.hid (F1.out.cel HP.out)
 clear z0 z1 dd
 generalize w.drew = w1 at *
 refine Lcl.wpG_one 7 rfl (by kernel_rfl) ?_
 go_wp2_with fail
 refine (put_walk n w1 hn).mono ?_
 rintro e w2 ⟨rfl, hf2⟩
 have F2 := Lib.hid (F1.out.tr hf2)
 have H2 := Lib.hid (H1.out.old hf2)
 have P2 := Lib.hid (hf2.cel P1.out)
 clear hf2 H1 P1 F1
 go_wp2_with fail
 refine ⟨fun _ _ => F2.out, ?_⟩
 refine Lcl.wpG_run [8, 9, 10, 11] _ _ _ (by kernel_rfl) ?_
 simp only [List.map_cons, List.map_nil, List.getElem?_toArray, List.getElem?_cons_succ, List.getElem?_cons_zero, Option.getD_some]
 have hps := HPS.out
 have dd := fun j => cell_of H2.out j
 have fz := fun j => fz_of H2.out j
 have hF3 : Fr (fun i => i = cb) w2 (w2.setCell ⟨cb, 0, none⟩ (.string (s ++ putS n))) := (Fr.refl (fun i => i = cb) w2).setCell (p := ⟨cb, 0, none⟩) (.inl rfl) _
 have F3 := Lib.hid ((F2.out.mono (S' := fun i => i = cb) fun _ h => h.elim).trans hF3 fun _ h => .inl h)
 have H3 := Lib.hid (H2.out.setStr (s ++ putS n))
 have p3 : (w2.setCell ⟨cb, 0, none⟩ (.string (s ++ putS n))).cell? p = some (.int .i64 n) := hF3.cell P2.out hne
 have W := Lib.hid (cwant_walk H3.out (okN n lo hi))
 clear hF3
 by_cases h1 : lo ≤ n
 ·by_cases h2 : n ≤ hi
  ·have OK := Lib.hid (show okN n lo hi = true from decide_eq_true ⟨h1, h2⟩)
   rw [OK.out] at W
   go_wp2_with fail
   refine W.out.mono ?_
   rintro e w4 ⟨rfl, h4, f4⟩
   have H4 := Lib.hid h4
   have F4 := Lib.hid f4
   clear h4 f4
   go_wp2_with fail
   go_end0
   rw [OK.out]
   exact ⟨rfl, H4.out, F3.out.trans F4.out fun _ h => .inl h⟩
  ·have OK := Lib.hid (show okN n lo hi = false from decide_eq_false fun x => h2 x.2)
   rw [OK.out] at W
   have d2 : decide (n ≤ hi) = false := decide_eq_false h2
   go_wp2_with fail
   refine W.out.mono ?_
   rintro e w4 ⟨rfl, h4, f4⟩
   have H4 := Lib.hid h4
   have F4 := Lib.hid f4
   clear h4 f4
   go_wp2_with fail
   go_end0
   rw [OK.out]
   exact ⟨rfl, H4.out, F3.out.trans F4.out fun _ h => .inl h⟩
 ·have OK := Lib.hid (show okN n lo hi = false from decide_eq_false fun x => h1 x.1)
  rw [OK.out] at W
  go_wp2_with fail
  refine W.out.mono ?_
  rintro e w4 ⟨rfl, h4, f4⟩
  have H4 := Lib.hid h4
  have F4 := Lib.hid f4
  clear h4 f4
  go_wp2_with fail
  go_end0
  rw [OK.out]
  exact ⟨rfl, H4.out, F3.out.trans F4.out fun _ h => .inl h⟩
end
end Go.Proofs.YtfdhofabgdkkkaaGreatDoor
