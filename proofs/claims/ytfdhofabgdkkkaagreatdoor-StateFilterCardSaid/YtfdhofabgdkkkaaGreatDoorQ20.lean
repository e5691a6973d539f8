/- The reader of a record's numbers and texts: the walks. -/
import Derived.Test.YtfdhofabgdkkkaaGreatDoorQ13
namespace Go.Proofs.YtfdhofabgdkkkaaGreatDoor
open Go.RowKit Go.Fm Go.BigFrame Go.Shelf
set_option linter.unusedVariables false
set_option linter.unusedSimpArgs false
/-- A reader in block b: its text, its place, its error. -/
def rdObj (s : ByteArray) (a e : Int) : Obj := .cells #[.string s, .int .i64 a, .int .i64 e] 367 (0, 0)
def rdNum (s : ByteArray) (a e : Int) : Int × Int × Int := if e = 0 then getS s a else (0, a, e)
def rdText (s : ByteArray) (a e : Int) : ByteArray × Int × Int := if e = 0 then takeS s a 1000 else (ByteArray.empty, a, e)
def rdWant (e : Int) (c : Bool) : Int := if e = 0 then (if c then 0 else 3) else e
def RdPost (b : Nat) (s : ByteArray) (w : World) (v : Value) (a e : Int) (x : Ending) (w' : World) : Prop := x = .returned v ∧ Fr (fun i => i = b) w w' ∧ w'.heap[b]? = some (rdObj s a e)
theorem rd_stores {w w1 : World} {b : Nat} {s : ByteArray} {a e : Int} (hf : Fr (fun _ => False) w w1) (h : w1.heap[b]? = some (rdObj s a e)) (a' e' : Int) :
  Fr (fun i => i = b) w ((w1.setCell ⟨b, 1, none⟩ (.int .i64 a')).setCell ⟨b, 2, none⟩ (.int .i64 e')) ∧
  ((w1.setCell ⟨b, 1, none⟩ (.int .i64 a')).setCell ⟨b, 2, none⟩ (.int .i64 e')).heap[b]? = some (rdObj s a' e') := by
 refine ⟨Fr.setCell (S := fun i => i = b) (p := ⟨b, 2, none⟩) (Fr.setCell (S := fun i => i = b) (p := ⟨b, 1, none⟩) (Fr.mono hf fun _ h => h.elim) (.inl rfl) _) (.inl rfl) _, ?_⟩
 rw [heap_setCell_self (heap_setCell_self h _)]
 rfl
set_option maxRecDepth 100000 in
set_option maxHeartbeats 8000000 in
theorem number_walk (b : Nat) (s : ByteArray) (a e : Int) (w : World) (hs : s.size ≤ maxLen) (h : w.heap[b]? = some (rdObj s a e)) :
  Calls Tryz.prog 247 #[.pointer (some ⟨b, 0, none⟩)] w (RdPost b s w (.int .i64 (rdNum s a e).1) (rdNum s a e).2.1 (rdNum s a e).2.2) := by
 have H := Lib.hid h
 have c0 : w.cell? ⟨b, 0, none⟩ = some (.string s) := (cell_of h 0).trans rfl
 have c1 : w.cell? ⟨b, 1, none⟩ = some (.int .i64 a) := (cell_of h 1).trans rfl
 have c2 : w.cell? ⟨b, 2, none⟩ = some (.int .i64 e) := (cell_of h 2).trans rfl
 have hg : rdNum s a e = if e = 0 then getS s a else (0, a, e) := rfl
 generalize hr : rdNum s a e = r at hg ⊢
 clear hr
 by_cases he : e = 0
 ·subst he
  rw [if_pos rfl] at hg
  have HG := Lib.hid hg
  clear h hg
  go_enter Tryz.func247, Tryz.ntmps247
  go_wp2_with fail
  clear c0 c1 c2
  have x0 : ∀ y : Lcl.InS (fun w' => Fr (fun _ => False) w w'), y.w.cell? ⟨b, 0, none⟩ = some (.string s) := fun y => y.h.cel ((cell_of H.out 0).trans rfl)
  have x1 : ∀ y : Lcl.InS (fun w' => Fr (fun _ => False) w w'), y.w.cell? ⟨b, 1, none⟩ = some (.int .i64 a) := fun y => y.h.cel ((cell_of H.out 1).trans rfl)
  have fget : ∀ y : Lcl.InS (fun w' => Fr (fun _ => False) w w'), Calls Tryz.prog 183 #[.string s, .int .i64 a] y.w fun e w' => e = .returned (.tuple #[.int .i64 r.1, .int .i64 r.2.1, .int .i64 r.2.2]) ∧ ∃ y : Lcl.InS (fun w' => Fr (fun _ => False) w w'), w' = y.w := fun y => (gets_walk s a _ hs).mono fun e w' ⟨h1, h2⟩ => ⟨by rw [HG.out]; exact h1, ⟨y, h2.symm⟩⟩
  refine Lcl.wp_region_part (C := fun w' => ∃ y : Lcl.InS (fun w' => Fr (fun _ => False) w w'), w' = y.w) (by kernel_rfl) [(true, [0, 1]), (false, [2, 3, 4, 5, 6, 7, 8, 9, 10, 11, 12]), (true, [13, 14])] #[0, 0, 0, 4, 12, 28, 0, 64, 192, 448, 1020, 2044, 4092, 4092, 4092, 8188, 49149, 114685, 245757, 524287, 1048575, 2097151] 7 #[true, true, true, true, true, true, true, true, true, true, true, true, true, true, true, false, false, false, false, false, false, false] (by kernel_rfl) (by kernel_rfl) (by kernel_rfl) ⟨⟨w.drew, (Fr.same w).drew⟩, rfl⟩ (fun d c a v w h => by cases d <;> exact h) ?_
  simp only [Lcl.opsOf, List.map_cons, List.map_nil, List.getElem?_toArray, List.getElem?_cons_succ, List.getElem?_cons_zero, Option.getD_some]
  refine Lcl.wpSegs_t ?_
  repeat (go_big_quiet_step (with_reducible rfl))
  refine wpQuiet_nil ?_
  refine Lcl.wpSegs_f ?_
  repeat (go_big_quiet_step (first | with_reducible rfl | exact fget _))
  refine wpQuiet_nil ?_
  refine Lcl.wpSegs_t ?_
  repeat (go_big_quiet_step (with_reducible rfl))
  refine wpQuiet_nil ?_
  refine Lcl.wpSegs_nil ?_
  rintro _ ⟨y, rfl⟩
  clear fget x0 x1
  refine Lcl.wpAny_of_G (S := fun _ => True) (need := fun j => ([] : List Nat).contains j) _ _ _ _ ?_
  refine Lcl.wpG_run (needs := []) [15, 16, 17, 18, 19, 20, 21] _ _ _ (by kernel_rfl) ?_
  simp only [List.map_cons, List.map_nil, List.getElem?_toArray, List.getElem?_cons_succ, List.getElem?_cons_zero, Option.getD_some]
  have hy := (y.h.block _ (lt_of_heap H.out) fun h => h).trans H.out
  have hf := y.h
  generalize y.w = wy at *
  clear y
  have HF := Lib.hid (rd_stores hf hy r.2.1 r.2.2)
  have d0 : wy.cell? ⟨b, 0, none⟩ = some (.string s) := (cell_of hy 0).trans rfl
  have d1 : wy.cell? ⟨b, 1, none⟩ = some (.int .i64 a) := (cell_of hy 1).trans rfl
  have d2 : wy.cell? ⟨b, 2, none⟩ = some (.int .i64 0) := (cell_of hy 2).trans rfl
  have f1 := fz_of hy 1
  have f2 := fz_of hy 2
  clear hf hy
  go_wp2_with fail
  go_ret
  exact ⟨rfl, HF.out⟩
 ·rw [if_neg he] at hg
  have HG := Lib.hid hg
  have he' : (e == 0) = false := by simpa using he
  clear h hg
  go_enter Tryz.func247, Tryz.ntmps247
  go_wp2_with fail
  go_ret
  exact ⟨by rw [HG.out]; rfl, Fr.refl _ _, by rw [HG.out]; exact H.out⟩
set_option maxRecDepth 100000 in
set_option maxHeartbeats 8000000 in
theorem rtext_walk (b : Nat) (s : ByteArray) (a e : Int) (w : World) (hs : s.size ≤ maxLen) (h : w.heap[b]? = some (rdObj s a e)) :
  Calls Tryz.prog 248 #[.pointer (some ⟨b, 0, none⟩)] w (RdPost b s w (.string (rdText s a e).1) (rdText s a e).2.1 (rdText s a e).2.2) := by
 have H := Lib.hid h
 have c0 : w.cell? ⟨b, 0, none⟩ = some (.string s) := (cell_of h 0).trans rfl
 have c1 : w.cell? ⟨b, 1, none⟩ = some (.int .i64 a) := (cell_of h 1).trans rfl
 have c2 : w.cell? ⟨b, 2, none⟩ = some (.int .i64 e) := (cell_of h 2).trans rfl
 have hg : rdText s a e = if e = 0 then takeS s a 1000 else (ByteArray.empty, a, e) := rfl
 generalize hr : rdText s a e = r at hg ⊢
 clear hr
 by_cases he : e = 0
 ·subst he
  rw [if_pos rfl] at hg
  have HG := Lib.hid hg
  clear h hg
  go_enter Tryz.func248, Tryz.ntmps248
  go_wp2_with fail
  clear c0 c1 c2
  have x0 : ∀ y : Lcl.InS (fun w' => Fr (fun _ => False) w w'), y.w.cell? ⟨b, 0, none⟩ = some (.string s) := fun y => y.h.cel ((cell_of H.out 0).trans rfl)
  have x1 : ∀ y : Lcl.InS (fun w' => Fr (fun _ => False) w w'), y.w.cell? ⟨b, 1, none⟩ = some (.int .i64 a) := fun y => y.h.cel ((cell_of H.out 1).trans rfl)
  have fget : ∀ y : Lcl.InS (fun w' => Fr (fun _ => False) w w'), Calls Tryz.prog 187 #[.string s, .int .i64 a, .int .i64 1000] y.w fun e w' => e = .returned (.tuple #[.string r.1, .int .i64 r.2.1, .int .i64 r.2.2]) ∧ ∃ y : Lcl.InS (fun w' => Fr (fun _ => False) w w'), w' = y.w := fun y => (takes_walk s a 1000 _ hs).mono fun e w' ⟨h1, h2⟩ => ⟨by rw [HG.out]; exact h1, ⟨y, h2.symm⟩⟩
  refine Lcl.wp_region_part (C := fun w' => ∃ y : Lcl.InS (fun w' => Fr (fun _ => False) w w'), w' = y.w) (by kernel_rfl) [(true, [0, 1]), (false, [2, 3, 4, 5, 6, 7, 8, 9, 10, 11, 12]), (true, [13, 14])] #[0, 0, 0, 4, 12, 28, 0, 64, 192, 448, 1020, 2044, 4092, 4092, 4092, 8188, 49149, 114685, 245757, 524287, 1048575, 2097151] 7 #[true, true, true, true, true, true, true, true, true, true, true, true, true, true, true, false, false, false, false, false, false, false] (by kernel_rfl) (by kernel_rfl) (by kernel_rfl) ⟨⟨w.drew, (Fr.same w).drew⟩, rfl⟩ (fun d c a v w h => by cases d <;> exact h) ?_
  simp only [Lcl.opsOf, List.map_cons, List.map_nil, List.getElem?_toArray, List.getElem?_cons_succ, List.getElem?_cons_zero, Option.getD_some]
  refine Lcl.wpSegs_t ?_
  repeat (go_big_quiet_step (with_reducible rfl))
  refine wpQuiet_nil ?_
  refine Lcl.wpSegs_f ?_
  repeat (go_big_quiet_step (first | with_reducible rfl | exact fget _))
  refine wpQuiet_nil ?_
  refine Lcl.wpSegs_t ?_
  repeat (go_big_quiet_step (with_reducible rfl))
  refine wpQuiet_nil ?_
  refine Lcl.wpSegs_nil ?_
  rintro _ ⟨y, rfl⟩
  clear fget x0 x1
  refine Lcl.wpAny_of_G (S := fun _ => True) (need := fun j => ([] : List Nat).contains j) _ _ _ _ ?_
  refine Lcl.wpG_run (needs := []) [15, 16, 17, 18, 19, 20, 21] _ _ _ (by kernel_rfl) ?_
  simp only [List.map_cons, List.map_nil, List.getElem?_toArray, List.getElem?_cons_succ, List.getElem?_cons_zero, Option.getD_some]
  have hy := (y.h.block _ (lt_of_heap H.out) fun h => h).trans H.out
  have hf := y.h
  generalize y.w = wy at *
  clear y
  have HF := Lib.hid (rd_stores hf hy r.2.1 r.2.2)
  have d0 : wy.cell? ⟨b, 0, none⟩ = some (.string s) := (cell_of hy 0).trans rfl
  have d1 : wy.cell? ⟨b, 1, none⟩ = some (.int .i64 a) := (cell_of hy 1).trans rfl
  have d2 : wy.cell? ⟨b, 2, none⟩ = some (.int .i64 0) := (cell_of hy 2).trans rfl
  have f1 := fz_of hy 1
  have f2 := fz_of hy 2
  clear hf hy
  go_wp2_with fail
  go_ret
  exact ⟨rfl, HF.out⟩
 ·rw [if_neg he] at hg
  have HG := Lib.hid hg
  have he' : (e == 0) = false := by simpa using he
  clear h hg
  go_enter Tryz.func248, Tryz.ntmps248
  go_wp2_with fail
  go_ret
  exact ⟨by rw [HG.out]; rfl, Fr.refl _ _, by rw [HG.out]; exact H.out⟩
set_option maxHeartbeats 1000000 in
theorem want_walk (b : Nat) (s : ByteArray) (a e : Int) (c : Bool) (w : World) (h : w.heap[b]? = some (rdObj s a e)) :
  Calls Tryz.prog 249 #[.pointer (some ⟨b, 0, none⟩), .bool c] w fun x w' => x = .returned (.tuple #[]) ∧ Fr (fun i => i = b) w w' ∧ w'.heap[b]? = some (rdObj s a (rdWant e c)) := by
 have H := Lib.hid h
 have c2 : w.cell? ⟨b, 2, none⟩ = some (.int .i64 e) := (cell_of h 2).trans rfl
 have f2 := fz_of h 2
 have HF : Hid (Fr (fun i => i = b) w (w.setCell ⟨b, 2, none⟩ (.int .i64 3)) ∧ (w.setCell ⟨b, 2, none⟩ (.int .i64 3)).heap[b]? = some (rdObj s a 3)) := by
  refine Lib.hid ⟨Fr.setCell (S := fun i => i = b) (p := ⟨b, 2, none⟩) (Fr.refl _ w) (.inl rfl) _, ?_⟩
  rw [heap_setCell_self h]
  rfl
 clear h
 by_cases he : e = 0
 ·subst he
  cases c with
  | true =>
   go_enter Tryz.func249, Tryz.ntmps249
   go_wp2_with fail
   go_end0
   exact ⟨rfl, Fr.refl _ _, H.out⟩
  | false =>
   go_enter Tryz.func249, Tryz.ntmps249
   go_wp2_with fail
   go_end0
   exact ⟨rfl, HF.out⟩
 ·have he' : (e == 0) = false := by simpa using he
  have HE : Hid (rdWant e c = e) := Lib.hid (by unfold rdWant; rw [if_neg he])
  go_enter Tryz.func249, Tryz.ntmps249
  go_wp2_with fail
  go_end0
  exact ⟨rfl, Fr.refl _ _, by rw [HE.out]; exact H.out⟩
end Go.Proofs.YtfdhofabgdkkkaaGreatDoor
/- What Encode has written reads back: plain laws. -/
namespace Go.Proofs.YtfdhofabgdkkkaaGreatDoor
open Go.RowKit Go.Fm Go.BigFrame
set_option linter.unusedVariables false
set_option linter.unusedSimpArgs false
theorem putL_pos (m : Nat) : 1 ≤ (putL m).length := by
 rw [putL]; split <;> simp
theorem lead_putL (rest : List UInt8) : ∀ (f m : Nat), (putL m).length ≤ f → lead f (putL m ++ rest) = (putL m).length - 1 := by
 intro f
 induction f with
 | zero => intro m h; have := putL_pos m; omega
 | succ f ih =>
  intro m h
  by_cases hm : m < 128
  ·rw [putL_small hm]
   simp only [List.cons_append, List.nil_append, lead, List.length_cons, List.length_nil]
   rw [dig_toNat (by omega), if_neg (by omega)]
  ·rw [putL_big (by omega)] at h ⊢
   simp only [List.length_cons] at h
   simp only [List.cons_append, lead, List.length_cons]
   rw [dig_toNat (by omega), if_pos (by omega), ih (m / 128) (by omega)]
   have := putL_pos (m / 128)
   omega
theorem unzig_zig (n : Int) : unzig (zig n) = n := by
 unfold unzig zig
 split <;> split <;> omega
theorem putL_ten {n : Int} (h : (Lit.int .i64 n).wf = true) : (putL (zig n)).length ≤ 10 :=
 putL_len 9 (zig n) (Nat.lt_of_lt_of_le (zig_lt h) (by decide))
theorem refV_putL {n : Int} (h : (Lit.int .i64 n).wf = true) (rest : List UInt8) : refV (putL (zig n) ++ rest) = (n, (putL (zig n)).length, 0) := by
 have h10 := putL_ten h
 have h1 := putL_pos (zig n)
 have hl := lead_putL rest 10 (zig n) h10
 have hz := zig_lt h
 unfold refV
 dsimp only
 rw [hl, if_neg (by omega), if_neg (by simp; omega)]
 have e : (putL (zig n)).length - 1 + 1 = (putL (zig n)).length := by omega
 rw [e]
 have e2 : (putL (zig n) ++ rest).take (putL (zig n)).length = putL (zig n) := by simp
 rw [e2, val_putL, Nat.mod_eq_of_lt hz, if_pos rfl, unzig_zig]
theorem putS_list (n : Int) : (putS n).data.toList = putL (zig n) := rfl
theorem size_list (s : ByteArray) : s.data.toList.length = s.size := Array.length_toList
theorem putS_len (n : Int) : (putS n).size = (putL (zig n)).length := by
 have := congrArg List.length (putS_list n)
 rw [size_list] at this
 exact this
theorem append_list (a b : ByteArray) : (a ++ b).data.toList = a.data.toList ++ b.data.toList := by simp
theorem bytes_ext {a b : ByteArray} (h : a.data.toList = b.data.toList) : a = b := by
 cases a; cases b
 simpa using congrArg List.toArray h
theorem extract_list (s : ByteArray) (i j : Nat) : (s.extract i j).data.toList = (s.data.toList.take j).drop i := by
 simp [ByteArray.data_extract, Array.toList_extract, List.extract, List.drop_take]
/-- From p on the text is l. -/
structure Pt (s : ByteArray) (p : Nat) (l : List UInt8) : Prop where
 le : p ≤ s.size
 dr : s.data.toList.drop p = l
theorem Pt.len {s : ByteArray} {p : Nat} {l : List UInt8} (h : Pt s p l) : s.size = p + l.length := by
 have h1 := h.le
 have := congrArg List.length h.dr
 rw [List.length_drop, size_list] at this
 omega
theorem Pt.skip {s : ByteArray} {p : Nat} {a b : List UInt8} (h : Pt s p (a ++ b)) : Pt s (p + a.length) b := by
 refine ⟨by have := h.len; rw [List.length_append] at this; omega, ?_⟩
 rw [← List.drop_drop, h.dr, List.drop_append_of_le_length (Nat.le_refl _), List.drop_length, List.nil_append]
theorem Pt.cut {s : ByteArray} {p : Nat} {a b : List UInt8} (h : Pt s p (a ++ b)) : (s.extract p (p + a.length)).data.toList = a := by
 rw [extract_list, List.drop_take, h.dr, Nat.add_sub_cancel_left, List.take_append_of_le_length (Nat.le_refl _), List.take_length]
theorem getPt {s : ByteArray} {p : Nat} {n : Int} {rest : List UInt8} (h : (Lit.int .i64 n).wf = true) (hs : Pt s p ((putS n).data.toList ++ rest)) :
  getS s p = (n, ((p + (putS n).size : Nat) : Int), 0) := by
 rw [putS_len, getS_of s p hs.le (n := n) (k := (putL (zig n)).length) (c := 0) (by rw [getV_eq, hs.dr]; exact refV_putL h rest), if_pos rfl, Int.natCast_add]
theorem takePt {s t : ByteArray} {p : Nat} {rest : List UInt8} (ht : t.size ≤ 1000) (hs : Pt s p ((textS t).data.toList ++ rest)) :
  takeS s p 1000 = (t, ((p + (textS t).size : Nat) : Int), 0) := by
 have hwf : (Lit.int .i64 (t.size : Int)).wf = true := len_wf (by omega)
 have hs' : Pt s p ((putS t.size).data.toList ++ (t.data.toList ++ rest)) := ⟨hs.le, by
  rw [hs.dr]; unfold textS; rw [append_list, List.append_assoc]⟩
 have hg := getPt hwf hs'
 have hsz : (textS t).size = (putS t.size).size + t.size := by unfold textS; rw [ByteArray.size_append]
 have hlen := hs.len
 rw [List.length_append, size_list] at hlen
 have h3 := hs'.skip
 rw [size_list] at h3
 have hc := h3.cut
 rw [size_list] at hc
 unfold takeS
 rw [hg]
 dsimp only
 rw [if_neg (by simp), if_neg (by omega), if_neg (by omega)]
 have e1 : ((p + (putS t.size).size : Nat) : Int).toNat = p + (putS t.size).size := Int.toNat_natCast _
 have e2 : (((p + (putS t.size).size : Nat) : Int) + (t.size : Int)).toNat = p + (putS t.size).size + t.size := by omega
 rw [e1, e2]
 congr 1
 ·exact bytes_ext hc
 ·rw [hsz]; simp; omega
theorem fix4_list (n : Nat) : (fix4 n).data.toList = fixL n := rfl
theorem readPt {s : ByteArray} {p : Nat} {n : Nat} {rest : List UInt8} (hn : n < 4294967296) (hs : Pt s p ((fix4 n).data.toList ++ rest)) : readS s p = ((n : Int), ((p + 4 : Nat) : Int), 0) := by
 have hlen := hs.len
 rw [List.length_append, size_list, fix4_size] at hlen
 unfold readS
 rw [if_neg (by omega), if_neg (by omega)]
 have hb : be4 s (p : Int).toNat = n := by
  unfold be4
  rw [Int.toNat_natCast, hs.dr, fix4_list]
  unfold fixL
  simp only [List.cons_append, List.nil_append, List.take_succ_cons, List.take_zero, List.foldl_cons, List.foldl_nil]
  rw [dig_toNat (by omega), dig_toNat (by omega), dig_toNat (by omega), dig_toNat (by omega)]
  omega
 rw [hb, Int.natCast_add]
 rfl
/-- The headers from the k-th on, as bytes. -/
def hdrL (h : Hdr) : List UInt8 := (textS h.key).data.toList ++ (textS h.val).data.toList
theorem encTo_list (r : Rec) : ∀ k, k ≤ r.hs.length → (encTo r k).data.toList ++ (r.hs.drop k).flatMap hdrL = (encHead r).data.toList ++ r.hs.flatMap hdrL
 | 0, _ => by rw [List.drop_zero]; rfl
 | k + 1, hk => by
  obtain ⟨x, hx⟩ := get_of_lt (show k < r.hs.length by omega)
  rw [← encTo_list r k (by omega)]
  simp only [encTo, hx]
  have hd : r.hs.drop k = x :: r.hs.drop (k + 1) := by
   rw [List.drop_eq_getElem_cons (show k < r.hs.length by omega)]
   congr 1
   exact (List.getElem?_eq_some_iff.1 hx).2
  rw [hd, List.flatMap_cons, append_list, append_list]
  unfold hdrL
  simp only [List.append_assoc]
theorem encS_list (r : Rec) (k : Nat) (hk : k ≤ r.hs.length) : (encS r).data.toList = (encTo r k).data.toList ++ (r.hs.drop k).flatMap hdrL := by
 rw [encTo_list r k hk, ← encTo_list r r.hs.length (Nat.le_refl _), List.drop_length, List.flatMap_nil, List.append_nil]
 rfl
/-- A record's bytes stand at a place: what the reader finds there. -/
structure RecIs (s : ByteArray) (p : Int) (r : Rec) (p1 p2 p3 p4 p5 : Int) (q m : Nat → Int) : Prop where
 at' : rdNum s p 0 = (r.at', p1, 0)
 tm : rdNum s p1 0 = (r.tm, p2, 0)
 fl : rdNum s p2 0 = (flagsOf r, p3, 0)
 key : rdText s p3 0 = (r.key, p4, 0)
 val : rdText s p4 0 = (r.val, p5, 0)
 num : rdNum s p5 0 = ((r.hs.length : Int), q 0, 0)
 hk : ∀ k h, r.hs[k]? = some h → rdText s (q k) 0 = (h.key, m k, 0)
 hv : ∀ k h, r.hs[k]? = some h → rdText s (m k) 0 = (h.val, q (k + 1), 0)
 last : q r.hs.length = p + ((encS r).size : Int)
theorem flags_wf (r : Rec) : (Lit.int .i64 (flagsOf r)).wf = true := by unfold flagsOf; cases r.bare <;> cases r.gone <;> decide
theorem rdNum_pt {s : ByteArray} {p : Nat} {n : Int} {rest : List UInt8} (h : (Lit.int .i64 n).wf = true) (hs : Pt s p ((putS n).data.toList ++ rest)) : rdNum s p 0 = (n, ((p + (putS n).size : Nat) : Int), 0) := by
 unfold rdNum; rw [if_pos rfl]; exact getPt h hs
theorem rdText_pt {s t : ByteArray} {p : Nat} {rest : List UInt8} (h : t.size ≤ 1000) (hs : Pt s p ((textS t).data.toList ++ rest)) : rdText s p 0 = (t, ((p + (textS t).size : Nat) : Int), 0) := by
 unfold rdText; rw [if_pos rfl]; exact takePt h hs
theorem recIs_of {s : ByteArray} {p : Nat} {r : Rec} {rest : List UInt8} (hr : RecOK r) (hs : Pt s p ((encS r).data.toList ++ rest)) : ∃ p1 p2 p3 p4 p5 q m, RecIs s p r p1 p2 p3 p4 p5 q m := by
 have wa : (Lit.int .i64 r.at').wf = true := by have := hr.at0; have := hr.at1; simp [Lit.wf, IntKind.min, IntKind.max, IntKind.signed, IntKind.bits]; omega
 have wt : (Lit.int .i64 r.tm).wf = true := by have := hr.tm0; have := hr.tm1; simp [Lit.wf, IntKind.min, IntKind.max, IntKind.signed, IntKind.bits]; omega
 have wl : (Lit.int .i64 (r.hs.length : Int)).wf = true := len_wf (by have := hr.hs; omega)
 have h0 : Pt s p ((putS r.at').data.toList ++ ((putS r.tm).data.toList ++ ((putS (flagsOf r)).data.toList ++ ((textS r.key).data.toList ++ ((textS r.val).data.toList ++ ((putS r.hs.length).data.toList ++ (r.hs.flatMap hdrL ++ rest))))))) := ⟨hs.le, by
  rw [hs.dr, encS_list r 0 (Nat.zero_le _), List.drop_zero]
  show (encHead r).data.toList ++ _ ++ rest = _
  unfold encHead
  simp only [append_list, List.append_assoc]⟩
 have h1 := h0.skip
 have h2 := h1.skip
 have h3 := h2.skip
 have h4 := h3.skip
 have h5 := h4.skip
 simp only [size_list] at h1 h2 h3 h4 h5
 have hq : ∀ k, k ≤ r.hs.length → Pt s (p + (encTo r k).size) ((r.hs.drop k).flatMap hdrL ++ rest) := fun k hk => by
  have h9 : Pt s p ((encTo r k).data.toList ++ ((r.hs.drop k).flatMap hdrL ++ rest)) := ⟨hs.le, by rw [hs.dr, encS_list r k hk, List.append_assoc]⟩
  have h10 := h9.skip
  rwa [size_list] at h10
 have hhead : (encTo r 0).size = (putS r.at').size + (putS r.tm).size + (putS (flagsOf r)).size + (textS r.key).size + (textS r.val).size + (putS r.hs.length).size := by
  show (encHead r).size = _
  unfold encHead
  rw [ByteArray.size_append, ByteArray.size_append, ByteArray.size_append, ByteArray.size_append, ByteArray.size_append]
 have hst : ∀ k h, r.hs[k]? = some h → Pt s (p + (encTo r k).size) ((textS h.key).data.toList ++ ((textS h.val).data.toList ++ ((r.hs.drop (k + 1)).flatMap hdrL ++ rest))) ∧ (encTo r (k + 1)).size = (encTo r k).size + (textS h.key).size + (textS h.val).size := fun k h hk => by
  have hlt := (List.getElem?_eq_some_iff.1 hk).1
  have hd : r.hs.drop k = h :: r.hs.drop (k + 1) := by
   rw [List.drop_eq_getElem_cons hlt]
   congr 1
   exact (List.getElem?_eq_some_iff.1 hk).2
  have h9 := hq k (by omega)
  rw [hd, List.flatMap_cons] at h9
  refine ⟨⟨h9.le, ?_⟩, ?_⟩
  ·rw [h9.dr]
   unfold hdrL
   simp only [List.append_assoc]
  ·simp only [encTo, hk]
   rw [ByteArray.size_append, ByteArray.size_append]
 have g0 := rdNum_pt wa h0
 have g1 := rdNum_pt wt h1
 have g2 := rdNum_pt (flags_wf r) h2
 have g3 := rdText_pt hr.key h3
 have g4 := rdText_pt hr.val h4
 have g5 := rdNum_pt wl h5
 have e5 : p + (putS r.at').size + (putS r.tm).size + (putS (flagsOf r)).size + (textS r.key).size + (textS r.val).size + (putS r.hs.length).size = p + (encTo r 0).size := by omega
 rw [e5] at g5
 refine ⟨_, _, _, _, _, fun k => ((p + (encTo r k).size : Nat) : Int), fun k => ((p + (encTo r k).size + (textS ((r.hs[k]?).getD ⟨ByteArray.empty, ByteArray.empty⟩).key).size : Nat) : Int), ⟨g0, g1, g2, g3, g4, g5, fun k h hk => ?_, fun k h hk => ?_, ?_⟩⟩
 ·have := (hr.hdrs h (List.mem_of_getElem? hk)).2.1
  rw [hk]
  exact rdText_pt this (hst k h hk).1
 ·have h9 := (hr.hdrs h (List.mem_of_getElem? hk)).2.2
  obtain ⟨h10, h11⟩ := hst k h hk
  have h12 := h10.skip
  rw [size_list] at h12
  have g9 := rdText_pt h9 h12
  rw [hk]
  dsimp only [Option.getD_some]
  rw [g9, show p + (encTo r (k + 1)).size = p + (encTo r k).size + (textS h.key).size + (textS h.val).size by omega]
 ·unfold encS
  rw [Int.natCast_add]
/-- The records of a batch, as bytes. -/
def recL (r : Rec) : List UInt8 := (encS r).data.toList
theorem bodyTo_list (b : Bat) : ∀ k, k ≤ b.recs.length → (bodyTo b k).data.toList ++ (b.recs.drop k).flatMap recL = (bodyHead b).data.toList ++ b.recs.flatMap recL
 | 0, _ => by rw [List.drop_zero]; rfl
 | k + 1, hk => by
  obtain ⟨x, hx⟩ := get_of_lt (show k < b.recs.length by omega)
  rw [← bodyTo_list b k (by omega)]
  simp only [bodyTo, hx]
  have hd : b.recs.drop k = x :: b.recs.drop (k + 1) := by
   rw [List.drop_eq_getElem_cons (show k < b.recs.length by omega)]
   congr 1
   exact (List.getElem?_eq_some_iff.1 hx).2
  rw [hd, List.flatMap_cons, append_list]
  unfold recL
  simp only [List.append_assoc]
theorem bodyS_list (b : Bat) (k : Nat) (hk : k ≤ b.recs.length) : (bodyS b).data.toList = (bodyTo b k).data.toList ++ (b.recs.drop k).flatMap recL := by
 rw [bodyTo_list b k hk, ← bodyTo_list b b.recs.length (Nat.le_refl _), List.drop_length, List.flatMap_nil, List.append_nil]
 rfl
/-- A batch's body: what its numbers are read as, and where its records stand. -/
structure BodyIs (s : ByteArray) (b : Bat) (p1 p2 p3 p4 p5 : Int) (q : Nat → Nat) : Prop where
 base : getS s (0 : Int) = (b.base, p1, 0)
 span : getS s p1 = (b.span, p2, 0)
 prod : getS s p2 = (b.prod, p3, 0)
 epoch : getS s p3 = (b.epoch, p4, 0)
 seq : getS s p4 = (b.seq, p5, 0)
 num : getS s p5 = ((b.recs.length : Int), (q 0 : Int), 0)
 each : ∀ k r, b.recs[k]? = some r → (∃ p1 p2 p3 p4 p5 q' m, RecIs s (q k) r p1 p2 p3 p4 p5 q' m) ∧ q (k + 1) = q k + (encS r).size
 last : q b.recs.length = s.size
theorem bodyIs_of {b : Bat} (hb : BatOK b) : ∃ p1 p2 p3 p4 p5 q, BodyIs (bodyS b) b p1 p2 p3 p4 p5 q := by
 have NU := nums_of hb.base0 hb.base1 hb.span0 hb.span1 hb.who hb.len
 have wl : (Lit.int .i64 (b.recs.length : Int)).wf = true := len_wf (by have := hb.len; omega)
 have h0 : Pt (bodyS b) 0 ((putS b.base).data.toList ++ ((putS b.span).data.toList ++ ((putS b.prod).data.toList ++ ((putS b.epoch).data.toList ++ ((putS b.seq).data.toList ++ ((putS b.recs.length).data.toList ++ b.recs.flatMap recL)))))) := ⟨Nat.zero_le _, by
  rw [List.drop_zero, bodyS_list b 0 (Nat.zero_le _), List.drop_zero]
  show (bodyHead b).data.toList ++ _ = _
  unfold bodyHead
  simp only [append_list, List.append_assoc]⟩
 have h1 := h0.skip
 have h2 := h1.skip
 have h3 := h2.skip
 have h4 := h3.skip
 have h5 := h4.skip
 simp only [size_list] at h1 h2 h3 h4 h5
 have hq : ∀ k, k ≤ b.recs.length → Pt (bodyS b) (bodyTo b k).size ((b.recs.drop k).flatMap recL) := fun k hk => by
  have h9 : Pt (bodyS b) 0 ((bodyTo b k).data.toList ++ (b.recs.drop k).flatMap recL) := ⟨Nat.zero_le _, by rw [List.drop_zero, bodyS_list b k hk]⟩
  have h10 := h9.skip
  rwa [size_list, Nat.zero_add] at h10
 have hhead : (bodyTo b 0).size = (putS b.base).size + (putS b.span).size + (putS b.prod).size + (putS b.epoch).size + (putS b.seq).size + (putS b.recs.length).size := by
  show (bodyHead b).size = _
  unfold bodyHead
  rw [ByteArray.size_append, ByteArray.size_append, ByteArray.size_append, ByteArray.size_append, ByteArray.size_append]
 have g0 := getPt NU.base h0
 have g1 := getPt NU.span h1
 have g2 := getPt NU.prod h2
 have g3 := getPt NU.epoch h3
 have g4 := getPt NU.seq h4
 have g5 := getPt wl h5
 have e5 : 0 + (putS b.base).size + (putS b.span).size + (putS b.prod).size + (putS b.epoch).size + (putS b.seq).size + (putS b.recs.length).size = (bodyTo b 0).size := by omega
 rw [e5] at g5
 refine ⟨_, _, _, _, _, fun k => (bodyTo b k).size, ⟨g0, g1, g2, g3, g4, g5, fun k r hk => ?_, rfl⟩⟩
 have hlt := (List.getElem?_eq_some_iff.1 hk).1
 have hd : b.recs.drop k = r :: b.recs.drop (k + 1) := by
  rw [List.drop_eq_getElem_cons hlt]
  congr 1
  exact (List.getElem?_eq_some_iff.1 hk).2
 have h9 := hq k (by omega)
 rw [hd, List.flatMap_cons] at h9
 refine ⟨recIs_of (hb.recs k r hk).ok h9, ?_⟩
 simp only [bodyTo, hk]
 rw [ByteArray.size_append]
theorem batS_size (b : Bat) : (batS b).size = 8 + (bodyS b).size := by
 unfold batS
 rw [ByteArray.size_append, ByteArray.size_append, fix4_size, fix4_size]
/-- A batch stands whole at a place. -/
structure BatIs (s : ByteArray) (p : Nat) (b : Bat) : Prop where
 r1 : readS s p = (((bodyS b).size : Int), ((p + 4 : Nat) : Int), 0)
 r2 : readS s ((p + 4 : Nat) : Int) = (((sumS (bodyS b)).toNat : Int), ((p + 8 : Nat) : Int), 0)
 room : p + 8 + (bodyS b).size ≤ s.size
 cut : s.extract (p + 8) (p + 8 + (bodyS b).size) = bodyS b
theorem batIs_of {s : ByteArray} {p : Nat} {b : Bat} {rest : List UInt8} (hb : BatOK b) (hs : Pt s p ((batS b).data.toList ++ rest)) : BatIs s p b := by
 have h0 : Pt s p ((fix4 (bodyS b).size).data.toList ++ ((fix4 (sumS (bodyS b)).toNat).data.toList ++ ((bodyS b).data.toList ++ rest))) := ⟨hs.le, by
  rw [hs.dr]; unfold batS; simp only [append_list, List.append_assoc]⟩
 have h1 := h0.skip
 have h2 := h1.skip
 simp only [size_list, fix4_size] at h1 h2
 have hn := hb.body
 have hsum := sumS_in (bodyS b)
 have hl := h2.len
 rw [List.length_append, size_list] at hl
 have hc := h2.cut
 rw [size_list] at hc
 exact ⟨readPt (by omega) h0, readPt (by omega) h1, by omega, bytes_ext hc⟩
end Go.Proofs.YtfdhofabgdkkkaaGreatDoor
