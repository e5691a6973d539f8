/- Requests as bytes: a batch. -/
import Derived.Test.YtfdhofabgdkkkaaGreatDoorZ26
import Derived.Test.YtfdhofabgdkkkaaGreatDoorZ30
namespace Go.Proofs.YtfdhofabgdkkkaaGreatDoor
open Go.RowKit Go.Fm Go.BigFrame Go.Shelf Go.Maps
set_option linter.unusedVariables false
set_option linter.unusedSimpArgs false
set_option maxRecDepth 100000
section
variable {w w' : World} {cb : Nat} {s : ByteArray} {bad : Bool} {S : Nat → Prop}
def emptyB (b : Bat) : Bool := decide (b.base = 0) && (decide (b.span = 0) && (decide (b.prod = 0) && (decide (b.epoch = 0) && (decide (b.seq = 0) && decide (b.recs.length = 0)))))
theorem empty_walk (b : Bat) (oa : Option Addr) (n cap : Nat) (hn : n = b.recs.length) (w : World) : Calls Tryz.prog 188 #[batV b (.slice oa n cap)] w fun e w' => e = .returned (.bool (emptyB b)) ∧ Fr (fun _ => False) w w' := by
 subst hn
 obtain ⟨bbase, bspan, bprod, bepoch, bseq, brecs⟩ := b
 unfold batV emptyB
 dsimp only
 generalize brecs.length = n
 have FF := Lib.hid ((Fr.same w).alloc (.cells #[.int .i64 bbase, .int .i64 bspan, .int .i64 bprod, .int .i64 bepoch, .int .i64 bseq, .slice oa n cap] 35))
 by_cases h1 : bbase = 0
 ·rw [decide_eq_true h1, Bool.true_and]
  subst h1
  by_cases h2 : bspan = 0
  ·rw [decide_eq_true h2, Bool.true_and]
   subst h2
   by_cases h3 : bprod = 0
   ·rw [decide_eq_true h3, Bool.true_and]
    subst h3
    by_cases h4 : bepoch = 0
    ·rw [decide_eq_true h4, Bool.true_and]
     subst h4
     by_cases h5 : bseq = 0
     ·rw [decide_eq_true h5, Bool.true_and]
      subst h5
      by_cases h6 : n = 0
      ·rw [decide_eq_true h6]
       subst h6
       go_enter Tryz.func188, Tryz.ntmps188
       go_wp2_with fail
       go_ret
       exact ⟨rfl, FF.out⟩
      ·rw [decide_eq_false h6]
       have h7 : ¬ (n : Int) = 0 := by omega
       clear h6
       go_enter Tryz.func188, Tryz.ntmps188
       go_wp2_with fail
       go_ret
       exact ⟨by first | rfl | (congr 2; simpa using h7), FF.out⟩
     ·rw [decide_eq_false h5, Bool.false_and]
      go_enter Tryz.func188, Tryz.ntmps188
      go_wp2_with fail
      go_ret
      exact ⟨rfl, FF.out⟩
    ·rw [decide_eq_false h4, Bool.false_and]
     go_enter Tryz.func188, Tryz.ntmps188
     go_wp2_with fail
     go_ret
     exact ⟨rfl, FF.out⟩
   ·rw [decide_eq_false h3, Bool.false_and]
    go_enter Tryz.func188, Tryz.ntmps188
    go_wp2_with fail
    go_ret
    exact ⟨rfl, FF.out⟩
  ·rw [decide_eq_false h2, Bool.false_and]
   go_enter Tryz.func188, Tryz.ntmps188
   go_wp2_with fail
   go_ret
   exact ⟨rfl, FF.out⟩
 ·rw [decide_eq_false h1, Bool.false_and]
  go_enter Tryz.func188, Tryz.ntmps188
  go_wp2_with fail
  go_ret
  exact ⟨rfl, FF.out⟩
open Classical in
/-- The text of a batch that may be none. -/
noncomputable def optT (b : Bat) : ByteArray := if emptyB b = true then ByteArray.empty else if BatOK b then batS b else ByteArray.empty
open Classical in
noncomputable def optOk (b : Bat) : Bool := emptyB b || decide (BatOK b)
theorem batS_top {b : Bat} (h : BatOK b) : (batS b).size ≤ 60008 := by
 unfold batS
 have h1 := h.body
 have h2 := fix4_size (bodyS b).size
 have h3 := fix4_size (sumS (bodyS b)).toNat
 rw [ByteArray.size_append, ByteArray.size_append]
 omega
set_option maxHeartbeats 16000000 in
theorem cbatch_walk (h : CodA w cb s bad) (xb j : Nat) (K : Nat → Prop) (b : Bat) (rv : Value) (hb : BatAt w ⟨xb, j, none⟩ b rv) (hr : RecsR K w rv b.recs) (hne : xb ≠ cb) (hK : ¬ K cb) (hs : s.size ≤ 800000) (hst : StepsOK w) :
  Calls Tryz.prog 122 #[.pointer (some ⟨cb, 0, none⟩), .pointer (some ⟨xb, j, none⟩), .bool true] w (CodPost w cb (s ++ textS (optT b)) (bad || !optOk b)) := by
 obtain ⟨oa, cap, hrv, hrr⟩ := id hr
 have RV := Lib.hid hrv
 have hsz := lt_of_heap h
 have f0 := (Fr.same w).alloc (.cells #[.string ByteArray.empty] 9)
 have x0 := heap_alloc_self w (.cells #[.string ByteArray.empty] 9)
 have c0 := f0.cel hb.c0
 have c1 := f0.cel hb.c1
 have c2 := f0.cel hb.c2
 have c3 := f0.cel hb.c3
 have c4 := f0.cel hb.c4
 have c5 := f0.cel hb.c5
 have dd := fun j => cell_of (h.old f0) j
 have HB := Lib.hid (hb.to (f0.block _ hb.lt fun h => h))
 have HR := Lib.hid (hr.old f0)
 have H0 := Lib.hid (h.old f0)
 have X0 := Lib.hid x0
 have F0 := Lib.hid f0
 have ST := Lib.hid (hst.old f0)
 have HE := Lib.hid (empty_walk b oa b.recs.length cap rfl)
 subst hrv
 have HEN := Lib.hid (bencode_walk K b (.slice oa b.recs.length cap))
 clear hrr h hb hr hst
 unfold batV at HE HEN
 go_enter Tryz.func122, Tryz.ntmps122
 have x0e : (w.alloc (.cells #[.string ⟨#[]⟩] 9)) = (w.alloc (.cells #[.string ByteArray.empty] 9)) := rfl
 go_wp2_with fail
 generalize (w.alloc (.cells #[.string ByteArray.empty] 9)) = w0 at *
 refine (HE.out w0).mono ?_
 rintro e w1 ⟨rfl, hf1⟩
 have H1 := Lib.hid (H0.out.old hf1)
 have X1 := Lib.hid ((hf1.block _ (lt_of_heap X0.out) fun h => h).trans X0.out)
 have F1 := Lib.hid (F0.out.tr hf1)
 have B1 := Lib.hid (HB.out.to (hf1.block _ HB.out.lt fun h => h))
 have R1 := Lib.hid (HR.out.old hf1)
 have S1 := Lib.hid (ST.out.old hf1)
 clear hf1 c0 c1 c2 c3 c4 c5 dd HE f0 x0 H0 X0 F0 HB HR ST x0e RV
 by_cases he : emptyB b = true
 ·have OT := Lib.hid (show optT b = ByteArray.empty from if_pos he)
  have OK := Lib.hid (show (bad || !optOk b) = bad by unfold optOk; rw [he]; cases bad <;> rfl)
  rw [he]
  have W := Lib.hid (ctext_walk H1.out ⟨w.heap.size, 0, none⟩ ByteArray.empty 60008 (Nat.zero_le _) ((cell_of X1.out 0).trans rfl) (by show w.heap.size ≠ cb; omega) (by omega))
  rw [show (bad || !okT ByteArray.empty 60008) = bad by cases bad <;> rfl] at W
  go_wp2_with fail
  refine W.out.mono ?_
  rintro e w2 ⟨rfl, h2, f2⟩
  have H2 := Lib.hid h2
  have F2 := Lib.hid ((F1.out.mono (S' := fun i => i = cb) fun _ h => h.elim).trans f2 fun _ h => .inl h)
  have dd := fun j => cell_of h2 j
  clear h2 f2 W
  go_wp2_with fail
  go_end0
  rw [OT.out, OK.out]
  exact ⟨rfl, H2.out, F2.out⟩
 ·have he2 : emptyB b = false := by simpa using he
  rw [he2]
  have c0 := B1.out.c0
  have c1 := B1.out.c1
  have c2 := B1.out.c2
  have c3 := B1.out.c3
  have c4 := B1.out.c4
  have c5 := B1.out.c5
  have W := Lib.hid (HEN.out w1 R1.out S1.out)
  have HE2 := Lib.hid he2
  clear he he2
  go_wp2_with fail
  refine W.out.mono ?_
  rintro e w2 ⟨hcase, hf2⟩
  have H2 := Lib.hid (H1.out.old hf2)
  have X2 := Lib.hid ((hf2.block _ (lt_of_heap X1.out) fun h => h).trans X1.out)
  have F2 := Lib.hid (F1.out.tr hf2)
  clear hf2 c0 c1 c2 c3 c4 c5 W HEN H1 X1 F1 B1 R1 S1
  rcases hcase with ⟨hok, rfl⟩ | ⟨hok, rfl⟩
  ·have OT := Lib.hid (show optT b = batS b by unfold optT; rw [HE2.out, if_neg (by simp), if_pos hok])
   have OK := Lib.hid (show (bad || !optOk b) = bad by simp [optOk, HE2.out, hok])
   have BS := Lib.hid (batS_top hok)
   have W := Lib.hid (cwant_walk H2.out true)
   rw [show (bad || !true) = bad by cases bad <;> rfl] at W
   clear hok
   go_wp2_with fail
   refine W.out.mono ?_
   rintro e w3 ⟨rfl, h3, f3⟩
   have X3 := (f3.block _ (lt_of_heap X2.out) (by omega)).trans X2.out
   have dd := fun j => cell_of X3 j
   have fz := fun j => fz_of X3 j
   have hf4 : Fr (fun i => i = w.heap.size) w3 (w3.setCell ⟨w.heap.size, 0, none⟩ (.string (batS b))) := (Fr.refl (fun i => i = w.heap.size) w3).setCell (p := ⟨w.heap.size, 0, none⟩) (.inl rfl) _
   have x4 := heap_setCell_self X3 (o := 0) (.string (batS b))
   have h4 := h3.fr hf4 (by omega)
   have F4 := Lib.hid (((F2.out.mono (S' := fun i => i = cb) fun _ h => h.elim).trans f3 fun _ h => .inl h).trans hf4 fun i h => .inr (by omega))
   have W4 := Lib.hid (ctext_walk h4 ⟨w.heap.size, 0, none⟩ (batS b) 60008 (by have := BS.out; omega) ((cell_of x4 0).trans rfl) (by show w.heap.size ≠ cb; omega) (by omega))
   rw [show (bad || !okT (batS b) 60008) = bad by unfold okT; rw [decide_eq_true (by have := BS.out; omega)]; cases bad <;> rfl] at W4
   clear W h3 f3 X3 hf4 x4 h4
   go_wp2_with fail
   refine W4.out.mono ?_
   rintro e w5 ⟨rfl, h5, f5⟩
   have H5 := Lib.hid h5
   have F5 := Lib.hid (F4.out.trans f5 fun _ h => .inl h)
   have d5 := fun j => cell_of h5 j
   clear h5 f5 W4 dd fz
   go_wp2_with fail
   go_end0
   rw [OT.out, OK.out]
   exact ⟨rfl, H5.out, F5.out⟩
  ·have OT := Lib.hid (show optT b = ByteArray.empty by unfold optT; rw [HE2.out, if_neg (by simp), if_neg hok])
   have OK := Lib.hid (show (bad || !optOk b) = true by simp [optOk, HE2.out, hok])
   have W := Lib.hid (cwant_walk H2.out false)
   rw [show (bad || !false) = true by cases bad <;> rfl] at W
   clear hok
   go_wp2_with fail
   refine W.out.mono ?_
   rintro e w3 ⟨rfl, h3, f3⟩
   have X3 := (f3.block _ (lt_of_heap X2.out) (by omega)).trans X2.out
   have dd := fun j => cell_of X3 j
   have fz := fun j => fz_of X3 j
   have hf4 : Fr (fun i => i = w.heap.size) w3 (w3.setCell ⟨w.heap.size, 0, none⟩ (.string ByteArray.empty)) := (Fr.refl (fun i => i = w.heap.size) w3).setCell (p := ⟨w.heap.size, 0, none⟩) (.inl rfl) _
   have x4 := heap_setCell_self X3 (o := 0) (.string ByteArray.empty)
   have h4 := h3.fr hf4 (by omega)
   have F4 := Lib.hid (((F2.out.mono (S' := fun i => i = cb) fun _ h => h.elim).trans f3 fun _ h => .inl h).trans hf4 fun i h => .inr (by omega))
   have W4 := Lib.hid (ctext_walk h4 ⟨w.heap.size, 0, none⟩ ByteArray.empty 60008 (Nat.zero_le _) ((cell_of x4 0).trans rfl) (by show w.heap.size ≠ cb; omega) (by omega))
   rw [show (true || !okT ByteArray.empty 60008) = true by rfl] at W4
   clear W h3 f3 X3 hf4 x4 h4
   go_wp2_with fail
   refine W4.out.mono ?_
   rintro e w5 ⟨rfl, h5, f5⟩
   have H5 := Lib.hid h5
   have F5 := Lib.hid (F4.out.trans f5 fun _ h => .inl h)
   have d5 := fun j => cell_of h5 j
   clear h5 f5 W4 dd fz
   go_wp2_with fail
   go_end0
   rw [OT.out, OK.out]
   exact ⟨rfl, H5.out, F5.out⟩
end
end Go.Proofs.YtfdhofabgdkkkaaGreatDoor
