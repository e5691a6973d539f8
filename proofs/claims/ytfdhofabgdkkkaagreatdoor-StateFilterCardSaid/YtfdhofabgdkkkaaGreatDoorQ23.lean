/- Decode of a batch: of what Encode has written, and of a torn one: the walks. -/
import Derived.Test.YtfdhofabgdkkkaaGreatDoorQ22
import Derived.Test.YtfdhofabgdkkkaaGreatDoorQ19
namespace Go.Proofs.YtfdhofabgdkkkaaGreatDoor
open Go.RowKit Go.Fm Go.BigFrame Go.Shelf
set_option linter.unusedVariables false
set_option linter.unusedSimpArgs false
def BDecPost (w : World) (b : Bat) (z : Int) (e : Ending) (w' : World) : Prop :=
 ∃ rv, e = .returned (.tuple #[batV b rv, .int .i64 z, .int .i64 0]) ∧ RecsR (fun b => w.heap.size ≤ b) w' rv b.recs ∧ rv.oneCell' = true ∧ Fr (fun _ => False) w w'
theorem read_is {s : ByteArray} {a n a' c : Int} (h : readS s a = (n, a', c)) (w : World) (hs : s.size ≤ maxLen) : Calls Tryz.prog 136 #[.string s, .int .i64 a, .int .i64 4] w fun e w' => e = .returned (.tuple #[.int .i64 n, .int .i64 a', .int .i64 c]) ∧ Fr (fun _ => False) w w' :=
 (read_walk s a w hs).mono fun e w' ⟨h1, h2⟩ => ⟨by rw [h] at h1; exact h1, h2⟩
set_option maxRecDepth 100000 in
set_option maxHeartbeats 16000000 in
theorem bdecode_ok (s : ByteArray) (p : Nat) (b : Bat) (hb : BatOK b) (hI : BatIs s p b) (w : World) (hs : s.size ≤ 1000000000) (hst : StepsOK w) :
  Calls Tryz.prog 77 #[.string s, .int .i64 p] w (BDecPost w b ((p + (batS b).size : Nat) : Int)) := by
 have HB := Lib.hid hb
 have HI := Lib.hid hI
 have HS := Lib.hid hs
 have HST := Lib.hid hst
 have OB := Lib.hid (heap_alloc_self w (.cells batZ 35))
 have FA := Lib.hid ((Fr.same w).alloc (.cells batZ 35))
 have hml : s.size ≤ maxLen := by unfold maxLen; omega
 have HML := Lib.hid hml
 clear hb hI hst hml hs
 unfold batZ at OB FA
 go_enter Tryz.func77, Tryz.ntmps77
 go_wp2_with fail
 refine (read_is HI.out.r1 _ HML.out).mono ?_
 rintro e w1 ⟨rfl, hf⟩
 have F1 := Lib.hid (FA.out.tr hf)
 have OB1 := Lib.hid ((hf.block _ (lt_of_heap OB.out) fun h => h).trans OB.out)
 clear hf FA OB
 have hsum := sumS_in (bodyS b)
 obtain ⟨m, hm⟩ : ∃ m : Nat, sumS (bodyS b) = m := ⟨(sumS (bodyS b)).toNat, by omega⟩
 have HM := Lib.hid hm
 have hml : m < 4294967296 := by omega
 have hr2 := HI.out.r2
 rw [hm, Int.toNat_natCast] at hr2
 have HR2 := Lib.hid hr2
 clear hm hsum hr2
 go_wp2_with fail
 refine (read_is HR2.out _ HML.out).mono ?_
 rintro e w2 ⟨rfl, hf⟩
 have F2 := Lib.hid (F1.out.tr hf)
 have OB2 := Lib.hid ((hf.block _ (lt_of_heap OB1.out) fun h => h).trans OB1.out)
 clear hf F1 OB1
 have hn := HB.out.body
 have hroom := HI.out.room
 have hs := HS.out
 obtain ⟨n, hN⟩ : ∃ n, n = (bodyS b).size := ⟨_, rfl⟩
 have HN := Lib.hid hN
 rw [← hN] at hn hroom ⊢
 clear hN
 go_wp2_with fail
 have hcut : s.extract (p + 8) (p + 8 + n) = bodyS b := by rw [HN.out]; exact HI.out.cut
 rw [hcut]
 refine (sum_walk _ _ (by unfold maxLen; rw [← HN.out]; omega) (HST.out.old F2.out)).mono ?_
 rintro e w3 ⟨rfl, hf⟩
 have F3 := Lib.hid (F2.out.tr hf)
 have OB3 := Lib.hid ((hf.block _ (lt_of_heap OB2.out) fun h => h).trans OB2.out)
 clear hf F2 OB2
 rw [HM.out]
 have hmw : IntKind.i64.wrap (m : Int) = m := by
  simp only [IntKind.wrap_i64]
  omega
 go_wp2_with fail
 rw [hcut]
 obtain ⟨p1, p2, p3, p4, p5, q, hbi⟩ := bodyIs_of HB.out
 refine (inner_ok (bodyS b) b HB.out hbi _ (by unfold maxLen; rw [← HN.out]; omega)).mono ?_
 rintro e w4 ⟨rv, rfl, hr, h1c, hf⟩
 have F4 := F3.out.tr hf
 have OB4 := (hf.block _ (lt_of_heap OB3.out) fun h => h).trans OB3.out
 have hl3 := lt_of_heap OB3.out
 have hr4 := hr.mono (K' := fun b => w.heap.size < b) fun i hi _ => Nat.lt_of_lt_of_le hl3 hi
 obtain ⟨oa, cap, rfl, -⟩ := hr
 have F5 := Lib.hid (F4.alloc (.cells (batX b (.slice oa b.recs.length cap)) 35))
 have OB5 := Lib.hid ((heap_alloc_lt (.cells (batX b (.slice oa b.recs.length cap)) 35) (lt_of_heap OB4)).trans OB4)
 have R5 := Lib.hid (hr4.old ((Fr.same w4).alloc (.cells (batX b (.slice oa b.recs.length cap)) 35)))
 have HLO := Lib.hid (lt_of_heap OB4)
 clear hf F3 OB3 F4 OB4 hr4 hcut hl3
 unfold batX at *
 unfold batV
 have hne : w.heap.size ≠ w4.heap.size := by have := HLO.out; omega
 go_wp2_with (with_reducible refine wpList_store_all rfl 35 (.tmp 4) (.tmp 72) rfl w.heap.size rfl 35 #[.int .i64 0, .int .i64 0, .int .i64 0, .int .i64 0, .int .i64 0, .slice none 0 0] (.agg #[.int .i64 b.base, .int .i64 b.span, .int .i64 b.prod, .int .i64 b.epoch, .int .i64 b.seq, .slice oa b.recs.length cap]) rfl OB5.out rfl (by kernel_rfl) rfl ?_)
 intro w6 hb6 hg6
 have F6 := Lib.hid (F5.out.grown hg6 fun k e => by cases e; exact .inr (Nat.le_refl _))
 have hlo := HLO.out
 have R6 : RecsR (fun b => w.heap.size ≤ b) w6 (.slice oa b.recs.length cap) b.recs :=
  (R5.out.fr (S := fun i => i = w.heap.size) (Fr.grown (Fr.refl _ _) hg6 fun k e => by cases e; exact .inl rfl) fun i hi e => by omega).mono fun i hi _ => Nat.le_of_lt hi
 have R6 := Lib.hid R6
 have HB6 := Lib.hid hb6
 clear hb6 hg6 hlo
 have d0 : w6.cell? ⟨w.heap.size, 0, none⟩ = some (.int .i64 b.base) := (cell_of HB6.out 0).trans rfl
 have d1 : w6.cell? ⟨w.heap.size, 1, none⟩ = some (.int .i64 b.span) := (cell_of HB6.out 1).trans rfl
 have d2 : w6.cell? ⟨w.heap.size, 2, none⟩ = some (.int .i64 b.prod) := (cell_of HB6.out 2).trans rfl
 have d3 : w6.cell? ⟨w.heap.size, 3, none⟩ = some (.int .i64 b.epoch) := (cell_of HB6.out 3).trans rfl
 have d4 : w6.cell? ⟨w.heap.size, 4, none⟩ = some (.int .i64 b.seq) := (cell_of HB6.out 4).trans rfl
 have d5 : w6.cell? ⟨w.heap.size, 5, none⟩ = some (.slice oa b.recs.length cap) := (cell_of HB6.out 5).trans rfl
 go_wp2_with fail
 refine bodyPost_ret (v := .tuple #[batV b (.slice oa b.recs.length cap), .int .i64 ((p + (batS b).size : Nat) : Int), .int .i64 0]) (by
  have hz : ((p + (batS b).size : Nat) : Int) = p + 8 + n := by rw [batS_size, HN.out]; omega
  simp [results, Tryz.f77, go_sem, batV, d0, d1, d2, d3, d4, d5, hz]) rfl ⟨_, rfl, R6.out, rfl, F6.out⟩
end Go.Proofs.YtfdhofabgdkkkaaGreatDoor
/- Requests as bytes: a batch. -/
namespace Go.Proofs.YtfdhofabgdkkkaaGreatDoor
open Go.RowKit Go.Fm Go.BigFrame Go.Shelf Go.Maps
set_option linter.unusedVariables false
set_option linter.unusedSimpArgs false
set_option maxRecDepth 100000
section
variable {w w' : World} {cb : Nat} {s : ByteArray} {bad : Bool} {S : Nat → Prop}
def emptyB (b : Bat) : Bool := decide (b.base = 0) && (decide (b.span = 0) && (decide (b.prod = 0) && (decide (b.epoch = 0) && (decide (b.seq = 0) && decide (b.recs.length = 0)))))
theorem empty_walk (b : Bat) (oa : Option Addr) (n cap : Nat) (hn : n = b.recs.length) (w : World) : Calls Tryz.prog 188 #[batV b (.slice oa n cap)] w fun e w' => e = .returned (.bool (emptyB b)) ∧ Fr (fun _ => False) w w' := by
 subst hn
 obtain ⟨bbase, bspan, bprod, bepoch, bseq, brecs⟩ := b
 unfold batV emptyB
 dsimp only
 generalize brecs.length = n
 have FF := Lib.hid ((Fr.same w).alloc (.cells #[.int .i64 bbase, .int .i64 bspan, .int .i64 bprod, .int .i64 bepoch, .int .i64 bseq, .slice oa n cap] 35))
 by_cases h1 : bbase = 0
 ·rw [decide_eq_true h1, Bool.true_and]
  subst h1
  by_cases h2 : bspan = 0
  ·rw [decide_eq_true h2, Bool.true_and]
   subst h2
   by_cases h3 : bprod = 0
   ·rw [decide_eq_true h3, Bool.true_and]
    subst h3
    by_cases h4 : bepoch = 0
    ·rw [decide_eq_true h4, Bool.true_and]
     subst h4
     by_cases h5 : bseq = 0
     ·rw [decide_eq_true h5, Bool.true_and]
      subst h5
      by_cases h6 : n = 0
      ·rw [decide_eq_true h6]
       subst h6
       go_enter Tryz.func188, Tryz.ntmps188
       go_wp2_with fail
       go_ret
       exact ⟨rfl, FF.out⟩
      ·rw [decide_eq_false h6]
       have h7 : ¬ (n : Int) = 0 := by omega
       clear h6
       go_enter Tryz.func188, Tryz.ntmps188
       go_wp2_with fail
       go_ret
       exact ⟨by first | rfl | (congr 2; simpa using h7), FF.out⟩
     ·rw [decide_eq_false h5, Bool.false_and]
      go_enter Tryz.func188, Tryz.ntmps188
      go_wp2_with fail
      go_ret
      exact ⟨rfl, FF.out⟩
    ·rw [decide_eq_false h4, Bool.false_and]
     go_enter Tryz.func188, Tryz.ntmps188
     go_wp2_with fail
     go_ret
     exact ⟨rfl, FF.out⟩
   ·rw [decide_eq_false h3, Bool.false_and]
    go_enter Tryz.func188, Tryz.ntmps188
    go_wp2_with fail
    go_ret
    exact ⟨rfl, FF.out⟩
  ·rw [decide_eq_false h2, Bool.false_and]
   go_enter Tryz.func188, Tryz.ntmps188
   go_wp2_with fail
   go_ret
   exact ⟨rfl, FF.out⟩
 ·rw [decide_eq_false h1, Bool.false_and]
  go_enter Tryz.func188, Tryz.ntmps188
  go_wp2_with fail
  go_ret
  exact ⟨rfl, FF.out⟩
open Classical in
/-- The text of a batch that may be none. -/
noncomputable def optT (b : Bat) : ByteArray := if emptyB b = true then ByteArray.empty else if BatOK b then batS b else ByteArray.empty
open Classical in
noncomputable def optOk (b : Bat) : Bool := emptyB b || decide (BatOK b)
theorem batS_top {b : Bat} (h : BatOK b) : (batS b).size ≤ 60008 := by
 unfold batS
 have h1 := h.body
 have h2 := fix4_size (bodyS b).size
 have h3 := fix4_size (sumS (bodyS b)).toNat
 rw [ByteArray.size_append, ByteArray.size_append]
 omega
set_option maxHeartbeats 16000000 in
theorem cbatch_walk (h : CodA w cb s bad) (xb j : Nat) (K : Nat → Prop) (b : Bat) (rv : Value) (hb : BatAt w ⟨xb, j, none⟩ b rv) (hr : RecsR K w rv b.recs) (hne : xb ≠ cb) (hK : ¬ K cb) (hs : s.size ≤ 1600000000000000) (hst : StepsOK w) :
  Calls Tryz.prog 122 #[.pointer (some ⟨cb, 0, none⟩), .pointer (some ⟨xb, j, none⟩), .bool true] w (CodPost w cb (s ++ textS (optT b)) (bad || !optOk b)) := by
 obtain ⟨oa, cap, hrv, hrr⟩ := id hr
 have RV := Lib.hid hrv
 have hsz := lt_of_heap h
 have f0 := (Fr.same w).alloc (.cells #[.string ByteArray.empty] 9)
 have x0 := heap_alloc_self w (.cells #[.string ByteArray.empty] 9)
 have c0 := f0.cel hb.c0
 have c1 := f0.cel hb.c1
 have c2 := f0.cel hb.c2
 have c3 := f0.cel hb.c3
 have c4 := f0.cel hb.c4
 have c5 := f0.cel hb.c5
 have dd := fun j => cell_of (h.old f0) j
 have HB := Lib.hid (hb.to (f0.block _ hb.lt fun h => h))
 have HR := Lib.hid (hr.old f0)
 have H0 := Lib.hid (h.old f0)
 have X0 := Lib.hid x0
 have F0 := Lib.hid f0
 have ST := Lib.hid (hst.old f0)
 have HE := Lib.hid (empty_walk b oa b.recs.length cap rfl)
 subst hrv
 have HEN := Lib.hid (bencode_walk K b (.slice oa b.recs.length cap))
 clear hrr h hb hr hst
 unfold batV at HE HEN
 go_enter Tryz.func122, Tryz.ntmps122
 have x0e : (w.alloc (.cells #[.string ⟨#[]⟩] 9)) = (w.alloc (.cells #[.string ByteArray.empty] 9)) := rfl
 go_wp2_with fail
 generalize (w.alloc (.cells #[.string ByteArray.empty] 9)) = w0 at *
 refine (HE.out w0).mono ?_
 rintro e w1 ⟨rfl, hf1⟩
 have H1 := Lib.hid (H0.out.old hf1)
 have X1 := Lib.hid ((hf1.block _ (lt_of_heap X0.out) fun h => h).trans X0.out)
 have F1 := Lib.hid (F0.out.tr hf1)
 have B1 := Lib.hid (HB.out.to (hf1.block _ HB.out.lt fun h => h))
 have R1 := Lib.hid (HR.out.old hf1)
 have S1 := Lib.hid (ST.out.old hf1)
 clear hf1 c0 c1 c2 c3 c4 c5 dd HE f0 x0 H0 X0 F0 HB HR ST x0e RV
 by_cases he : emptyB b = true
 ·have OT := Lib.hid (show optT b = ByteArray.empty from if_pos he)
  have OK := Lib.hid (show (bad || !optOk b) = bad by unfold optOk; rw [he]; cases bad <;> rfl)
  rw [he]
  have W := Lib.hid (ctext_walk H1.out ⟨w.heap.size, 0, none⟩ ByteArray.empty 60008 (Nat.zero_le _) ((cell_of X1.out 0).trans rfl) (by show w.heap.size ≠ cb; omega) (by omega))
  rw [show (bad || !okT ByteArray.empty 60008) = bad by cases bad <;> rfl] at W
  go_wp2_with fail
  refine W.out.mono ?_
  rintro e w2 ⟨rfl, h2, f2⟩
  have H2 := Lib.hid h2
  have F2 := Lib.hid ((F1.out.mono (S' := fun i => i = cb) fun _ h => h.elim).trans f2 fun _ h => .inl h)
  have dd := fun j => cell_of h2 j
  clear h2 f2 W
  go_wp2_with fail
  go_end0
  rw [OT.out, OK.out]
  exact ⟨rfl, H2.out, F2.out⟩
 ·have he2 : emptyB b = false := by simpa using he
  rw [he2]
  have c0 := B1.out.c0
  have c1 := B1.out.c1
  have c2 := B1.out.c2
  have c3 := B1.out.c3
  have c4 := B1.out.c4
  have c5 := B1.out.c5
  have W := Lib.hid (HEN.out w1 R1.out S1.out)
  have HE2 := Lib.hid he2
  clear he he2
  go_wp2_with fail
  refine W.out.mono ?_
  rintro e w2 ⟨hcase, hf2⟩
  have H2 := Lib.hid (H1.out.old hf2)
  have X2 := Lib.hid ((hf2.block _ (lt_of_heap X1.out) fun h => h).trans X1.out)
  have F2 := Lib.hid (F1.out.tr hf2)
  clear hf2 c0 c1 c2 c3 c4 c5 W HEN H1 X1 F1 B1 R1 S1
  rcases hcase with ⟨hok, rfl⟩ | ⟨hok, rfl⟩
  ·have OT := Lib.hid (show optT b = batS b by unfold optT; rw [HE2.out, if_neg (by simp), if_pos hok])
   have OK := Lib.hid (show (bad || !optOk b) = bad by simp [optOk, HE2.out, hok])
   have BS := Lib.hid (batS_top hok)
   have W := Lib.hid (cwant_walk H2.out true)
   rw [show (bad || !true) = bad by cases bad <;> rfl] at W
   clear hok
   go_wp2_with fail
   refine W.out.mono ?_
   rintro e w3 ⟨rfl, h3, f3⟩
   have X3 := (f3.block _ (lt_of_heap X2.out) (by omega)).trans X2.out
   have dd := fun j => cell_of X3 j
   have fz := fun j => fz_of X3 j
   have hf4 : Fr (fun i => i = w.heap.size) w3 (w3.setCell ⟨w.heap.size, 0, none⟩ (.string (batS b))) := (Fr.refl (fun i => i = w.heap.size) w3).setCell (p := ⟨w.heap.size, 0, none⟩) (.inl rfl) _
   have x4 := heap_setCell_self X3 (o := 0) (.string (batS b))
   have h4 := h3.fr hf4 (by omega)
   have F4 := Lib.hid (((F2.out.mono (S' := fun i => i = cb) fun _ h => h.elim).trans f3 fun _ h => .inl h).trans hf4 fun i h => .inr (by omega))
   have W4 := Lib.hid (ctext_walk h4 ⟨w.heap.size, 0, none⟩ (batS b) 60008 (by have := BS.out; omega) ((cell_of x4 0).trans rfl) (by show w.heap.size ≠ cb; omega) (by omega))
   rw [show (bad || !okT (batS b) 60008) = bad by unfold okT; rw [decide_eq_true (by have := BS.out; omega)]; cases bad <;> rfl] at W4
   clear W h3 f3 X3 hf4 x4 h4
   go_wp2_with fail
   refine W4.out.mono ?_
   rintro e w5 ⟨rfl, h5, f5⟩
   have H5 := Lib.hid h5
   have F5 := Lib.hid (F4.out.trans f5 fun _ h => .inl h)
   have d5 := fun j => cell_of h5 j
   clear h5 f5 W4 dd fz
   go_wp2_with fail
   go_end0
   rw [OT.out, OK.out]
   exact ⟨rfl, H5.out, F5.out⟩
  ·have OT := Lib.hid (show optT b = ByteArray.empty by unfold optT; rw [HE2.out, if_neg (by simp), if_neg hok])
   have OK := Lib.hid (show (bad || !optOk b) = true by simp [optOk, HE2.out, hok])
   have W := Lib.hid (cwant_walk H2.out false)
   rw [show (bad || !false) = true by cases bad <;> rfl] at W
   clear hok
   go_wp2_with fail
   refine W.out.mono ?_
   rintro e w3 ⟨rfl, h3, f3⟩
   have X3 := (f3.block _ (lt_of_heap X2.out) (by omega)).trans X2.out
   have dd := fun j => cell_of X3 j
   have fz := fun j => fz_of X3 j
   have hf4 : Fr (fun i => i = w.heap.size) w3 (w3.setCell ⟨w.heap.size, 0, none⟩ (.string ByteArray.empty)) := (Fr.refl (fun i => i = w.heap.size) w3).setCell (p := ⟨w.heap.size, 0, none⟩) (.inl rfl) _
   have x4 := heap_setCell_self X3 (o := 0) (.string ByteArray.empty)
   have h4 := h3.fr hf4 (by omega)
   have F4 := Lib.hid (((F2.out.mono (S' := fun i => i = cb) fun _ h => h.elim).trans f3 fun _ h => .inl h).trans hf4 fun i h => .inr (by omega))
   have W4 := Lib.hid (ctext_walk h4 ⟨w.heap.size, 0, none⟩ ByteArray.empty 60008 (Nat.zero_le _) ((cell_of x4 0).trans rfl) (by show w.heap.size ≠ cb; omega) (by omega))
   rw [show (true || !okT ByteArray.empty 60008) = true by rfl] at W4
   clear W h3 f3 X3 hf4 x4 h4
   go_wp2_with fail
   refine W4.out.mono ?_
   rintro e w5 ⟨rfl, h5, f5⟩
   have H5 := Lib.hid h5
   have F5 := Lib.hid (F4.out.trans f5 fun _ h => .inl h)
   have d5 := fun j => cell_of h5 j
   clear h5 f5 W4 dd fz
   go_wp2_with fail
   go_end0
   rw [OT.out, OK.out]
   exact ⟨rfl, H5.out, F5.out⟩
end
end Go.Proofs.YtfdhofabgdkkkaaGreatDoor
