/- What was produced is fetched: the walk of StateFetches. -/
import Derived.Test.YtfdhofabgdkkkaaGreatDoorY47
import Derived.Test.YtfdhofabgdkkkaaGreatDoorY49
import Derived.Test.YtfdhofabgdkkkaaGreatDoorY50
namespace Go.Proofs.YtfdhofabgdkkkaaGreatDoor
open Go.RowKit Go.Fm Go.BigFrame Go.Shelf Go.Maps
set_option linter.unusedVariables false
set_option linter.unusedSimpArgs false
set_option maxRecDepth 100000
section
variable {w w' : World} {S : Nat → Prop}
theorem put_none (a : Act) (v : Value) : a.put none v = a := rfl
set_option maxHeartbeats 64000000 in
theorem fetches_walk (l : List Bat) (v : Value) (w : World) (hl : BatsR (fun _ => True) w v l) (hst : StepsOK w) (hw0 : 1 ≤ w.heap.size) :
  Calls Tryz.prog 3 #[v] w fun e w' => e = .returned (.bool true) ∧ Fr (fun _ => False) w w' := by
 have hl2 := hl.mono (K' := fun b => b < w.heap.size) fun b _ h => h
 clear hl
 obtain ⟨oa, cap, rfl, hcl⟩ := id hl2
 have BL := Lib.hid hl2
 have ST := Lib.hid hst
 clear hl2 hst hcl
 by_cases h12 : l.length ≤ 12
 ·go_enter Tryz.func3, Tryz.ntmps3
  go_wp2_with fail
  refine (snew_ok 10 10 (by omega) (by omega)).mono ?_
  rintro e w1 ⟨mb, tb, tmb, pm, cv, rfl, hM1, hg, f1⟩
  have M1 := Lib.hid hM1
  have F1 := Lib.hid f1
  have GE := Lib.hid hg
  have C1 := Lib.hid (made hM1 hg f1 ST.out 2 (by omega))
  unfold plainV tS at C1
  clear hM1 f1 hg
  go_wp2_with fail
  refine C1.out.mono ?_
  rintro e w3 ⟨rfl, m3, hO, hnew, hno⟩
  obtain ⟨d0, hd0, hnp0⟩ := hnew 0 (by omega) (by omega)
  obtain ⟨d1, hd1, hnp⟩ := hnew 1 (by omega) (by omega)
  have L3 := Lib.hid (fet_new hO hd1 hnp hd0 hnp0)
  have EN := Lib.hid hnp.en
  clear hO hnew hd1 hnp hno C1 M1 F1 GE hd0 hnp0
  go_wp2_with fail
  go_loopw [5, 6] (fun en i wr => ∃ (k : Nat) (m : MachD) (d : PartD), i = .int .i64 k ∧ en = .int .i64 d.en ∧ k ≤ l.length ∧ FetSt w wr mb m d k) (fun _ i _ => l.length - (intOf i).toNat)
  case atStart => exact ⟨0, m3, d1, rfl, by rw [EN.out], Nat.zero_le _, L3.out⟩
  case round =>
   obtain ⟨k, m, d, rfl, rfl, hk, hF⟩ := hrel
   have FS := Lib.hid hF
   have BW := Lib.hid (BL.out.old hF.o.n.f)
   clear hF
   rcases Nat.lt_or_ge k l.length with hlt | hge
   ·have lenk := hk
    obtain ⟨x, hx⟩ := get_of_lt hlt
    obtain ⟨oa', cap', a, rvx, hsl, rfl, hab, hat, hrr⟩ := batsR_at BW.out hx
    injection hsl with e1 e2 e3
    subst e1 e3
    clear e2
    obtain ⟨ra, rc, rfl, -⟩ := id hrr
    have HAT := Lib.hid hat
    have HRR := Lib.hid hrr
    have HX := Lib.hid hx
    have SM := Lib.hid (small_walk _ x _ wr hrr)
    unfold batV at SM
    obtain ⟨c0, c1, c2, c3, c4, c5⟩ := hat
    clear hrr hx lenk
    go_wp2_with fail
    refine SM.out.mono ?_
    rintro e w4 ⟨c, rfl, hcs, f4⟩
    have F4 := Lib.hid f4
    have S4 := Lib.hid (FS.out.old f4)
    have ST4 := Lib.hid (ST.out.old S4.out.o.n.f)
    cases c with
    | false =>
     clear hcs f4 SM c0 c1 c2 c3 c4 c5
     go_wp2_with fail
     refine (live_walk ST4.out (by have := S4.out.o.n.f.size; omega)).mono ?_
     rintro e w5 ⟨rfl, f5⟩
     have F5 := Lib.hid (S4.out.o.n.f.tr f5)
     clear f5
     go_wp2_with fail
     go_ret
     exact ⟨rfl, F5.out⟩
    | true =>
     have SB := Lib.hid (hcs rfl)
     have H4 := Lib.hid (HAT.out.to (f4.block _ HAT.out.lt fun h => h))
     have R4 := Lib.hid (HRR.out.old f4)
     clear hcs f4 SM c0 c1 c2 c3 c4 c5
     obtain ⟨c0, c1, c2, c3, c4, c5⟩ := H4.out
     have CP := Lib.hid (copy_bat _ x _ w4 R4.out (by have := SB.out.len; omega) (fun r hr => by have := (SB.out.recs r hr).1; omega))
     unfold batV at CP
     go_wp2_with fail
     refine CP.out.mono ?_
     rintro e w5 ⟨rv5, rfl, hr5, f5⟩
     obtain ⟨ra3, rc3, rfl, -⟩ := id hr5
     have S5 := Lib.hid (S4.out.old f5)
     have R5 := Lib.hid (hr5.mono (K' := fun i => w4.heap.size ≤ i ∧ i < w5.heap.size) fun i hi hl => ⟨hi, hl⟩)
     have W45 := Lib.hid f5.size
     have fa := (Fr.same w5).alloc (.cells #[.int .i64 0, .int .i64 x.span, .int .i64 x.prod, .int .i64 x.epoch, .int .i64 x.seq, .slice ra3 x.recs.length rc3] 35)
     have X7 := Lib.hid (heap_alloc_self w5 (.cells #[.int .i64 0, .int .i64 x.span, .int .i64 x.prod, .int .i64 x.epoch, .int .i64 x.seq, .slice ra3 x.recs.length rc3] 35))
     have S6 := Lib.hid (S5.out.old fa)
     have R6 := Lib.hid (R5.out.old fa)
     have PS := Lib.hid (fet_prod S6.out ST.out (by omega) ⟨0, x.span, x.prod, x.epoch, x.seq, x.recs⟩ _ (R6.out.mono (K' := fun i => i < (w5.alloc (.cells #[.int .i64 0, .int .i64 x.span, .int .i64 x.prod, .int .i64 x.epoch, .int .i64 x.seq, .slice ra3 x.recs.length rc3] 35)).heap.size) fun i _ h => h))
     rw [prodV] at PS
     unfold tS at PS
     dsimp only at PS
     clear f5 hr5 fa CP c0 c1 c2 c3 c4 c5
     unfold batV
     go_wp2_with fail
     generalize (w5.alloc (.cells #[.int .i64 0, .int .i64 x.span, .int .i64 x.prod, .int .i64 x.epoch, .int .i64 x.seq, .slice ra3 x.recs.length rc3] 35)) = w6 at *
     refine PS.out.mono ?_
     rintro e w7 ⟨ee, cc, rfl, m7, d7, hS7, f7, hA7, hcase⟩
     have dl4 : ∀ i, d.T i → i < w4.heap.size := fun i h => ((S4.out.o.n.a.part _ (findP_mem S4.out.f)).lt i h).2
     have w56 := lt_of_heap X7.out
     have w45 := W45.out
     have X7b := Lib.hid ((f7.block _ (lt_of_heap X7.out) (fun h => by have := dl4 _ h; omega)).trans X7.out)
     have R7 := Lib.hid (R6.out.fr f7 fun i hi h => by have := dl4 _ h; have hi : w4.heap.size ≤ i ∧ i < w5.heap.size := hi; omega)
     have A7 := Lib.hid (show ¬ m7.A w5.heap.size from fun h => (hA7 _ h).elim (fun h => by have := MachD.A_lt S5.out.o.n.a h; omega) fun h => by omega)
     have S7 := Lib.hid hS7
     have W07 := Lib.hid (show w.heap.size ≤ w5.heap.size from S5.out.o.n.f.size)
     have WS7 := Lib.hid (show w5.heap.size < w7.heap.size from Nat.lt_of_lt_of_le w56 f7.size)
     clear hS7 f7 hA7 dl4 w56 w45 PS X7 R6
     have HCASE := Lib.hid hcase
     clear hcase
     by_cases hee : ee = 0
     ·subst hee
      by_cases hcc : cc = d.en
      ·subst hcc
       obtain ⟨-, -, hok, hbats, hen⟩ : (0 : Int) = 0 ∧ d.en = d.en ∧ BatOK (atB d ⟨0, x.span, x.prod, x.epoch, x.seq, x.recs⟩) ∧ d7.bats = d.bats ++ [atB d ⟨0, x.span, x.prod, x.epoch, x.seq, x.recs⟩] ∧ d7.en = d.en + x.span := HCASE.out.elim id fun h => absurd ⟨rfl, rfl⟩ h.1
       have HB := Lib.hid (And.intro hok (And.intro hbats hen))
       clear hok hbats hen HCASE
       have HZ := heap_alloc_self w7 (.cells #[.int .i64 0, .int .i64 0, .int .i64 0, .int .i64 0, .int .i64 0, .int .i64 0, .int .i64 0, .slice none 0 0, .slice none 0 0, .slice none 0 0] 31)
       obtain ⟨bf, bx⟩ := box31 w7 (repA 0 d.en 0 0 0 0 0 (.slice none 0 0) (.slice none 0 0) (.slice none 0 0))
       have G8 := Lib.hid bx
       have X8 := Lib.hid (blk X7b.out bf fun h => h)
       have R8 := Lib.hid (R7.out.old bf)
       have S8 := Lib.hid (S7.out.old bf)
       have y0 : ((w7.alloc (.cells #[.int .i64 0, .int .i64 0, .int .i64 0, .int .i64 0, .int .i64 0, .int .i64 0, .int .i64 0, .slice none 0 0, .slice none 0 0, .slice none 0 0] 31)).setRow w7.heap.size (repA 0 d.en 0 0 0 0 0 (.slice none 0 0) (.slice none 0 0) (.slice none 0 0))).cell? ⟨w7.heap.size, 0, none⟩ = some (.int .i64 (0)) := (cell_of G8.out 0).trans rfl
       have y1 : ((w7.alloc (.cells #[.int .i64 0, .int .i64 0, .int .i64 0, .int .i64 0, .int .i64 0, .int .i64 0, .int .i64 0, .slice none 0 0, .slice none 0 0, .slice none 0 0] 31)).setRow w7.heap.size (repA 0 d.en 0 0 0 0 0 (.slice none 0 0) (.slice none 0 0) (.slice none 0 0))).cell? ⟨w7.heap.size, 1, none⟩ = some (.int .i64 d.en) := (cell_of G8.out 1).trans rfl
       clear bf bx
       have w57 := WS7.out
       have dx := cell_of X8.out 0
       have fx := fz_of X8.out 0
       have fS : Fr (fun i => i = w5.heap.size) ((w7.alloc (.cells #[.int .i64 0, .int .i64 0, .int .i64 0, .int .i64 0, .int .i64 0, .int .i64 0, .int .i64 0, .slice none 0 0, .slice none 0 0, .slice none 0 0] 31)).setRow w7.heap.size (repA 0 d.en 0 0 0 0 0 (.slice none 0 0) (.slice none 0 0) (.slice none 0 0))) (((w7.alloc (.cells #[.int .i64 0, .int .i64 0, .int .i64 0, .int .i64 0, .int .i64 0, .int .i64 0, .int .i64 0, .slice none 0 0, .slice none 0 0, .slice none 0 0] 31)).setRow w7.heap.size (repA 0 d.en 0 0 0 0 0 (.slice none 0 0) (.slice none 0 0) (.slice none 0 0))).setCell ⟨w5.heap.size, 0, none⟩ (.int .i64 d.en)) := (Fr.refl (fun i => i = w5.heap.size) _).setCell (p := ⟨w5.heap.size, 0, none⟩) (.inl rfl) _
       have S9 := Lib.hid (S8.out.aside fS W07.out A7.out)
       have X9 := Lib.hid ((heap_setCell_self X8.out (o := 0) (.int .i64 d.en)).trans (show _ = some (.cells #[.int .i64 d.en, .int .i64 x.span, .int .i64 x.prod, .int .i64 x.epoch, .int .i64 x.seq, .slice ra3 x.recs.length rc3] 35 (0, 0)) from rfl))
       have R9 := Lib.hid (R8.out.fr fS fun i hi e => by have hi : w4.heap.size ≤ i ∧ i < w5.heap.size := hi; omega)
       have y1b := fS.cell y1 (by show w7.heap.size ≠ w5.heap.size; omega)
       clear fS w57
       go_wp2_with (refine wpList_store31 rfl _ _ rfl w7.heap.size 0 d.en rfl rfl _ HZ rfl ?_)
       generalize (((w7.alloc (.cells #[.int .i64 0, .int .i64 0, .int .i64 0, .int .i64 0, .int .i64 0, .int .i64 0, .int .i64 0, .slice none 0 0, .slice none 0 0, .slice none 0 0] 31)).setRow w7.heap.size (repA 0 d.en 0 0 0 0 0 (.slice none 0 0) (.slice none 0 0) (.slice none 0 0))).setCell ⟨w5.heap.size, 0, none⟩ (.int .i64 d.en)) = w9 at *
       clear y0 y1 y1b dx fx HZ G8 X8 R8 S8
       have hok : BatOK (atB d ⟨0, x.span, x.prod, x.epoch, x.seq, x.recs⟩) := HB.out.1
       have FT := Lib.hid (fet_fetch S9.out ST.out (by omega) HB.out.2.1 (show d.en + x.span = d7.en by rw [HB.out.2.2]) hok.span0 hok.base0 (fun y hy => FS.out.le y hy))
       clear hok
       unfold plainV tS at FT
       dsimp only [atB] at FT
       refine FT.out.mono ?_
       rintro e wa ⟨oa9, c9, rfl, hba, hSa, fa9⟩
       have Sa := Lib.hid hSa
       have X9 := Lib.hid (blk X9.out fa9 fun h => h)
       have R9 := Lib.hid (R9.out.old fa9)
       have Ba := Lib.hid hba
       clear hba hSa fa9 FT S9
       have HZ := heap_alloc_self wa (.cells #[.int .i64 0, .int .i64 0, .int .i64 0, .int .i64 0, .int .i64 0, .int .i64 0, .int .i64 0, .slice none 0 0, .slice none 0 0, .slice none 0 0] 31)
       obtain ⟨bf, bx⟩ := box31 wa (repA 0 0 0 d7.en 0 0 0 (.slice oa9 1 c9) (.slice none 0 0) (.slice none 0 0))
       have G9 := Lib.hid bx
       have Sb := Lib.hid (Sa.out.old bf)
       have X9 := Lib.hid (blk X9.out bf fun h => h)
       have R9 := Lib.hid (R9.out.old bf)
       have Bb := Lib.hid (Ba.out.old bf)
       clear bf bx Sa Ba
       go_wp2_with (refine wpList_store31g rfl _ _ rfl wa.heap.size 0 0 0 d7.en (.slice oa9 1 c9) rfl rfl rfl _ HZ rfl ?_)
       clear HZ
       generalize ((wa.alloc (.cells #[.int .i64 0, .int .i64 0, .int .i64 0, .int .i64 0, .int .i64 0, .int .i64 0, .int .i64 0, .slice none 0 0, .slice none 0 0, .slice none 0 0] 31)).setRow wa.heap.size (repA 0 0 0 d7.en 0 0 0 (.slice oa9 1 c9) (.slice none 0 0) (.slice none 0 0))) = wb at *
       obtain ⟨oa10, cap10, a10, rv10, hs10, rfl, -, hat10, hr10⟩ := batsR_at Bb.out (k := 0) rfl
       injection hs10 with e1 e2 e3
       subst e1 e3
       clear e2
       obtain ⟨ra10, rc10, rfl, -⟩ := id hr10
       have hz : a10.add (0 * 6) = a10 := by unfold Addr.add; simp
       rw [hz] at hat10
       have H10 := Lib.hid hat10
       have R10 := Lib.hid hr10
       have hbs := HB.out.1.span0
       have hbs1 := HB.out.1.span1
       dsimp only [atB] at hbs hbs1
       have hen0 := FS.out.en
       have hk100 : (k : Int) ≤ 100 := by omega
       have z0 : ∀ y : Lcl.InS (fun w' => Fr (fun _ => False) wb w'), y.w.cell? ⟨wa.heap.size, 0, none⟩ = some (.int .i64 0) := fun y => y.h.cel ((cell_of G9.out 0).trans rfl)
       have z1 : ∀ y : Lcl.InS (fun w' => Fr (fun _ => False) wb w'), y.w.cell? ⟨wa.heap.size, 3, none⟩ = some (.int .i64 (d.en + x.span)) := fun y => y.h.cel ((cell_of G9.out 3).trans (by rw [← HB.out.2.2]; rfl))
       have z2 : ∀ y : Lcl.InS (fun w' => Fr (fun _ => False) wb w'), y.w.cell? ⟨wa.heap.size, 7, none⟩ = some (.slice (some a10) 1 c9) := fun y => y.h.cel ((cell_of G9.out 7).trans rfl)
       have t0 : ∀ y : Lcl.InS (fun w' => Fr (fun _ => False) wb w'), y.w.cell? ⟨w5.heap.size, 0, none⟩ = some (.int .i64 d.en) := fun y => y.h.cel ((cell_of X9.out 0).trans rfl)
       have t1 : ∀ y : Lcl.InS (fun w' => Fr (fun _ => False) wb w'), y.w.cell? ⟨w5.heap.size, 1, none⟩ = some (.int .i64 x.span) := fun y => y.h.cel ((cell_of X9.out 1).trans rfl)
       have t2 : ∀ y : Lcl.InS (fun w' => Fr (fun _ => False) wb w'), y.w.cell? ⟨w5.heap.size, 2, none⟩ = some (.int .i64 x.prod) := fun y => y.h.cel ((cell_of X9.out 2).trans rfl)
       have t3 : ∀ y : Lcl.InS (fun w' => Fr (fun _ => False) wb w'), y.w.cell? ⟨w5.heap.size, 3, none⟩ = some (.int .i64 x.epoch) := fun y => y.h.cel ((cell_of X9.out 3).trans rfl)
       have t4 : ∀ y : Lcl.InS (fun w' => Fr (fun _ => False) wb w'), y.w.cell? ⟨w5.heap.size, 4, none⟩ = some (.int .i64 x.seq) := fun y => y.h.cel ((cell_of X9.out 4).trans rfl)
       have t5 : ∀ y : Lcl.InS (fun w' => Fr (fun _ => False) wb w'), y.w.cell? ⟨w5.heap.size, 5, none⟩ = some (.slice ra3 x.recs.length rc3) := fun y => y.h.cel ((cell_of X9.out 5).trans rfl)
       have u0 : ∀ y : Lcl.InS (fun w' => Fr (fun _ => False) wb w'), y.w.cell? a10 = some (.int .i64 d.en) := fun y => y.h.cel (H10.out.c0)
       have u1 : ∀ y : Lcl.InS (fun w' => Fr (fun _ => False) wb w'), y.w.cell? ⟨a10.block, a10.off + 1, none⟩ = some (.int .i64 x.span) := fun y => y.h.cel (H10.out.c1)
       have u2 : ∀ y : Lcl.InS (fun w' => Fr (fun _ => False) wb w'), y.w.cell? ⟨a10.block, a10.off + 2, none⟩ = some (.int .i64 x.prod) := fun y => y.h.cel (H10.out.c2)
       have u3 : ∀ y : Lcl.InS (fun w' => Fr (fun _ => False) wb w'), y.w.cell? ⟨a10.block, a10.off + 3, none⟩ = some (.int .i64 x.epoch) := fun y => y.h.cel (H10.out.c3)
       have u4 : ∀ y : Lcl.InS (fun w' => Fr (fun _ => False) wb w'), y.w.cell? ⟨a10.block, a10.off + 4, none⟩ = some (.int .i64 x.seq) := fun y => y.h.cel (H10.out.c4)
       have u5 : ∀ y : Lcl.InS (fun w' => Fr (fun _ => False) wb w'), y.w.cell? ⟨a10.block, a10.off + 5, none⟩ = some (.slice ra10 x.recs.length rc10) := fun y => y.h.cel (H10.out.c5)
       clear hat10 hr10 hz
       rw [put_none]
       refine Lcl.wp_region_calm (by kernel_rfl) [(true, [0]), (false, [1]), (true, [2, 3, 4, 6, 7]), (false, [5, 8]), (true, [9, 10, 11, 12, 13]), (false, [14]), (true, [15, 16, 17, 18, 19]), (false, [20, 23]), (true, [21]), (false, [22])] #[0, 1, 3, 7, 15, 31, 15, 15, 143, 463, 1023, 2047, 4095, 8191, 16383, 32767, 65535, 131071, 262143, 524287, 1048575, 2097151, 4194303, 524287, 16777215, 33554431, 67108863] [0, 1, 2, 3, 4, 5, 6, 7, 8, 9, 10, 11, 12, 13, 14, 15, 16, 17, 18, 19, 20, 21, 22, 23] 3 #[true, true, true, true, true, true, true, true, true, true, true, true, true, true, true, true, true, true, true, true, true, true, true, true, false, false, false] (by kernel_rfl) (by kernel_rfl) (by kernel_rfl) (fun w' => Fr (fun _ => False) wb w') (Fr.same wb).drew (fun d c a v w h => by cases d <;> exact h) ?_
       simp only [Lcl.opsOf, List.map_cons, List.map_nil, List.getElem?_toArray, List.getElem?_cons_succ, List.getElem?_cons_zero, Option.getD_some]
       refine Lcl.wpCalm_t ?_
       repeat (go_big_quiet_step (rfl))
       refine wpQuiet_nil ?_
       refine Lcl.wpCalm_f ?_
       repeat (go_big_quiet_step (rfl))
       refine wpQuiet_nil ?_
       refine Lcl.wpCalm_t ?_
       repeat (go_big_quiet_step (rfl))
       refine wpQuiet_nil ?_
       refine Lcl.wpCalm_f ?_
       repeat (go_big_quiet_step (rfl))
       refine wpQuiet_nil ?_
       refine Lcl.wpCalm_t ?_
       repeat (go_big_quiet_step (rfl))
       refine wpQuiet_nil ?_
       refine Lcl.wpCalm_f ?_
       repeat (go_big_quiet_step (rfl))
       refine wpQuiet_nil ?_
       refine Lcl.wpCalm_t ?_
       repeat (go_big_quiet_step (rfl))
       refine wpQuiet_nil ?_
       refine Lcl.wpCalm_f ?_
       repeat (go_big_quiet_step (rfl))
       refine wpQuiet_nil ?_
       refine Lcl.wpCalm_t ?_
       repeat (go_big_quiet_step (rfl))
       refine wpQuiet_nil ?_
       refine Lcl.wpCalm_f ?_
       repeat (go_big_quiet_step (rfl))
       refine wpQuiet_nil ?_
       refine Lcl.wpCalm_nil ?_
       clear z0 z1 z2 t0 t1 t2 t3 t4 t5 u0 u1 u2 u3 u4 u5
       have DB := Lib.hid (Fr.same wb).drew
       have Sc := Lib.hid (Sb.out.old DB.out)
       have Rc := Lib.hid (R10.out.old DB.out)
       have Rd := Lib.hid (R9.out.old DB.out)
       have G9 := Lib.hid (blk G9.out DB.out fun h => h)
       generalize wb.drew = wc at *
       have SMW := Lib.hid (same_bat _ _ (atB d ⟨0, x.span, x.prod, x.epoch, x.seq, x.recs⟩) _ _ wc Rc.out Rd.out (by have := SB.out.len; show x.recs.length ≤ 100; omega) (fun r hr => by have := (SB.out.recs r hr).1; omega))
       unfold batV at SMW
       dsimp only [atB] at SMW
       refine Lcl.wpG_run [24, 25, 26] _ _ _ (by kernel_rfl) ?_
       simp only [List.map_cons, List.map_nil, List.getElem?_toArray, List.getElem?_cons_succ, List.getElem?_cons_zero, Option.getD_some]
       go_wp2_with fail
       refine SMW.out.mono ?_
       rintro e wd ⟨rfl, fd⟩
       have Sd := Lib.hid (Sc.out.old fd)
       have c93 : wd.cell? ⟨wa.heap.size, 3, none⟩ = some (.int .i64 d7.en) := fd.cel ((cell_of G9.out 3).trans rfl)
       clear fd SMW
       go_wp2_with fail
       go_roundw
       case rel => exact ⟨k + 1, m7, d7, by go_num, rfl, by omega, Sd.out⟩
       case measure => simp [intOf]; omega
      ·have hen : d7.en = d.en := HCASE.out.elim (fun h => absurd h.2.1 hcc) fun h => h.2
       have HEN := Lib.hid hen
       clear hen HCASE
       have HZ := heap_alloc_self w7 (.cells #[.int .i64 0, .int .i64 0, .int .i64 0, .int .i64 0, .int .i64 0, .int .i64 0, .int .i64 0, .slice none 0 0, .slice none 0 0, .slice none 0 0] 31)
       obtain ⟨bf, bx⟩ := box31 w7 (repA 0 cc 0 0 0 0 0 (.slice none 0 0) (.slice none 0 0) (.slice none 0 0))
       have G8 := Lib.hid bx
       have X8 := Lib.hid (blk X7b.out bf fun h => h)
       have R8 := Lib.hid (R7.out.old bf)
       have S8 := Lib.hid (S7.out.old bf)
       have y0 : ((w7.alloc (.cells #[.int .i64 0, .int .i64 0, .int .i64 0, .int .i64 0, .int .i64 0, .int .i64 0, .int .i64 0, .slice none 0 0, .slice none 0 0, .slice none 0 0] 31)).setRow w7.heap.size (repA 0 cc 0 0 0 0 0 (.slice none 0 0) (.slice none 0 0) (.slice none 0 0))).cell? ⟨w7.heap.size, 0, none⟩ = some (.int .i64 (0)) := (cell_of G8.out 0).trans rfl
       have y1 : ((w7.alloc (.cells #[.int .i64 0, .int .i64 0, .int .i64 0, .int .i64 0, .int .i64 0, .int .i64 0, .int .i64 0, .slice none 0 0, .slice none 0 0, .slice none 0 0] 31)).setRow w7.heap.size (repA 0 cc 0 0 0 0 0 (.slice none 0 0) (.slice none 0 0) (.slice none 0 0))).cell? ⟨w7.heap.size, 1, none⟩ = some (.int .i64 cc) := (cell_of G8.out 1).trans rfl
       clear bf bx
       go_wp2_with (refine wpList_store31 rfl _ _ rfl w7.heap.size 0 cc rfl rfl _ HZ rfl ?_)
       go_roundw
       case rel => exact ⟨k + 1, m7, d7, by go_num, by rw [HEN.out], by omega, S8.out⟩
       case measure => simp [intOf]; omega
     ·have hen : d7.en = d.en := HCASE.out.elim (fun h => absurd h.1 hee) fun h => h.2
      have HEN := Lib.hid hen
      clear hen HCASE
      have HZ := heap_alloc_self w7 (.cells #[.int .i64 0, .int .i64 0, .int .i64 0, .int .i64 0, .int .i64 0, .int .i64 0, .int .i64 0, .slice none 0 0, .slice none 0 0, .slice none 0 0] 31)
      obtain ⟨bf, bx⟩ := box31 w7 (repA ee cc 0 0 0 0 0 (.slice none 0 0) (.slice none 0 0) (.slice none 0 0))
      have G8 := Lib.hid bx
      have X8 := Lib.hid (blk X7b.out bf fun h => h)
      have R8 := Lib.hid (R7.out.old bf)
      have S8 := Lib.hid (S7.out.old bf)
      have y0 : ((w7.alloc (.cells #[.int .i64 0, .int .i64 0, .int .i64 0, .int .i64 0, .int .i64 0, .int .i64 0, .int .i64 0, .slice none 0 0, .slice none 0 0, .slice none 0 0] 31)).setRow w7.heap.size (repA ee cc 0 0 0 0 0 (.slice none 0 0) (.slice none 0 0) (.slice none 0 0))).cell? ⟨w7.heap.size, 0, none⟩ = some (.int .i64 (ee)) := (cell_of G8.out 0).trans rfl
      have y1 : ((w7.alloc (.cells #[.int .i64 0, .int .i64 0, .int .i64 0, .int .i64 0, .int .i64 0, .int .i64 0, .int .i64 0, .slice none 0 0, .slice none 0 0, .slice none 0 0] 31)).setRow w7.heap.size (repA ee cc 0 0 0 0 0 (.slice none 0 0) (.slice none 0 0) (.slice none 0 0))).cell? ⟨w7.heap.size, 1, none⟩ = some (.int .i64 cc) := (cell_of G8.out 1).trans rfl
      clear bf bx
      go_wp2_with (refine wpList_store31 rfl _ _ rfl w7.heap.size ee cc rfl rfl _ HZ rfl ?_)
      go_roundw
      case rel => exact ⟨k + 1, m7, d7, by go_num, by rw [HEN.out], by omega, S8.out⟩
      case measure => simp [intOf]; omega
   ·obtain rfl : k = l.length := by omega
    have E1 := Lib.hid (fet_end FS.out 1 (.inr rfl))
    go_wp2_with fail
    refine E1.out.mono ?_
    rintro e wf ⟨he, ff⟩
    have he : e = .returned (.int .i64 d.en) := he
    subst he
    have S1 := Lib.hid (FS.out.old ff)
    have E0 := Lib.hid (fet_end S1.out 0 (.inl rfl))
    clear ff E1
    go_wp2_with fail
    refine E0.out.mono ?_
    rintro e wg ⟨he, fg⟩
    have he : e = .returned (.int .i64 0) := he
    subst he
    have S2 := Lib.hid (S1.out.old fg)
    have LV := Lib.hid (live_walk (ST.out.old S2.out.o.n.f) (by have := S2.out.o.n.f.size; omega))
    clear fg E0
    go_wp2_with fail
    refine LV.out.mono ?_
    rintro e wh ⟨rfl, fh⟩
    have FH := Lib.hid (S2.out.o.n.f.tr fh)
    clear fh LV
    go_wp2_with fail
    go_ret
    exact ⟨rfl, FH.out⟩
 ·go_enter Tryz.func3, Tryz.ntmps3
  go_wp2_with fail
  refine (live_walk ST.out (by omega)).mono ?_
  rintro e w2 ⟨rfl, f2⟩
  have F2 := Lib.hid f2
  clear f2
  go_wp2_with fail
  go_ret
  exact ⟨rfl, F2.out⟩
end
end Go.Proofs.YtfdhofabgdkkkaaGreatDoor
