/- What producers have sent: the walk of Check. -/
import Derived.Test.YtfdhofabgdkkkaaGreatDoorQ14
namespace Go.Proofs.YtfdhofabgdkkkaaGreatDoor
open Go.RowKit Go.Fm Go.BigFrame Go.Shelf Go.Maps
set_option linter.unusedVariables false
set_option linter.unusedSimpArgs false
set_option maxRecDepth 100000
section
variable {w w' : World} {pb mb : Nat} {S : Nat → Prop}
set_option maxHeartbeats 32000000 in
theorem icheck_walk {L : List (Int × Hrd)} (h : ProdA w pb mb L) (hR : ∀ x ∈ L, RingOK x.2.r x.2.f) (b : Bat) (oa : Option Addr) (n cap : Nat) : Calls Tryz.prog 76 #[.pointer (some ⟨pb, 0, none⟩), batV b (.slice oa n cap)] w fun e w' => e = .returned (chkV (chkAll L b)) ∧ Fr (fun _ => False) w w' := by
 have H := Lib.hid h
 have HR := Lib.hid hR
 clear h hR
 unfold batV chkAll
 by_cases h1 : b.prod = -1
 ·rw [if_pos h1]
  have FA := Lib.hid ((Fr.same w).alloc (.cells #[.int .i64 b.base, .int .i64 b.span, .int .i64 (-1), .int .i64 b.epoch, .int .i64 b.seq, .slice oa n cap] 35))
  unfold chkV
  go_enter Tryz.func76, Tryz.ntmps76
  go_wp2_with fail
  go_ret3
  exact ⟨rfl, FA.out⟩
 ·rw [if_neg h1]
  have fa := (Fr.same w).alloc (.cells #[.int .i64 0, .int .i64 b.span, .int .i64 b.prod, .int .i64 b.epoch, .int .i64 b.seq, .slice oa n cap] 35)
  have xa := heap_alloc_self w (.cells #[.int .i64 0, .int .i64 b.span, .int .i64 b.prod, .int .i64 b.epoch, .int .i64 b.seq, .slice oa n cap] 35)
  have FA := Lib.hid fa
  have XA := Lib.hid xa
  have HM := Lib.hid (imay_walk { b with base := 0 } oa n cap (w.alloc (.cells #[.int .i64 0, .int .i64 b.span, .int .i64 b.prod, .int .i64 b.epoch, .int .i64 b.seq, .slice oa n cap] 35)))
  unfold batV at HM
  dsimp only at HM
  clear fa xa
  by_cases hmay : IMay { b with base := 0 }
  ·rw [if_pos hmay]
   have MAY := Lib.hid hmay
   clear hmay
   go_enter Tryz.func76, Tryz.ntmps76
   go_wp2_with fail
   generalize (w.alloc (.cells #[.int .i64 0, .int .i64 b.span, .int .i64 b.prod, .int .i64 b.epoch, .int .i64 b.seq, .slice oa n cap] 35)) = W at *
   refine HM.out.mono ?_
   rintro e w2 ⟨c, rfl, hc, hf2⟩
   obtain rfl : c = true := hc.2 MAY.out
   have F2 := Lib.hid (FA.out.tr hf2)
   have X2 := Lib.hid ((hf2.block _ (lt_of_heap XA.out) fun h => h).trans XA.out)
   have c2 : w2.cell? ⟨w.heap.size, 2, none⟩ = some (.int .i64 b.prod) := (cell_of X2.out 2).trans rfl
   have HOF := Lib.hid (iof_walk (H.out.old F2.out) b.prod (by have h9 : 0 ≤ b.prod ∧ b.prod ≤ 1073741824 := MAY.out.1; simp [Lit.wf, IntKind.min, IntKind.max, IntKind.signed, IntKind.bits]; omega))
   clear hf2 HM hc
   go_wp2_with fail
   refine HOF.out.mono ?_
   rintro e w3 hp
   obtain ⟨hb, ep, r, f, c, rfl, hh, hro, hchk, hf3⟩ := of_hear (H.out.old F2.out) HR.out hp
   have F3 := Lib.hid (F2.out.tr hf3)
   have X3 := Lib.hid ((hf3.block _ (lt_of_heap X2.out) fun h => h).trans X2.out)
   have HH := Lib.hid hh
   have RO := Lib.hid hro
   have CK := Lib.hid hchk
   clear hp hh hro hchk hf3 HOF c2
   have z0 : ∀ y : Lcl.InS (fun w' => Fr (fun _ => False) w3 w'), y.w.cell? ⟨w.heap.size, 3, none⟩ = some (.int .i64 b.epoch) := fun y => y.h.cel ((cell_of X3.out 3).trans rfl)
   have z1 : ∀ y : Lcl.InS (fun w' => Fr (fun _ => False) w3 w'), y.w.cell? ⟨hb, 0, none⟩ = some (.int .i64 ep) := fun y => y.h.cel HH.out.epoch
   go_wp2_with fail
   refine Lcl.wp_region_calm (by kernel_rfl) [(true, [0, 2, 3, 4]), (false, [1, 5]), (true, [6, 7])] #[0, 1, 0, 4, 12, 28, 63, 127] [0, 1, 2, 3, 4, 5] 0 #[true, true, true, true, true, true, true, true] (by kernel_rfl) (by kernel_rfl) (by kernel_rfl) (fun w' => Fr (fun _ => False) w3 w') (Fr.same w3).drew (fun d c a v w h => by cases d <;> exact h) ?_
   simp only [Lcl.opsOf, List.map_cons, List.map_nil, List.getElem?_toArray, List.getElem?_cons_succ, List.getElem?_cons_zero, Option.getD_some]
   refine Lcl.wpCalm_t ?_
   repeat (go_big_quiet_step (rfl))
   refine wpQuiet_nil ?_
   refine Lcl.wpCalm_f ?_
   repeat (go_big_quiet_step (rfl))
   refine wpQuiet_nil ?_
   refine Lcl.wpCalm_t ?_
   repeat (go_big_quiet_step (rfl))
   refine wpQuiet_nil ?_
   refine Lcl.wpCalm_nil ?_
   refine Lcl.wpG_run [] _ _ _ (by kernel_rfl) ?_
   simp only [List.map_cons, List.map_nil, List.getElem?_toArray, List.getElem?_cons_succ, List.getElem?_cons_zero, Option.getD_some]
   clear z0 z1
   by_cases he : b.epoch < ep
   ·have hres : chkF ep r f c b = (0, false, 8) := by unfold chkF; rw [if_pos he]
    have HRES := Lib.hid hres
    have F4 := Lib.hid F3.out.drew
    clear hres
    go_wp2_with fail
    go_ret3
    exact ⟨by rw [CK.out, HRES.out]; rfl, F4.out⟩
   ·skip
    have F4 := Lib.hid F3.out.drew
    have H4 := Lib.hid (HH.out.old (Fr.same w3).drew)
    have X4 := Lib.hid (((Fr.same w3).drew.block _ (lt_of_heap X3.out) fun h => h).trans X3.out)
    clear X3 HH F3
    generalize w3.drew = w4 at *
    have z0 : ∀ y : Lcl.InS (fun w' => Fr (fun _ => False) w4 w'), y.w.cell? ⟨w.heap.size, 3, none⟩ = some (.int .i64 b.epoch) := fun y => y.h.cel ((cell_of X4.out 3).trans rfl)
    have z1 : ∀ y : Lcl.InS (fun w' => Fr (fun _ => False) w4 w'), y.w.cell? ⟨hb, 0, none⟩ = some (.int .i64 ep) := fun y => y.h.cel H4.out.epoch
    go_wp2_with fail
    refine Lcl.wp_region_calm (by kernel_rfl) [(true, [0, 2, 3, 4]), (false, [1, 5]), (true, [6, 7])] #[0, 1, 0, 4, 12, 28, 63, 127] [0, 1, 2, 3, 4, 5] 0 #[true, true, true, true, true, true, true, true] (by kernel_rfl) (by kernel_rfl) (by kernel_rfl) (fun w' => Fr (fun _ => False) w4 w') (Fr.same w4).drew (fun d c a v w h => by cases d <;> exact h) ?_
    simp only [Lcl.opsOf, List.map_cons, List.map_nil, List.getElem?_toArray, List.getElem?_cons_succ, List.getElem?_cons_zero, Option.getD_some]
    refine Lcl.wpCalm_t ?_
    repeat (go_big_quiet_step (rfl))
    refine wpQuiet_nil ?_
    refine Lcl.wpCalm_f ?_
    repeat (go_big_quiet_step (rfl))
    refine wpQuiet_nil ?_
    refine Lcl.wpCalm_t ?_
    repeat (go_big_quiet_step (rfl))
    refine wpQuiet_nil ?_
    refine Lcl.wpCalm_nil ?_
    refine Lcl.wpG_run [] _ _ _ (by kernel_rfl) ?_
    simp only [List.map_cons, List.map_nil, List.getElem?_toArray, List.getElem?_cons_succ, List.getElem?_cons_zero, Option.getD_some]
    clear z0 z1
    have F5 := Lib.hid F4.out.drew
    have H5 := Lib.hid (H4.out.old (Fr.same w4).drew)
    have X5 := Lib.hid (((Fr.same w4).drew.block _ (lt_of_heap X4.out) fun h => h).trans X4.out)
    clear X4 H4 F4
    generalize w4.drew = w5 at *
    by_cases hq : b.epoch = ep
    ·have cc := H5.out.count
     have c5c := H5.out.c5
     subst hq
     have HQ := Lib.hid (rfl : b.epoch = b.epoch)
     have HEP := Lib.hid he
     clear he
     go_wp2_with fail
     go_loopw [9] (fun i wr => ∃ k : Nat, ∃ j : Int, i = .int .i64 j ∧ j = (k : Int) - 1 ∧ k ≤ c ∧ findSent r f b c = findSent r f b k ∧ Fr (fun _ => False) w5 wr) (fun i _ => (intOf i + 1).toNat)
     case atStart => exact ⟨c, _, rfl, rfl, Nat.le_refl _, rfl, Fr.same _⟩
     case round =>
      obtain ⟨k, j, rfl, hj, hk, hsame, hf⟩ := hrel
      have FK := Lib.hid hf
      have SM := Lib.hid hsame
      have HK := Lib.hid (H5.out.old hf)
      have XK := Lib.hid ((hf.block _ (lt_of_heap X5.out) fun h => h).trans X5.out)
      clear hf hsame cc
      rcases k with _ | k
      ·obtain rfl : j = -1 := by omega
       have HN := Lib.hid (hnext_walk HK.out fun i => ⟨(RO.out i).1.1, (RO.out i).1.2, (RO.out i).2.1, (RO.out i).2.2⟩)
       clear hj hk
       go_wp2_with fail
       refine HN.out.mono ?_
       rintro e w7 ⟨rfl, hf7⟩
       have F7 := Lib.hid (F5.out.tr (FK.out.tr hf7))
       have c4 : w7.cell? ⟨w.heap.size, 4, none⟩ = some (.int .i64 b.seq) := hf7.cel ((cell_of XK.out 4).trans rfl)
       clear hf7 HN
       by_cases hs : b.seq = nextI r f c
       ·have HRES := Lib.hid (show chkF b.epoch r f c b = (0, false, 0) by unfold chkF; rw [if_neg (by have := HEP.out; omega), if_pos rfl, SM.out, show findSent r f b 0 = none from rfl]; exact if_pos hs)
        have hs2 : decide (b.seq = nextI r f c) = true := decide_eq_true hs
        go_wp2_with fail
        go_ret3
        exact ⟨by rw [CK.out, HRES.out]; rfl, F7.out⟩
       ·have HRES := Lib.hid (show chkF b.epoch r f c b = (0, false, 9) by unfold chkF; rw [if_neg (by have := HEP.out; omega), if_pos rfl, SM.out, show findSent r f b 0 = none from rfl]; exact if_neg hs)
        have hs2 : decide (b.seq = nextI r f c) = false := decide_eq_false hs
        go_wp2_with fail
        go_ret3
        exact ⟨by rw [CK.out, HRES.out]; rfl, F7.out⟩
      ·obtain rfl : j = (k : Int) := by omega
       have HA := Lib.hid (hat_walk HK.out k (by omega))
       clear hj
       go_wp2_with fail
       refine HA.out.mono ?_
       rintro e w7 ⟨rfl, hf7⟩
       have F7 := Lib.hid (FK.out.tr hf7)
       have H7 := Lib.hid (HK.out.old hf7)
       have X7 := Lib.hid ((hf7.block _ (lt_of_heap XK.out) fun h => h).trans XK.out)
       clear hf7 HA
       have z0 : ∀ y : Lcl.InS (fun w' => Fr (fun _ => False) w7 w'), y.w.cell? ⟨hb, 1 + (f + k) % 5 * 3, none⟩ = some (.int .i64 (ringN r f k 0)) := fun y => y.h.cel (H7.out.at' k 0 (by omega))
       have z2 : ∀ y : Lcl.InS (fun w' => Fr (fun _ => False) w7 w'), y.w.cell? ⟨hb, 1 + (f + k) % 5 * 3 + 2, none⟩ = some (.int .i64 (ringN r f k 2)) := fun y => y.h.cel (H7.out.at' k 2 (by omega))
       have z4 : ∀ y : Lcl.InS (fun w' => Fr (fun _ => False) w7 w'), y.w.cell? ⟨w.heap.size, 4, none⟩ = some (.int .i64 b.seq) := fun y => y.h.cel ((cell_of X7.out 4).trans rfl)
       have z5 : ∀ y : Lcl.InS (fun w' => Fr (fun _ => False) w7 w'), y.w.cell? ⟨w.heap.size, 1, none⟩ = some (.int .i64 b.span) := fun y => y.h.cel ((cell_of X7.out 1).trans rfl)
       by_cases h8 : ringN r f k 0 = b.seq
       ·have hd8 : decide (ringN r f k 0 = b.seq) = true := decide_eq_true h8
        by_cases h9 : ringN r f k 2 = b.span
        ·have hd9 : decide (ringN r f k 2 = b.span) = true := decide_eq_true h9
         have c7 : w7.drew.cell? ⟨hb, 1 + (f + k) % 5 * 3 + 1, none⟩ = some (.int .i64 (ringN r f k 1)) := (Fr.same w7).drew.cel (H7.out.at' k 1 (by omega))
         have F8 := Lib.hid (F5.out.tr F7.out.drew)
         have HRES := Lib.hid (show chkF b.epoch r f c b = (ringN r f k 1, true, 0) by unfold chkF; rw [if_neg (by have := HEP.out; omega), if_pos rfl, SM.out]; unfold findSent; rw [if_pos ⟨h8, h9⟩])
         go_wp2_with fail
         refine Lcl.wp_region_calm (by kernel_rfl) [(true, [0, 1, 2, 4]), (false, [3, 5]), (true, [6, 7, 8, 9, 10, 12]), (false, [11, 13]), (true, [14, 15])] #[0, 1, 3, 7, 0, 16, 63, 127, 255, 511, 1023, 2047, 255, 4351, 16383, 32767] [0, 1, 2, 3, 4, 5, 6, 7, 8, 9, 10, 11, 12, 13] 0 #[true, true, true, true, true, true, true, true, true, true, true, true, true, true, true, true] (by kernel_rfl) (by kernel_rfl) (by kernel_rfl) (fun w' => Fr (fun _ => False) w7 w') (Fr.same w7).drew (fun d c a v w h => by cases d <;> exact h) ?_
         simp only [Lcl.opsOf, List.map_cons, List.map_nil, List.getElem?_toArray, List.getElem?_cons_succ, List.getElem?_cons_zero, Option.getD_some]
         refine Lcl.wpCalm_t ?_
         repeat (go_big_quiet_step (rfl))
         refine wpQuiet_nil ?_
         refine Lcl.wpCalm_f ?_
         repeat (go_big_quiet_step (rfl))
         refine wpQuiet_nil ?_
         refine Lcl.wpCalm_t ?_
         repeat (go_big_quiet_step (rfl))
         refine wpQuiet_nil ?_
         refine Lcl.wpCalm_f ?_
         repeat (go_big_quiet_step (rfl))
         refine wpQuiet_nil ?_
         refine Lcl.wpCalm_t ?_
         repeat (go_big_quiet_step (rfl))
         refine wpQuiet_nil ?_
         refine Lcl.wpCalm_nil ?_
         refine Lcl.wpG_run [] _ _ _ (by kernel_rfl) ?_
         simp only [List.map_cons, List.map_nil, List.getElem?_toArray, List.getElem?_cons_succ, List.getElem?_cons_zero, Option.getD_some]
         clear z0 z2 z4 z5
         go_wp2_with fail
         go_ret3
         exact ⟨by rw [CK.out, HRES.out]; rfl, F8.out⟩
        ·have hd9 : decide (ringN r f k 2 = b.span) = false := decide_eq_false h9
         have F8 := Lib.hid (F7.out.drew)
         have NXT := Lib.hid (show findSent r f b (k + 1) = findSent r f b k by conv => lhs; unfold findSent; rw [if_neg fun x => h9 x.2])
         go_wp2_with fail
         refine Lcl.wp_region_calm (by kernel_rfl) [(true, [0, 1, 2, 4]), (false, [3, 5]), (true, [6, 7, 8, 9, 10, 12]), (false, [11, 13]), (true, [14, 15])] #[0, 1, 3, 7, 0, 16, 63, 127, 255, 511, 1023, 2047, 255, 4351, 16383, 32767] [0, 1, 2, 3, 4, 5, 6, 7, 8, 9, 10, 11, 12, 13] 0 #[true, true, true, true, true, true, true, true, true, true, true, true, true, true, true, true] (by kernel_rfl) (by kernel_rfl) (by kernel_rfl) (fun w' => Fr (fun _ => False) w7 w') (Fr.same w7).drew (fun d c a v w h => by cases d <;> exact h) ?_
         simp only [Lcl.opsOf, List.map_cons, List.map_nil, List.getElem?_toArray, List.getElem?_cons_succ, List.getElem?_cons_zero, Option.getD_some]
         refine Lcl.wpCalm_t ?_
         repeat (go_big_quiet_step (rfl))
         refine wpQuiet_nil ?_
         refine Lcl.wpCalm_f ?_
         repeat (go_big_quiet_step (rfl))
         refine wpQuiet_nil ?_
         refine Lcl.wpCalm_t ?_
         repeat (go_big_quiet_step (rfl))
         refine wpQuiet_nil ?_
         refine Lcl.wpCalm_f ?_
         repeat (go_big_quiet_step (rfl))
         refine wpQuiet_nil ?_
         refine Lcl.wpCalm_t ?_
         repeat (go_big_quiet_step (rfl))
         refine wpQuiet_nil ?_
         refine Lcl.wpCalm_nil ?_
         refine Lcl.wpG_run [] _ _ _ (by kernel_rfl) ?_
         simp only [List.map_cons, List.map_nil, List.getElem?_toArray, List.getElem?_cons_succ, List.getElem?_cons_zero, Option.getD_some]
         clear z0 z2 z4 z5
         go_wp2_with fail
         go_roundw
         case rel => exact ⟨k, _, rfl, rfl, by omega, SM.out.trans NXT.out, F8.out⟩
         case measure => simp [intOf]
       ·have F8 := Lib.hid (F7.out.drew)
        have NXT := Lib.hid (show findSent r f b (k + 1) = findSent r f b k by conv => lhs; unfold findSent; rw [if_neg fun x => h8 x.1])
        go_wp2_with fail
        have hd8 : (ringN r f k 0 == b.seq) = false := by simpa using h8
        refine Lcl.wp_region_calm (by kernel_rfl) [(true, [0, 1, 2, 4]), (false, [3, 5]), (true, [6, 7, 8, 9, 10, 12]), (false, [11, 13]), (true, [14, 15])] #[0, 1, 3, 7, 0, 16, 63, 127, 255, 511, 1023, 2047, 255, 4351, 16383, 32767] [0, 1, 2, 3, 4, 5, 6, 7, 8, 9, 10, 11, 12, 13] 0 #[true, true, true, true, true, true, true, true, true, true, true, true, true, true, true, true] (by kernel_rfl) (by kernel_rfl) (by kernel_rfl) (fun w' => Fr (fun _ => False) w7 w') (Fr.same w7).drew (fun d c a v w h => by cases d <;> exact h) ?_
        simp only [Lcl.opsOf, List.map_cons, List.map_nil, List.getElem?_toArray, List.getElem?_cons_succ, List.getElem?_cons_zero, Option.getD_some]
        refine Lcl.wpCalm_t ?_
        repeat (go_big_quiet_step (rfl))
        refine wpQuiet_nil ?_
        refine Lcl.wpCalm_f ?_
        repeat (go_big_quiet_step (rfl))
        refine wpQuiet_nil ?_
        refine Lcl.wpCalm_t ?_
        repeat (go_big_quiet_step (rfl))
        refine wpQuiet_nil ?_
        refine Lcl.wpCalm_f ?_
        repeat (go_big_quiet_step (rfl))
        refine wpQuiet_nil ?_
        refine Lcl.wpCalm_t ?_
        repeat (go_big_quiet_step (rfl))
        refine wpQuiet_nil ?_
        refine Lcl.wpCalm_nil ?_
        refine Lcl.wpG_run [] _ _ _ (by kernel_rfl) ?_
        simp only [List.map_cons, List.map_nil, List.getElem?_toArray, List.getElem?_cons_succ, List.getElem?_cons_zero, Option.getD_some]
        clear z0 z2 z4 z5
        go_wp2_with fail
        go_roundw
        case rel => exact ⟨k, _, rfl, rfl, by omega, SM.out.trans NXT.out, F8.out⟩
        case measure => simp [intOf]
    ·have c4 : w5.cell? ⟨w.heap.size, 4, none⟩ = some (.int .i64 b.seq) := (cell_of X5.out 4).trans rfl
     by_cases hs : b.seq = 0
     ·have HRES := Lib.hid (show chkF ep r f c b = (0, false, 0) by unfold chkF; rw [if_neg (by omega), if_neg hq, if_pos hs])
      go_wp2_with fail
      go_ret3
      exact ⟨by rw [CK.out, HRES.out]; rfl, F5.out⟩
     ·have HRES := Lib.hid (show chkF ep r f c b = (0, false, 9) by unfold chkF; rw [if_neg (by omega), if_neg hq, if_neg hs])
      go_wp2_with fail
      go_ret3
      exact ⟨by rw [CK.out, HRES.out]; rfl, F5.out⟩
  ·rw [if_neg hmay]
   have MAY := Lib.hid hmay
   clear hmay
   unfold chkV
   go_enter Tryz.func76, Tryz.ntmps76
   go_wp2_with fail
   generalize (w.alloc (.cells #[.int .i64 0, .int .i64 b.span, .int .i64 b.prod, .int .i64 b.epoch, .int .i64 b.seq, .slice oa n cap] 35)) = W at *
   refine HM.out.mono ?_
   rintro e w2 ⟨c, rfl, hc, hf2⟩
   obtain rfl : c = false := by
    cases c with
    | false => rfl
    | true => exact absurd (hc.1 rfl) MAY.out
   have F2 := Lib.hid (FA.out.tr hf2)
   clear hf2 HM hc
   go_wp2_with fail
   go_ret3
   exact ⟨rfl, F2.out⟩
end
end Go.Proofs.YtfdhofabgdkkkaaGreatDoor
