/- A machine that is none: the walk of StateNil. -/
import Derived.Test.YtfdhofabgdkkkaaGreatDoorU48
import Derived.Test.YtfdhofabgdkkkaaGreatDoorU49
namespace Go.Proofs.YtfdhofabgdkkkaaGreatDoor
open Go.RowKit Go.Fm Go.BigFrame Go.Shelf Go.Maps
set_option linter.unusedVariables false
set_option linter.unusedSimpArgs false
set_option maxRecDepth 100000
namespace Lcl
/-- A region whose ways all end alike. -/
theorem region_alike {P : Program} {c : Code} {a : Act} {w : World} {Q : Exit → Act → World → Prop} (A : Nat → Act) (F : Nat → World → Prop) (hr : c.wp P (fun e a' w' => e = .normal ∧ ∃ b, a' = A b ∧ F b w') a w)
  (h : ∀ b w', F b w' → Q .normal (A b) w') : c.wp P Q a w :=
 Code.wp_mono (fun e a' w' ⟨h1, b, h2, h3⟩ => by subst h1; subst h2; exact h b w' h3) hr
end Lcl
section
variable {w w' : World} {S : Nat → Prop} {K K2 K3 : Nat → Prop}
/-- A request that came in. -/
structure ReqR (w : World) (q : Req) (ks : Fst) (tl : List ByteArray) (rv kv tv : Value) : Prop where
 recs : RecsR (fun i => i < w.heap.size) w rv q.bat.recs
 kids : KidR (fun i => i < w.heap.size) w kv ks
 tops : StrsR (fun i => i < w.heap.size) w tv tl
 wf : ReqWf q
theorem ReqR.enc {q : Req} {ks : Fst} {tl : List ByteArray} {rv kv tv : Value} (h : ReqR w q ks tl rv kv tv) (hf : Fr (fun _ => False) w w') (hst : StepsOK w') :
  EncIn w' q rv kv tv (fun i => i < w.heap.size) (textS (ftxt q.fop q.fnm q.fvl ks)) (topT tl) (filOk q.fop q.fnm q.fvl ks) (topOk tl) := by
 refine ⟨h.recs.old hf, fun i hi => Nat.lt_of_lt_of_le hi hf.size, h.wf, hst, ?_, ?_, ?_⟩
 ·have := ftxt_size q.fop q.fnm q.fvl ks
  have := textS_sizeX (s := ftxt q.fop q.fnm q.fvl ks) (by omega)
  omega
 ·intro w1 cb xb hf1 hc hx hne hR w2 s bad hf2 hC hs
  have hp : PartAt w2 ⟨xb, 12, none⟩ q.fop q.fnm q.fvl kv := ⟨(hR.fr hf2 hne).cell 12, (hR.fr hf2 hne).cell 13, (hR.fr hf2 hne).cell 14, (hR.fr hf2 hne).cell 15⟩
  have sz := hf.size
  have sz1 := hf1.size
  have sz2 := hf2.size
  exact cfilter_walk (K := fun i => i < w.heap.size) hC _ _ _ _ ks hp (((h.kids.old hf).old hf1).fr hf2 fun i hi e => by omega) (fun i hi => by omega) hne hs
 ·intro w1 cb xb hf1 hc hx hne hR w2 bx s bad hf2 hC hB hbn hs
  have sz := hf.size
  have sz1 := hf1.size
  exact clist_walk (K := fun i => i < w.heap.size) hC tv tl ((hR.fr hf2 hne).cell 19) (((h.tops.old hf).old hf1).fr hf2 fun i hi e => by omega) (fun hi => by omega) bx hB hbn hne hs
set_option maxHeartbeats 64000000 in
theorem nil_walk (q : Req) (ks : Fst) (tl : List ByteArray) (rv kv tv : Value) (now : Int) (w : World) (h : ReqR w q ks tl rv kv tv) (hst : StepsOK w) (hw0 : 1 ≤ w.heap.size) :
  Calls Tryz.prog 9 #[.agg ((reqC q rv kv tv).push (.int .i64 now))] w fun e w' => e = .returned (.bool true) ∧ Fr (fun _ => False) w w' := by
 obtain ⟨ro, rc, rfl, -⟩ := id h.recs
 obtain ⟨ko, kc, rfl, -⟩ := id h.kids
 obtain ⟨to, tc, rfl, -⟩ := id h.tops
 have f1 := (Fr.same w).alloc (.cells #[.int .i64 q.kind, .string q.name, .int .i64 q.index, .int .i64 q.count, .int .i64 q.from', .bool q.flag, .int .i64 q.bat.base, .int .i64 q.bat.span, .int .i64 q.bat.prod, .int .i64 q.bat.epoch, .int .i64 q.bat.seq, .slice ro q.bat.recs.length rc, .int .i64 q.fop, .string q.fnm, .string q.fvl, .slice ko ks.len kc, .string q.group, .int .i64 q.member, .int .i64 q.gen, .slice to tl.length tc, .int .i64 now] 52)
 have X1 := Lib.hid (heap_alloc_self w (.cells #[.int .i64 q.kind, .string q.name, .int .i64 q.index, .int .i64 q.count, .int .i64 q.from', .bool q.flag, .int .i64 q.bat.base, .int .i64 q.bat.span, .int .i64 q.bat.prod, .int .i64 q.bat.epoch, .int .i64 q.bat.seq, .slice ro q.bat.recs.length rc, .int .i64 q.fop, .string q.fnm, .string q.fvl, .slice ko ks.len kc, .string q.group, .int .i64 q.member, .int .i64 q.gen, .slice to tl.length tc, .int .i64 now] 52))
 have SM := Lib.hid (rsmall_walk q ro _ rc _ to tl.length tc ks (h.recs.old f1) (h.kids.old f1) fun i hi => Nat.lt_of_lt_of_le hi f1.size)
 have HR := Lib.hid h
 have ST := Lib.hid hst
 have F1 := Lib.hid f1
 have LDQ : ∀ (w' : World) (c : World), c.heap[w.heap.size]? = some (.cells #[.int .i64 q.kind, .string q.name, .int .i64 q.index, .int .i64 q.count, .int .i64 q.from', .bool q.flag, .int .i64 q.bat.base, .int .i64 q.bat.span, .int .i64 q.bat.prod, .int .i64 q.bat.epoch, .int .i64 q.bat.seq, .slice ro q.bat.recs.length rc, .int .i64 q.fop, .string q.fnm, .string q.fvl, .slice ko ks.len kc, .string q.group, .int .i64 q.member, .int .i64 q.gen, .slice to tl.length tc, .int .i64 now] 52 (0, 0)) → ∀ (j : Nat) (v : Value), [.int .i64 q.kind, .string q.name, .int .i64 q.index, .int .i64 q.count, .int .i64 q.from', .bool q.flag, .int .i64 q.bat.base, .int .i64 q.bat.span, .int .i64 q.bat.prod, .int .i64 q.bat.epoch, .int .i64 q.bat.seq, .slice ro q.bat.recs.length rc, .int .i64 q.fop, .string q.fnm, .string q.fvl, .slice ko ks.len kc, .string q.group, .int .i64 q.member, .int .i64 q.gen, .slice to tl.length tc][j]? = some v → c.cell? ((⟨w.heap.size, 0, none⟩ : Addr).add j) = some v := by
  intro w' c hc j v hv
  have hadd : (⟨w.heap.size, 0, none⟩ : Addr).add j = ⟨w.heap.size, j, none⟩ := by unfold Addr.add; split <;> simp_all
  rw [hadd, cell_of hc j]
  have hj : j < 20 := by have := (List.getElem?_eq_some_iff.1 hv).1; simpa using this
  match j, hj with
  | 0, _ => exact hv
  | 1, _ => exact hv
  | 2, _ => exact hv
  | 3, _ => exact hv
  | 4, _ => exact hv
  | 5, _ => exact hv
  | 6, _ => exact hv
  | 7, _ => exact hv
  | 8, _ => exact hv
  | 9, _ => exact hv
  | 10, _ => exact hv
  | 11, _ => exact hv
  | 12, _ => exact hv
  | 13, _ => exact hv
  | 14, _ => exact hv
  | 15, _ => exact hv
  | 16, _ => exact hv
  | 17, _ => exact hv
  | 18, _ => exact hv
  | 19, _ => exact hv
 have LH := Lib.hid LDQ
 unfold reqC at *
 clear f1 h hst LDQ
 go_enter Tryz.func9, Tryz.ntmps9
 have lq := LH.out w _ X1.out
 go_wp2_with (refine wpList_load_at rfl 50 _ rfl ⟨w.heap.size, 0, none⟩ rfl [.int .i64 q.kind, .string q.name, .int .i64 q.index, .int .i64 q.count, .int .i64 q.from', .bool q.flag, .int .i64 q.bat.base, .int .i64 q.bat.span, .int .i64 q.bat.prod, .int .i64 q.bat.epoch, .int .i64 q.bat.seq, .slice ro q.bat.recs.length rc, .int .i64 q.fop, .string q.fnm, .string q.fvl, .slice ko ks.len kc, .string q.group, .int .i64 q.member, .int .i64 q.gen, .slice to tl.length tc] _ lq Tryz.underlying50 rfl (by kernel_rfl) ?_)
 generalize (w.alloc (.cells #[.int .i64 q.kind, .string q.name, .int .i64 q.index, .int .i64 q.count, .int .i64 q.from', .bool q.flag, .int .i64 q.bat.base, .int .i64 q.bat.span, .int .i64 q.bat.prod, .int .i64 q.bat.epoch, .int .i64 q.bat.seq, .slice ro q.bat.recs.length rc, .int .i64 q.fop, .string q.fnm, .string q.fvl, .slice ko ks.len kc, .string q.group, .int .i64 q.member, .int .i64 q.gen, .slice to tl.length tc, .int .i64 now] 52)) = w1 at *
 clear lq
 refine SM.out.mono ?_
 rintro e w2 ⟨⟨b, rfl⟩, f2⟩
 have F2 := Lib.hid (F1.out.tr f2)
 have X2 := Lib.hid (blk X1.out f2 fun h => h)
 clear f2 SM F1 X1
 cases b with
 | false =>
  go_wp2_with fail
  refine (live_walk (ST.out.old F2.out) (by have := F2.out.size; omega)).mono ?_
  rintro e w3 ⟨rfl, f3⟩
  have F3 := Lib.hid (F2.out.tr f3)
  clear f3
  go_wp2_with fail
  go_ret
  exact ⟨rfl, F3.out⟩
 | true =>
  go_wp2_with fail
  refine snew_zero.mono ?_
  rintro e w3 ⟨rfl, hw⟩
  obtain rfl := hw.symm
  have d20 := (cell_of X2.out 20).trans (show _ = some (Value.int .i64 now) from rfl)
  go_wp2_with fail
  refine (tick_none now).mono ?_
  rintro e w3 ⟨rfl, hw⟩
  obtain rfl := hw.symm
  go_wp2_with fail
  have AW := Lib.hid (fun w' => ask_walk (w := w') q ro q.bat.recs.length rc ko ks.len kc to tl.length tc)
  have DN := Lib.hid (fun w' (hf : Fr (fun _ => False) w2 w') => do_nil (w := w') q _ _ _ _ _ _ _ _ (HR.out.enc (F2.out.tr hf) (ST.out.old (F2.out.tr hf))) now)
  unfold reqC at AW DN
  apply Lcl.region_alike (F := fun b w' => w2.heap.size ≤ b ∧ w'.heap[b]? = some (.cells (repA 1 0 0 0 0 0 0 (.slice none 0 0) (.slice none 0 0) (.slice none 0 0)) 31 (0, 0)) ∧ Fr (fun _ => False) w2 w')
  case hr =>
   have z5 : ∀ y : Lcl.InS (fun w' => Fr (fun _ => False) w2 w'), y.w.cell? ⟨w.heap.size, 20, none⟩ = some (.int .i64 now) := fun y => y.h.cel d20
   refine Lcl.wp_region_calm (by kernel_rfl) [(true, [0, 1, 4]), (false, [2, 5])] #[0, 0, 2, 6, 0, 16, 63, 0, 255] [0, 1, 2, 3, 4, 5, 7] 4 #[true, true, true, false, true, true, false, false, false] (by kernel_rfl) (by kernel_rfl) (by kernel_rfl) (fun w' => Fr (fun _ => False) w2 w') (Fr.same w2).drew (fun d c a v w h => by cases h.1) ?_
   simp only [Lcl.opsOf, List.map_cons, List.map_nil, List.getElem?_toArray, List.getElem?_cons_succ, List.getElem?_cons_zero, Option.getD_some]
   refine Lcl.wpCalm_t ?_
   repeat (go_big_quiet_step (rfl))
   refine wpQuiet_nil ?_
   refine Lcl.wpCalm_f ?_
   refine wpQuiet_load_at rfl 50 (.tmp 20) rfl ⟨w.heap.size, 0, none⟩ rfl [.int .i64 q.kind, .string q.name, .int .i64 q.index, .int .i64 q.count, .int .i64 q.from', .bool q.flag, .int .i64 q.bat.base, .int .i64 q.bat.span, .int .i64 q.bat.prod, .int .i64 q.bat.epoch, .int .i64 q.bat.seq, .slice ro q.bat.recs.length rc, .int .i64 q.fop, .string q.fnm, .string q.fvl, .slice ko ks.len kc, .string q.group, .int .i64 q.member, .int .i64 q.gen, .slice to tl.length tc] _ ?hc Tryz.underlying50 rfl (by kernel_rfl) ?_
   case hc => rintro c ⟨y, rfl⟩; exact LH.out w _ (blk X2.out y.h fun h => h)
   simp only [Act.put, List.setIfInBounds_toArray, List.set_cons_succ, List.set_cons_zero]
   repeat (go_big_quiet_step (rfl))
   refine wpQuiet_nil ?_
   refine Lcl.wpCalm_nil ?_
   clear z5
   refine Lcl.wpG_two 3 7 rfl rfl (by kernel_rfl) ?_ ?_
   ·go_wp2_with fail
    refine (AW.out _).mono ?_
    rintro e w5 ⟨rfl, f5⟩
    have D5 := (Fr.same w2).drew.tr f5
    have DN5 := DN.out _ D5
    go_wp2_with fail
    refine ⟨fun _ _ => D5, ?_⟩
    refine Lcl.wpG_two 6 7 rfl rfl (by kernel_rfl) ?_ ?_
    ·go_wp2_with fail
     refine DN5.mono ?_
     rintro e w6 ⟨rfl, f6⟩
     have D6 := D5.tr f6
     go_wp2_with fail
     refine ⟨fun h => absurd h (by decide), ?_⟩
     have hz := heap_alloc_self w6 (.cells #[.int .i64 0, .int .i64 0, .int .i64 0, .int .i64 0, .int .i64 0, .int .i64 0, .int .i64 0, .slice none 0 0, .slice none 0 0, .slice none 0 0] 31)
     obtain ⟨bf, bx⟩ := box31 w6 (repA 1 0 0 0 0 0 0 (.slice none 0 0) (.slice none 0 0) (.slice none 0 0))
     refine Lcl.wpG_one 7 rfl (by kernel_rfl) ?_
     go_wp2_with fail
     refine ⟨fun _ h => h.alloc _, ?_⟩
     refine Lcl.wpG_run [8] _ _ _ (by kernel_rfl) ?_
     simp only [List.map_cons, List.map_nil, List.getElem?_toArray, List.getElem?_cons_succ, List.getElem?_cons_zero, Option.getD_some]
     go_wp2_with (refine wpList_store31 rfl _ _ rfl w6.heap.size 1 0 rfl rfl _ hz rfl ?_)
     have hsz := D6.size
     have hfr := D6.tr bf
     obtain ⟨b, hb⟩ : ∃ b, b = w6.heap.size := ⟨_, rfl⟩
     rw [← hb] at bx hfr hsz ⊢
     exact ⟨b, rfl, hsz, bx, hfr⟩
    ·have hz := heap_alloc_self w5 (.cells #[.int .i64 0, .int .i64 0, .int .i64 0, .int .i64 0, .int .i64 0, .int .i64 0, .int .i64 0, .slice none 0 0, .slice none 0 0, .slice none 0 0] 31)
     have fz := (Fr.same w5).alloc (.cells #[.int .i64 0, .int .i64 0, .int .i64 0, .int .i64 0, .int .i64 0, .int .i64 0, .int .i64 0, .slice none 0 0, .slice none 0 0, .slice none 0 0] 31)
     have D5a := D5.tr fz
     have DN6 := DN.out _ D5a
     go_wp2_with fail
     refine ⟨fun _ h => h.alloc _, ?_⟩
     refine Lcl.wpG_one 6 rfl (by kernel_rfl) ?_
     go_wp2_with fail
     refine DN6.mono ?_
     rintro e w6 ⟨rfl, f6⟩
     go_wp2_with fail
     refine ⟨fun h => absurd h (by decide), ?_⟩
     have hz6 := blk hz f6 fun h => h
     refine Lcl.wpG_run [8] _ _ _ (by kernel_rfl) ?_
     simp only [List.map_cons, List.map_nil, List.getElem?_toArray, List.getElem?_cons_succ, List.getElem?_cons_zero, Option.getD_some]
     go_wp2_with (refine wpList_store31 rfl _ _ rfl w5.heap.size 1 0 rfl rfl _ hz6 rfl ?_)
     have hsz := D5.size
     have bx := setRow_heap _ w5.heap.size _ (repA 1 0 0 0 0 0 0 (.slice none 0 0) (.slice none 0 0) (.slice none 0 0)) 31 (0, 0) hz6
     have hfr := frRow (D5a.tr f6) (g := w5.heap.size) (.inr hsz) (repA 1 0 0 0 0 0 0 (.slice none 0 0) (.slice none 0 0) (.slice none 0 0))
     obtain ⟨b, hb⟩ : ∃ b, b = w5.heap.size := ⟨_, rfl⟩
     rw [← hb] at bx hfr hsz ⊢
     first | exact ⟨b, rfl, hsz, bx, hfr⟩ | exact ⟨hsz, bx, hfr⟩
   ·have hz : ((w2.alloc (.cells #[.int .i64 0, .int .i64 0, .int .i64 0, .int .i64 0, .int .i64 0, .int .i64 0, .int .i64 0, .slice none 0 0, .slice none 0 0, .slice none 0 0] 31)).drew).heap[w2.heap.size]? = _ := heap_alloc_self w2 (.cells #[.int .i64 0, .int .i64 0, .int .i64 0, .int .i64 0, .int .i64 0, .int .i64 0, .int .i64 0, .slice none 0 0, .slice none 0 0, .slice none 0 0] 31)
    have D2a := Lib.hid (((Fr.same w2).alloc (.cells #[.int .i64 0, .int .i64 0, .int .i64 0, .int .i64 0, .int .i64 0, .int .i64 0, .int .i64 0, .slice none 0 0, .slice none 0 0, .slice none 0 0] 31)).drew)
    have AW2 := AW.out ((w2.alloc (.cells #[.int .i64 0, .int .i64 0, .int .i64 0, .int .i64 0, .int .i64 0, .int .i64 0, .int .i64 0, .slice none 0 0, .slice none 0 0, .slice none 0 0] 31)).drew)
    go_wp2_with fail
    refine ⟨by intros; exact D2a.out, ?_⟩
    refine Lcl.wpG_one 3 rfl (by kernel_rfl) ?_
    go_wp2_with fail
    refine AW2.mono ?_
    rintro e w5 ⟨rfl, f5⟩
    have D5 := Lib.hid (D2a.out.tr f5)
    have DN5 := DN.out _ D5.out
    have hz5 := blk hz f5 fun h => h
    go_wp2_with fail
    refine ⟨by intros; exact D5.out, ?_⟩
    refine Lcl.wpG_one 6 rfl (by kernel_rfl) ?_
    go_wp2_with fail
    refine DN5.mono ?_
    rintro e w6 ⟨rfl, f6⟩
    have hz6 := blk hz5 f6 fun h => h
    go_wp2_with fail
    refine ⟨fun h => absurd h (by decide), ?_⟩
    have hsz : w2.heap.size ≤ w2.heap.size := Nat.le_refl _
    have bx := setRow_heap _ w2.heap.size _ (repA 1 0 0 0 0 0 0 (.slice none 0 0) (.slice none 0 0) (.slice none 0 0)) 31 (0, 0) hz6
    have hfr := Lib.hid (frRow (D5.out.tr f6) (g := w2.heap.size) (.inr hsz) (repA 1 0 0 0 0 0 0 (.slice none 0 0) (.slice none 0 0) (.slice none 0 0)))
    have BX := Lib.hid bx
    clear bx
    refine Lcl.wpG_one 8 rfl (by kernel_rfl) ?_
    go_wp2_with (refine wpList_store31 rfl _ _ rfl w2.heap.size 1 0 rfl rfl _ hz6 rfl ?_)
    refine ⟨by intros; exact hfr.out, by kernel_rfl, rfl, w2.heap.size, rfl, hsz, BX.out, hfr.out⟩
  case h =>
   rintro b w5 ⟨hb, h5, f5⟩
   have F5 := Lib.hid (F2.out.tr f5)
   have X5 := Lib.hid (blk X2.out f5 fun h => h)
   have h5' : w5.heap[b]? = some (.cells #[.int .i64 1, .int .i64 0, .int .i64 0, .int .i64 0, .int .i64 0, .int .i64 0, .int .i64 0, .slice none 0 0, .slice none 0 0, .slice none 0 0] 31 (0, 0)) := h5
   have RW := Lib.hid (reply_walk (w := w5) 1)
   unfold tellV at RW
   clear f5 h5
   have d5 := cell_of h5'
   go_wp2_with fail
   refine RW.out.mono ?_
   rintro e w6 ⟨rfl, f6⟩
   have F6 := Lib.hid (F5.out.tr f6)
   have X6 := Lib.hid (blk X5.out f6 fun h => h)
   have SR := Lib.hid (same_reply (w := w6) 1)
   unfold tellV at SR
   clear f6 RW h5' d5
   go_wp2_with fail
   refine SR.out.mono ?_
   rintro e w7 ⟨rfl, f7⟩
   have F7 := Lib.hid (F6.out.tr f7)
   have X7 := Lib.hid (blk X6.out f7 fun h => h)
   clear f7 SR
   have d1 := (cell_of X7.out 1).trans (show _ = some (Value.string q.name) from rfl)
   have d2 := (cell_of X7.out 2).trans (show _ = some (Value.int .i64 q.index) from rfl)
   have LV := Lib.hid (live_walk (ST.out.old F7.out) (by have := F7.out.size; omega))
   go_wp2_with fail
   refine (end_none q.name q.index).mono ?_
   rintro e w8 ⟨rfl, hw⟩
   obtain rfl := hw.symm
   go_wp2_with fail
   refine LV.out.mono ?_
   rintro e w9 ⟨rfl, f9⟩
   have F9 := Lib.hid (F7.out.tr f9)
   clear f9 LV
   go_wp2_with fail
   go_ret
   exact ⟨rfl, F9.out⟩
end
end Go.Proofs.YtfdhofabgdkkkaaGreatDoor
