/- Append to a log, no new segment: the walk. -/
import Derived.Test.YtdlnafhhkpklmaaGreatDoorPO
namespace Go.Proofs.YtdlnafhhkpklmaaGreatDoor
open Go.RowKit Go.Fm Go.BigFrame Go.Shelf Go.Maps
set_option linter.unusedVariables false
set_option linter.unusedSimpArgs false
set_option maxRecDepth 100000

section
variable {B : Nat} {w w' : World} {lb db mb : Nat} {p : ByteArray} {lim ev : Nat} {beg : Int} {es : List PE} {own : Bool} {L : List Row} {S : Nat → Prop} {room used fuse : Int} {F : ByteArray → ByteArray × Nat} {n : Nat}
set_option maxHeartbeats 8000000 in
theorem lapp_old {es0 : List PE} {x : PE} (D0 : LogD B w lb db mb p lim ev beg (es0 ++ [x]) true L S room used fuse F n) (hn : n < 699) (hlim : sumB x.s.l < lim) (hst : StepsOK w) (K : Nat → Prop) (hK : ∀ k, K k → ¬ S k ∧ ¬ DkS db mb L k) (b : Bat) (v : Value) (hr : RecsR K w v b.recs) (En : Nat) (hE : (En : Int) = lgEnd beg (es0 ++ [x])) (hb : BatOK (baseB b En)) (sy : Bool) :
    Calls Tryz.prog 13 #[.pointer (some ⟨lb, 0, none⟩), batV b v, .bool sy] w (LApPost B w lb db mb p lim ev beg (es0 ++ [x]) true L S room used fuse F n (baseB b En) sy) := by
  obtain ⟨oa, cap, hv⟩ : ∃ a c, v = .slice a b.recs.length c := by obtain ⟨a, c, h, -⟩ := hr; exact ⟨a, c, h⟩
  subst hv
  have hfa := (Fr.same w).alloc (.cells (batBox b (.slice oa b.recs.length cap)) 36)
  have hle := lend_walk (D0.lg.old hfa)
  rw [← hE] at hle
  have HE := Lib.hid hle
  have D := Lib.hid D0
  have HR := Lib.hid hr
  have HST := Lib.hid hst
  have HB := Lib.hid hb
  have HK := Lib.hid hK
  have EE := Lib.hid hE
  have FA := Lib.hid hfa
  have X := Lib.hid (heap_alloc_self w (.cells (batBox b (.slice oa b.recs.length cap)) 36))
  unfold batBox at HE FA X
  unfold batV
  clear D0 hr hb hfa hE hst hK hle
  go_enter Tryz.func13, Tryz.ntmps13
  go_wp2_with fail
  refine HE.out.mono ?_
  rintro e w1 ⟨rfl, hf⟩
  have F1 := Lib.hid (FA.out.tr hf)
  have X1 := Lib.hid ((hf.block _ (by simp) fun h => h).trans X.out)
  have c0 : w1.cell? ⟨w.heap.size, 0, none⟩ = some (.int .i64 b.base) := (cell_of X1.out 0).trans rfl
  have f0 := fz_of X1.out 0
  clear hf HE FA X
  have hX2 : (w1.setCell ⟨w.heap.size, 0, none⟩ (.int .i64 En)).heap[w.heap.size]? = some (.cells #[.int .i64 En, .int .i64 b.span, .int .i64 b.prod, .int .i64 b.epoch, .int .i64 b.seq, .slice oa b.recs.length cap] 36 (0, 0)) := by
    rw [heap_setCell_self X1.out]; rfl
  have hF2 : Fr (fun _ => False) w (w1.setCell ⟨w.heap.size, 0, none⟩ (.int .i64 En)) := Fr.setCell (S := fun _ => False) (p := ⟨w.heap.size, 0, none⟩) F1.out (.inr (Nat.le_refl _)) _
  obtain ⟨w2, hw2⟩ : ∃ w2, w2 = w1.setCell ⟨w.heap.size, 0, none⟩ (.int .i64 En) := ⟨_, rfl⟩
  rw [← hw2] at hX2 hF2
  have X2 := Lib.hid hX2
  have F2 := Lib.hid hF2
  have HCK := Lib.hid (bcheck_walk K (baseB b En) (.slice oa b.recs.length cap) w2 (HR.out.old hF2))
  have d0 : w2.cell? ⟨w.heap.size, 0, none⟩ = some (.int .i64 En) := (cell_of hX2 0).trans rfl
  have c1 : w2.cell? ⟨w.heap.size, 1, none⟩ = some (.int .i64 b.span) := (cell_of hX2 1).trans rfl
  have c2 : w2.cell? ⟨w.heap.size, 2, none⟩ = some (.int .i64 b.prod) := (cell_of hX2 2).trans rfl
  have c3 : w2.cell? ⟨w.heap.size, 3, none⟩ = some (.int .i64 b.epoch) := (cell_of hX2 3).trans rfl
  have c4 : w2.cell? ⟨w.heap.size, 4, none⟩ = some (.int .i64 b.seq) := (cell_of hX2 4).trans rfl
  have c5 : w2.cell? ⟨w.heap.size, 5, none⟩ = some (.slice oa b.recs.length cap) := (cell_of hX2 5).trans rfl
  unfold batV baseB at HCK
  dsimp only at HCK
  rw [hw2] at c1 c2 c3 c4 c5 d0 HCK
  clear hX2 hF2
  go_wp2_with fail
  rw [← hw2] at HCK ⊢
  refine HCK.out.mono ?_
  rintro e w3 ⟨c, rfl, hc, hf⟩
  have hc1 : c = 0 := by
    rcases hc with ⟨h1, -⟩ | ⟨-, h1⟩
    · exact h1
    · exact absurd HB.out h1
  subst hc1
  clear hc
  have F3 := Lib.hid (F2.out.tr hf)
  have X3 := Lib.hid ((hf.block _ (lt_of_heap X2.out) fun h => h).trans X2.out)
  have D3 := Lib.hid (D.out.old F3.out)
  have HLA := Lib.hid (last_walk D3.out.lg)
  have hlv : lastV (es0 ++ [x]) = segV x := by unfold lastV; rw [List.getLast?_concat]
  rw [hlv] at HLA
  unfold segV at HLA
  clear hlv
  have HW2 := Lib.hid hw2
  clear hf c1 c2 c3 c4 c5 d0 HCK X2 F2 hw2 HW2 c0 f0
  go_wp2_with fail
  refine HLA.out.mono ?_
  rintro e w4 ⟨rfl, hf⟩
  have F4 := Lib.hid (F3.out.tr hf)
  have D4 := Lib.hid (D3.out.old hf)
  have X4 := Lib.hid ((hf.block _ (lt_of_heap X3.out) fun h => h).trans X3.out)
  clear hf F3 D3 X3 HLA X1 F1
  have hlc : w4.cell? ⟨lb, 1, none⟩ = some (.int .i64 lim) := by
    obtain ⟨sv, G, h1, -⟩ := D4.out.lg
    exact (cell_of h1.b 1).trans rfl
  have y1 : ∀ y : Lcl.InS (fun w' => Fr (fun _ => False) w4 w'), y.w.cell? ⟨lb, 1, none⟩ = some (.int .i64 lim) := fun y => y.h.cel hlc
  clear hlc
  go_wp2_with fail
  refine Lcl.wp_region_calm (by kernel_rfl) [(true, [0, 1, 2, 3, 5, 6, 7, 8]), (false, [9])] #[0, 1, 3, 7, 15, 7, 39, 103, 231, 487, 1023, 2047] [0, 1, 2, 3, 4, 5, 6, 7, 8, 9] 3 #[true, true, true, true, false, true, true, true, true, true, false, false] (by kernel_rfl) (by kernel_rfl) (by kernel_rfl) (fun w' => Fr (fun _ => False) w4 w') (Fr.same w4).drew (fun d c a v w h => by cases d <;> exact h) ?_
  simp only [Lcl.opsOf, List.map_cons, List.map_nil, List.getElem?_toArray, List.getElem?_cons_succ, List.getElem?_cons_zero, Option.getD_some]
  refine Lcl.wpCalm_t ?_
  repeat (go_big_quiet_step (rfl))
  refine wpQuiet_nil ?_
  refine Lcl.wpCalm_f ?_
  repeat (go_big_quiet_step (rfl))
  refine wpQuiet_nil ?_
  refine Lcl.wpCalm_nil ?_
  clear y1
  have F5 := Lib.hid F4.out.drew
  have D5 := Lib.hid (D4.out.old (Fr.same w4).drew)
  have X5 := Lib.hid (show w4.drew.heap[w.heap.size]? = _ from X4.out)
  have Q5 := Lib.hid ((Fr.same w4).drew)
  have HZ := Lib.hid (ssize_walk (D5.out.lg.seg (e := x) (List.mem_append.2 (.inr (by simp)))))
  refine Lcl.wpG_one 4 rfl (by kernel_rfl) ?_
  go_wp2_with fail
  refine HZ.out.mono ?_
  rintro e w5 ⟨rfl, hw5⟩
  rw [hw5] at F5 D5 X5 Q5
  clear hw5 HZ X4 D4 F4
  go_wp2_with fail
  refine ⟨fun _ _ => Q5.out, ?_⟩
  refine Lcl.wpG_run [10, 11] _ _ _ (by kernel_rfl) ?_
  simp only [List.map_cons, List.map_nil, List.getElem?_toArray, List.getElem?_cons_succ, List.getElem?_cons_zero, Option.getD_some]
  have hlt : ¬ ((lim : Nat) : Int) ≤ (sumB x.s.l : Nat) := by omega
  go_wp2_with fail
  have FR5 := Lib.hid (F5.out.mono (S' := fun i => S i ∨ DkS db mb L i) fun i h => h.elim)
  have FO5 := Lib.hid (Foot.refl (db := db) (mb := mb) (S := S) (L := L) w w5)
  have OT5 := Lib.hid (Others.refl p L F)
  have SF5 := Lib.hid (fun (k : Nat) (h : SafeN p (segsOf (es0 ++ [x])) L F k) => h)
  have FU5 := Lib.hid (fun h : fuse = -1 => h)
  have AP5 := Lib.hid (show appS lim ev beg (segsOf (es0 ++ [x])) (baseB b En) = segsOf es0 ++ [x.s.push (baseB b En)] from by
    unfold appS
    rw [segs_concat, List.getLast?_concat]
    dsimp only
    rw [if_neg (by omega), List.dropLast_concat])
  have XE5 := Lib.hid (show x.s.end' = (En : Int) from by rw [EE.out, lgEnd_concat])
  have NS5 := Lib.hid (show ¬ S w.heap.size from fun h => by have := (D.out.lg.lt h).2; omega)
  have LA := Lib.hid (last_walk (D5.out.lg.old (Fr.same w5).drew))
  have hlv : lastV (es0 ++ [x]) = segV x := by unfold lastV; rw [List.getLast?_concat]
  rw [hlv] at LA
  unfold segV at LA
  have y0 : ∀ y : Lcl.InS (fun w' => Fr (fun _ => False) w5 w'), y.w.cell? ⟨w.heap.size, 0, none⟩ = some (.int .i64 En) := fun y => y.h.cel ((cell_of X5.out 0).trans rfl)
  have y1 : ∀ y : Lcl.InS (fun w' => Fr (fun _ => False) w5 w'), y.w.cell? ⟨w.heap.size, 1, none⟩ = some (.int .i64 b.span) := fun y => y.h.cel ((cell_of X5.out 1).trans rfl)
  have y2 : ∀ y : Lcl.InS (fun w' => Fr (fun _ => False) w5 w'), y.w.cell? ⟨w.heap.size, 2, none⟩ = some (.int .i64 b.prod) := fun y => y.h.cel ((cell_of X5.out 2).trans rfl)
  have y3 : ∀ y : Lcl.InS (fun w' => Fr (fun _ => False) w5 w'), y.w.cell? ⟨w.heap.size, 3, none⟩ = some (.int .i64 b.epoch) := fun y => y.h.cel ((cell_of X5.out 3).trans rfl)
  have y4 : ∀ y : Lcl.InS (fun w' => Fr (fun _ => False) w5 w'), y.w.cell? ⟨w.heap.size, 4, none⟩ = some (.int .i64 b.seq) := fun y => y.h.cel ((cell_of X5.out 4).trans rfl)
  have y5 : ∀ y : Lcl.InS (fun w' => Fr (fun _ => False) w5 w'), y.w.cell? ⟨w.heap.size, 5, none⟩ = some (.slice oa b.recs.length cap) := fun y => y.h.cel ((cell_of X5.out 5).trans rfl)
  clear hlv
  refine Lcl.wp_region_calm (by kernel_rfl) [(true, [0]), (false, [2])] #[0, 1, 0, 7, 15] [0, 1, 2] 3 #[true, false, true, false, false] (by kernel_rfl) (by kernel_rfl) (by kernel_rfl) (fun w' => Fr (fun _ => False) w5 w') (Fr.same w5).drew (fun d c a v w h => by cases d <;> exact h) ?_
  simp only [Lcl.opsOf, List.map_cons, List.map_nil, List.getElem?_toArray, List.getElem?_cons_succ, List.getElem?_cons_zero, Option.getD_some]
  refine Lcl.wpCalm_t ?_
  repeat (go_big_quiet_step (rfl))
  refine wpQuiet_nil ?_
  refine Lcl.wpCalm_f ?_
  repeat (go_big_quiet_step (rfl))
  refine wpQuiet_nil ?_
  refine Lcl.wpCalm_nil ?_
  clear y0 y1 y2 y3 y4 y5
  refine Lcl.wpG_one 1 rfl (by kernel_rfl) ?_
  go_wp2_with fail
  refine LA.out.mono ?_
  rintro e w6 ⟨rfl, hf⟩
  have Q6 := Lib.hid ((Fr.same w5).drew.tr hf)
  have F6 := Lib.hid (FR5.out.trans Q6.out fun i h => h.elim)
  have D6 := Lib.hid (D5.out.old Q6.out)
  have X6 := Lib.hid ((Q6.out.block _ (lt_of_heap X5.out) fun h => h).trans X5.out)
  clear hf LA
  go_wp2_with fail
  refine ⟨fun _ _ => Q6.out, ?_⟩
  have hxm : x ∈ es0 ++ [x] := List.mem_append.2 (.inr (by simp))
  have hxS : ∀ i, x.S i → S i := fun i hi => by
    obtain ⟨sv, G, hV, hSS⟩ := D6.out.lg
    exact (hSS i).2 (.inr (.inr ⟨x, hxm, hi⟩))
  have hll := D6.out.last_le hxm
  have hnm := nmS_size p x.s.base
  have hp1 := D6.out.lg.p1
  have hp2 := D6.out.lg.p2
  have hnL := D6.out.nL
  have hbw := D6.out.b2
  have HAP := Lib.hid (sappend_walk (D6.out.lg.seg hxm) D6.out.dk D6.out.ok (fun i hi => D6.out.lg.ap (hxS i hi)) (fun i hi => (D6.out.lg.lt (hxS i hi)).2) (by omega) (by omega) (by omega) D6.out.rm D6.out.file_le K (fun k hk => (HK.out k hk).2) (baseB b En) (.slice oa b.recs.length cap) (HR.out.fr F6.out fun k hk h => h.elim (HK.out k hk).1 (HK.out k hk).2) (HST.out.fr F6.out fun h => D.out.nz h rfl) (fun i hi => D6.out.nz (hi.imp (hxS i) id)) (by omega) (by omega) hbw)
  unfold batV baseB at HAP
  dsimp only at HAP
  clear hxS hnm hp1 hp2 hnL hbw hll
  refine Lcl.wpG_one 3 rfl (by kernel_rfl) ?_
  go_wp2_with fail
  refine HAP.out.mono ?_
  rintro e w7 ⟨he, hok, hno⟩
  obtain ⟨c, hcd⟩ : ∃ c, c = apCode x.s ⟨En, b.span, b.prod, b.epoch, b.seq, b.recs⟩ room used fuse := ⟨_, rfl⟩
  rw [← hcd] at he hok hno
  subst he
  have CD := Lib.hid (show c = appCode room used fuse (bsz (baseB b En)) from by
    rw [hcd]
    unfold apCode
    exact if_pos ⟨HB.out, by rw [XE5.out]; exact Int.le_refl _⟩)
  clear hcd HAP
  by_cases hc0 : c = 0
  · subst hc0
    have hroom : used + bsz (baseB b En) ≤ room := by
      have h1 := CD.out
      unfold appCode at h1
      split at h1
      · cases h1
      · split at h1
        · cases h1
        · omega
    have hPU := D6.out.pushed (by omega) HB.out (by rw [XE5.out]; exact Int.le_refl _) hroom (hok rfl)
    obtain ⟨S1, L7, S7, F7, hd7, hot, hsf, hhas, hfo, hfr⟩ := hPU
    have hnw : ¬ (S w.heap.size ∨ DkS db mb L w.heap.size) := fun h => by
      rcases h with h | h
      · exact absurd h NS5.out
      · have := D.out.dk.lt h; omega
    have X7 := Lib.hid ((hfr.block w.heap.size (lt_of_heap X6.out) hnw).trans X6.out)
    have c7 : w7.cell? ⟨w.heap.size, 0, none⟩ = some (.int .i64 En) := (cell_of X7.out 0).trans rfl
    have D7 := Lib.hid hd7
    have FOo := FO5.out
    have FO67 := Lib.hid hfo
    have SZ5 := Lib.hid (show w.heap.size ≤ w5.heap.size ∧ w5.heap.size ≤ w6.heap.size ∧ w6.heap.size ≤ w7.heap.size from ⟨FR5.out.size, Q6.out.size, hfr.size⟩)
    have FO6 := Lib.hid (FOo.trans (Foot.refl (db := db) (mb := mb) (S := S) (L := L) w5 w6) SZ5.out.1 SZ5.out.2.1)
    have FO7 := Lib.hid (FO6.out.trans hfo (Nat.le_trans SZ5.out.1 SZ5.out.2.1) SZ5.out.2.2)
    have FR7 := Lib.hid (FO6.out.fr F6.out hfr)
    have OT7 := Lib.hid (OT5.out.trans hot)
    have SF7 := Lib.hid (fun (k : Nat) (h : SafeN p (segsOf (es0 ++ [x])) L F k) => hsf k (SF5.out k h))
    have SG7 := Lib.hid (show segsOf (es0 ++ [⟨x.sb, x.s.push (baseB b En), S1⟩]) = appS lim ev beg (segsOf (es0 ++ [x])) (baseB b En) from by rw [segs_concat, AP5.out])
    have HH7 := Lib.hid hhas
    clear hok hno hd7 hot hsf hhas hfo hfr hnw FOo hroom
    go_wp2_with fail
    refine ⟨fun h => absurd h (by decide), ?_⟩
    refine Lcl.wpG_run [4] _ _ _ (by kernel_rfl) ?_
    simp only [List.map_cons, List.map_nil, List.getElem?_toArray, List.getElem?_cons_succ, List.getElem?_cons_zero, Option.getD_some]
    cases sy with
    | false =>
      go_wp2_with fail
      go_ret2
      exact ⟨0, true, _, L7, S7, _, _, F7, rfl, D7.out.more (by omega) (by omega), OT7.out, SF7.out, FO7.out, FR7.out, fun _ => ⟨SG7.out, rfl⟩, fun h => (by cases h), fun _ => rfl, fun _ _ => rfl, fun h => absurd HB.out h, fun h => ⟨by rw [FU5.out h]; rfl, fun _ _ => rfl⟩, fun _ h => (by cases h)⟩
    | true =>
      have LA := Lib.hid (last_walk D7.out.lg)
      have hlv : lastV (es0 ++ [⟨x.sb, x.s.push (baseB b En), S1⟩]) = .pointer (some ⟨x.sb, 0, none⟩) := by unfold lastV; rw [List.getLast?_concat]; rfl
      rw [hlv] at LA
      have hnm := nmS_size p x.s.base
      have hp2 := D7.out.lg.p2
      clear hlv
      go_wp2_with fail
      refine LA.out.mono ?_
      rintro e w8 ⟨rfl, hf8⟩
      have hd8 := D7.out.old hf8
      have hsw := ssync_walk (hd8.lg.seg (e := ⟨x.sb, x.s.push (baseB b En), S1⟩) (List.mem_append.2 (.inr (by simp)))) hd8.dk hd8.ok (by show (nmS p x.s.base).size ≤ 40; omega)
      have HSW := Lib.hid hsw
      have D8 := Lib.hid hd8
      have c8 : w8.cell? ⟨w.heap.size, 0, none⟩ = some (.int .i64 En) := hf8.cel c7
      have X8 := Lib.hid ((hf8.block _ (lt_of_heap X7.out) fun h => h).trans X7.out)
      have FR8 := Lib.hid (FR7.out.trans hf8 fun i h => h.elim)
      have FO8 := Lib.hid (FO7.out.trans (Foot.refl (db := db) (mb := mb) (S := S7) (L := L7) w7 w8) FR7.out.size hf8.size)
      clear hf8 hd8 hsw hnm hp2 LA c7
      go_wp2_with fail
      refine HSW.out.mono ?_
      intro e w9 hpost
      obtain ⟨c2, rfl, hsy⟩ := D8.out.synced hpost
      obtain ⟨fu9, F9, hd9, hot, hsf, hls, hc2, hfu, hc7, hfr⟩ := hsy
      have hnw : ¬ (S7 w.heap.size ∨ DkS db mb L7 w.heap.size) := fun h => by
        have hlt6 := lt_of_heap X6.out
        rcases h with h | h
        · rcases FO67.out.1 _ h with h3 | h3
          · exact absurd h3 NS5.out
          · omega
        · rcases FO67.out.2 _ h with h3 | h3
          · have := D.out.dk.lt h3; omega
          · omega
      have c9 : w9.cell? ⟨w.heap.size, 0, none⟩ = some (.int .i64 En) := hfr.cell c8 hnw
      have D9 := Lib.hid hd9
      have FR9 := Lib.hid (FO8.out.fr FR8.out hfr)
      have FO9 := Lib.hid (FO8.out.trans (Foot.refl (db := db) (mb := mb) (S := S7) (L := L7) w8 w9) FR8.out.size hfr.size)
      have OT9 := Lib.hid (OT7.out.trans hot)
      have SF9 := Lib.hid (fun (k : Nat) (h : SafeN p (segsOf (es0 ++ [x])) L F k) => hsf k (SF7.out k h))
      have HLS := Lib.hid hls
      have HFU := Lib.hid hfu
      clear hpost hd9 hot hsf hls hfu hc7 hfr hnw c8 HSW
      rcases hc2 with rfl | rfl
      · have HLS2 := Lib.hid (HLS.out rfl)
        have HFU2 := Lib.hid (fun h => (HFU.out h).2)
        clear HLS HFU
        go_wp2_with fail
        go_ret2
        exact ⟨0, true, _, L7, S7, _, _, F9, rfl, D9.out.more (by omega) (by omega), OT9.out, SF9.out, FO9.out, FR9.out, fun _ => ⟨SG7.out, rfl⟩, fun h => (by cases h), fun _ => rfl, fun h => (by cases h), fun h => absurd HB.out h, fun h => ⟨HFU2.out (by rw [FU5.out h]; rfl), fun _ _ => rfl⟩, fun _ _ => HLS2.out⟩
      · have HFU2 := Lib.hid (show fuse ≠ -1 from fun h => absurd (HFU.out (by rw [FU5.out h]; rfl)).1 (by decide))
        clear HLS HFU
        go_wp2_with fail
        go_ret2
        exact ⟨7, true, _, L7, S7, _, _, F9, rfl, D9.out.more (by omega) (by omega), OT9.out, SF9.out, FO9.out, FR9.out, fun _ => ⟨SG7.out, rfl⟩, fun h => (by cases h), fun h => absurd h (by decide), fun h => (by cases h), fun h => absurd HB.out h, fun h => absurd h HFU2.out, fun h => absurd h (by decide)⟩
  · have hf1 := hno hc0
    have D7 := Lib.hid (D6.out.old hf1)
    have FR7 := Lib.hid (F6.out.trans hf1 fun i h => h.elim)
    have FO7 := Lib.hid (FO5.out.trans (Foot.refl (db := db) (mb := mb) (S := S) (L := L) w5 w7) FR5.out.size (Nat.le_trans Q6.out.size hf1.size))
    have hq : (c == 0) = false := by simpa using hc0
    have hq2 : (c != 0) = true := by simpa using hc0
    clear hok hno hf1
    go_wp2_with fail
    refine ⟨fun h => absurd h (by decide), ?_⟩
    refine Lcl.wpG_run [4] _ _ _ (by kernel_rfl) ?_
    simp only [List.map_cons, List.map_nil, List.getElem?_toArray, List.getElem?_cons_succ, List.getElem?_cons_zero, Option.getD_some]
    go_wp2_with fail
    go_ret2
    refine ⟨c, false, _, L, S, _, _, F, by rw [if_neg hc0]; rfl, D7.out.more (by omega) (by omega), OT5.out, SF5.out, FO7.out, FR7.out, fun h => (by cases h), fun _ => ⟨rfl, rfl, rfl⟩, fun h => absurd h hc0, fun _ h => (by cases h), fun h => absurd HB.out h, fun h => ⟨FU5.out h, fun _ hr => ?_⟩, fun h => absurd h hc0⟩
    have h1 := CD.out
    rw [FU5.out h] at h1
    unfold appCode at h1
    rw [if_neg (by decide), if_neg (by omega)] at h1
    exact h1
end
end Go.Proofs.YtdlnafhhkpklmaaGreatDoor

/- Append to a log, a new segment behind others: the walk. -/
namespace Go.Proofs.YtdlnafhhkpklmaaGreatDoor
open Go.RowKit Go.Fm Go.BigFrame Go.Shelf Go.Maps
set_option linter.unusedVariables false
set_option linter.unusedSimpArgs false
set_option maxRecDepth 100000

section
variable {B : Nat} {w w' : World} {lb db mb : Nat} {p : ByteArray} {lim ev : Nat} {beg : Int} {es : List PE} {own : Bool} {L : List Row} {S : Nat → Prop} {room used fuse : Int} {F : ByteArray → ByteArray × Nat} {n : Nat}
set_option maxHeartbeats 8000000 in
theorem lapp_new {es0 : List PE} {x0 : PE} (D0 : LogD B w lb db mb p lim ev beg (es0 ++ [x0]) true L S room used fuse F n) (hn : n < 699) (hlim : lim ≤ sumB x0.s.l) (hst : StepsOK w) (K : Nat → Prop) (hK : ∀ k, K k → ¬ S k ∧ ¬ DkS db mb L k) (b : Bat) (v : Value) (hr : RecsR K w v b.recs) (En : Nat) (hE : (En : Int) = lgEnd beg (es0 ++ [x0])) (hb : BatOK (baseB b En)) (sy : Bool) :
    Calls Tryz.prog 13 #[.pointer (some ⟨lb, 0, none⟩), batV b v, .bool sy] w (LApPost B w lb db mb p lim ev beg (es0 ++ [x0]) true L S room used fuse F n (baseB b En) sy) := by
  obtain ⟨oa, cap, hv⟩ : ∃ a c, v = .slice a b.recs.length c := by obtain ⟨a, c, h, -⟩ := hr; exact ⟨a, c, h⟩
  subst hv
  have hfa := (Fr.same w).alloc (.cells (batBox b (.slice oa b.recs.length cap)) 36)
  have hle := lend_walk (D0.lg.old hfa)
  rw [← hE] at hle
  have HE := Lib.hid hle
  have D := Lib.hid D0
  have HR := Lib.hid hr
  have HST := Lib.hid hst
  have HB := Lib.hid hb
  have HK := Lib.hid hK
  have EE := Lib.hid hE
  have FA := Lib.hid hfa
  have X := Lib.hid (heap_alloc_self w (.cells (batBox b (.slice oa b.recs.length cap)) 36))
  unfold batBox at HE FA X
  unfold batV
  clear D0 hr hb hfa hE hst hK hle
  go_enter Tryz.func13, Tryz.ntmps13
  go_wp2_with fail
  refine HE.out.mono ?_
  rintro e w1 ⟨rfl, hf⟩
  have F1 := Lib.hid (FA.out.tr hf)
  have X1 := Lib.hid ((hf.block _ (by simp) fun h => h).trans X.out)
  have c0 : w1.cell? ⟨w.heap.size, 0, none⟩ = some (.int .i64 b.base) := (cell_of X1.out 0).trans rfl
  have f0 := fz_of X1.out 0
  clear hf HE FA X
  have hX2 : (w1.setCell ⟨w.heap.size, 0, none⟩ (.int .i64 En)).heap[w.heap.size]? = some (.cells #[.int .i64 En, .int .i64 b.span, .int .i64 b.prod, .int .i64 b.epoch, .int .i64 b.seq, .slice oa b.recs.length cap] 36 (0, 0)) := by
    rw [heap_setCell_self X1.out]; rfl
  have hF2 : Fr (fun _ => False) w (w1.setCell ⟨w.heap.size, 0, none⟩ (.int .i64 En)) := Fr.setCell (S := fun _ => False) (p := ⟨w.heap.size, 0, none⟩) F1.out (.inr (Nat.le_refl _)) _
  obtain ⟨w2, hw2⟩ : ∃ w2, w2 = w1.setCell ⟨w.heap.size, 0, none⟩ (.int .i64 En) := ⟨_, rfl⟩
  rw [← hw2] at hX2 hF2
  have X2 := Lib.hid hX2
  have F2 := Lib.hid hF2
  have HCK := Lib.hid (bcheck_walk K (baseB b En) (.slice oa b.recs.length cap) w2 (HR.out.old hF2))
  have d0 : w2.cell? ⟨w.heap.size, 0, none⟩ = some (.int .i64 En) := (cell_of hX2 0).trans rfl
  have c1 : w2.cell? ⟨w.heap.size, 1, none⟩ = some (.int .i64 b.span) := (cell_of hX2 1).trans rfl
  have c2 : w2.cell? ⟨w.heap.size, 2, none⟩ = some (.int .i64 b.prod) := (cell_of hX2 2).trans rfl
  have c3 : w2.cell? ⟨w.heap.size, 3, none⟩ = some (.int .i64 b.epoch) := (cell_of hX2 3).trans rfl
  have c4 : w2.cell? ⟨w.heap.size, 4, none⟩ = some (.int .i64 b.seq) := (cell_of hX2 4).trans rfl
  have c5 : w2.cell? ⟨w.heap.size, 5, none⟩ = some (.slice oa b.recs.length cap) := (cell_of hX2 5).trans rfl
  unfold batV baseB at HCK
  dsimp only at HCK
  rw [hw2] at c1 c2 c3 c4 c5 d0 HCK
  clear hX2 hF2
  go_wp2_with fail
  rw [← hw2] at HCK ⊢
  refine HCK.out.mono ?_
  rintro e w3 ⟨c, rfl, hc, hf⟩
  have hc1 : c = 0 := by
    rcases hc with ⟨h1, -⟩ | ⟨-, h1⟩
    · exact h1
    · exact absurd HB.out h1
  subst hc1
  clear hc
  have F3 := Lib.hid (F2.out.tr hf)
  have X3 := Lib.hid ((hf.block _ (lt_of_heap X2.out) fun h => h).trans X2.out)
  have D3 := Lib.hid (D.out.old F3.out)
  have HLA := Lib.hid (last_walk D3.out.lg)
  have hlv : lastV (es0 ++ [x0]) = segV x0 := by unfold lastV; rw [List.getLast?_concat]
  rw [hlv] at HLA
  unfold segV at HLA
  clear hlv
  have HW2 := Lib.hid hw2
  clear hf c1 c2 c3 c4 c5 d0 HCK X2 F2 hw2 HW2 c0 f0
  go_wp2_with fail
  refine HLA.out.mono ?_
  rintro e w4 ⟨rfl, hf⟩
  have F4 := Lib.hid (F3.out.tr hf)
  have D4 := Lib.hid (D3.out.old hf)
  have X4 := Lib.hid ((hf.block _ (lt_of_heap X3.out) fun h => h).trans X3.out)
  clear hf F3 D3 X3 HLA X1 F1
  have hlc : w4.cell? ⟨lb, 1, none⟩ = some (.int .i64 lim) := by
    obtain ⟨sv, G, h1, -⟩ := D4.out.lg
    exact (cell_of h1.b 1).trans rfl
  have y1 : ∀ y : Lcl.InS (fun w' => Fr (fun _ => False) w4 w'), y.w.cell? ⟨lb, 1, none⟩ = some (.int .i64 lim) := fun y => y.h.cel hlc
  clear hlc
  go_wp2_with fail
  refine Lcl.wp_region_calm (by kernel_rfl) [(true, [0, 1, 2, 3, 5, 6, 7, 8]), (false, [9])] #[0, 1, 3, 7, 15, 7, 39, 103, 231, 487, 1023, 2047] [0, 1, 2, 3, 4, 5, 6, 7, 8, 9] 3 #[true, true, true, true, false, true, true, true, true, true, false, false] (by kernel_rfl) (by kernel_rfl) (by kernel_rfl) (fun w' => Fr (fun _ => False) w4 w') (Fr.same w4).drew (fun d c a v w h => by cases d <;> exact h) ?_
  simp only [Lcl.opsOf, List.map_cons, List.map_nil, List.getElem?_toArray, List.getElem?_cons_succ, List.getElem?_cons_zero, Option.getD_some]
  refine Lcl.wpCalm_t ?_
  repeat (go_big_quiet_step (rfl))
  refine wpQuiet_nil ?_
  refine Lcl.wpCalm_f ?_
  repeat (go_big_quiet_step (rfl))
  refine wpQuiet_nil ?_
  refine Lcl.wpCalm_nil ?_
  clear y1
  have F5 := Lib.hid F4.out.drew
  have D5 := Lib.hid (D4.out.old (Fr.same w4).drew)
  have X5 := Lib.hid (show w4.drew.heap[w.heap.size]? = _ from X4.out)
  have Q5 := Lib.hid ((Fr.same w4).drew)
  have HZ := Lib.hid (ssize_walk (D5.out.lg.seg (e := x0) (List.mem_append.2 (.inr (by simp)))))
  refine Lcl.wpG_one 4 rfl (by kernel_rfl) ?_
  go_wp2_with fail
  refine HZ.out.mono ?_
  rintro e w5 ⟨rfl, hw5⟩
  rw [hw5] at F5 D5 X5 Q5
  clear hw5 HZ X4 D4 F4
  go_wp2_with fail
  refine ⟨fun _ _ => Q5.out, ?_⟩
  refine Lcl.wpG_run [10, 11] _ _ _ (by kernel_rfl) ?_
  simp only [List.map_cons, List.map_nil, List.getElem?_toArray, List.getElem?_cons_succ, List.getElem?_cons_zero, Option.getD_some]
  have hlt : ((lim : Nat) : Int) ≤ (sumB x0.s.l : Nat) := by omega
  have hls := lsync_walk D5.out.lg D5.out.dk D5.out.ok
  have HLS := Lib.hid hls
  clear hls
  go_wp2_with fail
  refine HLS.out.mono ?_
  intro e ws hpost
  unfold LSynPost at hpost
  rw [List.getLast?_concat] at hpost
  dsimp only at hpost
  obtain ⟨c2, rfl, hsy⟩ := D5.out.synced hpost
  obtain ⟨fs, Fs, hd9, hot, hsf, hlsf, hc2, hfu, hc7, hfr⟩ := hsy
  have hwlt := lt_of_heap X5.out
  have hXs := (hfr.block w.heap.size hwlt fun h => by have := (D.out.lt h).2; omega).trans X5.out
  have Ds := Lib.hid hd9
  have Xs := Lib.hid hXs
  have FRs := Lib.hid ((F5.out.mono (S' := fun i => S i ∨ DkS db mb L i) fun i h => h.elim).trans hfr fun i h => .inl h)
  have OTs := Lib.hid hot
  have SFs := Lib.hid hsf
  have HLSF := Lib.hid hlsf
  have FUs := Lib.hid (fun h : fuse = -1 => (hfu h).2)
  have HC7 := Lib.hid (fun h : fuse = -1 => (hfu h).1)
  have hl50 : 50 ≤ lim := by
    obtain ⟨sv, G, hV, -⟩ := D.out.lg
    exact hV.l1
  have NEs := Lib.hid (show ∀ y, (es0 ++ [x0]).getLast? = some y → y.s.l ≠ [] from fun y hy h0 => by
    rw [List.getLast?_concat] at hy
    injection hy with hy
    subst hy
    rw [h0] at hlim
    have h9 : sumB [] = 0 := rfl
    omega)
  clear hpost hd9 hot hsf hlsf hfu hc7 hfr hXs HLS hwlt
  rcases hc2 with rfl | rfl
  case inr =>
    go_wp2_with fail
    go_ret2
    exact ⟨7, false, _, L, S, _, _, _, rfl, Ds.out.more (by omega) (by omega), OTs.out, SFs.out, Foot.refl _ _, FRs.out, fun h => (by cases h), fun _ => ⟨rfl, rfl, rfl⟩, fun h => absurd h (by decide), fun _ h => (by cases h), fun h => absurd HB.out h, fun h => absurd (HC7.out h) (by decide), fun h => absurd h (by decide)⟩
  have LSs := Lib.hid (HLSF.out rfl)
  obtain ⟨SV, hSV⟩ : ∃ SV, ws.heap[lb]? = some (lgObj p lim ev db beg SV) := by
    obtain ⟨sv, G, hV, -⟩ := Ds.out.lg
    exact ⟨sv, hV.b⟩
  have hSV := Lib.hid hSV
  clear HLSF HC7 D5 X5 F5 Q5 hlt
  go_wp2_with fail
  have hdlb : ¬ DkS db mb L lb := by
    obtain ⟨sv, G, hV, hSS⟩ := Ds.out.lg
    exact hV.ap _ (.inl rfl)
  have hdb0 : ¬ DkS db mb L w.heap.size := fun h => by have := D.out.dk.lt h; omega
  have hcl : ws.heap[lb]? = some (lgObj p lim ev db beg SV) := hSV.out
  have z0 : ∀ y : Lcl.InS (fun w' => Fr (DkS db mb L) ws w'), y.w.cell? ⟨lb, 0, none⟩ = some (.string p) := fun y => y.h.cell ((cell_of hcl 0).trans rfl) hdlb
  have z1 : ∀ y : Lcl.InS (fun w' => Fr (DkS db mb L) ws w'), y.w.cell? ⟨lb, 1, none⟩ = some (.int .i64 lim) := fun y => y.h.cell ((cell_of hcl 1).trans rfl) hdlb
  have z2 : ∀ y : Lcl.InS (fun w' => Fr (DkS db mb L) ws w'), y.w.cell? ⟨lb, 2, none⟩ = some (.int .i64 ev) := fun y => y.h.cell ((cell_of hcl 2).trans rfl) hdlb
  have z3 : ∀ y : Lcl.InS (fun w' => Fr (DkS db mb L) ws w'), y.w.cell? ⟨lb, 3, none⟩ = some (.pointer (some ⟨db, 0, none⟩)) := fun y => y.h.cell ((cell_of hcl 3).trans rfl) hdlb
  have z5 : ∀ y : Lcl.InS (fun w' => Fr (DkS db mb L) ws w'), y.w.cell? ⟨w.heap.size, 0, none⟩ = some (.int .i64 En) := fun y => y.h.cell ((cell_of Xs.out 0).trans rfl) hdb0
  have LB := Lib.hid hdlb
  have LB0 := Lib.hid hdb0
  clear hcl hdlb hdb0
  refine Lcl.wp_region_calm (by kernel_rfl) [(true, [0, 1, 2, 4, 5, 6, 8, 11, 13, 14, 15, 16]), (false, [3, 7, 9, 12, 17])] #[0, 1, 3, 7, 0, 16, 48, 112, 0, 256, 1008, 0, 2048, 0, 8192, 24576, 57344, 122880, 262143, 524287, 1048575, 1048575, 2097151, 8388607] [0, 1, 2, 3, 4, 5, 6, 7, 8, 9, 10, 11, 12, 13, 14, 15, 16, 17] 7 #[true, true, true, true, true, true, true, true, true, true, false, true, true, true, true, true, true, true, false, false, false, false, false, false] (by kernel_rfl) (by kernel_rfl) (by kernel_rfl) (fun w' => Fr (DkS db mb L) ws w') (Fr.refl _ ws).drew (fun d c a v w h => by cases d <;> exact h) ?_
  simp only [Lcl.opsOf, List.map_cons, List.map_nil, List.getElem?_toArray, List.getElem?_cons_succ, List.getElem?_cons_zero, Option.getD_some]
  refine Lcl.wpCalm_t ?_
  repeat (go_big_quiet_step (rfl))
  refine wpQuiet_nil ?_
  refine Lcl.wpCalm_f ?_
  repeat (go_big_quiet_step (rfl))
  refine wpQuiet_nil ?_
  refine Lcl.wpCalm_nil ?_
  clear z0 z1 z2 z3 z5
  have hnw := name_walk p lim ev En (by have := HB.out.base1; show En ≤ _; unfold baseB at this; dsimp only at this; omega) ws.drew Ds.out.lg.p2
  unfold cfgV at hnw
  have HNW := Lib.hid hnw
  clear hnw
  refine Lcl.wpG_one 10 rfl (by kernel_rfl) ?_
  go_wp2_with fail
  refine HNW.out.mono ?_
  rintro e wn ⟨rfl, hfn⟩
  have Fn := Lib.hid ((Fr.same ws).drew.tr hfn)
  have FnD := Lib.hid ((Fn.out).mono (S' := DkS db mb L) fun i h => h.elim)
  clear hfn HNW
  have Dn := Lib.hid (Ds.out.old Fn.out)
  go_wp2_with fail
  refine ⟨fun _ _ => FnD.out, ?_⟩
  have hnm := nmS_size p En
  have hp1 := Ds.out.lg.p1
  have hp2 := Ds.out.lg.p2
  have hEle : En ≤ 1099511627776 := by have := HB.out.base1; unfold baseB at this; dsimp only at this; omega
  have hev : 1 ≤ ev ∧ ev ≤ 1000000 := by
    obtain ⟨sv, G, hV, hSS⟩ := Ds.out.lg
    exact ⟨hV.e1, hV.e2⟩
  have HEV := Lib.hid hev
  have HEL := Lib.hid hEle
  have HNM := Lib.hid (show 1 ≤ (nmS p En).size ∧ (nmS p En).size ≤ 40 from by omega)
  clear hnm hp1 hp2 hev hEle
  by_cases hfs : fs = 0
  · have HOP := Lib.hid (sopen_down (hfs ▸ Dn.out.dk) (nmS p En) HNM.out.1 HNM.out.2 En ev HEL.out HEV.out.1 HEV.out.2)
    refine Lcl.wpG_one 18 rfl (by kernel_rfl) ?_
    go_wp2_with fail
    refine HOP.out.mono ?_
    rintro e wo ⟨rfl, hfo⟩
    have Fo := Lib.hid (Fn.out.tr hfo)
    have Do := Lib.hid (Dn.out.old hfo)
    clear hfo HOP
    go_wp2_with fail
    refine ⟨fun h => absurd h (by decide), ?_⟩
    refine Lcl.wpG_one 19 rfl (by kernel_rfl) ?_
    go_wp2_with fail
    refine ⟨fun h => absurd h (by decide), ?_⟩
    refine Lcl.wpG_calm (m := #[0, 1, 3, 7, 0, 16, 48, 112, 0, 256, 1008, 0, 2048, 0, 8192, 24576, 57344, 122880, 262143, 524287, 1048575, 1048575, 2097151, 8388607]) (needs := [0, 1, 2, 3, 4, 5, 6, 7, 8, 9, 10, 11, 12, 13, 14, 15, 16, 17]) (fuel := 0) (by kernel_rfl) ?hqA (Fo.out.mono fun i h => h.elim) [(true, [20, 21, 22, 23])] _ _ ?k1A ?k2A ?k3A ?k4A
    case hqA => exact fun d c a v w h => by cases d <;> exact h
    case k1A => kernel_rfl
    case k2A => rfl
    case k3A => kernel_rfl
    simp only [Lcl.opsOf, List.map_cons, List.map_nil, List.getElem?_toArray, List.getElem?_cons_succ, List.getElem?_cons_zero, Option.getD_some]
    refine Lcl.wpCalm_t ?_
    repeat (go_big_quiet_step (rfl))
    refine wpQuiet_nil ?_
    refine Lcl.wpCalm_nil ?_
    refine Lcl.wpG_run [] _ _ _ (by kernel_rfl) ?_
    simp only [List.map_cons, List.map_nil, List.getElem?_toArray, List.getElem?_cons_succ, List.getElem?_cons_zero, Option.getD_some]
    go_wp2_with fail
    go_ret2
    exact ⟨7, false, _, L, S, _, _, _, rfl, Do.out.more (by omega) (by omega), OTs.out, SFs.out, Foot.refl _ _, FRs.out.trans Fo.out fun i h => h.elim, fun h => (by cases h), fun _ => ⟨rfl, rfl, rfl⟩, fun h => absurd h (by decide), fun _ h => (by cases h), fun h => absurd HB.out h, fun h => absurd (FUs.out h) (by rw [hfs]; decide), fun h => absurd h (by decide)⟩
  · have hund := Ds.out.under NEs.out
    have hgn := (Ds.out.fl.snew (s := ⟨En, ev, []⟩) LSs.out (last_segs NEs.out) rfl (fun a ha => by have := hund a ha; rw [← EE.out] at this; show _ < (En : Nat) ∧ _ ≤ ((En : Nat) : Int); omega) HEL.out).2
    have hb2 := Dn.out.b2
    have hb1 := Dn.out.b1
    have HOP := Lib.hid (sopen_none Dn.out.dk Dn.out.ok hfs (nmS p En) HNM.out.1 HNM.out.2 En ev HEL.out HEV.out.1 HEV.out.2 hgn [] 0 (scan_all (l := []) (e := (En : Int)) (.nil _) (by simp [sumB])) (HST.out.fr (FRs.out.trans Fn.out fun i h => h.elim) fun h => D.out.nz h rfl) (by simp) hb2 (by omega))
    clear hund hgn hb2 hb1
    refine Lcl.wpG_one 18 rfl (by kernel_rfl) ?_
    go_wp2_with fail
    refine HOP.out.mono ?_
    rintro e wo ⟨sb, So, rfl, hso, hSo, -, hdo, hfo⟩
    have hdo := hdo (by decide)
    have Do := Lib.hid (Dn.out.redk hfo hdo)
    have Fo := Lib.hid (Fn.out.mono (S' := DkS db mb L) (fun i h => h.elim) |>.trans hfo fun i h => .inl h)
    have SO := Lib.hid hso
    have SOL := Lib.hid hSo
    clear hso hSo hdo hfo HOP
    go_wp2_with fail
    refine ⟨fun h => absurd h (by decide), ?_⟩
    refine Lcl.wpG_one 19 rfl (by kernel_rfl) ?_
    go_wp2_with fail
    refine ⟨fun h => absurd h (by decide), ?_⟩
    refine Lcl.wpG_calm (m := #[0, 1, 3, 7, 0, 16, 48, 112, 0, 256, 1008, 0, 2048, 0, 8192, 24576, 57344, 122880, 262143, 524287, 1048575, 1048575, 2097151, 8388607]) (needs := [0, 1, 2, 3, 4, 5, 6, 7, 8, 9, 10, 11, 12, 13, 14, 15, 16, 17]) (fuel := 0) (by kernel_rfl) ?hqB (Fo.out) [(true, [20, 21, 22, 23])] _ _ ?k1B ?k2B ?k3B ?k4B
    case hqB => exact fun d c a v w h => by cases d <;> exact h
    case k1B => kernel_rfl
    case k2B => rfl
    case k3B => kernel_rfl
    simp only [Lcl.opsOf, List.map_cons, List.map_nil, List.getElem?_toArray, List.getElem?_cons_succ, List.getElem?_cons_zero, Option.getD_some]
    refine Lcl.wpCalm_t ?_
    repeat (go_big_quiet_step (rfl))
    refine wpQuiet_nil ?_
    refine Lcl.wpCalm_nil ?_
    refine Lcl.wpG_run [] _ _ _ (by kernel_rfl) ?_
    simp only [List.map_cons, List.map_nil, List.getElem?_toArray, List.getElem?_cons_succ, List.getElem?_cons_zero, Option.getD_some]
    have XO := Lib.hid ((Fo.out.block _ (lt_of_heap Xs.out) LB0.out).trans Xs.out)
    have hszs := lt_of_heap Xs.out
    have hszn := Fn.out.size
    have hszo := Fo.out.size
    obtain ⟨sv, G, hV, hSS⟩ := Do.out.lg
    obtain ⟨oa2, cap2, hsv, -⟩ := hV.rd
    have hown := (hV.ow rfl).1
    obtain ⟨m, hm⟩ : ∃ m, m = ((es0 ++ [x0])).length := ⟨_, rfl⟩
    obtain ⟨xs, hxs⟩ : ∃ xs, xs = (((es0 ++ [x0])).map segV) := ⟨_, rfl⟩
    rw [← hm] at hsv hown
    rw [← hxs] at hown
    subst hsv
    have HXS := Lib.hid hxs
    clear hxs
    have HM := Lib.hid hm
    clear hm
    have HV := Lib.hid hV
    have HSS := Lib.hid hSS
    have k5 : wo.cell? ⟨lb, 5, none⟩ = some (.slice oa2 m cap2) := (cell_of hV.b 5).trans rfl
    have halb : (wo.alloc (.cells #[.pointer (some ⟨sb, 0, none⟩)] 96)).heap[lb]? = _ := (heap_alloc_lt _ (lt_of_heap hV.b)).trans hV.b
    have OWN := Lib.hid (own_eq (w' := wo.alloc (.cells #[.pointer (some ⟨sb, 0, none⟩)] 96)) hown fun k hk => heap_alloc_lt _ (own_lt hown hk).2)
    have ALB := Lib.hid halb
    have hcn : (wo.alloc (.cells #[.pointer (some ⟨sb, 0, none⟩)] 96)).cell? ⟨wo.heap.size, 0, none⟩ = some (.pointer (some ⟨sb, 0, none⟩)) := cell_alloc_new _ _ _ 0
    have CN := Lib.hid hcn
    have ELn := Lib.hid Do.out.nE
    have SZS := Lib.hid (And.intro hszs (And.intro hszn hszo))
    clear hV hSS hown halb hcn hszs hszn hszo
    go_wp2_with (at_builtin; refine wpList_push_seg _ rfl (.tmp 71) (.tmp 73) rfl B (.slice oa2 m cap2) m (xs) rfl OWN.out wo.heap.size 1 rfl (some ⟨sb, 0, none⟩) CN.out ?len ?hB ?_)
    case len => have := ELn.out; have := HM.out; omega
    case hB => have := Do.out.b2; simp; omega
    intro v3 wa ho3 hg3 hb3
    obtain ⟨oa3, cap3, hv3, hoa3, hno3⟩ := own_slice ho3
    subst hv3
    have hgne : ∀ k, (Value.slice oa2 m cap2).ownBlock = some k → k ≠ lb := fun k hk => HV.out.nb k (.inl ((HV.out.ow rfl).2 k hk))
    have hlb3 : wa.heap[lb]? = some (lgObj p lim ev db beg (.slice oa2 m cap2)) := (hg3.block lb (lt_of_heap ALB.out) fun e => hgne lb e.symm rfl).trans ALB.out
    have k5' : wa.cell? ⟨lb, 5, none⟩ = some (.slice oa2 m cap2) := (cell_of hlb3 5).trans rfl
    have f5' := fz_of hlb3 5
    have hfa : Fr (fun i => i = lb ∨ (Value.slice oa2 m cap2).ownBlock = some i) wo wa := ((Fr.refl _ wo).alloc _).grown hg3 fun k hk => .inl (.inr hk)
    have hfb : Fr (fun i => i = lb ∨ (Value.slice oa2 m cap2).ownBlock = some i) wo (wa.setCell ⟨lb, 5, none⟩ (.slice oa3 (m + 1) cap3)) := hfa.setCell (p := ⟨lb, 5, none⟩) (.inl (.inl rfl)) _
    have hbb : (wa.setCell ⟨lb, 5, none⟩ (.slice oa3 (m + 1) cap3)).heap[lb]? = some (lgObj p lim ev db beg (.slice oa3 (m + 1) cap3)) := by
      rw [heap_setCell_self hlb3]; rfl
    have hne3 : (Value.slice oa3 (m + 1) cap3).ownBlock ≠ some lb := fun e => by
      rcases hb3 with h1 | h1
      · rw [h1] at e; exact hgne lb e rfl
      · rw [h1] at e
        injection e with e
        have := lt_of_heap ALB.out
        have h9 := lt_of_heap HV.out.b
        try simp at e
        omega
    have hob : (wa.setCell ⟨lb, 5, none⟩ (.slice oa3 (m + 1) cap3)).ownsRow B 96 1 (.slice oa3 (m + 1) cap3) (m + 1) (xs ++ [.pointer (some ⟨sb, 0, none⟩)]) :=
      own_eq ho3 fun k hk => heap_setCell_ne _ (fun e => hne3 (by rw [hk, e])) _
    have hvb : (Value.slice oa3 (m + 1) cap3).ownBlock = (Value.slice oa2 m cap2).ownBlock ∨ ∃ g, (Value.slice oa3 (m + 1) cap3).ownBlock = some g ∧ wo.heap.size ≤ g ∧ g < (wa.setCell ⟨lb, 5, none⟩ (.slice oa3 (m + 1) cap3)).heap.size := by
      rcases hb3 with h1 | h1
      · exact .inl h1
      · right
        refine ⟨_, h1, by simp, ?_⟩
        have h9 := (own_lt hob h1).2
        exact h9
    clear ho3 hg3 hb3 hoa3 hno3 hfa OWN CN
    go_wp2_with fail
    generalize hw5 : wa.setCell ⟨lb, 5, none⟩ (.slice oa3 (m + 1) cap3) = w5 at *
    clear hw5 k5' f5' hlb3 hne3 hgne k5
    obtain ⟨x, hx⟩ : ∃ x : PE, x = ⟨sb, ⟨En, ev, []⟩, So⟩ := ⟨_, rfl⟩
    have hx1 : x.s.base = En := by rw [hx]
    have hx2 : x.s.l = [] := by rw [hx]
    have hx3 : segV x = .pointer (some ⟨sb, 0, none⟩) := by rw [hx]; rfl
    have hnews := Do.out.newseg (x := x) (by omega) LSs.out NEs.out (by rw [hx1]; exact EE.out) hx2 (by rw [hx]; exact SO.out) (fun i hi => by
      rw [hx] at hi
      have h1 := SOL.out i hi
      have h2 := SZS.out
      have h3 := Do.out.b2
      refine ⟨by have := Ds.out.b2; omega, h1.2, fun h => ?_, fun h => ?_⟩
      · have := (Dn.out.lg.lt h).2; omega
      · have := Dn.out.dk.lt h; omega) (by rw [hx1]; exact HEL.out) HV.out HSS.out hfb hbb (by
      rw [List.length_append, List.length_singleton, ← HM.out, List.map_append, List.map_singleton, hx3, ← HXS.out]
      exact hob) hvb
    obtain ⟨S3, hd5, hsf, hS3, hcat, hend, -⟩ := hnews
    have h5sz := hfb.size
    have hfr5 : Fr (fun i => S i ∨ DkS db mb L i) ws w5 := (Fo.out.mono (S' := fun i => S i ∨ DkS db mb L i) fun i h => .inl (.inr h)).trans hfb fun i h => .inl (.inl (by
      rcases h with h | h
      · exact (HSS.out i).2 (.inl h)
      · exact (HSS.out i).2 (.inr (.inl ((HV.out.ow rfl).2 i h)))))
    have hX5 := (hfb.block w.heap.size (Nat.lt_of_lt_of_le SZS.out.1 SZS.out.2.2) (fun h => by
      have h1 : S w.heap.size := by
        rcases h with h | h
        · exact (HSS.out _).2 (.inl h)
        · exact (HSS.out _).2 (.inr (.inl ((HV.out.ow rfl).2 _ h)))
      have := (D.out.lg.lt h1).2
      omega)).trans XO.out
    have D5 := Lib.hid hd5
    have X5 := Lib.hid hX5
    have FR5 := Lib.hid (FRs.out.trans hfr5 fun i h => .inl h)
    have FO5 := Lib.hid (show Foot db mb w w5 S L S3 L from ⟨fun i hi => by
      have h1 := FRs.out.size
      have h2 := SZS.out
      rcases hS3 i hi with h | h | h
      · exact .inl h
      · rw [hx] at h
        have := SOL.out i h
        exact .inr ⟨by omega, by omega⟩
      · exact .inr ⟨by omega, h.2⟩, fun i hi => .inl hi⟩)
    have NS5 := Lib.hid (show ¬ S3 w.heap.size from fun h => by
      have h2 := SZS.out
      rcases hS3 _ h with h | h | h
      · have := (D.out.lg.lt h).2; omega
      · rw [hx] at h
        have := SOL.out _ h
        omega
      · omega)
    have SF5 := Lib.hid (fun (k : Nat) (h : SafeN p (segsOf (es0 ++ [x0])) L F k) => hsf k (SFs.out k h))
    have CT5 := Lib.hid (And.intro hcat hend)
    have XE5 := Lib.hid (show x.s.end' = (En : Int) from by rw [EE.out, ← hend, lgEnd_concat])
    have AP5 := Lib.hid (show appS lim ev beg (segsOf (es0 ++ [x0])) (baseB b En) = segsOf (es0 ++ [x0]) ++ [x.s.push (baseB b En)] from by
      unfold appS
      conv => lhs; rw [segs_concat, List.getLast?_concat]
      dsimp only
      rw [if_pos hlim]
      have h9 : x0.s.end'.toNat = En := by
        have := EE.out
        rw [lgEnd_concat] at this
        omega
      rw [h9, hx, segs_concat]
      rfl)
    clear hd5 hX5 hfr5 hsf hS3 hcat hend hx hx1 hx2 hx3 hfb hbb hob hvb h5sz
    have LA := Lib.hid (last_walk (D5.out.lg.old (Fr.same w5).drew))
    have hlv : lastV ((es0 ++ [x0]) ++ [x]) = segV x := by unfold lastV; rw [List.getLast?_concat]
    rw [hlv] at LA
    unfold segV at LA
    have y0 : ∀ y : Lcl.InS (fun w' => Fr (fun _ => False) w5 w'), y.w.cell? ⟨w.heap.size, 0, none⟩ = some (.int .i64 En) := fun y => y.h.cel ((cell_of X5.out 0).trans rfl)
    have y1 : ∀ y : Lcl.InS (fun w' => Fr (fun _ => False) w5 w'), y.w.cell? ⟨w.heap.size, 1, none⟩ = some (.int .i64 b.span) := fun y => y.h.cel ((cell_of X5.out 1).trans rfl)
    have y2 : ∀ y : Lcl.InS (fun w' => Fr (fun _ => False) w5 w'), y.w.cell? ⟨w.heap.size, 2, none⟩ = some (.int .i64 b.prod) := fun y => y.h.cel ((cell_of X5.out 2).trans rfl)
    have y3 : ∀ y : Lcl.InS (fun w' => Fr (fun _ => False) w5 w'), y.w.cell? ⟨w.heap.size, 3, none⟩ = some (.int .i64 b.epoch) := fun y => y.h.cel ((cell_of X5.out 3).trans rfl)
    have y4 : ∀ y : Lcl.InS (fun w' => Fr (fun _ => False) w5 w'), y.w.cell? ⟨w.heap.size, 4, none⟩ = some (.int .i64 b.seq) := fun y => y.h.cel ((cell_of X5.out 4).trans rfl)
    have y5 : ∀ y : Lcl.InS (fun w' => Fr (fun _ => False) w5 w'), y.w.cell? ⟨w.heap.size, 5, none⟩ = some (.slice oa b.recs.length cap) := fun y => y.h.cel ((cell_of X5.out 5).trans rfl)
    clear hlv
    refine Lcl.wp_region_calm (by kernel_rfl) [(true, [0]), (false, [2])] #[0, 1, 0, 7, 15] [0, 1, 2] 3 #[true, false, true, false, false] (by kernel_rfl) (by kernel_rfl) (by kernel_rfl) (fun w' => Fr (fun _ => False) w5 w') (Fr.same w5).drew (fun d c a v w h => by cases d <;> exact h) ?_
    simp only [Lcl.opsOf, List.map_cons, List.map_nil, List.getElem?_toArray, List.getElem?_cons_succ, List.getElem?_cons_zero, Option.getD_some]
    refine Lcl.wpCalm_t ?_
    repeat (go_big_quiet_step (rfl))
    refine wpQuiet_nil ?_
    refine Lcl.wpCalm_f ?_
    repeat (go_big_quiet_step (rfl))
    refine wpQuiet_nil ?_
    refine Lcl.wpCalm_nil ?_
    clear y0 y1 y2 y3 y4 y5
    refine Lcl.wpG_one 1 rfl (by kernel_rfl) ?_
    go_wp2_with fail
    refine LA.out.mono ?_
    rintro e w6 ⟨rfl, hf⟩
    have Q6 := Lib.hid ((Fr.same w5).drew.tr hf)
    have F6 := Lib.hid (FR5.out.trans Q6.out fun i h => h.elim)
    have D6 := Lib.hid (D5.out.old Q6.out)
    have X6 := Lib.hid ((Q6.out.block _ (lt_of_heap X5.out) fun h => h).trans X5.out)
    clear hf LA
    go_wp2_with fail
    refine ⟨fun _ _ => Q6.out, ?_⟩
    have hxm : x ∈ (es0 ++ [x0]) ++ [x] := List.mem_append.2 (.inr (by simp))
    have hxS : ∀ i, x.S i → S3 i := fun i hi => by
      obtain ⟨sv, G, hV, hSS⟩ := D6.out.lg
      exact (hSS i).2 (.inr (.inr ⟨x, hxm, hi⟩))
    have hll := D6.out.last_le hxm
    have hnm := nmS_size p x.s.base
    have hp1 := D6.out.lg.p1
    have hp2 := D6.out.lg.p2
    have hnL := D6.out.nL
    have hbw := D6.out.b2
    have HAP := Lib.hid (sappend_walk (D6.out.lg.seg hxm) D6.out.dk D6.out.ok (fun i hi => D6.out.lg.ap (hxS i hi)) (fun i hi => (D6.out.lg.lt (hxS i hi)).2) (by omega) (by omega) (by omega) D6.out.rm D6.out.file_le K (fun k hk => (HK.out k hk).2) (baseB b En) (.slice oa b.recs.length cap) (HR.out.fr F6.out fun k hk h => h.elim (HK.out k hk).1 (HK.out k hk).2) (HST.out.fr F6.out fun h => D.out.nz h rfl) (fun i hi => D6.out.nz (hi.imp (hxS i) id)) (by omega) (by omega) hbw)
    unfold batV baseB at HAP
    dsimp only at HAP
    clear hxS hnm hp1 hp2 hnL hbw hll
    refine Lcl.wpG_one 3 rfl (by kernel_rfl) ?_
    go_wp2_with fail
    refine HAP.out.mono ?_
    rintro e w7 ⟨he, hok, hno⟩
    obtain ⟨c, hcd⟩ : ∃ c, c = apCode x.s ⟨En, b.span, b.prod, b.epoch, b.seq, b.recs⟩ room used fs := ⟨_, rfl⟩
    rw [← hcd] at he hok hno
    subst he
    have CD := Lib.hid (show c = appCode room used fs (bsz (baseB b En)) from by
      rw [hcd]
      unfold apCode
      exact if_pos ⟨HB.out, by rw [XE5.out]; exact Int.le_refl _⟩)
    clear hcd HAP
    by_cases hc0 : c = 0
    · subst hc0
      have hroom : used + bsz (baseB b En) ≤ room := by
        have h1 := CD.out
        unfold appCode at h1
        split at h1
        · cases h1
        · split at h1
          · cases h1
          · omega
      have hPU := D6.out.pushed (by omega) HB.out (by rw [XE5.out]; exact Int.le_refl _) hroom (hok rfl)
      obtain ⟨S1, L7, S7, F7, hd7, hot, hsf, hhas, hfo, hfr⟩ := hPU
      have hnw : ¬ (S3 w.heap.size ∨ DkS db mb L w.heap.size) := fun h => by
        rcases h with h | h
        · exact absurd h NS5.out
        · have := D.out.dk.lt h; omega
      have X7 := Lib.hid ((hfr.block w.heap.size (lt_of_heap X6.out) hnw).trans X6.out)
      have c7 : w7.cell? ⟨w.heap.size, 0, none⟩ = some (.int .i64 En) := (cell_of X7.out 0).trans rfl
      have D7 := Lib.hid hd7
      have FOo := FO5.out
      have FO67 := Lib.hid hfo
      have SZ5 := Lib.hid (show w.heap.size ≤ w5.heap.size ∧ w5.heap.size ≤ w6.heap.size ∧ w6.heap.size ≤ w7.heap.size from ⟨FR5.out.size, Q6.out.size, hfr.size⟩)
      have FO6 := Lib.hid (FOo.trans (Foot.refl (db := db) (mb := mb) (S := S3) (L := L) w5 w6) SZ5.out.1 SZ5.out.2.1)
      have FO7 := Lib.hid (FO6.out.trans hfo (Nat.le_trans SZ5.out.1 SZ5.out.2.1) SZ5.out.2.2)
      have FR7 := Lib.hid (FO6.out.fr F6.out hfr)
      have OT7 := Lib.hid (OTs.out.trans hot)
      have SF7 := Lib.hid (fun (k : Nat) (h : SafeN p (segsOf (es0 ++ [x0])) L F k) => hsf k (SF5.out k h))
      have SG7 := Lib.hid (show segsOf ((es0 ++ [x0]) ++ [⟨x.sb, x.s.push (baseB b En), S1⟩]) = appS lim ev beg (segsOf (es0 ++ [x0])) (baseB b En) from by rw [segs_concat, AP5.out])
      have HH7 := Lib.hid hhas
      clear hok hno hd7 hot hsf hhas hfo hfr hnw FOo hroom
      go_wp2_with fail
      refine ⟨fun h => absurd h (by decide), ?_⟩
      refine Lcl.wpG_run [4] _ _ _ (by kernel_rfl) ?_
      simp only [List.map_cons, List.map_nil, List.getElem?_toArray, List.getElem?_cons_succ, List.getElem?_cons_zero, Option.getD_some]
      cases sy with
      | false =>
        go_wp2_with fail
        go_ret2
        exact ⟨0, true, _, L7, S7, _, _, F7, rfl, D7.out.more (by omega) (by omega), OT7.out, SF7.out, FO7.out, FR7.out, fun _ => ⟨SG7.out, rfl⟩, fun h => (by cases h), fun _ => rfl, fun _ _ => rfl, fun h => absurd HB.out h, fun h => ⟨by rw [FUs.out h]; rfl, fun _ _ => rfl⟩, fun _ h => (by cases h)⟩
      | true =>
        have LA := Lib.hid (last_walk D7.out.lg)
        have hlv : lastV ((es0 ++ [x0]) ++ [⟨x.sb, x.s.push (baseB b En), S1⟩]) = .pointer (some ⟨x.sb, 0, none⟩) := by unfold lastV; rw [List.getLast?_concat]; rfl
        rw [hlv] at LA
        have hnm := nmS_size p x.s.base
        have hp2 := D7.out.lg.p2
        clear hlv
        go_wp2_with fail
        refine LA.out.mono ?_
        rintro e w8 ⟨rfl, hf8⟩
        have hd8 := D7.out.old hf8
        have hsw := ssync_walk (hd8.lg.seg (e := ⟨x.sb, x.s.push (baseB b En), S1⟩) (List.mem_append.2 (.inr (by simp)))) hd8.dk hd8.ok (by show (nmS p x.s.base).size ≤ 40; omega)
        have HSW := Lib.hid hsw
        have D8 := Lib.hid hd8
        have c8 : w8.cell? ⟨w.heap.size, 0, none⟩ = some (.int .i64 En) := hf8.cel c7
        have X8 := Lib.hid ((hf8.block _ (lt_of_heap X7.out) fun h => h).trans X7.out)
        have FR8 := Lib.hid (FR7.out.trans hf8 fun i h => h.elim)
        have FO8 := Lib.hid (FO7.out.trans (Foot.refl (db := db) (mb := mb) (S := S7) (L := L7) w7 w8) FR7.out.size hf8.size)
        clear hf8 hd8 hsw hnm hp2 LA c7
        go_wp2_with fail
        refine HSW.out.mono ?_
        intro e w9 hpost
        obtain ⟨c2, rfl, hsy⟩ := D8.out.synced hpost
        obtain ⟨fu9, F9, hd9, hot, hsf, hls, hc2, hfu, hc7, hfr⟩ := hsy
        have hnw : ¬ (S7 w.heap.size ∨ DkS db mb L7 w.heap.size) := fun h => by
          have hlt6 := lt_of_heap X6.out
          rcases h with h | h
          · rcases FO67.out.1 _ h with h3 | h3
            · exact absurd h3 NS5.out
            · omega
          · rcases FO67.out.2 _ h with h3 | h3
            · have := D.out.dk.lt h3; omega
            · omega
        have c9 : w9.cell? ⟨w.heap.size, 0, none⟩ = some (.int .i64 En) := hfr.cell c8 hnw
        have D9 := Lib.hid hd9
        have FR9 := Lib.hid (FO8.out.fr FR8.out hfr)
        have FO9 := Lib.hid (FO8.out.trans (Foot.refl (db := db) (mb := mb) (S := S7) (L := L7) w8 w9) FR8.out.size hfr.size)
        have OT9 := Lib.hid (OT7.out.trans hot)
        have SF9 := Lib.hid (fun (k : Nat) (h : SafeN p (segsOf (es0 ++ [x0])) L F k) => hsf k (SF7.out k h))
        have HLS := Lib.hid hls
        have HFU := Lib.hid hfu
        clear hpost hd9 hot hsf hls hfu hc7 hfr hnw c8 HSW
        rcases hc2 with rfl | rfl
        · have HLS2 := Lib.hid (HLS.out rfl)
          have HFU2 := Lib.hid (fun h => (HFU.out h).2)
          clear HLS HFU
          go_wp2_with fail
          go_ret2
          exact ⟨0, true, _, L7, S7, _, _, F9, rfl, D9.out.more (by omega) (by omega), OT9.out, SF9.out, FO9.out, FR9.out, fun _ => ⟨SG7.out, rfl⟩, fun h => (by cases h), fun _ => rfl, fun h => (by cases h), fun h => absurd HB.out h, fun h => ⟨HFU2.out (by rw [FUs.out h]; rfl), fun _ _ => rfl⟩, fun _ _ => HLS2.out⟩
        · have HFU2 := Lib.hid (show fuse ≠ -1 from fun h => absurd (HFU.out (by rw [FUs.out h]; rfl)).1 (by decide))
          clear HLS HFU
          go_wp2_with fail
          go_ret2
          exact ⟨7, true, _, L7, S7, _, _, F9, rfl, D9.out.more (by omega) (by omega), OT9.out, SF9.out, FO9.out, FR9.out, fun _ => ⟨SG7.out, rfl⟩, fun h => (by cases h), fun h => absurd h (by decide), fun h => (by cases h), fun h => absurd HB.out h, fun h => absurd h HFU2.out, fun h => absurd h (by decide)⟩
    · have hf1 := hno hc0
      have D7 := Lib.hid (D6.out.old hf1)
      have FR7 := Lib.hid (F6.out.trans hf1 fun i h => h.elim)
      have FO7 := Lib.hid (FO5.out.trans (Foot.refl (db := db) (mb := mb) (S := S3) (L := L) w5 w7) FR5.out.size (Nat.le_trans Q6.out.size hf1.size))
      have hq : (c == 0) = false := by simpa using hc0
      have hq2 : (c != 0) = true := by simpa using hc0
      clear hok hno hf1
      go_wp2_with fail
      refine ⟨fun h => absurd h (by decide), ?_⟩
      refine Lcl.wpG_run [4] _ _ _ (by kernel_rfl) ?_
      simp only [List.map_cons, List.map_nil, List.getElem?_toArray, List.getElem?_cons_succ, List.getElem?_cons_zero, Option.getD_some]
      go_wp2_with fail
      go_ret2
      refine ⟨c, false, _, L, S3, _, _, Fs, by rw [if_neg hc0]; rfl, D7.out.more (by omega) (by omega), OTs.out, SF5.out, FO7.out, FR7.out, fun h => (by cases h), fun _ => ⟨CT5.out.1, CT5.out.2, rfl⟩, fun h => absurd h hc0, fun _ h => (by cases h), fun h => absurd HB.out h, fun h => ⟨FUs.out h, fun _ hr => ?_⟩, fun h => absurd h hc0⟩
      have h1 := CD.out
      rw [FUs.out h] at h1
      unfold appCode at h1
      rw [if_neg (by decide), if_neg (by omega)] at h1
      exact h1

end
end Go.Proofs.YtdlnafhhkpklmaaGreatDoor

/- Append to a log, its first segment: the walk. -/
namespace Go.Proofs.YtdlnafhhkpklmaaGreatDoor
open Go.RowKit Go.Fm Go.BigFrame Go.Shelf Go.Maps
set_option linter.unusedVariables false
set_option linter.unusedSimpArgs false
set_option maxRecDepth 100000

section
variable {B : Nat} {w w' : World} {lb db mb : Nat} {p : ByteArray} {lim ev : Nat} {beg : Int} {es : List PE} {own : Bool} {L : List Row} {S : Nat → Prop} {room used fuse : Int} {F : ByteArray → ByteArray × Nat} {n : Nat}
set_option maxHeartbeats 8000000 in
theorem lapp_first  (D0 : LogD B w lb db mb p lim ev beg ([] : List PE) true L S room used fuse F n) (hn : n < 699) (hst : StepsOK w) (K : Nat → Prop) (hK : ∀ k, K k → ¬ S k ∧ ¬ DkS db mb L k) (b : Bat) (v : Value) (hr : RecsR K w v b.recs) (En : Nat) (hE : (En : Int) = lgEnd beg ([] : List PE)) (hb : BatOK (baseB b En)) (sy : Bool) :
    Calls Tryz.prog 13 #[.pointer (some ⟨lb, 0, none⟩), batV b v, .bool sy] w (LApPost B w lb db mb p lim ev beg ([] : List PE) true L S room used fuse F n (baseB b En) sy) := by
  obtain ⟨oa, cap, hv⟩ : ∃ a c, v = .slice a b.recs.length c := by obtain ⟨a, c, h, -⟩ := hr; exact ⟨a, c, h⟩
  subst hv
  have hfa := (Fr.same w).alloc (.cells (batBox b (.slice oa b.recs.length cap)) 36)
  have hle := lend_walk (D0.lg.old hfa)
  rw [← hE] at hle
  have HE := Lib.hid hle
  have D := Lib.hid D0
  have HR := Lib.hid hr
  have HST := Lib.hid hst
  have HB := Lib.hid hb
  have HK := Lib.hid hK
  have EE := Lib.hid hE
  have FA := Lib.hid hfa
  have X := Lib.hid (heap_alloc_self w (.cells (batBox b (.slice oa b.recs.length cap)) 36))
  unfold batBox at HE FA X
  unfold batV
  clear D0 hr hb hfa hE hst hK hle
  go_enter Tryz.func13, Tryz.ntmps13
  go_wp2_with fail
  refine HE.out.mono ?_
  rintro e w1 ⟨rfl, hf⟩
  have F1 := Lib.hid (FA.out.tr hf)
  have X1 := Lib.hid ((hf.block _ (by simp) fun h => h).trans X.out)
  have c0 : w1.cell? ⟨w.heap.size, 0, none⟩ = some (.int .i64 b.base) := (cell_of X1.out 0).trans rfl
  have f0 := fz_of X1.out 0
  clear hf HE FA X
  have hX2 : (w1.setCell ⟨w.heap.size, 0, none⟩ (.int .i64 En)).heap[w.heap.size]? = some (.cells #[.int .i64 En, .int .i64 b.span, .int .i64 b.prod, .int .i64 b.epoch, .int .i64 b.seq, .slice oa b.recs.length cap] 36 (0, 0)) := by
    rw [heap_setCell_self X1.out]; rfl
  have hF2 : Fr (fun _ => False) w (w1.setCell ⟨w.heap.size, 0, none⟩ (.int .i64 En)) := Fr.setCell (S := fun _ => False) (p := ⟨w.heap.size, 0, none⟩) F1.out (.inr (Nat.le_refl _)) _
  obtain ⟨w2, hw2⟩ : ∃ w2, w2 = w1.setCell ⟨w.heap.size, 0, none⟩ (.int .i64 En) := ⟨_, rfl⟩
  rw [← hw2] at hX2 hF2
  have X2 := Lib.hid hX2
  have F2 := Lib.hid hF2
  have HCK := Lib.hid (bcheck_walk K (baseB b En) (.slice oa b.recs.length cap) w2 (HR.out.old hF2))
  have d0 : w2.cell? ⟨w.heap.size, 0, none⟩ = some (.int .i64 En) := (cell_of hX2 0).trans rfl
  have c1 : w2.cell? ⟨w.heap.size, 1, none⟩ = some (.int .i64 b.span) := (cell_of hX2 1).trans rfl
  have c2 : w2.cell? ⟨w.heap.size, 2, none⟩ = some (.int .i64 b.prod) := (cell_of hX2 2).trans rfl
  have c3 : w2.cell? ⟨w.heap.size, 3, none⟩ = some (.int .i64 b.epoch) := (cell_of hX2 3).trans rfl
  have c4 : w2.cell? ⟨w.heap.size, 4, none⟩ = some (.int .i64 b.seq) := (cell_of hX2 4).trans rfl
  have c5 : w2.cell? ⟨w.heap.size, 5, none⟩ = some (.slice oa b.recs.length cap) := (cell_of hX2 5).trans rfl
  unfold batV baseB at HCK
  dsimp only at HCK
  rw [hw2] at c1 c2 c3 c4 c5 d0 HCK
  clear hX2 hF2
  go_wp2_with fail
  rw [← hw2] at HCK ⊢
  refine HCK.out.mono ?_
  rintro e w3 ⟨c, rfl, hc, hf⟩
  have hc1 : c = 0 := by
    rcases hc with ⟨h1, -⟩ | ⟨-, h1⟩
    · exact h1
    · exact absurd HB.out h1
  subst hc1
  clear hc
  have F3 := Lib.hid (F2.out.tr hf)
  have X3 := Lib.hid ((hf.block _ (lt_of_heap X2.out) fun h => h).trans X2.out)
  have D3 := Lib.hid (D.out.old F3.out)
  have HLA := Lib.hid (last_walk D3.out.lg)
  unfold lastV at HLA
  simp only [List.getLast?_nil] at HLA
  have HW2 := Lib.hid hw2
  clear hf c1 c2 c3 c4 c5 d0 HCK X2 F2 hw2 HW2 c0 f0
  go_wp2_with fail
  refine HLA.out.mono ?_
  rintro e w4 ⟨rfl, hf⟩
  have F4 := Lib.hid (F3.out.tr hf)
  have D4 := Lib.hid (D3.out.old hf)
  have X4 := Lib.hid ((hf.block _ (lt_of_heap X3.out) fun h => h).trans X3.out)
  clear hf F3 D3 X3 HLA X1 F1
  have hls := lsync_walk (D4.out.old (Fr.same w4).drew).lg (D4.out.old (Fr.same w4).drew).dk D4.out.ok
  have HLS := Lib.hid hls
  clear hls
  go_wp2_with fail
  refine Lcl.wp_region_calm (by kernel_rfl) [(true, [0, 1, 2, 3, 5, 6, 7, 8]), (false, [9])] #[0, 1, 3, 7, 15, 7, 39, 103, 231, 487, 1023, 2047] [0, 1, 2, 3, 4, 5, 6, 7, 8, 9] 3 #[true, true, true, true, false, true, true, true, true, true, false, false] (by kernel_rfl) (by kernel_rfl) (by kernel_rfl) (fun w' => Fr (fun _ => False) w4 w') (Fr.same w4).drew (fun d c a v w h => by cases d <;> exact h) ?_
  simp only [Lcl.opsOf, List.map_cons, List.map_nil, List.getElem?_toArray, List.getElem?_cons_succ, List.getElem?_cons_zero, Option.getD_some]
  refine Lcl.wpCalm_t ?_
  repeat (go_big_quiet_step (rfl))
  refine wpQuiet_nil ?_
  refine Lcl.wpCalm_f ?_
  repeat (go_big_quiet_step (rfl))
  refine wpQuiet_nil ?_
  refine Lcl.wpCalm_nil ?_
  refine Lcl.wpG_one 4 rfl (by kernel_rfl) ?_
  go_wp2_with fail
  refine ⟨fun _ h => h, ?_⟩
  refine Lcl.wpG_run [10, 11] _ _ _ (by kernel_rfl) ?_
  simp only [List.map_cons, List.map_nil, List.getElem?_toArray, List.getElem?_cons_succ, List.getElem?_cons_zero, Option.getD_some]
  go_wp2_with fail
  refine HLS.out.mono ?_
  intro e ws hpost
  unfold LSynPost at hpost
  simp only [List.getLast?_nil] at hpost
  obtain ⟨rfl, hfs0⟩ := hpost
  have Ds := Lib.hid ((D4.out.old (Fr.same w4).drew).old hfs0)
  have hwlt := lt_of_heap X4.out
  have Xs := Lib.hid ((hfs0.block w.heap.size hwlt fun h => h).trans X4.out)
  have FRs := Lib.hid ((F4.out.drew.tr hfs0).mono (S' := fun i => S i ∨ DkS db mb L i) fun i h => h.elim)
  obtain ⟨fs, hfse⟩ : ∃ fs, fs = fuse := ⟨_, rfl⟩
  obtain ⟨Fs, hFse⟩ : ∃ Fs, Fs = F := ⟨_, rfl⟩
  rw [← hfse, ← hFse] at Ds
  have OTs := Lib.hid (show Others p L F L Fs from by rw [hFse]; exact Others.refl p L F)
  have SFs := Lib.hid (show ∀ k, SafeN p (segsOf ([] : List PE)) L F k → SafeN p (segsOf ([] : List PE)) L Fs k from by rw [hFse]; exact fun k h => h)
  have FUs := Lib.hid (fun h : fuse = -1 => show fs = -1 from by rw [hfse]; exact h)
  have NEs := Lib.hid (show ∀ y, ([] : List PE).getLast? = some y → y.s.l ≠ [] from fun y hy => by cases hy)
  have LSs := Lib.hid (show LastSafe p (segsOf ([] : List PE)) L Fs from fun s hs => by cases hs)
  obtain ⟨SV, hSV⟩ : ∃ SV, ws.heap[lb]? = some (lgObj p lim ev db beg SV) := by
    obtain ⟨sv, G, hV, -⟩ := Ds.out.lg
    exact ⟨sv, hV.b⟩
  have hSV := Lib.hid hSV
  clear hfs0 hwlt HLS D4 X4 F4 hfse hFse
  go_wp2_with fail
  have hdlb : ¬ DkS db mb L lb := by
    obtain ⟨sv, G, hV, hSS⟩ := Ds.out.lg
    exact hV.ap _ (.inl rfl)
  have hdb0 : ¬ DkS db mb L w.heap.size := fun h => by have := D.out.dk.lt h; omega
  have hcl : ws.heap[lb]? = some (lgObj p lim ev db beg SV) := hSV.out
  have z0 : ∀ y : Lcl.InS (fun w' => Fr (DkS db mb L) ws w'), y.w.cell? ⟨lb, 0, none⟩ = some (.string p) := fun y => y.h.cell ((cell_of hcl 0).trans rfl) hdlb
  have z1 : ∀ y : Lcl.InS (fun w' => Fr (DkS db mb L) ws w'), y.w.cell? ⟨lb, 1, none⟩ = some (.int .i64 lim) := fun y => y.h.cell ((cell_of hcl 1).trans rfl) hdlb
  have z2 : ∀ y : Lcl.InS (fun w' => Fr (DkS db mb L) ws w'), y.w.cell? ⟨lb, 2, none⟩ = some (.int .i64 ev) := fun y => y.h.cell ((cell_of hcl 2).trans rfl) hdlb
  have z3 : ∀ y : Lcl.InS (fun w' => Fr (DkS db mb L) ws w'), y.w.cell? ⟨lb, 3, none⟩ = some (.pointer (some ⟨db, 0, none⟩)) := fun y => y.h.cell ((cell_of hcl 3).trans rfl) hdlb
  have z5 : ∀ y : Lcl.InS (fun w' => Fr (DkS db mb L) ws w'), y.w.cell? ⟨w.heap.size, 0, none⟩ = some (.int .i64 En) := fun y => y.h.cell ((cell_of Xs.out 0).trans rfl) hdb0
  have LB := Lib.hid hdlb
  have LB0 := Lib.hid hdb0
  clear hcl hdlb hdb0
  refine Lcl.wp_region_calm (by kernel_rfl) [(true, [0, 1, 2, 4, 5, 6, 8, 11, 13, 14, 15, 16]), (false, [3, 7, 9, 12, 17])] #[0, 1, 3, 7, 0, 16, 48, 112, 0, 256, 1008, 0, 2048, 0, 8192, 24576, 57344, 122880, 262143, 524287, 1048575, 1048575, 2097151, 8388607] [0, 1, 2, 3, 4, 5, 6, 7, 8, 9, 10, 11, 12, 13, 14, 15, 16, 17] 7 #[true, true, true, true, true, true, true, true, true, true, false, true, true, true, true, true, true, true, false, false, false, false, false, false] (by kernel_rfl) (by kernel_rfl) (by kernel_rfl) (fun w' => Fr (DkS db mb L) ws w') (Fr.refl _ ws).drew (fun d c a v w h => by cases d <;> exact h) ?_
  simp only [Lcl.opsOf, List.map_cons, List.map_nil, List.getElem?_toArray, List.getElem?_cons_succ, List.getElem?_cons_zero, Option.getD_some]
  refine Lcl.wpCalm_t ?_
  repeat (go_big_quiet_step (rfl))
  refine wpQuiet_nil ?_
  refine Lcl.wpCalm_f ?_
  repeat (go_big_quiet_step (rfl))
  refine wpQuiet_nil ?_
  refine Lcl.wpCalm_nil ?_
  clear z0 z1 z2 z3 z5
  have hnw := name_walk p lim ev En (by have := HB.out.base1; show En ≤ _; unfold baseB at this; dsimp only at this; omega) ws.drew Ds.out.lg.p2
  unfold cfgV at hnw
  have HNW := Lib.hid hnw
  clear hnw
  refine Lcl.wpG_one 10 rfl (by kernel_rfl) ?_
  go_wp2_with fail
  refine HNW.out.mono ?_
  rintro e wn ⟨rfl, hfn⟩
  have Fn := Lib.hid ((Fr.same ws).drew.tr hfn)
  have FnD := Lib.hid ((Fn.out).mono (S' := DkS db mb L) fun i h => h.elim)
  clear hfn HNW
  have Dn := Lib.hid (Ds.out.old Fn.out)
  go_wp2_with fail
  refine ⟨fun _ _ => FnD.out, ?_⟩
  have hnm := nmS_size p En
  have hp1 := Ds.out.lg.p1
  have hp2 := Ds.out.lg.p2
  have hEle : En ≤ 1099511627776 := by have := HB.out.base1; unfold baseB at this; dsimp only at this; omega
  have hev : 1 ≤ ev ∧ ev ≤ 1000000 := by
    obtain ⟨sv, G, hV, hSS⟩ := Ds.out.lg
    exact ⟨hV.e1, hV.e2⟩
  have HEV := Lib.hid hev
  have HEL := Lib.hid hEle
  have HNM := Lib.hid (show 1 ≤ (nmS p En).size ∧ (nmS p En).size ≤ 40 from by omega)
  clear hnm hp1 hp2 hev hEle
  by_cases hfs : fs = 0
  · have HOP := Lib.hid (sopen_down (hfs ▸ Dn.out.dk) (nmS p En) HNM.out.1 HNM.out.2 En ev HEL.out HEV.out.1 HEV.out.2)
    refine Lcl.wpG_one 18 rfl (by kernel_rfl) ?_
    go_wp2_with fail
    refine HOP.out.mono ?_
    rintro e wo ⟨rfl, hfo⟩
    have Fo := Lib.hid (Fn.out.tr hfo)
    have Do := Lib.hid (Dn.out.old hfo)
    clear hfo HOP
    go_wp2_with fail
    refine ⟨fun h => absurd h (by decide), ?_⟩
    refine Lcl.wpG_one 19 rfl (by kernel_rfl) ?_
    go_wp2_with fail
    refine ⟨fun h => absurd h (by decide), ?_⟩
    refine Lcl.wpG_calm (m := #[0, 1, 3, 7, 0, 16, 48, 112, 0, 256, 1008, 0, 2048, 0, 8192, 24576, 57344, 122880, 262143, 524287, 1048575, 1048575, 2097151, 8388607]) (needs := [0, 1, 2, 3, 4, 5, 6, 7, 8, 9, 10, 11, 12, 13, 14, 15, 16, 17]) (fuel := 0) (by kernel_rfl) ?hqA (Fo.out.mono fun i h => h.elim) [(true, [20, 21, 22, 23])] _ _ ?k1A ?k2A ?k3A ?k4A
    case hqA => exact fun d c a v w h => by cases d <;> exact h
    case k1A => kernel_rfl
    case k2A => rfl
    case k3A => kernel_rfl
    simp only [Lcl.opsOf, List.map_cons, List.map_nil, List.getElem?_toArray, List.getElem?_cons_succ, List.getElem?_cons_zero, Option.getD_some]
    refine Lcl.wpCalm_t ?_
    repeat (go_big_quiet_step (rfl))
    refine wpQuiet_nil ?_
    refine Lcl.wpCalm_nil ?_
    refine Lcl.wpG_run [] _ _ _ (by kernel_rfl) ?_
    simp only [List.map_cons, List.map_nil, List.getElem?_toArray, List.getElem?_cons_succ, List.getElem?_cons_zero, Option.getD_some]
    go_wp2_with fail
    go_ret2
    exact ⟨7, false, _, L, S, _, _, _, rfl, Do.out.more (by omega) (by omega), OTs.out, SFs.out, Foot.refl _ _, FRs.out.trans Fo.out fun i h => h.elim, fun h => (by cases h), fun _ => ⟨rfl, rfl, rfl⟩, fun h => absurd h (by decide), fun _ h => (by cases h), fun h => absurd HB.out h, fun h => absurd (FUs.out h) (by rw [hfs]; decide), fun h => absurd h (by decide)⟩
  · have hund := Ds.out.under NEs.out
    have hgn := (Ds.out.fl.snew (s := ⟨En, ev, []⟩) LSs.out (last_segs NEs.out) rfl (fun a ha => by have := hund a ha; rw [← EE.out] at this; show _ < (En : Nat) ∧ _ ≤ ((En : Nat) : Int); omega) HEL.out).2
    have hb2 := Dn.out.b2
    have hb1 := Dn.out.b1
    have HOP := Lib.hid (sopen_none Dn.out.dk Dn.out.ok hfs (nmS p En) HNM.out.1 HNM.out.2 En ev HEL.out HEV.out.1 HEV.out.2 hgn [] 0 (scan_all (l := []) (e := (En : Int)) (.nil _) (by simp [sumB])) (HST.out.fr (FRs.out.trans Fn.out fun i h => h.elim) fun h => D.out.nz h rfl) (by simp) hb2 (by omega))
    clear hund hgn hb2 hb1
    refine Lcl.wpG_one 18 rfl (by kernel_rfl) ?_
    go_wp2_with fail
    refine HOP.out.mono ?_
    rintro e wo ⟨sb, So, rfl, hso, hSo, -, hdo, hfo⟩
    have hdo := hdo (by decide)
    have Do := Lib.hid (Dn.out.redk hfo hdo)
    have Fo := Lib.hid (Fn.out.mono (S' := DkS db mb L) (fun i h => h.elim) |>.trans hfo fun i h => .inl h)
    have SO := Lib.hid hso
    have SOL := Lib.hid hSo
    clear hso hSo hdo hfo HOP
    go_wp2_with fail
    refine ⟨fun h => absurd h (by decide), ?_⟩
    refine Lcl.wpG_one 19 rfl (by kernel_rfl) ?_
    go_wp2_with fail
    refine ⟨fun h => absurd h (by decide), ?_⟩
    refine Lcl.wpG_calm (m := #[0, 1, 3, 7, 0, 16, 48, 112, 0, 256, 1008, 0, 2048, 0, 8192, 24576, 57344, 122880, 262143, 524287, 1048575, 1048575, 2097151, 8388607]) (needs := [0, 1, 2, 3, 4, 5, 6, 7, 8, 9, 10, 11, 12, 13, 14, 15, 16, 17]) (fuel := 0) (by kernel_rfl) ?hqB (Fo.out) [(true, [20, 21, 22, 23])] _ _ ?k1B ?k2B ?k3B ?k4B
    case hqB => exact fun d c a v w h => by cases d <;> exact h
    case k1B => kernel_rfl
    case k2B => rfl
    case k3B => kernel_rfl
    simp only [Lcl.opsOf, List.map_cons, List.map_nil, List.getElem?_toArray, List.getElem?_cons_succ, List.getElem?_cons_zero, Option.getD_some]
    refine Lcl.wpCalm_t ?_
    repeat (go_big_quiet_step (rfl))
    refine wpQuiet_nil ?_
    refine Lcl.wpCalm_nil ?_
    refine Lcl.wpG_run [] _ _ _ (by kernel_rfl) ?_
    simp only [List.map_cons, List.map_nil, List.getElem?_toArray, List.getElem?_cons_succ, List.getElem?_cons_zero, Option.getD_some]
    have XO := Lib.hid ((Fo.out.block _ (lt_of_heap Xs.out) LB0.out).trans Xs.out)
    have hszs := lt_of_heap Xs.out
    have hszn := Fn.out.size
    have hszo := Fo.out.size
    obtain ⟨sv, G, hV, hSS⟩ := Do.out.lg
    obtain ⟨oa2, cap2, hsv, -⟩ := hV.rd
    have hown := (hV.ow rfl).1
    obtain ⟨m, hm⟩ : ∃ m, m = (([] : List PE)).length := ⟨_, rfl⟩
    obtain ⟨xs, hxs⟩ : ∃ xs, xs = ((([] : List PE)).map segV) := ⟨_, rfl⟩
    rw [← hm] at hsv hown
    rw [← hxs] at hown
    subst hsv
    have HXS := Lib.hid hxs
    clear hxs
    have HM := Lib.hid hm
    clear hm
    have HV := Lib.hid hV
    have HSS := Lib.hid hSS
    have k5 : wo.cell? ⟨lb, 5, none⟩ = some (.slice oa2 m cap2) := (cell_of hV.b 5).trans rfl
    have halb : (wo.alloc (.cells #[.pointer (some ⟨sb, 0, none⟩)] 96)).heap[lb]? = _ := (heap_alloc_lt _ (lt_of_heap hV.b)).trans hV.b
    have OWN := Lib.hid (own_eq (w' := wo.alloc (.cells #[.pointer (some ⟨sb, 0, none⟩)] 96)) hown fun k hk => heap_alloc_lt _ (own_lt hown hk).2)
    have ALB := Lib.hid halb
    have hcn : (wo.alloc (.cells #[.pointer (some ⟨sb, 0, none⟩)] 96)).cell? ⟨wo.heap.size, 0, none⟩ = some (.pointer (some ⟨sb, 0, none⟩)) := cell_alloc_new _ _ _ 0
    have CN := Lib.hid hcn
    have ELn := Lib.hid Do.out.nE
    have SZS := Lib.hid (And.intro hszs (And.intro hszn hszo))
    clear hV hSS hown halb hcn hszs hszn hszo
    go_wp2_with (at_builtin; refine wpList_push_seg _ rfl (.tmp 71) (.tmp 73) rfl B (.slice oa2 m cap2) m (xs) rfl OWN.out wo.heap.size 1 rfl (some ⟨sb, 0, none⟩) CN.out ?len ?hB ?_)
    case len => have := ELn.out; have := HM.out; omega
    case hB => have := Do.out.b2; simp; omega
    intro v3 wa ho3 hg3 hb3
    obtain ⟨oa3, cap3, hv3, hoa3, hno3⟩ := own_slice ho3
    subst hv3
    have hgne : ∀ k, (Value.slice oa2 m cap2).ownBlock = some k → k ≠ lb := fun k hk => HV.out.nb k (.inl ((HV.out.ow rfl).2 k hk))
    have hlb3 : wa.heap[lb]? = some (lgObj p lim ev db beg (.slice oa2 m cap2)) := (hg3.block lb (lt_of_heap ALB.out) fun e => hgne lb e.symm rfl).trans ALB.out
    have k5' : wa.cell? ⟨lb, 5, none⟩ = some (.slice oa2 m cap2) := (cell_of hlb3 5).trans rfl
    have f5' := fz_of hlb3 5
    have hfa : Fr (fun i => i = lb ∨ (Value.slice oa2 m cap2).ownBlock = some i) wo wa := ((Fr.refl _ wo).alloc _).grown hg3 fun k hk => .inl (.inr hk)
    have hfb : Fr (fun i => i = lb ∨ (Value.slice oa2 m cap2).ownBlock = some i) wo (wa.setCell ⟨lb, 5, none⟩ (.slice oa3 (m + 1) cap3)) := hfa.setCell (p := ⟨lb, 5, none⟩) (.inl (.inl rfl)) _
    have hbb : (wa.setCell ⟨lb, 5, none⟩ (.slice oa3 (m + 1) cap3)).heap[lb]? = some (lgObj p lim ev db beg (.slice oa3 (m + 1) cap3)) := by
      rw [heap_setCell_self hlb3]; rfl
    have hne3 : (Value.slice oa3 (m + 1) cap3).ownBlock ≠ some lb := fun e => by
      rcases hb3 with h1 | h1
      · rw [h1] at e; exact hgne lb e rfl
      · rw [h1] at e
        injection e with e
        have := lt_of_heap ALB.out
        have h9 := lt_of_heap HV.out.b
        try simp at e
        omega
    have hob : (wa.setCell ⟨lb, 5, none⟩ (.slice oa3 (m + 1) cap3)).ownsRow B 96 1 (.slice oa3 (m + 1) cap3) (m + 1) (xs ++ [.pointer (some ⟨sb, 0, none⟩)]) :=
      own_eq ho3 fun k hk => heap_setCell_ne _ (fun e => hne3 (by rw [hk, e])) _
    have hvb : (Value.slice oa3 (m + 1) cap3).ownBlock = (Value.slice oa2 m cap2).ownBlock ∨ ∃ g, (Value.slice oa3 (m + 1) cap3).ownBlock = some g ∧ wo.heap.size ≤ g ∧ g < (wa.setCell ⟨lb, 5, none⟩ (.slice oa3 (m + 1) cap3)).heap.size := by
      rcases hb3 with h1 | h1
      · exact .inl h1
      · right
        refine ⟨_, h1, by simp, ?_⟩
        have h9 := (own_lt hob h1).2
        exact h9
    clear ho3 hg3 hb3 hoa3 hno3 hfa OWN CN
    go_wp2_with fail
    generalize hw5 : wa.setCell ⟨lb, 5, none⟩ (.slice oa3 (m + 1) cap3) = w5 at *
    clear hw5 k5' f5' hlb3 hne3 hgne k5
    obtain ⟨x, hx⟩ : ∃ x : PE, x = ⟨sb, ⟨En, ev, []⟩, So⟩ := ⟨_, rfl⟩
    have hx1 : x.s.base = En := by rw [hx]
    have hx2 : x.s.l = [] := by rw [hx]
    have hx3 : segV x = .pointer (some ⟨sb, 0, none⟩) := by rw [hx]; rfl
    have hnews := Do.out.newseg (x := x) (by omega) LSs.out NEs.out (by rw [hx1]; exact EE.out) hx2 (by rw [hx]; exact SO.out) (fun i hi => by
      rw [hx] at hi
      have h1 := SOL.out i hi
      have h2 := SZS.out
      have h3 := Do.out.b2
      refine ⟨by have := Ds.out.b2; omega, h1.2, fun h => ?_, fun h => ?_⟩
      · have := (Dn.out.lg.lt h).2; omega
      · have := Dn.out.dk.lt h; omega) (by rw [hx1]; exact HEL.out) HV.out HSS.out hfb hbb (by
      rw [List.length_append, List.length_singleton, ← HM.out, List.map_append, List.map_singleton, hx3, ← HXS.out]
      exact hob) hvb
    obtain ⟨S3, hd5, hsf, hS3, hcat, hend, -⟩ := hnews
    have h5sz := hfb.size
    have hfr5 : Fr (fun i => S i ∨ DkS db mb L i) ws w5 := (Fo.out.mono (S' := fun i => S i ∨ DkS db mb L i) fun i h => .inl (.inr h)).trans hfb fun i h => .inl (.inl (by
      rcases h with h | h
      · exact (HSS.out i).2 (.inl h)
      · exact (HSS.out i).2 (.inr (.inl ((HV.out.ow rfl).2 i h)))))
    have hX5 := (hfb.block w.heap.size (Nat.lt_of_lt_of_le SZS.out.1 SZS.out.2.2) (fun h => by
      have h1 : S w.heap.size := by
        rcases h with h | h
        · exact (HSS.out _).2 (.inl h)
        · exact (HSS.out _).2 (.inr (.inl ((HV.out.ow rfl).2 _ h)))
      have := (D.out.lg.lt h1).2
      omega)).trans XO.out
    have D5 := Lib.hid hd5
    have X5 := Lib.hid hX5
    have FR5 := Lib.hid (FRs.out.trans hfr5 fun i h => .inl h)
    have FO5 := Lib.hid (show Foot db mb w w5 S L S3 L from ⟨fun i hi => by
      have h1 := FRs.out.size
      have h2 := SZS.out
      rcases hS3 i hi with h | h | h
      · exact .inl h
      · rw [hx] at h
        have := SOL.out i h
        exact .inr ⟨by omega, by omega⟩
      · exact .inr ⟨by omega, h.2⟩, fun i hi => .inl hi⟩)
    have NS5 := Lib.hid (show ¬ S3 w.heap.size from fun h => by
      have h2 := SZS.out
      rcases hS3 _ h with h | h | h
      · have := (D.out.lg.lt h).2; omega
      · rw [hx] at h
        have := SOL.out _ h
        omega
      · omega)
    have SF5 := Lib.hid (fun (k : Nat) (h : SafeN p (segsOf ([] : List PE)) L F k) => hsf k (SFs.out k h))
    have CT5 := Lib.hid (And.intro hcat hend)
    have XE5 := Lib.hid (show x.s.end' = (En : Int) from by rw [EE.out, ← hend, lgEnd_concat])
    have AP5 := Lib.hid (show appS lim ev beg (segsOf ([] : List PE)) (baseB b En) = segsOf ([] : List PE) ++ [x.s.push (baseB b En)] from by
      have h9 : beg.toNat = En := by
        have := EE.out
        unfold lgEnd at this
        simp at this
        omega
      rw [hx]
      unfold appS segsOf
      simp only [List.map_nil, List.getLast?_nil, h9, List.nil_append]
      rfl)
    clear hd5 hX5 hfr5 hsf hS3 hcat hend hx hx1 hx2 hx3 hfb hbb hob hvb h5sz
    have LA := Lib.hid (last_walk (D5.out.lg.old (Fr.same w5).drew))
    have hlv : lastV (([] : List PE) ++ [x]) = segV x := by unfold lastV; rw [List.getLast?_concat]
    rw [hlv] at LA
    unfold segV at LA
    have y0 : ∀ y : Lcl.InS (fun w' => Fr (fun _ => False) w5 w'), y.w.cell? ⟨w.heap.size, 0, none⟩ = some (.int .i64 En) := fun y => y.h.cel ((cell_of X5.out 0).trans rfl)
    have y1 : ∀ y : Lcl.InS (fun w' => Fr (fun _ => False) w5 w'), y.w.cell? ⟨w.heap.size, 1, none⟩ = some (.int .i64 b.span) := fun y => y.h.cel ((cell_of X5.out 1).trans rfl)
    have y2 : ∀ y : Lcl.InS (fun w' => Fr (fun _ => False) w5 w'), y.w.cell? ⟨w.heap.size, 2, none⟩ = some (.int .i64 b.prod) := fun y => y.h.cel ((cell_of X5.out 2).trans rfl)
    have y3 : ∀ y : Lcl.InS (fun w' => Fr (fun _ => False) w5 w'), y.w.cell? ⟨w.heap.size, 3, none⟩ = some (.int .i64 b.epoch) := fun y => y.h.cel ((cell_of X5.out 3).trans rfl)
    have y4 : ∀ y : Lcl.InS (fun w' => Fr (fun _ => False) w5 w'), y.w.cell? ⟨w.heap.size, 4, none⟩ = some (.int .i64 b.seq) := fun y => y.h.cel ((cell_of X5.out 4).trans rfl)
    have y5 : ∀ y : Lcl.InS (fun w' => Fr (fun _ => False) w5 w'), y.w.cell? ⟨w.heap.size, 5, none⟩ = some (.slice oa b.recs.length cap) := fun y => y.h.cel ((cell_of X5.out 5).trans rfl)
    clear hlv
    refine Lcl.wp_region_calm (by kernel_rfl) [(true, [0]), (false, [2])] #[0, 1, 0, 7, 15] [0, 1, 2] 3 #[true, false, true, false, false] (by kernel_rfl) (by kernel_rfl) (by kernel_rfl) (fun w' => Fr (fun _ => False) w5 w') (Fr.same w5).drew (fun d c a v w h => by cases d <;> exact h) ?_
    simp only [Lcl.opsOf, List.map_cons, List.map_nil, List.getElem?_toArray, List.getElem?_cons_succ, List.getElem?_cons_zero, Option.getD_some]
    refine Lcl.wpCalm_t ?_
    repeat (go_big_quiet_step (rfl))
    refine wpQuiet_nil ?_
    refine Lcl.wpCalm_f ?_
    repeat (go_big_quiet_step (rfl))
    refine wpQuiet_nil ?_
    refine Lcl.wpCalm_nil ?_
    clear y0 y1 y2 y3 y4 y5
    refine Lcl.wpG_one 1 rfl (by kernel_rfl) ?_
    go_wp2_with fail
    refine LA.out.mono ?_
    rintro e w6 ⟨rfl, hf⟩
    have Q6 := Lib.hid ((Fr.same w5).drew.tr hf)
    have F6 := Lib.hid (FR5.out.trans Q6.out fun i h => h.elim)
    have D6 := Lib.hid (D5.out.old Q6.out)
    have X6 := Lib.hid ((Q6.out.block _ (lt_of_heap X5.out) fun h => h).trans X5.out)
    clear hf LA
    go_wp2_with fail
    refine ⟨fun _ _ => Q6.out, ?_⟩
    have hxm : x ∈ ([] : List PE) ++ [x] := List.mem_append.2 (.inr (by simp))
    have hxS : ∀ i, x.S i → S3 i := fun i hi => by
      obtain ⟨sv, G, hV, hSS⟩ := D6.out.lg
      exact (hSS i).2 (.inr (.inr ⟨x, hxm, hi⟩))
    have hll := D6.out.last_le hxm
    have hnm := nmS_size p x.s.base
    have hp1 := D6.out.lg.p1
    have hp2 := D6.out.lg.p2
    have hnL := D6.out.nL
    have hbw := D6.out.b2
    have HAP := Lib.hid (sappend_walk (D6.out.lg.seg hxm) D6.out.dk D6.out.ok (fun i hi => D6.out.lg.ap (hxS i hi)) (fun i hi => (D6.out.lg.lt (hxS i hi)).2) (by omega) (by omega) (by omega) D6.out.rm D6.out.file_le K (fun k hk => (HK.out k hk).2) (baseB b En) (.slice oa b.recs.length cap) (HR.out.fr F6.out fun k hk h => h.elim (HK.out k hk).1 (HK.out k hk).2) (HST.out.fr F6.out fun h => D.out.nz h rfl) (fun i hi => D6.out.nz (hi.imp (hxS i) id)) (by omega) (by omega) hbw)
    unfold batV baseB at HAP
    dsimp only at HAP
    clear hxS hnm hp1 hp2 hnL hbw hll
    refine Lcl.wpG_one 3 rfl (by kernel_rfl) ?_
    go_wp2_with fail
    refine HAP.out.mono ?_
    rintro e w7 ⟨he, hok, hno⟩
    obtain ⟨c, hcd⟩ : ∃ c, c = apCode x.s ⟨En, b.span, b.prod, b.epoch, b.seq, b.recs⟩ room used fs := ⟨_, rfl⟩
    rw [← hcd] at he hok hno
    subst he
    have CD := Lib.hid (show c = appCode room used fs (bsz (baseB b En)) from by
      rw [hcd]
      unfold apCode
      exact if_pos ⟨HB.out, by rw [XE5.out]; exact Int.le_refl _⟩)
    clear hcd HAP
    by_cases hc0 : c = 0
    · subst hc0
      have hroom : used + bsz (baseB b En) ≤ room := by
        have h1 := CD.out
        unfold appCode at h1
        split at h1
        · cases h1
        · split at h1
          · cases h1
          · omega
      have hPU := D6.out.pushed (by omega) HB.out (by rw [XE5.out]; exact Int.le_refl _) hroom (hok rfl)
      obtain ⟨S1, L7, S7, F7, hd7, hot, hsf, hhas, hfo, hfr⟩ := hPU
      have hnw : ¬ (S3 w.heap.size ∨ DkS db mb L w.heap.size) := fun h => by
        rcases h with h | h
        · exact absurd h NS5.out
        · have := D.out.dk.lt h; omega
      have X7 := Lib.hid ((hfr.block w.heap.size (lt_of_heap X6.out) hnw).trans X6.out)
      have c7 : w7.cell? ⟨w.heap.size, 0, none⟩ = some (.int .i64 En) := (cell_of X7.out 0).trans rfl
      have D7 := Lib.hid hd7
      have FOo := FO5.out
      have FO67 := Lib.hid hfo
      have SZ5 := Lib.hid (show w.heap.size ≤ w5.heap.size ∧ w5.heap.size ≤ w6.heap.size ∧ w6.heap.size ≤ w7.heap.size from ⟨FR5.out.size, Q6.out.size, hfr.size⟩)
      have FO6 := Lib.hid (FOo.trans (Foot.refl (db := db) (mb := mb) (S := S3) (L := L) w5 w6) SZ5.out.1 SZ5.out.2.1)
      have FO7 := Lib.hid (FO6.out.trans hfo (Nat.le_trans SZ5.out.1 SZ5.out.2.1) SZ5.out.2.2)
      have FR7 := Lib.hid (FO6.out.fr F6.out hfr)
      have OT7 := Lib.hid (OTs.out.trans hot)
      have SF7 := Lib.hid (fun (k : Nat) (h : SafeN p (segsOf ([] : List PE)) L F k) => hsf k (SF5.out k h))
      have SG7 := Lib.hid (show segsOf (([] : List PE) ++ [⟨x.sb, x.s.push (baseB b En), S1⟩]) = appS lim ev beg (segsOf ([] : List PE)) (baseB b En) from by rw [segs_concat, AP5.out])
      have HH7 := Lib.hid hhas
      clear hok hno hd7 hot hsf hhas hfo hfr hnw FOo hroom
      go_wp2_with fail
      refine ⟨fun h => absurd h (by decide), ?_⟩
      refine Lcl.wpG_run [4] _ _ _ (by kernel_rfl) ?_
      simp only [List.map_cons, List.map_nil, List.getElem?_toArray, List.getElem?_cons_succ, List.getElem?_cons_zero, Option.getD_some]
      cases sy with
      | false =>
        go_wp2_with fail
        go_ret2
        exact ⟨0, true, _, L7, S7, _, _, F7, rfl, D7.out.more (by omega) (by omega), OT7.out, SF7.out, FO7.out, FR7.out, fun _ => ⟨SG7.out, rfl⟩, fun h => (by cases h), fun _ => rfl, fun _ _ => rfl, fun h => absurd HB.out h, fun h => ⟨by rw [FUs.out h]; rfl, fun _ _ => rfl⟩, fun _ h => (by cases h)⟩
      | true =>
        have LA := Lib.hid (last_walk D7.out.lg)
        have hlv : lastV (([] : List PE) ++ [⟨x.sb, x.s.push (baseB b En), S1⟩]) = .pointer (some ⟨x.sb, 0, none⟩) := by unfold lastV; rw [List.getLast?_concat]; rfl
        rw [hlv] at LA
        have hnm := nmS_size p x.s.base
        have hp2 := D7.out.lg.p2
        clear hlv
        go_wp2_with fail
        refine LA.out.mono ?_
        rintro e w8 ⟨rfl, hf8⟩
        have hd8 := D7.out.old hf8
        have hsw := ssync_walk (hd8.lg.seg (e := ⟨x.sb, x.s.push (baseB b En), S1⟩) (List.mem_append.2 (.inr (by simp)))) hd8.dk hd8.ok (by show (nmS p x.s.base).size ≤ 40; omega)
        have HSW := Lib.hid hsw
        have D8 := Lib.hid hd8
        have c8 : w8.cell? ⟨w.heap.size, 0, none⟩ = some (.int .i64 En) := hf8.cel c7
        have X8 := Lib.hid ((hf8.block _ (lt_of_heap X7.out) fun h => h).trans X7.out)
        have FR8 := Lib.hid (FR7.out.trans hf8 fun i h => h.elim)
        have FO8 := Lib.hid (FO7.out.trans (Foot.refl (db := db) (mb := mb) (S := S7) (L := L7) w7 w8) FR7.out.size hf8.size)
        clear hf8 hd8 hsw hnm hp2 LA c7
        go_wp2_with fail
        refine HSW.out.mono ?_
        intro e w9 hpost
        obtain ⟨c2, rfl, hsy⟩ := D8.out.synced hpost
        obtain ⟨fu9, F9, hd9, hot, hsf, hls, hc2, hfu, hc7, hfr⟩ := hsy
        have hnw : ¬ (S7 w.heap.size ∨ DkS db mb L7 w.heap.size) := fun h => by
          have hlt6 := lt_of_heap X6.out
          rcases h with h | h
          · rcases FO67.out.1 _ h with h3 | h3
            · exact absurd h3 NS5.out
            · omega
          · rcases FO67.out.2 _ h with h3 | h3
            · have := D.out.dk.lt h3; omega
            · omega
        have c9 : w9.cell? ⟨w.heap.size, 0, none⟩ = some (.int .i64 En) := hfr.cell c8 hnw
        have D9 := Lib.hid hd9
        have FR9 := Lib.hid (FO8.out.fr FR8.out hfr)
        have FO9 := Lib.hid (FO8.out.trans (Foot.refl (db := db) (mb := mb) (S := S7) (L := L7) w8 w9) FR8.out.size hfr.size)
        have OT9 := Lib.hid (OT7.out.trans hot)
        have SF9 := Lib.hid (fun (k : Nat) (h : SafeN p (segsOf ([] : List PE)) L F k) => hsf k (SF7.out k h))
        have HLS := Lib.hid hls
        have HFU := Lib.hid hfu
        clear hpost hd9 hot hsf hls hfu hc7 hfr hnw c8 HSW
        rcases hc2 with rfl | rfl
        · have HLS2 := Lib.hid (HLS.out rfl)
          have HFU2 := Lib.hid (fun h => (HFU.out h).2)
          clear HLS HFU
          go_wp2_with fail
          go_ret2
          exact ⟨0, true, _, L7, S7, _, _, F9, rfl, D9.out.more (by omega) (by omega), OT9.out, SF9.out, FO9.out, FR9.out, fun _ => ⟨SG7.out, rfl⟩, fun h => (by cases h), fun _ => rfl, fun h => (by cases h), fun h => absurd HB.out h, fun h => ⟨HFU2.out (by rw [FUs.out h]; rfl), fun _ _ => rfl⟩, fun _ _ => HLS2.out⟩
        · have HFU2 := Lib.hid (show fuse ≠ -1 from fun h => absurd (HFU.out (by rw [FUs.out h]; rfl)).1 (by decide))
          clear HLS HFU
          go_wp2_with fail
          go_ret2
          exact ⟨7, true, _, L7, S7, _, _, F9, rfl, D9.out.more (by omega) (by omega), OT9.out, SF9.out, FO9.out, FR9.out, fun _ => ⟨SG7.out, rfl⟩, fun h => (by cases h), fun h => absurd h (by decide), fun h => (by cases h), fun h => absurd HB.out h, fun h => absurd h HFU2.out, fun h => absurd h (by decide)⟩
    · have hf1 := hno hc0
      have D7 := Lib.hid (D6.out.old hf1)
      have FR7 := Lib.hid (F6.out.trans hf1 fun i h => h.elim)
      have FO7 := Lib.hid (FO5.out.trans (Foot.refl (db := db) (mb := mb) (S := S3) (L := L) w5 w7) FR5.out.size (Nat.le_trans Q6.out.size hf1.size))
      have hq : (c == 0) = false := by simpa using hc0
      have hq2 : (c != 0) = true := by simpa using hc0
      clear hok hno hf1
      go_wp2_with fail
      refine ⟨fun h => absurd h (by decide), ?_⟩
      refine Lcl.wpG_run [4] _ _ _ (by kernel_rfl) ?_
      simp only [List.map_cons, List.map_nil, List.getElem?_toArray, List.getElem?_cons_succ, List.getElem?_cons_zero, Option.getD_some]
      go_wp2_with fail
      go_ret2
      refine ⟨c, false, _, L, S3, _, _, Fs, by rw [if_neg hc0]; rfl, D7.out.more (by omega) (by omega), OTs.out, SF5.out, FO7.out, FR7.out, fun h => (by cases h), fun _ => ⟨CT5.out.1, CT5.out.2, rfl⟩, fun h => absurd h hc0, fun _ h => (by cases h), fun h => absurd HB.out h, fun h => ⟨FUs.out h, fun _ hr => ?_⟩, fun h => absurd h hc0⟩
      have h1 := CD.out
      rw [FUs.out h] at h1
      unfold appCode at h1
      rw [if_neg (by decide), if_neg (by omega)] at h1
      exact h1

end
end Go.Proofs.YtdlnafhhkpklmaaGreatDoor

/- Append to a log: all cases. -/
namespace Go.Proofs.YtdlnafhhkpklmaaGreatDoor
open Go.RowKit Go.Fm Go.BigFrame Go.Shelf Go.Maps
set_option linter.unusedVariables false
set_option linter.unusedSimpArgs false
set_option maxRecDepth 100000

section
variable {B : Nat} {w w' : World} {lb db mb : Nat} {p : ByteArray} {lim ev : Nat} {beg : Int} {es : List PE} {own : Bool} {L : List Row} {S : Nat → Prop} {room used fuse : Int} {F : ByteArray → ByteArray × Nat} {n : Nat}
theorem lapp (D : LogD B w lb db mb p lim ev beg es true L S room used fuse F n) (hn : n < 699) (hst : StepsOK w) (K : Nat → Prop) (hK : ∀ k, K k → ¬ S k ∧ ¬ DkS db mb L k) (b : Bat) (v : Value) (hr : RecsR K w v b.recs) (sy : Bool) :
    Calls Tryz.prog 13 #[.pointer (some ⟨lb, 0, none⟩), batV b v, .bool sy] w (LApPost B w lb db mb p lim ev beg es true L S room used fuse F n (baseB b (lgEnd beg es)) sy) := by
  by_cases hb : BatOK (baseB b (lgEnd beg es))
  · obtain ⟨En, hE⟩ : ∃ En : Nat, (En : Int) = lgEnd beg es := ⟨(lgEnd beg es).toNat, Int.toNat_of_nonneg hb.base0⟩
    rw [← hE] at hb ⊢
    rcases List.eq_nil_or_concat es with rfl | ⟨es0, x, rfl⟩
    · exact lapp_first D hn hst K hK b v hr En hE hb sy
    · rw [List.concat_eq_append] at *
      rcases Nat.lt_or_ge (sumB x.s.l) lim with h | h
      · exact lapp_old D hn h hst K hK b v hr En hE hb sy
      · exact lapp_new D hn h hst K hK b v hr En hE hb sy
  · exact lapp_bad D hn K b v hr hb sy
end
end Go.Proofs.YtdlnafhhkpklmaaGreatDoor
