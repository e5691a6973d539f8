/- 'step' of the law: the walk. -/
import Derived.Test.YtdgdhegbcjimbaaD8
namespace Go.Proofs.Ytdgdhegbcjimbaa
open Go.RowKit Go.Fm Go.BigFrame
set_option linter.unusedVariables false
set_option linter.unusedSimpArgs false

structure Apart (tb mb kb : Nat) (v : Value) : Prop where
  a : kb ≠ tb
  b : kb ≠ mb
  c : ∀ g, v.ownBlock = some g → g ≠ tb ∧ g ≠ mb
theorem apart_of {w : World} {tb mb kb B : Nat} {room : Int} {v : Value} {M L : List Row} (ht : Tbl w tb mb room M) (hr : RTbl w B kb v room L) : Apart tb mb kb v := by
  obtain ⟨-, D, ⟨es, clock, hm, -⟩, -⟩ := ht.map
  refine ⟨?_, ?_, fun g hg => ?_⟩
  · rintro rfl
    have := ht.cells.symm.trans hr.cells
    injection this with this; injection this with _ e _; exact absurd e (by decide)
  · rintro rfl
    have := hm.symm.trans hr.cells
    cases this
  · rcases hr.rows.2 with ⟨h0, -⟩ | ⟨g', cap', cur, hv, hb, hc, -⟩
    · rw [h0] at hg; cases hg
    · rw [hv] at hg
      have e : g' = g := by simpa [Value.ownBlock] using hg
      subst e
      constructor
      · rintro rfl
        have := ht.cells.symm.trans hc
        injection this with this; injection this with _ e _; exact absurd e (by decide)
      · rintro rfl
        have := hm.symm.trans hc
        cases this
theorem RTbl.fr {w w' : World} {B kb : Nat} {v : Value} {room : Int} {L : List Row} {S : Nat → Prop} (h : RTbl w B kb v room L) (hf : Fr S w w') (h1 : ¬ S kb) (h2 : ∀ g, v.ownBlock = some g → ¬ S g) : RTbl w' B kb v room L :=
  ⟨(hf.block kb (lt_of_heap h.cells) h1).trans h.cells, own_eq h.rows fun k hk => hf.block k (own_lt h.rows hk).2 (h2 k hk), h.len, h.base⟩
/-- Both tables have changed, alike. -/
def StepPost (tb mb : Nat) (room : Int) (B kb : Nat) (v : Value) (w : World) (e : Ending) (w' : World) : Prop :=
  e = .returned (.bool true) ∧ ∃ M L v', Tbl w' tb mb room M ∧ RTbl w' B kb v' room L ∧ Like M L ∧ Fr (fun i => i = mb ∨ i = kb ∨ v.ownBlock = some i) w w'
theorem rcommit_walk' (g t : ByteArray) (i a : Int) (B kb : Nat) (v : Value) (room : Int) (L : List Row) (w : World) (h : RTbl w B kb v room L) (hB : B ≤ w.heap.size) (hroom : room ≤ 10000) :
    Calls Try.prog 29 #[.pointer (some ⟨kb, 0, none⟩), .string g, .agg #[.string t, .int .i64 i], .int .i64 a] w (RCommitPost B kb v room L ⟨g, t, i⟩ a w) := rcommit_walk ⟨g, t, i⟩ a B kb v room L w h hB hroom
theorem apply_walk' (rat rtm : Int) (rbare : Bool) (rkey : ByteArray) (rgone : Bool) (rval : ByteArray) (rhs : List Hdr) (oa : Option Addr) (n cap : Nat) (tb mb : Nat) (room : Int) (L : List Row) (w : World) (hk : rkey.size ≤ maxLen) (hv : rval.size ≤ maxLen) (h : Tbl w tb mb room L) :
    Calls Try.prog 12 #[.pointer (some ⟨tb, 0, none⟩), .agg #[.int .i64 rat, .int .i64 rtm, .bool rbare, .string rkey, .bool rgone, .string rval, .slice oa n cap]] w (ApplyPost tb mb room L ⟨rat, rtm, rbare, rkey, rgone, rval, rhs⟩ n w) := apply_walk ⟨rat, rtm, rbare, rkey, rgone, rval, rhs⟩ oa n cap tb mb room L w hk hv h
theorem rapply_walk' (rat rtm : Int) (rbare : Bool) (rkey : ByteArray) (rgone : Bool) (rval : ByteArray) (rhs : List Hdr) (oa : Option Addr) (n cap : Nat) (B kb : Nat) (v : Value) (room : Int) (L : List Row) (w : World) (hk : rkey.size ≤ maxLen) (hv : rval.size ≤ maxLen) (h : RTbl w B kb v room L) (hB : B ≤ w.heap.size) (hroom : room ≤ 10000) :
    Calls Try.prog 33 #[.pointer (some ⟨kb, 0, none⟩), .agg #[.int .i64 rat, .int .i64 rtm, .bool rbare, .string rkey, .bool rgone, .string rval, .slice oa n cap]] w (RApplyPost B kb v room L ⟨rat, rtm, rbare, rkey, rgone, rval, rhs⟩ n w) := rapply_walk ⟨rat, rtm, rbare, rkey, rgone, rval, rhs⟩ oa n cap B kb v room L w hk hv h hB hroom
set_option maxRecDepth 100000 in
set_option maxHeartbeats 32000000 in
theorem step_walk (d : Int) (g t : ByteArray) (i a rat rtm : Int) (rbare : Bool) (rkey : ByteArray) (rgone : Bool) (rval : ByteArray) (hb : Option Addr) (n cap : Nat) (hok : KeyOK ⟨g, t, i⟩) (hk : rkey.size ≤ maxLen) (hv : rval.size ≤ maxLen)
    (tb mb : Nat) (room : Int) (M : List Row) (B kb : Nat) (v : Value) (L : List Row) (w : World) (ht : Tbl w tb mb room M) (hr : RTbl w B kb v room L) (hl : Like M L) (hB : B ≤ w.heap.size) :
    Calls Try.prog 16 #[.pointer (some ⟨tb, 0, none⟩), .pointer (some ⟨kb, 0, none⟩), .agg #[.int .i64 d, .string g, .string t, .int .i64 i, .int .i64 a, .int .i64 rat, .int .i64 rtm, .bool rbare, .string rkey, .bool rgone, .string rval, .slice hb n cap]] w (StepPost tb mb room B kb v w) := by
  have A := Lib.hid (apart_of ht hr)
  have hroom := ht.room2
  have hf1 := (Fr.same w).alloc (.cells #[.int .i64 d, .string g, .string t, .int .i64 i, .int .i64 a, .int .i64 rat, .int .i64 rtm, .bool rbare, .string rkey, .bool rgone, .string rval, .slice hb n cap] 34)
  have hf2 := hf1.alloc (.cells #[.string g, .string t, .int .i64 i] 36)
  obtain ⟨W, hW⟩ : ∃ W, W = (w.alloc (.cells #[.int .i64 d, .string g, .string t, .int .i64 i, .int .i64 a, .int .i64 rat, .int .i64 rtm, .bool rbare, .string rkey, .bool rgone, .string rval, .slice hb n cap] 34)).alloc (.cells #[.string g, .string t, .int .i64 i] 36) := ⟨_, rfl⟩
  have hb0 : W.heap[w.heap.size]? = some (.cells #[.int .i64 d, .string g, .string t, .int .i64 i, .int .i64 a, .int .i64 rat, .int .i64 rtm, .bool rbare, .string rkey, .bool rgone, .string rval, .slice hb n cap] 34 (0, 0)) := by
    rw [hW]; exact (heap_alloc_lt _ (by simp)).trans (heap_alloc_self w _)
  have hb1 : W.heap[w.heap.size + 1]? = some (.cells #[.string g, .string t, .int .i64 i] 36 (0, 0)) := by
    rw [hW]; exact heap_alloc_self' _ _ (by simp)
  rw [← hW] at hf2
  have T := Lib.hid (ht.old hf2)
  have R := Lib.hid (hr.old hf2)
  have K := Lib.hid hl
  have F := Lib.hid hf2
  have B0 := Lib.hid hb0
  have B1 := Lib.hid hb1
  have HW := Lib.hid hW
  have n0 : w.heap.size ≠ mb := by have := ht.lt.2; omega
  have n1 : w.heap.size + 1 ≠ mb := by have := ht.lt.2; omega
  clear hf1 hf2 hb0 hb1 hW ht hr hl
  by_cases h0 : d = 0
  · subst h0
    go_enter Try.func16, Try.ntmps16
    go_wp2_with fail
    rw [← HW.out]
    have zg : ∀ y : Lcl.InS (fun w' => Fr (fun i => i = mb) W w'), y.w.cell? ⟨w.heap.size, 1, none⟩ = some (.string g) := fun y => y.h.cell ((cell_of B0.out 1).trans rfl) n0
    have zt : ∀ y : Lcl.InS (fun w' => Fr (fun i => i = mb) W w'), y.w.cell? ⟨w.heap.size, 2, none⟩ = some (.string t) := fun y => y.h.cell ((cell_of B0.out 2).trans rfl) n0
    have zi : ∀ y : Lcl.InS (fun w' => Fr (fun i => i = mb) W w'), y.w.cell? ⟨w.heap.size, 3, none⟩ = some (.int .i64 i) := fun y => y.h.cell ((cell_of B0.out 3).trans rfl) n0
    have za : ∀ y : Lcl.InS (fun w' => Fr (fun i => i = mb) W w'), y.w.cell? ⟨w.heap.size, 4, none⟩ = some (.int .i64 a) := fun y => y.h.cell ((cell_of B0.out 4).trans rfl) n0
    have zkg : ∀ y : Lcl.InS (fun w' => Fr (fun i => i = mb) W w'), y.w.cell? ⟨w.heap.size + 1, 0, none⟩ = some (.string g) := fun y => y.h.cell ((cell_of B1.out 0).trans rfl) n1
    have zkt : ∀ y : Lcl.InS (fun w' => Fr (fun i => i = mb) W w'), y.w.cell? ⟨w.heap.size + 1, 1, none⟩ = some (.string t) := fun y => y.h.cell ((cell_of B1.out 1).trans rfl) n1
    have zki : ∀ y : Lcl.InS (fun w' => Fr (fun i => i = mb) W w'), y.w.cell? ⟨w.heap.size + 1, 2, none⟩ = some (.int .i64 i) := fun y => y.h.cell ((cell_of B1.out 2).trans rfl) n1
    refine Lcl.wp_region_calm (by kernel_rfl) [(true, [0, 2, 5, 6, 8, 10]), (false, [1, 3, 7, 9, 11])] #[0, 0, 0, 4, 15, 0, 0, 64, 0, 256, 0, 1024, 4095, 8191, 16383] [0, 1, 2, 3, 4, 5, 6, 7, 8, 9, 10, 11] 4 #[true, true, true, true, false, true, true, true, true, true, true, true, false, false, false] (by kernel_rfl) (by kernel_rfl) (by kernel_rfl) (fun w' => Fr (fun i => i = mb) W w') (Fr.refl _ W).drew (fun d c a v w h => by cases d <;> exact h) ?_
    simp only [Lcl.opsOf, List.map_cons, List.map_nil, List.getElem?_toArray, List.getElem?_cons_succ, List.getElem?_cons_zero, Option.getD_some]
    refine Lcl.wpCalm_t ?_
    repeat (go_big_quiet_step (rfl))
    refine wpQuiet_nil ?_
    refine Lcl.wpCalm_f ?_
    repeat (go_big_quiet_step (rfl))
    refine wpQuiet_nil ?_
    refine Lcl.wpCalm_nil ?_
    clear zg zt zi za zkg zkt zki
    refine Lcl.wpG_one 4 rfl (by kernel_rfl) ?_
    go_wp2_with fail
    refine (commit_walk' _ _ _ _ tb mb room M W.drew (T.out.to rfl rfl)).mono ?_
    rintro e w2 ⟨rfl, ht2, hf2⟩
    have T2 := Lib.hid ht2
    have R2 := Lib.hid ((R.out.old ((Fr.same W).drew)).fr hf2 A.out.b fun g hg => (A.out.c g hg).2)
    have F2 := Lib.hid ((F.out.drew.mono fun i e => e.elim).trans hf2 fun i e => .inl e)
    have S2 := Lib.hid hf2
    clear ht2 hf2
    go_wp2_with fail
    refine ⟨fun _ h => h.trans S2.out fun i e => .inl e, ?_⟩
    refine Lcl.wpG_run [12, 13, 14] _ _ _ (by kernel_rfl) ?_
    simp only [List.map_cons, List.map_nil, List.getElem?_toArray, List.getElem?_cons_succ, List.getElem?_cons_zero, Option.getD_some]
    go_wp2_with fail
    refine (rcommit_walk' _ _ _ _ B kb v room L w2 R2.out (Nat.le_trans hB F2.out.size) hroom).mono ?_
    rintro e w3 ⟨rfl, v3, hr3, hf3⟩
    have R3 := Lib.hid hr3
    have T3 := Lib.hid (T2.out.fr hf3 (by rintro (h | h) <;> first | exact A.out.a h.symm | exact (A.out.c _ h).1 rfl) (by rintro (h | h) <;> first | exact A.out.b h.symm | exact (A.out.c _ h).2 rfl))
    have F3 : Hid (Fr (fun i => i = mb ∨ i = kb ∨ v.ownBlock = some i) w w3) := Lib.hid ((F2.out.mono fun i e => .inl (.inl e)).trans hf3 fun i e => .inl (.inr e))
    clear hr3 hf3
    rw [K.out.code room ⟨g, t, i⟩ a]
    go_wp2_with fail
    go_ret
    exact ⟨by simp, _, _, v3, T3.out, R3.out, K.out.commit _ _ _, F3.out⟩
  have q0 : (d == 0) = false := by simpa using h0
  by_cases h1 : d = 1
  · subst h1
    go_enter Try.func16, Try.ntmps16
    have c1 := (cell_of B0.out 1).trans rfl
    have c2 := (cell_of B0.out 2).trans rfl
    have c3 := (cell_of B0.out 3).trans rfl
    simp at c1 c2 c3
    go_wp2_with fail
    rw [← HW.out]
    refine (get_walk' ⟨g, t, i⟩ hok tb mb room M W T.out).mono ?_
    rintro e w2 ⟨rfl, hf2⟩
    have c1 := hf2.cel c1
    have c2 := hf2.cel c2
    have c3 := hf2.cel c3
    have T2 := Lib.hid (T.out.old hf2)
    have R2 := Lib.hid (R.out.old hf2)
    have F2 := Lib.hid (F.out.tr hf2)
    clear hf2
    go_wp2_with fail
    refine (rtget_walk ⟨g, t, i⟩ B kb v room L w2 R2.out).mono ?_
    rintro e w3 ⟨rfl, hf3⟩
    rw [K.out.get ⟨g, t, i⟩]
    have T3 := Lib.hid (T2.out.old hf3)
    have R3 := Lib.hid (R2.out.old hf3)
    have F3 := Lib.hid (F2.out.tr hf3)
    clear hf3 c1 c2 c3
    go_wp2_with fail
    go_ret
    exact ⟨by simp, _, _, v, T3.out, R3.out, K.out, F3.out.mono fun i e => e.elim⟩
  have q1 : (d == 1) = false := by simpa using h1
  by_cases h2 : d = 2
  · subst h2
    go_enter Try.func16, Try.ntmps16
    go_wp2_with fail
    rw [← HW.out]
    have zg : ∀ y : Lcl.InS (fun w' => Fr (fun i => i = mb) W w'), y.w.cell? ⟨w.heap.size, 1, none⟩ = some (.string g) := fun y => y.h.cell ((cell_of B0.out 1).trans rfl) n0
    refine Lcl.wp_region_calm (by kernel_rfl) [(true, [0, 1, 4, 5]), (false, [2, 6])] #[0, 0, 2, 7, 0, 0, 32, 127, 255, 511] [0, 1, 2, 3, 4, 5, 6] 4 #[true, true, true, false, true, true, true, false, false, false] (by kernel_rfl) (by kernel_rfl) (by kernel_rfl) (fun w' => Fr (fun i => i = mb) W w') (Fr.refl _ W).drew (fun d c a v w h => by cases d <;> exact h) ?_
    simp only [Lcl.opsOf, List.map_cons, List.map_nil, List.getElem?_toArray, List.getElem?_cons_succ, List.getElem?_cons_zero, Option.getD_some]
    refine Lcl.wpCalm_t ?_
    repeat (go_big_quiet_step (rfl))
    refine wpQuiet_nil ?_
    refine Lcl.wpCalm_f ?_
    repeat (go_big_quiet_step (rfl))
    refine wpQuiet_nil ?_
    refine Lcl.wpCalm_nil ?_
    clear zg
    refine Lcl.wpG_one 3 rfl (by kernel_rfl) ?_
    go_wp2_with fail
    refine (forget_walk _ tb mb room M W.drew (T.out.to rfl rfl)).mono ?_
    rintro e w2 ⟨rfl, ht2, hf2⟩
    have T2 := Lib.hid ht2
    have R2 := Lib.hid ((R.out.old ((Fr.same W).drew)).fr hf2 A.out.b fun g hg => (A.out.c g hg).2)
    have F2 := Lib.hid ((F.out.drew.mono fun i e => e.elim).trans hf2 fun i e => .inl e)
    have S2 := Lib.hid hf2
    clear ht2 hf2
    go_wp2_with fail
    refine ⟨fun _ h => h.trans S2.out fun i e => .inl e, ?_⟩
    refine Lcl.wpG_run [7, 8, 9] _ _ _ (by kernel_rfl) ?_
    simp only [List.map_cons, List.map_nil, List.getElem?_toArray, List.getElem?_cons_succ, List.getElem?_cons_zero, Option.getD_some]
    go_wp2_with fail
    refine (rforget_walk _ B kb v room L w2 R2.out (Nat.le_trans hB F2.out.size)).mono ?_
    rintro e w3 ⟨rfl, v3, hr3, hf3⟩
    have R3 := Lib.hid hr3
    have T3 := Lib.hid (T2.out.fr hf3 (fun h => A.out.a h.symm) (fun h => A.out.b h.symm))
    have F3 : Hid (Fr (fun i => i = mb ∨ i = kb ∨ v.ownBlock = some i) w w3) := Lib.hid ((F2.out.mono fun i e => .inl (.inl e)).trans hf3 fun i e => .inl (.inr (.inl e)))
    clear hr3 hf3
    rw [K.out.len, (K.out.keep fun k => decide (k.g = g)).len]
    go_wp2_with fail
    go_ret
    exact ⟨by simp, _, _, v3, T3.out, R3.out, K.out.keep _, F3.out⟩
  have q2 : (d == 2) = false := by simpa using h2
  by_cases h3 : d = 3
  · subst h3
    go_enter Try.func16, Try.ntmps16
    go_wp2_with fail
    rw [← HW.out]
    have zt : ∀ y : Lcl.InS (fun w' => Fr (fun i => i = mb) W w'), y.w.cell? ⟨w.heap.size, 2, none⟩ = some (.string t) := fun y => y.h.cell ((cell_of B0.out 2).trans rfl) n0
    refine Lcl.wp_region_calm (by kernel_rfl) [(true, [0, 1, 2, 5, 6, 7]), (false, [3, 8])] #[0, 0, 2, 6, 15, 0, 0, 64, 192, 511, 1023, 2047] [0, 1, 2, 3, 4, 5, 6, 7, 8] 4 #[true, true, true, true, false, true, true, true, true, false, false, false] (by kernel_rfl) (by kernel_rfl) (by kernel_rfl) (fun w' => Fr (fun i => i = mb) W w') (Fr.refl _ W).drew (fun d c a v w h => by cases d <;> exact h) ?_
    simp only [Lcl.opsOf, List.map_cons, List.map_nil, List.getElem?_toArray, List.getElem?_cons_succ, List.getElem?_cons_zero, Option.getD_some]
    refine Lcl.wpCalm_t ?_
    repeat (go_big_quiet_step (rfl))
    refine wpQuiet_nil ?_
    refine Lcl.wpCalm_f ?_
    repeat (go_big_quiet_step (rfl))
    refine wpQuiet_nil ?_
    refine Lcl.wpCalm_nil ?_
    clear zt
    refine Lcl.wpG_one 4 rfl (by kernel_rfl) ?_
    go_wp2_with fail
    refine (drop_walk _ tb mb room M W.drew (T.out.to rfl rfl)).mono ?_
    rintro e w2 ⟨rfl, ht2, hf2⟩
    have T2 := Lib.hid ht2
    have R2 := Lib.hid ((R.out.old ((Fr.same W).drew)).fr hf2 A.out.b fun g hg => (A.out.c g hg).2)
    have F2 := Lib.hid ((F.out.drew.mono fun i e => e.elim).trans hf2 fun i e => .inl e)
    have S2 := Lib.hid hf2
    clear ht2 hf2
    go_wp2_with fail
    refine ⟨fun _ h => h.trans S2.out fun i e => .inl e, ?_⟩
    refine Lcl.wpG_run [9, 10, 11] _ _ _ (by kernel_rfl) ?_
    simp only [List.map_cons, List.map_nil, List.getElem?_toArray, List.getElem?_cons_succ, List.getElem?_cons_zero, Option.getD_some]
    go_wp2_with fail
    refine (rdrop_walk _ B kb v room L w2 R2.out (Nat.le_trans hB F2.out.size)).mono ?_
    rintro e w3 ⟨rfl, v3, hr3, hf3⟩
    have R3 := Lib.hid hr3
    have T3 := Lib.hid (T2.out.fr hf3 (fun h => A.out.a h.symm) (fun h => A.out.b h.symm))
    have F3 : Hid (Fr (fun i => i = mb ∨ i = kb ∨ v.ownBlock = some i) w w3) := Lib.hid ((F2.out.mono fun i e => .inl (.inl e)).trans hf3 fun i e => .inl (.inr (.inl e)))
    clear hr3 hf3
    rw [K.out.len, (K.out.keep fun k => decide (k.t = t)).len]
    go_wp2_with fail
    go_ret
    exact ⟨by simp, _, _, v3, T3.out, R3.out, K.out.keep _, F3.out⟩
  have q3 : (d == 3) = false := by simpa using h3
  by_cases h4 : d = 4
  · subst h4
    go_enter Try.func16, Try.ntmps16
    go_wp2_with fail
    rw [← HW.out]
    have zr5 : ∀ y : Lcl.InS (fun w' => Fr (fun i => i = mb) W w'), y.w.cell? ⟨w.heap.size, 5, none⟩ = some (.int .i64 rat) := fun y => y.h.cell ((cell_of B0.out 5).trans rfl) n0
    have zr6 : ∀ y : Lcl.InS (fun w' => Fr (fun i => i = mb) W w'), y.w.cell? ⟨w.heap.size, 6, none⟩ = some (.int .i64 rtm) := fun y => y.h.cell ((cell_of B0.out 6).trans rfl) n0
    have zr7 : ∀ y : Lcl.InS (fun w' => Fr (fun i => i = mb) W w'), y.w.cell? ⟨w.heap.size, 7, none⟩ = some (.bool rbare) := fun y => y.h.cell ((cell_of B0.out 7).trans rfl) n0
    have zr8 : ∀ y : Lcl.InS (fun w' => Fr (fun i => i = mb) W w'), y.w.cell? ⟨w.heap.size, 8, none⟩ = some (.string rkey) := fun y => y.h.cell ((cell_of B0.out 8).trans rfl) n0
    have zr9 : ∀ y : Lcl.InS (fun w' => Fr (fun i => i = mb) W w'), y.w.cell? ⟨w.heap.size, 9, none⟩ = some (.bool rgone) := fun y => y.h.cell ((cell_of B0.out 9).trans rfl) n0
    have zr10 : ∀ y : Lcl.InS (fun w' => Fr (fun i => i = mb) W w'), y.w.cell? ⟨w.heap.size, 10, none⟩ = some (.string rval) := fun y => y.h.cell ((cell_of B0.out 10).trans rfl) n0
    have zr11 : ∀ y : Lcl.InS (fun w' => Fr (fun i => i = mb) W w'), y.w.cell? ⟨w.heap.size, 11, none⟩ = some (.slice hb n cap) := fun y => y.h.cell ((cell_of B0.out 11).trans rfl) n0
    refine Lcl.wp_region_calm (by kernel_rfl) [(true, [0, 1, 4, 5]), (false, [2, 6])] #[0, 0, 2, 7, 0, 0, 32, 127, 255, 511] [0, 1, 2, 3, 4, 5, 6] 4 #[true, true, true, false, true, true, true, false, false, false] (by kernel_rfl) (by kernel_rfl) (by kernel_rfl) (fun w' => Fr (fun i => i = mb) W w') (Fr.refl _ W).drew (fun d c a v w h => by cases d <;> exact h) ?_
    simp only [Lcl.opsOf, List.map_cons, List.map_nil, List.getElem?_toArray, List.getElem?_cons_succ, List.getElem?_cons_zero, Option.getD_some]
    refine Lcl.wpCalm_t ?_
    repeat (go_big_quiet_step (rfl))
    refine wpQuiet_nil ?_
    refine Lcl.wpCalm_f ?_
    repeat (go_big_quiet_step (rfl))
    refine wpQuiet_nil ?_
    refine Lcl.wpCalm_nil ?_
    clear zr5 zr6 zr7 zr8 zr9 zr10 zr11
    refine Lcl.wpG_one 3 rfl (by kernel_rfl) ?_
    go_wp2_with fail
    refine (apply_walk' _ _ _ _ _ _ [] _ _ _ tb mb room M W.drew hk hv (T.out.to rfl rfl)).mono ?_
    rintro e w2 ⟨rfl, ht2, hf2⟩
    have T2 := Lib.hid ht2
    have R2 := Lib.hid ((R.out.old ((Fr.same W).drew)).fr hf2 A.out.b fun g hg => (A.out.c g hg).2)
    have F2 := Lib.hid ((F.out.drew.mono fun i e => e.elim).trans hf2 fun i e => .inl e)
    have S2 := Lib.hid hf2
    clear ht2 hf2
    go_wp2_with fail
    refine ⟨fun _ h => h.trans S2.out fun i e => .inl e, ?_⟩
    refine Lcl.wpG_run [7, 8, 9] _ _ _ (by kernel_rfl) ?_
    simp only [List.map_cons, List.map_nil, List.getElem?_toArray, List.getElem?_cons_succ, List.getElem?_cons_zero, Option.getD_some]
    go_wp2_with fail
    refine (rapply_walk' _ _ _ _ _ _ [] _ _ _ B kb v room L w2 hk hv R2.out (Nat.le_trans hB F2.out.size) hroom).mono ?_
    rintro e w3 ⟨rfl, v3, hr3, hf3⟩
    have R3 := Lib.hid hr3
    have T3 := Lib.hid (T2.out.fr hf3 (by rintro (h | h) <;> first | exact A.out.a h.symm | exact (A.out.c _ h).1 rfl) (by rintro (h | h) <;> first | exact A.out.b h.symm | exact (A.out.c _ h).2 rfl))
    have F3 : Hid (Fr (fun i => i = mb ∨ i = kb ∨ v.ownBlock = some i) w w3) := Lib.hid ((F2.out.mono fun i e => .inl (.inl e)).trans hf3 fun i e => .inl (.inr e))
    clear hr3 hf3
    rw [(K.out.apply room ⟨rat, rtm, rbare, rkey, rgone, rval, []⟩ n).1]
    go_wp2_with fail
    go_ret
    exact ⟨by simp, _, _, v3, T3.out, R3.out, (K.out.apply _ _ _).2, F3.out⟩
  have q4 : (d == 4) = false := by simpa using h4
  by_cases h5 : d = 5
  · subst h5
    obtain ⟨R0, hR0⟩ : ∃ R0, Hid (entS ⟨g, t, i⟩ a 5 = R0) := ⟨_, Lib.hid rfl⟩
    have hSW := fun w => same_walk R0.1 w
    have hrec : (R0.2 = 0 ∧ R0.1.key.size ≤ maxLen ∧ R0.1.val.size ≤ maxLen) ∨ R0.2 = 1 := by
      rw [← hR0.out]
      unfold entS
      split
      · rename_i hE
        simp only [entB, Bool.and_eq_true] at hE
        refine .inl ⟨rfl, keyS_le hE.1.1, ?_⟩
        have hw : withinB a (-1) = true := hE.1.2
        have hwf : (Lit.int .i64 a).wf = true := by simp [withinB] at hw; simp [Lit.wf, IntKind.min, IntKind.max, IntKind.signed, IntKind.bits]; omega
        show (entR ⟨g, t, i⟩ a 5).val.size ≤ maxLen
        unfold entR
        dsimp only
        split
        · show (0 : Nat) ≤ maxLen; exact Nat.zero_le _
        · have := putS_size hwf; unfold maxLen; omega
      · exact .inr rfl
    have EW := Lib.hid (fun w => entry_walk' g t i a 5 w)
    have RW := Lib.hid (fun w => rentry_walk ⟨g, t, i⟩ a 5 w)
    rw [hR0.out] at EW RW
    unfold recV at EW RW hSW
    have HSW := Lib.hid hSW
    have HREC := Lib.hid hrec
    clear hSW hrec hR0
    obtain ⟨⟨rat', rtm', rbare', rkey', rgone', rval', rhs'⟩, er⟩ := R0
    dsimp only at EW RW HSW HREC
    have k0 := (cell_of B1.out 0).trans rfl
    have k1 := (cell_of B1.out 1).trans rfl
    have k2 := (cell_of B1.out 2).trans rfl
    have c4 := (cell_of B0.out 4).trans rfl
    simp at k0 k1 k2 c4
    go_enter Try.func16, Try.ntmps16
    go_wp2_with fail
    rw [← HW.out]
    refine (EW.out _).mono ?_
    rintro e w2 ⟨rfl, hf2⟩
    have fa2 := hf2.alloc (.cells #[.int .i64 rat', .int .i64 rtm', .bool rbare', .string rkey', .bool rgone', .string rval', .slice none 0 0] 32)
    have hx12 := heap_alloc_self w2 (.cells #[.int .i64 rat', .int .i64 rtm', .bool rbare', .string rkey', .bool rgone', .string rval', .slice none 0 0] 32)
    have hs2 := hf2.size
    have n12 : w2.heap.size ≠ mb := by have := T.out.lt.2; omega
    have c1 := fa2.cel ((cell_of B0.out 1).trans rfl)
    have c2 := fa2.cel ((cell_of B0.out 2).trans rfl)
    have c3 := fa2.cel ((cell_of B0.out 3).trans rfl)
    have c5 := fa2.cel ((cell_of B0.out 4).trans rfl)
    simp at c1 c2 c3 c5
    have FA2 := Lib.hid fa2
    have X12 := Lib.hid hx12
    clear hf2 fa2 hx12 k0 k1 k2 c4
    generalize hb12 : w2.heap.size = b12 at *
    go_wp2_with fail
    refine (RW.out _).mono ?_
    rintro e w4 ⟨rfl, hf4⟩
    have fa4 := hf4.alloc (.cells #[.int .i64 rat', .int .i64 rtm', .bool rbare', .string rkey', .bool rgone', .string rval', .slice none 0 0] 32)
    have hx14 := heap_alloc_self w4 (.cells #[.int .i64 rat', .int .i64 rtm', .bool rbare', .string rkey', .bool rgone', .string rval', .slice none 0 0] 32)
    have hx12 := (fa4.block b12 (lt_of_heap X12.out) fun h => h).trans X12.out
    have n14 : w4.heap.size ≠ mb := by have := T.out.lt.2; have := hf4.size; simp at this; omega
    have r0 := (cell_of hx12 0).trans rfl
    have r1 := (cell_of hx12 1).trans rfl
    have r2 := (cell_of hx12 2).trans rfl
    have r3 := (cell_of hx12 3).trans rfl
    have r4 := (cell_of hx12 4).trans rfl
    have r5 := (cell_of hx12 5).trans rfl
    have r6 := (cell_of hx12 6).trans rfl
    simp at r0 r1 r2 r3 r4 r5 r6
    have F4 := Lib.hid (FA2.out.tr fa4)
    have Y12 := Lib.hid hx12
    have Y14 := Lib.hid hx14
    clear hf4 fa4 hx14 hx12 c1 c2 c3 c5 X12 FA2
    generalize hb14 : w4.heap.size = b14 at *
    go_wp2_with fail
    refine (HSW.out _).mono ?_
    rintro e w6 ⟨rfl, hf6⟩
    have F6 := Lib.hid (F4.out.tr hf6)
    have hx12 := (hf6.block _ (lt_of_heap Y12.out) fun h => h).trans Y12.out
    have hx14 := (hf6.block _ (lt_of_heap Y14.out) fun h => h).trans Y14.out
    have Z12 := Lib.hid hx12
    have Z14 := Lib.hid hx14
    have T6 := Lib.hid (T.out.old F6.out)
    have R6 := Lib.hid (R.out.old F6.out)
    have FF6 := Lib.hid (F.out.tr F6.out)
    clear hf6 hx12 hx14 r0 r1 r2 r3 r4 r5 r6 F4 Y12 Y14 T R F F6
    rcases HREC.out with ⟨rfl, hk', hv'⟩ | rfl
    · have x0 : ∀ y : Lcl.InS (fun w' => Fr (fun i => i = mb) w6 w'), y.w.cell? ⟨b12, 0, none⟩ = some (.int .i64 rat') := fun y => y.h.cell ((cell_of Z12.out 0).trans rfl) n12
      have x1 : ∀ y : Lcl.InS (fun w' => Fr (fun i => i = mb) w6 w'), y.w.cell? ⟨b12, 1, none⟩ = some (.int .i64 rtm') := fun y => y.h.cell ((cell_of Z12.out 1).trans rfl) n12
      have x2 : ∀ y : Lcl.InS (fun w' => Fr (fun i => i = mb) w6 w'), y.w.cell? ⟨b12, 2, none⟩ = some (.bool rbare') := fun y => y.h.cell ((cell_of Z12.out 2).trans rfl) n12
      have x3 : ∀ y : Lcl.InS (fun w' => Fr (fun i => i = mb) w6 w'), y.w.cell? ⟨b12, 3, none⟩ = some (.string rkey') := fun y => y.h.cell ((cell_of Z12.out 3).trans rfl) n12
      have x4 : ∀ y : Lcl.InS (fun w' => Fr (fun i => i = mb) w6 w'), y.w.cell? ⟨b12, 4, none⟩ = some (.bool rgone') := fun y => y.h.cell ((cell_of Z12.out 4).trans rfl) n12
      have x5 : ∀ y : Lcl.InS (fun w' => Fr (fun i => i = mb) w6 w'), y.w.cell? ⟨b12, 5, none⟩ = some (.string rval') := fun y => y.h.cell ((cell_of Z12.out 5).trans rfl) n12
      have x6 : ∀ y : Lcl.InS (fun w' => Fr (fun i => i = mb) w6 w'), y.w.cell? ⟨b12, 6, none⟩ = some (.slice none 0 0) := fun y => y.h.cell ((cell_of Z12.out 6).trans rfl) n12
      have y0 : ∀ y : Lcl.InS (fun w' => Fr (fun i => i = mb) w6 w'), y.w.cell? ⟨b14, 0, none⟩ = some (.int .i64 rat') := fun y => y.h.cell ((cell_of Z14.out 0).trans rfl) n14
      have y1 : ∀ y : Lcl.InS (fun w' => Fr (fun i => i = mb) w6 w'), y.w.cell? ⟨b14, 1, none⟩ = some (.int .i64 rtm') := fun y => y.h.cell ((cell_of Z14.out 1).trans rfl) n14
      have y2 : ∀ y : Lcl.InS (fun w' => Fr (fun i => i = mb) w6 w'), y.w.cell? ⟨b14, 2, none⟩ = some (.bool rbare') := fun y => y.h.cell ((cell_of Z14.out 2).trans rfl) n14
      have y3 : ∀ y : Lcl.InS (fun w' => Fr (fun i => i = mb) w6 w'), y.w.cell? ⟨b14, 3, none⟩ = some (.string rkey') := fun y => y.h.cell ((cell_of Z14.out 3).trans rfl) n14
      have y4 : ∀ y : Lcl.InS (fun w' => Fr (fun i => i = mb) w6 w'), y.w.cell? ⟨b14, 4, none⟩ = some (.bool rgone') := fun y => y.h.cell ((cell_of Z14.out 4).trans rfl) n14
      have y5 : ∀ y : Lcl.InS (fun w' => Fr (fun i => i = mb) w6 w'), y.w.cell? ⟨b14, 5, none⟩ = some (.string rval') := fun y => y.h.cell ((cell_of Z14.out 5).trans rfl) n14
      have y6 : ∀ y : Lcl.InS (fun w' => Fr (fun i => i = mb) w6 w'), y.w.cell? ⟨b14, 6, none⟩ = some (.slice none 0 0) := fun y => y.h.cell ((cell_of Z14.out 6).trans rfl) n14
      go_wp2_with fail
      refine Lcl.wp_region_calm (by kernel_rfl) [(true, [0, 1, 2, 3, 6]), (false, [4, 7])] #[0, 1, 3, 7, 7, 31, 7, 7, 255, 511, 1023, 2047] [0, 1, 2, 3, 4, 5, 6, 7] 5 #[true, true, true, true, true, false, true, true, false, false, false, false] (by kernel_rfl) (by kernel_rfl) (by kernel_rfl) (fun w' => Fr (fun i => i = mb) w6 w') (Fr.refl _ w6).drew (fun d c a v w h => by cases d <;> exact h) ?_
      simp only [Lcl.opsOf, List.map_cons, List.map_nil, List.getElem?_toArray, List.getElem?_cons_succ, List.getElem?_cons_zero, Option.getD_some]
      refine Lcl.wpCalm_t ?_
      repeat (go_big_quiet_step (rfl))
      refine wpQuiet_nil ?_
      refine Lcl.wpCalm_f ?_
      repeat (go_big_quiet_step (rfl))
      refine wpQuiet_nil ?_
      refine Lcl.wpCalm_nil ?_
      clear x0 x1 x2 x3 x4 x5 x6 y0 y1 y2 y3 y4 y5 y6
      refine Lcl.wpG_one 5 rfl (by kernel_rfl) ?_
      go_wp2_with fail
      refine (apply_walk' _ _ _ _ _ _ [] _ _ _ tb mb room M w6.drew hk' hv' (T6.out.to rfl rfl)).mono ?_
      rintro e w7 ⟨rfl, ht7, hf7⟩
      have T7 := Lib.hid ht7
      have R7 := Lib.hid ((R6.out.old ((Fr.same w6).drew)).fr hf7 A.out.b fun g hg => (A.out.c g hg).2)
      have F7 := Lib.hid ((FF6.out.drew.mono fun i e => e.elim).trans hf7 fun i e => .inl e)
      have S7 := Lib.hid hf7
      clear ht7 hf7
      go_wp2_with fail
      refine ⟨fun _ h => h.trans S7.out fun i e => .inl e, ?_⟩
      refine Lcl.wpG_run [8, 9, 10, 11] _ _ _ (by kernel_rfl) ?_
      simp only [List.map_cons, List.map_nil, List.getElem?_toArray, List.getElem?_cons_succ, List.getElem?_cons_zero, Option.getD_some]
      go_wp2_with fail
      refine (rapply_walk' _ _ _ _ _ _ [] _ _ _ B kb v room L w7 hk' hv' R7.out (Nat.le_trans hB F7.out.size) hroom).mono ?_
      rintro e w8 ⟨rfl, v8, hr8, hf8⟩
      have R8 := Lib.hid hr8
      have T8 := Lib.hid (T7.out.fr hf8 (by rintro (h | h) <;> first | exact A.out.a h.symm | exact (A.out.c _ h).1 rfl) (by rintro (h | h) <;> first | exact A.out.b h.symm | exact (A.out.c _ h).2 rfl))
      have F8 : Hid (Fr (fun i => i = mb ∨ i = kb ∨ v.ownBlock = some i) w w8) := Lib.hid ((F7.out.mono fun i e => .inl (.inl e)).trans hf8 fun i e => .inl (.inr e))
      clear hr8 hf8
      rw [(K.out.apply room ⟨rat', rtm', rbare', rkey', rgone', rval', []⟩ 0).1]
      go_wp2_with fail
      go_ret
      exact ⟨by simp, _, _, v8, T8.out, R8.out, (K.out.apply _ _ _).2, F8.out⟩
    · go_wp2_with fail
      go_quiet (fail)
      go_wp2_with fail
      go_ret
      exact ⟨rfl, _, _, v, T6.out.old ((Fr.same w6).drewN nq), R6.out.old ((Fr.same w6).drewN nq), K.out, (FF6.out.drewN nq).mono fun i e => e.elim⟩
  have q5 : (d == 5) = false := by simpa using h5
  clear h0 h1 h2 h3 h4 h5
  go_enter Try.func16, Try.ntmps16
  go_wp2_with fail
  rw [← HW.out]
  refine (holds_walk tb mb room M B kb v L W T.out R.out K.out).mono ?_
  rintro e w2 ⟨rfl, hf2⟩
  have T2 := Lib.hid (T.out.old hf2)
  have R2 := Lib.hid (R.out.old hf2)
  have F2 := Lib.hid (F.out.tr hf2)
  clear hf2
  go_wp2_with fail
  go_ret
  exact ⟨rfl, _, _, v, T2.out, R2.out, K.out, F2.out.mono fun i e => e.elim⟩
end Go.Proofs.Ytdgdhegbcjimbaa
