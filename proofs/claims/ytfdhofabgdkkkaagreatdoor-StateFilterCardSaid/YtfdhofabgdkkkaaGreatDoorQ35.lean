/- Some answers that the document gives: live, the walk. -/
import Derived.Test.YtfdhofabgdkkkaaGreatDoorQ34
namespace Go.Proofs.YtfdhofabgdkkkaaGreatDoor
open Go.RowKit Go.Fm Go.BigFrame Go.Shelf Go.Maps
set_option linter.unusedVariables false
set_option linter.unusedSimpArgs false
set_option maxRecDepth 100000
section
variable {w w' : World} {S : Nat → Prop}
theorem blk {g : Nat} {c : Array Value} {t : TypeId} (h : w.heap[g]? = some (.cells c t (0, 0))) (hf : Fr S w w') (hS : ¬ S g) : w'.heap[g]? = some (.cells c t (0, 0)) := (hf.block _ (lt_of_heap h) hS).trans h
def simL : Nat → List Bat
 | 0 => []
 | k + 1 => simL k ++ [simB k]
theorem simL_len : ∀ k, (simL k).length = k
 | 0 => rfl
 | k + 1 => by simp [simL, simL_len k]
/-- The machine of live: k batches of one record. -/
structure LiveSt (w0 w : World) (mb : Nat) (m : MachD) (d : PartD) (k : Nat) : Prop where
 o : OneT w0 w mb m 1
 f : findP m.L ⟨0, 0⟩ = some d
 st : d.st = 0
 en : d.en = k
 bats : d.bats = simL k
 n : d.n = k
 no : findP m.L ⟨0, 1⟩ = none
theorem LiveSt.old {w0 : World} {mb : Nat} {m : MachD} {d : PartD} {k : Nat} (h : LiveSt w0 w mb m d k) (hf : Fr (fun _ => False) w w') : LiveSt w0 w' mb m d k :=
 ⟨⟨h.o.n.old hf, h.o.mb, h.o.tl, h.o.nx⟩, h.f, h.st, h.en, h.bats, h.n, h.no⟩
theorem live_step {w0 : World} {mb : Nat} {m : MachD} {d : PartD} {k : Nat} (h : LiveSt w0 w mb m d k) (hst : StepsOK w0) (hk : k < 60) (oa : Option Addr) (c : Nat) (hr : RecsR (fun i => i < w.heap.size) w (.slice oa 1 c) (simB 0).recs) :
  Calls Tryz.prog 12 #[.pointer (some ⟨mb, 0, none⟩), .agg #[.int .i64 4, .string ⟨#[116]⟩, .int .i64 0, .int .i64 0, .int .i64 0, .bool false, .int .i64 0, .int .i64 1, .int .i64 (-1), .int .i64 (-1), .int .i64 (-1), .slice oa 1 c, .int .i64 0, .string ⟨#[]⟩, .string ⟨#[]⟩, .slice none 0 0, .string ⟨#[]⟩, .int .i64 0, .int .i64 0, .slice none 0 0], .int .i64 1] w fun e w' =>
   e = .returned (tellV 0 k) ∧ ∃ m' d', LiveSt w0 w' mb m' d' (k + 1) ∧ (∀ i, d'.T i → d.T i ∨ w.heap.size ≤ i) ∧ Fr d.T w w' := by
 have hm := findP_mem h.f
 have P := live_prod h.o.n.a (hst.old h.o.n.f) ((h.o.find 0).trans h.f) hm k hk h.en (by rw [h.n]; omega) (by rw [h.bats, simL_len]; omega) _ _ hr (fun i h => h)
 rw [h.o.mb] at P
 refine P.mono ?_
 rintro e w' ⟨rfl, d', p1, p2, p3, p4, p5, p6, p7⟩
 refine ⟨rfl, _, d', ⟨⟨h.o.n.set hm (by rw [← h.o.mb] at p1; exact p1) p6 p7, h.o.mb, h.o.tl, h.o.nx⟩, ?_, by rw [p2, h.st], p3, by rw [p4, h.bats]; rfl, by rw [p5, h.n], ?_⟩, p6, p7⟩
 ·show findP (setP m.L ⟨0, 0⟩ d') ⟨0, 0⟩ = some d'
  rw [findP_set h.f, if_pos rfl]
 ·show findP (setP m.L ⟨0, 0⟩ d') ⟨0, 1⟩ = none
  rw [findP_set h.f, if_neg (by decide)]; exact h.no
theorem simL_ok : ∀ k, k ≤ 60 → ∀ b ∈ simL k, BatOK b
 | 0, _, b, h => by cases h
 | k + 1, hk, b, h => by
  rcases List.mem_append.1 h with h | h
  ·exact simL_ok k (by omega) b h
  ·obtain rfl := List.mem_singleton.1 h
   exact simB_ok (by omega) (by omega)
theorem live_fetch {w0 : World} {mb : Nat} {m : MachD} {d : PartD} (h : LiveSt w0 w mb m d 2) (hst : StepsOK w0) :
  Calls Tryz.prog 12 #[.pointer (some ⟨mb, 0, none⟩), plainV 5 tS 0 0 1, .int .i64 1] w fun e w' => ∃ oa c, e = .returned (.agg (repA 0 0 0 2 0 0 0 (.slice oa 1 c) (.slice none 0 0) (.slice none 0 0))) ∧ LiveSt w0 w' mb m d 2 ∧ Fr (fun _ => False) w w' := by
 have hm := findP_mem h.f
 have i1 := plain_in (kind := 5) (name := tS) (index := 0) (count := 0) (from' := 1) (by omega) (by decide) (by omega) (by omega) (by omega)
 have P := do_fetch h.o.n.a (plainR 5 tS 0 0 1) (.slice none 0 0) (.slice none 0 0) _ _ _ true true (plain_enc i1 (hst.old h.o.n.f)) (enc_top i1.wf) (enc_yes i1) rfl ((h.o.find 0).trans h.f) hm (by rw [h.bats]; exact simL_ok 2 (by omega)) (by rw [h.bats, simL_len]; omega) rfl rfl rfl 1
 rw [h.o.mb] at P
 refine P.mono ?_
 rintro e w' ⟨hp, ha⟩
 have hfr := fetch_fr hp
 rcases hp with ⟨h1, -⟩ | ⟨h1, bv, rfl, hb, -⟩
 ·exact absurd ⟨by rw [h.st]; show (0 : Int) ≤ 1; omega, by rw [h.en]; show (1 : Int) ≤ 2; omega⟩ h1
 ·have hl : fetchF (plainR 5 tS 0 0 1).from' (plainR 5 tS 0 0 1).count d.bats 0 [] = [simB (1 : Nat)] := by rw [h.bats]; exact live_fetchF
  rw [hl] at hb
  obtain ⟨oa, c, rfl, -⟩ := hb
  exact ⟨oa, c, by rw [h.st, h.en]; rfl, h.old hfr, hfr⟩
theorem live_u {w0 : World} {mb : Nat} {m : MachD} {d : PartD} {k : Nat} (h : LiveSt w0 w mb m d k) (hst : StepsOK w0) :
  Calls Tryz.prog 12 #[.pointer (some ⟨mb, 0, none⟩), plainV 5 uS 0 0 0, .int .i64 1] w fun e w' => e = .returned (tellV 6 0) ∧ LiveSt w0 w' mb m d k ∧ Fr (fun _ => False) w w' := by
 have i1 := plain_in (kind := 5) (name := uS) (index := 0) (count := 0) (from' := 0) (by omega) (by decide) (by omega) (by omega) (by omega)
 have P := do_none h.o.n.a (plainR 5 uS 0 0 0) (.slice none 0 0) (.slice none 0 0) (.slice none 0 0) _ _ _ true true (plain_enc i1 (hst.old h.o.n.f)) (enc_top i1.wf) (enc_yes i1) rfl (h.o.none 0) 1
 rw [h.o.mb] at P
 refine P.mono ?_
 rintro e w' ⟨rfl, -, hf⟩
 exact ⟨rfl, h.old hf, hf⟩
theorem live_end {w0 : World} {mb : Nat} {m : MachD} {d : PartD} {k : Nat} (h : LiveSt w0 w mb m d k) (ix : Int) (hi : ix = 0 ∨ ix = 1) : Calls Tryz.prog 16 #[.pointer (some ⟨mb, 0, none⟩), .string ⟨#[116]⟩, .int .i64 ix] w fun e w' => e = .returned (.int .i64 (if ix = 0 then (k : Int) else -1)) ∧ Fr (fun _ => False) w w' := by
 have P := mend_walk h.o.n.a tS ix (by decide) (by rcases hi with rfl | rfl <;> rfl)
 rw [h.o.mb] at P
 refine P.mono ?_
 rintro e w' ⟨rfl, hf⟩
 refine ⟨?_, hf⟩
 have e1 : findM m tS ix = findP m.L ⟨0, ix⟩ := h.o.find ix
 unfold endM
 rw [e1]
 rcases hi with rfl | rfl
 ·rw [h.f]; simp only [h.en, if_true]
 ·rw [h.no]; rfl
set_option maxHeartbeats 64000000 in
theorem live_walk (hst : StepsOK w) (h0 : 0 < w.heap.size) : Calls Tryz.prog 10 #[] w fun e w' => e = .returned (.bool true) ∧ Fr (fun _ => False) w w' := by
 have ST := Lib.hid hst
 clear hst
 go_enter Tryz.func10, Tryz.ntmps10
 go_wp2_with fail
 refine (snew_ok 10 10 (by omega) h0).mono ?_
 rintro e w1 ⟨mb, tb, tmb, pm, cv, rfl, hM1, hg, f1⟩
 have M1 := Lib.hid hM1
 have F1 := Lib.hid f1
 have GE := Lib.hid hg
 clear hM1 f1 hg
 go_wp2_with fail
 refine (snew_zero (w := w1)).mono ?_
 rintro e w2 ⟨rfl, hw2⟩
 subst hw2
 have C1 := Lib.hid (made M1.out GE.out F1.out ST.out 1 (by omega))
 unfold plainV tS at C1
 clear GE M1 F1
 go_wp2_with fail
 refine C1.out.mono ?_
 rintro e w3 ⟨rfl, m3, hO, hnew, hno⟩
 obtain ⟨d1, hd1, hnp⟩ := hnew 0 (by omega) (by omega)
 have L3 := Lib.hid (show LiveSt w w3 mb m3 d1 0 from ⟨hO, hd1, hnp.st, hnp.en, hnp.bats, hnp.n, hno 1 (by omega)⟩)
 have T5 := Lib.hid (show ¬ d1.T w3.heap.size from fun h => by have := ((L3.out.o.n.a.part _ (findP_mem L3.out.f)).lt _ h).2; omega)
 clear hO hnew hd1 hnp hno C1
 have HZ := heap_alloc_self w3 (.cells #[.int .i64 0, .int .i64 0, .int .i64 0, .int .i64 0, .int .i64 0, .int .i64 0, .int .i64 0, .slice none 0 0, .slice none 0 0, .slice none 0 0] 31)
 obtain ⟨bf, bx⟩ := box31 w3 (repA 0 0 0 0 0 0 0 (.slice none 0 0) (.slice none 0 0) (.slice none 0 0))
 have G5 := Lib.hid bx
 have BF := Lib.hid bf
 clear bf bx
 go_wp2_with (refine wpList_store31 rfl _ _ rfl w3.heap.size 0 0 rfl rfl _ HZ rfl ?_)
 clear HZ
 generalize ((w3.alloc (.cells #[.int .i64 0, .int .i64 0, .int .i64 0, .int .i64 0, .int .i64 0, .int .i64 0, .int .i64 0, .slice none 0 0, .slice none 0 0, .slice none 0 0] 31)).setRow w3.heap.size (repA 0 0 0 0 0 0 0 (.slice none 0 0) (.slice none 0 0) (.slice none 0 0))) = w4 at *
 have L4 := Lib.hid (L3.out.old BF.out)
 clear BF L3
 refine (simple_walk w4).mono ?_
 rintro e w5 ⟨oa5, c5, rfl, hr5, f5⟩
 have P5 := Lib.hid (live_step (L4.out.old f5) ST.out (by omega) oa5 c5 (hr5.mono (K' := fun i => i < w5.heap.size) fun i _ h => h))
 have G5 := Lib.hid (blk G5.out f5 fun h => h)
 clear hr5 f5 L4
 unfold batV simB at *
 go_wp2_with fail
 refine P5.out.mono ?_
 rintro e w6 ⟨he6, m6, d6, hL6, hT6, f6⟩
 have he6 : e = .returned (tellV 0 0) := he6
 subst he6
 have L6 := Lib.hid hL6
 have G5b := Lib.hid (blk G5.out f6 T5.out)
 have T5b := Lib.hid (show ¬ d6.T w3.heap.size from fun h => (hT6 _ h).elim T5.out fun h => by have := lt_of_heap G5.out; omega)
 have T6 := Lib.hid (show ¬ d6.T w6.heap.size from fun h => by have := ((L6.out.o.n.a.part _ (findP_mem L6.out.f)).lt _ h).2; omega)
 clear hL6 hT6 f6 P5 G5 T5
 have HZ := heap_alloc_self w6 (.cells #[.int .i64 0, .int .i64 0, .int .i64 0, .int .i64 0, .int .i64 0, .int .i64 0, .int .i64 0, .slice none 0 0, .slice none 0 0, .slice none 0 0] 31)
 obtain ⟨bf, bx⟩ := box31 w6 (repA 0 0 0 0 0 0 0 (.slice none 0 0) (.slice none 0 0) (.slice none 0 0))
 have G6 := Lib.hid bx
 have BF := Lib.hid bf
 clear bf bx
 go_wp2_with (refine wpList_store31 rfl _ _ rfl w6.heap.size 0 0 rfl rfl _ HZ rfl ?_)
 clear HZ
 generalize ((w6.alloc (.cells #[.int .i64 0, .int .i64 0, .int .i64 0, .int .i64 0, .int .i64 0, .int .i64 0, .int .i64 0, .slice none 0 0, .slice none 0 0, .slice none 0 0] 31)).setRow w6.heap.size (repA 0 0 0 0 0 0 0 (.slice none 0 0) (.slice none 0 0) (.slice none 0 0))) = w7 at *
 have L7 := Lib.hid (L6.out.old BF.out)
 have G5 := Lib.hid (blk G5b.out BF.out fun h => h)
 clear BF L6 G5b
 refine (simple_walk w7).mono ?_
 rintro e w8 ⟨oa8, c8, rfl, hr8, f8⟩
 have P8 := Lib.hid (live_step (L7.out.old f8) ST.out (by omega) oa8 c8 (hr8.mono (K' := fun i => i < w8.heap.size) fun i _ h => h))
 have G5 := Lib.hid (blk G5.out f8 fun h => h)
 have G6 := Lib.hid (blk G6.out f8 fun h => h)
 clear hr8 f8 L7
 unfold batV simB at *
 go_wp2_with fail
 refine P8.out.mono ?_
 rintro e w9 ⟨he9, m9, d9, hL9, hT9, f9⟩
 have he9 : e = .returned (tellV 0 1) := he9
 subst he9
 have L9 := Lib.hid hL9
 have G5b := Lib.hid (blk G5.out f9 T5b.out)
 have G6b := Lib.hid (blk G6.out f9 T6.out)
 clear hL9 hT9 f9 P8 G5 G6 T5b T6
 have HZ := heap_alloc_self w9 (.cells #[.int .i64 0, .int .i64 0, .int .i64 0, .int .i64 0, .int .i64 0, .int .i64 0, .int .i64 0, .slice none 0 0, .slice none 0 0, .slice none 0 0] 31)
 obtain ⟨bf, bx⟩ := box31 w9 (repA 0 1 0 0 0 0 0 (.slice none 0 0) (.slice none 0 0) (.slice none 0 0))
 have G7 := Lib.hid bx
 have BF := Lib.hid bf
 clear bf bx
 go_wp2_with (refine wpList_store31 rfl _ _ rfl w9.heap.size 0 1 rfl rfl _ HZ rfl ?_)
 clear HZ
 generalize ((w9.alloc (.cells #[.int .i64 0, .int .i64 0, .int .i64 0, .int .i64 0, .int .i64 0, .int .i64 0, .int .i64 0, .slice none 0 0, .slice none 0 0, .slice none 0 0] 31)).setRow w9.heap.size (repA 0 1 0 0 0 0 0 (.slice none 0 0) (.slice none 0 0) (.slice none 0 0))) = wa at *
 have La := Lib.hid (L9.out.old BF.out)
 have G5 := Lib.hid (blk G5b.out BF.out fun h => h)
 have G6 := Lib.hid (blk G6b.out BF.out fun h => h)
 have FT := Lib.hid (live_fetch La.out ST.out)
 unfold plainV tS at FT
 clear BF L9 G5b G6b
 refine FT.out.mono ?_
 rintro e wb ⟨ob, cb, rfl, hLb, fb⟩
 have Lb := Lib.hid hLb
 have G5 := Lib.hid (blk G5.out fb fun h => h)
 have G6 := Lib.hid (blk G6.out fb fun h => h)
 have G7 := Lib.hid (blk G7.out fb fun h => h)
 clear hLb fb La FT
 have HZ := heap_alloc_self wb (.cells #[.int .i64 0, .int .i64 0, .int .i64 0, .int .i64 0, .int .i64 0, .int .i64 0, .int .i64 0, .slice none 0 0, .slice none 0 0, .slice none 0 0] 31)
 obtain ⟨bf, bx⟩ := box31 wb (repA 0 0 0 2 0 0 0 (.slice ob 1 cb) (.slice none 0 0) (.slice none 0 0))
 have G8 := Lib.hid bx
 have BF := Lib.hid bf
 clear bf bx
 go_wp2_with (refine wpList_store31g rfl _ _ rfl wb.heap.size 0 0 0 2 (.slice ob 1 cb) rfl rfl rfl _ HZ rfl ?_)
 clear HZ
 generalize ((wb.alloc (.cells #[.int .i64 0, .int .i64 0, .int .i64 0, .int .i64 0, .int .i64 0, .int .i64 0, .int .i64 0, .slice none 0 0, .slice none 0 0, .slice none 0 0] 31)).setRow wb.heap.size (repA 0 0 0 2 0 0 0 (.slice ob 1 cb) (.slice none 0 0) (.slice none 0 0))) = wc at *
 have Lc := Lib.hid (Lb.out.old BF.out)
 have G5 := Lib.hid (blk G5.out BF.out fun h => h)
 have G6 := Lib.hid (blk G6.out BF.out fun h => h)
 have G7 := Lib.hid (blk G7.out BF.out fun h => h)
 have UT := Lib.hid (live_u Lc.out ST.out)
 unfold plainV uS at UT
 clear BF Lb
 refine UT.out.mono ?_
 rintro e wd ⟨rfl, hLd, fd⟩
 have Ld := Lib.hid hLd
 have G5 := Lib.hid (blk G5.out fd fun h => h)
 have G6 := Lib.hid (blk G6.out fd fun h => h)
 have G7 := Lib.hid (blk G7.out fd fun h => h)
 have G8 := Lib.hid (blk G8.out fd fun h => h)
 clear hLd fd Lc UT
 have HZ := heap_alloc_self wd (.cells #[.int .i64 0, .int .i64 0, .int .i64 0, .int .i64 0, .int .i64 0, .int .i64 0, .int .i64 0, .slice none 0 0, .slice none 0 0, .slice none 0 0] 31)
 obtain ⟨bf, bx⟩ := box31 wd (repA 6 0 0 0 0 0 0 (.slice none 0 0) (.slice none 0 0) (.slice none 0 0))
 have G9 := Lib.hid bx
 have Le := Lib.hid (Ld.out.old bf)
 have G5 := Lib.hid (blk G5.out bf fun h => h)
 have G6 := Lib.hid (blk G6.out bf fun h => h)
 have G7 := Lib.hid (blk G7.out bf fun h => h)
 have G8 := Lib.hid (blk G8.out bf fun h => h)
 have x5 : ((wd.alloc (.cells #[.int .i64 0, .int .i64 0, .int .i64 0, .int .i64 0, .int .i64 0, .int .i64 0, .int .i64 0, .slice none 0 0, .slice none 0 0, .slice none 0 0] 31)).setRow wd.heap.size (repA 6 0 0 0 0 0 0 (.slice none 0 0) (.slice none 0 0) (.slice none 0 0))).cell? ⟨w3.heap.size, 0, none⟩ = some (.int .i64 0) := (cell_of G5.out 0).trans rfl
 have x6 : ((wd.alloc (.cells #[.int .i64 0, .int .i64 0, .int .i64 0, .int .i64 0, .int .i64 0, .int .i64 0, .int .i64 0, .slice none 0 0, .slice none 0 0, .slice none 0 0] 31)).setRow wd.heap.size (repA 6 0 0 0 0 0 0 (.slice none 0 0) (.slice none 0 0) (.slice none 0 0))).cell? ⟨w6.heap.size, 0, none⟩ = some (.int .i64 0) := (cell_of G6.out 0).trans rfl
 have x6b : ((wd.alloc (.cells #[.int .i64 0, .int .i64 0, .int .i64 0, .int .i64 0, .int .i64 0, .int .i64 0, .int .i64 0, .slice none 0 0, .slice none 0 0, .slice none 0 0] 31)).setRow wd.heap.size (repA 6 0 0 0 0 0 0 (.slice none 0 0) (.slice none 0 0) (.slice none 0 0))).cell? ⟨w6.heap.size, 1, none⟩ = some (.int .i64 0) := (cell_of G6.out 1).trans rfl
 have x7 : ((wd.alloc (.cells #[.int .i64 0, .int .i64 0, .int .i64 0, .int .i64 0, .int .i64 0, .int .i64 0, .int .i64 0, .slice none 0 0, .slice none 0 0, .slice none 0 0] 31)).setRow wd.heap.size (repA 6 0 0 0 0 0 0 (.slice none 0 0) (.slice none 0 0) (.slice none 0 0))).cell? ⟨w9.heap.size, 1, none⟩ = some (.int .i64 1) := (cell_of G7.out 1).trans rfl
 have x8 : ((wd.alloc (.cells #[.int .i64 0, .int .i64 0, .int .i64 0, .int .i64 0, .int .i64 0, .int .i64 0, .int .i64 0, .slice none 0 0, .slice none 0 0, .slice none 0 0] 31)).setRow wd.heap.size (repA 6 0 0 0 0 0 0 (.slice none 0 0) (.slice none 0 0) (.slice none 0 0))).cell? ⟨wb.heap.size, 3, none⟩ = some (.int .i64 2) := (cell_of G8.out 3).trans rfl
 have x8b : ((wd.alloc (.cells #[.int .i64 0, .int .i64 0, .int .i64 0, .int .i64 0, .int .i64 0, .int .i64 0, .int .i64 0, .slice none 0 0, .slice none 0 0, .slice none 0 0] 31)).setRow wd.heap.size (repA 6 0 0 0 0 0 0 (.slice none 0 0) (.slice none 0 0) (.slice none 0 0))).cell? ⟨wb.heap.size, 7, none⟩ = some (.slice ob 1 cb) := (cell_of G8.out 7).trans rfl
 have x9 : ((wd.alloc (.cells #[.int .i64 0, .int .i64 0, .int .i64 0, .int .i64 0, .int .i64 0, .int .i64 0, .int .i64 0, .slice none 0 0, .slice none 0 0, .slice none 0 0] 31)).setRow wd.heap.size (repA 6 0 0 0 0 0 0 (.slice none 0 0) (.slice none 0 0) (.slice none 0 0))).cell? ⟨wd.heap.size, 0, none⟩ = some (.int .i64 6) := (cell_of G9.out 0).trans rfl
 have EN0 := Lib.hid (live_end Le.out 0 (.inl rfl))
 clear bf bx
 go_wp2_with (refine wpList_store31 rfl _ _ rfl wd.heap.size 6 0 rfl rfl _ HZ rfl ?_)
 refine EN0.out.mono ?_
 rintro e wf ⟨he, ff⟩
 have he : e = .returned (.int .i64 2) := he
 subst he
 have Lf := Lib.hid (Le.out.old ff)
 clear ff x5 x6 x6b x7 x8 x8b x9 EN0 HZ
 have EN1 := Lib.hid (live_end Lf.out 1 (.inr rfl))
 go_wp2_with fail
 refine EN1.out.mono ?_
 rintro e wg ⟨he, fg⟩
 have he : e = .returned (.int .i64 (-1)) := he
 subst he
 have Lg := Lib.hid (Lf.out.old fg)
 clear fg EN1
 go_wp2_with fail
 go_ret
 exact ⟨rfl, Lg.out.o.n.f⟩
end
end Go.Proofs.YtfdhofabgdkkkaaGreatDoor
/- What one that produces is told, and fetched: the laws of one partition. -/
namespace Go.Proofs.YtfdhofabgdkkkaaGreatDoor
open Go.RowKit Go.Fm Go.BigFrame Go.Shelf Go.Maps
set_option linter.unusedVariables false
set_option linter.unusedSimpArgs false
set_option maxRecDepth 100000
section
variable {w w' : World} {S : Nat → Prop}
/-- All blocks of a machine. -/
def MachD.A (m : MachD) (i : Nat) : Prop := m.B i ∨ ∃ x ∈ m.L, x.2.T i
end
end Go.Proofs.YtfdhofabgdkkkaaGreatDoor
