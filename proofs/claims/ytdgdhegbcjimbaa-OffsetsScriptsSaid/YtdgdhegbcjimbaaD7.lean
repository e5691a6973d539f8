/- The document's Apply: the walk. -/
import Derived.Test.YtdgdhegbcjimbaaD6
import Derived.Test.YtdgdhegbcjimbaaN2
namespace Go.Proofs.Ytdgdhegbcjimbaa
open Go.RowKit Go.Fm Go.BigFrame
set_option linter.unusedVariables false
set_option linter.unusedSimpArgs false

/-- What the document's Apply answers, and leaves. -/
def rapplyE (room : Int) (L : List Row) (r : Rec) (n : Nat) : Int :=
  if rdDoc r n = true then (if r.gone = true then 0 else commitE room L (rdS r n).1 (rdS r n).2.1) else 3
def rapplyL (room : Int) (L : List Row) (r : Rec) (n : Nat) : List Row :=
  if rdDoc r n = true then (if r.gone = true then (if (getL L (rdS r n).1).isSome = true then L.take (fidx L (rdS r n).1).toNat ++ L.drop ((fidx L (rdS r n).1).toNat + 1) else L) else rcommitL room L (rdS r n).1 (rdS r n).2.1) else L
def RApplyPost (B kb : Nat) (v : Value) (room : Int) (L : List Row) (r : Rec) (n : Nat) (w : World) (e : Ending) (w' : World) : Prop :=
  e = .returned (.int .i64 (rapplyE room L r n)) ∧ ∃ v', RTbl w' B kb v' room (rapplyL room L r n) ∧ Fr (fun i => i = kb ∨ v.ownBlock = some i) w w'
/-- The record's box. -/
def recObj (r : Rec) (hv : Value) : Obj := .cells #[.int .i64 r.at', .int .i64 r.tm, .bool r.bare, .string r.key, .bool r.gone, .string r.val, hv] 32 (0, 0)
set_option maxRecDepth 100000 in
set_option maxHeartbeats 16000000 in
theorem rapply_walk (r : Rec) (oa : Option Addr) (n cap : Nat) (B kb : Nat) (v : Value) (room : Int) (L : List Row) (w : World) (hk : r.key.size ≤ maxLen) (hv : r.val.size ≤ maxLen) (h : RTbl w B kb v room L) (hB : B ≤ w.heap.size) (hroom : room ≤ 10000) :
    Calls Try.prog 33 #[.pointer (some ⟨kb, 0, none⟩), recV r (.slice oa n cap)] w (RApplyPost B kb v room L r n w) := by
  obtain ⟨E, hE0⟩ : ∃ E, Hid (E = rapplyE room L r n) := ⟨_, Lib.hid rfl⟩
  obtain ⟨R, hR0⟩ : ∃ R, Hid (R = rapplyL room L r n) := ⟨_, Lib.hid rfl⟩
  unfold RApplyPost
  rw [← hE0.out, ← hR0.out]
  obtain ⟨A1, A2, A3, hA⟩ : ∃ x y z, takeS r.key 0 100 = (x, y, z) := ⟨_, _, _, rfl⟩
  obtain ⟨B1, B2, B3, hBB⟩ : ∃ x y z, takeS r.key A2 100 = (x, y, z) := ⟨_, _, _, rfl⟩
  obtain ⟨C1, C2, C3, hC⟩ : ∃ x y z, getS r.key B2 = (x, y, z) := ⟨_, _, _, rfl⟩
  obtain ⟨D1, D2, D3, hD⟩ : ∃ x y z, getS r.val 0 = (x, y, z) := ⟨_, _, _, rfl⟩
  have hdoc : rdDoc r n = (decide (A3 = 0 ∧ B3 = 0) && decide (C3 = 0 ∧ C2 = (r.key.size : Int)) && mayB ⟨A1, B1, C1⟩ && !r.bare && decide (r.at' = 0) && decide (n = 0) && withinB r.tm 0 &&
      (if r.gone = true then decide (r.val.size = 0) else decide (D3 = 0 ∧ D2 = (r.val.size : Int)) && withinB D1 0)) := by
    unfold rdDoc; simp only [hA, hBB, hC, hD]
  have hkey : (rdS r n).1 = ⟨A1, B1, C1⟩ := by
    unfold rdS; split <;> simp only [rdGone, rdKeep, hA, hBB, hC]
  have hat : r.gone = false → (rdS r n).2.1 = D1 := fun h => by
    unfold rdS; rw [if_neg (by rw [h]; decide)]; simp only [rdKeep, hD]
  have no : rdDoc r n = false → E = 3 ∧ R = L := fun h => by
    rw [hE0.out, hR0.out]
    unfold rapplyE rapplyL
    rw [h]; exact ⟨rfl, rfl⟩
  have WA := Lib.hid (fun w => rtake_walk r.key 0 100 w hk)
  have WB := Lib.hid (fun w => rtake_walk r.key A2 100 w hk)
  have WC := Lib.hid (fun w => rget_walk r.key B2 w hk)
  have WD := Lib.hid (fun w => rget_walk r.val 0 w hv)
  unfold RTakePost RGetPost at *
  rw [hA] at WA
  rw [hBB] at WB
  rw [hC] at WC
  rw [hD] at WD
  dsimp only at WA WB WC WD
  have hobj := heap_alloc_self w (recObj r (.slice oa n cap))
  have hfa := (Fr.same w).alloc (recObj r (.slice oa n cap))
  have NO := Lib.hid no
  have HDOC := Lib.hid hdoc
  have HKEY := Lib.hid hkey
  have HAT := Lib.hid hat
  have OB := Lib.hid hobj
  have FA := Lib.hid hfa
  have H := Lib.hid (h.old hfa)
  have HW := Lib.hid h
  have hkl := lt_of_heap h.cells
  have c3 := (cell_of hobj 3).trans rfl
  simp [recObj] at c3
  clear hA hBB hC hD hdoc hkey hat no hobj hfa h
  obtain ⟨rat, rtm, rbare, rkey, rgone, rval, rhs⟩ := r
  unfold recV
  dsimp only at *
  by_cases hA3 : A3 = 0
  · by_cases hB3 : B3 = 0
    · have hqa : (A3 == 0) = true := by simp [hA3]
      have hqb : (B3 == 0) = true := by simp [hB3]
      by_cases hX : C3 = 0 ∧ C2 = (rkey.size : Int) ∧ mayB ⟨A1, B1, C1⟩ = true ∧ rbare = false ∧ rat = 0 ∧ n = 0 ∧ withinB rtm 0 = true
      · obtain ⟨hC3, hC2, hmb, rfl, rfl, rfl, htm⟩ := hX
        subst hC3 hC2
        have htm2 : 0 ≤ rtm ∧ rtm ≤ 1099511627776 := by simpa [withinB] using htm
        have WK := Lib.hid (fun w => rkey_walk ⟨A1, B1, C1⟩ true hmb w)
        have MB := Lib.hid hmb
        have TM := Lib.hid htm
        have g1 : decide (rtm < 0) = false := by simp; omega
        have g2 : decide (1099511627776 < rtm) = false := by simp; omega
        subst hA3 hB3
        clear hmb htm htm2 hqa hqb
        dsimp only at WK
        cases rgone with
        | true =>
          have hns := nil_size rval
          by_cases hz : rval.size = 0
          · have hv0 : rval.toList = [] := hns.2 hz
            have hdt : rdDoc ⟨0, rtm, false, rkey, true, rval, rhs⟩ 0 = true := by rw [HDOC.out, MB.out, TM.out]; simp [hz]
            have hE1 : E = 0 := by rw [hE0.out]; unfold rapplyE; rw [if_pos hdt]; rfl
            have hR1 : R = if (getL L ⟨A1, B1, C1⟩).isSome = true then L.take (fidx L ⟨A1, B1, C1⟩).toNat ++ L.drop ((fidx L ⟨A1, B1, C1⟩).toNat + 1) else L := by rw [hR0.out]; unfold rapplyL; rw [if_pos hdt, HKEY.out]; rfl
            have hfc := fidx_cases L ⟨A1, B1, C1⟩
            have FW := Lib.hid (fun w h => find_walk ⟨A1, B1, C1⟩ B kb v room L w h)
            dsimp only at FW
            generalize hfi : fidx L ⟨A1, B1, C1⟩ = fi at *
            have E1 := Lib.hid hE1
            have R1 := Lib.hid hR1
            clear hns hz hdt hE1 hR1
            go_enter Try.func33, Try.ntmps33
            go_wp2_with fail
            refine (WA.out _).mono ?_
            rintro e w2 ⟨rfl, hf2⟩
            have F2 := Lib.hid (FA.out.tr hf2)
            have hb2 := (hf2.block _ (lt_of_heap OB.out) fun h => h).trans OB.out
            have OB2 := Lib.hid hb2
            have d3 := (cell_of hb2 3).trans rfl
            simp [recObj] at d3
            clear hf2 hb2 c3
            go_wp2_with fail
            refine (WB.out _).mono ?_
            rintro e w3 ⟨rfl, hf3⟩
            have F3 := Lib.hid (F2.out.tr hf3)
            have hb3 := (hf3.block _ (lt_of_heap OB2.out) fun h => h).trans OB2.out
            have OB3 := Lib.hid hb3
            have c3 := (cell_of hb3 3).trans rfl
            simp [recObj] at c3
            clear hf3 hb3 d3
            go_wp2_with fail
            refine (WC.out _).mono ?_
            rintro e w4 ⟨rfl, hf4⟩
            have F4 := Lib.hid ((F3.out.tr hf4).alloc (.cells #[.string B1, .int .i64 C1] 29))
            have hb4 := (heap_alloc_lt (.cells #[.string B1, .int .i64 C1] 29) (by have := hf4.size; have := lt_of_heap OB3.out; omega)).trans ((hf4.block _ (lt_of_heap OB3.out) fun h => h).trans OB3.out)
            have OB4 := Lib.hid hb4
            have TB4 := Lib.hid (heap_alloc_self w4 (.cells #[.string B1, .int .i64 C1] 29))
            have hb0 := hf4.size
            have hb00 := lt_of_heap OB3.out
            have d0 := (cell_of hb4 0).trans rfl
            have d1 := (cell_of hb4 1).trans rfl
            have d2 := (cell_of hb4 2).trans rfl
            have d3 := (cell_of hb4 3).trans rfl
            have d6 := (cell_of hb4 6).trans rfl
            simp [recObj] at d0 d1 d2 d3 d6
            clear hf4 hb4 c3
            go_wp2_with (go_at_call 48; refine (WK.out _).mono ?_; rintro e w5 ⟨rfl, hf5⟩; have F5 := Lib.hid (F4.out.tr hf5); have hb5 := (hf5.block _ (lt_of_heap OB4.out) fun h => h).trans OB4.out; have e0 := (cell_of hb5 0).trans rfl; have e1 := (cell_of hb5 1).trans rfl; have e2 := (cell_of hb5 2).trans rfl; have e3 := (cell_of hb5 3).trans rfl; have e4 := (cell_of hb5 4).trans rfl; have e5 := (cell_of hb5 5).trans rfl; have e6 := (cell_of hb5 6).trans rfl; simp [recObj] at e0 e1 e2 e3 e4 e5 e6; have OB5 := Lib.hid hb5; have t5 := Lib.hid ((hf5.block _ (lt_of_heap TB4.out) fun h => h).trans TB4.out); have s0 := (cell_of t5.out 0).trans rfl; have s1 := (cell_of t5.out 1).trans rfl; simp at s0 s1; clear hf5 hb5 d0 d1 d2 d3 d6)
            refine (FW.out _ (HW.out.old F5.out)).mono ?_
            rintro e w6 ⟨rfl, hf6⟩
            have F6 := Lib.hid (F5.out.tr hf6)
            clear hf6 s0 s1 e0 e1 e2 e3 e4 e5 e6 hb0 hb00
            rcases hfc with ⟨h1, h2⟩ | ⟨j, b, h1, h2, h3⟩
            · subst h2
              have hR2 := R1.out
              rw [h1] at hR2
              have R2 := Lib.hid hR2
              clear h1 hR2
              go_wp2_with fail
              go_ret
              exact ⟨by rw [E1.out]; rfl, v, by rw [R2.out]; exact HW.out.old F6.out, F6.out.mono fun i e => e.elim⟩
            · subst h1
              have hR2 := R1.out
              rw [h3] at hR2
              have hlt := (List.getElem?_eq_some_iff.1 h2).1
              have CW := Lib.hid (cut_walk j B kb v room L w6 (HW.out.old F6.out) hlt (Nat.le_trans hB F6.out.size))
              have R2 := Lib.hid hR2
              have gj : decide (0 ≤ (j : Int)) = true := by simp
              clear h2 h3 hR2
              go_wp2_with fail
              refine CW.out.mono ?_
              rintro e w7 ⟨rfl, v7, ht7, hf7⟩
              go_wp2_with fail
              go_ret
              exact ⟨by rw [E1.out]; rfl, v7, by rw [R2.out]; exact ht7, (F6.out.mono fun i e => e.elim).trans hf7 fun i e => .inl (.inl e)⟩
          · have hv0 : ¬ rval.toList = [] := fun h => hz (hns.1 h)
            obtain ⟨n1, n2⟩ := NO.out (by rw [HDOC.out]; simp [hz])
            have N1 := Lib.hid n1
            have N2 := Lib.hid n2
            have hv1 : rval.toList.isEmpty = false := by simpa using hv0
            clear hns hz n1 n2
            go_enter Try.func33, Try.ntmps33
            go_wp2_with fail
            refine (WA.out _).mono ?_
            rintro e w2 ⟨rfl, hf2⟩
            have F2 := Lib.hid (FA.out.tr hf2)
            have hb2 := (hf2.block _ (lt_of_heap OB.out) fun h => h).trans OB.out
            have OB2 := Lib.hid hb2
            have d3 := (cell_of hb2 3).trans rfl
            simp [recObj] at d3
            clear hf2 hb2 c3
            go_wp2_with fail
            refine (WB.out _).mono ?_
            rintro e w3 ⟨rfl, hf3⟩
            have F3 := Lib.hid (F2.out.tr hf3)
            have hb3 := (hf3.block _ (lt_of_heap OB2.out) fun h => h).trans OB2.out
            have OB3 := Lib.hid hb3
            have c3 := (cell_of hb3 3).trans rfl
            simp [recObj] at c3
            clear hf3 hb3 d3
            go_wp2_with fail
            refine (WC.out _).mono ?_
            rintro e w4 ⟨rfl, hf4⟩
            have F4 := Lib.hid ((F3.out.tr hf4).alloc (.cells #[.string B1, .int .i64 C1] 29))
            have hb4 := (heap_alloc_lt (.cells #[.string B1, .int .i64 C1] 29) (by have := hf4.size; have := lt_of_heap OB3.out; omega)).trans ((hf4.block _ (lt_of_heap OB3.out) fun h => h).trans OB3.out)
            have OB4 := Lib.hid hb4
            have TB4 := Lib.hid (heap_alloc_self w4 (.cells #[.string B1, .int .i64 C1] 29))
            have hb0 := hf4.size
            have hb00 := lt_of_heap OB3.out
            have d0 := (cell_of hb4 0).trans rfl
            have d1 := (cell_of hb4 1).trans rfl
            have d2 := (cell_of hb4 2).trans rfl
            have d3 := (cell_of hb4 3).trans rfl
            have d6 := (cell_of hb4 6).trans rfl
            simp [recObj] at d0 d1 d2 d3 d6
            clear hf4 hb4 c3
            go_wp2_with (go_at_call 48; refine (WK.out _).mono ?_; rintro e w5 ⟨rfl, hf5⟩; have F5 := Lib.hid (F4.out.tr hf5); have hb5 := (hf5.block _ (lt_of_heap OB4.out) fun h => h).trans OB4.out; have e0 := (cell_of hb5 0).trans rfl; have e1 := (cell_of hb5 1).trans rfl; have e2 := (cell_of hb5 2).trans rfl; have e3 := (cell_of hb5 3).trans rfl; have e4 := (cell_of hb5 4).trans rfl; have e5 := (cell_of hb5 5).trans rfl; have e6 := (cell_of hb5 6).trans rfl; simp [recObj] at e0 e1 e2 e3 e4 e5 e6; have OB5 := Lib.hid hb5; have t5 := Lib.hid ((hf5.block _ (lt_of_heap TB4.out) fun h => h).trans TB4.out); have s0 := (cell_of t5.out 0).trans rfl; have s1 := (cell_of t5.out 1).trans rfl; simp at s0 s1; clear hf5 hb5 d0 d1 d2 d3 d6)
            go_ret
            exact ⟨by rw [N1.out]; rfl, v, by rw [N2.out]; exact HW.out.old F5.out, F5.out.mono fun i e => e.elim⟩
        | false =>
          have hat := HAT.out rfl
          by_cases hY : D3 = 0 ∧ D2 = (rval.size : Int) ∧ withinB D1 0 = true
          · obtain ⟨rfl, rfl, hw⟩ := hY
            have hw2 : 0 ≤ D1 ∧ D1 ≤ 1099511627776 := by simpa [withinB] using hw
            have hdt : rdDoc ⟨0, rtm, false, rkey, false, rval, rhs⟩ 0 = true := by rw [HDOC.out, MB.out, TM.out, hw]; simp
            have E1 := Lib.hid (show E = commitE room L ⟨A1, B1, C1⟩ D1 by rw [hE0.out]; unfold rapplyE; rw [if_pos hdt, HKEY.out, hat]; rfl)
            have R1 := Lib.hid (show R = rcommitL room L ⟨A1, B1, C1⟩ D1 by rw [hR0.out]; unfold rapplyL; rw [if_pos hdt, HKEY.out, hat]; rfl)
            have CW := Lib.hid (fun w h hB => rcommit_walk ⟨A1, B1, C1⟩ D1 B kb v room L w h hB hroom)
            unfold RCommitPost at CW
            dsimp only at CW
            have g3 : decide (D1 < 0) = false := by simp; omega
            have g4 : decide (1099511627776 < D1) = false := by simp; omega
            clear hw hw2 hdt hat
            go_enter Try.func33, Try.ntmps33
            go_wp2_with fail
            refine (WA.out _).mono ?_
            rintro e w2 ⟨rfl, hf2⟩
            have F2 := Lib.hid (FA.out.tr hf2)
            have hb2 := (hf2.block _ (lt_of_heap OB.out) fun h => h).trans OB.out
            have OB2 := Lib.hid hb2
            have d3 := (cell_of hb2 3).trans rfl
            simp [recObj] at d3
            clear hf2 hb2 c3
            go_wp2_with fail
            refine (WB.out _).mono ?_
            rintro e w3 ⟨rfl, hf3⟩
            have F3 := Lib.hid (F2.out.tr hf3)
            have hb3 := (hf3.block _ (lt_of_heap OB2.out) fun h => h).trans OB2.out
            have OB3 := Lib.hid hb3
            have c3 := (cell_of hb3 3).trans rfl
            simp [recObj] at c3
            clear hf3 hb3 d3
            go_wp2_with fail
            refine (WC.out _).mono ?_
            rintro e w4 ⟨rfl, hf4⟩
            have F4 := Lib.hid ((F3.out.tr hf4).alloc (.cells #[.string B1, .int .i64 C1] 29))
            have hb4 := (heap_alloc_lt (.cells #[.string B1, .int .i64 C1] 29) (by have := hf4.size; have := lt_of_heap OB3.out; omega)).trans ((hf4.block _ (lt_of_heap OB3.out) fun h => h).trans OB3.out)
            have OB4 := Lib.hid hb4
            have TB4 := Lib.hid (heap_alloc_self w4 (.cells #[.string B1, .int .i64 C1] 29))
            have hb0 := hf4.size
            have hb00 := lt_of_heap OB3.out
            have d0 := (cell_of hb4 0).trans rfl
            have d1 := (cell_of hb4 1).trans rfl
            have d2 := (cell_of hb4 2).trans rfl
            have d3 := (cell_of hb4 3).trans rfl
            have d6 := (cell_of hb4 6).trans rfl
            simp [recObj] at d0 d1 d2 d3 d6
            clear hf4 hb4 c3
            go_wp2_with (go_at_call 48; refine (WK.out _).mono ?_; rintro e w5 ⟨rfl, hf5⟩; have F5 := Lib.hid (F4.out.tr hf5); have hb5 := (hf5.block _ (lt_of_heap OB4.out) fun h => h).trans OB4.out; have e0 := (cell_of hb5 0).trans rfl; have e1 := (cell_of hb5 1).trans rfl; have e2 := (cell_of hb5 2).trans rfl; have e3 := (cell_of hb5 3).trans rfl; have e4 := (cell_of hb5 4).trans rfl; have e5 := (cell_of hb5 5).trans rfl; have e6 := (cell_of hb5 6).trans rfl; simp [recObj] at e0 e1 e2 e3 e4 e5 e6; have OB5 := Lib.hid hb5; have t5 := Lib.hid ((hf5.block _ (lt_of_heap TB4.out) fun h => h).trans TB4.out); have s0 := (cell_of t5.out 0).trans rfl; have s1 := (cell_of t5.out 1).trans rfl; simp at s0 s1; clear hf5 hb5 d0 d1 d2 d3 d6)
            refine (WD.out _).mono ?_
            rintro e w6 ⟨rfl, hf6⟩
            have F6 := Lib.hid (F5.out.tr hf6)
            have hb6 := (hf6.block _ (lt_of_heap OB5.out) fun h => h).trans OB5.out
            have e5' := (cell_of hb6 5).trans rfl
            simp [recObj] at e5'
            have t6 := (hf6.block _ (lt_of_heap t5.out) fun h => h).trans t5.out
            have s0' := (cell_of t6 0).trans rfl
            have s1' := (cell_of t6 1).trans rfl
            simp at s0' s1'
            clear hf6 hb6 t6 s0 s1 e0 e1 e2 e3 e4 e5 e6 hb0 hb00
            go_wp2_with fail
            refine (CW.out _ (HW.out.old F6.out) (Nat.le_trans hB F6.out.size)).mono ?_
            rintro e w7 ⟨rfl, v7, ht7, hf7⟩
            go_wp2_with fail
            go_ret
            exact ⟨by rw [E1.out]; rfl, v7, by rw [R1.out]; exact ht7, (F6.out.mono fun i e => e.elim).trans hf7 fun i e => .inl e⟩
          · obtain ⟨n1, n2⟩ := NO.out (by
              rw [HDOC.out, Bool.eq_false_iff]
              intro hh
              simp only [Bool.and_eq_true, decide_eq_true_eq, Bool.false_eq_true, if_false] at hh
              exact hY ⟨hh.2.1.1, hh.2.1.2, hh.2.2⟩)
            have N1 := Lib.hid n1
            have N2 := Lib.hid n2
            have NY := Lib.hid hY
            clear hY n1 n2 hat
            go_enter Try.func33, Try.ntmps33
            go_wp2_with fail
            refine (WA.out _).mono ?_
            rintro e w2 ⟨rfl, hf2⟩
            have F2 := Lib.hid (FA.out.tr hf2)
            have hb2 := (hf2.block _ (lt_of_heap OB.out) fun h => h).trans OB.out
            have OB2 := Lib.hid hb2
            have d3 := (cell_of hb2 3).trans rfl
            simp [recObj] at d3
            clear hf2 hb2 c3
            go_wp2_with fail
            refine (WB.out _).mono ?_
            rintro e w3 ⟨rfl, hf3⟩
            have F3 := Lib.hid (F2.out.tr hf3)
            have hb3 := (hf3.block _ (lt_of_heap OB2.out) fun h => h).trans OB2.out
            have OB3 := Lib.hid hb3
            have c3 := (cell_of hb3 3).trans rfl
            simp [recObj] at c3
            clear hf3 hb3 d3
            go_wp2_with fail
            refine (WC.out _).mono ?_
            rintro e w4 ⟨rfl, hf4⟩
            have F4 := Lib.hid ((F3.out.tr hf4).alloc (.cells #[.string B1, .int .i64 C1] 29))
            have hb4 := (heap_alloc_lt (.cells #[.string B1, .int .i64 C1] 29) (by have := hf4.size; have := lt_of_heap OB3.out; omega)).trans ((hf4.block _ (lt_of_heap OB3.out) fun h => h).trans OB3.out)
            have OB4 := Lib.hid hb4
            have TB4 := Lib.hid (heap_alloc_self w4 (.cells #[.string B1, .int .i64 C1] 29))
            have hb0 := hf4.size
            have hb00 := lt_of_heap OB3.out
            have d0 := (cell_of hb4 0).trans rfl
            have d1 := (cell_of hb4 1).trans rfl
            have d2 := (cell_of hb4 2).trans rfl
            have d3 := (cell_of hb4 3).trans rfl
            have d6 := (cell_of hb4 6).trans rfl
            simp [recObj] at d0 d1 d2 d3 d6
            clear hf4 hb4 c3
            go_wp2_with (go_at_call 48; refine (WK.out _).mono ?_; rintro e w5 ⟨rfl, hf5⟩; have F5 := Lib.hid (F4.out.tr hf5); have hb5 := (hf5.block _ (lt_of_heap OB4.out) fun h => h).trans OB4.out; have e0 := (cell_of hb5 0).trans rfl; have e1 := (cell_of hb5 1).trans rfl; have e2 := (cell_of hb5 2).trans rfl; have e3 := (cell_of hb5 3).trans rfl; have e4 := (cell_of hb5 4).trans rfl; have e5 := (cell_of hb5 5).trans rfl; have e6 := (cell_of hb5 6).trans rfl; simp [recObj] at e0 e1 e2 e3 e4 e5 e6; have OB5 := Lib.hid hb5; have t5 := Lib.hid ((hf5.block _ (lt_of_heap TB4.out) fun h => h).trans TB4.out); have s0 := (cell_of t5.out 0).trans rfl; have s1 := (cell_of t5.out 1).trans rfl; simp at s0 s1; clear hf5 hb5 d0 d1 d2 d3 d6)
            refine (WD.out _).mono ?_
            rintro e w6 ⟨rfl, hf6⟩
            have F6 := Lib.hid (F5.out.tr hf6)
            have hb6 := (hf6.block _ (lt_of_heap OB5.out) fun h => h).trans OB5.out
            have e5' := (cell_of hb6 5).trans rfl
            simp [recObj] at e5'
            have t6 := (hf6.block _ (lt_of_heap t5.out) fun h => h).trans t5.out
            have s0' := (cell_of t6 0).trans rfl
            have s1' := (cell_of t6 1).trans rfl
            simp at s0' s1'
            clear hf6 hb6 t6 s0 s1 e0 e1 e2 e3 e4 e5 e6 hb0 hb00
            go_wp2_with fail
            all_goals first
              | (exfalso; exact NY.out ⟨by assumption, by assumption, by simp only [withinB, Bool.and_eq_true, decide_eq_true_eq]; assumption⟩)
              | (go_ret; exact ⟨by rw [N1.out]; rfl, v, by rw [N2.out]; exact HW.out.old F6.out, F6.out.mono fun i e => e.elim⟩)
              | (go_ret; exact ⟨by rw [N1.out]; rfl, ⟨v, by rw [N2.out]; exact HW.out.old F6.out⟩, F6.out.mono fun i e => e.elim⟩)
      · obtain ⟨n1, n2⟩ := NO.out (by
          rw [HDOC.out, Bool.eq_false_iff]
          intro hh
          simp only [Bool.and_eq_true, decide_eq_true_eq, Bool.not_eq_true'] at hh
          obtain ⟨⟨⟨⟨⟨⟨⟨-, h1, h2⟩, h3⟩, h4⟩, h5⟩, h6⟩, h7⟩, -⟩ := hh
          exact hX ⟨h1, h2, h3, h4, h5, h6, h7⟩)
        have N1 := Lib.hid n1
        have N2 := Lib.hid n2
        have NX := Lib.hid hX
        have WK := Lib.hid (fun w => rkey_walk ⟨A1, B1, C1⟩ _ rfl w)
        clear n1 n2 hX hA3 hB3
        dsimp only at WK
        generalize hmb : mayB ⟨A1, B1, C1⟩ = mb at *
        go_enter Try.func33, Try.ntmps33
        go_wp2_with fail
        refine (WA.out _).mono ?_
        rintro e w2 ⟨rfl, hf2⟩
        have F2 := Lib.hid (FA.out.tr hf2)
        have hb2 := (hf2.block _ (lt_of_heap OB.out) fun h => h).trans OB.out
        have OB2 := Lib.hid hb2
        have d3 := (cell_of hb2 3).trans rfl
        simp [recObj] at d3
        clear hf2 hb2 c3
        go_wp2_with fail
        refine (WB.out _).mono ?_
        rintro e w3 ⟨rfl, hf3⟩
        have F3 := Lib.hid (F2.out.tr hf3)
        have hb3 := (hf3.block _ (lt_of_heap OB2.out) fun h => h).trans OB2.out
        have OB3 := Lib.hid hb3
        have c3 := (cell_of hb3 3).trans rfl
        simp [recObj] at c3
        clear hf3 hb3 d3 hqa
        go_wp2_with fail
        refine (WC.out _).mono ?_
        rintro e w4 ⟨rfl, hf4⟩
        have F4 := Lib.hid ((F3.out.tr hf4).alloc (.cells #[.string B1, .int .i64 C1] 29))
        have hb4 := (heap_alloc_lt (.cells #[.string B1, .int .i64 C1] 29) (by have := hf4.size; have := lt_of_heap OB3.out; omega)).trans ((hf4.block _ (lt_of_heap OB3.out) fun h => h).trans OB3.out)
        have OB4 := Lib.hid hb4
        have d0 := (cell_of hb4 0).trans rfl
        have d1 := (cell_of hb4 1).trans rfl
        have d2 := (cell_of hb4 2).trans rfl
        have d3 := (cell_of hb4 3).trans rfl
        have d6 := (cell_of hb4 6).trans rfl
        simp [recObj] at d0 d1 d2 d3 d6
        clear hf4 hb4 c3 hqb
        go_wp2_with (go_at_call 48; refine (WK.out _).mono ?_; rintro e w5 ⟨rfl, hf5⟩; have F5 := Lib.hid (F4.out.tr hf5); have hb5 := (hf5.block _ (lt_of_heap OB4.out) fun h => h).trans OB4.out; have e0 := (cell_of hb5 0).trans rfl; have e1 := (cell_of hb5 1).trans rfl; have e2 := (cell_of hb5 2).trans rfl; have e3 := (cell_of hb5 3).trans rfl; have e6 := (cell_of hb5 6).trans rfl; simp [recObj] at e0 e1 e2 e3 e6; clear hf5 hb5 d0 d1 d2 d3 d6)
        all_goals first
          | (exfalso; exact NX.out ⟨by assumption, by assumption, by assumption, by simpa using (by assumption : ¬ rbare = true), by assumption, by assumption, by simp only [withinB, Bool.and_eq_true, decide_eq_true_eq]; assumption⟩)
          | (go_ret; exact ⟨by rw [N1.out]; rfl, v, by rw [N2.out]; exact HW.out.old F5.out, F5.out.mono fun i e => e.elim⟩)
          | (go_ret; exact ⟨by rw [N1.out]; rfl, ⟨v, by rw [N2.out]; exact HW.out.old F5.out⟩, F5.out.mono fun i e => e.elim⟩)
          | (go_ret; exact ⟨by rw [N1.out]; rfl, v, by rw [N2.out]; exact HW.out.old F4.out, F4.out.mono fun i e => e.elim⟩)
    · have hqa : (A3 == 0) = true := by simp [hA3]
      have hqb : (B3 == 0) = false := by simp [hB3]
      obtain ⟨n1, n2⟩ := NO.out (by rw [HDOC.out]; simp [hB3])
      have N1 := Lib.hid n1
      have N2 := Lib.hid n2
      clear n1 n2
      go_enter Try.func33, Try.ntmps33
      go_wp2_with fail
      refine (WA.out _).mono ?_
      rintro e w2 ⟨rfl, hf2⟩
      have d3 := hf2.cel ((cell_of OB.out 3).trans rfl)
      simp [recObj] at d3
      have H2 := Lib.hid (H.out.old hf2)
      have F2 := Lib.hid (FA.out.tr hf2)
      clear hf2
      go_wp2_with fail
      refine (WB.out _).mono ?_
      rintro e w3 ⟨rfl, hf3⟩
      go_wp2_with fail
      go_ret
      exact ⟨by rw [N1.out]; rfl, v, by rw [N2.out]; exact H2.out.old hf3, (F2.out.tr hf3).mono fun i e => e.elim⟩
  · have hq : (A3 == 0) = false := by simp [hA3]
    obtain ⟨n1, n2⟩ := NO.out (by rw [HDOC.out]; simp [hA3])
    have N1 := Lib.hid n1
    have N2 := Lib.hid n2
    clear n1 n2
    go_enter Try.func33, Try.ntmps33
    go_wp2_with fail
    refine (WA.out _).mono ?_
    rintro e w2 ⟨rfl, hf2⟩
    go_wp2_with fail
    go_ret
    exact ⟨by rw [N1.out]; rfl, v, by rw [N2.out]; exact H.out.old hf2, (FA.out.tr hf2).mono fun i e => e.elim⟩
end Go.Proofs.Ytdgdhegbcjimbaa
