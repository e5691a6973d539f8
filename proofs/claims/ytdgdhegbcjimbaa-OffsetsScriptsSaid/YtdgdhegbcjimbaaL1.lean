/- 'live' of the law: the walk. -/
import Derived.Test.YtdgdhegbcjimbaaT6
namespace Go.Proofs.Ytdgdhegbcjimbaa
open Go.RowKit Go.Fm Go.BigFrame
set_option linter.unusedVariables false
set_option linter.unusedSimpArgs false

def kk : Key := ⟨⟨#[103]⟩, ⟨#[116]⟩, 2⟩
def kh : Key := ⟨⟨#[104]⟩, ⟨#[116]⟩, 2⟩
def liveK : ByteArray := ⟨#[2, 103, 2, 116, 4]⟩
def liveR : Rec := { at' := 0, tm := 0, bare := false, key := liveK, gone := false, val := ⟨#[14]⟩, hs := [] }
theorem keyS_live : keyS kk = liveK := by
  unfold keyS textS kk putS
  have e1 : putL (zig ((⟨#[103]⟩ : ByteArray).size : Int)) = [dig 2] := putL_small (m := 2) (by decide)
  have e2 : putL (zig ((⟨#[116]⟩ : ByteArray).size : Int)) = [dig 2] := putL_small (m := 2) (by decide)
  have e3 : putL (zig 2) = [dig 4] := putL_small (m := 4) (by decide)
  dsimp only
  rw [e1, e2, e3]
  show (_ : ByteArray) = _
  kernel_rfl
theorem putS_live : putS 7 = ⟨#[14]⟩ := by
  unfold putS
  have e1 : putL (zig 7) = [dig 14] := putL_small (m := 14) (by decide)
  rw [e1]
  show (_ : ByteArray) = _
  kernel_rfl
theorem entR_live : entR kk 7 0 = liveR := by
  unfold entR liveR
  rw [if_neg (by decide), keyS_live, putS_live]
  kernel_rfl
theorem mayB_live : mayB kk = true := by kernel_rfl
theorem mayB_h : mayB kh = true := by kernel_rfl
theorem within7 : withinB 7 0 = true := by kernel_rfl
theorem entS_live : entS kk 7 0 = (liveR, 0) := by
  unfold entS
  rw [if_pos (by kernel_rfl), entR_live]
theorem rdS_live : rdS liveR 0 = (kk, 7, true) := by
  have A : takeS liveK 0 100 = (⟨#[103]⟩, 2, 0) := by kernel_rfl
  have B : takeS liveK 2 100 = (⟨#[116]⟩, 4, 0) := by kernel_rfl
  have C : getS liveK 4 = (2, 5, 0) := by kernel_rfl
  have D : getS ⟨#[14]⟩ 0 = (7, 1, 0) := by kernel_rfl
  have E := entS_live
  unfold kk at E ⊢
  unfold rdS
  rw [if_neg (by decide)]
  unfold rdKeep
  have e1 : liveR.key = liveK := rfl
  have e2 : liveR.val = ⟨#[14]⟩ := rfl
  have e3 : liveR.tm = 0 := rfl
  rw [e1, e2, e3, A]
  dsimp only
  rw [B]
  dsimp only
  rw [C]
  dsimp only
  rw [D]
  dsimp only
  rw [E]
  show (_ : Key × Int × Bool) = _
  kernel_rfl
theorem applyE_live : applyE 1 [] liveR 0 = 0 := by
  unfold applyE
  rw [rdS_live, if_pos rfl, if_neg (by decide)]
  unfold commitE
  rw [if_pos ⟨mayB_live, within7⟩, if_pos (.inr (by decide))]
theorem applyL_live : applyL 1 [] liveR 0 = [(kk, 7)] := by
  unfold applyL
  rw [rdS_live, if_pos rfl, if_neg (by decide)]
  dsimp only
  unfold commitL
  rw [if_pos (by unfold commitE; rw [if_pos ⟨mayB_live, within7⟩, if_pos (.inr (by decide))])]
  rfl
theorem get_live : getL [(kk, (7 : Int))] kk = some 7 := by simp [getL]
theorem ne_live : kk ≠ kh := by
  intro h
  have h2 : (kk.g.data.toList : List UInt8) = kh.g.data.toList := by rw [h]
  exact absurd h2 (by decide)
theorem get_h : getL [(kk, (7 : Int))] kh = none := by
  have := ne_live
  simp [getL, this]
theorem commitE_h : commitE 1 [(kk, 7)] kh 1 = 5 := by
  unfold commitE
  rw [if_pos ⟨mayB_h, by kernel_rfl⟩, if_neg (by rw [get_h]; decide)]
theorem commitL_h : commitL 1 [(kk, 7)] kh 1 = [(kk, 7)] := by
  unfold commitL
  rw [if_neg (by rw [commitE_h]; decide)]
theorem keep_live : keepL [(kk, (7 : Int))] (fun k => decide (k.g = ⟨#[103]⟩)) = [] := by
  simp [keepL, kk]
abbrev liveV : Value := .agg #[.int .i64 0, .int .i64 0, .bool false, .string ⟨#[2, 103, 2, 116, 4]⟩, .bool false, .string ⟨#[14]⟩, .slice none 0 0]
theorem entry_live (w : World) : Calls Try.prog 11 #[.agg #[.string ⟨#[103]⟩, .string ⟨#[116]⟩, .int .i64 2], .int .i64 7, .int .i64 0] w fun e w' => e = .returned (.tuple #[liveV, .int .i64 0]) ∧ Fr (fun _ => False) w w' := by
  have := entry_walk kk 7 0 w
  rw [entS_live] at this
  simp only [recV, keyV, liveR, liveK, kk] at this
  exact this
theorem apply_live (tb mb : Nat) (w : World) (h : Tbl w tb mb 1 []) : Calls Try.prog 12 #[.pointer (some ⟨tb, 0, none⟩), liveV] w fun e w' => e = .returned (.int .i64 0) ∧ Tbl w' tb mb 1 [(kk, 7)] ∧ Fr (fun i => i = mb) w w' := by
  have := apply_walk liveR none 0 0 tb mb 1 [] w (by decide) (by decide) h
  unfold ApplyPost at this
  rw [applyE_live, applyL_live] at this
  simp only [recV, liveR, liveK] at this
  exact this
theorem get_live_walk (tb mb : Nat) (w : World) (h : Tbl w tb mb 1 [(kk, 7)]) : Calls Try.prog 13 #[.pointer (some ⟨tb, 0, none⟩), .agg #[.string ⟨#[103]⟩, .string ⟨#[116]⟩, .int .i64 2]] w fun e w' => e = .returned (.tuple #[.int .i64 7, .bool true]) ∧ Fr (fun _ => False) w w' := by
  have := get_walk kk (may_ok mayB_live) tb mb 1 _ w h
  unfold GetPost at this
  rw [get_live] at this
  simp only [keyV, kk] at this
  exact this
theorem commit_live_walk (tb mb : Nat) (w : World) (h : Tbl w tb mb 1 [(kk, 7)]) : Calls Try.prog 10 #[.pointer (some ⟨tb, 0, none⟩), .agg #[.string ⟨#[104]⟩, .string ⟨#[116]⟩, .int .i64 2], .int .i64 1] w fun e w' => e = .returned (.int .i64 5) ∧ Tbl w' tb mb 1 [(kk, 7)] ∧ Fr (fun i => i = mb) w w' := by
  have := commit_walk kh 1 tb mb 1 _ w h
  unfold CommitPost at this
  rw [commitE_h, commitL_h] at this
  simp only [keyV, kh] at this
  exact this
theorem forget_live_walk (tb mb : Nat) (w : World) (h : Tbl w tb mb 1 [(kk, 7)]) : Calls Try.prog 15 #[.pointer (some ⟨tb, 0, none⟩), .string ⟨#[103]⟩] w fun e w' => e = .returned (.int .i64 1) ∧ Fr (fun i => i = mb) w w' := by
  have := forget_walk ⟨#[103]⟩ tb mb 1 _ w h
  unfold TakePost at this
  rw [keep_live] at this
  exact this.mono fun e w' h => ⟨h.1, h.2.2⟩
set_option maxHeartbeats 4000000 in
theorem live_walk (w : World) : Calls Try.prog 8 #[] w fun e w' => e = .returned (.bool true) ∧ Fr (fun _ => False) w w' := by
  go_enter Try.func8, Try.ntmps8
  go_wp2_with fail
  refine (new_yes 1 (by decide) (by decide) _).mono ?_
  rintro e w1 ⟨tb, mb, rfl, ht1, l1, l2, hf1⟩
  have HT1 := Lib.hid ht1
  have HF1 := Lib.hid hf1
  clear ht1 hf1
  go_wp2_with fail
  refine (new_no 0 (.inl (by decide)) _).mono ?_
  rintro e w1' ⟨rfl, rfl⟩
  go_wp2_with fail
  refine (entry_live _).mono ?_
  rintro e w2 ⟨rfl, hf2⟩
  have hfa := (Fr.same w1).alloc (.cells #[.string ⟨#[103]⟩, .string ⟨#[116]⟩, .int .i64 2] 36)
  have hb := heap_alloc_self w1 (.cells #[.string ⟨#[103]⟩, .string ⟨#[116]⟩, .int .i64 2] 36)
  have hb2 := (hf2.block _ (lt_of_heap hb) fun h => h).trans hb
  have hfb := (Fr.same w2).alloc (.cells #[.int .i64 0, .int .i64 0, .bool false, .string ⟨#[2, 103, 2, 116, 4]⟩, .bool false, .string ⟨#[14]⟩, .slice none 0 0] 32)
  have hr := heap_alloc_self w2 (.cells #[.int .i64 0, .int .i64 0, .bool false, .string ⟨#[2, 103, 2, 116, 4]⟩, .bool false, .string ⟨#[14]⟩, .slice none 0 0] 32)
  have hb3 := (hfb.block _ (lt_of_heap hb2) fun h => h).trans hb2
  have ht3 := ((HT1.out.old hfa).old hf2).old hfb
  have hf3 := ((HF1.out.tr hfa).tr hf2).tr hfb
  have nk : w1.heap.size ≠ mb := by have := HT1.out.lt; omega
  have nr : w2.heap.size ≠ mb := by have := (((HT1.out.old hfa).old hf2).lt); omega
  obtain ⟨w3, hw3⟩ : ∃ w3, w3 = w2.alloc (.cells #[.int .i64 0, .int .i64 0, .bool false, .string ⟨#[2, 103, 2, 116, 4]⟩, .bool false, .string ⟨#[14]⟩, .slice none 0 0] 32) := ⟨_, rfl⟩
  have hs3 : w2.heap.size < w3.heap.size := by rw [hw3]; simp
  rw [← hw3] at hr hb3 ht3 hf3
  have HR := Lib.hid hr
  have HB := Lib.hid hb3
  have HT3 := Lib.hid ht3
  have HF3 := Lib.hid hf3
  have HW := Lib.hid hw3
  clear hf2 hfa hb hb2 hfb hr hb3 ht3 hf3 hw3
  go_wp2_with fail
  rw [← HW.out]
  clear HW
  refine (apply_live tb mb _ HT3.out).mono ?_
  rintro e w4 ⟨rfl, ht4, hf4⟩
  have ck := (hf4.block _ (lt_of_heap HB.out) nk).trans HB.out
  have cr := (hf4.block _ (lt_of_heap HR.out) nr).trans HR.out
  have HT4 := Lib.hid ht4
  have HF4 := Lib.hid ((HF3.out.mono (fun i e => e.elim)).trans hf4 fun i e => .inl e)
  have CK := Lib.hid ck
  have CR := Lib.hid cr
  clear ht4 hf4 ck cr HF3 HT3 HB HR HT1 HF1 hs3
  have c0 := (cell_of CK.out 0).trans rfl
  have c1 := (cell_of CK.out 1).trans rfl
  have c2 := (cell_of CK.out 2).trans rfl
  simp at c0 c1 c2
  go_wp2_with fail
  refine (get_live_walk tb mb _ HT4.out).mono ?_
  rintro e w5 ⟨rfl, hf5⟩
  have ck := (hf5.block _ (lt_of_heap CK.out) fun h => h).trans CK.out
  have cr := (hf5.block _ (lt_of_heap CR.out) fun h => h).trans CR.out
  have HT5 := Lib.hid (HT4.out.old hf5)
  have HF5 := Lib.hid (HF4.out.trans hf5 fun i e => e.elim)
  have CK5 := Lib.hid ck
  have CR5 := Lib.hid cr
  clear ck cr hf5 c0 c1 c2 HT4 HF4 CK CR
  have c1 := (cell_of CK5.out 1).trans rfl
  have c2 := (cell_of CK5.out 2).trans rfl
  simp at c1 c2
  go_wp2_with fail
  refine (commit_live_walk tb mb _ HT5.out).mono ?_
  rintro e w6 ⟨rfl, ht6, hf6⟩
  have cr := (hf6.block _ (lt_of_heap CR5.out) nr).trans CR5.out
  have HT6 := Lib.hid ht6
  have HF6 := Lib.hid (HF5.out.trans hf6 fun i e => .inl e)
  have c3 := (cell_of cr 3).trans rfl
  have c5 := (cell_of cr 5).trans rfl
  simp at c3 c5
  clear ht6 hf6 HT5 HF5 CK5 CR5 c1 c2 cr
  go_wp2_with (go_at_call 15; refine (forget_live_walk tb mb _ HT6.out).mono ?_; rintro e w' ⟨rfl, hf7⟩)
  go_ret
  exact ⟨rfl, (HF6.out.trans hf7 fun i e => .inl e).mono fun i e => .inr (by omega)⟩
end Go.Proofs.Ytdgdhegbcjimbaa
