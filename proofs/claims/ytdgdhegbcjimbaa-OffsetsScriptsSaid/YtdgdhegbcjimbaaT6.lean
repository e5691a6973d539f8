/- Apply of a table: the walk. -/
import Derived.Test.YtdgdhegbcjimbaaT5
namespace Go.Proofs.Ytdgdhegbcjimbaa
open Go.RowKit Go.Fm Go.BigFrame
set_option linter.unusedVariables false
set_option linter.unusedSimpArgs false

def rdS (r : Rec) (n : Nat) : Key × Int × Bool := if r.gone = true then rdGone r n else rdKeep r n
theorem read_walk (r : Rec) (oa : Option Addr) (n cap : Nat) (w : World) (hk : r.key.size ≤ maxLen) (hv : r.val.size ≤ maxLen) :
    Calls Try.prog 23 #[recV r (.slice oa n cap)] w fun e w' => e = .returned (.tuple #[keyV (rdS r n).1, .int .i64 (rdS r n).2.1, .bool (rdS r n).2.2]) ∧ Fr (fun _ => False) w w' := by
  unfold rdS
  cases hg : r.gone with
  | true => simp only [if_true]; exact read_gone r oa n cap w hk hv hg
  | false => simp only [Bool.false_eq_true, if_false]; exact read_keep r oa n cap w hk hv hg
def applyE (room : Int) (L : List Row) (r : Rec) (n : Nat) : Int :=
  if (rdS r n).2.2 = true then (if r.gone = true then 0 else commitE room L (rdS r n).1 (rdS r n).2.1) else 3
def applyL (room : Int) (L : List Row) (r : Rec) (n : Nat) : List Row :=
  if (rdS r n).2.2 = true then (if r.gone = true then delL L (rdS r n).1 else commitL room L (rdS r n).1 (rdS r n).2.1) else L
def ApplyPost (tb mb : Nat) (room : Int) (L : List Row) (r : Rec) (n : Nat) (w : World) (e : Ending) (w' : World) : Prop :=
  e = .returned (.int .i64 (applyE room L r n)) ∧ Tbl w' tb mb room (applyL room L r n) ∧ Fr (fun i => i = mb) w w'
theorem apply_nil (r : Rec) (hv : Value) (w : World) : Calls Try.prog 12 #[.pointer none, recV r hv] w fun e w' => e = .returned (.int .i64 1) ∧ Fr (fun _ => False) w w' := by
  unfold recV
  go_enter Try.func12, Try.ntmps12
  go_wp2_with fail
  go_ret
  exact ⟨rfl, (Fr.same w).alloc _⟩
/-- A key that 'read' takes may be. -/
theorem rdS_ok {r : Rec} {n : Nat} (h : (rdS r n).2.2 = true) : KeyOK (rdS r n).1 := by
  have hm : ∀ (k : Key) (a tm : Int), ((entS k a tm).2 == 0) = true → mayB k = true := by
    intro k a tm h
    unfold entS at h
    split at h
    · rename_i h1; simp [entB] at h1; exact h1.1.1
    · simp at h
  unfold rdS at h ⊢
  split at h
  · rename_i hg
    rw [if_pos hg]
    refine may_ok (hm _ (-1) r.tm ?_)
    unfold rdGone at h
    dsimp only [rdOK] at h
    simp only [Bool.and_eq_true] at h
    exact h.1.1.1.2
  · rename_i hg
    rw [if_neg hg]
    refine may_ok (hm _ (rdKeep r n).2.1 r.tm ?_)
    unfold rdKeep at h
    dsimp only [rdOK] at h
    simp only [Bool.and_eq_true] at h
    exact h.1.1.1.2
set_option maxHeartbeats 4000000 in
theorem apply_walk (r : Rec) (oa : Option Addr) (n cap : Nat) (tb mb : Nat) (room : Int) (L : List Row) (w : World) (hk : r.key.size ≤ maxLen) (hv : r.val.size ≤ maxLen) (h : Tbl w tb mb room L) :
    Calls Try.prog 12 #[.pointer (some ⟨tb, 0, none⟩), recV r (.slice oa n cap)] w (ApplyPost tb mb room L r n w) := by
  have hrd := read_walk r oa n cap (w.alloc (.cells (recCells r (.slice oa n cap)).toArray 32)) hk hv
  have hok := rdS_ok (r := r) (n := n)
  have hE : Hid (applyE room L r n = if (rdS r n).2.2 = true then (if r.gone = true then 0 else commitE room L (rdS r n).1 (rdS r n).2.1) else 3) := Lib.hid rfl
  have hL : Hid (applyL room L r n = if (rdS r n).2.2 = true then (if r.gone = true then delL L (rdS r n).1 else commitL room L (rdS r n).1 (rdS r n).2.1) else L) := Lib.hid rfl
  obtain ⟨k, a, ok, hq⟩ : ∃ k a ok, rdS r n = (k, a, ok) := ⟨_, _, _, rfl⟩
  rw [hq] at hrd hok hE hL
  dsimp only at hrd hok hE hL
  unfold ApplyPost
  obtain ⟨E, hE2⟩ : ∃ E, E = applyE room L r n := ⟨_, rfl⟩
  obtain ⟨M, hM2⟩ : ∃ M, M = applyL room L r n := ⟨_, rfl⟩
  rw [← hE2, ← hM2]
  rw [← hE2] at hE
  rw [← hM2] at hL
  obtain ⟨rat, rtm, rbare, rkey, rgone, rval, rhs⟩ := r
  dsimp only at hE hL
  clear hE2 hM2 hq hk hv
  unfold recCells at hrd
  unfold recV at hrd ⊢
  dsimp only at hrd ⊢
  have HRD := Lib.hid hrd
  have hf1 := (Fr.same w).alloc (.cells #[.int .i64 rat, .int .i64 rtm, .bool rbare, .string rkey, .bool rgone, .string rval, .slice oa n cap] 32)
  have h1 := h.old hf1
  have HF1 := Lib.hid hf1
  have H1 := Lib.hid h1
  have hb := heap_alloc_self w (.cells #[.int .i64 rat, .int .i64 rtm, .bool rbare, .string rkey, .bool rgone, .string rval, .slice oa n cap] 32)
  have HB := Lib.hid hb
  clear hrd hf1 h1 h hb
  cases ok with
  | false =>
    have hE3 := hE.out
    have hL3 := hL.out
    simp only [Bool.false_eq_true, if_false] at hE3 hL3
    subst hE3 hL3
    clear hE hL hok
    go_enter Try.func12, Try.ntmps12
    go_wp2_with fail
    refine HRD.out.mono ?_
    rintro e w2 ⟨rfl, hf2⟩
    have HF2 := Lib.hid hf2
    clear hf2
    unfold keyV
    go_wp2_with fail
    go_ret
    exact ⟨rfl, (H1.out.old HF2.out).old ((Fr.same w2).alloc _), ((HF1.out.tr HF2.out).alloc _).mono fun i e => e.elim⟩
  | true =>
    have HOK := Lib.hid (hok rfl)
    clear hok
    cases rgone with
    | false =>
      have hE3 := hE.out
      have hL3 := hL.out
      simp only [Bool.false_eq_true, if_false, if_true] at hE3 hL3
      have HE3 := Lib.hid hE3
      have HL3 := Lib.hid hL3
      clear hE hL hE3 hL3
      go_enter Try.func12, Try.ntmps12
      go_wp2_with fail
      refine HRD.out.mono ?_
      rintro e w2 ⟨rfl, hf2⟩
      have hb2 := (hf2.block _ (lt_of_heap HB.out) fun h => h).trans HB.out
      have hfa := (Fr.same w2).alloc (.cells #[.string k.g, .string k.t, .int .i64 k.i] 36)
      have hb3 := (hfa.block _ (lt_of_heap hb2) fun h => h).trans hb2
      have c4 := (cell_of hb3 4).trans rfl
      simp at c4
      have h3 := (H1.out.old hf2).old hfa
      have hcm := commit_walk k a tb mb room L _ h3
      have HF3 := Lib.hid ((HF1.out.tr hf2).tr hfa)
      have HCM := Lib.hid hcm
      clear hf2 hb2 hfa hb3 h3 hcm
      unfold keyV at HCM ⊢
      go_wp2_with fail
      refine HCM.out.mono ?_
      rintro e w4 ⟨rfl, ht4, hf4⟩
      have HT4 := Lib.hid ht4
      have HF4 := Lib.hid hf4
      clear ht4 hf4 c4
      go_wp2_with fail
      go_ret
      exact ⟨by rw [HE3.out]; rfl, by rw [HL3.out]; exact HT4.out, (HF3.out.mono fun i e => e.elim).trans HF4.out fun i e => .inl e⟩
    | true =>
      have hE3 := hE.out
      have hL3 := hL.out
      simp only [if_true] at hE3 hL3
      have HE3 := Lib.hid hE3
      have HL3 := Lib.hid hL3
      clear hE hL hE3 hL3
      go_enter Try.func12, Try.ntmps12
      go_wp2_with fail
      refine HRD.out.mono ?_
      rintro e w2 ⟨rfl, hf2⟩
      have hb2 := (hf2.block _ (lt_of_heap HB.out) fun h => h).trans HB.out
      have hfa := (Fr.same w2).alloc (.cells #[.string k.g, .string k.t, .int .i64 k.i] 36)
      have hb3 := (hfa.block _ (lt_of_heap hb2) fun h => h).trans hb2
      have c4 := (cell_of hb3 4).trans rfl
      simp at c4
      have h3 := (H1.out.old hf2).old hfa
      have HF3 := Lib.hid ((HF1.out.tr hf2).tr hfa)
      have c5 := fun i => cell_alloc_new w2 #[.string k.g, .string k.t, .int .i64 k.i] 36 i
      obtain ⟨w3, hw3⟩ : ∃ w3, w3 = w2.alloc (.cells #[.string k.g, .string k.t, .int .i64 k.i] 36) := ⟨_, rfl⟩
      have C5 := Lib.hid c5
      have H3 := Lib.hid h3
      clear hf2 hb2 hfa hb3 h3 c5
      unfold keyV
      go_wp2_with fail
      rw [← hw3] at c4 C5 HF3 H3 ⊢
      have c0 := cell_of H3.out.cells 1
      have c1 := (C5.out 0).trans rfl
      have c2 := (C5.out 1).trans rfl
      have c3 := (C5.out 2).trans rfl
      have hr1 := H3.out.room1
      have hr2 := H3.out.room2
      have hln := H3.out.len
      have x0 : ∀ x : Lcl.InS (fun w' => Fr (fun _ => False) w3 w'), x.w.cell? ⟨tb, 1, none⟩ = some (.map (some mb)) := fun x => x.h.cel c0
      have x2 : ∀ x : Lcl.InS (fun w' => Fr (fun _ => False) w3 w'), x.w.cell? ⟨w2.heap.size, 0, none⟩ = some (.string k.g) := fun x => x.h.cel c1
      have x3 : ∀ x : Lcl.InS (fun w' => Fr (fun _ => False) w3 w'), x.w.cell? ⟨w2.heap.size, 1, none⟩ = some (.string k.t) := fun x => x.h.cel c2
      have x4 : ∀ x : Lcl.InS (fun w' => Fr (fun _ => False) w3 w'), x.w.cell? ⟨w2.heap.size, 2, none⟩ = some (.int .i64 k.i) := fun x => x.h.cel c3
      refine Lcl.wp_region_calm (by kernel_rfl) [(true, [0, 1, 2]), (false, [3, 4])] #[0, 1, 3, 7, 0, 31] [0, 1, 2, 3, 4] 1 #[true, true, true, true, true, false] (by kernel_rfl) (by kernel_rfl) (by kernel_rfl) (fun w' => Fr (fun _ => False) w3 w') (Fr.same w3).drew (fun d c a v w h => by cases d <;> exact h) ?_
      simp only [Lcl.opsOf, List.map_cons, List.map_nil, List.getElem?_toArray, List.getElem?_cons_succ, List.getElem?_cons_zero, Option.getD_some]
      refine Lcl.wpCalm_t ?_
      repeat (go_big_quiet_step (rfl))
      refine wpQuiet_nil ?_
      refine Lcl.wpCalm_f ?_
      repeat (go_big_quiet_step (rfl))
      refine wpQuiet_nil ?_
      refine Lcl.wpCalm_nil ?_
      clear x0 x2 x3 x4 c0 c1 c2 c3
      refine Lcl.wpG_run [5] _ _ _ (by kernel_rfl) ?_
      simp only [List.map_cons, List.map_nil, List.getElem?_toArray, List.getElem?_cons_succ, List.getElem?_cons_zero, Option.getD_some]
      refine wpList_del _ rfl _ _ rfl mb L rfl (H3.out.map.to rfl) k rfl HOK.out ?_
      intro w5 ht5 hg5
      have hf5 : Fr (fun i => i = mb) w3 w5 := Fr.grown (Fr.refl _ w3).drew hg5 fun i e => by cases e; exact .inl rfl
      have hc5 : w5.heap[tb]? = some (.cells #[.int .i64 room, .map (some mb)] 58 (0, 0)) := (hf5.block tb H3.out.lt.1 H3.out.ne).trans H3.out.cells
      have T5 := Lib.hid ht5
      have F5 := Lib.hid hf5
      have C6 := Lib.hid hc5
      clear ht5 hg5 hf5 hc5 c4
      go_wp2_with fail
      go_ret
      refine ⟨by rw [HE3.out]; rfl, ?_, (HF3.out.mono fun i e => e.elim).trans F5.out fun i e => .inl e⟩
      rw [HL3.out]
      refine ⟨C6.out, T5.out, hr1, hr2, ?_⟩
      have := len_strike H3.out.map.1.nodup k
      omega
end Go.Proofs.Ytdgdhegbcjimbaa
