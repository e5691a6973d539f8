/- New, Commit, Get of a table: the walks. -/
import Derived.Test.YtdgdhegbcjimbaaK1
import Derived.Test.YtdgdhegbcjimbaaM1
import Derived.WalkKit
import Derived.WalkSpells
import Derived.WalkLawsBesides
import Derived.BigQuiet
import Derived.OwnWalk
import Derived.Carry
import Derived.StillTailTactics
import Derived.Deep.QuietTactic
namespace Go.Proofs.Ytdgdhegbcjimbaa
open Go.RowKit Go.Fm Go.BigFrame
set_option linter.unusedVariables false
set_option linter.unusedSimpArgs false

theorem fz_of {w : World} {b : Nat} {c : Array Value} {e : TypeId} (h : w.heap[b]? = some (.cells c e (0, 0))) (j : Nat) : w.frozen? ⟨b, j, none⟩ = false := by
  unfold World.frozen?
  rw [h]
  simp
theorem cell_of {w : World} {b : Nat} {c : Array Value} {e : TypeId} (h : w.heap[b]? = some (.cells c e (0, 0))) (j : Nat) : w.cell? ⟨b, j, none⟩ = c[j]? := by
  unfold World.cell?
  rw [h]
  rfl

def nameB (s : ByteArray) : Bool := decide (1 ≤ s.size) && decide (s.size ≤ 100)
theorem nil_size (s : ByteArray) : s.toList = [] ↔ s.size = 0 := by
  rw [Go.toList_nil_iff_emptyBytes]
  constructor
  · rintro rfl; rfl
  · intro h; exact ByteArray.size_eq_zero_iff.1 h
theorem name_walk (s : ByteArray) (b : Bool) (hb : nameB s = b) (w : World) : Calls Try.prog 37 #[.string s] w fun e w' => e = .returned (.bool b) ∧ w = w' := by
  have hs := nil_size s
  have hl : decide ((s.size : Int) ≤ 100) = decide (s.size ≤ 100) := by rw [decide_eq_decide]; omega
  have HS := Lib.hid hs
  have HB := Lib.hid hb
  have HL := Lib.hid hl
  clear hs hb hl
  go_enter Try.func37, Try.ntmps37
  go_wp2_with fail
  · go_ret
    rename_i h
    have h1 := HS.out.1 h
    rw [← HB.out]
    simp [nameB, h1]
  · go_ret
    rename_i h
    have h1 : s.size ≠ 0 := fun e => h (HS.out.2 e)
    have h2 : s.toList.isEmpty = false := by simpa using h
    rw [← HB.out, h2, HL.out]
    simp [nameB, show 1 ≤ s.size by omega]

def mayB (k : Key) : Bool := nameB k.g && nameB k.t && decide (0 ≤ k.i) && decide (k.i < 16)
theorem may_walk (k : Key) (b : Bool) (hb : mayB k = b) (w : World) : Calls Try.prog 19 #[keyV k] w fun e w' => e = .returned (.bool b) ∧ Fr (fun _ => False) w w' := by
  have HB := Lib.hid hb
  clear hb
  obtain ⟨g, t, i⟩ := k
  unfold keyV
  go_enter Try.func19, Try.ntmps19
  go_wp2_with (go_at_call 37; refine (name_walk _ _ rfl _).mono ?_; rintro e w' ⟨rfl, rfl⟩)
  · go_ret
    rename_i h1 h2 h3
    exact ⟨by rw [← HB.out]; simp [mayB, h1, h2, h3], (Fr.same w).alloc _⟩
  · go_ret
    rename_i h1 h2 h3
    exact ⟨by rw [← HB.out]; simp [mayB, h1, h2, show ¬ 0 ≤ i by omega], (Fr.same w).alloc _⟩
  · go_ret
    rename_i h1 h2
    exact ⟨by rw [← HB.out]; simp [mayB, h1, h2], (Fr.same w).alloc _⟩
  · go_ret
    rename_i h1
    exact ⟨by rw [← HB.out]; simp [mayB, h1], (Fr.same w).alloc _⟩
def withinB (n least : Int) : Bool := decide (least ≤ n) && decide (n ≤ 1099511627776)
theorem within_walk (n least : Int) (b : Bool) (hb : withinB n least = b) (w : World) : Calls Try.prog 20 #[.int .i64 n, .int .i64 least] w fun e w' => e = .returned (.bool b) ∧ w = w' := by
  have HB := Lib.hid hb
  clear hb
  go_enter Try.func20, Try.ntmps20
  go_wp2_with fail
  · go_ret
    rename_i h
    exact ⟨by rw [← HB.out]; simp [withinB, h], rfl⟩
  · go_ret
    rename_i h
    exact ⟨by rw [← HB.out]; simp [withinB, show ¬ least ≤ n by omega], rfl⟩

/-- A table: its block tb, its map's block mb, its room, its rows. -/
structure Tbl (w : World) (tb mb : Nat) (room : Int) (L : List Row) : Prop where
  cells : w.heap[tb]? = some (.cells #[.int .i64 room, .map (some mb)] 58 (0, 0))
  map : TabM w mb L
  room1 : 1 ≤ room
  room2 : room ≤ 10000
  len : (L.length : Int) ≤ room
theorem Tbl.lt {w : World} {tb mb : Nat} {room : Int} {L : List Row} (h : Tbl w tb mb room L) : tb < w.heap.size ∧ mb < w.heap.size := ⟨lt_of_heap h.cells, h.map.lt⟩
theorem Tbl.ne {w : World} {tb mb : Nat} {room : Int} {L : List Row} (h : Tbl w tb mb room L) : tb ≠ mb := by
  rintro rfl
  obtain ⟨-, D, ⟨es, c, h1, -⟩, -⟩ := h.map
  rw [h.cells] at h1; cases h1
theorem Tbl.to {w w' : World} {tb mb : Nat} {room : Int} {L : List Row} (h : Tbl w tb mb room L) (h1 : w'.heap[tb]? = w.heap[tb]?) (h2 : w'.heap[mb]? = w.heap[mb]?) : Tbl w' tb mb room L :=
  ⟨h1.trans h.cells, h.map.to h2, h.room1, h.room2, h.len⟩
theorem Tbl.fr {w w' : World} {tb mb : Nat} {room : Int} {L : List Row} {S : Nat → Prop} (h : Tbl w tb mb room L) (hf : Fr S w w') (h1 : ¬ S tb) (h2 : ¬ S mb) : Tbl w' tb mb room L :=
  h.to (hf.block _ h.lt.1 h1) (hf.block _ h.lt.2 h2)
theorem Tbl.old {w w' : World} {tb mb : Nat} {room : Int} {L : List Row} (h : Tbl w tb mb room L) (hf : Fr (fun _ => False) w w') : Tbl w' tb mb room L := h.fr hf (fun h => h) (fun h => h)

def NewPost (n : Int) (w : World) (e : Ending) (w' : World) : Prop := ∃ tb mb, e = .returned (.tuple #[.pointer (some ⟨tb, 0, none⟩), .int .i64 0]) ∧ Tbl w' tb mb n [] ∧ w.heap.size ≤ tb ∧ w.heap.size ≤ mb ∧ Fr (fun _ => False) w w'
theorem new_yes (n : Int) (h1 : 1 ≤ n) (h2 : n ≤ 10000) (w : World) : Calls Try.prog 9 #[.int .i64 n] w (NewPost n w) := by
  have hmm := @run_makeMap Try.prog
  have e1 : decide (n < 1) = false := by simp; omega
  have e2 : decide (10000 < n) = false := by simp; omega
  go_enter Try.func9, Try.ntmps9
  go_wp2_with fail
  go_ret2
  exact ⟨_, _, rfl, ⟨by have := heap_alloc_self (w.alloc (.map #[] 0)) (.cells #[.int .i64 n, .map (some w.heap.size)] 58); simpa using this,
    (TabM.made w).to (heap_alloc_lt _ (by simp)), h1, h2, by simp; omega⟩, by simp, Nat.le_refl _, ((Fr.same w).alloc _).alloc _⟩
theorem new_no (n : Int) (h : n < 1 ∨ 10000 < n) (w : World) : Calls Try.prog 9 #[.int .i64 n] w fun e w' => e = .returned (.tuple #[.pointer none, .int .i64 1]) ∧ w = w' := by
  rcases h with h | h
  · go_enter Try.func9, Try.ntmps9
    go_wp2_with fail
    go_ret2
    exact ⟨rfl, rfl⟩
  · have h0 : ¬ n < 1 := by omega
    go_enter Try.func9, Try.ntmps9
    go_wp2_with fail
    go_ret2
    exact ⟨rfl, rfl⟩

def GetPost (L : List Row) (k : Key) (w : World) (e : Ending) (w' : World) : Prop := e = .returned (.tuple #[.int .i64 ((getL L k).getD 0), .bool (getL L k).isSome]) ∧ Fr (fun _ => False) w w'
theorem get_nil (k : Key) (w : World) : Calls Try.prog 13 #[.pointer none, keyV k] w fun e w' => e = .returned (.tuple #[.int .i64 0, .bool false]) ∧ Fr (fun _ => False) w w' := by
  unfold keyV
  go_enter Try.func13, Try.ntmps13
  go_wp2_with fail
  go_ret2
  exact ⟨rfl, (Fr.same w).alloc _⟩
theorem get_walk (k : Key) (hk : KeyOK k) (tb mb : Nat) (room : Int) (L : List Row) (w : World) (h : Tbl w tb mb room L) : Calls Try.prog 13 #[.pointer (some ⟨tb, 0, none⟩), keyV k] w (GetPost L k w) := by
  have h1 := h.old ((Fr.same w).alloc (.cells #[.string k.g, .string k.t, .int .i64 k.i] 36))
  have c0 := cell_of h1.cells 0
  have c1 := cell_of h1.cells 1
  have look := fun n => (h1.map.to (w' := (w.alloc (.cells #[.string k.g, .string k.t, .int .i64 k.i] 36)).drewN n) rfl).look hk
  unfold GetPost
  obtain ⟨o, ho⟩ : ∃ o, o = getL L k := ⟨_, rfl⟩
  rw [← ho] at look ⊢
  have H1 := Lib.hid h1
  clear h1 h ho
  unfold keyV at look ⊢
  go_enter Try.func13, Try.ntmps13
  go_wp2_with fail
  go_quiet (fail)
  go_wp2_with fail
  go_ret2
  exact ⟨rfl, ((Fr.same w).alloc _).drewN nq⟩

/-- What Commit answers, and leaves. -/
def commitE (room : Int) (L : List Row) (k : Key) (a : Int) : Int :=
  if mayB k = true ∧ withinB a 0 = true then (if (getL L k).isSome = true ∨ (L.length : Int) < room then 0 else 5) else 1
def commitL (room : Int) (L : List Row) (k : Key) (a : Int) : List Row :=
  if commitE room L k a = 0 then putR L k a else L
theorem may_ok {k : Key} (h : mayB k = true) : KeyOK k := by
  simp [mayB, nameB] at h
  obtain ⟨⟨⟨⟨h1, h2⟩, h3, h4⟩, h5⟩, h6⟩ := h
  exact ⟨by unfold maxLen; omega, by unfold maxLen; omega, by simp [Lit.wf, IntKind.min, IntKind.max, IntKind.signed, IntKind.bits]; omega⟩
theorem within_wf {a : Int} (h : withinB a 0 = true) : (Lit.int .i64 a).wf = true := by
  simp [withinB] at h
  simp [Lit.wf, IntKind.min, IntKind.max, IntKind.signed, IntKind.bits]; omega
def CommitPost (tb mb : Nat) (room : Int) (L : List Row) (k : Key) (a : Int) (w : World) (e : Ending) (w' : World) : Prop :=
  e = .returned (.int .i64 (commitE room L k a)) ∧ Tbl w' tb mb room (commitL room L k a) ∧ Fr (fun i => i = mb) w w'
theorem len_put {L : List Row} (hn : (L.map (·.1)).Nodup) (k : Key) (a : Int) : (putR L k a).length = if (getL L k).isSome = true then L.length else L.length + 1 := by
  have h1 := len_strike hn k
  have h2 : (putR L k a).length = (delL L k).length + 1 := rfl
  rw [h2]
  cases hs : (getL L k).isSome <;> rw [hs] at h1 <;> simp at h1 ⊢ <;> omega

theorem commit_nil (k : Key) (a : Int) (w : World) : Calls Try.prog 10 #[.pointer none, keyV k, .int .i64 a] w fun e w' => e = .returned (.int .i64 1) ∧ Fr (fun _ => False) w w' := by
  unfold keyV
  go_enter Try.func10, Try.ntmps10
  go_wp2_with fail
  go_ret
  exact ⟨rfl, (Fr.same w).alloc _⟩
set_option maxHeartbeats 4000000 in
theorem commit_walk (k : Key) (a : Int) (tb mb : Nat) (room : Int) (L : List Row) (w : World) (h : Tbl w tb mb room L) : Calls Try.prog 10 #[.pointer (some ⟨tb, 0, none⟩), keyV k, .int .i64 a] w (CommitPost tb mb room L k a w) := by
  by_cases hm : mayB k = true
  · by_cases ha : withinB a 0 = true
    · have hk := may_ok hm
      have HM := Lib.hid hm
      have HA := Lib.hid ha
      have HK := Lib.hid hk
      have hr1 := h.room1
      have hr2 := h.room2
      have hln := h.len
      have H := Lib.hid h
      obtain ⟨o, ho⟩ : ∃ o, o = getL L k := ⟨_, rfl⟩
      have HO := Lib.hid ho
      clear hm ha hk h ho
      unfold keyV
      go_enter Try.func10, Try.ntmps10
      go_wp2_with fail
      refine (may_walk k _ HM.out _).mono ?_
      rintro e w2 ⟨rfl, hf⟩
      have hf2 := ((Fr.same w).alloc (.cells #[.string k.g, .string k.t, .int .i64 k.i] 36)).tr hf
      have h2 := H.out.old hf2
      have c2 := hf.cel (cell_alloc_new w #[.string k.g, .string k.t, .int .i64 k.i] 36 0)
      have c3 := hf.cel (cell_alloc_new w #[.string k.g, .string k.t, .int .i64 k.i] 36 1)
      have c4 := hf.cel (cell_alloc_new w #[.string k.g, .string k.t, .int .i64 k.i] 36 2)
      have F2 := Lib.hid hf2
      have H2 := Lib.hid h2
      have hlt := hf.size
      simp at hlt
      clear hf hf2 h2
      go_wp2_with (go_at_call 20; refine (within_walk _ _ _ HA.out _).mono ?_; rintro e w' ⟨rfl, rfl⟩)
      have c0 := cell_of H2.out.cells 0
      have c1 := cell_of H2.out.cells 1
      have look := fun n => (H2.out.map.to (w' := w2.drewN n) rfl).look HK.out
      rw [← HO.out] at look
      unfold keyV at look
      have hlen := fun n => (H2.out.map.to (w' := w2.drewN n) rfl).len 3
      have HW := Lib.hid (within_wf HA.out)
      cases o with
      | some x =>
        simp only [Option.getD_some, Option.isSome_some] at look
        go_quiet (fail)
        clear look
        go_wp2_with fail
        go_quiet (fail)
        go_wp2_with fail
        have x0 : ∀ x : Lcl.InS (fun w' => Fr (fun _ => False) w2 w'), x.w.cell? ⟨tb, 1, none⟩ = some (.map (some mb)) := fun x => x.h.cel c1
        have x2 : ∀ x : Lcl.InS (fun w' => Fr (fun _ => False) w2 w'), x.w.cell? ⟨w.heap.size, 0, none⟩ = some (.string k.g) := fun x => x.h.cel c2
        have x3 : ∀ x : Lcl.InS (fun w' => Fr (fun _ => False) w2 w'), x.w.cell? ⟨w.heap.size, 1, none⟩ = some (.string k.t) := fun x => x.h.cel c3
        have x4 : ∀ x : Lcl.InS (fun w' => Fr (fun _ => False) w2 w'), x.w.cell? ⟨w.heap.size, 2, none⟩ = some (.int .i64 k.i) := fun x => x.h.cel c4
        refine Lcl.wp_region_calm (by kernel_rfl) [(true, [0, 1, 2, 5]), (false, [3, 4])] #[0, 1, 3, 7, 0, 0, 63] [0, 1, 2, 3, 4, 5] 1 #[true, true, true, true, true, true, false] (by kernel_rfl) (by kernel_rfl) (by kernel_rfl) (fun w' => Fr (fun _ => False) w2 w') (((Fr.same w2).drewN _).drewN _).drew (fun d c a v w h => by cases d <;> exact h) ?_
        simp only [Lcl.opsOf, List.map_cons, List.map_nil, List.getElem?_toArray, List.getElem?_cons_succ, List.getElem?_cons_zero, Option.getD_some]
        refine Lcl.wpCalm_t ?_
        repeat (go_big_quiet_step (rfl))
        refine wpQuiet_nil ?_
        refine Lcl.wpCalm_f ?_
        repeat (go_big_quiet_step (rfl))
        refine wpQuiet_nil ?_
        refine Lcl.wpCalm_nil ?_
        clear x0 x2 x3 x4
        refine Lcl.wpG_run [6] _ _ _ (by kernel_rfl) ?_
        simp only [List.map_cons, List.map_nil, List.getElem?_toArray, List.getElem?_cons_succ, List.getElem?_cons_zero, Option.getD_some]
        refine wpList_put _ rfl _ _ _ rfl mb L rfl (H2.out.map.to rfl) (by omega) k rfl HK.out a rfl HW.out ?_
        intro w5 ht5 hg5
        have hf5 : Fr (fun i => i = mb) w2 w5 := Fr.grown (((Fr.refl _ w2).drewN _).drewN _).drew hg5 fun i e => by cases e; exact .inl rfl
        have hc5 : w5.heap[tb]? = some (.cells #[.int .i64 room, .map (some mb)] 58 (0, 0)) := (hf5.block tb H2.out.lt.1 H2.out.ne).trans H2.out.cells
        have T5 := Lib.hid ht5
        have F5 := Lib.hid hf5
        have C5 := Lib.hid hc5
        clear ht5 hg5 hf5 hc5
        go_wp2_with fail
        go_ret
        have hE : commitE room L k a = 0 := by unfold commitE; rw [if_pos ⟨HM.out, HA.out⟩, if_pos (.inl (by rw [← HO.out]; rfl))]
        have hL : commitL room L k a = putR L k a := by unfold commitL; rw [if_pos hE]
        refine ⟨by rw [hE]; rfl, ?_, (F2.out.mono fun i e => e.elim).trans F5.out fun i e => .inl e⟩
        rw [hL]
        refine ⟨C5.out, T5.out, hr1, hr2, ?_⟩
        rw [len_put H2.out.map.1.nodup, ← HO.out]
        simpa using hln
      | none =>
        simp only [Option.getD_none, Option.isSome_none] at look
        by_cases hfull : (L.length : Int) < room
        · have hd : decide (room ≤ (L.length : Int)) = false := by simp; omega
          go_quiet (fail)
          clear look
          go_wp2_with fail
          go_quiet (fail)
          clear hlen
          go_wp2_with fail
          have x0 : ∀ x : Lcl.InS (fun w' => Fr (fun _ => False) w2 w'), x.w.cell? ⟨tb, 1, none⟩ = some (.map (some mb)) := fun x => x.h.cel c1
          have x2 : ∀ x : Lcl.InS (fun w' => Fr (fun _ => False) w2 w'), x.w.cell? ⟨w.heap.size, 0, none⟩ = some (.string k.g) := fun x => x.h.cel c2
          have x3 : ∀ x : Lcl.InS (fun w' => Fr (fun _ => False) w2 w'), x.w.cell? ⟨w.heap.size, 1, none⟩ = some (.string k.t) := fun x => x.h.cel c3
          have x4 : ∀ x : Lcl.InS (fun w' => Fr (fun _ => False) w2 w'), x.w.cell? ⟨w.heap.size, 2, none⟩ = some (.int .i64 k.i) := fun x => x.h.cel c4
          refine Lcl.wp_region_calm (by kernel_rfl) [(true, [0, 1, 2, 5]), (false, [3, 4])] #[0, 1, 3, 7, 0, 0, 63] [0, 1, 2, 3, 4, 5] 1 #[true, true, true, true, true, true, false] (by kernel_rfl) (by kernel_rfl) (by kernel_rfl) (fun w' => Fr (fun _ => False) w2 w') (((Fr.same w2).drewN _).drewN _).drew (fun d c a v w h => by cases d <;> exact h) ?_
          simp only [Lcl.opsOf, List.map_cons, List.map_nil, List.getElem?_toArray, List.getElem?_cons_succ, List.getElem?_cons_zero, Option.getD_some]
          refine Lcl.wpCalm_t ?_
          repeat (go_big_quiet_step (rfl))
          refine wpQuiet_nil ?_
          refine Lcl.wpCalm_f ?_
          repeat (go_big_quiet_step (rfl))
          refine wpQuiet_nil ?_
          refine Lcl.wpCalm_nil ?_
          clear x0 x2 x3 x4
          refine Lcl.wpG_run [6] _ _ _ (by kernel_rfl) ?_
          simp only [List.map_cons, List.map_nil, List.getElem?_toArray, List.getElem?_cons_succ, List.getElem?_cons_zero, Option.getD_some]
          refine wpList_put _ rfl _ _ _ rfl mb L rfl (H2.out.map.to rfl) (by omega) k rfl HK.out a rfl HW.out ?_
          intro w5 ht5 hg5
          have hf5 : Fr (fun i => i = mb) w2 w5 := Fr.grown (((Fr.refl _ w2).drewN _).drewN _).drew hg5 fun i e => by cases e; exact .inl rfl
          have hc5 : w5.heap[tb]? = some (.cells #[.int .i64 room, .map (some mb)] 58 (0, 0)) := (hf5.block tb H2.out.lt.1 H2.out.ne).trans H2.out.cells
          have T5 := Lib.hid ht5
          have F5 := Lib.hid hf5
          have C5 := Lib.hid hc5
          clear ht5 hg5 hf5 hc5
          go_wp2_with fail
          go_ret
          have hE : commitE room L k a = 0 := by unfold commitE; rw [if_pos ⟨HM.out, HA.out⟩, if_pos (.inr hfull)]
          have hL : commitL room L k a = putR L k a := by unfold commitL; rw [if_pos hE]
          refine ⟨by rw [hE]; rfl, ?_, (F2.out.mono fun i e => e.elim).trans F5.out fun i e => .inl e⟩
          rw [hL]
          refine ⟨C5.out, T5.out, hr1, hr2, ?_⟩
          rw [len_put H2.out.map.1.nodup, ← HO.out]
          simp; omega
        · have hd : decide (room ≤ (L.length : Int)) = true := by simp; omega
          go_quiet (fail)
          clear look
          go_wp2_with fail
          go_quiet (fail)
          clear hlen
          go_wp2_with fail
          go_ret
          have hE : commitE room L k a = 5 := by unfold commitE; rw [if_pos ⟨HM.out, HA.out⟩, if_neg (by rw [← HO.out]; simp; omega)]
          have hL : commitL room L k a = L := by unfold commitL; rw [if_neg (by rw [hE]; decide)]
          refine ⟨by rw [hE]; rfl, ?_, (F2.out.drewN _).drewN _ |>.mono fun i e => e.elim⟩
          rw [hL]
          exact H2.out.to rfl rfl
    · have hE : commitE room L k a = 1 := by unfold commitE; rw [if_neg (fun e => ha e.2)]
      have hL : commitL room L k a = L := by unfold commitL; rw [if_neg (by rw [hE]; decide)]
      unfold CommitPost
      rw [hE, hL]
      have ha : withinB a 0 = false := by simpa using ha
      have HM := Lib.hid hm
      have HA := Lib.hid ha
      have H := Lib.hid h
      clear hm ha h hE hL
      unfold keyV
      go_enter Try.func10, Try.ntmps10
      go_wp2_with fail
      refine (may_walk k _ HM.out _).mono ?_
      rintro e w2 ⟨rfl, hf⟩
      have hf2 := ((Fr.same w).alloc (.cells #[.string k.g, .string k.t, .int .i64 k.i] 36)).tr hf
      have F2 := Lib.hid hf2
      clear hf hf2
      go_wp2_with (go_at_call 20; refine (within_walk _ _ _ HA.out _).mono ?_; rintro e w' ⟨rfl, rfl⟩)
      go_ret
      exact ⟨rfl, H.out.old F2.out, F2.out.mono fun i e => e.elim⟩
  · have hE : commitE room L k a = 1 := by unfold commitE; rw [if_neg (fun e => hm e.1)]
    have hL : commitL room L k a = L := by unfold commitL; rw [if_neg (by rw [hE]; decide)]
    unfold CommitPost
    rw [hE, hL]
    have hm : mayB k = false := by simpa using hm
    have HM := Lib.hid hm
    have H := Lib.hid h
    clear hm h hE hL
    unfold keyV
    go_enter Try.func10, Try.ntmps10
    go_wp2_with fail
    refine (may_walk k _ HM.out _).mono ?_
    rintro e w2 ⟨rfl, hf⟩
    have hf2 := ((Fr.same w).alloc (.cells #[.string k.g, .string k.t, .int .i64 k.i] 36)).tr hf
    have F2 := Lib.hid hf2
    clear hf hf2
    go_wp2_with fail
    go_ret
    exact ⟨rfl, H.out.old F2.out, F2.out.mono fun i e => e.elim⟩
end Go.Proofs.Ytdgdhegbcjimbaa
