/- OffsetsLast: the walk. -/
import Derived.Test.YtdgdhegbcjimbaaR3
namespace Go.Proofs.Ytdgdhegbcjimbaa
open Go.RowKit Go.Fm Go.BigFrame
set_option linter.unusedVariables false
set_option linter.unusedSimpArgs false

theorem entry_walk' (g t : ByteArray) (i a tm : Int) (w : World) : Calls Try.prog 11 #[.agg #[.string g, .string t, .int .i64 i], .int .i64 a, .int .i64 tm] w fun e w' => e = .returned (.tuple #[recV (entS ⟨g, t, i⟩ a tm).1 (.slice none 0 0), .int .i64 (entS ⟨g, t, i⟩ a tm).2]) ∧ Fr (fun _ => False) w w' := entry_walk ⟨g, t, i⟩ a tm w
theorem put_len_le (L : List Row) (k : Key) (a : Int) : (putR L k a).length ≤ L.length + 1 := by
  unfold putR
  have := List.length_filter_le (fun r : Row => decide (r.1 ≠ k)) L
  simp only [List.length_cons]
  omega
theorem textS_le {s : ByteArray} (h : s.size ≤ 100) : (textS s).size ≤ 110 := by have := textS_size (s := s) (by omega); omega
theorem keyS_le {k : Key} (h : mayB k = true) : (keyS k).size ≤ maxLen := by
  have hk := may_ok h
  simp [mayB, nameB] at h
  obtain ⟨⟨⟨⟨h1, h2⟩, h3, h4⟩, h5⟩, h6⟩ := h
  have e1 := textS_le h2
  have e2 := textS_le h4
  have e3 := putS_size hk.i
  unfold keyS maxLen
  rw [ByteArray.size_append, ByteArray.size_append]
  omega
theorem apply_ent {k : Key} {a tm : Int} {L : List Row} (tb mb : Nat) (w : World) (h : entB k a tm = true) (ha : a ≠ -1) (hE : commitE 100 L k a = 0) (ht : Tbl w tb mb 100 L) :
    Calls Try.prog 12 #[.pointer (some ⟨tb, 0, none⟩), recV (entR k a tm) (.slice none 0 0)] w fun e w' => e = .returned (.int .i64 0) ∧ Tbl w' tb mb 100 (putR L k a) ∧ Fr (fun i => i = mb) w w' := by
  have hm : mayB k = true ∧ withinB a (-1) = true := by simp only [entB, Bool.and_eq_true] at h; exact h.1
  have hw : withinB a (-1) = true := hm.2
  have hwf : (Lit.int .i64 a).wf = true := by simp [withinB] at hw; simp [Lit.wf, IntKind.min, IntKind.max, IntKind.signed, IntKind.bits]; omega
  have hv : (entR k a tm).val.size ≤ maxLen := by
    have e : (entR k a tm).val = putS a := by simp [entR, ha]
    rw [e]
    have := putS_size hwf
    unfold maxLen; omega
  have hg : (entR k a tm).gone = false := by simp [entR, ha]
  have := apply_walk (entR k a tm) none 0 0 tb mb 100 L w (keyS_le hm.1) hv ht
  unfold ApplyPost at this
  have e1 : applyE 100 L (entR k a tm) 0 = 0 := by unfold applyE; rw [keep_entR h ha, if_pos rfl, hg, if_neg (by decide)]; exact hE
  have e2 : applyL 100 L (entR k a tm) 0 = putR L k a := by unfold applyL; rw [keep_entR h ha, if_pos rfl, hg, if_neg (by decide)]; unfold commitL; rw [if_pos hE]
  rw [e1, e2] at this
  exact this
set_option maxRecDepth 100000 in
set_option maxHeartbeats 32000000 in
theorem last_walk (oa : Option Addr) (cap : Nat) (l : List Opn) (w : World) (h : OpsR w oa l) : Calls Try.prog 3 #[.slice oa l.length cap] w (TruePost w) := by
  have H := Lib.hid h
  clear h
  go_enter Try.func3, Try.ntmps3
  go_wp2_with fail
  · refine (live_walk _).mono ?_
    rintro e w1 ⟨rfl, hf1⟩
    go_wp2_with fail
    go_ret
    exact ⟨rfl, hf1⟩
  · refine (new_yes 100 (by decide) (by decide) _).mono ?_
    rintro e w1 ⟨ta, ma, rfl, ht1, l1, l2, hf1⟩
    have HTA := Lib.hid ht1
    have HF1 := Lib.hid hf1
    clear ht1 hf1
    go_wp2_with fail
    refine (new_yes 100 (by decide) (by decide) _).mono ?_
    rintro e w2 ⟨tb, mb, rfl, ht1, l3, l4, hf1⟩
    have HTA2 := Lib.hid (HTA.out.old hf1)
    have HF2 := Lib.hid (HF1.out.tr hf1)
    have HTB := Lib.hid ht1
    have s1 := HF1.out.size
    have s2 := HTA.out.lt
    have n1 : ta ≠ mb := by omega
    have n2 : ma ≠ mb := by omega
    have n3 : tb ≠ ma := by omega
    have n4 : mb ≠ ma := by omega
    clear ht1 hf1 HTA HF1
    go_wp2_with fail
    go_loopw [7] (fun i wr => ∃ (k : Nat) (L : List Row), i = .int .i64 k ∧ k ≤ l.length ∧ L.length ≤ k ∧ Tbl wr ta ma 100 L ∧ Tbl wr tb mb 100 L ∧ Fr (fun _ => False) w wr) (fun i _ => l.length - (intOf i).toNat)
    case atStart => exact ⟨0, [], rfl, Nat.zero_le _, Nat.zero_le _, HTA2.out, HTB.out, HF2.out⟩
    case round =>
      obtain ⟨k, L, rfl, hk, hL, hta, htb, hf⟩ := hrel
      have TA := Lib.hid hta
      have TB := Lib.hid htb
      have F := Lib.hid hf
      clear hta htb hf
      rcases Nat.lt_or_ge k l.length with hlt | hge
      · obtain ⟨x, hx⟩ := get_of_lt hlt
        obtain ⟨a, rfl, hop, hok⟩ := H.out k x hx
        have hop1 := hop.old F.out
        have OP1 := Lib.hid hop1
        have HOK := Lib.hid hok
        have x1 : ∀ y : Lcl.InS (fun w' => Fr (fun _ => False) wr w'), y.w.cell? ⟨(a.add (k * 12)).block, (a.add (k * 12)).off + 1, none⟩ = some (.string x.o.g) := fun y => y.h.cel hop1.c1
        have x2 : ∀ y : Lcl.InS (fun w' => Fr (fun _ => False) wr w'), y.w.cell? ⟨(a.add (k * 12)).block, (a.add (k * 12)).off + 2, none⟩ = some (.string x.o.t) := fun y => y.h.cel hop1.c2
        have x3 : ∀ y : Lcl.InS (fun w' => Fr (fun _ => False) wr w'), y.w.cell? ⟨(a.add (k * 12)).block, (a.add (k * 12)).off + 3, none⟩ = some (.int .i64 x.o.i) := fun y => y.h.cel hop1.c3
        clear hop hop1 hok
        go_wp2_with fail
        refine Lcl.wp_region_calm (by kernel_rfl) [(true, [0, 1, 2, 3, 5, 6, 7, 8]), (false, [4, 9]), (true, [10])] #[0, 0, 3, 7, 15, 0, 0, 96, 224, 480, 1023, 0, 4095] [0, 1, 2, 3, 4, 5, 6, 7, 8, 9, 11] 2 #[true, true, true, true, true, true, true, true, true, true, true, false, false] (by kernel_rfl) (by kernel_rfl) (by kernel_rfl) (fun w' => Fr (fun _ => False) wr w') (Fr.same wr).drew (fun d c a v w h => by cases d <;> exact h) ?_
        simp only [Lcl.opsOf, List.map_cons, List.map_nil, List.getElem?_toArray, List.getElem?_cons_succ, List.getElem?_cons_zero, Option.getD_some]
        refine Lcl.wpCalm_t ?_
        repeat (go_big_quiet_step (rfl))
        refine wpQuiet_nil ?_
        refine Lcl.wpCalm_f ?_
        repeat (go_big_quiet_step (rfl))
        refine wpQuiet_nil ?_
        refine Lcl.wpCalm_t ?_
        repeat (go_big_quiet_step (rfl))
        refine wpQuiet_nil ?_
        refine Lcl.wpCalm_nil ?_
        clear x1 x2 x3
        refine Lcl.wpG_one 11 rfl (by kernel_rfl) ?_
        go_wp2_with fail
        refine ⟨fun _ h => h.alloc _, ?_⟩
        refine Lcl.wpG_run [12] _ _ _ (by kernel_rfl) ?_
        simp only [List.map_cons, List.map_nil, List.getElem?_toArray, List.getElem?_cons_succ, List.getElem?_cons_zero, Option.getD_some]
        go_wp2_with fail
        have fa := ((Fr.same wr).alloc (.cells #[.string x.o.g, .string x.o.t, .int .i64 x.o.i] 36)).drew
        have hb : (wr.alloc (.cells #[.string x.o.g, .string x.o.t, .int .i64 x.o.i] 36)).drew.heap[wr.heap.size]? = some (.cells #[.string x.o.g, .string x.o.t, .int .i64 x.o.i] 36 (0, 0)) := heap_alloc_self wr _
        have m1 : wr.heap.size ≠ ma := by have := TA.out.lt; omega
        have m2 : wr.heap.size ≠ mb := by have := TB.out.lt; omega
        generalize (wr.alloc (.cells #[.string x.o.g, .string x.o.t, .int .i64 x.o.i] 36)).drew = w3 at *
        have TA3 := Lib.hid (TA.out.old fa)
        have TB3 := Lib.hid (TB.out.old fa)
        have F3 := Lib.hid (F.out.tr fa)
        have HB3 := Lib.hid hb
        have OP3 := Lib.hid (OP1.out.old fa)
        generalize wr.heap.size = b0 at *
        have x0 : ∀ y : Lcl.InS (fun w' => Fr (fun _ => False) w3 w'), y.w.cell? ⟨b0, 0, none⟩ = some (.string x.o.g) := fun y => y.h.cel ((cell_of hb 0).trans rfl)
        have x1 : ∀ y : Lcl.InS (fun w' => Fr (fun _ => False) w3 w'), y.w.cell? ⟨b0, 1, none⟩ = some (.string x.o.t) := fun y => y.h.cel ((cell_of hb 1).trans rfl)
        have x2 : ∀ y : Lcl.InS (fun w' => Fr (fun _ => False) w3 w'), y.w.cell? ⟨b0, 2, none⟩ = some (.int .i64 x.o.i) := fun y => y.h.cel ((cell_of hb 2).trans rfl)
        have x4 : ∀ y : Lcl.InS (fun w' => Fr (fun _ => False) w3 w'), y.w.cell? ⟨(a.add (k * 12)).block, (a.add (k * 12)).off + 4, none⟩ = some (.int .i64 x.o.a) := fun y => y.h.cel OP3.out.c4
        clear fa hb TA TB F OP1
        refine Lcl.wp_region_calm (by kernel_rfl) [(true, [0, 2, 3, 4, 5]), (false, [1, 6])] #[0, 0, 0, 0, 12, 28, 60, 127, 255] [0, 1, 2, 3, 4, 5, 6] 2 #[true, true, true, true, true, true, true, false, false] (by kernel_rfl) (by kernel_rfl) (by kernel_rfl) (fun w' => Fr (fun _ => False) w3 w') (Fr.same w3).drew (fun d c a v w h => by cases d <;> exact h) ?_
        simp only [Lcl.opsOf, List.map_cons, List.map_nil, List.getElem?_toArray, List.getElem?_cons_succ, List.getElem?_cons_zero, Option.getD_some]
        refine Lcl.wpCalm_t ?_
        repeat (go_big_quiet_step (rfl))
        refine wpQuiet_nil ?_
        refine Lcl.wpCalm_f ?_
        repeat (go_big_quiet_step (rfl))
        refine wpQuiet_nil ?_
        refine Lcl.wpCalm_nil ?_
        clear x0 x1 x2 x4
        refine Lcl.wpG_run [7, 8] _ _ _ (by kernel_rfl) ?_
        simp only [List.map_cons, List.map_nil, List.getElem?_toArray, List.getElem?_cons_succ, List.getElem?_cons_zero, Option.getD_some]
        go_wp2_with fail
        refine (commit_walk' _ _ _ _ ta ma 100 L w3.drew (TA3.out.to rfl rfl)).mono ?_
        rintro e w4 ⟨rfl, hta4, hf4⟩
        have TA4 := Lib.hid hta4
        have TB4 := Lib.hid ((TB3.out.to (w' := w3.drew) rfl rfl).fr hf4 n3 n4)
        have F4 := Lib.hid (F3.out.drew.trans hf4 fun i e => .inr (by omega))
        have hb4 := (hf4.block b0 (lt_of_heap HB3.out) m1).trans HB3.out
        have HB4 := Lib.hid hb4
        obtain ⟨a', ha', hop4, -⟩ := H.out k x hx
        have haa : a' = a := by injection ha' with h; exact h.symm
        subst haa
        have OP4 := Lib.hid (hop4.old F4.out)
        clear hta4 hf4 hop4 ha' TA3 TB3 F3 HB3 OP3
        clear hb4
        go_wp2_with fail
        obtain ⟨R, hR⟩ : ∃ R, Hid (R = entS ⟨x.o.g, x.o.t, x.o.i⟩ x.o.a k) := ⟨_, Lib.hid rfl⟩
        apply Lcl.region_common (F := fun b w' => w4.heap.size ≤ b ∧ w'.heap[b]? = some (.cells #[.int .i64 R.1.at', .int .i64 R.1.tm, .bool R.1.bare, .string R.1.key, .bool R.1.gone, .string R.1.val, .slice none 0 0] 32 (0, 0)) ∧ Fr (fun _ => False) w4 w')
        case hr =>
          have x0 : ∀ y : Lcl.InS (fun w' => Fr (fun _ => False) w4 w'), y.w.cell? ⟨b0, 0, none⟩ = some (.string x.o.g) := fun y => y.h.cel ((cell_of HB4.out 0).trans rfl)
          have x1 : ∀ y : Lcl.InS (fun w' => Fr (fun _ => False) w4 w'), y.w.cell? ⟨b0, 1, none⟩ = some (.string x.o.t) := fun y => y.h.cel ((cell_of HB4.out 1).trans rfl)
          have x2 : ∀ y : Lcl.InS (fun w' => Fr (fun _ => False) w4 w'), y.w.cell? ⟨b0, 2, none⟩ = some (.int .i64 x.o.i) := fun y => y.h.cel ((cell_of HB4.out 2).trans rfl)
          have x4 : ∀ y : Lcl.InS (fun w' => Fr (fun _ => False) w4 w'), y.w.cell? ⟨(a'.add (k * 12)).block, (a'.add (k * 12)).off + 4, none⟩ = some (.int .i64 x.o.a) := fun y => y.h.cel OP4.out.c4
          refine Lcl.wp_region_calm (by kernel_rfl) [(true, [1, 2, 3, 4, 6]), (false, [0, 5])] #[0, 0, 0, 6, 14, 30, 0, 127, 255, 511, 511, 0, 3071, 8191] [0, 1, 2, 3, 4, 5, 6, 11] 7 #[true, true, true, true, true, true, true, false, false, false, false, false, false, false] (by kernel_rfl) (by kernel_rfl) (by kernel_rfl) (fun w' => Fr (fun _ => False) w4 w') (Fr.same w4).drew (fun d c a v w h => by cases h.1) ?_
          simp only [Lcl.opsOf, List.map_cons, List.map_nil, List.getElem?_toArray, List.getElem?_cons_succ, List.getElem?_cons_zero, Option.getD_some]
          refine Lcl.wpCalm_t ?_
          repeat (go_big_quiet_step (rfl))
          refine wpQuiet_nil ?_
          refine Lcl.wpCalm_f ?_
          repeat (go_big_quiet_step (rfl))
          refine wpQuiet_nil ?_
          refine Lcl.wpCalm_nil ?_
          clear x0 x1 x2 x4
          refine Lcl.wpG_two 7 11 rfl rfl (by kernel_rfl) ?_ ?_
          · go_wp2_with fail
            refine (entry_walk' _ _ _ _ _ _).mono ?_
            rintro e w5 ⟨rfl, hf5⟩
            rw [show entS ⟨x.o.g, x.o.t, x.o.i⟩ x.o.a k = R from hR.out.symm]
            go_wp2_with fail
            refine ⟨fun h => absurd h (by decide), ?_⟩
            refine Lcl.wpG_calm (m := #[0, 0, 0, 6, 14, 30, 0, 127, 255, 511, 511, 0, 3071, 8191]) (needs := [0, 1, 2, 3, 4, 5, 6, 11]) (fuel := 3) (by kernel_rfl) ?hq ((Fr.same w4).drew.tr hf5) [(true, [8, 9, 10])] _ _ ?k1 ?k2 ?k3 ?k4
            case hq => exact fun d c a v w h => by cases h.1
            case k1 => kernel_rfl
            case k2 => rfl
            case k3 => kernel_rfl
            simp only [Lcl.opsOf, List.map_cons, List.map_nil, List.getElem?_toArray, List.getElem?_cons_succ, List.getElem?_cons_zero, Option.getD_some]
            refine Lcl.wpCalm_t ?_
            repeat (go_big_quiet_step (rfl))
            refine wpQuiet_nil ?_
            refine Lcl.wpCalm_nil ?_
            refine Lcl.wpG_one 11 rfl (by kernel_rfl) ?_
            go_wp2_with fail
            refine ⟨fun _ h => h.alloc _, ?_⟩
            refine Lcl.wpG_run [12, 13] _ _ _ (by kernel_rfl) ?_
            simp only [List.map_cons, List.map_nil, List.getElem?_toArray, List.getElem?_cons_succ, List.getElem?_cons_zero, Option.getD_some]
            unfold recV
            go_wp2_with fail
            have hsz := hf5.size
            obtain ⟨b, hb⟩ : ∃ b, b = w5.heap.size := ⟨_, rfl⟩
            rw [← hb]
            exact ⟨b, rfl, (by rw [hb]; exact hsz), (by rw [hb]; exact heap_alloc_self w5 _), ((Fr.same w4).drew.tr hf5).alloc _⟩
          · go_wp2_with fail
            refine ⟨fun _ h => h.alloc _, ?_⟩
            have hza := heap_alloc_self w4 (.cells #[.int .i64 0, .int .i64 0, .bool false, .string ⟨#[]⟩, .bool false, .string ⟨#[]⟩, .slice none 0 0] 32)
            have hfa := (Fr.same w4).drew.alloc (.cells #[.int .i64 0, .int .i64 0, .bool false, .string ⟨#[]⟩, .bool false, .string ⟨#[]⟩, .slice none 0 0] 32)
            refine Lcl.wpG_one 7 rfl (by kernel_rfl) ?_
            go_wp2_with fail
            refine (entry_walk' _ _ _ _ _ _).mono ?_
            rintro e w5 ⟨rfl, hf5⟩
            rw [show entS ⟨x.o.g, x.o.t, x.o.i⟩ x.o.a k = R from hR.out.symm]
            go_wp2_with fail
            refine ⟨fun h => absurd h (by decide), ?_⟩
            refine Lcl.wpG_calm (m := #[0, 0, 0, 6, 14, 30, 0, 127, 255, 511, 511, 0, 3071, 8191]) (needs := [0, 1, 2, 3, 4, 5, 6, 11]) (fuel := 2) (by kernel_rfl) ?hqb (hfa.tr hf5) [(true, [8, 9, 10])] _ _ ?k1b ?k2b ?k3b ?k4b
            case hqb => exact fun d c a v w h => by cases h.1
            case k1b => kernel_rfl
            case k2b => rfl
            case k3b => kernel_rfl
            simp only [Lcl.opsOf, List.map_cons, List.map_nil, List.getElem?_toArray, List.getElem?_cons_succ, List.getElem?_cons_zero, Option.getD_some]
            refine Lcl.wpCalm_t ?_
            repeat (go_big_quiet_step (rfl))
            refine wpQuiet_nil ?_
            refine Lcl.wpCalm_nil ?_
            refine Lcl.wpG_run [12, 13] _ _ _ (by kernel_rfl) ?_
            simp only [List.map_cons, List.map_nil, List.getElem?_toArray, List.getElem?_cons_succ, List.getElem?_cons_zero, Option.getD_some]
            unfold recV
            have hb5 : w5.heap[w4.heap.size]? = some (.cells #[.int .i64 0, .int .i64 0, .bool false, .string ⟨#[]⟩, .bool false, .string ⟨#[]⟩, .slice none 0 0] 32 (0, 0)) := (hf5.block _ (by simp) fun h => h).trans (heap_alloc_self w4.drew _)
            refine wpList_store_all rfl 32 (.tmp 10) (.tmp 81) rfl w4.heap.size rfl 32 _ (.agg #[.int .i64 R.1.at', .int .i64 R.1.tm, .bool R.1.bare, .string R.1.key, .bool R.1.gone, .string R.1.val, .slice none 0 0]) rfl hb5 rfl (by kernel_rfl) rfl ?_
            intro w6 hb6 hg6
            dsimp only [Value.cells] at hb6
            have hf6 : Fr (fun _ => False) w4 w6 := (hfa.tr hf5).grown hg6 fun i e => by cases e; exact .inr (Nat.le_refl _)
            clear hza
            obtain ⟨b, hb⟩ : ∃ b, b = w4.heap.size := ⟨_, rfl⟩
            rw [← hb] at hb6 ⊢
            go_wp2_with fail
            rw [hb] at hb6
            exact hb6
        case h =>
          rintro b w5 ⟨hbge, hb5, hf5⟩
          have TA5 := Lib.hid (TA4.out.old hf5)
          have TB5 := Lib.hid (TB4.out.old hf5)
          have F5 := Lib.hid (F4.out.tr hf5)
          have OP5 := Lib.hid (OP4.out.old hf5)
          have HK5 := Lib.hid ((hf5.block _ (lt_of_heap HB4.out) fun h => h).trans HB4.out)
          have HR5 := Lib.hid hb5
          have nb : b ≠ mb := by have := TB4.out.lt; omega
          have c4 := OP5.out.c4
          have hk60 : k < 60 := by omega
          clear hb5 hf5 TA4 TB4 F4 OP4 HB4
          by_cases ha : x.o.a = -1
          · obtain ⟨q1, q2⟩ := commit_out (room := 100) (L := L) (k := ⟨x.o.g, x.o.t, x.o.i⟩)
            have TA6 := TA5.out
            rw [ha, q2] at TA6
            have T6 := Lib.hid TA6
            rw [ha] at c4
            rw [ha]
            clear TA6 TA5 q1 q2 ha
            go_wp2_with fail
            go_roundw
            case rel => exact ⟨k + 1, L, by simp [wrap64], hlt, by omega, T6.out, TB5.out, F5.out⟩
            case measure => simp [intOf]; omega
          · rcases commit_entry (k := ⟨x.o.g, x.o.t, x.o.i⟩) hk60 hL ha with ⟨h1, h2, h3⟩ | ⟨h1, h2, h3⟩
            · have hR2 : R = (entR ⟨x.o.g, x.o.t, x.o.i⟩ x.o.a k, 0) := by rw [hR.out]; unfold entS; rw [if_pos h1]
              have hko := (may_ok (k := ⟨x.o.g, x.o.t, x.o.i⟩) (by simp only [entB, Bool.and_eq_true] at h1; exact h1.1.1))
              have AP := Lib.hid (fun w ht => apply_ent (k := ⟨x.o.g, x.o.t, x.o.i⟩) (a := x.o.a) (tm := k) (L := L) tb mb w h1 ha h2 ht)
              have GW := Lib.hid (fun L w' h => get_walk' ⟨x.o.g, x.o.t, x.o.i⟩ hko tb mb 100 L w' h)
              have T6 := TA5.out
              rw [h3] at T6
              have TA6 := Lib.hid T6
              clear TA5 T6 h1 h3
              subst hR2
              clear hR
              have r0 := (cell_of HR5.out 0).trans rfl
              have r1 := (cell_of HR5.out 1).trans rfl
              have r2 := (cell_of HR5.out 2).trans rfl
              have r3 := (cell_of HR5.out 3).trans rfl
              have r4 := (cell_of HR5.out 4).trans rfl
              have r5 := (cell_of HR5.out 5).trans rfl
              have r6 := (cell_of HR5.out 6).trans rfl
              simp at r0 r1 r2 r3 r4 r5 r6
              unfold recV at AP
              generalize entR ⟨x.o.g, x.o.t, x.o.i⟩ x.o.a k = E at *
              go_wp2_with fail
              refine (AP.out _ TB5.out).mono ?_
              rintro e w6 ⟨rfl, htb6, hf6⟩
              have TB6 := Lib.hid htb6
              have TA7 := Lib.hid (TA6.out.fr hf6 n1 n2)
              have F6 := Lib.hid (F5.out.trans hf6 fun i e => .inr (by omega))
              have hk6 := (hf6.block b0 (lt_of_heap HK5.out) m2).trans HK5.out
              have k0 := (cell_of hk6 0).trans rfl
              have k1 := (cell_of hk6 1).trans rfl
              have k2 := (cell_of hk6 2).trans rfl
              simp at k0 k1 k2
              have GW2 := GW.out _ w6 TB6.out
              unfold GetPost at GW2
              rw [getL_put, if_pos rfl] at GW2
              simp only [Option.getD_some, Option.isSome_some] at GW2
              have GW3 := Lib.hid GW2
              clear GW GW2 AP htb6 hf6 hk6 r0 r1 r2 r3 r4 r5 r6 c4 TA6 TB5 F5 OP5 HK5 HR5
              go_wp2_with fail
              refine GW3.out.mono ?_
              rintro e w7 ⟨rfl, hf7⟩
              have F7 := Lib.hid (F6.out.tr hf7)
              have TA8 := Lib.hid (TA7.out.old hf7)
              have TB8 := Lib.hid (TB6.out.old hf7)
              obtain ⟨a2, ha2, hop7, -⟩ := H.out k x hx
              have haa : a2 = a' := by injection ha2 with h; exact h.symm
              subst haa
              have c4 := (hop7.old F7.out).c4
              clear hop7 ha2 hf7 k0 k1 k2 GW3 F6 TA7 TB6
              go_wp2_with fail
              go_roundw
              case rel => exact ⟨k + 1, _, by simp [wrap64], hlt, (Nat.le_trans (put_len_le _ _ _) (by omega)), TA8.out, TB8.out, F7.out⟩
              case measure => simp [intOf]; omega
            · have hR2 : R = (zRec, 1) := by rw [hR.out]; unfold entS; rw [if_neg (by rw [h1]; decide)]
              have hko : KeyOK ⟨x.o.g, x.o.t, x.o.i⟩ := ⟨HOK.out.g, HOK.out.t, HOK.out.i⟩
              have GW := Lib.hid (fun L w' h => get_walk' ⟨x.o.g, x.o.t, x.o.i⟩ hko tb mb 100 L w' h)
              have T6 := TA5.out
              rw [h3] at T6
              have TA6 := Lib.hid T6
              clear TA5 T6 h1 h3
              subst hR2
              clear hR
              have k0 := (cell_of HK5.out 0).trans rfl
              have k1 := (cell_of HK5.out 1).trans rfl
              have k2 := (cell_of HK5.out 2).trans rfl
              simp at k0 k1 k2
              go_wp2_with fail
              refine (GW.out _ _ TB5.out).mono ?_
              rintro e w7 ⟨rfl, hf7⟩
              have F7 := Lib.hid (F5.out.tr hf7)
              have TA8 := Lib.hid (TA6.out.old hf7)
              have TB8 := Lib.hid (TB5.out.old hf7)
              clear hf7 k0 k1 k2 GW TA6 TB5 F5 OP5 HK5 HR5 c4
              go_wp2_with fail
              go_roundw
              case rel => exact ⟨k + 1, _, by simp [wrap64], hlt, (by omega), TA8.out, TB8.out, F7.out⟩
              case measure => simp [intOf]; omega
      · obtain rfl : k = l.length := by omega
        go_wp2_with fail
        go_at_call 14
        refine (keys_walk ta ma 100 L wr TA.out).mono ?_
        rintro e w3 ⟨oa3, cap3, s3, rfl, hp3, hr3, hk3, hf3⟩
        have TA3 := Lib.hid (TA.out.old hf3)
        have TB3 := Lib.hid (TB.out.old hf3)
        have F3 := Lib.hid (F.out.tr hf3)
        have HP3 := Lib.hid hp3
        have HR3 := Lib.hid hr3
        have HK3 := Lib.hid hk3
        clear hp3 hr3 hk3 hf3 TA TB F
        go_wp2_with fail
        go_at_call 14
        refine (keys_walk tb mb 100 L w3 TB3.out).mono ?_
        rintro e w4 ⟨oa4, cap4, s4, rfl, hp4, hr4, hk4, hf4⟩
        obtain rfl : s4 = s3 := rising_eq hr4 HR3.out (hp4.trans HP3.out.symm)
        have TA4 := Lib.hid (TA3.out.old hf4)
        have TB4 := Lib.hid (TB3.out.old hf4)
        have F4 := Lib.hid (F3.out.tr hf4)
        have HK3b := Lib.hid (HK3.out.old hf4)
        have HK4 := Lib.hid hk4
        have hlen : s4.length ≤ 10000 := by rw [hp4.length_eq]; have := TB3.out.len; simp; omega
        clear hp4 hr4 hk4 hf4 TA3 TB3 F3 HK3 HR3
        obtain ⟨wo, hwo⟩ : ∃ wo, wo = wr := ⟨_, rfl⟩
        clear hwo
        go_wp2_with fail
        go_loopw [16] (fun i wr => ∃ (k : Nat), i = .int .i64 k ∧ k ≤ s4.length ∧ Fr (fun _ => False) w4 wr) (fun i _ => s4.length - (intOf i).toNat)
        case atStart => exact ⟨0, rfl, Nat.zero_le _, Fr.same _⟩
        case round =>
          obtain ⟨k, rfl, hk, hf⟩ := hrel
          have F := Lib.hid hf
          clear hf
          rcases Nat.lt_or_ge k s4.length with hlt | hge
          · obtain ⟨x, hx⟩ := get_of_lt hlt
            obtain ⟨g, rfl, -, c0, c1, c2⟩ := HK3b.out k x hx
            obtain ⟨g', rfl, -, e0, e1, e2⟩ := HK4.out k x hx
            obtain ⟨r, hr, rfl⟩ := List.mem_map.1 (HP3.out.mem_iff.1 (List.mem_of_getElem? hx))
            have hg := getL_mem TB4.out.map.1.nodup (k := r.1) (a := r.2) hr
            have hko := (TB4.out.map.1.ok r hr).1
            have GA := Lib.hid (fun w' h => get_walk' r.1 hko ta ma 100 L w' h)
            have GB := Lib.hid (fun w' h => get_walk' r.1 hko tb mb 100 L w' h)
            unfold GetPost at GA GB
            rw [hg] at GA GB
            simp only [Option.getD_some, Option.isSome_some] at GA GB
            have C0 := Lib.hid c0
            have C1 := Lib.hid c1
            have C2 := Lib.hid c2
            have E0 := Lib.hid e0
            have E1 := Lib.hid e1
            have E2 := Lib.hid e2
            have d0 := F.out.cel c0
            have d1 := F.out.cel c1
            have d2 := F.out.cel c2
            clear hg hr c0 c1 c2 e0 e1 e2
            go_wp2_with fail
            refine (GA.out _ (TA4.out.old F.out)).mono ?_
            rintro e w5 ⟨rfl, hf5⟩
            have F5 := Lib.hid (F.out.tr hf5)
            have e0 := F5.out.cel E0.out
            have e1 := F5.out.cel E1.out
            have e2 := F5.out.cel E2.out
            clear hf5 d0 d1 d2
            go_wp2_with fail
            refine (GB.out _ (TB4.out.old F5.out)).mono ?_
            rintro e w6 ⟨rfl, hf6⟩
            have F6 := Lib.hid (F5.out.tr hf6)
            have d0 := F6.out.cel C0.out
            have d1 := F6.out.cel C1.out
            have d2 := F6.out.cel C2.out
            have f0 := F6.out.cel E0.out
            have f1 := F6.out.cel E1.out
            have f2 := F6.out.cel E2.out
            have hne := neq36 r.1
            clear e0 e1 e2 hf6
            go_wp2_with fail
            go_quiet (fail)
            have F7 := Lib.hid (F6.out.drewN nq)
            clear d0 d1 d2 f0 f1 f2 hne
            generalize w6.drewN nq = w7 at *
            go_wp2_with fail
            go_roundw
            case rel => exact ⟨k + 1, by simp [wrap64], hlt, F7.out⟩
            case measure => simp [intOf]; omega
          · obtain rfl : k = s4.length := by omega
            have F5 := Lib.hid (F4.out.tr F.out)
            clear F
            go_wp2_with fail
            refine (live_walk _).mono ?_
            rintro e w6 ⟨rfl, hf6⟩
            go_wp2_with fail
            go_ret
            exact ⟨rfl, F5.out.tr hf6⟩
end Go.Proofs.Ytdgdhegbcjimbaa
