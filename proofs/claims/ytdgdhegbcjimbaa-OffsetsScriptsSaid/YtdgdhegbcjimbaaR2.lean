/- OffsetsApart: the walk. -/
import Derived.Test.YtdgdhegbcjimbaaR1
import Derived.Test.YtdgdhegbcjimbaaSt
namespace Go.Proofs.Ytdgdhegbcjimbaa
open Go.RowKit Go.Fm Go.BigFrame
set_option linter.unusedVariables false
set_option linter.unusedSimpArgs false

theorem getL_commit_ne {room : Int} {L : List Row} {k k' : Key} {a : Int} (h : k' ≠ k) : getL (commitL room L k a) k' = getL L k' := by
  unfold commitL
  split
  · rw [getL_put, if_neg h]
  · rfl
/-- How many rows are of a group. -/
def ofG (group : ByteArray) (ss : List Key) : Nat := (ss.filter fun k => decide (k.g = group)).length
theorem ofG_take {group : ByteArray} {ss : List Key} {k : Nat} {x : Key} (h : ss[k]? = some x) : ofG group (ss.take (k + 1)) = ofG group (ss.take k) + if x.g = group then 1 else 0 := by
  unfold ofG
  rw [List.take_add_one, h]
  rw [List.filter_append, List.length_append]
  by_cases hg : x.g = group <;> simp [hg]
theorem ofG_perm {group : ByteArray} {ss : List Key} {L : List Row} (h : ss.Perm (L.map (·.1))) : ofG group ss + (keepL L fun k => decide (k.g = group)).length = L.length := by
  unfold ofG
  rw [(h.filter _).length_eq]
  clear h
  unfold keepL
  induction L with
  | nil => rfl
  | cons x r ih =>
    by_cases hx : x.1.g = group <;> simp [hx] at ih ⊢ <;> omega
theorem ofG_le {group : ByteArray} {ss : List Key} : ofG group ss ≤ ss.length := List.length_filter_le _ _
theorem heap_alloc_self' {n : Nat} (w : World) (o : Obj) (h : n = w.heap.size) : (w.alloc o).heap[n]? = some o := by subst h; exact heap_alloc_new w o
set_option maxRecDepth 100000 in
set_option maxHeartbeats 16000000 in
theorem apart_walk (oa : Option Addr) (cap : Nat) (l : List Opn) (group : ByteArray) (w : World) (hgr : group.size ≤ maxLen) (h : OpsR w oa l) : Calls Try.prog 4 #[.slice oa l.length cap, .string group] w (TruePost w) := by
  have H := Lib.hid h
  have HGR := Lib.hid hgr
  clear h hgr
  go_enter Try.func4, Try.ntmps4
  go_wp2_with fail
  · refine (live_walk _).mono ?_
    rintro e w1 ⟨rfl, hf1⟩
    go_wp2_with fail
    go_ret
    exact ⟨rfl, hf1⟩
  · refine (new_yes 100 (by decide) (by decide) _).mono ?_
    rintro e w1 ⟨tb, mb, rfl, ht1, l1, l2, hf1⟩
    have HT1 := Lib.hid ht1
    have HF1 := Lib.hid hf1
    clear ht1 hf1
    go_wp2_with fail
    go_loopw [8] (fun i wr => ∃ (k : Nat) (L : List Row), i = .int .i64 k ∧ k ≤ l.length ∧ Tbl wr tb mb 100 L ∧ Fr (fun _ => False) w wr) (fun i _ => l.length - (intOf i).toNat)
    case atStart => exact ⟨0, [], rfl, Nat.zero_le _, HT1.out, HF1.out⟩
    case round =>
      obtain ⟨k, L, rfl, hk, ht, hf⟩ := hrel
      have T := Lib.hid ht
      have F := Lib.hid hf
      clear ht hf
      rcases Nat.lt_or_ge k l.length with hlt | hge
      · obtain ⟨x, hx⟩ := get_of_lt hlt
        obtain ⟨a, rfl, hop, hok⟩ := H.out k x hx
        have hop1 := hop.old F.out
        have OP1 := Lib.hid hop1
        have HOK := Lib.hid hok
        have x1 : ∀ y : Lcl.InS (fun w' => Fr (fun _ => False) wr w'), y.w.cell? ⟨(a.add (k * 12)).block, (a.add (k * 12)).off + 1, none⟩ = some (.string x.o.g) := fun y => y.h.cel hop1.c1
        have x2 : ∀ y : Lcl.InS (fun w' => Fr (fun _ => False) wr w'), y.w.cell? ⟨(a.add (k * 12)).block, (a.add (k * 12)).off + 2, none⟩ = some (.string x.o.t) := fun y => y.h.cel hop1.c2
        have x3 : ∀ y : Lcl.InS (fun w' => Fr (fun _ => False) wr w'), y.w.cell? ⟨(a.add (k * 12)).block, (a.add (k * 12)).off + 3, none⟩ = some (.int .i64 x.o.i) := fun y => y.h.cel hop1.c3
        clear hop hop1 hok
        go_wp2_with fail
        refine Lcl.wp_region_calm (by kernel_rfl) [(true, [0, 1, 2, 3, 5, 6, 7, 8]), (false, [4, 9]), (true, [10])] #[0, 0, 3, 7, 15, 0, 0, 96, 224, 480, 1023, 0, 4095] [0, 1, 2, 3, 4, 5, 6, 7, 8, 9, 11] 2 #[true, true, true, true, true, true, true, true, true, true, true, false, false] (by kernel_rfl) (by kernel_rfl) (by kernel_rfl) (fun w' => Fr (fun _ => False) wr w') (Fr.same wr).drew (fun d c a v w h => by cases d <;> exact h) ?_
        simp only [Lcl.opsOf, List.map_cons, List.map_nil, List.getElem?_toArray, List.getElem?_cons_succ, List.getElem?_cons_zero, Option.getD_some]
        refine Lcl.wpCalm_t ?_
        repeat (go_big_quiet_step (rfl))
        refine wpQuiet_nil ?_
        refine Lcl.wpCalm_f ?_
        repeat (go_big_quiet_step (rfl))
        refine wpQuiet_nil ?_
        refine Lcl.wpCalm_t ?_
        repeat (go_big_quiet_step (rfl))
        refine wpQuiet_nil ?_
        refine Lcl.wpCalm_nil ?_
        clear x1 x2 x3
        refine Lcl.wpG_one 11 rfl (by kernel_rfl) ?_
        go_wp2_with fail
        refine ⟨fun _ h => h.alloc _, ?_⟩
        refine Lcl.wpG_run [12] _ _ _ (by kernel_rfl) ?_
        simp only [List.map_cons, List.map_nil, List.getElem?_toArray, List.getElem?_cons_succ, List.getElem?_cons_zero, Option.getD_some]
        have fa := (Fr.same wr).alloc (.cells #[.string x.o.g, .string x.o.t, .int .i64 x.o.i] 36)
        have y1 := fa.cel OP1.out.c1
        have y2 := fa.cel OP1.out.c2
        have y3 := fa.cel OP1.out.c3
        have y4 := fa.cel OP1.out.c4
        have hko : KeyOK ⟨group, x.o.t, x.o.i⟩ := ⟨HGR.out, HOK.out.t, HOK.out.i⟩
        have GW := Lib.hid (fun L w' h => get_walk' ⟨group, x.o.t, x.o.i⟩ hko tb mb 100 L w' h)
        clear fa
        go_wp2_with fail
        refine (GW.out L _ (T.out.old (((Fr.same wr).alloc _).drew.alloc _))).mono ?_
        rintro e w2 ⟨rfl, hf2⟩
        have hb0 := (hf2.block wr.heap.size (by simp; omega) fun h => h).trans ((heap_alloc_lt (w := (wr.alloc (.cells #[.string x.o.g, .string x.o.t, .int .i64 x.o.i] 36)).drew) _ (by simp)).trans (heap_alloc_self wr _))
        have hb1 := (hf2.block (wr.heap.size + 1) (by simp) fun h => h).trans (heap_alloc_self' (wr.alloc (.cells #[.string x.o.g, .string x.o.t, .int .i64 x.o.i] 36)).drew _ (by simp))
        have hf02 := (((Fr.same wr).alloc (.cells #[.string x.o.g, .string x.o.t, .int .i64 x.o.i] 36)).drew.alloc _).tr hf2
        have T2 := Lib.hid (T.out.old hf02)
        have F2 := Lib.hid (F.out.tr hf02)
        have OP2 := Lib.hid (OP1.out.old hf02)
        have hne : wr.heap.size + 1 ≠ mb := by have := T.out.lt; omega
        have HB1 := Lib.hid hb1
        have x0 : ∀ y : Lcl.InS (fun w' => Fr (fun _ => False) w2 w'), y.w.cell? ⟨wr.heap.size, 0, none⟩ = some (.string x.o.g) := fun y => y.h.cel ((cell_of hb0 0).trans rfl)
        have x1 : ∀ y : Lcl.InS (fun w' => Fr (fun _ => False) w2 w'), y.w.cell? ⟨wr.heap.size, 1, none⟩ = some (.string x.o.t) := fun y => y.h.cel ((cell_of hb0 1).trans rfl)
        have x2 : ∀ y : Lcl.InS (fun w' => Fr (fun _ => False) w2 w'), y.w.cell? ⟨wr.heap.size, 2, none⟩ = some (.int .i64 x.o.i) := fun y => y.h.cel ((cell_of hb0 2).trans rfl)
        have x4 : ∀ y : Lcl.InS (fun w' => Fr (fun _ => False) w2 w'), y.w.cell? ⟨(a.add (k * 12)).block, (a.add (k * 12)).off + 4, none⟩ = some (.int .i64 x.o.a) := fun y => y.h.cel OP2.out.c4
        clear hf2 hb0 hb1 hf02 y1 y2 y3 y4 F T
        generalize hbb : wr.heap.size = b0 at *
        go_wp2_with fail
        refine Lcl.wp_region_calm (by kernel_rfl) [(true, [0, 2, 3, 4, 5]), (false, [1, 6])] #[0, 0, 0, 0, 12, 28, 60, 127] [0, 1, 2, 3, 4, 5, 6] 1 #[true, true, true, true, true, true, true, false] (by kernel_rfl) (by kernel_rfl) (by kernel_rfl) (fun w' => Fr (fun _ => False) w2 w') (Fr.same w2).drew (fun d c a v w h => by cases d <;> exact h) ?_
        simp only [Lcl.opsOf, List.map_cons, List.map_nil, List.getElem?_toArray, List.getElem?_cons_succ, List.getElem?_cons_zero, Option.getD_some]
        refine Lcl.wpCalm_t ?_
        repeat (go_big_quiet_step (rfl))
        refine wpQuiet_nil ?_
        refine Lcl.wpCalm_f ?_
        repeat (go_big_quiet_step (rfl))
        refine wpQuiet_nil ?_
        refine Lcl.wpCalm_nil ?_
        clear x0 x1 x2 x4
        refine Lcl.wpG_run [7] _ _ _ (by kernel_rfl) ?_
        simp only [List.map_cons, List.map_nil, List.getElem?_toArray, List.getElem?_cons_succ, List.getElem?_cons_zero, Option.getD_some]
        go_wp2_with fail
        refine (commit_walk' _ _ _ _ tb mb 100 L w2.drew (T2.out.to rfl rfl)).mono ?_
        rintro e w3 ⟨rfl, ht3, hf3⟩
        have F3 := Lib.hid (F2.out.drew.trans hf3 fun i e => .inr (by omega))
        have T3 := Lib.hid ht3
        have hb3 := (hf3.block (b0 + 1) (lt_of_heap HB1.out) hne).trans HB1.out
        have z0 := (cell_of hb3 0).trans rfl
        have z1 := (cell_of hb3 1).trans rfl
        have z2 := (cell_of hb3 2).trans rfl
        simp at z0 z1 z2
        clear ht3 hf3 hb3
        go_wp2_with fail
        refine (GW.out _ _ T3.out).mono ?_
        rintro e w4 ⟨rfl, hf4⟩
        have F4 := Lib.hid (F3.out.tr hf4)
        have T4 := Lib.hid (T3.out.old hf4)
        obtain ⟨a', ha', hop4, -⟩ := H.out k x hx
        have haa : a' = a := by injection ha' with h; exact h.symm
        subst haa
        have c1 := (hop4.old F4.out).c1
        clear z0 z1 z2 hf4 hop4 ha'
        by_cases hg : x.o.g = group
        · have q1 : (x.o.g.toList == group.toList) = true := by rw [strEq]; simp [hg]
          clear hg
          go_wp2_with fail
          go_roundw
          case rel => exact ⟨k + 1, _, by simp [wrap64], hlt, T4.out, F4.out⟩
          case measure => simp [intOf]; omega
        · have q1 : (x.o.g.toList == group.toList) = false := by rw [strEq]; simp [hg]
          have q2 : getL (commitL 100 L ⟨x.o.g, x.o.t, x.o.i⟩ x.o.a) ⟨group, x.o.t, x.o.i⟩ = getL L ⟨group, x.o.t, x.o.i⟩ := getL_commit_ne fun e => hg (by injection e with e; exact e.symm)
          rw [q2]
          clear hg
          go_wp2_with fail
          go_roundw
          case rel => exact ⟨k + 1, _, by simp [wrap64], hlt, T4.out, F4.out⟩
          case measure => simp [intOf]; omega
      · obtain rfl : k = l.length := by omega
        go_wp2_with fail
        go_at_call 14
        refine (keys_walk tb mb 100 L wr T.out).mono ?_
        rintro e w2 ⟨oa2, cap2, ss, rfl, hp, hri, hks, hf2⟩
        have T2 := Lib.hid (T.out.old hf2)
        have F2 := Lib.hid (F.out.tr hf2)
        have HP := Lib.hid hp
        have HK := Lib.hid hks
        have hlen : ss.length ≤ 10000 := by rw [hp.length_eq]; have := T.out.len; simp; omega
        have hle := fun k => Nat.le_trans (ofG_le (group := group) (ss := ss.take k)) (List.length_take_le k ss)
        have HLE := Lib.hid hle
        clear hp hri hks hf2 T F hle
        obtain ⟨wo, hwo⟩ : ∃ wo, wo = wr := ⟨_, rfl⟩
        clear hwo
        go_wp2_with fail
        go_loopw [7, 16] (fun n i wr => ∃ (k : Nat), n = .int .i64 (ofG group (ss.take k) : Nat) ∧ i = .int .i64 k ∧ k ≤ ss.length ∧ Fr (fun _ => False) w2 wr) (fun _ i _ => ss.length - (intOf i).toNat)
        case atStart => exact ⟨0, rfl, rfl, Nat.zero_le _, Fr.same _⟩
        case round =>
          obtain ⟨k, rfl, rfl, hk, hf⟩ := hrel
          have F := Lib.hid hf
          clear hf
          rcases Nat.lt_or_ge k ss.length with hlt | hge
          · obtain ⟨x, hx⟩ := get_of_lt hlt
            obtain ⟨g, rfl, -, c0, c1, c2⟩ := HK.out k x hx
            have d0 := F.out.cel c0
            have ht := ofG_take (group := group) hx
            have hle1 := HLE.out k
            have hle2 := HLE.out (k + 1)
            generalize hn : ofG group (ss.take k) = n at *
            clear c0 c1 c2
            by_cases hg : x.g = group
            · have q1 : (x.g.toList == group.toList) = true := by rw [strEq]; simp [hg]
              rw [if_pos hg] at ht
              have HT := Lib.hid ht
              clear hg ht
              go_wp2_with fail
              go_roundw
              case rel => exact ⟨k + 1, by rw [HT.out]; simp [wrap64]; try omega, by simp [wrap64], hlt, F.out⟩
              case measure => simp [intOf]; omega
            · have q1 : (x.g.toList == group.toList) = false := by rw [strEq]; simp [hg]
              rw [if_neg hg] at ht
              have HT := Lib.hid ht
              clear hg ht
              go_wp2_with fail
              go_roundw
              case rel => exact ⟨k + 1, by rw [HT.out]; simp [wrap64]; try omega, by simp [wrap64], hlt, F.out⟩
              case measure => simp [intOf]; omega
          · obtain rfl : k = ss.length := by omega
            rw [List.take_length] at *
            have T3 := Lib.hid (T2.out.old F.out)
            have F3 := Lib.hid (F2.out.tr F.out)
            clear F
            go_wp2_with fail
            refine (forget_walk group tb mb 100 L wr T3.out).mono ?_
            rintro e w4 ⟨rfl, ht4, hf4⟩
            have T4 := Lib.hid ht4
            have F4 := Lib.hid (F3.out.trans hf4 fun i e => .inr (by omega))
            clear ht4 hf4
            go_wp2_with fail
            go_at_call 14
            refine (keys_walk tb mb 100 _ w4 T4.out).mono ?_
            rintro e w5 ⟨oa3, cap3, ss3, rfl, hp3, hri3, hks3, hf5⟩
            have F5 := Lib.hid (F4.out.tr hf5)
            have HK3 := Lib.hid hks3
            have HP3 := Lib.hid hp3
            have e1 := ofG_perm (group := group) HP.out
            have e2 := HP.out.length_eq
            have e3 := hp3.length_eq
            have e4 := ofG_le (group := group) (ss := ss)
            simp only [List.length_map] at e2 e3
            generalize hn : ofG group ss = n at *
            generalize hm : (keepL L fun k => decide (k.g = group)).length = m at *
            have q1 : (L.length : Int) - m = n := by omega
            have q2 : (ss3.length : Int) = (ss.length : Int) - n := by omega
            obtain ⟨wo, hwo⟩ : ∃ wo, wo = wr := ⟨_, rfl⟩
            clear hwo hp3 hri3 hks3 hf5 hn hm
            have E1 := Lib.hid e1
            have E2 := Lib.hid e2
            have E3 := Lib.hid e3
            have q3 := q2.symm
            clear e1 e2 e3 q2
            go_wp2_with fail
            go_loopw [19] (fun i wr => ∃ (k : Nat), i = .int .i64 k ∧ k ≤ ss3.length ∧ Fr (fun _ => False) w5 wr) (fun i _ => ss3.length - (intOf i).toNat)
            case atStart => exact ⟨0, rfl, Nat.zero_le _, Fr.same _⟩
            case round =>
              obtain ⟨k, rfl, hk, hf⟩ := hrel
              have F := Lib.hid hf
              clear hf
              rcases Nat.lt_or_ge k ss3.length with hlt | hge
              · obtain ⟨x, hx⟩ := get_of_lt hlt
                obtain ⟨g, rfl, -, c0, c1, c2⟩ := HK3.out k x hx
                have d0 := F.out.cel c0
                obtain ⟨r, hr, rfl⟩ := List.mem_map.1 (HP3.out.mem_iff.1 (List.mem_of_getElem? hx))
                have hng : ¬ r.1.g = group := by
                  have := (List.mem_filter.1 hr).2
                  simpa using this
                have q3 : (r.1.g.toList == group.toList) = false := by rw [strEq]; simp [hng]
                clear c0 c1 c2 hng hr
                go_wp2_with fail
                go_roundw
                case rel => exact ⟨k + 1, by simp [wrap64], hlt, F.out⟩
                case measure => simp [intOf]; omega
              · obtain rfl : k = ss3.length := by omega
                have F6 := Lib.hid (F5.out.tr F.out)
                clear F
                go_wp2_with fail
                refine (live_walk _).mono ?_
                rintro e w3 ⟨rfl, hf3⟩
                go_wp2_with fail
                go_ret
                exact ⟨rfl, F6.out.tr hf3⟩
end Go.Proofs.Ytdgdhegbcjimbaa
