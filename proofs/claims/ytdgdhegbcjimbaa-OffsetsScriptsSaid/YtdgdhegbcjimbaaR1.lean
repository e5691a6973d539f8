/- OffsetsRise: the walk. -/
import Derived.Test.YtdgdhegbcjimbaaO3
import Derived.Test.YtdgdhegbcjimbaaL1
import Derived.Test.YtdgdhegbcjimbaaT10
namespace Go.Proofs.Ytdgdhegbcjimbaa
open Go.RowKit Go.Fm Go.BigFrame
set_option linter.unusedVariables false
set_option linter.unusedSimpArgs false

/-- The answer is true; what was there stands. -/
def TruePost (w : World) (e : Ending) (w' : World) : Prop := e = .returned (.bool true) ∧ Fr (fun _ => False) w w'
/-- Offsets that may be. -/
def AtOK (L : List Row) : Prop := ∀ r ∈ L, 0 ≤ r.2 ∧ r.2 ≤ 1099511627776
theorem AtOK.commit {room : Int} {L : List Row} {k : Key} {a : Int} (h : AtOK L) : AtOK (commitL room L k a) := by
  unfold commitL
  split
  · rename_i he
    have hw : withinB a 0 = true := by
      unfold commitE at he
      split at he
      · rename_i hh; exact hh.2
      · cases he
    intro r hr
    unfold putR at hr
    rcases List.mem_cons.1 hr with rfl | hr
    · simpa [withinB] using hw
    · exact h r (List.mem_filter.1 hr).1
  · exact h
theorem commit_walk' (g t : ByteArray) (i a : Int) (tb mb : Nat) (room : Int) (L : List Row) (w : World) (h : Tbl w tb mb room L) :
    Calls Try.prog 10 #[.pointer (some ⟨tb, 0, none⟩), .agg #[.string g, .string t, .int .i64 i], .int .i64 a] w (CommitPost tb mb room L ⟨g, t, i⟩ a w) := commit_walk ⟨g, t, i⟩ a tb mb room L w h
theorem get_walk' (k : Key) (hk : KeyOK k) (tb mb : Nat) (room : Int) (L : List Row) (w : World) (h : Tbl w tb mb room L) :
    Calls Try.prog 13 #[.pointer (some ⟨tb, 0, none⟩), .agg #[.string k.g, .string k.t, .int .i64 k.i]] w (GetPost L k w) := get_walk k hk tb mb room L w h
set_option maxRecDepth 100000 in
set_option maxHeartbeats 16000000 in
theorem rise_walk (oa : Option Addr) (cap : Nat) (l : List Opn) (w : World) (h : OpsR w oa l) : Calls Try.prog 5 #[.slice oa l.length cap] w (TruePost w) := by
  have H := Lib.hid h
  clear h
  go_enter Try.func5, Try.ntmps5
  go_wp2_with fail
  · refine (live_walk _).mono ?_
    rintro e w1 ⟨rfl, hf1⟩
    go_wp2_with fail
    go_ret
    exact ⟨rfl, hf1⟩
  · refine (new_yes 100 (by decide) (by decide) _).mono ?_
    rintro e w1 ⟨tb, mb, rfl, ht1, l1, l2, hf1⟩
    have HT1 := Lib.hid ht1
    have HF1 := Lib.hid hf1
    clear ht1 hf1
    go_wp2_with fail
    go_loopw [5] (fun i wr => ∃ (k : Nat) (L : List Row), i = .int .i64 k ∧ k ≤ l.length ∧ Tbl wr tb mb 100 L ∧ AtOK L ∧ Fr (fun _ => False) w wr) (fun i _ => l.length - (intOf i).toNat)
    case atStart => exact ⟨0, [], rfl, Nat.zero_le _, HT1.out, (fun r hr => by cases hr), HF1.out⟩
    case round =>
      obtain ⟨k, L, rfl, hk, ht, hat, hf⟩ := hrel
      have T := Lib.hid ht
      have A := Lib.hid hat
      have F := Lib.hid hf
      clear ht hat hf
      rcases Nat.lt_or_ge k l.length with hlt | hge
      · obtain ⟨x, hx⟩ := get_of_lt hlt
        obtain ⟨a, rfl, hop, hok⟩ := H.out k x hx
        have hop1 := hop.old F.out
        have HOK := Lib.hid hok
        have x1 : ∀ y : Lcl.InS (fun w' => Fr (fun _ => False) wr w'), y.w.cell? ⟨(a.add (k * 12)).block, (a.add (k * 12)).off + 1, none⟩ = some (.string x.o.g) := fun y => y.h.cel hop1.c1
        have x2 : ∀ y : Lcl.InS (fun w' => Fr (fun _ => False) wr w'), y.w.cell? ⟨(a.add (k * 12)).block, (a.add (k * 12)).off + 2, none⟩ = some (.string x.o.t) := fun y => y.h.cel hop1.c2
        have x3 : ∀ y : Lcl.InS (fun w' => Fr (fun _ => False) wr w'), y.w.cell? ⟨(a.add (k * 12)).block, (a.add (k * 12)).off + 3, none⟩ = some (.int .i64 x.o.i) := fun y => y.h.cel hop1.c3
        have x4 : ∀ y : Lcl.InS (fun w' => Fr (fun _ => False) wr w'), y.w.cell? ⟨(a.add (k * 12)).block, (a.add (k * 12)).off + 4, none⟩ = some (.int .i64 x.o.a) := fun y => y.h.cel hop1.c4
        clear hop hop1 hok
        go_wp2_with fail
        refine Lcl.wp_region_calm (by kernel_rfl) [(true, [0, 1, 2, 3, 4, 6, 7, 8, 9, 12, 13, 14, 15]), (false, [5, 10, 16]), (true, [11])] #[0, 0, 0, 6, 14, 30, 0, 0, 192, 448, 960, 2046, 0, 0, 12288, 28672, 61440, 131071] [0, 1, 2, 3, 4, 5, 6, 7, 8, 9, 10, 11, 12, 13, 14, 15, 16] 1 #[true, true, true, true, true, true, true, true, true, true, true, true, true, true, true, true, true, false] (by kernel_rfl) (by kernel_rfl) (by kernel_rfl) (fun w' => Fr (fun _ => False) wr w') (Fr.same wr).drew (fun d c a v w h => by cases d <;> exact h) ?_
        simp only [Lcl.opsOf, List.map_cons, List.map_nil, List.getElem?_toArray, List.getElem?_cons_succ, List.getElem?_cons_zero, Option.getD_some]
        refine Lcl.wpCalm_t ?_
        repeat (go_big_quiet_step (rfl))
        refine wpQuiet_nil ?_
        refine Lcl.wpCalm_f ?_
        repeat (go_big_quiet_step (rfl))
        refine wpQuiet_nil ?_
        refine Lcl.wpCalm_t ?_
        repeat (go_big_quiet_step (rfl))
        refine wpQuiet_nil ?_
        refine Lcl.wpCalm_nil ?_
        clear x1 x2 x3 x4
        refine Lcl.wpG_run [17] _ _ _ (by kernel_rfl) ?_
        simp only [List.map_cons, List.map_nil, List.getElem?_toArray, List.getElem?_cons_succ, List.getElem?_cons_zero, Option.getD_some]
        go_wp2_with fail
        refine (commit_walk' _ _ _ _ tb mb 100 L wr.drew (T.out.to rfl rfl)).mono ?_
        rintro e w2 ⟨rfl, ht2, hf2⟩
        have T2 := Lib.hid ht2
        have A2 := Lib.hid (A.out.commit (room := 100) (k := ⟨x.o.g, x.o.t, x.o.i⟩) (a := x.o.a))
        have F2 := Lib.hid (F.out.drew.trans hf2 fun i e => .inr (by omega))
        clear ht2 hf2
        go_wp2_with fail
        go_roundw
        case rel => exact ⟨k + 1, _, by simp [wrap64], hlt, T2.out, A2.out, F2.out⟩
        case measure => simp [intOf]; omega
      · obtain rfl : k = l.length := by omega
        go_wp2_with fail
        go_at_call 14
        refine (keys_walk tb mb 100 L wr T.out).mono ?_
        rintro e w2 ⟨oa2, cap2, ss, rfl, hp, hri, hks, hf2⟩
        have T2 := Lib.hid (T.out.old hf2)
        have F2 := Lib.hid (F.out.tr hf2)
        have HP := Lib.hid hp
        have HRI := Lib.hid hri
        have HK := Lib.hid hks
        obtain ⟨w2o, hw2o⟩ : ∃ x, x = w2 := ⟨_, rfl⟩
        have hlen : ss.length ≤ 10000 := by rw [hp.length_eq]; have := T.out.len; simp; omega
        clear hp hri hks hf2 T F
        go_wp2_with fail
        go_loopw [7] (fun i wr => ∃ (k : Nat), i = .int .i64 k ∧ k ≤ ss.length ∧ Fr (fun _ => False) w2 wr) (fun i _ => ss.length - (intOf i).toNat)
        case atStart => exact ⟨0, rfl, Nat.zero_le _, Fr.same _⟩
        case round =>
          obtain ⟨k, rfl, hk, hf⟩ := hrel
          have F := Lib.hid hf
          clear hf
          rcases Nat.lt_or_ge k ss.length with hlt | hge
          · obtain ⟨x, hx⟩ := get_of_lt hlt
            obtain ⟨g, rfl, -, c0, c1, c2⟩ := HK.out k x hx
            obtain ⟨r, hr, rfl⟩ := List.mem_map.1 (HP.out.mem_iff.1 (List.mem_of_getElem? hx))
            have hg := getL_mem T2.out.map.1.nodup (k := r.1) (a := r.2) hr
            have hko := (T2.out.map.1.ok r hr).1
            have hb := A.out r hr
            have GW := Lib.hid (fun w' h => get_walk' r.1 hko tb mb 100 L w' h)
            unfold GetPost at GW
            rw [hg] at GW
            simp only [Option.getD_some, Option.isSome_some] at GW
            have hn1 : ¬ r.2 < 0 := by omega
            have hn2 : ¬ 1099511627776 < r.2 := by omega
            have d0 := F.out.cel c0
            have d1 := F.out.cel c1
            have d2 := F.out.cel c2
            have HX := Lib.hid hx
            clear hg hb hr
            go_wp2_with fail
            refine (GW.out _ (T2.out.old F.out)).mono ?_
            rintro e w3 ⟨rfl, hf3⟩
            have e0 := hf3.cel d0
            have e1 := hf3.cel d1
            have e2 := hf3.cel d2
            have F3 := Lib.hid (F.out.tr hf3)
            clear hf3 c0 c1 c2 d0 d1 d2
            cases k with
            | zero =>
              go_wp2_with fail
              go_roundw
              case rel => exact ⟨1, rfl, hlt, F3.out⟩
              case measure => simp [intOf]; omega
            | succ k =>
              obtain ⟨y, hy⟩ := get_of_lt (l := ss) (k := k) (by omega)
              obtain ⟨g', hg', -, c0, c1, c2⟩ := HK.out k y hy
              have hgg : g' = g := by injection hg' with h; injection h with h; exact h.symm
              subst hgg
              have hlt2 : ltK y r.1 := by
                have h1 := HRI.out
                unfold Rising at h1
                rw [List.pairwise_iff_getElem] at h1
                have := h1 k (k + 1) (by omega) hlt (by omega)
                rw [(List.getElem?_eq_some_iff.1 hy).2, (List.getElem?_eq_some_iff.1 HX.out).2] at this
                exact this
              have d0 := F3.out.cel c0
              have d1 := F3.out.cel c1
              have d2 := F3.out.cel c2
              have hs1 : (((k + 1 : Nat) : Int) == 0) = false := by simp; omega
              have fa := (Fr.same w3).alloc (.cells #[.string y.g, .string y.t, .int .i64 y.i] 36)
              have f0 := fa.cel e0
              have f1 := fa.cel e1
              have f2 := fa.cel e2
              clear c0 c1 c2 hy hg' fa e0 e1 e2
              rcases hlt2 with h1 | ⟨h1, h1' | ⟨h1', h1''⟩⟩
              · rw [← less_ltB] at h1
                go_wp2_with fail
                go_roundw
                case rel => exact ⟨k + 1 + 1, by simp [wrap64], hlt, (F3.out.alloc _).alloc _⟩
                case measure => simp [intOf]; omega
              · have q1 : Op.bytesLess y.g.toList r.1.g.toList = false := by
                  rw [Bool.eq_false_iff, ne_eq, less_ltB, h1]; exact ltB_irrefl _
                have q2 : (y.g.toList == r.1.g.toList) = true := by rw [h1]; simp
                rw [← less_ltB] at h1'
                clear h1
                go_wp2_with fail
                go_roundw
                case rel => exact ⟨k + 1 + 1, by simp [wrap64], hlt, (F3.out.alloc _).alloc _⟩
                case measure => simp [intOf]; omega
              · have q1 : Op.bytesLess y.g.toList r.1.g.toList = false := by
                  rw [Bool.eq_false_iff, ne_eq, less_ltB, h1]; exact ltB_irrefl _
                have q2 : (y.g.toList == r.1.g.toList) = true := by rw [h1]; simp
                have q3 : Op.bytesLess y.t.toList r.1.t.toList = false := by
                  rw [Bool.eq_false_iff, ne_eq, less_ltB, h1']; exact ltB_irrefl _
                have q4 : (y.t.toList == r.1.t.toList) = true := by rw [h1']; simp
                clear h1 h1'
                go_wp2_with fail
                go_roundw
                case rel => exact ⟨k + 1 + 1, by simp [wrap64], hlt, (F3.out.alloc _).alloc _⟩
                case measure => simp [intOf]; omega
          · obtain rfl : k = ss.length := by omega
            go_wp2_with fail
            refine (live_walk _).mono ?_
            rintro e w3 ⟨rfl, hf3⟩
            go_wp2_with fail
            go_ret
            exact ⟨rfl, (F2.out.tr F.out).tr hf3⟩
end Go.Proofs.Ytdgdhegbcjimbaa
