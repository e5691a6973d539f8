/- IndexLess: the walk. -/
import Derived.Test.YtfogmmanebflpaaT1
import Derived.Test.YtfogmmanebflpaaO1
namespace Go.Proofs.Ytfogmmanebflpaa
open Go.RowKit Go.Fm Go.BigFrame
set_option linter.unusedVariables false
set_option linter.unusedSimpArgs false

set_option maxHeartbeats 4000000 in
theorem less_walk (every at' : Int) (len cap : Nat) (oa : Option Addr) (its : Nat → Int × Int × Int) (w : World) (h : Items w oa len its) :
    Calls Try.prog 7 #[.int .i64 every, .slice oa len cap, .int .i64 at'] w fun e w' => e = .returned (.bool true) ∧ Fr (fun _ => False) w w' := by
  have HI := Lib.hid h
  clear h
  by_cases hev : every < 1 ∨ 1000000 < every
  · go_enter Try.func7, Try.ntmps7
    go_wp2_with fail
    refine (new_no every _ hev).mono ?_
    rintro e w2 ⟨rfl, rfl⟩
    go_wp2_with fail
    refine (lv_new 1 _ (by omega) (by omega)).mono ?_
    rintro e w2 ⟨rfl, hlv⟩
    go_wp2_with fail
    refine (live_walk _).mono ?_
    rintro e w3 ⟨rfl, hl⟩
    go_wp2_with fail
    go_ret
    exact ⟨rfl, hlv.fr.trans hl fun _ h => h.elim⟩
  · go_enter Try.func7, Try.ntmps7
    go_wp2_with fail
    refine (lv_new every _ (by omega) (by omega)).mono ?_
    rintro e w2 ⟨rfl, hlv⟩
    go_wp2_with fail
    refine (two_new hlv 1 (by omega) (by omega)).mono ?_
    obtain ⟨b, hb⟩ : ∃ b, b = w.heap.size := ⟨_, rfl⟩
    obtain ⟨B, hB⟩ : ∃ B, B = w.heap.size := ⟨_, rfl⟩
    generalize w2.heap.size = c
    rintro e w3 ⟨rfl, htw⟩
    have HTW := Lib.hid htw
    clear htw hlv
    go_wp2_with fail
    go_loopw [11] (fun i wr => ∃ (k n : Nat) (x y : Ix), i = .int .i64 k ∧ k ≤ len ∧ k ≤ 80 ∧ x.es.length ≤ k ∧ y.es.length ≤ k ∧ Two (IR w.heap.size w.heap.size x) (IR w.heap.size c y) w wr ∧ Twin x y n) (fun i _ => 80 - (intOf i).toNat)
    case atStart => exact ⟨0, 0, _, _, rfl, Nat.zero_le _, by omega, Nat.zero_le _, Nat.zero_le _, HTW.out, Twin.new _⟩
    case round =>
      obtain ⟨k, n, x, y, rfl, hk, hk80, hxl, hyl, hx, ha⟩ := hrel
      have HX := Lib.hid hx
      have HA := Lib.hid ha
      clear hx ha HTW
      by_cases hlt : k < len ∧ k < 80
      · obtain ⟨a, rfl, i0, i1, i2⟩ := HI.out k hlt.1
        go_wp2_with fail
        have x0 : ∀ x : Lcl.InS (fun w' => Fr (fun _ => False) w w'), x.w.cell? (a.add (k * 3)) = some (.int .i64 (its k).1) := fun x => x.h.cell i0 (fun h => h)
        have x1 : ∀ x : Lcl.InS (fun w' => Fr (fun _ => False) w w'), x.w.cell? ⟨(a.add (k * 3)).block, (a.add (k * 3)).off + 1, none⟩ = some (.int .i64 (its k).2.1) := fun x => x.h.cell i1 (fun h => h)
        have x2 : ∀ x : Lcl.InS (fun w' => Fr (fun _ => False) w w'), x.w.cell? ⟨(a.add (k * 3)).block, (a.add (k * 3)).off + 2, none⟩ = some (.int .i64 (its k).2.2) := fun x => x.h.cell i2 (fun h => h)
        refine Lcl.wp_region_calm (by kernel_rfl) [(true, [0, 1, 2, 3, 4, 6, 7, 8, 9, 11, 12, 13, 14]), (false, [5, 10, 15])] #[0, 0, 0, 6, 14, 30, 0, 0, 192, 448, 960, 0, 0, 6144, 14336, 30720, 65535] [0, 1, 2, 3, 4, 5, 6, 7, 8, 9, 10, 11, 12, 13, 14, 15] 1 #[true, true, true, true, true, true, true, true, true, true, true, true, true, true, true, true, false] (by kernel_rfl) (by kernel_rfl) (by kernel_rfl) (fun w' => Fr (fun _ => False) w w') HX.out.fr.drew (fun d c a v w h => by cases d <;> exact h) ?_
        simp only [Lcl.opsOf, List.map_cons, List.map_nil, List.getElem?_toArray, List.getElem?_cons_succ, List.getElem?_cons_zero, Option.getD_some]
        refine Lcl.wpCalm_t ?_
        repeat (go_big_quiet_step (rfl))
        refine wpQuiet_nil ?_
        refine Lcl.wpCalm_f ?_
        repeat (go_big_quiet_step (rfl))
        refine wpQuiet_nil ?_
        refine Lcl.wpCalm_nil ?_
        clear x0 x1 x2
        refine Lcl.wpG_run [16] _ _ _ (by kernel_rfl) ?_
        simp only [List.map_cons, List.map_nil, List.getElem?_toArray, List.getElem?_cons_succ, List.getElem?_cons_zero, Option.getD_some]
        go_wp2_with fail
        refine (two_add (IR.held _ _ _) (HX.out.kept (IR.held _ _ _) (IR.held _ _ _) ((Fr.refl _ wr).drew)) (by omega) _ _ _).mono ?_
        rintro e w4 ⟨rfl, hx4⟩
        have hg1 := HX.out.good
        have hg2 := HX.out.swap.good
        have hl1 := x.add_len (its k).1 (its k).2.1 (its k).2.2
        have hl2 := y.add_len (its k).1 (its k).2.1 (its k).2.2
        have hA := HA.out.add hg1 hg2 (its k).1 (its k).2.1 (its k).2.2
        have HA2 := Lib.hid hA
        clear HX hA hg1 hg2
        have HX := Lib.hid hx4
        clear hx4
        go_wp2_with fail
        have x0 : ∀ x : Lcl.InS (fun w' => Fr (fun _ => False) w w'), x.w.cell? (a.add (k * 3)) = some (.int .i64 (its k).1) := fun x => x.h.cell i0 (fun h => h)
        have x1 : ∀ x : Lcl.InS (fun w' => Fr (fun _ => False) w w'), x.w.cell? ⟨(a.add (k * 3)).block, (a.add (k * 3)).off + 1, none⟩ = some (.int .i64 (its k).2.1) := fun x => x.h.cell i1 (fun h => h)
        have x2 : ∀ x : Lcl.InS (fun w' => Fr (fun _ => False) w w'), x.w.cell? ⟨(a.add (k * 3)).block, (a.add (k * 3)).off + 2, none⟩ = some (.int .i64 (its k).2.2) := fun x => x.h.cell i2 (fun h => h)
        refine Lcl.wp_region_calm (by kernel_rfl) [(true, [0, 1, 2, 3, 4, 6, 7, 8, 9, 11, 12, 13, 14]), (false, [5, 10, 15])] #[0, 0, 0, 6, 14, 30, 0, 0, 192, 448, 960, 0, 0, 6144, 14336, 30720, 65535] [0, 1, 2, 3, 4, 5, 6, 7, 8, 9, 10, 11, 12, 13, 14, 15] 1 #[true, true, true, true, true, true, true, true, true, true, true, true, true, true, true, true, false] (by kernel_rfl) (by kernel_rfl) (by kernel_rfl) (fun w' => Fr (fun _ => False) w w') HX.out.fr.drew (fun d c a v w h => by cases d <;> exact h) ?_
        simp only [Lcl.opsOf, List.map_cons, List.map_nil, List.getElem?_toArray, List.getElem?_cons_succ, List.getElem?_cons_zero, Option.getD_some]
        refine Lcl.wpCalm_t ?_
        repeat (go_big_quiet_step (rfl))
        refine wpQuiet_nil ?_
        refine Lcl.wpCalm_f ?_
        repeat (go_big_quiet_step (rfl))
        refine wpQuiet_nil ?_
        refine Lcl.wpCalm_nil ?_
        clear x0 x1 x2
        refine Lcl.wpG_run [16] _ _ _ (by kernel_rfl) ?_
        simp only [List.map_cons, List.map_nil, List.getElem?_toArray, List.getElem?_cons_succ, List.getElem?_cons_zero, Option.getD_some]
        go_wp2_with fail
        refine (two_add (IR.held _ _ _) (HX.out.swap.kept (IR.held _ _ _) (IR.held _ _ _) ((Fr.refl _ w4).drew)) (by omega) _ _ _).mono ?_
        rintro e w5 ⟨rfl, hx5⟩
        clear HX
        have HX := Lib.hid hx5.swap
        clear hx5
        go_wp2_with fail
        go_roundw
        case rel => exact ⟨k + 1, _, _, _, by go_num, by omega, by omega, by omega, by omega, HX.out, HA2.out⟩
        case measure => simp [intOf]; omega
      · have hk' : ¬ (k : Int) < len ∨ ¬ (k : Int) < 80 := by omega
        have h1 := HA.out.len
        have h2 := HA.out.find at'
        have h3 := HA.out.seek at'
        rcases Nat.lt_or_ge k len with hkl | hkl
        all_goals
          go_wp2_with fail
          refine (two_entries (IR.held _ _ _) HX.out (by omega)).mono ?_
          rintro e w4 ⟨oa1, cap1, rfl, hx4, -⟩
          have HX4 := Lib.hid hx4
          clear hx4
          go_wp2_with fail
          refine (two_entries (IR.held _ _ _) HX4.out.swap (by omega)).mono ?_
          rintro e w5 ⟨oa2, cap2, rfl, hx5, -⟩
          have HX5 := Lib.hid hx5.swap
          clear hx5
          go_wp2_with fail
          refine (two_find (IR.held _ _ _) HX5.out (by omega) _).mono ?_
          rintro e w6 ⟨rfl, hx6⟩
          have HX6 := Lib.hid hx6
          clear hx6
          go_wp2_with fail
          refine (two_find (IR.held _ _ _) HX6.out.swap (by omega) _).mono ?_
          rintro e w7 ⟨rfl, hx7⟩
          have HX7 := Lib.hid hx7.swap
          clear hx7
          go_wp2_with fail
          refine (two_seek (IR.held _ _ _) HX7.out (by omega) _).mono ?_
          rintro e w8 ⟨rfl, hx8⟩
          have HX8 := Lib.hid hx8
          clear hx8
          go_wp2_with fail
          refine (two_seek (IR.held _ _ _) HX8.out.swap (by omega) _).mono ?_
          rintro e w9 ⟨rfl, hx9⟩
          have HX9 := Lib.hid hx9.swap
          clear hx9
          go_wp2_with fail
          refine (live_walk _).mono ?_
          rintro e w3 ⟨rfl, hl⟩
          go_wp2_with fail
          go_ret
          exact ⟨rfl, HX9.out.fr.trans hl fun _ h => h.elim⟩
end Go.Proofs.Ytfogmmanebflpaa
