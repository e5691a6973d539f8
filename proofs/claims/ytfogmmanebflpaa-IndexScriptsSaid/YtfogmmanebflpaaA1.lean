/- IndexAhead: the walk. -/
import Derived.Test.YtfogmmanebflpaaL0
import Derived.Test.YtfogmmanebflpaaP1
namespace Go.Proofs.Ytfogmmanebflpaa
open Go.RowKit Go.Fm Go.BigFrame
set_option linter.unusedVariables false
set_option linter.unusedSimpArgs false

/-- The items of the argument: three whole numbers each. -/
def Items (w : World) (oa : Option Addr) (len : Nat) (its : Nat → Int × Int × Int) : Prop :=
  ∀ i, i < len → ∃ a, oa = some a ∧ w.cell? (a.add (i * 3)) = some (.int .i64 (its i).1) ∧ w.cell? ⟨(a.add (i * 3)).block, (a.add (i * 3)).off + 1, none⟩ = some (.int .i64 (its i).2.1) ∧ w.cell? ⟨(a.add (i * 3)).block, (a.add (i * 3)).off + 2, none⟩ = some (.int .i64 (its i).2.2)

set_option maxHeartbeats 4000000 in
theorem ahead_walk (every off tm : Int) (len cap : Nat) (oa : Option Addr) (its : Nat → Int × Int × Int) (w : World) (h : Items w oa len its) :
    Calls Try.prog 3 #[.agg #[.int .i64 every, .slice oa len cap, .int .i64 off, .int .i64 tm]] w fun e w' => e = .returned (.bool true) ∧ Fr (fun _ => False) w w' := by
  have HI := Lib.hid h
  clear h
  have hf0 := (Fr.refl (fun _ => False) w).alloc (.cells #[.int .i64 every, .slice oa len cap, .int .i64 off, .int .i64 tm] 24)
  have c0 : (w.alloc (.cells #[.int .i64 every, .slice oa len cap, .int .i64 off, .int .i64 tm] 24)).cell? ⟨w.heap.size, 0, none⟩ = some (.int .i64 every) := cell_alloc_new w _ 24 0
  have c1 : (w.alloc (.cells #[.int .i64 every, .slice oa len cap, .int .i64 off, .int .i64 tm] 24)).cell? ⟨w.heap.size, 1, none⟩ = some (.slice oa len cap) := cell_alloc_new w _ 24 1
  have c2 : (w.alloc (.cells #[.int .i64 every, .slice oa len cap, .int .i64 off, .int .i64 tm] 24)).cell? ⟨w.heap.size, 2, none⟩ = some (.int .i64 off) := cell_alloc_new w _ 24 2
  have c3 : (w.alloc (.cells #[.int .i64 every, .slice oa len cap, .int .i64 off, .int .i64 tm] 24)).cell? ⟨w.heap.size, 3, none⟩ = some (.int .i64 tm) := cell_alloc_new w _ 24 3
  go_enter Try.func3, Try.ntmps3
  go_wp2_with fail
  generalize (w.alloc (.cells #[.int .i64 every, .slice oa len cap, .int .i64 off, .int .i64 tm] 24)) = W0 at *
  go_quiet (fail)
  have hf1 := hf0.drewN nq
  clear c0 c1 c2 c3 hf0
  generalize W0.drewN nq = W1 at *
  clear W0
  by_cases hev : every < 1 ∨ 1000000 < every
  · go_wp2_with fail
    refine (new_no every _ hev).mono ?_
    rintro e w2 ⟨rfl, rfl⟩
    go_wp2_with fail
    refine (live_walk _).mono ?_
    rintro e w3 ⟨rfl, hl⟩
    go_wp2_with fail
    go_ret
    exact ⟨rfl, hf1.trans hl fun _ h => h.elim⟩
  · go_wp2_with fail
    refine (lv_new every _ (by omega) (by omega)).mono ?_
    generalize W1.heap.size = b
    rintro e w2 ⟨rfl, hlv⟩
    go_wp2_with fail
    go_loopw [9, 10, 11] (fun la fi i wr => ∃ (k : Nat) (x : Ix) (last first : Int), i = .int .i64 k ∧ la = .int .i64 last ∧ fi = .int .i64 first ∧ k ≤ len ∧ k ≤ 80 ∧ x.es.length ≤ k ∧ Lv W1 wr b x ∧ Ahd x off tm last first) (fun _ _ i _ => 80 - (intOf i).toNat)
    case atStart => exact ⟨0, _, _, _, rfl, rfl, rfl, Nat.zero_le _, by omega, Nat.zero_le _, hlv, Ahd.nil _ _ _⟩
    case round =>
      obtain ⟨k, x, last, first, rfl, rfl, rfl, hk, hk80, hxl, hx, ha⟩ := hrel
      by_cases hlt : k < len ∧ k < 80
      · obtain ⟨a, rfl, i0, i1, i2⟩ := HI.out k hlt.1
        have HX := Lib.hid hx
        have HA := Lib.hid ha
        have hfx := hf1.trans hx.fr fun _ h => h.elim
        clear hx ha
        go_wp2_with fail
        have x0 : ∀ x : Lcl.InS (fun w' => Fr (fun _ => False) w w'), x.w.cell? (a.add (k * 3)) = some (.int .i64 (its k).1) := fun x => x.h.cell i0 (fun h => h)
        have x1 : ∀ x : Lcl.InS (fun w' => Fr (fun _ => False) w w'), x.w.cell? ⟨(a.add (k * 3)).block, (a.add (k * 3)).off + 1, none⟩ = some (.int .i64 (its k).2.1) := fun x => x.h.cell i1 (fun h => h)
        have x2 : ∀ x : Lcl.InS (fun w' => Fr (fun _ => False) w w'), x.w.cell? ⟨(a.add (k * 3)).block, (a.add (k * 3)).off + 2, none⟩ = some (.int .i64 (its k).2.2) := fun x => x.h.cell i2 (fun h => h)
        refine Lcl.wp_region_calm (by kernel_rfl) [(true, [0, 1, 2, 3, 4, 6, 7, 8, 9, 11, 12, 13, 14]), (false, [5, 10, 15])] #[0, 0, 0, 6, 14, 30, 0, 0, 192, 448, 960, 0, 0, 6144, 14336, 30720, 65535, 131071] [0, 1, 2, 3, 4, 5, 6, 7, 8, 9, 10, 11, 12, 13, 14, 15] 2 #[true, true, true, true, true, true, true, true, true, true, true, true, true, true, true, true, false, false] (by kernel_rfl) (by kernel_rfl) (by kernel_rfl) (fun w' => Fr (fun _ => False) w w') hfx.drew (fun d c a v w h => by cases d <;> exact h) ?_
        simp only [Lcl.opsOf, List.map_cons, List.map_nil, List.getElem?_toArray, List.getElem?_cons_succ, List.getElem?_cons_zero, Option.getD_some]
        refine Lcl.wpCalm_t ?_
        repeat (go_big_quiet_step (rfl))
        refine wpQuiet_nil ?_
        refine Lcl.wpCalm_f ?_
        repeat (go_big_quiet_step (rfl))
        refine wpQuiet_nil ?_
        refine Lcl.wpCalm_nil ?_
        clear x0 x1 x2
        refine Lcl.wpG_run [16, 17] _ _ _ (by kernel_rfl) ?_
        simp only [List.map_cons, List.map_nil, List.getElem?_toArray, List.getElem?_cons_succ, List.getElem?_cons_zero, Option.getD_some]
        go_wp2_with fail
        refine (lv_add (lv_kept HX.out ((Fr.refl _ wr).drew)) (by omega) _ _ _).mono ?_
        rintro e w3 ⟨rfl, hx3⟩
        have HX3 := Lib.hid hx3
        have hl3 := x.add_len (its k).1 (its k).2.1 (its k).2.2
        have hf3 := hf1.trans hx3.fr fun _ h => h.elim
        have j0 := hf3.cell i0 fun h => h
        have j1 := hf3.cell i1 fun h => h
        have j2 := hf3.cell i2 fun h => h
        clear hx3 i0 i1 i2 hf3 hfx
        rcases x.code_or (its k).1 (its k).2.1 (its k).2.2 with hc | hc
        · rw [hc]
          have hA := HA.out.add HX.out.good _ _ _ (Ix.takes_code.1 hc)
          have HA3 := Lib.hid hA
          clear hA hc
          by_cases ho : (its k).1 ≤ off
          · rw [if_pos ho] at HA3
            by_cases hfi : first < 0
            · by_cases ht : tm ≤ (its k).2.2
              · rw [if_pos ⟨hfi, ht⟩] at HA3
                go_wp2_with fail
                go_roundw
                case rel => exact ⟨k + 1, _, _, _, by go_num, rfl, rfl, by omega, by omega, by omega, HX3.out, HA3.out⟩
                case measure => simp [intOf]; omega
              · rw [if_neg (fun h => ht h.2)] at HA3
                go_wp2_with fail
                go_roundw
                case rel => exact ⟨k + 1, _, _, _, by go_num, rfl, rfl, by omega, by omega, by omega, HX3.out, HA3.out⟩
                case measure => simp [intOf]; omega
            · rw [if_neg (fun h => hfi h.1)] at HA3
              go_wp2_with fail
              go_roundw
              case rel => exact ⟨k + 1, _, _, _, by go_num, rfl, rfl, by omega, by omega, by omega, HX3.out, HA3.out⟩
              case measure => simp [intOf]; omega
          · rw [if_neg ho] at HA3
            by_cases hfi : first < 0
            · by_cases ht : tm ≤ (its k).2.2
              · rw [if_pos ⟨hfi, ht⟩] at HA3
                go_wp2_with fail
                go_roundw
                case rel => exact ⟨k + 1, _, _, _, by go_num, rfl, rfl, by omega, by omega, by omega, HX3.out, HA3.out⟩
                case measure => simp [intOf]; omega
              · rw [if_neg (fun h => ht h.2)] at HA3
                go_wp2_with fail
                go_roundw
                case rel => exact ⟨k + 1, _, _, _, by go_num, rfl, rfl, by omega, by omega, by omega, HX3.out, HA3.out⟩
                case measure => simp [intOf]; omega
            · rw [if_neg (fun h => hfi h.1)] at HA3
              go_wp2_with fail
              go_roundw
              case rel => exact ⟨k + 1, _, _, _, by go_num, rfl, rfl, by omega, by omega, by omega, HX3.out, HA3.out⟩
              case measure => simp [intOf]; omega
        · rw [hc]
          have hs : x.add (its k).1 (its k).2.1 (its k).2.2 = x := Ix.add_same (by rw [hc]; decide)
          rw [hs] at HX3
          clear hc hs hl3
          go_wp2_with fail
          go_roundw
          case rel => exact ⟨k + 1, _, _, _, by go_num, rfl, rfl, by omega, by omega, by omega, HX3.out, HA.out⟩
          case measure => simp [intOf]; omega
      · have HX := Lib.hid hx
        have HA := Lib.hid ha
        clear hx ha
        rcases Nat.lt_or_ge k len with hkl | hkl
        all_goals
          by_cases hfi : first < 0
          · by_cases hla : last < 0
            · go_wp2_with fail
              refine (live_walk _).mono ?_
              rintro e w3 ⟨rfl, hl⟩
              go_wp2_with fail
              go_ret
              exact ⟨rfl, (hf1.trans HX.out.fr fun _ h => h.elim).trans hl fun _ h => h.elim⟩
            · have hle := HA.out.l (by omega)
              go_wp2_with fail
              refine (lv_find HX.out (by omega) off).mono ?_
              rintro e w4 ⟨rfl, hx4⟩
              have HX4 := Lib.hid hx4
              clear hx4
              go_wp2_with fail
              refine (live_walk _).mono ?_
              rintro e w3 ⟨rfl, hl⟩
              go_wp2_with fail
              go_ret
              exact ⟨rfl, (hf1.trans HX4.out.fr fun _ h => h.elim).trans hl fun _ h => h.elim⟩
          · have hfs := (HA.out.f (by omega)).2.2
            by_cases hla : last < 0
            · go_wp2_with fail
              refine (lv_seek HX.out (by omega) tm).mono ?_
              rintro e w4 ⟨rfl, hx4⟩
              have HX4 := Lib.hid hx4
              clear hx4
              go_wp2_with fail
              refine (live_walk _).mono ?_
              rintro e w3 ⟨rfl, hl⟩
              go_wp2_with fail
              go_ret
              exact ⟨rfl, (hf1.trans HX4.out.fr fun _ h => h.elim).trans hl fun _ h => h.elim⟩
            · have hle := HA.out.l (by omega)
              go_wp2_with fail
              refine (lv_find HX.out (by omega) off).mono ?_
              rintro e w4 ⟨rfl, hx4⟩
              have HX4 := Lib.hid hx4
              clear hx4
              go_wp2_with fail
              refine (lv_seek HX4.out (by omega) tm).mono ?_
              rintro e w5 ⟨rfl, hx5⟩
              have HX5 := Lib.hid hx5
              clear hx5
              go_wp2_with fail
              refine (live_walk _).mono ?_
              rintro e w3 ⟨rfl, hl⟩
              go_wp2_with fail
              go_ret
              exact ⟨rfl, (hf1.trans HX5.out.fr fun _ h => h.elim).trans hl fun _ h => h.elim⟩
end Go.Proofs.Ytfogmmanebflpaa
