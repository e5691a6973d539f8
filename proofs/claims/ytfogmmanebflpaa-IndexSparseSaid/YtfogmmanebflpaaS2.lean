/- IndexSparse: the walk. -/
import Derived.Test.YtfogmmanebflpaaT1
import Derived.Test.YtfogmmanebflpaaO1
namespace Go.Proofs.Ytfogmmanebflpaa
open Go.RowKit Go.Fm Go.BigFrame
set_option linter.unusedVariables false
set_option linter.unusedSimpArgs false

theorem Ix.add_every (x : Ix) (o p t : Int) : (x.add o p t).every = x.every := by
  unfold Ix.add
  split
  · rfl
  · rfl

set_option maxRecDepth 100000 in
set_option maxHeartbeats 4000000 in
theorem sparse_walk (every : Int) (len cap : Nat) (oa : Option Addr) (its : Nat → Int × Int × Int) (w : World) (h : Items w oa len its) :
    Calls Try.prog 6 #[.int .i64 every, .slice oa len cap] w fun e w' => e = .returned (.bool true) ∧ Fr (fun _ => False) w w' := by
  have HI := Lib.hid h
  clear h
  by_cases hev : every < 1 ∨ 1000000 < every
  · go_enter Try.func6, Try.ntmps6
    go_wp2_with fail
    refine (new_no every _ hev).mono ?_
    rintro e w2 ⟨rfl, rfl⟩
    go_wp2_with fail
    refine (lv_new 1 _ (by omega) (by omega)).mono ?_
    rintro e w2 ⟨rfl, hlv⟩
    go_wp2_with fail
    refine (live_walk _).mono ?_
    rintro e w3 ⟨rfl, hl⟩
    go_wp2_with fail
    go_ret
    exact ⟨rfl, hlv.fr.trans hl fun _ h => h.elim⟩
  · go_enter Try.func6, Try.ntmps6
    go_wp2_with fail
    refine (lv_new every _ (by omega) (by omega)).mono ?_
    rintro e w2 ⟨rfl, hlv⟩
    go_wp2_with fail
    refine (two_new hlv 1 (by omega) (by omega)).mono ?_
    obtain ⟨b, hb⟩ : ∃ b, b = w.heap.size := ⟨_, rfl⟩
    obtain ⟨B, hB⟩ : ∃ B, B = w.heap.size := ⟨_, rfl⟩
    generalize w2.heap.size = c
    rintro e w3 ⟨rfl, htw⟩
    have HTW := Lib.hid htw
    clear htw hlv
    go_wp2_with fail
    go_loopw [9, 10, 11, 12] (fun nn i _ _ wr => ∃ (k n : Nat) (x y : Ix), i = .int .i64 k ∧ nn = .int .i64 n ∧ n ≤ k ∧ k ≤ len ∧ k ≤ 80 ∧ x.es.length ≤ k ∧ y.es.length ≤ k ∧ x.every = every.toNat ∧ Two (IR w.heap.size w.heap.size x) (IR w.heap.size c y) w wr ∧ Twin x y n) (fun _ i _ _ _ => 80 - (intOf i).toNat)
    case atStart => exact ⟨0, 0, _, _, rfl, rfl, Nat.le_refl _, Nat.zero_le _, by omega, Nat.zero_le _, Nat.zero_le _, rfl, HTW.out, Twin.new _⟩
    case round =>
      obtain ⟨k, n, x, y, rfl, rfl, hnk, hk, hk80, hxl, hyl, hxe, hx, ha⟩ := hrel
      have HX := Lib.hid hx
      have HA := Lib.hid ha
      have HXE := Lib.hid hxe
      have HNK := Lib.hid hnk
      clear hx ha HTW hxe hnk
      by_cases hlt : k < len ∧ k < 80
      · obtain ⟨a, rfl, i0, i1, i2⟩ := HI.out k hlt.1
        go_wp2_with fail
        have x0 : ∀ x : Lcl.InS (fun w' => Fr (fun _ => False) w w'), x.w.cell? (a.add (k * 3)) = some (.int .i64 (its k).1) := fun x => x.h.cell i0 (fun h => h)
        have x1 : ∀ x : Lcl.InS (fun w' => Fr (fun _ => False) w w'), x.w.cell? ⟨(a.add (k * 3)).block, (a.add (k * 3)).off + 1, none⟩ = some (.int .i64 (its k).2.1) := fun x => x.h.cell i1 (fun h => h)
        have x2 : ∀ x : Lcl.InS (fun w' => Fr (fun _ => False) w w'), x.w.cell? ⟨(a.add (k * 3)).block, (a.add (k * 3)).off + 2, none⟩ = some (.int .i64 (its k).2.2) := fun x => x.h.cell i2 (fun h => h)
        refine Lcl.wp_region_calm (by kernel_rfl) [(true, [0, 1, 2, 3, 4, 6, 7, 8, 9, 11, 12, 13, 14]), (false, [5, 10, 15])] #[0, 0, 0, 6, 14, 30, 0, 0, 192, 448, 960, 0, 0, 6144, 14336, 30720, 65535, 131071] [0, 1, 2, 3, 4, 5, 6, 7, 8, 9, 10, 11, 12, 13, 14, 15] 2 #[true, true, true, true, true, true, true, true, true, true, true, true, true, true, true, true, false, false] (by kernel_rfl) (by kernel_rfl) (by kernel_rfl) (fun w' => Fr (fun _ => False) w w') HX.out.fr.drew (fun d c a v w h => by cases d <;> exact h) ?_
        simp only [Lcl.opsOf, List.map_cons, List.map_nil, List.getElem?_toArray, List.getElem?_cons_succ, List.getElem?_cons_zero, Option.getD_some]
        refine Lcl.wpCalm_t ?_
        repeat (go_big_quiet_step (rfl))
        refine wpQuiet_nil ?_
        refine Lcl.wpCalm_f ?_
        repeat (go_big_quiet_step (rfl))
        refine wpQuiet_nil ?_
        refine Lcl.wpCalm_nil ?_
        clear x0 x1 x2
        refine Lcl.wpG_run [16, 17] _ _ _ (by kernel_rfl) ?_
        simp only [List.map_cons, List.map_nil, List.getElem?_toArray, List.getElem?_cons_succ, List.getElem?_cons_zero, Option.getD_some]
        go_wp2_with fail
        refine (two_add (IR.held _ _ _) (HX.out.kept (IR.held _ _ _) (IR.held _ _ _) ((Fr.refl _ wr).drew)) (by omega) _ _ _).mono ?_
        rw [HA.out.code]
        rintro e w4 ⟨rfl, hx4⟩
        have hg1 := HX.out.good
        have hg2 := HX.out.swap.good
        have hl1 := x.add_len (its k).1 (its k).2.1 (its k).2.2
        have hl2 := y.add_len (its k).1 (its k).2.1 (its k).2.2
        have hA := HA.out.add hg1 hg2 (its k).1 (its k).2.1 (its k).2.2
        have hE : (x.add (its k).1 (its k).2.1 (its k).2.2).every = every.toNat := by rw [Ix.add_every]; exact HXE.out
        have HE := Lib.hid hE
        have HA2 := Lib.hid hA
        clear HX hA hg1 hg2 hE HXE HA
        have HX := Lib.hid hx4
        clear hx4
        go_wp2_with fail
        have x0 : ∀ x : Lcl.InS (fun w' => Fr (fun _ => False) w w'), x.w.cell? (a.add (k * 3)) = some (.int .i64 (its k).1) := fun x => x.h.cell i0 (fun h => h)
        have x1 : ∀ x : Lcl.InS (fun w' => Fr (fun _ => False) w w'), x.w.cell? ⟨(a.add (k * 3)).block, (a.add (k * 3)).off + 1, none⟩ = some (.int .i64 (its k).2.1) := fun x => x.h.cell i1 (fun h => h)
        have x2 : ∀ x : Lcl.InS (fun w' => Fr (fun _ => False) w w'), x.w.cell? ⟨(a.add (k * 3)).block, (a.add (k * 3)).off + 2, none⟩ = some (.int .i64 (its k).2.2) := fun x => x.h.cell i2 (fun h => h)
        refine Lcl.wp_region_calm (by kernel_rfl) [(true, [0, 1, 2, 3, 4, 6, 7, 8, 9, 11, 12, 13, 14]), (false, [5, 10, 15])] #[0, 0, 0, 6, 14, 30, 0, 0, 192, 448, 960, 0, 0, 6144, 14336, 30720, 65535, 131071] [0, 1, 2, 3, 4, 5, 6, 7, 8, 9, 10, 11, 12, 13, 14, 15] 2 #[true, true, true, true, true, true, true, true, true, true, true, true, true, true, true, true, false, false] (by kernel_rfl) (by kernel_rfl) (by kernel_rfl) (fun w' => Fr (fun _ => False) w w') HX.out.fr.drew (fun d c a v w h => by cases d <;> exact h) ?_
        simp only [Lcl.opsOf, List.map_cons, List.map_nil, List.getElem?_toArray, List.getElem?_cons_succ, List.getElem?_cons_zero, Option.getD_some]
        refine Lcl.wpCalm_t ?_
        repeat (go_big_quiet_step (rfl))
        refine wpQuiet_nil ?_
        refine Lcl.wpCalm_f ?_
        repeat (go_big_quiet_step (rfl))
        refine wpQuiet_nil ?_
        refine Lcl.wpCalm_nil ?_
        clear x0 x1 x2
        refine Lcl.wpG_run [16, 17] _ _ _ (by kernel_rfl) ?_
        simp only [List.map_cons, List.map_nil, List.getElem?_toArray, List.getElem?_cons_succ, List.getElem?_cons_zero, Option.getD_some]
        go_wp2_with fail
        refine (two_add (IR.held _ _ _) (HX.out.swap.kept (IR.held _ _ _) (IR.held _ _ _) ((Fr.refl _ w4).drew)) (by omega) _ _ _).mono ?_
        rintro e w5 ⟨rfl, hx5⟩
        clear HX
        have HX := Lib.hid hx5.swap
        clear hx5
        rcases y.code_or (its k).1 (its k).2.1 (its k).2.2 with hc | hc
        · rw [hc] at HA2 ⊢
          clear hc
          rw [if_pos rfl] at HA2
          have hw : IntKind.i64.wrap ((n : Int) + 1) = (n : Int) + 1 := IntWalk.i64_in _ (by have := HNK.out; omega)
          go_wp2_with fail
          go_roundw
          case rel => exact ⟨k + 1, _, _, _, by go_num, by go_num, by have := HNK.out; omega, by omega, by omega, by omega, by omega, HE.out, HX.out, HA2.out⟩
          case measure => simp [intOf]; omega
        · rw [hc] at HA2 ⊢
          clear hc
          rw [if_neg (by decide)] at HA2
          go_wp2_with fail
          go_roundw
          case rel => exact ⟨k + 1, _, _, _, by go_num, rfl, by have := HNK.out; omega, by omega, by omega, by omega, by omega, HE.out, HX.out, HA2.out⟩
          case measure => simp [intOf]; omega
      · have hk' : ¬ (k : Int) < len ∨ ¬ (k : Int) < 80 := by omega
        have h1 := HA.out.len
        have h2 := HA.out.num
        have h3 := HX.out.good.rise
        have h4 := HX.out.good.es
        have h5 := HA.out.apart
        rw [HXE.out] at h5
        obtain ⟨es, hes⟩ : ∃ es, es = x.es := ⟨_, rfl⟩
        rw [← hes] at h1 h3 h4 h5 hxl
        have H3 := Lib.hid h3
        have H4 := Lib.hid h4
        have H5 := Lib.hid h5
        clear h3 h4 h5
        obtain ⟨m, hm⟩ : ∃ m, m = es.length := ⟨_, rfl⟩
        rw [← hm] at h1 hxl
        have hent := two_entries (IR.held _ _ _) HX.out (by rw [← hes, ← hm]; omega)
        rw [← hes, ← hm] at hent
        have HENT := Lib.hid hent
        have HM := Lib.hid hm
        clear hent hm hes
        rcases Nat.lt_or_ge k len with hkl | hkl
        all_goals
          go_wp2_with fail
          refine HENT.out.mono ?_
          rintro e w4 ⟨oa1, cap1, rfl, hx4, hcell⟩
          have HX4 := Lib.hid hx4
          have HC := Lib.hid hcell
          clear hx4 hcell
          go_wp2_with fail
          go_loopw [14] (fun i wr => ∃ (j : Nat), i = .int .i64 j ∧ 1 ≤ j ∧ j ≤ 81 ∧ (j ≤ m ∨ j = 1) ∧ Fr (fun _ => False) w4 wr) (fun i _ => 81 - (intOf i).toNat)
          case atStart => exact ⟨1, rfl, Nat.le_refl _, by omega, .inr rfl, Fr.refl _ _⟩
          case round =>
            obtain ⟨j, rfl, hj1, hj81, hjm, hfj⟩ := hrel
            by_cases hjl : j < m
            · obtain ⟨f, hf⟩ := get_lt (show j < es.length by have := HM.out; omega)
              obtain ⟨e0, he0⟩ := get_lt (show j - 1 < es.length by have := HM.out; omega)
              obtain ⟨g, rfl, d0, d1, d2⟩ := HC.out j f hf
              obtain ⟨g', hgg, p0, p1, p2⟩ := HC.out (j - 1) e0 he0
              injection hgg with hgg
              injection hgg with hgg
              subst hgg
              have hr := List.pairwise_iff_getElem.1 H3.out (j - 1) j (by have := HM.out; omega) (by have := HM.out; omega) (by omega)
              rw [(List.getElem?_eq_some_iff.1 he0).2, (List.getElem?_eq_some_iff.1 hf).2] at hr
              obtain ⟨hr1, hr2, hr3⟩ := hr
              have hap := H5.out (j - 1) e0 f he0 (by rw [Nat.sub_add_cancel hj1]; exact hf)
              have hb1 := H4.out f (List.mem_of_getElem? hf)
              have hb0 := H4.out e0 (List.mem_of_getElem? he0)
              obtain ⟨hb1a, hb1b, hb1c⟩ := hb1
              obtain ⟨hb0a, hb0b, hb0c⟩ := hb0
              have q0 := hfj.cell d0 fun h => h
              have q1 := hfj.cell d1 fun h => h
              have q2 := hfj.cell d2 fun h => h
              have r0 := hfj.cell p0 fun h => h
              have r1 := hfj.cell p1 fun h => h
              have r2 := hfj.cell p2 fun h => h
              have hi1 : ((j : Int) - 1).toNat = j - 1 := by omega
              have hi2 : (0 : Int) ≤ (j : Int) - 1 := by omega
              have hi3 : (j : Int) - 1 < m := by omega
              have hi4 : IntKind.i64.wrap ((j : Int) - 1) = (j : Int) - 1 := IntWalk.i64_in _ (by omega)
              have hi5 : (1 : Int) ≤ (j : Int) := by omega
              have hi6 : j - 1 < m := by omega
              have hi7 : (j : Int) < m := by omega
              unfold big at hb1a hb1b hb1c hb0a hb0b hb0c
              have hi8 : IntKind.i64.wrap ((f.p : Int) - e0.p) = (f.p : Int) - e0.p := IntWalk.i64_in _ (by omega)
              have hi9 : decide ((f.p : Int) - e0.p < every) = false := by rw [decide_eq_false_iff_not]; omega
              have hi10 : decide ((f.o : Int) ≤ e0.o) = false := by rw [decide_eq_false_iff_not]; omega
              have hi11 : decide ((f.t : Int) < e0.t) = false := by rw [decide_eq_false_iff_not]; omega
              have HF := Lib.hid hfj
              clear hfj hf he0 d0 d1 d2 p0 p1 p2
              go_wp2_with fail
              go_quiet (fail)
              have hff := HF.out.drewN nq
              have HFF := Lib.hid hff
              clear hff HF
              clear q0 q1 q2 r0 r1 r2
              generalize wr.drewN nq = wr2 at *
              go_wp2_with fail
              go_roundw
              case rel => exact ⟨j + 1, by go_num, by omega, by omega, .inl (by omega), HFF.out⟩
              case measure => simp [intOf]; omega
            · have hx5 := HX4.out.kept (IR.held _ _ _) (IR.held _ _ _) hfj
              have HX5 := Lib.hid hx5
              clear hx5 hfj
              go_wp2_with fail
              have hent := two_entries (IR.held _ _ _) HX5.out.swap (by omega)
              rw [h2] at hent
              refine hent.mono ?_
              clear hent
              rintro e w5 ⟨oa2, cap2, rfl, hx6, -⟩
              have HX6 := Lib.hid hx6.swap
              clear hx6
              go_wp2_with fail
              refine (live_walk _).mono ?_
              rintro e w3 ⟨rfl, hl⟩
              go_wp2_with fail
              go_ret
              exact ⟨rfl, HX6.out.fr.trans hl fun _ h => h.elim⟩
end Go.Proofs.Ytfogmmanebflpaa
