/- IndexScripts: the walk. -/
import Derived.Test.YtfogmmanebflpaaT1
import Derived.Test.YtfogmmanebflpaaO1
namespace Go.Proofs.Ytfogmmanebflpaa
open Go.RowKit Go.Fm Go.BigFrame
set_option linter.unusedVariables false
set_option linter.unusedSimpArgs false

theorem two_lists {w v : World} {b : Nat} {x : Ix} {R : Rel} (h : Two (JR w.heap.size b x) R w v) :
    ∃ la lc, v.cell? ⟨b, 1, none⟩ = some (.slice la x.es.length lc) ∧ ∀ i y, x.es[i]? = some y → ∃ g, la = some ⟨g, 0, none⟩ ∧ v.cell? ⟨g, i * 3, none⟩ = some (.int .i64 y.o) ∧ v.cell? ⟨g, i * 3 + 1, none⟩ = some (.int .i64 y.p) ∧ v.cell? ⟨g, i * 3 + 2, none⟩ = some (.int .i64 y.t) := by
  obtain ⟨S1, S2, h1, -⟩ := h
  obtain ⟨la, lc, h2, -⟩ := rf_slice h1.1
  exact ⟨la, lc, by simp [World.cell?, h2.hb, rfCells], fun i y hy => rf_cells h2 i y hy⟩

theorem two_ref {w v : World} {b : Nat} {x : Ix} (h : Lv w v b x) (n : Nat) (h1 : 1 ≤ n) (h2 : n ≤ 1000000) :
    Two (IR w.heap.size b x) (JR w.heap.size v.heap.size (ixNew n)) w (v.alloc (.cells #[.int .i64 n, .slice none 0 0, .bool false, .int .i64 0, .int .i64 0, .int .i64 0, .int .i64 0] 39)) := by
  obtain ⟨S, hr, hf, hg⟩ := h
  refine Two.make (S2 := fun k => k = v.heap.size) (IR.held _ _ _) ⟨hr, hg⟩ hf ((Fr.refl _ v).alloc _) ⟨?_, Ix.good.nil h1 h2⟩ fun k hk => by omega
  refine ⟨.slice none 0 0, ⟨?_, World.ownsRow_nil _ _ _ _, hf.size, by simp [Value.ownBlock]⟩, fun k => by simp [rfoot, Value.ownBlock]⟩
  rw [heap_alloc_self]
  simp only [rfCells, ixNew]
  rfl

theorem quiet_two {R1 R2 : Rel} {w v : World} {f : FuncId} {args : Array Value} {u : Value} (h : Calls Try.prog f args v fun e w' => e = .returned u ∧ Two R1 R2 w w') :
    Calls Try.prog f args v fun e w' => e = .returned u ∧ ∃ y : Lcl.InS (Two R1 R2 w), w' = y.w := h.mono fun e w' ⟨he, hw⟩ => ⟨he, ⟨w', hw⟩, rfl⟩

theorem tswap {R1 R2 : Rel} {w v : World} {f : FuncId} {args : Array Value} {u : Value} (h : Calls Try.prog f args v fun e w' => e = .returned u ∧ Two R1 R2 w w') :
    Calls Try.prog f args v fun e w' => e = .returned u ∧ Two R2 R1 w w' := h.mono fun e w' ⟨he, hw⟩ => ⟨he, hw.swap⟩

set_option maxRecDepth 100000 in
set_option maxHeartbeats 4000000 in
theorem scripts_walk (every at' : Int) (len cap : Nat) (oa : Option Addr) (its : Nat → Int × Int × Int) (w : World) (h : Items w oa len its) :
    Calls Try.prog 4 #[.int .i64 every, .slice oa len cap, .int .i64 at'] w fun e w' => e = .returned (.bool true) ∧ Fr (fun _ => False) w w' := by
  have HI := Lib.hid h
  clear h
  by_cases hev : every < 1 ∨ 1000000 < every
  · go_enter Try.func4, Try.ntmps4
    go_wp2_with fail
    refine (new_no every _ hev).mono ?_
    rintro e w2 ⟨rfl, rfl⟩
    rcases hev with hev | hev
    all_goals
      go_wp2_with fail
      refine (live_walk _).mono ?_
      rintro e w3 ⟨rfl, hl⟩
      go_wp2_with fail
      go_ret
      exact ⟨rfl, hl⟩
  · obtain ⟨ev, rfl⟩ : ∃ ev : Nat, every = ev := Int.eq_ofNat_of_zero_le (by omega)
    have hev1 : ¬ (ev : Int) < 1 := by omega
    have hev2 : ¬ (1000000 : Int) < ev := by omega
    go_enter Try.func4, Try.ntmps4
    go_wp2_with fail
    refine (lv_new ev _ (by omega) (by omega)).mono ?_
    rintro e w2 ⟨rfl, hlv⟩
    have htw := two_ref hlv ev (by omega) (by omega)
    have HTW := Lib.hid htw
    clear htw hlv
    go_wp2_with fail
    have hen : ((ev : Int)).toNat = ev := by omega
    rw [hen] at HTW
    clear hen hev hev1 hev2
    generalize (w2.alloc (.cells #[.int .i64 ev, .slice none 0 0, .bool false, .int .i64 0, .int .i64 0, .int .i64 0, .int .i64 0] 39)) = w3 at *
    generalize w2.heap.size = c at *
    go_loopw [10] (fun i wr => ∃ (k : Nat) (x : Ix), i = .int .i64 k ∧ k ≤ len ∧ k ≤ 80 ∧ x.es.length ≤ k ∧ Two (IR w.heap.size w.heap.size x) (JR w.heap.size c x) w wr) (fun i _ => 80 - (intOf i).toNat)
    case atStart => exact ⟨0, _, rfl, Nat.zero_le _, by omega, Nat.zero_le _, HTW.out⟩
    case round =>
      obtain ⟨k, x, rfl, hk, hk80, hxl, hx⟩ := hrel
      have HX := Lib.hid hx
      clear hx HTW
      by_cases hlt : k < len ∧ k < 80
      · obtain ⟨a, rfl, i0, i1, i2⟩ := HI.out k hlt.1
        go_wp2_with fail
        have x0 : ∀ x : Lcl.InS (fun w' => Fr (fun _ => False) w w'), x.w.cell? (a.add (k * 3)) = some (.int .i64 (its k).1) := fun x => x.h.cell i0 (fun h => h)
        have x1 : ∀ x : Lcl.InS (fun w' => Fr (fun _ => False) w w'), x.w.cell? ⟨(a.add (k * 3)).block, (a.add (k * 3)).off + 1, none⟩ = some (.int .i64 (its k).2.1) := fun x => x.h.cell i1 (fun h => h)
        have x2 : ∀ x : Lcl.InS (fun w' => Fr (fun _ => False) w w'), x.w.cell? ⟨(a.add (k * 3)).block, (a.add (k * 3)).off + 2, none⟩ = some (.int .i64 (its k).2.2) := fun x => x.h.cell i2 (fun h => h)
        refine Lcl.wp_region_calm (by kernel_rfl) [(true, [0, 1, 2, 3, 4, 6, 7, 8, 9, 11, 12, 13, 14, 17, 18, 19, 20, 21, 23, 24, 25, 26, 28, 29, 30, 31]), (false, [5, 10, 15, 22, 27, 32])] #[0, 0, 0, 6, 14, 30, 0, 0, 192, 448, 960, 0, 0, 6144, 14336, 30720, 65535, 0, 0, 0, 786432, 1835008, 3932160, 0, 0, 25165824, 58720256, 125829120, 0, 0, 805306368, 1879048192, 4026531840, 8589934591, 17179869183] [0, 1, 2, 3, 4, 5, 6, 7, 8, 9, 10, 11, 12, 13, 14, 15, 16, 17, 18, 19, 20, 21, 22, 23, 24, 25, 26, 27, 28, 29, 30, 31, 32] 3 #[true, true, true, true, true, true, true, true, true, true, true, true, true, true, true, true, false, true, true, true, true, true, true, true, true, true, true, true, true, true, true, true, true, false, false] (by kernel_rfl) (by kernel_rfl) (by kernel_rfl) (fun w' => Fr (fun _ => False) w w') HX.out.fr.drew (fun d c a v w h => by cases d <;> exact h) ?_
        simp only [Lcl.opsOf, List.map_cons, List.map_nil, List.getElem?_toArray, List.getElem?_cons_succ, List.getElem?_cons_zero, Option.getD_some]
        refine Lcl.wpCalm_t ?_
        repeat (go_big_quiet_step (rfl))
        refine wpQuiet_nil ?_
        refine Lcl.wpCalm_f ?_
        repeat (go_big_quiet_step (rfl))
        refine wpQuiet_nil ?_
        refine Lcl.wpCalm_nil ?_
        clear x0 x1 x2
        refine Lcl.wpG_one 16 rfl (by kernel_rfl) ?_
        go_wp2_with fail
        refine (two_add (JR.held _ _ _) (HX.out.kept (IR.held _ _ _) (JR.held _ _ _) ((Fr.refl _ wr).drew)) (by omega) _ _ _).mono ?_
        rintro e w4 ⟨rfl, hx4⟩
        have hl1 := x.add_len (its k).1 (its k).2.1 (its k).2.2
        clear HX
        have HX := Lib.hid hx4
        clear hx4
        go_wp2_with fail
        refine ⟨fun _ _ => HX.out.fr, ?_⟩
        refine Lcl.wpG_run [33, 34] _ _ _ (by kernel_rfl) ?_
        simp only [List.map_cons, List.map_nil, List.getElem?_toArray, List.getElem?_cons_succ, List.getElem?_cons_zero, Option.getD_some]
        go_wp2_with fail
        refine (two_radd (IR.held _ _ _) HX.out.swap (by omega) _ _ _).mono ?_
        rintro e w5 ⟨rfl, hx5⟩
        clear HX
        have HX := Lib.hid hx5.swap
        clear hx5
        generalize x.add (its k).1 (its k).2.1 (its k).2.2 = x' at *
        go_wp2_with fail
        have x0 : ∀ y : Lcl.InS (Two (IR w.heap.size w.heap.size x') (JR w.heap.size c x') w), y.w.cell? (a.add (k * 3)) = some (.int .i64 (its k).1) := fun y => y.h.fr.cell i0 (fun h => h)
        have x2 : ∀ y : Lcl.InS (Two (IR w.heap.size w.heap.size x') (JR w.heap.size c x') w), y.w.cell? ⟨(a.add (k * 3)).block, (a.add (k * 3)).off + 2, none⟩ = some (.int .i64 (its k).2.2) := fun y => y.h.fr.cell i2 (fun h => h)
        have f11 : ∀ (o : Int) (y : Lcl.InS (Two (IR w.heap.size w.heap.size x') (JR w.heap.size c x') w)), Calls Try.prog 11 #[.pointer (some ⟨w.heap.size, 0, none⟩), .int .i64 o] y.w fun e w' => e = .returned (.int .i64 (x'.find o)) ∧ ∃ y : Lcl.InS (Two (IR w.heap.size w.heap.size x') (JR w.heap.size c x') w), w' = y.w :=
          fun o y => quiet_two (two_find (JR.held _ _ _) y.h (by omega) o)
        have f12 : ∀ (o : Int) (y : Lcl.InS (Two (IR w.heap.size w.heap.size x') (JR w.heap.size c x') w)), Calls Try.prog 12 #[.pointer (some ⟨w.heap.size, 0, none⟩), .int .i64 o] y.w fun e w' => e = .returned (.int .i64 (x'.seek o)) ∧ ∃ y : Lcl.InS (Two (IR w.heap.size w.heap.size x') (JR w.heap.size c x') w), w' = y.w :=
          fun o y => quiet_two (two_seek (JR.held _ _ _) y.h (by omega) o)
        have f14 : ∀ (o : Int) (y : Lcl.InS (Two (IR w.heap.size w.heap.size x') (JR w.heap.size c x') w)), Calls Try.prog 14 #[.pointer (some ⟨c, 0, none⟩), .int .i64 o] y.w fun e w' => e = .returned (.int .i64 (x'.find o)) ∧ ∃ y : Lcl.InS (Two (IR w.heap.size w.heap.size x') (JR w.heap.size c x') w), w' = y.w :=
          fun o y => quiet_two (tswap (two_rfind (IR.held _ _ _) y.h.swap (by omega) o))
        have f15 : ∀ (o : Int) (y : Lcl.InS (Two (IR w.heap.size w.heap.size x') (JR w.heap.size c x') w)), Calls Try.prog 15 #[.pointer (some ⟨c, 0, none⟩), .int .i64 o] y.w fun e w' => e = .returned (.int .i64 (x'.seek o)) ∧ ∃ y : Lcl.InS (Two (IR w.heap.size w.heap.size x') (JR w.heap.size c x') w), w' = y.w :=
          fun o y => quiet_two (tswap (two_rseek (IR.held _ _ _) y.h.swap (by omega) o))
        refine wp_region_quiet (C := fun w' => ∃ y : Lcl.InS (Two (IR w.heap.size w.heap.size x') (JR w.heap.size c x') w), w' = y.w) (by kernel_rfl) (by kernel_rfl) ⟨⟨w5.drew, HX.out.kept (IR.held _ _ _) (JR.held _ _ _) ((Fr.refl _ w5).drew)⟩, rfl⟩ ?_
        dsimp only
        repeat (go_big_quiet_step (first | rfl | exact f11 _ _ | exact f12 _ _ | exact f14 _ _ | exact f15 _ _))
        refine wpQuiet_nil ?_
        rintro _ ⟨y, rfl⟩
        clear x0 x2 f11 f12 f14 f15 HX
        have HX := Lib.hid y.h
        generalize y.w = w6 at *
        clear y
        go_wp2_with fail
        go_roundw
        case rel => exact ⟨k + 1, _, by go_num, by omega, by omega, by omega, HX.out⟩
        case measure => simp [intOf]; omega
      · have hk' : ¬ (k : Int) < len ∨ ¬ (k : Int) < 80 := by omega
        have hent := two_entries (JR.held _ _ _) HX.out (by omega)
        have hxl' : x.es.length ≤ 80 := by omega
        have HENT := Lib.hid hent
        clear hent
        rcases Nat.lt_or_ge k len with hkl | hkl
        all_goals
          go_wp2_with fail
          refine HENT.out.mono ?_
          rintro e w4 ⟨oa1, cap1, rfl, hx4, hcell⟩
          obtain ⟨la, lc, l1, l2⟩ := two_lists hx4.swap
          have HX4 := Lib.hid hx4
          have HC := Lib.hid hcell
          have HL := Lib.hid l2
          clear hx4 hcell l2
          generalize hm : x.es.length = m at *
          have HM := Lib.hid hm
          clear hm
          go_wp2_with fail
          have L1 := Lib.hid l1
          clear l1
          go_loopw [12] (fun i wr => ∃ (j : Nat), i = .int .i64 j ∧ j ≤ m ∧ Fr (fun _ => False) w4 wr) (fun i _ => m - (intOf i).toNat)
          case atStart => exact ⟨0, rfl, Nat.zero_le _, Fr.refl _ _⟩
          case round =>
            obtain ⟨j, rfl, hjm, hfj⟩ := hrel
            by_cases hjl : j < m
            · obtain ⟨f, hf⟩ := get_lt (show j < x.es.length by have := HM.out; omega)
              obtain ⟨g, rfl, d0, d1, d2⟩ := HC.out j f hf
              obtain ⟨g', rfl, p0, p1, p2⟩ := HL.out j f hf
              have q0 := hfj.cell d0 fun h => h
              have q1 := hfj.cell d1 fun h => h
              have q2 := hfj.cell d2 fun h => h
              have r0 := hfj.cell p0 fun h => h
              have r1 := hfj.cell p1 fun h => h
              have r2 := hfj.cell p2 fun h => h
              have rl := hfj.cell L1.out fun h => h
              have hi1 : ((j : Int)).toNat = j := by omega
              have hi2 : (0 : Int) ≤ (j : Int) := by omega
              have hi3 : (j : Int) < m := by omega
              have HF := Lib.hid hfj
              clear hfj hf d0 d1 d2 p0 p1 p2
              go_wp2_with fail
              go_quiet (fail)
              have hff := HF.out.drewN nq
              have HFF := Lib.hid hff
              clear hff HF
              clear q0 q1 q2 r0 r1 r2 rl
              generalize wr.drewN nq = wr2 at *
              go_wp2_with fail
              go_roundw
              case rel => exact ⟨j + 1, by go_num, by omega, HFF.out⟩
              case measure => simp [intOf]; omega
            · have HF := Lib.hid hfj
              clear hfj
              go_wp2_with fail
              refine (live_walk _).mono ?_
              rintro e w3 ⟨rfl, hl⟩
              go_wp2_with fail
              go_ret
              exact ⟨rfl, (HX4.out.fr.trans HF.out fun _ h => h.elim).trans hl fun _ h => h.elim⟩
end Go.Proofs.Ytfogmmanebflpaa
