/- A producer that sends each batch twice: the walk of StateAgain. -/
import Derived.Test.YtfdhofabgdkkkaaGreatDoorZ51
namespace Go.Proofs.YtfdhofabgdkkkaaGreatDoor
open Go.RowKit Go.Fm Go.BigFrame Go.Shelf Go.Maps
set_option linter.unusedVariables false
set_option linter.unusedSimpArgs false
set_option maxRecDepth 100000
section
variable {w w' : World} {S : Nat → Prop}
theorem IntsR.at {a : Addr} {n cap : Nat} {l : List Int} {k : Nat} {x : Int} (h : IntsR w (.slice (some a) n cap) l) (hx : l[k]? = some x) : w.cell? (a.add k) = some (.int .i64 x) := by
 obtain ⟨oa, cap', e, h1⟩ := h
 injection e with e1 e2 e3
 subst e1
 obtain ⟨b, e, hc⟩ := h1 k x hx
 injection e with e
 subst e
 exact hc.1
theorem ag_one (x s : Int) : (#[.int .i64 4, .string ⟨#[116]⟩, .int .i64 0, .int .i64 0, .int .i64 0, .bool false, .int .i64 0, .int .i64 x, .int .i64 0, .int .i64 0, .int .i64 s, .slice none 0 0, .int .i64 0, .string ⟨#[]⟩, .string ⟨#[]⟩, .slice none 0 0, .string ⟨#[]⟩, .int .i64 0, .int .i64 0, .slice none 0 0] : Array Value).all (·.oneCell') = true := by
 rw [Array.all_eq_true_iff_forall_mem]
 intro v hv
 simp only [List.mem_toArray, List.mem_cons, List.not_mem_nil, or_false] at hv
 rcases hv with rfl | rfl | rfl | rfl | rfl | rfl | rfl | rfl | rfl | rfl | rfl | rfl | rfl | rfl | rfl | rfl | rfl | rfl | rfl | rfl <;> rfl
structure AgLp (w0 w : World) (mb ib : Nat) (m : MachD) (d : PartD) (k : Nat) (s : Int) : Prop where
 a : AgSt w0 w mb m d k s
 na : ¬ m.A ib
 ib : w.heap[ib]? = some (.cells (repA 0 0 0 0 0 0 0 (.slice none 0 0) (.slice none 0 0) (.slice none 0 0)) 31 (0, 0))
theorem AgLp.more {w0 : World} {mb ib : Nat} {m : MachD} {d : PartD} {k : Nat} {s : Int} (h : AgLp w0 w mb ib m d k s) : AgLp w0 w mb ib m d (k + 1) s :=
 ⟨⟨h.a.n, h.a.mb, h.a.tl, h.a.f, h.a.en, ⟨h.a.s0.1, by have := h.a.s0.2; push_cast; omega⟩, by have := h.a.cn; omega, by have := h.a.len; omega, h.a.win⟩, h.na, h.ib⟩
theorem AgLp.old {w0 : World} {mb ib : Nat} {m : MachD} {d : PartD} {k : Nat} {s : Int} (h : AgLp w0 w mb ib m d k s) (hf : Fr (fun _ => False) w w') : AgLp w0 w' mb ib m d k s :=
 ⟨h.a.old hf, h.na, blk h.ib hf fun h => h⟩
set_option maxHeartbeats 64000000 in
theorem again_walk (l : List Int) (v : Value) (w : World) (hl : IntsR w v l) (hst : StepsOK w) (hw0 : 1 ≤ w.heap.size) :
  Calls Tryz.prog 4 #[v] w fun e w' => e = .returned (.bool true) ∧ Fr (fun _ => False) w w' := by
 obtain ⟨oa, cap, rfl, hcl⟩ := id hl
 have BL := Lib.hid hl
 have ST := Lib.hid hst
 clear hl hst hcl
 by_cases h20 : l.length ≤ 20
 ·go_enter Tryz.func4, Tryz.ntmps4
  go_wp2_with fail
  refine (snew_ok 10 10 (by omega) (by omega)).mono ?_
  rintro e w1 ⟨mb, tb, tmb, pm, cv, rfl, hM1, hg, f1⟩
  have C1 := Lib.hid (made hM1 hg f1 ST.out 1 (by omega))
  unfold plainV tS at C1
  clear hM1 f1 hg
  go_wp2_with fail
  refine C1.out.mono ?_
  rintro e w3 ⟨rfl, m3, hO, hnew, hno⟩
  obtain ⟨d0, hd0, hnp0⟩ := hnew 0 (by omega) (by omega)
  have I3 := Lib.hid (ag_id hO hd0 hnp0 ST.out)
  unfold plainV at I3
  clear hO hnew hd0 hnp0 hno C1
  go_wp2_with fail
  refine I3.out.mono ?_
  rintro e w4 ⟨rfl, m4, hA4⟩
  have HZ := heap_alloc_self w4 (.cells #[.int .i64 0, .int .i64 0, .int .i64 0, .int .i64 0, .int .i64 0, .int .i64 0, .int .i64 0, .slice none 0 0, .slice none 0 0, .slice none 0 0] 31)
  obtain ⟨bf, bx⟩ := box31 w4 (repA 0 0 0 0 0 0 0 (.slice none 0 0) (.slice none 0 0) (.slice none 0 0))
  have L5 := Lib.hid (AgLp.mk (hA4.old bf) (fun h => by have := MachD.A_lt hA4.n.a h; omega) bx)
  clear bf bx hA4 I3
  go_wp2_with (refine wpList_store31 rfl _ _ rfl w4.heap.size 0 0 rfl rfl _ HZ rfl ?_)
  clear HZ
  generalize ((w4.alloc (.cells #[.int .i64 0, .int .i64 0, .int .i64 0, .int .i64 0, .int .i64 0, .int .i64 0, .int .i64 0, .slice none 0 0, .slice none 0 0, .slice none 0 0] 31)).setRow w4.heap.size (repA 0 0 0 0 0 0 0 (.slice none 0 0) (.slice none 0 0) (.slice none 0 0))) = w5 at *
  generalize w4.heap.size = ib at *
  go_loopw [6, 7] (fun sq i wr => ∃ (k : Nat) (s : Int) (m : MachD) (d : PartD), i = .int .i64 k ∧ sq = .int .i64 s ∧ k ≤ l.length ∧ AgLp w wr mb ib m d k s) (fun _ i _ => l.length - (intOf i).toNat)
  case atStart => exact ⟨0, 0, m4, d0, rfl, rfl, Nat.zero_le _, L5.out⟩
  case round =>
   obtain ⟨k, s, m, d, rfl, rfl, hk, hF⟩ := hrel
   have FS := Lib.hid hF
   have BW := Lib.hid (BL.out.old hF.a.n.f)
   clear hF
   rcases Nat.lt_or_ge k l.length with hlt | hge
   ·have lenk := hk
    obtain ⟨x, hx⟩ := get_of_lt hlt
    obtain ⟨oa', cap', hsl, hab⟩ := id BW.out
    injection hsl with e1 e2 e3
    subst e1 e3
    clear e2
    obtain ⟨a, rfl, hc, -⟩ := hab k x hx
    have HX := Lib.hid hx
    clear hab hx lenk
    by_cases h1 : x < 1
    ·go_wp2_with fail
     go_roundw
     case rel => exact ⟨k + 1, s, m, d, by go_num, rfl, by omega, FS.out.more⟩
     case measure => simp [intOf]; omega
    ·by_cases h2 : 50 < x
     ·go_wp2_with fail
      go_roundw
      case rel => exact ⟨k + 1, s, m, d, by go_num, rfl, by omega, FS.out.more⟩
      case measure => simp [intOf]; omega
     ·have hs := FS.out.a.s0
      have t0 : ∀ y : Lcl.InS (fun w' => Fr (fun _ => False) wr w'), y.w.cell? (a.add k) = some (.int .i64 x) := fun y => y.h.cel hc
      have z0 : ∀ y : Lcl.InS (fun w' => Fr (fun _ => False) wr w'), y.w.cell? ⟨ib, 1, none⟩ = some (.int .i64 0) := fun y => y.h.cel ((cell_of FS.out.ib 1).trans rfl)
      go_wp2_with fail
      refine Lcl.wp_region_calm (by kernel_rfl) [(true, [0, 1, 2, 4, 6]), (false, [3, 5]), (true, [7, 8])] #[0, 0, 3, 7, 0, 16, 0, 127, 255, 0, 1023] [0, 1, 2, 3, 4, 5, 6, 9] 2 #[true, true, true, true, true, true, true, true, true, false, false] (by kernel_rfl) (by kernel_rfl) (by kernel_rfl) (fun w' => Fr (fun _ => False) wr w') (Fr.same wr).drew (fun d c a v w h => by cases d <;> exact h) ?_
      simp only [Lcl.opsOf, List.map_cons, List.map_nil, List.getElem?_toArray, List.getElem?_cons_succ, List.getElem?_cons_zero, Option.getD_some]
      refine Lcl.wpCalm_t ?_
      repeat (go_big_quiet_step (rfl))
      refine wpQuiet_nil ?_
      refine Lcl.wpCalm_f ?_
      repeat (go_big_quiet_step (rfl))
      refine wpQuiet_nil ?_
      refine Lcl.wpCalm_t ?_
      repeat (go_big_quiet_step (rfl))
      refine wpQuiet_nil ?_
      refine Lcl.wpCalm_nil ?_
      clear t0 z0
      have F6 := Lib.hid (FS.out.old (Fr.same wr).drew)
      have DR : (wr.drew) = wr.drew := rfl
      clear DR
      generalize hwb : wr.drew = wb at *
      refine Lcl.wpG_one 9 rfl (by kernel_rfl) ?_
      have hz := heap_alloc_self wb (.cells #[.int .i64 0, .string ⟨#[]⟩, .int .i64 0, .int .i64 0, .int .i64 0, .bool false, .int .i64 0, .int .i64 0, .int .i64 0, .int .i64 0, .int .i64 0, .slice none 0 0, .int .i64 0, .string ⟨#[]⟩, .string ⟨#[]⟩, .slice none 0 0, .string ⟨#[]⟩, .int .i64 0, .int .i64 0, .slice none 0 0] 41)
      have fz := (Fr.same wb).alloc (.cells #[.int .i64 0, .string ⟨#[]⟩, .int .i64 0, .int .i64 0, .int .i64 0, .bool false, .int .i64 0, .int .i64 0, .int .i64 0, .int .i64 0, .int .i64 0, .slice none 0 0, .int .i64 0, .string ⟨#[]⟩, .string ⟨#[]⟩, .slice none 0 0, .string ⟨#[]⟩, .int .i64 0, .int .i64 0, .slice none 0 0] 41)
      have D6 := Lib.hid ((hwb ▸ (Fr.same wr).drew : Fr (fun _ => False) wr wb).tr fz)
      have bf := frRow fz (g := wb.heap.size) (.inr (Nat.le_refl _)) #[.int .i64 4, .string ⟨#[116]⟩, .int .i64 0, .int .i64 0, .int .i64 0, .bool false, .int .i64 0, .int .i64 x, .int .i64 0, .int .i64 0, .int .i64 s, .slice none 0 0, .int .i64 0, .string ⟨#[]⟩, .string ⟨#[]⟩, .slice none 0 0, .string ⟨#[]⟩, .int .i64 0, .int .i64 0, .slice none 0 0]
      have XQ := Lib.hid (setRow_heap _ wb.heap.size _ #[.int .i64 4, .string ⟨#[116]⟩, .int .i64 0, .int .i64 0, .int .i64 0, .bool false, .int .i64 0, .int .i64 x, .int .i64 0, .int .i64 0, .int .i64 s, .slice none 0 0, .int .i64 0, .string ⟨#[]⟩, .string ⟨#[]⟩, .slice none 0 0, .string ⟨#[]⟩, .int .i64 0, .int .i64 0, .slice none 0 0] 41 (0, 0) hz)
      have F7 := Lib.hid (F6.out.old bf)
      have DL := Lib.hid (fun i (h : d.T i) => ((F6.out.a.n.a.part _ (findP_mem F6.out.a.f)).lt i h).2)
      have HZ := Lib.hid hz
      clear F6 hc bf fz hz
      go_wp2_with fail
      refine ⟨fun _ _ => D6.out, ?_⟩
      clear D6
      generalize (wb.alloc (.cells #[.int .i64 0, .string ⟨#[]⟩, .int .i64 0, .int .i64 0, .int .i64 0, .bool false, .int .i64 0, .int .i64 0, .int .i64 0, .int .i64 0, .int .i64 0, .slice none 0 0, .int .i64 0, .string ⟨#[]⟩, .string ⟨#[]⟩, .slice none 0 0, .string ⟨#[]⟩, .int .i64 0, .int .i64 0, .slice none 0 0] 41)) = wz at *
      have P1 := Lib.hid (ag_first F7.out.a ST.out (by omega) (sp := x) (by omega))
      rw [prodV] at P1
      unfold agB tS at P1
      dsimp only at P1
      refine Lcl.wpG_run [10] _ _ _ (by kernel_rfl) ?_
      simp only [List.map_cons, List.map_nil, List.getElem?_toArray, List.getElem?_cons_succ, List.getElem?_cons_zero, Option.getD_some]
      have xq := XQ.out
      have hz := HZ.out
      go_wp2_with (first | (refine wpList_store_row rfl 41 _ _ rfl wb.heap.size #[.int .i64 4, .string ⟨#[116]⟩, .int .i64 0, .int .i64 0, .int .i64 0, .bool false, .int .i64 0, .int .i64 x, .int .i64 0, .int .i64 0, .int .i64 s, .slice none 0 0, .int .i64 0, .string ⟨#[]⟩, .string ⟨#[]⟩, .slice none 0 0, .string ⟨#[]⟩, .int .i64 0, .int .i64 0, .slice none 0 0] rfl rfl 41 _ hz (by kernel_rfl) rfl (ag_one x s) ?_) | (refine wpList_load_row rfl 41 _ rfl wb.heap.size rfl 41 _ (0, 0) _ xq Tryz.underlying41 rfl (by kernel_rfl) ?_))
      clear xq hz HZ
      have WB := Lib.hid (lt_of_heap XQ.out)
      generalize (wz.setRow wb.heap.size #[.int .i64 4, .string ⟨#[116]⟩, .int .i64 0, .int .i64 0, .int .i64 0, .bool false, .int .i64 0, .int .i64 x, .int .i64 0, .int .i64 0, .int .i64 s, .slice none 0 0, .int .i64 0, .string ⟨#[]⟩, .string ⟨#[]⟩, .slice none 0 0, .string ⟨#[]⟩, .int .i64 0, .int .i64 0, .slice none 0 0]) = w6 at *
      refine P1.out.mono ?_
      rintro e w7 ⟨he, m7, d7, hS7, hl7, f7, hA7⟩
      have he : e = .returned (tellV 0 s) := he
      subst he
      have A7 := Lib.hid hS7
      have NL7 := Lib.hid hl7
      have IB7 := Lib.hid ((f7.block _ (lt_of_heap F7.out.ib) (fun h => F7.out.na (.inr ⟨_, findP_mem F7.out.a.f, h⟩))).trans F7.out.ib)
      have XQ7 := Lib.hid ((f7.block _ (lt_of_heap XQ.out) (fun h => by have := DL.out _ h; omega)).trans XQ.out)
      have NA7 := Lib.hid (show ¬ m7.A ib from fun h => (hA7 _ h).elim F7.out.na fun h => by have := lt_of_heap F7.out.ib; omega)
      have lt67 := f7.size
      clear hS7 hl7 f7 hA7 P1 DL
      have HZ := heap_alloc_self w7 (.cells #[.int .i64 0, .int .i64 0, .int .i64 0, .int .i64 0, .int .i64 0, .int .i64 0, .int .i64 0, .slice none 0 0, .slice none 0 0, .slice none 0 0] 31)
      obtain ⟨bf, bx⟩ := box31 w7 (repA 0 s 0 0 0 0 0 (.slice none 0 0) (.slice none 0 0) (.slice none 0 0))
      have G8 := Lib.hid bx
      have A8 := Lib.hid (A7.out.old bf)
      have IB8 := Lib.hid (blk IB7.out bf fun h => h)
      have xq := blk XQ7.out bf fun h => h
      have P2 := Lib.hid (ag_second A8.out NL7.out ST.out (by omega) (sp := x) (by omega) hs)
      rw [prodV] at P2
      unfold agB tS at P2
      dsimp only at P2
      clear bf bx A7 IB7 XQ7 XQ
      go_wp2_with (first | (refine wpList_store31 rfl _ _ rfl w7.heap.size 0 s rfl rfl _ HZ rfl ?_) | (refine wpList_load_row rfl 41 _ rfl wb.heap.size rfl 41 _ (0, 0) _ xq Tryz.underlying41 rfl (by kernel_rfl) ?_))
      clear HZ xq
      generalize ((w7.alloc (.cells #[.int .i64 0, .int .i64 0, .int .i64 0, .int .i64 0, .int .i64 0, .int .i64 0, .int .i64 0, .slice none 0 0, .slice none 0 0, .slice none 0 0] 31)).setRow w7.heap.size (repA 0 s 0 0 0 0 0 (.slice none 0 0) (.slice none 0 0) (.slice none 0 0))) = w8 at *
      refine P2.out.mono ?_
      rintro e w9 ⟨rfl, hA9, f9⟩
      have IB9 := Lib.hid (blk IB8.out f9 fun h => h)
      have G9 := Lib.hid (blk G8.out f9 fun h => h)
      have A9 := Lib.hid hA9
      clear hA9 f9 P2 A8 IB8 G8
      have HZ := heap_alloc_self w9 (.cells #[.int .i64 0, .int .i64 0, .int .i64 0, .int .i64 0, .int .i64 0, .int .i64 0, .int .i64 0, .slice none 0 0, .slice none 0 0, .slice none 0 0] 31)
      obtain ⟨bf, bx⟩ := box31 w9 (repA 0 s 0 0 0 0 0 (.slice none 0 0) (.slice none 0 0) (.slice none 0 0))
      have y0 : ((w9.alloc (.cells #[.int .i64 0, .int .i64 0, .int .i64 0, .int .i64 0, .int .i64 0, .int .i64 0, .int .i64 0, .slice none 0 0, .slice none 0 0, .slice none 0 0] 31)).setRow w9.heap.size (repA 0 s 0 0 0 0 0 (.slice none 0 0) (.slice none 0 0) (.slice none 0 0))).cell? ⟨w7.heap.size, 0, none⟩ = some (.int .i64 0) := (cell_of (blk G9.out bf fun h => h) 0).trans rfl
      have y1 : ((w9.alloc (.cells #[.int .i64 0, .int .i64 0, .int .i64 0, .int .i64 0, .int .i64 0, .int .i64 0, .int .i64 0, .slice none 0 0, .slice none 0 0, .slice none 0 0] 31)).setRow w9.heap.size (repA 0 s 0 0 0 0 0 (.slice none 0 0) (.slice none 0 0) (.slice none 0 0))).cell? ⟨w7.heap.size, 1, none⟩ = some (.int .i64 s) := (cell_of (blk G9.out bf fun h => h) 1).trans rfl
      have z0 : ((w9.alloc (.cells #[.int .i64 0, .int .i64 0, .int .i64 0, .int .i64 0, .int .i64 0, .int .i64 0, .int .i64 0, .slice none 0 0, .slice none 0 0, .slice none 0 0] 31)).setRow w9.heap.size (repA 0 s 0 0 0 0 0 (.slice none 0 0) (.slice none 0 0) (.slice none 0 0))).cell? ⟨w9.heap.size, 0, none⟩ = some (.int .i64 0) := (cell_of bx 0).trans rfl
      have z1 : ((w9.alloc (.cells #[.int .i64 0, .int .i64 0, .int .i64 0, .int .i64 0, .int .i64 0, .int .i64 0, .int .i64 0, .slice none 0 0, .slice none 0 0, .slice none 0 0] 31)).setRow w9.heap.size (repA 0 s 0 0 0 0 0 (.slice none 0 0) (.slice none 0 0) (.slice none 0 0))).cell? ⟨w9.heap.size, 1, none⟩ = some (.int .i64 s) := (cell_of bx 1).trans rfl
      have L10 := Lib.hid (AgLp.mk (A9.out.old bf) NA7.out (blk IB9.out bf fun h => h))
      have hc := (BL.out.old L10.out.a.n.f).at HX.out
      have hs' := L10.out.a.s0
      clear bf bx IB9 G9 A9
      go_wp2_with (first | (refine wpList_store31 rfl _ _ rfl w9.heap.size 0 s rfl rfl _ HZ rfl ?_))
      go_roundw
      case rel => exact ⟨k + 1, s + x, m7, d7, by go_num, rfl, by omega, L10.out⟩
      case measure => simp [intOf]; omega
   ·obtain rfl : k = l.length := by omega
    have E1 := Lib.hid (ag_end FS.out.a)
    go_wp2_with fail
    refine E1.out.mono ?_
    rintro e wf ⟨he, ff⟩
    have he : e = .returned (.int .i64 s) := he
    subst he
    have S1 := Lib.hid (FS.out.a.old ff)
    have LV := Lib.hid (live_walk (ST.out.old S1.out.n.f) (by have := S1.out.n.f.size; omega))
    clear ff E1
    go_wp2_with fail
    refine LV.out.mono ?_
    rintro e wh ⟨rfl, fh⟩
    have FH := Lib.hid (S1.out.n.f.tr fh)
    clear fh LV
    go_wp2_with fail
    go_ret
    exact ⟨rfl, FH.out⟩
 ·go_enter Tryz.func4, Tryz.ntmps4
  go_wp2_with fail
  refine (live_walk ST.out (by omega)).mono ?_
  rintro e w2 ⟨rfl, f2⟩
  have F2 := Lib.hid f2
  clear f2
  go_wp2_with fail
  go_ret
  exact ⟨rfl, F2.out⟩
end
end Go.Proofs.YtfdhofabgdkkkaaGreatDoor
