/- Walks of the small functions of package index. -/
import Derived.Test.YtdlnafhhkpklmaaGreatDoorY18
import Derived.WalkKit
import Derived.WalkSpells
import Derived.WalkLawsBesides
import Derived.Lib.Hide
import Derived.Test.YtdlnafhhkpklmaaGreatDoorY2
import Derived.BigQuiet
import Derived.Deep.QuietTactic
namespace Go.Proofs.YtdlnafhhkpklmaaGreatDoor
open Go.RowKit
@[go_sem] theorem run_store_complex {P : Program} {a : Addr} {m : Mode} {w : World} (k : FloatKind) (x y : Nat) : (store a (.complex k x y) m).run P w = stored P w a (.complex k x y) m := run_store P w a _ m rfl
set_option maxHeartbeats 400000 in
theorem within_any (b : Nat) (x y z : Int) (w : World) (h0 : w.cell? ⟨b, 0, none⟩ = some (.int .i64 x)) (h1 : w.cell? ⟨b, 1, none⟩ = some (.int .i64 y)) (h2 : w.cell? ⟨b, 2, none⟩ = some (.int .i64 z))
  (hx : 0 ≤ x ∧ x ≤ 1099511627776) (hy : 0 ≤ y ∧ y ≤ 1099511627776) (hz : 0 ≤ z ∧ z ≤ 1099511627776) :
  Calls Tryz.prog 139 #[.slice (some ⟨b, 0, none⟩) 3 3] w fun e w' => e = .returned (.bool true) ∧ w = w' := by
 obtain ⟨hx1, hx2⟩ := hx
 obtain ⟨hy1, hy2⟩ := hy
 obtain ⟨hz1, hz2⟩ := hz
 go_enter Tryz.func139, Tryz.ntmps139
 go_wp2
 refine wp_loop_rounds 4 ?_
 rw [rounds_succ]
 go_wp2
 rw [rounds_succ]
 go_wp2
 rw [rounds_succ]
 go_wp2
 rw [rounds_succ]
 go_wp2
 go_ret
 exact ⟨rfl, rfl⟩
set_option maxHeartbeats 400000 in
theorem iwithin_no (b : Nat) (x y z : Int) (w : World) (h0 : w.cell? ⟨b, 0, none⟩ = some (.int .i64 x)) (h1 : w.cell? ⟨b, 1, none⟩ = some (.int .i64 y)) (h2 : w.cell? ⟨b, 2, none⟩ = some (.int .i64 z))
  (h : ¬ ((0 ≤ x ∧ x ≤ 1099511627776) ∧ (0 ≤ y ∧ y ≤ 1099511627776) ∧ (0 ≤ z ∧ z ≤ 1099511627776))) :
  Calls Tryz.prog 139 #[.slice (some ⟨b, 0, none⟩) 3 3] w fun e w' => e = .returned (.bool false) ∧ w = w' := by
 have hc : (x < 0 ∨ 1099511627776 < x) ∨ ((0 ≤ x ∧ x ≤ 1099511627776) ∧ (y < 0 ∨ 1099511627776 < y)) ∨ ((0 ≤ x ∧ x ≤ 1099511627776) ∧ (0 ≤ y ∧ y ≤ 1099511627776) ∧ (z < 0 ∨ 1099511627776 < z)) := by omega
 clear h
 rcases hc with hx | ⟨⟨hx1, hx2⟩, hy⟩ | ⟨⟨hx1, hx2⟩, ⟨hy1, hy2⟩, hz⟩
 ·rcases hx with hx | hx
  all_goals
   go_enter Tryz.func139, Tryz.ntmps139
   go_wp2
   refine wp_loop_rounds 1 ?_
   rw [rounds_succ]
   go_wp2
   go_ret
   exact ⟨rfl, rfl⟩
 ·rcases hy with hy | hy
  all_goals
   go_enter Tryz.func139, Tryz.ntmps139
   go_wp2
   refine wp_loop_rounds 2 ?_
   rw [rounds_succ]
   go_wp2
   rw [rounds_succ]
   go_wp2
   go_ret
   exact ⟨rfl, rfl⟩
 ·rcases hz with hz | hz
  all_goals
   go_enter Tryz.func139, Tryz.ntmps139
   go_wp2
   refine wp_loop_rounds 3 ?_
   rw [rounds_succ]
   go_wp2
   rw [rounds_succ]
   go_wp2
   rw [rounds_succ]
   go_wp2
   go_ret
   exact ⟨rfl, rfl⟩
theorem spotOf_any (o p : Nat) (w : World) :
  Calls Tryz.prog 141 #[.int .i64 o, .int .i64 p] w fun e w' => e = .returned (spotV o p) ∧ w = w' := by
 have : ∀ w, Calls Tryz.prog 141 #[.int .i64 o, .int .i64 p] w fun e w' => e = .returned (.complex .f64 (FloatKind.f64.nearest o) (FloatKind.f64.nearest p)) ∧ w = w' := by
  intro w
  go_enter Tryz.func141, Tryz.ntmps141
  go_wp2
  go_ret
  exact ⟨rfl, rfl⟩
 exact this w
theorem conv_back (n : Nat) (h : n ≤ big) (w : World) : (convert 203 3 (.float .f64 (near n))).run Tryz.prog w = .ok (.int .i64 n) w := by
 have hb := near_back n h
 have h1 : (n : Int) ≤ IntKind.i64.max := by simp [IntKind.max, IntKind.signed, IntKind.bits]; unfold big at h; omega
 have h2 : IntKind.i64.min ≤ (n : Int) := by simp [IntKind.min, IntKind.signed, IntKind.bits]
 have hf : (Conv.floatToInt .f64 (near n) .i64) = pure (.int .i64 n) := by
  unfold Conv.floatToInt
  simp only [hb, if_pos (And.intro h2 h1)]
 simp [convert, run_underlying Tryz.underlying203, run_underlying Tryz.underlying3, hf]
set_option maxHeartbeats 400000 in
theorem offset_any (o p : Nat) (h : o ≤ big) (w : World) :
  Calls Tryz.prog 125 #[spotV o p] w fun e w' => e = .returned (.int .i64 o) ∧ w = w' := by
 have hc := conv_back o h
 go_enter Tryz.func125, Tryz.ntmps125
 go_wp2
 go_ret
 exact ⟨rfl, rfl⟩
set_option maxHeartbeats 400000 in
theorem pos_any (o p : Nat) (h : p ≤ big) (w : World) :
  Calls Tryz.prog 140 #[spotV o p] w fun e w' => e = .returned (.int .i64 p) ∧ w = w' := by
 have hc := conv_back p h
 go_enter Tryz.func140, Tryz.ntmps140
 go_wp2
 go_ret
 exact ⟨rfl, rfl⟩
set_option maxHeartbeats 400000 in
theorem new_walk (n : Int) (w : World) (h1 : 1 ≤ n) (h2 : n ≤ 1000000) :
  Calls Tryz.prog 80 #[.int .i64 n] w fun e w' => e = .returned (.tuple #[.pointer (some ⟨w.heap.size, 0, none⟩), .int .i64 0]) ∧ w' = w.alloc (.cells #[.int .i64 n, .slice none 0 0, .slice none 0 0, .bool false, .complex .f64 0 0, .int .i64 0] 172) := by
 go_enter Tryz.func80, Tryz.ntmps80
 go_wp2
 go_ret2
 exact ⟨rfl, rfl⟩
set_option maxHeartbeats 400000 in
theorem ahead_zero (b : Addr) (w : World) :
  Calls Tryz.prog 122 #[.pointer (some b), .int .i64 0] w fun e w' => e = .returned (.int .i64 0) ∧ w = w' := by
 go_enter Tryz.func122, Tryz.ntmps122
 go_wp2
 go_ret
 exact ⟨rfl, rfl⟩
set_option maxHeartbeats 400000 in
theorem ahead_some (b g : Nat) (n cap k : Nat) (o p : Nat) (w : World) (hk : k < n) (hn : n ≤ 1000) (h1 : w.cell? ⟨b, 1, none⟩ = some (.slice (some ⟨g, 0, none⟩) n cap)) (h2 : w.cell? ⟨g, k, none⟩ = some (spotV o p)) (hp : p ≤ big) :
  Calls Tryz.prog 122 #[.pointer (some ⟨b, 0, none⟩), .int .i64 ((k : Int) + 1)] w fun e w' => e = .returned (.int .i64 p) ∧ w = w' := by
 have hz : (((k : Int) + 1) == 0) = false := by rw [beq_eq_false_iff_ne]; omega
 go_enter Tryz.func122, Tryz.ntmps122
 go_wp2_with fail
 refine (pos_any _ _ hp _).mono ?_
 rintro e w' ⟨rfl, rfl⟩
 go_wp2
 go_ret
 exact ⟨rfl, rfl⟩
end Go.Proofs.YtdlnafhhkpklmaaGreatDoor
/- Walk of Add. -/
namespace Go.Proofs.YtdlnafhhkpklmaaGreatDoor
open Go.RowKit Go.Fm Go.BigFrame
set_option linter.unusedSimpArgs false
set_option linter.unusedVariables false
/-- What Add leaves. -/
def AddPost (B : Nat) (w : World) (b : Nat) (S0 : Nat → Prop) (x : Ix) (w' : World) : Prop :=
 ∃ S', Ix.rep B w' b x S' ∧ (∀ k, S' k → S0 k ∨ w.heap.size ≤ k) ∧ Fr S0 w w'
theorem info3 : (Tryz.prog.info? 3).map (fun i => (i.zero, i.size, i.bytes)) = some (some (.int .i64 0), 1, 8) := by kernel_rfl
theorem info49 : (Tryz.prog.info? 170).map (fun i => (i.zero, i.size, i.bytes)) = some (some (.complex .f64 0 0), 1, 16) := by kernel_rfl
set_option maxHeartbeats 400000 in
theorem add_out (b : Addr) (o p t : Int) (w : World) (h : ¬ ((0 ≤ o ∧ o ≤ 1099511627776) ∧ (0 ≤ p ∧ p ≤ 1099511627776) ∧ (0 ≤ t ∧ t ≤ 1099511627776))) :
  Calls Tryz.prog 112 #[.pointer (some b), .int .i64 o, .int .i64 p, .int .i64 t] w fun e w' => e = .returned (.int .i64 1) ∧ Fr (fun _ => False) w w' := by
 go_enter Tryz.func112, Tryz.ntmps112
 go_wp2_with fail
 refine (iwithin_no _ o p t _ ?_ ?_ ?_ h).mono ?_
 all_goals try (simp; done)
 rintro e w' ⟨rfl, rfl⟩
 go_wp2_with fail
 go_ret
 exact ⟨rfl, (Fr.refl _ _).alloc _⟩
set_option maxHeartbeats 400000 in
theorem add_low (b : Nat) (every : Nat) (sp tm : Value) (lo lp latest : Nat) (o p t : Nat) (w : World) (hb : w.heap[b]? = some (.cells (ixCells every sp tm true lo lp latest) 172 (0, 0)))
  (ho : o ≤ big) (hp : p ≤ big) (ht : t ≤ big) (hlo : lo ≤ big) (hlp : lp ≤ big) (h : o ≤ lo ∨ p ≤ lp) :
  Calls Tryz.prog 112 #[.pointer (some ⟨b, 0, none⟩), .int .i64 o, .int .i64 p, .int .i64 t] w fun e w' => e = .returned (.int .i64 1) ∧ Fr (fun _ => False) w w' := by
 have hlt := lt_of_heap hb
 have c3 : w.cell? ⟨b, 3, none⟩ = some (.bool true) := by simp [World.cell?, hb, ixCells]
 have c4 : w.cell? ⟨b, 4, none⟩ = some (spotV lo lp) := by simp [World.cell?, hb, ixCells]
 clear hb
 unfold big at ho hp ht
 by_cases h1 : o ≤ lo
 ·clear h
  go_enter Tryz.func112, Tryz.ntmps112
  go_wp2_with fail
  refine (within_any _ o p t _ ?_ ?_ ?_ ?_ ?_ ?_).mono ?_
  all_goals try (first | (simp; done) | omega)
  rintro e w' ⟨rfl, rfl⟩
  go_wp2_with fail
  refine (offset_any _ _ hlo _).mono ?_
  rintro e w' ⟨rfl, rfl⟩
  go_wp2_with fail
  go_ret
  exact ⟨rfl, (Fr.refl _ _).alloc _⟩
 ·have h2 : p ≤ lp := h.resolve_left h1
  have h1' : lo < o := by omega
  clear h h1
  go_enter Tryz.func112, Tryz.ntmps112
  go_wp2_with fail
  refine (within_any _ o p t _ ?_ ?_ ?_ ?_ ?_ ?_).mono ?_
  all_goals try (first | (simp; done) | omega)
  rintro e w' ⟨rfl, rfl⟩
  go_wp2_with fail
  refine (offset_any _ _ hlo _).mono ?_
  rintro e w' ⟨rfl, rfl⟩
  go_wp2_with fail
  refine (pos_any _ _ hlp _).mono ?_
  rintro e w' ⟨rfl, rfl⟩
  go_wp2_with fail
  go_ret
  exact ⟨rfl, (Fr.refl _ _).alloc _⟩
end Go.Proofs.YtdlnafhhkpklmaaGreatDoor
/- Walk of Add: the first item. -/
namespace Go.Proofs.YtdlnafhhkpklmaaGreatDoor
open Go.RowKit Go.Fm Go.BigFrame
set_option linter.unusedSimpArgs false
set_option linter.unusedVariables false
set_option maxHeartbeats 2000000 in
theorem add_first (b : Nat) (every : Nat) (sa ta : Option Addr) (sc tc : Nat) (lo lp latest : Nat) (o p lat : Nat) (B n : Nat) (w : World) (hn : n = 0) (HR : Ix.repV B w b ⟨every, [], false, lo, lp, latest⟩ (.slice sa n sc) (.slice ta n tc))
  (hBw : B ≤ w.heap.size) (ho : o ≤ big) (hp : p ≤ big) (ht : lat ≤ big) :
  Calls Tryz.prog 112 #[.pointer (some ⟨b, 0, none⟩), .int .i64 o, .int .i64 p, .int .i64 lat] w fun e w' => e = .returned (.int .i64 0) ∧ AddPost B w b (foot b (.slice sa n sc) (.slice ta n tc)) ⟨every, [⟨o, p, lat⟩], true, o, p, lat⟩ w' := by
 have hb := HR.hb
 have hlt := lt_of_heap hb
 have c1 : w.cell? ⟨b, 1, none⟩ = some (.slice sa n sc) := by simp [World.cell?, hb, ixCells]
 have c3 : w.cell? ⟨b, 3, none⟩ = some (.bool false) := by simp [World.cell?, hb, ixCells]
 have c4 : w.cell? ⟨b, 4, none⟩ = some (spotV lo lp) := by simp [World.cell?, hb, ixCells]
 have c5 : w.cell? ⟨b, 5, none⟩ = some (.int .i64 latest) := by simp [World.cell?, hb, ixCells]
 have f : ∀ k, w.frozen? ⟨b, k, none⟩ = false := by simp [World.frozen?, hb]
 have f3 := f 3
 have f4 := f 4
 have f5 := f 5
 have hA : ∀ W, W.heap[b]? = some (.cells (ixCells every (.slice sa n sc) (.slice ta n tc) true o p lat) 172 (0, 0)) → Fr (fun k => k = b) w W → ∀ nq, A8 (foot b (.slice sa n sc) (.slice ta n tc)) w B b (ixCells every (.slice sa n sc) (.slice ta n tc) true o p lat) (.slice sa n sc) n [] (.slice ta n tc) n [] (W.drewN nq) := by
  intro W h1 h2 nq
  subst hn
  refine A8.drewN ⟨h1, own_eq HR.hs fun k hk => h2.block k (own_lt HR.hs hk).2 (fun e => HR.sb (e ▸ hk)), own_eq HR.ht fun k hk => h2.block k (own_lt HR.ht hk).2 (fun e => HR.tb (e ▸ hk)), h2.mono (fun i hi => .inl (.inl hi)), .inl rfl, hlt, hBw, HR.sb, HR.tb, HR.st, fun k hk => .inl (.inr (.inl hk)), fun k hk => .inl (.inr (.inr hk))⟩ nq
 have hD : ∀ v1 v2 W (u : Unit), A8 (foot b (.slice sa n sc) (.slice ta n tc)) w B b (ixCells every (.slice sa n sc) (.slice ta n tc) true o p lat) v1 (n + 1) ([] ++ [.complex .f64 (near o) (near p)]) v2 (n + 1) ([] ++ [.int .i64 lat]) W → AddPost B w b (foot b (.slice sa n sc) (.slice ta n tc)) ⟨every, [⟨o, p, lat⟩], true, o, p, lat⟩ ((W.setCell ⟨b, 1, none⟩ v1).setCell ⟨b, 2, none⟩ v2) := by
  intro v1 v2 W _ h
  subst hn
  exact h.done HR.hB rfl rfl rfl rfl
 have hD : ∀ v1 v2 W, _ → _ := fun v1 v2 W => hD v1 v2 W ()
 obtain ⟨i3, hi3, hz3, hs3, hb3⟩ := info_parts info3
 obtain ⟨i49, hi49, hz49, hs49, hb49⟩ := info_parts info49
 have HB := Lib.hid hb
 have HN := Lib.hid hn
 have hq0 : ((n : Int) == 0) = true := by rw [hn]; rfl
 have hn1 : n ≤ 1000 := by omega
 clear hb f HR hn
 unfold big at ho hp ht
 go_enter Tryz.func112, Tryz.ntmps112
 go_wp2_with fail
 refine (within_any _ o p lat _ ?_ ?_ ?_ ?_ ?_ ?_).mono ?_
 all_goals try (first | (simp; done) | omega)
 rintro e w' ⟨rfl, rfl⟩
 go_wp2_with fail
 have hx5 : ∀ x : Lcl.InS (fun w' => w'.cell? ⟨b, 5, none⟩ = some (.int .i64 lat)), x.w.cell? ⟨b, 5, none⟩ = some (.int .i64 lat) := fun x => x.h
 refine Lcl.wp_region_calm (by kernel_rfl) [(true, [0, 1, 2, 3, 4, 6, 7, 8, 10]), (false, [9]), (true, [11])] #[0, 0, 0, 0, 0, 24, 0, 64, 192, 448, 0, 1984, 1017, 5113, 13305, 29691, 62459, 127995, 262143, 524287, 1048575] [0, 1, 2, 3, 4, 5, 6, 7, 8, 9, 10] 10 #[true, true, true, true, true, false, true, true, true, true, true, true, false, false, false, false, false, false, false, false, false] (by kernel_rfl) (by kernel_rfl) (by kernel_rfl) (fun w' => w'.cell? ⟨b, 5, none⟩ = some (.int .i64 lat)) ?_ (fun d c a v w h => by cases d <;> exact h) ?_
 ·have h9 := heap_setCell_self HB.out (o := 5) (.int .i64 lat)
  rw [World.cell?_drew, World.cell?_alloc_lt _ _ _ (by simpa [World.setCell] using hlt)]
  simp [World.cell?, h9, ixCells]
 simp only [Lcl.opsOf, List.map_cons, List.map_nil, List.getElem?_toArray, List.getElem?_cons_succ, List.getElem?_cons_zero, Option.getD_some]
 refine Lcl.wpCalm_t ?_
 repeat (go_big_quiet_step (rfl))
 refine wpQuiet_nil ?_
 refine Lcl.wpCalm_f ?_
 repeat (go_big_quiet_step (rfl))
 refine wpQuiet_nil ?_
 refine Lcl.wpCalm_t ?_
 repeat (go_big_quiet_step (rfl))
 refine wpQuiet_nil ?_
 refine Lcl.wpCalm_nil ?_
 refine Lcl.wpG_one 5 rfl (by kernel_rfl) ?_
 go_wp2_with fail
 refine (spotOf_any _ _ _).mono ?_
 rintro e w' ⟨rfl, rfl⟩
 go_wp2_with fail
 refine ⟨fun _ h => h, ?_⟩
 clear hx5
 refine Lcl.wpG_run [12, 13, 14, 15, 16, 17, 18, 19, 20] _ _ _ (by kernel_rfl) ?_
 simp only [List.map_cons, List.map_nil, List.getElem?_toArray, List.getElem?_cons_succ, List.getElem?_cons_zero, Option.getD_some]
 go_wp2_with fail
 have hW1 : (((((w.setCell ⟨b, 5, none⟩ (.int .i64 lat)).setCell ⟨b, 3, none⟩ (.bool true)).setCell ⟨b, 4, none⟩ (.complex .f64 (near o) (near p))).setCell ⟨b, 5, none⟩ (.int .i64 lat)).alloc (.cells #[.int .i64 o, .int .i64 p, .int .i64 lat] 3)).drew.heap[b]? =
   some (.cells (ixCells every (.slice sa n sc) (.slice ta n tc) true o p lat) 172 (0, 0)) := by
  rw [heap_drew, heap_alloc_lt _ (by simpa [World.setCell] using hlt)]
  rw [heap_setCell_self (heap_setCell_self (heap_setCell_self (heap_setCell_self HB.out _) _) _) _]
  rfl
 have hW2 : Fr (fun k => k = b) w (((((w.setCell ⟨b, 5, none⟩ (.int .i64 lat)).setCell ⟨b, 3, none⟩ (.bool true)).setCell ⟨b, 4, none⟩ (.complex .f64 (near o) (near p))).setCell ⟨b, 5, none⟩ (.int .i64 lat)).alloc (.cells #[.int .i64 o, .int .i64 p, .int .i64 lat] 3)).drew :=
  Fr.drew (Fr.alloc (Fr.setCell (p := ⟨b, 5, none⟩) (Fr.setCell (p := ⟨b, 4, none⟩) (Fr.setCell (p := ⟨b, 3, none⟩) (Fr.setCell (p := ⟨b, 5, none⟩) (Fr.refl (fun k => k = b) w) (.inl rfl) (.int .i64 lat)) (.inl rfl) (.bool true)) (.inl rfl) (.complex .f64 (near o) (near p))) (.inl rfl) (.int .i64 lat)) (.cells #[.int .i64 o, .int .i64 p, .int .i64 lat] 3))
 generalize (((((w.setCell ⟨b, 5, none⟩ (.int .i64 lat)).setCell ⟨b, 3, none⟩ (.bool true)).setCell ⟨b, 4, none⟩ (.complex .f64 (near o) (near p))).setCell ⟨b, 5, none⟩ (.int .i64 lat)).alloc (.cells #[.int .i64 o, .int .i64 p, .int .i64 lat] 3)).drew = W at *
 clear c1 c3 c4 c5 f3 f4 f5
 have c1 : W.cell? ⟨b, 1, none⟩ = some (.slice sa n sc) := by simp [World.cell?, hW1, ixCells]
 have HW1 := Lib.hid hW1
 clear hW1
 go_quiet (fail)
 go_wp2_with fail
 have HA := hA W HW1.out hW2 nq
 clear HW1 hW2 c1 hA
 generalize W.drewN nq = W8 at *
 have hx1 : ∀ x : Lcl.InS (fun w' => w'.heap[b]? = some (.cells (ixCells every (.slice sa n sc) (.slice ta n tc) true o p lat) 172 (0, 0))), x.w.cell? ⟨b, 1, none⟩ = some (.slice sa n sc) := fun x => by simp [World.cell?, x.h, ixCells]
 have hx2 : ∀ x : Lcl.InS (fun w' => w'.heap[b]? = some (.cells (ixCells every (.slice sa n sc) (.slice ta n tc) true o p lat) 172 (0, 0))), x.w.cell? ⟨b, 2, none⟩ = some (.slice ta n tc) := fun x => by simp [World.cell?, x.h, ixCells]
 have hx4 : ∀ x : Lcl.InS (fun w' => w'.heap[b]? = some (.cells (ixCells every (.slice sa n sc) (.slice ta n tc) true o p lat) 172 (0, 0))), x.w.cell? ⟨b, 4, none⟩ = some (.complex .f64 (near o) (near p)) := fun x => by simp [World.cell?, x.h, ixCells]
 have hx5 : ∀ x : Lcl.InS (fun w' => w'.heap[b]? = some (.cells (ixCells every (.slice sa n sc) (.slice ta n tc) true o p lat) 172 (0, 0))), x.w.cell? ⟨b, 5, none⟩ = some (.int .i64 lat) := fun x => by simp [World.cell?, x.h, ixCells]
 refine Lcl.wp_region_calm (by kernel_rfl) [(true, [0, 1, 2, 3, 4, 6, 7, 8, 12, 13, 14, 16, 17, 18]), (false, [5, 9, 15, 19])] #[0, 0, 0, 4, 12, 28, 0, 64, 192, 448, 960, 2044, 0, 4096, 12288, 28672, 0, 65536, 196608, 458752, 983040, 2097148, 4194301, 8388605, 16777213, 33554431, 67108863, 134217727] [0, 1, 2, 3, 4, 5, 6, 7, 8, 9, 10, 11, 12, 13, 14, 15, 16, 17, 18, 19, 20] 10 #[true, true, true, true, true, true, true, true, true, true, false, false, true, true, true, true, true, true, true, true, false, false, false, false, false, false, false, false] (by kernel_rfl) (by kernel_rfl) (by kernel_rfl) (fun w' => w'.heap[b]? = some (.cells (ixCells every (.slice sa n sc) (.slice ta n tc) true o p lat) 172 (0, 0))) HA.hb (fun d c a v w h => by cases d <;> exact h) ?_
 simp only [Lcl.opsOf, List.map_cons, List.map_nil, List.getElem?_toArray, List.getElem?_cons_succ, List.getElem?_cons_zero, Option.getD_some]
 refine Lcl.wpCalm_t ?_
 repeat (go_big_quiet_step (rfl))
 refine wpQuiet_nil ?_
 refine Lcl.wpCalm_f ?_
 repeat (go_big_quiet_step (rfl))
 refine wpQuiet_nil ?_
 refine Lcl.wpCalm_nil ?_
 clear hx1 hx2 hx4 hx5
 have HA := HA.drew
 generalize W8.drew = W9 at *
 refine Lcl.wpG_two 10 20 rfl rfl (by kernel_rfl) ?_ ?_
 ·simp only [Act.put, List.setIfInBounds_toArray, List.set_cons_zero, List.set_cons_succ]
  go_wp2_with fail
  have HA1 := HA.alloc (.cells #[.complex .f64 (near o) (near p)] 170)
  have hc1 : (W9.alloc (.cells #[.complex .f64 (near o) (near p)] 170)).cell? ⟨W9.heap.size, 0, none⟩ = some (.complex .f64 (near o) (near p)) := by rw [cell_alloc_new]; rfl
  refine And.intro (fun _ _ => HA1.hb) ?_
  have hne1 : (Value.slice ta n tc).ownBlock ≠ some W9.heap.size := fun e => by have := (own_lt HA.ht e).2; omega
  have hnd1 : (Value.slice sa n sc).ownBlock ≠ some (W9.heap.size + 1) := fun e => by have := (own_lt HA.hs e).2; omega
  generalize hG1 : W9.heap.size = G1 at *
  have hWs : (W9.alloc (.cells #[.complex .f64 (near o) (near p)] 170)).heap.size = G1 + 1 := by rw [← hG1]; simp
  have HWs := Lib.hid hWs
  clear hG1 hWs
  generalize W9.alloc (.cells #[.complex .f64 (near o) (near p)] 170) = Wa at *
  refine Lcl.wpG_two 11 20 rfl rfl (by kernel_rfl) ?_ ?_
  ·refine wpList_append_own2 _ rfl (.tmp 101) (.tmp 106) 168 rfl B 170 i49 (.complex .f64 0 0) 1 16 Tryz.underlying168 hi49 hz49 hs49 hb49 rfl (by decide) (.slice sa n sc) n _ rfl HA1.hs ⟨G1, 0, none⟩ 1 1 [.complex .f64 (near o) (near p)] rfl rfl ?_ ?_ ?_ ?_ HA1.size ?_
   ·intro j u hj
    match j, hj with
    | 0, hj => simp at hj; subst hj; exact hc1
   ·intro u hu; simp at hu; subst hu; rfl
   ·unfold maxLen; omega
   ·omega
   intro v1 W1 hov1 hgv1 hvv1
   have HA2 := HA1.app1 hov1 hgv1 hvv1
   refine And.intro (fun _ _ => HA2.hb) ?_
   refine Lcl.wpG_one 20 rfl (by kernel_rfl) ?_
   simp only [Act.put, List.setIfInBounds_toArray, List.set_cons_zero, List.set_cons_succ]
   go_wp2_with fail
   have HA3 := HA2.alloc (.cells #[.int .i64 lat] 3)
   have hc2 : (W1.alloc (.cells #[.int .i64 lat] 3)).cell? ⟨W1.heap.size, 0, none⟩ = some (.int .i64 lat) := by rw [cell_alloc_new]; rfl
   refine And.intro (fun _ _ => HA3.hb) ?_
   refine Lcl.wpG_one 21 rfl (by kernel_rfl) ?_
   refine wpList_append_own2 _ rfl (.tmp 111) (.tmp 116) 49 rfl B 3 i3 (.int .i64 0) 1 8 Tryz.underlying49 hi3 hz3 hs3 hb3 rfl (by decide) (.slice ta n tc) n _ rfl HA3.ht ⟨W1.heap.size, 0, none⟩ 1 1 [.int .i64 lat] rfl rfl ?_ ?_ ?_ ?_ HA3.size ?_
   ·intro j u hj
    match j, hj with
    | 0, hj => simp at hj; subst hj; exact hc2
   ·intro u hu; simp at hu; subst hu; rfl
   ·unfold maxLen; omega
   ·omega
   intro v2 WE hov2 hgv2 hvv2
   have HAE := HA3.app2 hov2 hgv2 hvv2
   refine And.intro (fun _ _ => HAE.hb) ?_
   refine Lcl.wpG_run [22, 23, 24, 25, 26, 27] _ _ _ (by kernel_rfl) ?_
   obtain ⟨x1, y1, rfl, -, -⟩ := own_slice HAE.hs
   obtain ⟨x2, y2, rfl, -, -⟩ := own_slice HAE.ht
   have k1 : WE.cell? ⟨b, 1, none⟩ = some (.slice sa n sc) := by simp [World.cell?, HAE.hb, ixCells]
   have k2 : WE.cell? ⟨b, 2, none⟩ = some (.slice ta n tc) := by simp [World.cell?, HAE.hb, ixCells]
   have k3 : WE.frozen? ⟨b, 1, none⟩ = false := by simp [World.frozen?, HAE.hb]
   have k4 : WE.frozen? ⟨b, 2, none⟩ = false := by simp [World.frozen?, HAE.hb]
   have HD := Lib.hid (hD _ _ _ HAE)
   clear HAE HA
   simp only [Act.put, List.setIfInBounds_toArray, List.set_cons_zero, List.set_cons_succ, List.map_cons, List.map_nil, List.getElem?_toArray, List.getElem?_cons_succ, List.getElem?_cons_zero, Option.getD_some]
   go_wp2_with fail
   go_ret
   exact ⟨rfl, HD.out⟩
  ·simp only [Act.put, List.setIfInBounds_toArray, List.set_cons_zero, List.set_cons_succ]
   go_wp2_with fail
   have HA2 := HA1.alloc (.cells #[.int .i64 lat] 3)
   have hc2 : (Wa.alloc (.cells #[.int .i64 lat] 3)).cell? ⟨Wa.heap.size, 0, none⟩ = some (.int .i64 lat) := by rw [cell_alloc_new]; rfl
   refine And.intro (fun _ _ => HA2.hb) ?_
   have hc1 : (Wa.alloc (.cells #[.int .i64 lat] 3)).cell? ⟨G1, 0, none⟩ = some (.complex .f64 (near o) (near p)) := (World.cell?_alloc_lt _ _ _ (by show G1 < Wa.heap.size; have := HWs.out; omega)).trans hc1
   refine Lcl.wpG_one 11 rfl (by kernel_rfl) ?_
   refine wpList_append_own2 _ rfl (.tmp 101) (.tmp 106) 168 rfl B 170 i49 (.complex .f64 0 0) 1 16 Tryz.underlying168 hi49 hz49 hs49 hb49 rfl (by decide) (.slice sa n sc) n _ rfl HA2.hs ⟨G1, 0, none⟩ 1 1 [.complex .f64 (near o) (near p)] rfl rfl ?_ ?_ ?_ ?_ HA2.size ?_
   ·intro j u hj
    match j, hj with
    | 0, hj => simp at hj; subst hj; exact hc1
   ·intro u hu; simp at hu; subst hu; rfl
   ·unfold maxLen; omega
   ·omega
   intro v1 W1 hov1 hgv1 hvv1
   have HA3 := HA2.app1 hov1 hgv1 hvv1
   refine And.intro (fun _ _ => HA3.hb) ?_
   have hc2 := cell_grown hgv1 hc2 (by rw [HWs.out]; exact hnd1)
   refine Lcl.wpG_one 21 rfl (by kernel_rfl) ?_
   refine wpList_append_own2 _ rfl (.tmp 111) (.tmp 116) 49 rfl B 3 i3 (.int .i64 0) 1 8 Tryz.underlying49 hi3 hz3 hs3 hb3 rfl (by decide) (.slice ta n tc) n _ rfl HA3.ht ⟨Wa.heap.size, 0, none⟩ 1 1 [.int .i64 lat] rfl rfl ?_ ?_ ?_ ?_ HA3.size ?_
   ·intro j u hj
    match j, hj with
    | 0, hj => simp at hj; subst hj; exact hc2
   ·intro u hu; simp at hu; subst hu; rfl
   ·unfold maxLen; omega
   ·omega
   intro v2 WE hov2 hgv2 hvv2
   have HAE := HA3.app2 hov2 hgv2 hvv2
   refine And.intro (fun _ _ => HAE.hb) ?_
   refine Lcl.wpG_run [22, 23, 24, 25, 26, 27] _ _ _ (by kernel_rfl) ?_
   obtain ⟨x1, y1, rfl, -, -⟩ := own_slice HAE.hs
   obtain ⟨x2, y2, rfl, -, -⟩ := own_slice HAE.ht
   have k1 : WE.cell? ⟨b, 1, none⟩ = some (.slice sa n sc) := by simp [World.cell?, HAE.hb, ixCells]
   have k2 : WE.cell? ⟨b, 2, none⟩ = some (.slice ta n tc) := by simp [World.cell?, HAE.hb, ixCells]
   have k3 : WE.frozen? ⟨b, 1, none⟩ = false := by simp [World.frozen?, HAE.hb]
   have k4 : WE.frozen? ⟨b, 2, none⟩ = false := by simp [World.frozen?, HAE.hb]
   have HD := Lib.hid (hD _ _ _ HAE)
   clear HAE HA
   simp only [Act.put, List.setIfInBounds_toArray, List.set_cons_zero, List.set_cons_succ, List.map_cons, List.map_nil, List.getElem?_toArray, List.getElem?_cons_succ, List.getElem?_cons_zero, Option.getD_some]
   go_wp2_with fail
   go_ret
   exact ⟨rfl, HD.out⟩
 ·simp only [Act.put, List.setIfInBounds_toArray, List.set_cons_zero, List.set_cons_succ]
  go_wp2_with fail
  have HA1 := HA.alloc (.cells #[.int .i64 lat] 3)
  have hc2 : (W9.alloc (.cells #[.int .i64 lat] 3)).cell? ⟨W9.heap.size, 0, none⟩ = some (.int .i64 lat) := by rw [cell_alloc_new]; rfl
  refine And.intro (fun _ _ => HA1.hb) ?_
  have hnd1 : (Value.slice sa n sc).ownBlock ≠ some W9.heap.size := fun e => by have := (own_lt HA.hs e).2; omega
  generalize hG1 : W9.heap.size = G1 at *
  have hWs : (W9.alloc (.cells #[.int .i64 lat] 3)).heap.size = G1 + 1 := by rw [← hG1]; simp
  have HWs := Lib.hid hWs
  clear hG1 hWs
  generalize W9.alloc (.cells #[.int .i64 lat] 3) = Wa at *
  refine Lcl.wpG_one 10 rfl (by kernel_rfl) ?_
  simp only [Act.put, List.setIfInBounds_toArray, List.set_cons_zero, List.set_cons_succ]
  go_wp2_with fail
  have HA2 := HA1.alloc (.cells #[.complex .f64 (near o) (near p)] 170)
  have hc1 : (Wa.alloc (.cells #[.complex .f64 (near o) (near p)] 170)).cell? ⟨Wa.heap.size, 0, none⟩ = some (.complex .f64 (near o) (near p)) := by rw [cell_alloc_new]; rfl
  refine And.intro (fun _ _ => HA2.hb) ?_
  have hc2 : (Wa.alloc (.cells #[.complex .f64 (near o) (near p)] 170)).cell? ⟨G1, 0, none⟩ = some (.int .i64 lat) := (World.cell?_alloc_lt _ _ _ (by show G1 < Wa.heap.size; have := HWs.out; omega)).trans hc2
  refine Lcl.wpG_one 11 rfl (by kernel_rfl) ?_
  refine wpList_append_own2 _ rfl (.tmp 101) (.tmp 106) 168 rfl B 170 i49 (.complex .f64 0 0) 1 16 Tryz.underlying168 hi49 hz49 hs49 hb49 rfl (by decide) (.slice sa n sc) n _ rfl HA2.hs ⟨Wa.heap.size, 0, none⟩ 1 1 [.complex .f64 (near o) (near p)] rfl rfl ?_ ?_ ?_ ?_ HA2.size ?_
  ·intro j u hj
   match j, hj with
   | 0, hj => simp at hj; subst hj; exact hc1
  ·intro u hu; simp at hu; subst hu; rfl
  ·unfold maxLen; omega
  ·omega
  intro v1 W1 hov1 hgv1 hvv1
  have HA3 := HA2.app1 hov1 hgv1 hvv1
  refine And.intro (fun _ _ => HA3.hb) ?_
  have hc2 := cell_grown hgv1 hc2 hnd1
  refine Lcl.wpG_one 21 rfl (by kernel_rfl) ?_
  refine wpList_append_own2 _ rfl (.tmp 111) (.tmp 116) 49 rfl B 3 i3 (.int .i64 0) 1 8 Tryz.underlying49 hi3 hz3 hs3 hb3 rfl (by decide) (.slice ta n tc) n _ rfl HA3.ht ⟨G1, 0, none⟩ 1 1 [.int .i64 lat] rfl rfl ?_ ?_ ?_ ?_ HA3.size ?_
  ·intro j u hj
   match j, hj with
   | 0, hj => simp at hj; subst hj; exact hc2
  ·intro u hu; simp at hu; subst hu; rfl
  ·unfold maxLen; omega
  ·omega
  intro v2 WE hov2 hgv2 hvv2
  have HAE := HA3.app2 hov2 hgv2 hvv2
  refine And.intro (fun _ _ => HAE.hb) ?_
  refine Lcl.wpG_run [22, 23, 24, 25, 26, 27] _ _ _ (by kernel_rfl) ?_
  obtain ⟨x1, y1, rfl, -, -⟩ := own_slice HAE.hs
  obtain ⟨x2, y2, rfl, -, -⟩ := own_slice HAE.ht
  have k1 : WE.cell? ⟨b, 1, none⟩ = some (.slice sa n sc) := by simp [World.cell?, HAE.hb, ixCells]
  have k2 : WE.cell? ⟨b, 2, none⟩ = some (.slice ta n tc) := by simp [World.cell?, HAE.hb, ixCells]
  have k3 : WE.frozen? ⟨b, 1, none⟩ = false := by simp [World.frozen?, HAE.hb]
  have k4 : WE.frozen? ⟨b, 2, none⟩ = false := by simp [World.frozen?, HAE.hb]
  have HD := Lib.hid (hD _ _ _ HAE)
  clear HAE HA
  simp only [Act.put, List.setIfInBounds_toArray, List.set_cons_zero, List.set_cons_succ, List.map_cons, List.map_nil, List.getElem?_toArray, List.getElem?_cons_succ, List.getElem?_cons_zero, Option.getD_some]
  go_wp2_with fail
  go_ret
  exact ⟨rfl, HD.out⟩
end Go.Proofs.YtdlnafhhkpklmaaGreatDoor
