/- Walk of Add: a later item, with and without an entry. -/
import Derived.Test.YtdlnafhhkpklmaaGreatDoorY19
import Derived.BigQuiet
import Derived.Deep.QuietTactic
namespace Go.Proofs.YtdlnafhhkpklmaaGreatDoor
open Go.RowKit Go.Fm Go.BigFrame
set_option linter.unusedSimpArgs false
set_option linter.unusedVariables false
set_option maxRecDepth 100000 in
theorem last_spot {w : World} {B n : Nat} {sa : Option Addr} {sc : Nat} {es : List E} (h : w.ownsRow B 170 1 (.slice sa n sc) n (spots es)) (hn : n = es.length) {e : E} (he : es.getLast? = some e) :
  ∃ g, sa = some ⟨g, 0, none⟩ ∧ w.cell? ⟨g, n - 1, none⟩ = some (spotV e.o e.p) := by
 have hne : es ≠ [] := by rintro rfl; simp at he
 obtain ⟨a, cap, hv, h1, h2⟩ := own_slice h
 injection hv with hv1 hv2 hv3
 subst hv1
 cases sa with
 | none =>
  have := (h2 rfl).1
  have hl := List.length_pos_iff.2 hne
  omega
 | some a =>
  obtain ⟨h3, h4⟩ := h1 a rfl
  refine ⟨a.block, by rw [← h3], ?_⟩
  have hl := List.length_pos_iff.2 hne
  have := h.cells h4 (n - 1) (spotV e.o e.p) (by
   unfold spots
   rw [List.getElem?_map, hn, ← List.getLast?_eq_getElem?, he]; rfl)
  have hadd : (⟨a.block, 0, none⟩ : Addr).add (n - 1) = ⟨a.block, n - 1, none⟩ := by
   unfold Addr.add
   split
   ·rename_i h0; rw [h0]
   ·simp
  rw [hadd] at this
  exact this
set_option maxRecDepth 100000 in
set_option maxHeartbeats 2000000 in
theorem add_more (b : Nat) (every : Nat) (sa ta : Option Addr) (sc tc : Nat) (lo lp latest : Nat) (o p t lat : Nat) (B n : Nat) (es : List E) (w : World) (hn : n = es.length) (HR : Ix.repV B w b ⟨every, es, true, lo, lp, latest⟩ (.slice sa n sc) (.slice ta n tc))
  (eo ep : Nat) (hlast : ∃ g, sa = some ⟨g, 0, none⟩ ∧ w.cell? ⟨g, n - 1, none⟩ = some (spotV eo ep)) (hn0 : 0 < n) (hn1 : n ≤ 1000) (hep : ep ≤ big) (hev : every ≤ 1000000)
  (hBw : B ≤ w.heap.size) (ho : o ≤ big) (hp : p ≤ big) (ht : t ≤ big) (hlo : lo ≤ big) (hlp : lp ≤ big) (hlt' : latest ≤ big) (h1 : lo < o) (h2 : lp < p) (hlat : lat = max latest t) (hno : (p : Int) - ep < every) :
  Calls Tryz.prog 112 #[.pointer (some ⟨b, 0, none⟩), .int .i64 o, .int .i64 p, .int .i64 t] w fun e w' => e = .returned (.int .i64 0) ∧ AddPost B w b (foot b (.slice sa n sc) (.slice ta n tc)) ⟨every, es, true, o, p, lat⟩ w' := by
 have hb := HR.hb
 have hlt := lt_of_heap hb
 have c0 : w.cell? ⟨b, 0, none⟩ = some (.int .i64 every) := by simp [World.cell?, hb, ixCells]
 have c1 : w.cell? ⟨b, 1, none⟩ = some (.slice sa n sc) := by simp [World.cell?, hb, ixCells]
 have c3 : w.cell? ⟨b, 3, none⟩ = some (.bool true) := by simp [World.cell?, hb, ixCells]
 have c4 : w.cell? ⟨b, 4, none⟩ = some (spotV lo lp) := by simp [World.cell?, hb, ixCells]
 have c5 : w.cell? ⟨b, 5, none⟩ = some (.int .i64 latest) := by simp [World.cell?, hb, ixCells]
 have f : ∀ k, w.frozen? ⟨b, k, none⟩ = false := by simp [World.frozen?, hb]
 have f3 := f 3
 have f4 := f 4
 have f5 := f 5
 have hA : ∀ W, W.heap[b]? = some (.cells (ixCells every (.slice sa n sc) (.slice ta n tc) true o p lat) 172 (0, 0)) → Fr (fun k => k = b) w W → ∀ nq, A8 (foot b (.slice sa n sc) (.slice ta n tc)) w B b (ixCells every (.slice sa n sc) (.slice ta n tc) true o p lat) (.slice sa n sc) n (spots es) (.slice ta n tc) n (tms es) (W.drewN nq) := by
  intro W h1 h2 nq
  subst hn
  refine A8.drewN ⟨h1, own_eq HR.hs fun k hk => h2.block k (own_lt HR.hs hk).2 (fun e => HR.sb (e ▸ hk)), own_eq HR.ht fun k hk => h2.block k (own_lt HR.ht hk).2 (fun e => HR.tb (e ▸ hk)), h2.mono (fun i hi => .inl (.inl hi)), .inl rfl, hlt, hBw, HR.sb, HR.tb, HR.st, fun k hk => .inl (.inr (.inl hk)), fun k hk => .inl (.inr (.inr hk))⟩ nq
 obtain ⟨g, rfl, hg⟩ : ∃ g, sa = some ⟨g, 0, none⟩ ∧ w.cell? ⟨g, n - 1, none⟩ = some (spotV eo ep) := hlast
 have hgb : g ≠ b := fun e => HR.sb (by simp [Value.ownBlock, e])
 have hD : ∀ W, A8 (foot b (.slice (some ⟨g, 0, none⟩) n sc) (.slice ta n tc)) w B b (ixCells every (.slice (some ⟨g, 0, none⟩) n sc) (.slice ta n tc) true o p lat) (.slice (some ⟨g, 0, none⟩) n sc) n (spots es) (.slice ta n tc) n (tms es) W → AddPost B w b (foot b (.slice (some ⟨g, 0, none⟩) n sc) (.slice ta n tc)) ⟨every, es, true, o, p, lat⟩ W := by
  intro W h
  subst hn
  exact ⟨_, ⟨_, _, ⟨h.hb, h.hs, h.ht, HR.hB, HR.sb, HR.tb, HR.st⟩, fun k => Iff.rfl⟩, fun k hk => .inl hk, h.fr⟩
 have HB := Lib.hid hb
 have HN := Lib.hid hn
 have hq0 : ((n : Int) == 0) = false := by rw [beq_eq_false_iff_ne]; omega
 have hm1 : (if (latest : Int) < (t : Int) then (t : Int) else (latest : Int)) = (lat : Int) := by split <;> omega
 have hm2 : (if latest < t then (t : Int) else (latest : Int)) = (lat : Int) := by split <;> omega
 have HL := Lib.hid hlat
 have hlat2 : lat ≤ 1099511627776 := by unfold big at *; omega
 clear hb f HR hn hlat
 have hlo2 := hlo
 have hlp2 := hlp
 have hep2 := hep
 unfold big at ho hp ht hlo2 hlp2 hlt' hep2
 go_enter Tryz.func112, Tryz.ntmps112
 go_wp2_with fail
 refine (within_any _ o p t _ ?_ ?_ ?_ ?_ ?_ ?_).mono ?_
 all_goals try (first | (simp; done) | omega)
 rintro e w' ⟨rfl, rfl⟩
 go_wp2_with fail
 refine (offset_any _ _ hlo _).mono ?_
 rintro e w' ⟨rfl, rfl⟩
 go_wp2_with fail
 refine (pos_any _ _ hlp _).mono ?_
 rintro e w' ⟨rfl, rfl⟩
 go_wp2_with fail
 have hx5 : ∀ x : Lcl.InS (fun w' => w'.cell? ⟨b, 5, none⟩ = some (.int .i64 latest)), x.w.cell? ⟨b, 5, none⟩ = some (.int .i64 latest) := fun x => x.h
 refine Lcl.wp_region_calm (by kernel_rfl) [(true, [0, 1, 2, 3, 4, 6, 7, 8, 10]), (false, [9]), (true, [11])] #[0, 0, 0, 0, 0, 24, 0, 64, 192, 448, 0, 1984, 1017, 5113, 13305, 29691, 62459, 127995, 262143, 524287, 1048575] [0, 1, 2, 3, 4, 5, 6, 7, 8, 9, 10] 10 #[true, true, true, true, true, false, true, true, true, true, true, true, false, false, false, false, false, false, false, false, false] (by kernel_rfl) (by kernel_rfl) (by kernel_rfl) (fun w' => w'.cell? ⟨b, 5, none⟩ = some (.int .i64 latest)) ?_ (fun d c a v w h => by cases d <;> exact h) ?_
 ·rw [World.cell?_drew, World.cell?_alloc_lt _ _ _ hlt]
  exact c5
 simp only [Lcl.opsOf, List.map_cons, List.map_nil, List.getElem?_toArray, List.getElem?_cons_succ, List.getElem?_cons_zero, Option.getD_some]
 refine Lcl.wpCalm_t ?_
 repeat (go_big_quiet_step (rfl))
 refine wpQuiet_nil ?_
 refine Lcl.wpCalm_f ?_
 repeat (go_big_quiet_step (rfl))
 refine wpQuiet_nil ?_
 refine Lcl.wpCalm_t ?_
 repeat (go_big_quiet_step (rfl))
 refine wpQuiet_nil ?_
 refine Lcl.wpCalm_nil ?_
 refine Lcl.wpG_one 5 rfl (by kernel_rfl) ?_
 go_wp2_with fail
 refine (spotOf_any _ _ _).mono ?_
 rintro e w' ⟨rfl, rfl⟩
 go_wp2_with fail
 refine ⟨fun _ h => h, ?_⟩
 clear hx5
 refine Lcl.wpG_run [12, 13, 14, 15, 16, 17, 18, 19, 20] _ _ _ (by kernel_rfl) ?_
 simp only [List.map_cons, List.map_nil, List.getElem?_toArray, List.getElem?_cons_succ, List.getElem?_cons_zero, Option.getD_some]
 go_wp2_with fail
 clear hm1 hm2
 have hW1 : ((((w.setCell ⟨b, 3, none⟩ (.bool true)).setCell ⟨b, 4, none⟩ (.complex .f64 (near o) (near p))).setCell ⟨b, 5, none⟩ (.int .i64 lat)).alloc (.cells #[.int .i64 o, .int .i64 p, .int .i64 t] 3)).drew.heap[b]? =
   some (.cells (ixCells every (.slice (some ⟨g, 0, none⟩) n sc) (.slice ta n tc) true o p lat) 172 (0, 0)) := by
  rw [heap_drew, heap_alloc_lt _ (by simpa [World.setCell] using hlt)]
  rw [heap_setCell_self (heap_setCell_self (heap_setCell_self HB.out _) _) _]
  rfl
 have hW2 : Fr (fun k => k = b) w ((((w.setCell ⟨b, 3, none⟩ (.bool true)).setCell ⟨b, 4, none⟩ (.complex .f64 (near o) (near p))).setCell ⟨b, 5, none⟩ (.int .i64 lat)).alloc (.cells #[.int .i64 o, .int .i64 p, .int .i64 t] 3)).drew :=
  Fr.drew (Fr.alloc (Fr.setCell (p := ⟨b, 5, none⟩) (Fr.setCell (p := ⟨b, 4, none⟩) (Fr.setCell (p := ⟨b, 3, none⟩) (Fr.refl (fun k => k = b) w) (.inl rfl) (.bool true)) (.inl rfl) (.complex .f64 (near o) (near p))) (.inl rfl) (.int .i64 lat)) (.cells #[.int .i64 o, .int .i64 p, .int .i64 t] 3))
 generalize ((((w.setCell ⟨b, 3, none⟩ (.bool true)).setCell ⟨b, 4, none⟩ (.complex .f64 (near o) (near p))).setCell ⟨b, 5, none⟩ (.int .i64 lat)).alloc (.cells #[.int .i64 o, .int .i64 p, .int .i64 t] 3)).drew = W at *
 clear c0 c1 c3 c4 c5 f3 f4 f5
 have c0 : W.cell? ⟨b, 0, none⟩ = some (.int .i64 every) := by simp [World.cell?, hW1, ixCells]
 have c1 : W.cell? ⟨b, 1, none⟩ = some (.slice (some ⟨g, 0, none⟩) n sc) := by simp [World.cell?, hW1, ixCells]
 have cg : W.cell? ⟨g, n - 1, none⟩ = some (spotV eo ep) := hW2.cell hg hgb
 have hi1 : ((n : Int) - 1).toNat = n - 1 := by omega
 have hi2 : (0 : Int) ≤ (n : Int) - 1 := by omega
 have hi4 : IntKind.i64.wrap ((n : Int) - 1) = (n : Int) - 1 := IntWalk.i64_in _ (by omega)
 have hi5 : (1 : Int) ≤ (n : Int) := by omega
 have hi6 : n - 1 < n := by omega
 have hi7 : IntKind.i64.wrap ((p : Int) - ep) = (p : Int) - ep := IntWalk.i64_in _ (by omega)
 have hi3 : (n : Int) - 1 < n := by omega
 have HW1 := Lib.hid hW1
 clear hW1 hg
 go_quiet ((go_at_call 140; exact Calls.quiet_of_same ((pos_any _ _ hep _).mono fun _ _ h => ⟨h.1, h.2.symm⟩)))
 go_wp2_with fail
 go_ret
 exact ⟨rfl, hD _ (hA W HW1.out hW2 _)⟩
set_option maxRecDepth 100000 in
set_option maxHeartbeats 2000000 in
theorem add_entry (b : Nat) (every : Nat) (sa ta : Option Addr) (sc tc : Nat) (lo lp latest : Nat) (o p t lat : Nat) (B n : Nat) (es : List E) (w : World) (hn : n = es.length) (HR : Ix.repV B w b ⟨every, es, true, lo, lp, latest⟩ (.slice sa n sc) (.slice ta n tc))
  (eo ep : Nat) (hlast : ∃ g, sa = some ⟨g, 0, none⟩ ∧ w.cell? ⟨g, n - 1, none⟩ = some (spotV eo ep)) (hn0 : 0 < n) (hn1 : n ≤ 1000) (hep : ep ≤ big) (hev : every ≤ 1000000)
  (hBw : B ≤ w.heap.size) (ho : o ≤ big) (hp : p ≤ big) (ht : t ≤ big) (hlo : lo ≤ big) (hlp : lp ≤ big) (hlt' : latest ≤ big) (h1 : lo < o) (h2 : lp < p) (hlat : lat = max latest t) (hno : (every : Int) ≤ (p : Int) - ep) :
  Calls Tryz.prog 112 #[.pointer (some ⟨b, 0, none⟩), .int .i64 o, .int .i64 p, .int .i64 t] w fun e w' => e = .returned (.int .i64 0) ∧ AddPost B w b (foot b (.slice sa n sc) (.slice ta n tc)) ⟨every, es ++ [⟨o, p, lat⟩], true, o, p, lat⟩ w' := by
 have hb := HR.hb
 have hlt := lt_of_heap hb
 have c0 : w.cell? ⟨b, 0, none⟩ = some (.int .i64 every) := by simp [World.cell?, hb, ixCells]
 have c1 : w.cell? ⟨b, 1, none⟩ = some (.slice sa n sc) := by simp [World.cell?, hb, ixCells]
 have c3 : w.cell? ⟨b, 3, none⟩ = some (.bool true) := by simp [World.cell?, hb, ixCells]
 have c4 : w.cell? ⟨b, 4, none⟩ = some (spotV lo lp) := by simp [World.cell?, hb, ixCells]
 have c5 : w.cell? ⟨b, 5, none⟩ = some (.int .i64 latest) := by simp [World.cell?, hb, ixCells]
 have f : ∀ k, w.frozen? ⟨b, k, none⟩ = false := by simp [World.frozen?, hb]
 have f3 := f 3
 have f4 := f 4
 have f5 := f 5
 have hA : ∀ W, W.heap[b]? = some (.cells (ixCells every (.slice sa n sc) (.slice ta n tc) true o p lat) 172 (0, 0)) → Fr (fun k => k = b) w W → ∀ nq, A8 (foot b (.slice sa n sc) (.slice ta n tc)) w B b (ixCells every (.slice sa n sc) (.slice ta n tc) true o p lat) (.slice sa n sc) n (spots es) (.slice ta n tc) n (tms es) (W.drewN nq) := by
  intro W h1 h2 nq
  subst hn
  refine A8.drewN ⟨h1, own_eq HR.hs fun k hk => h2.block k (own_lt HR.hs hk).2 (fun e => HR.sb (e ▸ hk)), own_eq HR.ht fun k hk => h2.block k (own_lt HR.ht hk).2 (fun e => HR.tb (e ▸ hk)), h2.mono (fun i hi => .inl (.inl hi)), .inl rfl, hlt, hBw, HR.sb, HR.tb, HR.st, fun k hk => .inl (.inr (.inl hk)), fun k hk => .inl (.inr (.inr hk))⟩ nq
 obtain ⟨g, rfl, hg⟩ : ∃ g, sa = some ⟨g, 0, none⟩ ∧ w.cell? ⟨g, n - 1, none⟩ = some (spotV eo ep) := hlast
 have hgb : g ≠ b := fun e => HR.sb (by simp [Value.ownBlock, e])
 have hD : ∀ v1 v2 W, A8 (foot b (.slice (some ⟨g, 0, none⟩) n sc) (.slice ta n tc)) w B b (ixCells every (.slice (some ⟨g, 0, none⟩) n sc) (.slice ta n tc) true o p lat) v1 (n + 1) (spots es ++ [.complex .f64 (near o) (near p)]) v2 (n + 1) (tms es ++ [.int .i64 lat]) W → AddPost B w b (foot b (.slice (some ⟨g, 0, none⟩) n sc) (.slice ta n tc)) ⟨every, es ++ [⟨o, p, lat⟩], true, o, p, lat⟩ ((W.setCell ⟨b, 1, none⟩ v1).setCell ⟨b, 2, none⟩ v2) := by
  intro v1 v2 W h
  subst hn
  exact h.done HR.hB (by simp [spots]) (by simp [tms]) (by simp) (by simp)
 obtain ⟨i3, hi3, hz3, hs3, hb3⟩ := info_parts info3
 obtain ⟨i49, hi49, hz49, hs49, hb49⟩ := info_parts info49
 have HB := Lib.hid hb
 have HN := Lib.hid hn
 have hq0 : ((n : Int) == 0) = false := by rw [beq_eq_false_iff_ne]; omega
 have hm1 : (if (latest : Int) < (t : Int) then (t : Int) else (latest : Int)) = (lat : Int) := by split <;> omega
 have hm2 : (if latest < t then (t : Int) else (latest : Int)) = (lat : Int) := by split <;> omega
 have HL := Lib.hid hlat
 have hlat2 : lat ≤ 1099511627776 := by unfold big at *; omega
 clear hb f HR hn hlat
 have hlo2 := hlo
 have hlp2 := hlp
 have hep2 := hep
 unfold big at ho hp ht hlo2 hlp2 hlt' hep2
 go_enter Tryz.func112, Tryz.ntmps112
 go_wp2_with fail
 refine (within_any _ o p t _ ?_ ?_ ?_ ?_ ?_ ?_).mono ?_
 all_goals try (first | (simp; done) | omega)
 rintro e w' ⟨rfl, rfl⟩
 go_wp2_with fail
 refine (offset_any _ _ hlo _).mono ?_
 rintro e w' ⟨rfl, rfl⟩
 go_wp2_with fail
 refine (pos_any _ _ hlp _).mono ?_
 rintro e w' ⟨rfl, rfl⟩
 go_wp2_with fail
 have hx5 : ∀ x : Lcl.InS (fun w' => w'.cell? ⟨b, 5, none⟩ = some (.int .i64 latest)), x.w.cell? ⟨b, 5, none⟩ = some (.int .i64 latest) := fun x => x.h
 refine Lcl.wp_region_calm (by kernel_rfl) [(true, [0, 1, 2, 3, 4, 6, 7, 8, 10]), (false, [9]), (true, [11])] #[0, 0, 0, 0, 0, 24, 0, 64, 192, 448, 0, 1984, 1017, 5113, 13305, 29691, 62459, 127995, 262143, 524287, 1048575] [0, 1, 2, 3, 4, 5, 6, 7, 8, 9, 10] 10 #[true, true, true, true, true, false, true, true, true, true, true, true, false, false, false, false, false, false, false, false, false] (by kernel_rfl) (by kernel_rfl) (by kernel_rfl) (fun w' => w'.cell? ⟨b, 5, none⟩ = some (.int .i64 latest)) ?_ (fun d c a v w h => by cases d <;> exact h) ?_
 ·rw [World.cell?_drew, World.cell?_alloc_lt _ _ _ hlt]
  exact c5
 simp only [Lcl.opsOf, List.map_cons, List.map_nil, List.getElem?_toArray, List.getElem?_cons_succ, List.getElem?_cons_zero, Option.getD_some]
 refine Lcl.wpCalm_t ?_
 repeat (go_big_quiet_step (rfl))
 refine wpQuiet_nil ?_
 refine Lcl.wpCalm_f ?_
 repeat (go_big_quiet_step (rfl))
 refine wpQuiet_nil ?_
 refine Lcl.wpCalm_t ?_
 repeat (go_big_quiet_step (rfl))
 refine wpQuiet_nil ?_
 refine Lcl.wpCalm_nil ?_
 refine Lcl.wpG_one 5 rfl (by kernel_rfl) ?_
 go_wp2_with fail
 refine (spotOf_any _ _ _).mono ?_
 rintro e w' ⟨rfl, rfl⟩
 go_wp2_with fail
 refine ⟨fun _ h => h, ?_⟩
 clear hx5
 refine Lcl.wpG_run [12, 13, 14, 15, 16, 17, 18, 19, 20] _ _ _ (by kernel_rfl) ?_
 simp only [List.map_cons, List.map_nil, List.getElem?_toArray, List.getElem?_cons_succ, List.getElem?_cons_zero, Option.getD_some]
 go_wp2_with fail
 clear hm1 hm2
 have hW1 : ((((w.setCell ⟨b, 3, none⟩ (.bool true)).setCell ⟨b, 4, none⟩ (.complex .f64 (near o) (near p))).setCell ⟨b, 5, none⟩ (.int .i64 lat)).alloc (.cells #[.int .i64 o, .int .i64 p, .int .i64 t] 3)).drew.heap[b]? =
   some (.cells (ixCells every (.slice (some ⟨g, 0, none⟩) n sc) (.slice ta n tc) true o p lat) 172 (0, 0)) := by
  rw [heap_drew, heap_alloc_lt _ (by simpa [World.setCell] using hlt)]
  rw [heap_setCell_self (heap_setCell_self (heap_setCell_self HB.out _) _) _]
  rfl
 have hW2 : Fr (fun k => k = b) w ((((w.setCell ⟨b, 3, none⟩ (.bool true)).setCell ⟨b, 4, none⟩ (.complex .f64 (near o) (near p))).setCell ⟨b, 5, none⟩ (.int .i64 lat)).alloc (.cells #[.int .i64 o, .int .i64 p, .int .i64 t] 3)).drew :=
  Fr.drew (Fr.alloc (Fr.setCell (p := ⟨b, 5, none⟩) (Fr.setCell (p := ⟨b, 4, none⟩) (Fr.setCell (p := ⟨b, 3, none⟩) (Fr.refl (fun k => k = b) w) (.inl rfl) (.bool true)) (.inl rfl) (.complex .f64 (near o) (near p))) (.inl rfl) (.int .i64 lat)) (.cells #[.int .i64 o, .int .i64 p, .int .i64 t] 3))
 generalize ((((w.setCell ⟨b, 3, none⟩ (.bool true)).setCell ⟨b, 4, none⟩ (.complex .f64 (near o) (near p))).setCell ⟨b, 5, none⟩ (.int .i64 lat)).alloc (.cells #[.int .i64 o, .int .i64 p, .int .i64 t] 3)).drew = W at *
 clear c0 c1 c3 c4 c5 f3 f4 f5
 have c0 : W.cell? ⟨b, 0, none⟩ = some (.int .i64 every) := by simp [World.cell?, hW1, ixCells]
 have c1 : W.cell? ⟨b, 1, none⟩ = some (.slice (some ⟨g, 0, none⟩) n sc) := by simp [World.cell?, hW1, ixCells]
 have cg : W.cell? ⟨g, n - 1, none⟩ = some (spotV eo ep) := hW2.cell hg hgb
 have hi1 : ((n : Int) - 1).toNat = n - 1 := by omega
 have hi2 : (0 : Int) ≤ (n : Int) - 1 := by omega
 have hi4 : IntKind.i64.wrap ((n : Int) - 1) = (n : Int) - 1 := IntWalk.i64_in _ (by omega)
 have hi5 : (1 : Int) ≤ (n : Int) := by omega
 have hi6 : n - 1 < n := by omega
 have hi7 : IntKind.i64.wrap ((p : Int) - ep) = (p : Int) - ep := IntWalk.i64_in _ (by omega)
 have hj3 : (n : Int) - 1 < n := by omega
 have HW1 := Lib.hid hW1
 clear hW1 hg
 go_quiet ((go_at_call 140; exact Calls.quiet_of_same ((pos_any _ _ hep _).mono fun _ _ h => ⟨h.1, h.2.symm⟩)))
 go_wp2_with fail
 have HA := hA W HW1.out hW2 nq
 clear HW1 hW2 c0 c1 cg hA hi1 hi2 hj3 hi4 hi5 hi6 hi7
 generalize W.drewN nq = W8 at *
 have hx1 : ∀ x : Lcl.InS (fun w' => w'.heap[b]? = some (.cells (ixCells every (.slice (some ⟨g, 0, none⟩) n sc) (.slice ta n tc) true o p lat) 172 (0, 0))), x.w.cell? ⟨b, 1, none⟩ = some (.slice (some ⟨g, 0, none⟩) n sc) := fun x => by simp [World.cell?, x.h, ixCells]
 have hx2 : ∀ x : Lcl.InS (fun w' => w'.heap[b]? = some (.cells (ixCells every (.slice (some ⟨g, 0, none⟩) n sc) (.slice ta n tc) true o p lat) 172 (0, 0))), x.w.cell? ⟨b, 2, none⟩ = some (.slice ta n tc) := fun x => by simp [World.cell?, x.h, ixCells]
 have hx4 : ∀ x : Lcl.InS (fun w' => w'.heap[b]? = some (.cells (ixCells every (.slice (some ⟨g, 0, none⟩) n sc) (.slice ta n tc) true o p lat) 172 (0, 0))), x.w.cell? ⟨b, 4, none⟩ = some (.complex .f64 (near o) (near p)) := fun x => by simp [World.cell?, x.h, ixCells]
 have hx5 : ∀ x : Lcl.InS (fun w' => w'.heap[b]? = some (.cells (ixCells every (.slice (some ⟨g, 0, none⟩) n sc) (.slice ta n tc) true o p lat) 172 (0, 0))), x.w.cell? ⟨b, 5, none⟩ = some (.int .i64 lat) := fun x => by simp [World.cell?, x.h, ixCells]
 refine Lcl.wp_region_calm (by kernel_rfl) [(true, [0, 1, 2, 3, 4, 6, 7, 8, 12, 13, 14, 16, 17, 18]), (false, [5, 9, 15, 19])] #[0, 0, 0, 4, 12, 28, 0, 64, 192, 448, 960, 2044, 0, 4096, 12288, 28672, 0, 65536, 196608, 458752, 983040, 2097148, 4194301, 8388605, 16777213, 33554431, 67108863, 134217727] [0, 1, 2, 3, 4, 5, 6, 7, 8, 9, 10, 11, 12, 13, 14, 15, 16, 17, 18, 19, 20] 10 #[true, true, true, true, true, true, true, true, true, true, false, false, true, true, true, true, true, true, true, true, false, false, false, false, false, false, false, false] (by kernel_rfl) (by kernel_rfl) (by kernel_rfl) (fun w' => w'.heap[b]? = some (.cells (ixCells every (.slice (some ⟨g, 0, none⟩) n sc) (.slice ta n tc) true o p lat) 172 (0, 0))) HA.hb (fun d c a v w h => by cases d <;> exact h) ?_
 simp only [Lcl.opsOf, List.map_cons, List.map_nil, List.getElem?_toArray, List.getElem?_cons_succ, List.getElem?_cons_zero, Option.getD_some]
 refine Lcl.wpCalm_t ?_
 repeat (go_big_quiet_step (rfl))
 refine wpQuiet_nil ?_
 refine Lcl.wpCalm_f ?_
 repeat (go_big_quiet_step (rfl))
 refine wpQuiet_nil ?_
 refine Lcl.wpCalm_nil ?_
 clear hx1 hx2 hx4 hx5
 have HA := HA.drew
 generalize W8.drew = W9 at *
 refine Lcl.wpG_two 10 20 rfl rfl (by kernel_rfl) ?_ ?_
 ·simp only [Act.put, List.setIfInBounds_toArray, List.set_cons_zero, List.set_cons_succ]
  go_wp2_with fail
  have HA1 := HA.alloc (.cells #[.complex .f64 (near o) (near p)] 170)
  have hc1 : (W9.alloc (.cells #[.complex .f64 (near o) (near p)] 170)).cell? ⟨W9.heap.size, 0, none⟩ = some (.complex .f64 (near o) (near p)) := by rw [cell_alloc_new]; rfl
  refine And.intro (fun _ _ => HA1.hb) ?_
  have hne1 : (Value.slice ta n tc).ownBlock ≠ some W9.heap.size := fun e => by have := (own_lt HA.ht e).2; omega
  have hnd1 : (Value.slice (some ⟨g, 0, none⟩) n sc).ownBlock ≠ some (W9.heap.size + 1) := fun e => by have := (own_lt HA.hs e).2; omega
  generalize hG1 : W9.heap.size = G1 at *
  have hWs : (W9.alloc (.cells #[.complex .f64 (near o) (near p)] 170)).heap.size = G1 + 1 := by rw [← hG1]; simp
  have HWs := Lib.hid hWs
  clear hG1 hWs
  generalize W9.alloc (.cells #[.complex .f64 (near o) (near p)] 170) = Wa at *
  refine Lcl.wpG_two 11 20 rfl rfl (by kernel_rfl) ?_ ?_
  ·refine wpList_append_own2 _ rfl (.tmp 101) (.tmp 106) 168 rfl B 170 i49 (.complex .f64 0 0) 1 16 Tryz.underlying168 hi49 hz49 hs49 hb49 rfl (by decide) (.slice (some ⟨g, 0, none⟩) n sc) n _ rfl HA1.hs ⟨G1, 0, none⟩ 1 1 [.complex .f64 (near o) (near p)] rfl rfl ?_ ?_ ?_ ?_ HA1.size ?_
   ·intro j u hj
    match j, hj with
    | 0, hj => simp at hj; subst hj; exact hc1
   ·intro u hu; simp at hu; subst hu; rfl
   ·unfold maxLen; omega
   ·omega
   intro v1 W1 hov1 hgv1 hvv1
   have HA2 := HA1.app1 hov1 hgv1 hvv1
   refine And.intro (fun _ _ => HA2.hb) ?_
   refine Lcl.wpG_one 20 rfl (by kernel_rfl) ?_
   simp only [Act.put, List.setIfInBounds_toArray, List.set_cons_zero, List.set_cons_succ]
   go_wp2_with fail
   have HA3 := HA2.alloc (.cells #[.int .i64 lat] 3)
   have hc2 : (W1.alloc (.cells #[.int .i64 lat] 3)).cell? ⟨W1.heap.size, 0, none⟩ = some (.int .i64 lat) := by rw [cell_alloc_new]; rfl
   refine And.intro (fun _ _ => HA3.hb) ?_
   refine Lcl.wpG_one 21 rfl (by kernel_rfl) ?_
   refine wpList_append_own2 _ rfl (.tmp 111) (.tmp 116) 49 rfl B 3 i3 (.int .i64 0) 1 8 Tryz.underlying49 hi3 hz3 hs3 hb3 rfl (by decide) (.slice ta n tc) n _ rfl HA3.ht ⟨W1.heap.size, 0, none⟩ 1 1 [.int .i64 lat] rfl rfl ?_ ?_ ?_ ?_ HA3.size ?_
   ·intro j u hj
    match j, hj with
    | 0, hj => simp at hj; subst hj; exact hc2
   ·intro u hu; simp at hu; subst hu; rfl
   ·unfold maxLen; omega
   ·omega
   intro v2 WE hov2 hgv2 hvv2
   have HAE := HA3.app2 hov2 hgv2 hvv2
   refine And.intro (fun _ _ => HAE.hb) ?_
   refine Lcl.wpG_run [22, 23, 24, 25, 26, 27] _ _ _ (by kernel_rfl) ?_
   obtain ⟨x1, y1, rfl, -, -⟩ := own_slice HAE.hs
   obtain ⟨x2, y2, rfl, -, -⟩ := own_slice HAE.ht
   have k1 : WE.cell? ⟨b, 1, none⟩ = some (.slice (some ⟨g, 0, none⟩) n sc) := by simp [World.cell?, HAE.hb, ixCells]
   have k2 : WE.cell? ⟨b, 2, none⟩ = some (.slice ta n tc) := by simp [World.cell?, HAE.hb, ixCells]
   have k3 : WE.frozen? ⟨b, 1, none⟩ = false := by simp [World.frozen?, HAE.hb]
   have k4 : WE.frozen? ⟨b, 2, none⟩ = false := by simp [World.frozen?, HAE.hb]
   have HD := Lib.hid (hD _ _ _ HAE)
   clear HAE HA
   simp only [Act.put, List.setIfInBounds_toArray, List.set_cons_zero, List.set_cons_succ, List.map_cons, List.map_nil, List.getElem?_toArray, List.getElem?_cons_succ, List.getElem?_cons_zero, Option.getD_some]
   go_wp2_with fail
   go_ret
   exact ⟨rfl, HD.out⟩
  ·simp only [Act.put, List.setIfInBounds_toArray, List.set_cons_zero, List.set_cons_succ]
   go_wp2_with fail
   have HA2 := HA1.alloc (.cells #[.int .i64 lat] 3)
   have hc2 : (Wa.alloc (.cells #[.int .i64 lat] 3)).cell? ⟨Wa.heap.size, 0, none⟩ = some (.int .i64 lat) := by rw [cell_alloc_new]; rfl
   refine And.intro (fun _ _ => HA2.hb) ?_
   have hc1 : (Wa.alloc (.cells #[.int .i64 lat] 3)).cell? ⟨G1, 0, none⟩ = some (.complex .f64 (near o) (near p)) := (World.cell?_alloc_lt _ _ _ (by show G1 < Wa.heap.size; have := HWs.out; omega)).trans hc1
   refine Lcl.wpG_one 11 rfl (by kernel_rfl) ?_
   refine wpList_append_own2 _ rfl (.tmp 101) (.tmp 106) 168 rfl B 170 i49 (.complex .f64 0 0) 1 16 Tryz.underlying168 hi49 hz49 hs49 hb49 rfl (by decide) (.slice (some ⟨g, 0, none⟩) n sc) n _ rfl HA2.hs ⟨G1, 0, none⟩ 1 1 [.complex .f64 (near o) (near p)] rfl rfl ?_ ?_ ?_ ?_ HA2.size ?_
   ·intro j u hj
    match j, hj with
    | 0, hj => simp at hj; subst hj; exact hc1
   ·intro u hu; simp at hu; subst hu; rfl
   ·unfold maxLen; omega
   ·omega
   intro v1 W1 hov1 hgv1 hvv1
   have HA3 := HA2.app1 hov1 hgv1 hvv1
   refine And.intro (fun _ _ => HA3.hb) ?_
   have hc2 := cell_grown hgv1 hc2 (by rw [HWs.out]; exact hnd1)
   refine Lcl.wpG_one 21 rfl (by kernel_rfl) ?_
   refine wpList_append_own2 _ rfl (.tmp 111) (.tmp 116) 49 rfl B 3 i3 (.int .i64 0) 1 8 Tryz.underlying49 hi3 hz3 hs3 hb3 rfl (by decide) (.slice ta n tc) n _ rfl HA3.ht ⟨Wa.heap.size, 0, none⟩ 1 1 [.int .i64 lat] rfl rfl ?_ ?_ ?_ ?_ HA3.size ?_
   ·intro j u hj
    match j, hj with
    | 0, hj => simp at hj; subst hj; exact hc2
   ·intro u hu; simp at hu; subst hu; rfl
   ·unfold maxLen; omega
   ·omega
   intro v2 WE hov2 hgv2 hvv2
   have HAE := HA3.app2 hov2 hgv2 hvv2
   refine And.intro (fun _ _ => HAE.hb) ?_
   refine Lcl.wpG_run [22, 23, 24, 25, 26, 27] _ _ _ (by kernel_rfl) ?_
   obtain ⟨x1, y1, rfl, -, -⟩ := own_slice HAE.hs
   obtain ⟨x2, y2, rfl, -, -⟩ := own_slice HAE.ht
   have k1 : WE.cell? ⟨b, 1, none⟩ = some (.slice (some ⟨g, 0, none⟩) n sc) := by simp [World.cell?, HAE.hb, ixCells]
   have k2 : WE.cell? ⟨b, 2, none⟩ = some (.slice ta n tc) := by simp [World.cell?, HAE.hb, ixCells]
   have k3 : WE.frozen? ⟨b, 1, none⟩ = false := by simp [World.frozen?, HAE.hb]
   have k4 : WE.frozen? ⟨b, 2, none⟩ = false := by simp [World.frozen?, HAE.hb]
   have HD := Lib.hid (hD _ _ _ HAE)
   clear HAE HA
   simp only [Act.put, List.setIfInBounds_toArray, List.set_cons_zero, List.set_cons_succ, List.map_cons, List.map_nil, List.getElem?_toArray, List.getElem?_cons_succ, List.getElem?_cons_zero, Option.getD_some]
   go_wp2_with fail
   go_ret
   exact ⟨rfl, HD.out⟩
 ·simp only [Act.put, List.setIfInBounds_toArray, List.set_cons_zero, List.set_cons_succ]
  go_wp2_with fail
  have HA1 := HA.alloc (.cells #[.int .i64 lat] 3)
  have hc2 : (W9.alloc (.cells #[.int .i64 lat] 3)).cell? ⟨W9.heap.size, 0, none⟩ = some (.int .i64 lat) := by rw [cell_alloc_new]; rfl
  refine And.intro (fun _ _ => HA1.hb) ?_
  have hnd1 : (Value.slice (some ⟨g, 0, none⟩) n sc).ownBlock ≠ some W9.heap.size := fun e => by have := (own_lt HA.hs e).2; omega
  generalize hG1 : W9.heap.size = G1 at *
  have hWs : (W9.alloc (.cells #[.int .i64 lat] 3)).heap.size = G1 + 1 := by rw [← hG1]; simp
  have HWs := Lib.hid hWs
  clear hG1 hWs
  generalize W9.alloc (.cells #[.int .i64 lat] 3) = Wa at *
  refine Lcl.wpG_one 10 rfl (by kernel_rfl) ?_
  simp only [Act.put, List.setIfInBounds_toArray, List.set_cons_zero, List.set_cons_succ]
  go_wp2_with fail
  have HA2 := HA1.alloc (.cells #[.complex .f64 (near o) (near p)] 170)
  have hc1 : (Wa.alloc (.cells #[.complex .f64 (near o) (near p)] 170)).cell? ⟨Wa.heap.size, 0, none⟩ = some (.complex .f64 (near o) (near p)) := by rw [cell_alloc_new]; rfl
  refine And.intro (fun _ _ => HA2.hb) ?_
  have hc2 : (Wa.alloc (.cells #[.complex .f64 (near o) (near p)] 170)).cell? ⟨G1, 0, none⟩ = some (.int .i64 lat) := (World.cell?_alloc_lt _ _ _ (by show G1 < Wa.heap.size; have := HWs.out; omega)).trans hc2
  refine Lcl.wpG_one 11 rfl (by kernel_rfl) ?_
  refine wpList_append_own2 _ rfl (.tmp 101) (.tmp 106) 168 rfl B 170 i49 (.complex .f64 0 0) 1 16 Tryz.underlying168 hi49 hz49 hs49 hb49 rfl (by decide) (.slice (some ⟨g, 0, none⟩) n sc) n _ rfl HA2.hs ⟨Wa.heap.size, 0, none⟩ 1 1 [.complex .f64 (near o) (near p)] rfl rfl ?_ ?_ ?_ ?_ HA2.size ?_
  ·intro j u hj
   match j, hj with
   | 0, hj => simp at hj; subst hj; exact hc1
  ·intro u hu; simp at hu; subst hu; rfl
  ·unfold maxLen; omega
  ·omega
  intro v1 W1 hov1 hgv1 hvv1
  have HA3 := HA2.app1 hov1 hgv1 hvv1
  refine And.intro (fun _ _ => HA3.hb) ?_
  have hc2 := cell_grown hgv1 hc2 hnd1
  refine Lcl.wpG_one 21 rfl (by kernel_rfl) ?_
  refine wpList_append_own2 _ rfl (.tmp 111) (.tmp 116) 49 rfl B 3 i3 (.int .i64 0) 1 8 Tryz.underlying49 hi3 hz3 hs3 hb3 rfl (by decide) (.slice ta n tc) n _ rfl HA3.ht ⟨G1, 0, none⟩ 1 1 [.int .i64 lat] rfl rfl ?_ ?_ ?_ ?_ HA3.size ?_
  ·intro j u hj
   match j, hj with
   | 0, hj => simp at hj; subst hj; exact hc2
  ·intro u hu; simp at hu; subst hu; rfl
  ·unfold maxLen; omega
  ·omega
  intro v2 WE hov2 hgv2 hvv2
  have HAE := HA3.app2 hov2 hgv2 hvv2
  refine And.intro (fun _ _ => HAE.hb) ?_
  refine Lcl.wpG_run [22, 23, 24, 25, 26, 27] _ _ _ (by kernel_rfl) ?_
  obtain ⟨x1, y1, rfl, -, -⟩ := own_slice HAE.hs
  obtain ⟨x2, y2, rfl, -, -⟩ := own_slice HAE.ht
  have k1 : WE.cell? ⟨b, 1, none⟩ = some (.slice (some ⟨g, 0, none⟩) n sc) := by simp [World.cell?, HAE.hb, ixCells]
  have k2 : WE.cell? ⟨b, 2, none⟩ = some (.slice ta n tc) := by simp [World.cell?, HAE.hb, ixCells]
  have k3 : WE.frozen? ⟨b, 1, none⟩ = false := by simp [World.frozen?, HAE.hb]
  have k4 : WE.frozen? ⟨b, 2, none⟩ = false := by simp [World.frozen?, HAE.hb]
  have HD := Lib.hid (hD _ _ _ HAE)
  clear HAE HA
  simp only [Act.put, List.setIfInBounds_toArray, List.set_cons_zero, List.set_cons_succ, List.map_cons, List.map_nil, List.getElem?_toArray, List.getElem?_cons_succ, List.getElem?_cons_zero, Option.getD_some]
  go_wp2_with fail
  go_ret
  exact ⟨rfl, HD.out⟩
end Go.Proofs.YtdlnafhhkpklmaaGreatDoor
