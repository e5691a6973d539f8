/- What producers have sent: New, within, may. -/
import Derived.Test.YtfdhofabgdkkkaaGreatDoorU14
import Derived.Test.YtfdhofabgdkkkaaGreatDoorU15
namespace Go.Proofs.YtfdhofabgdkkkaaGreatDoor
open Go.RowKit Go.Fm Go.BigFrame Go.Shelf Go.Maps
set_option linter.unusedVariables false
set_option linter.unusedSimpArgs false
set_option maxRecDepth 100000
theorem iwithin_yes (n lo hi : Int) (w : World) (h : lo ≤ n ∧ n ≤ hi) : Calls Tryz.prog 200 #[.int .i64 n, .int .i64 lo, .int .i64 hi] w fun e w' => e = .returned (.bool true) ∧ w' = w := by
 obtain ⟨h1, h2⟩ := h
 go_enter Tryz.func200, Tryz.ntmps200
 go_wp2_with fail
 go_ret
 exact ⟨rfl, rfl⟩
theorem iwithin_no (n lo hi : Int) (w : World) (h : ¬ (lo ≤ n ∧ n ≤ hi)) : Calls Tryz.prog 200 #[.int .i64 n, .int .i64 lo, .int .i64 hi] w fun e w' => e = .returned (.bool false) ∧ w' = w := by
 have h : n < lo ∨ (lo ≤ n ∧ hi < n ∧ decide (n ≤ hi) = false) := by simp; omega
 rcases h with h | ⟨h1, h2, h3⟩
 all_goals
  go_enter Tryz.func200, Tryz.ntmps200
  go_wp2_with fail
  go_ret
  exact ⟨rfl, rfl⟩
theorem iwithin_walk (n lo hi : Int) (w : World) : Calls Tryz.prog 200 #[.int .i64 n, .int .i64 lo, .int .i64 hi] w fun e w' => e = .returned (.bool (decide (lo ≤ n ∧ n ≤ hi))) ∧ w' = w := by
 by_cases h : lo ≤ n ∧ n ≤ hi
 ·rw [decide_eq_true h]; exact iwithin_yes n lo hi w h
 ·rw [decide_eq_false h]; exact iwithin_no n lo hi w h
/-- A producer's numbers may be. -/
def IMay (b : Bat) : Prop := (0 ≤ b.prod ∧ b.prod ≤ 1073741824) ∧ (0 ≤ b.epoch ∧ b.epoch ≤ 32768) ∧ (0 ≤ b.seq ∧ b.seq ≤ 1073741824) ∧ (1 ≤ b.span ∧ b.span ≤ 50) ∧ (0 ≤ b.base ∧ b.base ≤ 1099511627776)
set_option maxHeartbeats 8000000 in
theorem imay_walk (b : Bat) (oa : Option Addr) (n cap : Nat) (w : World) :
  Calls Tryz.prog 132 #[batV b (.slice oa n cap)] w (IffPost (IMay b) w) := by
 obtain ⟨bbase, bspan, bprod, bepoch, bseq, brecs⟩ := b
 unfold batV IMay
 dsimp only
 have hf := (Fr.same w).alloc (.cells #[.int .i64 bbase, .int .i64 bspan, .int .i64 bprod, .int .i64 bepoch, .int .i64 bseq, .slice oa n cap] 35)
 have FF := Lib.hid hf
 clear hf
 by_cases h1 : 0 ≤ bprod ∧ bprod ≤ 1073741824
 ·go_enter Tryz.func132, Tryz.ntmps132
  go_wp2_with fail
  refine (iwithin_yes _ _ _ _ h1).mono ?_
  rintro e w' ⟨rfl, rfl⟩
  by_cases h2 : 0 ≤ bepoch ∧ bepoch ≤ 32768
  ·go_wp2_with fail
   refine (iwithin_yes _ _ _ _ h2).mono ?_
   rintro e w' ⟨rfl, rfl⟩
   by_cases h3 : 0 ≤ bseq ∧ bseq ≤ 1073741824
   ·go_wp2_with fail
    refine (iwithin_yes _ _ _ _ h3).mono ?_
    rintro e w' ⟨rfl, rfl⟩
    by_cases h4 : 1 ≤ bspan ∧ bspan ≤ 50
    ·go_wp2_with fail
     refine (iwithin_yes _ _ _ _ h4).mono ?_
     rintro e w' ⟨rfl, rfl⟩
     go_wp2_with fail
     refine (iwithin_walk _ _ _ _).mono ?_
     rintro e w' ⟨rfl, rfl⟩
     go_wp2_with fail
     go_ret
     refine ⟨_, rfl, ⟨fun h => ⟨h1, h2, h3, h4, by simpa using h⟩, fun h => by simpa using h.2.2.2.2⟩, FF.out⟩
    ·go_wp2_with fail
     refine (iwithin_no _ _ _ _ h4).mono ?_
     rintro e w' ⟨rfl, rfl⟩
     go_wp2_with fail
     go_ret
     exact ⟨false, rfl, ⟨(fun h => by cases h), fun h => absurd h.2.2.2.1 h4⟩, FF.out⟩
   ·go_wp2_with fail
    refine (iwithin_no _ _ _ _ h3).mono ?_
    rintro e w' ⟨rfl, rfl⟩
    go_wp2_with fail
    go_ret
    exact ⟨false, rfl, ⟨(fun h => by cases h), fun h => absurd h.2.2.1 h3⟩, FF.out⟩
  ·go_wp2_with fail
   refine (iwithin_no _ _ _ _ h2).mono ?_
   rintro e w' ⟨rfl, rfl⟩
   go_wp2_with fail
   go_ret
   exact ⟨false, rfl, ⟨(fun h => by cases h), fun h => absurd h.2.1 h2⟩, FF.out⟩
 ·go_enter Tryz.func132, Tryz.ntmps132
  go_wp2_with fail
  refine (iwithin_no _ _ _ _ h1).mono ?_
  rintro e w' ⟨rfl, rfl⟩
  go_wp2_with fail
  go_ret
  exact ⟨false, rfl, ⟨(fun h => by cases h), fun h => absurd h.1 h1⟩, FF.out⟩
end Go.Proofs.YtfdhofabgdkkkaaGreatDoor
/- What a producer was heard with: at. -/
namespace Go.Proofs.YtfdhofabgdkkkaaGreatDoor
open Go.RowKit Go.Fm Go.BigFrame Go.Shelf Go.Maps
set_option linter.unusedVariables false
set_option linter.unusedSimpArgs false
set_option maxRecDepth 100000
/-- A producer that was heard: its epoch, a ring of five (seq, base, span), the first one, how many. -/
def hearL (e : Int) (r : List Int) (f c : Int) : List Value := .int .i64 e :: (r.map (fun n => .int .i64 n) ++ [.int .i64 f, .int .i64 c])
structure HearA (w : World) (hb : Nat) (e : Int) (r : List Int) (f c : Nat) : Prop where
 b : w.heap[hb]? = some (.cells (hearL e r f c).toArray 255 (0, 0))
 len : r.length = 15
 f5 : f < 5
 c5 : c ≤ 5
section
variable {w w' : World} {hb : Nat} {ep : Int} {r : List Int} {f c : Nat} {S : Nat → Prop}
theorem HearA.fr (h : HearA w hb ep r f c) (hf : Fr S w w') (h1 : ¬ S hb) : HearA w' hb ep r f c := ⟨(hf.block hb (lt_of_heap h.b) h1).trans h.b, h.len, h.f5, h.c5⟩
theorem HearA.old (h : HearA w hb ep r f c) (hf : Fr (fun _ => False) w w') : HearA w' hb ep r f c := h.fr hf fun h => h
theorem HearA.cell (h : HearA w hb ep r f c) (k : Nat) {v : Value} (hv : (hearL ep r f c)[k]? = some v) : w.cell? ⟨hb, k, none⟩ = some v := by
 unfold World.cell?
 rw [h.b]
 simpa using hv
theorem HearA.first (h : HearA w hb ep r f c) : w.cell? ⟨hb, 16, none⟩ = some (.int .i64 f) := h.cell 16 (by
 unfold hearL
 rw [List.getElem?_cons_succ, List.getElem?_append_right (by rw [List.length_map, h.len]; omega), List.length_map, h.len]
 rfl)
theorem HearA.count (h : HearA w hb ep r f c) : w.cell? ⟨hb, 17, none⟩ = some (.int .i64 c) := h.cell 17 (by
 unfold hearL
 rw [List.getElem?_cons_succ, List.getElem?_append_right (by rw [List.length_map, h.len]; omega), List.length_map, h.len]
 rfl)
theorem HearA.epoch (h : HearA w hb ep r f c) : w.cell? ⟨hb, 0, none⟩ = some (.int .i64 ep) := h.cell 0 rfl
theorem HearA.ring (h : HearA w hb ep r f c) {k : Nat} {n : Int} (hn : r[k]? = some n) : w.cell? ⟨hb, 1 + k, none⟩ = some (.int .i64 n) := h.cell (1 + k) (by
 have hk := (List.getElem?_eq_some_iff.1 hn).1
 unfold hearL
 rw [Nat.add_comm, List.getElem?_cons_succ, List.getElem?_append_left (by rw [List.length_map]; exact hk), List.getElem?_map, hn]
 rfl)
set_option maxHeartbeats 8000000 in
theorem hat_walk (h : HearA w hb ep r f c) (i : Nat) (hi : i ≤ 5) : Calls Tryz.prog 134 #[.pointer (some ⟨hb, 0, none⟩), .int .i64 i] w fun e w' => e = .returned (.pointer (some ⟨hb, 1 + (f + i) % 5 * 3, none⟩)) ∧ Fr (fun _ => False) w w' := by
 have z0 : ∀ y : Lcl.InS (fun w' => Fr (fun _ => False) w w'), y.w.cell? ⟨hb, 16, none⟩ = some (.int .i64 f) := fun y => y.h.cel h.first
 have f5 := h.f5
 clear h
 go_enter Tryz.func134, Tryz.ntmps134
 go_wp2_with fail
 refine Lcl.wp_region_calm (by kernel_rfl) [(true, [0, 1, 2, 3, 5, 8, 9]), (false, [4]), (true, [6, 7, 10, 11])] #[0, 0, 2, 6, 14, 0, 62, 126, 1, 257, 1023, 2047] [0, 1, 2, 3, 4, 5, 8, 9] 0 #[true, true, true, true, true, true, true, true, true, true, true, true] (by kernel_rfl) (by kernel_rfl) (by kernel_rfl) (fun w' => Fr (fun _ => False) w w') (Fr.same w).drew (fun d c a v w h => by cases d <;> exact h) ?_
 simp only [Lcl.opsOf, List.map_cons, List.map_nil, List.getElem?_toArray, List.getElem?_cons_succ, List.getElem?_cons_zero, Option.getD_some]
 refine Lcl.wpCalm_t ?_
 repeat (go_big_quiet_step (rfl))
 refine wpQuiet_nil ?_
 refine Lcl.wpCalm_f ?_
 repeat (go_big_quiet_step (rfl))
 refine wpQuiet_nil ?_
 refine Lcl.wpCalm_t ?_
 repeat (go_big_quiet_step (rfl))
 refine wpQuiet_nil ?_
 refine Lcl.wpCalm_nil ?_
 refine Lcl.wpG_run [] _ _ _ (by kernel_rfl) ?_
 simp only [List.map_cons, List.map_nil, List.getElem?_toArray, List.getElem?_cons_succ, List.getElem?_cons_zero, Option.getD_some]
 go_wp2_with fail
 go_ret
 exact ⟨rfl, (Fr.same w).drew⟩
end
end Go.Proofs.YtfdhofabgdkkkaaGreatDoor
/- What a producer was heard with: next. -/
namespace Go.Proofs.YtfdhofabgdkkkaaGreatDoor
open Go.RowKit Go.Fm Go.BigFrame Go.Shelf Go.Maps
set_option linter.unusedVariables false
set_option linter.unusedSimpArgs false
set_option maxRecDepth 100000
section
variable {w w' : World} {hb : Nat} {ep : Int} {r : List Int} {f c : Nat} {S : Nat → Prop}
/-- The number of the i-th one's field in the ring. -/
def ringN (r : List Int) (f i k : Nat) : Int := r.getD ((f + i) % 5 * 3 + k) 0
def nextI (r : List Int) (f c : Nat) : Int := if c = 0 then 0 else ringN r f (c - 1) 0 + ringN r f (c - 1) 2
theorem HearA.at' (h : HearA w hb ep r f c) (i k : Nat) (hk : k < 3) : w.cell? ⟨hb, 1 + (f + i) % 5 * 3 + k, none⟩ = some (.int .i64 (ringN r f i k)) := by
 have h1 : (f + i) % 5 < 5 := Nat.mod_lt _ (by omega)
 have h2 := h.len
 obtain ⟨n, hn⟩ := get_of_lt (show (f + i) % 5 * 3 + k < r.length by omega)
 have h3 := h.ring hn
 unfold ringN
 rw [List.getD_eq_getElem?_getD, hn, Nat.add_assoc]
 exact h3
set_option maxHeartbeats 8000000 in
theorem hnext_walk (h : HearA w hb ep r f c) (hr : ∀ i, 0 ≤ ringN r f i 0 ∧ ringN r f i 0 ≤ 1073741824 ∧ 0 ≤ ringN r f i 2 ∧ ringN r f i 2 ≤ 50) : Calls Tryz.prog 135 #[.pointer (some ⟨hb, 0, none⟩)] w fun e w' => e = .returned (.int .i64 (nextI r f c)) ∧ Fr (fun _ => False) w w' := by
 have c0 := h.count
 have H := Lib.hid h
 have c5 := h.c5
 unfold nextI
 by_cases hc : c = 0
 ·subst hc
  rw [if_pos rfl]
  clear h
  go_enter Tryz.func135, Tryz.ntmps135
  go_wp2_with fail
  go_ret
  exact ⟨rfl, Fr.same w⟩
 ·rw [if_neg hc]
  obtain ⟨i, rfl⟩ : ∃ i, c = i + 1 := ⟨c - 1, by omega⟩
  rw [Nat.add_sub_cancel]
  obtain ⟨hr1, hr2, hr3, hr4⟩ := hr i
  have HW := Lib.hid (hat_walk h i (by omega))
  have hci : ¬ ((i : Int) + 1 = 0) := by omega
  have e1 : ((i : Int) + 1 - 1) = (i : Int) := by omega
  clear h hc hr
  go_enter Tryz.func135, Tryz.ntmps135
  go_wp2_with fail
  try rw [e1]
  refine HW.out.mono ?_
  rintro e w2 ⟨rfl, hf2⟩
  have H2 := Lib.hid (H.out.old hf2)
  have FF := Lib.hid hf2
  have z0 : ∀ y : Lcl.InS (fun w' => Fr (fun _ => False) w2 w'), y.w.cell? ⟨hb, 1 + (f + i) % 5 * 3, none⟩ = some (.int .i64 (ringN r f i 0)) := fun y => y.h.cel (H2.out.at' i 0 (by omega))
  have z2 : ∀ y : Lcl.InS (fun w' => Fr (fun _ => False) w2 w'), y.w.cell? ⟨hb, 1 + (f + i) % 5 * 3 + 2, none⟩ = some (.int .i64 (ringN r f i 2)) := fun y => y.h.cel (H2.out.at' i 2 (by omega))
  clear hf2
  go_wp2_with fail
  refine Lcl.wp_region_calm (by kernel_rfl) [(true, [0, 1, 2, 4, 5, 6]), (false, [3, 7]), (true, [8, 9])] #[0, 1, 3, 7, 0, 16, 48, 112, 255, 511] [0, 1, 2, 3, 4, 5, 6, 7] 0 #[true, true, true, true, true, true, true, true, true, true] (by kernel_rfl) (by kernel_rfl) (by kernel_rfl) (fun w' => Fr (fun _ => False) w2 w') (Fr.same w2).drew (fun d c a v w h => by cases d <;> exact h) ?_
  simp only [Lcl.opsOf, List.map_cons, List.map_nil, List.getElem?_toArray, List.getElem?_cons_succ, List.getElem?_cons_zero, Option.getD_some]
  refine Lcl.wpCalm_t ?_
  repeat (go_big_quiet_step (rfl))
  refine wpQuiet_nil ?_
  refine Lcl.wpCalm_f ?_
  repeat (go_big_quiet_step (rfl))
  refine wpQuiet_nil ?_
  refine Lcl.wpCalm_t ?_
  repeat (go_big_quiet_step (rfl))
  refine wpQuiet_nil ?_
  refine Lcl.wpCalm_nil ?_
  refine Lcl.wpG_run [] _ _ _ (by kernel_rfl) ?_
  simp only [List.map_cons, List.map_nil, List.getElem?_toArray, List.getElem?_cons_succ, List.getElem?_cons_zero, Option.getD_some]
  go_wp2_with fail
  go_ret
  exact ⟨rfl, FF.out.drew⟩
end
end Go.Proofs.YtfdhofabgdkkkaaGreatDoor
