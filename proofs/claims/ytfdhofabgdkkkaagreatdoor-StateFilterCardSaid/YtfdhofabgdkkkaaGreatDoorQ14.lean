/- What producers have sent: New, within, may. -/
import Derived.Test.YtfdhofabgdkkkaaGreatDoorQ12
import Derived.Test.YtfdhofabgdkkkaaGreatDoorQ13
namespace Go.Proofs.YtfdhofabgdkkkaaGreatDoor
open Go.RowKit Go.Fm Go.BigFrame Go.Shelf Go.Maps
set_option linter.unusedVariables false
set_option linter.unusedSimpArgs false
set_option maxRecDepth 100000
theorem iwithin_yes (n lo hi : Int) (w : World) (h : lo ≤ n ∧ n ≤ hi) : Calls Tryz.prog 200 #[.int .i64 n, .int .i64 lo, .int .i64 hi] w fun e w' => e = .returned (.bool true) ∧ w' = w := by
 obtain ⟨h1, h2⟩ := h
 go_enter Tryz.func200, Tryz.ntmps200
 go_wp2_with fail
 go_ret
 exact ⟨rfl, rfl⟩
theorem iwithin_no (n lo hi : Int) (w : World) (h : ¬ (lo ≤ n ∧ n ≤ hi)) : Calls Tryz.prog 200 #[.int .i64 n, .int .i64 lo, .int .i64 hi] w fun e w' => e = .returned (.bool false) ∧ w' = w := by
 have h : n < lo ∨ (lo ≤ n ∧ hi < n ∧ decide (n ≤ hi) = false) := by simp; omega
 rcases h with h | ⟨h1, h2, h3⟩
 all_goals
  go_enter Tryz.func200, Tryz.ntmps200
  go_wp2_with fail
  go_ret
  exact ⟨rfl, rfl⟩
theorem iwithin_walk (n lo hi : Int) (w : World) : Calls Tryz.prog 200 #[.int .i64 n, .int .i64 lo, .int .i64 hi] w fun e w' => e = .returned (.bool (decide (lo ≤ n ∧ n ≤ hi))) ∧ w' = w := by
 by_cases h : lo ≤ n ∧ n ≤ hi
 ·rw [decide_eq_true h]; exact iwithin_yes n lo hi w h
 ·rw [decide_eq_false h]; exact iwithin_no n lo hi w h
/-- A producer's numbers may be. -/
def IMay (b : Bat) : Prop := (0 ≤ b.prod ∧ b.prod ≤ 1073741824) ∧ (0 ≤ b.epoch ∧ b.epoch ≤ 32768) ∧ (0 ≤ b.seq ∧ b.seq ≤ 1073741824) ∧ (1 ≤ b.span ∧ b.span ≤ 50) ∧ (0 ≤ b.base ∧ b.base ≤ 1099511627776)
set_option maxHeartbeats 8000000 in
theorem imay_walk (b : Bat) (oa : Option Addr) (n cap : Nat) (w : World) :
  Calls Tryz.prog 132 #[batV b (.slice oa n cap)] w (IffPost (IMay b) w) := by
 obtain ⟨bbase, bspan, bprod, bepoch, bseq, brecs⟩ := b
 unfold batV IMay
 dsimp only
 have hf := (Fr.same w).alloc (.cells #[.int .i64 bbase, .int .i64 bspan, .int .i64 bprod, .int .i64 bepoch, .int .i64 bseq, .slice oa n cap] 35)
 have FF := Lib.hid hf
 clear hf
 by_cases h1 : 0 ≤ bprod ∧ bprod ≤ 1073741824
 ·go_enter Tryz.func132, Tryz.ntmps132
  go_wp2_with fail
  refine (iwithin_yes _ _ _ _ h1).mono ?_
  rintro e w' ⟨rfl, rfl⟩
  by_cases h2 : 0 ≤ bepoch ∧ bepoch ≤ 32768
  ·go_wp2_with fail
   refine (iwithin_yes _ _ _ _ h2).mono ?_
   rintro e w' ⟨rfl, rfl⟩
   by_cases h3 : 0 ≤ bseq ∧ bseq ≤ 1073741824
   ·go_wp2_with fail
    refine (iwithin_yes _ _ _ _ h3).mono ?_
    rintro e w' ⟨rfl, rfl⟩
    by_cases h4 : 1 ≤ bspan ∧ bspan ≤ 50
    ·go_wp2_with fail
     refine (iwithin_yes _ _ _ _ h4).mono ?_
     rintro e w' ⟨rfl, rfl⟩
     go_wp2_with fail
     refine (iwithin_walk _ _ _ _).mono ?_
     rintro e w' ⟨rfl, rfl⟩
     go_wp2_with fail
     go_ret
     refine ⟨_, rfl, ⟨fun h => ⟨h1, h2, h3, h4, by simpa using h⟩, fun h => by simpa using h.2.2.2.2⟩, FF.out⟩
    ·go_wp2_with fail
     refine (iwithin_no _ _ _ _ h4).mono ?_
     rintro e w' ⟨rfl, rfl⟩
     go_wp2_with fail
     go_ret
     exact ⟨false, rfl, ⟨(fun h => by cases h), fun h => absurd h.2.2.2.1 h4⟩, FF.out⟩
   ·go_wp2_with fail
    refine (iwithin_no _ _ _ _ h3).mono ?_
    rintro e w' ⟨rfl, rfl⟩
    go_wp2_with fail
    go_ret
    exact ⟨false, rfl, ⟨(fun h => by cases h), fun h => absurd h.2.2.1 h3⟩, FF.out⟩
  ·go_wp2_with fail
   refine (iwithin_no _ _ _ _ h2).mono ?_
   rintro e w' ⟨rfl, rfl⟩
   go_wp2_with fail
   go_ret
   exact ⟨false, rfl, ⟨(fun h => by cases h), fun h => absurd h.2.1 h2⟩, FF.out⟩
 ·go_enter Tryz.func132, Tryz.ntmps132
  go_wp2_with fail
  refine (iwithin_no _ _ _ _ h1).mono ?_
  rintro e w' ⟨rfl, rfl⟩
  go_wp2_with fail
  go_ret
  exact ⟨false, rfl, ⟨(fun h => by cases h), fun h => absurd h.1 h1⟩, FF.out⟩
end Go.Proofs.YtfdhofabgdkkkaaGreatDoor
/- What a producer was heard with: at. -/
namespace Go.Proofs.YtfdhofabgdkkkaaGreatDoor
open Go.RowKit Go.Fm Go.BigFrame Go.Shelf Go.Maps
set_option linter.unusedVariables false
set_option linter.unusedSimpArgs false
set_option maxRecDepth 100000
/-- A producer that was heard: its epoch, a ring of five (seq, base, span), the first one, how many. -/
def hearL (e : Int) (r : List Int) (f c : Int) : List Value := .int .i64 e :: (r.map (fun n => .int .i64 n) ++ [.int .i64 f, .int .i64 c])
structure HearA (w : World) (hb : Nat) (e : Int) (r : List Int) (f c : Nat) : Prop where
 b : w.heap[hb]? = some (.cells (hearL e r f c).toArray 255 (0, 0))
 len : r.length = 15
 f5 : f < 5
 c5 : c ≤ 5
section
variable {w w' : World} {hb : Nat} {ep : Int} {r : List Int} {f c : Nat} {S : Nat → Prop}
theorem HearA.fr (h : HearA w hb ep r f c) (hf : Fr S w w') (h1 : ¬ S hb) : HearA w' hb ep r f c := ⟨(hf.block hb (lt_of_heap h.b) h1).trans h.b, h.len, h.f5, h.c5⟩
theorem HearA.old (h : HearA w hb ep r f c) (hf : Fr (fun _ => False) w w') : HearA w' hb ep r f c := h.fr hf fun h => h
theorem HearA.cell (h : HearA w hb ep r f c) (k : Nat) {v : Value} (hv : (hearL ep r f c)[k]? = some v) : w.cell? ⟨hb, k, none⟩ = some v := by
 unfold World.cell?
 rw [h.b]
 simpa using hv
theorem HearA.first (h : HearA w hb ep r f c) : w.cell? ⟨hb, 16, none⟩ = some (.int .i64 f) := h.cell 16 (by
 unfold hearL
 rw [List.getElem?_cons_succ, List.getElem?_append_right (by rw [List.length_map, h.len]; omega), List.length_map, h.len]
 rfl)
theorem HearA.count (h : HearA w hb ep r f c) : w.cell? ⟨hb, 17, none⟩ = some (.int .i64 c) := h.cell 17 (by
 unfold hearL
 rw [List.getElem?_cons_succ, List.getElem?_append_right (by rw [List.length_map, h.len]; omega), List.length_map, h.len]
 rfl)
theorem HearA.epoch (h : HearA w hb ep r f c) : w.cell? ⟨hb, 0, none⟩ = some (.int .i64 ep) := h.cell 0 rfl
theorem HearA.ring (h : HearA w hb ep r f c) {k : Nat} {n : Int} (hn : r[k]? = some n) : w.cell? ⟨hb, 1 + k, none⟩ = some (.int .i64 n) := h.cell (1 + k) (by
 have hk := (List.getElem?_eq_some_iff.1 hn).1
 unfold hearL
 rw [Nat.add_comm, List.getElem?_cons_succ, List.getElem?_append_left (by rw [List.length_map]; exact hk), List.getElem?_map, hn]
 rfl)
set_option maxHeartbeats 8000000 in
theorem hat_walk (h : HearA w hb ep r f c) (i : Nat) (hi : i ≤ 5) : Calls Tryz.prog 134 #[.pointer (some ⟨hb, 0, none⟩), .int .i64 i] w fun e w' => e = .returned (.pointer (some ⟨hb, 1 + (f + i) % 5 * 3, none⟩)) ∧ Fr (fun _ => False) w w' := by
 have z0 : ∀ y : Lcl.InS (fun w' => Fr (fun _ => False) w w'), y.w.cell? ⟨hb, 16, none⟩ = some (.int .i64 f) := fun y => y.h.cel h.first
 have f5 := h.f5
 clear h
 go_enter Tryz.func134, Tryz.ntmps134
 go_wp2_with fail
 refine Lcl.wp_region_calm (by kernel_rfl) [(true, [0, 1, 2, 3, 5, 8, 9]), (false, [4]), (true, [6, 7, 10, 11])] #[0, 0, 2, 6, 14, 0, 62, 126, 1, 257, 1023, 2047] [0, 1, 2, 3, 4, 5, 8, 9] 0 #[true, true, true, true, true, true, true, true, true, true, true, true] (by kernel_rfl) (by kernel_rfl) (by kernel_rfl) (fun w' => Fr (fun _ => False) w w') (Fr.same w).drew (fun d c a v w h => by cases d <;> exact h) ?_
 simp only [Lcl.opsOf, List.map_cons, List.map_nil, List.getElem?_toArray, List.getElem?_cons_succ, List.getElem?_cons_zero, Option.getD_some]
 refine Lcl.wpCalm_t ?_
 repeat (go_big_quiet_step (rfl))
 refine wpQuiet_nil ?_
 refine Lcl.wpCalm_f ?_
 repeat (go_big_quiet_step (rfl))
 refine wpQuiet_nil ?_
 refine Lcl.wpCalm_t ?_
 repeat (go_big_quiet_step (rfl))
 refine wpQuiet_nil ?_
 refine Lcl.wpCalm_nil ?_
 refine Lcl.wpG_run [] _ _ _ (by kernel_rfl) ?_
 simp only [List.map_cons, List.map_nil, List.getElem?_toArray, List.getElem?_cons_succ, List.getElem?_cons_zero, Option.getD_some]
 go_wp2_with fail
 go_ret
 exact ⟨rfl, (Fr.same w).drew⟩
end
end Go.Proofs.YtfdhofabgdkkkaaGreatDoor
/- What a producer was heard with: next. -/
namespace Go.Proofs.YtfdhofabgdkkkaaGreatDoor
open Go.RowKit Go.Fm Go.BigFrame Go.Shelf Go.Maps
set_option linter.unusedVariables false
set_option linter.unusedSimpArgs false
set_option maxRecDepth 100000
section
variable {w w' : World} {hb : Nat} {ep : Int} {r : List Int} {f c : Nat} {S : Nat → Prop}
/-- The number of the i-th one's field in the ring. -/
def ringN (r : List Int) (f i k : Nat) : Int := r.getD ((f + i) % 5 * 3 + k) 0
def nextI (r : List Int) (f c : Nat) : Int := if c = 0 then 0 else ringN r f (c - 1) 0 + ringN r f (c - 1) 2
theorem HearA.at' (h : HearA w hb ep r f c) (i k : Nat) (hk : k < 3) : w.cell? ⟨hb, 1 + (f + i) % 5 * 3 + k, none⟩ = some (.int .i64 (ringN r f i k)) := by
 have h1 : (f + i) % 5 < 5 := Nat.mod_lt _ (by omega)
 have h2 := h.len
 obtain ⟨n, hn⟩ := get_of_lt (show (f + i) % 5 * 3 + k < r.length by omega)
 have h3 := h.ring hn
 unfold ringN
 rw [List.getD_eq_getElem?_getD, hn, Nat.add_assoc]
 exact h3
set_option maxHeartbeats 8000000 in
theorem hnext_walk (h : HearA w hb ep r f c) (hr : ∀ i, 0 ≤ ringN r f i 0 ∧ ringN r f i 0 ≤ 1073741824 ∧ 0 ≤ ringN r f i 2 ∧ ringN r f i 2 ≤ 50) : Calls Tryz.prog 135 #[.pointer (some ⟨hb, 0, none⟩)] w fun e w' => e = .returned (.int .i64 (nextI r f c)) ∧ Fr (fun _ => False) w w' := by
 have c0 := h.count
 have H := Lib.hid h
 have c5 := h.c5
 unfold nextI
 by_cases hc : c = 0
 ·subst hc
  rw [if_pos rfl]
  clear h
  go_enter Tryz.func135, Tryz.ntmps135
  go_wp2_with fail
  go_ret
  exact ⟨rfl, Fr.same w⟩
 ·rw [if_neg hc]
  obtain ⟨i, rfl⟩ : ∃ i, c = i + 1 := ⟨c - 1, by omega⟩
  rw [Nat.add_sub_cancel]
  obtain ⟨hr1, hr2, hr3, hr4⟩ := hr i
  have HW := Lib.hid (hat_walk h i (by omega))
  have hci : ¬ ((i : Int) + 1 = 0) := by omega
  have e1 : ((i : Int) + 1 - 1) = (i : Int) := by omega
  clear h hc hr
  go_enter Tryz.func135, Tryz.ntmps135
  go_wp2_with fail
  try rw [e1]
  refine HW.out.mono ?_
  rintro e w2 ⟨rfl, hf2⟩
  have H2 := Lib.hid (H.out.old hf2)
  have FF := Lib.hid hf2
  have z0 : ∀ y : Lcl.InS (fun w' => Fr (fun _ => False) w2 w'), y.w.cell? ⟨hb, 1 + (f + i) % 5 * 3, none⟩ = some (.int .i64 (ringN r f i 0)) := fun y => y.h.cel (H2.out.at' i 0 (by omega))
  have z2 : ∀ y : Lcl.InS (fun w' => Fr (fun _ => False) w2 w'), y.w.cell? ⟨hb, 1 + (f + i) % 5 * 3 + 2, none⟩ = some (.int .i64 (ringN r f i 2)) := fun y => y.h.cel (H2.out.at' i 2 (by omega))
  clear hf2
  go_wp2_with fail
  refine Lcl.wp_region_calm (by kernel_rfl) [(true, [0, 1, 2, 4, 5, 6]), (false, [3, 7]), (true, [8, 9])] #[0, 1, 3, 7, 0, 16, 48, 112, 255, 511] [0, 1, 2, 3, 4, 5, 6, 7] 0 #[true, true, true, true, true, true, true, true, true, true] (by kernel_rfl) (by kernel_rfl) (by kernel_rfl) (fun w' => Fr (fun _ => False) w2 w') (Fr.same w2).drew (fun d c a v w h => by cases d <;> exact h) ?_
  simp only [Lcl.opsOf, List.map_cons, List.map_nil, List.getElem?_toArray, List.getElem?_cons_succ, List.getElem?_cons_zero, Option.getD_some]
  refine Lcl.wpCalm_t ?_
  repeat (go_big_quiet_step (rfl))
  refine wpQuiet_nil ?_
  refine Lcl.wpCalm_f ?_
  repeat (go_big_quiet_step (rfl))
  refine wpQuiet_nil ?_
  refine Lcl.wpCalm_t ?_
  repeat (go_big_quiet_step (rfl))
  refine wpQuiet_nil ?_
  refine Lcl.wpCalm_nil ?_
  refine Lcl.wpG_run [] _ _ _ (by kernel_rfl) ?_
  simp only [List.map_cons, List.map_nil, List.getElem?_toArray, List.getElem?_cons_succ, List.getElem?_cons_zero, Option.getD_some]
  go_wp2_with fail
  go_ret
  exact ⟨rfl, FF.out.drew⟩
end
end Go.Proofs.YtfdhofabgdkkkaaGreatDoor
/- What producers have sent: the map; New, of. -/
namespace Go.Proofs.YtfdhofabgdkkkaaGreatDoor
open Go.RowKit Go.Fm Go.BigFrame Go.Shelf Go.Maps
set_option linter.unusedVariables false
set_option linter.unusedSimpArgs false
set_option maxRecDepth 100000
section
variable {w w' : World} {pb mb : Nat} {S : Nat → Prop}
/-- A producer: where it lies, its epoch, ring, first, count. -/
structure Hrd where
 hb : Nat
 ep : Int
 r : List Int
 f : Nat
 c : Nat
def hptr (x : Hrd) : Value := .pointer (some ⟨x.hb, 0, none⟩)
def hrows (L : List (Int × Hrd)) : List (Int × Value) := L.map fun x => (x.1, hptr x.2)
/-- What producers have sent, in memory. -/
structure ProdA (w : World) (pb mb : Nat) (L : List (Int × Hrd)) : Prop where
 b : w.heap[pb]? = some (.cells #[.map (some mb)] 240 (0, 0))
 m : MapG intK w mb (hrows L)
 ne : pb ≠ mb
 el : ∀ x ∈ L, HearA w x.2.hb x.2.ep x.2.r x.2.f x.2.c ∧ x.2.hb ≠ pb ∧ x.2.hb ≠ mb
 ap : (L.map (·.2.hb)).Nodup
def prodS (pb mb : Nat) (L : List (Int × Hrd)) : Nat → Prop := fun i => i = pb ∨ i = mb ∨ ∃ x ∈ L, i = x.2.hb
theorem ProdA.fr {L : List (Int × Hrd)} (h : ProdA w pb mb L) (hf : Fr S w w') (hS : ∀ i, prodS pb mb L i → ¬ S i) : ProdA w' pb mb L :=
 ⟨(hf.block pb (lt_of_heap h.b) (hS _ (.inl rfl))).trans h.b, h.m.fr hf (hS _ (.inr (.inl rfl))), h.ne, fun x hx => ⟨(h.el x hx).1.fr hf (hS _ (.inr (.inr ⟨x, hx, rfl⟩))), (h.el x hx).2⟩, h.ap⟩
theorem ProdA.old {L : List (Int × Hrd)} (h : ProdA w pb mb L) (hf : Fr (fun _ => False) w w') : ProdA w' pb mb L := h.fr hf fun _ _ h => h
theorem hrows_get {L : List (Int × Hrd)} {k : Int} : getG (hrows L) k = ((L.find? fun x => x.1 = k).map (·.2)).map hptr := by
 unfold getG hrows
 rw [List.find?_map, Option.map_map, Option.map_map]
 rfl
set_option maxHeartbeats 8000000 in
theorem inew_walk (w : World) : Calls Tryz.prog 71 #[] w fun e w' => ∃ pb mb, e = .returned (.pointer (some ⟨pb, 0, none⟩)) ∧ ProdA w' pb mb [] ∧ w.heap.size ≤ pb ∧ w.heap.size ≤ mb ∧ Fr (fun _ => False) w w' := by
 have f1 := (Fr.same w).alloc (.map #[] 0)
 have m1 := MapG.made intK w
 have f2 := (Fr.same (w.alloc (.map #[] 0))).alloc (.cells #[.map (some w.heap.size)] 240)
 have x2 := heap_alloc_self (w.alloc (.map #[] 0)) (.cells #[.map (some w.heap.size)] 240)
 have hs : (w.alloc (.map #[] 0)).heap.size = w.heap.size + 1 := by simp
 have HT := Lib.hid (show ProdA ((w.alloc (.map #[] 0)).alloc (.cells #[.map (some w.heap.size)] 240)) (w.heap.size + 1) w.heap.size [] from ⟨by rw [← hs]; exact x2, m1.fr f2 (fun h => h), by omega, fun r hr => (by cases hr), List.nodup_nil⟩)
 have FF := Lib.hid (f1.tr f2)
 have hmm := @run_makeMap Tryz.prog
 clear f1 m1 f2 x2 hs
 go_enter Tryz.func71, Tryz.ntmps71
 go_wp2_with fail
 go_ret
 exact ⟨w.heap.size + 1, w.heap.size, rfl, HT.out, by omega, Nat.le_refl _, FF.out⟩
end
end Go.Proofs.YtfdhofabgdkkkaaGreatDoor
/- What producers have sent: of. -/
namespace Go.Proofs.YtfdhofabgdkkkaaGreatDoor
open Go.RowKit Go.Fm Go.BigFrame Go.Shelf Go.Maps
set_option linter.unusedVariables false
set_option linter.unusedSimpArgs false
set_option maxRecDepth 100000
section
variable {w w' : World} {pb mb : Nat} {S : Nat → Prop}
theorem zeroH (w : World) : (zeroValue 249).run Tryz.prog w = .ok (.pointer none) w := by kernel_rfl
def findH (L : List (Int × Hrd)) (k : Int) : Option Hrd := (L.find? fun x => x.1 = k).map (·.2)
theorem findH_mem {L : List (Int × Hrd)} {k : Int} {x : Hrd} (h : findH L k = some x) : (k, x) ∈ L := by
 unfold findH at h
 cases hf : L.find? fun r => r.1 = k with
 | none => rw [hf] at h; cases h
 | some r =>
  rw [hf] at h
  have h1 := List.find?_some hf
  have h2 := List.mem_of_find?_eq_some hf
  simp at h h1
  obtain ⟨a, y⟩ := r
  simp at h h1
  subst h h1
  exact h2
theorem ProdA.look {L : List (Int × Hrd)} (h : ProdA w pb mb L) {k : Int} (hk : (Lit.int .i64 k).wf = true) : (Instr.lookup 238 (.map (some mb)) (.int .i64 k) true).run Tryz.prog w = .ok (.tuple #[((findH L k).map hptr).getD (.pointer none), .bool ((findH L k).map hptr).isSome]) w := by
 have h1 := h.m.look intLaw Tryz.underlying238 (zeroH w) hk
 rw [hrows_get] at h1
 exact h1
def zeros15 : List Int := [0, 0, 0, 0, 0, 0, 0, 0, 0, 0, 0, 0, 0, 0, 0]
def OfPost (w : World) (L : List (Int × Hrd)) (k : Int) (e : Ending) (w' : World) : Prop :=
 (∃ x, findH L k = some x ∧ e = .returned (hptr x) ∧ Fr (fun _ => False) w w') ∨
 (findH L k = none ∧ ∃ hb, w.heap.size ≤ hb ∧ e = .returned (.pointer (some ⟨hb, 0, none⟩)) ∧ HearA w' hb (-1) zeros15 0 0 ∧ Fr (fun _ => False) w w')
set_option maxHeartbeats 8000000 in
theorem iof_walk {L : List (Int × Hrd)} (h : ProdA w pb mb L) (k : Int) (hk : (Lit.int .i64 k).wf = true) : Calls Tryz.prog 133 #[.pointer (some ⟨pb, 0, none⟩), .int .i64 k] w (OfPost w L k) := by
 have c0 : w.cell? ⟨pb, 0, none⟩ = some (.map (some mb)) := (cell_of h.b 0).trans rfl
 have hlk := h.look hk
 clear h
 cases hg : findH L k with
 | none =>
  rw [hg] at hlk
  dsimp only [Option.map, Option.getD, Option.isSome] at hlk
  have fa := (Fr.same w).alloc (.cells (hearL (-1) zeros15 0 0).toArray 255)
  have ha := heap_alloc_self w (.cells (hearL (-1) zeros15 0 0).toArray 255)
  have HA := Lib.hid (show HearA (w.alloc (.cells (hearL (-1) zeros15 0 0).toArray 255)) w.heap.size (-1) zeros15 0 0 from ⟨ha, rfl, by omega, by omega⟩)
  have FA := Lib.hid fa
  have HG := Lib.hid hg
  clear fa ha hg
  go_enter Tryz.func133, Tryz.ntmps133
  go_wp2_with fail
  go_ret
  exact .inr ⟨HG.out, w.heap.size, Nat.le_refl _, rfl, HA.out, FA.out⟩
 | some x =>
  rw [hg] at hlk
  dsimp only [Option.map, Option.getD, Option.isSome] at hlk
  unfold hptr at hlk
  have HG := Lib.hid hg
  clear hg
  go_enter Tryz.func133, Tryz.ntmps133
  go_wp2_with fail
  go_ret
  exact .inl ⟨x, HG.out, rfl, Fr.same w⟩
end
end Go.Proofs.YtfdhofabgdkkkaaGreatDoor
/- Replies: tells; inside. -/
namespace Go.Proofs.YtfdhofabgdkkkaaGreatDoor
open Go.RowKit Go.Fm Go.BigFrame Go.Shelf Go.Maps
set_option linter.unusedVariables false
set_option linter.unusedSimpArgs false
set_option maxRecDepth 100000
/-- A reply without lists. -/
def tellV (e at' : Int) : Value := .agg #[.int .i64 e, .int .i64 at', .int .i64 0, .int .i64 0, .int .i64 0, .int .i64 0, .int .i64 0, .slice none 0 0, .slice none 0 0, .slice none 0 0]
set_option maxHeartbeats 8000000 in
theorem tells_walk (at' e : Int) (w : World) : Calls Tryz.prog 32 #[.int .i64 at', .int .i64 e] w fun r w' => r = .returned (if e = 0 then tellV 0 at' else tellV e 0) ∧ Fr (fun _ => False) w w' := by
 by_cases h : e = 0
 ·subst h
  rw [if_pos rfl]
  have FF := Lib.hid ((Fr.same w).alloc (.cells #[.int .i64 0, .int .i64 at', .int .i64 0, .int .i64 0, .int .i64 0, .int .i64 0, .int .i64 0, .slice none 0 0, .slice none 0 0, .slice none 0 0] 31))
  have dd := fun j => cell_alloc_new w #[.int .i64 0, .int .i64 at', .int .i64 0, .int .i64 0, .int .i64 0, .int .i64 0, .int .i64 0, .slice none 0 0, .slice none 0 0, .slice none 0 0] 31 j
  go_enter Tryz.func32, Tryz.ntmps32
  go_wp2_with fail
  refine bodyPost_ret (v := tellV 0 at') (by simp [results, Tryz.f32, go_sem, tellV, dd]) rfl ⟨rfl, FF.out⟩
 ·rw [if_neg h]
  have FF := Lib.hid ((Fr.same w).alloc (.cells #[.int .i64 e, .int .i64 0, .int .i64 0, .int .i64 0, .int .i64 0, .int .i64 0, .int .i64 0, .slice none 0 0, .slice none 0 0, .slice none 0 0] 31))
  have dd := fun j => cell_alloc_new w #[.int .i64 e, .int .i64 0, .int .i64 0, .int .i64 0, .int .i64 0, .int .i64 0, .int .i64 0, .slice none 0 0, .slice none 0 0, .slice none 0 0] 31 j
  go_enter Tryz.func32, Tryz.ntmps32
  go_wp2_with fail
  refine bodyPost_ret (v := tellV e 0) (by simp [results, Tryz.f32, go_sem, tellV, dd]) rfl ⟨rfl, FF.out⟩
end Go.Proofs.YtfdhofabgdkkkaaGreatDoor
/- A partition: inside. -/
namespace Go.Proofs.YtfdhofabgdkkkaaGreatDoor
open Go.RowKit Go.Fm Go.BigFrame Go.Shelf Go.Maps
set_option linter.unusedVariables false
set_option linter.unusedSimpArgs false
set_option maxRecDepth 100000
theorem inside_walk (xb : Nat) (st en at' : Int) (w : World) (c0 : w.cell? ⟨xb, 0, none⟩ = some (.int .i64 st)) (c1 : w.cell? ⟨xb, 1, none⟩ = some (.int .i64 en)) : Calls Tryz.prog 79 #[.pointer (some ⟨xb, 0, none⟩), .int .i64 at'] w fun e w' => e = .returned (.bool (decide (st ≤ at' ∧ at' ≤ en))) ∧ w' = w := by
 by_cases h : st ≤ at'
 ·by_cases h2 : at' ≤ en
  ·rw [decide_eq_true ⟨h, h2⟩]
   go_enter Tryz.func79, Tryz.ntmps79
   go_wp2_with fail
   go_ret
   exact ⟨rfl, rfl⟩
  ·rw [decide_eq_false fun x => h2 x.2]
   have h3 : decide (at' ≤ en) = false := by simpa using h2
   go_enter Tryz.func79, Tryz.ntmps79
   go_wp2_with fail
   go_ret
   exact ⟨rfl, rfl⟩
 ·rw [decide_eq_false fun x => h x.1]
  go_enter Tryz.func79, Tryz.ntmps79
  go_wp2_with fail
  go_ret
  exact ⟨rfl, rfl⟩
end Go.Proofs.YtfdhofabgdkkkaaGreatDoor
/- What producers have sent: Check. -/
namespace Go.Proofs.YtfdhofabgdkkkaaGreatDoor
open Go.RowKit Go.Fm Go.BigFrame Go.Shelf Go.Maps
set_option linter.unusedVariables false
set_option linter.unusedSimpArgs false
set_option maxRecDepth 100000
section
variable {w w' : World} {pb mb : Nat} {S : Nat → Prop}
def findSent (r : List Int) (f : Nat) (b : Bat) : Nat → Option Int
 | 0 => none
 | k + 1 => if ringN r f k 0 = b.seq ∧ ringN r f k 2 = b.span then some (ringN r f k 1) else findSent r f b k
/-- What Check tells of a batch, of a producer that was heard so. -/
def chkF (ep : Int) (r : List Int) (f c : Nat) (b : Bat) : Int × Bool × Int :=
 if b.epoch < ep then (0, false, 8)
 else if b.epoch = ep then match findSent r f b c with
  | some x => (x, true, 0)
  | none => if b.seq = nextI r f c then (0, false, 0) else (0, false, 9)
 else if b.seq = 0 then (0, false, 0) else (0, false, 9)
def chkV (p : Int × Bool × Int) : Value := .tuple #[.int .i64 p.1, .bool p.2.1, .int .i64 p.2.2]
def RingOK (r : List Int) (f : Nat) : Prop := ∀ i, (0 ≤ ringN r f i 0 ∧ ringN r f i 0 ≤ 1073741824) ∧ 0 ≤ ringN r f i 2 ∧ ringN r f i 2 ≤ 50
end
end Go.Proofs.YtfdhofabgdkkkaaGreatDoor
/- What producers have sent: the walk of Check. -/
namespace Go.Proofs.YtfdhofabgdkkkaaGreatDoor
open Go.RowKit Go.Fm Go.BigFrame Go.Shelf Go.Maps
set_option linter.unusedVariables false
set_option linter.unusedSimpArgs false
set_option maxRecDepth 100000
section
variable {w w' : World} {pb mb : Nat} {S : Nat → Prop}
def chkL (L : List (Int × Hrd)) (b : Bat) : Int × Bool × Int := match findH L b.prod with
 | some x => chkF x.ep x.r x.f x.c b
 | none => chkF (-1) zeros15 0 0 b
open Classical in
noncomputable def chkAll (L : List (Int × Hrd)) (b : Bat) : Int × Bool × Int := if b.prod = -1 then (0, false, 0) else if IMay { b with base := 0 } then chkL L b else (0, false, 1)
theorem ring_zero : RingOK zeros15 0 := fun i => by
 have h : ∀ k, zeros15.getD k 0 = 0 := fun k => by
  unfold zeros15
  rcases Nat.lt_or_ge k 15 with h | h
  ·have : k = 0 ∨ k = 1 ∨ k = 2 ∨ k = 3 ∨ k = 4 ∨ k = 5 ∨ k = 6 ∨ k = 7 ∨ k = 8 ∨ k = 9 ∨ k = 10 ∨ k = 11 ∨ k = 12 ∨ k = 13 ∨ k = 14 := by omega
   rcases this with rfl | rfl | rfl | rfl | rfl | rfl | rfl | rfl | rfl | rfl | rfl | rfl | rfl | rfl | rfl <;> rfl
  ·rw [List.getD_eq_getElem?_getD, List.getElem?_eq_none (by simpa using h)]
   rfl
 unfold ringN
 rw [h, h]
 omega
theorem of_hear {L : List (Int × Hrd)} (h : ProdA w pb mb L) (hR : ∀ x ∈ L, RingOK x.2.r x.2.f) {b : Bat} {e : Ending} (hp : OfPost w L b.prod e w') :
  ∃ hb ep r f c, e = .returned (.pointer (some ⟨hb, 0, none⟩)) ∧ HearA w' hb ep r f c ∧ RingOK r f ∧ chkL L b = chkF ep r f c b ∧ Fr (fun _ => False) w w' := by
 unfold chkL
 rcases hp with ⟨x, hx, rfl, hf⟩ | ⟨hn, hb, -, rfl, hh, hf⟩
 ·have hm := findH_mem hx
  rw [hx]
  exact ⟨x.hb, x.ep, x.r, x.f, x.c, rfl, (h.el _ hm).1.old hf, hR _ hm, rfl, hf⟩
 ·rw [hn]
  exact ⟨hb, -1, zeros15, 0, 0, rfl, hh, ring_zero, rfl, hf⟩
end
end Go.Proofs.YtfdhofabgdkkkaaGreatDoor
