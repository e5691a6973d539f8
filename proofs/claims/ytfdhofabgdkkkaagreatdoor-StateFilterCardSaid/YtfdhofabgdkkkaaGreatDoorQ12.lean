/- The table of topics: New, Find. -/
import Derived.Test.YtfdhofabgdkkkaaGreatDoorQ5
import Derived.Test.YtfdhofabgdkkkaaGreatDoorQ11
namespace Go.Proofs.YtfdhofabgdkkkaaGreatDoor
open Go.RowKit Go.Fm Go.BigFrame Go.Shelf Go.Maps
set_option linter.unusedVariables false
set_option linter.unusedSimpArgs false
set_option maxRecDepth 100000
def oneV (id parts : Int) : Value := .agg #[.int .i64 id, .int .i64 parts]
section
variable {w w' : World} {tb mb : Nat} {next : Int} {L : List (ByteArray × Value)} {S : Nat → Prop}
structure TopA (w : World) (tb mb : Nat) (next : Int) (L : List (ByteArray × Value)) : Prop where
 b : w.heap[tb]? = some (.cells #[.int .i64 next, .map (some mb)] 142 (0, 0))
 m : MapG strK w mb L
 ne : tb ≠ mb
 el : ∀ r ∈ L, ∃ i p, r.2 = oneV i p
theorem TopA.fr (h : TopA w tb mb next L) (hf : Fr S w w') (h1 : ¬ S tb) (h2 : ¬ S mb) : TopA w' tb mb next L := ⟨(hf.block tb (lt_of_heap h.b) h1).trans h.b, h.m.fr hf h2, h.ne, h.el⟩
theorem TopA.old (h : TopA w tb mb next L) (hf : Fr (fun _ => False) w w') : TopA w' tb mb next L := h.fr hf (fun h => h) fun h => h
theorem zeroOne (w : World) : (zeroValue 158).run Tryz.prog w = .ok (oneV 0 0) w := by kernel_rfl
theorem TopA.look (h : TopA w tb mb next L) {k : ByteArray} (hk : k.size ≤ maxLen) : (Instr.lookup 140 (.map (some mb)) (.string k) true).run Tryz.prog w = .ok (.tuple #[(getG L k).getD (oneV 0 0), .bool (getG L k).isSome]) w :=
 h.m.look strLaw Tryz.underlying140 (zeroOne w) hk
set_option maxHeartbeats 8000000 in
theorem tnew_walk (w : World) : Calls Tryz.prog 30 #[] w fun e w' => ∃ tb mb, e = .returned (.pointer (some ⟨tb, 0, none⟩)) ∧ TopA w' tb mb 0 [] ∧ w.heap.size ≤ tb ∧ w.heap.size ≤ mb ∧ Fr (fun _ => False) w w' := by
 have f1 := (Fr.same w).alloc (.map #[] 0)
 have m1 := MapG.made strK w
 have f2 := (Fr.same (w.alloc (.map #[] 0))).alloc (.cells #[.int .i64 0, .map (some w.heap.size)] 142)
 have x2 := heap_alloc_self (w.alloc (.map #[] 0)) (.cells #[.int .i64 0, .map (some w.heap.size)] 142)
 have hs : (w.alloc (.map #[] 0)).heap.size = w.heap.size + 1 := by simp
 have HT := Lib.hid (show TopA ((w.alloc (.map #[] 0)).alloc (.cells #[.int .i64 0, .map (some w.heap.size)] 142)) (w.heap.size + 1) w.heap.size 0 [] from ⟨by rw [← hs]; exact x2, m1.fr f2 (fun h => h), by omega, fun r hr => by cases hr⟩)
 have FF := Lib.hid (f1.tr f2)
 have hmm := @run_makeMap Tryz.prog
 clear f1 m1 f2 x2 hs
 go_enter Tryz.func30, Tryz.ntmps30
 go_wp2_with fail
 go_ret
 exact ⟨w.heap.size + 1, w.heap.size, rfl, HT.out, by omega, Nat.le_refl _, FF.out⟩
set_option maxHeartbeats 8000000 in
theorem tfind_walk (h : TopA w tb mb next L) (k : ByteArray) (hk : k.size ≤ maxLen) : Calls Tryz.prog 69 #[.pointer (some ⟨tb, 0, none⟩), .string k] w fun e w' =>
  ((∃ i p, getG L k = some (oneV i p) ∧ e = .returned (.tuple #[.int .i64 i, .int .i64 p, .int .i64 0])) ∨ (getG L k = none ∧ e = .returned (.tuple #[.int .i64 0, .int .i64 0, .int .i64 6]))) ∧ Fr (fun _ => False) w w' := by
 have H := Lib.hid h
 have c1 : w.cell? ⟨tb, 1, none⟩ = some (.map (some mb)) := (cell_of h.b 1).trans rfl
 have hlk := h.look hk
 have hel := h.el
 clear h
 cases hg : getG L k with
 | none =>
  rw [hg] at hlk
  dsimp only [Option.getD, Option.isSome] at hlk
  unfold oneV at hlk
  have FF := Lib.hid ((Fr.same w).alloc (.cells #[.int .i64 0, .int .i64 0] 158))
  go_enter Tryz.func69, Tryz.ntmps69
  go_wp2_with fail
  go_ret3
  exact ⟨.inr ⟨by trivial, rfl⟩, FF.out⟩
 | some v =>
  obtain ⟨i, p, rfl⟩ : ∃ i p, v = oneV i p := hel _ (getG_some hg)
  rw [hg] at hlk
  dsimp only [Option.getD, Option.isSome] at hlk
  unfold oneV at hlk
  have FF := Lib.hid ((Fr.same w).alloc (.cells #[.int .i64 i, .int .i64 p] 158))
  go_enter Tryz.func69, Tryz.ntmps69
  have x0 : ∀ y : Lcl.InS (fun w' => Fr (fun _ => False) (w.alloc (.cells #[.int .i64 i, .int .i64 p] 158)) w'), y.w.cell? ⟨w.heap.size, 0, none⟩ = some (.int .i64 i) := fun y => y.h.cel (cell_alloc_new w _ 158 0)
  have x1 : ∀ y : Lcl.InS (fun w' => Fr (fun _ => False) (w.alloc (.cells #[.int .i64 i, .int .i64 p] 158)) w'), y.w.cell? ⟨w.heap.size, 1, none⟩ = some (.int .i64 p) := fun y => y.h.cel (cell_alloc_new w _ 158 1)
  go_wp2_with fail
  generalize (w.alloc (.cells #[.int .i64 i, .int .i64 p] 158)) = W at *
  refine Lcl.wp_region_calm (by kernel_rfl) [(true, [0, 2]), (false, [1, 3]), (true, [4, 5, 6])] #[0, 1, 0, 4, 3, 31, 63] [0, 1, 2, 3, 4] 0 #[true, true, true, true, true, true, true] (by kernel_rfl) (by kernel_rfl) (by kernel_rfl) (fun w' => Fr (fun _ => False) W w') (Fr.same W).drew (fun d c a v w h => by cases d <;> exact h) ?_
  simp only [Lcl.opsOf, List.map_cons, List.map_nil, List.getElem?_toArray, List.getElem?_cons_succ, List.getElem?_cons_zero, Option.getD_some]
  refine Lcl.wpCalm_t ?_
  repeat (go_big_quiet_step (rfl))
  refine wpQuiet_nil ?_
  refine Lcl.wpCalm_f ?_
  repeat (go_big_quiet_step (rfl))
  refine wpQuiet_nil ?_
  refine Lcl.wpCalm_t ?_
  repeat (go_big_quiet_step (rfl))
  refine wpQuiet_nil ?_
  refine Lcl.wpCalm_nil ?_
  refine Lcl.wpG_run [] _ _ _ (by kernel_rfl) ?_
  simp only [List.map_cons, List.map_nil, List.getElem?_toArray, List.getElem?_cons_succ, List.getElem?_cons_zero, Option.getD_some]
  go_wp2_with fail
  go_ret3
  exact ⟨.inl ⟨i, p, rfl, rfl⟩, FF.out.drew⟩
end
end Go.Proofs.YtfdhofabgdkkkaaGreatDoor
/- The table of topics: Create. -/
namespace Go.Proofs.YtfdhofabgdkkkaaGreatDoor
open Go.RowKit Go.Fm Go.BigFrame Go.Shelf Go.Maps
set_option linter.unusedVariables false
set_option linter.unusedSimpArgs false
set_option maxRecDepth 100000
theorem MapG.len {K : Type} [DecidableEq K] {q : KK K} {w : World} {b : Nat} {L : List (K × Value)} (h : MapG q w b L) (mt ty : TypeId) (ht : ∃ e, Tryz.prog.underlying mt = some (.map q.kt e)) : (Builtin.len_ #[mt] ty #[.map (some b)]).run Tryz.prog w = .ok (.int .i64 (L.length : Nat)) w := by
 obtain ⟨h0, D, h1, h2, -⟩ := h
 obtain ⟨e, ht⟩ := ht
 rw [h1.len ht ty, h2]
section
variable {w w' : World} {tb mb : Nat} {next : Int} {L : List (ByteArray × Value)} {S : Nat → Prop}
set_option maxHeartbeats 16000000 in
theorem tcreate_walk (h : TopA w tb mb next L) (k : ByteArray) (parts : Int) (hk1 : 1 ≤ k.size) (hk2 : k.size ≤ 100) (hp1 : 1 ≤ parts) (hp2 : parts ≤ 16) (hg : getG L k = none) (hL : L.length < 20) (hn0 : 0 ≤ next) (hn1 : next < 1073741824) : Calls Tryz.prog 70 #[.pointer (some ⟨tb, 0, none⟩), .string k, .int .i64 parts] w fun e w' =>
  e = .returned (.tuple #[.int .i64 next, .int .i64 0]) ∧ TopA w' tb mb (next + 1) (putG L k (oneV next parts)) ∧ Fr (fun i => i = tb ∨ i = mb) w w' := by
 have H := Lib.hid h
 have c1 : w.cell? ⟨tb, 1, none⟩ = some (.map (some mb)) := (cell_of h.b 1).trans rfl
 have hlk := h.look (k := k) (by unfold maxLen; omega)
 rw [hg] at hlk
 dsimp only [Option.getD, Option.isSome] at hlk
 unfold oneV at hlk
 have hne : ¬ k.toList = [] := fun e => by
  rw [empty_list.2 e] at hk1
  simp at hk1
 have hn5 : k.toList.isEmpty = false := by simpa using hne
 have n1 : ¬ (100 : Int) < (k.size : Int) := by omega
 have n2 : ¬ parts < 1 := by omega
 have n3 : ¬ (16 : Int) < parts := by omega
 have fa := (Fr.same w).alloc (.cells #[.int .i64 0, .int .i64 0] 158)
 have HA := Lib.hid (h.old fa)
 have FA := Lib.hid fa
 have hln := HA.out.m.len 140 3 ⟨158, Tryz.underlying140⟩
 have k1 := fa.cel c1
 have k0 := fa.cel (show w.cell? ⟨tb, 0, none⟩ = some (.int .i64 next) from (cell_of h.b 0).trans rfl)
 have g1 : decide ((20 : Int) ≤ (L.length : Int)) = false := by simp; omega
 have g2 : decide ((1073741824 : Int) ≤ next) = false := by simp; omega
 have hw := H.out
 have hput : TopA w tb mb next L := hw
 have HN := Lib.hid h.ne
 clear h fa hput hw
 go_enter Tryz.func70, Tryz.ntmps70
 go_wp2_with (at_mapUpdate; refine wpList_putG strLaw _ rfl 140 158 Tryz.underlying140 (.tmp 60) (.tmp 61) (.tmp 64) rfl mb L rfl HA.out.m (by omega) k rfl (show k.size ≤ maxLen by unfold maxLen; omega) (oneV next parts) rfl ?_)
 intro w6 hm6 hg6
 have hfg : Fr (fun i => some mb = some i) (w.alloc (.cells #[.int .i64 0, .int .i64 0] 158)) w6 := Fr.grown (Fr.refl _ _) hg6 fun x e => .inl e
 have X6 := Lib.hid ((hfg.block tb (lt_of_heap HA.out.b) (fun e => HN.out (Option.some.inj e).symm)).trans HA.out.b)
 have fz6 := fz_of X6.out 0
 have c6 : w6.cell? ⟨tb, 0, none⟩ = some (.int .i64 next) := (cell_of X6.out 0).trans rfl
 have hfs : Fr (fun i => i = tb) w6 (w6.setCell ⟨tb, 0, none⟩ (.int .i64 (next + 1))) := Fr.setCell (S := fun i => i = tb) (p := ⟨tb, 0, none⟩) (Fr.refl _ w6) (.inl rfl) _
 have TE := Lib.hid (show TopA (w6.setCell ⟨tb, 0, none⟩ (.int .i64 (next + 1))) tb mb (next + 1) (putG L k (oneV next parts)) from ⟨by rw [heap_setCell_self X6.out]; rfl, hm6.fr hfs (fun e => HN.out e.symm), HN.out, fun r hr => by
  rcases List.mem_cons.1 hr with rfl | hr
  ·exact ⟨_, _, rfl⟩
  ·exact HA.out.el r (List.mem_filter.1 hr).1⟩)
 have FE := Lib.hid (show Fr (fun i => i = tb ∨ i = mb) w (w6.setCell ⟨tb, 0, none⟩ (.int .i64 (next + 1))) from ((FA.out.mono (S' := fun i => i = tb ∨ i = mb) fun i h => h.elim).trans hfg fun i e => .inl (.inr (Option.some.inj e).symm)).trans hfs fun i e => .inl (.inl e))
 clear hm6 hg6 hfg hfs k1 hlk hln
 go_wp2_with fail
 go_ret2
 exact ⟨rfl, TE.out, FE.out⟩
end
end Go.Proofs.YtfdhofabgdkkkaaGreatDoor
