/- live: the walk. -/
import Derived.Test.YtheddgeefekdlaaDoorL3
import Derived.Test.YtheddgeefekdlaaDoorL2
namespace Go.Proofs.YtheddgeefekdlaaDoor
open Go.RowKit Go.Fm Go.BigFrame
set_option linter.unusedVariables false
set_option linter.unusedSimpArgs false

def lr0 : Rec := ⟨0, 0, false, ⟨#[97]⟩, false, ⟨#[49]⟩, []⟩
def lr1 : Rec := ⟨1, 0, false, ⟨#[98]⟩, false, ⟨#[50]⟩, []⟩
def lr2 : Rec := ⟨2, 0, false, ⟨#[97]⟩, false, ⟨#[51]⟩, []⟩
def lb : Bat := ⟨0, 3, -1, -1, -1, [lr0, lr1, lr2]⟩

theorem lb_good : GoodL [lb] := by
  refine ⟨by simp, fun b hb => ?_⟩
  simp only [List.mem_cons, List.not_mem_nil, or_false] at hb
  subst hb
  exact { len := by simp [lb]
          recs := fun r hr => by
            simp only [lb, List.mem_cons, List.not_mem_nil, or_false] at hr
            rcases hr with rfl | rfl | rfl <;> decide +kernel
          base := by simp [lb]
          span := by simp [lb]
          prod := by kernel_rfl }
theorem lb_clean : cleanTo (keysTo [lb] [lb].length) (ownersTo [lb] [lb].length) 3 0 [lb] [lb].length = [{ lb with recs := [lr1, lr2] }] := by rfl
theorem lb_latest : latOf [lb] [lb].length ⟨#[97]⟩ = (2, true) := by rfl

set_option maxRecDepth 100000 in
theorem new_nil (before : Int) (w : World) : Calls Tryd.prog 4 #[.pointer none, .int .i64 before] w fun e w' => e = .returned (.tuple #[.pointer none, .int .i64 1]) ∧ w = w' := by
  go_enter Tryd.func4, Tryd.ntmps4
  go_wp2_with fail
  go_ret2
  exact ⟨rfl, rfl⟩

theorem cell_lit {w : World} {b : Nat} {c : Array Value} {e : TypeId} (h : w.heap[b]? = some (.cells c e (0, 0))) (j : Nat) : w.cell? ⟨b, j, none⟩ = c[j]? := by
  unfold World.cell?
  rw [h]
  rfl
theorem lb_reads {w : World} {g c : Nat}
    (hg : w.heap[g]? = some (.cells #[.int .i64 0, .int .i64 0, .bool false, .string ⟨#[97]⟩, .bool false, .string ⟨#[49]⟩, .slice none 0 0, .int .i64 1, .int .i64 0, .bool false, .string ⟨#[98]⟩, .bool false, .string ⟨#[50]⟩, .slice none 0 0, .int .i64 2, .int .i64 0, .bool false, .string ⟨#[97]⟩, .bool false, .string ⟨#[51]⟩, .slice none 0 0] 48 (0, 0)))
    (hc : w.heap[c]? = some (.cells #[.int .i64 0, .int .i64 3, .int .i64 (-1), .int .i64 (-1), .int .i64 (-1), .slice (some ⟨g, 0, none⟩) 3 3] 44 (0, 0))) :
    BatsR (fun _ => True) w (.slice (some ⟨c, 0, none⟩) 1 1) [lb] := by
  refine ⟨_, _, rfl, fun k b hb => ?_⟩
  match k, hb with
  | 0, hb =>
    simp at hb
    subst hb
    refine ⟨_, .slice (some ⟨g, 0, none⟩) 3 3, rfl, trivial, ⟨?_, ?_, ?_, ?_, ?_, ?_⟩, ?_⟩
    · rw [add_lit]; exact cell_lit hc 0
    · rw [lit_off]; exact cell_lit hc 1
    · rw [lit_off]; exact cell_lit hc 2
    · rw [lit_off]; exact cell_lit hc 3
    · rw [lit_off]; exact cell_lit hc 4
    · rw [lit_off]; exact cell_lit hc 5
    · refine ⟨_, _, rfl, fun k b hb => ?_⟩
      match k, hb with
      | 0, hb =>
        simp [lb] at hb
        subst hb
        refine ⟨_, .slice none 0 0, rfl, trivial, ⟨?_, ?_, ?_, ?_, ?_, ?_, ?_⟩, hds_nil _ _⟩
        · rw [add_lit]; exact cell_lit hg 0
        · rw [lit_off]; exact cell_lit hg 1
        · rw [lit_off]; exact cell_lit hg 2
        · rw [lit_off]; exact cell_lit hg 3
        · rw [lit_off]; exact cell_lit hg 4
        · rw [lit_off]; exact cell_lit hg 5
        · rw [lit_off]; exact cell_lit hg 6
      | 1, hb =>
        simp [lb] at hb
        subst hb
        refine ⟨_, .slice none 0 0, rfl, trivial, ⟨?_, ?_, ?_, ?_, ?_, ?_, ?_⟩, hds_nil _ _⟩
        · rw [add_lit]; exact cell_lit hg 7
        · rw [lit_off]; exact cell_lit hg 8
        · rw [lit_off]; exact cell_lit hg 9
        · rw [lit_off]; exact cell_lit hg 10
        · rw [lit_off]; exact cell_lit hg 11
        · rw [lit_off]; exact cell_lit hg 12
        · rw [lit_off]; exact cell_lit hg 13
      | 2, hb =>
        simp [lb] at hb
        subst hb
        refine ⟨_, .slice none 0 0, rfl, trivial, ⟨?_, ?_, ?_, ?_, ?_, ?_, ?_⟩, hds_nil _ _⟩
        · rw [add_lit]; exact cell_lit hg 14
        · rw [lit_off]; exact cell_lit hg 15
        · rw [lit_off]; exact cell_lit hg 16
        · rw [lit_off]; exact cell_lit hg 17
        · rw [lit_off]; exact cell_lit hg 18
        · rw [lit_off]; exact cell_lit hg 19
        · rw [lit_off]; exact cell_lit hg 20
      | k + 3, hb => simp [lb] at hb
  | k + 1, hb => simp at hb

set_option maxRecDepth 100000 in
set_option maxHeartbeats 8000000 in
theorem live_walk (w : World) : Calls Tryd.prog 6 #[] w fun e w' => e = .returned (.bool true) ∧ Fr (fun _ => False) w w' := by
  obtain ⟨cg, hcg⟩ : ∃ c : Array Value, c = #[.int .i64 0, .int .i64 0, .bool false, .string ⟨#[97]⟩, .bool false, .string ⟨#[49]⟩, .slice none 0 0, .int .i64 1, .int .i64 0, .bool false, .string ⟨#[98]⟩, .bool false, .string ⟨#[50]⟩, .slice none 0 0, .int .i64 2, .int .i64 0, .bool false, .string ⟨#[97]⟩, .bool false, .string ⟨#[51]⟩, .slice none 0 0] := ⟨_, rfl⟩
  obtain ⟨cb, hcb⟩ : ∃ c : Array Value, c = #[.int .i64 0, .int .i64 3, .int .i64 (-1), .int .i64 (-1), .int .i64 (-1), .slice (some ⟨w.heap.size, 0, none⟩) 3 3] := ⟨_, rfl⟩
  have hf3 : Fr (fun _ => False) w (((w.alloc (.cells cg 48)).alloc (.cells cb 44)).alloc (.cells cb 44)) := (((Fr.same w).alloc _).alloc _).alloc _
  have hg3 : (((w.alloc (.cells cg 48)).alloc (.cells cb 44)).alloc (.cells cb 44)).heap[w.heap.size]? = some (.cells cg 48 (0, 0)) :=
    (heap_alloc_lt _ (by simp; omega)).trans ((heap_alloc_lt _ (by simp)).trans (heap_alloc_self w _))
  have hc3 : (((w.alloc (.cells cg 48)).alloc (.cells cb 44)).alloc (.cells cb 44)).heap[w.heap.size + 1 + 1]? = some (.cells cb 44 (0, 0)) := by
    have := heap_alloc_self ((w.alloc (.cells cg 48)).alloc (.cells cb 44)) (.cells cb 44)
    rw [show ((w.alloc (.cells cg 48)).alloc (.cells cb 44)).heap.size = w.heap.size + 1 + 1 by simp] at this
    exact this
  have hb3 : (((w.alloc (.cells cg 48)).alloc (.cells cb 44)).alloc (.cells cb 44)).heap[w.heap.size + 1]? = some (.cells cb 44 (0, 0)) := by
    have := heap_alloc_self (w.alloc (.cells cg 48)) (.cells cb 44)
    rw [show (w.alloc (.cells cg 48)).heap.size = w.heap.size + 1 by simp] at this
    exact (heap_alloc_lt _ (by simp)).trans this
  subst hcg hcb
  have F3 := Lib.hid hf3
  have G3 := Lib.hid hg3
  have C3 := Lib.hid hc3
  have B3 := Lib.hid hb3
  clear hf3 hg3 hc3 hb3
  go_enter Tryd.func6, Tryd.ntmps6
  go_wp2_with fail
  have hread := lb_reads G3.out C3.out
  refine (clean_walk (fun _ => True) [lb] 3 0 _ _ hread lb_good).mono ?_
  rintro e w4 ⟨v, rfl, hr4, hf4⟩
  rw [lb_clean] at hr4
  have B4 := Lib.hid ((hf4.block (w.heap.size + 1) (by simp) fun h => h).trans B3.out)
  have G4 := Lib.hid ((hf4.block w.heap.size (by simp; omega) fun h => h).trans G3.out)
  have F4 := Lib.hid (F3.out.tr hf4)
  have HR4 := Lib.hid (hr4.mono (K' := fun _ => True) fun _ _ _ => trivial)
  have d4 := cell_lit B4.out
  have hC5 := heap_alloc_self w4 (.cells #[.int .i64 0, .int .i64 3, .int .i64 (-1), .int .i64 (-1), .int .i64 (-1), .slice (some ⟨w.heap.size, 0, none⟩) 3 3] 44)
  have hf5 := (Fr.same w4).alloc (.cells #[.int .i64 0, .int .i64 3, .int .i64 (-1), .int .i64 (-1), .int .i64 (-1), .slice (some ⟨w.heap.size, 0, none⟩) 3 3] 44)
  have hread5 := lb_reads ((hf5.block w.heap.size (lt_of_heap G4.out) fun h => h).trans G4.out) hC5
  have RD5 := Lib.hid hread5
  have F5 := Lib.hid (F4.out.tr hf5)
  have HR5 := Lib.hid (HR4.out.old hf5)
  clear hread hr4 hf4 hC5 hf5 hread5
  go_wp2_with fail
  refine (latest_walk (fun _ => True) [lb] ⟨#[97]⟩ _ _ RD5.out lb_good (by decide +kernel)).mono ?_
  rintro e w6 ⟨rfl, hf6⟩
  rw [lb_latest]
  have hf16 := F5.out.tr hf6
  obtain ⟨oa, cap, rfl, h6⟩ := HR5.out.old hf6
  obtain ⟨a, rv, rfl, -, hc, hrr⟩ := h6 0 _ rfl
  obtain ⟨ra, rcap, rfl, hrr⟩ := hrr
  obtain ⟨a2, hv, rfl, -, hy, -⟩ := hrr 0 _ rfl
  obtain ⟨a3, hv', ha3, -, hz, -⟩ := hrr 1 _ rfl
  injection ha3 with ha3
  subst ha3
  have z0 : ∀ b : Addr, b.add 0 = b := fun b => by simp [Addr.add]
  have c5 := hc.c5
  have y3 := hy.c3
  have z1 : w6.cell? ⟨a2.block, a2.off + 7, none⟩ = some (.int .i64 2) := by have := hz.c0; simpa [Addr.add, lr2] using this
  simp only [Nat.zero_mul, z0] at c5 y3
  have F6 := Lib.hid hf16
  rw [show lr1.key = ⟨#[98]⟩ from rfl] at y3
  clear d4 hf6 hc hrr hy hz h6 hf16
  go_wp2_with fail
  refine (new_nil 0 _).mono ?_
  rintro e w7 ⟨rfl, rfl⟩
  go_wp2_with fail
  go_ret
  exact ⟨rfl, F6.out⟩
end Go.Proofs.YtheddgeefekdlaaDoor
