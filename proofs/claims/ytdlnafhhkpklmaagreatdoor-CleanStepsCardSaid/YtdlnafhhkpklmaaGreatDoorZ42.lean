/- live: the walk. -/
import Derived.Test.YtdlnafhhkpklmaaGreatDoorZ28
import Derived.Test.YtdlnafhhkpklmaaGreatDoorZ40
import Derived.Test.YtdlnafhhkpklmaaGreatDoorZ41
import Derived.Test.YtdlnafhhkpklmaaGreatDoorZ39
namespace Go.Proofs.YtdlnafhhkpklmaaGreatDoor
open Go.RowKit Go.Fm Go.BigFrame
set_option linter.unusedVariables false
set_option linter.unusedSimpArgs false
def lr0 : Rec := ⟨0, 0, false, ⟨#[97]⟩, false, ⟨#[49]⟩, []⟩
def lr1 : Rec := ⟨1, 0, false, ⟨#[98]⟩, false, ⟨#[50]⟩, []⟩
def lr2 : Rec := ⟨2, 0, false, ⟨#[97]⟩, false, ⟨#[51]⟩, []⟩
def lb : Bat := ⟨0, 3, -1, -1, -1, [lr0, lr1, lr2]⟩
theorem lb_good : GoodL [lb] := by
 refine ⟨by simp, fun b hb => ?_⟩
 simp only [List.mem_cons, List.not_mem_nil, or_false] at hb
 subst hb
 exact { len := by simp [lb]
         recs := fun r hr => by
          simp only [lb, List.mem_cons, List.not_mem_nil, or_false] at hr
          rcases hr with rfl | rfl | rfl <;> decide +kernel
         base := by simp [lb]
         span := by simp [lb]
         prod := by kernel_rfl }
theorem lb_clean : cleanTo (keysTo [lb] [lb].length) (ownersTo [lb] [lb].length) 3 0 [lb] [lb].length = [{ lb with recs := [lr1, lr2] }] := by rfl
theorem lb_latest : latOf [lb] [lb].length ⟨#[97]⟩ = (2, true) := by rfl
set_option maxRecDepth 100000 in
theorem new_nil (before : Int) (w : World) : Calls Tryz.prog 30 #[.pointer none, .int .i64 before] w fun e w' => e = .returned (.tuple #[.pointer none, .int .i64 1]) ∧ w = w' := by
 go_enter Tryz.func30, Tryz.ntmps30
 go_wp2_with fail
 go_ret2
 exact ⟨rfl, rfl⟩
theorem cell_lit {w : World} {b : Nat} {c : Array Value} {e : TypeId} (h : w.heap[b]? = some (.cells c e (0, 0))) (j : Nat) : w.cell? ⟨b, j, none⟩ = c[j]? := by
 unfold World.cell?
 rw [h]
 rfl
theorem lb_reads {w : World} {g c : Nat}
  (hg : w.heap[g]? = some (.cells #[.int .i64 0, .int .i64 0, .bool false, .string ⟨#[97]⟩, .bool false, .string ⟨#[49]⟩, .slice none 0 0, .int .i64 1, .int .i64 0, .bool false, .string ⟨#[98]⟩, .bool false, .string ⟨#[50]⟩, .slice none 0 0, .int .i64 2, .int .i64 0, .bool false, .string ⟨#[97]⟩, .bool false, .string ⟨#[51]⟩, .slice none 0 0] 79 (0, 0)))
  (hc : w.heap[c]? = some (.cells #[.int .i64 0, .int .i64 3, .int .i64 (-1), .int .i64 (-1), .int .i64 (-1), .slice (some ⟨g, 0, none⟩) 3 3] 36 (0, 0))) :
  BatsR (fun _ => True) w (.slice (some ⟨c, 0, none⟩) 1 1) [lb] := by
 refine ⟨_, _, rfl, fun k b hb => ?_⟩
 match k, hb with
 | 0, hb =>
  simp at hb
  subst hb
  refine ⟨_, .slice (some ⟨g, 0, none⟩) 3 3, rfl, trivial, ⟨?_, ?_, ?_, ?_, ?_, ?_⟩, ?_⟩
  ·rw [add_lit]; exact cell_lit hc 0
  ·rw [lit_off]; exact cell_lit hc 1
  ·rw [lit_off]; exact cell_lit hc 2
  ·rw [lit_off]; exact cell_lit hc 3
  ·rw [lit_off]; exact cell_lit hc 4
  ·rw [lit_off]; exact cell_lit hc 5
  ·refine ⟨_, _, rfl, fun k b hb => ?_⟩
   match k, hb with
   | 0, hb =>
    simp [lb] at hb
    subst hb
    refine ⟨_, .slice none 0 0, rfl, trivial, ⟨?_, ?_, ?_, ?_, ?_, ?_, ?_⟩, hds_nil _ _⟩
    ·rw [add_lit]; exact cell_lit hg 0
    ·rw [lit_off]; exact cell_lit hg 1
    ·rw [lit_off]; exact cell_lit hg 2
    ·rw [lit_off]; exact cell_lit hg 3
    ·rw [lit_off]; exact cell_lit hg 4
    ·rw [lit_off]; exact cell_lit hg 5
    ·rw [lit_off]; exact cell_lit hg 6
   | 1, hb =>
    simp [lb] at hb
    subst hb
    refine ⟨_, .slice none 0 0, rfl, trivial, ⟨?_, ?_, ?_, ?_, ?_, ?_, ?_⟩, hds_nil _ _⟩
    ·rw [add_lit]; exact cell_lit hg 7
    ·rw [lit_off]; exact cell_lit hg 8
    ·rw [lit_off]; exact cell_lit hg 9
    ·rw [lit_off]; exact cell_lit hg 10
    ·rw [lit_off]; exact cell_lit hg 11
    ·rw [lit_off]; exact cell_lit hg 12
    ·rw [lit_off]; exact cell_lit hg 13
   | 2, hb =>
    simp [lb] at hb
    subst hb
    refine ⟨_, .slice none 0 0, rfl, trivial, ⟨?_, ?_, ?_, ?_, ?_, ?_, ?_⟩, hds_nil _ _⟩
    ·rw [add_lit]; exact cell_lit hg 14
    ·rw [lit_off]; exact cell_lit hg 15
    ·rw [lit_off]; exact cell_lit hg 16
    ·rw [lit_off]; exact cell_lit hg 17
    ·rw [lit_off]; exact cell_lit hg 18
    ·rw [lit_off]; exact cell_lit hg 19
    ·rw [lit_off]; exact cell_lit hg 20
   | k + 3, hb => simp [lb] at hb
 | k + 1, hb => simp at hb
set_option maxRecDepth 100000 in
set_option maxHeartbeats 8000000 in
theorem live_walk (w : World) : Calls Tryz.prog 28 #[] w fun e w' => e = .returned (.bool true) ∧ Fr (fun _ => False) w w' := by
 obtain ⟨cg, hcg⟩ : ∃ c : Array Value, c = #[.int .i64 0, .int .i64 0, .bool false, .string ⟨#[97]⟩, .bool false, .string ⟨#[49]⟩, .slice none 0 0, .int .i64 1, .int .i64 0, .bool false, .string ⟨#[98]⟩, .bool false, .string ⟨#[50]⟩, .slice none 0 0, .int .i64 2, .int .i64 0, .bool false, .string ⟨#[97]⟩, .bool false, .string ⟨#[51]⟩, .slice none 0 0] := ⟨_, rfl⟩
 obtain ⟨cb, hcb⟩ : ∃ c : Array Value, c = #[.int .i64 0, .int .i64 3, .int .i64 (-1), .int .i64 (-1), .int .i64 (-1), .slice (some ⟨w.heap.size, 0, none⟩) 3 3] := ⟨_, rfl⟩
 have hf3 : Fr (fun _ => False) w (((w.alloc (.cells cg 79)).alloc (.cells cb 36)).alloc (.cells cb 36)) := (((Fr.same w).alloc _).alloc _).alloc _
 have hg3 : (((w.alloc (.cells cg 79)).alloc (.cells cb 36)).alloc (.cells cb 36)).heap[w.heap.size]? = some (.cells cg 79 (0, 0)) :=
  (heap_alloc_lt _ (by simp; omega)).trans ((heap_alloc_lt _ (by simp)).trans (heap_alloc_self w _))
 have hc3 : (((w.alloc (.cells cg 79)).alloc (.cells cb 36)).alloc (.cells cb 36)).heap[w.heap.size + 1 + 1]? = some (.cells cb 36 (0, 0)) := by
  have := heap_alloc_self ((w.alloc (.cells cg 79)).alloc (.cells cb 36)) (.cells cb 36)
  rw [show ((w.alloc (.cells cg 79)).alloc (.cells cb 36)).heap.size = w.heap.size + 1 + 1 by simp] at this
  exact this
 have hb3 : (((w.alloc (.cells cg 79)).alloc (.cells cb 36)).alloc (.cells cb 36)).heap[w.heap.size + 1]? = some (.cells cb 36 (0, 0)) := by
  have := heap_alloc_self (w.alloc (.cells cg 79)) (.cells cb 36)
  rw [show (w.alloc (.cells cg 79)).heap.size = w.heap.size + 1 by simp] at this
  exact (heap_alloc_lt _ (by simp)).trans this
 subst hcg hcb
 have F3 := Lib.hid hf3
 have G3 := Lib.hid hg3
 have C3 := Lib.hid hc3
 have B3 := Lib.hid hb3
 clear hf3 hg3 hc3 hb3
 go_enter Tryz.func28, Tryz.ntmps28
 go_wp2_with fail
 have hread := lb_reads G3.out C3.out
 refine (clean_walk (fun _ => True) [lb] 3 0 _ _ hread lb_good).mono ?_
 rintro e w4 ⟨v, rfl, hr4, hf4⟩
 rw [lb_clean] at hr4
 have B4 := Lib.hid ((hf4.block (w.heap.size + 1) (by simp) fun h => h).trans B3.out)
 have G4 := Lib.hid ((hf4.block w.heap.size (by simp; omega) fun h => h).trans G3.out)
 have F4 := Lib.hid (F3.out.tr hf4)
 have HR4 := Lib.hid (hr4.mono (K' := fun _ => True) fun _ _ _ => trivial)
 have d4 := cell_lit B4.out
 have hC5 := heap_alloc_self w4 (.cells #[.int .i64 0, .int .i64 3, .int .i64 (-1), .int .i64 (-1), .int .i64 (-1), .slice (some ⟨w.heap.size, 0, none⟩) 3 3] 36)
 have hf5 := (Fr.same w4).alloc (.cells #[.int .i64 0, .int .i64 3, .int .i64 (-1), .int .i64 (-1), .int .i64 (-1), .slice (some ⟨w.heap.size, 0, none⟩) 3 3] 36)
 have hread5 := lb_reads ((hf5.block w.heap.size (lt_of_heap G4.out) fun h => h).trans G4.out) hC5
 have RD5 := Lib.hid hread5
 have F5 := Lib.hid (F4.out.tr hf5)
 have HR5 := Lib.hid (HR4.out.old hf5)
 clear hread hr4 hf4 hC5 hf5 hread5
 go_wp2_with fail
 refine (klatest_walk (fun _ => True) [lb] ⟨#[97]⟩ _ _ RD5.out lb_good (by decide +kernel)).mono ?_
 rintro e w6 ⟨rfl, hf6⟩
 rw [lb_latest]
 have hf16 := F5.out.tr hf6
 obtain ⟨oa, cap, rfl, h6⟩ := HR5.out.old hf6
 obtain ⟨a, rv, rfl, -, hc, hrr⟩ := h6 0 _ rfl
 obtain ⟨ra, rcap, rfl, hrr⟩ := hrr
 obtain ⟨a2, hv, rfl, -, hy, -⟩ := hrr 0 _ rfl
 obtain ⟨a3, hv', ha3, -, hz, -⟩ := hrr 1 _ rfl
 injection ha3 with ha3
 subst ha3
 have z0 : ∀ b : Addr, b.add 0 = b := fun b => by simp [Addr.add]
 have c5 := hc.c5
 have y3 := hy.c3
 have z1 : w6.cell? ⟨a2.block, a2.off + 7, none⟩ = some (.int .i64 2) := by have := hz.c0; simpa [Addr.add, lr2] using this
 simp only [Nat.zero_mul, z0] at c5 y3
 have F6 := Lib.hid hf16
 rw [show lr1.key = ⟨#[98]⟩ from rfl] at y3
 clear d4 hf6 hc hrr hy hz h6 hf16
 go_wp2_with fail
 refine (new_nil 0 _).mono ?_
 rintro e w7 ⟨rfl, rfl⟩
 go_wp2_with fail
 go_ret
 exact ⟨rfl, F6.out⟩
end Go.Proofs.YtdlnafhhkpklmaaGreatDoor
/- What Clean leaves is good; CleanOne: the walk. -/
namespace Go.Proofs.YtdlnafhhkpklmaaGreatDoor
open Go.RowKit Go.Fm Go.BigFrame
set_option linter.unusedVariables false
set_option linter.unusedSimpArgs false
theorem cleanTo_mem {f : ByteArray → Option (Nat × Nat)} {g : Int → Option Nat} {upto before : Int} {l : List Bat} {c : Bat} : ∀ {k : Nat}, c ∈ cleanTo f g upto before l k → ∃ (i : Nat) (b : Bat), l[i]? = some b ∧ c = { b with recs := keptOf f upto before i b }
 | 0, h => by simp [cleanTo] at h
 | k + 1, h => by
  simp only [cleanTo] at h
  split at h
  ·rename_i b hb
   split at h
   ·rcases List.mem_append.1 h with h | h
    ·exact cleanTo_mem h
    ·simp at h; exact ⟨k, b, hb, h⟩
   ·exact cleanTo_mem h
  ·exact cleanTo_mem h
end Go.Proofs.YtdlnafhhkpklmaaGreatDoor
/- Batches in their order: what cleaning leaves, plain. -/
namespace Go.Proofs.YtdlnafhhkpklmaaGreatDoor
open Go.RowKit Go.Fm
set_option linter.unusedVariables false
set_option linter.unusedSimpArgs false
theorem pair_get {α : Type} {R : α → α → Prop} {l : List α} (h : l.Pairwise R) {i j : Nat} {x y : α} (hi : l[i]? = some x) (hj : l[j]? = some y) (hij : i < j) : R x y := by
 obtain ⟨h1, rfl⟩ := List.getElem?_eq_some_iff.1 hi
 obtain ⟨h2, rfl⟩ := List.getElem?_eq_some_iff.1 hj
 exact List.pairwise_iff_getElem.1 h i j h1 h2 hij
section
variable {f : ByteArray → Option (Nat × Nat)} {g : Int → Option Nat} {upto before : Int} {l : List Bat}
theorem keptTo_sub (f : ByteArray → Option (Nat × Nat)) (before : Int) (i : Nat) (hi : Bool) (rs : List Rec) : ∀ k, k ≤ rs.length → (keptTo f before i hi rs k).Sublist (rs.take k)
 | 0, _ => by simp [keptTo]
 | k + 1, h => by
  obtain ⟨r, hr⟩ := get_of_lt (show k < rs.length by omega)
  have ih := keptTo_sub f before i hi rs k (by omega)
  rw [take_snoc' hr]
  cases hg : (hi || !goesB f before i k r) with
  | true => rw [keptTo_yes hr hg]; exact ih.append (List.Sublist.refl _)
  | false => rw [keptTo_no hr hg]; exact ih.trans (List.sublist_append_left _ _)
theorem keptOf_sub (i : Nat) (b : Bat) : (keptOf f upto before i b).Sublist b.recs := by
 have := keptTo_sub f before i (isHi upto b) b.recs b.recs.length (Nat.le_refl _)
 rw [List.take_length] at this
 exact this
end
end Go.Proofs.YtdlnafhhkpklmaaGreatDoor
/- row, find: the walks. -/
namespace Go.Proofs.YtdlnafhhkpklmaaGreatDoor
open Go.RowKit Go.Fm Go.BigFrame
set_option linter.unusedVariables false
set_option linter.unusedSimpArgs false
end Go.Proofs.YtdlnafhhkpklmaaGreatDoor
/- Slices of slices of batches; the end and the count of batches. -/
namespace Go.Proofs.YtdlnafhhkpklmaaGreatDoor
open Go.RowKit Go.Fm Go.BigFrame Go.Shelf Go.Maps
set_option linter.unusedVariables false
set_option linter.unusedSimpArgs false
set_option maxRecDepth 100000
section
variable {K K' : Nat → Prop} {B : Nat} {w w' : World} {v v' : Value} {ls : List (List Bat)}
/-- A slice of slices of batches. -/
def BatssR (K : Nat → Prop) (w : World) (v : Value) (ls : List (List Bat)) : Prop :=
 ∃ oa cap, v = .slice oa ls.length cap ∧ ls.length ≤ cap ∧ ∀ (k : Nat) (l : List Bat), ls[k]? = some l → ∃ a bv, oa = some a ∧ K a.block ∧ w.cell? (a.add k) = some bv ∧ BatsR K w bv l
theorem BatssR.to (h : BatssR K w v ls) (hk : ∀ b, K b → b < w.heap.size → K' b ∧ w'.heap[b]? = w.heap[b]?) : BatssR K' w' v ls := by
 obtain ⟨oa, cap, hv, hc, h⟩ := h
 refine ⟨oa, cap, hv, hc, fun k l hl => ?_⟩
 obtain ⟨a, bv, h1, h2, h3, h4⟩ := h k l hl
 have hlt := World.block_lt_of_cell? w _ h3
 rw [add_block] at hlt
 have h5 := hk a.block h2 hlt
 refine ⟨a, bv, h1, h5.1, ?_, h4.to hk⟩
 rw [← h3]
 have h6 : w'.heap[(a.add k).block]? = w.heap[(a.add k).block]? := by rw [add_block]; exact h5.2
 unfold World.cell?
 rw [h6]
theorem BatssR.fr {S : Nat → Prop} (h : BatssR K w v ls) (hf : Fr S w w') (hd : ∀ k, K k → ¬ S k) : BatssR K w' v ls := h.to fun b hb hl => ⟨hb, hf.block b hl (hd b hb)⟩
theorem BatssR.old (h : BatssR K w v ls) (hf : Fr (fun _ => False) w w') : BatssR K w' v ls := h.fr hf fun _ _ h => h
theorem BatssR.mono (h : BatssR K w v ls) (hk : ∀ b, K b → b < w.heap.size → K' b) : BatssR K' w v ls := h.to fun b hb hl => ⟨hk b hb hl, rfl⟩
def OwnBatss (K : Nat → Prop) (B : Nat) (w : World) (v : Value) (ls : List (List Bat)) : Prop :=
 ∃ zs : List (List Bat × Value), zs.map (·.1) = ls ∧ w.ownsRow B 22 1 v ls.length (zs.map (·.2)) ∧ ∀ z ∈ zs, BatsR (fun b => K b ∧ v.ownBlock ≠ some b) w z.2 z.1
theorem OwnBatss.nil (K : Nat → Prop) (B : Nat) (w : World) : OwnBatss K B w (.slice none 0 0) [] := ⟨[], rfl, World.ownsRow_nil _ _ _ _, fun z hz => by cases hz⟩
theorem OwnBatss.lt (h : OwnBatss K B w v ls) {k : Nat} (hk : v.ownBlock = some k) : B ≤ k ∧ k < w.heap.size := by
 obtain ⟨zs, h1, h2, h3⟩ := h
 exact own_lt h2 hk
theorem OwnBatss.slice (h : OwnBatss K B w v ls) : ∃ oa cap, v = .slice oa ls.length cap ∧ ls.length ≤ cap := by
 obtain ⟨zs, -, h2, -⟩ := h
 obtain ⟨oa, cap, hv, -⟩ := own_at h2
 refine ⟨oa, cap, hv, ?_⟩
 rcases h2.2 with ⟨e1, e2⟩ | ⟨g, cap', cur, e1, -, -, hle, -⟩
 ·rw [hv] at e1; injection e1 with _ e1 e3; omega
 ·rw [hv] at e1; injection e1 with _ e1 e3; omega
theorem OwnBatss.fr {S : Nat → Prop} (h : OwnBatss K B w v ls) (hf : Fr S w w') (hK : ∀ k, K k → ¬ S k) (ho : ∀ k, v.ownBlock = some k → ¬ S k) : OwnBatss K B w' v ls := by
 obtain ⟨zs, h1, h2, h3⟩ := h
 exact ⟨zs, h1, own_eq h2 fun k hk => hf.block k (own_lt h2 hk).2 (ho k hk), fun z hz => (h3 z hz).fr hf fun k hk => hK k hk.1⟩
theorem OwnBatss.old (h : OwnBatss K B w v ls) (hf : Fr (fun _ => False) w w') : OwnBatss K B w' v ls := h.fr hf (fun _ _ h => h) fun _ _ h => h
theorem OwnBatss.mono (h : OwnBatss K B w v ls) (hK : ∀ b, K b → b < w.heap.size → K' b) : OwnBatss K' B w v ls := by
 obtain ⟨zs, h1, h2, h3⟩ := h
 exact ⟨zs, h1, h2, fun z hz => (h3 z hz).mono fun b hb hl => ⟨hK b hb.1 hl, hb.2⟩⟩
theorem OwnBatss.reads (h : OwnBatss K B w v ls) (h1 : ∀ b, B ≤ b → b < w.heap.size → K' b) (h2 : ∀ b, K b → b < w.heap.size → K' b) : BatssR K' w v ls := by
 obtain ⟨oa, cap, hv, hcap⟩ := h.slice
 obtain ⟨zs, rfl, ho, hz⟩ := h
 obtain ⟨oa', cap', hv', hc⟩ := own_at ho
 rw [hv] at hv'
 injection hv' with e1 e2 e3
 subst e1 e3
 refine ⟨oa, cap, hv, hcap, fun k x hx => ?_⟩
 obtain ⟨g, rfl, hb, hB, hc⟩ := hc (by have := (List.getElem?_eq_some_iff.1 hx).1; omega)
 rw [List.getElem?_map] at hx
 obtain ⟨z, hz1, rfl⟩ := Option.map_eq_some_iff.1 hx
 refine ⟨_, z.2, rfl, h1 g hB (own_lt ho hb).2, ?_, (hz z (List.mem_of_getElem? hz1)).mono fun b hb hl => h2 b hb.1 hl⟩
 rw [add_lit]
 exact hc k _ (by rw [List.getElem?_map, hz1]; rfl)
theorem OwnBatss.push {zs : List (List Bat × Value)} (e : zs.map (·.1) = ls) (ho : w.ownsRow B 22 1 v ls.length (zs.map (·.2))) (hz : ∀ z ∈ zs, BatsR (fun b => K b ∧ v.ownBlock ≠ some b) w z.2 z.1) {l : List Bat} {bv : Value} (hr : BatsR (fun b => K b ∧ v.ownBlock ≠ some b) w bv l)
  (h2 : w'.ownsRow B 22 1 v' (ls.length + 1) (zs.map (·.2) ++ [bv])) (hg : w.grownBy w' v.ownBlock) (hb : v'.ownBlock = v.ownBlock ∨ v'.ownBlock = some w.heap.size) : OwnBatss K B w' v' (ls ++ [l]) := by
 have hto : ∀ b, (K b ∧ v.ownBlock ≠ some b) → b < w.heap.size → (K b ∧ v'.ownBlock ≠ some b) ∧ w'.heap[b]? = w.heap[b]? := fun b hb1 hl => by
  refine ⟨⟨hb1.1, ?_⟩, hg.block b hl fun e => hb1.2 e.symm⟩
  rcases hb with h | h
  ·rw [h]; exact hb1.2
  ·rw [h]; intro e; injection e with e; omega
 refine ⟨zs ++ [(l, bv)], by rw [List.map_append, e]; rfl, ?_, fun z hz1 => ?_⟩
 ·rw [List.length_append, List.map_append]
  exact h2
 ·rcases List.mem_append.1 hz1 with h | h
  ·exact (hz z h).to hto
  ·simp at h; subst h; exact hr.to hto
end
theorem info22 : (Tryz.prog.info? 22).map (fun i => (i.zero, i.size, i.bytes)) = some (some (.slice none 0 0), 1, 24) := by kernel_rfl
theorem bats_one {K : Nat → Prop} {w : World} {v : Value} {l : List Bat} (h : BatsR K w v l) : v.oneCell' = true := by
 obtain ⟨oa, cap, rfl, -⟩ := h
 rfl
section
variable {ops : Array Oper} {rest : List Oper} {o : Oper} {a : Act} {Q : Exit → Act → World → Prop}
/-- append of one slice of batches. -/
theorem wpList_push_bats (w : World) (hgd : o.guard = none) (s x : Operand) (ho : o.op = .call { callee := .builtin .append, args := #[s, x], argTypes := #[69, 69] })
  (K : Nat → Prop) (B : Nat) (v : Value) (ls : List (List Bat)) (hs : a.eval s = v) (hown : OwnBatss K B w v ls) (g c : Nat) (hx : a.eval x = .slice (some ⟨g, 0, none⟩) 1 c) (l : List Bat) (bv : Value)
  (hcell : w.cell? ⟨g, 0, none⟩ = some bv) (hr : BatsR (fun b => K b ∧ v.ownBlock ≠ some b) w bv l) (hlen : ls.length < 1000000) (hB : B ≤ w.heap.size)
  (h : ∀ v' w', OwnBatss K B w' v' (ls ++ [l]) → w.grownBy w' v.ownBlock → (v'.ownBlock = v.ownBlock ∨ v'.ownBlock = some w.heap.size) → wpList Tryz.prog ops Q rest (a.put o.dst v') w') : wpList Tryz.prog ops Q (o :: rest) a w := by
 obtain ⟨i, hi, hz, hs39, hb39⟩ := info_parts info22
 obtain ⟨zs, e, hw, hzs⟩ := hown
 refine wpList_append_own2 w hgd s x 69 ho B 22 i _ 1 24 Tryz.underlying69 hi hz hs39 hb39 rfl (by decide) v ls.length (zs.map (·.2)) hs hw ⟨g, 0, none⟩ 1 c [bv] hx rfl ?_ ?_ (by unfold maxLen; omega) (by omega) hB fun v' w' h1 h2 h3 => h v' w' (OwnBatss.push e hw hzs hr h1 h2 h3) h2 h3
 ·intro j u hj
  rw [add_lit]
  cases j with
  | zero => simp at hj; rw [hcell, hj]
  | succ j => simp at hj
 ·intro u hu
  simp only [List.mem_cons, List.not_mem_nil, or_false] at hu
  subst hu
  exact bats_one hr
end
/-- Where batches end. -/
def endL (l : List Bat) : Int := match l.getLast? with
 | none => 0
 | some b => b.base + b.span
section
variable {K : Nat → Prop} {w : World}
theorem cend_walk (l : List Bat) (v : Value) (w : World) (h : BatsR K w v l) (hb : ∀ b ∈ l, BatOK b) (hl : l.length ≤ 1000) : Calls Tryz.prog 67 #[v] w fun e w' => e = .returned (.int .i64 (endL l)) ∧ Fr (fun _ => False) w w' := by
 obtain ⟨oa, cap, rfl, hk⟩ := h
 rcases List.eq_nil_or_concat l with rfl | ⟨l0, b, rfl⟩
 ·clear hk
  go_enter Tryz.func67, Tryz.ntmps67
  go_wp2_with fail
  go_ret
  exact ⟨rfl, Fr.same w⟩
 ·rw [List.concat_eq_append] at *
  have hbb : (l0 ++ [b])[l0.length]? = some b := by simp
  obtain ⟨A, rv, rfl, hA, hc, hr⟩ := hk _ _ hbb
  have hok := hb b (by simp)
  have hlen : (l0 ++ [b]).length = l0.length + 1 := by simp
  have hE : endL (l0 ++ [b]) = b.base + b.span := by unfold endL; rw [List.getLast?_concat]
  have HE := Lib.hid hE
  have x0 := hok.base0
  have x1 := hok.base1
  have x2 := hok.span0
  have x3 := hok.span1
  obtain ⟨ra, rcap, rfl, -⟩ := hr
  obtain ⟨c0, c1, c2, c3, c4, c5⟩ := hc
  rw [hlen]
  rw [hlen] at hl
  clear hk hbb hok hlen hE hb
  generalize l0.length = n at *
  have FA := Lib.hid ((Fr.same w).alloc (.cells #[.int .i64 b.base, .int .i64 b.span, .int .i64 b.prod, .int .i64 b.epoch, .int .i64 b.seq, .slice ra b.recs.length rcap] 36))
  go_enter Tryz.func67, Tryz.ntmps67
  go_wp2_with fail
  go_ret
  rw [HE.out]
  exact ⟨rfl, FA.out⟩
end
/-- How many batches and records there are. -/
def cntL (l : List Bat) : Nat := (l.map fun b => 1 + b.recs.length).sum
theorem cntL_snoc (l : List Bat) (b : Bat) : cntL (l ++ [b]) = cntL l + (1 + b.recs.length) := by simp [cntL]
theorem cntL_le : ∀ {l : List Bat}, (∀ b ∈ l, b.recs.length ≤ 50) → cntL l ≤ 51 * l.length
 | [], _ => Nat.le_refl _
 | b :: l, h => by
  have ih := cntL_le (l := l) fun x hx => h x (List.mem_cons_of_mem _ hx)
  have h1 := h b List.mem_cons_self
  unfold cntL at ih ⊢
  rw [List.map_cons, List.sum_cons, List.length_cons]
  omega
theorem count_walk (K : Nat → Prop) (l : List Bat) (v : Value) (w : World) (h : BatsR K w v l) (hb : ∀ b ∈ l, b.recs.length ≤ 50) (hl : l.length ≤ 1000) : Calls Tryz.prog 68 #[v] w fun e w' => e = .returned (.int .i64 (cntL l)) ∧ Fr (fun _ => False) w w' := by
 obtain ⟨oa, cap, rfl, hk⟩ := h
 have HK := Lib.hid hk
 have HB := Lib.hid hb
 clear hk hb
 go_enter Tryz.func68, Tryz.ntmps68
 go_wp2_with fail
 go_loopw [2, 7] (fun n i wr => ∃ k : Nat, i = .int .i64 k ∧ n = .int .i64 (cntL (l.take k)) ∧ k ≤ l.length ∧ Fr (fun _ => False) w wr) (fun _ i _ => l.length - (intOf i).toNat)
 case atStart => exact ⟨0, rfl, rfl, Nat.zero_le _, Fr.same _⟩
 case round =>
  obtain ⟨k, rfl, rfl, hkl, hf⟩ := hrel
  have F := Lib.hid hf
  clear hf
  rcases Nat.lt_or_ge k l.length with hlt | hge
  ·obtain ⟨b, hb⟩ := get_of_lt hlt
   obtain ⟨A, rv, rfl, hA, hc, hr⟩ := HK.out k b hb
   obtain ⟨c0, c1, c2, c3, c4, c5⟩ := hc.to (F.out.block _ hc.lt fun h => h)
   obtain ⟨ra, rcap, rfl, -⟩ := hr
   have hsn := take_snoc' hb
   have hle := cntL_le (l := l.take k) fun x hx => HB.out x (List.mem_of_mem_take hx)
   have htl : (l.take k).length ≤ 1000 := by rw [List.length_take]; omega
   have hrl := HB.out b (List.mem_of_getElem? hb)
   have HSN := Lib.hid hsn
   have FA := Lib.hid (F.out.alloc (.cells #[.int .i64 b.base, .int .i64 b.span, .int .i64 b.prod, .int .i64 b.epoch, .int .i64 b.seq, .slice ra b.recs.length rcap] 36))
   clear hb hc hsn
   go_wp2_with fail
   go_roundw
   case rel => exact ⟨k + 1, by go_num, by rw [HSN.out, cntL_snoc]; go_num, hlt, FA.out⟩
   case measure => simp [intOf]; omega
  ·obtain rfl : k = l.length := by omega
   go_wp2_with fail
   go_ret
   rw [List.take_length]
   exact ⟨rfl, F.out⟩
end Go.Proofs.YtdlnafhhkpklmaaGreatDoor
