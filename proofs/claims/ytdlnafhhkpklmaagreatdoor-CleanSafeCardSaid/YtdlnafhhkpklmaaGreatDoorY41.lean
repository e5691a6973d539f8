/- The document's Clean: the walk. -/
import Derived.Test.YtdlnafhhkpklmaaGreatDoorY27
import Derived.Test.YtdlnafhhkpklmaaGreatDoorY39
import Derived.Test.YtdlnafhhkpklmaaGreatDoorY40
namespace Go.Proofs.YtdlnafhhkpklmaaGreatDoor
open Go.RowKit Go.Fm Go.BigFrame
set_option linter.unusedVariables false
set_option linter.unusedSimpArgs false
theorem keptTo_all (f : ByteArray → Option (Nat × Nat)) (before : Int) (i : Nat) (rs : List Rec) : ∀ k, k ≤ rs.length → keptTo f before i true rs k = rs.take k
 | 0, _ => by simp [keptTo]
 | k + 1, h => by
  obtain ⟨r, hr⟩ := get_of_lt (show k < rs.length by omega)
  rw [keptTo_yes hr (by simp), keptTo_all f before i rs k (by omega), take_snoc' hr]
theorem keptOf_hi {f : ByteArray → Option (Nat × Nat)} {upto before : Int} {i : Nat} {b : Bat} (h : isHi upto b = true) : ({ b with recs := keptOf f upto before i b } : Bat) = b := by
 unfold keptOf
 rw [h, keptTo_all _ _ _ _ _ (Nat.le_refl _), List.take_length]
end Go.Proofs.YtdlnafhhkpklmaaGreatDoor
/- live: the walk. -/
namespace Go.Proofs.YtdlnafhhkpklmaaGreatDoor
open Go.RowKit Go.Fm Go.BigFrame
set_option linter.unusedVariables false
set_option linter.unusedSimpArgs false
def lr0 : Rec := ⟨0, 0, false, ⟨#[97]⟩, false, ⟨#[49]⟩, []⟩
def lr1 : Rec := ⟨1, 0, false, ⟨#[98]⟩, false, ⟨#[50]⟩, []⟩
def lr2 : Rec := ⟨2, 0, false, ⟨#[97]⟩, false, ⟨#[51]⟩, []⟩
def lb : Bat := ⟨0, 3, -1, -1, -1, [lr0, lr1, lr2]⟩
theorem lb_good : GoodL [lb] := by
 refine ⟨by simp, fun b hb => ?_⟩
 simp only [List.mem_cons, List.not_mem_nil, or_false] at hb
 subst hb
 exact { len := by simp [lb]
         recs := fun r hr => by
          simp only [lb, List.mem_cons, List.not_mem_nil, or_false] at hr
          rcases hr with rfl | rfl | rfl <;> decide +kernel
         base := by simp [lb]
         span := by simp [lb]
         prod := by kernel_rfl }
theorem lb_clean : cleanTo (keysTo [lb] [lb].length) (ownersTo [lb] [lb].length) 3 0 [lb] [lb].length = [{ lb with recs := [lr1, lr2] }] := by rfl
theorem lb_latest : latOf [lb] [lb].length ⟨#[97]⟩ = (2, true) := by rfl
set_option maxRecDepth 100000 in
theorem new_nil (before : Int) (w : World) : Calls Tryz.prog 30 #[.pointer none, .int .i64 before] w fun e w' => e = .returned (.tuple #[.pointer none, .int .i64 1]) ∧ w = w' := by
 go_enter Tryz.func30, Tryz.ntmps30
 go_wp2_with fail
 go_ret2
 exact ⟨rfl, rfl⟩
theorem cell_lit {w : World} {b : Nat} {c : Array Value} {e : TypeId} (h : w.heap[b]? = some (.cells c e (0, 0))) (j : Nat) : w.cell? ⟨b, j, none⟩ = c[j]? := by
 unfold World.cell?
 rw [h]
 rfl
theorem lb_reads {w : World} {g c : Nat}
  (hg : w.heap[g]? = some (.cells #[.int .i64 0, .int .i64 0, .bool false, .string ⟨#[97]⟩, .bool false, .string ⟨#[49]⟩, .slice none 0 0, .int .i64 1, .int .i64 0, .bool false, .string ⟨#[98]⟩, .bool false, .string ⟨#[50]⟩, .slice none 0 0, .int .i64 2, .int .i64 0, .bool false, .string ⟨#[97]⟩, .bool false, .string ⟨#[51]⟩, .slice none 0 0] 79 (0, 0)))
  (hc : w.heap[c]? = some (.cells #[.int .i64 0, .int .i64 3, .int .i64 (-1), .int .i64 (-1), .int .i64 (-1), .slice (some ⟨g, 0, none⟩) 3 3] 36 (0, 0))) :
  BatsR (fun _ => True) w (.slice (some ⟨c, 0, none⟩) 1 1) [lb] := by
 refine ⟨_, _, rfl, fun k b hb => ?_⟩
 match k, hb with
 | 0, hb =>
  simp at hb
  subst hb
  refine ⟨_, .slice (some ⟨g, 0, none⟩) 3 3, rfl, trivial, ⟨?_, ?_, ?_, ?_, ?_, ?_⟩, ?_⟩
  ·rw [add_lit]; exact cell_lit hc 0
  ·rw [lit_off]; exact cell_lit hc 1
  ·rw [lit_off]; exact cell_lit hc 2
  ·rw [lit_off]; exact cell_lit hc 3
  ·rw [lit_off]; exact cell_lit hc 4
  ·rw [lit_off]; exact cell_lit hc 5
  ·refine ⟨_, _, rfl, fun k b hb => ?_⟩
   match k, hb with
   | 0, hb =>
    simp [lb] at hb
    subst hb
    refine ⟨_, .slice none 0 0, rfl, trivial, ⟨?_, ?_, ?_, ?_, ?_, ?_, ?_⟩, hds_nil _ _⟩
    ·rw [add_lit]; exact cell_lit hg 0
    ·rw [lit_off]; exact cell_lit hg 1
    ·rw [lit_off]; exact cell_lit hg 2
    ·rw [lit_off]; exact cell_lit hg 3
    ·rw [lit_off]; exact cell_lit hg 4
    ·rw [lit_off]; exact cell_lit hg 5
    ·rw [lit_off]; exact cell_lit hg 6
   | 1, hb =>
    simp [lb] at hb
    subst hb
    refine ⟨_, .slice none 0 0, rfl, trivial, ⟨?_, ?_, ?_, ?_, ?_, ?_, ?_⟩, hds_nil _ _⟩
    ·rw [add_lit]; exact cell_lit hg 7
    ·rw [lit_off]; exact cell_lit hg 8
    ·rw [lit_off]; exact cell_lit hg 9
    ·rw [lit_off]; exact cell_lit hg 10
    ·rw [lit_off]; exact cell_lit hg 11
    ·rw [lit_off]; exact cell_lit hg 12
    ·rw [lit_off]; exact cell_lit hg 13
   | 2, hb =>
    simp [lb] at hb
    subst hb
    refine ⟨_, .slice none 0 0, rfl, trivial, ⟨?_, ?_, ?_, ?_, ?_, ?_, ?_⟩, hds_nil _ _⟩
    ·rw [add_lit]; exact cell_lit hg 14
    ·rw [lit_off]; exact cell_lit hg 15
    ·rw [lit_off]; exact cell_lit hg 16
    ·rw [lit_off]; exact cell_lit hg 17
    ·rw [lit_off]; exact cell_lit hg 18
    ·rw [lit_off]; exact cell_lit hg 19
    ·rw [lit_off]; exact cell_lit hg 20
   | k + 3, hb => simp [lb] at hb
 | k + 1, hb => simp at hb
set_option maxRecDepth 100000 in
set_option maxHeartbeats 8000000 in
theorem live_walk (w : World) : Calls Tryz.prog 28 #[] w fun e w' => e = .returned (.bool true) ∧ Fr (fun _ => False) w w' := by
 obtain ⟨cg, hcg⟩ : ∃ c : Array Value, c = #[.int .i64 0, .int .i64 0, .bool false, .string ⟨#[97]⟩, .bool false, .string ⟨#[49]⟩, .slice none 0 0, .int .i64 1, .int .i64 0, .bool false, .string ⟨#[98]⟩, .bool false, .string ⟨#[50]⟩, .slice none 0 0, .int .i64 2, .int .i64 0, .bool false, .string ⟨#[97]⟩, .bool false, .string ⟨#[51]⟩, .slice none 0 0] := ⟨_, rfl⟩
 obtain ⟨cb, hcb⟩ : ∃ c : Array Value, c = #[.int .i64 0, .int .i64 3, .int .i64 (-1), .int .i64 (-1), .int .i64 (-1), .slice (some ⟨w.heap.size, 0, none⟩) 3 3] := ⟨_, rfl⟩
 have hf3 : Fr (fun _ => False) w (((w.alloc (.cells cg 79)).alloc (.cells cb 36)).alloc (.cells cb 36)) := (((Fr.same w).alloc _).alloc _).alloc _
 have hg3 : (((w.alloc (.cells cg 79)).alloc (.cells cb 36)).alloc (.cells cb 36)).heap[w.heap.size]? = some (.cells cg 79 (0, 0)) :=
  (heap_alloc_lt _ (by simp; omega)).trans ((heap_alloc_lt _ (by simp)).trans (heap_alloc_self w _))
 have hc3 : (((w.alloc (.cells cg 79)).alloc (.cells cb 36)).alloc (.cells cb 36)).heap[w.heap.size + 1 + 1]? = some (.cells cb 36 (0, 0)) := by
  have := heap_alloc_self ((w.alloc (.cells cg 79)).alloc (.cells cb 36)) (.cells cb 36)
  rw [show ((w.alloc (.cells cg 79)).alloc (.cells cb 36)).heap.size = w.heap.size + 1 + 1 by simp] at this
  exact this
 have hb3 : (((w.alloc (.cells cg 79)).alloc (.cells cb 36)).alloc (.cells cb 36)).heap[w.heap.size + 1]? = some (.cells cb 36 (0, 0)) := by
  have := heap_alloc_self (w.alloc (.cells cg 79)) (.cells cb 36)
  rw [show (w.alloc (.cells cg 79)).heap.size = w.heap.size + 1 by simp] at this
  exact (heap_alloc_lt _ (by simp)).trans this
 subst hcg hcb
 have F3 := Lib.hid hf3
 have G3 := Lib.hid hg3
 have C3 := Lib.hid hc3
 have B3 := Lib.hid hb3
 clear hf3 hg3 hc3 hb3
 go_enter Tryz.func28, Tryz.ntmps28
 go_wp2_with fail
 have hread := lb_reads G3.out C3.out
 refine (clean_walk (fun _ => True) [lb] 3 0 _ _ hread lb_good).mono ?_
 rintro e w4 ⟨v, rfl, hr4, hf4⟩
 rw [lb_clean] at hr4
 have B4 := Lib.hid ((hf4.block (w.heap.size + 1) (by simp) fun h => h).trans B3.out)
 have G4 := Lib.hid ((hf4.block w.heap.size (by simp; omega) fun h => h).trans G3.out)
 have F4 := Lib.hid (F3.out.tr hf4)
 have HR4 := Lib.hid (hr4.mono (K' := fun _ => True) fun _ _ _ => trivial)
 have d4 := cell_lit B4.out
 have hC5 := heap_alloc_self w4 (.cells #[.int .i64 0, .int .i64 3, .int .i64 (-1), .int .i64 (-1), .int .i64 (-1), .slice (some ⟨w.heap.size, 0, none⟩) 3 3] 36)
 have hf5 := (Fr.same w4).alloc (.cells #[.int .i64 0, .int .i64 3, .int .i64 (-1), .int .i64 (-1), .int .i64 (-1), .slice (some ⟨w.heap.size, 0, none⟩) 3 3] 36)
 have hread5 := lb_reads ((hf5.block w.heap.size (lt_of_heap G4.out) fun h => h).trans G4.out) hC5
 have RD5 := Lib.hid hread5
 have F5 := Lib.hid (F4.out.tr hf5)
 have HR5 := Lib.hid (HR4.out.old hf5)
 clear hread hr4 hf4 hC5 hf5 hread5
 go_wp2_with fail
 refine (klatest_walk (fun _ => True) [lb] ⟨#[97]⟩ _ _ RD5.out lb_good (by decide +kernel)).mono ?_
 rintro e w6 ⟨rfl, hf6⟩
 rw [lb_latest]
 have hf16 := F5.out.tr hf6
 obtain ⟨oa, cap, rfl, h6⟩ := HR5.out.old hf6
 obtain ⟨a, rv, rfl, -, hc, hrr⟩ := h6 0 _ rfl
 obtain ⟨ra, rcap, rfl, hrr⟩ := hrr
 obtain ⟨a2, hv, rfl, -, hy, -⟩ := hrr 0 _ rfl
 obtain ⟨a3, hv', ha3, -, hz, -⟩ := hrr 1 _ rfl
 injection ha3 with ha3
 subst ha3
 have z0 : ∀ b : Addr, b.add 0 = b := fun b => by simp [Addr.add]
 have c5 := hc.c5
 have y3 := hy.c3
 have z1 : w6.cell? ⟨a2.block, a2.off + 7, none⟩ = some (.int .i64 2) := by have := hz.c0; simpa [Addr.add, lr2] using this
 simp only [Nat.zero_mul, z0] at c5 y3
 have F6 := Lib.hid hf16
 rw [show lr1.key = ⟨#[98]⟩ from rfl] at y3
 clear d4 hf6 hc hrr hy hz h6 hf16
 go_wp2_with fail
 refine (new_nil 0 _).mono ?_
 rintro e w7 ⟨rfl, rfl⟩
 go_wp2_with fail
 go_ret
 exact ⟨rfl, F6.out⟩
end Go.Proofs.YtdlnafhhkpklmaaGreatDoor
/- What Clean leaves is good; CleanOne: the walk. -/
namespace Go.Proofs.YtdlnafhhkpklmaaGreatDoor
open Go.RowKit Go.Fm Go.BigFrame
set_option linter.unusedVariables false
set_option linter.unusedSimpArgs false
theorem cleanTo_mem {f : ByteArray → Option (Nat × Nat)} {g : Int → Option Nat} {upto before : Int} {l : List Bat} {c : Bat} : ∀ {k : Nat}, c ∈ cleanTo f g upto before l k → ∃ (i : Nat) (b : Bat), l[i]? = some b ∧ c = { b with recs := keptOf f upto before i b }
 | 0, h => by simp [cleanTo] at h
 | k + 1, h => by
  simp only [cleanTo] at h
  split at h
  ·rename_i b hb
   split at h
   ·rcases List.mem_append.1 h with h | h
    ·exact cleanTo_mem h
    ·simp at h; exact ⟨k, b, hb, h⟩
   ·exact cleanTo_mem h
  ·exact cleanTo_mem h
end Go.Proofs.YtdlnafhhkpklmaaGreatDoor
/- Batches in their order: what cleaning leaves, plain. -/
namespace Go.Proofs.YtdlnafhhkpklmaaGreatDoor
open Go.RowKit Go.Fm
set_option linter.unusedVariables false
set_option linter.unusedSimpArgs false
structure InB (b : Bat) : Prop where
 rise : b.recs.Pairwise fun r s => r.at' < s.at'
 range : ∀ r ∈ b.recs, 0 ≤ r.at' ∧ r.at' < b.span
 span : 1 ≤ b.span
structure SortedL (l : List Bat) : Prop where
 apart : l.Pairwise fun b c => b.base + b.span ≤ c.base
 bats : ∀ b ∈ l, InB b
theorem pair_get {α : Type} {R : α → α → Prop} {l : List α} (h : l.Pairwise R) {i j : Nat} {x y : α} (hi : l[i]? = some x) (hj : l[j]? = some y) (hij : i < j) : R x y := by
 obtain ⟨h1, rfl⟩ := List.getElem?_eq_some_iff.1 hi
 obtain ⟨h2, rfl⟩ := List.getElem?_eq_some_iff.1 hj
 exact List.pairwise_iff_getElem.1 h i j h1 h2 hij
/-- A record stands there. -/
def At (l : List Bat) (i k : Nat) (b : Bat) (r : Rec) : Prop := l[i]? = some b ∧ b.recs[k]? = some r
theorem pos_lt {l : List Bat} (h : SortedL l) {i k j m : Nat} {b c : Bat} {r s : Rec} (h1 : At l i k b r) (h2 : At l j m c s) (hB : Behind j m i k) : b.base + r.at' < c.base + s.at' := by
 have hr := (h.bats b (List.mem_of_getElem? h1.1)).range r (List.mem_of_getElem? h1.2)
 have hs := (h.bats c (List.mem_of_getElem? h2.1)).range s (List.mem_of_getElem? h2.2)
 rcases hB with hB | ⟨rfl, hB⟩
 ·have := pair_get h.apart h1.1 h2.1 hB
  omega
 ·have e := h2.1
  rw [h1.1] at e
  injection e with e
  subst e
  have := pair_get (h.bats b (List.mem_of_getElem? h1.1)).rise h1.2 h2.2 hB
  omega
theorem pos_inj {l : List Bat} (h : SortedL l) {i k j m : Nat} {b c : Bat} {r s : Rec} (h1 : At l i k b r) (h2 : At l j m c s) (he : b.base + r.at' = c.base + s.at') : i = j ∧ k = m ∧ b = c ∧ r = s := by
 have hn1 : ¬ Behind j m i k := fun hB => by have := pos_lt h h1 h2 hB; omega
 have hn2 : ¬ Behind i k j m := fun hB => by have := pos_lt h h2 h1 hB; omega
 unfold Behind at hn1 hn2
 have e1 : i = j := by omega
 have e2 : k = m := by omega
 subst e1 e2
 have e3 := h1.1.symm.trans h2.1
 injection e3 with e3
 subst e3
 have e4 := h1.2.symm.trans h2.2
 injection e4 with e4
 exact ⟨rfl, rfl, rfl, e4⟩
section
variable {f : ByteArray → Option (Nat × Nat)} {g : Int → Option Nat} {upto before : Int} {l : List Bat}
theorem keptTo_sub (f : ByteArray → Option (Nat × Nat)) (before : Int) (i : Nat) (hi : Bool) (rs : List Rec) : ∀ k, k ≤ rs.length → (keptTo f before i hi rs k).Sublist (rs.take k)
 | 0, _ => by simp [keptTo]
 | k + 1, h => by
  obtain ⟨r, hr⟩ := get_of_lt (show k < rs.length by omega)
  have ih := keptTo_sub f before i hi rs k (by omega)
  rw [take_snoc' hr]
  cases hg : (hi || !goesB f before i k r) with
  | true => rw [keptTo_yes hr hg]; exact ih.append (List.Sublist.refl _)
  | false => rw [keptTo_no hr hg]; exact ih.trans (List.sublist_append_left _ _)
theorem keptOf_sub (i : Nat) (b : Bat) : (keptOf f upto before i b).Sublist b.recs := by
 have := keptTo_sub f before i (isHi upto b) b.recs b.recs.length (Nat.le_refl _)
 rw [List.take_length] at this
 exact this
theorem kept_has {i : Nat} {hi : Bool} {rs : List Rec} {r : Rec} {m : Nat} (hr : rs[m]? = some r) (hg : (hi || !goesB f before i m r) = true) : ∀ k, m < k → r ∈ keptTo f before i hi rs k
 | 0, h => by omega
 | k + 1, h => by
  by_cases e : m = k
  ·subst e; rw [keptTo_yes hr hg]; simp
  ·have ih := kept_has hr hg k (by omega)
   cases hr2 : rs[k]? with
   | none => simp only [keptTo, hr2]; exact ih
   | some r' =>
    cases hg2 : (hi || !goesB f before i k r') with
    | true => rw [keptTo_yes hr2 hg2]; exact List.mem_append_left _ ih
    | false => rw [keptTo_no hr2 hg2]; exact ih
theorem cleanTo_has {i : Nat} {b : Bat} (hb : l[i]? = some b) (hg : (isHi upto b || !(keptOf f upto before i b).isEmpty || g b.prod == some i) = true) : ∀ k, i < k → { b with recs := keptOf f upto before i b } ∈ cleanTo f g upto before l k
 | 0, h => by omega
 | k + 1, h => by
  by_cases e : i = k
  ·subst e; rw [cleanTo_yes hb hg]; simp
  ·have ih := cleanTo_has hb hg k (by omega)
   cases hb2 : l[k]? with
   | none => simp only [cleanTo, hb2]; exact ih
   | some b' =>
    cases hg2 : (isHi upto b' || !(keptOf f upto before k b').isEmpty || g b'.prod == some k) with
    | true => rw [cleanTo_yes hb2 hg2]; exact List.mem_append_left _ ih
    | false => rw [cleanTo_no hb2 hg2]; exact ih
end
end Go.Proofs.YtdlnafhhkpklmaaGreatDoor
/- row, find: the walks. -/
namespace Go.Proofs.YtdlnafhhkpklmaaGreatDoor
open Go.RowKit Go.Fm Go.BigFrame
set_option linter.unusedVariables false
set_option linter.unusedSimpArgs false
def zeroR : Rec := ⟨0, 0, false, ByteArray.empty, false, ByteArray.empty, []⟩
def FindPost (w : World) (l : List Bat) (x : Int) (e : Ending) (w' : World) : Prop :=
 ∃ (r : Rec) (hv : Value) (c : Bool), e = .returned (.tuple #[recV r hv, .bool c]) ∧ (c = true → ∃ i k b, At l i k b r ∧ b.base + r.at' = x) ∧ (c = false → ∀ i k b r, At l i k b r → b.base + r.at' ≠ x) ∧ (∃ oh n cap, hv = .slice oh n cap) ∧ Fr (fun _ => False) w w'
set_option maxRecDepth 100000 in
set_option maxHeartbeats 8000000 in
theorem kfind_walk (K : Nat → Prop) (l : List Bat) (x : Int) (v : Value) (w : World) (h : BatsR K w v l) (hg : GoodL l) :
  Calls Tryz.prog 36 #[v, .int .i64 x] w (FindPost w l x) := by
 obtain ⟨oa, cap, rfl, hcl⟩ := h
 have H := Lib.hid hcl
 have G := Lib.hid hg
 have hl8 := hg.len
 have hf0 := (Fr.same w).alloc (.cells #[.int .i64 0, .int .i64 0, .bool false, .string ⟨#[]⟩, .bool false, .string ⟨#[]⟩, .slice none 0 0] 79)
 have hA0 := heap_alloc_self w (.cells #[.int .i64 0, .int .i64 0, .bool false, .string ⟨#[]⟩, .bool false, .string ⟨#[]⟩, .slice none 0 0] 79)
 have F0 := Lib.hid hf0
 have A0 := Lib.hid hA0
 clear hcl hg hf0 hA0
 go_enter Tryz.func36, Tryz.ntmps36
 go_wp2_with fail
 generalize (w.alloc (.cells #[.int .i64 0, .int .i64 0, .bool false, .string ⟨#[]⟩, .bool false, .string ⟨#[]⟩, .slice none 0 0] 79)) = W0 at *
 go_loopw [6] (fun i wr => ∃ k : Nat, i = .int .i64 k ∧ k ≤ l.length ∧ (∀ i q b r, i < k → At l i q b r → b.base + r.at' ≠ x) ∧ Fr (fun _ => False) W0 wr) (fun i _ => l.length - (intOf i).toNat)
 case atStart => exact ⟨0, rfl, Nat.zero_le _, fun i q b r h => by omega, Fr.same _⟩
 case round =>
  obtain ⟨k, rfl, hk, hno, hf⟩ := hrel
  have F := Lib.hid hf
  have NO := Lib.hid hno
  clear hf hno
  rcases Nat.lt_or_ge k l.length with hlt | hge
  ·obtain ⟨b, hb⟩ := get_of_lt hlt
   obtain ⟨a, rv, rfl, -, hc, hr⟩ := H.out k b hb
   obtain ⟨ra, rcap, rfl, hrr⟩ := hr
   have HRR := Lib.hid hrr
   have HX := Lib.hid hb
   have HC := Lib.hid hc
   have HG := Lib.hid (G.out.bats b (List.mem_of_getElem? hb))
   have hlen50 := HG.out.len
   obtain ⟨hb0, hb1⟩ := HG.out.base
   clear hb hrr hc
   go_wp2_with fail
   go_loopw [7] (fun i wr => ∃ q : Nat, i = .int .i64 q ∧ q ≤ b.recs.length ∧ (∀ q' r, q' < q → At l k q' b r → b.base + r.at' ≠ x) ∧ Fr (fun _ => False) W0 wr) (fun i _ => b.recs.length - (intOf i).toNat)
   case atStart => exact ⟨0, rfl, Nat.zero_le _, fun q' r h => by omega, F.out⟩
   case round =>
    obtain ⟨q, rfl, hq, hnq, hf⟩ := hrel
    have FQ := Lib.hid hf
    have NQ := Lib.hid hnq
    have c0 := FQ.out.cel (F0.out.cel HC.out.c0)
    have c5 := FQ.out.cel (F0.out.cel HC.out.c5)
    clear hf hnq
    rcases Nat.lt_or_ge q b.recs.length with hq1 | hq1
    ·obtain ⟨y, hy⟩ := get_of_lt hq1
     obtain ⟨a2, hv, rfl, -, hcy, hhy⟩ := HRR.out q y hy
     obtain ⟨ha, hcap, rfl, -⟩ := hhy
     obtain ⟨-, -, ha0, ha1⟩ := HG.out.recs y (List.mem_of_getElem? hy)
     have AT := Lib.hid (show At l k q b y from ⟨HX.out, hy⟩)
     have HCY := Lib.hid hcy
     have e0 := FQ.out.cel (F0.out.cel hcy.c0)
     clear hy hcy
     by_cases hx : b.base + y.at' = x
     ·have HEQ := Lib.hid hx
      have hx2 : x = b.base + y.at' := hx.symm
      clear hx
      subst hx2
      go_wp2_with fail
      go_quiet (fail)
      have FN := Lib.hid (FQ.out.drewN nq)
      generalize wr.drewN nq = W5 at *
      clear c0 c5 e0
      have c5 := FN.out.cel (F0.out.cel HC.out.c5)
      obtain ⟨e0, e1, e2, e3, e4, e5, e6⟩ := HCY.out.to ((F0.out.tr FN.out).block _ HCY.out.lt fun h => h)
      have A5 := (FN.out.block w.heap.size (lt_of_heap A0.out) fun h => h).trans A0.out
      have fz := fun j => fz_of A5 j
      have dd := fun j => cell_of A5 j
      go_wp2_with fail
      refine bodyPost_ret (v := .tuple #[recV y (.slice ha y.hs.length hcap), .bool true]) (by simp [results, Tryz.f36, go_sem, recV, dd]) rfl ⟨y, _, true, rfl, fun _ => ⟨k, q, b, AT.out, rfl⟩, fun h => (by cases h), ⟨_, _, _, rfl⟩, ?_⟩
      repeat' (refine Fr.setCell ?_ (.inr (by simp)) _)
      exact F0.out.tr FN.out
     ·have HNE := Lib.hid hx
      go_wp2_with fail
      go_quiet (fail)
      have FN := Lib.hid (FQ.out.drewN nq)
      generalize wr.drewN nq = W5 at *
      clear c0 c5 e0
      go_wp2_with fail
      go_roundw
      case rel =>
       refine ⟨q + 1, by go_num, by omega, fun q' r h1 h2 => ?_, FN.out⟩
       by_cases e : q' = q
       ·subst e
        have h3 := h2.2
        rw [AT.out.2] at h3
        injection h3 with h3
        subst h3
        exact HNE.out
       ·exact NQ.out q' r (by omega) h2
      case measure => simp [intOf]; omega
    ·go_wp2_with fail
     go_roundw
     case rel =>
      refine ⟨k + 1, by go_num, by omega, fun i q' b' r h1 h2 => ?_, FQ.out⟩
      by_cases e : i = k
      ·subst e
       have h3 := h2.1
       rw [HX.out] at h3
       injection h3 with h3
       subst h3
       exact NQ.out q' r (by have := (List.getElem?_eq_some_iff.1 h2.2).1; omega) h2
      ·exact NO.out i q' b' r (by omega) h2
     case measure => simp [intOf]; omega
  ·have A5 := (F.out.block w.heap.size (lt_of_heap A0.out) fun h => h).trans A0.out
   have fz := fun j => fz_of A5 j
   have dd := fun j => cell_of A5 j
   go_wp2_with fail
   refine bodyPost_ret (v := .tuple #[recV zeroR (.slice none 0 0), .bool false]) (by simp [results, Tryz.f36, go_sem, recV, zeroR, dd]; rfl) rfl ⟨zeroR, _, false, rfl, fun h => (by cases h), fun _ i q b r h2 => NO.out i q b r (by have := (List.getElem?_eq_some_iff.1 h2.1).1; omega) h2, ⟨_, _, _, rfl⟩, ?_⟩
   repeat' (refine Fr.setCell ?_ (.inr (by simp)) _)
   exact F0.out.tr F.out
end Go.Proofs.YtdlnafhhkpklmaaGreatDoor
