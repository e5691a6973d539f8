/- Words: a text's great letters made small; letters. -/
import Derived.Test.YtfdhofabgdkkkaaGreatDoorQ43
import Derived.Lib.ConvBytes
import Derived.Lib.OthersKept
namespace Go.Proofs.YtfdhofabgdkkkaaGreatDoor
open Go.RowKit Go.Fm Go.BigFrame Go.Shelf Go.Maps
set_option linter.unusedVariables false
set_option linter.unusedSimpArgs false
set_option maxRecDepth 100000
section
variable {w w' : World} {S : Nat → Prop}
def foldB (b : UInt8) : UInt8 := if 65 ≤ b.toNat ∧ b.toNat ≤ 90 then b + 32 else b
def foldS (s : ByteArray) : ByteArray := ⟨(s.data.toList.map foldB).toArray⟩
theorem foldB_val {b : UInt8} (h : 65 ≤ b.toNat ∧ b.toNat ≤ 90) : byteVal (foldB b) = .int .u8 ((b.toNat : Int) + 32) := by
 unfold foldB byteVal
 rw [if_pos h]
 have : (b + 32).toNat = b.toNat + 32 := by
  rw [UInt8.toNat_add]
  have : (32 : UInt8).toNat = 32 := rfl
  rw [this]
  omega
 rw [this]
 rfl
theorem foldB_no {b : UInt8} (h : ¬ (65 ≤ b.toNat ∧ b.toNat ≤ 90)) : foldB b = b := if_neg h
/-- The first k bytes have been made small. -/
structure FoldSt (w0 w : World) (bb : Nat) (s : ByteArray) (k : Nat) : Prop where
 c : ∃ cur N, w.heap[bb]? = some (.cells cur 5 (N, N + 1)) ∧ cur.size = N ∧ s.size ≤ N ∧ ∀ j b, s.data.toList[j]? = some b → cur[j]? = some (byteVal (if j < k then foldB b else b))
 f : Fr (fun _ => False) w0 w
theorem FoldSt.cell {w0 : World} {bb : Nat} {s : ByteArray} {k j : Nat} {b : UInt8} (h : FoldSt w0 w bb s k) (hb : s.data.toList[j]? = some b) : w.cell? ⟨bb, j, none⟩ = some (byteVal (if j < k then foldB b else b)) := by
 obtain ⟨cur, N, h1, -, -, h4⟩ := h.c
 unfold World.cell?
 rw [h1]
 exact h4 j b hb
theorem FoldSt.fz {w0 : World} {bb : Nat} {s : ByteArray} {k j : Nat} (h : FoldSt w0 w bb s k) (hj : j < s.size) : w.frozen? ⟨bb, j, none⟩ = false := by
 obtain ⟨cur, N, h1, -, h3, -⟩ := h.c
 unfold World.frozen?
 rw [h1]
 simp
 omega
theorem FoldSt.step {w0 : World} {bb : Nat} {s : ByteArray} {k : Nat} {b : UInt8} (h : FoldSt w0 w bb s k) (hb : s.data.toList[k]? = some b) (hn : w0.heap.size ≤ bb) (v : Value) (hv : v = byteVal (foldB b)) : FoldSt w0 (w.setCell ⟨bb, k, none⟩ v) bb s (k + 1) := by
 obtain ⟨cur, N, h1, h2, h3, h4⟩ := h.c
 subst hv
 have hk : k < s.size := by
  have := (List.getElem?_eq_some_iff.1 hb).1
  rw [Array.length_toList] at this
  exact this
 refine ⟨⟨_, N, heap_setCell_self h1 _, by rw [Array.size_setIfInBounds, h2], h3, fun j c hj => ?_⟩, h.f.setCell (p := ⟨bb, k, none⟩) (.inr hn) _⟩
 by_cases e : j = k
 ·subst e
  rw [hb] at hj
  cases hj
  rw [if_pos (Nat.lt_succ_self _), Array.getElem?_setIfInBounds_self_of_lt (by omega)]
 ·rw [Array.getElem?_setIfInBounds_ne (fun h => e h.symm), h4 j c hj]
  by_cases h5 : j < k
  ·rw [if_pos h5, if_pos (by omega)]
  ·rw [if_neg h5, if_neg (by omega)]
theorem FoldSt.skip {w0 : World} {bb : Nat} {s : ByteArray} {k : Nat} {b : UInt8} (h : FoldSt w0 w bb s k) (hb : s.data.toList[k]? = some b) (hn : foldB b = b) : FoldSt w0 w bb s (k + 1) := by
 obtain ⟨cur, N, h1, h2, h3, h4⟩ := h.c
 refine ⟨⟨cur, N, h1, h2, h3, fun j c hj => ?_⟩, h.f⟩
 rw [h4 j c hj]
 by_cases e : j = k
 ·subst e
  rw [hb] at hj
  cases hj
  rw [if_neg (by omega), if_pos (by omega), hn]
 ·by_cases h5 : j < k
  ·rw [if_pos h5, if_pos (by omega)]
  ·rw [if_neg h5, if_neg (by omega)]
theorem fold_start (w : World) (s : ByteArray) : FoldSt w (Lib.bytesWorld w 5 s) w.heap.size s 0 := by
 have h1 := Lib.bytesWorld_at_new w 5 s
 refine ⟨⟨_, _, h1, rfl, ?_, fun j b hj => ?_⟩, ?_⟩
 ·simp [Lib.bytesCells]
 ·have hj' : j < s.data.size := by
   have := (List.getElem?_eq_some_iff.1 hj).1
   rwa [Array.length_toList] at this
  unfold Lib.bytesCells
  rw [if_neg (Nat.not_lt_zero _), Array.getElem?_append_left (by simpa using hj')]
  rw [Array.getElem?_map]
  have : s.data[j]? = some b := by rw [← Array.getElem?_toList]; exact hj
  rw [this]
  rfl
 ·refine ⟨rfl, rfl, rfl, ?_, fun i hi _ => Lib.bytesWorld_at_old w 5 s i hi⟩
  rw [Lib.bytesWorld_size]
  omega
set_option maxHeartbeats 16000000 in
theorem fold_walk (s : ByteArray) (hs : s.size ≤ 1000000000) : Calls Tryz.prog 217 #[.string s] w fun e w' => e = .returned (.string (foldS s)) ∧ Fr (fun _ => False) w w' := by
 have hconv := Lib.run_convert_string_bytes (P := Tryz.prog) w 9 305 5 s Tryz.underlying9 Tryz.underlying305 Tryz.underlying5
 have ST := Lib.hid (fold_start w s)
 go_enter Tryz.func217, Tryz.ntmps217
 go_wp2_with fail
 clear hconv
 generalize Lib.bytesWorld w 5 s = w1 at *
 generalize grownCap w s.size 0 5 = cap at *
 go_loopw [10] (fun i wr => ∃ k : Nat, i = .int .i64 k ∧ k ≤ s.size ∧ FoldSt w wr w.heap.size s k) (fun i _ => s.size - (intOf i).toNat)
 case atStart => exact ⟨0, rfl, Nat.zero_le _, ST.out⟩
 case round =>
  obtain ⟨k, rfl, hk, hS⟩ := hrel
  have SS := Lib.hid hS
  clear hS
  rcases Nat.lt_or_ge k s.size with hlt | hge
  ·have hltl : k < s.data.toList.length := by rw [Array.length_toList]; exact hlt
   obtain ⟨b, hb⟩ : ∃ b, s.data.toList[k]? = some b := ⟨_, List.getElem?_eq_getElem hltl⟩
   have hc := SS.out.cell hb
   rw [if_neg (Nat.lt_irrefl k)] at hc
   unfold byteVal at hc
   have hz := SS.out.fz hlt
   have HB := Lib.hid hb
   have hb0 : b.toNat < 256 := b.toNat_lt
   clear hb hltl
   by_cases hab : 65 ≤ b.toNat ∧ b.toNat ≤ 90
   ·obtain ⟨h1, h2⟩ := hab
    have h1' : (65 : Int) ≤ (b.toNat : Int) := by omega
    have h2' : (b.toNat : Int) ≤ 90 := by omega
    have S2 := Lib.hid (SS.out.step HB.out (Nat.le_refl _) (.int .u8 ((b.toNat : Int) + 32)) (foldB_val ⟨h1, h2⟩).symm)
    go_wp2_with fail
    go_roundw
    case rel => exact ⟨k + 1, by go_num, by omega, S2.out⟩
    case measure => simp [intOf]; omega
   ·have S2 := Lib.hid (SS.out.skip HB.out (foldB_no hab))
    by_cases h1 : 65 ≤ b.toNat
    ·have h1' : (65 : Int) ≤ (b.toNat : Int) := by omega
     have h2' : (90 : Int) < (b.toNat : Int) := by omega
     clear hab
     go_wp2_with fail
     go_roundw
     case rel => exact ⟨k + 1, by go_num, by omega, S2.out⟩
     case measure => simp [intOf]; omega
    ·have h1' : (b.toNat : Int) < 65 := by omega
     clear hab
     go_wp2_with fail
     go_roundw
     case rel => exact ⟨k + 1, by go_num, by omega, S2.out⟩
     case measure => simp [intOf]; omega
  ·obtain rfl : k = s.size := by omega
   have hconv := run_convert_bytes_back (P := Tryz.prog) wr 305 9 5 ⟨w.heap.size, 0, none⟩ cap (s.data.toList.map foldB) Tryz.underlying305 Tryz.underlying5 Tryz.underlying9 (fun j hj => by
    rw [add_lit]
    have hj' : j < s.data.toList.length := by simpa using hj
    have := SS.out.cell (j := j) (b := s.data.toList[j]) (List.getElem?_eq_getElem hj')
    rw [if_pos (by rw [Array.length_toList] at hj'; exact hj')] at this
    rw [this, List.getElem_map]
    rfl)
   rw [List.length_map, Array.length_toList] at hconv
   rw [show s.data.size = s.size from rfl] at hconv
   go_wp2_with fail
   go_ret
   exact ⟨rfl, SS.out.f⟩
/-- Is a character, of so many bytes, a letter? -/
def letterB (c size : Int) : Bool := decide (1 < size) || (decide (48 ≤ c) && decide (c ≤ 57)) || decide (c = 95) || (decide (65 ≤ c) && decide (c ≤ 90)) || (decide (97 ≤ c) && decide (c ≤ 122))
set_option maxHeartbeats 16000000 in
theorem letter_walk (c size : Int) : Calls Tryz.prog 265 #[.int .i32 c, .int .i64 size] w fun e w' => e = .returned (.bool (letterB c size)) ∧ w' = w := by
 go_enter Tryz.func265, Tryz.ntmps265
 go_wp2_with fail
 all_goals (go_ret; refine ⟨?_, rfl⟩; first | (simp_all [letterB]; done) | (simp_all [letterB]; omega))
end
end Go.Proofs.YtfdhofabgdkkkaaGreatDoor
