/- Sums of bytes (crcc): the walk. -/
import Derived.Test.YtgbcdgfpmihkcaaDoorV1
import Derived.Laws.IdiomStrings
import Derived.Laws.BitsLemmas
namespace Go.Proofs.YtgbcdgfpmihkcaaDoor
open Go.RowKit Go.Fm Go.BigFrame
set_option linter.unusedVariables false
set_option linter.unusedSimpArgs false

def stepL : List Nat := [0, 274646895, 549293790, 820201905, 1098587580, 1361435347, 1640403810, 1905808397, 2197175160, 2460548119, 2722870694, 2987750089, 3280807620, 3553878443, 3811616794, 4084100981]
def stepT (k : Nat) : Int := ((stepL.getD k 0 : Nat) : Int)
/-- The table of steps lies in its variable. -/
structure StepsOK (w : World) : Prop where
  cell : ∀ k, k < 16 → w.cell? ⟨0, k, none⟩ = some (.int .u32 (stepT k))
theorem StepsOK.fr {w w' : World} {S : Nat → Prop} (h : StepsOK w) (hf : Fr S w w') (h0 : ¬ S 0) : StepsOK w' := ⟨fun k hk => hf.cell (h.cell k hk) h0⟩
theorem StepsOK.old {w w' : World} (h : StepsOK w) (hf : Fr (fun _ => False) w w') : StepsOK w' := h.fr hf fun h => h
theorem StepsOK.to {w w' : World} (h : StepsOK w) (hh : w'.heap = w.heap) : StepsOK w' := ⟨fun k hk => (World.cell?_of_block (w := w) (by rw [hh])).trans (h.cell k hk)⟩
theorem u32_in (a b : Int) : 0 ≤ bits .xor .u32 a b ∧ bits .xor .u32 a b < 4294967296 := by
  unfold bits
  simp only [IntKind.wrap_u32]
  omega
theorem wraps_u32 (n : Int) (h0 : 0 ≤ n) (h1 : n < 2 ^ 32) : IntKind.u32.wrap n = n := by rw [IntKind.wrap_u32]; omega
theorem and15_u32 {x : Int} (h0 : 0 ≤ x) (h1 : x < 4294967296) : bits .and .u32 x 15 = x % 16 := bits_mask .u32 32 (by decide) wraps_u32 4 (by decide) x h0 h1
def nib (r : Int) : Int := bits .xor .u32 (r / 16) (stepT (r % 16).toNat)
def crcB (r : Int) (b : UInt8) : Int := nib (nib (bits .xor .u32 r (b.toNat : Int)))
def crcTo (r : Int) (l : List UInt8) : Int := l.foldl crcB r
theorem nib_in (r : Int) : 0 ≤ nib r ∧ nib r < 4294967296 := u32_in _ _
theorem crcB_in (r : Int) (b : UInt8) : 0 ≤ crcB r b ∧ crcB r b < 4294967296 := nib_in _
theorem crcTo_snoc {r : Int} {l : List UInt8} {k : Nat} (h : k < l.length) : crcTo r (l.take (k + 1)) = crcB (crcTo r (l.take k)) l[k] := by
  unfold crcTo
  rw [List.take_succ_eq_append_getElem h, List.foldl_append]
  rfl
theorem crcTo_in {r : Int} (h : 0 ≤ r ∧ r < 4294967296) : ∀ l : List UInt8, 0 ≤ crcTo r l ∧ crcTo r l < 4294967296 := by
  intro l
  induction l generalizing r with
  | nil => exact h
  | cons b l ih => exact ih (crcB_in r b)
def flip32 (r : Int) : Int := bits .xor .u32 IntKind.u32.max r
def sumS (s : ByteArray) : Int := flip32 (crcTo (flip32 0) s.data.toList)
theorem sumS_in (s : ByteArray) : 0 ≤ sumS s ∧ sumS s < 4294967296 := u32_in _ _
set_option maxRecDepth 100000 in
set_option maxHeartbeats 8000000 in
theorem extend_walk (s : ByteArray) (w : World) (hs : s.size ≤ maxLen) (hw : StepsOK w) : Calls Tryd.prog 57 #[.int .u32 0, .string s] w fun e w' => e = .returned (.int .u32 (sumS s)) ∧ Fr (fun _ => False) w w' := by
  have hconv := run_bytes_of_string (P := Tryd.prog) w 9 112 5 s Tryd.underlying9 Tryd.underlying112 Tryd.underlying5
  have hsg : IntKind.u32.signed = false := rfl
  have hs9 : s.size ≤ 9223372036854775807 := by unfold maxLen at hs; omega
  clear hs
  have hcells : ∀ j (hj : j < s.size), (w.alloc (.cells (bytesRow s (grownCap w s.size 0 5)) 5 ((bytesRow s (grownCap w s.size 0 5)).size, (bytesRow s (grownCap w s.size 0 5)).size + 1))).drew.cell? ⟨w.heap.size, j, none⟩ = some (.int .u8 (s[j].toNat : Int)) := by
    intro j hj
    have h1 : (w.alloc (.cells (bytesRow s (grownCap w s.size 0 5)) 5 ((bytesRow s (grownCap w s.size 0 5)).size, (bytesRow s (grownCap w s.size 0 5)).size + 1))).drew.heap[w.heap.size]? = some (.cells (bytesRow s (grownCap w s.size 0 5)) 5 ((bytesRow s (grownCap w s.size 0 5)).size, (bytesRow s (grownCap w s.size 0 5)).size + 1)) := heap_alloc_self w _
    unfold World.cell?
    rw [h1]
    show (bytesRow s (grownCap w s.size 0 5))[j]? = _
    unfold bytesRow
    rw [Array.getElem?_append_left (by simpa using hj)]
    simp [hj]
    rfl
  have hf := Fr.drew ((Fr.same w).alloc (.cells (bytesRow s (grownCap w s.size 0 5)) 5 ((bytesRow s (grownCap w s.size 0 5)).size, (bytesRow s (grownCap w s.size 0 5)).size + 1)))
  have HC := Lib.hid hcells
  have F := Lib.hid hf
  have HS := Lib.hid (hw.old hf)
  clear hcells hf hw
  go_enter Tryd.func57, Tryd.ntmps57
  go_wp2_with fail
  clear hconv
  generalize (w.alloc (.cells (bytesRow s (grownCap w s.size 0 5)) 5 ((bytesRow s (grownCap w s.size 0 5)).size, (bytesRow s (grownCap w s.size 0 5)).size + 1))).drew = W at *
  go_loopw [5, 13] (fun r iv wr => ∃ k : Nat, iv = .int .i64 k ∧ k ≤ s.size ∧ r = .int .u32 (crcTo (flip32 0) (s.data.toList.take k)) ∧ Fr (fun _ => False) W wr) (fun _ iv _ => s.size - (intOf iv).toNat)
  case atStart => exact ⟨0, rfl, Nat.zero_le _, rfl, Fr.same _⟩
  case round =>
    obtain ⟨k, rfl, hk, rfl, hf⟩ := hrel
    have F2 := Lib.hid hf
    clear hf
    have hrin := crcTo_in (u32_in IntKind.u32.max 0) (s.data.toList.take k)
    rcases Nat.lt_or_ge k s.size with hlt | hge
    · have hl : k < s.data.toList.length := by simpa using hlt
      have hsn := crcTo_snoc (r := flip32 0) hl
      have HSN := Lib.hid hsn
      obtain ⟨r, hr⟩ : ∃ r, Hid (r = crcTo (flip32 0) (s.data.toList.take k)) := ⟨_, Lib.hid rfl⟩
      rw [← hr.out]
      have hc := F2.out.cel (HC.out k hlt)
      have hS := HS.out.old F2.out
      have HS2 := Lib.hid hS
      generalize hb : s[k] = b at *
      have HB := Lib.hid hb
      have hbm : (b.toNat : Int) % 4294967296 = b.toNat := by have := b.toNat_lt; omega
      have g1 : decide ((k : Int) < s.size) = true := by simp; omega
      clear hsn hrin hb hS
      go_wp2_with fail
      obtain ⟨r1, hr1⟩ : ∃ r1, Hid (r1 = bits .xor .u32 r (b.toNat : Int)) := ⟨_, Lib.hid rfl⟩
      rw [← hr1.out]
      have hin1 := u32_in r (b.toNat : Int)
      rw [← hr1.out] at hin1
      have ha1 := and15_u32 hin1.1 hin1.2
      have hl1 := HS2.out.cell (r1 % 16).toNat (by omega)
      have hb1 : 0 ≤ r1 % 16 ∧ r1 % 16 < 16 := by omega
      clear hc hbm g1
      refine wp_loop_rounds 3 ?_
      rw [rounds_succ]
      go_wp2_with fail
      obtain ⟨r2, hr2⟩ : ∃ r2, Hid (r2 = bits .xor .u32 (r1 / 16) (stepT (r1 % 16).toNat)) := ⟨_, Lib.hid rfl⟩
      rw [← hr2.out]
      have hin2 := u32_in (r1 / 16) (stepT (r1 % 16).toNat)
      rw [← hr2.out] at hin2
      have ha2 := and15_u32 hin2.1 hin2.2
      have hl2 := HS2.out.cell (r2 % 16).toNat (by omega)
      have hb2 : 0 ≤ r2 % 16 ∧ r2 % 16 < 16 := by omega
      clear hl1 ha1 hb1
      rw [rounds_succ]
      go_wp2_with fail
      rw [rounds_succ]
      go_wp2_with fail
      go_roundw
      case rel =>
        refine ⟨k + 1, by go_num, hlt, ?_, F2.out⟩
        rw [HSN.out, ← hr.out]
        have hb3 : s.data.toList[k] = b := by rw [← HB.out]; rfl
        rw [hb3]
        unfold crcB nib
        rw [← hr1.out, ← hr2.out]
      case measure => simp [intOf]; omega
    · obtain rfl : k = s.size := by omega
      have g1 : decide ((s.size : Int) < s.size) = false := by simp
      have ht : s.data.toList.take s.size = s.data.toList := List.take_of_length_le (by simp)
      rw [ht]
      have FF := Lib.hid (F.out.tr F2.out)
      go_wp2_with fail
      go_ret
      exact ⟨rfl, FF.out⟩
theorem sum_walk (s : ByteArray) (w : World) (hs : s.size ≤ maxLen) (hw : StepsOK w) : Calls Tryd.prog 37 #[.string s] w fun e w' => e = .returned (.int .u32 (sumS s)) ∧ Fr (fun _ => False) w w' := by
  have HW := Lib.hid (fun w h => extend_walk s w hs h)
  go_enter Tryd.func37, Tryd.ntmps37
  go_wp2_with fail
  refine (HW.out _ hw).mono ?_
  rintro e w2 ⟨rfl, hf2⟩
  go_wp2_with fail
  go_ret
  exact ⟨rfl, hf2⟩
end Go.Proofs.YtgbcdgfpmihkcaaDoor
