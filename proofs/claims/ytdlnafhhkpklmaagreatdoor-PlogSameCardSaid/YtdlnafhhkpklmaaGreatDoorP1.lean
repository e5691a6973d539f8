/- Numbers of eight bytes (varint.Fixed, varint.Read): the walks. -/
import Derived.Test.YtdlnafhhkpklmaaGreatDoorXA
namespace Go.Proofs.YtdlnafhhkpklmaaGreatDoor
open Go.RowKit Go.Fm Go.BigFrame
set_option linter.unusedVariables false
set_option linter.unusedSimpArgs false

def fixL8 (n : Nat) : List UInt8 := [0, 0, dig (n / 1099511627776 % 256), dig (n / 4294967296 % 256), dig (n / 16777216 % 256), dig (n / 65536 % 256), dig (n / 256 % 256), dig (n % 256)]
def fix8 (n : Nat) : ByteArray := ⟨(fixL8 n).toArray⟩
set_option maxRecDepth 100000 in
set_option maxHeartbeats 8000000 in
theorem fixed8_walk (n : Nat) (hn : n < 2199023255552) (w : World) : Calls Tryz.prog 87 #[.int .i64 n, .int .i64 8] w fun e w' => e = .returned (.tuple #[.string (fix8 n), .int .i64 0]) ∧ Fr (fun _ => False) w w' := by
  obtain ⟨i, hi, hz, h1, h2⟩ := info_parts info5
  have g1 : decide ((n : Int) < 0) = false := by simp
  have g3 : (n : Int) / 72057594037927936 = 0 := by omega
  have g4 : (n : Int) / 281474976710656 = 0 := by omega
  have g5 : ¬ ((n : Int) < 0) := by omega
  have hmk : ∀ w, (Instr.makeSlice 146 (.int .i64 8) (.int .i64 8)).run Tryz.prog w = .ok (.slice (some ⟨w.heap.size, 0, none⟩) 8 8) (w.alloc (.cells #[.int .u8 0, .int .u8 0, .int .u8 0, .int .u8 0, .int .u8 0, .int .u8 0, .int .u8 0, .int .u8 0] 5)) := fun w => by
    have := run_makeSlice (P := Tryz.prog) w 146 5 i (.int .u8 0) Tryz.underlying146 hi hz .i64 .i64 8 8 (by decide) (by decide) (by rw [h1]; decide) (by rw [h2]; decide) (by decide)
    have e : madeCells (Value.int .u8 0).cells (Int.toNat 8 * 1) = #[.int .u8 0, .int .u8 0, .int .u8 0, .int .u8 0, .int .u8 0, .int .u8 0, .int .u8 0, .int .u8 0] := by kernel_rfl
    rw [h1, e] at this
    exact this
  have hcv : (convert 146 9 (.slice (some ⟨w.heap.size, 0, none⟩) 8 8)).run Tryz.prog (w.alloc (.cells #[.int .u8 0, .int .u8 0, .int .u8 ((n : Int) / 1099511627776), .int .u8 ((n : Int) / 4294967296 % 256), .int .u8 ((n : Int) / 16777216 % 256), .int .u8 ((n : Int) / 65536 % 256), .int .u8 ((n : Int) / 256 % 256), .int .u8 ((n : Int) % 256)] 5)) = .ok (.string (fix8 n)) (w.alloc (.cells #[.int .u8 0, .int .u8 0, .int .u8 ((n : Int) / 1099511627776), .int .u8 ((n : Int) / 4294967296 % 256), .int .u8 ((n : Int) / 16777216 % 256), .int .u8 ((n : Int) / 65536 % 256), .int .u8 ((n : Int) / 256 % 256), .int .u8 ((n : Int) % 256)] 5)) := by
    refine run_convert_bytes_back (P := Tryz.prog) _ 146 9 5 ⟨w.heap.size, 0, none⟩ 8 (fixL8 n) Tryz.underlying146 Tryz.underlying5 Tryz.underlying9 fun j hj => ?_
    have hj4 : j < 8 := hj
    rw [add_lit, cell_alloc_new]
    have d : ∀ k, k < 256 → ((dig k).toNat : Int) = k := fun k hk => by unfold dig; rw [UInt8.toNat_ofNat_of_lt' hk]
    have : j = 0 ∨ j = 1 ∨ j = 2 ∨ j = 3 ∨ j = 4 ∨ j = 5 ∨ j = 6 ∨ j = 7 := by omega
    rcases this with rfl | rfl | rfl | rfl | rfl | rfl | rfl | rfl
    · rfl
    · rfl
    · show some (Value.int .u8 _) = some (.int .u8 ((dig (n / 1099511627776 % 256)).toNat : Int))
      rw [d _ (by omega)]; congr 2; omega
    · show some (Value.int .u8 _) = some (.int .u8 ((dig (n / 4294967296 % 256)).toNat : Int))
      rw [d _ (by omega)]; congr 2
    · show some (Value.int .u8 _) = some (.int .u8 ((dig (n / 16777216 % 256)).toNat : Int))
      rw [d _ (by omega)]; congr 2
    · show some (Value.int .u8 _) = some (.int .u8 ((dig (n / 65536 % 256)).toNat : Int))
      rw [d _ (by omega)]; congr 2
    · show some (Value.int .u8 _) = some (.int .u8 ((dig (n / 256 % 256)).toNat : Int))
      rw [d _ (by omega)]; congr 2
    · show some (Value.int .u8 _) = some (.int .u8 ((dig (n % 256)).toNat : Int))
      rw [d _ (by omega)]; congr 2
  have HCV := Lib.hid hcv
  clear hcv
  go_enter Tryz.func87, Tryz.ntmps87
  go_wp2_with fail
  refine wp_loop_rounds 9 ?_
  rw [rounds_succ]
  go_wp2_with fail
  rw [rounds_succ]
  go_wp2_with fail
  rw [rounds_succ]
  go_wp2_with fail
  rw [rounds_succ]
  go_wp2_with fail
  rw [rounds_succ]
  go_wp2_with fail
  rw [rounds_succ]
  go_wp2_with fail
  rw [rounds_succ]
  go_wp2_with fail
  rw [rounds_succ]
  go_wp2_with fail
  rw [rounds_succ]
  have hcv := HCV.out
  go_wp2_with fail
  go_ret2
  exact ⟨rfl, (Fr.same w).alloc _⟩
theorem or_byte8 {X b : Nat} (hX : X < 36028797018963968) (hb : b < 256) : bits .or .u64 ((X : Int) * 256) (b : Int) = ((X * 256 + b : Nat) : Int) := by
  have hw : ∀ n : Int, 0 ≤ n → n < 2 ^ 63 → IntKind.u64.wrap n = n := fun n h0 h1 => by simp [IntKind.wrap, IntKind.bits, IntKind.signed]; omega
  have := bits_join .u64 63 (by decide) hw 8 ((X : Int) * 256) (b : Int) (by omega) (by omega) (by omega) (by omega) (by omega) (by omega)
  rw [this]; omega
theorem beTo_mono (l : List UInt8) {i : Nat} : ∀ j, i ≤ j → j ≤ l.length → beTo (l.take i) ≤ beTo (l.take j) := by
  intro j
  induction j with
  | zero => intro h _; obtain rfl : i = 0 := by omega
            exact Nat.le_refl _
  | succ j ih =>
    intro h hj
    rcases Nat.lt_or_ge j i with h1 | h1
    · obtain rfl : i = j + 1 := by omega
      exact Nat.le_refl _
    · have := ih h1 (by omega)
      rw [beTo_snoc (by omega)]
      omega
theorem fix8_size (n : Nat) : (fix8 n).size = 8 := rfl
theorem fix8_be (n : Nat) (hn : n < 2199023255552) : beTo (fix8 n).data.toList = n := by
  have d : ∀ k, k < 256 → (dig k).toNat = k := fun k hk => by unfold dig; rw [UInt8.toNat_ofNat_of_lt' hk]
  show beTo (fixL8 n) = n
  unfold beTo fixL8
  simp only [List.foldl_cons, List.foldl_nil]
  rw [d _ (by omega), d _ (by omega), d _ (by omega), d _ (by omega), d _ (by omega), d _ (by omega)]
  rw [show (0 : UInt8).toNat = 0 from rfl]
  omega
set_option maxRecDepth 100000 in
set_option maxHeartbeats 8000000 in
theorem read8_walk (s : ByteArray) (w : World) (hs : s.size = 8) (hv : beTo s.data.toList < 4611686018427387904) : Calls Tryz.prog 75 #[.string s, .int .i64 0, .int .i64 8] w fun e w' => e = .returned (.tuple #[.int .i64 (beTo s.data.toList : Nat), .int .i64 8, .int .i64 0]) ∧ Fr (fun _ => False) w w' := by
  obtain ⟨t, ht⟩ : ∃ t, t = s.extract 0 8 := ⟨_, rfl⟩
  have hts' : t = s := by rw [ht, ← hs]; exact ByteArray.extract_zero_size
  have hts : t.size = 8 := by rw [hts', hs]
  have hconv := run_bytes_of_string (P := Tryz.prog) w 9 146 5 t Tryz.underlying9 Tryz.underlying146 Tryz.underlying5
  rw [hts] at hconv
  have hcells : ∀ j (hj : j < t.size), (w.alloc (.cells (bytesRow t (grownCap w 8 0 5)) 5 ((bytesRow t (grownCap w 8 0 5)).size, (bytesRow t (grownCap w 8 0 5)).size + 1))).drew.cell? ⟨w.heap.size, j, none⟩ = some (.int .u8 (t[j].toNat : Int)) := by
    intro j hj
    have h1 : (w.alloc (.cells (bytesRow t (grownCap w 8 0 5)) 5 ((bytesRow t (grownCap w 8 0 5)).size, (bytesRow t (grownCap w 8 0 5)).size + 1))).drew.heap[w.heap.size]? = some (.cells (bytesRow t (grownCap w 8 0 5)) 5 ((bytesRow t (grownCap w 8 0 5)).size, (bytesRow t (grownCap w 8 0 5)).size + 1)) := heap_alloc_self w _
    unfold World.cell?
    rw [h1]
    show (bytesRow t (grownCap w 8 0 5))[j]? = _
    unfold bytesRow
    rw [Array.getElem?_append_left (by simpa using hj)]
    simp [hj]
    rfl
  have hf := Fr.drew ((Fr.same w).alloc (.cells (bytesRow t (grownCap w 8 0 5)) 5 ((bytesRow t (grownCap w 8 0 5)).size, (bytesRow t (grownCap w 8 0 5)).size + 1)))
  have HC := Lib.hid hcells
  have F := Lib.hid hf
  have HT := Lib.hid ht
  have HTE := Lib.hid hts'
  have HTS := Lib.hid hts
  rw [← hts'] at hv
  have HV := Lib.hid hv
  rw [ht] at hconv
  clear hcells hf ht hts hts' hv
  go_enter Tryz.func75, Tryz.ntmps75
  go_wp2_with fail
  rw [← HT.out]
  generalize (w.alloc (.cells (bytesRow t (grownCap w 8 0 5)) 5 ((bytesRow t (grownCap w 8 0 5)).size, (bytesRow t (grownCap w 8 0 5)).size + 1))).drew = W at *
  have hl4 : t.data.toList.length = 8 := by have h1 : t.data.toList.length = t.size := by simp
                                            rw [h1]; exact HTS.out
  have HL4 := Lib.hid hl4
  clear hconv hl4
  go_loopw [9, 44] (fun u iv wr => ∃ k : Nat, iv = .int .i64 k ∧ k ≤ 8 ∧ u = .int .u64 (beTo (t.data.toList.take k) : Nat) ∧ Fr (fun _ => False) W wr) (fun _ iv _ => 8 - (intOf iv).toNat)
  case atStart => exact ⟨0, rfl, by omega, rfl, Fr.same _⟩
  case round =>
    obtain ⟨k, rfl, hk, rfl, hf⟩ := hrel
    have F2 := Lib.hid hf
    have hvk := beTo_mono t.data.toList 8 hk (by rw [HL4.out]; exact Nat.le_refl _)
    have ht8 : t.data.toList.take 8 = t.data.toList := List.take_of_length_le (by rw [HL4.out]; exact Nat.le_refl _)
    rw [ht8] at hvk
    have hv := HV.out
    clear hf
    rcases Nat.lt_or_ge k 8 with h4 | h4
    · have hsn := beTo_snoc (l := t.data.toList) (k := k) (by rw [HL4.out]; exact h4)
      have hvk1 := beTo_mono t.data.toList (i := k + 1) 8 h4 (by rw [HL4.out]; exact Nat.le_refl _)
      rw [ht8, hsn] at hvk1
      have HSN := Lib.hid hsn
      have hc := F2.out.cel (HC.out k (by rw [HTS.out]; exact h4))
      have hb3 : t.data.toList[k]'(by rw [HL4.out]; exact h4) = t[k]'(by rw [HTS.out]; exact h4) := rfl
      have HB3 := Lib.hid hb3
      rw [hb3] at hvk1
      generalize hX : beTo (t.data.toList.take k) = X at *
      have hblt := (t[k]'(by rw [HTS.out]; exact h4)).toNat_lt
      generalize hb : (t[k]'(by rw [HTS.out]; exact h4)).toNat = b at *
      have hX2 : X < 36028797018963968 := by omega
      have hor := or_byte8 (X := X) (b := b) hX2 (by omega)
      clear hsn hb3 hv hvk hvk1 ht8
      go_wp2_with fail
      go_roundw
      case rel => exact ⟨k + 1, by go_num, h4, by rw [HSN.out, HB3.out, hb]; simp, F2.out⟩
      case measure => simp [intOf]; omega
    · obtain rfl : k = 8 := by omega
      rw [ht8] at hvk ⊢
      obtain ⟨X, hX⟩ : ∃ X, Hid (X = beTo t.data.toList) := ⟨_, Lib.hid rfl⟩
      rw [← hX.out] at hv ⊢
      have g5 : ¬ ((X : Int) < 0) := by omega
      have FF := Lib.hid (F.out.tr F2.out)
      clear ht8 hvk
      go_wp2_with fail
      go_ret3
      exact ⟨by rw [hX.out, HTE.out]; rfl, FF.out⟩
end Go.Proofs.YtdlnafhhkpklmaaGreatDoor
