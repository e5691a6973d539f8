/- Numbers of four bytes (varint.Fixed, varint.Read): the walks. -/
import Derived.Test.YtgbcdgfpmihkcaaDoorX1
import Derived.Test.YtgbcdgfpmihkcaaDoorV5
import Derived.Test.YtgbcdgfpmihkcaaDoorSt
namespace Go.Proofs.YtgbcdgfpmihkcaaDoor
open Go.RowKit Go.Fm Go.BigFrame
set_option linter.unusedVariables false
set_option linter.unusedSimpArgs false

def fixL (n : Nat) : List UInt8 := [dig (n / 16777216 % 256), dig (n / 65536 % 256), dig (n / 256 % 256), dig (n % 256)]
def fix4 (n : Nat) : ByteArray := ⟨(fixL n).toArray⟩
set_option maxRecDepth 100000 in
set_option maxHeartbeats 8000000 in
theorem fixed_walk (n : Nat) (hn : n < 4294967296) (w : World) : Calls Tryd.prog 46 #[.int .i64 n, .int .i64 4] w fun e w' => e = .returned (.tuple #[.string (fix4 n), .int .i64 0]) ∧ Fr (fun _ => False) w w' := by
  obtain ⟨i, hi, hz, h1, h2⟩ := info_parts info5
  have g1 : decide ((n : Int) < 0) = false := by simp
  have g2 : ((n : Int) / 4294967296 == 0) = true := by simp; omega
  have g3 : (n : Int) / 4294967296 = 0 := by omega
  have hmk : ∀ w, (Instr.makeSlice 112 (.int .i64 4) (.int .i64 4)).run Tryd.prog w = .ok (.slice (some ⟨w.heap.size, 0, none⟩) 4 4) (w.alloc (.cells #[.int .u8 0, .int .u8 0, .int .u8 0, .int .u8 0] 5)) := fun w => by
    have := run_makeSlice (P := Tryd.prog) w 112 5 i (.int .u8 0) Tryd.underlying112 hi hz .i64 .i64 4 4 (by decide) (by decide) (by rw [h1]; decide) (by rw [h2]; decide) (by decide)
    have e : madeCells (Value.int .u8 0).cells (Int.toNat 4 * 1) = #[.int .u8 0, .int .u8 0, .int .u8 0, .int .u8 0] := by kernel_rfl
    rw [h1, e] at this
    exact this
  have hcv : (convert 112 9 (.slice (some ⟨w.heap.size, 0, none⟩) 4 4)).run Tryd.prog (w.alloc (.cells #[.int .u8 ((n : Int) / 16777216), .int .u8 ((n : Int) / 65536 % 256), .int .u8 ((n : Int) / 256 % 256), .int .u8 ((n : Int) % 256)] 5)) = .ok (.string (fix4 n)) (w.alloc (.cells #[.int .u8 ((n : Int) / 16777216), .int .u8 ((n : Int) / 65536 % 256), .int .u8 ((n : Int) / 256 % 256), .int .u8 ((n : Int) % 256)] 5)) := by
    refine run_convert_bytes_back (P := Tryd.prog) _ 112 9 5 ⟨w.heap.size, 0, none⟩ 4 (fixL n) Tryd.underlying112 Tryd.underlying5 Tryd.underlying9 fun j hj => ?_
    have hj4 : j < 4 := hj
    rw [add_lit, cell_alloc_new]
    have d : ∀ k, k < 256 → ((dig k).toNat : Int) = k := fun k hk => by unfold dig; rw [UInt8.toNat_ofNat_of_lt' hk]
    have : j = 0 ∨ j = 1 ∨ j = 2 ∨ j = 3 := by omega
    rcases this with rfl | rfl | rfl | rfl
    · show some (Value.int .u8 _) = some (.int .u8 ((dig (n / 16777216 % 256)).toNat : Int))
      rw [d _ (by omega)]; congr 2; omega
    · show some (Value.int .u8 _) = some (.int .u8 ((dig (n / 65536 % 256)).toNat : Int))
      rw [d _ (by omega)]; congr 2
    · show some (Value.int .u8 _) = some (.int .u8 ((dig (n / 256 % 256)).toNat : Int))
      rw [d _ (by omega)]; congr 2
    · show some (Value.int .u8 _) = some (.int .u8 ((dig (n % 256)).toNat : Int))
      rw [d _ (by omega)]; congr 2
  have HCV := Lib.hid hcv
  clear hcv
  go_enter Tryd.func46, Tryd.ntmps46
  go_wp2_with fail
  refine wp_loop_rounds 5 ?_
  rw [rounds_succ]
  go_wp2_with fail
  rw [rounds_succ]
  go_wp2_with fail
  rw [rounds_succ]
  go_wp2_with fail
  rw [rounds_succ]
  go_wp2_with fail
  rw [rounds_succ]
  have hcv := HCV.out
  go_wp2_with fail
  go_ret2
  exact ⟨rfl, (Fr.same w).alloc _⟩
/-- What four bytes come to. -/
def be4 (s : ByteArray) (p : Nat) : Nat := (s.data.toList.drop p).take 4 |>.foldl (fun u b => u * 256 + b.toNat) 0
def readS (s : ByteArray) (a : Int) : Int × Int × Int :=
  if a < 0 ∨ (s.size : Int) < a then (0, 0, 1) else if (s.size : Int) - a < 4 then (0, 0, 2) else ((be4 s a.toNat : Int), a + 4, 0)
def ReadSPost (s : ByteArray) (a : Int) (w : World) (e : Ending) (w' : World) : Prop :=
  e = .returned (.tuple #[.int .i64 (readS s a).1, .int .i64 (readS s a).2.1, .int .i64 (readS s a).2.2]) ∧ Fr (fun _ => False) w w'
theorem read_bad (s : ByteArray) (a : Int) (w : World) (hs : s.size ≤ maxLen) (h : (a < 0 ∨ (s.size : Int) < a) ∨ (s.size : Int) - a < 4) : Calls Tryd.prog 36 #[.string s, .int .i64 a, .int .i64 4] w (ReadSPost s a w) := by
  have hs9 : s.size ≤ 9223372036854775807 := by unfold maxLen at hs; omega
  have hr : readS s a = if a < 0 ∨ (s.size : Int) < a then (0, 0, 1) else (0, 0, 2) := by
    unfold readS
    split
    · rfl
    · rw [if_pos (by omega)]
  unfold ReadSPost
  rw [hr]
  clear hr hs
  by_cases h1 : a < 0
  · rw [if_pos (.inl h1)]
    clear h
    go_enter Tryd.func36, Tryd.ntmps36
    go_wp2_with fail
    go_ret3
    exact ⟨rfl, Fr.same _⟩
  · by_cases h2 : (s.size : Int) < a
    · rw [if_pos (.inr h2)]
      clear h
      go_enter Tryd.func36, Tryd.ntmps36
      go_wp2_with fail
      go_ret3
      exact ⟨rfl, Fr.same _⟩
    · rw [if_neg (by omega)]
      have h3 : (s.size : Int) - a < 4 := by omega
      clear h
      go_enter Tryd.func36, Tryd.ntmps36
      go_wp2_with fail
      go_ret3
      exact ⟨rfl, Fr.same _⟩
def beTo (l : List UInt8) : Nat := l.foldl (fun u b => u * 256 + b.toNat) 0
theorem beTo_snoc {l : List UInt8} {k : Nat} (h : k < l.length) : beTo (l.take (k + 1)) = beTo (l.take k) * 256 + l[k].toNat := by
  unfold beTo
  rw [List.take_succ_eq_append_getElem h, List.foldl_append]
  rfl
theorem beTo_lt (l : List UInt8) : ∀ k, k ≤ l.length → k ≤ 4 → beTo (l.take k) < 256 ^ k := by
  intro k
  induction k with
  | zero => intro _ _; simp [beTo]
  | succ k ih =>
    intro h1 h2
    have := ih (by omega) (by omega)
    rw [beTo_snoc (by omega), Nat.pow_succ]
    have := (l[k]'(by omega)).toNat_lt
    omega
theorem or_byte {X b : Nat} (hX : X < 4294967296) (hb : b < 256) : bits .or .u64 ((X : Int) * 256) (b : Int) = ((X * 256 + b : Nat) : Int) := by
  have hw : ∀ n : Int, 0 ≤ n → n < 2 ^ 40 → IntKind.u64.wrap n = n := fun n h0 h1 => by simp [IntKind.wrap, IntKind.bits, IntKind.signed]; omega
  have := bits_join .u64 40 (by decide) hw 8 ((X : Int) * 256) (b : Int) (by omega) (by omega) (by omega) (by omega) (by omega) (by omega)
  rw [this]; omega
set_option maxRecDepth 100000 in
set_option maxHeartbeats 8000000 in
theorem read_walk (s : ByteArray) (a : Int) (w : World) (hs : s.size ≤ maxLen) : Calls Tryd.prog 36 #[.string s, .int .i64 a, .int .i64 4] w (ReadSPost s a w) := by
  by_cases hbad : (a < 0 ∨ (s.size : Int) < a) ∨ (s.size : Int) - a < 4
  · exact read_bad s a w hs hbad
  · obtain ⟨p, rfl⟩ : ∃ p : Nat, a = p := ⟨a.toNat, by omega⟩
    have hp : p + 4 ≤ s.size := by omega
    have hs9 : s.size ≤ 9223372036854775807 := by unfold maxLen at hs; omega
    have hr : readS s p = ((be4 s p : Int), (p : Int) + 4, 0) := by
      unfold readS
      rw [if_neg (by omega), if_neg (by omega), Int.toNat_natCast]
    unfold ReadSPost
    rw [hr]
    obtain ⟨t, ht⟩ : ∃ t, t = s.extract p (p + 4) := ⟨_, rfl⟩
    have htl : t.data.toList = (s.data.toList.drop p).take 4 := by
      rw [ht, ByteArray.data_extract, Array.toList_extract, List.extract]
      congr 1; omega
    have hbe : be4 s p = beTo t.data.toList := by unfold be4 beTo; rw [htl]
    have hts : t.size = 4 := by
      have h1 : t.data.toList.length = t.size := by simp
      rw [← h1, htl, List.length_take, List.length_drop]
      have : s.data.toList.length = s.size := by simp
      omega
    have hconv := run_bytes_of_string (P := Tryd.prog) w 9 112 5 t Tryd.underlying9 Tryd.underlying112 Tryd.underlying5
    rw [hts] at hconv
    have hcells : ∀ j (hj : j < t.size), (w.alloc (.cells (bytesRow t (grownCap w 4 0 5)) 5 ((bytesRow t (grownCap w 4 0 5)).size, (bytesRow t (grownCap w 4 0 5)).size + 1))).drew.cell? ⟨w.heap.size, j, none⟩ = some (.int .u8 (t[j].toNat : Int)) := by
      intro j hj
      have h1 : (w.alloc (.cells (bytesRow t (grownCap w 4 0 5)) 5 ((bytesRow t (grownCap w 4 0 5)).size, (bytesRow t (grownCap w 4 0 5)).size + 1))).drew.heap[w.heap.size]? = some (.cells (bytesRow t (grownCap w 4 0 5)) 5 ((bytesRow t (grownCap w 4 0 5)).size, (bytesRow t (grownCap w 4 0 5)).size + 1)) := heap_alloc_self w _
      unfold World.cell?
      rw [h1]
      show (bytesRow t (grownCap w 4 0 5))[j]? = _
      unfold bytesRow
      rw [Array.getElem?_append_left (by simpa using hj)]
      simp [hj]
      rfl
    have hf := Fr.drew ((Fr.same w).alloc (.cells (bytesRow t (grownCap w 4 0 5)) 5 ((bytesRow t (grownCap w 4 0 5)).size, (bytesRow t (grownCap w 4 0 5)).size + 1)))
    have HC := Lib.hid hcells
    have F := Lib.hid hf
    have HT := Lib.hid ht
    have HBE := Lib.hid hbe
    have HTS := Lib.hid hts
    have g1 : decide ((p : Int) < 0) = false := by simp
    have g2 : decide ((s.size : Int) < p) = false := by simp; omega
    have g3 : decide ((s.size : Int) - p < 4) = false := by simp; omega
    rw [ht] at hconv
    clear hcells hf hbad hs hr ht hbe htl hts
    go_enter Tryd.func36, Tryd.ntmps36
    go_wp2_with fail
    rw [← HT.out]
    generalize (w.alloc (.cells (bytesRow t (grownCap w 4 0 5)) 5 ((bytesRow t (grownCap w 4 0 5)).size, (bytesRow t (grownCap w 4 0 5)).size + 1))).drew = W at *
    have hl4 : t.data.toList.length = 4 := by have h1 : t.data.toList.length = t.size := by simp
                                              rw [h1]; exact HTS.out
    have HL4 := Lib.hid hl4
    clear hconv g1 g2 g3 hl4
    go_loopw [9, 44] (fun u iv wr => ∃ k : Nat, iv = .int .i64 k ∧ k ≤ 4 ∧ u = .int .u64 (beTo (t.data.toList.take k) : Nat) ∧ Fr (fun _ => False) W wr) (fun _ iv _ => 4 - (intOf iv).toNat)
    case atStart => exact ⟨0, rfl, by omega, rfl, Fr.same _⟩
    case round =>
      obtain ⟨k, rfl, hk, rfl, hf⟩ := hrel
      have F2 := Lib.hid hf
      have hlt := beTo_lt t.data.toList k (by rw [HL4.out]; exact hk) hk
      clear hf
      rcases Nat.lt_or_ge k 4 with h4 | h4
      · have hk3 : beTo (t.data.toList.take k) < 256 ^ 3 := Nat.lt_of_lt_of_le hlt (Nat.pow_le_pow_right (by omega) (by omega))
        have e3 : (256 : Nat) ^ 3 = 16777216 := by decide
        have hsn := beTo_snoc (l := t.data.toList) (k := k) (by rw [HL4.out]; exact h4)
        have HSN := Lib.hid hsn
        have hc := F2.out.cel (HC.out k (by rw [HTS.out]; exact h4))
        have hb3 : t.data.toList[k]'(by rw [HL4.out]; exact h4) = t[k]'(by rw [HTS.out]; exact h4) := rfl
        have HB3 := Lib.hid hb3
        generalize hX : beTo (t.data.toList.take k) = X at *
        have hblt := (t[k]'(by rw [HTS.out]; exact h4)).toNat_lt
        generalize hb : (t[k]'(by rw [HTS.out]; exact h4)).toNat = b at *
        have hor := or_byte (X := X) (b := b) (by omega) (by omega)
        have g4 : decide ((k : Int) < 4) = true := by simp; omega
        clear hsn hb3 hlt
        go_wp2_with fail
        go_roundw
        case rel => exact ⟨k + 1, by go_num, h4, by rw [HSN.out, HB3.out, hb]; simp, F2.out⟩
        case measure => simp [intOf]; omega
      · obtain rfl : k = 4 := by omega
        have ht4 : t.data.toList.take 4 = t.data.toList := List.take_of_length_le (by rw [HL4.out]; exact Nat.le_refl _)
        rw [ht4] at hlt ⊢
        rw [← HBE.out] at hlt ⊢
        have e4 : (256 : Nat) ^ 4 = 4294967296 := by decide
        obtain ⟨X, hX⟩ : ∃ X, Hid (X = be4 s p) := ⟨_, Lib.hid rfl⟩
        rw [← hX.out] at hlt ⊢
        have g5 : decide ((X : Int) < 0) = false := by simp
        have FF := Lib.hid (F.out.tr F2.out)
        clear ht4
        go_wp2_with fail
        go_ret3
        exact ⟨by rw [← hX.out]; rfl, FF.out⟩
end Go.Proofs.YtgbcdgfpmihkcaaDoor
