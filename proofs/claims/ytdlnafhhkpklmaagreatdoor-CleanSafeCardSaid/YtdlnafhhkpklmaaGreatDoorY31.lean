/- What a file of batches opens to: plain laws. -/
import Derived.Test.YtdlnafhhkpklmaaGreatDoorY30
import Derived.Test.YtdlnafhhkpklmaaGreatDoorY16
namespace Go.Proofs.YtdlnafhhkpklmaaGreatDoor
open Go.RowKit Go.Fm Go.BigFrame Go.Shelf Go.Maps
set_option linter.unusedVariables false
set_option linter.unusedSimpArgs false
/-- The bytes of batches. -/
def catB (l : List Bat) : ByteArray := l.foldl (fun t b => t ++ batS b) ByteArray.empty
def bl (b : Bat) : List UInt8 := (batS b).data.toList
theorem catB_snoc (l : List Bat) (b : Bat) : catB (l ++ [b]) = catB l ++ batS b := by simp [catB]
theorem bl_len (b : Bat) : (bl b).length = bsz b := size_list _
theorem catB_list (l : List Bat) : (catB l).data.toList = l.flatMap bl := by
 have : ∀ (l : List Bat) (t : ByteArray), (l.foldl (fun t b => t ++ batS b) t).data.toList = t.data.toList ++ l.flatMap bl := by
  intro l
  induction l with
  | nil => intro t; simp
  | cons a l ih => intro t; rw [List.foldl_cons, ih, append_list, List.flatMap_cons, List.append_assoc]; rfl
 have h := this l ByteArray.empty
 rw [show catB l = l.foldl (fun t b => t ++ batS b) ByteArray.empty from rfl, h]
 rfl
theorem flat_bl_len (l : List Bat) : (l.flatMap bl).length = sumB l := by
 induction l with
 | nil => rfl
 | cons a l ih => rw [List.flatMap_cons, List.length_append, ih, bl_len, sumB_cons]
theorem catB_size (l : List Bat) : (catB l).size = sumB l := by rw [← size_list, catB_list, flat_bl_len]
/-- Batches that stand behind one another, ahead of what is none. -/
theorem scan_of {t : ByteArray} : ∀ {l : List Bat} {e : Int} {p : Nat} {tl : List UInt8}, Chn e l → Pt t p (l.flatMap bl ++ tl) → NoBat t (p + sumB l) → Scan t p e l (p + sumB l) := by
 intro l
 induction l with
 | nil => intro e p tl hc hp hn; exact .stop _ _ hn hp.le
 | cons b l ih =>
  intro e p tl hc hp hn
  cases hc with
  | cons hb he hl =>
   rw [List.flatMap_cons, List.append_assoc] at hp
   have hI := batIs_of hb hp
   have h2 := hp.skip
   rw [bl_len] at h2
   have e1 : p + sumB (b :: l) = p + bsz b + sumB l := by rw [sumB_cons]; omega
   rw [e1] at hn ⊢
   exact .next _ _ _ _ _ hb hI he (ih hl h2 hn)
theorem scan_all {l : List Bat} {e : Int} (hc : Chn e l) (hs : sumB l ≤ 900000000) : Scan (catB l) 0 e l (sumB l) := by
 have h := scan_of (t := catB l) (p := 0) (tl := []) hc ⟨Nat.zero_le _, by rw [List.drop_zero, catB_list, List.append_nil]⟩ (noBat_torn (.none (by rw [catB_size]; omega) (by rw [catB_size]; omega)) (by rw [catB_size]; omega))
 rwa [Nat.zero_add] at h
/-- A file that is cut: its first batches, and a part of the next one. -/
theorem cut_at : ∀ (l : List Bat) (n : Nat), n ≤ sumB l → ∃ (k : Nat) (tl : List UInt8), k ≤ l.length ∧ (l.flatMap bl).take n = (l.take k).flatMap bl ++ tl ∧ sumB (l.take k) ≤ n ∧ (∀ j, sumB (l.take j) ≤ n → j ≤ l.length → j ≤ k) ∧ (tl = [] ∨ ∃ b, l[k]? = some b ∧ tl <+: bl b ∧ tl.length < bsz b) := by
 intro l
 induction l with
 | nil => intro n hn; exact ⟨0, [], Nat.le_refl _, by simp, by simp [sumB], fun j _ h => by simpa using h, .inl rfl⟩
 | cons b l ih =>
  intro n hn
  rw [sumB_cons] at hn
  by_cases h : bsz b ≤ n
  ·obtain ⟨k, tl, h1, h2, h3, h4, h5⟩ := ih (n - bsz b) (by omega)
   refine ⟨k + 1, tl, by simp; omega, ?_, ?_, fun j hj hl => ?_, ?_⟩
   ·rw [List.flatMap_cons, List.take_append, bl_len, List.take_of_length_le (by rw [bl_len]; exact h), h2, List.take_succ_cons, List.flatMap_cons, List.append_assoc]
   ·rw [List.take_succ_cons, sumB_cons]; omega
   ·cases j with
    | zero => omega
    | succ j =>
     rw [List.take_succ_cons, sumB_cons] at hj
     have := h4 j (by omega) (by simpa using hl)
     omega
   ·rcases h5 with h5 | ⟨b', h5, h6⟩
    ·exact .inl h5
    ·exact .inr ⟨b', by simpa using h5, h6⟩
  ·refine ⟨0, (bl b).take n, Nat.zero_le _, ?_, by simp [sumB], fun j hj hl => ?_, .inr ⟨b, rfl, List.take_prefix _ _, by rw [List.length_take]; omega⟩⟩
   ·rw [List.flatMap_cons, List.take_append_of_le_length (by rw [bl_len]; omega)]
    rfl
   ·cases j with
    | zero => omega
    | succ j => rw [List.take_succ_cons, sumB_cons] at hj; omega
theorem Chn.take {p : Int} {l : List Bat} (h : Chn p l) : ∀ k, Chn p (l.take k) := by
 induction h with
 | nil p => intro k; simp; exact .nil _
 | cons h1 h2 h3 ih => intro k; cases k with
  | zero => exact .nil _
  | succ k => exact .cons h1 h2 (ih k)
/-- A file of batches that is cut opens to its first ones. -/
theorem scan_cut {l : List Bat} {e : Int} (hc : Chn e l) (hs : sumB l ≤ 900000000) {n : Nat} (hn : n ≤ sumB l) :
  ∃ k, k ≤ l.length ∧ Scan ((catB l).extract 0 n) 0 e (l.take k) (sumB (l.take k)) ∧ ∀ j, sumB (l.take j) ≤ n → j ≤ l.length → j ≤ k := by
 obtain ⟨k, tl, h1, h2, h3, h4, h5⟩ := cut_at l n hn
 have hsz : ((catB l).extract 0 n).size = n := by rw [ByteArray.size_extract, catB_size]; omega
 have hl : ((catB l).extract 0 n).data.toList = (l.take k).flatMap bl ++ tl := by rw [extract_list, List.drop_zero, catB_list, h2]
 have hp : Pt ((catB l).extract 0 n) 0 ((l.take k).flatMap bl ++ tl) := ⟨Nat.zero_le _, by rw [List.drop_zero, hl]⟩
 have hp2 := hp.skip
 rw [flat_bl_len, Nat.zero_add] at hp2
 have hno : NoBat ((catB l).extract 0 n) (sumB (l.take k)) := by
  rcases h5 with rfl | ⟨b, hb, h6, h7⟩
  ·exact noBat_torn (.none hp2.le (by have h9 := hp2.len; rw [List.length_nil] at h9; omega)) (by omega)
  ·exact noBat_torn (torn_of (hc.ok b (List.mem_of_getElem? hb)).1 hp2 h6 h7) (by omega)
 refine ⟨k, h1, ?_, h4⟩
 have h := scan_of (t := (catB l).extract 0 n) (p := 0) (tl := tl) (hc.take k) hp (by rwa [Nat.zero_add])
 rwa [Nat.zero_add] at h
/-- All is read where there is room. -/
theorem pick_all (from' most : Int) : ∀ (l : List Bat) (n : Int) (out : List Bat), (∀ b ∈ l, from' < b.base + b.span) → n + sumB l ≤ most → pick from' most l n out = out ++ l
 | [], n, out, _, _ => by simp [pick]
 | b :: l, n, out, h, hn => by
  rw [sumB_cons] at hn
  have h1 := h b List.mem_cons_self
  rw [pick, if_neg (by omega), if_neg (fun h => by have := h.2; omega), pick_all from' most l _ _ (fun b hb => h b (List.mem_cons_of_mem _ hb)) (by omega), List.append_assoc]
  rfl
end Go.Proofs.YtdlnafhhkpklmaaGreatDoor
/- Numbers of eight bytes (varint.Fixed, varint.Read): the walks. -/
namespace Go.Proofs.YtdlnafhhkpklmaaGreatDoor
open Go.RowKit Go.Fm Go.BigFrame
set_option linter.unusedVariables false
set_option linter.unusedSimpArgs false
def fixL8 (n : Nat) : List UInt8 := [0, 0, dig (n / 1099511627776 % 256), dig (n / 4294967296 % 256), dig (n / 16777216 % 256), dig (n / 65536 % 256), dig (n / 256 % 256), dig (n % 256)]
def fix8 (n : Nat) : ByteArray := ⟨(fixL8 n).toArray⟩
theorem or_byte8 {X b : Nat} (hX : X < 36028797018963968) (hb : b < 256) : bits .or .u64 ((X : Int) * 256) (b : Int) = ((X * 256 + b : Nat) : Int) := by
 have hw : ∀ n : Int, 0 ≤ n → n < 2 ^ 63 → IntKind.u64.wrap n = n := fun n h0 h1 => by simp [IntKind.wrap, IntKind.bits, IntKind.signed]; omega
 have := bits_join .u64 63 (by decide) hw 8 ((X : Int) * 256) (b : Int) (by omega) (by omega) (by omega) (by omega) (by omega) (by omega)
 rw [this]; omega
theorem beTo_mono (l : List UInt8) {i : Nat} : ∀ j, i ≤ j → j ≤ l.length → beTo (l.take i) ≤ beTo (l.take j) := by
 intro j
 induction j with
 | zero => intro h _; obtain rfl : i = 0 := by omega
           exact Nat.le_refl _
 | succ j ih =>
  intro h hj
  rcases Nat.lt_or_ge j i with h1 | h1
  ·obtain rfl : i = j + 1 := by omega
   exact Nat.le_refl _
  ·have := ih h1 (by omega)
   rw [beTo_snoc (by omega)]
   omega
theorem fix8_size (n : Nat) : (fix8 n).size = 8 := rfl
theorem fix8_be (n : Nat) (hn : n < 2199023255552) : beTo (fix8 n).data.toList = n := by
 have d : ∀ k, k < 256 → (dig k).toNat = k := fun k hk => by unfold dig; rw [UInt8.toNat_ofNat_of_lt' hk]
 show beTo (fixL8 n) = n
 unfold beTo fixL8
 simp only [List.foldl_cons, List.foldl_nil]
 rw [d _ (by omega), d _ (by omega), d _ (by omega), d _ (by omega), d _ (by omega), d _ (by omega)]
 rw [show (0 : UInt8).toNat = 0 from rfl]
 omega
set_option maxRecDepth 100000 in
set_option maxHeartbeats 8000000 in
theorem read8_walk (s : ByteArray) (w : World) (hs : s.size = 8) (hv : beTo s.data.toList < 4611686018427387904) : Calls Tryz.prog 75 #[.string s, .int .i64 0, .int .i64 8] w fun e w' => e = .returned (.tuple #[.int .i64 (beTo s.data.toList : Nat), .int .i64 8, .int .i64 0]) ∧ Fr (fun _ => False) w w' := by
 obtain ⟨t, ht⟩ : ∃ t, t = s.extract 0 8 := ⟨_, rfl⟩
 have hts' : t = s := by rw [ht, ← hs]; exact ByteArray.extract_zero_size
 have hts : t.size = 8 := by rw [hts', hs]
 have hconv := run_bytes_of_string (P := Tryz.prog) w 9 146 5 t Tryz.underlying9 Tryz.underlying146 Tryz.underlying5
 rw [hts] at hconv
 have hcells : ∀ j (hj : j < t.size), (w.alloc (.cells (bytesRow t (grownCap w 8 0 5)) 5 ((bytesRow t (grownCap w 8 0 5)).size, (bytesRow t (grownCap w 8 0 5)).size + 1))).drew.cell? ⟨w.heap.size, j, none⟩ = some (.int .u8 (t[j].toNat : Int)) := by
  intro j hj
  have h1 : (w.alloc (.cells (bytesRow t (grownCap w 8 0 5)) 5 ((bytesRow t (grownCap w 8 0 5)).size, (bytesRow t (grownCap w 8 0 5)).size + 1))).drew.heap[w.heap.size]? = some (.cells (bytesRow t (grownCap w 8 0 5)) 5 ((bytesRow t (grownCap w 8 0 5)).size, (bytesRow t (grownCap w 8 0 5)).size + 1)) := heap_alloc_self w _
  unfold World.cell?
  rw [h1]
  show (bytesRow t (grownCap w 8 0 5))[j]? = _
  unfold bytesRow
  rw [Array.getElem?_append_left (by simpa using hj)]
  simp [hj]
  rfl
 have hf := Fr.drew ((Fr.same w).alloc (.cells (bytesRow t (grownCap w 8 0 5)) 5 ((bytesRow t (grownCap w 8 0 5)).size, (bytesRow t (grownCap w 8 0 5)).size + 1)))
 have HC := Lib.hid hcells
 have F := Lib.hid hf
 have HT := Lib.hid ht
 have HTE := Lib.hid hts'
 have HTS := Lib.hid hts
 rw [← hts'] at hv
 have HV := Lib.hid hv
 rw [ht] at hconv
 clear hcells hf ht hts hts' hv
 go_enter Tryz.func75, Tryz.ntmps75
 go_wp2_with fail
 rw [← HT.out]
 generalize (w.alloc (.cells (bytesRow t (grownCap w 8 0 5)) 5 ((bytesRow t (grownCap w 8 0 5)).size, (bytesRow t (grownCap w 8 0 5)).size + 1))).drew = W at *
 have hl4 : t.data.toList.length = 8 := by have h1 : t.data.toList.length = t.size := by simp
                                           rw [h1]; exact HTS.out
 have HL4 := Lib.hid hl4
 clear hconv hl4
 go_loopw [9, 44] (fun u iv wr => ∃ k : Nat, iv = .int .i64 k ∧ k ≤ 8 ∧ u = .int .u64 (beTo (t.data.toList.take k) : Nat) ∧ Fr (fun _ => False) W wr) (fun _ iv _ => 8 - (intOf iv).toNat)
 case atStart => exact ⟨0, rfl, by omega, rfl, Fr.same _⟩
 case round =>
  obtain ⟨k, rfl, hk, rfl, hf⟩ := hrel
  have F2 := Lib.hid hf
  have hvk := beTo_mono t.data.toList 8 hk (by rw [HL4.out]; exact Nat.le_refl _)
  have ht8 : t.data.toList.take 8 = t.data.toList := List.take_of_length_le (by rw [HL4.out]; exact Nat.le_refl _)
  rw [ht8] at hvk
  have hv := HV.out
  clear hf
  rcases Nat.lt_or_ge k 8 with h4 | h4
  ·have hsn := beTo_snoc (l := t.data.toList) (k := k) (by rw [HL4.out]; exact h4)
   have hvk1 := beTo_mono t.data.toList (i := k + 1) 8 h4 (by rw [HL4.out]; exact Nat.le_refl _)
   rw [ht8, hsn] at hvk1
   have HSN := Lib.hid hsn
   have hc := F2.out.cel (HC.out k (by rw [HTS.out]; exact h4))
   have hb3 : t.data.toList[k]'(by rw [HL4.out]; exact h4) = t[k]'(by rw [HTS.out]; exact h4) := rfl
   have HB3 := Lib.hid hb3
   rw [hb3] at hvk1
   generalize hX : beTo (t.data.toList.take k) = X at *
   have hblt := (t[k]'(by rw [HTS.out]; exact h4)).toNat_lt
   generalize hb : (t[k]'(by rw [HTS.out]; exact h4)).toNat = b at *
   have hX2 : X < 36028797018963968 := by omega
   have hor := or_byte8 (X := X) (b := b) hX2 (by omega)
   clear hsn hb3 hv hvk hvk1 ht8
   go_wp2_with fail
   go_roundw
   case rel => exact ⟨k + 1, by go_num, h4, by rw [HSN.out, HB3.out, hb]; simp, F2.out⟩
   case measure => simp [intOf]; omega
  ·obtain rfl : k = 8 := by omega
   rw [ht8] at hvk ⊢
   obtain ⟨X, hX⟩ : ∃ X, Hid (X = beTo t.data.toList) := ⟨_, Lib.hid rfl⟩
   rw [← hX.out] at hv ⊢
   have g5 : ¬ ((X : Int) < 0) := by omega
   have FF := Lib.hid (F.out.tr F2.out)
   clear ht8 hvk
   go_wp2_with fail
   go_ret3
   exact ⟨by rw [hX.out, HTE.out]; rfl, FF.out⟩
end Go.Proofs.YtdlnafhhkpklmaaGreatDoor
