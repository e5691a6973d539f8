/- The names of a log's files: the walks. -/
import Derived.Test.YtdlnafhhkpklmaaGreatDoorY31
import Derived.Test.YtdlnafhhkpklmaaGreatDoorY10
namespace Go.Proofs.YtdlnafhhkpklmaaGreatDoor
open Go.RowKit Go.Fm Go.BigFrame Go.Shelf
set_option linter.unusedVariables false
set_option linter.unusedSimpArgs false
set_option maxRecDepth 100000
def cfgV (p : ByteArray) (lim ev : Int) : Value := .agg #[.string p, .int .i64 lim, .int .i64 ev]
def startS (p : ByteArray) : ByteArray := p ++ ⟨#[46, 115, 116, 97, 114, 116]⟩
def freshS (p : ByteArray) : ByteArray := p ++ ⟨#[46, 110, 101, 119]⟩
def swapS (p : ByteArray) : ByteArray := p ++ ⟨#[46, 115, 119, 97, 112]⟩
def dashS (p : ByteArray) : ByteArray := p ++ ⟨#[45]⟩
theorem start_walk (p : ByteArray) (lim ev : Int) (w : World) (hp : p.size ≤ 20) : Calls Tryz.prog 74 #[cfgV p lim ev] w fun e w' => e = .returned (.string (startS p)) ∧ Fr (fun _ => False) w w' := by
 unfold cfgV
 go_enter Tryz.func74, Tryz.ntmps74
 go_wp2_with fail
 go_ret
 exact ⟨rfl, (Fr.same w).alloc _⟩
theorem fresh_walk (p : ByteArray) (lim ev : Int) (w : World) (hp : p.size ≤ 20) : Calls Tryz.prog 43 #[cfgV p lim ev] w fun e w' => e = .returned (.string (freshS p)) ∧ Fr (fun _ => False) w w' := by
 unfold cfgV
 go_enter Tryz.func43, Tryz.ntmps43
 go_wp2_with fail
 go_ret
 exact ⟨rfl, (Fr.same w).alloc _⟩
theorem swap_walk (p : ByteArray) (lim ev : Int) (w : World) (hp : p.size ≤ 20) : Calls Tryz.prog 45 #[cfgV p lim ev] w fun e w' => e = .returned (.string (swapS p)) ∧ Fr (fun _ => False) w w' := by
 unfold cfgV
 go_enter Tryz.func45, Tryz.ntmps45
 go_wp2_with fail
 go_ret
 exact ⟨rfl, (Fr.same w).alloc _⟩
theorem may_yes (p : ByteArray) (lim ev : Int) (w : World) (h1 : 1 ≤ p.size) (h2 : p.size ≤ 20) (h3 : 50 ≤ lim) (h4 : lim ≤ 1000000) (h5 : 1 ≤ ev) (h6 : ev ≤ 1000000) : Calls Tryz.prog 38 #[cfgV p lim ev] w fun e w' => e = .returned (.bool true) ∧ Fr (fun _ => False) w w' := by
 have g4 : ¬ p.toList = [] := fun h => by
  have := empty_list.2 h
  rw [this] at h1
  cases h1
 have g5 : p.toList.isEmpty = false := by simpa using g4
 have g6 : (p.size : Int) ≤ 20 := by omega
 unfold cfgV
 go_enter Tryz.func38, Tryz.ntmps38
 go_wp2_with fail
 go_ret
 exact ⟨rfl, (Fr.same w).alloc _⟩
/-- The last k digits of a number. -/
def dg : Nat → Nat → List Nat
 | 0, _ => []
 | k + 1, b => b / 10 ^ k % 10 :: dg k b
theorem dg_len (b : Nat) : ∀ k, (dg k b).length = k
 | 0 => rfl
 | k + 1 => by rw [dg, List.length_cons, dg_len b k]
def dgB (b : Nat) : List UInt8 := (dg 13 b).map fun d => UInt8.ofNat (48 + d)
def nmS (p : ByteArray) (b : Nat) : ByteArray := dashS p ++ ⟨(dgB b).toArray⟩
def dgArr (b k : Nat) : Array Value := (List.replicate (13 - k) (Value.int .u8 0) ++ (dg k b).map fun (d : Nat) => Value.int .u8 (48 + (d : Int))).toArray
theorem dgArr_get (b : Nat) {k : Nat} (h : k < 13) : (dgArr b k)[12 - k]? = some (.int .u8 0) := by
 unfold dgArr
 rw [List.getElem?_toArray, List.getElem?_append_left (by rw [List.length_replicate]; omega), List.getElem?_replicate, if_pos (by omega)]
theorem dgArr_set (b : Nat) {k : Nat} (h : k < 13) : (dgArr b k).setIfInBounds (12 - k) (.int .u8 (48 + ((b / 10 ^ k : Nat) : Int) % 10)) = dgArr b (k + 1) := by
 unfold dgArr
 rw [List.setIfInBounds_toArray, show 13 - k = (12 - k) + 1 by omega, List.replicate_succ', List.append_assoc, List.set_append_right _ _ (by rw [List.length_replicate]; exact Nat.le_refl _), List.length_replicate, Nat.sub_self, show 13 - (k + 1) = 12 - k by omega, dg]
 simp
theorem dgArr_cell (b : Nat) {j : Nat} (h : j < (dgB b).length) : (dgArr b 13)[j]? = some (.int .u8 (((dgB b)[j]).toNat : Int)) := by
 have hl : (dgB b).length = 13 := by unfold dgB; rw [List.length_map, dg_len]
 have h13 : j < (dg 13 b).length := by rw [dg_len]; omega
 have hd : ∀ k, ∀ x ∈ dg k b, x < 10 := fun k => by
  induction k with
  | zero => intro x hx; cases hx
  | succ k ih =>
   intro x hx
   rcases List.mem_cons.1 hx with rfl | hx
   ·exact Nat.mod_lt _ (by decide)
   ·exact ih x hx
 have hx := hd 13 _ (List.getElem_mem h13)
 unfold dgArr
 rw [List.getElem?_toArray, show 13 - 13 = 0 from rfl, List.replicate_zero, List.nil_append, List.getElem?_map, List.getElem?_eq_getElem h13]
 have h9 : (dgB b)[j] = UInt8.ofNat (48 + (dg 13 b)[j]) := by simp [dgB]
 rw [show ((dgB b)[j]).toNat = 48 + (dg 13 b)[j] by rw [h9]; exact UInt8.toNat_ofNat_of_lt' (show 48 + (dg 13 b)[j] < 256 by omega)]
 simp
set_option maxHeartbeats 8000000 in
theorem name_walk (p : ByteArray) (lim ev : Int) (b : Nat) (hb : b ≤ 1099511627776) (w : World) (hp : p.size ≤ 20) : Calls Tryz.prog 52 #[cfgV p lim ev, .int .i64 b] w fun e w' => e = .returned (.string (nmS p b)) ∧ Fr (fun _ => False) w w' := by
 unfold cfgV
 go_enter Tryz.func52, Tryz.ntmps52
 go_wp2_with fail
 obtain ⟨A, hA⟩ : ∃ A, A = w.heap.size + 1 := ⟨_, rfl⟩
 obtain ⟨W, hW⟩ : ∃ W, W = (w.alloc (.cells #[.string p, .int .i64 lim, .int .i64 ev] 32)).alloc (.cells #[.int .u8 0, .int .u8 0, .int .u8 0, .int .u8 0, .int .u8 0, .int .u8 0, .int .u8 0, .int .u8 0, .int .u8 0, .int .u8 0, .int .u8 0, .int .u8 0, .int .u8 0] 145) := ⟨_, rfl⟩
 have hF : Fr (fun _ => False) w W := by rw [hW]; exact ((Fr.same w).alloc _).alloc _
 have hS : w.heap.size ≤ A := by omega
 have hP : W.cell? ⟨w.heap.size, 0, none⟩ = some (.string p) := by
  rw [hW]
  exact ((Fr.same _).alloc _).cel (cell_alloc_new w _ 32 0)
 have hR : W.heap[A]? = some (.cells (dgArr b 0) 145 (0, 0)) := by
  rw [hW, hA, show w.heap.size + 1 = (w.alloc (.cells #[.string p, .int .i64 lim, .int .i64 ev] 32)).heap.size by simp, heap_alloc_self]
  rfl
 have hne : w.heap.size ≠ A := by omega
 rw [← hA, ← hW]
 have F0 := Lib.hid hF
 have P0 := Lib.hid hP
 have R0 := Lib.hid hR
 have S0 := Lib.hid hS
 have NE := Lib.hid hne
 clear hA hW hF hP hR hS hne
 go_loopw [1, 6] (fun bb i wr => ∃ k : Nat, i = .int .i64 (12 - (k : Int)) ∧ bb = .int .i64 ((b / 10 ^ k : Nat) : Int) ∧ k ≤ 13 ∧ wr.heap[A]? = some (.cells (dgArr b k) 145 (0, 0)) ∧ Fr (fun i => i = A) W wr) (fun _ i _ => ((intOf i) + 1).toNat)
 case atStart => exact ⟨0, rfl, by simp, by omega, R0.out, Fr.refl _ _⟩
 case round =>
  obtain ⟨k, rfl, rfl, hk, hr, hf⟩ := hrel
  have R := Lib.hid hr
  have FF := Lib.hid hf
  clear hr hf
  rcases Nat.lt_or_ge k 13 with hlt | hge
  ·obtain ⟨q, hq⟩ : ∃ q, q = b / 10 ^ k := ⟨_, rfl⟩
   have hq1 : q ≤ 1099511627776 := by rw [hq]; exact Nat.le_trans (Nat.div_le_self _ _) hb
   have f1 := fz_of R.out (12 - k)
   have c1 : wr.cell? ⟨A, 12 - k, none⟩ = some (.int .u8 0) := (cell_of R.out (12 - k)).trans (dgArr_get b hlt)
   have hge : (0 : Int) ≤ 12 - (k : Int) := by omega
   rw [← hq]
   have HQ := Lib.hid hq
   clear hq
   have hfr : Fr (fun i => i = A) wr (wr.setCell ⟨A, 12 - k, none⟩ (.int .u8 (48 + (q : Int) % 10))) := Fr.setCell (S := fun i => i = A) (p := ⟨A, 12 - k, none⟩) (Fr.refl _ _) (.inl rfl) _
   have hr2 : (wr.setCell ⟨A, 12 - k, none⟩ (.int .u8 (48 + (q : Int) % 10))).heap[A]? = some (.cells (dgArr b (k + 1)) 145 (0, 0)) := by
    rw [heap_setCell_self R.out, HQ.out, dgArr_set b hlt]
   have R2 := Lib.hid hr2
   have F2 := Lib.hid (FF.out.trans hfr fun i h => .inl h)
   have hq3 : ((q : Int) / 10) = ((b / 10 ^ (k + 1) : Nat) : Int) := by
    rw [Nat.pow_succ, ← Nat.div_div_eq_div_mul, ← HQ.out]; omega
   have HQ3 := Lib.hid hq3
   clear hr2 hfr hq3
   go_wp2_with fail
   go_roundw
   case rel => exact ⟨k + 1, by congr 1; omega, by rw [HQ3.out], by omega, R2.out, F2.out⟩
   case measure => simp [intOf]; omega
  ·obtain rfl : k = 13 := by omega
   have hcp : wr.cell? ⟨w.heap.size, 0, none⟩ = some (.string p) := FF.out.cell P0.out NE.out
   have hcv : ∀ n, (convert 146 9 (.slice (some ⟨A, 0, none⟩) 13 13)).run Tryz.prog (wr.drewN n) = .ok (.string ⟨(dgB b).toArray⟩) (wr.drewN n) := fun n => by
    refine run_convert_bytes_back (P := Tryz.prog) _ 146 9 5 ⟨A, 0, none⟩ 13 (dgB b) Tryz.underlying146 Tryz.underlying5 Tryz.underlying9 fun j hj => ?_
    rw [add_lit]
    exact (cell_of (w := wr.drewN n) (show (wr.drewN n).heap[A]? = _ from R.out) j).trans (dgArr_cell b hj)
   have F9 := Lib.hid (F0.out.trans FF.out fun i h => .inr (by rw [h]; exact S0.out))
   have hl : (⟨(dgB b).toArray⟩ : ByteArray).size = 13 := by
    show (dgB b).length = 13
    unfold dgB; rw [List.length_map, dg_len]
   have a1 := fun w => strAdd w p ⟨#[45]⟩ (by have : (⟨#[45]⟩ : ByteArray).size = 1 := rfl; omega)
   have a2 := fun w => strAdd w (p ++ ⟨#[45]⟩) ⟨(dgB b).toArray⟩ (by have : (⟨#[45]⟩ : ByteArray).size = 1 := rfl; rw [ByteArray.size_append]; omega)
   clear R FF F0 R0
   go_wp2_with fail
   go_quiet (fail)
   have F10 := Lib.hid (F9.out.drewN nq)
   clear hcv hcp
   go_wp2_with fail
   go_ret
   exact ⟨rfl, F10.out⟩
theorem dg_get (b : Nat) : ∀ {k j : Nat}, j < k → (dg k b)[j]? = some (b / 10 ^ (k - 1 - j) % 10)
 | k + 1, 0, _ => by rw [dg]; simp
 | k + 1, j + 1, h => by
  rw [dg, List.getElem?_cons_succ, dg_get b (k := k) (j := j) (by omega)]
  congr 4
  omega
theorem dgB_len (b : Nat) : (dgB b).length = 13 := by unfold dgB; rw [List.length_map, dg_len]
theorem dgB_get (b : Nat) {j : Nat} (h : j < 13) : ((dgB b)[j]'(by rw [dgB_len]; exact h)).toNat = 48 + b / 10 ^ (12 - j) % 10 := by
 have h13 : j < (dg 13 b).length := by rw [dg_len]; exact h
 have h9 : (dgB b)[j]'(by rw [dgB_len]; exact h) = UInt8.ofNat (48 + (dg 13 b)[j]) := by simp [dgB]
 have h8 : (dg 13 b)[j] = b / 10 ^ (12 - j) % 10 := by
  have := dg_get b (k := 13) (j := j) h
  rw [List.getElem?_eq_getElem h13] at this
  injection this
 rw [h9, h8]
 exact UInt8.toNat_ofNat_of_lt' (show 48 + b / 10 ^ (12 - j) % 10 < 256 by omega)
def BasePost (n : Int) (ok : Bool) (w : World) (e : Ending) (w' : World) : Prop := e = .returned (.tuple #[.int .i64 n, .bool ok]) ∧ Fr (fun _ => False) w w'
theorem dash_size (p : ByteArray) : (dashS p).size = p.size + 1 := by unfold dashS; rw [ByteArray.size_append]; rfl
/-- A name that does not begin so. -/
theorem base_no (p nm : ByteArray) (lim ev : Int) (w : World) (hp : p.size ≤ 20) (h : Lib.hasPrefix nm.data.toList (dashS p).data.toList = false) : Calls Tryz.prog 78 #[cfgV p lim ev, .string nm] w (BasePost 0 false w) := by
 have a1 := fun w => strAdd w p ⟨#[45]⟩ (by have : (⟨#[45]⟩ : ByteArray).size = 1 := rfl; omega)
 have hcut := fun w => Tryz.strings_CutPrefix nm (dashS p) w
 rw [h] at hcut
 have HC := Lib.hid hcut
 unfold cfgV BasePost
 clear hcut h
 go_enter Tryz.func78, Tryz.ntmps78
 go_wp2_with fail
 refine (HC.out _).mono ?_
 rintro e w1 ⟨rfl, rfl⟩
 go_wp2_with fail
 go_ret2
 exact ⟨rfl, (Fr.same w).alloc _⟩
theorem prefix_app (a b : List UInt8) : Lib.hasPrefix (a ++ b) a = true := by
 unfold Lib.hasPrefix
 exact List.isPrefixOf_iff_prefix.2 (List.prefix_append a b)
theorem trim_app (a b : List UInt8) : Lib.trimPrefix (a ++ b) a = b := by
 unfold Lib.trimPrefix
 rw [prefix_app, if_pos rfl, List.drop_left]
set_option maxHeartbeats 8000000 in
/-- A segment's name. -/
theorem base_yes (p : ByteArray) (b : Nat) (lim ev : Int) (w : World) (hp : p.size ≤ 20) (hb : b ≤ 1099511627776) : Calls Tryz.prog 78 #[cfgV p lim ev, .string (nmS p b)] w (BasePost b true w) := by
 obtain ⟨t, ht⟩ : ∃ t : ByteArray, t = ⟨(dgB b).toArray⟩ := ⟨_, rfl⟩
 have htl : t.data.toList = dgB b := by rw [ht]
 have hts : t.size = 13 := by
  have : t.data.toList.length = t.size := by simp
  rw [← this, htl, dgB_len]
 have a1 := fun w => strAdd w p ⟨#[45]⟩ (by have : (⟨#[45]⟩ : ByteArray).size = 1 := rfl; omega)
 have hcut := fun w => Tryz.strings_CutPrefix (nmS p b) (dashS p) w
 have hnl : (nmS p b).data.toList = (dashS p).data.toList ++ dgB b := by unfold nmS; rw [append_list]
 rw [hnl, prefix_app, trim_app, ← ht] at hcut
 have HC := Lib.hid hcut
 have hT : ∀ j (hj : j < t.size), (t[j]).toNat = 48 + b / 10 ^ (12 - j) % 10 := fun j hj => by
  have h13 : j < 13 := by omega
  have := dgB_get b h13
  rw [← this]
  congr 1
  subst ht
  simp [ByteArray.getElem_eq_getElem_data]
 have HT := Lib.hid hT
 have HTS := Lib.hid hts
 unfold cfgV BasePost
 clear hcut hT ht htl hnl
 go_enter Tryz.func78, Tryz.ntmps78
 go_wp2_with fail
 refine (HC.out _).mono ?_
 obtain ⟨w0, hw0⟩ : ∃ w0, w0 = w.alloc (.cells #[.string p, .int .i64 lim, .int .i64 ev] 32) := ⟨_, rfl⟩
 have F0 := Lib.hid (show Fr (fun _ => False) w w0 by rw [hw0]; exact (Fr.same w).alloc _)
 rw [← hw0]
 clear hw0
 rintro e w1 ⟨rfl, hw⟩
 subst hw
 have hconv := run_bytes_of_string (P := Tryz.prog) w1 9 146 5 t Tryz.underlying9 Tryz.underlying146 Tryz.underlying5
 rw [hts] at hconv
 have hcells : ∀ j (hj : j < t.size), (w1.alloc (.cells (bytesRow t (grownCap w1 13 0 5)) 5 ((bytesRow t (grownCap w1 13 0 5)).size, (bytesRow t (grownCap w1 13 0 5)).size + 1))).drew.cell? ⟨w1.heap.size, j, none⟩ = some (.int .u8 (t[j].toNat : Int)) := by
  intro j hj
  have h1 : (w1.alloc (.cells (bytesRow t (grownCap w1 13 0 5)) 5 ((bytesRow t (grownCap w1 13 0 5)).size, (bytesRow t (grownCap w1 13 0 5)).size + 1))).drew.heap[w1.heap.size]? = some (.cells (bytesRow t (grownCap w1 13 0 5)) 5 ((bytesRow t (grownCap w1 13 0 5)).size, (bytesRow t (grownCap w1 13 0 5)).size + 1)) := heap_alloc_self w1 _
  unfold World.cell?
  rw [h1]
  show (bytesRow t (grownCap w1 13 0 5))[j]? = _
  unfold bytesRow
  rw [Array.getElem?_append_left (by simpa using hj)]
  simp [hj]
  rfl
 have hf := F0.out.tr (Fr.drew ((Fr.same w1).alloc (.cells (bytesRow t (grownCap w1 13 0 5)) 5 ((bytesRow t (grownCap w1 13 0 5)).size, (bytesRow t (grownCap w1 13 0 5)).size + 1))))
 have HCE := Lib.hid hcells
 have F1 := Lib.hid hf
 clear hcells hf
 go_wp2_with fail
 generalize (w1.alloc (.cells (bytesRow t (grownCap w1 13 0 5)) 5 ((bytesRow t (grownCap w1 13 0 5)).size, (bytesRow t (grownCap w1 13 0 5)).size + 1))).drew = W at *
 clear hconv F0
 go_loopw [4, 27] (fun n i wr => ∃ j : Nat, i = .int .i64 j ∧ j ≤ 13 ∧ n = .int .i64 ((b / 10 ^ (13 - j) : Nat) : Int) ∧ Fr (fun _ => False) W wr) (fun _ i _ => 13 - (intOf i).toNat)
 case atStart => exact ⟨0, rfl, by omega, by rw [Nat.div_eq_of_lt (by omega)]; rfl, Fr.same _⟩
 case round =>
  obtain ⟨j, rfl, hj, rfl, hf⟩ := hrel
  have F2 := Lib.hid hf
  clear hf
  rcases Nat.lt_or_ge j 13 with h4 | h4
  ·have hc := F2.out.cel (HCE.out j (by omega))
   have hq := HT.out j (by omega)
   generalize hX : (t[j]'(by omega)).toNat = X at *
   obtain ⟨q, hqq⟩ : ∃ q, q = b / 10 ^ (13 - j) := ⟨_, rfl⟩
   obtain ⟨q2, hq2⟩ : ∃ q2, q2 = b / 10 ^ (12 - j) := ⟨_, rfl⟩
   have hq3 : q2 / 10 = q := by
    rw [hqq, hq2, Nat.div_div_eq_div_mul, ← Nat.pow_succ]
    congr 2; omega
   have hle : q2 ≤ b := by rw [hq2]; exact Nat.div_le_self _ _
   rw [← hq2] at hq
   rw [← hqq]
   have Q2 := Lib.hid hq2
   have x1 : ¬ ((X : Int) < 48) := by omega
   have x2 : ¬ (57 < (X : Int)) := by omega
   have e : (10 : Int) * (q : Int) + ((X : Int) - 48) = ((q2 : Nat) : Int) := by omega
   clear hqq hq2
   go_wp2_with fail
   go_roundw
   case rel => exact ⟨j + 1, by go_num, h4, by rw [show 13 - (j + 1) = 12 - j by omega, ← Q2.out]; first | rfl | (congr 1; omega), F2.out⟩
   case measure => simp [intOf]; omega
  ·obtain rfl : j = 13 := by omega
   have FF := Lib.hid (F1.out.tr F2.out)
   go_wp2_with fail
   go_ret2
   refine ⟨?_, FF.out⟩
   rw [show b / 10 ^ (13 - 13) = b by simp]
   rfl
end Go.Proofs.YtdlnafhhkpklmaaGreatDoor
