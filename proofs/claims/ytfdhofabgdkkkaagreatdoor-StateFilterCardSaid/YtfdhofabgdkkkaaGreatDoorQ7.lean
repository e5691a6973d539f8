/- Get and Take of varint: the walks. -/
import Derived.Test.YtfdhofabgdkkkaaGreatDoorQ6
import Derived.Laws.BitsAllLaws
import Derived.Laws.Bits64
import Derived.Test.YtfdhofabgdkkkaaGreatDoorQ1
import Derived.Laws.Rows
import Derived.Laws.Tables
namespace Go.Proofs.YtfdhofabgdkkkaaGreatDoor
open Go.RowKit Go.Fm Go.BigFrame
set_option linter.unusedVariables false
set_option linter.unusedSimpArgs false
theorem and127 (c : Nat) (h : c < 256) : bits .and .u8 (c : Int) 127 = ((c % 128 : Nat) : Int) := by
 rw [show (127 : Int) = ((127 : Nat) : Int) from rfl, u8_and_nat _ _ h (by omega)]
 have : c &&& 127 = c % 128 := Nat.and_two_pow_sub_one_eq_mod c 7
 rw [this]
theorem pow128 (i : Nat) : 2 ^ (7 * i) = 128 ^ i := by rw [Nat.pow_mul]
theorem or_step (m x i : Nat) (hm : m < 128 ^ i) (hx : x * 128 ^ i < 18446744073709551616) (hi : i ≤ 9) : bits .or .u64 (m : Int) ((x * 128 ^ i : Nat) : Int) = ((m + x * 128 ^ i : Nat) : Int) := by
 have h9 : 128 ^ i ≤ 128 ^ 9 := Nat.pow_le_pow_right (by omega) hi
 have e9 : (128 : Nat) ^ 9 = 9223372036854775808 := by decide
 rw [u64_or_nat _ _ (by omega) hx]
 have h1 := Nat.two_pow_add_eq_or_of_lt (i := 7 * i) (b := m) (by rw [pow128]; exact hm) x
 rw [pow128] at h1
 rw [Nat.or_comm, Nat.mul_comm x, ← h1]
 congr 1
 rw [Nat.add_comm]
theorem acc_step (m c i : Nat) (hm : m < 128 ^ i) (hc : c < 256) (hx : c % 128 * 128 ^ i < 18446744073709551616) (hi : i ≤ 9) :
  bits .or .u64 (m : Int) (IntKind.u64.wrap (IntKind.u64.wrap (bits .and .u8 (c : Int) 127) * 2 ^ (7 * i))) = ((m + c % 128 * 128 ^ i : Nat) : Int) := by
 have wr : ∀ n : Nat, n < 18446744073709551616 → IntKind.u64.wrap (n : Int) = n := fun n h => by simp [IntKind.wrap, IntKind.bits, IntKind.signed]; omega
 rw [and127 c hc, wr _ (by omega)]
 have e : ((c % 128 : Nat) : Int) * 2 ^ (7 * i) = ((c % 128 * 128 ^ i : Nat) : Int) := by
  rw [← pow128]; simp
 rw [e, wr _ hx, or_step m _ i hm hx hi]
theorem xor_i64_zero (a : Nat) (ha : a < 9223372036854775808) : bits .xor .i64 (a : Int) 0 = a := by
 show IntKind.i64.wrap ((BitVec.ofInt 64 (a : Int) ^^^ BitVec.ofInt 64 0).toNat : Int) = _
 have h1 : BitVec.ofInt 64 0 = 0#64 := by decide
 rw [h1, BitVec.xor_zero, ofInt_u64 a (by omega)]
 simp [IntKind.wrap, IntKind.bits, IntKind.signed]
 omega
theorem xor_i64_ones (a : Nat) (ha : a < 9223372036854775808) : bits .xor .i64 (a : Int) (-1) = -(a : Int) - 1 := by
 show IntKind.i64.wrap ((BitVec.ofInt 64 (a : Int) ^^^ BitVec.ofInt 64 (-1)).toNat : Int) = _
 have h1 : BitVec.ofInt 64 (-1) = BitVec.allOnes 64 := by decide
 rw [h1, BitVec.xor_allOnes, BitVec.toNat_not, ofInt_u64 a (by omega)]
 simp [IntKind.wrap, IntKind.bits, IntKind.signed]
 omega
theorem fin_step (v : Nat) (h : v < 18446744073709551616) : bits .xor .i64 (wrap64 ((v : Int) / 2)) (wrap64 (-wrap64 (bits .and .u64 (v : Int) 1))) = unzig v := by
 rw [show (1 : Int) = ((1 : Nat) : Int) from rfl, u64_and_nat _ _ h (by omega), Nat.and_one_is_mod]
 have e1 : wrap64 ((v : Int) / 2) = ((v / 2 : Nat) : Int) := by simp only [wrap64]; omega
 rw [e1]
 unfold unzig
 have h2 : v % 2 = 0 ∨ v % 2 = 1 := by omega
 rcases h2 with h2 | h2
 ·rw [h2, if_pos rfl, show wrap64 (-wrap64 ((0 : Nat) : Int)) = 0 from by simp [wrap64], xor_i64_zero _ (by omega)]
 ·rw [h2, if_neg (by omega), show wrap64 (-wrap64 ((1 : Nat) : Int)) = -1 from by simp [wrap64], xor_i64_ones _ (by omega)]
theorem drop_at (s : ByteArray) (j : Nat) (h : j < s.size) : s.data.toList.drop j = s[j] :: s.data.toList.drop (j + 1) := by
 rw [List.drop_eq_getElem_cons (by simpa using h)]; rfl
theorem getS_of (s : ByteArray) (p : Nat) (hp : p ≤ s.size) {n : Int} {k : Nat} {c : Int} (h : getV (s.data.toList.drop p) = (n, k, c)) : getS s p = if c = 0 then (n, (p : Int) + k, 0) else (0, 0, c) := by
 unfold getS
 rw [if_neg (by omega), Int.toNat_natCast, h]
def GetSPost (s : ByteArray) (at' : Int) (w : World) (e : Ending) (w' : World) : Prop :=
 e = .returned (.tuple #[.int .i64 (getS s at').1, .int .i64 (getS s at').2.1, .int .i64 (getS s at').2.2]) ∧ w = w'
theorem gets_bad (s : ByteArray) (a : Int) (w : World) (hbad : a < 0 ∨ (s.size : Int) < a) : Calls Tryz.prog 183 #[.string s, .int .i64 a] w (GetSPost s a w) := by
 have hg : getS s a = (0, 0, 1) := by unfold getS; rw [if_pos hbad]
 unfold GetSPost
 rw [hg]
 rcases hbad with h | h
 ·clear hg
  go_enter Tryz.func183, Tryz.ntmps183
  go_wp2_with fail
  go_ret3
  exact ⟨rfl, rfl⟩
 ·have h0 : decide (a < 0) = false := by simp; omega
  clear hg
  go_enter Tryz.func183, Tryz.ntmps183
  go_wp2_with fail
  go_ret3
  exact ⟨rfl, rfl⟩
set_option maxRecDepth 100000 in
set_option maxHeartbeats 8000000 in
theorem gets_walk (s : ByteArray) (a : Int) (w : World) (hs : s.size ≤ maxLen) : Calls Tryz.prog 183 #[.string s, .int .i64 a] w (GetSPost s a w) := by
 by_cases hbad : a < 0 ∨ (s.size : Int) < a
 ·exact gets_bad s a w hbad
 ·obtain ⟨p, rfl⟩ : ∃ p : Nat, a = p := ⟨a.toNat, by omega⟩
  have hp : p ≤ s.size := by omega
  have hs9 : s.size ≤ 9223372036854775807 := by unfold maxLen at hs; omega
  have hd1 : decide ((p : Int) < 0) = false := by simp
  have hd2 : decide (s.size < p) = false := by simp; omega
  clear hbad hs
  go_enter Tryz.func183, Tryz.ntmps183
  go_wp2_with fail
  clear hd1 hd2
  go_loop [7, 18] (fun u k => ∃ (i : Nat) (m : Int), k = .int .i64 i ∧ u = .int .u64 m ∧ i ≤ 10 ∧ p + i ≤ s.size ∧ (i < 10 → ∃ x : Nat, m = x ∧ x < 128 ^ i ∧ getV (s.data.toList.drop p) = getR (10 - i) (s.data.toList.drop (p + i)) x i) ∧ (i = 10 → getV (s.data.toList.drop p) = (0, 0, 3))) (fun _ k => 10 - (intOf k).toNat)
  case atStart => exact ⟨0, 0, rfl, rfl, by omega, by omega, fun _ => ⟨0, rfl, by omega, rfl⟩, by omega⟩
  case round =>
   obtain ⟨i, mi, rfl, rfl, hi, hpi, h1, h2⟩ := hrel
   by_cases h10 : i < 10
   ·obtain ⟨m, rfl, hm, hv⟩ := h1 h10
    have HM := Lib.hid hm
    have HV := Lib.hid hv
    clear h1 h2 hm hv hi
    by_cases hend : p + i < s.size
    ·have HD := Lib.hid (drop_at s (p + i) hend)
     have hlt := s[p + i].toNat_lt
     obtain ⟨c, hc⟩ : ∃ c : Nat, c = s[p + i].toNat := ⟨_, rfl⟩
     have hc' : s[p + i].toNat = c := hc.symm
     rw [hc'] at hlt
     have hstep : getV (s.data.toList.drop p) = if 128 ≤ c then getR (9 - i) (s.data.toList.drop (p + (i + 1))) (m + c % 128 * 128 ^ i) (i + 1) else if (c = 0 ∧ 0 < i) ∨ (i = 9 ∧ 1 < c) then (0, 0, 3) else (unzig (m + c * 128 ^ i), i + 1, 0) := by
      rw [HV.out, HD.out, show 10 - i = (9 - i) + 1 by omega]
      rw [getR, hc']
      rfl
     have HST := Lib.hid hstep
     have hE : decide ((s.size : Int) ≤ p + i) = false := by simp; omega
     have hE2 : decide (s.size ≤ p + i) = false := by simp; omega
     clear hstep hc
     by_cases hcon : 128 ≤ c
     ·have hD1 : decide (128 ≤ (c : Int)) = true := by simp; omega
      obtain ⟨M, hM, hMc⟩ : ∃ M : Int, bits .or .u64 (m : Int) (IntKind.u64.wrap (IntKind.u64.wrap (bits .and .u8 (c : Int) 127) * 2 ^ (7 * i))) = M ∧ (i < 9 → M = ((m + c % 128 * 128 ^ i : Nat) : Int) ∧ m + c % 128 * 128 ^ i < 128 ^ (i + 1)) := by
       refine ⟨_, rfl, fun h9 => ?_⟩
       have hx : c % 128 * 128 ^ i ≤ 127 * 128 ^ i := Nat.mul_le_mul_right _ (by omega)
       have h8 : 128 ^ i ≤ 128 ^ 8 := Nat.pow_le_pow_right (by omega) (by omega)
       have e8 : (128 : Nat) ^ 8 = 72057594037927936 := by decide
       have hm := HM.out
       exact ⟨acc_step m c i hm hlt (by omega) (by omega), by rw [Nat.pow_succ]; omega⟩
      have HMC := Lib.hid hMc
      clear hMc
      go_wp2_with fail
      have hnx : (i + 1 < 10 → ∃ x : Nat, M = x ∧ x < 128 ^ (i + 1) ∧ getV (s.data.toList.drop p) = getR (10 - (i + 1)) (s.data.toList.drop (p + (i + 1))) x (i + 1)) ∧ (i + 1 = 10 → getV (s.data.toList.drop p) = (0, 0, 3)) := by
       have hst := HST.out
       rw [if_pos hcon] at hst
       refine ⟨fun h => ?_, fun h => ?_⟩
       ·obtain ⟨e1, e2⟩ := HMC.out (by omega)
        exact ⟨_, e1, e2, by rw [hst, show 10 - (i + 1) = 9 - i by omega]⟩
       ·rw [hst, show 9 - i = 0 by omega, getR]
      have HNX := Lib.hid hnx
      clear hnx hM hD1 hE hE2 hc'
      go_round
      case rel => exact ⟨i + 1, M, by go_num, rfl, by omega, by omega, HNX.out.1, HNX.out.2⟩
      case measure => simp [intOf]; omega
     ·have hD1 : decide (128 ≤ (c : Int)) = false := by simp; omega
      by_cases hb : (c = 0 ∧ 0 < i) ∨ (i = 9 ∧ 1 < c)
      ·have hg : getS s p = (0, 0, 3) := by
        have := HST.out
        rw [if_neg hcon, if_pos hb] at this
        rw [getS_of s p hp this]; rfl
       have HR := Lib.hid hg
       clear hg
       rcases hb with ⟨rfl, hi0⟩ | ⟨rfl, hc1⟩
       ·have hD2 : decide (0 < (i : Int)) = true := by simp; omega
        have hD3 : decide (0 < i) = true := by simp; omega
        clear hD1
        go_wp2_with fail
        go_ret3
        exact ⟨by rw [HR.out]; rfl, rfl⟩
       ·have hD2 : ((c : Int) == 0) = false := by simp; omega
        have hD3 : (c == 0) = false := by simp; omega
        have hD4 : decide (1 < (c : Int)) = true := by simp; omega
        have hD5 : decide (1 < c) = true := by simp; omega
        go_wp2_with fail
        go_ret3
        exact ⟨by rw [HR.out]; rfl, rfl⟩
      ·have hcm : c % 128 = c := Nat.mod_eq_of_lt (by omega)
       have hVlt : m + c * 128 ^ i < 18446744073709551616 ∧ c * 128 ^ i < 18446744073709551616 := by
        have hm := HM.out
        by_cases h9 : i = 9
        ·have hcle : c ≤ 1 := by omega
         have : c * 128 ^ i ≤ 1 * 128 ^ i := Nat.mul_le_mul_right _ hcle
         have h8 : 128 ^ i ≤ 128 ^ 9 := Nat.pow_le_pow_right (by omega) (by omega)
         have e8 : (128 : Nat) ^ 9 = 9223372036854775808 := by decide
         omega
        ·have : c * 128 ^ i ≤ 127 * 128 ^ i := Nat.mul_le_mul_right _ (by omega)
         have h8 : 128 ^ i ≤ 128 ^ 8 := Nat.pow_le_pow_right (by omega) (by omega)
         have e8 : (128 : Nat) ^ 8 = 72057594037927936 := by decide
         omega
       obtain ⟨V, hV⟩ : ∃ V : Nat, V = m + c * 128 ^ i := ⟨_, rfl⟩
       have hacc := acc_step m c i HM.out hlt (by rw [hcm]; exact hVlt.2) (by omega)
       rw [hcm, ← hV] at hacc
       have hfin := fin_step V (by rw [hV]; exact hVlt.1)
       have hg : getS s p = (unzig V, (p : Int) + ((i + 1 : Nat) : Int), 0) := by
        have := HST.out
        rw [if_neg hcon, if_neg hb, ← hV] at this
        rw [getS_of s p hp this]; rfl
       have hwf := unzig_wf (u := V) (by rw [hV]; exact hVlt.1)
       obtain ⟨n, hn⟩ : ∃ n, n = unzig V := ⟨_, rfl⟩
       rw [← hn] at hfin hwf hg
       have HR := Lib.hid hg
       clear hg hcm hVlt hV hn
       by_cases hc0 : c = 0
       ·obtain rfl : i = 0 := by omega
        subst hc0
        have hacc0 : bits .or .u64 (m : Int) (IntKind.u64.wrap (IntKind.u64.wrap (bits .and .u8 0 127))) = (V : Int) := by
         have := hacc
         simpa using this
        have hend0 : p < s.size := hend
        have hc0 : s[p].toNat = 0 := hc'
        have hE0 : decide (s.size ≤ p) = false := by simp; omega
        have hE1 : decide ((s.size : Int) ≤ p) = false := by simp; omega
        clear hacc hD1 hE hE2 hb hcon hc' hpi hlt
        go_wp2_with fail
        go_ret3
        exact ⟨by rw [HR.out]; rfl, rfl⟩
       ·have hD2 : ((c : Int) == 0) = false := by simp; omega
        have hD3 : (c == 0) = false := by simp; omega
        by_cases h9 : i = 9
        ·subst h9
         have hD4 : decide (1 < (c : Int)) = false := by simp; omega
         have hD5 : decide (1 < c) = false := by simp; omega
         rw [show (2 : Int) ^ (7 * 9) = 9223372036854775808 by decide] at hacc
         clear hb hcon
         go_wp2_with fail
         go_ret3
         exact ⟨by rw [HR.out]; rfl, rfl⟩
        ·have hD4 : ((i : Int) == 9) = false := by simp; omega
         have hD5 : (i == 9) = false := by simp; omega
         clear hb hcon
         go_wp2_with fail
         go_ret3
         exact ⟨by rw [HR.out]; rfl, rfl⟩
    ·have hE : decide ((s.size : Int) ≤ p + i) = true := by simp; omega
     have hE2 : decide (s.size ≤ p + i) = true := by simp; omega
     have hg : getS s p = (0, 0, 2) := by
      have := HV.out
      have hnil : s.data.toList.drop (p + i) = [] := List.drop_eq_nil_of_le (by simp; omega)
      rw [hnil, show 10 - i = (9 - i) + 1 by omega, getR] at this
      rw [getS_of s p hp this]; rfl
     have HR := Lib.hid hg
     clear hg
     go_wp2_with fail
     go_ret3
     exact ⟨by rw [HR.out]; rfl, rfl⟩
   ·obtain rfl : i = 10 := by omega
    have hg : getS s p = (0, 0, 3) := by rw [getS_of s p hp (h2 rfl)]; rfl
    have HR := Lib.hid hg
    clear hg h1 h2
    go_wp2_with fail
    go_ret3
    exact ⟨by rw [HR.out]; rfl, rfl⟩
end Go.Proofs.YtfdhofabgdkkkaaGreatDoor
/- Take of varint: the walk. -/
namespace Go.Proofs.YtfdhofabgdkkkaaGreatDoor
open Go.RowKit Go.Fm Go.BigFrame
set_option linter.unusedVariables false
set_option linter.unusedSimpArgs false
theorem refV_ok {l : List UInt8} {n : Int} {k : Nat} (h : refV l = (n, k, 0)) : 1 ≤ k ∧ k ≤ l.length ∧ (Lit.int .i64 n).wf = true ∧ putL (zig n) = l.take k := by
 unfold refV at h
 dsimp only at h
 split at h
 ·cases h
 ·split at h
  ·cases h
  ·split at h
   ·rename_i h1 h2 h3
    injection h with e1 h
    injection h with e2 _
    subst e1 e2
    have hlt : val (l.take (lead 10 l + 1)) % 18446744073709551616 < 18446744073709551616 := Nat.mod_lt _ (by omega)
    exact ⟨by omega, by omega, unzig_wf hlt, by rw [zig_unzig]; exact h3⟩
   ·cases h
theorem refV_code (l : List UInt8) : (refV l).2.2 = 0 ∨ ((refV l).2.2 = 2 ∧ refV l = (0, 0, 2)) ∨ ((refV l).2.2 = 3 ∧ refV l = (0, 0, 3)) := by
 unfold refV
 dsimp only
 split
 ·exact .inr (.inr ⟨rfl, rfl⟩)
 ·split
  ·exact .inr (.inl ⟨rfl, rfl⟩)
  ·split
   ·exact .inl rfl
   ·exact .inr (.inr ⟨rfl, rfl⟩)
/-- What a number that was read came from. -/
theorem getS_ok {s : ByteArray} {a n b : Int} (h : getS s a = (n, b, 0)) : ∃ p k : Nat, a = p ∧ b = ((p + k : Nat) : Int) ∧ 1 ≤ k ∧ p + k ≤ s.size ∧ (Lit.int .i64 n).wf = true ∧ putL (zig n) = (s.data.toList.drop p).take k := by
 unfold getS at h
 split at h
 ·cases h
 ·rename_i hb
  split at h
  ·rename_i h0
   obtain ⟨p, rfl⟩ : ∃ p : Nat, a = p := ⟨a.toNat, by omega⟩
   rw [Int.toNat_natCast] at h h0
   rw [getV_eq] at h h0
   injection h with e1 h
   injection h with e2 _
   obtain ⟨n', k, hk⟩ : ∃ n' k, refV (s.data.toList.drop p) = (n', k, 0) := ⟨_, _, by
    have : refV (s.data.toList.drop p) = ((refV (s.data.toList.drop p)).1, (refV (s.data.toList.drop p)).2.1, (refV (s.data.toList.drop p)).2.2) := rfl
    rw [this, h0]⟩
   rw [hk] at e1 e2
   dsimp only at e1 e2
   subst e1 e2
   obtain ⟨h1, h2, h3, h4⟩ := refV_ok hk
   simp at h2
   exact ⟨p, k, rfl, by omega, h1, by omega, h3, h4⟩
  ·rename_i h0
   injection h with e1 h
   injection h with e2 h
   exact absurd h h0
theorem getS_code (s : ByteArray) (a : Int) : (∃ n b, getS s a = (n, b, 0)) ∨ ∃ c, getS s a = (0, 0, c) ∧ 1 ≤ c ∧ c ≤ 3 := by
 unfold getS
 split
 ·exact .inr ⟨1, rfl, by omega, by omega⟩
 ·split
  ·exact .inl ⟨_, _, rfl⟩
  ·rename_i h0
   rw [getV_eq] at h0 ⊢
   rcases refV_code (s.data.toList.drop a.toNat) with h | ⟨h, -⟩ | ⟨h, -⟩
   ·exact absurd h h0
   ·exact .inr ⟨2, by rw [h], by omega, by omega⟩
   ·exact .inr ⟨3, by rw [h], by omega, by omega⟩
/-- A text behind its length: the text, the place behind, the error. -/
def takeS (s : ByteArray) (a most : Int) : ByteArray × Int × Int :=
 if (getS s a).2.2 ≠ 0 then (ByteArray.empty, 0, (getS s a).2.2)
 else if (getS s a).1 < 0 ∨ most < (getS s a).1 then (ByteArray.empty, 0, 3)
 else if (s.size : Int) - (getS s a).2.1 < (getS s a).1 then (ByteArray.empty, 0, 2)
 else (s.extract (getS s a).2.1.toNat ((getS s a).2.1 + (getS s a).1).toNat, (getS s a).2.1 + (getS s a).1, 0)
def TakeSPost (s : ByteArray) (a most : Int) (w : World) (e : Ending) (w' : World) : Prop :=
 e = .returned (.tuple #[.string (takeS s a most).1, .int .i64 (takeS s a most).2.1, .int .i64 (takeS s a most).2.2]) ∧ w = w'
set_option maxHeartbeats 4000000 in
theorem takes_walk (s : ByteArray) (a most : Int) (w : World) (hs : s.size ≤ maxLen) : Calls Tryz.prog 187 #[.string s, .int .i64 a, .int .i64 most] w (TakeSPost s a most w) := by
 have hs9 : s.size ≤ 9223372036854775807 := by unfold maxLen at hs; omega
 have hcall := gets_walk s a w hs
 unfold GetSPost at hcall
 have HT : Hid (takeS s a most = if (getS s a).2.2 ≠ 0 then (ByteArray.empty, 0, (getS s a).2.2)
   else if (getS s a).1 < 0 ∨ most < (getS s a).1 then (ByteArray.empty, 0, 3)
   else if (s.size : Int) - (getS s a).2.1 < (getS s a).1 then (ByteArray.empty, 0, 2)
   else (s.extract (getS s a).2.1.toNat ((getS s a).2.1 + (getS s a).1).toNat, (getS s a).2.1 + (getS s a).1, 0)) := Lib.hid rfl
 rcases getS_code s a with ⟨n, b, hg⟩ | ⟨c, hg, hc1, hc2⟩
 ·obtain ⟨p, k, rfl, rfl, hk1, hk2, hwf, -⟩ := getS_ok hg
  rw [hg] at hcall HT
  have HC := Lib.hid hcall
  clear hcall hg
  dsimp only at HC HT
  simp only [ne_eq, not_true_eq_false, if_false] at HT
  have hb := hwf
  simp [Lit.wf, IntKind.min, IntKind.max, IntKind.signed, IntKind.bits] at hb
  obtain ⟨hb1, hb2⟩ := hb
  clear hwf hs
  by_cases h1 : n < 0 ∨ most < n
  ·have ht := HT.out
   rw [if_pos h1] at ht
   have HR := Lib.hid ht
   clear ht HT
   rcases h1 with h1 | h1
   ·go_enter Tryz.func187, Tryz.ntmps187
    go_wp2_with (go_at_call 183; refine HC.out.mono ?_; rintro e w' ⟨rfl, rfl⟩)
    go_ret3
    exact ⟨by rw [HR.out]; rfl, rfl⟩
   ·by_cases h0 : n < 0
    all_goals
     go_enter Tryz.func187, Tryz.ntmps187
     go_wp2_with (go_at_call 183; refine HC.out.mono ?_; rintro e w' ⟨rfl, rfl⟩)
     go_ret3
     exact ⟨by rw [HR.out]; rfl, rfl⟩
  ·have h0 : ¬ n < 0 := fun h => h1 (.inl h)
   have h2 : ¬ most < n := fun h => h1 (.inr h)
   obtain ⟨m, rfl⟩ : ∃ m : Nat, n = m := ⟨n.toNat, by omega⟩
   by_cases h3 : (s.size : Int) - ((p + k : Nat) : Int) < m
   ·have ht := HT.out
    rw [if_neg h1, if_pos h3] at ht
    have HR := Lib.hid ht
    clear ht HT h1
    go_enter Tryz.func187, Tryz.ntmps187
    go_wp2_with (go_at_call 183; refine HC.out.mono ?_; rintro e w' ⟨rfl, rfl⟩)
    go_ret3
    exact ⟨by rw [HR.out]; rfl, rfl⟩
   ·have ht := HT.out
    rw [if_neg h1, if_neg h3] at ht
    have HR := Lib.hid ht
    clear ht HT h1
    go_enter Tryz.func187, Tryz.ntmps187
    go_wp2_with (go_at_call 183; refine HC.out.mono ?_; rintro e w' ⟨rfl, rfl⟩)
    go_ret3
    exact ⟨by rw [HR.out]; rfl, rfl⟩
 ·rw [hg] at hcall HT
  have HC := Lib.hid hcall
  have ht := HT.out
  dsimp only at ht
  rw [if_pos (by omega)] at ht
  have HR := Lib.hid ht
  clear hcall hg hs ht HT
  have hq : ((c : Int) == 0) = false := by simp; omega
  have hq' : (c != 0) = true := by simp; omega
  go_enter Tryz.func187, Tryz.ntmps187
  go_wp2_with (go_at_call 183; refine HC.out.mono ?_; rintro e w' ⟨rfl, rfl⟩)
  go_ret3
  exact ⟨by rw [HR.out]; rfl, rfl⟩
end Go.Proofs.YtfdhofabgdkkkaaGreatDoor
/- A whole struct stored into a block that is known whole. -/
namespace Go.Fm
open Go.RowKit
section
variable {P : Program} {w : World} {ops : Array Oper} {rest : List Oper} {o : Oper} {a : Act} {Q : Exit → Act → World → Prop}
theorem setRow_grown (w : World) (g : Nat) (cs : Array Value) : w.grownBy (w.setRow g cs) (some g) :=
 ⟨rfl, rfl, rfl, by simp [World.setRow], fun k _ hk => by
  unfold World.setRow
  rw [Array.getElem?_modify, if_neg (fun e => hk (by rw [e]))]⟩
theorem run_store_all (w : World) (g : Nat) (ty t : TypeId) (old : Array Value) (v : Value) (hg : w.heap[g]? = some (.cells old t (0, 0))) (hs : v.cells.size = old.size) (hi : (P.info? ty).map (·.size) = some v.cells.size)
  (h1 : (v.cells.toList.all fun u => u.oneCell') = true) : (Instr.storeAt ty (.pointer (some ⟨g, 0, none⟩)) v).run P w = .ok () (w.setRow g v.cells) := by
 have h2 := run_storeCells_from (P := P) g t v.cells.toList 0 old w hg (by simp; exact hs) (fun u hu => by simpa using List.all_eq_true.1 h1 u hu)
 cases hq : P.info? ty with
 | none => rw [hq] at hi; cases hi
 | some i =>
  have hz : i.size = v.cells.size := by simpa [hq] using hi
  simp [Instr.storeAt, Instr.sureAddr, storeVar, sizeOf, typeInfo, hq, hz, Sem.run_bind, h2]
theorem wpList_store_all (hgd : o.guard = none) (ty : TypeId) (p x : Operand) (ho : o.op = .store ty p x) (g : Nat) (hp : a.eval p = .pointer (some ⟨g, 0, none⟩)) (t : TypeId) (old : Array Value) (v : Value) (hx : a.eval x = v)
  (hg : w.heap[g]? = some (.cells old t (0, 0))) (hs : v.cells.size = old.size) (hi : (P.info? ty).map (·.size) = some v.cells.size) (h1 : (v.cells.toList.all fun u => u.oneCell') = true)
  (h : ∀ w', w'.heap[g]? = some (.cells v.cells t (0, 0)) → w.grownBy w' (some g) → wpList P ops Q rest (a.put o.dst undef) w') : wpList P ops Q (o :: rest) a w := by
 refine wpList_plain hgd fun K' hK' => ?_
 have hrun := run_store_all (P := P) w g ty t old v hg hs hi h1
 unfold Oper.wp
 simp [execOp, ho, hp, hx, hrun, Result.andThen, Oper.upon]
 exact hK' _ _ (h _ (setRow_heap w g old v.cells t (0, 0) hg) (setRow_grown w g _))
end
end Go.Fm
