import GoSem.Conv.FloatToInt
import GoSem.Conv.IntToFloat
namespace Go.Flot
open Ieee
theorem log2_bd {m : Nat} (hm : m ≠ 0) : 2 ^ m.log2 ≤ m ∧ m < 2 ^ (m.log2 + 1) := ⟨Nat.log2_self_le hm, Nat.lt_log2_self⟩

theorem f64_back (m : Nat) (hm : m < 2 ^ 52) : (FloatKind.f64.decode (FloatKind.f64.nearest (m : Int))).toInt .zero = some (m : Int) := by
  by_cases h0 : m = 0
  · subst h0; decide
  · obtain ⟨l1, l2⟩ := log2_bd h0
    have hl : m.log2 < 52 := by
      rcases Nat.lt_or_ge m.log2 52 with h | h
      · exact h
      · have := Nat.pow_le_pow_right (n := 2) (by omega) h; omega
    obtain ⟨L, hL⟩ : ∃ L, L = m.log2 := ⟨_, rfl⟩
    rw [← hL] at l1 l2 hl
    have hk : m * 2 ^ (52 - L) < 2 ^ 53 := by
      have : m * 2 ^ (52 - L) < 2 ^ (L + 1) * 2 ^ (52 - L) := Nat.mul_lt_mul_of_pos_right l2 (Nat.two_pow_pos _)
      rw [← Nat.pow_add, show L + 1 + (52 - L) = 53 by omega] at this; exact this
    have hk2 : 2 ^ 52 ≤ m * 2 ^ (52 - L) := by
      have : 2 ^ L * 2 ^ (52 - L) ≤ m * 2 ^ (52 - L) := Nat.mul_le_mul_right _ l1
      rw [← Nat.pow_add, show L + (52 - L) = 52 by omega] at this; exact this
    obtain ⟨K, hK⟩ : ∃ K, K = m * 2 ^ (52 - L) := ⟨_, rfl⟩
    rw [← hK] at hk hk2
    have e1 : FloatKind.f64.nearest (m : Int) = (L + 1022) * 2 ^ 52 + K := by
      have hneg : decide ((m : Int) < 0) = false := by simp
      simp only [FloatKind.nearest, FloatKind.encode, FloatKind.format, Format.write, Format.nearest, hneg, Int.natAbs_natCast, h0, if_false, ← hL]
      have a1 : max ((0 : Int) + (L : Int) - (double.fractionBits : Int)) double.leastPlace = (L : Int) - 52 := by
        show max ((0 : Int) + (L : Int) - 52) (-1074) = _
        omega
      rw [a1]
      have a2 : ((0 : Int) - ((L : Int) - 52)).toNat = 52 - L := by omega
      have a3 : (((L : Int) - 52) - 0).toNat = 0 := by omega
      rw [a2, a3]
      have a4 : Toward.even.cut false (m <<< (52 - L)) 0 = K := by
        simp [Toward.cut, Nat.shiftLeft_eq, Nat.mod_one, ← hK]
      rw [a4]
      have a5 : ((L : Int) - 52 - double.leastPlace).toNat = L + 1022 := by
        show ((L : Int) - 52 - (-1074)).toNat = _
        omega
      rw [a5]
      have s1 : double.binade = 2 ^ 52 := by simp [Format.binade, double]
      have s2 : double.infRung = 2047 * 2 ^ 52 := by simp [Format.infRung, Format.binade, double]
      simp only [Format.word, Bool.false_eq_true, if_false, s1, s2]
      exact Nat.min_eq_left (by omega)
    have e2 : FloatKind.f64.decode ((L + 1022) * 2 ^ 52 + K) = .number false K ((L : Int) - 52) := by
      show Format.read double _ = _
      have b0 : ((L + 1022) * 2 ^ 52 + K) < 2 ^ 63 := by omega
      have b1 : ((L + 1022) * 2 ^ 52 + K) / 2 ^ 63 % 2 = 0 := by rw [Nat.div_eq_of_lt b0]
      have b2 : ((L + 1022) * 2 ^ 52 + K) % 2 ^ 63 = (L + 1022) * 2 ^ 52 + K := Nat.mod_eq_of_lt b0
      have b3 : ((L + 1022) * 2 ^ 52 + K) / 2 ^ 52 = L + 1023 := by omega
      have b4 : ((L + 1022) * 2 ^ 52 + K) % 2 ^ 52 = K - 2 ^ 52 := by omega
      have s1 : double.signWeight = 2 ^ 63 := by simp [Format.signWeight, double]
      have s2 : double.binade = 2 ^ 52 := by simp [Format.binade, double]
      have s3 : double.infRung = 2047 * 2 ^ 52 := by simp [Format.infRung, Format.binade, double]
      have s4 : double.leastPlace = -1074 := by simp [Format.leastPlace, double]
      simp only [Format.read, s1, s2, s3, s4, b1, b2]
      rw [if_neg (by omega), if_pos (by omega), b3, b4]
      have b5 : 2 ^ 52 + (K - 2 ^ 52) = K := by omega
      have b6 : (-1074 + ((L + 1023 - 1 : Nat) : Int)) = (L : Int) - 52 := by omega
      rw [b5, b6]
      rfl
    rw [e1, e2]
    have c1 : ((L : Int) - 52).toNat = 0 := by omega
    have c2 : (-((L : Int) - 52)).toNat = 52 - L := by omega
    have hlk : K.log2 = 52 := by
      have h3 := Nat.log2_self_le (n := K) (by omega)
      have h4 := Nat.lt_log2_self (n := K)
      have : ¬ K.log2 < 52 := by
        intro h
        have := Nat.pow_le_pow_right (n := 2) (by omega) (show K.log2 + 1 ≤ 52 by omega)
        omega
      have : ¬ 52 < K.log2 := by
        intro h
        have := Nat.pow_le_pow_right (n := 2) (by omega) (show 53 ≤ K.log2 by omega)
        omega
      omega
    simp only [Datum.toInt, Datum.integral, c1, c2, Nat.shiftLeft_zero, Toward.cut, hlk]
    have d1 : min (52 - L) (52 + 2) = 52 - L := by omega
    rw [d1, Nat.one_shiftLeft, hK, Nat.mul_div_cancel _ (Nat.two_pow_pos _)]
    simp [Ieee.signed]
end Go.Flot
