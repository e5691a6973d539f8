/- The document's Get of a number: the walk. -/
import Derived.Test.YtdgdhegbcjimbaaN1
namespace Go.Proofs.Ytdgdhegbcjimbaa
open Go.RowKit Go.Fm Go.BigFrame
set_option linter.unusedVariables false
set_option linter.unusedSimpArgs false

def RGetPost (s : ByteArray) (at' : Int) (w : World) (e : Ending) (w' : World) : Prop :=
  e = .returned (.tuple #[.int .i64 (getS s at').1, .int .i64 (getS s at').2.1, .int .i64 (getS s at').2.2]) ∧ Fr (fun _ => False) w w'
theorem rget_bad (s : ByteArray) (a : Int) (w : World) (hbad : a < 0 ∨ (s.size : Int) < a) : Calls Try.prog 53 #[.string s, .int .i64 a] w (RGetPost s a w) := by
  have hg : getS s a = (0, 0, 1) := by unfold getS; rw [if_pos hbad]
  unfold RGetPost
  rw [hg]
  rcases hbad with h | h
  · clear hg
    go_enter Try.func53, Try.ntmps53
    go_wp2_with fail
    go_ret3
    exact ⟨rfl, Fr.same _⟩
  · have h0 : decide (a < 0) = false := by simp; omega
    clear hg
    go_enter Try.func53, Try.ntmps53
    go_wp2_with fail
    go_ret3
    exact ⟨rfl, Fr.same _⟩
theorem lead_on {s : ByteArray} {p i : Nat} (h : lead 10 (s.data.toList.drop p) = i + lead (10 - i) (s.data.toList.drop (p + i))) (hi : i < 10) (hs : p + i < s.size) (hb : 128 ≤ s[p + i].toNat) :
    lead 10 (s.data.toList.drop p) = (i + 1) + lead (10 - (i + 1)) (s.data.toList.drop (p + (i + 1))) := by
  rw [h, drop_at s (p + i) hs, show 10 - i = (10 - (i + 1)) + 1 by omega, lead, if_pos hb, show p + (i + 1) = p + i + 1 by omega]
  omega
theorem lead_off {s : ByteArray} {p i : Nat} (h : lead 10 (s.data.toList.drop p) = i + lead (10 - i) (s.data.toList.drop (p + i))) (hi : i < 10) (hs : p + i < s.size) (hb : ¬ 128 ≤ s[p + i].toNat) :
    lead 10 (s.data.toList.drop p) = i := by
  rw [h, drop_at s (p + i) hs, show 10 - i = (10 - (i + 1)) + 1 by omega, lead, if_neg hb]
  omega
theorem lead_end {s : ByteArray} {p i : Nat} (h : lead 10 (s.data.toList.drop p) = i + lead (10 - i) (s.data.toList.drop (p + i))) (hs : s.size ≤ p + i) :
    lead 10 (s.data.toList.drop p) = i := by
  rw [h, List.drop_eq_nil_of_le (by rw [size_list]; exact hs)]
  cases 10 - i <;> rfl
theorem lead_ten {s : ByteArray} {p : Nat} (h : lead 10 (s.data.toList.drop p) = 10 + lead (10 - 10) (s.data.toList.drop (p + 10))) : lead 10 (s.data.toList.drop p) = 10 := by
  rw [h]; rfl
/-- What the reader makes of k bytes that go on and one more. -/
theorem getS_lead {s : ByteArray} {p k : Nat} (hp : p ≤ s.size) (hl : lead 10 (s.data.toList.drop p) = k) :
    getS s p = if k = 10 then (0, 0, 3) else if s.size ≤ p + k then (0, 0, 2) else
      if putS (unzig (val ((s.data.toList.drop p).take (k + 1)) % 18446744073709551616)) = s.extract p (p + k + 1) then (unzig (val ((s.data.toList.drop p).take (k + 1)) % 18446744073709551616), ((p + k + 1 : Nat) : Int), 0) else (0, 0, 3) := by
  have hr : getV (s.data.toList.drop p) = refV (s.data.toList.drop p) := getV_eq _
  have he : (putS (unzig (val ((s.data.toList.drop p).take (k + 1)) % 18446744073709551616)) = s.extract p (p + k + 1)) ↔ putL (val ((s.data.toList.drop p).take (k + 1)) % 18446744073709551616) = (s.data.toList.drop p).take (k + 1) := by
    have e1 : (s.extract p (p + k + 1)).data.toList = (s.data.toList.drop p).take (k + 1) := by
      rw [extract_list, List.drop_take]; congr 1; omega
    constructor
    · intro h
      have := congrArg (fun b : ByteArray => b.data.toList) h
      rw [putS_list, zig_unzig, e1] at this
      exact this
    · intro h
      apply bytes_ext
      rw [putS_list, zig_unzig, e1]
      exact h
  unfold refV at hr
  dsimp only at hr
  rw [hl] at hr
  have hlen : (s.data.toList.drop p).length = s.size - p := by rw [List.length_drop, size_list]
  rw [hlen] at hr
  by_cases h1 : k = 10
  · rw [if_pos h1] at hr ⊢
    rw [getS_of s p hp hr]; rfl
  · rw [if_neg h1] at hr ⊢
    by_cases h2 : s.size ≤ p + k
    · rw [if_pos (by omega)] at hr
      rw [if_pos h2, getS_of s p hp hr]; rfl
    · rw [if_neg (by omega)] at hr
      rw [if_neg h2]
      by_cases h3 : putL (val ((s.data.toList.drop p).take (k + 1)) % 18446744073709551616) = (s.data.toList.drop p).take (k + 1)
      · rw [if_pos h3] at hr
        rw [if_pos (he.2 h3), getS_of s p hp hr, if_pos rfl]
        congr 1
      · rw [if_neg h3] at hr
        rw [if_neg (fun h => h3 (he.1 h)), getS_of s p hp hr]; rfl
theorem val_drop {s : ByteArray} {p k j : Nat} (hj : j < k + 1) (hs : p + k < s.size) :
    val (((s.data.toList.drop p).take (k + 1)).drop j) = s[p + j].toNat % 128 + 128 * val (((s.data.toList.drop p).take (k + 1)).drop (j + 1)) := by
  have hlen : ((s.data.toList.drop p).take (k + 1)).length = k + 1 := by rw [List.length_take, List.length_drop, size_list]; omega
  rw [List.drop_eq_getElem_cons (by omega)]
  have e : ((s.data.toList.drop p).take (k + 1))[j]'(by omega) = s[p + j] := by
    rw [List.getElem_take, List.getElem_drop]; rfl
  rw [e]; rfl
theorem u64_step (X c : Nat) : IntKind.u64.wrap (IntKind.u64.wrap ((X : Int) * 128) + (c : Int) % 128) = (((X * 128 + c % 128) % 18446744073709551616 : Nat) : Int) := by
  simp only [IntKind.wrap, IntKind.signed, IntKind.bits]
  simp
theorem unzig_even {X : Nat} (h : X % 2 = 0) : unzig X = ((X / 2 : Nat) : Int) := by unfold unzig; rw [if_pos h]
theorem unzig_odd {X : Nat} (h : X % 2 = 1) : unzig X = -((X / 2 : Nat) : Int) - 1 := by unfold unzig; rw [if_neg (by omega)]
set_option maxRecDepth 100000 in
set_option maxHeartbeats 16000000 in
theorem rget_walk (s : ByteArray) (a : Int) (w : World) (hs : s.size ≤ maxLen) : Calls Try.prog 53 #[.string s, .int .i64 a] w (RGetPost s a w) := by
  by_cases hbad : a < 0 ∨ (s.size : Int) < a
  · exact rget_bad s a w hbad
  · obtain ⟨p, rfl⟩ : ∃ p : Nat, a = p := ⟨a.toNat, by omega⟩
    have hp : p ≤ s.size := by omega
    have hs9 : s.size ≤ 9223372036854775807 := by unfold maxLen at hs; omega
    have hd1 : decide ((p : Int) < 0) = false := by simp
    have hd2 : decide (s.size < p) = false := by simp; omega
    clear hbad hs
    go_enter Try.func53, Try.ntmps53
    go_wp2_with fail
    clear hd1 hd2
    go_loopw [7] (fun k wr => ∃ i : Nat, k = .int .i64 i ∧ i ≤ 10 ∧ p + i ≤ s.size ∧ lead 10 (s.data.toList.drop p) = i + lead (10 - i) (s.data.toList.drop (p + i)) ∧ Fr (fun _ => False) w wr) (fun k _ => 10 - (intOf k).toNat)
    case atStart => exact ⟨0, rfl, by omega, by omega, by simp, Fr.same _⟩
    case round =>
      obtain ⟨i, rfl, hi, hpi, hL, hf⟩ := hrel
      have F := Lib.hid hf
      clear hf
      have HL := Lib.hid hL
      clear hL
      by_cases h10 : i < 10
      · have g1 : decide ((i : Int) < 10) = true := by simp; omega
        by_cases hend : p + i < s.size
        · have g2 : decide ((p : Int) + i < s.size) = true := by simp; omega
          have hlt := s[p + i].toNat_lt
          obtain ⟨c, hc⟩ : ∃ c : Nat, c = s[p + i].toNat := ⟨_, rfl⟩
          have hc' : s[p + i].toNat = c := hc.symm
          have HC := Lib.hid hc'
          rw [hc'] at hlt
          by_cases hcon : 128 ≤ c
          · have HN := Lib.hid (lead_on HL.out h10 hend (by rw [hc']; exact hcon))
            have g3 : decide (128 ≤ (c : Int)) = true := by simp; omega
            clear hc
            go_wp2_with fail
            go_roundw
            case rel => exact ⟨i + 1, by go_num, by omega, by omega, HN.out, F.out⟩
            case measure => simp [intOf]; omega
          · have HN := Lib.hid (lead_off HL.out h10 hend (by rw [hc']; exact hcon))
            have g3 : decide (128 ≤ (c : Int)) = false := by simp; omega
            have g10 : ((i : Int) == 10) = false := by simp; omega
            have g4 : decide ((s.size : Int) ≤ p + i) = false := by simp; omega
            have h10n : i ≠ 10 := by omega
            have HG := getS_lead hp HN.out
            rw [if_neg h10n, if_neg (by omega)] at HG
            have HG := Lib.hid HG
            obtain ⟨L, hL⟩ : ∃ L, L = (s.data.toList.drop p).take (i + 1) := ⟨_, rfl⟩
            rw [← hL] at HG
            have HVD := Lib.hid (fun j (hj : j < i + 1) => val_drop (s := s) (p := p) (k := i) hj hend)
            rw [← hL] at HVD
            have hv0 : val (L.drop (i + 1)) = 0 := by
              rw [List.drop_eq_nil_of_le (by rw [hL, List.length_take]; omega)]; rfl
            have HV0 := Lib.hid hv0
            clear hc hL hv0
            go_wp2_with fail
            clear g1 g2 g3 g4 g10
            go_loopw [8, 9] (fun u iv wr => ∃ j X : Nat, iv = .int .i64 ((j : Int) - 1) ∧ j ≤ i + 1 ∧ u = .int .u64 X ∧ X = val (L.drop j) % 18446744073709551616 ∧ Fr (fun _ => False) w wr) (fun _ iv _ => (intOf iv + 1).toNat)
            case atStart => exact ⟨i + 1, 0, by go_num, by omega, rfl, by rw [HV0.out], F.out⟩
            case round =>
              obtain ⟨j, X, rfl, hj, rfl, hX, hf⟩ := hrel
              have F2 := Lib.hid hf
              have HX := Lib.hid hX
              clear hf hX
              cases j with
              | zero =>
                rw [List.drop_zero] at HX
                rw [← HX.out] at HG
                have HX2 := HX.out
                have hX64 : X < 18446744073709551616 := by omega
                have e0 : ((0 : Nat) : Int) - 1 = -1 := rfl
                rw [e0]
                have hwf := unzig_wf hX64
                have fput : ∀ w1, ∀ y : Lcl.InS (fun w' => Fr (fun _ => False) w1 w'), Calls Try.prog 55 #[.int .i64 (unzig X)] y.w fun e w' => e = .returned (.string (putS (unzig X))) ∧ ∃ y : Lcl.InS (fun w' => Fr (fun _ => False) w1 w'), w' = y.w := fun w1 y => quietly y (rput_walk (unzig X) _ hwf)
                have hcase : (X % 2 = 0 ∧ unzig X = (X : Int) / 2) ∨ (X % 2 = 1 ∧ unzig X = -((X : Int) / 2) - 1) := by
                  rcases Nat.mod_two_eq_zero_or_one X with h | h
                  · exact .inl ⟨h, by rw [unzig_even h]; omega⟩
                  · exact .inr ⟨h, by rw [unzig_odd h]; omega⟩
                have FP := Lib.hid fput
                clear fput e0 HX2 HX HVD hwf
                rcases hcase with ⟨hc1, hc2⟩ | ⟨hc1, hc2⟩
                · have HC2 := Lib.hid hc2
                  have g5 : ((X : Int) % 2 == 1) = false := by simp; omega
                  clear hc1 hc2
                  go_wp2_with fail
                  rw [show ((X : Int) / 2) = unzig X from HC2.out.symm]
                  refine wp_region_quiet (C := fun w' => ∃ y : Lcl.InS (fun w' => Fr (fun _ => False) wr w'), w' = y.w) (by kernel_rfl) (by kernel_rfl) ⟨⟨wr.drew, (Fr.same wr).drew⟩, rfl⟩ ?_
                  dsimp only
                  repeat (go_big_quiet_step (first | with_reducible rfl | exact FP.out _ _))
                  refine wpQuiet_nil ?_
                  rintro _ ⟨y, rfl⟩
                  have F3 := Lib.hid (F2.out.tr y.h)
                  generalize y.w = w3 at *
                  clear y
                  by_cases heq : putS (unzig X) = s.extract p (p + i + 1)
                  · have q1 : ((putS (unzig X)).toList == (s.extract p (p + i + 1)).toList) = true := by rw [strEq]; simp [heq]
                    have HG2 := HG.out
                    rw [if_pos heq] at HG2
                    have HG3 := Lib.hid HG2
                    clear heq HG2
                    rw [q1]
                    go_wp2_with fail
                    go_ret3
                    exact ⟨by rw [HG3.out]; rfl, F3.out⟩
                  · have q1 : ((putS (unzig X)).toList == (s.extract p (p + i + 1)).toList) = false := by rw [strEq]; simp [heq]
                    have HG2 := HG.out
                    rw [if_neg heq] at HG2
                    have HG3 := Lib.hid HG2
                    clear heq HG2
                    rw [q1]
                    go_wp2_with fail
                    go_ret3
                    exact ⟨by rw [HG3.out]; rfl, F3.out⟩
                · have HC2 := Lib.hid hc2
                  have g5 : ((X : Int) % 2 == 1) = true := by simp; omega
                  clear hc1 hc2
                  go_wp2_with fail
                  rw [show (-((X : Int) / 2) - 1) = unzig X from HC2.out.symm]
                  refine wp_region_quiet (C := fun w' => ∃ y : Lcl.InS (fun w' => Fr (fun _ => False) wr w'), w' = y.w) (by kernel_rfl) (by kernel_rfl) ⟨⟨wr.drew, (Fr.same wr).drew⟩, rfl⟩ ?_
                  dsimp only
                  repeat (go_big_quiet_step (first | with_reducible rfl | exact FP.out _ _))
                  refine wpQuiet_nil ?_
                  rintro _ ⟨y, rfl⟩
                  have F3 := Lib.hid (F2.out.tr y.h)
                  generalize y.w = w3 at *
                  clear y
                  by_cases heq : putS (unzig X) = s.extract p (p + i + 1)
                  · have q1 : ((putS (unzig X)).toList == (s.extract p (p + i + 1)).toList) = true := by rw [strEq]; simp [heq]
                    have HG2 := HG.out
                    rw [if_pos heq] at HG2
                    have HG3 := Lib.hid HG2
                    clear heq HG2
                    rw [q1]
                    go_wp2_with fail
                    go_ret3
                    exact ⟨by rw [HG3.out]; rfl, F3.out⟩
                  · have q1 : ((putS (unzig X)).toList == (s.extract p (p + i + 1)).toList) = false := by rw [strEq]; simp [heq]
                    have HG2 := HG.out
                    rw [if_neg heq] at HG2
                    have HG3 := Lib.hid HG2
                    clear heq HG2
                    rw [q1]
                    go_wp2_with fail
                    go_ret3
                    exact ⟨by rw [HG3.out]; rfl, F3.out⟩
              | succ m =>
                have em : ((m + 1 : Nat) : Int) - 1 = m := by omega
                rw [em]
                have hs2 := s[p + m].toNat_lt
                have hvm := HVD.out m (by omega)
                obtain ⟨c2, hc2⟩ : ∃ c2 : Nat, s[p + m].toNat = c2 := ⟨_, rfl⟩
                rw [hc2] at hvm hs2
                have HVM := Lib.hid hvm
                have gm : decide (0 ≤ (m : Int)) = true := by simp
                clear hvm em
                go_wp2_with fail
                go_roundw
                case rel => exact ⟨m, (X * 128 + c2 % 128) % 18446744073709551616, rfl, by omega, by rw [u64_step], by have h1 := HVM.out; have h2 := HX.out; omega, F2.out⟩
                case measure => simp [intOf]
        · have g2 : decide ((p : Int) + i < s.size) = false := by simp; omega
          have HN := Lib.hid (lead_end HL.out (by omega))
          have HG := getS_lead hp HN.out
          rw [if_neg (by omega), if_pos (by omega)] at HG
          have HG := Lib.hid HG
          go_wp2_with fail
          go_ret3
          exact ⟨by rw [HG.out]; rfl, F.out⟩
      · obtain rfl : i = 10 := by omega
        have HN := Lib.hid (lead_ten HL.out)
        have HG := getS_lead hp HN.out
        rw [if_pos rfl] at HG
        have HG := Lib.hid HG
        go_wp2_with fail
        go_ret3
        exact ⟨by rw [HG.out]; rfl, F.out⟩
end Go.Proofs.Ytdgdhegbcjimbaa
