/- Put and Text of the document: the walks. -/
import Derived.Test.YtdlnafhhkpklmaaGreatDoorM1
import Derived.Test.YtdlnafhhkpklmaaGreatDoorChecked
import Derived.Lib.Hide
import Derived.WalkKit
import Derived.Lib.SliceRun
import Derived.WalkSpells
import Derived.WalkLawsBesides
import Derived.BigQuiet
import Derived.OwnWalk
import Derived.Deep.QuietTactic
import Derived.Laws.IdiomStrings
namespace Go.Proofs.YtdlnafhhkpklmaaGreatDoor
open Go.RowKit Go.Fm Go.BigFrame
set_option linter.unusedVariables false
set_option linter.unusedSimpArgs false

theorem add_lit (g k : Nat) : (⟨g, 0, none⟩ : Addr).add k = ⟨g, k, none⟩ := by
  unfold Addr.add
  split
  · rename_i h0; rw [h0]
  · simp
theorem add_add (a : Addr) (i j : Nat) (hj : 0 < j) : a.add (i + j) = ⟨(a.add i).block, (a.add i).off + j, none⟩ := by
  unfold Addr.add
  rw [if_neg (by omega)]
  split
  · rename_i h0; subst h0; simp
  · simp [Nat.add_assoc]
theorem own_at {w : World} {B : Nat} {e : TypeId} {s n : Nat} {v : Value} {xs : List Value} (h : w.ownsRow B e s v n xs) :
    ∃ oa cap, v = .slice oa n cap ∧ (0 < n → ∃ g, oa = some ⟨g, 0, none⟩ ∧ v.ownBlock = some g ∧ B ≤ g ∧ ∀ k u, xs[k]? = some u → w.cell? ⟨g, k, none⟩ = some u) := by
  obtain ⟨a, cap, hv, h1, h2⟩ := own_slice h
  refine ⟨a, cap, hv, fun hn => ?_⟩
  cases a with
  | none => have := (h2 rfl).1; omega
  | some a =>
    obtain ⟨h3, h4⟩ := h1 a rfl
    refine ⟨a.block, by rw [← h3], h4, (own_lt h h4).1, fun k u hu => ?_⟩
    have := h.cells h4 k u hu
    rw [add_lit] at this
    exact this

def dig (k : Nat) : UInt8 := UInt8.ofNat k
/-- The digits of a number, to the base of 128. -/
def putL (m : Nat) : List UInt8 := if m < 128 then [dig m] else dig (m % 128 + 128) :: putL (m / 128)
termination_by m
decreasing_by omega
def zig (n : Int) : Nat := if n < 0 then 2 * (-(n + 1)).toNat + 1 else 2 * n.toNat
def putS (n : Int) : ByteArray := ⟨(putL (zig n)).toArray⟩
theorem putL_small {m : Nat} (h : m < 128) : putL m = [dig m] := by rw [putL, if_pos h]
theorem putL_big {m : Nat} (h : 128 ≤ m) : putL m = dig (m % 128 + 128) :: putL (m / 128) := by rw [putL, if_neg (by omega)]
theorem putL_len : ∀ (k m : Nat), m < 128 ^ (k + 1) → (putL m).length ≤ k + 1
  | 0, m, h => by rw [putL_small (by simpa using h)]; simp
  | k + 1, m, h => by
    by_cases hm : m < 128
    · rw [putL_small hm]; simp
    · rw [putL_big (by omega)]
      have : m / 128 < 128 ^ (k + 1) := by
        rw [Nat.pow_succ] at h
        exact Nat.div_lt_of_lt_mul (by rw [Nat.mul_comm]; exact h)
      have := putL_len k (m / 128) this
      simp; omega
theorem zig_lt {n : Int} (h : (Lit.int .i64 n).wf = true) : zig n < 18446744073709551616 := by
  simp [Lit.wf, IntKind.min, IntKind.max, IntKind.signed, IntKind.bits] at h
  unfold zig
  split <;> omega
theorem putS_size {n : Int} (h : (Lit.int .i64 n).wf = true) : (putS n).size ≤ 10 := by
  have h1 := zig_lt h
  have h2 := putL_len 9 (zig n) (by omega)
  simpa [putS, ByteArray.size] using h2

def byteVal (b : UInt8) : Value := .int .u8 (b.toNat : Int)
theorem byteVal_of {k : Nat} (h : k < 256) : byteVal (dig k) = .int .u8 (k : Int) := by
  unfold byteVal dig
  rw [UInt8.toNat_ofNat_of_lt' h]
theorem info5 : (Tryz.prog.info? 5).map (fun i => (i.zero, i.size, i.bytes)) = some (some (.int .u8 0), 1, 1) := by kernel_rfl

def textS (s : ByteArray) : ByteArray := putS s.size ++ s
theorem len_wf {n : Nat} (h : n ≤ 1000000000) : (Lit.int .i64 (n : Int)).wf = true := by
  simp [Lit.wf, IntKind.min, IntKind.max, IntKind.signed, IntKind.bits]; omega
theorem textS_size {s : ByteArray} (h : s.size ≤ 1000000000) : (textS s).size ≤ 10 + s.size := by
  have := putS_size (len_wf h)
  unfold textS
  rw [ByteArray.size_append]
  omega

end Go.Proofs.YtdlnafhhkpklmaaGreatDoor
