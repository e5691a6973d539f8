/- Numbers and places as keys. -/
import Derived.Test.YtfdhofabgdkkkaaGreatDoorU5
import Derived.Test.YtfdhofabgdkkkaaGreatDoorChecked
import Derived.Test.YtfdhofabgdkkkaaGreatDoorU3
import Derived.Lib.Hide
import Derived.WalkKit
import Derived.Lib.SliceRun
import Derived.WalkSpells
import Derived.WalkLawsBesides
import Derived.BigQuiet
import Derived.OwnWalk
import Derived.Deep.QuietTactic
import Derived.Laws.IdiomStrings
namespace Go.Proofs.YtfdhofabgdkkkaaGreatDoor
open Go.RowKit Go.Fm Go.BigFrame Go.Shelf Go.Maps
set_option linter.unusedVariables false
set_option linter.unusedSimpArgs false
set_option maxRecDepth 100000
theorem gLaidOut : laidOutB Tryz.prog = true := by kernel_rfl
theorem g3 : Tryz.prog.cellsOf 3 = 1 := by kernel_rfl
theorem gPlace : Tryz.prog.cellsOf 150 = 2 := by kernel_rfl
theorem gSize : ∃ d, Tryz.prog.types.size + 1 = d + 1 + 1 := ⟨432, by kernel_rfl⟩
theorem gKeyP : Tryz.prog.keyType 150 = true := by kernel_rfl
theorem gl3 (d : Nat) (v : Value) : Tryz.prog.keyLits (d + 1) 3 [v] = match v with | .int q n => if q = .i64 ∧ (Lit.int .i64 n).wf = true then some [.int .i64 n] else none | _ => none := by
 unfold Program.keyLits
 simp only [Tryz.underlying3]
 cases v <;> rfl
theorem glP' (d : Nat) (v u : Value) (A B : Option (List Lit)) (h1 : Tryz.prog.keyLits d 3 [v] = A) (h2 : Tryz.prog.keyLits d 3 [u] = B) : Tryz.prog.keyLits (d + 1) 150 [v, u] = A.bind fun x => B.bind fun y => some (x ++ y) := by
 unfold Program.keyLits
 simp only [Tryz.underlying150, gPlace]
 cases A <;> cases B <;> simp [g3, h1, h2]
theorem glP (d : Nat) (v u : Value) : Tryz.prog.keyLits (d + 1) 150 [v, u] = (Tryz.prog.keyLits d 3 [v]).bind fun x => (Tryz.prog.keyLits d 3 [u]).bind fun y => some (x ++ y) := glP' d v u _ _ rfl rfl
theorem kLawP : Keyed Tryz.prog 150 := Keyed.of_law (deep_law_laid gLaidOut (m := 3) (by omega) (of_decide_eq_true (by kernel_rfl)) (by kernel_rfl) (by rw [Tryz.underlying150]))
structure Place where
 id : Int
 ix : Int
deriving DecidableEq
structure PlaceOK (p : Place) : Prop where
 id : (Lit.int .i64 p.id).wf = true
 ix : (Lit.int .i64 p.ix).wf = true
def placeV (p : Place) : Value := .agg #[.int .i64 p.id, .int .i64 p.ix]
def placeL (p : Place) : Lit := .string (keyBytes [.int .i64 p.id, .int .i64 p.ix])
theorem keyOf_place {k : Place} (h : PlaceOK k) : keyOf Tryz.prog 150 (placeV k) = some (placeL k) := by
 unfold keyOf
 rw [Tryz.underlying150]
 obtain ⟨d, hd⟩ := gSize
 simp only [gKeyP, placeV, Value.formed, Tryz.underlying150, gPlace, List.size_toArray, List.length_cons, List.length_nil, Nat.zero_add, Nat.reduceAdd, BEq.rfl, Bool.true_and, if_true, Value.cells, hd]
 rw [glP, gl3, gl3]
 simp [h.id, h.ix, placeL]
theorem placeV_inj {a b : Place} (h : placeV a = placeV b) : a = b := by
 cases a; cases b
 simp [placeV] at h
 simp [h]
def placeK : KK Place := ⟨150, placeV, placeL, PlaceOK⟩
theorem placeLaw : KKLaw placeK := ⟨kLawP, fun k h => keyOf_place h, fun a b ha hb h => placeV_inj (kLawP.inj (keyOf_place ha) (by rw [show placeL a = placeL b from h]; exact keyOf_place hb)), fun k => trivial⟩
def intK : KK Int := ⟨3, fun n => .int .i64 n, fun n => .int .i64 n, fun n => (Lit.int .i64 n).wf = true⟩
theorem intLaw : KKLaw intK := ⟨int_keyed Tryz.underlying3, fun k h => keyOf_int_mk Tryz.underlying3 h, fun a b _ _ h => by
 have h2 : Lit.int .i64 a = Lit.int .i64 b := h
 injection h2, fun k => trivial⟩
end Go.Proofs.YtfdhofabgdkkkaaGreatDoor
/- Put and Text of the document: the walks. -/
namespace Go.Proofs.YtfdhofabgdkkkaaGreatDoor
open Go.RowKit Go.Fm Go.BigFrame
set_option linter.unusedVariables false
set_option linter.unusedSimpArgs false
def dig (k : Nat) : UInt8 := UInt8.ofNat k
/-- The digits of a number, to the base of 128. -/
def putL (m : Nat) : List UInt8 := if m < 128 then [dig m] else dig (m % 128 + 128) :: putL (m / 128)
termination_by m
decreasing_by omega
def zig (n : Int) : Nat := if n < 0 then 2 * (-(n + 1)).toNat + 1 else 2 * n.toNat
def putS (n : Int) : ByteArray := ⟨(putL (zig n)).toArray⟩
theorem putL_small {m : Nat} (h : m < 128) : putL m = [dig m] := by rw [putL, if_pos h]
theorem putL_big {m : Nat} (h : 128 ≤ m) : putL m = dig (m % 128 + 128) :: putL (m / 128) := by rw [putL, if_neg (by omega)]
theorem putL_len : ∀ (k m : Nat), m < 128 ^ (k + 1) → (putL m).length ≤ k + 1
 | 0, m, h => by rw [putL_small (by simpa using h)]; simp
 | k + 1, m, h => by
  by_cases hm : m < 128
  ·rw [putL_small hm]; simp
  ·rw [putL_big (by omega)]
   have : m / 128 < 128 ^ (k + 1) := by
    rw [Nat.pow_succ] at h
    exact Nat.div_lt_of_lt_mul (by rw [Nat.mul_comm]; exact h)
   have := putL_len k (m / 128) this
   simp; omega
theorem zig_lt {n : Int} (h : (Lit.int .i64 n).wf = true) : zig n < 18446744073709551616 := by
 simp [Lit.wf, IntKind.min, IntKind.max, IntKind.signed, IntKind.bits] at h
 unfold zig
 split <;> omega
theorem putS_size {n : Int} (h : (Lit.int .i64 n).wf = true) : (putS n).size ≤ 10 := by
 have h1 := zig_lt h
 have h2 := putL_len 9 (zig n) (by omega)
 simpa [putS, ByteArray.size] using h2
def byteVal (b : UInt8) : Value := .int .u8 (b.toNat : Int)
theorem byteVal_of {k : Nat} (h : k < 256) : byteVal (dig k) = .int .u8 (k : Int) := by
 unfold byteVal dig
 rw [UInt8.toNat_ofNat_of_lt' h]
theorem info5 : (Tryz.prog.info? 5).map (fun i => (i.zero, i.size, i.bytes)) = some (some (.int .u8 0), 1, 1) := by kernel_rfl
def textS (s : ByteArray) : ByteArray := putS s.size ++ s
theorem len_wf {n : Nat} (h : n ≤ 1000000000) : (Lit.int .i64 (n : Int)).wf = true := by
 simp [Lit.wf, IntKind.min, IntKind.max, IntKind.signed, IntKind.bits]; omega
theorem textS_size {s : ByteArray} (h : s.size ≤ 1000000000) : (textS s).size ≤ 10 + s.size := by
 have := putS_size (len_wf h)
 unfold textS
 rw [ByteArray.size_append]
 omega
end Go.Proofs.YtfdhofabgdkkkaaGreatDoor
