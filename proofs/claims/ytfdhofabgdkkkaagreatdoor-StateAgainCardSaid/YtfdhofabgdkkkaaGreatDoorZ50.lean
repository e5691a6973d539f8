/- What one that produces is told, and fetched: the laws of one partition. -/
import Derived.Test.YtfdhofabgdkkkaaGreatDoorZ49
import Derived.Test.YtfdhofabgdkkkaaGreatDoorRows
import Derived.Test.YtfdhofabgdkkkaaGreatDoorZ39
import Derived.Deep.Slices
import Derived.ProofKit
import Derived.Lib.SmallJoins
import Derived.Lib.LaidTab
import Derived.MakeChecks
namespace Go.Proofs.YtfdhofabgdkkkaaGreatDoor
open Go.RowKit Go.Fm Go.BigFrame Go.Shelf Go.Maps
set_option linter.unusedVariables false
set_option linter.unusedSimpArgs false
set_option maxRecDepth 100000
section
variable {w w' : World} {S : Nat → Prop}
/-- All blocks of a machine. -/
def MachD.A (m : MachD) (i : Nat) : Prop := m.B i ∨ ∃ x ∈ m.L, x.2.T i
theorem MachD.A_lt {m : MachD} (h : MachA w m) {i : Nat} (hi : m.A i) : i < w.heap.size := by
 rcases hi with h1 | ⟨x, hx, h1⟩
 ·exact h.low.1 i h1
 ·exact h.low.2 x hx i h1
end
end Go.Proofs.YtfdhofabgdkkkaaGreatDoor
/- The argument opened: batches, a call; the table of steps as the row lays it. -/
namespace Go.Proofs.YtfdhofabgdkkkaaGreatDoor
open Go.ChangeShapes Go.WideShapes Go.ChangeAt Go.RowKit Go.Joins Go.Fm Go.Deep
set_option linter.unusedVariables false
set_option linter.unusedSimpArgs false
theorem steps_of {W : World} (h : laidMetH Tryz.prog [("flotsam/crcc.steps", Rows.laid_flotsam_crcc_steps)] W) : StepsOK W := by
 have h1 : laidMet Tryz.prog [("flotsam/crcc.steps", Lib.tabData .u32 (stepL.map fun (n : Nat) => (n : Int)))] W := by
  rw [MakeChecks.laidMetH_plain _ _ _ (by kernel_rfl)] at h
  exact h
 have hg : Tryz.prog.globalNamed "flotsam/crcc.steps" = some 0 := by kernel_rfl
 have ht := Lib.tabIs_of_head (P := Tryz.prog) (W := W) (n := 16) (e := 247) hg (t := 364) (by kernel_rfl) (by kernel_rfl) (by kernel_rfl) (by kernel_rfl) (by kernel_rfl) h1
 refine ⟨fun k hk => ?_⟩
 rw [ht.cell hg k (by simpa [stepL] using hk)]
 match k, hk with
 | 0, _ => rfl
 | 1, _ => rfl
 | 2, _ => rfl
 | 3, _ => rfl
 | 4, _ => rfl
 | 5, _ => rfl
 | 6, _ => rfl
 | 7, _ => rfl
 | 8, _ => rfl
 | 9, _ => rfl
 | 10, _ => rfl
 | 11, _ => rfl
 | 12, _ => rfl
 | 13, _ => rfl
 | 14, _ => rfl
 | 15, _ => rfl
 | k + 16, hk => omega
theorem add_zero (a : Addr) : a.add 0 = a := by simp [Addr.add]
theorem q3 : Tryz.prog.cellsOf 3 = 1 := by kernel_rfl
theorem q9 : Tryz.prog.cellsOf 9 = 1 := by kernel_rfl
set_option maxRecDepth 100000
section
variable {H : Type} {enc : TypeId × Value → H} {W : World} {spare : Nat → Bool} {held : Bool}
/-- A slice of numbers. -/
def IntsR (w : World) (v : Value) (l : List Int) : Prop := ∃ oa cap, v = .slice oa l.length cap ∧ ∀ (i : Nat) (x : Int), l[i]? = some x → ∃ a, oa = some a ∧ w.cell? (a.add i) = some (.int .i64 x) ∧ (Lit.int .i64 x).wf = true
theorem ints_of {m : Nat} {v : Value} {y : DataW H × List MemPlace} (h : DataW.trod enc Tryz.prog W 0 spare held m 47 [v] = some y) : ∃ l, IntsR W v l := by
 rcases open_slice Tryz.underlying47 h with ⟨h0, _⟩ | ⟨a, len, cap, m, n, D, Pl, h0, _, hl, _, hm, _, hel⟩
 ·injection h0 with h0 _
  exact ⟨[], none, 0, h0, fun i x hi => by simp at hi⟩
 ·injection h0 with h0 _
  subst h0
  have hm' : len ≤ m := by rw [hm]; split <;> omega
  obtain ⟨l, hll, hp⟩ := list_of_lt (n := len) (p := fun i (x : Int) => W.cell? (a.add i) = some (.int .i64 x) ∧ (Lit.int .i64 x).wf = true) fun i hi => by
   obtain ⟨cs', hc, ht⟩ := hel i (by omega)
   rw [q3] at hc
   obtain ⟨x, hx, -, wx⟩ := DataW.trod_int Tryz.underlying3 ht
   subst hx
   obtain ⟨-, -, hg⟩ := World.cells?_some hc
   have g0 := hg 0 (by omega)
   rw [add_zero, Nat.mul_one] at g0
   exact ⟨x, by simpa using g0, wx⟩
  exact ⟨l, some a, cap, by rw [hll], fun i x hx => ⟨a, rfl, (hp i x hx).1, (hp i x hx).2⟩⟩
end
end Go.Proofs.YtfdhofabgdkkkaaGreatDoor
