/- The argument opened: an operation, and a slice of them. -/
import Derived.Test.YtdgdhegbcjimbaaM1
import Derived.Test.YtdgdhegbcjimbaaRows
import Derived.Deep.Slices
import Derived.ProofKit
import Derived.Lib.SmallJoins
namespace Go.Proofs.Ytdgdhegbcjimbaa
open Go.ChangeShapes Go.WideShapes Go.ChangeAt Go.RowKit Go.Joins Go.Fm Go.Deep
set_option linter.unusedVariables false
set_option linter.unusedSimpArgs false

structure Opv where
  d : Int
  g : ByteArray
  t : ByteArray
  i : Int
  a : Int
  r : Rec
def opCells (o : Opv) (hv : Value) : List Value := [.int .i64 o.d, .string o.g, .string o.t, .int .i64 o.i, .int .i64 o.a, .int .i64 o.r.at', .int .i64 o.r.tm, .bool o.r.bare, .string o.r.key, .bool o.r.gone, .string o.r.val, hv]
structure OpOK (o : Opv) : Prop where
  d : (Lit.int .i64 o.d).wf = true
  g : o.g.size ≤ maxLen
  t : o.t.size ≤ maxLen
  i : (Lit.int .i64 o.i).wf = true
  a : (Lit.int .i64 o.a).wf = true
  rk : o.r.key.size ≤ maxLen
  rv : o.r.val.size ≤ maxLen
theorem oq3 : Try.prog.cellsOf 3 = 1 := by kernel_rfl
theorem oq4 : Try.prog.cellsOf 4 = 1 := by kernel_rfl
theorem oq9 : Try.prog.cellsOf 9 = 1 := by kernel_rfl
theorem oq29 : Try.prog.cellsOf 29 = 2 := by kernel_rfl
theorem oq30 : Try.prog.cellsOf 30 = 1 := by kernel_rfl
theorem oq32 : Try.prog.cellsOf 32 = 7 := by kernel_rfl
theorem oq34 : Try.prog.cellsOf 34 = 12 := by kernel_rfl

set_option maxRecDepth 100000
section
variable {H : Type} {enc : TypeId × Value → H} {W : World} {spare : Nat → Bool} {held : Bool}
theorem hv_of {m : Nat} {v : Value} {y : DataW H × List MemPlace} (h : DataW.trod enc Try.prog W 0 spare held m 30 [v] = some y) : ∃ oa n cap, v = .slice oa n cap := by
  rcases open_slice Try.underlying30 h with ⟨h0, _⟩ | ⟨a, len, cap, m, n, D, Pl, h0, _⟩
  · injection h0 with h0 _; exact ⟨_, _, _, h0⟩
  · injection h0 with h0 _; exact ⟨_, _, _, h0⟩
set_option maxHeartbeats 4000000 in
theorem op_of {m : Nat} {cs : List Value} {y : DataW H × List MemPlace} (h : DataW.trod enc Try.prog W 0 spare held m 34 cs = some y) :
    ∃ o oa n cap, cs = opCells o (.slice oa n cap) ∧ OpOK o := by
  obtain ⟨xs, n', _, _, hcl, hxl, hf⟩ := DataW.trod_struct Try.underlying34 h
  rw [oq34] at hcl
  have hx2 : xs.length = 5 := hxl.trans (by kernel_rfl)
  clear hxl h
  match cs, hcl, xs, hx2 with
  | [v0, v1, v2, v3, v4, v5, v6, v7, v8, v9, v10, v11], _, [y0, y1, y2, y3, y4], _ =>
    have t0 := hf 0
    have t1 := hf 1
    have t2 := hf 2
    have t3 := hf 3
    have t4 := hf 4
    clear hf
    simp [oq3, oq9, oq29, oq32] at t0 t1 t2 t3 t4
    obtain ⟨n0, e0, -, w0⟩ := DataW.trod_int Try.underlying3 t0
    obtain ⟨s1, e1, -, w1⟩ := DataW.trod_string Try.underlying9 t1
    obtain ⟨n3, e3, -, w3⟩ := DataW.trod_int Try.underlying3 t3
    simp only [List.cons.injEq, and_true] at e0 e1 e3
    subst e0 e1 e3
    clear t0 t1 t3
    obtain ⟨xs, n', _, _, -, hxl, hf⟩ := DataW.trod_struct Try.underlying29 t2
    have hx2 : xs.length = 2 := hxl.trans (by kernel_rfl)
    clear hxl t2
    match xs, hx2 with
    | [z0, z1], _ =>
      have t0 := hf 0
      have t1 := hf 1
      simp [oq3, oq9] at t0 t1
      clear hf
      obtain ⟨s2, e0, -, w2⟩ := DataW.trod_string Try.underlying9 t0
      obtain ⟨n4, e1, -, w4⟩ := DataW.trod_int Try.underlying3 t1
      simp only [List.cons.injEq, and_true] at e0 e1
      subst e0 e1
      clear t0 t1
      obtain ⟨xs, n', _, _, -, hxl, hf⟩ := DataW.trod_struct Try.underlying32 t4
      have hx2 : xs.length = 7 := hxl.trans (by kernel_rfl)
      clear hxl t4
      match xs, hx2 with
      | [u0, u1, u2, u3, u4, u5, u6], _ =>
        have t0 := hf 0
        have t1 := hf 1
        have t2 := hf 2
        have t3 := hf 3
        have t4 := hf 4
        have t5 := hf 5
        have t6 := hf 6
        clear hf
        simp [oq3, oq9, oq4, oq30] at t0 t1 t2 t3 t4 t5 t6
        obtain ⟨m0, e0, -, -⟩ := DataW.trod_int Try.underlying3 t0
        obtain ⟨m1, e1, -, -⟩ := DataW.trod_int Try.underlying3 t1
        obtain ⟨m2, e2, -⟩ := DataW.trod_bool Try.underlying4 t2
        obtain ⟨m3, e3, -, k3⟩ := DataW.trod_string Try.underlying9 t3
        obtain ⟨m4, e4, -⟩ := DataW.trod_bool Try.underlying4 t4
        obtain ⟨m5, e5, -, k5⟩ := DataW.trod_string Try.underlying9 t5
        obtain ⟨oa, n, cap, e6⟩ := hv_of t6
        simp only [List.cons.injEq, and_true] at e0 e1 e2 e3 e4 e5
        subst e0 e1 e2 e3 e4 e5 e6
        exact ⟨⟨n0, s1, s2, n4, n3, ⟨m0, m1, m2, m3, m4, m5, []⟩⟩, oa, n, cap, rfl, ⟨w0, w1, w2, w4, w3, k3, k5⟩⟩
end
end Go.Proofs.Ytdgdhegbcjimbaa
