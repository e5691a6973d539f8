/- The argument opened: batches, a call; the table of steps as the row lays it. -/
import Derived.Test.YtfdhofabgdkkkaaGreatDoorRows
import Derived.Test.YtfdhofabgdkkkaaGreatDoorY37
import Derived.Deep.Slices
import Derived.ProofKit
import Derived.Lib.SmallJoins
import Derived.Lib.LaidTab
import Derived.MakeChecks
namespace Go.Proofs.YtfdhofabgdkkkaaGreatDoor
open Go.ChangeShapes Go.WideShapes Go.ChangeAt Go.RowKit Go.Joins Go.Fm Go.Deep
set_option linter.unusedVariables false
set_option linter.unusedSimpArgs false
theorem steps_of {W : World} (h : laidMetH Tryz.prog [("flotsam/crcc.steps", Rows.laid_flotsam_crcc_steps)] W) : StepsOK W := by
 have h1 : laidMet Tryz.prog [("flotsam/crcc.steps", Lib.tabData .u32 (stepL.map fun (n : Nat) => (n : Int)))] W := by
  rw [MakeChecks.laidMetH_plain _ _ _ (by kernel_rfl)] at h
  exact h
 have hg : Tryz.prog.globalNamed "flotsam/crcc.steps" = some 0 := by kernel_rfl
 have ht := Lib.tabIs_of_head (P := Tryz.prog) (W := W) (n := 16) (e := 247) hg (t := 364) (by kernel_rfl) (by kernel_rfl) (by kernel_rfl) (by kernel_rfl) (by kernel_rfl) h1
 refine ⟨fun k hk => ?_⟩
 rw [ht.cell hg k (by simpa [stepL] using hk)]
 match k, hk with
 | 0, _ => rfl
 | 1, _ => rfl
 | 2, _ => rfl
 | 3, _ => rfl
 | 4, _ => rfl
 | 5, _ => rfl
 | 6, _ => rfl
 | 7, _ => rfl
 | 8, _ => rfl
 | 9, _ => rfl
 | 10, _ => rfl
 | 11, _ => rfl
 | 12, _ => rfl
 | 13, _ => rfl
 | 14, _ => rfl
 | 15, _ => rfl
 | k + 16, hk => omega
theorem add_off (a : Addr) (j : Nat) (h : 0 < j) : a.add j = ⟨a.block, a.off + j, none⟩ := by unfold Addr.add; rw [if_neg (by omega)]
theorem add_zero (a : Addr) : a.add 0 = a := by simp [Addr.add]
theorem q3 : Tryz.prog.cellsOf 3 = 1 := by kernel_rfl
theorem q4 : Tryz.prog.cellsOf 4 = 1 := by kernel_rfl
theorem q9 : Tryz.prog.cellsOf 9 = 1 := by kernel_rfl
theorem q22 : Tryz.prog.cellsOf 33 = 1 := by kernel_rfl
theorem q42 : Tryz.prog.cellsOf 93 = 1 := by kernel_rfl
theorem q46 : Tryz.prog.cellsOf 97 = 2 := by kernel_rfl
theorem q44 : Tryz.prog.cellsOf 95 = 7 := by kernel_rfl
theorem q24 : Tryz.prog.cellsOf 35 = 6 := by kernel_rfl
set_option maxRecDepth 100000
section
variable {H : Type} {enc : TypeId × Value → H} {W : World} {spare : Nat → Bool} {held : Bool}
theorem hds_of {m : Nat} {v : Value} {y : DataW H × List MemPlace} (h : DataW.trod enc Tryz.prog W 0 spare held m 93 [v] = some y) : ∃ hs, HdsR (fun _ => True) W v hs := by
 rcases open_slice Tryz.underlying93 h with ⟨h0, _⟩ | ⟨a, len, cap, m, n, D, Pl, h0, _, hl, _, hm, _, hel⟩
 ·injection h0 with h0 _
  exact ⟨[], none, 0, h0, fun i x hi => by simp at hi⟩
 ·injection h0 with h0 _
  subst h0
  have hm' : len ≤ m := by rw [hm]; split <;> omega
  obtain ⟨l, hll, hp⟩ := list_of_lt (n := len) (p := fun i (x : Hdr) => W.cell? (a.add (i * 2)) = some (.string x.key) ∧ W.cell? ⟨(a.add (i * 2)).block, (a.add (i * 2)).off + 1, none⟩ = some (.string x.val)) fun i hi => by
   obtain ⟨cs', hc, ht⟩ := hel i (by omega)
   rw [q46] at hc
   obtain ⟨xs, n', _, _, hcl, hxl, hf⟩ := DataW.trod_struct Tryz.underlying97 ht
   rw [q46] at hcl
   have hx2 : xs.length = 2 := hxl.trans (by kernel_rfl)
   clear hxl
   match cs', hcl, xs, hx2 with
   | [v0, v1], _, [y0, y1], _ =>
    have t0 := hf 0
    have t1 := hf 1
    simp [q9] at t0 t1
    obtain ⟨s0, e0, -, -⟩ := DataW.trod_string Tryz.underlying9 t0
    obtain ⟨s1, e1, -, -⟩ := DataW.trod_string Tryz.underlying9 t1
    simp only [List.cons.injEq, and_true] at e0 e1
    subst e0 e1
    obtain ⟨-, -, hg⟩ := World.cells?_some hc
    have g0 := hg 0 (by omega)
    have g1 := hg 1 (by omega)
    rw [add_zero] at g0
    rw [add_off _ 1 (by omega)] at g1
    exact ⟨⟨s0, s1⟩, by simpa using g0, by simpa using g1⟩
  exact ⟨l, some a, cap, by rw [hll], fun k x hx => ⟨a, rfl, trivial, hp k x hx⟩⟩
theorem recs_of {m : Nat} {v : Value} {y : DataW H × List MemPlace} (h : DataW.trod enc Tryz.prog W 0 spare held m 33 [v] = some y) : ∃ rs, RecsR (fun _ => True) W v rs := by
 rcases open_slice Tryz.underlying33 h with ⟨h0, _⟩ | ⟨a, len, cap, m, n, D, Pl, h0, _, hl, _, hm, _, hel⟩
 ·injection h0 with h0 _
  exact ⟨[], none, 0, h0, fun i x hi => by simp at hi⟩
 ·injection h0 with h0 _
  subst h0
  have hm' : len ≤ m := by rw [hm]; split <;> omega
  obtain ⟨l, hll, hp⟩ := list_of_lt (n := len) (p := fun i (x : Rec) => ∃ hv, RecAt W (a.add (i * 7)) x hv ∧ HdsR (fun _ => True) W hv x.hs) fun i hi => by
   obtain ⟨cs', hc, ht⟩ := hel i (by omega)
   rw [q44] at hc
   obtain ⟨xs, n', _, _, hcl, hxl, hf⟩ := DataW.trod_struct Tryz.underlying95 ht
   rw [q44] at hcl
   have hx7 : xs.length = 7 := hxl.trans (by kernel_rfl)
   clear hxl
   match cs', hcl, xs, hx7 with
   | [v0, v1, v2, v3, v4, v5, v6], _, [y0, y1, y2, y3, y4, y5, y6], _ =>
    have t0 := hf 0
    have t1 := hf 1
    have t2 := hf 2
    have t3 := hf 3
    have t4 := hf 4
    have t5 := hf 5
    have t6 := hf 6
    simp [q3, q4, q9, q42] at t0 t1 t2 t3 t4 t5 t6
    obtain ⟨n0, e0, -, -⟩ := DataW.trod_int Tryz.underlying3 t0
    obtain ⟨n1, e1, -, -⟩ := DataW.trod_int Tryz.underlying3 t1
    obtain ⟨n2, e2, -⟩ := DataW.trod_bool Tryz.underlying4 t2
    obtain ⟨n3, e3, -, -⟩ := DataW.trod_string Tryz.underlying9 t3
    obtain ⟨n4, e4, -⟩ := DataW.trod_bool Tryz.underlying4 t4
    obtain ⟨n5, e5, -, -⟩ := DataW.trod_string Tryz.underlying9 t5
    obtain ⟨hs, h6⟩ := hds_of t6
    simp only [List.cons.injEq, and_true] at e0 e1 e2 e3 e4 e5
    subst e0 e1 e2 e3 e4 e5
    obtain ⟨-, -, hg⟩ := World.cells?_some hc
    have g0 := hg 0 (by omega)
    have g1 := hg 1 (by omega)
    have g2 := hg 2 (by omega)
    have g3 := hg 3 (by omega)
    have g4 := hg 4 (by omega)
    have g5 := hg 5 (by omega)
    have g6 := hg 6 (by omega)
    rw [add_zero] at g0
    rw [add_off _ _ (by omega)] at g1 g2 g3 g4 g5 g6
    exact ⟨⟨n0, n1, n2, n3, n4, n5, hs⟩, v6, ⟨by simpa using g0, by simpa using g1, by simpa using g2, by simpa using g3, by simpa using g4, by simpa using g5, by simpa using g6⟩, h6⟩
  refine ⟨l, some a, cap, by rw [hll], fun k x hx => ?_⟩
  obtain ⟨hv, h1, h2⟩ := hp k x hx
  exact ⟨a, hv, rfl, trivial, h1, h2⟩
theorem bats_of {m : Nat} {v : Value} {y : DataW H × List MemPlace} (h : DataW.trod enc Tryz.prog W 0 spare held m 22 [v] = some y) : ∃ bs, BatsR (fun _ => True) W v bs ∧ ∀ b ∈ bs, (Lit.int .i64 b.prod).wf = true := by
 rcases open_slice Tryz.underlying22 h with ⟨h0, _⟩ | ⟨a, len, cap, m, n, D, Pl, h0, _, hl, _, hm, _, hel⟩
 ·injection h0 with h0 _
  exact ⟨[], ⟨none, 0, h0, fun i x hi => by simp at hi⟩, fun b hb => by cases hb⟩
 ·injection h0 with h0 _
  subst h0
  have hm' : len ≤ m := by rw [hm]; split <;> omega
  obtain ⟨l, hll, hp⟩ := list_of_lt (n := len) (p := fun i (x : Bat) => (∃ hv, BatAt W (a.add (i * 6)) x hv ∧ RecsR (fun _ => True) W hv x.recs) ∧ (Lit.int .i64 x.prod).wf = true) fun i hi => by
   obtain ⟨cs', hc, ht⟩ := hel i (by omega)
   rw [q24] at hc
   obtain ⟨xs, n', _, _, hcl, hxl, hf⟩ := DataW.trod_struct Tryz.underlying35 ht
   rw [q24] at hcl
   have hx6 : xs.length = 6 := hxl.trans (by kernel_rfl)
   clear hxl
   match cs', hcl, xs, hx6 with
   | [v0, v1, v2, v3, v4, v5], _, [y0, y1, y2, y3, y4, y5], _ =>
    have t0 := hf 0
    have t1 := hf 1
    have t2 := hf 2
    have t3 := hf 3
    have t4 := hf 4
    have t5 := hf 5
    simp [q3, q22] at t0 t1 t2 t3 t4 t5
    obtain ⟨n0, e0, -, -⟩ := DataW.trod_int Tryz.underlying3 t0
    obtain ⟨n1, e1, -, -⟩ := DataW.trod_int Tryz.underlying3 t1
    obtain ⟨n2, e2, -, w2⟩ := DataW.trod_int Tryz.underlying3 t2
    obtain ⟨n3, e3, -, -⟩ := DataW.trod_int Tryz.underlying3 t3
    obtain ⟨n4, e4, -, -⟩ := DataW.trod_int Tryz.underlying3 t4
    obtain ⟨rs, h5⟩ := recs_of t5
    simp only [List.cons.injEq, and_true] at e0 e1 e2 e3 e4
    subst e0 e1 e2 e3 e4
    obtain ⟨-, -, hg⟩ := World.cells?_some hc
    have g0 := hg 0 (by omega)
    have g1 := hg 1 (by omega)
    have g2 := hg 2 (by omega)
    have g3 := hg 3 (by omega)
    have g4 := hg 4 (by omega)
    have g5 := hg 5 (by omega)
    rw [add_zero] at g0
    rw [add_off _ _ (by omega)] at g1 g2 g3 g4 g5
    exact ⟨⟨n0, n1, n2, n3, n4, rs⟩, ⟨v5, ⟨by simpa using g0, by simpa using g1, by simpa using g2, by simpa using g3, by simpa using g4, by simpa using g5⟩, h5⟩, w2⟩
  refine ⟨l, ⟨some a, cap, by rw [hll], fun k x hx => ?_⟩, fun b hb => ?_⟩
  ·obtain ⟨⟨hv, h1, h2⟩, -⟩ := hp k x hx
   exact ⟨a, hv, rfl, trivial, h1, h2⟩
  ·obtain ⟨k, hk⟩ := List.getElem?_of_mem hb
   exact (hp k b hk).2
end
end Go.Proofs.YtfdhofabgdkkkaaGreatDoor
