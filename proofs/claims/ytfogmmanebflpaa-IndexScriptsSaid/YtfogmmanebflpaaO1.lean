/- A slice of items, opened. -/
import Derived.Test.YtfogmmanebflpaaA1
import Derived.Deep.Slices
import Derived.ProofKit
import Derived.Lib.SmallJoins
namespace Go.Proofs.Ytfogmmanebflpaa
open Go.ChangeShapes Go.WideShapes Go.ChangeAt Go.RowKit Go.Joins Go.Fm Go.Deep

theorem add_off (a : Addr) (j : Nat) (h : 0 < j) : a.add j = ⟨a.block, a.off + j, none⟩ := by unfold Addr.add; rw [if_neg (by omega)]

theorem items_of {H : Type} {enc : TypeId × Value → H} {W : World} {spare : Nat → Bool} {held : Bool} {m : Nat} {v : Value} {y : DataW H × List MemPlace} (h : DataW.trod enc Try.prog W 0 spare held m 22 [v] = some y) :
    ∃ oa len cap its, v = .slice oa len cap ∧ Items W oa len its := by
  have h3 : Try.prog.cellsOf 32 = 3 := by kernel_rfl
  rcases open_slice Try.underlying22 h with ⟨h0, _⟩ | ⟨a, len, cap, m, n, D, Pl, h0, _, hl, _, hm, _, hel⟩
  · injection h0 with h0 _
    exact ⟨none, 0, 0, fun _ => (0, 0, 0), h0, fun i hi => absurd hi (Nat.not_lt_zero _)⟩
  · injection h0 with h0 _
    subst h0
    have hm' : len ≤ m := by rw [hm]; split <;> omega
    have hall : ∀ i, i < len → ∃ x : Int × Int × Int, W.cell? (a.add (i * 3)) = some (.int .i64 x.1) ∧ W.cell? ⟨(a.add (i * 3)).block, (a.add (i * 3)).off + 1, none⟩ = some (.int .i64 x.2.1) ∧ W.cell? ⟨(a.add (i * 3)).block, (a.add (i * 3)).off + 2, none⟩ = some (.int .i64 x.2.2) := by
      intro i hi
      obtain ⟨cs', hc, ht⟩ := hel i (by omega)
      rw [h3] at hc
      obtain ⟨y0, y1, y2, n', _, hcl, t0, t1, t2⟩ := trod_struct3 Try.underlying32 ht
      rw [h3] at hcl
      match cs', hcl with
      | [v0, v1, v2], _ =>
        have q3 : Try.prog.cellsOf 3 = 1 := by kernel_rfl
        simp only [q3, List.drop_succ_cons, List.drop_zero, List.take_succ_cons, List.take_zero] at t0 t1 t2
        obtain ⟨n0, e0, -, -⟩ := DataW.trod_int Try.underlying3 t0
        obtain ⟨n1, e1, -, -⟩ := DataW.trod_int Try.underlying3 t1
        obtain ⟨n2, e2, -, -⟩ := DataW.trod_int Try.underlying3 t2
        simp only [List.cons.injEq, and_true] at e0 e1 e2
        subst e0 e1 e2
        obtain ⟨-, -, hg⟩ := World.cells?_some hc
        refine ⟨(n0, n1, n2), ?_, ?_, ?_⟩
        · have := hg 0 (by omega); simpa [Addr.add] using this
        · have := hg 1 (by omega); rw [add_off _ 1 (by omega)] at this; simpa using this
        · have := hg 2 (by omega); rw [add_off _ 2 (by omega)] at this; simpa using this
    obtain ⟨f, hf⟩ := choose_lt hall
    exact ⟨some a, len, cap, f, rfl, fun i hi => ⟨a, rfl, hf i hi⟩⟩
end Go.Proofs.Ytfogmmanebflpaa
