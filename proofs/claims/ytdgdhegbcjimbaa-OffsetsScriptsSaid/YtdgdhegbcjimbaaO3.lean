/- The argument opened: a slice of operations. -/
import Derived.Test.YtdgdhegbcjimbaaO1
import Derived.Test.YtdgdhegbcjimbaaK1
namespace Go.Proofs.Ytdgdhegbcjimbaa
open Go.ChangeShapes Go.WideShapes Go.ChangeAt Go.RowKit Go.Joins Go.Fm Go.Deep
set_option linter.unusedVariables false
set_option linter.unusedSimpArgs false

theorem list_of_lt {α : Type} {p : Nat → α → Prop} : ∀ {n : Nat}, (∀ i, i < n → ∃ x, p i x) → ∃ l : List α, l.length = n ∧ ∀ i x, l[i]? = some x → p i x
  | 0, _ => ⟨[], rfl, fun i x h => by simp at h⟩
  | n + 1, h => by
    obtain ⟨l, hl, hp⟩ := list_of_lt (n := n) fun i hi => h i (by omega)
    obtain ⟨x, hx⟩ := h n (by omega)
    refine ⟨l ++ [x], by simp [hl], fun i y hy => ?_⟩
    rcases Nat.lt_or_ge i n with hi | hi
    · rw [List.getElem?_append_left (by omega)] at hy; exact hp i y hy
    · rw [List.getElem?_append_right (by omega), hl] at hy
      have : i - n = 0 := by
        have := (List.getElem?_eq_some_iff.1 hy).1
        simp at this; omega
      rw [this] at hy
      simp at hy
      subst hy
      have : i = n := by omega
      subst this
      exact hx
theorem add_off (a : Addr) (j : Nat) (h : 0 < j) : a.add j = ⟨a.block, a.off + j, none⟩ := by unfold Addr.add; rw [if_neg (by omega)]
theorem add_zero (a : Addr) : a.add 0 = a := by simp [Addr.add]

/-- An operation, and where its record's headers lie. -/
structure Opn where
  o : Opv
  hb : Option Addr
  n : Nat
  cap : Nat
def Opn.k (x : Opn) : Key := ⟨x.o.g, x.o.t, x.o.i⟩
def Opn.hv (x : Opn) : Value := .slice x.hb x.n x.cap
structure OpAt (w : World) (p : Addr) (x : Opn) : Prop where
  c0 : w.cell? p = some (.int .i64 x.o.d)
  c1 : w.cell? ⟨p.block, p.off + 1, none⟩ = some (.string x.o.g)
  c2 : w.cell? ⟨p.block, p.off + 2, none⟩ = some (.string x.o.t)
  c3 : w.cell? ⟨p.block, p.off + 3, none⟩ = some (.int .i64 x.o.i)
  c4 : w.cell? ⟨p.block, p.off + 4, none⟩ = some (.int .i64 x.o.a)
  c5 : w.cell? ⟨p.block, p.off + 5, none⟩ = some (.int .i64 x.o.r.at')
  c6 : w.cell? ⟨p.block, p.off + 6, none⟩ = some (.int .i64 x.o.r.tm)
  c7 : w.cell? ⟨p.block, p.off + 7, none⟩ = some (.bool x.o.r.bare)
  c8 : w.cell? ⟨p.block, p.off + 8, none⟩ = some (.string x.o.r.key)
  c9 : w.cell? ⟨p.block, p.off + 9, none⟩ = some (.bool x.o.r.gone)
  c10 : w.cell? ⟨p.block, p.off + 10, none⟩ = some (.string x.o.r.val)
  c11 : w.cell? ⟨p.block, p.off + 11, none⟩ = some (.slice x.hb x.n x.cap)
theorem OpAt.old {w w' : World} {p : Addr} {x : Opn} (h : OpAt w p x) (hf : Fr (fun _ => False) w w') : OpAt w' p x :=
  ⟨hf.cel h.c0, hf.cel h.c1, hf.cel h.c2, hf.cel h.c3, hf.cel h.c4, hf.cel h.c5, hf.cel h.c6, hf.cel h.c7, hf.cel h.c8, hf.cel h.c9, hf.cel h.c10, hf.cel h.c11⟩
def OpsR (w : World) (oa : Option Addr) (os : List Opn) : Prop := ∀ k x, os[k]? = some x → ∃ a, oa = some a ∧ OpAt w (a.add (k * 12)) x ∧ OpOK x.o
theorem OpsR.old {w w' : World} {oa : Option Addr} {os : List Opn} (h : OpsR w oa os) (hf : Fr (fun _ => False) w w') : OpsR w' oa os := fun k x hx => by
  obtain ⟨a, h1, h2, h3⟩ := h k x hx
  exact ⟨a, h1, h2.old hf, h3⟩

set_option maxRecDepth 100000
section
variable {H : Type} {enc : TypeId × Value → H} {W : World} {spare : Nat → Bool} {held : Bool}
theorem ops_of {m : Nat} {v : Value} {y : DataW H × List MemPlace} (h : DataW.trod enc Try.prog W 0 spare held m 22 [v] = some y) : ∃ oa cap os, v = .slice oa os.length cap ∧ OpsR W oa os := by
  rcases open_slice Try.underlying22 h with ⟨h0, _⟩ | ⟨a, len, cap, m, n, D, Pl, h0, _, hl, _, hm, _, hel⟩
  · injection h0 with h0 _
    exact ⟨none, 0, [], h0, fun k x hx => by simp at hx⟩
  · injection h0 with h0 _
    subst h0
    have hm' : len ≤ m := by rw [hm]; split <;> omega
    obtain ⟨l, hll, hp⟩ := list_of_lt (n := len) (p := fun i (x : Opn) => OpAt W (a.add (i * 12)) x ∧ OpOK x.o) fun i hi => by
      obtain ⟨cs', hc, ht⟩ := hel i (by omega)
      rw [oq34] at hc
      obtain ⟨o, hb, n, cap, rfl, hok⟩ := op_of ht
      obtain ⟨-, -, hg⟩ := World.cells?_some hc
      have g0 := hg 0 (by omega)
      have g1 := hg 1 (by omega)
      have g2 := hg 2 (by omega)
      have g3 := hg 3 (by omega)
      have g4 := hg 4 (by omega)
      have g5 := hg 5 (by omega)
      have g6 := hg 6 (by omega)
      have g7 := hg 7 (by omega)
      have g8 := hg 8 (by omega)
      have g9 := hg 9 (by omega)
      have g10 := hg 10 (by omega)
      have g11 := hg 11 (by omega)
      rw [add_zero] at g0
      rw [add_off _ _ (by omega)] at g1 g2 g3 g4 g5 g6 g7 g8 g9 g10 g11
      exact ⟨⟨o, hb, n, cap⟩, ⟨by simpa [opCells] using g0, by simpa [opCells] using g1, by simpa [opCells] using g2, by simpa [opCells] using g3, by simpa [opCells] using g4, by simpa [opCells] using g5, by simpa [opCells] using g6, by simpa [opCells] using g7, by simpa [opCells] using g8, by simpa [opCells] using g9, by simpa [opCells] using g10, by simpa [opCells] using g11⟩, hok⟩
    exact ⟨some a, cap, l, by rw [hll], fun k x hx => ⟨a, rfl, (hp k x hx).1, (hp k x hx).2⟩⟩
end
end Go.Proofs.Ytdgdhegbcjimbaa
