/- Walk of Add. -/
import Derived.Test.YtgbcdgfpmihkcaaDoorW1
import Derived.Test.YtgbcdgfpmihkcaaDoorLoc
import Derived.BigQuiet
import Derived.Deep.QuietTactic
namespace Go.Proofs.YtgbcdgfpmihkcaaDoor
open Go.RowKit Go.Fm Go.BigFrame
set_option linter.unusedSimpArgs false
set_option linter.unusedVariables false

/-- What Add leaves. -/
def AddPost (B : Nat) (w : World) (b : Nat) (S0 : Nat → Prop) (x : Ix) (w' : World) : Prop :=
  ∃ S', Ix.rep B w' b x S' ∧ (∀ k, S' k → S0 k ∨ w.heap.size ≤ k) ∧ Fr S0 w w'

theorem info3 : (Tryd.prog.info? 3).map (fun i => (i.zero, i.size, i.bytes)) = some (some (.int .i64 0), 1, 8) := by kernel_rfl
theorem info49 : (Tryd.prog.info? 86).map (fun i => (i.zero, i.size, i.bytes)) = some (some (.complex .f64 0 0), 1, 16) := by kernel_rfl

set_option maxHeartbeats 400000 in
theorem add_nil (o p t : Int) (w : World) :
    Calls Tryd.prog 39 #[.pointer none, .int .i64 o, .int .i64 p, .int .i64 t] w fun e w' => e = .returned (.int .i64 1) ∧ w = w' := by
  go_enter Tryd.func39, Tryd.ntmps39
  go_wp2
  go_ret
  exact ⟨rfl, rfl⟩

set_option maxHeartbeats 400000 in
theorem add_out (b : Addr) (o p t : Int) (w : World) (h : ¬ ((0 ≤ o ∧ o ≤ 1099511627776) ∧ (0 ≤ p ∧ p ≤ 1099511627776) ∧ (0 ≤ t ∧ t ≤ 1099511627776))) :
    Calls Tryd.prog 39 #[.pointer (some b), .int .i64 o, .int .i64 p, .int .i64 t] w fun e w' => e = .returned (.int .i64 1) ∧ Fr (fun _ => False) w w' := by
  go_enter Tryd.func39, Tryd.ntmps39
  go_wp2_with fail
  refine (iwithin_no _ o p t _ ?_ ?_ ?_ h).mono ?_
  all_goals try (simp; done)
  rintro e w' ⟨rfl, rfl⟩
  go_wp2_with fail
  go_ret
  exact ⟨rfl, (Fr.refl _ _).alloc _⟩

set_option maxHeartbeats 400000 in
theorem add_low (b : Nat) (every : Nat) (sp tm : Value) (lo lp latest : Nat) (o p t : Nat) (w : World) (hb : w.heap[b]? = some (.cells (ixCells every sp tm true lo lp latest) 88 (0, 0)))
    (ho : o ≤ big) (hp : p ≤ big) (ht : t ≤ big) (hlo : lo ≤ big) (hlp : lp ≤ big) (h : o ≤ lo ∨ p ≤ lp) :
    Calls Tryd.prog 39 #[.pointer (some ⟨b, 0, none⟩), .int .i64 o, .int .i64 p, .int .i64 t] w fun e w' => e = .returned (.int .i64 1) ∧ Fr (fun _ => False) w w' := by
  have hlt := lt_of_heap hb
  have c3 : w.cell? ⟨b, 3, none⟩ = some (.bool true) := by simp [World.cell?, hb, ixCells]
  have c4 : w.cell? ⟨b, 4, none⟩ = some (spotV lo lp) := by simp [World.cell?, hb, ixCells]
  clear hb
  unfold big at ho hp ht
  by_cases h1 : o ≤ lo
  · clear h
    go_enter Tryd.func39, Tryd.ntmps39
    go_wp2_with fail
    refine (within_any _ o p t _ ?_ ?_ ?_ ?_ ?_ ?_).mono ?_
    all_goals try (first | (simp; done) | omega)
    rintro e w' ⟨rfl, rfl⟩
    go_wp2_with fail
    refine (offset_any _ _ hlo _).mono ?_
    rintro e w' ⟨rfl, rfl⟩
    go_wp2_with fail
    go_ret
    exact ⟨rfl, (Fr.refl _ _).alloc _⟩
  · have h2 : p ≤ lp := h.resolve_left h1
    have h1' : lo < o := by omega
    clear h h1
    go_enter Tryd.func39, Tryd.ntmps39
    go_wp2_with fail
    refine (within_any _ o p t _ ?_ ?_ ?_ ?_ ?_ ?_).mono ?_
    all_goals try (first | (simp; done) | omega)
    rintro e w' ⟨rfl, rfl⟩
    go_wp2_with fail
    refine (offset_any _ _ hlo _).mono ?_
    rintro e w' ⟨rfl, rfl⟩
    go_wp2_with fail
    refine (pos_any _ _ hlp _).mono ?_
    rintro e w' ⟨rfl, rfl⟩
    go_wp2_with fail
    go_ret
    exact ⟨rfl, (Fr.refl _ _).alloc _⟩

end Go.Proofs.YtgbcdgfpmihkcaaDoor
