/- Walks of the small functions of package index. -/
import Derived.Test.YtgbcdgfpmihkcaaDoorIx
import Derived.WalkKit
import Derived.WalkSpells
import Derived.WalkLawsBesides
import Derived.Lib.Hide
namespace Go.Proofs.YtgbcdgfpmihkcaaDoor
open Go.RowKit

@[go_sem] theorem run_store_complex {P : Program} {a : Addr} {m : Mode} {w : World} (k : FloatKind) (x y : Nat) : (store a (.complex k x y) m).run P w = stored P w a (.complex k x y) m := run_store P w a _ m rfl

set_option maxHeartbeats 400000 in
theorem within_any (b : Nat) (x y z : Int) (w : World) (h0 : w.cell? ⟨b, 0, none⟩ = some (.int .i64 x)) (h1 : w.cell? ⟨b, 1, none⟩ = some (.int .i64 y)) (h2 : w.cell? ⟨b, 2, none⟩ = some (.int .i64 z))
    (hx : 0 ≤ x ∧ x ≤ 1099511627776) (hy : 0 ≤ y ∧ y ≤ 1099511627776) (hz : 0 ≤ z ∧ z ≤ 1099511627776) :
    Calls Tryd.prog 62 #[.slice (some ⟨b, 0, none⟩) 3 3] w fun e w' => e = .returned (.bool true) ∧ w = w' := by
  obtain ⟨hx1, hx2⟩ := hx
  obtain ⟨hy1, hy2⟩ := hy
  obtain ⟨hz1, hz2⟩ := hz
  go_enter Tryd.func62, Tryd.ntmps62
  go_wp2
  refine wp_loop_rounds 4 ?_
  rw [rounds_succ]
  go_wp2
  rw [rounds_succ]
  go_wp2
  rw [rounds_succ]
  go_wp2
  rw [rounds_succ]
  go_wp2
  go_ret
  exact ⟨rfl, rfl⟩

set_option maxHeartbeats 400000 in
theorem iwithin_no (b : Nat) (x y z : Int) (w : World) (h0 : w.cell? ⟨b, 0, none⟩ = some (.int .i64 x)) (h1 : w.cell? ⟨b, 1, none⟩ = some (.int .i64 y)) (h2 : w.cell? ⟨b, 2, none⟩ = some (.int .i64 z))
    (h : ¬ ((0 ≤ x ∧ x ≤ 1099511627776) ∧ (0 ≤ y ∧ y ≤ 1099511627776) ∧ (0 ≤ z ∧ z ≤ 1099511627776))) :
    Calls Tryd.prog 62 #[.slice (some ⟨b, 0, none⟩) 3 3] w fun e w' => e = .returned (.bool false) ∧ w = w' := by
  have hc : (x < 0 ∨ 1099511627776 < x) ∨ ((0 ≤ x ∧ x ≤ 1099511627776) ∧ (y < 0 ∨ 1099511627776 < y)) ∨ ((0 ≤ x ∧ x ≤ 1099511627776) ∧ (0 ≤ y ∧ y ≤ 1099511627776) ∧ (z < 0 ∨ 1099511627776 < z)) := by omega
  clear h
  rcases hc with hx | ⟨⟨hx1, hx2⟩, hy⟩ | ⟨⟨hx1, hx2⟩, ⟨hy1, hy2⟩, hz⟩
  · rcases hx with hx | hx
    all_goals
      go_enter Tryd.func62, Tryd.ntmps62
      go_wp2
      refine wp_loop_rounds 1 ?_
      rw [rounds_succ]
      go_wp2
      go_ret
      exact ⟨rfl, rfl⟩
  · rcases hy with hy | hy
    all_goals
      go_enter Tryd.func62, Tryd.ntmps62
      go_wp2
      refine wp_loop_rounds 2 ?_
      rw [rounds_succ]
      go_wp2
      rw [rounds_succ]
      go_wp2
      go_ret
      exact ⟨rfl, rfl⟩
  · rcases hz with hz | hz
    all_goals
      go_enter Tryd.func62, Tryd.ntmps62
      go_wp2
      refine wp_loop_rounds 3 ?_
      rw [rounds_succ]
      go_wp2
      rw [rounds_succ]
      go_wp2
      rw [rounds_succ]
      go_wp2
      go_ret
      exact ⟨rfl, rfl⟩

theorem spotOf_any (o p : Nat) (w : World) :
    Calls Tryd.prog 64 #[.int .i64 o, .int .i64 p] w fun e w' => e = .returned (spotV o p) ∧ w = w' := by
  have : ∀ w, Calls Tryd.prog 64 #[.int .i64 o, .int .i64 p] w fun e w' => e = .returned (.complex .f64 (FloatKind.f64.nearest o) (FloatKind.f64.nearest p)) ∧ w = w' := by
    intro w
    go_enter Tryd.func64, Tryd.ntmps64
    go_wp2
    go_ret
    exact ⟨rfl, rfl⟩
  exact this w

theorem conv_back (n : Nat) (h : n ≤ big) (w : World) : (convert 126 3 (.float .f64 (near n))).run Tryd.prog w = .ok (.int .i64 n) w := by
  have hb := near_back n h
  have h1 : (n : Int) ≤ IntKind.i64.max := by simp [IntKind.max, IntKind.signed, IntKind.bits]; unfold big at h; omega
  have h2 : IntKind.i64.min ≤ (n : Int) := by simp [IntKind.min, IntKind.signed, IntKind.bits]
  have hf : (Conv.floatToInt .f64 (near n) .i64) = pure (.int .i64 n) := by
    unfold Conv.floatToInt
    simp only [hb, if_pos (And.intro h2 h1)]
  simp [convert, run_underlying Tryd.underlying126, run_underlying Tryd.underlying3, hf]

set_option maxHeartbeats 400000 in
theorem offset_any (o p : Nat) (h : o ≤ big) (w : World) :
    Calls Tryd.prog 53 #[spotV o p] w fun e w' => e = .returned (.int .i64 o) ∧ w = w' := by
  have hc := conv_back o h
  go_enter Tryd.func53, Tryd.ntmps53
  go_wp2
  go_ret
  exact ⟨rfl, rfl⟩

set_option maxHeartbeats 400000 in
theorem pos_any (o p : Nat) (h : p ≤ big) (w : World) :
    Calls Tryd.prog 63 #[spotV o p] w fun e w' => e = .returned (.int .i64 p) ∧ w = w' := by
  have hc := conv_back p h
  go_enter Tryd.func63, Tryd.ntmps63
  go_wp2
  go_ret
  exact ⟨rfl, rfl⟩

set_option maxHeartbeats 400000 in
theorem new_no (n : Int) (w : World) (h : n < 1 ∨ 1000000 < n) :
    Calls Tryd.prog 18 #[.int .i64 n] w fun e w' => e = .returned (.tuple #[.pointer none, .int .i64 1]) ∧ w = w' := by
  rcases h with h | h
  all_goals
    go_enter Tryd.func18, Tryd.ntmps18
    go_wp2
    go_ret2
    exact ⟨rfl, rfl⟩

set_option maxHeartbeats 400000 in
theorem new_walk (n : Int) (w : World) (h1 : 1 ≤ n) (h2 : n ≤ 1000000) :
    Calls Tryd.prog 18 #[.int .i64 n] w fun e w' => e = .returned (.tuple #[.pointer (some ⟨w.heap.size, 0, none⟩), .int .i64 0]) ∧ w' = w.alloc (.cells #[.int .i64 n, .slice none 0 0, .slice none 0 0, .bool false, .complex .f64 0 0, .int .i64 0] 88) := by
  go_enter Tryd.func18, Tryd.ntmps18
  go_wp2
  go_ret2
  exact ⟨rfl, rfl⟩

set_option maxHeartbeats 400000 in
theorem ahead_zero (b : Addr) (w : World) :
    Calls Tryd.prog 43 #[.pointer (some b), .int .i64 0] w fun e w' => e = .returned (.int .i64 0) ∧ w = w' := by
  go_enter Tryd.func43, Tryd.ntmps43
  go_wp2
  go_ret
  exact ⟨rfl, rfl⟩

set_option maxHeartbeats 400000 in
theorem ahead_some (b g : Nat) (n cap k : Nat) (o p : Nat) (w : World) (hk : k < n) (hn : n ≤ 1000) (h1 : w.cell? ⟨b, 1, none⟩ = some (.slice (some ⟨g, 0, none⟩) n cap)) (h2 : w.cell? ⟨g, k, none⟩ = some (spotV o p)) (hp : p ≤ big) :
    Calls Tryd.prog 43 #[.pointer (some ⟨b, 0, none⟩), .int .i64 ((k : Int) + 1)] w fun e w' => e = .returned (.int .i64 p) ∧ w = w' := by
  have hz : (((k : Int) + 1) == 0) = false := by rw [beq_eq_false_iff_ne]; omega
  go_enter Tryd.func43, Tryd.ntmps43
  go_wp2_with fail
  refine (pos_any _ _ hp _).mono ?_
  rintro e w' ⟨rfl, rfl⟩
  go_wp2
  go_ret
  exact ⟨rfl, rfl⟩
end Go.Proofs.YtgbcdgfpmihkcaaDoor
