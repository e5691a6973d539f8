/- The law of a table that is none: the walk. -/
import Derived.Test.YtdgdhegbcjimbaaL1
import Derived.Test.YtdgdhegbcjimbaaT2
import Derived.Test.YtdgdhegbcjimbaaO1
namespace Go.Proofs.Ytdgdhegbcjimbaa
open Go.RowKit Go.Fm Go.BigFrame
set_option linter.unusedVariables false
set_option linter.unusedSimpArgs false

theorem get_nil' (g t : ByteArray) (i : Int) (w : World) : Calls Try.prog 13 #[.pointer none, .agg #[.string g, .string t, .int .i64 i]] w fun e w' => e = .returned (.tuple #[.int .i64 0, .bool false]) ∧ Fr (fun _ => False) w w' := get_nil ⟨g, t, i⟩ w
theorem commit_nil' (g t : ByteArray) (i a : Int) (w : World) : Calls Try.prog 10 #[.pointer none, .agg #[.string g, .string t, .int .i64 i], .int .i64 a] w fun e w' => e = .returned (.int .i64 1) ∧ Fr (fun _ => False) w w' := commit_nil ⟨g, t, i⟩ a w
theorem apply_nil' (rat rtm : Int) (rbare : Bool) (rkey : ByteArray) (rgone : Bool) (rval : ByteArray) (hv : Value) (w : World) : Calls Try.prog 12 #[.pointer none, .agg #[.int .i64 rat, .int .i64 rtm, .bool rbare, .string rkey, .bool rgone, .string rval, hv]] w fun e w' => e = .returned (.int .i64 1) ∧ Fr (fun _ => False) w w' := apply_nil ⟨rat, rtm, rbare, rkey, rgone, rval, []⟩ hv w
set_option maxHeartbeats 8000000 in
theorem nil_walk (o : Opv) (hv : Value) (w : World) : Calls Try.prog 7 #[.agg (opCells o hv).toArray] w fun e w' => e = .returned (.bool true) ∧ Fr (fun _ => False) w w' := by
  obtain ⟨d, g, t, i, a, rat, rtm, rbare, rkey, rgone, rval, rhs⟩ := o
  unfold opCells
  dsimp only
  have hk : ∀ w', Fr (fun _ => False) (w.alloc (.cells #[.int .i64 d, .string g, .string t, .int .i64 i, .int .i64 a, .int .i64 rat, .int .i64 rtm, .bool rbare, .string rkey, .bool rgone, .string rval, hv] 34)) w' → ∀ j, w'.cell? ⟨w.heap.size, j, none⟩ = (#[.int .i64 d, .string g, .string t, .int .i64 i, .int .i64 a, .int .i64 rat, .int .i64 rtm, .bool rbare, .string rkey, .bool rgone, .string rval, hv] : Array Value)[j]? := fun w' hf j =>
    cell_of ((hf.block _ (lt_of_heap (heap_alloc_self w _)) fun h => h).trans (heap_alloc_self w _)) j
  have K := Lib.hid hk
  have F1 := Lib.hid (Fr.same (w.alloc (.cells #[.int .i64 d, .string g, .string t, .int .i64 i, .int .i64 a, .int .i64 rat, .int .i64 rtm, .bool rbare, .string rkey, .bool rgone, .string rval, hv] 34)))
  clear hk
  go_enter Try.func7, Try.ntmps7
  go_wp2_with fail
  refine (new_no 0 (.inl (by decide)) _).mono ?_
  rintro e w1 ⟨rfl, h1⟩
  subst h1
  have c1_1 : (w.alloc (.cells #[.int .i64 d, .string g, .string t, .int .i64 i, .int .i64 a, .int .i64 rat, .int .i64 rtm, .bool rbare, .string rkey, .bool rgone, .string rval, hv] 34)).cell? ⟨w.heap.size, 1, none⟩ = some (Value.string g) := (K.out _ F1.out 1).trans rfl
  have c1_2 : (w.alloc (.cells #[.int .i64 d, .string g, .string t, .int .i64 i, .int .i64 a, .int .i64 rat, .int .i64 rtm, .bool rbare, .string rkey, .bool rgone, .string rval, hv] 34)).cell? ⟨w.heap.size, 2, none⟩ = some (Value.string t) := (K.out _ F1.out 2).trans rfl
  have c1_3 : (w.alloc (.cells #[.int .i64 d, .string g, .string t, .int .i64 i, .int .i64 a, .int .i64 rat, .int .i64 rtm, .bool rbare, .string rkey, .bool rgone, .string rval, hv] 34)).cell? ⟨w.heap.size, 3, none⟩ = some (Value.int .i64 i) := (K.out _ F1.out 3).trans rfl
  have c1_4 : (w.alloc (.cells #[.int .i64 d, .string g, .string t, .int .i64 i, .int .i64 a, .int .i64 rat, .int .i64 rtm, .bool rbare, .string rkey, .bool rgone, .string rval, hv] 34)).cell? ⟨w.heap.size, 4, none⟩ = some (Value.int .i64 a) := (K.out _ F1.out 4).trans rfl
  go_wp2_with fail
  refine (get_nil' _ _ _ _).mono ?_
  rintro e w2 ⟨rfl, hf2⟩
  have F2 := Lib.hid (F1.out.tr hf2)
  have c2_1 : w2.cell? ⟨w.heap.size, 1, none⟩ = some (Value.string g) := (K.out _ F2.out 1).trans rfl
  have c2_2 : w2.cell? ⟨w.heap.size, 2, none⟩ = some (Value.string t) := (K.out _ F2.out 2).trans rfl
  have c2_3 : w2.cell? ⟨w.heap.size, 3, none⟩ = some (Value.int .i64 i) := (K.out _ F2.out 3).trans rfl
  have c2_4 : w2.cell? ⟨w.heap.size, 4, none⟩ = some (Value.int .i64 a) := (K.out _ F2.out 4).trans rfl
  clear hf2
  go_wp2_with (first
    | (go_at_call 10; refine (commit_nil' _ _ _ _ _).mono ?_; rintro e w3 ⟨rfl, hf3⟩; have F3 := Lib.hid (F2.out.tr hf3); have c3_1 : w3.cell? ⟨w.heap.size, 1, none⟩ = some (Value.string g) := (K.out _ F3.out 1).trans rfl; have c3_2 : w3.cell? ⟨w.heap.size, 2, none⟩ = some (Value.string t) := (K.out _ F3.out 2).trans rfl; clear hf3)
    | (go_at_call 15; refine (forget_nil _ _).mono ?_; rintro e w4 ⟨rfl, hf4⟩; have F4 := Lib.hid (F3.out.tr hf4); have c4_2 : w4.cell? ⟨w.heap.size, 2, none⟩ = some (Value.string t) := (K.out _ F4.out 2).trans rfl; have c4_5 : w4.cell? ⟨w.heap.size, 5, none⟩ = some (Value.int .i64 rat) := (K.out _ F4.out 5).trans rfl; have c4_6 : w4.cell? ⟨w.heap.size, 6, none⟩ = some (Value.int .i64 rtm) := (K.out _ F4.out 6).trans rfl; have c4_7 : w4.cell? ⟨w.heap.size, 7, none⟩ = some (Value.bool rbare) := (K.out _ F4.out 7).trans rfl; have c4_8 : w4.cell? ⟨w.heap.size, 8, none⟩ = some (Value.string rkey) := (K.out _ F4.out 8).trans rfl; have c4_9 : w4.cell? ⟨w.heap.size, 9, none⟩ = some (Value.bool rgone) := (K.out _ F4.out 9).trans rfl; have c4_10 : w4.cell? ⟨w.heap.size, 10, none⟩ = some (Value.string rval) := (K.out _ F4.out 10).trans rfl; have c4_11 : w4.cell? ⟨w.heap.size, 11, none⟩ = some (hv) := (K.out _ F4.out 11).trans rfl; clear hf4)
    | (go_at_call 18; refine (drop_nil _ _).mono ?_; rintro e w5 ⟨rfl, hf5⟩; have F5 := Lib.hid (F4.out.tr hf5); have c5_5 : w5.cell? ⟨w.heap.size, 5, none⟩ = some (Value.int .i64 rat) := (K.out _ F5.out 5).trans rfl; have c5_6 : w5.cell? ⟨w.heap.size, 6, none⟩ = some (Value.int .i64 rtm) := (K.out _ F5.out 6).trans rfl; have c5_7 : w5.cell? ⟨w.heap.size, 7, none⟩ = some (Value.bool rbare) := (K.out _ F5.out 7).trans rfl; have c5_8 : w5.cell? ⟨w.heap.size, 8, none⟩ = some (Value.string rkey) := (K.out _ F5.out 8).trans rfl; have c5_9 : w5.cell? ⟨w.heap.size, 9, none⟩ = some (Value.bool rgone) := (K.out _ F5.out 9).trans rfl; have c5_10 : w5.cell? ⟨w.heap.size, 10, none⟩ = some (Value.string rval) := (K.out _ F5.out 10).trans rfl; have c5_11 : w5.cell? ⟨w.heap.size, 11, none⟩ = some (hv) := (K.out _ F5.out 11).trans rfl; clear hf5)
    | (go_at_call 14; refine (keys_nil _).mono ?_; rintro e w6 ⟨rfl, rfl⟩)
    | (go_at_call 12; refine (apply_nil' _ _ _ _ _ _ _ _).mono ?_; rintro e w6 ⟨rfl, hf6⟩; have F6 := Lib.hid (F5.out.tr hf6); clear hf6)
    | (go_at_call 8; refine (live_walk _).mono ?_; rintro e w7 ⟨rfl, hf7⟩; have F7 := Lib.hid (F6.out.tr hf7); clear hf7))
  go_ret
  exact ⟨rfl, ((Fr.same w).alloc _).tr F7.out⟩
end Go.Proofs.Ytdgdhegbcjimbaa
