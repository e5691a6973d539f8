/- Append, Sync, Base, End, Size of a segment: the walks. -/
import Derived.Test.YtgbcdgfpmihkcaaDoorG3
namespace Go.Proofs.YtgbcdgfpmihkcaaDoor
open Go.RowKit Go.Fm Go.BigFrame Go.Shelf Go.Maps
set_option linter.unusedVariables false
set_option linter.unusedSimpArgs false
set_option maxRecDepth 100000

section
variable {B : Nat} {w : World} {sb db : Nat} {nm : ByteArray} {s : Seg} {S : Nat → Prop}
theorem Sg.cells (h : Sg B w sb db nm s S) : ∃ bv ib, w.heap[sb]? = some (segObj db nm s bv ib) := by
  obtain ⟨bv, ib, K, T, V, -⟩ := h
  exact ⟨bv, ib, V.hb⟩
theorem sbase_walk (h : Sg B w sb db nm s S) : Calls Tryd.prog 11 #[.pointer (some ⟨sb, 0, none⟩)] w fun e w' => e = .returned (.int .i64 s.base) ∧ w = w' := by
  obtain ⟨bv, ib, hb⟩ := h.cells
  have c : w.cell? ⟨sb, 2, none⟩ = some (.int .i64 s.base) := (cell_of hb 2).trans rfl
  clear h hb
  go_enter Tryd.func11, Tryd.ntmps11
  go_wp2_with fail
  go_ret
  exact ⟨rfl, rfl⟩
theorem send_walk (h : Sg B w sb db nm s S) : Calls Tryd.prog 12 #[.pointer (some ⟨sb, 0, none⟩)] w fun e w' => e = .returned (.int .i64 s.end') ∧ w = w' := by
  obtain ⟨bv, ib, hb⟩ := h.cells
  have c : w.cell? ⟨sb, 3, none⟩ = some (.int .i64 s.end') := (cell_of hb 3).trans rfl
  clear h hb
  go_enter Tryd.func12, Tryd.ntmps12
  go_wp2_with fail
  go_ret
  exact ⟨rfl, rfl⟩
theorem ssize_walk (h : Sg B w sb db nm s S) : Calls Tryd.prog 13 #[.pointer (some ⟨sb, 0, none⟩)] w fun e w' => e = .returned (.int .i64 (sumB s.l)) ∧ w = w' := by
  obtain ⟨bv, ib, hb⟩ := h.cells
  have c : w.cell? ⟨sb, 4, none⟩ = some (.int .i64 (sumB s.l)) := (cell_of hb 4).trans rfl
  clear h hb
  go_enter Tryd.func13, Tryd.ntmps13
  go_wp2_with fail
  go_ret
  exact ⟨rfl, rfl⟩
theorem sbase_nil (w : World) : Calls Tryd.prog 11 #[.pointer none] w fun e w' => e = .returned (.int .i64 0) ∧ w = w' := by
  go_enter Tryd.func11, Tryd.ntmps11
  go_wp2_with fail
  go_ret
  exact ⟨rfl, rfl⟩
theorem send_nil (w : World) : Calls Tryd.prog 12 #[.pointer none] w fun e w' => e = .returned (.int .i64 0) ∧ w = w' := by
  go_enter Tryd.func12, Tryd.ntmps12
  go_wp2_with fail
  go_ret
  exact ⟨rfl, rfl⟩
theorem ssize_nil (w : World) : Calls Tryd.prog 13 #[.pointer none] w fun e w' => e = .returned (.int .i64 0) ∧ w = w' := by
  go_enter Tryd.func13, Tryd.ntmps13
  go_wp2_with fail
  go_ret
  exact ⟨rfl, rfl⟩
theorem ssync_nil (w : World) : Calls Tryd.prog 9 #[.pointer none] w fun e w' => e = .returned (.int .i64 1) ∧ w = w' := by
  go_enter Tryd.func9, Tryd.ntmps9
  go_wp2_with fail
  go_ret
  exact ⟨rfl, rfl⟩
theorem sread_nil (a b : Int) (w : World) : Calls Tryd.prog 10 #[.pointer none, .int .i64 a, .int .i64 b] w fun e w' => e = .returned (.slice none 0 0) ∧ w = w' := by
  go_enter Tryd.func10, Tryd.ntmps10
  go_wp2_with fail
  go_ret
  exact ⟨rfl, rfl⟩
theorem safter_nil (a : Int) (w : World) : Calls Tryd.prog 7 #[.pointer none, .int .i64 a] w fun e w' => e = .returned (.tuple #[.int .i64 0, .bool false]) ∧ w = w' := by
  go_enter Tryd.func7, Tryd.ntmps7
  go_wp2_with fail
  go_ret2
  exact ⟨rfl, rfl⟩
def ssynCode (c : Int) : Int := if c = 6 then 0 else c
def SSynPost (w : World) (db mb : Nat) (room used fuse : Int) (L : List Row) (F : ByteArray → ByteArray × Nat) (nm : ByteArray) (e : Ending) (w' : World) : Prop :=
  e = .returned (.int .i64 (ssynCode (synCode fuse L nm))) ∧ (synCode fuse L nm = 0 → Dk w' db mb room used (burn fuse) L (updF F nm (F nm).1 (F nm).1.size)) ∧ (synCode fuse L nm ≠ 0 → Dk w' db mb room used fuse L F) ∧ Fr (DkS db mb L) w w'
theorem ssync_walk (h : Sg B w sb db nm s S) {mb : Nat} {room used fuse : Int} {L : List Row} {F : ByteArray → ByteArray × Nat} (hd : Dk w db mb room used fuse L F) (ho : DkOK room used fuse L F) (h2 : nm.size ≤ 40) :
    Calls Tryd.prog 9 #[.pointer (some ⟨sb, 0, none⟩)] w (SSynPost w db mb room used fuse L F nm) := by
  obtain ⟨bv, ib, hb⟩ := h.cells
  have x0 : ∀ y : Lcl.InS (fun w' => Fr (fun _ => False) w w'), y.w.cell? ⟨sb, 0, none⟩ = some (.pointer (some ⟨db, 0, none⟩)) := fun y => y.h.cel ((cell_of hb 0).trans rfl)
  have x1 : ∀ y : Lcl.InS (fun w' => Fr (fun _ => False) w w'), y.w.cell? ⟨sb, 1, none⟩ = some (.string nm) := fun y => y.h.cel ((cell_of hb 1).trans rfl)
  have HD := Lib.hid hd
  have HO := Lib.hid ho
  clear h hb hd ho
  go_enter Tryd.func9, Tryd.ntmps9
  go_wp2_with fail
  refine Lcl.wp_region_calm (by kernel_rfl) [(true, [0, 1, 2, 4, 5, 6]), (false, [3, 7])] #[0, 1, 3, 7, 0, 16, 48, 112, 255, 511] [0, 1, 2, 3, 4, 5, 6, 7] 2 #[true, true, true, true, true, true, true, true, false, false] (by kernel_rfl) (by kernel_rfl) (by kernel_rfl) (fun w' => Fr (fun _ => False) w w') (Fr.same w).drew (fun d c a v w h => by cases d <;> exact h) ?_
  simp only [Lcl.opsOf, List.map_cons, List.map_nil, List.getElem?_toArray, List.getElem?_cons_succ, List.getElem?_cons_zero, Option.getD_some]
  refine Lcl.wpCalm_t ?_
  repeat (go_big_quiet_step (rfl))
  refine wpQuiet_nil ?_
  refine Lcl.wpCalm_f ?_
  repeat (go_big_quiet_step (rfl))
  refine wpQuiet_nil ?_
  refine Lcl.wpCalm_nil ?_
  clear x0 x1
  refine Lcl.wpG_run [8, 9] _ _ _ (by kernel_rfl) ?_
  simp only [List.map_cons, List.map_nil, List.getElem?_toArray, List.getElem?_cons_succ, List.getElem?_cons_zero, Option.getD_some]
  have hf := (Fr.refl (DkS db mb L) w).drew
  have FR := Lib.hid hf
  have HS := Lib.hid (dsync_any (HD.out.old (Fr.same w).drew) HO.out nm h2)
  clear hf
  by_cases h0 : fuse = 0
  · have hc : synCode fuse L nm = 7 := by unfold synCode; rw [if_pos h0]
    unfold DSynPost at HS
    have HC := Lib.hid hc
    rw [hc] at HS
    clear hc h0
    go_wp2_with fail
    refine HS.out.mono ?_
    rintro e w3 ⟨rfl, -, hd3, hf3⟩
    have D3 := Lib.hid (hd3 (by omega))
    have F3 := Lib.hid (FR.out.trans hf3 fun i h => .inl h)
    clear hd3 hf3
    go_wp2_with fail
    go_ret
    exact ⟨by rw [HC.out]; rfl, fun h => (by rw [HC.out] at h; cases h), fun _ => D3.out, F3.out⟩
  · cases hg : getL L nm with
    | none =>
      have hc : synCode fuse L nm = 6 := by unfold synCode; rw [if_neg h0, hg]; rfl
      unfold DSynPost at HS
      have HC := Lib.hid hc
      rw [hc] at HS
      clear hc h0 hg
      go_wp2_with fail
      refine HS.out.mono ?_
      rintro e w3 ⟨rfl, -, hd3, hf3⟩
      have D3 := Lib.hid (hd3 (by omega))
      have F3 := Lib.hid (FR.out.trans hf3 fun i h => .inl h)
      clear hd3 hf3
      go_wp2_with fail
      go_ret
      exact ⟨by rw [HC.out]; rfl, fun h => (by rw [HC.out] at h; cases h), fun _ => D3.out, F3.out⟩
    | some fb =>
      have hc : synCode fuse L nm = 0 := by unfold synCode; rw [if_neg h0, hg]; rfl
      unfold DSynPost at HS
      have HC := Lib.hid hc
      rw [hc] at HS
      clear hc h0 hg
      go_wp2_with fail
      refine HS.out.mono ?_
      rintro e w3 ⟨rfl, hd3, -, hf3⟩
      have D3 := Lib.hid (hd3 trivial)
      have F3 := Lib.hid (FR.out.trans hf3 fun i h => .inl h)
      clear hd3 hf3
      go_wp2_with fail
      go_ret
      exact ⟨by rw [HC.out]; rfl, fun _ => D3.out, fun h => (h HC.out).elim, F3.out⟩
end
end Go.Proofs.YtgbcdgfpmihkcaaDoor
