/- A disk that is down; Append, Sync, Read, Cut of a disk by one contract each. -/
import Derived.Test.YtgbcdgfpmihkcaaDoorG2
namespace Go.Proofs.YtgbcdgfpmihkcaaDoor
open Go.RowKit Go.Fm Go.BigFrame Go.Shelf Go.Maps
set_option linter.unusedVariables false
set_option linter.unusedSimpArgs false
set_option maxRecDepth 100000

section
variable {w w' : World} {db mb : Nat} {room used : Int} {L : List Row} {F : ByteArray → ByteArray × Nat}
theorem asked_down (h : Dk w db mb room used 0 L F) : Calls Tryd.prog 47 #[.pointer (some ⟨db, 0, none⟩)] w fun e w' => e = .returned (.int .i64 7) ∧ w' = w := by
  have c2 : w.cell? ⟨db, 2, none⟩ = some (.int .i64 0) := (cell_of h.d 2).trans rfl
  clear h
  go_enter Tryd.func47, Tryd.ntmps47
  go_wp2_with fail
  go_ret
  exact ⟨rfl, rfl⟩
theorem file_down (h : Dk w db mb room used 0 L F) (nm : ByteArray) : Calls Tryd.prog 35 #[.pointer (some ⟨db, 0, none⟩), .string nm] w fun e w' => e = .returned (.tuple #[.pointer none, .int .i64 7]) ∧ w' = w := by
  have H := Lib.hid h
  clear h
  go_enter Tryd.func35, Tryd.ntmps35
  go_wp2_with fail
  refine (asked_down H.out).mono ?_
  rintro e w' ⟨rfl, rfl⟩
  go_wp2_with fail
  go_ret2
  exact ⟨rfl, rfl⟩
theorem dread_down (h : Dk w db mb room used 0 L F) (nm : ByteArray) : Calls Tryd.prog 19 #[.pointer (some ⟨db, 0, none⟩), .string nm] w fun e w' => e = .returned (.tuple #[.string ByteArray.empty, .int .i64 7]) ∧ w' = w := by
  have HC := Lib.hid (file_down h nm)
  clear h
  go_enter Tryd.func19, Tryd.ntmps19
  go_wp2_with fail
  refine HC.out.mono ?_
  rintro e w' ⟨rfl, rfl⟩
  go_wp2_with fail
  go_ret2
  exact ⟨rfl, rfl⟩
theorem dsync_down (h : Dk w db mb room used 0 L F) (nm : ByteArray) : Calls Tryd.prog 29 #[.pointer (some ⟨db, 0, none⟩), .string nm] w fun e w' => e = .returned (.int .i64 7) ∧ w' = w := by
  have HC := Lib.hid (file_down h nm)
  clear h
  go_enter Tryd.func29, Tryd.ntmps29
  go_wp2_with fail
  refine HC.out.mono ?_
  rintro e w' ⟨rfl, rfl⟩
  go_wp2_with fail
  go_ret
  exact ⟨rfl, rfl⟩
theorem dcut_down (h : Dk w db mb room used 0 L F) (nm : ByteArray) (n : Int) : Calls Tryd.prog 22 #[.pointer (some ⟨db, 0, none⟩), .string nm, .int .i64 n] w fun e w' => e = .returned (.int .i64 7) ∧ w' = w := by
  have HC := Lib.hid (file_down h nm)
  clear h
  go_enter Tryd.func22, Tryd.ntmps22
  go_wp2_with fail
  refine HC.out.mono ?_
  rintro e w' ⟨rfl, rfl⟩
  go_wp2_with fail
  go_ret
  exact ⟨rfl, rfl⟩
theorem dappend_down (h : Dk w db mb room used 0 L F) (nm s : ByteArray) : Calls Tryd.prog 27 #[.pointer (some ⟨db, 0, none⟩), .string nm, .string s] w fun e w' => e = .returned (.int .i64 7) ∧ w' = w := by
  have H := Lib.hid h
  clear h
  go_enter Tryd.func27, Tryd.ntmps27
  go_wp2_with fail
  refine (asked_down H.out).mono ?_
  rintro e w' ⟨rfl, rfl⟩
  go_wp2_with fail
  go_ret
  exact ⟨rfl, rfl⟩
end
/-- What a file holds: its bytes, how many of them are safe; of none: nothing. -/
def curF (L : List Row) (F : ByteArray → ByteArray × Nat) (nm : ByteArray) : ByteArray × Nat := match getL L nm with
  | some _ => F nm
  | none => (ByteArray.empty, 0)
/-- A disk's numbers are sound. -/
structure DkOK (room used fuse : Int) (L : List Row) (F : ByteArray → ByteArray × Nat) : Prop where
  u0 : 0 ≤ used
  u1 : used ≤ 1000000000
  fw : (Lit.int .i64 fuse).wf = true
  fs : ∀ r ∈ L, (F r.1).1.size ≤ 1000000000 ∧ (F r.1).2 ≤ (F r.1).1.size
/-- Behind a change of one file. -/
def DkPost (w : World) (db mb : Nat) (room used fuse : Int) (L : List Row) (F : ByteArray → ByteArray × Nat) (nm : ByteArray) (t : ByteArray) (n : Nat) (w' : World) : Prop :=
  ∃ L', Dk w' db mb room used fuse L' (updF F nm t n) ∧ ((∃ fb, getL L nm = some fb) → L' = L) ∧ (getL L nm = none → ∃ fb, L' = putR L nm fb) ∧ (∀ i, DkS db mb L' i → DkS db mb L i ∨ (w.heap.size ≤ i ∧ i < w'.heap.size)) ∧ Fr (DkS db mb L) w w'
def appCode (room used fuse : Int) (n : Nat) : Int := if fuse = 0 then 7 else if room < used + n then 5 else 0
def DAppPost (w : World) (db mb : Nat) (room used fuse : Int) (L : List Row) (F : ByteArray → ByteArray × Nat) (nm s : ByteArray) (e : Ending) (w' : World) : Prop :=
  e = .returned (.int .i64 (appCode room used fuse s.size)) ∧ (appCode room used fuse s.size = 0 → DkPost w db mb room (used + s.size) (burn fuse) L F nm ((curF L F nm).1 ++ s) (curF L F nm).2 w') ∧ (appCode room used fuse s.size ≠ 0 → Fr (fun _ => False) w w')
theorem getL_put_row {L : List Row} {nm : ByteArray} {fb : Nat} (hg : getL L nm = none) : putR L nm fb = (nm, fb) :: L := by
  have hall : L.filter (fun r => r.1 ≠ nm) = L := List.filter_eq_self.2 fun r hr => by simpa using getL_none hg r hr
  unfold putR; rw [hall]
theorem dappend_any {w : World} {db mb : Nat} {room used fuse : Int} {L : List Row} {F : ByteArray → ByteArray × Nat} (h : Dk w db mb room used fuse L F) (ho : DkOK room used fuse L F) (nm s : ByteArray) (h1 : 1 ≤ nm.size) (h2 : nm.size ≤ 40) (hs : s.size ≤ 100000000)
    (hl : L.length < 1000) (hr : room ≤ 4194304) (hc : ∀ r ∈ L, (F r.1).1.size ≤ 4194304) :
    Calls Tryd.prog 27 #[.pointer (some ⟨db, 0, none⟩), .string nm, .string s] w (DAppPost w db mb room used fuse L F nm s) := by
  by_cases hf : fuse = 0
  · subst hf
    refine (dappend_down h nm s).mono ?_
    rintro e w' ⟨rfl, rfl⟩
    exact ⟨rfl, fun h => (by simp [appCode] at h), fun _ => Fr.same _⟩
  · by_cases hro : room < used + s.size
    · refine (dappend_full h hf nm s h1 h2 (by omega) ho.u0 ho.u1 hro).mono ?_
      rintro e w' ⟨rfl, hfr⟩
      have hc : appCode room used fuse s.size = 5 := by unfold appCode; rw [if_neg hf, if_pos hro]
      exact ⟨by rw [hc], fun h => (by rw [hc] at h; cases h), fun _ => hfr⟩
    · have hc0 : appCode room used fuse s.size = 0 := by unfold appCode; rw [if_neg hf, if_neg hro]
      cases hg : getL L nm with
      | none =>
        refine (dappend_none h hf ho.fw nm s h1 h2 (by omega) ho.u0 ho.u1 (by omega) hg hl).mono ?_
        rintro e w' ⟨rfl, fb, hb1, hb2, hd, hfr⟩
        refine ⟨by rw [hc0], fun _ => ⟨_, ?_, fun ⟨fb, h⟩ => (by rw [hg] at h; cases h), fun _ => ⟨fb, rfl⟩, fun i hi => ?_, hfr⟩, fun h => (h hc0).elim⟩
        · unfold curF
          rw [hg]
          dsimp only
          rw [ByteArray.empty_append]
          exact hd
        · rcases hi with rfl | rfl | ⟨r, hr, rfl⟩
          · exact .inl (.inl rfl)
          · exact .inl (.inr (.inl rfl))
          · rw [getL_put_row hg] at hr
            rcases List.mem_cons.1 hr with rfl | hr
            · exact .inr ⟨hb1, hb2⟩
            · exact .inl (.inr (.inr ⟨r, hr, rfl⟩))
      | some fb =>
        have hm := getL_some hg
        have h9 := hc _ hm
        refine (dappend_some h hf ho.fw nm s h1 h2 (by omega) ho.u0 ho.u1 (by omega) hg (by dsimp only at h9; omega)).mono ?_
        rintro e w' ⟨rfl, hd, hfr⟩
        refine ⟨by rw [hc0], fun _ => ⟨_, ?_, fun _ => rfl, fun h => (by rw [hg] at h; cases h), fun i hi => .inl hi, hfr⟩, fun h => (h hc0).elim⟩
        unfold curF
        rw [hg]
        exact hd
def synCode (fuse : Int) (L : List Row) (nm : ByteArray) : Int := if fuse = 0 then 7 else if (getL L nm).isSome then 0 else 6
def DSynPost (w : World) (db mb : Nat) (room used fuse : Int) (L : List Row) (F : ByteArray → ByteArray × Nat) (nm : ByteArray) (e : Ending) (w' : World) : Prop :=
  e = .returned (.int .i64 (synCode fuse L nm)) ∧ (synCode fuse L nm = 0 → Dk w' db mb room used (burn fuse) L (updF F nm (F nm).1 (F nm).1.size)) ∧ (synCode fuse L nm ≠ 0 → Dk w' db mb room used fuse L F) ∧ Fr (DkS db mb L) w w'
theorem dsync_any {w : World} {db mb : Nat} {room used fuse : Int} {L : List Row} {F : ByteArray → ByteArray × Nat} (h : Dk w db mb room used fuse L F) (ho : DkOK room used fuse L F) (nm : ByteArray) (h2 : nm.size ≤ 40) :
    Calls Tryd.prog 29 #[.pointer (some ⟨db, 0, none⟩), .string nm] w (DSynPost w db mb room used fuse L F nm) := by
  have hml : nm.size ≤ maxLen := by unfold maxLen; omega
  by_cases hf : fuse = 0
  · subst hf
    refine (dsync_down h nm).mono ?_
    rintro e w' ⟨rfl, rfl⟩
    exact ⟨rfl, fun h => (by simp [synCode] at h), fun _ => h, Fr.refl _ _⟩
  · cases hg : getL L nm with
    | none =>
      have hc : synCode fuse L nm = 6 := by unfold synCode; rw [if_neg hf, hg]; rfl
      refine (dsync_none h hf nm hml hg).mono ?_
      rintro e w' ⟨rfl, rfl⟩
      exact ⟨by rw [hc], fun h => (by rw [hc] at h; cases h), fun _ => h, Fr.refl _ _⟩
    | some fb =>
      have hc : synCode fuse L nm = 0 := by unfold synCode; rw [if_neg hf, hg]; rfl
      refine (dsync_some h hf ho.fw nm hml hg (ho.fs _ (getL_some hg)).1).mono ?_
      rintro e w' ⟨rfl, hd, hfr⟩
      exact ⟨by rw [hc], fun _ => hd, fun h => (h hc).elim, hfr⟩
end Go.Proofs.YtgbcdgfpmihkcaaDoor
