/- A disk with its files: the walks of package disk. -/
import Derived.Test.YtgbcdgfpmihkcaaDoorXA
import Derived.Test.YtgbcdgfpmihkcaaDoorMf
namespace Go.Proofs.YtgbcdgfpmihkcaaDoor
open Go.RowKit Go.Fm Go.BigFrame Go.Shelf Go.Maps
set_option linter.unusedVariables false
set_option linter.unusedSimpArgs false

def fileObj (t : ByteArray) (n : Nat) : Obj := .cells #[.string t, .int .i64 n] 82 (0, 0)
def dkObj (room used fuse : Int) (mb : Nat) : Obj := .cells #[.int .i64 room, .int .i64 used, .int .i64 fuse, .map (some mb)] 74 (0, 0)
/-- A disk: its room, the bytes that are used, its fuse, the boxes of its files, what these hold. -/
structure Dk (w : World) (db mb : Nat) (room used fuse : Int) (L : List Row) (F : ByteArray → ByteArray × Nat) : Prop where
  d : w.heap[db]? = some (dkObj room used fuse mb)
  m : TabM w mb L
  f : ∀ r ∈ L, w.heap[r.2]? = some (fileObj (F r.1).1 (F r.1).2)
  nd : (L.map (·.2)).Nodup
  sz : L.length ≤ 1000
def DkS (db mb : Nat) (L : List Row) (i : Nat) : Prop := i = db ∨ i = mb ∨ ∃ r ∈ L, r.2 = i
section
variable {w w' : World} {db mb : Nat} {room used fuse : Int} {L : List Row} {F : ByteArray → ByteArray × Nat}
theorem Dk.fr {S : Nat → Prop} (h : Dk w db mb room used fuse L F) (hf : Fr S w w') (hS : ∀ i, DkS db mb L i → ¬ S i) : Dk w' db mb room used fuse L F :=
  ⟨(hf.block _ (lt_of_heap h.d) (hS _ (.inl rfl))).trans h.d, h.m.fr hf (hS _ (.inr (.inl rfl))), fun r hr => (hf.block _ (lt_of_heap (h.f r hr)) (hS _ (.inr (.inr ⟨r, hr, rfl⟩)))).trans (h.f r hr), h.nd, h.sz⟩
theorem Dk.old (h : Dk w db mb room used fuse L F) (hf : Fr (fun _ => False) w w') : Dk w' db mb room used fuse L F := h.fr hf fun _ _ h => h
theorem Dk.lt (h : Dk w db mb room used fuse L F) {i : Nat} (hi : DkS db mb L i) : i < w.heap.size := by
  rcases hi with rfl | rfl | ⟨r, hr, rfl⟩
  · exact lt_of_heap h.d
  · exact h.m.lt
  · exact lt_of_heap (h.f r hr)
theorem tab_obj {b : Nat} (h : TabM w b L) : ∃ es clock, w.heap[b]? = some (.map es clock) := by
  obtain ⟨-, D, ⟨es, clock, h1, -⟩, -⟩ := h
  exact ⟨es, clock, h1⟩
theorem Dk.ne (h : Dk w db mb room used fuse L F) : mb ≠ db := by
  obtain ⟨es, clock, h1⟩ := tab_obj h.m
  rintro rfl
  rw [h.d] at h1
  cases h1
theorem Dk.ne_file (h : Dk w db mb room used fuse L F) {r : Row} (hr : r ∈ L) : r.2 ≠ db ∧ r.2 ≠ mb := by
  have h2 := h.f r hr
  refine ⟨fun e => ?_, fun e => ?_⟩
  · rw [e, h.d] at h2
    simp [dkObj, fileObj] at h2
  · obtain ⟨es, clock, h1⟩ := tab_obj h.m
    rw [e, h1] at h2
    cases h2
/-- One of the disk's own numbers is written. -/
theorem Dk.setNum (h : Dk w db mb room used fuse L F) (w' : World) {room' used' fuse' : Int} (hd : w'.heap[db]? = some (dkObj room' used' fuse' mb)) (hf : Fr (fun i => i = db) w w') : Dk w' db mb room' used' fuse' L F :=
  ⟨hd, h.m.fr hf h.ne, fun r hr => (hf.block _ (lt_of_heap (h.f r hr)) (h.ne_file hr).1).trans (h.f r hr), h.nd, h.sz⟩
def burn (fuse : Int) : Int := if 0 < fuse then fuse - 1 else fuse
theorem asked_walk (h : Dk w db mb room used fuse L F) (hfu : fuse ≠ 0) : Calls Tryd.prog 47 #[.pointer (some ⟨db, 0, none⟩)] w fun e w' => e = .returned (.int .i64 0) ∧ w' = w := by
  have c2 : w.cell? ⟨db, 2, none⟩ = some (.int .i64 fuse) := (cell_of h.d 2).trans rfl
  have hq : (fuse == 0) = false := by simpa using hfu
  clear h
  go_enter Tryd.func47, Tryd.ntmps47
  go_wp2_with fail
  go_ret
  exact ⟨rfl, rfl⟩
theorem changed_walk (h : Dk w db mb room used fuse L F) (hfu : (Lit.int .i64 fuse).wf = true) : Calls Tryd.prog 40 #[.pointer (some ⟨db, 0, none⟩)] w fun e w' => e = .returned (.int .i64 0) ∧ Dk w' db mb room used (burn fuse) L F ∧ Fr (fun i => i = db) w w' := by
  have c2 : w.cell? ⟨db, 2, none⟩ = some (.int .i64 fuse) := (cell_of h.d 2).trans rfl
  have f2 := fz_of h.d 2
  have hb := hfu
  simp [Lit.wf, IntKind.min, IntKind.max, IntKind.signed, IntKind.bits] at hb
  obtain ⟨hb1, hb2⟩ := hb
  have H := Lib.hid h
  clear h hfu
  by_cases h0 : 0 < fuse
  · have hbu : Hid (burn fuse = fuse - 1) := Lib.hid (by unfold burn; rw [if_pos h0])
    go_enter Tryd.func40, Tryd.ntmps40
    go_wp2_with fail
    go_ret
    have hfr : Fr (fun i => i = db) w (w.setCell ⟨db, 2, none⟩ (.int .i64 (fuse - 1))) := Fr.setCell (S := fun i => i = db) (p := ⟨db, 2, none⟩) (Fr.refl _ w) (.inl rfl) _
    exact ⟨rfl, by rw [hbu.out]; exact H.out.setNum _ (by rw [heap_setCell_self H.out.d]; rfl) hfr, hfr⟩
  · have hbu : Hid (burn fuse = fuse) := Lib.hid (by unfold burn; rw [if_neg h0])
    go_enter Tryd.func40, Tryd.ntmps40
    go_wp2_with fail
    go_ret
    exact ⟨rfl, by rw [hbu.out]; exact H.out, Fr.refl _ _⟩
set_option maxRecDepth 100000 in
theorem file_walk (h : Dk w db mb room used fuse L F) (hfu : fuse ≠ 0) (nm : ByteArray) (hn : nm.size ≤ maxLen) : Calls Tryd.prog 35 #[.pointer (some ⟨db, 0, none⟩), .string nm] w fun e w' => e = .returned (.tuple #[boxV (getL L nm), .int .i64 (if (getL L nm).isSome then 0 else 6)]) ∧ w' = w := by
  have c3 : w.cell? ⟨db, 3, none⟩ = some (.map (some mb)) := (cell_of h.d 3).trans rfl
  have hlook := h.m.look hn
  have H := Lib.hid h
  clear h
  cases hg : getL L nm with
  | none =>
    rw [hg] at hlook
    simp only [Option.isSome_none, boxV] at hlook ⊢
    go_enter Tryd.func35, Tryd.ntmps35
    go_wp2_with fail
    refine (asked_walk H.out hfu).mono ?_
    rintro e w' ⟨rfl, rfl⟩
    go_wp2_with fail
    go_ret2
    exact ⟨rfl, rfl⟩
  | some fb =>
    rw [hg] at hlook
    simp only [Option.isSome_some, boxV, ptrV] at hlook ⊢
    go_enter Tryd.func35, Tryd.ntmps35
    go_wp2_with fail
    refine (asked_walk H.out hfu).mono ?_
    rintro e w' ⟨rfl, rfl⟩
    go_wp2_with fail
    go_ret2
    exact ⟨rfl, rfl⟩
theorem used_walk (h : Dk w db mb room used fuse L F) : Calls Tryd.prog 17 #[.pointer (some ⟨db, 0, none⟩)] w fun e w' => e = .returned (.int .i64 used) ∧ w' = w := by
  have c1 : w.cell? ⟨db, 1, none⟩ = some (.int .i64 used) := (cell_of h.d 1).trans rfl
  clear h
  go_enter Tryd.func17, Tryd.ntmps17
  go_wp2_with fail
  go_ret
  exact ⟨rfl, rfl⟩
theorem dread_none (h : Dk w db mb room used fuse L F) (hfu : fuse ≠ 0) (nm : ByteArray) (hn : nm.size ≤ maxLen) (hg : getL L nm = none) : Calls Tryd.prog 19 #[.pointer (some ⟨db, 0, none⟩), .string nm] w fun e w' => e = .returned (.tuple #[.string ByteArray.empty, .int .i64 6]) ∧ w' = w := by
  have hc := file_walk h hfu nm hn
  rw [hg] at hc
  simp only [Option.isSome_none, boxV] at hc
  have HC := Lib.hid hc
  clear hc h
  go_enter Tryd.func19, Tryd.ntmps19
  go_wp2_with fail
  refine HC.out.mono ?_
  rintro e w' ⟨rfl, rfl⟩
  go_wp2_with fail
  go_ret2
  exact ⟨rfl, rfl⟩
theorem dread_some (h : Dk w db mb room used fuse L F) (hfu : fuse ≠ 0) (nm : ByteArray) (hn : nm.size ≤ maxLen) {fb : Nat} (hg : getL L nm = some fb) : Calls Tryd.prog 19 #[.pointer (some ⟨db, 0, none⟩), .string nm] w fun e w' => e = .returned (.tuple #[.string (F nm).1, .int .i64 0]) ∧ w' = w := by
  have hc := file_walk h hfu nm hn
  rw [hg] at hc
  simp only [Option.isSome_some, boxV, ptrV] at hc
  have HC := Lib.hid hc
  have c0 : w.cell? ⟨fb, 0, none⟩ = some (.string (F nm).1) := (cell_of (h.f _ (getL_some hg)) 0).trans rfl
  clear hc h
  go_enter Tryd.func19, Tryd.ntmps19
  go_wp2_with fail
  refine HC.out.mono ?_
  rintro e w' ⟨rfl, rfl⟩
  go_wp2_with fail
  go_ret2
  exact ⟨rfl, rfl⟩
/-- What the files hold, with another content for one of them. -/
def updF (F : ByteArray → ByteArray × Nat) (nm : ByteArray) (t : ByteArray) (n : Nat) : ByteArray → ByteArray × Nat := fun x => if x = nm then (t, n) else F x
theorem updF_same (F : ByteArray → ByteArray × Nat) (nm : ByteArray) (t : ByteArray) (n : Nat) : updF F nm t n nm = (t, n) := if_pos rfl
theorem updF_ne {F : ByteArray → ByteArray × Nat} {nm : ByteArray} {t : ByteArray} {n : Nat} {x : ByteArray} (h : x ≠ nm) : updF F nm t n x = F x := if_neg h
theorem snd_inj : ∀ {L : List Row}, (L.map (·.2)).Nodup → ∀ {r r' : Row}, r ∈ L → r' ∈ L → r.2 = r'.2 → r = r'
  | [], _, _, _, h, _, _ => by cases h
  | x :: l, hn, r, r', h, h', e => by
    rw [List.map_cons, List.nodup_cons] at hn
    rcases List.mem_cons.1 h with h1 | h1
    · rcases List.mem_cons.1 h' with h2 | h2
      · rw [h1, h2]
      · exact absurd (show x.2 ∈ l.map (·.2) from List.mem_map.2 ⟨r', h2, by rw [← e, h1]⟩) hn.1
    · rcases List.mem_cons.1 h' with h2 | h2
      · exact absurd (show x.2 ∈ l.map (·.2) from List.mem_map.2 ⟨r, h1, by rw [e, h2]⟩) hn.1
      · exact snd_inj hn.2 h1 h2 e
theorem Dk.setFile (h : Dk w db mb room used fuse L F) {nm : ByteArray} {fb : Nat} (hg : getL L nm = some fb) (w' : World) {t : ByteArray} {n : Nat} (hd : w'.heap[fb]? = some (fileObj t n)) (hf : Fr (fun i => i = fb) w w') : Dk w' db mb room used fuse L (updF F nm t n) := by
  have hm := getL_some hg
  obtain ⟨n1, n2⟩ := h.ne_file hm
  refine ⟨(hf.block _ (lt_of_heap h.d) fun e => n1 e.symm).trans h.d, h.m.fr hf fun e => n2 e.symm, fun r hr => ?_, h.nd, h.sz⟩
  by_cases e : r.1 = nm
  · have h2 : getL L r.1 = some r.2 := getL_mem h.m.1.nodup hr
    rw [e, hg] at h2
    injection h2 with h2
    rw [e, updF_same, ← h2]
    exact hd
  · have h2 : r.2 ≠ fb := fun e2 => e (by have := snd_inj h.nd hr hm e2; rw [this])
    rw [updF_ne e]
    exact (hf.block _ (lt_of_heap (h.f r hr)) h2).trans (h.f r hr)
theorem dsync_none (h : Dk w db mb room used fuse L F) (hfu : fuse ≠ 0) (nm : ByteArray) (hn : nm.size ≤ maxLen) (hg : getL L nm = none) : Calls Tryd.prog 29 #[.pointer (some ⟨db, 0, none⟩), .string nm] w fun e w' => e = .returned (.int .i64 6) ∧ w' = w := by
  have hc := file_walk h hfu nm hn
  rw [hg] at hc
  simp only [Option.isSome_none, boxV] at hc
  have HC := Lib.hid hc
  clear hc h
  go_enter Tryd.func29, Tryd.ntmps29
  go_wp2_with fail
  refine HC.out.mono ?_
  rintro e w' ⟨rfl, rfl⟩
  go_wp2_with fail
  go_ret
  exact ⟨rfl, rfl⟩
set_option maxRecDepth 100000 in
theorem dsync_some (h : Dk w db mb room used fuse L F) (hfu : fuse ≠ 0) (hfw : (Lit.int .i64 fuse).wf = true) (nm : ByteArray) (hn : nm.size ≤ maxLen) {fb : Nat} (hg : getL L nm = some fb) (hs : (F nm).1.size ≤ 1000000000) :
    Calls Tryd.prog 29 #[.pointer (some ⟨db, 0, none⟩), .string nm] w fun e w' => e = .returned (.int .i64 0) ∧ Dk w' db mb room used (burn fuse) L (updF F nm (F nm).1 (F nm).1.size) ∧ Fr (DkS db mb L) w w' := by
  have hc := file_walk h hfu nm hn
  rw [hg] at hc
  simp only [Option.isSome_some, boxV, ptrV] at hc
  have HC := Lib.hid hc
  have hm := getL_some hg
  have hob := h.f _ hm
  have c0 : w.cell? ⟨fb, 0, none⟩ = some (.string (F nm).1) := (cell_of hob 0).trans rfl
  have c1 : w.cell? ⟨fb, 1, none⟩ = some (.int .i64 ((F nm).2 : Nat)) := (cell_of hob 1).trans rfl
  have f1 := fz_of hob 1
  have hfr : Fr (fun i => i = fb) w (w.setCell ⟨fb, 1, none⟩ (.int .i64 ((F nm).1.size : Nat))) := Fr.setCell (S := fun i => i = fb) (p := ⟨fb, 1, none⟩) (Fr.refl _ w) (.inl rfl) _
  have D1 := Lib.hid (h.setFile hg _ (t := (F nm).1) (n := (F nm).1.size) (by rw [heap_setCell_self hob]; rfl) hfr)
  have FF := Lib.hid (hfr.mono (S' := DkS db mb L) fun i e => .inl (.inr (.inr ⟨_, hm, e.symm⟩)))
  have HW := Lib.hid hfw
  clear hc h hm hob hfr hfw
  go_enter Tryd.func29, Tryd.ntmps29
  go_wp2_with fail
  refine HC.out.mono ?_
  rintro e w' ⟨rfl, rfl⟩
  go_wp2_with fail
  refine (changed_walk D1.out HW.out).mono ?_
  rintro e w3 ⟨rfl, hd, hf⟩
  have D2 := Lib.hid hd
  have F2 := Lib.hid (FF.out.trans hf fun i e => .inl (.inl e))
  clear hd hf
  go_wp2_with fail
  go_ret
  exact ⟨rfl, D2.out, F2.out⟩
end
end Go.Proofs.YtgbcdgfpmihkcaaDoor
