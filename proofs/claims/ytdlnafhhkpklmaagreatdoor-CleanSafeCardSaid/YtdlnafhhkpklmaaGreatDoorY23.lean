/- A disk with its files: the walks of package disk. -/
import Derived.Test.YtdlnafhhkpklmaaGreatDoorY16
import Derived.Test.YtdlnafhhkpklmaaGreatDoorY22
namespace Go.Proofs.YtdlnafhhkpklmaaGreatDoor
open Go.RowKit Go.Fm Go.BigFrame Go.Shelf Go.Maps
set_option linter.unusedVariables false
set_option linter.unusedSimpArgs false
def fileObj (t : ByteArray) (n : Nat) : Obj := .cells #[.string t, .int .i64 n] 111 (0, 0)
def dkObj (room used fuse : Int) (mb : Nat) : Obj := .cells #[.int .i64 room, .int .i64 used, .int .i64 fuse, .map (some mb)] 86 (0, 0)
/-- A disk: its room, the bytes that are used, its fuse, the boxes of its files, what these hold. -/
structure Dk (w : World) (db mb : Nat) (room used fuse : Int) (L : List Row) (F : ByteArray → ByteArray × Nat) : Prop where
 d : w.heap[db]? = some (dkObj room used fuse mb)
 m : TabM w mb L
 f : ∀ r ∈ L, w.heap[r.2]? = some (fileObj (F r.1).1 (F r.1).2)
 nd : (L.map (·.2)).Nodup
 sz : L.length ≤ 1000
def DkS (db mb : Nat) (L : List Row) (i : Nat) : Prop := i = db ∨ i = mb ∨ ∃ r ∈ L, r.2 = i
section
variable {w w' : World} {db mb : Nat} {room used fuse : Int} {L : List Row} {F : ByteArray → ByteArray × Nat}
theorem Dk.fr {S : Nat → Prop} (h : Dk w db mb room used fuse L F) (hf : Fr S w w') (hS : ∀ i, DkS db mb L i → ¬ S i) : Dk w' db mb room used fuse L F :=
 ⟨(hf.block _ (lt_of_heap h.d) (hS _ (.inl rfl))).trans h.d, h.m.fr hf (hS _ (.inr (.inl rfl))), fun r hr => (hf.block _ (lt_of_heap (h.f r hr)) (hS _ (.inr (.inr ⟨r, hr, rfl⟩)))).trans (h.f r hr), h.nd, h.sz⟩
theorem Dk.old (h : Dk w db mb room used fuse L F) (hf : Fr (fun _ => False) w w') : Dk w' db mb room used fuse L F := h.fr hf fun _ _ h => h
theorem Dk.lt (h : Dk w db mb room used fuse L F) {i : Nat} (hi : DkS db mb L i) : i < w.heap.size := by
 rcases hi with rfl | rfl | ⟨r, hr, rfl⟩
 ·exact lt_of_heap h.d
 ·exact h.m.lt
 ·exact lt_of_heap (h.f r hr)
theorem tab_obj {b : Nat} (h : TabM w b L) : ∃ es clock, w.heap[b]? = some (.map es clock) := by
 obtain ⟨-, D, ⟨es, clock, h1, -⟩, -⟩ := h
 exact ⟨es, clock, h1⟩
theorem Dk.ne (h : Dk w db mb room used fuse L F) : mb ≠ db := by
 obtain ⟨es, clock, h1⟩ := tab_obj h.m
 rintro rfl
 rw [h.d] at h1
 cases h1
theorem Dk.ne_file (h : Dk w db mb room used fuse L F) {r : Row} (hr : r ∈ L) : r.2 ≠ db ∧ r.2 ≠ mb := by
 have h2 := h.f r hr
 refine ⟨fun e => ?_, fun e => ?_⟩
 ·rw [e, h.d] at h2
  simp [dkObj, fileObj] at h2
 ·obtain ⟨es, clock, h1⟩ := tab_obj h.m
  rw [e, h1] at h2
  cases h2
/-- One of the disk's own numbers is written. -/
theorem Dk.setNum (h : Dk w db mb room used fuse L F) (w' : World) {room' used' fuse' : Int} (hd : w'.heap[db]? = some (dkObj room' used' fuse' mb)) (hf : Fr (fun i => i = db) w w') : Dk w' db mb room' used' fuse' L F :=
 ⟨hd, h.m.fr hf h.ne, fun r hr => (hf.block _ (lt_of_heap (h.f r hr)) (h.ne_file hr).1).trans (h.f r hr), h.nd, h.sz⟩
def burn (fuse : Int) : Int := if 0 < fuse then fuse - 1 else fuse
theorem asked_walk (h : Dk w db mb room used fuse L F) (hfu : fuse ≠ 0) : Calls Tryz.prog 105 #[.pointer (some ⟨db, 0, none⟩)] w fun e w' => e = .returned (.int .i64 0) ∧ w' = w := by
 have c2 : w.cell? ⟨db, 2, none⟩ = some (.int .i64 fuse) := (cell_of h.d 2).trans rfl
 have hq : (fuse == 0) = false := by simpa using hfu
 clear h
 go_enter Tryz.func105, Tryz.ntmps105
 go_wp2_with fail
 go_ret
 exact ⟨rfl, rfl⟩
theorem changed_walk (h : Dk w db mb room used fuse L F) (hfu : (Lit.int .i64 fuse).wf = true) : Calls Tryz.prog 104 #[.pointer (some ⟨db, 0, none⟩)] w fun e w' => e = .returned (.int .i64 0) ∧ Dk w' db mb room used (burn fuse) L F ∧ Fr (fun i => i = db) w w' := by
 have c2 : w.cell? ⟨db, 2, none⟩ = some (.int .i64 fuse) := (cell_of h.d 2).trans rfl
 have f2 := fz_of h.d 2
 have hb := hfu
 simp [Lit.wf, IntKind.min, IntKind.max, IntKind.signed, IntKind.bits] at hb
 obtain ⟨hb1, hb2⟩ := hb
 have H := Lib.hid h
 clear h hfu
 by_cases h0 : 0 < fuse
 ·have hbu : Hid (burn fuse = fuse - 1) := Lib.hid (by unfold burn; rw [if_pos h0])
  go_enter Tryz.func104, Tryz.ntmps104
  go_wp2_with fail
  go_ret
  have hfr : Fr (fun i => i = db) w (w.setCell ⟨db, 2, none⟩ (.int .i64 (fuse - 1))) := Fr.setCell (S := fun i => i = db) (p := ⟨db, 2, none⟩) (Fr.refl _ w) (.inl rfl) _
  exact ⟨rfl, by rw [hbu.out]; exact H.out.setNum _ (by rw [heap_setCell_self H.out.d]; rfl) hfr, hfr⟩
 ·have hbu : Hid (burn fuse = fuse) := Lib.hid (by unfold burn; rw [if_neg h0])
  go_enter Tryz.func104, Tryz.ntmps104
  go_wp2_with fail
  go_ret
  exact ⟨rfl, by rw [hbu.out]; exact H.out, Fr.refl _ _⟩
set_option maxRecDepth 100000 in
theorem file_walk (h : Dk w db mb room used fuse L F) (hfu : fuse ≠ 0) (nm : ByteArray) (hn : nm.size ≤ maxLen) : Calls Tryz.prog 103 #[.pointer (some ⟨db, 0, none⟩), .string nm] w fun e w' => e = .returned (.tuple #[boxV (getL L nm), .int .i64 (if (getL L nm).isSome then 0 else 6)]) ∧ w' = w := by
 have c3 : w.cell? ⟨db, 3, none⟩ = some (.map (some mb)) := (cell_of h.d 3).trans rfl
 have hlook := h.m.look hn
 have H := Lib.hid h
 clear h
 cases hg : getL L nm with
 | none =>
  rw [hg] at hlook
  simp only [Option.isSome_none, boxV] at hlook ⊢
  go_enter Tryz.func103, Tryz.ntmps103
  go_wp2_with fail
  refine (asked_walk H.out hfu).mono ?_
  rintro e w' ⟨rfl, rfl⟩
  go_wp2_with fail
  go_ret2
  exact ⟨rfl, rfl⟩
 | some fb =>
  rw [hg] at hlook
  simp only [Option.isSome_some, boxV, ptrV] at hlook ⊢
  go_enter Tryz.func103, Tryz.ntmps103
  go_wp2_with fail
  refine (asked_walk H.out hfu).mono ?_
  rintro e w' ⟨rfl, rfl⟩
  go_wp2_with fail
  go_ret2
  exact ⟨rfl, rfl⟩
theorem dread_none (h : Dk w db mb room used fuse L F) (hfu : fuse ≠ 0) (nm : ByteArray) (hn : nm.size ≤ maxLen) (hg : getL L nm = none) : Calls Tryz.prog 73 #[.pointer (some ⟨db, 0, none⟩), .string nm] w fun e w' => e = .returned (.tuple #[.string ByteArray.empty, .int .i64 6]) ∧ w' = w := by
 have hc := file_walk h hfu nm hn
 rw [hg] at hc
 simp only [Option.isSome_none, boxV] at hc
 have HC := Lib.hid hc
 clear hc h
 go_enter Tryz.func73, Tryz.ntmps73
 go_wp2_with fail
 refine HC.out.mono ?_
 rintro e w' ⟨rfl, rfl⟩
 go_wp2_with fail
 go_ret2
 exact ⟨rfl, rfl⟩
theorem dread_some (h : Dk w db mb room used fuse L F) (hfu : fuse ≠ 0) (nm : ByteArray) (hn : nm.size ≤ maxLen) {fb : Nat} (hg : getL L nm = some fb) : Calls Tryz.prog 73 #[.pointer (some ⟨db, 0, none⟩), .string nm] w fun e w' => e = .returned (.tuple #[.string (F nm).1, .int .i64 0]) ∧ w' = w := by
 have hc := file_walk h hfu nm hn
 rw [hg] at hc
 simp only [Option.isSome_some, boxV, ptrV] at hc
 have HC := Lib.hid hc
 have c0 : w.cell? ⟨fb, 0, none⟩ = some (.string (F nm).1) := (cell_of (h.f _ (getL_some hg)) 0).trans rfl
 clear hc h
 go_enter Tryz.func73, Tryz.ntmps73
 go_wp2_with fail
 refine HC.out.mono ?_
 rintro e w' ⟨rfl, rfl⟩
 go_wp2_with fail
 go_ret2
 exact ⟨rfl, rfl⟩
/-- What the files hold, with another content for one of them. -/
def updF (F : ByteArray → ByteArray × Nat) (nm : ByteArray) (t : ByteArray) (n : Nat) : ByteArray → ByteArray × Nat := fun x => if x = nm then (t, n) else F x
theorem updF_same (F : ByteArray → ByteArray × Nat) (nm : ByteArray) (t : ByteArray) (n : Nat) : updF F nm t n nm = (t, n) := if_pos rfl
theorem updF_ne {F : ByteArray → ByteArray × Nat} {nm : ByteArray} {t : ByteArray} {n : Nat} {x : ByteArray} (h : x ≠ nm) : updF F nm t n x = F x := if_neg h
theorem snd_inj : ∀ {L : List Row}, (L.map (·.2)).Nodup → ∀ {r r' : Row}, r ∈ L → r' ∈ L → r.2 = r'.2 → r = r'
 | [], _, _, _, h, _, _ => by cases h
 | x :: l, hn, r, r', h, h', e => by
  rw [List.map_cons, List.nodup_cons] at hn
  rcases List.mem_cons.1 h with h1 | h1
  ·rcases List.mem_cons.1 h' with h2 | h2
   ·rw [h1, h2]
   ·exact absurd (show x.2 ∈ l.map (·.2) from List.mem_map.2 ⟨r', h2, by rw [← e, h1]⟩) hn.1
  ·rcases List.mem_cons.1 h' with h2 | h2
   ·exact absurd (show x.2 ∈ l.map (·.2) from List.mem_map.2 ⟨r, h1, by rw [e, h2]⟩) hn.1
   ·exact snd_inj hn.2 h1 h2 e
theorem Dk.setFile (h : Dk w db mb room used fuse L F) {nm : ByteArray} {fb : Nat} (hg : getL L nm = some fb) (w' : World) {t : ByteArray} {n : Nat} (hd : w'.heap[fb]? = some (fileObj t n)) (hf : Fr (fun i => i = fb) w w') : Dk w' db mb room used fuse L (updF F nm t n) := by
 have hm := getL_some hg
 obtain ⟨n1, n2⟩ := h.ne_file hm
 refine ⟨(hf.block _ (lt_of_heap h.d) fun e => n1 e.symm).trans h.d, h.m.fr hf fun e => n2 e.symm, fun r hr => ?_, h.nd, h.sz⟩
 by_cases e : r.1 = nm
 ·have h2 : getL L r.1 = some r.2 := getL_mem h.m.1.nodup hr
  rw [e, hg] at h2
  injection h2 with h2
  rw [e, updF_same, ← h2]
  exact hd
 ·have h2 : r.2 ≠ fb := fun e2 => e (by have := snd_inj h.nd hr hm e2; rw [this])
  rw [updF_ne e]
  exact (hf.block _ (lt_of_heap (h.f r hr)) h2).trans (h.f r hr)
theorem dsync_none (h : Dk w db mb room used fuse L F) (hfu : fuse ≠ 0) (nm : ByteArray) (hn : nm.size ≤ maxLen) (hg : getL L nm = none) : Calls Tryz.prog 86 #[.pointer (some ⟨db, 0, none⟩), .string nm] w fun e w' => e = .returned (.int .i64 6) ∧ w' = w := by
 have hc := file_walk h hfu nm hn
 rw [hg] at hc
 simp only [Option.isSome_none, boxV] at hc
 have HC := Lib.hid hc
 clear hc h
 go_enter Tryz.func86, Tryz.ntmps86
 go_wp2_with fail
 refine HC.out.mono ?_
 rintro e w' ⟨rfl, rfl⟩
 go_wp2_with fail
 go_ret
 exact ⟨rfl, rfl⟩
set_option maxRecDepth 100000 in
theorem dsync_some (h : Dk w db mb room used fuse L F) (hfu : fuse ≠ 0) (hfw : (Lit.int .i64 fuse).wf = true) (nm : ByteArray) (hn : nm.size ≤ maxLen) {fb : Nat} (hg : getL L nm = some fb) (hs : (F nm).1.size ≤ 1000000000) :
  Calls Tryz.prog 86 #[.pointer (some ⟨db, 0, none⟩), .string nm] w fun e w' => e = .returned (.int .i64 0) ∧ Dk w' db mb room used (burn fuse) L (updF F nm (F nm).1 (F nm).1.size) ∧ Fr (DkS db mb L) w w' := by
 have hc := file_walk h hfu nm hn
 rw [hg] at hc
 simp only [Option.isSome_some, boxV, ptrV] at hc
 have HC := Lib.hid hc
 have hm := getL_some hg
 have hob := h.f _ hm
 have c0 : w.cell? ⟨fb, 0, none⟩ = some (.string (F nm).1) := (cell_of hob 0).trans rfl
 have c1 : w.cell? ⟨fb, 1, none⟩ = some (.int .i64 ((F nm).2 : Nat)) := (cell_of hob 1).trans rfl
 have f1 := fz_of hob 1
 have hfr : Fr (fun i => i = fb) w (w.setCell ⟨fb, 1, none⟩ (.int .i64 ((F nm).1.size : Nat))) := Fr.setCell (S := fun i => i = fb) (p := ⟨fb, 1, none⟩) (Fr.refl _ w) (.inl rfl) _
 have D1 := Lib.hid (h.setFile hg _ (t := (F nm).1) (n := (F nm).1.size) (by rw [heap_setCell_self hob]; rfl) hfr)
 have FF := Lib.hid (hfr.mono (S' := DkS db mb L) fun i e => .inl (.inr (.inr ⟨_, hm, e.symm⟩)))
 have HW := Lib.hid hfw
 clear hc h hm hob hfr hfw
 go_enter Tryz.func86, Tryz.ntmps86
 go_wp2_with fail
 refine HC.out.mono ?_
 rintro e w' ⟨rfl, rfl⟩
 go_wp2_with fail
 refine (changed_walk D1.out HW.out).mono ?_
 rintro e w3 ⟨rfl, hd, hf⟩
 have D2 := Lib.hid hd
 have F2 := Lib.hid (FF.out.trans hf fun i e => .inl (.inl e))
 clear hd hf
 go_wp2_with fail
 go_ret
 exact ⟨rfl, D2.out, F2.out⟩
end
end Go.Proofs.YtdlnafhhkpklmaaGreatDoor
/- Append, keep, Cut, New of a disk: the walks. -/
namespace Go.Proofs.YtdlnafhhkpklmaaGreatDoor
open Go.RowKit Go.Fm Go.BigFrame Go.Shelf Go.Maps
set_option linter.unusedVariables false
set_option linter.unusedSimpArgs false
section
variable {w w' : World} {db mb : Nat} {room used fuse : Int} {L : List Row} {F : ByteArray → ByteArray × Nat}
theorem named_walk (nm : ByteArray) (w : World) (h1 : 1 ≤ nm.size) (h2 : nm.size ≤ 40) : Calls Tryz.prog 113 #[.string nm] w fun e w' => e = .returned (.bool true) ∧ w' = w := by
 have g4 : ¬ nm.toList = [] := fun h => by
  have := empty_list.2 h
  rw [this] at h1
  cases h1
 have g5 : nm.toList.isEmpty = false := by simpa using g4
 have h3 : (nm.size : Int) ≤ 40 := by omega
 go_enter Tryz.func113, Tryz.ntmps113
 go_wp2_with fail
 go_ret
 exact ⟨rfl, rfl⟩
set_option maxRecDepth 100000 in
/-- A disk that has too little room. -/
theorem dappend_full (h : Dk w db mb room used fuse L F) (hfu : fuse ≠ 0) (nm s : ByteArray) (h1 : 1 ≤ nm.size) (h2 : nm.size ≤ 40) (hs : s.size ≤ 1000000000) (hu0 : 0 ≤ used) (hu1 : used ≤ 1000000000) (hfull : room < used + s.size) :
  Calls Tryz.prog 84 #[.pointer (some ⟨db, 0, none⟩), .string nm, .string s] w fun e w' => e = .returned (.int .i64 5) ∧ Fr (fun _ => False) w w' := by
 have c0 : w.cell? ⟨db, 0, none⟩ = some (.int .i64 room) := (cell_of h.d 0).trans rfl
 have c1 : w.cell? ⟨db, 1, none⟩ = some (.int .i64 used) := (cell_of h.d 1).trans rfl
 have H := Lib.hid h
 clear h
 go_enter Tryz.func84, Tryz.ntmps84
 go_wp2_with fail
 refine (asked_walk H.out hfu).mono ?_
 rintro e w' ⟨rfl, rfl⟩
 go_wp2_with fail
 refine (named_walk nm _ h1 h2).mono ?_
 rintro e w' ⟨rfl, rfl⟩
 go_wp2_with fail
 go_quiet (fail)
 go_wp2_with fail
 go_ret
 exact ⟨rfl, (Fr.same _).drewN _⟩
theorem Dk.drewN (h : Dk w db mb room used fuse L F) (n : Nat) : Dk (w.drewN n) db mb room used fuse L F := ⟨h.d, h.m.to rfl, h.f, h.nd, h.sz⟩
set_option maxRecDepth 100000 in
/-- .. behind a file that is there. -/
theorem dappend_some (h : Dk w db mb room used fuse L F) (hfu : fuse ≠ 0) (hfw : (Lit.int .i64 fuse).wf = true) (nm s : ByteArray) (h1 : 1 ≤ nm.size) (h2 : nm.size ≤ 40) (hs : s.size ≤ 1000000000) (hu0 : 0 ≤ used) (hu1 : used ≤ 1000000000) (hroom : used + s.size ≤ room)
  {fb : Nat} (hg : getL L nm = some fb) (hF : (F nm).1.size + s.size ≤ 1000000000) :
  Calls Tryz.prog 84 #[.pointer (some ⟨db, 0, none⟩), .string nm, .string s] w fun e w' => e = .returned (.int .i64 0) ∧ Dk w' db mb room (used + s.size) (burn fuse) L (updF F nm ((F nm).1 ++ s) (F nm).2) ∧ Fr (DkS db mb L) w w' := by
 have c0 : w.cell? ⟨db, 0, none⟩ = some (.int .i64 room) := (cell_of h.d 0).trans rfl
 have c1 : w.cell? ⟨db, 1, none⟩ = some (.int .i64 used) := (cell_of h.d 1).trans rfl
 have H := Lib.hid h
 have HW := Lib.hid hfw
 have nge : ¬ room < used + s.size := by omega
 clear h hfw
 go_enter Tryz.func84, Tryz.ntmps84
 go_wp2_with fail
 refine (asked_walk H.out hfu).mono ?_
 rintro e w' ⟨rfl, hw⟩
 subst hw
 go_wp2_with fail
 refine (named_walk nm _ h1 h2).mono ?_
 rintro e w' ⟨rfl, rfl⟩
 go_wp2_with fail
 go_quiet (fail)
 have h9 := H.out.drewN nq
 have f9 := (Fr.refl (DkS db mb L) w').drewN nq
 generalize w'.drewN nq = W at *
 clear c0 c1 nge
 have c0 : W.cell? ⟨db, 0, none⟩ = some (.int .i64 room) := (cell_of h9.d 0).trans rfl
 have c3 : W.cell? ⟨db, 3, none⟩ = some (.map (some mb)) := (cell_of h9.d 3).trans rfl
 have hlook := h9.m.look (k := nm) (by unfold maxLen; omega)
 rw [hg] at hlook
 simp only [Option.isSome_some, boxV, ptrV] at hlook
 have hm := getL_some hg
 have hob := h9.f _ hm
 have g0 : W.cell? ⟨fb, 0, none⟩ = some (.string (F nm).1) := (cell_of hob 0).trans rfl
 have g1 := fz_of hob 0
 have hfr : Fr (fun i => i = fb) W (W.setCell ⟨fb, 0, none⟩ (.string ((F nm).1 ++ s))) := Fr.setCell (S := fun i => i = fb) (p := ⟨fb, 0, none⟩) (Fr.refl _ _) (.inl rfl) _
 have D1 := h9.setFile hg _ (t := (F nm).1 ++ s) (n := (F nm).2) (by rw [heap_setCell_self hob]; rfl) hfr
 have c4 : (W.setCell ⟨fb, 0, none⟩ (.string ((F nm).1 ++ s))).cell? ⟨db, 1, none⟩ = some (.int .i64 used) := (cell_of D1.d 1).trans rfl
 have c5 := fz_of D1.d 1
 have hfr2 : Fr (fun i => i = db) (W.setCell ⟨fb, 0, none⟩ (.string ((F nm).1 ++ s))) ((W.setCell ⟨fb, 0, none⟩ (.string ((F nm).1 ++ s))).setCell ⟨db, 1, none⟩ (.int .i64 (used + s.size))) := Fr.setCell (S := fun i => i = db) (p := ⟨db, 1, none⟩) (Fr.refl _ _) (.inl rfl) _
 have D2 := Lib.hid (D1.setNum _ (room' := room) (used' := used + s.size) (fuse' := fuse) (by rw [heap_setCell_self D1.d]; rfl) hfr2)
 have F2 := Lib.hid ((f9.trans hfr fun i e => .inl (.inr (.inr ⟨_, hm, e.symm⟩))).trans hfr2 fun i e => .inl (.inl e))
 clear hob hfr hfr2 D1 hm h9 f9
 go_wp2_with fail
 refine (changed_walk D2.out HW.out).mono ?_
 rintro e w3 ⟨rfl, hd, hf⟩
 have D3 := Lib.hid hd
 have F3 := Lib.hid (F2.out.trans hf fun i e => .inl (.inl e))
 clear hd hf
 go_wp2_with fail
 go_ret
 exact ⟨rfl, D3.out, F3.out⟩
theorem Dk.newFile (h : Dk w db mb room used fuse L F) {nm : ByteArray} (hg : getL L nm = none) (hl : L.length < 1000) {w' : World} {fb : Nat} (hfb : w.heap.size ≤ fb) {t : ByteArray} {n : Nat} (hd : w'.heap[fb]? = some (fileObj t n)) (hm : TabM w' mb (putR L nm fb)) (hf : Fr (fun i => i = mb) w w') : Dk w' db mb room used fuse (putR L nm fb) (updF F nm t n) := by
 have hall : L.filter (fun r => r.1 ≠ nm) = L := List.filter_eq_self.2 fun r hr => by simpa using getL_none hg r hr
 have hput : putR L nm fb = (nm, fb) :: L := by unfold putR; rw [hall]
 refine ⟨(hf.block _ (lt_of_heap h.d) fun e => h.ne e.symm).trans h.d, hm, fun r hr => ?_, ?_, ?_⟩
 ·rw [hput] at hr
  rcases List.mem_cons.1 hr with rfl | hr
  ·rw [updF_same]; exact hd
  ·rw [updF_ne (getL_none hg r hr)]
   exact (hf.block _ (lt_of_heap (h.f r hr)) (h.ne_file hr).2).trans (h.f r hr)
 ·rw [hput, List.map_cons, List.nodup_cons]
  refine ⟨fun hx => ?_, h.nd⟩
  obtain ⟨r, hr, e⟩ := List.mem_map.1 hx
  have := lt_of_heap (h.f r hr)
  dsimp only at e
  omega
 ·rw [hput, List.length_cons]; omega
set_option maxRecDepth 100000 in
/-- .. of a new file. -/
theorem dappend_none (h : Dk w db mb room used fuse L F) (hfu : fuse ≠ 0) (hfw : (Lit.int .i64 fuse).wf = true) (nm s : ByteArray) (h1 : 1 ≤ nm.size) (h2 : nm.size ≤ 40) (hs : s.size ≤ 1000000000) (hu0 : 0 ≤ used) (hu1 : used ≤ 1000000000) (hroom : used + s.size ≤ room)
  (hg : getL L nm = none) (hl : L.length < 1000) :
  Calls Tryz.prog 84 #[.pointer (some ⟨db, 0, none⟩), .string nm, .string s] w fun e w' => e = .returned (.int .i64 0) ∧ ∃ fb, w.heap.size ≤ fb ∧ fb < w'.heap.size ∧ Dk w' db mb room (used + s.size) (burn fuse) (putR L nm fb) (updF F nm s 0) ∧ Fr (DkS db mb L) w w' := by
 have c0 : w.cell? ⟨db, 0, none⟩ = some (.int .i64 room) := (cell_of h.d 0).trans rfl
 have c1 : w.cell? ⟨db, 1, none⟩ = some (.int .i64 used) := (cell_of h.d 1).trans rfl
 have H := Lib.hid h
 have HW := Lib.hid hfw
 have nge : ¬ room < used + s.size := by omega
 clear h hfw
 go_enter Tryz.func84, Tryz.ntmps84
 go_wp2_with fail
 refine (asked_walk H.out hfu).mono ?_
 rintro e w' ⟨rfl, hw⟩
 subst hw
 go_wp2_with fail
 refine (named_walk nm _ h1 h2).mono ?_
 rintro e w' ⟨rfl, rfl⟩
 go_wp2_with fail
 go_quiet (fail)
 have h9 := H.out.drewN nq
 have f9 := (Fr.refl (DkS db mb L) w').drewN nq
 have hsz : (w'.drewN nq).heap.size = w'.heap.size := rfl
 generalize w'.drewN nq = W at *
 clear c0 c1 nge
 have c3 : W.cell? ⟨db, 3, none⟩ = some (.map (some mb)) := (cell_of h9.d 3).trans rfl
 have hlook := h9.m.look (k := nm) (by unfold maxLen; omega)
 rw [hg] at hlook
 simp only [Option.isSome_none, boxV] at hlook
 have hla := h9.old ((Fr.same W).alloc (fileObj ByteArray.empty 0))
 have c4 : (W.alloc (.cells #[.string ⟨#[]⟩, .int .i64 0] 111)).cell? ⟨db, 3, none⟩ = some (.map (some mb)) := (cell_of hla.d 3).trans rfl
 have HA := Lib.hid hla
 have H9 := Lib.hid h9
 have F9W := Lib.hid f9
 have HSZ := Lib.hid hsz
 have hbz : getL L nm = none := hg
 clear hla h9 f9 hsz
 go_wp2_with (at_mapUpdate; refine wpList_put _ rfl (.tmp 48) (.tmp 49) (.tmp 50) rfl mb L rfl HA.out.m ?c1 nm rfl ?c2 W.heap.size rfl ?_)
 case c1 => omega
 case c2 => unfold maxLen; omega
 intro w3 hm3 hg3
 have hob : w3.heap[W.heap.size]? = some (fileObj ByteArray.empty 0) := (hg3.block _ (by simp) fun e => by injection e with e; have := H9.out.lt (.inr (.inl rfl)); omega).trans (heap_alloc_self W _)
 have hfr3 : Fr (fun i => i = mb) W w3 := ((Fr.refl (fun i => i = mb) W).alloc (fileObj ByteArray.empty 0)).grown hg3 fun k e => by cases e; exact .inl rfl
 have D3 := H9.out.newFile hg hl (Nat.le_refl _) hob hm3 hfr3
 have hgp : getL (putR L nm W.heap.size) nm = some W.heap.size := by rw [getL_put, if_pos rfl]
 have g0 : w3.cell? ⟨W.heap.size, 0, none⟩ = some (.string ⟨#[]⟩) := (cell_of hob 0).trans rfl
 have g1 := fz_of hob 0
 have hfr : Fr (fun i => i = W.heap.size) w3 (w3.setCell ⟨W.heap.size, 0, none⟩ (.string s)) := Fr.setCell (S := fun i => i = W.heap.size) (p := ⟨W.heap.size, 0, none⟩) (Fr.refl _ _) (.inl rfl) _
 have D4 := D3.setFile hgp _ (t := s) (n := 0) (by rw [heap_setCell_self hob]; rfl) hfr
 have hFF : updF (updF F nm ByteArray.empty 0) nm s 0 = updF F nm s 0 := funext fun x => by unfold updF; split <;> rfl
 rw [hFF] at D4
 have c5 : (w3.setCell ⟨W.heap.size, 0, none⟩ (.string s)).cell? ⟨db, 1, none⟩ = some (.int .i64 used) := (cell_of D4.d 1).trans rfl
 have c6 := fz_of D4.d 1
 have hfr2 : Fr (fun i => i = db) (w3.setCell ⟨W.heap.size, 0, none⟩ (.string s)) ((w3.setCell ⟨W.heap.size, 0, none⟩ (.string s)).setCell ⟨db, 1, none⟩ (.int .i64 (used + s.size))) := Fr.setCell (S := fun i => i = db) (p := ⟨db, 1, none⟩) (Fr.refl _ _) (.inl rfl) _
 have D5 := Lib.hid (D4.setNum _ (room' := room) (used' := used + s.size) (fuse' := fuse) (by rw [heap_setCell_self D4.d]; rfl) hfr2)
 have hW : w'.heap.size ≤ W.heap.size := Nat.le_of_eq HSZ.out.symm
 have F5 := Lib.hid (((F9W.out.trans hfr3 fun i e => .inl (.inr (.inl e))).trans hfr fun i e => .inr (by omega)).trans hfr2 fun i e => .inl (.inl e))
 have HL3 := Lib.hid (lt_of_heap hob)
 have hadd : (⟨#[]⟩ : ByteArray) ++ s = s := ByteArray.empty_append
 clear hob hfr3 D3 hgp hfr D4 hFF hfr2 hm3 hg3 c4
 have HFB := Lib.hid hW
 clear hW HSZ
 generalize W.heap.size = fb at *
 go_wp2_with fail
 refine (changed_walk D5.out HW.out).mono ?_
 rintro e w6 ⟨rfl, hd, hf⟩
 have D6 := Lib.hid hd
 have F6 := Lib.hid (F5.out.trans hf fun i e => .inl (.inl e))
 have HL6 := Lib.hid (Nat.lt_of_lt_of_le HL3.out (show w3.heap.size ≤ _ from Nat.le_trans (by simp [World.setCell]) hf.size))
 clear hd hf
 go_wp2_with fail
 go_ret
 exact ⟨rfl, fb, HFB.out, HL6.out, D6.out, F6.out⟩
end
end Go.Proofs.YtdlnafhhkpklmaaGreatDoor
/- New, keep, Cut of a disk: the walks. -/
namespace Go.Proofs.YtdlnafhhkpklmaaGreatDoor
open Go.RowKit Go.Fm Go.BigFrame Go.Shelf Go.Maps
set_option linter.unusedVariables false
set_option linter.unusedSimpArgs false
def NewDkPost (w : World) (room : Int) (F : ByteArray → ByteArray × Nat) (e : Ending) (w' : World) : Prop :=
 ∃ db mb, e = .returned (.tuple #[.pointer (some ⟨db, 0, none⟩), .int .i64 0]) ∧ Dk w' db mb room 0 (-1) [] F ∧ Fr (fun _ => False) w w' ∧ w.heap.size ≤ db ∧ w.heap.size ≤ mb
theorem dnew_walk (room : Int) (F : ByteArray → ByteArray × Nat) (w : World) (h1 : 1 ≤ room) (h2 : room ≤ 4194304) : Calls Tryz.prog 10 #[.int .i64 room] w (NewDkPost w room F) := by
 have hmm := @run_makeMap Tryz.prog
 go_enter Tryz.func10, Tryz.ntmps10
 go_wp2_with fail
 go_ret2
 refine ⟨w.heap.size + 1, w.heap.size, rfl, ⟨?_, ?_, fun r hr => (by cases hr), List.nodup_nil, by simp⟩, ((Fr.same w).alloc _).alloc _, by omega, Nat.le_refl _⟩
 ·rw [show w.heap.size + 1 = (w.alloc (.map #[] 0)).heap.size by simp, heap_alloc_self]; rfl
 ·exact (TabM.made w).to (heap_alloc_lt _ (by simp))
section
variable {w w' : World} {db mb : Nat} {room used fuse : Int} {L : List Row} {F : ByteArray → ByteArray × Nat}
set_option maxRecDepth 100000 in
set_option maxHeartbeats 4000000 in
/-- A file keeps its first bytes alone. -/
theorem keep_walk (h : Dk w db mb room used fuse L F) (nm : ByteArray) {fb : Nat} (hg : getL L nm = some fb) (t : ByteArray) (m n : Nat) (hFn : F nm = (t, m)) (hn : n ≤ t.size) (hF : t.size ≤ 1000000000) (hu0 : 0 ≤ used) (hu1 : used ≤ 1000000000) (hm : m ≤ 1000000000) :
  Calls Tryz.prog 62 #[.pointer (some ⟨db, 0, none⟩), .pointer (some ⟨fb, 0, none⟩), .int .i64 n] w fun e w' => e = .returned (.tuple #[]) ∧ Dk w' db mb room (used - (t.size - n)) fuse L (updF F nm (t.extract 0 n) (min m n)) ∧ Fr (DkS db mb L) w w' := by
 have hmm := getL_some hg
 have hob := h.f _ hmm
 rw [hFn] at hob
 dsimp only at hob
 have x1 : ∀ y : Lcl.InS (fun w' => Fr (fun _ => False) w w'), y.w.cell? ⟨db, 1, none⟩ = some (.int .i64 used) := fun y => y.h.cel ((cell_of h.d 1).trans rfl)
 have x2 : ∀ y : Lcl.InS (fun w' => Fr (fun _ => False) w w'), y.w.cell? ⟨fb, 0, none⟩ = some (.string t) := fun y => y.h.cel ((cell_of hob 0).trans rfl)
 have H := Lib.hid h
 have HFN := Lib.hid hFn
 have HMM := Lib.hid hmm
 clear h hob hFn hmm
 go_enter Tryz.func62, Tryz.ntmps62
 go_wp2_with fail
 refine Lcl.wp_region_calm (by kernel_rfl) [(true, [0, 1, 2, 4, 5, 6, 9]), (false, [3, 7]), (true, [8, 10, 11, 12, 13])] #[0, 1, 3, 7, 0, 16, 48, 112, 240, 0, 1008, 2047, 4095, 8191, 16383] [0, 1, 2, 3, 4, 5, 6, 7, 8, 9, 10] 1 #[true, true, true, true, true, true, true, true, true, true, true, true, true, true, false] (by kernel_rfl) (by kernel_rfl) (by kernel_rfl) (fun w' => Fr (fun _ => False) w w') (Fr.same w).drew (fun d c a v w h => by cases d <;> exact h) ?_
 simp only [Lcl.opsOf, List.map_cons, List.map_nil, List.getElem?_toArray, List.getElem?_cons_succ, List.getElem?_cons_zero, Option.getD_some]
 refine Lcl.wpCalm_t ?_
 repeat (go_big_quiet_step (rfl))
 refine wpQuiet_nil ?_
 refine Lcl.wpCalm_f ?_
 repeat (go_big_quiet_step (rfl))
 refine wpQuiet_nil ?_
 refine Lcl.wpCalm_t ?_
 repeat (go_big_quiet_step (rfl))
 refine wpQuiet_nil ?_
 refine Lcl.wpCalm_nil ?_
 clear x1 x2
 refine Lcl.wpG_run [14] _ _ _ (by kernel_rfl) ?_
 simp only [List.map_cons, List.map_nil, List.getElem?_toArray, List.getElem?_cons_succ, List.getElem?_cons_zero, Option.getD_some]
 have h0 := H.out.old (Fr.same w).drew
 have hfr0 := (Fr.refl (DkS db mb L) w).drew
 generalize w.drew = W0 at *
 have c1 : W0.cell? ⟨db, 1, none⟩ = some (.int .i64 used) := (cell_of h0.d 1).trans rfl
 have f1 := fz_of h0.d 1
 have hfr : Fr (fun i => i = db) W0 (W0.setCell ⟨db, 1, none⟩ (.int .i64 (used - (t.size - n)))) := Fr.setCell (S := fun i => i = db) (p := ⟨db, 1, none⟩) (Fr.refl _ _) (.inl rfl) _
 have D1 := h0.setNum _ (room' := room) (used' := used - (t.size - n)) (fuse' := fuse) (by rw [heap_setCell_self h0.d]; rfl) hfr
 have hfr1 := hfr0.trans hfr fun i e => .inl (.inl e)
 have D1 := Lib.hid D1
 have F1 := Lib.hid hfr1
 clear hfr1 hfr hfr0 h0
 go_wp2_with fail
 clear c1 f1
 generalize W0.setCell ⟨db, 1, none⟩ (.int .i64 (used - (t.size - n))) = W1 at *
 have hob := D1.out.f _ HMM.out
 rw [HFN.out] at hob
 dsimp only at hob
 have x2 : ∀ y : Lcl.InS (fun w' => Fr (fun _ => False) W1 w'), y.w.cell? ⟨fb, 0, none⟩ = some (.string t) := fun y => y.h.cel ((cell_of hob 0).trans rfl)
 have x3 : ∀ y : Lcl.InS (fun w' => Fr (fun _ => False) W1 w'), y.w.cell? ⟨fb, 1, none⟩ = some (.int .i64 m) := fun y => y.h.cel ((cell_of hob 1).trans rfl)
 have HOB := Lib.hid hob
 clear hob
 refine Lcl.wp_region_calm (by kernel_rfl) [(true, [0, 1, 2, 3, 4, 6, 8, 9, 10, 12]), (false, [5, 11]), (true, [7, 13, 14, 15])] #[0, 0, 0, 4, 12, 28, 0, 124, 0, 256, 768, 1792, 0, 7936, 4093, 20477, 53245, 131071, 262143, 524287] [0, 1, 2, 3, 4, 5, 6, 7, 8, 9, 10, 11, 12, 13] 4 #[true, true, true, true, true, true, true, true, true, true, true, true, true, true, true, true, false, false, false, false] (by kernel_rfl) (by kernel_rfl) (by kernel_rfl) (fun w' => Fr (fun _ => False) W1 w') (Fr.same W1).drew (fun d c a v w h => by cases d <;> exact h) ?_
 simp only [Lcl.opsOf, List.map_cons, List.map_nil, List.getElem?_toArray, List.getElem?_cons_succ, List.getElem?_cons_zero, Option.getD_some]
 refine Lcl.wpCalm_t ?_
 repeat (go_big_quiet_step (rfl))
 refine wpQuiet_nil ?_
 refine Lcl.wpCalm_f ?_
 repeat (go_big_quiet_step (rfl))
 refine wpQuiet_nil ?_
 refine Lcl.wpCalm_t ?_
 repeat (go_big_quiet_step (rfl))
 refine wpQuiet_nil ?_
 refine Lcl.wpCalm_nil ?_
 clear x2 x3
 refine Lcl.wpG_run [16, 17, 18, 19] _ _ _ (by kernel_rfl) ?_
 simp only [List.map_cons, List.map_nil, List.getElem?_toArray, List.getElem?_cons_succ, List.getElem?_cons_zero, Option.getD_some]
 have d1 := D1.out.old (Fr.same W1).drew
 have e1 := F1.out.drew
 have hob : W1.drew.heap[fb]? = some (fileObj t m) := HOB.out
 generalize W1.drew = W2 at *
 clear D1 F1 HOB
 have c0 : W2.cell? ⟨fb, 0, none⟩ = some (.string t) := (cell_of hob 0).trans rfl
 have c1 : W2.cell? ⟨fb, 1, none⟩ = some (.int .i64 m) := (cell_of hob 1).trans rfl
 have f0 := fz_of hob 0
 have f1 := fz_of hob 1
 have hfr : Fr (fun i => i = fb) W2 ((W2.setCell ⟨fb, 0, none⟩ (.string (t.extract 0 n))).setCell ⟨fb, 1, none⟩ (.int .i64 (min m n : Nat))) := Fr.setCell (S := fun i => i = fb) (p := ⟨fb, 1, none⟩) (Fr.setCell (S := fun i => i = fb) (p := ⟨fb, 0, none⟩) (Fr.refl _ _) (.inl rfl) _) (.inl rfl) _
 have D2 := Lib.hid (d1.setFile hg _ (t := t.extract 0 n) (n := min m n) (by rw [heap_setCell_self (heap_setCell_self hob _)]; rfl) hfr)
 have F2 := Lib.hid (e1.trans hfr fun i e => .inl (.inr (.inr ⟨_, HMM.out, e.symm⟩)))
 clear hob hfr d1 e1
 have hmin : ((min m n : Nat) : Int) = min (m : Int) (n : Int) := by omega
 rw [hmin] at D2 F2
 clear hmin
 go_wp2_with fail
 go_end0
 exact ⟨rfl, D2.out, F2.out⟩
set_option maxRecDepth 100000 in
set_option maxHeartbeats 4000000 in
theorem dcut_walk (h : Dk w db mb room used fuse L F) (hfu : fuse ≠ 0) (hfw : (Lit.int .i64 fuse).wf = true) (nm : ByteArray) (hnm : nm.size ≤ maxLen) {fb : Nat} (hg : getL L nm = some fb) (t : ByteArray) (m n : Nat) (hFn : F nm = (t, m)) (hn : n ≤ t.size) (hF : t.size ≤ 1000000000) (hu0 : 0 ≤ used) (hu1 : used ≤ 1000000000) (hm : m ≤ 1000000000) :
  Calls Tryz.prog 83 #[.pointer (some ⟨db, 0, none⟩), .string nm, .int .i64 n] w fun e w' => e = .returned (.int .i64 0) ∧ Dk w' db mb room (used - (t.size - n)) (burn fuse) L (updF F nm (t.extract 0 n) (min m n)) ∧ Fr (DkS db mb L) w w' := by
 have hc := file_walk h hfu nm hnm
 rw [hg] at hc
 simp only [Option.isSome_some, boxV, ptrV] at hc
 have HC := Lib.hid hc
 have hob := h.f _ (getL_some hg)
 rw [hFn] at hob
 dsimp only at hob
 have c0 : w.cell? ⟨fb, 0, none⟩ = some (.string t) := (cell_of hob 0).trans rfl
 have HK := Lib.hid (keep_walk h nm hg t m n hFn hn hF hu0 hu1 hm)
 have hn' : ¬ (t.size : Int) < n := by omega
 have HW := Lib.hid hfw
 clear hc h hob hFn hfw
 go_enter Tryz.func83, Tryz.ntmps83
 go_wp2_with fail
 refine HC.out.mono ?_
 rintro e w' ⟨rfl, rfl⟩
 go_wp2_with fail
 refine HK.out.mono ?_
 rintro e w2 ⟨rfl, hd, hf⟩
 have D2 := Lib.hid hd
 have F2 := Lib.hid hf
 clear hd hf HK
 go_wp2_with fail
 refine (changed_walk D2.out HW.out).mono ?_
 rintro e w3 ⟨rfl, hd, hf⟩
 have D3 := Lib.hid hd
 have F3 := Lib.hid (F2.out.trans hf fun i e => .inl (.inl e))
 clear hd hf
 go_wp2_with fail
 go_ret
 exact ⟨rfl, D3.out, F3.out⟩
end
end Go.Proofs.YtdlnafhhkpklmaaGreatDoor
