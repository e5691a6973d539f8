/- Append, keep, Cut, New of a disk: the walks. -/
import Derived.Test.YtgbcdgfpmihkcaaDoorDk
namespace Go.Proofs.YtgbcdgfpmihkcaaDoor
open Go.RowKit Go.Fm Go.BigFrame Go.Shelf Go.Maps
set_option linter.unusedVariables false
set_option linter.unusedSimpArgs false

section
variable {w w' : World} {db mb : Nat} {room used fuse : Int} {L : List Row} {F : ByteArray → ByteArray × Nat}
theorem named_walk (nm : ByteArray) (w : World) (h1 : 1 ≤ nm.size) (h2 : nm.size ≤ 40) : Calls Tryd.prog 48 #[.string nm] w fun e w' => e = .returned (.bool true) ∧ w' = w := by
  have g4 : ¬ nm.toList = [] := fun h => by
    have := empty_list.2 h
    rw [this] at h1
    cases h1
  have g5 : nm.toList.isEmpty = false := by simpa using g4
  have h3 : (nm.size : Int) ≤ 40 := by omega
  go_enter Tryd.func48, Tryd.ntmps48
  go_wp2_with fail
  go_ret
  exact ⟨rfl, rfl⟩
set_option maxRecDepth 100000 in
/-- A disk that has too little room. -/
theorem dappend_full (h : Dk w db mb room used fuse L F) (hfu : fuse ≠ 0) (nm s : ByteArray) (h1 : 1 ≤ nm.size) (h2 : nm.size ≤ 40) (hs : s.size ≤ 1000000000) (hu0 : 0 ≤ used) (hu1 : used ≤ 1000000000) (hfull : room < used + s.size) :
    Calls Tryd.prog 27 #[.pointer (some ⟨db, 0, none⟩), .string nm, .string s] w fun e w' => e = .returned (.int .i64 5) ∧ Fr (fun _ => False) w w' := by
  have c0 : w.cell? ⟨db, 0, none⟩ = some (.int .i64 room) := (cell_of h.d 0).trans rfl
  have c1 : w.cell? ⟨db, 1, none⟩ = some (.int .i64 used) := (cell_of h.d 1).trans rfl
  have H := Lib.hid h
  clear h
  go_enter Tryd.func27, Tryd.ntmps27
  go_wp2_with fail
  refine (asked_walk H.out hfu).mono ?_
  rintro e w' ⟨rfl, rfl⟩
  go_wp2_with fail
  refine (named_walk nm _ h1 h2).mono ?_
  rintro e w' ⟨rfl, rfl⟩
  go_wp2_with fail
  go_quiet (fail)
  go_wp2_with fail
  go_ret
  exact ⟨rfl, (Fr.same _).drewN _⟩
theorem Dk.drewN (h : Dk w db mb room used fuse L F) (n : Nat) : Dk (w.drewN n) db mb room used fuse L F := ⟨h.d, h.m.to rfl, h.f, h.nd, h.sz⟩
set_option maxRecDepth 100000 in
/-- .. behind a file that is there. -/
theorem dappend_some (h : Dk w db mb room used fuse L F) (hfu : fuse ≠ 0) (hfw : (Lit.int .i64 fuse).wf = true) (nm s : ByteArray) (h1 : 1 ≤ nm.size) (h2 : nm.size ≤ 40) (hs : s.size ≤ 1000000000) (hu0 : 0 ≤ used) (hu1 : used ≤ 1000000000) (hroom : used + s.size ≤ room)
    {fb : Nat} (hg : getL L nm = some fb) (hF : (F nm).1.size + s.size ≤ 1000000000) :
    Calls Tryd.prog 27 #[.pointer (some ⟨db, 0, none⟩), .string nm, .string s] w fun e w' => e = .returned (.int .i64 0) ∧ Dk w' db mb room (used + s.size) (burn fuse) L (updF F nm ((F nm).1 ++ s) (F nm).2) ∧ Fr (DkS db mb L) w w' := by
  have c0 : w.cell? ⟨db, 0, none⟩ = some (.int .i64 room) := (cell_of h.d 0).trans rfl
  have c1 : w.cell? ⟨db, 1, none⟩ = some (.int .i64 used) := (cell_of h.d 1).trans rfl
  have H := Lib.hid h
  have HW := Lib.hid hfw
  have nge : ¬ room < used + s.size := by omega
  clear h hfw
  go_enter Tryd.func27, Tryd.ntmps27
  go_wp2_with fail
  refine (asked_walk H.out hfu).mono ?_
  rintro e w' ⟨rfl, hw⟩
  subst hw
  go_wp2_with fail
  refine (named_walk nm _ h1 h2).mono ?_
  rintro e w' ⟨rfl, rfl⟩
  go_wp2_with fail
  go_quiet (fail)
  have h9 := H.out.drewN nq
  have f9 := (Fr.refl (DkS db mb L) w').drewN nq
  generalize w'.drewN nq = W at *
  clear c0 c1 nge
  have c0 : W.cell? ⟨db, 0, none⟩ = some (.int .i64 room) := (cell_of h9.d 0).trans rfl
  have c3 : W.cell? ⟨db, 3, none⟩ = some (.map (some mb)) := (cell_of h9.d 3).trans rfl
  have hlook := h9.m.look (k := nm) (by unfold maxLen; omega)
  rw [hg] at hlook
  simp only [Option.isSome_some, boxV, ptrV] at hlook
  have hm := getL_some hg
  have hob := h9.f _ hm
  have g0 : W.cell? ⟨fb, 0, none⟩ = some (.string (F nm).1) := (cell_of hob 0).trans rfl
  have g1 := fz_of hob 0
  have hfr : Fr (fun i => i = fb) W (W.setCell ⟨fb, 0, none⟩ (.string ((F nm).1 ++ s))) := Fr.setCell (S := fun i => i = fb) (p := ⟨fb, 0, none⟩) (Fr.refl _ _) (.inl rfl) _
  have D1 := h9.setFile hg _ (t := (F nm).1 ++ s) (n := (F nm).2) (by rw [heap_setCell_self hob]; rfl) hfr
  have c4 : (W.setCell ⟨fb, 0, none⟩ (.string ((F nm).1 ++ s))).cell? ⟨db, 1, none⟩ = some (.int .i64 used) := (cell_of D1.d 1).trans rfl
  have c5 := fz_of D1.d 1
  have hfr2 : Fr (fun i => i = db) (W.setCell ⟨fb, 0, none⟩ (.string ((F nm).1 ++ s))) ((W.setCell ⟨fb, 0, none⟩ (.string ((F nm).1 ++ s))).setCell ⟨db, 1, none⟩ (.int .i64 (used + s.size))) := Fr.setCell (S := fun i => i = db) (p := ⟨db, 1, none⟩) (Fr.refl _ _) (.inl rfl) _
  have D2 := Lib.hid (D1.setNum _ (room' := room) (used' := used + s.size) (fuse' := fuse) (by rw [heap_setCell_self D1.d]; rfl) hfr2)
  have F2 := Lib.hid ((f9.trans hfr fun i e => .inl (.inr (.inr ⟨_, hm, e.symm⟩))).trans hfr2 fun i e => .inl (.inl e))
  clear hob hfr hfr2 D1 hm h9 f9
  go_wp2_with fail
  refine (changed_walk D2.out HW.out).mono ?_
  rintro e w3 ⟨rfl, hd, hf⟩
  have D3 := Lib.hid hd
  have F3 := Lib.hid (F2.out.trans hf fun i e => .inl (.inl e))
  clear hd hf
  go_wp2_with fail
  go_ret
  exact ⟨rfl, D3.out, F3.out⟩
theorem Dk.newFile (h : Dk w db mb room used fuse L F) {nm : ByteArray} (hg : getL L nm = none) (hl : L.length < 1000) {w' : World} {fb : Nat} (hfb : w.heap.size ≤ fb) {t : ByteArray} {n : Nat} (hd : w'.heap[fb]? = some (fileObj t n)) (hm : TabM w' mb (putR L nm fb)) (hf : Fr (fun i => i = mb) w w') : Dk w' db mb room used fuse (putR L nm fb) (updF F nm t n) := by
  have hall : L.filter (fun r => r.1 ≠ nm) = L := List.filter_eq_self.2 fun r hr => by simpa using getL_none hg r hr
  have hput : putR L nm fb = (nm, fb) :: L := by unfold putR; rw [hall]
  refine ⟨(hf.block _ (lt_of_heap h.d) fun e => h.ne e.symm).trans h.d, hm, fun r hr => ?_, ?_, ?_⟩
  · rw [hput] at hr
    rcases List.mem_cons.1 hr with rfl | hr
    · rw [updF_same]; exact hd
    · rw [updF_ne (getL_none hg r hr)]
      exact (hf.block _ (lt_of_heap (h.f r hr)) (h.ne_file hr).2).trans (h.f r hr)
  · rw [hput, List.map_cons, List.nodup_cons]
    refine ⟨fun hx => ?_, h.nd⟩
    obtain ⟨r, hr, e⟩ := List.mem_map.1 hx
    have := lt_of_heap (h.f r hr)
    dsimp only at e
    omega
  · rw [hput, List.length_cons]; omega
set_option maxRecDepth 100000 in
/-- .. of a new file. -/
theorem dappend_none (h : Dk w db mb room used fuse L F) (hfu : fuse ≠ 0) (hfw : (Lit.int .i64 fuse).wf = true) (nm s : ByteArray) (h1 : 1 ≤ nm.size) (h2 : nm.size ≤ 40) (hs : s.size ≤ 1000000000) (hu0 : 0 ≤ used) (hu1 : used ≤ 1000000000) (hroom : used + s.size ≤ room)
    (hg : getL L nm = none) (hl : L.length < 1000) :
    Calls Tryd.prog 27 #[.pointer (some ⟨db, 0, none⟩), .string nm, .string s] w fun e w' => e = .returned (.int .i64 0) ∧ ∃ fb, w.heap.size ≤ fb ∧ fb < w'.heap.size ∧ Dk w' db mb room (used + s.size) (burn fuse) (putR L nm fb) (updF F nm s 0) ∧ Fr (DkS db mb L) w w' := by
  have c0 : w.cell? ⟨db, 0, none⟩ = some (.int .i64 room) := (cell_of h.d 0).trans rfl
  have c1 : w.cell? ⟨db, 1, none⟩ = some (.int .i64 used) := (cell_of h.d 1).trans rfl
  have H := Lib.hid h
  have HW := Lib.hid hfw
  have nge : ¬ room < used + s.size := by omega
  clear h hfw
  go_enter Tryd.func27, Tryd.ntmps27
  go_wp2_with fail
  refine (asked_walk H.out hfu).mono ?_
  rintro e w' ⟨rfl, hw⟩
  subst hw
  go_wp2_with fail
  refine (named_walk nm _ h1 h2).mono ?_
  rintro e w' ⟨rfl, rfl⟩
  go_wp2_with fail
  go_quiet (fail)
  have h9 := H.out.drewN nq
  have f9 := (Fr.refl (DkS db mb L) w').drewN nq
  have hsz : (w'.drewN nq).heap.size = w'.heap.size := rfl
  generalize w'.drewN nq = W at *
  clear c0 c1 nge
  have c3 : W.cell? ⟨db, 3, none⟩ = some (.map (some mb)) := (cell_of h9.d 3).trans rfl
  have hlook := h9.m.look (k := nm) (by unfold maxLen; omega)
  rw [hg] at hlook
  simp only [Option.isSome_none, boxV] at hlook
  have hla := h9.old ((Fr.same W).alloc (fileObj ByteArray.empty 0))
  have c4 : (W.alloc (.cells #[.string ⟨#[]⟩, .int .i64 0] 82)).cell? ⟨db, 3, none⟩ = some (.map (some mb)) := (cell_of hla.d 3).trans rfl
  have HA := Lib.hid hla
  have H9 := Lib.hid h9
  have F9W := Lib.hid f9
  have HSZ := Lib.hid hsz
  have hbz : getL L nm = none := hg
  clear hla h9 f9 hsz
  go_wp2_with (at_mapUpdate; refine wpList_put _ rfl (.tmp 48) (.tmp 49) (.tmp 50) rfl mb L rfl HA.out.m ?c1 nm rfl ?c2 W.heap.size rfl ?_)
  case c1 => omega
  case c2 => unfold maxLen; omega
  intro w3 hm3 hg3
  have hob : w3.heap[W.heap.size]? = some (fileObj ByteArray.empty 0) := (hg3.block _ (by simp) fun e => by injection e with e; have := H9.out.lt (.inr (.inl rfl)); omega).trans (heap_alloc_self W _)
  have hfr3 : Fr (fun i => i = mb) W w3 := ((Fr.refl (fun i => i = mb) W).alloc (fileObj ByteArray.empty 0)).grown hg3 fun k e => by cases e; exact .inl rfl
  have D3 := H9.out.newFile hg hl (Nat.le_refl _) hob hm3 hfr3
  have hgp : getL (putR L nm W.heap.size) nm = some W.heap.size := by rw [getL_put, if_pos rfl]
  have g0 : w3.cell? ⟨W.heap.size, 0, none⟩ = some (.string ⟨#[]⟩) := (cell_of hob 0).trans rfl
  have g1 := fz_of hob 0
  have hfr : Fr (fun i => i = W.heap.size) w3 (w3.setCell ⟨W.heap.size, 0, none⟩ (.string s)) := Fr.setCell (S := fun i => i = W.heap.size) (p := ⟨W.heap.size, 0, none⟩) (Fr.refl _ _) (.inl rfl) _
  have D4 := D3.setFile hgp _ (t := s) (n := 0) (by rw [heap_setCell_self hob]; rfl) hfr
  have hFF : updF (updF F nm ByteArray.empty 0) nm s 0 = updF F nm s 0 := funext fun x => by unfold updF; split <;> rfl
  rw [hFF] at D4
  have c5 : (w3.setCell ⟨W.heap.size, 0, none⟩ (.string s)).cell? ⟨db, 1, none⟩ = some (.int .i64 used) := (cell_of D4.d 1).trans rfl
  have c6 := fz_of D4.d 1
  have hfr2 : Fr (fun i => i = db) (w3.setCell ⟨W.heap.size, 0, none⟩ (.string s)) ((w3.setCell ⟨W.heap.size, 0, none⟩ (.string s)).setCell ⟨db, 1, none⟩ (.int .i64 (used + s.size))) := Fr.setCell (S := fun i => i = db) (p := ⟨db, 1, none⟩) (Fr.refl _ _) (.inl rfl) _
  have D5 := Lib.hid (D4.setNum _ (room' := room) (used' := used + s.size) (fuse' := fuse) (by rw [heap_setCell_self D4.d]; rfl) hfr2)
  have hW : w'.heap.size ≤ W.heap.size := Nat.le_of_eq HSZ.out.symm
  have F5 := Lib.hid (((F9W.out.trans hfr3 fun i e => .inl (.inr (.inl e))).trans hfr fun i e => .inr (by omega)).trans hfr2 fun i e => .inl (.inl e))
  have HL3 := Lib.hid (lt_of_heap hob)
  have hadd : (⟨#[]⟩ : ByteArray) ++ s = s := ByteArray.empty_append
  clear hob hfr3 D3 hgp hfr D4 hFF hfr2 hm3 hg3 c4
  have HFB := Lib.hid hW
  clear hW HSZ
  generalize W.heap.size = fb at *
  go_wp2_with fail
  refine (changed_walk D5.out HW.out).mono ?_
  rintro e w6 ⟨rfl, hd, hf⟩
  have D6 := Lib.hid hd
  have F6 := Lib.hid (F5.out.trans hf fun i e => .inl (.inl e))
  have HL6 := Lib.hid (Nat.lt_of_lt_of_le HL3.out (show w3.heap.size ≤ _ from Nat.le_trans (by simp [World.setCell]) hf.size))
  clear hd hf
  go_wp2_with fail
  go_ret
  exact ⟨rfl, fb, HFB.out, HL6.out, D6.out, F6.out⟩
end
end Go.Proofs.YtgbcdgfpmihkcaaDoor
