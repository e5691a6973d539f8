/- The names of a disk of at most one file, sorted; Crash of such a disk: the walks. -/
import Derived.Test.YtgbcdgfpmihkcaaDoorSk
import Derived.Test.YtgbcdgfpmihkcaaDoorShelf
namespace Go.Proofs.YtgbcdgfpmihkcaaDoor
open Go.RowKit Go.Fm Go.BigFrame Go.Maps Go.Shelf
set_option linter.unusedVariables false
set_option linter.unusedSimpArgs false

theorem sort_one (g cap : Nat) (nm : ByteArray) (w : World) (hc : w.cell? ⟨g, 0, none⟩ = some (.string nm)) (hf : w.frozen? ⟨g, 0, none⟩ = false) :
    Calls Tryd.prog 55 #[.slice (some ⟨g, 0, none⟩) 1 cap] w fun e w' => e = .returned (.tuple #[]) ∧ Fr (fun _ => False) w w' := by
  have hH : Go.Sort.Holds encStr w g 0 [nm.data.toList].toArray := fun j hj => by
    have : j = 0 := by simpa using hj
    subst this
    refine ⟨?_, hf⟩
    rw [hc]
    rfl
  have hg : g < w.heap.size := World.block_lt_of_cell? w _ hc
  refine (Tryd.slices_Sort_string g 0 cap [nm.data.toList] w hH hg (by simp)).mono ?_
  rintro e w' ⟨rfl, n, os, rfl⟩
  refine ⟨rfl, ?_⟩
  rw [show ([nm.data.toList].mergeSort fun x y => decide (x ≤ y)) = [nm.data.toList] by simp]
  have hH2 : Go.Sort.Holds encStr (Go.Sort.ahead w n) g 0 [nm.data.toList].toArray := hH
  rw [Go.Sort.putRow_self _ _ _ _ _ hH2]
  exact ⟨rfl, rfl, rfl, by simp [Go.Sort.ahead], fun k hk _ => by rw [Go.Sort.heap_grow_old _ _ (show k < (Go.Sort.ahead w n).heap.size from hk)]; rfl⟩
def NamesPost (w : World) (nm : ByteArray) (e : Ending) (w' : World) : Prop :=
  ∃ g cap, e = .returned (.slice (some ⟨g, 0, none⟩) 1 cap) ∧ w'.cell? ⟨g, 0, none⟩ = some (.string nm) ∧ Fr (fun _ => False) w w'
theorem sorted_one (Bm b fb : Nat) (nm : ByteArray) (w : World) (hm : w.cell? ⟨Bm, 0, none⟩ = some (.map (some b))) (ht : TabM w b [(nm, fb)]) :
    Calls Tryd.prog 32 #[.func (.func 56) #[] #[.pointer (some ⟨Bm, 0, none⟩)]] w (NamesPost w nm) := by
  have hcall := collect_walk Bm b [(nm, fb)] w (World.block_lt_of_cell? w _ hm) hm ht (by simp)
  have HC := Lib.hid hcall
  clear hcall hm ht
  go_enter Tryd.func32, Tryd.ntmps32
  go_wp2_with fail
  refine HC.out.mono ?_
  rintro e w1 ⟨v, ss, rfl, h1, h2, h3, h4⟩
  have hss : ss = [nm] := by simpa using h1
  subst hss
  have hb := Fr.of_below (S := fun _ => False) h4 (Nat.le_refl _)
  obtain ⟨oa, cap, rfl, hoa⟩ := own_at h2
  obtain ⟨g, rfl, hob, hBg, hcells⟩ := hoa (by simp)
  have hc := hcells 0 (.string nm) rfl
  have hfz : w1.frozen? ⟨g, 0, none⟩ = false := by
    rcases h2.2 with ⟨h0, _⟩ | ⟨g', cap', cur, hv, hb, hg, _⟩
    · cases h0
    · cases hv
      exact fz_of hg 0
  have HS := Lib.hid (sort_one g cap nm w1 hc hfz)
  have F1 := Lib.hid hb
  have C1 := Lib.hid hc
  clear h1 h2 h3 h4 hb hc hfz hob hBg hcells HC hoa
  go_wp2_with fail
  refine HS.out.mono ?_
  rintro e w2 ⟨rfl, hf⟩
  have F2 := Lib.hid (F1.out.tr hf)
  have C2 := Lib.hid (hf.cel C1.out)
  clear hf
  go_wp2_with fail
  go_ret
  exact ⟨g, cap, rfl, C2.out, F2.out⟩
theorem sorted_none (Bm b : Nat) (w : World) (hm : w.cell? ⟨Bm, 0, none⟩ = some (.map (some b))) (ht : TabM w b []) :
    Calls Tryd.prog 32 #[.func (.func 56) #[] #[.pointer (some ⟨Bm, 0, none⟩)]] w fun e w' => e = .returned (.slice none 0 0) ∧ Fr (fun _ => False) w w' := by
  have hcall := collect_walk Bm b [] w (World.block_lt_of_cell? w _ hm) hm ht (by simp)
  have HC := Lib.hid hcall
  clear hcall hm ht
  go_enter Tryd.func32, Tryd.ntmps32
  go_wp2_with fail
  refine HC.out.mono ?_
  rintro e w1 ⟨v, ss, rfl, h1, h2, h3, h4⟩
  have hss : ss = [] := by simpa using h1
  have hv := h3.2 hss
  subst hv
  have F1 := Lib.hid (Fr.of_below (S := fun _ => False) h4 (Nat.le_refl _))
  clear h1 h2 h3 h4 HC hss
  go_wp2_with fail
  refine (Tryd.slices_Sort_string_none none 0 _).mono ?_
  rintro e w2 ⟨rfl, rfl⟩
  go_wp2_with fail
  go_ret
  exact ⟨rfl, F1.out⟩

section
variable {w w' : World} {db mb : Nat} {room used fuse : Int} {L : List Row} {F F' : ByteArray → ByteArray × Nat}
theorem Dk.congr (h : Dk w db mb room used fuse L F) (hF : ∀ r ∈ L, F' r.1 = F r.1) : Dk w db mb room used fuse L F' := ⟨h.d, h.m, fun r hr => by rw [hF r hr]; exact h.f r hr, h.nd, h.sz⟩
/-- Where a torn file ends. -/
def crN (m s : Nat) (k : Int) : Nat := m + min k.toNat (s - m)
set_option maxRecDepth 100000 in
set_option maxHeartbeats 4000000 in
theorem crash_none (h : Dk w db mb room used fuse [] F) (ka : Option Addr) (kl kc : Nat) :
    Calls Tryd.prog 16 #[.pointer (some ⟨db, 0, none⟩), .slice ka kl kc] w fun e w' => e = .returned (.int .i64 0) ∧ Dk w' db mb room used (-1) [] F ∧ Fr (DkS db mb []) w w' := by
  have c3 : w.cell? ⟨db, 3, none⟩ = some (.map (some mb)) := (cell_of h.d 3).trans rfl
  have H := Lib.hid h
  clear h
  go_enter Tryd.func16, Tryd.ntmps16
  go_wp2_with fail
  refine (keysSeq_walk mb _).mono ?_
  rintro e w1 ⟨rfl, hw⟩
  have H1 := H.out.old (w' := w1) (by rw [hw]; exact (Fr.same w).alloc _)
  have C1 : w1.cell? ⟨w.heap.size, 0, none⟩ = some (.map (some mb)) := by rw [hw]; exact cell_alloc_new _ _ _ 0
  have F1 : Fr (fun _ => False) w w1 := by rw [hw]; exact (Fr.same w).alloc _
  have H1 := Lib.hid H1
  have C1 := Lib.hid C1
  have F1 := Lib.hid F1
  clear hw c3
  go_wp2_with fail
  refine (sorted_none _ mb _ C1.out H1.out.m).mono ?_
  rintro e w2 ⟨rfl, hf⟩
  have H2 := Lib.hid (H1.out.old hf)
  have F2 := Lib.hid (F1.out.tr hf)
  clear hf H1 F1
  have c2 : w2.cell? ⟨db, 2, none⟩ = some (.int .i64 fuse) := (cell_of H2.out.d 2).trans rfl
  have f2 := fz_of H2.out.d 2
  have hfr : Fr (fun i => i = db) w2 (w2.setCell ⟨db, 2, none⟩ (.int .i64 (-1))) := Fr.setCell (S := fun i => i = db) (p := ⟨db, 2, none⟩) (Fr.refl _ _) (.inl rfl) _
  have D3 := Lib.hid (H2.out.setNum _ (room' := room) (used' := used) (fuse' := -1) (by rw [heap_setCell_self H2.out.d]; rfl) hfr)
  have F3 := Lib.hid ((F2.out.mono (S' := DkS db mb []) fun i h => h.elim).trans hfr fun i e => .inl (.inl e))
  clear hfr
  go_wp2_with fail
  refine wp_loop_rounds 2 ?_
  rw [rounds_succ]
  go_wp2_with fail
  go_ret
  exact ⟨rfl, D3.out, F3.out⟩
set_option maxRecDepth 100000 in
set_option maxHeartbeats 4000000 in
theorem crash_one {nm : ByteArray} {fb : Nat} (h : Dk w db mb room used fuse [(nm, fb)] F) (t : ByteArray) (m : Nat) (hFn : F nm = (t, m)) (hm : m ≤ t.size) (hF : t.size ≤ 1000000000) (hu0 : 0 ≤ used) (hu1 : used ≤ 1000000000) (hnm : nm.size ≤ maxLen)
    (kb kc : Nat) (kp : Int) (hk : w.cell? ⟨kb, 0, none⟩ = some (.int .i64 kp)) :
    Calls Tryd.prog 16 #[.pointer (some ⟨db, 0, none⟩), .slice (some ⟨kb, 0, none⟩) 1 kc] w fun e w' => (∃ c, e = .returned (.int .i64 c)) ∧
      Dk w' db mb room (used - (t.size - crN m t.size kp)) (-1) [(nm, fb)] (updF F nm (t.extract 0 (crN m t.size kp)) (t.extract 0 (crN m t.size kp)).size) ∧ Fr (DkS db mb [(nm, fb)]) w w' := by
  have c3 : w.cell? ⟨db, 3, none⟩ = some (.map (some mb)) := (cell_of h.d 3).trans rfl
  have H := Lib.hid h
  have HK := Lib.hid hk
  have HFN := Lib.hid hFn
  clear h hk hFn
  obtain ⟨N, hN, hNle, hNm, hKi⟩ : ∃ N, N = crN m t.size kp ∧ N ≤ t.size ∧ m ≤ N ∧ min (max kp 0) ((t.size : Int) - m) = (N : Int) - m := ⟨_, rfl, by unfold crN; omega, by unfold crN; omega, by unfold crN; omega⟩
  rw [← hN]
  obtain ⟨t', ht'⟩ : ∃ t', t' = t.extract 0 N := ⟨_, rfl⟩
  rw [← ht']
  have HT := Lib.hid ht'
  have hsz : t'.size ≤ 1000000000 := by rw [ht', ByteArray.size_extract]; omega
  have HSZ := Lib.hid hsz
  have HKI := Lib.hid hKi
  have HNL := Lib.hid (⟨hNle, hNm⟩ : _ ∧ _)
  clear ht' hsz hKi hN hNle hNm
  go_enter Tryd.func16, Tryd.ntmps16
  go_wp2_with fail
  refine (keysSeq_walk mb _).mono ?_
  rintro e w1 ⟨rfl, hw⟩
  have H1 := H.out.old (w' := w1) (by rw [hw]; exact (Fr.same w).alloc _)
  have C1 : w1.cell? ⟨w.heap.size, 0, none⟩ = some (.map (some mb)) := by rw [hw]; exact cell_alloc_new _ _ _ 0
  have F1 : Fr (fun _ => False) w w1 := by rw [hw]; exact (Fr.same w).alloc _
  have H1 := Lib.hid H1
  have C1 := Lib.hid C1
  have F1 := Lib.hid F1
  clear hw c3
  go_wp2_with fail
  refine (sorted_one _ mb fb nm _ C1.out H1.out.m).mono ?_
  rintro e w2 ⟨g, cap, rfl, hg, hf⟩
  have H2 := Lib.hid (H1.out.old hf)
  have F2 := Lib.hid (F1.out.tr hf)
  have G2 := Lib.hid hg
  clear hf H1 F1 hg C1
  go_wp2_with fail
  refine wp_loop_rounds 2 ?_
  rw [rounds_succ]
  have hg := G2.out
  have c3 : w2.cell? ⟨db, 3, none⟩ = some (.map (some mb)) := (cell_of H2.out.d 3).trans rfl
  have hlook := H2.out.m.look1 hnm
  have hgl : getL [(nm, fb)] nm = some fb := by simp [getL]
  rw [hgl] at hlook
  simp only [boxV, ptrV] at hlook
  have HGL := Lib.hid hgl
  have hob := H2.out.f (nm, fb) (by simp)
  rw [HFN.out] at hob
  dsimp only at hob
  have d0 : w2.cell? ⟨fb, 0, none⟩ = some (.string t) := (cell_of hob 0).trans rfl
  have d1 : w2.cell? ⟨fb, 1, none⟩ = some (.int .i64 m) := (cell_of hob 1).trans rfl
  have HOB := Lib.hid hob
  clear hob hgl
  go_wp2_with fail
  go_quiet (fail)
  clear d0 d1 hlook c3 hg
  have H3 := Lib.hid (H2.out.drewN nq)
  have F3 := Lib.hid (F2.out.drewN nq)
  have hob : (w2.drewN nq).heap[fb]? = some (fileObj t m) := HOB.out
  have HOB := Lib.hid hob
  have HK3 := Lib.hid (F3.out.cel HK.out)
  generalize w2.drewN nq = w3 at *
  clear H2 F2 G2 hob
  by_cases hms : m = t.size
  · have he : ((m : Int) == (t.size : Int)) = true := by simp [hms]
    have hN : N = t.size := by have := HNL.out; omega
    have ht' : t' = t := by rw [HT.out, hN]; exact ByteArray.extract_zero_size
    have c2 : w3.cell? ⟨db, 2, none⟩ = some (.int .i64 fuse) := (cell_of H3.out.d 2).trans rfl
    have f2 := fz_of H3.out.d 2
    have hfr : Fr (fun i => i = db) w3 (w3.setCell ⟨db, 2, none⟩ (.int .i64 (-1))) := Fr.setCell (S := fun i => i = db) (p := ⟨db, 2, none⟩) (Fr.refl _ _) (.inl rfl) _
    have D3 := H3.out.setNum _ (room' := room) (used' := used) (fuse' := -1) (by rw [heap_setCell_self H3.out.d]; rfl) hfr
    have D4 := D3.congr (F' := updF F nm t' t'.size) fun r hr => by
      obtain rfl : r = (nm, fb) := by simpa using hr
      rw [updF_same, ht', HFN.out, hms]
    have hu : used - ((t.size : Int) - (N : Nat)) = used := by rw [hN]; omega
    have D4 : Hid (Dk _ db mb room (used - ((t.size : Int) - (N : Nat))) (-1) [(nm, fb)] _) := Lib.hid (by rw [hu]; exact D4)
    have F4 := Lib.hid ((F3.out.mono (S' := DkS db mb [(nm, fb)]) fun i h => h.elim).trans hfr fun i e => .inl (.inl e))
    clear hfr D3 hN ht' hu hms
    go_wp2_with fail
    rw [rounds_succ]
    go_wp2_with fail
    go_ret
    exact ⟨⟨_, rfl⟩, D4.out, F4.out⟩
  · have he : ((m : Int) == (t.size : Int)) = false := by simpa using (by omega : ¬ (m : Int) = t.size)
    have d0 : w3.cell? ⟨fb, 0, none⟩ = some (.string t) := (cell_of HOB.out 0).trans rfl
    have d1 : w3.cell? ⟨fb, 1, none⟩ = some (.int .i64 m) := (cell_of HOB.out 1).trans rfl
    have hk := HK3.out
    clear hms
    go_wp2_with fail
    go_quiet (fail)
    clear d0 d1 hk
    rw [HKI.out]
    have H4 := Lib.hid (H3.out.drewN nq)
    have F4 := Lib.hid (F3.out.drewN nq)
    have hob : (w3.drewN nq).heap[fb]? = some (fileObj t m) := HOB.out
    clear H3 F3 HK3 HOB
    generalize w3.drewN nq = w4 at *
    have d1 : w4.cell? ⟨fb, 1, none⟩ = some (.int .i64 m) := (cell_of hob 1).trans rfl
    have e1 : (m : Int) + ((N : Int) - m) = N := by omega
    have hNle := HNL.out.1
    have hNm := HNL.out.2
    clear hob
    go_wp2_with fail
    refine (keep_walk H4.out nm HGL.out t m N HFN.out hNle hF hu0 hu1 (by omega)).mono ?_
    rintro e w5 ⟨rfl, hd, hf⟩
    rw [← HT.out] at hd
    have D5 := Lib.hid hd
    have F5 := Lib.hid ((F4.out.mono (S' := DkS db mb [(nm, fb)]) fun i h => h.elim).trans hf fun i e => .inl e)
    clear hd hf d1 H4 F4
    have hob := D5.out.f (nm, fb) (by simp)
    dsimp only at hob
    rw [updF_same] at hob
    dsimp only at hob
    have d0 : w5.cell? ⟨fb, 0, none⟩ = some (.string (t')) := (cell_of hob 0).trans rfl
    have d1 : w5.cell? ⟨fb, 1, none⟩ = some (.int .i64 (min m N : Nat)) := (cell_of hob 1).trans rfl
    have f1 := fz_of hob 1
    have hfr : Fr (fun i => i = fb) w5 (w5.setCell ⟨fb, 1, none⟩ (.int .i64 ((t').size : Nat))) := Fr.setCell (S := fun i => i = fb) (p := ⟨fb, 1, none⟩) (Fr.refl _ _) (.inl rfl) _
    have D6 := D5.out.setFile HGL.out _ (t := t') (n := (t').size) (by rw [heap_setCell_self hob]; rfl) hfr
    have D6 := D6.congr (F' := updF F nm (t') (t').size) fun r hr => by
      obtain rfl : r = (nm, fb) := by simpa using hr
      rw [updF_same, updF_same]
    have F6 := F5.out.trans hfr fun i e => .inl (.inr (.inr ⟨(nm, fb), by simp, e.symm⟩))
    have hsz := HSZ.out
    clear D5 F5 hob hfr
    have c2 : (w5.setCell ⟨fb, 1, none⟩ (.int .i64 (t'.size : Nat))).cell? ⟨db, 2, none⟩ = some (.int .i64 fuse) := (cell_of D6.d 2).trans rfl
    have f2 := fz_of D6.d 2
    have hfr : Fr (fun i => i = db) (w5.setCell ⟨fb, 1, none⟩ (.int .i64 (t'.size : Nat))) ((w5.setCell ⟨fb, 1, none⟩ (.int .i64 (t'.size : Nat))).setCell ⟨db, 2, none⟩ (.int .i64 (-1))) := Fr.setCell (S := fun i => i = db) (p := ⟨db, 2, none⟩) (Fr.refl _ _) (.inl rfl) _
    have D7 := Lib.hid (D6.setNum _ (room' := room) (used' := used - (t.size - N)) (fuse' := -1) (by rw [heap_setCell_self D6.d]; rfl) hfr)
    have F7 := Lib.hid (F6.trans hfr fun i e => .inl (.inl e))
    clear D6 F6 hfr
    go_wp2_with fail
    rw [rounds_succ]
    go_wp2_with fail
    go_ret
    exact ⟨⟨_, rfl⟩, D7.out, F7.out⟩
end
end Go.Proofs.YtgbcdgfpmihkcaaDoor
