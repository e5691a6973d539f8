/- live of the segment laws: the walk. -/
import Derived.Test.YtgbcdgfpmihkcaaDoorGB
namespace Go.Proofs.YtgbcdgfpmihkcaaDoor
open Go.RowKit Go.Fm Go.BigFrame Go.Shelf Go.Maps
set_option linter.unusedVariables false
set_option linter.unusedSimpArgs false
set_option maxRecDepth 100000

section
variable {w0 w w' : World} {sb db mb : Nat} {nm : ByteArray} {s : Seg} {room : Int} {t : ByteArray} {m : Nat} {fuse : Int} {L : List Row} {S : Nat → Prop}
def Crash1Post (w0 : World) (db mb : Nat) (nm : ByteArray) (room : Int) (t : ByteArray) (m : Nat) (L : List Row) (kp : Int) (e : Ending) (w' : World) : Prop :=
  (∃ c, e = .returned (.int .i64 c)) ∧ Disk1 w0 w' db mb nm room (t.extract 0 (crN m t.size kp)) (t.extract 0 (crN m t.size kp)).size (-1) L ∧ Fr (fun _ => False) w0 w'
theorem crN_le {m s : Nat} (h : m ≤ s) (k : Int) : crN m s k ≤ s := by unfold crN; omega
theorem crash1 (h : Disk1 w0 w db mb nm room t m fuse L) (hfr : Fr (fun _ => False) w0 w) (hnm : nm.size ≤ maxLen) (kb kc : Nat) (kp : Int) (hk : w.cell? ⟨kb, 0, none⟩ = some (.int .i64 kp)) :
    Calls Tryd.prog 16 #[.pointer (some ⟨db, 0, none⟩), .slice (some ⟨kb, 0, none⟩) 1 kc] w (Crash1Post w0 db mb nm room t m L kp) := by
  have hsz := h.sz
  have hrm := h.rm
  rcases h.kind with ⟨rfl, rfl, rfl⟩ | ⟨fb, rfl⟩
  · refine (crash_none h.dk _ _ _).mono ?_
    rintro e w' ⟨rfl, hd, hf⟩
    have he : (ByteArray.empty).extract 0 (crN 0 (ByteArray.empty).size kp) = ByteArray.empty := by
      have := ByteArray.size_extract (a := ByteArray.empty) (b := 0) (e := crN 0 (ByteArray.empty).size kp)
      exact bytes_ext (by simp)
    exact ⟨⟨_, rfl⟩, by rw [he]; exact ⟨.inl ⟨rfl, rfl, rfl⟩, hd, h.new, Nat.le_refl _, hsz, hrm, by decide⟩, hfr.trans hf fun i hi => .inr (h.new i hi)⟩
  · refine (crash_one h.dk t m (updF_same _ _ _ _) h.mle (by omega) (by omega) (by omega) hnm kb kc kp hk).mono ?_
    rintro e w' ⟨hc, hd, hf⟩
    have hle := crN_le h.mle kp
    have hes : (t.extract 0 (crN m t.size kp)).size = crN m t.size kp := by rw [ByteArray.size_extract]; omega
    have hu : ((t.extract 0 (crN m t.size kp)).size : Int) = (t.size : Int) - ((t.size : Int) - (crN m t.size kp : Nat)) := by rw [hes]; omega
    rw [updF_upd, ← hu] at hd
    exact ⟨hc, ⟨.inr ⟨fb, rfl⟩, hd, h.new, Nat.le_refl _, by omega, hrm, by decide⟩, hfr.trans hf fun i hi => .inr (h.new i hi)⟩
end
theorem dnew1 (room : Int) (w : World) (h1 : 1 ≤ room) (h2 : room ≤ 4194304) (nm : ByteArray) : Calls Tryd.prog 14 #[.int .i64 room] w fun e w' => ∃ db mb, e = .returned (.tuple #[.pointer (some ⟨db, 0, none⟩), .int .i64 0]) ∧ Disk1 w w' db mb nm room ByteArray.empty 0 (-1) [] ∧ Fr (fun _ => False) w w' := by
  refine (dnew_walk room (updF F0 nm ByteArray.empty 0) w h1 h2).mono ?_
  rintro e w' ⟨db, mb, rfl, hd, hf, hb1, hb2⟩
  refine ⟨db, mb, rfl, ⟨.inl ⟨rfl, rfl, rfl⟩, hd, fun i hi => ?_, Nat.le_refl _, by show (0 : Int) ≤ room; omega, h2, by decide⟩, hf⟩
  rcases hi with rfl | rfl | ⟨r, hr, -⟩
  · exact hb1
  · exact hb2
  · cases hr
theorem pick_ex : pick 0 0 [exB 5] 0 [] = [exB 5] := by
  simp [pick, exB]
set_option maxHeartbeats 16000000 in
theorem live_walk (w : World) (hst : StepsOK w) (hw0 : 1 ≤ w.heap.size) : Calls Tryd.prog 5 #[] w fun e w' => e = .returned (.bool true) ∧ Fr (fun _ => False) w w' := by
  have HST := Lib.hid hst
  have a1 : 1 ≤ aS.size := by decide
  have a2 : aS.size ≤ 40 := by decide
  have b5 := exB_ok (n := 5) (by omega) (by omega)
  have b6 := exB_ok (n := 6) (by omega) (by omega)
  have z5 := (exB_bsz (n := 5) (by omega) (by omega)).2
  have z6 := (exB_bsz (n := 6) (by omega) (by omega)).2
  have B5 := Lib.hid b5
  have B6 := Lib.hid b6
  have HA : Hid (aS = ⟨#[97]⟩) := Lib.hid rfl
  clear hst b5 b6
  go_enter Tryd.func5, Tryd.ntmps5
  go_wp2_with fail
  refine (dnew1 10000 w (by omega) (by omega) aS).mono ?_
  rintro e w1 ⟨db, mb, rfl, hd1, hf1⟩
  have D1 := Lib.hid hd1
  have F1 := Lib.hid hf1
  clear hd1 hf1
  go_wp2_with fail
  refine (open1 D1.out F1.out (by omega) a1 a2 5 10 (by omega) (by omega) (by omega) [] 0 (scan_empty 5) HST.out (by simp) hw0).mono ?_
  rintro e w2 ⟨sb, S2, f, rfl, hs2, -, hff⟩
  have hf : f = -1 := hff (by simp)
  subst hf
  have SD2 : SD w w2 sb db mb aS exS0 10000 ByteArray.empty 0 (-1) [] S2 := by
    have : ByteArray.empty.extract 0 0 = ByteArray.empty := bytes_ext (by simp)
    rw [this] at hs2
    exact hs2
  have SD2 := Lib.hid SD2
  clear hs2 hff D1 F1
  go_wp2_with fail
  refine (sopen_nil _ 5 10 _).mono ?_
  rintro e w3 ⟨rfl, hf3⟩
  have SD3 := Lib.hid (SD2.out.old hf3)
  clear hf3 SD2
  go_wp2_with fail
  refine (simple_walk 5 _).mono ?_
  rintro e w4 ⟨rv4, rfl, hr4, hf4⟩
  have SD4 := Lib.hid (SD3.out.old hf4)
  have hc1 : apCode exS0 (exB 5) 10000 (ByteArray.empty.size : Int) (-1) = 0 := code0 B5.out (by show (5 : Int) ≤ 5; omega) (by omega) (by show (0 : Int) + _ ≤ _; omega)
  have hap := append1 SD4.out a1 a2 (fun b => w3.heap.size ≤ b) (fun k hk hd => by have := SD3.out.dk.dk.lt hd; omega) (exB 5) rv4 hr4 HST.out (by simp [exS0]) (by simp [exS0, sumB]) hw0
  unfold App1Post at hap
  rw [hc1] at hap
  have HAP := Lib.hid hap
  clear hap hc1 hr4 hf4 SD3
  unfold batV at HAP
  unfold batV
  go_wp2_with fail
  refine HAP.out.mono ?_
  rintro e w5 ⟨rfl, hok, -⟩
  obtain ⟨L5, S5, hs5⟩ := hok trivial
  have SD5 : SD w w5 sb db mb aS exS1 10000 ex5 0 (-1) L5 S5 := by
    have e1 : ByteArray.empty ++ batS (exB 5) = ex5 := ByteArray.empty_append
    rw [e1] at hs5
    exact hs5
  have SD5 := Lib.hid SD5
  clear hok hs5 HAP SD4
  go_wp2_with fail
  refine (sync1 SD5.out a2).mono ?_
  rintro e w6 ⟨rfl, f6, hs6, hf6⟩
  have hf : f6 = -1 := by rcases hf6 with h | h <;> exact h
  subst hf
  rw [if_neg (by omega)] at hs6 ⊢
  have SD6 := Lib.hid hs6
  clear hs6 hf6 SD5
  go_wp2_with fail
  refine (simple_walk 6 _).mono ?_
  rintro e w7 ⟨rv7, rfl, hr7, hf7⟩
  have SD7 := Lib.hid (SD6.out.old hf7)
  have hc2 : apCode exS1 (exB 6) 10000 (ex5.size : Int) (-1) = 0 := code0 B6.out (by show (6 : Int) ≤ 6; omega) (by omega) (by have := ex_sizes; show ((ex5.size : Nat) : Int) + (bsz (exB 6) : Nat) ≤ 10000; omega)
  have hap := append1 SD7.out a1 a2 (fun b => w6.heap.size ≤ b) (fun k hk hd => by have := SD6.out.dk.dk.lt hd; omega) (exB 6) rv7 hr7 HST.out (by simp [exS1]) (by have := z5; simp [exS1, sumB]; omega) hw0
  unfold App1Post at hap
  rw [hc2] at hap
  have HAP := Lib.hid hap
  clear hap hc2 hr7 hf7 SD6
  unfold batV at HAP
  unfold batV
  go_wp2_with fail
  refine HAP.out.mono ?_
  rintro e w8 ⟨rfl, hok, -⟩
  obtain ⟨L8, S8, hs8⟩ := hok trivial
  have SD8 : SD w w8 sb db mb aS exS2 10000 (ex5 ++ ex6) ex5.size (-1) L8 S8 := hs8
  have SD8 := Lib.hid SD8
  clear hok hs8 HAP SD7
  go_wp2_with fail
  refine (simple_walk 6 _).mono ?_
  rintro e w9 ⟨rv9, rfl, hr9, hf9⟩
  have SD9 := Lib.hid (SD8.out.old hf9)
  have hc3 : apCode exS2 (exB 6) 10000 ((ex5 ++ ex6).size : Int) (-1) = 1 := code1 (by show (6 : Int) < 7; omega)
  have hap := append1 SD9.out a1 a2 (fun b => w8.heap.size ≤ b) (fun k hk hd => by have := SD8.out.dk.dk.lt hd; omega) (exB 6) rv9 hr9 HST.out (by simp [exS2]) (by have := z5; have := z6; simp [exS2, sumB]; omega) hw0
  unfold App1Post at hap
  rw [hc3] at hap
  have HAP := Lib.hid hap
  clear hap hc3 hr9 hf9 SD8
  unfold batV at HAP
  unfold batV
  go_wp2_with fail
  refine HAP.out.mono ?_
  rintro e w10 ⟨rfl, -, hno⟩
  have SD10 := Lib.hid (SD9.out.old (hno (by omega)))
  clear hno HAP SD9
  go_wp2_with fail
  refine (send_walk SD10.out.sg).mono ?_
  rw [exS2_end]
  rintro e w11 ⟨rfl, rfl⟩
  have SD11 := Lib.hid (SD10.out.old ((Fr.same w10).alloc (.cells #[.int .i64 9] 3)))
  have K9 := Lib.hid (show (w10.alloc (.cells #[.int .i64 9] 3)).cell? ⟨w10.heap.size, 0, none⟩ = some (.int .i64 9) from cell_alloc_new _ _ _ 0)
  clear SD10
  go_wp2_with fail
  refine (crash1 SD11.out.dk SD11.out.fr (by unfold maxLen; omega) _ _ 9 K9.out).mono ?_
  rintro e w12 ⟨⟨c, rfl⟩, hd12, hf12⟩
  have hcr : crN ex5.size (ex5 ++ ex6).size 9 = ex5.size + 9 := by
    have := ex_sizes
    unfold crN
    rw [ByteArray.size_append]
    omega
  rw [hcr] at hd12
  have D12 : Disk1 w w12 db mb aS 10000 exT exT.size (-1) L8 := hd12
  have D12 := Lib.hid D12
  have F12 := Lib.hid hf12
  clear hd12 hf12 hcr SD11 K9
  go_wp2_with fail
  refine (open1 D12.out F12.out (by omega) a1 a2 5 10 (by omega) (by omega) (by omega) [exB 5] ex5.size exT_scan HST.out (by simp) hw0).mono ?_
  rintro e w13 ⟨tb, S13, f13, rfl, hs13, hff, -⟩
  have hf : f13 = -1 := by rcases hff with h | h <;> exact h
  subst hf
  have hs13 : SD w w13 tb db mb aS exS1 10000 (exT.extract 0 ex5.size) (min exT.size ex5.size) (-1) L8 S13 := hs13
  have SD13 := Lib.hid hs13
  clear hs13 hff D12 F12
  go_wp2_with fail
  refine (send_walk SD13.out.sg).mono ?_
  rw [exS1_end]
  rintro e w14 ⟨rfl, rfl⟩
  go_wp2_with fail
  refine (sread_walk SD13.out.sg 0 0).mono ?_
  rintro e w15 ⟨v, rfl, hr15, hf15⟩
  have hp : pick 0 0 exS1.l 0 [] = [exB 5] := pick_ex
  rw [hp] at hr15
  obtain ⟨oa15, cap15, rfl, -⟩ := hr15
  have SD15 := Lib.hid (SD13.out.old hf15)
  clear hp hf15 SD13
  go_wp2_with fail
  refine (ssize_walk SD15.out.sg).mono ?_
  rintro e w16 ⟨rfl, rfl⟩
  go_wp2_with fail
  refine (used_walk SD15.out.dk.dk).mono ?_
  rintro e w17 ⟨rfl, rfl⟩
  have hsz : ((exT.extract 0 ex5.size).size : Int) = (sumB exS1.l : Nat) := by
    have h1 := exT_size
    rw [ByteArray.size_extract]
    simp only [exS1, sumB, List.map_cons, List.map_nil, List.sum_cons, List.sum_nil]
    show ((min ex5.size exT.size - 0 : Nat) : Int) = ((bsz (exB 5) + 0 : Nat) : Int)
    show ((min ex5.size exT.size - 0 : Nat) : Int) = ((ex5.size + 0 : Nat) : Int)
    omega
  rw [hsz]
  clear hsz
  go_wp2_with fail
  go_ret
  exact ⟨rfl, SD15.out.fr⟩
end Go.Proofs.YtgbcdgfpmihkcaaDoor
