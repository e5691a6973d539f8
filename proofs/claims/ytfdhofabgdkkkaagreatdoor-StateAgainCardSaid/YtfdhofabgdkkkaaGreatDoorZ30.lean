/- Decode of a batch: of what Encode has written, and of a torn one: the walks. -/
import Derived.Test.YtfdhofabgdkkkaaGreatDoorZ29
namespace Go.Proofs.YtfdhofabgdkkkaaGreatDoor
open Go.RowKit Go.Fm Go.BigFrame Go.Shelf
set_option linter.unusedVariables false
set_option linter.unusedSimpArgs false
def BDecPost (w : World) (b : Bat) (z : Int) (e : Ending) (w' : World) : Prop :=
 ∃ rv, e = .returned (.tuple #[batV b rv, .int .i64 z, .int .i64 0]) ∧ RecsR (fun b => w.heap.size ≤ b) w' rv b.recs ∧ rv.oneCell' = true ∧ Fr (fun _ => False) w w'
theorem read_is {s : ByteArray} {a n a' c : Int} (h : readS s a = (n, a', c)) (w : World) (hs : s.size ≤ maxLen) : Calls Tryz.prog 136 #[.string s, .int .i64 a, .int .i64 4] w fun e w' => e = .returned (.tuple #[.int .i64 n, .int .i64 a', .int .i64 c]) ∧ Fr (fun _ => False) w w' :=
 (read_walk s a w hs).mono fun e w' ⟨h1, h2⟩ => ⟨by rw [h] at h1; exact h1, h2⟩
set_option maxRecDepth 100000 in
set_option maxHeartbeats 16000000 in
theorem bdecode_ok (s : ByteArray) (p : Nat) (b : Bat) (hb : BatOK b) (hI : BatIs s p b) (w : World) (hs : s.size ≤ 1000000000) (hst : StepsOK w) :
  Calls Tryz.prog 77 #[.string s, .int .i64 p] w (BDecPost w b ((p + (batS b).size : Nat) : Int)) := by
 have HB := Lib.hid hb
 have HI := Lib.hid hI
 have HS := Lib.hid hs
 have HST := Lib.hid hst
 have OB := Lib.hid (heap_alloc_self w (.cells batZ 35))
 have FA := Lib.hid ((Fr.same w).alloc (.cells batZ 35))
 have hml : s.size ≤ maxLen := by unfold maxLen; omega
 have HML := Lib.hid hml
 clear hb hI hst hml hs
 unfold batZ at OB FA
 go_enter Tryz.func77, Tryz.ntmps77
 go_wp2_with fail
 refine (read_is HI.out.r1 _ HML.out).mono ?_
 rintro e w1 ⟨rfl, hf⟩
 have F1 := Lib.hid (FA.out.tr hf)
 have OB1 := Lib.hid ((hf.block _ (lt_of_heap OB.out) fun h => h).trans OB.out)
 clear hf FA OB
 have hsum := sumS_in (bodyS b)
 obtain ⟨m, hm⟩ : ∃ m : Nat, sumS (bodyS b) = m := ⟨(sumS (bodyS b)).toNat, by omega⟩
 have HM := Lib.hid hm
 have hml : m < 4294967296 := by omega
 have hr2 := HI.out.r2
 rw [hm, Int.toNat_natCast] at hr2
 have HR2 := Lib.hid hr2
 clear hm hsum hr2
 go_wp2_with fail
 refine (read_is HR2.out _ HML.out).mono ?_
 rintro e w2 ⟨rfl, hf⟩
 have F2 := Lib.hid (F1.out.tr hf)
 have OB2 := Lib.hid ((hf.block _ (lt_of_heap OB1.out) fun h => h).trans OB1.out)
 clear hf F1 OB1
 have hn := HB.out.body
 have hroom := HI.out.room
 have hs := HS.out
 obtain ⟨n, hN⟩ : ∃ n, n = (bodyS b).size := ⟨_, rfl⟩
 have HN := Lib.hid hN
 rw [← hN] at hn hroom ⊢
 clear hN
 go_wp2_with fail
 have hcut : s.extract (p + 8) (p + 8 + n) = bodyS b := by rw [HN.out]; exact HI.out.cut
 rw [hcut]
 refine (sum_walk _ _ (by unfold maxLen; rw [← HN.out]; omega) (HST.out.old F2.out)).mono ?_
 rintro e w3 ⟨rfl, hf⟩
 have F3 := Lib.hid (F2.out.tr hf)
 have OB3 := Lib.hid ((hf.block _ (lt_of_heap OB2.out) fun h => h).trans OB2.out)
 clear hf F2 OB2
 rw [HM.out]
 have hmw : IntKind.i64.wrap (m : Int) = m := by
  simp only [IntKind.wrap_i64]
  omega
 go_wp2_with fail
 rw [hcut]
 obtain ⟨p1, p2, p3, p4, p5, q, hbi⟩ := bodyIs_of HB.out
 refine (inner_ok (bodyS b) b HB.out hbi _ (by unfold maxLen; rw [← HN.out]; omega)).mono ?_
 rintro e w4 ⟨rv, rfl, hr, h1c, hf⟩
 have F4 := F3.out.tr hf
 have OB4 := (hf.block _ (lt_of_heap OB3.out) fun h => h).trans OB3.out
 have hl3 := lt_of_heap OB3.out
 have hr4 := hr.mono (K' := fun b => w.heap.size < b) fun i hi _ => Nat.lt_of_lt_of_le hl3 hi
 obtain ⟨oa, cap, rfl, -⟩ := hr
 have F5 := Lib.hid (F4.alloc (.cells (batX b (.slice oa b.recs.length cap)) 35))
 have OB5 := Lib.hid ((heap_alloc_lt (.cells (batX b (.slice oa b.recs.length cap)) 35) (lt_of_heap OB4)).trans OB4)
 have R5 := Lib.hid (hr4.old ((Fr.same w4).alloc (.cells (batX b (.slice oa b.recs.length cap)) 35)))
 have HLO := Lib.hid (lt_of_heap OB4)
 clear hf F3 OB3 F4 OB4 hr4 hcut hl3
 unfold batX at *
 unfold batV
 have hne : w.heap.size ≠ w4.heap.size := by have := HLO.out; omega
 go_wp2_with (with_reducible refine wpList_store_all rfl 35 (.tmp 4) (.tmp 72) rfl w.heap.size rfl 35 #[.int .i64 0, .int .i64 0, .int .i64 0, .int .i64 0, .int .i64 0, .slice none 0 0] (.agg #[.int .i64 b.base, .int .i64 b.span, .int .i64 b.prod, .int .i64 b.epoch, .int .i64 b.seq, .slice oa b.recs.length cap]) rfl OB5.out rfl (by kernel_rfl) rfl ?_)
 intro w6 hb6 hg6
 have F6 := Lib.hid (F5.out.grown hg6 fun k e => by cases e; exact .inr (Nat.le_refl _))
 have hlo := HLO.out
 have R6 : RecsR (fun b => w.heap.size ≤ b) w6 (.slice oa b.recs.length cap) b.recs :=
  (R5.out.fr (S := fun i => i = w.heap.size) (Fr.grown (Fr.refl _ _) hg6 fun k e => by cases e; exact .inl rfl) fun i hi e => by omega).mono fun i hi _ => Nat.le_of_lt hi
 have R6 := Lib.hid R6
 have HB6 := Lib.hid hb6
 clear hb6 hg6 hlo
 have d0 : w6.cell? ⟨w.heap.size, 0, none⟩ = some (.int .i64 b.base) := (cell_of HB6.out 0).trans rfl
 have d1 : w6.cell? ⟨w.heap.size, 1, none⟩ = some (.int .i64 b.span) := (cell_of HB6.out 1).trans rfl
 have d2 : w6.cell? ⟨w.heap.size, 2, none⟩ = some (.int .i64 b.prod) := (cell_of HB6.out 2).trans rfl
 have d3 : w6.cell? ⟨w.heap.size, 3, none⟩ = some (.int .i64 b.epoch) := (cell_of HB6.out 3).trans rfl
 have d4 : w6.cell? ⟨w.heap.size, 4, none⟩ = some (.int .i64 b.seq) := (cell_of HB6.out 4).trans rfl
 have d5 : w6.cell? ⟨w.heap.size, 5, none⟩ = some (.slice oa b.recs.length cap) := (cell_of HB6.out 5).trans rfl
 go_wp2_with fail
 refine bodyPost_ret (v := .tuple #[batV b (.slice oa b.recs.length cap), .int .i64 ((p + (batS b).size : Nat) : Int), .int .i64 0]) (by
  have hz : ((p + (batS b).size : Nat) : Int) = p + 8 + n := by rw [batS_size, HN.out]; omega
  simp [results, Tryz.f77, go_sem, batV, d0, d1, d2, d3, d4, d5, hz]) rfl ⟨_, rfl, R6.out, rfl, F6.out⟩
end Go.Proofs.YtfdhofabgdkkkaaGreatDoor
