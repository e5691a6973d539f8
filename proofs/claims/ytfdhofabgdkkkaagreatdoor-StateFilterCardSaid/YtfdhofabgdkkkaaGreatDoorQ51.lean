/- Same of records, of batches: the walks. -/
import Derived.Test.YtfdhofabgdkkkaaGreatDoorQ28
import Derived.Test.YtfdhofabgdkkkaaGreatDoorChecked
import Derived.WalkKit
import Derived.WalkSpells
import Derived.WalkLawsBesides
import Derived.BigQuiet
import Derived.Deep.QuietTactic
import Derived.Lib.Hide
import Derived.Test.YtfdhofabgdkkkaaGreatDoorQ35
import Derived.Test.YtfdhofabgdkkkaaGreatDoorQ50
namespace Go.Proofs.YtfdhofabgdkkkaaGreatDoor
open Go.RowKit Go.Fm Go.BigFrame
set_option linter.unusedVariables false
set_option linter.unusedSimpArgs false
set_option maxHeartbeats 4000000 in
theorem same_rec (K K' : Nat → Prop) (r : Rec) (hv hv' : Value) (w : World) (h : HdsR K w hv r.hs) (h' : HdsR K' w hv' r.hs) (hl : r.hs.length ≤ 100) :
  Calls Tryz.prog 88 #[recV r hv, recV r hv'] w fun e w' => e = .returned (.bool true) ∧ Fr (fun _ => False) w w' := by
 obtain ⟨oa, cap, rfl, h⟩ := h
 obtain ⟨oa', cap', rfl, h'⟩ := h'
 have H := Lib.hid h
 have H' := Lib.hid h'
 clear h h'
 unfold recV
 have f1 := ((Fr.refl (fun _ => False) w).alloc (.cells #[.int .i64 r.at', .int .i64 r.tm, .bool r.bare, .string r.key, .bool r.gone, .string r.val, .slice oa r.hs.length cap] 95)).alloc (.cells #[.int .i64 r.at', .int .i64 r.tm, .bool r.bare, .string r.key, .bool r.gone, .string r.val, .slice oa' r.hs.length cap'] 95)
 have e2 : ((w.alloc (.cells #[.int .i64 r.at', .int .i64 r.tm, .bool r.bare, .string r.key, .bool r.gone, .string r.val, .slice oa r.hs.length cap] 95)).alloc (.cells #[.int .i64 r.at', .int .i64 r.tm, .bool r.bare, .string r.key, .bool r.gone, .string r.val, .slice oa' r.hs.length cap'] 95)).cell? ⟨w.heap.size + 1, 6, none⟩ = some (.slice oa' r.hs.length cap') := by
  simp
 have e1 : ((w.alloc (.cells #[.int .i64 r.at', .int .i64 r.tm, .bool r.bare, .string r.key, .bool r.gone, .string r.val, .slice oa r.hs.length cap] 95)).alloc (.cells #[.int .i64 r.at', .int .i64 r.tm, .bool r.bare, .string r.key, .bool r.gone, .string r.val, .slice oa' r.hs.length cap'] 95)).cell? ⟨w.heap.size, 6, none⟩ = some (.slice oa r.hs.length cap) :=
  (((Fr.refl (fun _ => False) _).alloc _)).cell (cell_alloc_new w #[.int .i64 r.at', .int .i64 r.tm, .bool r.bare, .string r.key, .bool r.gone, .string r.val, .slice oa r.hs.length cap] 95 6) (fun h => h)
 go_enter Tryz.func88, Tryz.ntmps88
 go_wp2_with fail
 generalize ((w.alloc (.cells #[.int .i64 r.at', .int .i64 r.tm, .bool r.bare, .string r.key, .bool r.gone, .string r.val, .slice oa r.hs.length cap] 95)).alloc (.cells #[.int .i64 r.at', .int .i64 r.tm, .bool r.bare, .string r.key, .bool r.gone, .string r.val, .slice oa' r.hs.length cap'] 95)) = W at *
 have F1 := Lib.hid f1
 have E1 := Lib.hid e1
 have E2 := Lib.hid e2
 clear f1 e1 e2
 go_loopw [5] (fun i wr => ∃ k : Nat, i = .int .i64 k ∧ k ≤ r.hs.length ∧ Fr (fun _ => False) W wr) (fun i _ => r.hs.length - (intOf i).toNat)
 case atStart => exact ⟨0, rfl, Nat.zero_le _, Fr.refl _ _⟩
 case round =>
  obtain ⟨k, rfl, hk, hf⟩ := hrel
  have F := Lib.hid hf
  have e1 := hf.cell E1.out (fun h => h)
  have e2 := hf.cell E2.out (fun h => h)
  clear hf
  rcases Nat.lt_or_ge k r.hs.length with hlt | hge
  ·obtain ⟨hd, hhd⟩ : ∃ hd, r.hs[k]? = some hd := ⟨_, List.getElem?_eq_getElem hlt⟩
   obtain ⟨a, rfl, -, c0, c1⟩ := H.out k hd hhd
   obtain ⟨a', rfl, -, d0, d1⟩ := H'.out k hd hhd
   have c0 := F.out.cell (F1.out.cell c0 fun h => h) fun h => h
   have c1 := F.out.cell (F1.out.cell c1 fun h => h) fun h => h
   have d0 := F.out.cell (F1.out.cell d0 fun h => h) fun h => h
   have d1 := F.out.cell (F1.out.cell d1 fun h => h) fun h => h
   clear hhd
   go_wp2_with fail
   go_quiet (fail)
   have F2 := Lib.hid (F.out.drewN nq)
   clear c0 c1 d0 d1 e1 e2
   go_wp2_with fail
   go_roundw
   case rel => exact ⟨k + 1, by go_num, by omega, F2.out⟩
   case measure => simp [intOf]; omega
  ·go_wp2_with fail
   go_ret
   exact ⟨rfl, F1.out.tr F.out⟩
set_option maxHeartbeats 4000000 in
theorem same_recs (K K' : Nat → Prop) (l : List Rec) (v v' : Value) (w : World) (h : RecsR K w v l) (h' : RecsR K' w v' l) (hl : l.length ≤ 100) (hs : ∀ x ∈ l, x.hs.length ≤ 100) :
  Calls Tryz.prog 43 #[v, v'] w fun e w' => e = .returned (.bool true) ∧ Fr (fun _ => False) w w' := by
 obtain ⟨oa, cap, rfl, h⟩ := h
 obtain ⟨oa', cap', rfl, h'⟩ := h'
 have H := Lib.hid h
 have H' := Lib.hid h'
 have HS := Lib.hid hs
 clear h h' hs
 go_enter Tryz.func43, Tryz.ntmps43
 go_wp2_with fail
 go_loopw [5] (fun i wr => ∃ k : Nat, i = .int .i64 k ∧ k ≤ l.length ∧ Fr (fun _ => False) w wr) (fun i _ => l.length - (intOf i).toNat)
 case atStart => exact ⟨0, rfl, Nat.zero_le _, Fr.same _⟩
 case round =>
  obtain ⟨k, rfl, hk, hf⟩ := hrel
  have F := Lib.hid hf
  clear hf
  rcases Nat.lt_or_ge k l.length with hlt | hge
  ·obtain ⟨x, hx⟩ := get_of_lt hlt
   obtain ⟨a, u, rfl, -, hc, hr⟩ := H.out k x hx
   obtain ⟨a', u', rfl, -, hc', hr'⟩ := H'.out k x hx
   have hb := HS.out x (List.mem_of_getElem? hx)
   go_wp2_with fail
   have c0 : ∀ y : Lcl.InS (fun w' => Fr (fun _ => False) wr w'), y.w.cell? (a.add (k * 7)) = some (.int .i64 x.at') := fun y => y.h.cel (F.out.cel hc.c0)
   have d0 : ∀ y : Lcl.InS (fun w' => Fr (fun _ => False) wr w'), y.w.cell? (a'.add (k * 7)) = some (.int .i64 x.at') := fun y => y.h.cel (F.out.cel hc'.c0)
   have c1 : ∀ y : Lcl.InS (fun w' => Fr (fun _ => False) wr w'), y.w.cell? ⟨(a.add (k * 7)).block, (a.add (k * 7)).off + 1, none⟩ = some (.int .i64 x.tm) := fun y => y.h.cel (F.out.cel hc.c1)
   have d1 : ∀ y : Lcl.InS (fun w' => Fr (fun _ => False) wr w'), y.w.cell? ⟨(a'.add (k * 7)).block, (a'.add (k * 7)).off + 1, none⟩ = some (.int .i64 x.tm) := fun y => y.h.cel (F.out.cel hc'.c1)
   have c2 : ∀ y : Lcl.InS (fun w' => Fr (fun _ => False) wr w'), y.w.cell? ⟨(a.add (k * 7)).block, (a.add (k * 7)).off + 2, none⟩ = some (.bool x.bare) := fun y => y.h.cel (F.out.cel hc.c2)
   have d2 : ∀ y : Lcl.InS (fun w' => Fr (fun _ => False) wr w'), y.w.cell? ⟨(a'.add (k * 7)).block, (a'.add (k * 7)).off + 2, none⟩ = some (.bool x.bare) := fun y => y.h.cel (F.out.cel hc'.c2)
   have c3 : ∀ y : Lcl.InS (fun w' => Fr (fun _ => False) wr w'), y.w.cell? ⟨(a.add (k * 7)).block, (a.add (k * 7)).off + 3, none⟩ = some (.string x.key) := fun y => y.h.cel (F.out.cel hc.c3)
   have d3 : ∀ y : Lcl.InS (fun w' => Fr (fun _ => False) wr w'), y.w.cell? ⟨(a'.add (k * 7)).block, (a'.add (k * 7)).off + 3, none⟩ = some (.string x.key) := fun y => y.h.cel (F.out.cel hc'.c3)
   have c4 : ∀ y : Lcl.InS (fun w' => Fr (fun _ => False) wr w'), y.w.cell? ⟨(a.add (k * 7)).block, (a.add (k * 7)).off + 4, none⟩ = some (.bool x.gone) := fun y => y.h.cel (F.out.cel hc.c4)
   have d4 : ∀ y : Lcl.InS (fun w' => Fr (fun _ => False) wr w'), y.w.cell? ⟨(a'.add (k * 7)).block, (a'.add (k * 7)).off + 4, none⟩ = some (.bool x.gone) := fun y => y.h.cel (F.out.cel hc'.c4)
   have c5 : ∀ y : Lcl.InS (fun w' => Fr (fun _ => False) wr w'), y.w.cell? ⟨(a.add (k * 7)).block, (a.add (k * 7)).off + 5, none⟩ = some (.string x.val) := fun y => y.h.cel (F.out.cel hc.c5)
   have d5 : ∀ y : Lcl.InS (fun w' => Fr (fun _ => False) wr w'), y.w.cell? ⟨(a'.add (k * 7)).block, (a'.add (k * 7)).off + 5, none⟩ = some (.string x.val) := fun y => y.h.cel (F.out.cel hc'.c5)
   have c6 : ∀ y : Lcl.InS (fun w' => Fr (fun _ => False) wr w'), y.w.cell? ⟨(a.add (k * 7)).block, (a.add (k * 7)).off + 6, none⟩ = some (u) := fun y => y.h.cel (F.out.cel hc.c6)
   have d6 : ∀ y : Lcl.InS (fun w' => Fr (fun _ => False) wr w'), y.w.cell? ⟨(a'.add (k * 7)).block, (a'.add (k * 7)).off + 6, none⟩ = some (u') := fun y => y.h.cel (F.out.cel hc'.c6)
   have f1 : ∀ (y : Lcl.InS (fun w' => Fr (fun _ => False) wr w')), Calls Tryz.prog 88 #[recV x u, recV x u'] y.w fun e w' => e = .returned (.bool true) ∧ ∃ y : Lcl.InS (fun w' => Fr (fun _ => False) wr w'), w' = y.w :=
    fun y => quietly y (same_rec K K' x u u' _ (hr.old (F.out.tr y.h)) (hr'.old (F.out.tr y.h)) hb)
   refine wp_region_quiet (C := fun w' => ∃ y : Lcl.InS (fun w' => Fr (fun _ => False) wr w'), w' = y.w) (by kernel_rfl) (by kernel_rfl) ⟨⟨wr.drew, (Fr.same wr).drew⟩, rfl⟩ ?_
   dsimp only
   repeat (go_big_quiet_step (first | rfl | exact f1 _))
   refine wpQuiet_nil ?_
   rintro _ ⟨y, rfl⟩
   clear c0 d0 c1 d1 c2 d2 c3 d3 c4 d4 c5 d5 c6 d6 f1
   have F2 := F.out.tr y.h
   have F3 := Lib.hid F2
   clear F2
   generalize y.w = w6 at *
   clear y
   go_wp2_with fail
   go_roundw
   case rel => exact ⟨k + 1, by go_num, by omega, F3.out⟩
   case measure => simp [intOf]; omega
  ·go_wp2_with fail
   go_ret
   exact ⟨rfl, F.out⟩
set_option maxHeartbeats 4000000 in
theorem same_bat (K K' : Nat → Prop) (b : Bat) (v v' : Value) (w : World) (h : RecsR K w v b.recs) (h' : RecsR K' w v' b.recs) (hl : b.recs.length ≤ 100) (hs : ∀ x ∈ b.recs, x.hs.length ≤ 100) :
  Calls Tryz.prog 15 #[batV b v, batV b v'] w fun e w' => e = .returned (.bool true) ∧ Fr (fun _ => False) w w' := by
 obtain ⟨oa, cap, rfl, h⟩ := h
 obtain ⟨oa', cap', rfl, h'⟩ := h'
 have H : RecsR K w (.slice oa b.recs.length cap) b.recs := ⟨oa, cap, rfl, h⟩
 have H' : RecsR K' w (.slice oa' b.recs.length cap') b.recs := ⟨oa', cap', rfl, h'⟩
 have H1 := Lib.hid H
 have H1' := Lib.hid H'
 have HS := Lib.hid hs
 clear h h' H H' hs
 unfold batV
 go_enter Tryz.func15, Tryz.ntmps15
 go_wp2_with fail
 have f1 := ((Fr.same w).alloc (.cells #[.int .i64 b.base, .int .i64 b.span, .int .i64 b.prod, .int .i64 b.epoch, .int .i64 b.seq, .slice oa b.recs.length cap] 35)).alloc (.cells #[.int .i64 b.base, .int .i64 b.span, .int .i64 b.prod, .int .i64 b.epoch, .int .i64 b.seq, .slice oa' b.recs.length cap'] 35)
 refine (same_recs K K' b.recs _ _ _ (H1.out.old f1) (H1'.out.old f1) hl HS.out).mono ?_
 rintro e w' ⟨rfl, hf⟩
 have F := Lib.hid (f1.tr hf)
 clear hf f1
 go_wp2_with fail
 go_ret
 exact ⟨rfl, F.out⟩
end Go.Proofs.YtfdhofabgdkkkaaGreatDoor
/- What was produced is fetched: the walk of StateFetches. -/
namespace Go.Proofs.YtfdhofabgdkkkaaGreatDoor
open Go.RowKit Go.Fm Go.BigFrame Go.Shelf Go.Maps
set_option linter.unusedVariables false
set_option linter.unusedSimpArgs false
set_option maxRecDepth 100000
section
variable {w w' : World} {S : Nat → Prop}
end
end Go.Proofs.YtfdhofabgdkkkaaGreatDoor
