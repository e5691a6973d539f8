/- How many bytes a small batch has: plain laws. -/
import Derived.Test.YtdlnafhhkpklmaaGreatDoorZ32
import Derived.Test.YtdlnafhhkpklmaaGreatDoorZ26
import Derived.Test.YtdlnafhhkpklmaaGreatDoorZ25
import Derived.Test.YtdlnafhhkpklmaaGreatDoorChecked
import Derived.WalkKit
import Derived.WalkSpells
import Derived.WalkLawsBesides
import Derived.BigQuiet
import Derived.Deep.QuietTactic
import Derived.Lib.Hide
import Derived.Test.YtdlnafhhkpklmaaGreatDoorZ38
namespace Go.Proofs.YtdlnafhhkpklmaaGreatDoor
open Go.RowKit Go.Fm Go.BigFrame Go.Shelf Go.Maps
set_option linter.unusedVariables false
set_option linter.unusedSimpArgs false
theorem encTo_small {r : Rec} (h : RecOK r) : ∀ k, k ≤ r.hs.length → (encTo r k).size ≤ 60 + r.key.size + r.val.size + hdrsW (r.hs.take k) + 20 * k
 | 0, _ => by
  have wa : (Lit.int .i64 r.at').wf = true := by have := h.at0; have := h.at1; simp [Lit.wf, IntKind.min, IntKind.max, IntKind.signed, IntKind.bits]; omega
  have wt : (Lit.int .i64 r.tm).wf = true := by have := h.tm0; have := h.tm1; simp [Lit.wf, IntKind.min, IntKind.max, IntKind.signed, IntKind.bits]; omega
  have wf : (Lit.int .i64 (flagsOf r)).wf = true := by unfold flagsOf; cases r.bare <;> cases r.gone <;> decide
  have hk := h.key
  have hv := h.val
  have hl := h.hs
  have sa := putS_size wa
  have st := putS_size wt
  have sf := putS_size wf
  have sl := putS_size (len_wf (show r.hs.length ≤ 1000000000 by omega))
  have sk := textS_size (show r.key.size ≤ 1000000000 by omega)
  have sv := textS_size (show r.val.size ≤ 1000000000 by omega)
  show (encHead r).size ≤ _
  unfold encHead
  rw [ByteArray.size_append, ByteArray.size_append, ByteArray.size_append, ByteArray.size_append, ByteArray.size_append]
  omega
 | k + 1, hk => by
  obtain ⟨x, hx⟩ := get_of_lt (show k < r.hs.length by omega)
  have ih := encTo_small h k (by omega)
  obtain ⟨h1, h2, h3⟩ := h.hdrs x (List.mem_of_getElem? hx)
  have sk := textS_size (show x.key.size ≤ 1000000000 by omega)
  have sv := textS_size (show x.val.size ≤ 1000000000 by omega)
  rw [take_snoc' hx, hdrsW_snoc]
  simp only [encTo, hx]
  rw [ByteArray.size_append, ByteArray.size_append]
  unfold hdrW
  omega
theorem encS_small {r : Rec} (h : RecOK r) : (encS r).size ≤ recW r + 260 := by
 have h1 := encTo_small h r.hs.length (Nat.le_refl _)
 have h2 := h.hs
 rw [List.take_length] at h1
 unfold encS recW
 omega
theorem bodyTo_small {b : Bat} (h : BatOK b) : ∀ k, k ≤ b.recs.length → (bodyTo b k).size ≤ 60 + recsW (b.recs.take k) + 260 * k
 | 0, _ => by
  have NU := nums_of h.base0 h.base1 h.span0 h.span1 h.who h.len
  have wl : (Lit.int .i64 (b.recs.length : Int)).wf = true := len_wf (by have := h.len; omega)
  have s1 := putS_size NU.base
  have s2 := putS_size NU.span
  have s3 := putS_size NU.prod
  have s4 := putS_size NU.epoch
  have s5 := putS_size NU.seq
  have s6 := putS_size wl
  show (bodyHead b).size ≤ _
  unfold bodyHead
  rw [ByteArray.size_append, ByteArray.size_append, ByteArray.size_append, ByteArray.size_append, ByteArray.size_append]
  omega
 | k + 1, hk => by
  obtain ⟨x, hx⟩ := get_of_lt (show k < b.recs.length by omega)
  have ih := bodyTo_small h k (by omega)
  have h1 := encS_small (h.recs k x hx).ok
  rw [take_snoc' hx, recsW_snoc]
  simp only [bodyTo, hx]
  rw [ByteArray.size_append]
  omega
/-- A small batch has at most 16068 bytes. -/
theorem bsz_small {b : Bat} (h : BatOK b) (hs : SmallB b) : bsz b ≤ 16068 := by
 have h1 := bodyTo_small h b.recs.length (Nat.le_refl _)
 have h2 := hs.weight
 have h3 := h.len
 rw [List.take_length] at h1
 unfold bsz
 rw [batS_size]
 unfold bodyS
 omega
theorem SmallB.recs_eq {b b' : Bat} (h : SmallB b) (e : b'.recs = b.recs) : SmallB b' := ⟨by rw [e]; exact h.len, by rw [e]; exact h.recs, by rw [e]; exact h.weight⟩
end Go.Proofs.YtdlnafhhkpklmaaGreatDoor
/- Same of records, of batches: the walks. -/
namespace Go.Proofs.YtdlnafhhkpklmaaGreatDoor
open Go.RowKit Go.Fm Go.BigFrame
set_option linter.unusedVariables false
set_option linter.unusedSimpArgs false
set_option maxHeartbeats 4000000 in
theorem same_rec (K K' : Nat → Prop) (r : Rec) (hv hv' : Value) (w : World) (h : HdsR K w hv r.hs) (h' : HdsR K' w hv' r.hs) (hl : r.hs.length ≤ 100) :
  Calls Tryz.prog 130 #[recV r hv, recV r hv'] w fun e w' => e = .returned (.bool true) ∧ Fr (fun _ => False) w w' := by
 obtain ⟨oa, cap, rfl, h⟩ := h
 obtain ⟨oa', cap', rfl, h'⟩ := h'
 have H := Lib.hid h
 have H' := Lib.hid h'
 clear h h'
 unfold recV
 have f1 := ((Fr.refl (fun _ => False) w).alloc (.cells #[.int .i64 r.at', .int .i64 r.tm, .bool r.bare, .string r.key, .bool r.gone, .string r.val, .slice oa r.hs.length cap] 79)).alloc (.cells #[.int .i64 r.at', .int .i64 r.tm, .bool r.bare, .string r.key, .bool r.gone, .string r.val, .slice oa' r.hs.length cap'] 79)
 have e2 : ((w.alloc (.cells #[.int .i64 r.at', .int .i64 r.tm, .bool r.bare, .string r.key, .bool r.gone, .string r.val, .slice oa r.hs.length cap] 79)).alloc (.cells #[.int .i64 r.at', .int .i64 r.tm, .bool r.bare, .string r.key, .bool r.gone, .string r.val, .slice oa' r.hs.length cap'] 79)).cell? ⟨w.heap.size + 1, 6, none⟩ = some (.slice oa' r.hs.length cap') := by
  simp
 have e1 : ((w.alloc (.cells #[.int .i64 r.at', .int .i64 r.tm, .bool r.bare, .string r.key, .bool r.gone, .string r.val, .slice oa r.hs.length cap] 79)).alloc (.cells #[.int .i64 r.at', .int .i64 r.tm, .bool r.bare, .string r.key, .bool r.gone, .string r.val, .slice oa' r.hs.length cap'] 79)).cell? ⟨w.heap.size, 6, none⟩ = some (.slice oa r.hs.length cap) :=
  (((Fr.refl (fun _ => False) _).alloc _)).cell (cell_alloc_new w #[.int .i64 r.at', .int .i64 r.tm, .bool r.bare, .string r.key, .bool r.gone, .string r.val, .slice oa r.hs.length cap] 79 6) (fun h => h)
 go_enter Tryz.func130, Tryz.ntmps130
 go_wp2_with fail
 generalize ((w.alloc (.cells #[.int .i64 r.at', .int .i64 r.tm, .bool r.bare, .string r.key, .bool r.gone, .string r.val, .slice oa r.hs.length cap] 79)).alloc (.cells #[.int .i64 r.at', .int .i64 r.tm, .bool r.bare, .string r.key, .bool r.gone, .string r.val, .slice oa' r.hs.length cap'] 79)) = W at *
 have F1 := Lib.hid f1
 have E1 := Lib.hid e1
 have E2 := Lib.hid e2
 clear f1 e1 e2
 go_loopw [5] (fun i wr => ∃ k : Nat, i = .int .i64 k ∧ k ≤ r.hs.length ∧ Fr (fun _ => False) W wr) (fun i _ => r.hs.length - (intOf i).toNat)
 case atStart => exact ⟨0, rfl, Nat.zero_le _, Fr.refl _ _⟩
 case round =>
  obtain ⟨k, rfl, hk, hf⟩ := hrel
  have F := Lib.hid hf
  have e1 := hf.cell E1.out (fun h => h)
  have e2 := hf.cell E2.out (fun h => h)
  clear hf
  rcases Nat.lt_or_ge k r.hs.length with hlt | hge
  ·obtain ⟨hd, hhd⟩ : ∃ hd, r.hs[k]? = some hd := ⟨_, List.getElem?_eq_getElem hlt⟩
   obtain ⟨a, rfl, -, c0, c1⟩ := H.out k hd hhd
   obtain ⟨a', rfl, -, d0, d1⟩ := H'.out k hd hhd
   have c0 := F.out.cell (F1.out.cell c0 fun h => h) fun h => h
   have c1 := F.out.cell (F1.out.cell c1 fun h => h) fun h => h
   have d0 := F.out.cell (F1.out.cell d0 fun h => h) fun h => h
   have d1 := F.out.cell (F1.out.cell d1 fun h => h) fun h => h
   clear hhd
   go_wp2_with fail
   go_quiet (fail)
   have F2 := Lib.hid (F.out.drewN nq)
   clear c0 c1 d0 d1 e1 e2
   go_wp2_with fail
   go_roundw
   case rel => exact ⟨k + 1, by go_num, by omega, F2.out⟩
   case measure => simp [intOf]; omega
  ·go_wp2_with fail
   go_ret
   exact ⟨rfl, F1.out.tr F.out⟩
set_option maxHeartbeats 4000000 in
theorem same_recs (K K' : Nat → Prop) (l : List Rec) (v v' : Value) (w : World) (h : RecsR K w v l) (h' : RecsR K' w v' l) (hl : l.length ≤ 100) (hs : ∀ x ∈ l, x.hs.length ≤ 100) :
  Calls Tryz.prog 98 #[v, v'] w fun e w' => e = .returned (.bool true) ∧ Fr (fun _ => False) w w' := by
 obtain ⟨oa, cap, rfl, h⟩ := h
 obtain ⟨oa', cap', rfl, h'⟩ := h'
 have H := Lib.hid h
 have H' := Lib.hid h'
 have HS := Lib.hid hs
 clear h h' hs
 go_enter Tryz.func98, Tryz.ntmps98
 go_wp2_with fail
 go_loopw [5] (fun i wr => ∃ k : Nat, i = .int .i64 k ∧ k ≤ l.length ∧ Fr (fun _ => False) w wr) (fun i _ => l.length - (intOf i).toNat)
 case atStart => exact ⟨0, rfl, Nat.zero_le _, Fr.same _⟩
 case round =>
  obtain ⟨k, rfl, hk, hf⟩ := hrel
  have F := Lib.hid hf
  clear hf
  rcases Nat.lt_or_ge k l.length with hlt | hge
  ·obtain ⟨x, hx⟩ := get_of_lt hlt
   obtain ⟨a, u, rfl, -, hc, hr⟩ := H.out k x hx
   obtain ⟨a', u', rfl, -, hc', hr'⟩ := H'.out k x hx
   have hb := HS.out x (List.mem_of_getElem? hx)
   go_wp2_with fail
   have c0 : ∀ y : Lcl.InS (fun w' => Fr (fun _ => False) wr w'), y.w.cell? (a.add (k * 7)) = some (.int .i64 x.at') := fun y => y.h.cel (F.out.cel hc.c0)
   have d0 : ∀ y : Lcl.InS (fun w' => Fr (fun _ => False) wr w'), y.w.cell? (a'.add (k * 7)) = some (.int .i64 x.at') := fun y => y.h.cel (F.out.cel hc'.c0)
   have c1 : ∀ y : Lcl.InS (fun w' => Fr (fun _ => False) wr w'), y.w.cell? ⟨(a.add (k * 7)).block, (a.add (k * 7)).off + 1, none⟩ = some (.int .i64 x.tm) := fun y => y.h.cel (F.out.cel hc.c1)
   have d1 : ∀ y : Lcl.InS (fun w' => Fr (fun _ => False) wr w'), y.w.cell? ⟨(a'.add (k * 7)).block, (a'.add (k * 7)).off + 1, none⟩ = some (.int .i64 x.tm) := fun y => y.h.cel (F.out.cel hc'.c1)
   have c2 : ∀ y : Lcl.InS (fun w' => Fr (fun _ => False) wr w'), y.w.cell? ⟨(a.add (k * 7)).block, (a.add (k * 7)).off + 2, none⟩ = some (.bool x.bare) := fun y => y.h.cel (F.out.cel hc.c2)
   have d2 : ∀ y : Lcl.InS (fun w' => Fr (fun _ => False) wr w'), y.w.cell? ⟨(a'.add (k * 7)).block, (a'.add (k * 7)).off + 2, none⟩ = some (.bool x.bare) := fun y => y.h.cel (F.out.cel hc'.c2)
   have c3 : ∀ y : Lcl.InS (fun w' => Fr (fun _ => False) wr w'), y.w.cell? ⟨(a.add (k * 7)).block, (a.add (k * 7)).off + 3, none⟩ = some (.string x.key) := fun y => y.h.cel (F.out.cel hc.c3)
   have d3 : ∀ y : Lcl.InS (fun w' => Fr (fun _ => False) wr w'), y.w.cell? ⟨(a'.add (k * 7)).block, (a'.add (k * 7)).off + 3, none⟩ = some (.string x.key) := fun y => y.h.cel (F.out.cel hc'.c3)
   have c4 : ∀ y : Lcl.InS (fun w' => Fr (fun _ => False) wr w'), y.w.cell? ⟨(a.add (k * 7)).block, (a.add (k * 7)).off + 4, none⟩ = some (.bool x.gone) := fun y => y.h.cel (F.out.cel hc.c4)
   have d4 : ∀ y : Lcl.InS (fun w' => Fr (fun _ => False) wr w'), y.w.cell? ⟨(a'.add (k * 7)).block, (a'.add (k * 7)).off + 4, none⟩ = some (.bool x.gone) := fun y => y.h.cel (F.out.cel hc'.c4)
   have c5 : ∀ y : Lcl.InS (fun w' => Fr (fun _ => False) wr w'), y.w.cell? ⟨(a.add (k * 7)).block, (a.add (k * 7)).off + 5, none⟩ = some (.string x.val) := fun y => y.h.cel (F.out.cel hc.c5)
   have d5 : ∀ y : Lcl.InS (fun w' => Fr (fun _ => False) wr w'), y.w.cell? ⟨(a'.add (k * 7)).block, (a'.add (k * 7)).off + 5, none⟩ = some (.string x.val) := fun y => y.h.cel (F.out.cel hc'.c5)
   have c6 : ∀ y : Lcl.InS (fun w' => Fr (fun _ => False) wr w'), y.w.cell? ⟨(a.add (k * 7)).block, (a.add (k * 7)).off + 6, none⟩ = some (u) := fun y => y.h.cel (F.out.cel hc.c6)
   have d6 : ∀ y : Lcl.InS (fun w' => Fr (fun _ => False) wr w'), y.w.cell? ⟨(a'.add (k * 7)).block, (a'.add (k * 7)).off + 6, none⟩ = some (u') := fun y => y.h.cel (F.out.cel hc'.c6)
   have f1 : ∀ (y : Lcl.InS (fun w' => Fr (fun _ => False) wr w')), Calls Tryz.prog 130 #[recV x u, recV x u'] y.w fun e w' => e = .returned (.bool true) ∧ ∃ y : Lcl.InS (fun w' => Fr (fun _ => False) wr w'), w' = y.w :=
    fun y => quietly y (same_rec K K' x u u' _ (hr.old (F.out.tr y.h)) (hr'.old (F.out.tr y.h)) hb)
   refine wp_region_quiet (C := fun w' => ∃ y : Lcl.InS (fun w' => Fr (fun _ => False) wr w'), w' = y.w) (by kernel_rfl) (by kernel_rfl) ⟨⟨wr.drew, (Fr.same wr).drew⟩, rfl⟩ ?_
   dsimp only
   repeat (go_big_quiet_step (first | rfl | exact f1 _))
   refine wpQuiet_nil ?_
   rintro _ ⟨y, rfl⟩
   clear c0 d0 c1 d1 c2 d2 c3 d3 c4 d4 c5 d5 c6 d6 f1
   have F2 := F.out.tr y.h
   have F3 := Lib.hid F2
   clear F2
   generalize y.w = w6 at *
   clear y
   go_wp2_with fail
   go_roundw
   case rel => exact ⟨k + 1, by go_num, by omega, F3.out⟩
   case measure => simp [intOf]; omega
  ·go_wp2_with fail
   go_ret
   exact ⟨rfl, F.out⟩
set_option maxHeartbeats 4000000 in
theorem same_bat (K K' : Nat → Prop) (b : Bat) (v v' : Value) (w : World) (h : RecsR K w v b.recs) (h' : RecsR K' w v' b.recs) (hl : b.recs.length ≤ 100) (hs : ∀ x ∈ b.recs, x.hs.length ≤ 100) :
  Calls Tryz.prog 63 #[batV b v, batV b v'] w fun e w' => e = .returned (.bool true) ∧ Fr (fun _ => False) w w' := by
 obtain ⟨oa, cap, rfl, h⟩ := h
 obtain ⟨oa', cap', rfl, h'⟩ := h'
 have H : RecsR K w (.slice oa b.recs.length cap) b.recs := ⟨oa, cap, rfl, h⟩
 have H' : RecsR K' w (.slice oa' b.recs.length cap') b.recs := ⟨oa', cap', rfl, h'⟩
 have H1 := Lib.hid H
 have H1' := Lib.hid H'
 have HS := Lib.hid hs
 clear h h' H H' hs
 unfold batV
 go_enter Tryz.func63, Tryz.ntmps63
 go_wp2_with fail
 have f1 := ((Fr.same w).alloc (.cells #[.int .i64 b.base, .int .i64 b.span, .int .i64 b.prod, .int .i64 b.epoch, .int .i64 b.seq, .slice oa b.recs.length cap] 36)).alloc (.cells #[.int .i64 b.base, .int .i64 b.span, .int .i64 b.prod, .int .i64 b.epoch, .int .i64 b.seq, .slice oa' b.recs.length cap'] 36)
 refine (same_recs K K' b.recs _ _ _ (H1.out.old f1) (H1'.out.old f1) hl HS.out).mono ?_
 rintro e w' ⟨rfl, hf⟩
 have F := Lib.hid (f1.tr hf)
 clear hf f1
 go_wp2_with fail
 go_ret
 exact ⟨rfl, F.out⟩
set_option maxHeartbeats 4000000 in
theorem same_bats (K K' : Nat → Prop) (l : List Bat) (v v' : Value) (w : World) (h : BatsR K w v l) (h' : BatsR K' w v' l) (hl : l.length ≤ 100) (hs : ∀ x ∈ l, x.recs.length ≤ 100 ∧ ∀ r ∈ x.recs, r.hs.length ≤ 100) :
  Calls Tryz.prog 22 #[v, v'] w fun e w' => e = .returned (.bool true) ∧ Fr (fun _ => False) w w' := by
 obtain ⟨oa, cap, rfl, h⟩ := h
 obtain ⟨oa', cap', rfl, h'⟩ := h'
 have H := Lib.hid h
 have H' := Lib.hid h'
 have HS := Lib.hid hs
 clear h h' hs
 go_enter Tryz.func22, Tryz.ntmps22
 go_wp2_with fail
 go_loopw [5] (fun i wr => ∃ k : Nat, i = .int .i64 k ∧ k ≤ l.length ∧ Fr (fun _ => False) w wr) (fun i _ => l.length - (intOf i).toNat)
 case atStart => exact ⟨0, rfl, Nat.zero_le _, Fr.same _⟩
 case round =>
  obtain ⟨k, rfl, hk, hf⟩ := hrel
  have F := Lib.hid hf
  clear hf
  rcases Nat.lt_or_ge k l.length with hlt | hge
  ·obtain ⟨x, hx⟩ := get_of_lt hlt
   obtain ⟨a, u, rfl, -, hc, hr⟩ := H.out k x hx
   obtain ⟨a', u', rfl, -, hc', hr'⟩ := H'.out k x hx
   have hb := HS.out x (List.mem_of_getElem? hx)
   go_wp2_with fail
   have c0 : ∀ y : Lcl.InS (fun w' => Fr (fun _ => False) wr w'), y.w.cell? (a.add (k * 6)) = some (.int .i64 x.base) := fun y => y.h.cel (F.out.cel hc.c0)
   have d0 : ∀ y : Lcl.InS (fun w' => Fr (fun _ => False) wr w'), y.w.cell? (a'.add (k * 6)) = some (.int .i64 x.base) := fun y => y.h.cel (F.out.cel hc'.c0)
   have c1 : ∀ y : Lcl.InS (fun w' => Fr (fun _ => False) wr w'), y.w.cell? ⟨(a.add (k * 6)).block, (a.add (k * 6)).off + 1, none⟩ = some (.int .i64 x.span) := fun y => y.h.cel (F.out.cel hc.c1)
   have d1 : ∀ y : Lcl.InS (fun w' => Fr (fun _ => False) wr w'), y.w.cell? ⟨(a'.add (k * 6)).block, (a'.add (k * 6)).off + 1, none⟩ = some (.int .i64 x.span) := fun y => y.h.cel (F.out.cel hc'.c1)
   have c2 : ∀ y : Lcl.InS (fun w' => Fr (fun _ => False) wr w'), y.w.cell? ⟨(a.add (k * 6)).block, (a.add (k * 6)).off + 2, none⟩ = some (.int .i64 x.prod) := fun y => y.h.cel (F.out.cel hc.c2)
   have d2 : ∀ y : Lcl.InS (fun w' => Fr (fun _ => False) wr w'), y.w.cell? ⟨(a'.add (k * 6)).block, (a'.add (k * 6)).off + 2, none⟩ = some (.int .i64 x.prod) := fun y => y.h.cel (F.out.cel hc'.c2)
   have c3 : ∀ y : Lcl.InS (fun w' => Fr (fun _ => False) wr w'), y.w.cell? ⟨(a.add (k * 6)).block, (a.add (k * 6)).off + 3, none⟩ = some (.int .i64 x.epoch) := fun y => y.h.cel (F.out.cel hc.c3)
   have d3 : ∀ y : Lcl.InS (fun w' => Fr (fun _ => False) wr w'), y.w.cell? ⟨(a'.add (k * 6)).block, (a'.add (k * 6)).off + 3, none⟩ = some (.int .i64 x.epoch) := fun y => y.h.cel (F.out.cel hc'.c3)
   have c4 : ∀ y : Lcl.InS (fun w' => Fr (fun _ => False) wr w'), y.w.cell? ⟨(a.add (k * 6)).block, (a.add (k * 6)).off + 4, none⟩ = some (.int .i64 x.seq) := fun y => y.h.cel (F.out.cel hc.c4)
   have d4 : ∀ y : Lcl.InS (fun w' => Fr (fun _ => False) wr w'), y.w.cell? ⟨(a'.add (k * 6)).block, (a'.add (k * 6)).off + 4, none⟩ = some (.int .i64 x.seq) := fun y => y.h.cel (F.out.cel hc'.c4)
   have c5 : ∀ y : Lcl.InS (fun w' => Fr (fun _ => False) wr w'), y.w.cell? ⟨(a.add (k * 6)).block, (a.add (k * 6)).off + 5, none⟩ = some (u) := fun y => y.h.cel (F.out.cel hc.c5)
   have d5 : ∀ y : Lcl.InS (fun w' => Fr (fun _ => False) wr w'), y.w.cell? ⟨(a'.add (k * 6)).block, (a'.add (k * 6)).off + 5, none⟩ = some (u') := fun y => y.h.cel (F.out.cel hc'.c5)
   have f1 : ∀ (y : Lcl.InS (fun w' => Fr (fun _ => False) wr w')), Calls Tryz.prog 63 #[batV x u, batV x u'] y.w fun e w' => e = .returned (.bool true) ∧ ∃ y : Lcl.InS (fun w' => Fr (fun _ => False) wr w'), w' = y.w :=
    fun y => quietly y (same_bat K K' x u u' _ (hr.old (F.out.tr y.h)) (hr'.old (F.out.tr y.h)) hb.1 hb.2)
   refine wp_region_quiet (C := fun w' => ∃ y : Lcl.InS (fun w' => Fr (fun _ => False) wr w'), w' = y.w) (by kernel_rfl) (by kernel_rfl) ⟨⟨wr.drew, (Fr.same wr).drew⟩, rfl⟩ ?_
   dsimp only
   repeat (go_big_quiet_step (first | rfl | exact f1 _))
   refine wpQuiet_nil ?_
   rintro _ ⟨y, rfl⟩
   clear c0 d0 c1 d1 c2 d2 c3 d3 c4 d4 c5 d5 f1
   have F2 := F.out.tr y.h
   have F3 := Lib.hid F2
   clear F2
   generalize y.w = w6 at *
   clear y
   go_wp2_with fail
   go_roundw
   case rel => exact ⟨k + 1, by go_num, by omega, F3.out⟩
   case measure => simp [intOf]; omega
  ·go_wp2_with fail
   go_ret
   exact ⟨rfl, F.out⟩
end Go.Proofs.YtdlnafhhkpklmaaGreatDoor
/- The document's copies of records and batches: the walks. -/
namespace Go.Proofs.YtdlnafhhkpklmaaGreatDoor
open Go.RowKit Go.Fm Go.BigFrame
set_option linter.unusedVariables false
set_option linter.unusedSimpArgs false
set_option maxRecDepth 100000
def RecPost (w : World) (r : Rec) (e : Ending) (w' : World) : Prop := ∃ hv, e = .returned (recV r hv) ∧ HdsR (fun b => w.heap.size ≤ b) w' hv r.hs ∧ Fr (fun _ => False) w w'
def RecsPost (w : World) (rs : List Rec) (e : Ending) (w' : World) : Prop := ∃ v, e = .returned v ∧ RecsR (fun b => w.heap.size ≤ b) w' v rs ∧ Fr (fun _ => False) w w'
theorem append_none (t e : TypeId) (i : TypeInfo) (ht : Tryz.prog.underlying t = some (.slice e)) (hi : Tryz.prog.info? e = some i) (ty : TypeId) (c : Nat) (w : World) :
  (Builtin.append_ #[t, t] ty #[.slice none 0 0, .slice none 0 c]).run Tryz.prog w = .ok (.slice none 0 0) w := by
 simp [Builtin.append_, run_underlying ht, sizeOf, typeInfo, hi, Builtin.lenOf, Builtin.firstCells]
/-- A record's copy. -/
theorem copy_rec (K : Nat → Prop) (r : Rec) (hv : Value) (w : World) (h : HdsR K w hv r.hs) (hl : r.hs.length ≤ 1000) :
  Calls Tryz.prog 99 #[recV r hv] w (RecPost w r) := by
 obtain ⟨i, hi, hz, h1, h2⟩ := info_parts info55
 have hh := h
 obtain ⟨oa, cap, rfl, -⟩ := hh
 unfold recV
 have hf : ∀ cells1 cells2 cells3 : Array Value, Fr (fun _ => False) w (((w.alloc (.cells cells1 79)).alloc (.cells cells2 79)).alloc (.cells cells3 79)) := fun _ _ _ => (((Fr.same w).alloc _).alloc _).alloc _
 cases oa with
 | none =>
  obtain ⟨e0, -⟩ := hds_none h
  have e1 : r.hs.length = 0 := by rw [e0]; rfl
  have happ := fun w => append_none 77 94 i Tryz.underlying77 hi 37 cap w
  have E0 := Lib.hid e0
  have HF := Lib.hid hf
  clear h e0 hf
  rw [e1]
  go_enter Tryz.func99, Tryz.ntmps99
  go_wp2_with fail
  refine bodyPost_ret (v := recV r (.slice none 0 0)) (by simp [results, Tryz.f99, go_sem, recV]) rfl ⟨_, rfl, ?_, ?_⟩
  ·rw [E0.out]; exact hds_nil _ _
  ·exact HF.out _ _ _
 | some a =>
  obtain ⟨-, hcells⟩ := hds_cells h
  have HC := Lib.hid hcells
  have HF := Lib.hid hf
  clear h hcells hf
  go_enter Tryz.func99, Tryz.ntmps99
  go_wp2_with (at_builtin; refine wpList_append_own2 _ rfl (.tmp 7) (.tmp 9) 77 rfl w.heap.size 94 i _ 2 32 Tryz.underlying77 hi hz h1 h2 rfl (by decide) _ 0 [] rfl (World.ownsRow_nil _ _ _ _) a r.hs.length cap (r.hs.flatMap hdrCells) rfl (flat_len hdrCells 2 hdr_n r.hs) ?c1 (hdr_cells_one r.hs) ?c3 ?c4 (HF.out _ _ _).size ?_)
  case c1 => exact fun j u hj => (HF.out _ _ _).cel (HC.out j u hj)
  case c3 => unfold maxLen; omega
  case c4 => omega
  intro v' w' ho hg hb
  have hfr : Fr (fun _ => False) w w' := (HF.out _ _ _).grown hg fun k hk => .inr (by simp [Value.ownBlock] at hk)
  have hr := hds_of_own ho (by simp)
  have k2 : w'.heap[w.heap.size + 1 + 1]? = some (.cells #[.int .i64 r.at', .int .i64 r.tm, .bool r.bare, .string r.key, .bool r.gone, .string r.val, .slice none 0 0] 79 (0, 0)) :=
   (hg.block _ (by simp) (by simp [Value.ownBlock])).trans (by simpa using heap_alloc_self ((w.alloc _).alloc _) _)
  have k1 : w'.heap[w.heap.size + 1]? = some (.cells #[.int .i64 0, .int .i64 0, .bool false, .string ⟨#[]⟩, .bool false, .string ⟨#[]⟩, .slice none 0 0] 79 (0, 0)) :=
   (hg.block _ (by simp) (by simp [Value.ownBlock])).trans ((heap_alloc_lt _ (by simp)).trans (by simpa using heap_alloc_self (w.alloc _) _))
  have f2 : ∀ j, w'.frozen? ⟨w.heap.size + 1 + 1, j, none⟩ = false := by intro j; simp [World.frozen?, k2]
  have f1 : ∀ j, w'.frozen? ⟨w.heap.size + 1, j, none⟩ = false := by intro j; simp [World.frozen?, k1]
  have d2 : ∀ j, w'.cell? ⟨w.heap.size + 1 + 1, j, none⟩ = (#[.int .i64 r.at', .int .i64 r.tm, .bool r.bare, .string r.key, .bool r.gone, .string r.val, .slice none 0 0] : Array Value)[j]? := by intro j; simp [World.cell?, k2]
  have d1 : ∀ j, w'.cell? ⟨w.heap.size + 1, j, none⟩ = (#[.int .i64 0, .int .i64 0, .bool false, .string ⟨#[]⟩, .bool false, .string ⟨#[]⟩, .slice none 0 0] : Array Value)[j]? := by intro j; simp [World.cell?, k1]
  have HR := Lib.hid hr
  have HF2 := Lib.hid hfr
  have HB := Lib.hid hb
  clear ho hfr hr hb hg k1 k2
  obtain ⟨oa', cap', rfl, -⟩ := HR.out
  go_wp2_with fail
  refine bodyPost_ret (v := recV r (.slice oa' r.hs.length cap')) (by simp [results, Tryz.f99, go_sem, recV, d1]) rfl ⟨_, rfl, ?_, ?_⟩
  ·refine (HR.out.fr (S := fun k => k = w.heap.size + 1 ∨ k = w.heap.size + 1 + 1) ?_ ?_).mono fun b hb _ => hb.1
   ·repeat' (refine Fr.setCell ?_ (.inl (by simp)) _)
    exact Fr.refl _ _
   ·intro k hk
    have h9 := hk.2
    rcases HB.out with h | h
    ·rw [h9] at h; simp [Value.ownBlock] at h
    ·rw [h9] at h; injection h with h; omega
  ·repeat' (refine Fr.setCell ?_ (.inr (by simp; try omega)) _)
   exact HF2.out
set_option maxHeartbeats 4000000 in
/-- A list of records, copied. -/
theorem copy_recs (K : Nat → Prop) (rs : List Rec) (v : Value) (w : World) (h : RecsR K w v rs) (hl : rs.length ≤ 1000) (hs : ∀ r ∈ rs, r.hs.length ≤ 1000) :
  Calls Tryz.prog 64 #[v] w (RecsPost w rs) := by
 obtain ⟨oa, cap, rfl, h⟩ := h
 have H := Lib.hid h
 have HS := Lib.hid hs
 clear h hs
 go_enter Tryz.func64, Tryz.ntmps64
 go_wp2_with fail
 go_loopw [3, 4] (fun o i wr => ∃ k : Nat, i = .int .i64 k ∧ k ≤ rs.length ∧ OwnRecs (fun b => w.heap.size ≤ b) w.heap.size wr o (rs.take k) ∧ Fr (fun _ => False) w wr) (fun _ i _ => rs.length - (intOf i).toNat)
 case atStart => exact ⟨0, rfl, Nat.zero_le _, OwnRecs.nil _ _ _, Fr.same _⟩
 case round =>
  obtain ⟨k, rfl, hk, ho, hf⟩ := hrel
  have F := Lib.hid hf
  have O := Lib.hid ho
  clear hf ho
  rcases Nat.lt_or_ge k rs.length with hlt | hge
  ·obtain ⟨x, hx⟩ := get_of_lt hlt
   obtain ⟨a, hv, rfl, -, hc, hr⟩ := H.out k x hx
   have hc1 := hc.to (F.out.block _ hc.lt fun h => h)
   obtain ⟨c0, c1, c2, c3, c4, c5, c6⟩ := hc1
   have hb := HS.out x (List.mem_of_getElem? hx)
   have HX := Lib.hid hx
   obtain ⟨ob, ocap, hob⟩ := O.out.slice
   rw [List.length_take_of_le hk] at hob
   subst hob
   clear hx hc
   go_wp2_with fail
   refine (copy_rec K x hv _ (hr.old F.out) hb).mono ?_
   rintro e w2 ⟨hv2, rfl, hr2, hf2⟩
   have ha : ∀ j, (w2.alloc (.cells (recCells x hv2).toArray 79)).cell? ⟨w2.heap.size, j, none⟩ = (recCells x hv2).toArray[j]? := fun j => cell_alloc_new w2 _ 79 j
   have hf3 := hf2.alloc (.cells (recCells x hv2).toArray 79)
   have hr3 := hr2.old ((Fr.same w2).alloc (.cells (recCells x hv2).toArray 79))
   have HA := Lib.hid ha
   have HR := Lib.hid hr3
   have HF := Lib.hid hf3
   clear c0 c1 c2 c3 c4 c5 c6 hr hr2 hf2 ha hr3 hf3
   unfold recV
   go_wp2_with (at_builtin; refine wpList_push_rec _ rfl (.tmp 11) (.tmp 17) rfl (fun b => w.heap.size ≤ b) w.heap.size (.slice ob k ocap) (rs.take k) rfl (O.out.old HF.out) w2.heap.size 1 rfl x hv2 HA.out ?c1 (hds_one HR.out) ?c2 ?c3 ?_)
   case c1 => exact HR.out.mono fun b hb _ => ⟨Nat.le_trans F.out.size hb, fun e => by have := (O.out.lt e).2; omega⟩
   case c2 => rw [List.length_take_of_le hk]; omega
   case c3 => exact Nat.le_trans F.out.size HF.out.size
   intro v4 w4 ho4 hg4 hb4
   have hf4 : Fr (fun _ => False) w w4 := (F.out.tr HF.out).grown hg4 fun k hk => .inr (O.out.lt hk).1
   rw [← take_snoc' HX.out] at ho4
   have F4 := Lib.hid hf4
   have O4 := Lib.hid ho4
   clear hf4 ho4 hg4 hb4
   go_wp2_with fail
   go_roundw
   case rel => exact ⟨k + 1, by go_num, by omega, O4.out, F4.out⟩
   case measure => simp [intOf]; omega
  ·go_wp2_with fail
   go_ret
   refine ⟨_, rfl, ?_, F.out⟩
   have := O.out
   rw [List.take_of_length_le hge] at this
   exact this.reads (fun b hb _ => hb) fun b hb _ => hb
set_option maxHeartbeats 4000000 in
/-- A batch's copy. -/
theorem copy_bat (K : Nat → Prop) (b : Bat) (v : Value) (w : World) (h : RecsR K w v b.recs) (hl : b.recs.length ≤ 1000) (hs : ∀ r ∈ b.recs, r.hs.length ≤ 1000) :
  Calls Tryz.prog 24 #[batV b v] w (BatPost w b) := by
 have hh := h
 obtain ⟨oa, cap, rfl, -⟩ := hh
 have H := Lib.hid h
 clear h
 unfold batV
 have hf : ∀ cells1 cells2 cells3 : Array Value, Fr (fun _ => False) w (((w.alloc (.cells cells1 36)).alloc (.cells cells2 36)).alloc (.cells cells3 36)) := fun _ _ _ => (((Fr.same w).alloc _).alloc _).alloc _
 have HF := Lib.hid hf
 clear hf
 go_enter Tryz.func24, Tryz.ntmps24
 go_wp2_with fail
 refine (copy_recs K b.recs _ _ (H.out.old (HF.out _ _ _)) hl hs).mono ?_
 rintro e w' ⟨v', rfl, hr, hg⟩
 have hfr : Fr (fun _ => False) w w' := (HF.out _ _ _).tr hg
 have k2 : w'.heap[w.heap.size + 1 + 1]? = some (.cells #[.int .i64 b.base, .int .i64 b.span, .int .i64 b.prod, .int .i64 b.epoch, .int .i64 b.seq, .slice oa b.recs.length cap] 36 (0, 0)) :=
  (hg.block _ (by simp) (fun h => h)).trans (by simpa using heap_alloc_self ((w.alloc _).alloc _) _)
 have k1 : w'.heap[w.heap.size + 1]? = some (.cells #[.int .i64 0, .int .i64 0, .int .i64 0, .int .i64 0, .int .i64 0, .slice none 0 0] 36 (0, 0)) :=
  (hg.block _ (by simp) (fun h => h)).trans ((heap_alloc_lt _ (by simp)).trans (by simpa using heap_alloc_self (w.alloc _) _))
 have f2 : ∀ j, w'.frozen? ⟨w.heap.size + 1 + 1, j, none⟩ = false := by intro j; simp [World.frozen?, k2]
 have f1 : ∀ j, w'.frozen? ⟨w.heap.size + 1, j, none⟩ = false := by intro j; simp [World.frozen?, k1]
 have d2 : ∀ j, w'.cell? ⟨w.heap.size + 1 + 1, j, none⟩ = (#[.int .i64 b.base, .int .i64 b.span, .int .i64 b.prod, .int .i64 b.epoch, .int .i64 b.seq, .slice oa b.recs.length cap] : Array Value)[j]? := by intro j; simp [World.cell?, k2]
 have d1 : ∀ j, w'.cell? ⟨w.heap.size + 1, j, none⟩ = (#[.int .i64 0, .int .i64 0, .int .i64 0, .int .i64 0, .int .i64 0, .slice none 0 0] : Array Value)[j]? := by intro j; simp [World.cell?, k1]
 have HR := Lib.hid hr
 have HF2 := Lib.hid hfr
 obtain ⟨oa', cap', rfl, -⟩ := HR.out
 clear hr hfr hg k1 k2
 go_wp2_with fail
 refine bodyPost_ret (v := batV b (.slice oa' b.recs.length cap')) (by simp [results, Tryz.f24, go_sem, batV, d1]) rfl ⟨_, rfl, ?_, ?_⟩
 ·refine (HR.out.fr (S := fun k => k = w.heap.size + 1 ∨ k = w.heap.size + 1 + 1) ?_ ?_).mono fun b hb _ => ?_
  ·repeat' (refine Fr.setCell ?_ (.inl (by simp)) _)
   exact Fr.refl _ _
  ·intro k hk
   simp at hk
   omega
  ·simp at hb
   omega
 ·repeat' (refine Fr.setCell ?_ (.inr (by simp; try omega)) _)
  exact HF2.out
end Go.Proofs.YtdlnafhhkpklmaaGreatDoor
/- The example log: laws and the walk of live. -/
namespace Go.Proofs.YtdlnafhhkpklmaaGreatDoor
open Go.RowKit Go.Fm Go.BigFrame Go.Shelf Go.Maps
set_option linter.unusedVariables false
set_option linter.unusedSimpArgs false
set_option maxRecDepth 100000
section
def pS : ByteArray := ⟨#[112]⟩
end
section
variable {B : Nat} {w w' w1 w2 : World} {lb db mb : Nat} {p : ByteArray} {lim ev : Nat} {beg : Int} {es : List PE} {own : Bool} {L L' : List Row} {S S' : Nat → Prop} {room used fuse : Int} {F F' : ByteArray → ByteArray × Nat} {n : Nat}
theorem LogD.none (h : LogD B w lb db mb p lim ev beg es own L S room used fuse F n) (hL : ∀ i, DkS db mb L i → i = db ∨ i = mb) : L = [] := by
 cases L with
 | nil => rfl
 | cons r L =>
  have h1 := h.dk.ne_file (r := r) List.mem_cons_self
  rcases hL r.2 (.inr (.inr ⟨r, List.mem_cons_self, rfl⟩)) with h2 | h2
  ·exact absurd h2 h1.1
  ·exact absurd h2 h1.2
/-- A log that is opened on a disk without files. -/
def NewLog (B : Nat) (w : World) (db mb : Nat) (p : ByteArray) (lim ev : Nat) (room : Int) (e : Ending) (w' : World) : Prop :=
 ∃ (lb : Nat) (S' : Nat → Prop) (F' : ByteArray → ByteArray × Nat), e = .returned (.tuple #[.pointer (some ⟨lb, 0, none⟩), .int .i64 0]) ∧ LogD B w' lb db mb p lim ev 0 [] true [] S' room 0 (-1) F' 0 ∧ (∀ i, S' i → w.heap.size ≤ i) ∧ Fr (fun i => i = db ∨ i = mb) w w'
theorem popen_new (h : DkN w db mb room 0 [] F) (hrm : room ≤ 4194304) (hB1 : 1 ≤ B) (hdb : B ≤ db) (hmb : B ≤ mb) (p1 : 1 ≤ p.size) (p2 : p.size ≤ 20) (l1 : 50 ≤ lim) (l2 : lim ≤ 1000000) (e1 : 1 ≤ ev) (e2 : ev ≤ 1000000) (hst : StepsOK w) :
  Calls Tryz.prog 11 #[.pointer (some ⟨db, 0, none⟩), cfgV p lim ev] w (NewLog B w db mb p lim ev room) := by
 have hD : ∀ i, DkS db mb [] i → i = db ∨ i = mb := fun i hi => hi.imp id fun h => h.elim id fun ⟨r, hr, _⟩ => (by cases hr)
 refine (popen_walk (B := B) (ts := []) (beg := 0) (n := 0) ⟨h, hrm, ⟨fun nm h1 => (by cases h1), fun t ht => (by cases ht), fun t ht => (by cases ht), .nil, fun t ht => (by cases ht), fun t ht => (by cases ht), fun t ht => (by cases ht), fun t ht => (by cases ht)⟩, .inl ⟨rfl, rfl⟩, Int.le_refl _, by omega, Int.le_refl _, fun i hi => by
  rcases hD i hi with rfl | rfl <;> assumption, hB1, Nat.le_refl _, Nat.le_refl _, Nat.le_refl _, by omega, p1, p2, l1, l2, e1, e2, hst⟩).mono ?_
 rintro e w1 ⟨lb, j, es, own', L', S', used', F', rfl, hL, hsg, hj, how, hls, hot, hS, hDk, hf⟩
 obtain rfl : es = [] := by
  unfold segsOf at hsg
  simpa using hsg
 obtain rfl : j = 0 := hj
 obtain rfl := how rfl
 obtain rfl := hL.none fun i hi => hD i (hDk i hi)
 obtain rfl : used' = 0 := hL.us
 exact ⟨lb, S', F', rfl, hL, hS, hf.mono fun i hi => .inl (hD i hi)⟩
end
end Go.Proofs.YtdlnafhhkpklmaaGreatDoor
/- PlogRetains: the walk. -/
namespace Go.Proofs.YtdlnafhhkpklmaaGreatDoor
open Go.RowKit Go.Fm Go.BigFrame Go.Shelf Go.Maps
set_option linter.unusedVariables false
set_option linter.unusedSimpArgs false
set_option maxRecDepth 100000
section
variable {B : Nat} {w w' w1 w2 : World} {lb db mb : Nat} {p : ByteArray} {lim ev : Nat} {beg : Int} {es : List PE} {own : Bool} {L L' : List Row} {S S' : Nat → Prop} {room used fuse : Int} {F F' : ByteArray → ByteArray × Nat} {n : Nat}
/-- A new disk and a new log on it. -/
theorem dnew_n (room : Int) (w : World) (h1 : 1 ≤ room) (h2 : room ≤ 4194304) : Calls Tryz.prog 10 #[.int .i64 room] w fun e w' => ∃ db mb, e = .returned (.tuple #[.pointer (some ⟨db, 0, none⟩), .int .i64 0]) ∧ DkN w' db mb room 0 [] (fun _ => (ByteArray.empty, 0)) ∧ w.heap.size ≤ db ∧ w.heap.size ≤ mb ∧ Fr (fun _ => False) w w' := by
 refine (dnew_walk room (fun _ => (ByteArray.empty, 0)) w h1 h2).mono ?_
 rintro e w1 ⟨db, mb, rfl, hdk, hf1, hdb, hmb⟩
 exact ⟨db, mb, rfl, ⟨hdk, ⟨Int.le_refl _, by omega, by decide, fun r hr => (by cases hr)⟩, rfl, by omega⟩, hdb, hmb, hf1⟩
theorem LogD.cat_ok (h : LogD B w lb db mb p lim ev beg es own L S room used fuse F n) : ∀ b ∈ catE es, BatOK b := fun b hb => by
 unfold catE catL at hb
 obtain ⟨s, hs, hb⟩ := List.mem_flatMap.1 hb
 exact ((h.chn hs).ok b hb).1
end
end Go.Proofs.YtdlnafhhkpklmaaGreatDoor
/- What a log's files tell behind a crash; batches that rise: plain laws. -/
namespace Go.Proofs.YtdlnafhhkpklmaaGreatDoor
open Go.RowKit Go.Fm Go.BigFrame Go.Shelf Go.Maps
set_option linter.unusedVariables false
set_option linter.unusedSimpArgs false
set_option maxRecDepth 100000
section
variable {p : ByteArray} {beg at' : Int} {ss ss0 : List Seg} {s x : Seg} {L L' : List Row} {F F' : ByteArray → ByteArray × Nat} {n k ev : Nat}
def RiseB (l : List Bat) : Prop := l.Pairwise fun a b => a.base + a.span ≤ b.base
theorem Chn.pair {q : Int} {l : List Bat} (h : Chn q l) : RiseB l ∧ ∀ b ∈ l, q ≤ b.base ∧ b.base + b.span ≤ endOf q l := by
 induction h with
 | nil => exact ⟨.nil, fun b hb => (by cases hb)⟩
 | cons h1 h2 h3 ih =>
  rw [endOf_cons]
  refine ⟨List.pairwise_cons.2 ⟨fun b hb => (ih.2 b hb).1, ih.1⟩, fun b hb => ?_⟩
  rcases List.mem_cons.1 hb with rfl | hb
  ·exact ⟨h2, h3.end_ge⟩
  ·have := ih.2 b hb
   have := h1.span0
   omega
theorem cat_rise (h : ss.Pairwise fun a b => a.base < b.base ∧ a.end' ≤ b.base) (hc : ∀ s ∈ ss, Chn s.base s.l) : RiseB (catL ss) := by
 induction ss with
 | nil => exact .nil
 | cons a l ih =>
  have h1 := List.pairwise_cons.1 h
  have ha := (hc a List.mem_cons_self).pair
  unfold catL RiseB
  rw [List.flatMap_cons, List.pairwise_append]
  refine ⟨ha.1, ih h1.2 fun s hs => hc s (List.mem_cons_of_mem _ hs), fun x hx y hy => ?_⟩
  obtain ⟨s, hs, hy⟩ := List.mem_flatMap.1 hy
  have h2 := (ha.2 x hx).2
  have h3 := ((hc s (List.mem_cons_of_mem _ hs)).pair.2 y hy).1
  have h4 := (h1.1 s hs).2
  have h5 : a.end' = endOf a.base a.l := rfl
  omega
end
end Go.Proofs.YtdlnafhhkpklmaaGreatDoor
/- PlogBegins: laws and the walk. -/
namespace Go.Proofs.YtdlnafhhkpklmaaGreatDoor
open Go.RowKit Go.Fm Go.BigFrame Go.Shelf Go.Maps
set_option linter.unusedVariables false
set_option linter.unusedSimpArgs false
set_option maxRecDepth 100000
section
variable {B : Nat} {w w' w1 w2 : World} {lb db mb : Nat} {p : ByteArray} {lim ev : Nat} {beg at' : Int} {es : List PE} {own : Bool} {L L' : List Row} {S S' : Nat → Prop} {room used fuse : Int} {F F' : ByteArray → ByteArray × Nat} {n : Nat}
theorem small_ok {l : List Bat} (h : ∀ b ∈ l, BatOK b) : ∀ x ∈ l, x.recs.length ≤ 100 ∧ ∀ r ∈ x.recs, r.hs.length ≤ 100 := fun x hx => by
 have h1 := h x hx
 refine ⟨by have := h1.len; omega, fun r hr => ?_⟩
 obtain ⟨k, hk⟩ := List.getElem?_of_mem hr
 have := (h1.recs k r hk).ok.hs
 omega
end
end Go.Proofs.YtdlnafhhkpklmaaGreatDoor
/- PlogBegins: the walk. -/
namespace Go.Proofs.YtdlnafhhkpklmaaGreatDoor
open Go.RowKit Go.Fm Go.BigFrame Go.Shelf Go.Maps
set_option linter.unusedVariables false
set_option linter.unusedSimpArgs false
set_option maxRecDepth 100000
section
variable {B : Nat} {w w' w1 w2 : World} {lb db mb : Nat} {p : ByteArray} {lim ev : Nat} {beg at' : Int} {es : List PE} {own : Bool} {L L' : List Row} {S S' : Nat → Prop} {room used fuse : Int} {F F' : ByteArray → ByteArray × Nat} {n : Nat}
end
end Go.Proofs.YtdlnafhhkpklmaaGreatDoor
