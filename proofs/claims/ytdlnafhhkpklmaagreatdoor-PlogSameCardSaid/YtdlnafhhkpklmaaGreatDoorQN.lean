/- How many bytes a small batch has: plain laws. -/
import Derived.Test.YtdlnafhhkpklmaaGreatDoorGE
import Derived.Test.YtdlnafhhkpklmaaGreatDoorF1
import Derived.Test.YtdlnafhhkpklmaaGreatDoorG2
import Derived.Test.YtdlnafhhkpklmaaGreatDoorChecked
import Derived.WalkKit
import Derived.WalkSpells
import Derived.WalkLawsBesides
import Derived.BigQuiet
import Derived.Deep.QuietTactic
import Derived.Lib.Hide
import Derived.Test.YtdlnafhhkpklmaaGreatDoorQI
namespace Go.Proofs.YtdlnafhhkpklmaaGreatDoor
open Go.RowKit Go.Fm Go.BigFrame Go.Shelf Go.Maps
set_option linter.unusedVariables false
set_option linter.unusedSimpArgs false

theorem encTo_small {r : Rec} (h : RecOK r) : ∀ k, k ≤ r.hs.length → (encTo r k).size ≤ 60 + r.key.size + r.val.size + hdrsW (r.hs.take k) + 20 * k
  | 0, _ => by
    have wa : (Lit.int .i64 r.at').wf = true := by have := h.at0; have := h.at1; simp [Lit.wf, IntKind.min, IntKind.max, IntKind.signed, IntKind.bits]; omega
    have wt : (Lit.int .i64 r.tm).wf = true := by have := h.tm0; have := h.tm1; simp [Lit.wf, IntKind.min, IntKind.max, IntKind.signed, IntKind.bits]; omega
    have wf : (Lit.int .i64 (flagsOf r)).wf = true := by unfold flagsOf; cases r.bare <;> cases r.gone <;> decide
    have hk := h.key
    have hv := h.val
    have hl := h.hs
    have sa := putS_size wa
    have st := putS_size wt
    have sf := putS_size wf
    have sl := putS_size (len_wf (show r.hs.length ≤ 1000000000 by omega))
    have sk := textS_size (show r.key.size ≤ 1000000000 by omega)
    have sv := textS_size (show r.val.size ≤ 1000000000 by omega)
    show (encHead r).size ≤ _
    unfold encHead
    rw [ByteArray.size_append, ByteArray.size_append, ByteArray.size_append, ByteArray.size_append, ByteArray.size_append]
    omega
  | k + 1, hk => by
    obtain ⟨x, hx⟩ := get_of_lt (show k < r.hs.length by omega)
    have ih := encTo_small h k (by omega)
    obtain ⟨h1, h2, h3⟩ := h.hdrs x (List.mem_of_getElem? hx)
    have sk := textS_size (show x.key.size ≤ 1000000000 by omega)
    have sv := textS_size (show x.val.size ≤ 1000000000 by omega)
    rw [take_snoc' hx, hdrsW_snoc]
    simp only [encTo, hx]
    rw [ByteArray.size_append, ByteArray.size_append]
    unfold hdrW
    omega
theorem encS_small {r : Rec} (h : RecOK r) : (encS r).size ≤ recW r + 260 := by
  have h1 := encTo_small h r.hs.length (Nat.le_refl _)
  have h2 := h.hs
  rw [List.take_length] at h1
  unfold encS recW
  omega
theorem bodyTo_small {b : Bat} (h : BatOK b) : ∀ k, k ≤ b.recs.length → (bodyTo b k).size ≤ 60 + recsW (b.recs.take k) + 260 * k
  | 0, _ => by
    have NU := nums_of h.base0 h.base1 h.span0 h.span1 h.who h.len
    have wl : (Lit.int .i64 (b.recs.length : Int)).wf = true := len_wf (by have := h.len; omega)
    have s1 := putS_size NU.base
    have s2 := putS_size NU.span
    have s3 := putS_size NU.prod
    have s4 := putS_size NU.epoch
    have s5 := putS_size NU.seq
    have s6 := putS_size wl
    show (bodyHead b).size ≤ _
    unfold bodyHead
    rw [ByteArray.size_append, ByteArray.size_append, ByteArray.size_append, ByteArray.size_append, ByteArray.size_append]
    omega
  | k + 1, hk => by
    obtain ⟨x, hx⟩ := get_of_lt (show k < b.recs.length by omega)
    have ih := bodyTo_small h k (by omega)
    have h1 := encS_small (h.recs k x hx).ok
    rw [take_snoc' hx, recsW_snoc]
    simp only [bodyTo, hx]
    rw [ByteArray.size_append]
    omega
/-- A small batch has at most 16068 bytes. -/
theorem bsz_small {b : Bat} (h : BatOK b) (hs : SmallB b) : bsz b ≤ 16068 := by
  have h1 := bodyTo_small h b.recs.length (Nat.le_refl _)
  have h2 := hs.weight
  have h3 := h.len
  rw [List.take_length] at h1
  unfold bsz
  rw [batS_size]
  unfold bodyS
  omega
theorem SmallB.recs_eq {b b' : Bat} (h : SmallB b) (e : b'.recs = b.recs) : SmallB b' := ⟨by rw [e]; exact h.len, by rw [e]; exact h.recs, by rw [e]; exact h.weight⟩
end Go.Proofs.YtdlnafhhkpklmaaGreatDoor

/- Same of records, of batches: the walks. -/
namespace Go.Proofs.YtdlnafhhkpklmaaGreatDoor
open Go.RowKit Go.Fm Go.BigFrame
set_option linter.unusedVariables false
set_option linter.unusedSimpArgs false

set_option maxHeartbeats 4000000 in
theorem same_rec (K K' : Nat → Prop) (r : Rec) (hv hv' : Value) (w : World) (h : HdsR K w hv r.hs) (h' : HdsR K' w hv' r.hs) (hl : r.hs.length ≤ 100) :
    Calls Tryz.prog 130 #[recV r hv, recV r hv'] w fun e w' => e = .returned (.bool true) ∧ Fr (fun _ => False) w w' := by
  obtain ⟨oa, cap, rfl, h⟩ := h
  obtain ⟨oa', cap', rfl, h'⟩ := h'
  have H := Lib.hid h
  have H' := Lib.hid h'
  clear h h'
  unfold recV
  have f1 := ((Fr.refl (fun _ => False) w).alloc (.cells #[.int .i64 r.at', .int .i64 r.tm, .bool r.bare, .string r.key, .bool r.gone, .string r.val, .slice oa r.hs.length cap] 79)).alloc (.cells #[.int .i64 r.at', .int .i64 r.tm, .bool r.bare, .string r.key, .bool r.gone, .string r.val, .slice oa' r.hs.length cap'] 79)
  have e2 : ((w.alloc (.cells #[.int .i64 r.at', .int .i64 r.tm, .bool r.bare, .string r.key, .bool r.gone, .string r.val, .slice oa r.hs.length cap] 79)).alloc (.cells #[.int .i64 r.at', .int .i64 r.tm, .bool r.bare, .string r.key, .bool r.gone, .string r.val, .slice oa' r.hs.length cap'] 79)).cell? ⟨w.heap.size + 1, 6, none⟩ = some (.slice oa' r.hs.length cap') := by
    simp
  have e1 : ((w.alloc (.cells #[.int .i64 r.at', .int .i64 r.tm, .bool r.bare, .string r.key, .bool r.gone, .string r.val, .slice oa r.hs.length cap] 79)).alloc (.cells #[.int .i64 r.at', .int .i64 r.tm, .bool r.bare, .string r.key, .bool r.gone, .string r.val, .slice oa' r.hs.length cap'] 79)).cell? ⟨w.heap.size, 6, none⟩ = some (.slice oa r.hs.length cap) :=
    (((Fr.refl (fun _ => False) _).alloc _)).cell (cell_alloc_new w #[.int .i64 r.at', .int .i64 r.tm, .bool r.bare, .string r.key, .bool r.gone, .string r.val, .slice oa r.hs.length cap] 79 6) (fun h => h)
  go_enter Tryz.func130, Tryz.ntmps130
  go_wp2_with fail
  generalize ((w.alloc (.cells #[.int .i64 r.at', .int .i64 r.tm, .bool r.bare, .string r.key, .bool r.gone, .string r.val, .slice oa r.hs.length cap] 79)).alloc (.cells #[.int .i64 r.at', .int .i64 r.tm, .bool r.bare, .string r.key, .bool r.gone, .string r.val, .slice oa' r.hs.length cap'] 79)) = W at *
  have F1 := Lib.hid f1
  have E1 := Lib.hid e1
  have E2 := Lib.hid e2
  clear f1 e1 e2
  go_loopw [5] (fun i wr => ∃ k : Nat, i = .int .i64 k ∧ k ≤ r.hs.length ∧ Fr (fun _ => False) W wr) (fun i _ => r.hs.length - (intOf i).toNat)
  case atStart => exact ⟨0, rfl, Nat.zero_le _, Fr.refl _ _⟩
  case round =>
    obtain ⟨k, rfl, hk, hf⟩ := hrel
    have F := Lib.hid hf
    have e1 := hf.cell E1.out (fun h => h)
    have e2 := hf.cell E2.out (fun h => h)
    clear hf
    rcases Nat.lt_or_ge k r.hs.length with hlt | hge
    · obtain ⟨hd, hhd⟩ : ∃ hd, r.hs[k]? = some hd := ⟨_, List.getElem?_eq_getElem hlt⟩
      obtain ⟨a, rfl, -, c0, c1⟩ := H.out k hd hhd
      obtain ⟨a', rfl, -, d0, d1⟩ := H'.out k hd hhd
      have c0 := F.out.cell (F1.out.cell c0 fun h => h) fun h => h
      have c1 := F.out.cell (F1.out.cell c1 fun h => h) fun h => h
      have d0 := F.out.cell (F1.out.cell d0 fun h => h) fun h => h
      have d1 := F.out.cell (F1.out.cell d1 fun h => h) fun h => h
      clear hhd
      go_wp2_with fail
      go_quiet (fail)
      have F2 := Lib.hid (F.out.drewN nq)
      clear c0 c1 d0 d1 e1 e2
      go_wp2_with fail
      go_roundw
      case rel => exact ⟨k + 1, by go_num, by omega, F2.out⟩
      case measure => simp [intOf]; omega
    · go_wp2_with fail
      go_ret
      exact ⟨rfl, F1.out.tr F.out⟩

set_option maxHeartbeats 4000000 in
theorem same_recs (K K' : Nat → Prop) (l : List Rec) (v v' : Value) (w : World) (h : RecsR K w v l) (h' : RecsR K' w v' l) (hl : l.length ≤ 100) (hs : ∀ x ∈ l, x.hs.length ≤ 100) :
    Calls Tryz.prog 98 #[v, v'] w fun e w' => e = .returned (.bool true) ∧ Fr (fun _ => False) w w' := by
  obtain ⟨oa, cap, rfl, h⟩ := h
  obtain ⟨oa', cap', rfl, h'⟩ := h'
  have H := Lib.hid h
  have H' := Lib.hid h'
  have HS := Lib.hid hs
  clear h h' hs
  go_enter Tryz.func98, Tryz.ntmps98
  go_wp2_with fail
  go_loopw [5] (fun i wr => ∃ k : Nat, i = .int .i64 k ∧ k ≤ l.length ∧ Fr (fun _ => False) w wr) (fun i _ => l.length - (intOf i).toNat)
  case atStart => exact ⟨0, rfl, Nat.zero_le _, Fr.same _⟩
  case round =>
    obtain ⟨k, rfl, hk, hf⟩ := hrel
    have F := Lib.hid hf
    clear hf
    rcases Nat.lt_or_ge k l.length with hlt | hge
    · obtain ⟨x, hx⟩ := get_of_lt hlt
      obtain ⟨a, u, rfl, -, hc, hr⟩ := H.out k x hx
      obtain ⟨a', u', rfl, -, hc', hr'⟩ := H'.out k x hx
      have hb := HS.out x (List.mem_of_getElem? hx)
      go_wp2_with fail
      have c0 : ∀ y : Lcl.InS (fun w' => Fr (fun _ => False) wr w'), y.w.cell? (a.add (k * 7)) = some (.int .i64 x.at') := fun y => y.h.cel (F.out.cel hc.c0)
      have d0 : ∀ y : Lcl.InS (fun w' => Fr (fun _ => False) wr w'), y.w.cell? (a'.add (k * 7)) = some (.int .i64 x.at') := fun y => y.h.cel (F.out.cel hc'.c0)
      have c1 : ∀ y : Lcl.InS (fun w' => Fr (fun _ => False) wr w'), y.w.cell? ⟨(a.add (k * 7)).block, (a.add (k * 7)).off + 1, none⟩ = some (.int .i64 x.tm) := fun y => y.h.cel (F.out.cel hc.c1)
      have d1 : ∀ y : Lcl.InS (fun w' => Fr (fun _ => False) wr w'), y.w.cell? ⟨(a'.add (k * 7)).block, (a'.add (k * 7)).off + 1, none⟩ = some (.int .i64 x.tm) := fun y => y.h.cel (F.out.cel hc'.c1)
      have c2 : ∀ y : Lcl.InS (fun w' => Fr (fun _ => False) wr w'), y.w.cell? ⟨(a.add (k * 7)).block, (a.add (k * 7)).off + 2, none⟩ = some (.bool x.bare) := fun y => y.h.cel (F.out.cel hc.c2)
      have d2 : ∀ y : Lcl.InS (fun w' => Fr (fun _ => False) wr w'), y.w.cell? ⟨(a'.add (k * 7)).block, (a'.add (k * 7)).off + 2, none⟩ = some (.bool x.bare) := fun y => y.h.cel (F.out.cel hc'.c2)
      have c3 : ∀ y : Lcl.InS (fun w' => Fr (fun _ => False) wr w'), y.w.cell? ⟨(a.add (k * 7)).block, (a.add (k * 7)).off + 3, none⟩ = some (.string x.key) := fun y => y.h.cel (F.out.cel hc.c3)
      have d3 : ∀ y : Lcl.InS (fun w' => Fr (fun _ => False) wr w'), y.w.cell? ⟨(a'.add (k * 7)).block, (a'.add (k * 7)).off + 3, none⟩ = some (.string x.key) := fun y => y.h.cel (F.out.cel hc'.c3)
      have c4 : ∀ y : Lcl.InS (fun w' => Fr (fun _ => False) wr w'), y.w.cell? ⟨(a.add (k * 7)).block, (a.add (k * 7)).off + 4, none⟩ = some (.bool x.gone) := fun y => y.h.cel (F.out.cel hc.c4)
      have d4 : ∀ y : Lcl.InS (fun w' => Fr (fun _ => False) wr w'), y.w.cell? ⟨(a'.add (k * 7)).block, (a'.add (k * 7)).off + 4, none⟩ = some (.bool x.gone) := fun y => y.h.cel (F.out.cel hc'.c4)
      have c5 : ∀ y : Lcl.InS (fun w' => Fr (fun _ => False) wr w'), y.w.cell? ⟨(a.add (k * 7)).block, (a.add (k * 7)).off + 5, none⟩ = some (.string x.val) := fun y => y.h.cel (F.out.cel hc.c5)
      have d5 : ∀ y : Lcl.InS (fun w' => Fr (fun _ => False) wr w'), y.w.cell? ⟨(a'.add (k * 7)).block, (a'.add (k * 7)).off + 5, none⟩ = some (.string x.val) := fun y => y.h.cel (F.out.cel hc'.c5)
      have c6 : ∀ y : Lcl.InS (fun w' => Fr (fun _ => False) wr w'), y.w.cell? ⟨(a.add (k * 7)).block, (a.add (k * 7)).off + 6, none⟩ = some (u) := fun y => y.h.cel (F.out.cel hc.c6)
      have d6 : ∀ y : Lcl.InS (fun w' => Fr (fun _ => False) wr w'), y.w.cell? ⟨(a'.add (k * 7)).block, (a'.add (k * 7)).off + 6, none⟩ = some (u') := fun y => y.h.cel (F.out.cel hc'.c6)
      have f1 : ∀ (y : Lcl.InS (fun w' => Fr (fun _ => False) wr w')), Calls Tryz.prog 130 #[recV x u, recV x u'] y.w fun e w' => e = .returned (.bool true) ∧ ∃ y : Lcl.InS (fun w' => Fr (fun _ => False) wr w'), w' = y.w :=
        fun y => quietly y (same_rec K K' x u u' _ (hr.old (F.out.tr y.h)) (hr'.old (F.out.tr y.h)) hb)
      refine wp_region_quiet (C := fun w' => ∃ y : Lcl.InS (fun w' => Fr (fun _ => False) wr w'), w' = y.w) (by kernel_rfl) (by kernel_rfl) ⟨⟨wr.drew, (Fr.same wr).drew⟩, rfl⟩ ?_
      dsimp only
      repeat (go_big_quiet_step (first | rfl | exact f1 _))
      refine wpQuiet_nil ?_
      rintro _ ⟨y, rfl⟩
      clear c0 d0 c1 d1 c2 d2 c3 d3 c4 d4 c5 d5 c6 d6 f1
      have F2 := F.out.tr y.h
      have F3 := Lib.hid F2
      clear F2
      generalize y.w = w6 at *
      clear y
      go_wp2_with fail
      go_roundw
      case rel => exact ⟨k + 1, by go_num, by omega, F3.out⟩
      case measure => simp [intOf]; omega
    · go_wp2_with fail
      go_ret
      exact ⟨rfl, F.out⟩

set_option maxHeartbeats 4000000 in
theorem same_bat (K K' : Nat → Prop) (b : Bat) (v v' : Value) (w : World) (h : RecsR K w v b.recs) (h' : RecsR K' w v' b.recs) (hl : b.recs.length ≤ 100) (hs : ∀ x ∈ b.recs, x.hs.length ≤ 100) :
    Calls Tryz.prog 63 #[batV b v, batV b v'] w fun e w' => e = .returned (.bool true) ∧ Fr (fun _ => False) w w' := by
  obtain ⟨oa, cap, rfl, h⟩ := h
  obtain ⟨oa', cap', rfl, h'⟩ := h'
  have H : RecsR K w (.slice oa b.recs.length cap) b.recs := ⟨oa, cap, rfl, h⟩
  have H' : RecsR K' w (.slice oa' b.recs.length cap') b.recs := ⟨oa', cap', rfl, h'⟩
  have H1 := Lib.hid H
  have H1' := Lib.hid H'
  have HS := Lib.hid hs
  clear h h' H H' hs
  unfold batV
  go_enter Tryz.func63, Tryz.ntmps63
  go_wp2_with fail
  have f1 := ((Fr.same w).alloc (.cells #[.int .i64 b.base, .int .i64 b.span, .int .i64 b.prod, .int .i64 b.epoch, .int .i64 b.seq, .slice oa b.recs.length cap] 36)).alloc (.cells #[.int .i64 b.base, .int .i64 b.span, .int .i64 b.prod, .int .i64 b.epoch, .int .i64 b.seq, .slice oa' b.recs.length cap'] 36)
  refine (same_recs K K' b.recs _ _ _ (H1.out.old f1) (H1'.out.old f1) hl HS.out).mono ?_
  rintro e w' ⟨rfl, hf⟩
  have F := Lib.hid (f1.tr hf)
  clear hf f1
  go_wp2_with fail
  go_ret
  exact ⟨rfl, F.out⟩

set_option maxHeartbeats 4000000 in
theorem same_bats (K K' : Nat → Prop) (l : List Bat) (v v' : Value) (w : World) (h : BatsR K w v l) (h' : BatsR K' w v' l) (hl : l.length ≤ 100) (hs : ∀ x ∈ l, x.recs.length ≤ 100 ∧ ∀ r ∈ x.recs, r.hs.length ≤ 100) :
    Calls Tryz.prog 22 #[v, v'] w fun e w' => e = .returned (.bool true) ∧ Fr (fun _ => False) w w' := by
  obtain ⟨oa, cap, rfl, h⟩ := h
  obtain ⟨oa', cap', rfl, h'⟩ := h'
  have H := Lib.hid h
  have H' := Lib.hid h'
  have HS := Lib.hid hs
  clear h h' hs
  go_enter Tryz.func22, Tryz.ntmps22
  go_wp2_with fail
  go_loopw [5] (fun i wr => ∃ k : Nat, i = .int .i64 k ∧ k ≤ l.length ∧ Fr (fun _ => False) w wr) (fun i _ => l.length - (intOf i).toNat)
  case atStart => exact ⟨0, rfl, Nat.zero_le _, Fr.same _⟩
  case round =>
    obtain ⟨k, rfl, hk, hf⟩ := hrel
    have F := Lib.hid hf
    clear hf
    rcases Nat.lt_or_ge k l.length with hlt | hge
    · obtain ⟨x, hx⟩ := get_of_lt hlt
      obtain ⟨a, u, rfl, -, hc, hr⟩ := H.out k x hx
      obtain ⟨a', u', rfl, -, hc', hr'⟩ := H'.out k x hx
      have hb := HS.out x (List.mem_of_getElem? hx)
      go_wp2_with fail
      have c0 : ∀ y : Lcl.InS (fun w' => Fr (fun _ => False) wr w'), y.w.cell? (a.add (k * 6)) = some (.int .i64 x.base) := fun y => y.h.cel (F.out.cel hc.c0)
      have d0 : ∀ y : Lcl.InS (fun w' => Fr (fun _ => False) wr w'), y.w.cell? (a'.add (k * 6)) = some (.int .i64 x.base) := fun y => y.h.cel (F.out.cel hc'.c0)
      have c1 : ∀ y : Lcl.InS (fun w' => Fr (fun _ => False) wr w'), y.w.cell? ⟨(a.add (k * 6)).block, (a.add (k * 6)).off + 1, none⟩ = some (.int .i64 x.span) := fun y => y.h.cel (F.out.cel hc.c1)
      have d1 : ∀ y : Lcl.InS (fun w' => Fr (fun _ => False) wr w'), y.w.cell? ⟨(a'.add (k * 6)).block, (a'.add (k * 6)).off + 1, none⟩ = some (.int .i64 x.span) := fun y => y.h.cel (F.out.cel hc'.c1)
      have c2 : ∀ y : Lcl.InS (fun w' => Fr (fun _ => False) wr w'), y.w.cell? ⟨(a.add (k * 6)).block, (a.add (k * 6)).off + 2, none⟩ = some (.int .i64 x.prod) := fun y => y.h.cel (F.out.cel hc.c2)
      have d2 : ∀ y : Lcl.InS (fun w' => Fr (fun _ => False) wr w'), y.w.cell? ⟨(a'.add (k * 6)).block, (a'.add (k * 6)).off + 2, none⟩ = some (.int .i64 x.prod) := fun y => y.h.cel (F.out.cel hc'.c2)
      have c3 : ∀ y : Lcl.InS (fun w' => Fr (fun _ => False) wr w'), y.w.cell? ⟨(a.add (k * 6)).block, (a.add (k * 6)).off + 3, none⟩ = some (.int .i64 x.epoch) := fun y => y.h.cel (F.out.cel hc.c3)
      have d3 : ∀ y : Lcl.InS (fun w' => Fr (fun _ => False) wr w'), y.w.cell? ⟨(a'.add (k * 6)).block, (a'.add (k * 6)).off + 3, none⟩ = some (.int .i64 x.epoch) := fun y => y.h.cel (F.out.cel hc'.c3)
      have c4 : ∀ y : Lcl.InS (fun w' => Fr (fun _ => False) wr w'), y.w.cell? ⟨(a.add (k * 6)).block, (a.add (k * 6)).off + 4, none⟩ = some (.int .i64 x.seq) := fun y => y.h.cel (F.out.cel hc.c4)
      have d4 : ∀ y : Lcl.InS (fun w' => Fr (fun _ => False) wr w'), y.w.cell? ⟨(a'.add (k * 6)).block, (a'.add (k * 6)).off + 4, none⟩ = some (.int .i64 x.seq) := fun y => y.h.cel (F.out.cel hc'.c4)
      have c5 : ∀ y : Lcl.InS (fun w' => Fr (fun _ => False) wr w'), y.w.cell? ⟨(a.add (k * 6)).block, (a.add (k * 6)).off + 5, none⟩ = some (u) := fun y => y.h.cel (F.out.cel hc.c5)
      have d5 : ∀ y : Lcl.InS (fun w' => Fr (fun _ => False) wr w'), y.w.cell? ⟨(a'.add (k * 6)).block, (a'.add (k * 6)).off + 5, none⟩ = some (u') := fun y => y.h.cel (F.out.cel hc'.c5)
      have f1 : ∀ (y : Lcl.InS (fun w' => Fr (fun _ => False) wr w')), Calls Tryz.prog 63 #[batV x u, batV x u'] y.w fun e w' => e = .returned (.bool true) ∧ ∃ y : Lcl.InS (fun w' => Fr (fun _ => False) wr w'), w' = y.w :=
        fun y => quietly y (same_bat K K' x u u' _ (hr.old (F.out.tr y.h)) (hr'.old (F.out.tr y.h)) hb.1 hb.2)
      refine wp_region_quiet (C := fun w' => ∃ y : Lcl.InS (fun w' => Fr (fun _ => False) wr w'), w' = y.w) (by kernel_rfl) (by kernel_rfl) ⟨⟨wr.drew, (Fr.same wr).drew⟩, rfl⟩ ?_
      dsimp only
      repeat (go_big_quiet_step (first | rfl | exact f1 _))
      refine wpQuiet_nil ?_
      rintro _ ⟨y, rfl⟩
      clear c0 d0 c1 d1 c2 d2 c3 d3 c4 d4 c5 d5 f1
      have F2 := F.out.tr y.h
      have F3 := Lib.hid F2
      clear F2
      generalize y.w = w6 at *
      clear y
      go_wp2_with fail
      go_roundw
      case rel => exact ⟨k + 1, by go_num, by omega, F3.out⟩
      case measure => simp [intOf]; omega
    · go_wp2_with fail
      go_ret
      exact ⟨rfl, F.out⟩
end Go.Proofs.YtdlnafhhkpklmaaGreatDoor

/- The document's copies of records and batches: the walks. -/
namespace Go.Proofs.YtdlnafhhkpklmaaGreatDoor
open Go.RowKit Go.Fm Go.BigFrame
set_option linter.unusedVariables false
set_option linter.unusedSimpArgs false
set_option maxRecDepth 100000

def RecPost (w : World) (r : Rec) (e : Ending) (w' : World) : Prop := ∃ hv, e = .returned (recV r hv) ∧ HdsR (fun b => w.heap.size ≤ b) w' hv r.hs ∧ Fr (fun _ => False) w w'
def RecsPost (w : World) (rs : List Rec) (e : Ending) (w' : World) : Prop := ∃ v, e = .returned v ∧ RecsR (fun b => w.heap.size ≤ b) w' v rs ∧ Fr (fun _ => False) w w'
theorem append_none (t e : TypeId) (i : TypeInfo) (ht : Tryz.prog.underlying t = some (.slice e)) (hi : Tryz.prog.info? e = some i) (ty : TypeId) (c : Nat) (w : World) :
    (Builtin.append_ #[t, t] ty #[.slice none 0 0, .slice none 0 c]).run Tryz.prog w = .ok (.slice none 0 0) w := by
  simp [Builtin.append_, run_underlying ht, sizeOf, typeInfo, hi, Builtin.lenOf, Builtin.firstCells]

/-- A record's copy. -/
theorem copy_rec (K : Nat → Prop) (r : Rec) (hv : Value) (w : World) (h : HdsR K w hv r.hs) (hl : r.hs.length ≤ 1000) :
    Calls Tryz.prog 99 #[recV r hv] w (RecPost w r) := by
  obtain ⟨i, hi, hz, h1, h2⟩ := info_parts info55
  have hh := h
  obtain ⟨oa, cap, rfl, -⟩ := hh
  unfold recV
  have hf : ∀ cells1 cells2 cells3 : Array Value, Fr (fun _ => False) w (((w.alloc (.cells cells1 79)).alloc (.cells cells2 79)).alloc (.cells cells3 79)) := fun _ _ _ => (((Fr.same w).alloc _).alloc _).alloc _
  cases oa with
  | none =>
    obtain ⟨e0, -⟩ := hds_none h
    have e1 : r.hs.length = 0 := by rw [e0]; rfl
    have happ := fun w => append_none 77 94 i Tryz.underlying77 hi 37 cap w
    have E0 := Lib.hid e0
    have HF := Lib.hid hf
    clear h e0 hf
    rw [e1]
    go_enter Tryz.func99, Tryz.ntmps99
    go_wp2_with fail
    refine bodyPost_ret (v := recV r (.slice none 0 0)) (by simp [results, Tryz.f99, go_sem, recV]) rfl ⟨_, rfl, ?_, ?_⟩
    · rw [E0.out]; exact hds_nil _ _
    · exact HF.out _ _ _
  | some a =>
    obtain ⟨-, hcells⟩ := hds_cells h
    have HC := Lib.hid hcells
    have HF := Lib.hid hf
    clear h hcells hf
    go_enter Tryz.func99, Tryz.ntmps99
    go_wp2_with (at_builtin; refine wpList_append_own2 _ rfl (.tmp 7) (.tmp 9) 77 rfl w.heap.size 94 i _ 2 32 Tryz.underlying77 hi hz h1 h2 rfl (by decide) _ 0 [] rfl (World.ownsRow_nil _ _ _ _) a r.hs.length cap (r.hs.flatMap hdrCells) rfl (flat_len hdrCells 2 hdr_n r.hs) ?c1 (hdr_cells_one r.hs) ?c3 ?c4 (HF.out _ _ _).size ?_)
    case c1 => exact fun j u hj => (HF.out _ _ _).cel (HC.out j u hj)
    case c3 => unfold maxLen; omega
    case c4 => omega
    intro v' w' ho hg hb
    have hfr : Fr (fun _ => False) w w' := (HF.out _ _ _).grown hg fun k hk => .inr (by simp [Value.ownBlock] at hk)
    have hr := hds_of_own ho (by simp)
    have k2 : w'.heap[w.heap.size + 1 + 1]? = some (.cells #[.int .i64 r.at', .int .i64 r.tm, .bool r.bare, .string r.key, .bool r.gone, .string r.val, .slice none 0 0] 79 (0, 0)) :=
      (hg.block _ (by simp) (by simp [Value.ownBlock])).trans (by simpa using heap_alloc_self ((w.alloc _).alloc _) _)
    have k1 : w'.heap[w.heap.size + 1]? = some (.cells #[.int .i64 0, .int .i64 0, .bool false, .string ⟨#[]⟩, .bool false, .string ⟨#[]⟩, .slice none 0 0] 79 (0, 0)) :=
      (hg.block _ (by simp) (by simp [Value.ownBlock])).trans ((heap_alloc_lt _ (by simp)).trans (by simpa using heap_alloc_self (w.alloc _) _))
    have f2 : ∀ j, w'.frozen? ⟨w.heap.size + 1 + 1, j, none⟩ = false := by intro j; simp [World.frozen?, k2]
    have f1 : ∀ j, w'.frozen? ⟨w.heap.size + 1, j, none⟩ = false := by intro j; simp [World.frozen?, k1]
    have d2 : ∀ j, w'.cell? ⟨w.heap.size + 1 + 1, j, none⟩ = (#[.int .i64 r.at', .int .i64 r.tm, .bool r.bare, .string r.key, .bool r.gone, .string r.val, .slice none 0 0] : Array Value)[j]? := by intro j; simp [World.cell?, k2]
    have d1 : ∀ j, w'.cell? ⟨w.heap.size + 1, j, none⟩ = (#[.int .i64 0, .int .i64 0, .bool false, .string ⟨#[]⟩, .bool false, .string ⟨#[]⟩, .slice none 0 0] : Array Value)[j]? := by intro j; simp [World.cell?, k1]
    have HR := Lib.hid hr
    have HF2 := Lib.hid hfr
    have HB := Lib.hid hb
    clear ho hfr hr hb hg k1 k2
    obtain ⟨oa', cap', rfl, -⟩ := HR.out
    go_wp2_with fail
    refine bodyPost_ret (v := recV r (.slice oa' r.hs.length cap')) (by simp [results, Tryz.f99, go_sem, recV, d1]) rfl ⟨_, rfl, ?_, ?_⟩
    · refine (HR.out.fr (S := fun k => k = w.heap.size + 1 ∨ k = w.heap.size + 1 + 1) ?_ ?_).mono fun b hb _ => hb.1
      · repeat' (refine Fr.setCell ?_ (.inl (by simp)) _)
        exact Fr.refl _ _
      · intro k hk
        have h9 := hk.2
        rcases HB.out with h | h
        · rw [h9] at h; simp [Value.ownBlock] at h
        · rw [h9] at h; injection h with h; omega
    · repeat' (refine Fr.setCell ?_ (.inr (by simp; try omega)) _)
      exact HF2.out
set_option maxHeartbeats 4000000 in
/-- A list of records, copied. -/
theorem copy_recs (K : Nat → Prop) (rs : List Rec) (v : Value) (w : World) (h : RecsR K w v rs) (hl : rs.length ≤ 1000) (hs : ∀ r ∈ rs, r.hs.length ≤ 1000) :
    Calls Tryz.prog 64 #[v] w (RecsPost w rs) := by
  obtain ⟨oa, cap, rfl, h⟩ := h
  have H := Lib.hid h
  have HS := Lib.hid hs
  clear h hs
  go_enter Tryz.func64, Tryz.ntmps64
  go_wp2_with fail
  go_loopw [3, 4] (fun o i wr => ∃ k : Nat, i = .int .i64 k ∧ k ≤ rs.length ∧ OwnRecs (fun b => w.heap.size ≤ b) w.heap.size wr o (rs.take k) ∧ Fr (fun _ => False) w wr) (fun _ i _ => rs.length - (intOf i).toNat)
  case atStart => exact ⟨0, rfl, Nat.zero_le _, OwnRecs.nil _ _ _, Fr.same _⟩
  case round =>
    obtain ⟨k, rfl, hk, ho, hf⟩ := hrel
    have F := Lib.hid hf
    have O := Lib.hid ho
    clear hf ho
    rcases Nat.lt_or_ge k rs.length with hlt | hge
    · obtain ⟨x, hx⟩ := get_of_lt hlt
      obtain ⟨a, hv, rfl, -, hc, hr⟩ := H.out k x hx
      have hc1 := hc.to (F.out.block _ hc.lt fun h => h)
      obtain ⟨c0, c1, c2, c3, c4, c5, c6⟩ := hc1
      have hb := HS.out x (List.mem_of_getElem? hx)
      have HX := Lib.hid hx
      obtain ⟨ob, ocap, hob⟩ := O.out.slice
      rw [List.length_take_of_le hk] at hob
      subst hob
      clear hx hc
      go_wp2_with fail
      refine (copy_rec K x hv _ (hr.old F.out) hb).mono ?_
      rintro e w2 ⟨hv2, rfl, hr2, hf2⟩
      have ha : ∀ j, (w2.alloc (.cells (recCells x hv2).toArray 79)).cell? ⟨w2.heap.size, j, none⟩ = (recCells x hv2).toArray[j]? := fun j => cell_alloc_new w2 _ 79 j
      have hf3 := hf2.alloc (.cells (recCells x hv2).toArray 79)
      have hr3 := hr2.old ((Fr.same w2).alloc (.cells (recCells x hv2).toArray 79))
      have HA := Lib.hid ha
      have HR := Lib.hid hr3
      have HF := Lib.hid hf3
      clear c0 c1 c2 c3 c4 c5 c6 hr hr2 hf2 ha hr3 hf3
      unfold recV
      go_wp2_with (at_builtin; refine wpList_push_rec _ rfl (.tmp 11) (.tmp 17) rfl (fun b => w.heap.size ≤ b) w.heap.size (.slice ob k ocap) (rs.take k) rfl (O.out.old HF.out) w2.heap.size 1 rfl x hv2 HA.out ?c1 (hds_one HR.out) ?c2 ?c3 ?_)
      case c1 => exact HR.out.mono fun b hb _ => ⟨Nat.le_trans F.out.size hb, fun e => by have := (O.out.lt e).2; omega⟩
      case c2 => rw [List.length_take_of_le hk]; omega
      case c3 => exact Nat.le_trans F.out.size HF.out.size
      intro v4 w4 ho4 hg4 hb4
      have hf4 : Fr (fun _ => False) w w4 := (F.out.tr HF.out).grown hg4 fun k hk => .inr (O.out.lt hk).1
      rw [← take_snoc' HX.out] at ho4
      have F4 := Lib.hid hf4
      have O4 := Lib.hid ho4
      clear hf4 ho4 hg4 hb4
      go_wp2_with fail
      go_roundw
      case rel => exact ⟨k + 1, by go_num, by omega, O4.out, F4.out⟩
      case measure => simp [intOf]; omega
    · go_wp2_with fail
      go_ret
      refine ⟨_, rfl, ?_, F.out⟩
      have := O.out
      rw [List.take_of_length_le hge] at this
      exact this.reads (fun b hb _ => hb) fun b hb _ => hb

set_option maxHeartbeats 4000000 in
/-- A batch's copy. -/
theorem copy_bat (K : Nat → Prop) (b : Bat) (v : Value) (w : World) (h : RecsR K w v b.recs) (hl : b.recs.length ≤ 1000) (hs : ∀ r ∈ b.recs, r.hs.length ≤ 1000) :
    Calls Tryz.prog 24 #[batV b v] w (BatPost w b) := by
  have hh := h
  obtain ⟨oa, cap, rfl, -⟩ := hh
  have H := Lib.hid h
  clear h
  unfold batV
  have hf : ∀ cells1 cells2 cells3 : Array Value, Fr (fun _ => False) w (((w.alloc (.cells cells1 36)).alloc (.cells cells2 36)).alloc (.cells cells3 36)) := fun _ _ _ => (((Fr.same w).alloc _).alloc _).alloc _
  have HF := Lib.hid hf
  clear hf
  go_enter Tryz.func24, Tryz.ntmps24
  go_wp2_with fail
  refine (copy_recs K b.recs _ _ (H.out.old (HF.out _ _ _)) hl hs).mono ?_
  rintro e w' ⟨v', rfl, hr, hg⟩
  have hfr : Fr (fun _ => False) w w' := (HF.out _ _ _).tr hg
  have k2 : w'.heap[w.heap.size + 1 + 1]? = some (.cells #[.int .i64 b.base, .int .i64 b.span, .int .i64 b.prod, .int .i64 b.epoch, .int .i64 b.seq, .slice oa b.recs.length cap] 36 (0, 0)) :=
    (hg.block _ (by simp) (fun h => h)).trans (by simpa using heap_alloc_self ((w.alloc _).alloc _) _)
  have k1 : w'.heap[w.heap.size + 1]? = some (.cells #[.int .i64 0, .int .i64 0, .int .i64 0, .int .i64 0, .int .i64 0, .slice none 0 0] 36 (0, 0)) :=
    (hg.block _ (by simp) (fun h => h)).trans ((heap_alloc_lt _ (by simp)).trans (by simpa using heap_alloc_self (w.alloc _) _))
  have f2 : ∀ j, w'.frozen? ⟨w.heap.size + 1 + 1, j, none⟩ = false := by intro j; simp [World.frozen?, k2]
  have f1 : ∀ j, w'.frozen? ⟨w.heap.size + 1, j, none⟩ = false := by intro j; simp [World.frozen?, k1]
  have d2 : ∀ j, w'.cell? ⟨w.heap.size + 1 + 1, j, none⟩ = (#[.int .i64 b.base, .int .i64 b.span, .int .i64 b.prod, .int .i64 b.epoch, .int .i64 b.seq, .slice oa b.recs.length cap] : Array Value)[j]? := by intro j; simp [World.cell?, k2]
  have d1 : ∀ j, w'.cell? ⟨w.heap.size + 1, j, none⟩ = (#[.int .i64 0, .int .i64 0, .int .i64 0, .int .i64 0, .int .i64 0, .slice none 0 0] : Array Value)[j]? := by intro j; simp [World.cell?, k1]
  have HR := Lib.hid hr
  have HF2 := Lib.hid hfr
  obtain ⟨oa', cap', rfl, -⟩ := HR.out
  clear hr hfr hg k1 k2
  go_wp2_with fail
  refine bodyPost_ret (v := batV b (.slice oa' b.recs.length cap')) (by simp [results, Tryz.f24, go_sem, batV, d1]) rfl ⟨_, rfl, ?_, ?_⟩
  · refine (HR.out.fr (S := fun k => k = w.heap.size + 1 ∨ k = w.heap.size + 1 + 1) ?_ ?_).mono fun b hb _ => ?_
    · repeat' (refine Fr.setCell ?_ (.inl (by simp)) _)
      exact Fr.refl _ _
    · intro k hk
      simp at hk
      omega
    · simp at hb
      omega
  · repeat' (refine Fr.setCell ?_ (.inr (by simp; try omega)) _)
    exact HF2.out
end Go.Proofs.YtdlnafhhkpklmaaGreatDoor

/- The example log: laws and the walk of live. -/
namespace Go.Proofs.YtdlnafhhkpklmaaGreatDoor
open Go.RowKit Go.Fm Go.BigFrame Go.Shelf Go.Maps
set_option linter.unusedVariables false
set_option linter.unusedSimpArgs false
set_option maxRecDepth 100000

section
def kS : ByteArray := ⟨#[107]⟩
def vS : ByteArray := ⟨#[118]⟩
def pS : ByteArray := ⟨#[112]⟩
def simR : Rec := ⟨0, 0, false, kS, false, vS, []⟩
def simB (n : Int) : Bat := ⟨n, 1, -1, -1, -1, [simR]⟩
theorem simR_ok : RecOK simR := by constructor <;> simp [simR, kS, vS, ByteArray.size]
theorem putS_sz {n : Int} (h : zig n < 128) : (putS n).size = 1 := by rw [putS_len, putL_small h]; rfl
theorem simB_body {n : Int} (h0 : 0 ≤ n) (h1 : n < 64) : (bodyS (simB n)).size = 14 := by
  have e : bodyS (simB n) = putS n ++ putS 1 ++ putS (-1) ++ putS (-1) ++ putS (-1) ++ putS 1 ++ (putS 0 ++ putS 0 ++ putS 0 ++ (putS 1 ++ kS) ++ (putS 1 ++ vS) ++ putS 0) := rfl
  rw [e]
  simp only [ByteArray.size_append]
  rw [putS_sz (n := n) (by unfold zig; split <;> omega), putS_sz (n := 1) (by decide), putS_sz (n := -1) (by decide), putS_sz (n := 0) (by decide)]
  rfl
theorem simB_sz {n : Int} (h0 : 0 ≤ n) (h1 : n < 64) : bsz (simB n) = 22 := by
  unfold bsz
  rw [batS_size, simB_body h0 h1]
theorem simB_ok {n : Int} (h0 : 0 ≤ n) (h1 : n < 64) : BatOK (simB n) := by
  have hb := simB_body h0 h1
  refine { base0 := h0, base1 := by show n ≤ _; omega, span0 := by show (1 : Int) ≤ 1; omega, span1 := by show (1 : Int) ≤ 50; omega, who := .inl ⟨rfl, rfl, rfl⟩, len := by simp [simB], recs := fun k r hk => ?_, body := by omega }
  cases k with
  | zero =>
    simp [simB] at hk
    subst hk
    exact ⟨simR_ok, by show (0 : Int) < 1; omega, by show (-1 : Int) < 0; omega⟩
  | succ k => simp [simB] at hk
def SimPost (w : World) (e : Ending) (w' : World) : Prop := ∃ rv, e = .returned (batV (simB 0) rv) ∧ RecsR (fun b => w.heap.size ≤ b) w' rv (simB 0).recs ∧ Fr (fun _ => False) w w'
theorem simple_walk (w : World) : Calls Tryz.prog 37 #[] w (SimPost w) := by
  go_enter Tryz.func37, Tryz.ntmps37
  go_wp2_with fail
  refine bodyPost_ret (v := batV (simB 0) (.slice (some ⟨w.heap.size + 1, 0, none⟩) 1 1)) (by simp [results, Tryz.f37, go_sem, batV, simB]) rfl ⟨_, rfl, ?_, ((Fr.same w).alloc _).alloc _⟩
  have hs : (w.alloc (.cells #[.int .i64 0, .int .i64 1, .int .i64 (-1), .int .i64 (-1), .int .i64 (-1), .slice (some ⟨w.heap.size + 1, 0, none⟩) 1 1] 36)).heap.size = w.heap.size + 1 := by simp
  generalize (w.alloc (.cells #[.int .i64 0, .int .i64 1, .int .i64 (-1), .int .i64 (-1), .int .i64 (-1), .slice (some ⟨w.heap.size + 1, 0, none⟩) 1 1] 36)) = W at hs ⊢
  refine ⟨_, _, rfl, fun k r hk => ?_⟩
  cases k with
  | zero =>
    simp [simB] at hk
    subst hk
    have hc := cell_alloc_new W #[.int .i64 0, .int .i64 0, .bool false, .string kS, .bool false, .string vS, .slice none 0 0] 79
    rw [hs] at hc
    exact ⟨⟨w.heap.size + 1, 0, none⟩, .slice none 0 0, rfl, Nat.le_succ _, ⟨hc 0, hc 1, hc 2, hc 3, hc 4, hc 5, hc 6⟩, hds_nil _ _⟩
  | succ k => simp [simB] at hk
theorem ssEnd_app (lim ev : Nat) (beg : Int) (ss : List Seg) (b : Bat) : ssEnd beg (appS lim ev beg ss b) = b.base + b.span := by
  unfold appS
  cases e : ss.getLast? with
  | none => rfl
  | some s =>
    dsimp only
    split
    · unfold ssEnd; rw [List.getLast?_concat]; rfl
    · unfold ssEnd
      rw [List.getLast?_concat]
      exact Seg.end_push s b
def exS : Nat → List Seg
  | 0 => []
  | k + 1 => appS 50 10 0 (exS k) (simB k)
theorem exS_end : ∀ k, ssEnd 0 (exS k) = k
  | 0 => rfl
  | k + 1 => by
    have h : ∀ (ss : List Seg) (b : Bat), ssEnd 0 (appS 50 10 0 ss b) = b.base + b.span := fun ss b => by
      unfold appS
      cases e : ss.getLast? with
      | none => rfl
      | some s =>
        dsimp only
        split
        · unfold ssEnd; rw [List.getLast?_concat]; rfl
        · unfold ssEnd
          rw [List.getLast?_concat]
          exact Seg.end_push s b
    rw [exS, h]
    rfl
theorem sum1 (a : Int) : sumB [simB a] = bsz (simB a) := by simp [sumB]
theorem exS7 : exS 7 = [⟨0, 10, [simB 0, simB 1, simB 2]⟩, ⟨3, 10, [simB 3, simB 4, simB 5]⟩, ⟨6, 10, [simB 6]⟩] := by
  have s0 := simB_sz (n := 0) (by omega) (by omega)
  have s1 := simB_sz (n := 1) (by omega) (by omega)
  have s2 := simB_sz (n := 2) (by omega) (by omega)
  have s3 := simB_sz (n := 3) (by omega) (by omega)
  have s4 := simB_sz (n := 4) (by omega) (by omega)
  have s5 := simB_sz (n := 5) (by omega) (by omega)
  have e1 : exS 1 = [⟨0, 10, [simB 0]⟩] := rfl
  have e2 : exS 2 = [⟨0, 10, [simB 0, simB 1]⟩] := by rw [exS, e1]; simp [appS, sumB, s0, Seg.push]
  have e3 : exS 3 = [⟨0, 10, [simB 0, simB 1, simB 2]⟩] := by rw [exS, e2]; simp [appS, sumB, s0, s1, Seg.push]
  have h3 : 50 ≤ sumB [simB 0, simB 1, simB 2] := by simp [sumB, s0, s1, s2]
  have h6 : 50 ≤ sumB [simB 3, simB 4, simB 5] := by simp [sumB, s3, s4, s5]
  have e4 : exS 4 = [⟨0, 10, [simB 0, simB 1, simB 2]⟩, ⟨3, 10, [simB 3]⟩] := by
    rw [exS, e3]
    unfold appS
    simp only [List.getLast?_singleton]
    rw [if_pos h3]
    rfl
  have e5 : exS 5 = [⟨0, 10, [simB 0, simB 1, simB 2]⟩, ⟨3, 10, [simB 3, simB 4]⟩] := by rw [exS, e4]; simp [appS, sumB, s3, Seg.push]
  have e6 : exS 6 = [⟨0, 10, [simB 0, simB 1, simB 2]⟩, ⟨3, 10, [simB 3, simB 4, simB 5]⟩] := by rw [exS, e5]; simp [appS, sumB, s3, s4, Seg.push]
  rw [exS, e6]
  unfold appS
  simp only [List.getLast?_cons_cons, List.getLast?_singleton]
  rw [if_pos h6]
  rfl
theorem ex_ret {b : Int} {s : List Seg} (h : Ret 50 0 (exS 7) b s) : b = 6 ∧ s = [⟨6, 10, [simB 6]⟩] := by
  have s0 := simB_sz (n := 0) (by omega) (by omega)
  have s1 := simB_sz (n := 1) (by omega) (by omega)
  have s2 := simB_sz (n := 2) (by omega) (by omega)
  have s3 := simB_sz (n := 3) (by omega) (by omega)
  have s4 := simB_sz (n := 4) (by omega) (by omega)
  have s5 := simB_sz (n := 5) (by omega) (by omega)
  have s6 := simB_sz (n := 6) (by omega) (by omega)
  rw [exS7] at h
  cases h with
  | stop h => simp [sizeS, sumB, s0, s1, s2, s3, s4, s5, s6] at h
  | step h hr =>
    have e1 : List.drop (trimN (max ((3 : Nat) : Int) 0) [⟨0, 10, [simB 0, simB 1, simB 2]⟩, ⟨3, 10, [simB 3, simB 4, simB 5]⟩, ⟨6, 10, [simB 6]⟩]) [(⟨0, 10, [simB 0, simB 1, simB 2]⟩ : Seg), ⟨3, 10, [simB 3, simB 4, simB 5]⟩, ⟨6, 10, [simB 6]⟩] = [⟨3, 10, [simB 3, simB 4, simB 5]⟩, ⟨6, 10, [simB 6]⟩] := by
      rw [show max ((3 : Nat) : Int) 0 = 3 from by decide, trimN, if_pos (show (⟨0, 10, [simB 0, simB 1, simB 2]⟩ : Seg).end' ≤ 3 from (by show (2 : Int) + 1 ≤ 3; omega)), trimN, if_neg (show ¬ (⟨3, 10, [simB 3, simB 4, simB 5]⟩ : Seg).end' ≤ 3 from (by show ¬ (5 : Int) + 1 ≤ 3; omega))]
      rfl
    rw [e1] at hr
    cases hr with
    | stop h => simp [sizeS, sumB, s3, s4, s5, s6] at h
    | step h hr =>
      have e2 : List.drop (trimN (max ((6 : Nat) : Int) (max ((3 : Nat) : Int) 0)) [⟨3, 10, [simB 3, simB 4, simB 5]⟩, ⟨6, 10, [simB 6]⟩]) [(⟨3, 10, [simB 3, simB 4, simB 5]⟩ : Seg), ⟨6, 10, [simB 6]⟩] = [⟨6, 10, [simB 6]⟩] := by
        rw [show max ((6 : Nat) : Int) (max ((3 : Nat) : Int) 0) = 6 from by decide, trimN, if_pos (show (⟨3, 10, [simB 3, simB 4, simB 5]⟩ : Seg).end' ≤ 6 from (by show (5 : Int) + 1 ≤ 6; omega)), trimN]
        · rfl
        · intro a b r e; cases e
      rw [e2] at hr
      cases hr with
      | stop h => exact ⟨by show max (((6 : Nat) : Int)) (max ((3 : Nat) : Int) 0) = 6; omega, rfl⟩
end
section
variable {B : Nat} {w w' w1 w2 : World} {lb db mb : Nat} {p : ByteArray} {lim ev : Nat} {beg : Int} {es : List PE} {own : Bool} {L L' : List Row} {S S' : Nat → Prop} {room used fuse : Int} {F F' : ByteArray → ByteArray × Nat} {n : Nat}
theorem popen_none (w : World) (db : Nat) : Calls Tryz.prog 11 #[.pointer (some ⟨db, 0, none⟩), cfgV ⟨#[]⟩ 0 0] w fun e w' => e = .returned (.tuple #[.pointer none, .int .i64 1]) ∧ Fr (fun _ => False) w w' := by
  have hmy := may_none (w.alloc (.cells #[.string ⟨#[]⟩, .int .i64 0, .int .i64 0] 32))
  unfold cfgV at hmy ⊢
  have HMY := Lib.hid hmy
  clear hmy
  go_enter Tryz.func11, Tryz.ntmps11
  go_wp2_with fail
  refine HMY.out.mono ?_
  rintro e w1 ⟨rfl, hf⟩
  have F1 := Lib.hid (((Fr.same w).alloc (.cells #[.string ⟨#[]⟩, .int .i64 0, .int .i64 0] 32)).tr hf)
  clear hf
  go_wp2_with fail
  go_ret2
  exact ⟨rfl, F1.out⟩
theorem LogD.none (h : LogD B w lb db mb p lim ev beg es own L S room used fuse F n) (hL : ∀ i, DkS db mb L i → i = db ∨ i = mb) : L = [] := by
  cases L with
  | nil => rfl
  | cons r L =>
    have h1 := h.dk.ne_file (r := r) List.mem_cons_self
    rcases hL r.2 (.inr (.inr ⟨r, List.mem_cons_self, rfl⟩)) with h2 | h2
    · exact absurd h2 h1.1
    · exact absurd h2 h1.2
/-- A log that is opened on a disk without files. -/
def NewLog (B : Nat) (w : World) (db mb : Nat) (p : ByteArray) (lim ev : Nat) (room : Int) (e : Ending) (w' : World) : Prop :=
  ∃ (lb : Nat) (S' : Nat → Prop) (F' : ByteArray → ByteArray × Nat), e = .returned (.tuple #[.pointer (some ⟨lb, 0, none⟩), .int .i64 0]) ∧ LogD B w' lb db mb p lim ev 0 [] true [] S' room 0 (-1) F' 0 ∧ (∀ i, S' i → w.heap.size ≤ i) ∧ Fr (fun i => i = db ∨ i = mb) w w'
theorem popen_new (h : DkN w db mb room 0 [] F) (hrm : room ≤ 4194304) (hB1 : 1 ≤ B) (hdb : B ≤ db) (hmb : B ≤ mb) (p1 : 1 ≤ p.size) (p2 : p.size ≤ 20) (l1 : 50 ≤ lim) (l2 : lim ≤ 1000000) (e1 : 1 ≤ ev) (e2 : ev ≤ 1000000) (hst : StepsOK w) :
    Calls Tryz.prog 11 #[.pointer (some ⟨db, 0, none⟩), cfgV p lim ev] w (NewLog B w db mb p lim ev room) := by
  have hD : ∀ i, DkS db mb [] i → i = db ∨ i = mb := fun i hi => hi.imp id fun h => h.elim id fun ⟨r, hr, _⟩ => (by cases hr)
  refine (popen_walk (B := B) (ts := []) (beg := 0) (n := 0) ⟨h, hrm, ⟨fun nm h1 => (by cases h1), fun t ht => (by cases ht), fun t ht => (by cases ht), .nil, fun t ht => (by cases ht), fun t ht => (by cases ht), fun t ht => (by cases ht), fun t ht => (by cases ht)⟩, .inl ⟨rfl, rfl⟩, Int.le_refl _, by omega, Int.le_refl _, fun i hi => by
    rcases hD i hi with rfl | rfl <;> assumption, hB1, Nat.le_refl _, Nat.le_refl _, Nat.le_refl _, by omega, p1, p2, l1, l2, e1, e2, hst⟩).mono ?_
  rintro e w1 ⟨lb, j, es, own', L', S', used', F', rfl, hL, hsg, hj, how, hls, hot, hS, hDk, hf⟩
  obtain rfl : es = [] := by
    unfold segsOf at hsg
    simpa using hsg
  obtain rfl : j = 0 := hj
  obtain rfl := how rfl
  obtain rfl := hL.none fun i hi => hD i (hDk i hi)
  obtain rfl : used' = 0 := hL.us
  exact ⟨lb, S', F', rfl, hL, hS, hf.mono fun i hi => .inl (hD i hi)⟩
theorem ssEnd_segs (beg : Int) (es : List PE) : lgEnd beg es = ssEnd beg (segsOf es) := (ssEnd_map beg es).symm
/-- One of the example's batches more. -/
theorem sim_append {k : Nat} (D : LogD B w lb db mb p 50 10 0 es true L S 10000 used (-1) F n) (hsg : segsOf es = exS k) (hu : used = 22 * k) (hk : k < 60) (hn : n < 600) (hst : StepsOK w) (K : Nat → Prop) (hK : ∀ k, K k → ¬ S k ∧ ¬ DkS db mb L k) (v : Value) (hr : RecsR K w v (simB 0).recs) :
    Calls Tryz.prog 13 #[.pointer (some ⟨lb, 0, none⟩), batV (simB 0) v, .bool false] w fun e w' => e = .returned (.tuple #[.int .i64 k, .int .i64 0]) ∧ ∃ es' L' S' F', LogD B w' lb db mb p 50 10 0 es' true L' S' 10000 (22 * ((k + 1 : Nat) : Int)) (-1) F' (n + 2) ∧ segsOf es' = exS (k + 1) ∧ Foot db mb w w' S L S' L' ∧ Fr (fun i => S i ∨ DkS db mb L i) w w' := by
  have hE : lgEnd 0 es = k := by rw [ssEnd_segs, hsg, exS_end]
  have hla := lapp D (by omega) hst K hK (simB 0) v hr false
  rw [hE] at hla
  refine hla.mono ?_
  rintro e w1 ⟨c, a, es', L', S', us', fu', F', rfl, hD, hot, hsf, hfo, hfr, ha, -, hca, -, -, hfu, -⟩
  have hb : BatOK (baseB (simB 0) k) := simB_ok (n := (k : Int)) (by omega) (by omega)
  have hsz : bsz (baseB (simB 0) k) = 22 := simB_sz (n := (k : Int)) (by omega) (by omega)
  obtain ⟨rfl, hc⟩ := hfu rfl
  obtain rfl := hc hb (by rw [hsz]; omega)
  obtain rfl := hca rfl
  obtain ⟨h1, h2⟩ := ha rfl
  rw [hsz] at h2
  refine ⟨rfl, es', L', S', F', ?_, ?_, hfo, hfr⟩
  · have h3 : us' = 22 * ((k + 1 : Nat) : Int) := by rw [h2, hu]; omega
    rw [← h3]
    exact hD
  · rw [h1, hsg]
    rfl
set_option maxHeartbeats 16000000 in
theorem plive_walk (w : World) (hst : StepsOK w) (hw0 : 1 ≤ w.heap.size) : Calls Tryz.prog 9 #[] w fun e w' => e = .returned (.bool true) ∧ Fr (fun _ => False) w w' := by
  have HST := Lib.hid hst
  have hpn := popen_none
  unfold cfgV at hpn
  have HPN := Lib.hid hpn
  clear hst hpn
  go_enter Tryz.func9, Tryz.ntmps9
  go_wp2_with fail
  refine (dnew_walk 10000 (fun _ => (ByteArray.empty, 0)) _ (by omega) (by omega)).mono ?_
  rintro e w1 ⟨db, mb, rfl, hdk, hf1, hdb, hmb⟩
  have hdn : DkN w1 db mb 10000 0 [] (fun _ => (ByteArray.empty, 0)) := ⟨hdk, ⟨Int.le_refl _, by omega, by decide, fun r hr => (by cases hr)⟩, rfl, by omega⟩
  have hpo := popen_new (B := w.heap.size) (p := pS) (lim := 50) (ev := 10) hdn (by omega) hw0 hdb hmb (by decide) (by decide) (by omega) (by omega) (by omega) (by omega) (HST.out.old hf1)
  unfold cfgV at hpo
  have HPO := Lib.hid hpo
  have F1 := Lib.hid hf1
  have HB := Lib.hid (And.intro hdb hmb)
  clear hdk hf1 hdb hmb hdn hpo
  go_wp2_with fail
  refine HPO.out.mono ?_
  rintro e w2 ⟨lb, S2, F2, rfl, hD, hS, hf2⟩
  have D2 := Lib.hid hD
  have F2' := Lib.hid (show Fr (fun _ => False) w w2 from F1.out.trans hf2 fun i hi => .inr (by have := HB.out; rcases hi with rfl | rfl <;> omega))
  clear hD hS hf2 HPO
  go_wp2_with fail
  refine (HPN.out w2 db).mono ?_
  rintro e w3 ⟨rfl, hf3⟩
  have D3 := Lib.hid (D2.out.old hf3)
  have F3 := Lib.hid (F2'.out.tr hf3)
  clear hf3 HPN
  go_wp2_with fail
  go_loopw [7] (fun i wr => ∃ (k : Nat) (es : List PE) (L : List Row) (S : Nat → Prop) (F : ByteArray → ByteArray × Nat), i = .int .i64 k ∧ k ≤ 7 ∧ LogD w.heap.size wr lb db mb pS 50 10 0 es true L S 10000 (22 * (k : Int)) (-1) F (2 * k) ∧ segsOf es = exS k ∧ Fr (fun _ => False) w wr) (fun i _ => 7 - (intOf i).toNat)
  case atStart => exact ⟨0, [], [], S2, F2, rfl, by omega, D3.out, rfl, F3.out⟩
  case round =>
    obtain ⟨k, es, L, S, F, rfl, hk, hD, hsg, hf⟩ := hrel
    have D := Lib.hid hD
    have SG := Lib.hid hsg
    have FF := Lib.hid hf
    clear hD hsg hf D3 F3
    rcases Nat.lt_or_ge k 7 with hlt | hge
    · have hki : (k : Int) < 7 := by omega
      go_wp2_with fail
      refine (simple_walk _).mono ?_
      rintro e w4 ⟨rv, rfl, hrv, hf4⟩
      have hap := sim_append (D.out.old hf4) SG.out rfl (by omega) (by omega) (HST.out.old (FF.out.tr hf4)) _ (fun i hi => ⟨fun h => by have := (D.out.lt (.inl h)).2; omega, fun h => by have := D.out.dk.lt h; omega⟩) rv hrv
      have HAP := Lib.hid hap
      have F4 := Lib.hid (FF.out.tr hf4)
      have HW4 := Lib.hid hf4.size
      clear hap hf4 hrv
      unfold batV simB at HAP
      unfold batV simB
      go_wp2_with fail
      refine HAP.out.mono ?_
      rintro e w5 ⟨rfl, es', L', S', F', hD5, hsg5, hfo, hfr5⟩
      have D5 := Lib.hid hD5
      have SG5 := Lib.hid hsg5
      have F5 := Lib.hid (F4.out.trans hfr5 fun i hi => .inr (D.out.lt hi).1)
      clear hD5 hsg5 hfo hfr5 HAP
      go_wp2_with fail
      go_roundw
      case rel => exact ⟨k + 1, es', L', S', F', by go_num, hlt, D5.out, SG5.out, F5.out⟩
      case measure => simp [intOf]; omega
    · obtain rfl : k = 7 := by omega
      have hel : es.length = 3 := by
        have h1 := congrArg List.length SG.out
        rw [exS7] at h1
        unfold segsOf at h1
        rw [List.length_map] at h1
        exact h1
      have hE : lgEnd 0 es = 7 := by rw [ssEnd_segs, SG.out, exS_end]; rfl
      have HRE := Lib.hid (lretain_walk (most := 50) D.out (by omega) (by omega) (by omega) (by omega))
      have HEL := Lib.hid hel
      have HE := Lib.hid hE
      clear hel hE
      go_wp2_with fail
      refine HRE.out.mono ?_
      rintro e w5 ⟨j, beg', own', L5, S5, u5, F5, rfl, hM, fin⟩
      have hret := hM.rt _ _ (Ret.stop (by
        rcases fin with h | h
        · left
          unfold segsOf
          rw [List.length_map]
          exact h
        · right
          rw [← lgSize_segs]
          exact h))
      rw [SG.out] at hret
      obtain ⟨rfl, hs6⟩ := ex_ret hret
      have hl6 := congrArg List.length hs6
      unfold segsOf at hl6
      rw [List.length_map, List.length_drop, HEL.out] at hl6
      have hj : j = 2 := by
        have h1 : 3 - j = 1 := hl6
        omega
      have D5 := Lib.hid hM.d
      have SG5 := Lib.hid hs6
      have HU5 := Lib.hid (show u5 ≤ 22 * ((7 : Nat) : Int) + 8 * (j : Int) from hM.us)
      have F5' := Lib.hid (FF.out.trans hM.fr fun i hi => .inr (D.out.lt hi).1)
      have EN5 := Lib.hid (hM.en.trans HE.out)
      have HR1 := Lib.hid (lread_walk hM.d (HST.out.old F5'.out) 0 9)
      subst hj
      clear hM fin hret hs6 hl6 HRE D SG FF HE
      go_wp2_with fail
      refine HR1.out.mono ?_
      rintro e w6 hp
      have hp' : e = .returned (.tuple #[.slice none 0 0, .int .i64 12]) ∧ Fr (fun _ => False) w5 w6 := by
        rcases hp with ⟨-, h⟩ | ⟨h, -⟩
        · exact h
        · omega
      obtain ⟨rfl, hf6⟩ := hp'
      have D6 := Lib.hid (D5.out.old hf6)
      have F6 := Lib.hid (F5'.out.tr hf6)
      have HR2 := Lib.hid (lread_walk (D5.out.old hf6) (HST.out.old (F5'.out.tr hf6)) 6 9)
      clear hp hf6 HR1 D5 F5'
      go_wp2_with fail
      refine HR2.out.mono ?_
      rintro e w7 hp
      have hcat : catE (es.drop 2) = [simB 6] := by unfold catE; rw [SG5.out]; rfl
      have hp' : ∃ oa cap, e = .returned (.tuple #[.slice oa 1 cap, .int .i64 0]) ∧ Fr (fun _ => False) w6 w7 := by
        rcases hp with ⟨h, -⟩ | ⟨-, -, v, rfl, hv, -, hf⟩
        · rw [EN5.out] at h; omega
        · have h9 : pick 6 9 (catE (es.drop 2)) 0 [] = [simB 6] := by
            rw [hcat, pick, if_neg (show ¬ (simB 6).base + (simB 6).span ≤ 6 from (by show ¬ (6 : Int) + 1 ≤ 6; omega)), if_neg (by simp), pick]
            rfl
          rw [h9] at hv
          obtain ⟨oa, cap, rfl, -⟩ := hv
          exact ⟨oa, cap, rfl, hf⟩
      obtain ⟨oa, cap, rfl, hf7⟩ := hp'
      have D7 := Lib.hid (D6.out.old hf7)
      have F7 := Lib.hid (F6.out.tr hf7)
      have HS := Lib.hid (lstart_walk D7.out.lg)
      clear hp hf7 hcat HR2 D6 F6
      go_wp2_with fail
      refine HS.out.mono ?_
      rintro e w8 ⟨rfl, hf8⟩
      have D8 := Lib.hid (D7.out.old hf8)
      have F8 := Lib.hid (F7.out.tr hf8)
      have hen := lend_walk D8.out.lg
      rw [EN5.out] at hen
      have HEN := Lib.hid hen
      clear hf8 HS D7 F7 hen
      go_wp2_with fail
      refine HEN.out.mono ?_
      rintro e w9 ⟨rfl, hf9⟩
      have D9 := Lib.hid (D8.out.old hf9)
      have F9 := Lib.hid (F8.out.tr hf9)
      have hu5 : u5 + 8 ≤ 10000 := by have := HU5.out; omega
      have hav := ladvance_walk (at' := 8) D9.out hu5 (by omega) (by rw [EN5.out]; omega)
      have HAV := Lib.hid hav
      clear hf9 HEN D8 F8 hav hu5
      go_wp2_with fail
      refine HAV.out.mono ?_
      rintro e w10 hp
      have hp' : e = .returned (.int .i64 12) ∧ Fr (fun _ => False) w9 w10 := by
        rcases hp with ⟨-, h⟩ | ⟨-, h, -⟩
        · exact h
        · rw [EN5.out] at h; omega
      obtain ⟨rfl, hf10⟩ := hp'
      have F10 := Lib.hid (F9.out.tr hf10)
      clear hp hf10 HAV D9 F9
      go_wp2_with fail
      go_ret
      exact ⟨rfl, F10.out⟩
end
end Go.Proofs.YtdlnafhhkpklmaaGreatDoor

/- PlogRetains: the walk. -/
namespace Go.Proofs.YtdlnafhhkpklmaaGreatDoor
open Go.RowKit Go.Fm Go.BigFrame Go.Shelf Go.Maps
set_option linter.unusedVariables false
set_option linter.unusedSimpArgs false
set_option maxRecDepth 100000

section
variable {B : Nat} {w w' w1 w2 : World} {lb db mb : Nat} {p : ByteArray} {lim ev : Nat} {beg : Int} {es : List PE} {own : Bool} {L L' : List Row} {S S' : Nat → Prop} {room used fuse : Int} {F F' : ByteArray → ByteArray × Nat} {n : Nat}
theorem LogD.end_le (h : LogD B w lb db mb p lim ev beg es own L S room used fuse F n) : lgEnd beg es ≤ 1099511627826 := by
  unfold lgEnd
  cases e : es.getLast? with
  | none =>
    obtain ⟨sv, G, hV, -⟩ := h.lg
    exact hV.b1
  | some x =>
    have hx : x.s ∈ segsOf es := List.mem_map.2 ⟨x, List.mem_of_getLast? e, rfl⟩
    have h1 := h.fl.bb x.s hx
    exact (h.chn hx).end_le (by omega)
/-- A new disk and a new log on it. -/
theorem dnew_n (room : Int) (w : World) (h1 : 1 ≤ room) (h2 : room ≤ 4194304) : Calls Tryz.prog 10 #[.int .i64 room] w fun e w' => ∃ db mb, e = .returned (.tuple #[.pointer (some ⟨db, 0, none⟩), .int .i64 0]) ∧ DkN w' db mb room 0 [] (fun _ => (ByteArray.empty, 0)) ∧ w.heap.size ≤ db ∧ w.heap.size ≤ mb ∧ Fr (fun _ => False) w w' := by
  refine (dnew_walk room (fun _ => (ByteArray.empty, 0)) w h1 h2).mono ?_
  rintro e w1 ⟨db, mb, rfl, hdk, hf1, hdb, hmb⟩
  exact ⟨db, mb, rfl, ⟨hdk, ⟨Int.le_refl _, by omega, by decide, fun r hr => (by cases hr)⟩, rfl, by omega⟩, hdb, hmb, hf1⟩
theorem LogD.cat_ok (h : LogD B w lb db mb p lim ev beg es own L S room used fuse F n) : ∀ b ∈ catE es, BatOK b := fun b hb => by
  unfold catE catL at hb
  obtain ⟨s, hs, hb⟩ := List.mem_flatMap.1 hb
  exact ((h.chn hs).ok b hb).1
open Classical in
/-- One batch of the caller's more, whether it fits or not. -/
theorem any_append {k : Nat} {b : Bat} (D : LogD B w lb db mb p lim ev 0 es true L S room used (-1) F (2 * k)) (hu : used ≤ 16068 * k) (hk : k < 20) (hroom : 400000 ≤ room) (hsm : SmallB b) (hst : StepsOK w) (K : Nat → Prop) (hK : ∀ k, K k → ¬ S k ∧ ¬ DkS db mb L k) (v : Value) (hr : RecsR K w v b.recs) (sy : Bool) :
    Calls Tryz.prog 13 #[.pointer (some ⟨lb, 0, none⟩), batV b v, .bool sy] w fun e w' => ∃ es' L' S' F' used', e = .returned (.tuple #[.int .i64 (if BatOK (baseB b (lgEnd 0 es)) then lgEnd 0 es else 0), .int .i64 (if BatOK (baseB b (lgEnd 0 es)) then 0 else 1)]) ∧ LogD B w' lb db mb p lim ev 0 es' true L' S' room used' (-1) F' (2 * (k + 1)) ∧ used' ≤ 16068 * ((k + 1 : Nat) : Int) ∧
      catE es' = catE es ++ (if BatOK (baseB b (lgEnd 0 es)) then [baseB b (lgEnd 0 es)] else []) ∧ sumB (catE es') ≤ sumB (catE es) + 16068 ∧ (lgEnd 0 es ≤ lgEnd 0 es' ∧ lgEnd 0 es' ≤ lgEnd 0 es + 50) ∧ ((∀ s ∈ segsOf es, s.l ≠ []) → ∀ s ∈ segsOf es', s.l ≠ []) ∧ Others p L F L' F' ∧ Foot db mb w w' S L S' L' ∧ Fr (fun i => S i ∨ DkS db mb L i) w w' := by
  refine (lapp D (by omega) hst K hK b v hr sy).mono ?_
  rintro e w1 ⟨c, a, es', L', S', us', fu', F', rfl, hD, hot, hsf, hfo, hfr, ha, hna, hca, -, hno, hfu, -⟩
  obtain ⟨rfl, hc⟩ := hfu rfl
  by_cases hb : BatOK (baseB b (lgEnd 0 es))
  · have hsz : bsz (baseB b (lgEnd 0 es)) ≤ 16068 := bsz_small hb (hsm.recs_eq rfl)
    obtain rfl := hc hb (by omega)
    obtain rfl := hca rfl
    obtain ⟨h1, h2⟩ := ha rfl
    have hcat : catE es' = catE es ++ [baseB b (lgEnd 0 es)] := by
      unfold catE
      rw [h1, catL_app]
    refine ⟨es', L', S', F', us', by rw [if_pos hb, if_pos hb]; rfl, hD, by omega, by rw [if_pos hb]; exact hcat, by rw [hcat, sumB_snoc]; omega, by
      have h8 : lgEnd 0 es' = lgEnd 0 es + b.span := by rw [ssEnd_segs 0 es', h1, ssEnd_app]; rfl
      have h9 := hb.span0
      have h10 := hb.span1
      have h11 : (baseB b (lgEnd 0 es)).span = b.span := rfl
      omega, fun hne => ?_, hot, hfo, hfr⟩
    rw [h1]
    intro s hs
    unfold appS at hs
    cases e : (segsOf es).getLast? with
    | none =>
      rw [e] at hs
      obtain rfl : s = _ := by simpa using hs
      simp
    | some y =>
      rw [e] at hs
      dsimp only at hs
      split at hs
      · rcases List.mem_append.1 hs with hs | hs
        · exact hne s hs
        · obtain rfl : s = _ := by simpa using hs
          simp
      · rcases List.mem_append.1 hs with hs | hs
        · exact hne s ((List.dropLast_sublist _).subset hs)
        · obtain rfl : s = _ := by simpa using hs
          simp [Seg.push]
  · obtain ⟨rfl, hse⟩ := hno hb
    have ha0 : a = false := by
      cases a with
      | false => rfl
      | true =>
        obtain ⟨h1, -⟩ := ha rfl
        refine absurd (hD.cat_ok _ ?_) hb
        unfold catE
        rw [h1, catL_app]
        simp
    subst ha0
    obtain ⟨h1, h2, h3⟩ := hna rfl
    refine ⟨es', L', S', F', us', by rw [if_neg hb, if_neg hb]; rfl, hD, by omega, by rw [if_neg hb, List.append_nil]; exact h1, by unfold catE; rw [hse]; omega, by rw [ssEnd_segs 0 es', hse, ← ssEnd_segs]; omega, by rw [hse]; exact fun h => h, hot, hfo, hfr⟩
set_option maxHeartbeats 16000000 in
theorem retains_walk (l : List Bat) (v : Value) (most : Int) (w : World) (hl : BatsR (fun _ => True) w v l) (hst : StepsOK w) (hw0 : 1 ≤ w.heap.size) :
    Calls Tryz.prog 3 #[v, .int .i64 most] w fun e w' => e = .returned (.bool true) ∧ Fr (fun _ => False) w w' := by
  have hl2 := hl.mono (K' := fun b => b < w.heap.size) fun b _ h => h
  clear hl
  obtain ⟨oa, cap, rfl, hl3⟩ := hl2
  have HL := Lib.hid hl3
  have HST := Lib.hid hst
  clear hl3 hst
  by_cases hbad : 8 < l.length ∨ most < 0
  · have h3 : 8 < l.length ∨ (l.length ≤ 8 ∧ most < 0) := by omega
    clear hbad
    rcases h3 with h8 | ⟨h7, h8⟩
    all_goals
      go_enter Tryz.func3, Tryz.ntmps3
      go_wp2_with fail
      refine (plive_walk w HST.out hw0).mono ?_
      rintro e w4 ⟨rfl, hf4⟩
      have F4 := Lib.hid hf4
      clear hf4
      go_wp2_with fail
      go_ret
      exact ⟨rfl, F4.out⟩
  · have hlen : l.length ≤ 8 := by omega
    have hm0 : 0 ≤ most := by omega
    have hm0' : ¬ most < 0 := by omega
    clear hbad
    go_enter Tryz.func3, Tryz.ntmps3
    go_wp2_with fail
    refine (dnew_n 400000 w (by omega) (by omega)).mono ?_
    rintro e w1 ⟨db, mb, rfl, hdn, hdb, hmb, hf1⟩
    have hpo := popen_new (B := w.heap.size) (p := pS) (lim := 60) (ev := 20) hdn (by omega) hw0 hdb hmb (by decide) (by decide) (by omega) (by omega) (by omega) (by omega) (HST.out.old hf1)
    unfold cfgV at hpo
    have HPO := Lib.hid hpo
    have F1 := Lib.hid hf1
    have HB := Lib.hid (And.intro hdb hmb)
    clear hf1 hdb hmb hdn hpo hm0'
    go_wp2_with fail
    refine HPO.out.mono ?_
    rintro e w2 ⟨lb, S2, F2, rfl, hD, hS, hf2⟩
    have D2 := Lib.hid hD
    have F2' := Lib.hid (show Fr (fun _ => False) w w2 from F1.out.trans hf2 fun i hi => .inr (by have := HB.out; rcases hi with rfl | rfl <;> omega))
    clear hD hS hf2 HPO
    go_wp2_with fail
    go_loopw [9] (fun i wr => ∃ (k : Nat) (es : List PE) (L : List Row) (S : Nat → Prop) (F : ByteArray → ByteArray × Nat) (used : Int), i = .int .i64 k ∧ k ≤ l.length ∧ LogD w.heap.size wr lb db mb pS 60 20 0 es true L S 400000 used (-1) F (2 * k) ∧ used ≤ 16068 * k ∧ Fr (fun _ => False) w wr) (fun i _ => l.length - (intOf i).toNat)
    case atStart => exact ⟨0, [], [], S2, F2, 0, rfl, Nat.zero_le _, D2.out, by omega, F2'.out⟩
    case round =>
      obtain ⟨k, es, L, S, F, used, rfl, hk, hD, hu, hf⟩ := hrel
      have D := Lib.hid hD
      have FF := Lib.hid hf
      clear hD hf D2 F2'
      rcases Nat.lt_or_ge k l.length with hlt | hge
      · obtain ⟨b, hb⟩ := get_of_lt hlt
        obtain ⟨A, rv, rfl, hA, hc, hr⟩ := HL.out k b hb
        have hc1 := hc.to (FF.out.block _ hc.lt fun h => h)
        have hr1 := hr.old FF.out
        have hh := hr1
        obtain ⟨ra, rcap, rfl, -⟩ := hh
        have HC1 := Lib.hid hc1
        have HR1 := Lib.hid hr1
        obtain ⟨c0, c1, c2, c3, c4, c5⟩ := hc1
        have HSM := Lib.hid (small_walk _ b _ _ hr1)
        clear hb hc hr hr1
        unfold batV at HSM
        go_wp2_with fail
        refine HSM.out.mono ?_
        rintro e w3 ⟨c, rfl, hsm, hf3⟩
        have D3 := Lib.hid (D.out.old hf3)
        have F3 := Lib.hid (FF.out.tr hf3)
        have HC3 := Lib.hid (HC1.out.to (hf3.block _ HC1.out.lt fun h => h))
        have HR3 := Lib.hid (HR1.out.old hf3)
        clear hf3 HSM c0 c1 c2 c3 c4 c5 HC1 HR1
        cases c with
        | false =>
          clear hsm
          go_wp2_with fail
          refine (plive_walk _ (HST.out.old F3.out) (Nat.le_trans hw0 F3.out.size)).mono ?_
          rintro e w4 ⟨rfl, hf4⟩
          have F4 := Lib.hid (F3.out.tr hf4)
          clear hf4
          go_wp2_with fail
          go_ret
          exact ⟨rfl, F4.out⟩
        | true =>
          have HAP := Lib.hid (any_append D3.out hu (by omega) (by omega) (hsm rfl) (HST.out.old F3.out) _ (fun i hi => ⟨fun h => by have := (D3.out.lt (.inl h)).1; omega, fun h => by have := D3.out.dl i h; omega⟩) _ HR3.out false)
          obtain ⟨c0, c1, c2, c3, c4, c5⟩ := HC3.out
          unfold batV at HAP
          clear hsm
          go_wp2_with fail
          refine HAP.out.mono ?_
          rintro e w5 ⟨es', L', S', F', used', rfl, hD5, hu5, -, -, -, -, -, -, hfr5⟩
          have D5 := Lib.hid hD5
          have HU5 := Lib.hid hu5
          have F5 := Lib.hid (F3.out.trans hfr5 fun i hi => .inr (D3.out.lt hi).1)
          clear hD5 hu5 hfr5 HAP c0 c1 c2 c3 c4 c5
          go_wp2_with fail
          go_roundw
          case rel => exact ⟨k + 1, es', L', S', F', used', by go_num, hlt, D5.out, HU5.out, F5.out⟩
          case measure => simp [intOf]; omega
      · obtain rfl : k = l.length := by omega
        have HE := Lib.hid (lend_walk D.out.lg)
        go_wp2_with fail
        refine HE.out.mono ?_
        rintro e w5 ⟨rfl, hf5⟩
        have hnE := D.out.nE
        have HRE := Lib.hid (lretain_walk (most := most) (D.out.old hf5) hm0 (by omega) (by omega) D.out.end_le)
        have F5 := Lib.hid (FF.out.tr hf5)
        clear hf5 HE
        go_wp2_with fail
        refine HRE.out.mono ?_
        rintro e w6 ⟨j, beg', own', L6, S6, u6, F6, rfl, hM, fin⟩
        have FIN := Lib.hid fin
        have D6 := Lib.hid hM.d
        have EN := Lib.hid hM.en
        have hjl := hM.jl
        have hu6 := hM.us
        have F6' := Lib.hid (F5.out.trans hM.fr fun i hi => .inr (D.out.lt hi).1)
        have HSEG := Lib.hid (lsegment_walk hM.d.lg 1)
        clear hM fin HRE
        go_wp2_with fail
        refine HSEG.out.mono ?_
        rintro e w7 ⟨v7, ok, rfl, hok, -, -, hf7⟩
        have D7 := Lib.hid (D6.out.old hf7)
        have F7 := Lib.hid (F6'.out.tr hf7)
        have HOK := Lib.hid hok
        have hen := lend_walk D7.out.lg
        rw [EN.out] at hen
        have HEN := Lib.hid hen
        clear hf7 hok hen HSEG D6 F6'
        go_wp2_with fail
        refine HEN.out.mono ?_
        rintro e w8 ⟨rfl, hf8⟩
        have D8 := Lib.hid (D7.out.old hf8)
        have F8 := Lib.hid (F7.out.tr hf8)
        have HSZ := Lib.hid (lsize_walk D8.out.lg)
        clear hf8 D7 F7 HEN
        go_wp2_with fail
        refine HSZ.out.mono ?_
        rintro e w9 ⟨rfl, hf9⟩
        have D9 := Lib.hid (D8.out.old hf9)
        have F9 := Lib.hid (F8.out.tr hf9)
        have hnE2 := D9.out.nE
        rw [List.length_drop] at hnE2
        have HR2 := Lib.hid (lretain_walk (most := most) D9.out hm0 (by rw [List.length_drop]; omega) (by rw [List.length_drop]; omega) D9.out.end_le)
        clear hf9 HSZ D8 F8
        obtain ⟨q, hq⟩ : ∃ q : Nat, q = lgSize (es.drop j) := ⟨_, rfl⟩
        have hgo : ¬ (most < (q : Int) ∧ ok = true) := fun h => by
          rcases FIN.out with h1 | h1
          · have := (HOK.out.1 h.2).2
            omega
          · rw [hq] at h
            omega
        rw [← hq]
        have HGO := Lib.hid hgo
        clear hgo hq
        by_cases hmq : most < (q : Int)
        · have hok0 : ok = false := by
            cases ok with
            | false => rfl
            | true => exact absurd ⟨hmq, rfl⟩ HGO.out
          subst hok0
          go_wp2_with fail
          refine HR2.out.mono ?_
          rintro e w10 ⟨j2, beg2, own2, L10, S10, u10, F10, rfl, hM2, fin2⟩
          have hret := hM2.rt _ _ (Ret.stop (by
            rcases fin2 with h | h
            · left
              unfold segsOf
              rw [List.length_map]
              exact h
            · right
              rw [← lgSize_segs]
              exact h))
          have hsame := hret.same (by
            rcases FIN.out with h | h
            · left
              unfold segsOf
              rw [List.length_map]
              exact h
            · right
              rw [← lgSize_segs]
              exact h)
          have hlen2 := congrArg List.length hsame.1
          unfold segsOf at hlen2
          rw [List.length_map, List.length_map, List.length_drop] at hlen2
          have hj2 : j2 = 0 := by
            have h1 := hM2.jl
            omega
          have F10' := Lib.hid (F9.out.trans hM2.fr fun i hi => .inr (D9.out.lt hi).1)
          subst hj2
          clear hM2 fin2 hret hsame hlen2 HR2
          go_wp2_with fail
          refine (plive_walk _ (HST.out.old F10'.out) (Nat.le_trans hw0 F10'.out.size)).mono ?_
          rintro e w11 ⟨rfl, hf11⟩
          have F11 := Lib.hid (F10'.out.tr hf11)
          clear hf11
          go_wp2_with fail
          go_ret
          exact ⟨rfl, F11.out⟩
        · go_wp2_with fail
          refine HR2.out.mono ?_
          rintro e w10 ⟨j2, beg2, own2, L10, S10, u10, F10, rfl, hM2, fin2⟩
          have hret := hM2.rt _ _ (Ret.stop (by
            rcases fin2 with h | h
            · left
              unfold segsOf
              rw [List.length_map]
              exact h
            · right
              rw [← lgSize_segs]
              exact h))
          have hsame := hret.same (by
            rcases FIN.out with h | h
            · left
              unfold segsOf
              rw [List.length_map]
              exact h
            · right
              rw [← lgSize_segs]
              exact h)
          have hlen2 := congrArg List.length hsame.1
          unfold segsOf at hlen2
          rw [List.length_map, List.length_map, List.length_drop] at hlen2
          have hj2 : j2 = 0 := by
            have h1 := hM2.jl
            omega
          have F10' := Lib.hid (F9.out.trans hM2.fr fun i hi => .inr (D9.out.lt hi).1)
          subst hj2
          clear hM2 fin2 hret hsame hlen2 HR2
          go_wp2_with fail
          refine (plive_walk _ (HST.out.old F10'.out) (Nat.le_trans hw0 F10'.out.size)).mono ?_
          rintro e w11 ⟨rfl, hf11⟩
          have F11 := Lib.hid (F10'.out.tr hf11)
          clear hf11
          go_wp2_with fail
          go_ret
          exact ⟨rfl, F11.out⟩
end
end Go.Proofs.YtdlnafhhkpklmaaGreatDoor

/- What a log's files tell behind a crash; batches that rise: plain laws. -/
namespace Go.Proofs.YtdlnafhhkpklmaaGreatDoor
open Go.RowKit Go.Fm Go.BigFrame Go.Shelf Go.Maps
set_option linter.unusedVariables false
set_option linter.unusedSimpArgs false
set_option maxRecDepth 100000

section
variable {p : ByteArray} {beg at' : Int} {ss ss0 : List Seg} {s x : Seg} {L L' : List Row} {F F' : ByteArray → ByteArray × Nat} {n k ev : Nat}
def tagS (ev : Nat) (s : Seg) : Seg := ⟨s.base, ev, s.l⟩
theorem tag_cat (ev : Nat) (ss : List Seg) : catL (ss.map (tagS ev)) = catL ss := by
  unfold catL
  rw [List.flatMap_map]
  rfl
theorem cat_extract (l : List Bat) (k : Nat) : (catB l).extract 0 (sumB (l.take k)) = catB (l.take k) := by
  refine bytes_ext ?_
  rw [extract_list, List.drop_zero, catB_list, catB_list]
  have h : l.flatMap bl = (l.take k).flatMap bl ++ (l.drop k).flatMap bl := by rw [← List.flatMap_append, List.take_append_drop]
  rw [h]
  exact List.take_left' (flat_bl_len _)
theorem extract_two (t : ByteArray) {a b : Nat} (h : a ≤ b) : (t.extract 0 b).extract 0 a = t.extract 0 a := by
  refine bytes_ext ?_
  rw [extract_list, extract_list, extract_list, List.drop_zero, List.drop_zero, List.drop_zero, List.take_take]
  congr 1
  omega
structure Reopen (p : ByteArray) (beg : Int) (ss : List Seg) (ev : Nat) (L : List Row) (F F' : ByteArray → ByteArray × Nat) (ts : List Seg) : Prop where
  i : OpIn p ev ts L F'
  take : ∃ k, catL ts = (catL ss).take k
  safe : ∀ k, SafeN p ss L F k → k ≤ (catL ts).length
  same : LastSafe p ss L F → (∀ s ∈ ss, s.l ≠ []) → ts = ss.map (tagS ev)
  len : ts.length ≤ ss.length
  st : (getL L (startS p) = none ∧ beg = 0) ∨ ((getL L (startS p)).isSome = true ∧ F' (startS p) = (fix8 beg.toNat, 8))
theorem reopen (h : LgF p beg ss L F) (hch : ∀ s ∈ ss, Chn s.base s.l) (hsz : ∀ r ∈ L, (F r.1).1.size ≤ 4194304) (hlen : ∀ s ∈ ss, s.l.length ≤ 700) (hc : ∀ r ∈ L, ∃ n, (F r.1).2 ≤ n ∧ n ≤ (F r.1).1.size ∧ F' r.1 = ((F r.1).1.extract 0 n, n)) (ev : Nat) : ∃ ts, Reopen p beg ss ev L F F' ts := by
  have hcr : ∀ nm fb, getL L nm = some fb → ∃ n, (F nm).2 ≤ n ∧ n ≤ (F nm).1.size ∧ F' nm = ((F nm).1.extract 0 n, n) := fun nm fb hg => hc _ (getL_some hg)
  have hst : (getL L (startS p) = none ∧ beg = 0) ∨ ((getL L (startS p)).isSome = true ∧ F' (startS p) = (fix8 beg.toNat, 8)) := by
    rcases h.strt with h1 | ⟨h1, h2⟩
    · exact .inl h1
    · obtain ⟨fb, hg⟩ := Option.isSome_iff_exists.1 h1
      obtain ⟨n, h3, h4, h5⟩ := hcr _ fb hg
      rw [h2] at h3 h4 h5
      have h8 : (fix8 beg.toNat).size = 8 := fix8_size _
      dsimp only at h3 h4 h5
      obtain rfl : n = 8 := by omega
      have h9 : (fix8 beg.toNat).extract 0 8 = fix8 beg.toNat := by
        conv => lhs; arg 3; rw [← h8]
        exact ByteArray.extract_zero_size
      rw [h9] at h5
      exact .inr ⟨h1, h5⟩
  rcases List.eq_nil_or_concat ss with rfl | ⟨ss0, x, rfl⟩
  · refine ⟨[], ⟨fun nm h1 h2 => ?_, fun t ht => (by cases ht), fun t ht => (by cases ht), .nil, fun t ht => (by cases ht), fun t ht => (by cases ht), fun t ht => (by cases ht), fun t ht => (by cases ht)⟩, ⟨0, rfl⟩, fun k hk => ?_, fun _ _ => rfl, Nat.le_refl _, hst⟩
    · obtain ⟨s, hs, -⟩ := h.own nm h1 h2
      cases hs
    · rcases hk with hk | ⟨s, j, e, -⟩
      · exact hk
      · cases e
  · rw [List.concat_eq_append] at *
    have hm0 : ∀ s ∈ ss0, s ∈ ss0 ++ [x] := fun s hs => List.mem_append.2 (.inl hs)
    have hmx : x ∈ ss0 ++ [x] := List.mem_append.2 (.inr (by simp))
    have hr := List.pairwise_append.1 h.rise
    have hfull : ∀ s ∈ ss0, s.l ≠ [] := fun s hs => h.full s (by rw [List.dropLast_concat]; exact hs)
    have hsafe : ∀ s ∈ ss0, (getL L (nmS p s.base)).isSome = true ∧ F' (nmS p s.base) = (catB s.l, (catB s.l).size) ∧ sumB s.l ≤ 4194304 := fun s hs => by
      have h1 := h.has (hm0 s hs) (hfull s hs)
      obtain ⟨fb, hg⟩ := Option.isSome_iff_exists.1 h1
      have h2 := h.safe s (by rw [List.dropLast_concat]; exact hs)
      rw [curF_some hg] at h2
      obtain ⟨n, h3, h4, h5⟩ := hcr _ fb hg
      have h6 := hsz _ (getL_some hg)
      rw [h2] at h3 h4 h5
      dsimp only at h3 h4 h5 h6
      rw [h2] at h6
      obtain rfl : n = (catB s.l).size := by omega
      rw [ByteArray.extract_zero_size] at h5
      rw [catB_size] at h6
      exact ⟨h1, h5, h6⟩
    have h0 : ∀ t ∈ ss0.map (tagS ev), (getL L (nmS p t.base)).isSome = true ∧ (∃ q, Scan (F' (nmS p t.base)).1 0 t.base t.l q ∧ (F' (nmS p t.base)).1.extract 0 q = catB t.l ∧ (F' (nmS p t.base)).2 = (F' (nmS p t.base)).1.size) ∧ t.base ≤ 1099511627776 ∧ t.l.length ≤ 700 ∧ t.every = ev ∧ t.l ≠ [] := fun t ht => by
      obtain ⟨s, hs, rfl⟩ := List.mem_map.1 ht
      obtain ⟨h1, h2, h3⟩ := hsafe s hs
      refine ⟨h1, ⟨sumB s.l, ?_, ?_, ?_⟩, h.bb s (hm0 s hs), hlen s (hm0 s hs), rfl, hfull s hs⟩
      · show Scan (F' (nmS p s.base)).1 0 s.base s.l _
        rw [h2]
        exact scan_all (hch s (hm0 s hs)) (by omega)
      · show (F' (nmS p s.base)).1.extract 0 _ = catB s.l
        rw [h2]
        show (catB s.l).extract 0 _ = _
        rw [← catB_size, ByteArray.extract_zero_size]
      · show (F' (nmS p s.base)).2 = (F' (nmS p s.base)).1.size
        rw [h2]
    have hrt : (ss0.map (tagS ev)).Pairwise fun a b => a.base < b.base ∧ a.end' ≤ b.base := by
      rw [List.pairwise_map]
      exact hr.1
    have hown : ∀ nm, (getL L nm).isSome = true → isOwn p nm = true → (∃ t ∈ ss0.map (tagS ev), nm = nmS p t.base) ∨ nm = nmS p x.base := fun nm h1 h2 => by
      obtain ⟨s, hs, e⟩ := h.own nm h1 h2
      rcases List.mem_append.1 hs with hs | hs
      · exact .inl ⟨tagS ev s, List.mem_map.2 ⟨s, hs, rfl⟩, e⟩
      · obtain rfl : s = x := by simpa using hs
        exact .inr e
    cases hg : getL L (nmS p x.base) with
    | none =>
      have hxl : x.l = [] := by
        have h1 := h.file x hmx
        rw [curF_none hg] at h1
        exact sum_nil h1.symm
      refine ⟨ss0.map (tagS ev), ⟨fun nm h1 h2 => ?_, fun t ht => (h0 t ht).1, fun t ht => (h0 t ht).2.1, hrt, fun t ht => (h0 t ht).2.2.1, fun t ht => (h0 t ht).2.2.2.1, fun t ht => (h0 t ((List.dropLast_sublist _).subset ht)).2.2.2.2.2, fun t ht => (h0 t ht).2.2.2.2.1⟩, ⟨(catL (ss0 ++ [x])).length, ?_⟩, fun k hk => ?_, fun _ hne => absurd hxl (hne x hmx), by simp, hst⟩
      · rcases hown nm h1 h2 with h3 | h3
        · exact h3
        · rw [h3, hg] at h1; cases h1
      · rw [List.take_length, tag_cat, catL_concat, hxl, List.append_nil]
      · have h1 := hk.le
        rw [catL_concat, hxl, List.append_nil] at h1
        rw [tag_cat]
        exact h1
    | some fb =>
      have hfx := h.file x hmx
      rw [curF_some hg] at hfx
      obtain ⟨n, h3, h4, h5⟩ := hcr _ fb hg
      rw [hfx] at h4 h5
      have h6 := hsz _ (getL_some hg)
      dsimp only at h6
      rw [hfx, catB_size] at h6
      rw [catB_size] at h4
      obtain ⟨q, hq, hscan, hmaxq⟩ := scan_cut (hch x hmx) (by omega) h4
      have hqn : sumB (x.l.take q) ≤ n := by
        have h7 := hscan.at'.2.1
        rw [ByteArray.size_extract, catB_size] at h7
        omega
      have hxt : ((catB x.l).extract 0 n).extract 0 (sumB (x.l.take q)) = catB (x.l.take q) := by rw [extract_two _ hqn, cat_extract]
      have hn2 : n = ((catB x.l).extract 0 n).size := by rw [ByteArray.size_extract, catB_size]; omega
      refine ⟨ss0.map (tagS ev) ++ [⟨x.base, ev, x.l.take q⟩], ⟨fun nm h1 h2 => ?_, fun t ht => ?_, fun t ht => ?_, ?_, fun t ht => ?_, fun t ht => ?_, fun t ht => ?_, fun t ht => ?_⟩, ⟨(catL ss0).length + q, ?_⟩, fun k hk => ?_, fun hls hne => ?_, by simp, hst⟩
      · rcases hown nm h1 h2 with ⟨t, ht, e⟩ | h3
        · exact ⟨t, List.mem_append.2 (.inl ht), e⟩
        · exact ⟨⟨x.base, ev, x.l.take q⟩, List.mem_append.2 (.inr (by simp)), h3⟩
      · rcases List.mem_append.1 ht with ht | ht
        · exact (h0 t ht).1
        · obtain rfl : t = _ := by simpa using ht
          show (getL L (nmS p x.base)).isSome = true
          rw [hg]; rfl
      · rcases List.mem_append.1 ht with ht | ht
        · exact (h0 t ht).2.1
        · obtain rfl : t = _ := by simpa using ht
          refine ⟨sumB (x.l.take q), ?_, ?_, ?_⟩
          · show Scan (F' (nmS p x.base)).1 0 x.base (x.l.take q) _
            rw [h5]; exact hscan
          · show (F' (nmS p x.base)).1.extract 0 _ = _
            rw [h5]; exact hxt
          · show (F' (nmS p x.base)).2 = (F' (nmS p x.base)).1.size
            rw [h5]; exact hn2
      · rw [List.pairwise_append]
        refine ⟨hrt, by simp, fun a ha b hb => ?_⟩
        obtain rfl : b = _ := by simpa using hb
        obtain ⟨s, hs, rfl⟩ := List.mem_map.1 ha
        exact hr.2.2 s hs x (by simp)
      · rcases List.mem_append.1 ht with ht | ht
        · exact (h0 t ht).2.2.1
        · obtain rfl : t = _ := by simpa using ht
          exact h.bb x hmx
      · rcases List.mem_append.1 ht with ht | ht
        · exact (h0 t ht).2.2.2.1
        · obtain rfl : t = _ := by simpa using ht
          show (x.l.take q).length ≤ 700
          rw [List.length_take]
          have := hlen x hmx
          omega
      · rw [List.dropLast_concat] at ht
        exact (h0 t ht).2.2.2.2.2
      · rcases List.mem_append.1 ht with ht | ht
        · exact (h0 t ht).2.2.2.2.1
        · obtain rfl : t = _ := by simpa using ht
          rfl
      · rw [catL_concat, catL_concat, tag_cat, List.take_length_add_append]
      · rw [catL_concat, tag_cat, List.length_append, List.length_take]
        rcases hk with hk | ⟨s, j, e, h7, h8, h9⟩
        · rw [List.dropLast_concat] at hk; omega
        · rw [List.getLast?_concat] at e
          injection e with e
          subst e
          rw [curF_some hg] at h8
          rw [List.dropLast_concat] at h9
          have h10 := hmaxq j (by omega) h7
          omega
      · have h7 := hls x (by rw [List.getLast?_concat])
        rw [curF_some hg] at h7
        have h8 : (F (nmS p x.base)).2 = sumB x.l := by rw [h7]; exact catB_size _
        have h9 := hmaxq x.l.length (by rw [List.take_length]; omega) (Nat.le_refl _)
        rw [List.map_append, List.map_singleton, List.take_of_length_le h9]
        rfl
def RiseB (l : List Bat) : Prop := l.Pairwise fun a b => a.base + a.span ≤ b.base
theorem Chn.pair {q : Int} {l : List Bat} (h : Chn q l) : RiseB l ∧ ∀ b ∈ l, q ≤ b.base ∧ b.base + b.span ≤ endOf q l := by
  induction h with
  | nil => exact ⟨.nil, fun b hb => (by cases hb)⟩
  | cons h1 h2 h3 ih =>
    rw [endOf_cons]
    refine ⟨List.pairwise_cons.2 ⟨fun b hb => (ih.2 b hb).1, ih.1⟩, fun b hb => ?_⟩
    rcases List.mem_cons.1 hb with rfl | hb
    · exact ⟨h2, h3.end_ge⟩
    · have := ih.2 b hb
      have := h1.span0
      omega
theorem cat_rise (h : ss.Pairwise fun a b => a.base < b.base ∧ a.end' ≤ b.base) (hc : ∀ s ∈ ss, Chn s.base s.l) : RiseB (catL ss) := by
  induction ss with
  | nil => exact .nil
  | cons a l ih =>
    have h1 := List.pairwise_cons.1 h
    have ha := (hc a List.mem_cons_self).pair
    unfold catL RiseB
    rw [List.flatMap_cons, List.pairwise_append]
    refine ⟨ha.1, ih h1.2 fun s hs => hc s (List.mem_cons_of_mem _ hs), fun x hx y hy => ?_⟩
    obtain ⟨s, hs, hy⟩ := List.mem_flatMap.1 hy
    have h2 := (ha.2 x hx).2
    have h3 := ((hc s (List.mem_cons_of_mem _ hs)).pair.2 y hy).1
    have h4 := (h1.1 s hs).2
    have h5 : a.end' = endOf a.base a.l := rfl
    omega
/-- How many batches end ahead of a place. -/
def aheadN (at' : Int) : List Bat → Nat
  | [] => 0
  | b :: l => if b.base + b.span ≤ at' then aheadN at' l + 1 else 0
theorem filter_ahead {l : List Bat} (h : RiseB l) (hs : ∀ b ∈ l, BatOK b) : l.filter (over at') = l.drop (aheadN at' l) := by
  induction l with
  | nil => rfl
  | cons b l ih =>
    have h1 := List.pairwise_cons.1 h
    rw [aheadN]
    split
    · rename_i hb
      have h2 : over at' b = false := by unfold over; simpa using hb
      rw [List.filter_cons_of_neg (by simp [h2]), List.drop_succ_cons]
      exact ih h1.2 fun x hx => hs x (List.mem_cons_of_mem _ hx)
    · rename_i hb
      rw [List.drop_zero]
      refine List.filter_eq_self.2 fun x hx => ?_
      unfold over
      simp only [decide_eq_true_eq]
      rcases List.mem_cons.1 hx with rfl | hx
      · omega
      · have := h1.1 x hx
        have := (hs x (List.mem_cons_of_mem _ hx)).span0
        omega
theorem filter_trim (hc : ∀ s ∈ ss, Chn s.base s.l) : (catL ss).filter (over at') = (catL (ss.drop (trimN at' ss))).filter (over at') := by
  induction ss with
  | nil => rfl
  | cons a l ih =>
    cases l with
    | nil => rfl
    | cons b r =>
      rw [trimN]
      split
      · rename_i hb
        rw [List.drop_succ_cons, ← ih fun s hs => hc s (List.mem_cons_of_mem _ hs)]
        conv => lhs; unfold catL
        rw [List.flatMap_cons, List.filter_append]
        have h1 : a.l.filter (over at') = [] := List.filter_eq_nil_iff.2 fun x hx => by
          have h2 := ((hc a List.mem_cons_self).pair.2 x hx).2
          have h5 : a.end' = endOf a.base a.l := rfl
          unfold over
          simp
          omega
        rw [h1, List.nil_append]
        rfl
      · rw [List.drop_zero]
theorem trimN_trim : ∀ ss : List Seg, trimN at' (ss.drop (trimN at' ss)) = 0
  | [] => rfl
  | [_] => rfl
  | a :: b :: r => by
    by_cases h : a.end' ≤ at'
    · rw [trimN, if_pos h, List.drop_succ_cons]
      exact trimN_trim (b :: r)
    · have h0 : trimN at' (a :: b :: r) = 0 := by rw [trimN, if_neg h]
      rw [h0, List.drop_zero, h0]
theorem trimN_tag (ev : Nat) : ∀ ss : List Seg, trimN at' (ss.map (tagS ev)) = trimN at' ss
  | [] => rfl
  | [_] => rfl
  | a :: b :: r => by
    have ih := trimN_tag ev (b :: r)
    rw [List.map_cons] at ih
    rw [List.map_cons, List.map_cons, trimN, trimN, ih]
    rfl
end
end Go.Proofs.YtdlnafhhkpklmaaGreatDoor

/- PlogBegins: laws and the walk. -/
namespace Go.Proofs.YtdlnafhhkpklmaaGreatDoor
open Go.RowKit Go.Fm Go.BigFrame Go.Shelf Go.Maps
set_option linter.unusedVariables false
set_option linter.unusedSimpArgs false
set_option maxRecDepth 100000

section
variable {B : Nat} {w w' w1 w2 : World} {lb db mb : Nat} {p : ByteArray} {lim ev : Nat} {beg at' : Int} {es : List PE} {own : Bool} {L L' : List Row} {S S' : Nat → Prop} {room used fuse : Int} {F F' : ByteArray → ByteArray × Nat} {n : Nat}
theorem bats_drop {K : Nat → Prop} {w : World} {a : Addr} {cap : Nat} {l : List Bat} (h : BatsR K w (.slice (some a) l.length cap) l) (m c2 : Nat) : BatsR K w (.slice (some (a.add (m * 6))) (l.drop m).length c2) (l.drop m) := by
  obtain ⟨oa, cap', e, hk⟩ := h
  injection e with e
  subst e
  refine ⟨_, _, rfl, fun k b hb => ?_⟩
  rw [List.getElem?_drop] at hb
  obtain ⟨a2, rv, ha2, h1, h2, h3⟩ := hk (m + k) b hb
  injection ha2 with ha2
  subst ha2
  refine ⟨_, rv, rfl, by rw [add_block]; exact h1, ?_, h3⟩
  rw [add_add2, ← Nat.add_mul]
  exact h2
theorem bats_none {K : Nat → Prop} {w : World} (oa : Option Addr) (c : Nat) : BatsR K w (.slice oa 0 c) [] := ⟨oa, c, rfl, fun k b hb => (by cases hb)⟩
theorem small_ok {l : List Bat} (h : ∀ b ∈ l, BatOK b) : ∀ x ∈ l, x.recs.length ≤ 100 ∧ ∀ r ∈ x.recs, r.hs.length ≤ 100 := fun x hx => by
  have h1 := h x hx
  refine ⟨by have := h1.len; omega, fun r hr => ?_⟩
  obtain ⟨k, hk⟩ := List.getElem?_of_mem hr
  have := (h1.recs k r hk).ok.hs
  omega
theorem usd_mono {F F' : ByteArray → ByteArray × Nat} : ∀ {L : List Row}, (∀ r ∈ L, (F' r.1).1.size ≤ (F r.1).1.size) → usd L F' ≤ usd L F
  | [], _ => Nat.le_refl _
  | x :: l, h => by
    have ih := usd_mono (L := l) fun r hr => h r (List.mem_cons_of_mem _ hr)
    have h1 := h x List.mem_cons_self
    unfold usd at ih ⊢
    rw [List.map_cons, List.map_cons, List.sum_cons, List.sum_cons]
    omega
theorem sumB_app (a b : List Bat) : sumB (a ++ b) = sumB a + sumB b := by simp [sumB]
theorem ssEnd_tag (ev : Nat) (beg : Int) (ss : List Seg) : ssEnd beg (ss.map (tagS ev)) = ssEnd beg ss := by
  unfold ssEnd
  rw [List.getLast?_map]
  cases ss.getLast? <;> rfl
theorem ahead_le (at' : Int) : ∀ l : List Bat, aheadN at' l ≤ l.length
  | [] => Nat.le_refl _
  | b :: l => by
    have := ahead_le at' l
    rw [aheadN, List.length_cons]
    split <;> omega
theorem ahead_in {at' : Int} : ∀ {l : List Bat} {k : Nat} {b : Bat}, l[k]? = some b → k < aheadN at' l → b.base + b.span ≤ at'
  | [], _, _, h, _ => by cases h
  | x :: l, 0, b, h, hk => by
    rw [aheadN] at hk
    split at hk
    · rename_i h1
      simp at h
      subst h
      exact h1
    · cases hk
  | x :: l, k + 1, b, h, hk => by
    rw [aheadN] at hk
    split at hk
    · exact ahead_in (l := l) (by simpa using h) (by omega)
    · cases hk
theorem ahead_out {at' : Int} : ∀ {l : List Bat} {b : Bat}, l[aheadN at' l]? = some b → ¬ b.base + b.span ≤ at'
  | [], _, h => by cases h
  | x :: l, b, h => by
    rw [aheadN] at h
    split at h
    · exact ahead_out (l := l) (by simpa using h)
    · rename_i h1
      simp at h
      subst h
      exact h1
theorem lgEnd_trim (hbe : lgEnd 0 es = at' ∨ es ≠ []) (hat : es = [] → at' = 0) : lgEnd at' (es.drop (trimN at' (segsOf es))) = lgEnd 0 es := by
  cases es with
  | nil => rw [hat rfl]; rfl
  | cons x l =>
    refine lgEnd_drop ?_
    have := trimN_lt at' (segsOf (x :: l)) (by simp [segsOf])
    simpa [segsOf] using this
theorem cat_drop_sum (es : List PE) (j : Nat) : sumB (catE (es.drop j)) ≤ sumB (catE es) := by
  have h : catE es = catE (es.take j) ++ catE (es.drop j) := by
    unfold catE catL segsOf
    rw [← List.flatMap_append, ← List.map_append, List.take_append_drop]
  rw [h, sumB_app]
  omega
/-- A disk behind a crash, and what Open may say of a log on it. -/
theorem crash_in {e : Ending} (D : LogD B w lb db mb p lim ev beg es own L S room used (-1) F n) (hst : StepsOK w) (hb1 : beg ≤ 1099511627776) (ev' lim' : Nat) (l1 : 50 ≤ lim') (l2 : lim' ≤ 1000000) (e1 : 1 ≤ ev') (e2 : ev' ≤ 1000000) (hc : CrashPost w db mb room L F e w') :
    ∃ (c : Nat) (F' : ByteArray → ByteArray × Nat) (ts : List Seg), e = .returned (.int .i64 c) ∧ c ≤ L.length ∧ Fr (DkS db mb L) w w' ∧ Reopen p beg (segsOf es) ev' L F F' ts ∧ (beg ≤ ssEnd beg ts → OpenIn B w' db mb p lim' ev' beg ts L room (usd L F') F' n) := by
  obtain ⟨c, F', rfl, hcl, hd, hcr, hf⟩ := hc
  obtain ⟨ts, R⟩ := reopen D.fl (fun s hs => D.chn hs) D.file_le (fun s hs => by
    obtain ⟨x, hx, rfl⟩ := List.mem_map.1 hs
    have := (D.last_le hx).2
    have := D.n1
    omega) hcr ev'
  have hle : ∀ r ∈ L, (F' r.1).1.size ≤ (F r.1).1.size ∧ (F' r.1).2 ≤ (F' r.1).1.size := fun r hr => by
    obtain ⟨n, h1, h2, h3⟩ := hcr r hr
    rw [h3]
    refine ⟨by rw [ByteArray.size_extract]; omega, ?_⟩
    show n ≤ ((F r.1).1.extract 0 n).size
    rw [ByteArray.size_extract]
    omega
  have hu := usd_mono (F := F) (F' := F') fun r hr => (hle r hr).1
  have hus := D.us
  have hur := D.ur
  have hrm := D.rm
  have hb0 : 0 ≤ beg := by
    obtain ⟨sv, G, hV, -⟩ := D.lg
    exact hV.b0
  have htl := R.len
  have hesl := D.nE
  have hcat : (catL ts).length ≤ n := by
    obtain ⟨k, hk⟩ := R.take
    rw [hk, List.length_take]
    have := D.nB
    omega
  refine ⟨c, F', ts, rfl, hcl, hf, R, fun hbe => ⟨⟨hd, ⟨by omega, by omega, by decide, fun r hr => ⟨?_, (hle r hr).2⟩⟩, rfl, by omega⟩, D.rm, R.i, R.st, hb0, hb1, hbe, D.dl, D.b1, D.nL, ?_, hcat, D.n1, D.lg.p1, D.lg.p2, l1, l2, e1, e2, hst.fr hf fun h => D.nz (.inr h) rfl⟩⟩
  · have := D.file_le r hr
    have := (hle r hr).1
    omega
  · unfold segsOf at htl
    rw [List.length_map] at htl
    omega
end
end Go.Proofs.YtdlnafhhkpklmaaGreatDoor

/- PlogBegins: the walk. -/
namespace Go.Proofs.YtdlnafhhkpklmaaGreatDoor
open Go.RowKit Go.Fm Go.BigFrame Go.Shelf Go.Maps
set_option linter.unusedVariables false
set_option linter.unusedSimpArgs false
set_option maxRecDepth 100000

section
variable {B : Nat} {w w' w1 w2 : World} {lb db mb : Nat} {p : ByteArray} {lim ev : Nat} {beg at' : Int} {es : List PE} {own : Bool} {L L' : List Row} {S S' : Nat → Prop} {room used fuse : Int} {F F' : ByteArray → ByteArray × Nat} {n : Nat}
/-- The config's cells. -/
def CfgAt (w : World) (cb : Nat) : Prop := w.cell? ⟨cb, 0, none⟩ = some (.string ⟨#[112]⟩) ∧ w.cell? ⟨cb, 1, none⟩ = some (.int .i64 60) ∧ w.cell? ⟨cb, 2, none⟩ = some (.int .i64 20)
theorem CfgAt.fr {R : Nat → Prop} {cb : Nat} (h : CfgAt w cb) (hf : Fr R w w') (hn : ¬ R cb) : CfgAt w' cb := ⟨hf.cell h.1 hn, hf.cell h.2.1 hn, hf.cell h.2.2 hn⟩
set_option maxHeartbeats 16000000 in
theorem begins_walk (l : List Bat) (v : Value) (to : Int) (w : World) (hl : BatsR (fun _ => True) w v l) (hst : StepsOK w) (hw0 : 1 ≤ w.heap.size) :
    Calls Tryz.prog 4 #[v, .int .i64 to] w fun e w' => e = .returned (.bool true) ∧ Fr (fun _ => False) w w' := by
  have hl2 := hl.mono (K' := fun b => b < w.heap.size) fun b _ h => h
  clear hl
  obtain ⟨oa, cap, rfl, hl3⟩ := hl2
  have HL := Lib.hid hl3
  have HST := Lib.hid hst
  clear hl3 hst
  rcases Nat.lt_or_ge 8 l.length with h8 | hlen
  · go_enter Tryz.func4, Tryz.ntmps4
    go_wp2_with fail
    refine (plive_walk w HST.out hw0).mono ?_
    rintro e w4 ⟨rfl, hf4⟩
    have F4 := Lib.hid hf4
    clear hf4
    go_wp2_with fail
    go_ret
    exact ⟨rfl, F4.out⟩
  · go_enter Tryz.func4, Tryz.ntmps4
    go_wp2_with fail
    refine (dnew_n 400000 w (by omega) (by omega)).mono ?_
    rintro e w1 ⟨db, mb, rfl, hdn, hdb, hmb, hf1⟩
    have hfa := (Fr.same w1).alloc (.cells #[.string pS, .int .i64 60, .int .i64 20] 32)
    have hpo := popen_new (B := w.heap.size) (p := pS) (lim := 60) (ev := 20) (hdn.old hfa) (by omega) hw0 hdb hmb (by decide) (by decide) (by omega) (by omega) (by omega) (by omega) (HST.out.old (hf1.tr hfa))
    unfold cfgV at hpo
    have HPO := Lib.hid hpo
    have F1 := Lib.hid (hf1.tr hfa)
    have HB := Lib.hid (And.intro hdb hmb)
    have HDL := Lib.hid (And.intro (hdn.dk.lt (.inl rfl)) (hdn.dk.lt (.inr (.inl rfl))))
    have hcf : CfgAt (w1.alloc (.cells #[.string pS, .int .i64 60, .int .i64 20] 32)) w1.heap.size := ⟨cell_alloc_new w1 _ 32 0, cell_alloc_new w1 _ 32 1, cell_alloc_new w1 _ 32 2⟩
    have HCF := Lib.hid hcf
    have HS7 := Lib.hid (show w.heap.size ≤ w1.heap.size from hf1.size)
    have hk0 := hcf.1
    have hk1 := hcf.2.1
    have hk2 := hcf.2.2
    have hszA : (w1.alloc (.cells #[.string pS, .int .i64 60, .int .i64 20] 32)).heap.size = w1.heap.size + 1 := by simp
    clear hf1 hdb hmb hdn hpo hfa hcf
    unfold pS at HPO HCF hk0 hk1 hk2 hszA F1
    go_wp2_with fail
    refine HPO.out.mono ?_
    rintro e w2 ⟨lb, S2, F2, rfl, hD, hS, hf2⟩
    have hcbS : ¬ S2 w1.heap.size := fun h => by have := hS _ h; omega
    have hcbD : ¬ (w1.heap.size = db ∨ w1.heap.size = mb) := fun h => by have := HDL.out; omega
    have C2 := Lib.hid (HCF.out.fr hf2 hcbD)
    have D2 := Lib.hid hD
    have NS2 := Lib.hid (show ¬ S2 w1.heap.size ∧ ¬ DkS db mb [] w1.heap.size from ⟨hcbS, fun h => hcbD (h.imp id fun h => h.elim id fun ⟨r, hr, _⟩ => (by cases hr))⟩)
    have F2' := Lib.hid (show Fr (fun _ => False) w w2 from F1.out.trans hf2 fun i hi => .inr (by have := HB.out; rcases hi with rfl | rfl <;> omega))
    have HCB := Lib.hid (show w1.heap.size < w2.heap.size from World.block_lt_of_cell? w2 _ C2.out.1)
    clear hD hS hf2 HPO hk0 hk1 hk2 hcbS hcbD hszA
    obtain ⟨cb, hcb⟩ : ∃ cb, cb = w1.heap.size := ⟨_, rfl⟩
    rw [← hcb] at C2 NS2 HCB HS7 ⊢
    clear hcb HCF
    go_wp2_with fail
    go_loopw [10] (fun i wr => ∃ (k : Nat) (es : List PE) (L : List Row) (S : Nat → Prop) (F : ByteArray → ByteArray × Nat) (used : Int), i = .int .i64 k ∧ k ≤ l.length ∧ LogD w.heap.size wr lb db mb pS 60 20 0 es true L S 400000 used (-1) F (2 * k) ∧ used ≤ 16068 * k ∧ sumB (catE es) ≤ 16068 * k ∧ lgEnd 0 es ≤ 50 * k ∧ (∀ s ∈ segsOf es, s.l ≠ []) ∧ CfgAt wr cb ∧ ¬ S cb ∧ ¬ DkS db mb L cb ∧ cb < wr.heap.size ∧ Fr (fun _ => False) w wr) (fun i _ => l.length - (intOf i).toNat)
    case atStart => exact ⟨0, [], [], S2, F2, 0, rfl, Nat.zero_le _, D2.out, by omega, by simp [catE, catL, segsOf, sumB], by simp [lgEnd], by simp [segsOf], C2.out, NS2.out.1, NS2.out.2, HCB.out, F2'.out⟩
    case round =>
      obtain ⟨k, es, L, S, F, used, rfl, hk, hD, hu, hsum, hend, hne, hcf, hnS, hnD, hcw, hf⟩ := hrel
      have D := Lib.hid hD
      have FF := Lib.hid hf
      have CF := Lib.hid hcf
      have NN := Lib.hid (And.intro hnS (And.intro hnD hcw))
      have HNE := Lib.hid hne
      have HEN := Lib.hid (And.intro hsum hend)
      clear hD hf D2 F2' hcf C2 hnS hnD hcw hne hsum hend NS2 HCB
      rcases Nat.lt_or_ge k l.length with hlt | hge
      · obtain ⟨b, hb⟩ := get_of_lt hlt
        obtain ⟨A, rv, rfl, hA, hc, hr⟩ := HL.out k b hb
        have hc1 := hc.to (FF.out.block _ hc.lt fun h => h)
        have hr1 := hr.old FF.out
        have hh := hr1
        obtain ⟨ra, rcap, rfl, -⟩ := hh
        have HC1 := Lib.hid hc1
        have HR1 := Lib.hid hr1
        obtain ⟨c0, c1, c2, c3, c4, c5⟩ := hc1
        have HSM := Lib.hid (small_walk _ b _ _ hr1)
        clear hb hc hr hr1
        unfold batV at HSM
        go_wp2_with fail
        refine HSM.out.mono ?_
        rintro e w3 ⟨c, rfl, hsm, hf3⟩
        have D3 := Lib.hid (D.out.old hf3)
        have F3 := Lib.hid (FF.out.tr hf3)
        have CF3 := Lib.hid (CF.out.fr hf3 fun h => h)
        have SZ3 := Lib.hid hf3.size
        have HC3 := Lib.hid (HC1.out.to (hf3.block _ HC1.out.lt fun h => h))
        have HR3 := Lib.hid (HR1.out.old hf3)
        clear hf3 HSM c0 c1 c2 c3 c4 c5 HC1 HR1
        cases c with
        | false =>
          clear hsm
          go_wp2_with fail
          refine (plive_walk _ (HST.out.old F3.out) (Nat.le_trans hw0 F3.out.size)).mono ?_
          rintro e w4 ⟨rfl, hf4⟩
          have F4 := Lib.hid (F3.out.tr hf4)
          clear hf4
          go_wp2_with fail
          go_ret
          exact ⟨rfl, F4.out⟩
        | true =>
          have HAP := Lib.hid (any_append D3.out hu (by omega) (by omega) (hsm rfl) (HST.out.old F3.out) _ (fun i hi => ⟨fun h => by have := (D3.out.lt (.inl h)).1; omega, fun h => by have := D3.out.dl i h; omega⟩) _ HR3.out false)
          obtain ⟨c0, c1, c2, c3, c4, c5⟩ := HC3.out
          unfold batV at HAP
          clear hsm
          go_wp2_with fail
          refine HAP.out.mono ?_
          rintro e w5 ⟨es', L', S', F', used', rfl, hD5, hu5, -, hsum5, hend5, hne5, -, hfo5, hfr5⟩
          have D5 := Lib.hid hD5
          have HU5 := Lib.hid hu5
          have F5 := Lib.hid (F3.out.trans hfr5 fun i hi => .inr (D3.out.lt hi).1)
          have HX5 := Lib.hid (show sumB (catE es') ≤ 16068 * (k + 1) ∧ lgEnd 0 es' ≤ 50 * ((k + 1 : Nat) : Int) from by have := HEN.out; omega)
          have HN5 := Lib.hid (hne5 HNE.out)
          have CF5 := Lib.hid (CF3.out.fr hfr5 fun h => h.elim NN.out.1 NN.out.2.1)
          have NN5 := Lib.hid (show ¬ S' cb ∧ ¬ DkS db mb L' cb ∧ cb < w5.heap.size from ⟨fun h => (hfo5.1 _ h).elim NN.out.1 fun h => by have := NN.out.2.2; have := SZ3.out; omega, fun h => (hfo5.2 _ h).elim NN.out.2.1 fun h => by have := NN.out.2.2; have := SZ3.out; omega, by have := NN.out.2.2; have := SZ3.out; have := hfr5.size; omega⟩)
          clear hD5 hu5 hsum5 hend5 hne5 hfo5 hfr5 HAP c0 c1 c2 c3 c4 c5
          go_wp2_with fail
          go_roundw
          case rel => exact ⟨k + 1, es', L', S', F', used', by go_num, hlt, D5.out, HU5.out, HX5.out.1, HX5.out.2, HN5.out, CF5.out, NN5.out.1, NN5.out.2.1, NN5.out.2.2, F5.out⟩
          case measure => simp [intOf]; omega
      · obtain rfl : k = l.length := by omega
        have HE := Lib.hid (lend_walk D.out.lg)
        go_wp2_with fail
        refine HE.out.mono ?_
        rintro e w5 ⟨rfl, hf5⟩
        have D5 := Lib.hid (D.out.old hf5)
        have F5 := Lib.hid (FF.out.tr hf5)
        have CF5 := Lib.hid (CF.out.fr hf5 fun h => h)
        have SZ5 := Lib.hid hf5.size
        have HR := Lib.hid (lread_walk D5.out (HST.out.old F5.out) 0 1000000)
        have SLT := Lib.hid (fun i (h : S i ∨ DkS db mb L i) => (D.out.lt h).2)
        have COK := Lib.hid D.out.cat_ok
        have HC16 := Lib.hid (show (catE es).length ≤ 16 from by have h9 : (catE es).length ≤ 2 * l.length := D.out.nB; omega)
        have RISE := Lib.hid (show RiseB (catE es) from cat_rise D.out.fl.rise fun s hs => D.out.chn hs)
        have CHN := Lib.hid (fun s hs => D.out.chn (s := s) hs)
        clear hf5 HE D FF CF
        go_wp2_with fail
        refine HR.out.mono ?_
        rintro e w6 hp
        have hall : pick 0 1000000 (catE es) 0 [] = catE es := by
          rw [pick_all 0 1000000 (catE es) 0 [] (fun b hb => by have := (D5.out.cat_ok b hb).base0; have := (D5.out.cat_ok b hb).span0; omega) (by have := HEN.out.1; omega), List.nil_append]
        have hp' : ∃ oa1 cap1, e = .returned (.tuple #[.slice oa1 (catE es).length cap1, .int .i64 0]) ∧ BatsR (fun b => w5.heap.size ≤ b) w6 (.slice oa1 (catE es).length cap1) (catE es) ∧ (catE es).length ≤ cap1 ∧ Fr (fun _ => False) w5 w6 := by
          rcases hp with ⟨h, -⟩ | ⟨-, -, v, rfl, hv, hcap, hf⟩
          · have := D5.out.be; omega
          · rw [hall] at hv
            have hv2 := hv
            obtain ⟨oa1, cap1, rfl, -⟩ := hv2
            exact ⟨oa1, cap1, rfl, hv, hcap _ _ _ rfl, hf⟩
        obtain ⟨oa1, cap1, rfl, hv1, hcap1, hf6⟩ := hp'
        have D6 := Lib.hid (D5.out.old hf6)
        have F6 := Lib.hid (F5.out.tr hf6)
        have CF6 := Lib.hid (CF5.out.fr hf6 fun h => h)
        have V1 := Lib.hid (hv1.mono (K' := fun b => w5.heap.size ≤ b ∧ b < w6.heap.size) fun b hb hl => ⟨hb, hl⟩)
        have HCAP := Lib.hid hcap1
        have SZ6 := Lib.hid hf6.size
        have HAD := Lib.hid (ladvance_walk (at' := to) D6.out (by omega) (by omega) D6.out.end_le)
        clear hp hall hv1 hcap1 hf6 HR D5 F5 CF5
        go_wp2_with fail
        refine HAD.out.mono ?_
        rintro e w7 hp
        rcases hp with ⟨hout, rfl, hf7⟩ | ⟨hin0, hin1, rfl, wA, hfA, hB⟩
        · have D7 := Lib.hid (D6.out.old hf7)
          have F7 := Lib.hid (F6.out.tr hf7)
          have HS := Lib.hid (lstart_walk D7.out.lg)
          have h3 : to < 0 ∨ (¬ to < 0 ∧ lgEnd 0 es < to) := by omega
          clear hf7 HAD hout D6 F6
          rcases h3 with h3 | ⟨h3, h4⟩
          all_goals
            go_wp2_with fail
            refine HS.out.mono ?_
            rintro e w8 ⟨rfl, hf8⟩
            have F8 := Lib.hid (F7.out.tr hf8)
            clear hf8
            go_wp2_with fail
            refine (plive_walk _ (HST.out.old F8.out) (Nat.le_trans hw0 F8.out.size)).mono ?_
            rintro e w9 ⟨rfl, hf9⟩
            have F9 := Lib.hid (F8.out.tr hf9)
            clear hf9
            go_wp2_with fail
            go_ret
            exact ⟨rfl, F9.out⟩
        · obtain ⟨j, own', L2, S7, u7, F7, hd7, hj, hls, hot, hfr7, hfs, hfo, hub⟩ := hB
          have hEN7 : lgEnd to (es.drop j) = lgEnd 0 es := by
            rw [hj]
            refine lgEnd_trim ?_ fun h => ?_
            · by_cases h : es = []
              · left
                rw [h] at hin1 ⊢
                have h9 : lgEnd 0 [] = 0 := rfl
                omega
              · exact .inr h
            · rw [h] at hin1
              have h9 : lgEnd 0 [] = 0 := rfl
              omega
          have hsA := hfA.size
          have hV7 : BatsR (fun b => w5.heap.size ≤ b ∧ b < w6.heap.size) w7 (.slice oa1 (catE es).length cap1) (catE es) := (V1.out.old hfA).fr hfr7 fun b hb h => by have := SLT.out b h; have := SZ5.out; omega
          have EN7 := Lib.hid hEN7
          have D7 := Lib.hid hd7
          have F7' := Lib.hid ((F6.out.tr hfA).trans hfr7 fun i hi => .inr (D6.out.lt hi).1)
          have CF7 := Lib.hid ((CF6.out.fr hfA fun h => h).fr hfr7 fun h => h.elim NN.out.1 NN.out.2.1)
          have V7 := Lib.hid hV7
          have DK7 := Lib.hid (fun i (h : DkS db mb L2 i) => show i < wr.heap.size ∨ w6.heap.size ≤ i from (hfo i h).elim (fun h => .inl (SLT.out i (.inr h))) fun h => .inr (by omega))
          have NC7 := Lib.hid (show ¬ DkS db mb L2 cb from fun h => (hfo cb h).elim NN.out.2.1 fun h => by have := NN.out.2.2; have := SZ5.out; have := SZ6.out; omega)
          have HLS := Lib.hid hls
          have HJ := Lib.hid hj
          have HS := Lib.hid (lstart_walk hd7.lg)
          clear hEN7 hV7 hd7 hfA hj hls hot hfr7 hfs hfo hub hsA HAD D6 F6 CF6 V1
          go_wp2_with fail
          refine HS.out.mono ?_
          rintro e w8 ⟨rfl, hf8⟩
          have D8 := Lib.hid (D7.out.old hf8)
          have F8 := Lib.hid (F7'.out.tr hf8)
          have CF8 := Lib.hid (CF7.out.fr hf8 fun h => h)
          have V8 := Lib.hid (V7.out.old hf8)
          have HC := Lib.hid (crash_any D8.out.dk D8.out.ok D8.out.us none 0 [] (fun i x h => by cases h))
          clear hf8 HS D7 F7' CF7 V7
          go_wp2_with fail
          refine HC.out.mono ?_
          intro e w9 hcp
          have he4 := HEN.out.2
          obtain ⟨c, F9, ts, rfl, -, hf9, hR, hopen⟩ := crash_in D8.out (HST.out.old F8.out) (by omega) 20 60 (by omega) (by omega) (by omega) (by omega) hcp
          have hsd : segsOf (es.drop j) = (segsOf es).drop j := by unfold segsOf; rw [List.map_drop]
          obtain rfl := hR.same HLS.out fun s hs => HNE.out s (by rw [hsd] at hs; exact List.mem_of_mem_drop hs)
          have hpo := popen_walk (hopen (by rw [ssEnd_tag, ← ssEnd_segs, EN7.out]; exact hin1))
          unfold cfgV pS at hpo
          have HPO := Lib.hid hpo
          have F9' := Lib.hid (F8.out.trans hf9 fun i hi => .inr (D8.out.dl i hi))
          have V9 := Lib.hid (V8.out.fr hf9 fun b hb h => by have := DK7.out b h; have := SZ5.out; omega)
          obtain ⟨k0, k1, k2⟩ := CF8.out.fr hf9 NC7.out
          have HSD := Lib.hid hsd
          have DL8 := Lib.hid D8.out.dl
          clear hcp hf9 hR hopen hpo hsd HC D8 F8 CF8 V8
          go_wp2_with fail
          refine HPO.out.mono ?_
          rintro e w10 ⟨lb2, j2, es2, own2, L3, S3, u3, F3, rfl, hd10, hsg10, hj2, how2, hls10, hot10, hS10, hDk10, hf10⟩
          have hj0 : j2 = 0 := by rw [hj2, trimN_tag, HSD.out, HJ.out]; exact trimN_trim _
          subst hj0
          rw [List.drop_zero] at hd10
          have hEN10 : lgEnd to es2 = lgEnd 0 es := by rw [ssEnd_segs, hsg10, ssEnd_tag, ← ssEnd_segs, EN7.out]
          have hcat10 : catE es2 = catE (es.drop j) := by unfold catE; rw [hsg10, tag_cat]
          have EN10 := Lib.hid hEN10
          have CAT10 := Lib.hid hcat10
          have D10 := Lib.hid hd10
          have F10 := Lib.hid (F9'.out.trans hf10 fun i hi => .inr (DL8.out i hi))
          have V10 := Lib.hid (V9.out.fr hf10 fun b hb h => by have := DK7.out b h; have := SZ5.out; omega)
          have HS := Lib.hid (lstart_walk hd10.lg)
          clear hd10 hsg10 hj2 how2 hls10 hot10 hS10 hDk10 hf10 hEN10 hcat10 HPO k0 k1 k2 V9
          go_wp2_with fail
          refine HS.out.mono ?_
          rintro e w11 ⟨rfl, hf11⟩
          have D11 := Lib.hid (D10.out.old hf11)
          have F11 := Lib.hid (F10.out.tr hf11)
          have V11 := Lib.hid (V10.out.old hf11)
          have hle := lend_walk D11.out.lg
          rw [EN10.out] at hle
          have HLE := Lib.hid hle
          clear hf11 hle HS D10 F10 V10
          go_wp2_with fail
          refine HLE.out.mono ?_
          rintro e w12 ⟨rfl, hf12⟩
          have D12 := Lib.hid (D11.out.old hf12)
          have F12 := Lib.hid (F11.out.tr hf12)
          have V12 := Lib.hid (V11.out.old hf12)
          have HR12 := Lib.hid (lread_walk D12.out (HST.out.old F12.out) (to - 1) 9)
          clear hf12 HLE D11 F11 V11
          go_wp2_with fail
          refine HR12.out.mono ?_
          rintro e w13 hp
          have hp' : e = .returned (.tuple #[.slice none 0 0, .int .i64 12]) ∧ Fr (fun _ => False) w12 w13 := by
            rcases hp with ⟨-, h⟩ | ⟨h, -⟩
            · exact h
            · omega
          obtain ⟨rfl, hf13⟩ := hp'
          have D13 := Lib.hid (D12.out.old hf13)
          have F13 := Lib.hid (F12.out.tr hf13)
          have V13 := Lib.hid (V12.out.old hf13)
          have HR13 := Lib.hid (lread_walk D13.out (HST.out.old F13.out) to 1000000)
          clear hp hf13 HR12 D12 F12 V12
          go_wp2_with fail
          refine HR13.out.mono ?_
          rintro e w14 hp
          have hsum14 : sumB (catE es2) ≤ 1000000 := by rw [CAT10.out]; have := cat_drop_sum es j; have := HEN.out.1; omega
          have hpk : pick to 1000000 (catE es2) 0 [] = (catE es).drop (aheadN to (catE es)) := by
            rw [pick_big to 1000000 (catE es2) 0 [] (by omega), List.nil_append, CAT10.out]
            show (catL (segsOf (es.drop j))).filter (over to) = _
            rw [HSD.out, HJ.out, ← filter_trim CHN.out]
            exact filter_ahead RISE.out COK.out
          have hp' : ∃ oa2 cap2, e = .returned (.tuple #[.slice oa2 ((catE es).drop (aheadN to (catE es))).length cap2, .int .i64 0]) ∧ BatsR (fun _ => True) w14 (.slice oa2 ((catE es).drop (aheadN to (catE es))).length cap2) ((catE es).drop (aheadN to (catE es))) ∧ Fr (fun _ => False) w13 w14 := by
            rcases hp with ⟨h, -⟩ | ⟨-, -, v, rfl, hv, hcap, hf⟩
            · rw [EN10.out] at h; omega
            · rw [hpk] at hv
              have hv2 := hv
              obtain ⟨oa2, cap2, rfl, -⟩ := hv2
              exact ⟨oa2, cap2, rfl, hv.mono fun _ _ _ => trivial, hf⟩
          obtain ⟨oa2, cap2, rfl, hv14, hf14⟩ := hp'
          have F14 := Lib.hid (F13.out.tr hf14)
          have V14 := Lib.hid (V13.out.old hf14)
          have U14 := Lib.hid hv14
          clear hp hsum14 hpk hv14 hf14 HR13 D13 F13 V13 EN10 CAT10 HSD HJ HLS EN7 DK7 NC7 CHN RISE HEN HNE NN SLT
          obtain ⟨C, hC⟩ : ∃ C, C = catE es := ⟨_, rfl⟩
          obtain ⟨A, hA⟩ : ∃ A, A = aheadN to C := ⟨_, rfl⟩
          rw [← hC] at V14 U14 COK HCAP HC16 ⊢
          rw [← hA] at U14 ⊢
          have HA := Lib.hid hA
          have hAl : A ≤ C.length := by rw [hA]; exact ahead_le _ _
          obtain ⟨m2, hm2⟩ : ∃ m2, m2 = (C.drop A).length := ⟨_, rfl⟩
          rw [← hm2] at U14 ⊢
          have hd100 : (C.drop A).length ≤ 100 := by rw [List.length_drop]; have := HC16.out; omega
          have HD := Lib.hid (And.intro hd100 (small_ok (l := C.drop A) fun b hb => COK.out b (List.mem_of_mem_drop hb)))
          have hc16 := HC16.out
          clear hC hA hm2 hd100
          go_wp2_with fail
          go_loopw [22] (fun i wq => ∃ q : Nat, i = .int .i64 q ∧ q ≤ A ∧ Fr (fun _ => False) w14 wq) (fun i _ => A - (intOf i).toNat)
          case atStart => exact ⟨0, rfl, Nat.zero_le _, Fr.same _⟩
          case round =>
            obtain ⟨q, rfl, hq, hf⟩ := hrel
            have FQ0 := Lib.hid hf
            have VQ := Lib.hid (V14.out.old hf)
            clear hf
            rcases Nat.lt_or_ge q C.length with hqc | hqc
            · obtain ⟨b, hb⟩ := get_of_lt hqc
              obtain ⟨oa3, cap3, hva, hvk⟩ := VQ.out
              obtain ⟨A2, rv, ha2, -, hc, hr⟩ := hvk q b hb
              subst ha2
              injection hva with h1 h2 h3
              subst h1
              subst h3
              clear h2 hvk hr
              have hok := COK.out b (List.mem_of_getElem? hb)
              have hb0 := hok.base0
              have hb1 := hok.base1
              have hs0 := hok.span0
              have hs1 := hok.span1
              have z0 : ∀ y : Lcl.InS (fun w' => Fr (fun _ => False) wr w'), y.w.cell? (A2.add (q * 6)) = some (.int .i64 b.base) := fun y => y.h.cel hc.c0
              have z1 : ∀ y : Lcl.InS (fun w' => Fr (fun _ => False) wr w'), y.w.cell? ⟨(A2.add (q * 6)).block, (A2.add (q * 6)).off + 1, none⟩ = some (.int .i64 b.span) := fun y => y.h.cel hc.c1
              have hbi := Lib.hid hb
              clear hc hok hb
              rcases Nat.lt_or_ge q A with hqA | hqA
              · have hle : b.base + b.span ≤ to := ahead_in hbi.out (by rw [← HA.out]; exact hqA)
                have FD := Lib.hid FQ0.out.drew
                go_wp2_with fail
                refine Lcl.wp_region_calm (by kernel_rfl) [(true, [0, 1, 2, 3, 4, 5, 6, 7, 8, 10, 11, 12, 13, 16]), (false, [9, 14]), (true, [15, 17, 18])] #[0, 0, 2, 7, 15, 31, 31, 127, 255, 511, 31, 31, 3103, 7199, 15391, 32767, 31, 131071, 262143] [0, 1, 2, 3, 4, 5, 6, 7, 8, 9, 10, 11, 12, 13, 14, 16] 0 #[true, true, true, true, true, true, true, true, true, true, true, true, true, true, true, true, true, true, true] (by kernel_rfl) (by kernel_rfl) (by kernel_rfl) (fun w' => Fr (fun _ => False) wr w') (Fr.same wr).drew (fun d c a v w h => by cases d <;> exact h) ?_
                simp only [Lcl.opsOf, List.map_cons, List.map_nil, List.getElem?_toArray, List.getElem?_cons_succ, List.getElem?_cons_zero, Option.getD_some]
                refine Lcl.wpCalm_t ?_
                repeat (go_big_quiet_step (rfl))
                refine wpQuiet_nil ?_
                refine Lcl.wpCalm_f ?_
                repeat (go_big_quiet_step (rfl))
                refine wpQuiet_nil ?_
                refine Lcl.wpCalm_t ?_
                repeat (go_big_quiet_step (rfl))
                refine wpQuiet_nil ?_
                refine Lcl.wpCalm_nil ?_
                refine Lcl.wpG_run [] _ _ _ (by kernel_rfl) ?_
                simp only [List.map_cons, List.map_nil, List.getElem?_toArray, List.getElem?_cons_succ, List.getElem?_cons_zero, Option.getD_some]
                go_wp2_with fail
                go_roundw
                case rel => exact ⟨q + 1, by go_num, hqA, FD.out⟩
                case measure => simp [intOf]; omega
              · obtain rfl : q = A := by omega
                have hno : ¬ b.base + b.span ≤ to := ahead_out (l := C) (by rw [← HA.out]; exact hbi.out)
                have hsl := bats_drop VQ.out q (cap1 - q)
                rw [List.length_drop] at hsl
                have FQ := Lib.hid (F14.out.trans FQ0.out.drew fun i h => h.elim)
                have HSA := Lib.hid (same_bats _ _ (C.drop q) _ _ _ (U14.out.old FQ0.out.drew) (hsl.old (Fr.same wr).drew) HD.out.1 HD.out.2)
                have hcr : ¬ cap1 = q := by have := HCAP.out; omega
                have hcr2 : q ≤ cap1 := by have := HCAP.out; omega
                clear hsl FQ0 VQ hqA
                go_wp2_with fail
                refine Lcl.wp_region_calm (by kernel_rfl) [(true, [0, 1, 2, 3, 4, 5, 6, 7, 8, 10, 11, 12, 13, 16]), (false, [9, 14]), (true, [15, 17, 18])] #[0, 0, 2, 7, 15, 31, 31, 127, 255, 511, 31, 31, 3103, 7199, 15391, 32767, 31, 131071, 262143] [0, 1, 2, 3, 4, 5, 6, 7, 8, 9, 10, 11, 12, 13, 14, 16] 0 #[true, true, true, true, true, true, true, true, true, true, true, true, true, true, true, true, true, true, true] (by kernel_rfl) (by kernel_rfl) (by kernel_rfl) (fun w' => Fr (fun _ => False) wr w') (Fr.same wr).drew (fun d c a v w h => by cases d <;> exact h) ?_
                simp only [Lcl.opsOf, List.map_cons, List.map_nil, List.getElem?_toArray, List.getElem?_cons_succ, List.getElem?_cons_zero, Option.getD_some]
                refine Lcl.wpCalm_t ?_
                repeat (go_big_quiet_step (rfl))
                refine wpQuiet_nil ?_
                refine Lcl.wpCalm_f ?_
                repeat (go_big_quiet_step (rfl))
                refine wpQuiet_nil ?_
                refine Lcl.wpCalm_t ?_
                repeat (go_big_quiet_step (rfl))
                refine wpQuiet_nil ?_
                refine Lcl.wpCalm_nil ?_
                refine Lcl.wpG_run [] _ _ _ (by kernel_rfl) ?_
                simp only [List.map_cons, List.map_nil, List.getElem?_toArray, List.getElem?_cons_succ, List.getElem?_cons_zero, Option.getD_some]
                go_wp2_with fail
                refine HSA.out.mono ?_
                rintro e w15 ⟨rfl, hf15⟩
                have F15 := Lib.hid (FQ.out.tr hf15)
                clear hf15 HSA
                go_wp2_with fail
                refine (plive_walk _ (HST.out.old F15.out) (Nat.le_trans hw0 F15.out.size)).mono ?_
                rintro e w16 ⟨rfl, hf16⟩
                have F16 := Lib.hid (F15.out.tr hf16)
                clear hf16
                go_wp2_with fail
                go_ret
                exact ⟨rfl, F16.out⟩
            · have hqe : q = C.length := by omega
              obtain rfl : A = q := by omega
              have hun := U14.out
              have hdn : C.drop A = [] := List.drop_eq_nil_of_le hqc
              rw [hdn] at hun
              have UNIL := Lib.hid hun
              have hss : C.length - A = 0 := by omega
              have hlt0 : ¬ (A : Int) < (C.length : Int) := by omega
              have hcle := HCAP.out
              have hcr2 : A ≤ cap1 := by omega
              have FQ := Lib.hid (F14.out.trans FQ0.out.drew fun i h => h.elim)
              clear hun hqc VQ V14 hdn hqe hcle
              cases oa1 with
              | none =>
                have HSA := Lib.hid (same_bats (fun _ => True) (fun _ => True) [] _ _ _ (UNIL.out.old FQ0.out.drew) (bats_none none (cap1 - A)) (by simp) (fun x hx => (by cases hx)))
                clear FQ0
                go_wp2_with fail
                have hltN : ¬ A < C.length := by omega
                have hdec : decide ((A : Int) < (C.length : Int)) = false := decide_eq_false (by omega)
                refine Lcl.wp_region_calm (by kernel_rfl) [(true, [0, 1, 2, 3, 4, 5, 6, 7, 8, 10, 11, 12, 13, 16]), (false, [9, 14]), (true, [15, 17, 18])] #[0, 0, 2, 7, 15, 31, 31, 127, 255, 511, 31, 31, 3103, 7199, 15391, 32767, 31, 131071, 262143] [0, 1, 2, 3, 4, 5, 6, 7, 8, 9, 10, 11, 12, 13, 14, 16] 0 #[true, true, true, true, true, true, true, true, true, true, true, true, true, true, true, true, true, true, true] (by kernel_rfl) (by kernel_rfl) (by kernel_rfl) (fun w' => Fr (fun _ => False) wr w') (Fr.same wr).drew (fun d c a v w h => by cases d <;> exact h) ?_
                simp only [Lcl.opsOf, List.map_cons, List.map_nil, List.getElem?_toArray, List.getElem?_cons_succ, List.getElem?_cons_zero, Option.getD_some]
                refine Lcl.wpCalm_t ?_
                repeat (go_big_quiet_step (rfl))
                refine wpQuiet_nil ?_
                refine Lcl.wpCalm_f ?_
                repeat (go_big_quiet_step (rfl))
                refine wpQuiet_nil ?_
                refine Lcl.wpCalm_t ?_
                repeat (go_big_quiet_step (rfl))
                refine wpQuiet_nil ?_
                refine Lcl.wpCalm_nil ?_
                refine Lcl.wpG_run [] _ _ _ (by kernel_rfl) ?_
                simp only [List.map_cons, List.map_nil, List.getElem?_toArray, List.getElem?_cons_succ, List.getElem?_cons_zero, Option.getD_some]
                go_wp2_with fail
                refine HSA.out.mono ?_
                rintro e w15 ⟨rfl, hf15⟩
                have F15 := Lib.hid (FQ.out.tr hf15)
                clear hf15 HSA
                go_wp2_with fail
                refine (plive_walk _ (HST.out.old F15.out) (Nat.le_trans hw0 F15.out.size)).mono ?_
                rintro e w16 ⟨rfl, hf16⟩
                have F16 := Lib.hid (F15.out.tr hf16)
                clear hf16
                go_wp2_with fail
                go_ret
                exact ⟨rfl, F16.out⟩
              | some a =>
                by_cases hcr : cap1 = A
                · go_wp2_with fail
                  have hltN : ¬ A < C.length := by omega
                  have hdec : decide ((A : Int) < (C.length : Int)) = false := decide_eq_false (by omega)
                  refine Lcl.wp_region_calm (by kernel_rfl) [(true, [0, 1, 2, 3, 4, 5, 6, 7, 8, 10, 11, 12, 13, 16]), (false, [9, 14]), (true, [15, 17, 18])] #[0, 0, 2, 7, 15, 31, 31, 127, 255, 511, 31, 31, 3103, 7199, 15391, 32767, 31, 131071, 262143] [0, 1, 2, 3, 4, 5, 6, 7, 8, 9, 10, 11, 12, 13, 14, 16] 0 #[true, true, true, true, true, true, true, true, true, true, true, true, true, true, true, true, true, true, true] (by kernel_rfl) (by kernel_rfl) (by kernel_rfl) (fun w' => Fr (fun _ => False) wr w') (Fr.same wr).drew (fun d c a v w h => by cases d <;> exact h) ?_
                  simp only [Lcl.opsOf, List.map_cons, List.map_nil, List.getElem?_toArray, List.getElem?_cons_succ, List.getElem?_cons_zero, Option.getD_some]
                  refine Lcl.wpCalm_t ?_
                  repeat (go_big_quiet_step (rfl))
                  refine wpQuiet_nil ?_
                  refine Lcl.wpCalm_f ?_
                  repeat (go_big_quiet_step (rfl))
                  refine wpQuiet_nil ?_
                  refine Lcl.wpCalm_t ?_
                  repeat (go_big_quiet_step (rfl))
                  refine wpQuiet_nil ?_
                  refine Lcl.wpCalm_nil ?_
                  refine Lcl.wpG_run [] _ _ _ (by kernel_rfl) ?_
                  simp only [List.map_cons, List.map_nil, List.getElem?_toArray, List.getElem?_cons_succ, List.getElem?_cons_zero, Option.getD_some]
                  go_wp2_with fail
                  refine (same_bats (fun _ => True) (fun _ => True) [] _ _ _ (UNIL.out.old FQ0.out.drew) (bats_none _ _) (by simp) (fun x hx => (by cases hx))).mono ?_
                  rintro e w15 ⟨rfl, hf15⟩
                  have F15 := Lib.hid (FQ.out.tr hf15)
                  clear hf15
                  go_wp2_with fail
                  refine (plive_walk _ (HST.out.old F15.out) (Nat.le_trans hw0 F15.out.size)).mono ?_
                  rintro e w16 ⟨rfl, hf16⟩
                  have F16 := Lib.hid (F15.out.tr hf16)
                  clear hf16
                  go_wp2_with fail
                  go_ret
                  exact ⟨rfl, F16.out⟩
                · have HSA := Lib.hid (same_bats (fun _ => True) (fun _ => True) [] _ _ _ (UNIL.out.old FQ0.out.drew) (bats_none (some (a.add (A * 6))) (cap1 - A)) (by simp) (fun x hx => (by cases hx)))
                  clear FQ0
                  go_wp2_with fail
                  have hltN : ¬ A < C.length := by omega
                  have hdec : decide ((A : Int) < (C.length : Int)) = false := decide_eq_false (by omega)
                  refine Lcl.wp_region_calm (by kernel_rfl) [(true, [0, 1, 2, 3, 4, 5, 6, 7, 8, 10, 11, 12, 13, 16]), (false, [9, 14]), (true, [15, 17, 18])] #[0, 0, 2, 7, 15, 31, 31, 127, 255, 511, 31, 31, 3103, 7199, 15391, 32767, 31, 131071, 262143] [0, 1, 2, 3, 4, 5, 6, 7, 8, 9, 10, 11, 12, 13, 14, 16] 0 #[true, true, true, true, true, true, true, true, true, true, true, true, true, true, true, true, true, true, true] (by kernel_rfl) (by kernel_rfl) (by kernel_rfl) (fun w' => Fr (fun _ => False) wr w') (Fr.same wr).drew (fun d c a v w h => by cases d <;> exact h) ?_
                  simp only [Lcl.opsOf, List.map_cons, List.map_nil, List.getElem?_toArray, List.getElem?_cons_succ, List.getElem?_cons_zero, Option.getD_some]
                  refine Lcl.wpCalm_t ?_
                  repeat (go_big_quiet_step (rfl))
                  refine wpQuiet_nil ?_
                  refine Lcl.wpCalm_f ?_
                  repeat (go_big_quiet_step (rfl))
                  refine wpQuiet_nil ?_
                  refine Lcl.wpCalm_t ?_
                  repeat (go_big_quiet_step (rfl))
                  refine wpQuiet_nil ?_
                  refine Lcl.wpCalm_nil ?_
                  refine Lcl.wpG_run [] _ _ _ (by kernel_rfl) ?_
                  simp only [List.map_cons, List.map_nil, List.getElem?_toArray, List.getElem?_cons_succ, List.getElem?_cons_zero, Option.getD_some]
                  go_wp2_with fail
                  refine HSA.out.mono ?_
                  rintro e w15 ⟨rfl, hf15⟩
                  have F15 := Lib.hid (FQ.out.tr hf15)
                  clear hf15 HSA
                  go_wp2_with fail
                  refine (plive_walk _ (HST.out.old F15.out) (Nat.le_trans hw0 F15.out.size)).mono ?_
                  rintro e w16 ⟨rfl, hf16⟩
                  have F16 := Lib.hid (F15.out.tr hf16)
                  clear hf16
                  go_wp2_with fail
                  go_ret
                  exact ⟨rfl, F16.out⟩
end
end Go.Proofs.YtdlnafhhkpklmaaGreatDoor
