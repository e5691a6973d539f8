/- Filters of any make: Check; the document's Size and Depth. -/
import Derived.Test.YtfdhofabgdkkkaaGreatDoorU42
namespace Go.Proofs.YtfdhofabgdkkkaaGreatDoor
open Go.RowKit Go.Fm Go.BigFrame Go.Shelf Go.Maps
set_option linter.unusedVariables false
set_option linter.unusedSimpArgs false
set_option maxRecDepth 100000
section
variable {w w' : World} {S : Nat → Prop} {K : Nat → Prop}
noncomputable def checkB (op : Int) (nm vl : ByteArray) (ks : Fst) : Bool := decide (capF ks 1 ≤ 30) && partB op nm vl ks 6
def OkPost (b : Bool) (w : World) (e : Ending) (w' : World) : Prop := e = .returned (.int .i64 (if b then 0 else 1)) ∧ Fr (fun _ => False) w w'
set_option maxHeartbeats 16000000 in
theorem xcheck_walk (op : Int) (nm vl : ByteArray) (kv : Value) (ks : Fst) (hk : KidR K w kv ks) (ho : ∀ i, K i → i < w.heap.size) : Calls Tryz.prog 19 #[exV op nm vl kv] w (OkPost (checkB op nm vl ks) w) := by
 obtain ⟨oa, cap, rfl, -⟩ := id hk
 have f1 := (Fr.same w).alloc (.cells #[.int .i64 op, .string nm, .string vl, .slice oa ks.len cap] 38)
 have SZ := Lib.hid (xsize_walk op nm vl _ ks (hk.old f1) fun i hi => Nat.lt_of_lt_of_le (ho i hi) f1.size)
 have KW := Lib.hid hk
 have F1 := Lib.hid f1
 have X1 := Lib.hid (heap_alloc_self w (.cells #[.int .i64 op, .string nm, .string vl, .slice oa ks.len cap] 38))
 have dx := cell_alloc_new w #[.int .i64 op, .string nm, .string vl, .slice oa ks.len cap] 38
 unfold exV at SZ ⊢
 clear f1 hk
 by_cases h30 : capF ks 1 ≤ 30
 ·have h30' : ((capF ks 1 : Nat) : Int) ≤ 30 := by omega
  go_enter Tryz.func19, Tryz.ntmps19
  go_wp2_with fail
  generalize (w.alloc (.cells #[.int .i64 op, .string nm, .string vl, .slice oa ks.len cap] 38)) = w1 at *
  refine SZ.out.mono ?_
  rintro e w2 ⟨rfl, f2⟩
  have F2 := Lib.hid (F1.out.tr f2)
  have X2 := Lib.hid (blk X1.out f2 fun h => h)
  have AW := Lib.hid (all_walk 6 ks op nm vl _ w2 (by omega) (KW.out.old F2.out) fun i hi => Nat.lt_of_lt_of_le (ho i hi) F2.out.size)
  unfold exV at AW
  clear f2 SZ dx
  have dx := cell_of X2.out
  go_wp2_with fail
  refine AW.out.mono ?_
  rintro e w3 ⟨rfl, f3⟩
  have F3 := Lib.hid (F2.out.tr f3)
  clear f3 AW dx
  obtain ⟨pb, hpb⟩ : ∃ pb, pb = partB op nm vl ks 6 := ⟨_, rfl⟩
  rw [← hpb]
  have HPB := Lib.hid hpb
  clear hpb
  have E1 := Lib.hid (show checkB op nm vl ks = pb by unfold checkB; rw [decide_eq_true h30, ← HPB.out]; rfl)
  cases pb
  ·go_wp2_with fail
   go_ret
   exact ⟨by rw [E1.out]; rfl, F3.out⟩
  ·go_wp2_with fail
   go_ret
   exact ⟨by rw [E1.out]; rfl, F3.out⟩
 ·have h30' : 30 < ((capF ks 1 : Nat) : Int) := by omega
  have e1 : checkB op nm vl ks = false := by unfold checkB; rw [decide_eq_false h30]; rfl
  rw [e1]
  clear e1
  go_enter Tryz.func19, Tryz.ntmps19
  go_wp2_with fail
  refine SZ.out.mono ?_
  rintro e w2 ⟨rfl, f2⟩
  have F2 := Lib.hid (F1.out.tr f2)
  clear f2 SZ dx
  go_wp2_with fail
  go_ret
  exact ⟨rfl, F2.out⟩
/-- The document's count of parts: of those side by side, so much left to count, so deep at most. -/
def sizeK : Fst → Nat → Nat → Nat → Nat
 | .nil, n, _, _ => n
 | .cons _ _ _ ks r, n, left, deep => if n < left ∧ 1 < deep then sizeK r (n + sizeK ks 1 (left - n) (deep - 1)) left deep else n
theorem sizeK_cons (op : Int) (nm vl : ByteArray) (ks r : Fst) (n left deep : Nat) : sizeK (.cons op nm vl ks r) n left deep = if n < left ∧ 1 < deep then sizeK r (n + sizeK ks 1 (left - n) (deep - 1)) left deep else n := rfl
theorem sizeK_le : ∀ (F : Fst) (n left deep : Nat), n ≤ left → 1 ≤ left → sizeK F n left deep ≤ left
 | .nil, n, left, deep, h, _ => h
 | .cons _ _ _ ks r, n, left, deep, h, h1 => by
  unfold sizeK
  split
  ·have := sizeK_le ks 1 (left - n) (deep - 1) (by omega) (by omega)
   exact sizeK_le r _ left deep (by omega) h1
  ·exact h
theorem sizeK_ge : ∀ (F : Fst) (n left deep : Nat), n ≤ sizeK F n left deep
 | .nil, n, left, deep => Nat.le_refl _
 | .cons _ _ _ ks r, n, left, deep => by
  unfold sizeK
  split
  ·exact Nat.le_trans (Nat.le_add_right _ _) (sizeK_ge r _ left deep)
  ·exact Nat.le_refl _
def NumPost (n : Nat) (w : World) (e : Ending) (w' : World) : Prop := e = .returned (.int .i64 (n : Int)) ∧ Fr (fun _ => False) w w'
set_option maxHeartbeats 32000000 in
theorem rsize_walk (m : Nat) : ∀ (ks : Fst) (op : Int) (nm vl : ByteArray) (kv : Value) (left deep : Nat) (w : World), ks.sz < m → 1 ≤ left → left ≤ 100 → 1 ≤ deep → deep ≤ 100 → KidR K w kv ks → (∀ i, K i → i < w.heap.size) →
  Calls Tryz.prog 89 #[exV op nm vl kv, .int .i64 left, .int .i64 deep] w (NumPost (sizeK ks 1 left deep) w) := by
 induction m with
 | zero => intro ks op nm vl kv left deep w h; omega
 | succ m ih =>
  intro ks op nm vl kv left deep w hm hl1 hl2 hd1 hd2 hk ho
  obtain ⟨oa, cap, rfl, -⟩ := id hk
  have F1 := Lib.hid ((Fr.same w).alloc (.cells #[.int .i64 op, .string nm, .string vl, .slice oa ks.len cap] 38))
  have X1 := Lib.hid (heap_alloc_self w (.cells #[.int .i64 op, .string nm, .string vl, .slice oa ks.len cap] 38))
  have KW := Lib.hid hk
  have HM := Lib.hid hm
  unfold exV
  clear hk hm
  go_enter Tryz.func89, Tryz.ntmps89
  go_wp2_with fail
  generalize (w.alloc (.cells #[.int .i64 op, .string nm, .string vl, .slice oa ks.len cap] 38)) = w1 at *
  go_loopw [7, 8] (fun n i wr => ∃ k n' : Nat, i = .int .i64 k ∧ n = .int .i64 n' ∧ k ≤ ks.len ∧ 1 + k ≤ n' ∧ n' ≤ left ∧ sizeK (ks.drop k) n' left deep = sizeK ks 1 left deep ∧ Fr (fun _ => False) w1 wr) (fun _ i _ => ks.len - (intOf i).toNat)
  case atStart => exact ⟨0, 1, rfl, rfl, Nat.zero_le _, by omega, hl1, by rw [Fst.drop_zero], Fr.same _⟩
  case round =>
   obtain ⟨k, n', rfl, rfl, hk, hn1, hn2, hs, hF⟩ := hrel
   have FF := Lib.hid (F1.out.tr hF)
   have FW := Lib.hid hF
   have XX := Lib.hid (blk X1.out hF fun h => h)
   have SS := Lib.hid hs
   have dx := cell_of XX.out
   clear hF hs
   rcases Nat.lt_or_ge k ks.len with hlt | hge
   ·obtain ⟨op1, nm1, vl1, xs, hd, hsz⟩ := ks.drop_at k hlt
    have HD := Lib.hid hd
    by_cases hgo : n' < left ∧ 1 < deep
    ·obtain ⟨hg1, hg2⟩ := hgo
     have hg1' : (n' : Int) < left := by omega
     have hg2' : 1 < (deep : Int) := by omega
     obtain ⟨a, kv1, rfl, hKa, hpt, hkid⟩ := (KW.out.old FF.out).at hd hlt
     obtain ⟨c0, c1, c2, c3⟩ := hpt
     obtain ⟨oa1, cap1, rfl, -⟩ := id hkid
     have IH := Lib.hid (ih xs op1 nm1 vl1 _ (left - n') (deep - 1) wr (by have := HM.out; omega) (by omega) (by omega) (by omega) (by omega) hkid fun i hi => Nat.lt_of_lt_of_le (ho i hi) FF.out.size)
     have e1 : ((left - n' : Nat) : Int) = (left : Int) - n' := by omega
     have e2 : ((deep - 1 : Nat) : Int) = (deep : Int) - 1 := by omega
     rw [e1, e2] at IH
     unfold exV at IH
     have hle := sizeK_le xs 1 (left - n') (deep - 1) (by omega) (by omega)
     have hge := sizeK_ge xs 1 (left - n') (deep - 1)
     obtain ⟨r, hr⟩ : ∃ r, r = sizeK xs 1 (left - n') (deep - 1) := ⟨_, rfl⟩
     rw [← hr] at IH hle hge
     have HR := Lib.hid hr
     clear hkid hd e1 e2 hr
     go_wp2_with fail
     refine IH.out.mono ?_
     rintro e w4 ⟨rfl, f4⟩
     have F4 := Lib.hid ((FW.out.tr f4))
     clear f4 IH dx c0 c1 c2 c3
     go_wp2_with fail
     go_roundw
     case rel =>
      have e := SS.out
      rw [HD.out, sizeK_cons, if_pos ⟨hg1, hg2⟩, ← HR.out] at e
      exact ⟨k + 1, n' + r, by go_num, by go_num, by omega, by omega, by omega, e, F4.out⟩
     case measure => simp [intOf]; omega
    ·have e := SS.out
     rw [HD.out, sizeK_cons, if_neg hgo] at e
     have E := Lib.hid e
     clear e hd
     by_cases hg1 : n' < left
     ·have hg2' : (deep : Int) ≤ 1 := by omega
      have hg1' : (n' : Int) < left := by omega
      go_wp2_with fail
      go_ret
      exact ⟨by rw [← E.out]; rfl, FF.out⟩
     ·have hg1' : (left : Int) ≤ n' := by omega
      go_wp2_with fail
      go_ret
      exact ⟨by rw [← E.out]; rfl, FF.out⟩
   ·obtain rfl : k = ks.len := by omega
    have e := SS.out
    rw [Fst.drop_end] at e
    have E := Lib.hid e
    clear e
    go_wp2_with fail
    go_ret
    exact ⟨by rw [← E.out]; rfl, FF.out⟩
end
end Go.Proofs.YtfdhofabgdkkkaaGreatDoor
