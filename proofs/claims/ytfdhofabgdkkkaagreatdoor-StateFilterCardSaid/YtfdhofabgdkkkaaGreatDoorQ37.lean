/- Filters of any make: Check; the document's Size and Depth. -/
import Derived.Test.YtfdhofabgdkkkaaGreatDoorQ36
import Derived.Lib.AppendStr
namespace Go.Proofs.YtfdhofabgdkkkaaGreatDoor
open Go.RowKit Go.Fm Go.BigFrame Go.Shelf Go.Maps
set_option linter.unusedVariables false
set_option linter.unusedSimpArgs false
set_option maxRecDepth 100000
section
variable {w w' : World} {S : Nat → Prop} {K : Nat → Prop}
noncomputable def checkB (op : Int) (nm vl : ByteArray) (ks : Fst) : Bool := decide (capF ks 1 ≤ 30) && partB op nm vl ks 6
def OkPost (b : Bool) (w : World) (e : Ending) (w' : World) : Prop := e = .returned (.int .i64 (if b then 0 else 1)) ∧ Fr (fun _ => False) w w'
set_option maxHeartbeats 16000000 in
theorem xcheck_walk (op : Int) (nm vl : ByteArray) (kv : Value) (ks : Fst) (hk : KidR K w kv ks) (ho : ∀ i, K i → i < w.heap.size) : Calls Tryz.prog 19 #[exV op nm vl kv] w (OkPost (checkB op nm vl ks) w) := by
 obtain ⟨oa, cap, rfl, -⟩ := id hk
 have f1 := (Fr.same w).alloc (.cells #[.int .i64 op, .string nm, .string vl, .slice oa ks.len cap] 38)
 have SZ := Lib.hid (xsize_walk op nm vl _ ks (hk.old f1) fun i hi => Nat.lt_of_lt_of_le (ho i hi) f1.size)
 have KW := Lib.hid hk
 have F1 := Lib.hid f1
 have X1 := Lib.hid (heap_alloc_self w (.cells #[.int .i64 op, .string nm, .string vl, .slice oa ks.len cap] 38))
 have dx := cell_alloc_new w #[.int .i64 op, .string nm, .string vl, .slice oa ks.len cap] 38
 unfold exV at SZ ⊢
 clear f1 hk
 by_cases h30 : capF ks 1 ≤ 30
 ·have h30' : ((capF ks 1 : Nat) : Int) ≤ 30 := by omega
  go_enter Tryz.func19, Tryz.ntmps19
  go_wp2_with fail
  generalize (w.alloc (.cells #[.int .i64 op, .string nm, .string vl, .slice oa ks.len cap] 38)) = w1 at *
  refine SZ.out.mono ?_
  rintro e w2 ⟨rfl, f2⟩
  have F2 := Lib.hid (F1.out.tr f2)
  have X2 := Lib.hid (blk X1.out f2 fun h => h)
  have AW := Lib.hid (all_walk 6 ks op nm vl _ w2 (by omega) (KW.out.old F2.out) fun i hi => Nat.lt_of_lt_of_le (ho i hi) F2.out.size)
  unfold exV at AW
  clear f2 SZ dx
  have dx := cell_of X2.out
  go_wp2_with fail
  refine AW.out.mono ?_
  rintro e w3 ⟨rfl, f3⟩
  have F3 := Lib.hid (F2.out.tr f3)
  clear f3 AW dx
  obtain ⟨pb, hpb⟩ : ∃ pb, pb = partB op nm vl ks 6 := ⟨_, rfl⟩
  rw [← hpb]
  have HPB := Lib.hid hpb
  clear hpb
  have E1 := Lib.hid (show checkB op nm vl ks = pb by unfold checkB; rw [decide_eq_true h30, ← HPB.out]; rfl)
  cases pb
  ·go_wp2_with fail
   go_ret
   exact ⟨by rw [E1.out]; rfl, F3.out⟩
  ·go_wp2_with fail
   go_ret
   exact ⟨by rw [E1.out]; rfl, F3.out⟩
 ·have h30' : 30 < ((capF ks 1 : Nat) : Int) := by omega
  have e1 : checkB op nm vl ks = false := by unfold checkB; rw [decide_eq_false h30]; rfl
  rw [e1]
  clear e1
  go_enter Tryz.func19, Tryz.ntmps19
  go_wp2_with fail
  refine SZ.out.mono ?_
  rintro e w2 ⟨rfl, f2⟩
  have F2 := Lib.hid (F1.out.tr f2)
  clear f2 SZ dx
  go_wp2_with fail
  go_ret
  exact ⟨rfl, F2.out⟩
/-- The document's count of parts: of those side by side, so much left to count, so deep at most. -/
def sizeK : Fst → Nat → Nat → Nat → Nat
 | .nil, n, _, _ => n
 | .cons _ _ _ ks r, n, left, deep => if n < left ∧ 1 < deep then sizeK r (n + sizeK ks 1 (left - n) (deep - 1)) left deep else n
theorem sizeK_cons (op : Int) (nm vl : ByteArray) (ks r : Fst) (n left deep : Nat) : sizeK (.cons op nm vl ks r) n left deep = if n < left ∧ 1 < deep then sizeK r (n + sizeK ks 1 (left - n) (deep - 1)) left deep else n := rfl
theorem sizeK_le : ∀ (F : Fst) (n left deep : Nat), n ≤ left → 1 ≤ left → sizeK F n left deep ≤ left
 | .nil, n, left, deep, h, _ => h
 | .cons _ _ _ ks r, n, left, deep, h, h1 => by
  unfold sizeK
  split
  ·have := sizeK_le ks 1 (left - n) (deep - 1) (by omega) (by omega)
   exact sizeK_le r _ left deep (by omega) h1
  ·exact h
theorem sizeK_ge : ∀ (F : Fst) (n left deep : Nat), n ≤ sizeK F n left deep
 | .nil, n, left, deep => Nat.le_refl _
 | .cons _ _ _ ks r, n, left, deep => by
  unfold sizeK
  split
  ·exact Nat.le_trans (Nat.le_add_right _ _) (sizeK_ge r _ left deep)
  ·exact Nat.le_refl _
def NumPost (n : Nat) (w : World) (e : Ending) (w' : World) : Prop := e = .returned (.int .i64 (n : Int)) ∧ Fr (fun _ => False) w w'
set_option maxHeartbeats 32000000 in
theorem rsize_walk (m : Nat) : ∀ (ks : Fst) (op : Int) (nm vl : ByteArray) (kv : Value) (left deep : Nat) (w : World), ks.sz < m → 1 ≤ left → left ≤ 100 → 1 ≤ deep → deep ≤ 100 → KidR K w kv ks → (∀ i, K i → i < w.heap.size) →
  Calls Tryz.prog 89 #[exV op nm vl kv, .int .i64 left, .int .i64 deep] w (NumPost (sizeK ks 1 left deep) w) := by
 induction m with
 | zero => intro ks op nm vl kv left deep w h; omega
 | succ m ih =>
  intro ks op nm vl kv left deep w hm hl1 hl2 hd1 hd2 hk ho
  obtain ⟨oa, cap, rfl, -⟩ := id hk
  have F1 := Lib.hid ((Fr.same w).alloc (.cells #[.int .i64 op, .string nm, .string vl, .slice oa ks.len cap] 38))
  have X1 := Lib.hid (heap_alloc_self w (.cells #[.int .i64 op, .string nm, .string vl, .slice oa ks.len cap] 38))
  have KW := Lib.hid hk
  have HM := Lib.hid hm
  unfold exV
  clear hk hm
  go_enter Tryz.func89, Tryz.ntmps89
  go_wp2_with fail
  generalize (w.alloc (.cells #[.int .i64 op, .string nm, .string vl, .slice oa ks.len cap] 38)) = w1 at *
  go_loopw [7, 8] (fun n i wr => ∃ k n' : Nat, i = .int .i64 k ∧ n = .int .i64 n' ∧ k ≤ ks.len ∧ 1 + k ≤ n' ∧ n' ≤ left ∧ sizeK (ks.drop k) n' left deep = sizeK ks 1 left deep ∧ Fr (fun _ => False) w1 wr) (fun _ i _ => ks.len - (intOf i).toNat)
  case atStart => exact ⟨0, 1, rfl, rfl, Nat.zero_le _, by omega, hl1, by rw [Fst.drop_zero], Fr.same _⟩
  case round =>
   obtain ⟨k, n', rfl, rfl, hk, hn1, hn2, hs, hF⟩ := hrel
   have FF := Lib.hid (F1.out.tr hF)
   have FW := Lib.hid hF
   have XX := Lib.hid (blk X1.out hF fun h => h)
   have SS := Lib.hid hs
   have dx := cell_of XX.out
   clear hF hs
   rcases Nat.lt_or_ge k ks.len with hlt | hge
   ·obtain ⟨op1, nm1, vl1, xs, hd, hsz⟩ := ks.drop_at k hlt
    have HD := Lib.hid hd
    by_cases hgo : n' < left ∧ 1 < deep
    ·obtain ⟨hg1, hg2⟩ := hgo
     have hg1' : (n' : Int) < left := by omega
     have hg2' : 1 < (deep : Int) := by omega
     obtain ⟨a, kv1, rfl, hKa, hpt, hkid⟩ := (KW.out.old FF.out).at hd hlt
     obtain ⟨c0, c1, c2, c3⟩ := hpt
     obtain ⟨oa1, cap1, rfl, -⟩ := id hkid
     have IH := Lib.hid (ih xs op1 nm1 vl1 _ (left - n') (deep - 1) wr (by have := HM.out; omega) (by omega) (by omega) (by omega) (by omega) hkid fun i hi => Nat.lt_of_lt_of_le (ho i hi) FF.out.size)
     have e1 : ((left - n' : Nat) : Int) = (left : Int) - n' := by omega
     have e2 : ((deep - 1 : Nat) : Int) = (deep : Int) - 1 := by omega
     rw [e1, e2] at IH
     unfold exV at IH
     have hle := sizeK_le xs 1 (left - n') (deep - 1) (by omega) (by omega)
     have hge := sizeK_ge xs 1 (left - n') (deep - 1)
     obtain ⟨r, hr⟩ : ∃ r, r = sizeK xs 1 (left - n') (deep - 1) := ⟨_, rfl⟩
     rw [← hr] at IH hle hge
     have HR := Lib.hid hr
     clear hkid hd e1 e2 hr
     go_wp2_with fail
     refine IH.out.mono ?_
     rintro e w4 ⟨rfl, f4⟩
     have F4 := Lib.hid ((FW.out.tr f4))
     clear f4 IH dx c0 c1 c2 c3
     go_wp2_with fail
     go_roundw
     case rel =>
      have e := SS.out
      rw [HD.out, sizeK_cons, if_pos ⟨hg1, hg2⟩, ← HR.out] at e
      exact ⟨k + 1, n' + r, by go_num, by go_num, by omega, by omega, by omega, e, F4.out⟩
     case measure => simp [intOf]; omega
    ·have e := SS.out
     rw [HD.out, sizeK_cons, if_neg hgo] at e
     have E := Lib.hid e
     clear e hd
     by_cases hg1 : n' < left
     ·have hg2' : (deep : Int) ≤ 1 := by omega
      have hg1' : (n' : Int) < left := by omega
      go_wp2_with fail
      go_ret
      exact ⟨by rw [← E.out]; rfl, FF.out⟩
     ·have hg1' : (left : Int) ≤ n' := by omega
      go_wp2_with fail
      go_ret
      exact ⟨by rw [← E.out]; rfl, FF.out⟩
   ·obtain rfl : k = ks.len := by omega
    have e := SS.out
    rw [Fst.drop_end] at e
    have E := Lib.hid e
    clear e
    go_wp2_with fail
    go_ret
    exact ⟨by rw [← E.out]; rfl, FF.out⟩
end
end Go.Proofs.YtfdhofabgdkkkaaGreatDoor
/- Filters of any make: the document's Size and Depth. -/
namespace Go.Proofs.YtfdhofabgdkkkaaGreatDoor
open Go.RowKit Go.Fm Go.BigFrame Go.Shelf Go.Maps
set_option linter.unusedVariables false
set_option linter.unusedSimpArgs false
set_option maxRecDepth 100000
section
variable {w w' : World} {S : Nat → Prop} {K : Nat → Prop}
set_option maxHeartbeats 16000000 in
theorem rsize_top (op : Int) (nm vl : ByteArray) (kv : Value) (ks : Fst) (hk : KidR K w kv ks) (ho : ∀ i, K i → i < w.heap.size) : Calls Tryz.prog 44 #[exV op nm vl kv] w (NumPost (sizeK ks 1 100 100) w) := by
 obtain ⟨oa, cap, rfl, -⟩ := id hk
 have f1 := (Fr.same w).alloc (.cells #[.int .i64 op, .string nm, .string vl, .slice oa ks.len cap] 38)
 have SZ := Lib.hid (rsize_walk (ks.sz + 1) ks op nm vl _ 100 100 _ (by omega) (by omega) (by omega) (by omega) (by omega) (hk.old f1) fun i hi => Nat.lt_of_lt_of_le (ho i hi) f1.size)
 have F1 := Lib.hid f1
 have dx := cell_alloc_new w #[.int .i64 op, .string nm, .string vl, .slice oa ks.len cap] 38
 have LE := Lib.hid (sizeK_le ks 1 100 100 (by omega) (by omega))
 unfold exV at SZ ⊢
 clear f1 hk
 go_enter Tryz.func44, Tryz.ntmps44
 go_wp2_with fail
 refine SZ.out.mono ?_
 rintro e w2 ⟨rfl, f2⟩
 have F2 := Lib.hid (F1.out.tr f2)
 clear f2 SZ dx
 go_wp2_with fail
 go_ret
 refine ⟨?_, F2.out⟩
 show Ending.returned (Value.int .i64 (min _ _)) = _
 rw [Int.min_eq_left (by have := LE.out; omega)]
/-- The document's depth: of those side by side, beyond what is known, so much left to count. -/
def depK : Fst → Nat → Nat → Nat
 | .nil, d, _ => d
 | .cons _ _ _ ks r, d, l => depK r (max d (if l - 1 ≤ 1 then 1 else depK ks 0 (l - 1) + 1)) l
def depN (ks : Fst) (l : Nat) : Nat := if l ≤ 1 then 1 else depK ks 0 l + 1
theorem depK_cons (op : Int) (nm vl : ByteArray) (ks r : Fst) (d l : Nat) : depK (.cons op nm vl ks r) d l = depK r (max d (depN ks (l - 1))) l := rfl
theorem depK_le : ∀ (F : Fst) (d l : Nat), 2 ≤ l → d + 1 ≤ l → depK F d l + 1 ≤ l
 | .nil, d, l, _, h => h
 | .cons _ _ _ ks r, d, l, h2, h => by
  unfold depK
  refine depK_le r _ l h2 ?_
  split
  ·omega
  ·have := depK_le ks 0 (l - 1) (by omega) (by omega)
   omega
theorem depN_le (ks : Fst) (l : Nat) (h : 1 ≤ l) : depN ks l ≤ l := by
 unfold depN
 split
 ·exact h
 ·exact depK_le ks 0 l (by omega) (by omega)
set_option maxHeartbeats 32000000 in
theorem rdepth_walk (m : Nat) : ∀ (ks : Fst) (op : Int) (nm vl : ByteArray) (kv : Value) (l : Nat) (w : World), ks.sz < m → 1 ≤ l → l ≤ 100 → KidR K w kv ks → (∀ i, K i → i < w.heap.size) →
  Calls Tryz.prog 90 #[exV op nm vl kv, .int .i64 l] w (NumPost (depN ks l) w) := by
 induction m with
 | zero => intro ks op nm vl kv l w h; omega
 | succ m ih =>
  intro ks op nm vl kv l w hm hl1 hl2 hk ho
  have hml := hk.len
  obtain ⟨oa, cap, rfl, -⟩ := id hk
  have F1 := Lib.hid ((Fr.same w).alloc (.cells #[.int .i64 op, .string nm, .string vl, .slice oa ks.len cap] 38))
  have X1 := Lib.hid (heap_alloc_self w (.cells #[.int .i64 op, .string nm, .string vl, .slice oa ks.len cap] 38))
  have KW := Lib.hid hk
  have HM := Lib.hid hm
  unfold maxLen at hml
  unfold exV
  clear hk hm
  by_cases h1 : l ≤ 1
  ·have h1' : (l : Int) ≤ 1 := by omega
   have E := Lib.hid (show depN ks l = 1 from if_pos h1)
   go_enter Tryz.func90, Tryz.ntmps90
   go_wp2_with fail
   go_ret
   exact ⟨by rw [E.out]; rfl, F1.out⟩
  ·have h1' : 1 < (l : Int) := by omega
   have E := Lib.hid (show depN ks l = depK ks 0 l + 1 from if_neg h1)
   have LE := Lib.hid (depK_le ks 0 l (by omega) (by omega))
   go_enter Tryz.func90, Tryz.ntmps90
   go_wp2_with fail
   generalize (w.alloc (.cells #[.int .i64 op, .string nm, .string vl, .slice oa ks.len cap] 38)) = w1 at *
   go_loopw [5, 6] (fun d i wr => ∃ k d' : Nat, i = .int .i64 k ∧ d = .int .i64 d' ∧ k ≤ ks.len ∧ d' + 1 ≤ l ∧ depK (ks.drop k) d' l = depK ks 0 l ∧ Fr (fun _ => False) w1 wr) (fun _ i _ => ks.len - (intOf i).toNat)
   case atStart => exact ⟨0, 0, rfl, rfl, Nat.zero_le _, by omega, by rw [Fst.drop_zero], Fr.same _⟩
   case round =>
    obtain ⟨k, d', rfl, rfl, hk, hd2, hs, hF⟩ := hrel
    have FF := Lib.hid (F1.out.tr hF)
    have FW := Lib.hid hF
    have XX := Lib.hid (blk X1.out hF fun h => h)
    have SS := Lib.hid hs
    have dx := cell_of XX.out
    clear hF hs
    rcases Nat.lt_or_ge k ks.len with hlt | hge
    ·obtain ⟨op1, nm1, vl1, xs, hd, hsz⟩ := ks.drop_at k hlt
     have HD := Lib.hid hd
     obtain ⟨a, kv1, rfl, hKa, hpt, hkid⟩ := (KW.out.old FF.out).at hd hlt
     obtain ⟨c0, c1, c2, c3⟩ := hpt
     obtain ⟨oa1, cap1, rfl, -⟩ := id hkid
     have IH := Lib.hid (ih xs op1 nm1 vl1 _ (l - 1) wr (by have := HM.out; omega) (by omega) (by omega) hkid fun i hi => Nat.lt_of_lt_of_le (ho i hi) FF.out.size)
     have e1 : ((l - 1 : Nat) : Int) = (l : Int) - 1 := by omega
     rw [e1] at IH
     unfold exV at IH
     have hle := depN_le xs (l - 1) (by omega)
     obtain ⟨r, hr⟩ : ∃ r, r = depN xs (l - 1) := ⟨_, rfl⟩
     rw [← hr] at IH hle
     have HR := Lib.hid hr
     clear hkid hd e1 hr
     go_wp2_with fail
     refine IH.out.mono ?_
     rintro e w4 ⟨rfl, f4⟩
     have F4 := Lib.hid (FW.out.tr f4)
     clear f4 IH dx c0 c1 c2 c3
     go_wp2_with fail
     go_roundw
     case rel =>
      have e := SS.out
      rw [HD.out, depK_cons, ← HR.out] at e
      exact ⟨k + 1, max d' r, by go_num, by rw [show ((max d' r : Nat) : Int) = max (d' : Int) r by omega], by omega, by omega, e, F4.out⟩
     case measure => simp [intOf]; omega
    ·obtain rfl : k = ks.len := by omega
     have e := SS.out
     rw [Fst.drop_end] at e
     have E2 := Lib.hid (show d' = depK ks 0 l from e)
     have hd100 : d' ≤ 100 := by omega
     clear e
     go_wp2_with fail
     go_ret
     exact ⟨by rw [E.out, ← E2.out]; rfl, FF.out⟩
theorem rdepth_top (op : Int) (nm vl : ByteArray) (kv : Value) (ks : Fst) (hk : KidR K w kv ks) (ho : ∀ i, K i → i < w.heap.size) : Calls Tryz.prog 45 #[exV op nm vl kv] w (NumPost (depN ks 100) w) := by
 obtain ⟨oa, cap, rfl, -⟩ := id hk
 have f1 := (Fr.same w).alloc (.cells #[.int .i64 op, .string nm, .string vl, .slice oa ks.len cap] 38)
 have SZ := Lib.hid (rdepth_walk (ks.sz + 1) ks op nm vl _ 100 _ (by omega) (by omega) (by omega) (hk.old f1) fun i hi => Nat.lt_of_lt_of_le (ho i hi) f1.size)
 have F1 := Lib.hid f1
 have dx := cell_alloc_new w #[.int .i64 op, .string nm, .string vl, .slice oa ks.len cap] 38
 unfold exV at SZ ⊢
 clear f1 hk
 go_enter Tryz.func45, Tryz.ntmps45
 go_wp2_with fail
 refine SZ.out.mono ?_
 rintro e w2 ⟨rfl, f2⟩
 have F2 := Lib.hid (F1.out.tr f2)
 clear f2 SZ dx
 go_wp2_with fail
 go_ret
 exact ⟨rfl, F2.out⟩
end
end Go.Proofs.YtfdhofabgdkkkaaGreatDoor
/- Bytes that are written one behind the other: laws of append. -/
namespace Go.Proofs.YtfdhofabgdkkkaaGreatDoor
open Go.RowKit Go.Fm Go.BigFrame Go.Shelf Go.Maps
set_option linter.unusedVariables false
set_option linter.unusedSimpArgs false
set_option maxRecDepth 100000
section
variable {w w' : World} {S : Nat → Prop} {K : Nat → Prop}
/-- From a block on, blocks of bytes alone may turn. -/
def Fr5 (B : Nat) (w w' : World) : Prop := Fr (fun i => B ≤ i ∧ ∃ c f, w.heap[i]? = some (.cells c 5 f)) w w'
theorem Fr5.of {B : Nat} (h : Fr (fun _ => False) w w') : Fr5 B w w' := h.mono fun _ h => h.elim
theorem Fr5.tr {B : Nat} {w1 : World} (h1 : Fr5 B w w1) (h2 : Fr5 B w1 w') : Fr5 B w w' := by
 refine Fr.trans h1 h2 fun i hi => ?_
 obtain ⟨hB, c, f, hc⟩ := hi
 rcases Nat.lt_or_ge i w.heap.size with hl | hl
 ·refine .inl ⟨hB, ?_⟩
  by_cases hS : ∃ c f, w.heap[i]? = some (.cells c 5 f)
  ·exact hS
  ·exact ⟨c, f, (h1.block i hl fun h => hS h.2).symm.trans hc⟩
 ·exact .inr hl
theorem own_heap {B n : Nat} {v : Value} {xs : List Value} (h : w.ownsRow B 5 1 v n xs) {k : Nat} (hk : v.ownBlock = some k) : B ≤ k ∧ ∃ c f, w.heap[k]? = some (.cells c 5 f) := by
 rcases h.2 with ⟨rfl, -⟩ | ⟨g, cap, cur, rfl, hbg, hg, -⟩
 ·cases hk
 ·cases hk
  exact ⟨hbg, _, _, hg⟩
theorem Fr5.grown {B n : Nat} {v : Value} {xs : List Value} (h : w.ownsRow B 5 1 v n xs) (hg : w.grownBy w' v.ownBlock) : Fr5 B w w' :=
 (Fr.refl _ w).grown hg fun k hk => .inl (own_heap h hk)
theorem Fr5.top (h : Fr5 w.heap.size w w') : Fr (fun _ => False) w w' := Fr.mono h fun i hi => .inr hi.1
/-- A block of other things stays. -/
theorem Fr5.keep {B g : Nat} {c : Array Value} {t : TypeId} {f : Nat × Nat} (h : Fr5 B w w') (hc : w.heap[g]? = some (.cells c t f)) (ht : t ≠ 5) : w'.heap[g]? = some (.cells c t f) := by
 refine (h.block g (lt_of_heap hc) fun hS => ?_).trans hc
 obtain ⟨-, c', f', h'⟩ := hS
 rw [hc] at h'
 injection h' with h'
 injection h' with h1 h2 h3
 exact ht h2
theorem own_alloc {B n : Nat} {v : Value} {xs : List Value} (h : w.ownsRow B 5 1 v n xs) (o : Obj) : (w.alloc o).ownsRow B 5 1 v n xs := own_eq h fun i hi => heap_alloc_lt _ (own_lt h hi).2
theorem own_old {B n : Nat} {v : Value} {xs : List Value} (h : w.ownsRow B 5 1 v n xs) (hf : Fr (fun _ => False) w w') : w'.ownsRow B 5 1 v n xs := own_eq h fun i hi => hf.block i (own_lt h hi).2 fun h => h
/-- A slice of bytes that was made since. -/
def Own5 (w : World) (B : Nat) (v : Value) (L : List UInt8) : Prop := w.ownsRow B 5 1 v L.length (L.map byteVal)
theorem Own5.alloc {B : Nat} {v : Value} {L : List UInt8} (h : Own5 w B v L) (o : Obj) : Own5 (w.alloc o) B v L := own_alloc h o
theorem Own5.old {B : Nat} {v : Value} {L : List UInt8} (h : Own5 w B v L) (hf : Fr (fun _ => False) w w') : Own5 w' B v L := own_old h hf
section
variable {ops : Array Oper} {rest : List Oper} {o : Oper} {a : Act} {Q : Exit → Act → World → Prop}
/-- One byte more. -/
theorem wp_byte (hgd : o.guard = none) (s x : Operand) (ho : o.op = .call { callee := .builtin .append, args := #[s, x], argTypes := #[305, 305] }) (B : Nat) (v : Value) (bs : List UInt8) (hs : a.eval s = v)
  (hown : Own5 w B v bs) (c : UInt8) (g : Nat) (hx : a.eval x = .slice (some ⟨g, 0, none⟩) 1 1) (hc : w.cell? ⟨g, 0, none⟩ = some (byteVal c)) (hlen : bs.length ≤ 1000000000) (hB : B ≤ w.heap.size)
  (h : ∀ v' w' L, Hid (L = bs ++ [c]) → Own5 w' B v' L → Fr5 B w w' → wpList Tryz.prog ops Q rest (a.put o.dst v') w') : wpList Tryz.prog ops Q (o :: rest) a w := by
 obtain ⟨i, hi, hz, h1, h2⟩ := info_parts info5
 refine wpList_append_own2 w hgd s x 305 ho B 5 i (.int .u8 0) 1 1 Tryz.underlying305 hi hz h1 h2 rfl (by decide) v bs.length (bs.map byteVal) hs hown ⟨g, 0, none⟩ 1 1 [byteVal c] hx rfl ?_ ?_ (by unfold maxLen; omega) (by omega) hB ?_
 ·intro j u hj
  match j, hj with
  | 0, hj => simp at hj; subst hj; exact hc
  | j + 1, hj => simp at hj
 ·intro u hu
  simp at hu
  subst hu
  rfl
 ·intro v' w' ho' hg _
  refine h v' w' _ (Lib.hid rfl) ?_ (Fr5.grown hown hg)
  unfold Own5
  rw [List.map_append, List.length_append]
  exact ho'
/-- A text more. -/
theorem wp_text (hgd : o.guard = none) (s x : Operand) (u : TypeId) (hu : Tryz.prog.underlying u = some .string) (ho : o.op = .call { callee := .builtin .append, args := #[s, x], argTypes := #[305, u] }) (B : Nat) (v : Value) (bs : List UInt8) (hs : a.eval s = v)
  (hown : Own5 w B v bs) (t : ByteArray) (hx : a.eval x = .string t) (hlen : bs.length + t.size ≤ 1000000000) (hB : B ≤ w.heap.size)
  (h : ∀ v' w' L, Hid (L = bs ++ t.data.toList) → Own5 w' B v' L → Fr5 B w w' → wpList Tryz.prog ops Q rest (a.put o.dst v') w') : wpList Tryz.prog ops Q (o :: rest) a w := by
 obtain ⟨i, hi, hz, h1, h2⟩ := info_parts info5
 refine Lib.wpList_append_own_string w hgd s x 305 u ho B 5 i Tryz.underlying305 hu hi hz h1 h2 v bs.length (bs.map byteVal) hs hown t hx (by unfold maxLen; omega) (by omega) hB ?_
 intro v' w' ho' hg _
 refine h v' w' _ (Lib.hid rfl) ?_ (Fr5.grown hown hg)
 unfold Own5
 rw [List.map_append, List.length_append, Array.length_toList]
 exact ho'
end
end
end Go.Proofs.YtfdhofabgdkkkaaGreatDoor
