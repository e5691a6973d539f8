/- Which records a filter of any make lets through. -/
import Derived.Test.YtfdhofabgdkkkaaGreatDoorQ41
namespace Go.Proofs.YtfdhofabgdkkkaaGreatDoor
open Go.RowKit Go.Fm Go.BigFrame Go.Shelf Go.Maps
set_option linter.unusedVariables false
set_option linter.unusedSimpArgs false
set_option maxRecDepth 100000
section
variable {w w' : World} {S : Nat → Prop} {K K2 : Nat → Prop}
/-- What one part tells, of what its Kids tell. -/
def letV (hasW : ByteArray → ByteArray → Bool) (op : Int) (nm vl : ByteArray) (a : Bool → Bool) (r : Rec) : Bool :=
 if op = 1 then !a false else if op = 3 then a false else if op = 2 then a true
 else if op = 4 then (headF r.hs nm).isSome else if op = 5 then (headF r.hs nm).any fun v => v.toList == vl.toList
 else if op = 6 then !r.bare && Lib.hasPrefix r.key.data.toList vl.data.toList else if op = 7 then !r.gone && hasW r.val vl else true
/-- Does one of some filters tell so? -/
def anyF (hasW : ByteArray → ByteArray → Bool) : Fst → Bool → Rec → Bool
 | .nil, _, _ => false
 | .cons op nm vl ks rest, pos, r => (letV hasW op nm vl (fun p => anyF hasW ks p r) r == pos) || anyF hasW rest pos r
def letB (hasW : ByteArray → ByteArray → Bool) (op : Int) (nm vl : ByteArray) (ks : Fst) (r : Rec) : Bool := letV hasW op nm vl (fun p => anyF hasW ks p r) r
theorem anyF_cons (hasW : ByteArray → ByteArray → Bool) (op : Int) (nm vl : ByteArray) (ks rest : Fst) (pos : Bool) (r : Rec) : anyF hasW (.cons op nm vl ks rest) pos r = ((letB hasW op nm vl ks r == pos) || anyF hasW rest pos r) := rfl
/-- No word that is asked for is long. -/
def Fst.small : Fst → Prop
 | .nil => True
 | .cons _ _ vl ks rest => vl.size ≤ 100000 ∧ ks.small ∧ rest.small
theorem Fst.small_drop : ∀ {F : Fst} (k : Nat), F.small → (F.drop k).small
 | F, 0, h => by rw [Fst.drop_zero]; exact h
 | .nil, k + 1, _ => trivial
 | .cons _ _ _ _ r, k + 1, h => Fst.small_drop (F := r) k h.2.2
def SmK (ks : Fst) (r : Rec) : Prop := ks.small ∧ r.val.size ≤ 100000
def SmE (vl : ByteArray) (ks : Fst) (r : Rec) : Prop := vl.size ≤ 100000 ∧ SmK ks r
theorem SmK.at {ks : Fst} {r : Rec} (h : SmK ks r) {k : Nat} {op : Int} {nm vl : ByteArray} {xs rest : Fst} (hd : ks.drop k = .cons op nm vl xs rest) : SmE vl xs r := by
 have h1 := Fst.small_drop k h.1
 rw [hd] at h1
 exact ⟨h1.1, h1.2.1, h.2⟩
/-- Words are looked for. -/
def HasC (hasW : ByteArray → ByteArray → Bool) (C : World → Prop) : Prop := ∀ (w : World) (s t : ByteArray), C w → s.size ≤ 100000 → t.size ≤ 100000 → Calls Tryz.prog 154 #[.string s, .string t] w (BoolPost (hasW s t) w)
def LetIH (hasW : ByteArray → ByteArray → Bool) (C : World → Prop) (K K2 : Nat → Prop) (B m : Nat) : Prop := ∀ (ks : Fst) (op : Int) (nm vl : ByteArray) (kv : Value) (r : Rec) (hv : Value) (w : World), ks.sz < m → KidR K w kv ks → HdsR K2 w hv r.hs → r.hs.length ≤ 1000 → SmE vl ks r → B ≤ w.heap.size → C w →
 Calls Tryz.prog 94 #[exV op nm vl kv, recV r hv] w (BoolPost (letB hasW op nm vl ks r) w)
/-- A record in a box. -/
def RecB (w : World) (b : Nat) (r : Rec) (hv : Value) : Prop := w.heap[b]? = some (.cells #[.int .i64 r.at', .int .i64 r.tm, .bool r.bare, .string r.key, .bool r.gone, .string r.val, hv] 95 (0, 0))
theorem RecB.old {b : Nat} {r : Rec} {hv : Value} (h : RecB w b r hv) (hf : Fr (fun _ => False) w w') : RecB w' b r hv := blk h hf fun h => h
set_option maxHeartbeats 16000000 in
theorem let1_walk {hasW : ByteArray → ByteArray → Bool} {C : World → Prop} {B m : Nat} (ih : LetIH hasW C K K2 B m) (hC : ∀ w w', C w → Fr (fun _ => False) w w' → C w') (xs : Fst) (op1 : Int) (nm1 vl1 : ByteArray) (kv : Value) (r : Rec) (hv : Value) (b : Nat) (hm : xs.sz < m) (hk : KidR K w kv xs) (hh : HdsR K2 w hv r.hs) (hl : r.hs.length ≤ 1000) (hz : SmE vl1 xs r) (hB : B ≤ w.heap.size) (hc : C w) (hb : RecB w b r hv) :
  Calls Tryz.prog 149 #[exV op1 nm1 vl1 kv, .pointer (some ⟨b, 0, none⟩)] w (BoolPost (letB hasW op1 nm1 vl1 xs r) w) := by
 obtain ⟨oa1, cap1, rfl, -⟩ := id hk
 obtain ⟨ho, hc2, rfl, -⟩ := id hh
 have f1 := (Fr.same w).alloc (.cells #[.int .i64 op1, .string nm1, .string vl1, .slice oa1 xs.len cap1] 38)
 have X1 := heap_alloc_self w (.cells #[.int .i64 op1, .string nm1, .string vl1, .slice oa1 xs.len cap1] 38)
 have IH := Lib.hid (ih xs op1 nm1 vl1 _ r _ _ hm (hk.old f1) (hh.old f1) hl hz (Nat.le_trans hB f1.size) (hC _ _ hc f1))
 have F1 := Lib.hid f1
 have dx := cell_of X1
 have db := cell_of (hb.old f1)
 unfold exV recV at IH
 unfold exV
 clear f1 X1 hk hh hb hc
 go_enter Tryz.func149, Tryz.ntmps149
 go_wp2_with fail
 refine IH.out.mono ?_
 rintro e w2 ⟨rfl, f2⟩
 have F2 := Lib.hid (F1.out.tr f2)
 clear f2 IH dx db
 go_wp2_with fail
 go_ret
 exact ⟨rfl, F2.out⟩
set_option maxHeartbeats 16000000 in
theorem let2_walk {hasW : ByteArray → ByteArray → Bool} {C : World → Prop} {B m : Nat} (ih : LetIH hasW C K K2 B m) (hC : ∀ w w', C w → Fr (fun _ => False) w w' → C w') (xs : Fst) (op1 : Int) (nm1 vl1 : ByteArray) (kv : Value) (r : Rec) (hv : Value) (b : Nat) (hm : xs.sz < m) (hk : KidR K w kv xs) (hh : HdsR K2 w hv r.hs) (hl : r.hs.length ≤ 1000) (hz : SmE vl1 xs r) (hB : B ≤ w.heap.size) (hc : C w) (hb : RecB w b r hv) :
  Calls Tryz.prog 150 #[exV op1 nm1 vl1 kv, .pointer (some ⟨b, 0, none⟩)] w (BoolPost (!letB hasW op1 nm1 vl1 xs r) w) := by
 obtain ⟨oa1, cap1, rfl, -⟩ := id hk
 obtain ⟨ho, hc2, rfl, -⟩ := id hh
 have f1 := (Fr.same w).alloc (.cells #[.int .i64 op1, .string nm1, .string vl1, .slice oa1 xs.len cap1] 38)
 have X1 := heap_alloc_self w (.cells #[.int .i64 op1, .string nm1, .string vl1, .slice oa1 xs.len cap1] 38)
 have IH := Lib.hid (ih xs op1 nm1 vl1 _ r _ _ hm (hk.old f1) (hh.old f1) hl hz (Nat.le_trans hB f1.size) (hC _ _ hc f1))
 have F1 := Lib.hid f1
 have dx := cell_of X1
 have db := cell_of (hb.old f1)
 unfold exV recV at IH
 unfold exV
 clear f1 X1 hk hh hb hc
 go_enter Tryz.func150, Tryz.ntmps150
 go_wp2_with fail
 refine IH.out.mono ?_
 rintro e w2 ⟨rfl, f2⟩
 have F2 := Lib.hid (F1.out.tr f2)
 clear f2 IH dx db
 go_wp2_with fail
 go_ret
 exact ⟨rfl, F2.out⟩
/-- At which of some filters it tells so first. -/
def IdxPost (b : Bool) (w : World) (e : Ending) (w' : World) : Prop := ∃ i : Int, e = .returned (.int .i64 i) ∧ (0 ≤ i ↔ b = true) ∧ Fr (fun _ => False) w w'
set_option maxHeartbeats 16000000 in
theorem idx1_walk {hasW : ByteArray → ByteArray → Bool} {C : World → Prop} {B m : Nat} (ih : LetIH hasW C K K2 B m) (hC : ∀ w w', C w → Fr (fun _ => False) w w' → C w') (ks : Fst) (kv : Value) (r : Rec) (hv : Value) (b : Nat) (hm : ks.sz ≤ m) (hk : KidR K w kv ks) (hh : HdsR K2 w hv r.hs) (hl : r.hs.length ≤ 1000) (hz : SmK ks r) (hB : B ≤ w.heap.size) (hc : C w) (hb : RecB w b r hv) :
  Calls Tryz.prog 215 #[kv, .func (.func 149) #[] #[.pointer (some ⟨b, 0, none⟩)]] w (IdxPost (anyF hasW ks true r) w) := by
 have hml := hk.len
 unfold maxLen at hml
 obtain ⟨oa, cap, rfl, -⟩ := id hk
 have KW := Lib.hid hk
 have HW := Lib.hid hh
 have RB := Lib.hid hb
 have CW := Lib.hid hc
 clear hk hh hb hc
 go_enter Tryz.func215, Tryz.ntmps215
 go_wp2_with fail
 go_loopw [8] (fun i wr => ∃ k : Nat, i = .int .i64 k ∧ k ≤ ks.len ∧ anyF hasW ks true r = anyF hasW (ks.drop k) true r ∧ Fr (fun _ => False) w wr) (fun i _ => ks.len - (intOf i).toNat)
 case atStart => exact ⟨0, rfl, Nat.zero_le _, by rw [Fst.drop_zero], Fr.same _⟩
 case round =>
  obtain ⟨k, rfl, hk, hall, hF⟩ := hrel
  have FF := Lib.hid hF
  have ALL := Lib.hid hall
  clear hF hall
  rcases Nat.lt_or_ge k ks.len with hlt | hge
  ·obtain ⟨op1, nm1, vl1, xs, hd, hsz⟩ := ks.drop_at k hlt
   obtain ⟨a, kv1, rfl, hKa, hpt, hkid⟩ := (KW.out.old FF.out).at hd hlt
   obtain ⟨c0, c1, c2, c3⟩ := hpt
   have LW := Lib.hid (let1_walk ih hC xs op1 nm1 vl1 kv1 r hv b (by omega) hkid (HW.out.old FF.out) hl (hz.at hd) (Nat.le_trans hB FF.out.size) (hC _ _ CW.out FF.out) (RB.out.old FF.out))
   obtain ⟨oa1, cap1, rfl, -⟩ := id hkid
   have HD := Lib.hid hd
   unfold exV at LW
   clear hkid hd
   go_wp2_with fail
   refine LW.out.mono ?_
   rintro e w4 ⟨rfl, f4⟩
   have F4 := Lib.hid (FF.out.tr f4)
   clear f4 LW c0 c1 c2 c3
   obtain ⟨lb, hlb⟩ : ∃ lb, lb = letB hasW op1 nm1 vl1 xs r := ⟨_, rfl⟩
   rw [← hlb]
   have HLB := Lib.hid hlb
   clear hlb
   cases lb with
   | true =>
    go_wp2_with fail
    go_ret
    refine ⟨_, rfl, ?_, F4.out⟩
    rw [ALL.out, HD.out, anyF_cons, ← HLB.out]
    simp
   | false =>
    go_wp2_with fail
    go_roundw
    case rel => exact ⟨k + 1, by go_num, by omega, by rw [ALL.out, HD.out, anyF_cons, ← HLB.out]; simp, F4.out⟩
    case measure => simp [intOf]; omega
  ·obtain rfl : k = ks.len := by omega
   go_wp2_with fail
   go_ret
   refine ⟨_, rfl, ?_, FF.out⟩
   rw [ALL.out, Fst.drop_end]
   simp [anyF]
set_option maxHeartbeats 16000000 in
theorem conidx1_walk {hasW : ByteArray → ByteArray → Bool} {C : World → Prop} {B m : Nat} (ih : LetIH hasW C K K2 B m) (hC : ∀ w w', C w → Fr (fun _ => False) w w' → C w') (ks : Fst) (kv : Value) (r : Rec) (hv : Value) (b : Nat) (hm : ks.sz ≤ m) (hk : KidR K w kv ks) (hh : HdsR K2 w hv r.hs) (hl : r.hs.length ≤ 1000) (hz : SmK ks r) (hB : B ≤ w.heap.size) (hc : C w) (hb : RecB w b r hv) :
  Calls Tryz.prog 151 #[kv, .func (.func 149) #[] #[.pointer (some ⟨b, 0, none⟩)]] w (BoolPost (anyF hasW ks true r) w) := by
 have IW := Lib.hid (idx1_walk ih hC ks kv r hv b hm hk hh hl hz hB hc hb)
 obtain ⟨oa, cap, rfl, -⟩ := id hk
 clear hk hh hb hc
 go_enter Tryz.func151, Tryz.ntmps151
 go_wp2_with fail
 refine IW.out.mono ?_
 rintro e w2 ⟨i, rfl, hi, f2⟩
 have HI := Lib.hid hi
 have F2 := Lib.hid f2
 clear hi f2 IW
 go_wp2_with fail
 go_ret
 refine ⟨?_, F2.out⟩
 have e : anyF hasW ks true r = decide (0 ≤ i) := by
  by_cases h : 0 ≤ i
  ·rw [HI.out.1 h, decide_eq_true h]
  ·rw [decide_eq_false h]
   cases h2 : anyF hasW ks true r with
   | false => rfl
   | true => exact absurd (HI.out.2 h2) h
 rw [e]
 rfl
set_option maxHeartbeats 16000000 in
theorem idx2_walk {hasW : ByteArray → ByteArray → Bool} {C : World → Prop} {B m : Nat} (ih : LetIH hasW C K K2 B m) (hC : ∀ w w', C w → Fr (fun _ => False) w w' → C w') (ks : Fst) (kv : Value) (r : Rec) (hv : Value) (b : Nat) (hm : ks.sz ≤ m) (hk : KidR K w kv ks) (hh : HdsR K2 w hv r.hs) (hl : r.hs.length ≤ 1000) (hz : SmK ks r) (hB : B ≤ w.heap.size) (hc : C w) (hb : RecB w b r hv) :
  Calls Tryz.prog 215 #[kv, .func (.func 150) #[] #[.pointer (some ⟨b, 0, none⟩)]] w (IdxPost (anyF hasW ks false r) w) := by
 have hml := hk.len
 unfold maxLen at hml
 obtain ⟨oa, cap, rfl, -⟩ := id hk
 have KW := Lib.hid hk
 have HW := Lib.hid hh
 have RB := Lib.hid hb
 have CW := Lib.hid hc
 clear hk hh hb hc
 go_enter Tryz.func215, Tryz.ntmps215
 go_wp2_with fail
 go_loopw [8] (fun i wr => ∃ k : Nat, i = .int .i64 k ∧ k ≤ ks.len ∧ anyF hasW ks false r = anyF hasW (ks.drop k) false r ∧ Fr (fun _ => False) w wr) (fun i _ => ks.len - (intOf i).toNat)
 case atStart => exact ⟨0, rfl, Nat.zero_le _, by rw [Fst.drop_zero], Fr.same _⟩
 case round =>
  obtain ⟨k, rfl, hk, hall, hF⟩ := hrel
  have FF := Lib.hid hF
  have ALL := Lib.hid hall
  clear hF hall
  rcases Nat.lt_or_ge k ks.len with hlt | hge
  ·obtain ⟨op1, nm1, vl1, xs, hd, hsz⟩ := ks.drop_at k hlt
   obtain ⟨a, kv1, rfl, hKa, hpt, hkid⟩ := (KW.out.old FF.out).at hd hlt
   obtain ⟨c0, c1, c2, c3⟩ := hpt
   have LW := Lib.hid (let2_walk ih hC xs op1 nm1 vl1 kv1 r hv b (by omega) hkid (HW.out.old FF.out) hl (hz.at hd) (Nat.le_trans hB FF.out.size) (hC _ _ CW.out FF.out) (RB.out.old FF.out))
   obtain ⟨oa1, cap1, rfl, -⟩ := id hkid
   have HD := Lib.hid hd
   unfold exV at LW
   clear hkid hd
   go_wp2_with fail
   refine LW.out.mono ?_
   rintro e w4 ⟨rfl, f4⟩
   have F4 := Lib.hid (FF.out.tr f4)
   clear f4 LW c0 c1 c2 c3
   obtain ⟨lb, hlb⟩ : ∃ lb, lb = letB hasW op1 nm1 vl1 xs r := ⟨_, rfl⟩
   rw [← hlb]
   have HLB := Lib.hid hlb
   clear hlb
   cases lb with
   | false =>
    go_wp2_with fail
    go_ret
    refine ⟨_, rfl, ?_, F4.out⟩
    rw [ALL.out, HD.out, anyF_cons, ← HLB.out]
    simp
   | true =>
    go_wp2_with fail
    go_roundw
    case rel => exact ⟨k + 1, by go_num, by omega, by rw [ALL.out, HD.out, anyF_cons, ← HLB.out]; simp, F4.out⟩
    case measure => simp [intOf]; omega
  ·obtain rfl : k = ks.len := by omega
   go_wp2_with fail
   go_ret
   refine ⟨_, rfl, ?_, FF.out⟩
   rw [ALL.out, Fst.drop_end]
   simp [anyF]
set_option maxHeartbeats 16000000 in
theorem conidx2_walk {hasW : ByteArray → ByteArray → Bool} {C : World → Prop} {B m : Nat} (ih : LetIH hasW C K K2 B m) (hC : ∀ w w', C w → Fr (fun _ => False) w w' → C w') (ks : Fst) (kv : Value) (r : Rec) (hv : Value) (b : Nat) (hm : ks.sz ≤ m) (hk : KidR K w kv ks) (hh : HdsR K2 w hv r.hs) (hl : r.hs.length ≤ 1000) (hz : SmK ks r) (hB : B ≤ w.heap.size) (hc : C w) (hb : RecB w b r hv) :
  Calls Tryz.prog 151 #[kv, .func (.func 150) #[] #[.pointer (some ⟨b, 0, none⟩)]] w (BoolPost (anyF hasW ks false r) w) := by
 have IW := Lib.hid (idx2_walk ih hC ks kv r hv b hm hk hh hl hz hB hc hb)
 obtain ⟨oa, cap, rfl, -⟩ := id hk
 clear hk hh hb hc
 go_enter Tryz.func151, Tryz.ntmps151
 go_wp2_with fail
 refine IW.out.mono ?_
 rintro e w2 ⟨i, rfl, hi, f2⟩
 have HI := Lib.hid hi
 have F2 := Lib.hid f2
 clear hi f2 IW
 go_wp2_with fail
 go_ret
 refine ⟨?_, F2.out⟩
 have e : anyF hasW ks false r = decide (0 ≤ i) := by
  by_cases h : 0 ≤ i
  ·rw [HI.out.1 h, decide_eq_true h]
  ·rw [decide_eq_false h]
   cases h2 : anyF hasW ks false r with
   | false => rfl
   | true => exact absurd (HI.out.2 h2) h
 rw [e]
 rfl
end
end Go.Proofs.YtfdhofabgdkkkaaGreatDoor
