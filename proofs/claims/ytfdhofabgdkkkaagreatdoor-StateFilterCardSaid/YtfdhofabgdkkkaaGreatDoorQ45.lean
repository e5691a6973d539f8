/- Words of a text, one by one: the iterator. -/
import Derived.Test.YtfdhofabgdkkkaaGreatDoorQ44
import Derived.RangeFuncNested
import Derived.RangeFuncBound
import Derived.RangeFuncBox
import Derived.RangeFuncCalls
import Derived.RangeFuncLeaves
import Derived.Shelf.Abstract
import Derived.Shelf.RegionOpen
import Derived.WalkKit
import Derived.OwnWalkIn
import Derived.TacticsInMore
import Derived.LoopNIn
import Derived.LoopIn
import Derived.Sort.MapsRangeIn
import Derived.Maps.AppendAt
import Derived.Lib.TrimU
namespace Go.Proofs.YtfdhofabgdkkkaaGreatDoor
open Go.RowKit Go.Fm Go.BigFrame Go.Shelf Go.Maps
set_option linter.unusedVariables false
set_option linter.unusedSimpArgs false
set_option maxRecDepth 100000
open Go.Shelf
section
variable {w w' : World} {S : Nat → Prop}
/-- How many bytes a character is told to have. -/
def runeSz (s : ByteArray) (pos : Nat) : Int := if 128 ≤ (Utf8.decode s pos).1 then ((Lib.decodeGo (s.extract pos s.size)).2 : Int) else 1
def isLet (s : ByteArray) (pos : Nat) : Bool := letterB ((Utf8.decode s pos).1 : Int) (runeSz s pos)
/-- The words from a place on; from: where the one begins that is being read. -/
def wordsF (s : ByteArray) : Nat → Nat → Option Nat → List ByteArray
 | 0, _, _ => []
 | f + 1, pos, fr => if pos < s.size then
   match isLet s pos, fr with
   | true, none => wordsF s f (pos + (Utf8.decode s pos).2) (some pos)
   | false, some a => foldS (s.extract a pos) :: wordsF s f (pos + (Utf8.decode s pos).2) none
   | _, fr => wordsF s f (pos + (Utf8.decode s pos).2) fr
  else match fr with
   | none => []
   | some a => [foldS (s.extract a s.size)]
theorem wordsF_succ (s : ByteArray) (f pos : Nat) (fr : Option Nat) : wordsF s (f + 1) pos fr = if pos < s.size then
      match isLet s pos, fr with
      | true, none => wordsF s f (pos + (Utf8.decode s pos).2) (some pos)
      | false, some a => foldS (s.extract a pos) :: wordsF s f (pos + (Utf8.decode s pos).2) none
      | _, fr => wordsF s f (pos + (Utf8.decode s pos).2) fr
  else match fr with
   | none => []
   | some a => [foldS (s.extract a s.size)] := rfl
theorem wf_tn {s : ByteArray} {f pos : Nat} (h : pos < s.size) (hl : isLet s pos = true) : wordsF s (f + 1) pos none = wordsF s f (pos + (Utf8.decode s pos).2) (some pos) := by rw [wordsF_succ, if_pos h, hl]
theorem wf_ts {s : ByteArray} {f pos a : Nat} (h : pos < s.size) (hl : isLet s pos = true) : wordsF s (f + 1) pos (some a) = wordsF s f (pos + (Utf8.decode s pos).2) (some a) := by rw [wordsF_succ, if_pos h, hl]
theorem wf_fn {s : ByteArray} {f pos : Nat} (h : pos < s.size) (hl : isLet s pos = false) : wordsF s (f + 1) pos none = wordsF s f (pos + (Utf8.decode s pos).2) none := by rw [wordsF_succ, if_pos h, hl]
theorem wf_fs {s : ByteArray} {f pos a : Nat} (h : pos < s.size) (hl : isLet s pos = false) : wordsF s (f + 1) pos (some a) = foldS (s.extract a pos) :: wordsF s f (pos + (Utf8.decode s pos).2) none := by rw [wordsF_succ, if_pos h, hl]
theorem wf_en {s : ByteArray} {f pos : Nat} (h : ¬ pos < s.size) : wordsF s (f + 1) pos none = [] := by rw [wordsF_succ, if_neg h]
theorem wf_es {s : ByteArray} {f pos a : Nat} (h : ¬ pos < s.size) : wordsF s (f + 1) pos (some a) = [foldS (s.extract a s.size)] := by rw [wordsF_succ, if_neg h]
def wordsS (s : ByteArray) : List ByteArray := wordsF s (s.size + 1) 0 none
def frV : Option Nat → Int
 | none => -1
 | some a => a
theorem fr_grown {w w' : World} (h : Fr (fun _ => False) w w') : w.grownBy w' none := ⟨h.os, h.tape, h.output, h.size, fun k hk _ => h.block k hk fun h => h⟩
theorem tabs_keep {w w' : World} {B : Nat} (h : Lib.Utf8Tabs 1 2 w) (hb : Below B w w') (hB : 2 < B) : Lib.Utf8Tabs 1 2 w' := by
 unfold Lib.Utf8Tabs at h ⊢
 exact ⟨fun k hk => (hb.cell (by show 1 < B; omega)).trans (h.1 k hk), fun k hk => ⟨(hb.cell (by show 2 < B; omega)).trans (h.2 k hk).1, (hb.cell (by show 2 < B; omega)).trans (h.2 k hk).2⟩⟩
/-- Walks and cells stay. -/
def KeepC (A B : World) : Prop := KeepsWalks A B ∧ A.heap.size ≤ B.heap.size ∧ ∀ (k : Nat) (o : Obj), A.heap[k]? = some o → o.isCells = true → B.heap[k]? = some o
theorem KeepC.cell {A B : World} (h : KeepC A B) {a : Addr} {v : Value} (hc : A.cell? a = some v) : B.cell? a = some v := by
 unfold World.cell? at hc ⊢
 cases ho : A.heap[a.block]? with
 | none => rw [ho] at hc; cases hc
 | some o =>
  rw [ho] at hc
  cases o with
  | cells c t f => rw [h.2.2 _ _ ho rfl]; exact hc
  | _ => cases hc
set_option maxRecDepth 100000 in
set_option maxHeartbeats 8000000 in
theorem each_stops (n : Nat) (hn : 1 ≤ n) (sb : Nat) (s : ByteArray) (hs : s.size ≤ 100000) (w : World) (hb : sb < w.heap.size) (hc : w.cell? ⟨sb, 0, none⟩ = some (.string s)) (hT : Lib.Utf8Tabs 1 2 w) (h2 : 2 < w.heap.size) :
  SeqStopsK Fence.wide n Tryz.prog 263 #[.pointer (some ⟨sb, 0, none⟩)] (fun x : ByteArray => #[.string x]) KeepC (fun ss => ss = wordsS s) (fun pre => pre <+: wordsS s) (wordsS s).length w := by
 intro l J Jx W hW hJ hJx hY h0
 have WS := Lib.hid (Nat.lt_of_lt_of_le hb hW.size)
 have TT := Lib.hid (tabs_keep hT hW h2)
 have TW := Lib.hid (Nat.lt_of_lt_of_le h2 hW.size)
 have hc' := (hW.cell (p := ⟨sb, 0, none⟩) hb).trans hc
 have HY := Lib.hid hY
 have HJ := Lib.hid hJ
 have HJX := Lib.hid hJx
 clear hY hJ hJx hc hW
 refine callsIn_of_wp Tryz.func263 rfl trivial ?_ rfl
 simp only [Tryz.ntmps263, List.size_toArray, List.length_cons, List.length_nil, Nat.reduceAdd, Nat.reduceSub, Array.replicate_succ, Array.replicate_zero, List.push_toArray, List.append_toArray, List.nil_append, List.cons_append]
 gi_wp2
 gi_loopw [3] (fun fv wr => ∃ (pos f : Nat) (pre : List ByteArray) (fr : Option Nat), fv = .int .i64 (frV fr) ∧ s.size < pos + f ∧ 1 ≤ f ∧ (∀ a, fr = some a → a < pos ∧ a < s.size) ∧ pre ++ wordsF s f pos fr = wordsS s ∧ wr.heap[W.heap.size]? = some (.stringIter s pos) ∧ wr.cell? ⟨sb, 0, none⟩ = some (.string s) ∧ Lib.Utf8Tabs 1 2 wr ∧ W.heap.size < wr.heap.size ∧ J pre wr)
  (fun _ wr => match wr.heap[W.heap.size]? with | some (.stringIter _ p) => s.size - p | _ => 0)
 case atStart => exact ⟨0, s.size + 1, [], none, rfl, by omega, by omega, (fun a e => by cases e), rfl, heap_alloc_self W _, ((Fr.same W).alloc (.stringIter s 0)).cel hc', Utf8Tabs_below TT.out (((Fr.same W).alloc (.stringIter s 0)).below (Nat.le_refl _) fun k hk => hk.elim), by simp [World.iter], HJ.out [] W _ none h0 (fr_grown ((Fr.same W).alloc (.stringIter s 0))) fun r e => by cases e⟩
 case round =>
  obtain ⟨pos, f, pre, fr, rfl, hf, hf1, hfr, hp, hit, hcs, hTr, hsz, hJs⟩ := hrel
  have HIT := Lib.hid hit
  have HTR := Lib.hid hTr
  have HJS := Lib.hid hJs
  have HP := Lib.hid hp
  have HF := Lib.hid hf
  have HFR := Lib.hid hfr
  clear hit hTr hJs hp hf hfr
  by_cases hlt : pos < s.size
  ·have hnx := fun ty => Lib.run_next_any_at (P := Tryz.prog) wr W.heap.size s pos ty HIT.out hlt
   have hne : sb ≠ W.heap.size := by have := WS.out; omega
   have hc1 : (wr.iterAt W.heap.size s (pos + (Utf8.decode s pos).2)).cell? ⟨sb, 0, none⟩ = some (.string s) := by
    unfold World.cell?
    rw [Lib.iterAt_other _ _ _ _ _ hne]
    exact hcs
   have hg1 : wr.grownBy (wr.iterAt W.heap.size s (pos + (Utf8.decode s pos).2)) (some W.heap.size) := ⟨rfl, rfl, rfl, by rw [Lib.iterAt_size]; exact Nat.le_refl _, fun k hk hkn => Lib.iterAt_other _ _ _ _ _ fun e => hkn (by rw [e])⟩
   have hJ1 := HJ.out pre wr _ _ HJS.out hg1 (fun r e => by cases e; exact ⟨Nat.le_refl _, _, HIT.out, rfl⟩)
   have hit1 := Lib.iterAt_heap wr W.heap.size s pos (pos + (Utf8.decode s pos).2) HIT.out
   have hsz1 : W.heap.size < (wr.iterAt W.heap.size s (pos + (Utf8.decode s pos).2)).heap.size := by rw [Lib.iterAt_size]; exact hsz
   have C1 := Lib.hid hc1
   have J1 := Lib.hid hJ1
   have I1 := Lib.hid hit1
   have Z1 := Lib.hid hsz1
   clear hg1 hJ1 hit1 hsz1 hcs hsz
   have hT1 : Lib.Utf8Tabs 1 2 (wr.iterAt W.heap.size s (pos + (Utf8.decode s pos).2)) := by
    have hb1 : Below W.heap.size wr (wr.iterAt W.heap.size s (pos + (Utf8.decode s pos).2)) := ⟨rfl, rfl, rfl, by rw [Lib.iterAt_size]; exact Nat.le_refl _, fun k hk => Lib.iterAt_other _ _ _ _ _ (by omega)⟩
    exact tabs_keep HTR.out hb1 (by have := TW.out; omega)
   have T1 := Lib.hid hT1
   clear hT1
   have step : ∀ w2, Fr (fun _ => False) (wr.iterAt W.heap.size s (pos + (Utf8.decode s pos).2)) w2 → w2.heap[W.heap.size]? = some (.stringIter s (pos + (Utf8.decode s pos).2)) ∧ w2.cell? ⟨sb, 0, none⟩ = some (.string s) ∧ Lib.Utf8Tabs 1 2 w2 ∧ W.heap.size < w2.heap.size ∧ J pre w2 := fun w2 hf =>
    ⟨(hf.block _ Z1.out fun h => h).trans I1.out, hf.cel C1.out, Utf8Tabs_below T1.out (hf.below (Nat.le_refl _) fun k hk => hk.elim), Nat.lt_of_lt_of_le Z1.out hf.size, HJ.out pre _ _ none J1.out (fr_grown hf) fun r e => by cases e⟩
   have ST := Lib.hid step
   clear step
   obtain ⟨f', rfl⟩ : ∃ f', f = f' + 1 := ⟨f - 1, by have := HF.out; omega⟩
   have hwd := Lib.width_pos s pos
   have HFN := Lib.hid (show s.size < pos + (Utf8.decode s pos).2 + f' by have := HF.out; omega)
   have HWD := Lib.hid hwd
   have HF1 := Lib.hid (show 1 ≤ f' by have := HF.out; omega)
   clear hwd
   by_cases h128 : 128 ≤ (Utf8.decode s pos).1
   ·have h128' : (128 : Int) ≤ ((Utf8.decode s pos).1 : Int) := by omega
    have RS := Lib.hid (show runeSz s pos = ((Lib.decodeGo (s.extract pos s.size)).2 : Int) from if_pos h128)
    have U8 := Lib.hid (Tryz.utf8_DecodeRuneInString (s.extract pos s.size) _ T1.out)
    gi_wp2_with (fail)
    refine ⟨trivial, CallsIn.mono (callsIn_wide.2 U8.out) ?_⟩
    rintro e w2 ⟨rfl, hb2⟩
    have F12 : Fr (fun _ => False) (wr.iterAt W.heap.size s (pos + (Utf8.decode s pos).2)) w2 := Fr.of_below hb2 (Nat.le_refl _)
    gi_wp2_with (fail)
    refine ⟨trivial, CallsIn.mono (callsIn_wide.2 (letter_walk _ _)) ?_⟩
    rintro e w3 ⟨rfl, hw3⟩
    obtain rfl := hw3.symm
    obtain ⟨il, hil⟩ : ∃ il, il = isLet s pos := ⟨_, rfl⟩
    rw [show letterB ((Utf8.decode s pos).1 : Int) ((Lib.decodeGo (s.extract pos s.size)).2 : Int) = il by rw [hil]; unfold isLet; rw [RS.out]]
    obtain ⟨i2, c2, t2, z2, j2⟩ := ST.out w2 F12
    have I2 := Lib.hid i2
    have C2 := Lib.hid c2
    have T2 := Lib.hid t2
    have Z2 := Lib.hid z2
    have J2 := Lib.hid j2
    clear i2 c2 t2 z2 j2
    cases il with
    | true =>
     cases fr with
     | none =>
      have E := Lib.hid (wf_tn (f := f') hlt hil.symm)
      clear hil
      unfold frV
      gi_wp2_with (fail)
      go_roundw
      case rel => exact ⟨_, f', pre, some pos, rfl, HFN.out, HF1.out, (fun a e => by cases e; exact ⟨by have := HWD.out; omega, hlt⟩), by rw [← E.out]; exact HP.out, I2.out, C2.out, T2.out, Z2.out, J2.out⟩
      case measure => rw [I2.out, HIT.out]; have := HWD.out; dsimp only; omega
     | some a =>
      have E := Lib.hid (wf_ts (f := f') (a := a) hlt hil.symm)
      have ha := HFR.out a rfl
      clear hil
      unfold frV
      gi_wp2_with (fail)
      go_roundw
      case rel => exact ⟨_, f', pre, some a, rfl, HFN.out, HF1.out, (fun b e => by cases e; exact ⟨by have := HWD.out; omega, ha.2⟩), by rw [← E.out]; exact HP.out, I2.out, C2.out, T2.out, Z2.out, J2.out⟩
      case measure => rw [I2.out, HIT.out]; have := HWD.out; dsimp only; omega
    | false =>
     cases fr with
     | none =>
      have E := Lib.hid (wf_fn (f := f') hlt hil.symm)
      clear hil
      unfold frV
      gi_wp2_with (fail)
      go_roundw
      case rel => exact ⟨_, f', pre, none, rfl, HFN.out, HF1.out, (fun b e => by cases e), by rw [← E.out]; exact HP.out, I2.out, C2.out, T2.out, Z2.out, J2.out⟩
      case measure => rw [I2.out, HIT.out]; have := HWD.out; dsimp only; omega
     | some a =>
      have E := Lib.hid (wf_fs (f := f') (a := a) hlt hil.symm)
      have ha := HFR.out a rfl
      have c2' := C2.out
      clear hil
      unfold frV
      gi_wp2_with (fail)
      refine ⟨trivial, CallsIn.mono (callsIn_wide.2 (fold_walk (s.extract a pos) (by rw [ByteArray.size_extract]; omega))) ?_⟩
      rintro e w4 ⟨rfl, f4⟩
      obtain ⟨i4, c4, t4, z4, j4⟩ := ST.out w4 (F12.tr f4)
      have hlen : pre.length < (wordsS s).length := by rw [← HP.out, E.out]; simp
      obtain ⟨fn, tmps, assign, body, hy, hR⟩ := HY.out pre (foldS (s.extract a pos)) w4 j4 hlen
      have HR := Lib.hid hR
      have I4 := Lib.hid i4
      have C4 := Lib.hid c4
      have T4 := Lib.hid t4
      have Z4 := Lib.hid z4
      clear i4 c4 t4 z4 j4 hR hlen f4 c2'
      gi_wp2_with (fail)
      refine HR.out.mono ?_
      rintro e W3 (⟨rfl, hJ3, hk3⟩ | ⟨rfl, hJx3⟩)
      ·have J5 := Lib.hid hJ3
       have I5 := Lib.hid (hk3.1.same _ _ I4.out rfl)
       have C5 := Lib.hid (hk3.cell C4.out)
       have T5 := Lib.hid (show Lib.Utf8Tabs 1 2 W3 from ⟨fun k hk => hk3.cell (T4.out.1 k hk), fun k hk => ⟨hk3.cell (T4.out.2 k hk).1, hk3.cell (T4.out.2 k hk).2⟩⟩)
       have Z5 := Lib.hid (Nat.lt_of_lt_of_le Z4.out hk3.1.size)
       clear hJ3 hk3 hy
       gi_wp2_with (fail)
       go_roundw
       case rel => exact ⟨_, f', pre ++ [foldS (s.extract a pos)], none, rfl, HFN.out, HF1.out, (fun b e => by cases e), by rw [List.append_assoc, List.singleton_append, ← E.out]; exact HP.out, I5.out, C5.out, T5.out, Z5.out, J5.out⟩
       case measure => rw [I5.out, HIT.out]; have := HWD.out; dsimp only; omega
      ·have J5 := Lib.hid hJx3
       clear hJx3 hy
       gi_wp2_with (fail)
       refine bodyPost_ret (results_none rfl _ _ _) rfl ?_
       exact ⟨⟨_, rfl⟩, .inr ⟨_, ⟨wordsF s f' (pos + (Utf8.decode s pos).2) none, by rw [List.append_assoc, List.singleton_append, ← E.out]; exact HP.out⟩, J5.out⟩⟩
   ·have h128' : ((Utf8.decode s pos).1 : Int) < 128 := by omega
    have RS := Lib.hid (show runeSz s pos = 1 from if_neg h128)
    gi_wp2_with (fail)
    refine ⟨trivial, CallsIn.mono (callsIn_wide.2 (letter_walk _ _)) ?_⟩
    rintro e w3 ⟨rfl, hw3⟩
    obtain rfl := hw3.symm
    clear hnx
    generalize (wr.iterAt W.heap.size s (pos + (Utf8.decode s pos).2)) = w2 at *
    have F12 : Fr (fun _ => False) w2 w2 := Fr.same w2
    obtain ⟨il, hil⟩ : ∃ il, il = isLet s pos := ⟨_, rfl⟩
    rw [show letterB ((Utf8.decode s pos).1 : Int) 1 = il by rw [hil]; unfold isLet; rw [RS.out]]
    obtain ⟨i2, c2, t2, z2, j2⟩ := ST.out w2 F12
    have I2 := Lib.hid i2
    have C2 := Lib.hid c2
    have T2 := Lib.hid t2
    have Z2 := Lib.hid z2
    have J2 := Lib.hid j2
    clear i2 c2 t2 z2 j2
    cases il with
    | true =>
     cases fr with
     | none =>
      have E := Lib.hid (wf_tn (f := f') hlt hil.symm)
      clear hil
      unfold frV
      gi_wp2_with (fail)
      go_roundw
      case rel => exact ⟨_, f', pre, some pos, rfl, HFN.out, HF1.out, (fun a e => by cases e; exact ⟨by have := HWD.out; omega, hlt⟩), by rw [← E.out]; exact HP.out, I2.out, C2.out, T2.out, Z2.out, J2.out⟩
      case measure => rw [I2.out, HIT.out]; have := HWD.out; dsimp only; omega
     | some a =>
      have E := Lib.hid (wf_ts (f := f') (a := a) hlt hil.symm)
      have ha := HFR.out a rfl
      clear hil
      unfold frV
      gi_wp2_with (fail)
      go_roundw
      case rel => exact ⟨_, f', pre, some a, rfl, HFN.out, HF1.out, (fun b e => by cases e; exact ⟨by have := HWD.out; omega, ha.2⟩), by rw [← E.out]; exact HP.out, I2.out, C2.out, T2.out, Z2.out, J2.out⟩
      case measure => rw [I2.out, HIT.out]; have := HWD.out; dsimp only; omega
    | false =>
     cases fr with
     | none =>
      have E := Lib.hid (wf_fn (f := f') hlt hil.symm)
      clear hil
      unfold frV
      gi_wp2_with (fail)
      go_roundw
      case rel => exact ⟨_, f', pre, none, rfl, HFN.out, HF1.out, (fun b e => by cases e), by rw [← E.out]; exact HP.out, I2.out, C2.out, T2.out, Z2.out, J2.out⟩
      case measure => rw [I2.out, HIT.out]; have := HWD.out; dsimp only; omega
     | some a =>
      have E := Lib.hid (wf_fs (f := f') (a := a) hlt hil.symm)
      have ha := HFR.out a rfl
      have c2' := C2.out
      clear hil
      unfold frV
      gi_wp2_with (fail)
      refine ⟨trivial, CallsIn.mono (callsIn_wide.2 (fold_walk (s.extract a pos) (by rw [ByteArray.size_extract]; omega))) ?_⟩
      rintro e w4 ⟨rfl, f4⟩
      obtain ⟨i4, c4, t4, z4, j4⟩ := ST.out w4 (F12.tr f4)
      have hlen : pre.length < (wordsS s).length := by rw [← HP.out, E.out]; simp
      obtain ⟨fn, tmps, assign, body, hy, hR⟩ := HY.out pre (foldS (s.extract a pos)) w4 j4 hlen
      have HR := Lib.hid hR
      have I4 := Lib.hid i4
      have C4 := Lib.hid c4
      have T4 := Lib.hid t4
      have Z4 := Lib.hid z4
      clear i4 c4 t4 z4 j4 hR hlen f4 c2'
      gi_wp2_with (fail)
      refine HR.out.mono ?_
      rintro e W3 (⟨rfl, hJ3, hk3⟩ | ⟨rfl, hJx3⟩)
      ·have J5 := Lib.hid hJ3
       have I5 := Lib.hid (hk3.1.same _ _ I4.out rfl)
       have C5 := Lib.hid (hk3.cell C4.out)
       have T5 := Lib.hid (show Lib.Utf8Tabs 1 2 W3 from ⟨fun k hk => hk3.cell (T4.out.1 k hk), fun k hk => ⟨hk3.cell (T4.out.2 k hk).1, hk3.cell (T4.out.2 k hk).2⟩⟩)
       have Z5 := Lib.hid (Nat.lt_of_lt_of_le Z4.out hk3.1.size)
       clear hJ3 hk3 hy
       gi_wp2_with (fail)
       go_roundw
       case rel => exact ⟨_, f', pre ++ [foldS (s.extract a pos)], none, rfl, HFN.out, HF1.out, (fun b e => by cases e), by rw [List.append_assoc, List.singleton_append, ← E.out]; exact HP.out, I5.out, C5.out, T5.out, Z5.out, J5.out⟩
       case measure => rw [I5.out, HIT.out]; have := HWD.out; dsimp only; omega
      ·have J5 := Lib.hid hJx3
       clear hJx3 hy
       gi_wp2_with (fail)
       refine bodyPost_ret (results_none rfl _ _ _) rfl ?_
       exact ⟨⟨_, rfl⟩, .inr ⟨_, ⟨wordsF s f' (pos + (Utf8.decode s pos).2) none, by rw [List.append_assoc, List.singleton_append, ← E.out]; exact HP.out⟩, J5.out⟩⟩
  ·have hnx := fun ty => Lib.run_next_end_at (P := Tryz.prog) wr W.heap.size s pos ty HIT.out hlt
   obtain ⟨f', rfl⟩ : ∃ f', f = f' + 1 := ⟨f - 1, by omega⟩
   cases fr with
   | none =>
    have E := Lib.hid (wf_en (f := f') hlt)
    unfold frV
    gi_wp2_with (fail)
    go_end0
    exact ⟨⟨_, rfl⟩, .inl ⟨pre, by have := HP.out; rw [E.out, List.append_nil] at this; exact this, HJS.out⟩⟩
   | some a =>
    have E := Lib.hid (wf_es (f := f') (a := a) hlt)
    have ha := HFR.out a rfl
    unfold frV
    gi_wp2_with (fail)
    refine ⟨trivial, CallsIn.mono (callsIn_wide.2 (fold_walk (s.extract a s.size) (by rw [ByteArray.size_extract]; omega))) ?_⟩
    rintro e w4 ⟨rfl, f4⟩
    have j4 := HJ.out pre _ _ none HJS.out (fr_grown f4) fun r e => by cases e
    have hlen : pre.length < (wordsS s).length := by rw [← HP.out, E.out]; simp
    obtain ⟨fn, tmps, assign, body, hy, hR⟩ := HY.out pre (foldS (s.extract a s.size)) w4 j4 hlen
    have HR := Lib.hid hR
    clear j4 hR hlen f4
    gi_wp2_with (fail)
    refine HR.out.mono ?_
    rintro e W3 (⟨rfl, hJ3, hk3⟩ | ⟨rfl, hJx3⟩)
    ·have J5 := Lib.hid hJ3
     clear hJ3 hk3 hy
     gi_wp2_with (fail)
     go_end0
     exact ⟨⟨_, rfl⟩, .inl ⟨_, by have := HP.out; rw [E.out] at this; exact this, J5.out⟩⟩
    ·have J5 := Lib.hid hJx3
     clear hJx3 hy
     gi_wp2_with (fail)
     go_end0
     exact ⟨⟨_, rfl⟩, .inr ⟨_, by have := HP.out; rw [E.out] at this; rw [this]; exact List.prefix_refl _, J5.out⟩⟩
end
end Go.Proofs.YtfdhofabgdkkkaaGreatDoor
