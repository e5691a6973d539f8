/- Encode of a record, body of a batch: the walks. -/
import Derived.Test.YtcnmggmfehdfoaaDoorP2
namespace Go.Proofs.YtcnmggmfehdfoaaDoor
open Go.RowKit Go.Fm Go.BigFrame
set_option linter.unusedVariables false
set_option linter.unusedSimpArgs false

def flagsOf (r : Rec) : Int := (if r.bare then 1 else 0) + (if r.gone then 2 else 0)
def encHead (r : Rec) : ByteArray := putS r.at' ++ putS r.tm ++ putS (flagsOf r) ++ textS r.key ++ textS r.val ++ putS r.hs.length
def encTo (r : Rec) : Nat → ByteArray
  | 0 => encHead r
  | k + 1 => match r.hs[k]? with
    | some h => encTo r k ++ textS h.key ++ textS h.val
    | none => encTo r k
def encS (r : Rec) : ByteArray := encTo r r.hs.length

theorem strAdd (w : World) (a b : ByteArray) (h : a.size + b.size ≤ 1000000000) : (binOp .add 9 (.string a) (.string b)).run Tryd.prog w = .ok (.string (a ++ b)) w := by
  simp [binOp, run_string_add_sum w a b (by omega)]

set_option maxRecDepth 100000 in
set_option maxHeartbeats 1000000 in
theorem encode_walk (K : Nat → Prop) (r : Rec) (hv : Value) (w : World) (h : HdsR K w hv r.hs) (hr : RecOK r) :
    Calls Tryd.prog 39 #[recV r hv] w fun e w' => e = .returned (.tuple #[.string (encS r), .int .i64 0]) ∧ Fr (fun _ => False) w w' := by
  have hck := rcheck_ok K r hv (w.alloc (.cells (recCells r hv).toArray 39)) (h.old ((Fr.same w).alloc _)) hr
  obtain ⟨oa, cap, rfl, h⟩ := h
  have H := Lib.hid h
  clear h
  have hf0 := (Fr.same w).alloc (.cells (recCells r (.slice oa r.hs.length cap)).toArray 39)
  have dd := fun j => cell_alloc_new w (recCells r (.slice oa r.hs.length cap)).toArray 39 j
  have hsz : r.hs.length ≤ 10 := hr.hs
  have hk := hr.key
  have hvl := hr.val
  have wa : (Lit.int .i64 r.at').wf = true := by have := hr.at0; have := hr.at1; simp [Lit.wf, IntKind.min, IntKind.max, IntKind.signed, IntKind.bits]; omega
  have wt : (Lit.int .i64 r.tm).wf = true := by have := hr.tm0; have := hr.tm1; simp [Lit.wf, IntKind.min, IntKind.max, IntKind.signed, IntKind.bits]; omega
  have wf : (Lit.int .i64 (flagsOf r)).wf = true := by
    unfold flagsOf; cases r.bare <;> cases r.gone <;> decide
  have wl := len_wf (show r.hs.length ≤ 1000000000 by omega)
  have WA := Lib.hid wa
  have WT := Lib.hid wt
  have WF := Lib.hid wf
  have WL := Lib.hid wl
  have sa := putS_size wa
  have st := putS_size wt
  have sf := putS_size wf
  have sl := putS_size wl
  have sk := textS_size (show r.key.size ≤ 1000000000 by omega)
  have sv := textS_size (show r.val.size ≤ 1000000000 by omega)
  have HCK := Lib.hid hck
  have HROK := Lib.hid hr
  clear hck hr wa wt wf wl
  unfold recCells at HCK hf0 dd
  unfold recV at *
  have DD := Lib.hid dd
  clear dd
  go_enter Tryd.func39, Tryd.ntmps39
  go_wp2_with fail
  refine HCK.out.mono ?_
  rintro e w2 ⟨rfl, hf2⟩
  have F2 := Lib.hid (hf0.tr hf2)
  have d : ∀ (j : Nat) (u : Value), (#[.int .i64 r.at', .int .i64 r.tm, .bool r.bare, .string r.key, .bool r.gone, .string r.val, .slice oa r.hs.length cap] : Array Value)[j]? = some u → w2.cell? ⟨w.heap.size, j, none⟩ = some u := fun j u hj => hf2.cel ((DD.out j).trans hj)
  have d2 : w2.cell? ⟨w.heap.size, 2, none⟩ = some (.bool r.bare) := d 2 _ rfl
  have d4 : w2.cell? ⟨w.heap.size, 4, none⟩ = some (.bool r.gone) := d 4 _ rfl
  have d6 : w2.cell? ⟨w.heap.size, 6, none⟩ = some (.slice oa r.hs.length cap) := d 6 _ rfl
  have D := Lib.hid d
  clear d hf0 hf2
  have D6 := Lib.hid d6
  cases hb : r.bare
  · cases hg : r.gone
    · rw [hb] at d2
      rw [hg] at d4
      have hfl : flagsOf r = 0 := by simp [flagsOf, hb, hg]
      have hhead : encHead r = putS r.at' ++ putS r.tm ++ putS 0 ++ textS r.key ++ textS r.val ++ putS r.hs.length := by unfold encHead; rw [hfl]
      rw [hfl] at sf
      have wf := WF.out
      rw [hfl] at wf
      have HH := Lib.hid hhead
      go_wp2_with fail
      have x0 : ∀ y : Lcl.InS (fun w' => Fr (fun _ => False) w2 w'), y.w.cell? ⟨w.heap.size, 0, none⟩ = some (.int .i64 r.at') := fun y => y.h.cel (D.out 0 _ rfl)
      have x1 : ∀ y : Lcl.InS (fun w' => Fr (fun _ => False) w2 w'), y.w.cell? ⟨w.heap.size, 1, none⟩ = some (.int .i64 r.tm) := fun y => y.h.cel (D.out 1 _ rfl)
      have x3 : ∀ y : Lcl.InS (fun w' => Fr (fun _ => False) w2 w'), y.w.cell? ⟨w.heap.size, 3, none⟩ = some (.string r.key) := fun y => y.h.cel (D.out 3 _ rfl)
      have x5 : ∀ y : Lcl.InS (fun w' => Fr (fun _ => False) w2 w'), y.w.cell? ⟨w.heap.size, 5, none⟩ = some (.string r.val) := fun y => y.h.cel (D.out 5 _ rfl)
      have x6 : ∀ y : Lcl.InS (fun w' => Fr (fun _ => False) w2 w'), y.w.cell? ⟨w.heap.size, 6, none⟩ = some (.slice oa r.hs.length cap) := fun y => y.h.cel (D.out 6 _ rfl)
      have wa := WA.out
      have wt := WT.out
      have wl := WL.out
      have fput : ∀ (n : Int), (Lit.int .i64 n).wf = true → ∀ y : Lcl.InS (fun w' => Fr (fun _ => False) w2 w'), Calls Tryd.prog 38 #[.int .i64 n] y.w fun e w' => e = .returned (.string (putS n)) ∧ ∃ y : Lcl.InS (fun w' => Fr (fun _ => False) w2 w'), w' = y.w := fun n hn y => quietly y (put_walk n _ hn)
      have ftext : ∀ (t : ByteArray), t.size ≤ 1000000000 → ∀ y : Lcl.InS (fun w' => Fr (fun _ => False) w2 w'), Calls Tryd.prog 49 #[.string t] y.w fun e w' => e = .returned (.string (textS t)) ∧ ∃ y : Lcl.InS (fun w' => Fr (fun _ => False) w2 w'), w' = y.w := fun t ht y => quietly y (text_walk t _ ht)
      have a1 := fun w => strAdd w (putS r.at') (putS r.tm) (by omega)
      have a2 := fun w => strAdd w (putS r.at' ++ putS r.tm) (putS 0) (by rw [ByteArray.size_append]; omega)
      have a3 := fun w => strAdd w (putS r.at' ++ putS r.tm ++ putS 0) (textS r.key) (by rw [ByteArray.size_append, ByteArray.size_append]; omega)
      have a4 := fun w => strAdd w (putS r.at' ++ putS r.tm ++ putS 0 ++ textS r.key) (textS r.val) (by rw [ByteArray.size_append, ByteArray.size_append, ByteArray.size_append]; omega)
      have a5 := fun w => strAdd w (putS r.at' ++ putS r.tm ++ putS 0 ++ textS r.key ++ textS r.val) (putS r.hs.length) (by rw [ByteArray.size_append, ByteArray.size_append, ByteArray.size_append, ByteArray.size_append]; omega)
      have hs0 : (encHead r).size ≤ 3000 := by rw [hhead, ByteArray.size_append, ByteArray.size_append, ByteArray.size_append, ByteArray.size_append, ByteArray.size_append]; omega
      have HS0 := Lib.hid hs0
      clear hfl hhead hs0
      refine wp_region_quiet (C := fun w' => ∃ y : Lcl.InS (fun w' => Fr (fun _ => False) w2 w'), w' = y.w) (by kernel_rfl) (by kernel_rfl) ⟨⟨w2.drew, (Fr.same w2).drew⟩, rfl⟩ ?_
      dsimp only
      repeat (go_big_quiet_step (first | with_reducible rfl | exact fput _ (by assumption) _ | exact ftext _ (by omega) _))
      refine wpQuiet_nil ?_
      rintro _ ⟨y, rfl⟩
      have F3 := Lib.hid (F2.out.tr y.h)
      have D63 := Lib.hid (y.h.cel D6.out)
      rw [← HH.out]
      clear x0 x1 x3 x5 x6 fput ftext a1 a2 a3 a4 a5 wa wt wl wf sa st sf sl sk sv d2 d4 d6
      generalize y.w = W3 at *
      clear y
      go_wp2_with fail
      go_loopw [6, 7] (fun sv iv wr => ∃ k : Nat, iv = .int .i64 k ∧ k ≤ r.hs.length ∧ sv = .string (encTo r k) ∧ (encTo r k).size ≤ 3000 + 2100 * k ∧ Fr (fun _ => False) W3 wr) (fun _ iv _ => r.hs.length - (intOf iv).toNat)
      case atStart => exact ⟨0, rfl, Nat.zero_le _, rfl, HS0.out, Fr.same _⟩
      case round =>
        obtain ⟨k, rfl, hk, rfl, hsz3, hf⟩ := hrel
        have F := Lib.hid hf
        have d6 := hf.cel D63.out
        clear hf
        rcases Nat.lt_or_ge k r.hs.length with hlt | hge
        · obtain ⟨x, hx⟩ := get_of_lt hlt
          obtain ⟨a, rfl, -, c0, c1⟩ := H.out k x hx
          have hnext : encTo r (k + 1) = encTo r k ++ textS x.key ++ textS x.val := by simp [encTo, hx]
          obtain ⟨ho1, ho2, ho3⟩ := HROK.out.hdrs x (List.mem_of_getElem? hx)
          have c0 := F3.out.cel c0
          have c1 := F3.out.cel c1
          have tk := textS_size (show x.key.size ≤ 1000000000 by omega)
          have tv := textS_size (show x.val.size ≤ 1000000000 by omega)
          have HN := Lib.hid hnext
          clear hx hnext
          go_wp2_with fail
          have z0 : ∀ y : Lcl.InS (fun w' => Fr (fun _ => False) wr w'), y.w.cell? (a.add (k * 2)) = some (.string x.key) := fun y => y.h.cel (F.out.cel c0)
          have z1 : ∀ y : Lcl.InS (fun w' => Fr (fun _ => False) wr w'), y.w.cell? ⟨(a.add (k * 2)).block, (a.add (k * 2)).off + 1, none⟩ = some (.string x.val) := fun y => y.h.cel (F.out.cel c1)
          have z6 : ∀ y : Lcl.InS (fun w' => Fr (fun _ => False) wr w'), y.w.cell? ⟨w.heap.size, 6, none⟩ = some (.slice (some a) r.hs.length cap) := fun y => y.h.cel d6
          have ftext : ∀ (t : ByteArray), t.size ≤ 1000000000 → ∀ y : Lcl.InS (fun w' => Fr (fun _ => False) wr w'), Calls Tryd.prog 49 #[.string t] y.w fun e w' => e = .returned (.string (textS t)) ∧ ∃ y : Lcl.InS (fun w' => Fr (fun _ => False) wr w'), w' = y.w := fun t ht y => quietly y (text_walk t _ ht)
          have a1 := fun w => strAdd w (encTo r k) (textS x.key) (by omega)
          have a2 := fun w => strAdd w (encTo r k ++ textS x.key) (textS x.val) (by rw [ByteArray.size_append]; omega)
          clear c0 c1 d6
          refine wp_region_quiet (C := fun w' => ∃ y : Lcl.InS (fun w' => Fr (fun _ => False) wr w'), w' = y.w) (by kernel_rfl) (by kernel_rfl) ⟨⟨wr.drew, (Fr.same wr).drew⟩, rfl⟩ ?_
          dsimp only
          repeat (go_big_quiet_step (first | with_reducible rfl | exact ftext _ (by omega) _))
          refine wpQuiet_nil ?_
          rintro _ ⟨y, rfl⟩
          have F4 := Lib.hid (F.out.tr y.h)
          clear z0 z1 z6 ftext a1 a2
          generalize y.w = W4 at *
          clear y
          go_wp2_with fail
          go_roundw
          case rel => exact ⟨k + 1, by go_num, by omega, by rw [HN.out], by rw [HN.out, ByteArray.size_append, ByteArray.size_append]; omega, F4.out⟩
          case measure => simp [intOf]; omega
        · have hS : encTo r k = encS r := by obtain rfl : k = r.hs.length := by omega
                                             rfl
          rw [hS]
          clear hS
          go_wp2_with fail
          go_ret2
          exact ⟨rfl, F3.out.tr F.out⟩
    · rw [hb] at d2
      rw [hg] at d4
      have hfl : flagsOf r = 2 := by simp [flagsOf, hb, hg]
      have hhead : encHead r = putS r.at' ++ putS r.tm ++ putS 2 ++ textS r.key ++ textS r.val ++ putS r.hs.length := by unfold encHead; rw [hfl]
      rw [hfl] at sf
      have wf := WF.out
      rw [hfl] at wf
      have HH := Lib.hid hhead
      go_wp2_with fail
      have x0 : ∀ y : Lcl.InS (fun w' => Fr (fun _ => False) w2 w'), y.w.cell? ⟨w.heap.size, 0, none⟩ = some (.int .i64 r.at') := fun y => y.h.cel (D.out 0 _ rfl)
      have x1 : ∀ y : Lcl.InS (fun w' => Fr (fun _ => False) w2 w'), y.w.cell? ⟨w.heap.size, 1, none⟩ = some (.int .i64 r.tm) := fun y => y.h.cel (D.out 1 _ rfl)
      have x3 : ∀ y : Lcl.InS (fun w' => Fr (fun _ => False) w2 w'), y.w.cell? ⟨w.heap.size, 3, none⟩ = some (.string r.key) := fun y => y.h.cel (D.out 3 _ rfl)
      have x5 : ∀ y : Lcl.InS (fun w' => Fr (fun _ => False) w2 w'), y.w.cell? ⟨w.heap.size, 5, none⟩ = some (.string r.val) := fun y => y.h.cel (D.out 5 _ rfl)
      have x6 : ∀ y : Lcl.InS (fun w' => Fr (fun _ => False) w2 w'), y.w.cell? ⟨w.heap.size, 6, none⟩ = some (.slice oa r.hs.length cap) := fun y => y.h.cel (D.out 6 _ rfl)
      have wa := WA.out
      have wt := WT.out
      have wl := WL.out
      have fput : ∀ (n : Int), (Lit.int .i64 n).wf = true → ∀ y : Lcl.InS (fun w' => Fr (fun _ => False) w2 w'), Calls Tryd.prog 38 #[.int .i64 n] y.w fun e w' => e = .returned (.string (putS n)) ∧ ∃ y : Lcl.InS (fun w' => Fr (fun _ => False) w2 w'), w' = y.w := fun n hn y => quietly y (put_walk n _ hn)
      have ftext : ∀ (t : ByteArray), t.size ≤ 1000000000 → ∀ y : Lcl.InS (fun w' => Fr (fun _ => False) w2 w'), Calls Tryd.prog 49 #[.string t] y.w fun e w' => e = .returned (.string (textS t)) ∧ ∃ y : Lcl.InS (fun w' => Fr (fun _ => False) w2 w'), w' = y.w := fun t ht y => quietly y (text_walk t _ ht)
      have a1 := fun w => strAdd w (putS r.at') (putS r.tm) (by omega)
      have a2 := fun w => strAdd w (putS r.at' ++ putS r.tm) (putS 2) (by rw [ByteArray.size_append]; omega)
      have a3 := fun w => strAdd w (putS r.at' ++ putS r.tm ++ putS 2) (textS r.key) (by rw [ByteArray.size_append, ByteArray.size_append]; omega)
      have a4 := fun w => strAdd w (putS r.at' ++ putS r.tm ++ putS 2 ++ textS r.key) (textS r.val) (by rw [ByteArray.size_append, ByteArray.size_append, ByteArray.size_append]; omega)
      have a5 := fun w => strAdd w (putS r.at' ++ putS r.tm ++ putS 2 ++ textS r.key ++ textS r.val) (putS r.hs.length) (by rw [ByteArray.size_append, ByteArray.size_append, ByteArray.size_append, ByteArray.size_append]; omega)
      have hs0 : (encHead r).size ≤ 3000 := by rw [hhead, ByteArray.size_append, ByteArray.size_append, ByteArray.size_append, ByteArray.size_append, ByteArray.size_append]; omega
      have HS0 := Lib.hid hs0
      clear hfl hhead hs0
      refine wp_region_quiet (C := fun w' => ∃ y : Lcl.InS (fun w' => Fr (fun _ => False) w2 w'), w' = y.w) (by kernel_rfl) (by kernel_rfl) ⟨⟨w2.drew, (Fr.same w2).drew⟩, rfl⟩ ?_
      dsimp only
      repeat (go_big_quiet_step (first | with_reducible rfl | exact fput _ (by assumption) _ | exact ftext _ (by omega) _))
      refine wpQuiet_nil ?_
      rintro _ ⟨y, rfl⟩
      have F3 := Lib.hid (F2.out.tr y.h)
      have D63 := Lib.hid (y.h.cel D6.out)
      rw [← HH.out]
      clear x0 x1 x3 x5 x6 fput ftext a1 a2 a3 a4 a5 wa wt wl wf sa st sf sl sk sv d2 d4 d6
      generalize y.w = W3 at *
      clear y
      go_wp2_with fail
      go_loopw [6, 7] (fun sv iv wr => ∃ k : Nat, iv = .int .i64 k ∧ k ≤ r.hs.length ∧ sv = .string (encTo r k) ∧ (encTo r k).size ≤ 3000 + 2100 * k ∧ Fr (fun _ => False) W3 wr) (fun _ iv _ => r.hs.length - (intOf iv).toNat)
      case atStart => exact ⟨0, rfl, Nat.zero_le _, rfl, HS0.out, Fr.same _⟩
      case round =>
        obtain ⟨k, rfl, hk, rfl, hsz3, hf⟩ := hrel
        have F := Lib.hid hf
        have d6 := hf.cel D63.out
        clear hf
        rcases Nat.lt_or_ge k r.hs.length with hlt | hge
        · obtain ⟨x, hx⟩ := get_of_lt hlt
          obtain ⟨a, rfl, -, c0, c1⟩ := H.out k x hx
          have hnext : encTo r (k + 1) = encTo r k ++ textS x.key ++ textS x.val := by simp [encTo, hx]
          obtain ⟨ho1, ho2, ho3⟩ := HROK.out.hdrs x (List.mem_of_getElem? hx)
          have c0 := F3.out.cel c0
          have c1 := F3.out.cel c1
          have tk := textS_size (show x.key.size ≤ 1000000000 by omega)
          have tv := textS_size (show x.val.size ≤ 1000000000 by omega)
          have HN := Lib.hid hnext
          clear hx hnext
          go_wp2_with fail
          have z0 : ∀ y : Lcl.InS (fun w' => Fr (fun _ => False) wr w'), y.w.cell? (a.add (k * 2)) = some (.string x.key) := fun y => y.h.cel (F.out.cel c0)
          have z1 : ∀ y : Lcl.InS (fun w' => Fr (fun _ => False) wr w'), y.w.cell? ⟨(a.add (k * 2)).block, (a.add (k * 2)).off + 1, none⟩ = some (.string x.val) := fun y => y.h.cel (F.out.cel c1)
          have z6 : ∀ y : Lcl.InS (fun w' => Fr (fun _ => False) wr w'), y.w.cell? ⟨w.heap.size, 6, none⟩ = some (.slice (some a) r.hs.length cap) := fun y => y.h.cel d6
          have ftext : ∀ (t : ByteArray), t.size ≤ 1000000000 → ∀ y : Lcl.InS (fun w' => Fr (fun _ => False) wr w'), Calls Tryd.prog 49 #[.string t] y.w fun e w' => e = .returned (.string (textS t)) ∧ ∃ y : Lcl.InS (fun w' => Fr (fun _ => False) wr w'), w' = y.w := fun t ht y => quietly y (text_walk t _ ht)
          have a1 := fun w => strAdd w (encTo r k) (textS x.key) (by omega)
          have a2 := fun w => strAdd w (encTo r k ++ textS x.key) (textS x.val) (by rw [ByteArray.size_append]; omega)
          clear c0 c1 d6
          refine wp_region_quiet (C := fun w' => ∃ y : Lcl.InS (fun w' => Fr (fun _ => False) wr w'), w' = y.w) (by kernel_rfl) (by kernel_rfl) ⟨⟨wr.drew, (Fr.same wr).drew⟩, rfl⟩ ?_
          dsimp only
          repeat (go_big_quiet_step (first | with_reducible rfl | exact ftext _ (by omega) _))
          refine wpQuiet_nil ?_
          rintro _ ⟨y, rfl⟩
          have F4 := Lib.hid (F.out.tr y.h)
          clear z0 z1 z6 ftext a1 a2
          generalize y.w = W4 at *
          clear y
          go_wp2_with fail
          go_roundw
          case rel => exact ⟨k + 1, by go_num, by omega, by rw [HN.out], by rw [HN.out, ByteArray.size_append, ByteArray.size_append]; omega, F4.out⟩
          case measure => simp [intOf]; omega
        · have hS : encTo r k = encS r := by obtain rfl : k = r.hs.length := by omega
                                             rfl
          rw [hS]
          clear hS
          go_wp2_with fail
          go_ret2
          exact ⟨rfl, F3.out.tr F.out⟩
  · cases hg : r.gone
    · rw [hb] at d2
      rw [hg] at d4
      have hfl : flagsOf r = 1 := by simp [flagsOf, hb, hg]
      have hhead : encHead r = putS r.at' ++ putS r.tm ++ putS 1 ++ textS r.key ++ textS r.val ++ putS r.hs.length := by unfold encHead; rw [hfl]
      rw [hfl] at sf
      have wf := WF.out
      rw [hfl] at wf
      have HH := Lib.hid hhead
      go_wp2_with fail
      have x0 : ∀ y : Lcl.InS (fun w' => Fr (fun _ => False) w2 w'), y.w.cell? ⟨w.heap.size, 0, none⟩ = some (.int .i64 r.at') := fun y => y.h.cel (D.out 0 _ rfl)
      have x1 : ∀ y : Lcl.InS (fun w' => Fr (fun _ => False) w2 w'), y.w.cell? ⟨w.heap.size, 1, none⟩ = some (.int .i64 r.tm) := fun y => y.h.cel (D.out 1 _ rfl)
      have x3 : ∀ y : Lcl.InS (fun w' => Fr (fun _ => False) w2 w'), y.w.cell? ⟨w.heap.size, 3, none⟩ = some (.string r.key) := fun y => y.h.cel (D.out 3 _ rfl)
      have x5 : ∀ y : Lcl.InS (fun w' => Fr (fun _ => False) w2 w'), y.w.cell? ⟨w.heap.size, 5, none⟩ = some (.string r.val) := fun y => y.h.cel (D.out 5 _ rfl)
      have x6 : ∀ y : Lcl.InS (fun w' => Fr (fun _ => False) w2 w'), y.w.cell? ⟨w.heap.size, 6, none⟩ = some (.slice oa r.hs.length cap) := fun y => y.h.cel (D.out 6 _ rfl)
      have wa := WA.out
      have wt := WT.out
      have wl := WL.out
      have fput : ∀ (n : Int), (Lit.int .i64 n).wf = true → ∀ y : Lcl.InS (fun w' => Fr (fun _ => False) w2 w'), Calls Tryd.prog 38 #[.int .i64 n] y.w fun e w' => e = .returned (.string (putS n)) ∧ ∃ y : Lcl.InS (fun w' => Fr (fun _ => False) w2 w'), w' = y.w := fun n hn y => quietly y (put_walk n _ hn)
      have ftext : ∀ (t : ByteArray), t.size ≤ 1000000000 → ∀ y : Lcl.InS (fun w' => Fr (fun _ => False) w2 w'), Calls Tryd.prog 49 #[.string t] y.w fun e w' => e = .returned (.string (textS t)) ∧ ∃ y : Lcl.InS (fun w' => Fr (fun _ => False) w2 w'), w' = y.w := fun t ht y => quietly y (text_walk t _ ht)
      have a1 := fun w => strAdd w (putS r.at') (putS r.tm) (by omega)
      have a2 := fun w => strAdd w (putS r.at' ++ putS r.tm) (putS 1) (by rw [ByteArray.size_append]; omega)
      have a3 := fun w => strAdd w (putS r.at' ++ putS r.tm ++ putS 1) (textS r.key) (by rw [ByteArray.size_append, ByteArray.size_append]; omega)
      have a4 := fun w => strAdd w (putS r.at' ++ putS r.tm ++ putS 1 ++ textS r.key) (textS r.val) (by rw [ByteArray.size_append, ByteArray.size_append, ByteArray.size_append]; omega)
      have a5 := fun w => strAdd w (putS r.at' ++ putS r.tm ++ putS 1 ++ textS r.key ++ textS r.val) (putS r.hs.length) (by rw [ByteArray.size_append, ByteArray.size_append, ByteArray.size_append, ByteArray.size_append]; omega)
      have hs0 : (encHead r).size ≤ 3000 := by rw [hhead, ByteArray.size_append, ByteArray.size_append, ByteArray.size_append, ByteArray.size_append, ByteArray.size_append]; omega
      have HS0 := Lib.hid hs0
      clear hfl hhead hs0
      refine wp_region_quiet (C := fun w' => ∃ y : Lcl.InS (fun w' => Fr (fun _ => False) w2 w'), w' = y.w) (by kernel_rfl) (by kernel_rfl) ⟨⟨w2.drew, (Fr.same w2).drew⟩, rfl⟩ ?_
      dsimp only
      repeat (go_big_quiet_step (first | with_reducible rfl | exact fput _ (by assumption) _ | exact ftext _ (by omega) _))
      refine wpQuiet_nil ?_
      rintro _ ⟨y, rfl⟩
      have F3 := Lib.hid (F2.out.tr y.h)
      have D63 := Lib.hid (y.h.cel D6.out)
      rw [← HH.out]
      clear x0 x1 x3 x5 x6 fput ftext a1 a2 a3 a4 a5 wa wt wl wf sa st sf sl sk sv d2 d4 d6
      generalize y.w = W3 at *
      clear y
      go_wp2_with fail
      go_loopw [6, 7] (fun sv iv wr => ∃ k : Nat, iv = .int .i64 k ∧ k ≤ r.hs.length ∧ sv = .string (encTo r k) ∧ (encTo r k).size ≤ 3000 + 2100 * k ∧ Fr (fun _ => False) W3 wr) (fun _ iv _ => r.hs.length - (intOf iv).toNat)
      case atStart => exact ⟨0, rfl, Nat.zero_le _, rfl, HS0.out, Fr.same _⟩
      case round =>
        obtain ⟨k, rfl, hk, rfl, hsz3, hf⟩ := hrel
        have F := Lib.hid hf
        have d6 := hf.cel D63.out
        clear hf
        rcases Nat.lt_or_ge k r.hs.length with hlt | hge
        · obtain ⟨x, hx⟩ := get_of_lt hlt
          obtain ⟨a, rfl, -, c0, c1⟩ := H.out k x hx
          have hnext : encTo r (k + 1) = encTo r k ++ textS x.key ++ textS x.val := by simp [encTo, hx]
          obtain ⟨ho1, ho2, ho3⟩ := HROK.out.hdrs x (List.mem_of_getElem? hx)
          have c0 := F3.out.cel c0
          have c1 := F3.out.cel c1
          have tk := textS_size (show x.key.size ≤ 1000000000 by omega)
          have tv := textS_size (show x.val.size ≤ 1000000000 by omega)
          have HN := Lib.hid hnext
          clear hx hnext
          go_wp2_with fail
          have z0 : ∀ y : Lcl.InS (fun w' => Fr (fun _ => False) wr w'), y.w.cell? (a.add (k * 2)) = some (.string x.key) := fun y => y.h.cel (F.out.cel c0)
          have z1 : ∀ y : Lcl.InS (fun w' => Fr (fun _ => False) wr w'), y.w.cell? ⟨(a.add (k * 2)).block, (a.add (k * 2)).off + 1, none⟩ = some (.string x.val) := fun y => y.h.cel (F.out.cel c1)
          have z6 : ∀ y : Lcl.InS (fun w' => Fr (fun _ => False) wr w'), y.w.cell? ⟨w.heap.size, 6, none⟩ = some (.slice (some a) r.hs.length cap) := fun y => y.h.cel d6
          have ftext : ∀ (t : ByteArray), t.size ≤ 1000000000 → ∀ y : Lcl.InS (fun w' => Fr (fun _ => False) wr w'), Calls Tryd.prog 49 #[.string t] y.w fun e w' => e = .returned (.string (textS t)) ∧ ∃ y : Lcl.InS (fun w' => Fr (fun _ => False) wr w'), w' = y.w := fun t ht y => quietly y (text_walk t _ ht)
          have a1 := fun w => strAdd w (encTo r k) (textS x.key) (by omega)
          have a2 := fun w => strAdd w (encTo r k ++ textS x.key) (textS x.val) (by rw [ByteArray.size_append]; omega)
          clear c0 c1 d6
          refine wp_region_quiet (C := fun w' => ∃ y : Lcl.InS (fun w' => Fr (fun _ => False) wr w'), w' = y.w) (by kernel_rfl) (by kernel_rfl) ⟨⟨wr.drew, (Fr.same wr).drew⟩, rfl⟩ ?_
          dsimp only
          repeat (go_big_quiet_step (first | with_reducible rfl | exact ftext _ (by omega) _))
          refine wpQuiet_nil ?_
          rintro _ ⟨y, rfl⟩
          have F4 := Lib.hid (F.out.tr y.h)
          clear z0 z1 z6 ftext a1 a2
          generalize y.w = W4 at *
          clear y
          go_wp2_with fail
          go_roundw
          case rel => exact ⟨k + 1, by go_num, by omega, by rw [HN.out], by rw [HN.out, ByteArray.size_append, ByteArray.size_append]; omega, F4.out⟩
          case measure => simp [intOf]; omega
        · have hS : encTo r k = encS r := by obtain rfl : k = r.hs.length := by omega
                                             rfl
          rw [hS]
          clear hS
          go_wp2_with fail
          go_ret2
          exact ⟨rfl, F3.out.tr F.out⟩
    · exact absurd ⟨hb, hg⟩ HROK.out.both
end Go.Proofs.YtcnmggmfehdfoaaDoor
