/- Encode of a record: the walk. -/
import Derived.Test.YtfdhofabgdkkkaaGreatDoorQ10
namespace Go.Proofs.YtfdhofabgdkkkaaGreatDoor
open Go.RowKit Go.Fm Go.BigFrame Go.Shelf
set_option linter.unusedVariables false
set_option linter.unusedSimpArgs false
/-- A builder in block b of the call's own holds a text. -/
def BldR (w : World) (b : Nat) (T : ByteArray) : Prop := Lib.IsBuilder 358 5 b b (Lib.strCells T) w
theorem strCells_append (a b : ByteArray) : Lib.strCells (a ++ b) = Lib.strCells a ++ Lib.strCells b := by
 unfold Lib.strCells
 rw [ByteArray.data_append, Array.toList_append, List.map_append]
theorem BldR.lt {w : World} {b : Nat} {T : ByteArray} (h : BldR w b T) : b < w.heap.size := by
 rcases h with h | h <;> exact h.lt
theorem bldAt_old {w w' : World} {b : Nat} {p : Value} {bs : List Value} (h : Lib.BuilderAt 358 5 b b p bs w) (hf : Fr (fun _ => False) w w') : Lib.BuilderAt 358 5 b b p bs w' := by
 obtain ⟨h1, v, h2, h3, h4⟩ := h
 exact ⟨h1, v, (hf.block b (lt_of_heap h2) fun h => h).trans h2, own_eq h3 fun k hk => hf.block k (own_lt h3 hk).2 fun h => h, h4⟩
theorem BldR.old {w w' : World} {b : Nat} {T : ByteArray} (h : BldR w b T) (hf : Fr (fun _ => False) w w') : BldR w' b T := by
 rcases h with h | h
 ·exact .inl (bldAt_old h hf)
 ·exact .inr (bldAt_old h hf)
theorem BldR.made (w : World) : BldR (w.alloc (.cells #[.pointer none, .slice none 0 0] 358)) w.heap.size ByteArray.empty :=
 .inl ⟨Nat.le_refl _, _, heap_alloc_self w _, World.ownsRow_nil _ _ _ _, by simp [Value.ownBlock]⟩
theorem bwrite_walk (b : Nat) (T s : ByteArray) (w : World) (h : BldR w b T) (hl : T.size + s.size ≤ 1000000000) :
  Calls Tryz.prog 245 #[.pointer (some ⟨b, 0, none⟩), .string s] w fun e w' => e = .returned (.tuple #[.int .i64 s.size, .nilIface]) ∧ BldR w' b (T ++ s) ∧ Below b w w' ∧ Kept b w w' :=
 (write_walk b b _ s w h (by rw [Lib.strCells_length]; omega) (Nat.le_of_lt h.lt)).mono fun e w' ⟨h1, h2, h3⟩ => ⟨h1, .inr (by rw [strCells_append]; exact h2), h3⟩
theorem bstring_walk (b : Nat) (T : ByteArray) (w : World) (h : BldR w b T) : Calls Tryz.prog 246 #[.pointer (some ⟨b, 0, none⟩)] w fun e w' => e = .returned (.string T) ∧ Below b w w' := by
 have := Tryz.Builder_String_any b b T.data.toList w h (Nat.le_of_lt h.lt)
 have e : (⟨T.data.toList.toArray⟩ : ByteArray) = T := by cases T; simp
 rw [e] at this
 exact this
def flagsOf (r : Rec) : Int := (if r.bare then 1 else 0) + (if r.gone then 2 else 0)
def encHead (r : Rec) : ByteArray := putS r.at' ++ putS r.tm ++ putS (flagsOf r) ++ textS r.key ++ textS r.val ++ putS r.hs.length
def encTo (r : Rec) : Nat → ByteArray
 | 0 => encHead r
 | k + 1 => match r.hs[k]? with
  | some h => encTo r k ++ textS h.key ++ textS h.val
  | none => encTo r k
def encS (r : Rec) : ByteArray := encTo r r.hs.length
theorem encTo_size {r : Rec} (h : RecOK r) : ∀ k, k ≤ r.hs.length → (encTo r k).size ≤ 3000 + 2100 * k
 | 0, _ => by
  have wa : (Lit.int .i64 r.at').wf = true := by have := h.at0; have := h.at1; simp [Lit.wf, IntKind.min, IntKind.max, IntKind.signed, IntKind.bits]; omega
  have wt : (Lit.int .i64 r.tm).wf = true := by have := h.tm0; have := h.tm1; simp [Lit.wf, IntKind.min, IntKind.max, IntKind.signed, IntKind.bits]; omega
  have wf : (Lit.int .i64 (flagsOf r)).wf = true := by unfold flagsOf; cases r.bare <;> cases r.gone <;> decide
  have hk := h.key
  have hv := h.val
  have hl := h.hs
  have sa := putS_size wa
  have st := putS_size wt
  have sf := putS_size wf
  have sl := putS_size (len_wf (show r.hs.length ≤ 1000000000 by omega))
  have sk := textS_size (show r.key.size ≤ 1000000000 by omega)
  have sv := textS_size (show r.val.size ≤ 1000000000 by omega)
  show (encHead r).size ≤ _
  unfold encHead
  rw [ByteArray.size_append, ByteArray.size_append, ByteArray.size_append, ByteArray.size_append, ByteArray.size_append]
  omega
 | k + 1, hk => by
  obtain ⟨x, hx⟩ := get_of_lt (show k < r.hs.length by omega)
  have ih := encTo_size h k (by omega)
  obtain ⟨h1, h2, h3⟩ := h.hdrs x (List.mem_of_getElem? hx)
  have sk := textS_size (show x.key.size ≤ 1000000000 by omega)
  have sv := textS_size (show x.val.size ≤ 1000000000 by omega)
  simp only [encTo, hx]
  rw [ByteArray.size_append, ByteArray.size_append]
  omega
theorem encS_size {r : Rec} (h : RecOK r) : (encS r).size ≤ 24000 := by
 have := encTo_size h r.hs.length (Nat.le_refl _)
 have := h.hs
 unfold encS
 omega
theorem strAdd (w : World) (a b : ByteArray) (h : a.size + b.size ≤ 1000000000) : (binOp .add 9 (.string a) (.string b)).run Tryz.prog w = .ok (.string (a ++ b)) w := by
 simp [binOp, run_string_add_sum w a b (by omega)]
theorem rcheck_ok (K : Nat → Prop) (r : Rec) (hv : Value) (w : World) (h : HdsR K w hv r.hs) (hr : RecOK r) : Calls Tryz.prog 93 #[recV r hv] w fun e w' => e = .returned (.int .i64 0) ∧ Fr (fun _ => False) w w' :=
 (rcheck_walk K r hv w h).mono fun e w' ⟨c, h1, h2, h3⟩ => by
  rcases h2 with ⟨rfl, -⟩ | ⟨-, h2⟩
  ·exact ⟨h1, h3⟩
  ·exact absurd hr h2
theorem rcheck_no (K : Nat → Prop) (r : Rec) (hv : Value) (w : World) (h : HdsR K w hv r.hs) (hr : ¬ RecOK r) : Calls Tryz.prog 93 #[recV r hv] w fun e w' => e = .returned (.int .i64 1) ∧ Fr (fun _ => False) w w' :=
 (rcheck_walk K r hv w h).mono fun e w' ⟨c, h1, h2, h3⟩ => by
  rcases h2 with ⟨-, h2⟩ | ⟨rfl, -⟩
  ·exact absurd h2 hr
  ·exact ⟨h1, h3⟩
set_option maxRecDepth 100000 in
set_option maxHeartbeats 16000000 in
theorem encode_walk (K : Nat → Prop) (r : Rec) (hv : Value) (w : World) (h : HdsR K w hv r.hs) (hr : RecOK r) :
  Calls Tryz.prog 198 #[recV r hv] w fun e w' => e = .returned (.tuple #[.string (encS r), .int .i64 0]) ∧ Fr (fun _ => False) w w' := by
 have hck := rcheck_ok K r hv (w.alloc (recObj r hv)) (h.old ((Fr.same w).alloc _)) hr
 obtain ⟨oa, cap, rfl, h⟩ := h
 have H := Lib.hid h
 have hobj := heap_alloc_self w (recObj r (.slice oa r.hs.length cap))
 have hfa := (Fr.same w).alloc (recObj r (.slice oa r.hs.length cap))
 have hsz : r.hs.length ≤ 10 := hr.hs
 have hk := hr.key
 have hvl := hr.val
 have wa : (Lit.int .i64 r.at').wf = true := by have := hr.at0; have := hr.at1; simp [Lit.wf, IntKind.min, IntKind.max, IntKind.signed, IntKind.bits]; omega
 have wt : (Lit.int .i64 r.tm).wf = true := by have := hr.tm0; have := hr.tm1; simp [Lit.wf, IntKind.min, IntKind.max, IntKind.signed, IntKind.bits]; omega
 have wf : (Lit.int .i64 (flagsOf r)).wf = true := by unfold flagsOf; cases r.bare <;> cases r.gone <;> decide
 have wl := len_wf (show r.hs.length ≤ 1000000000 by omega)
 have sa := putS_size wa
 have st := putS_size wt
 have sf := putS_size wf
 have sl := putS_size wl
 have sk := textS_size (show r.key.size ≤ 1000000000 by omega)
 have sv := textS_size (show r.val.size ≤ 1000000000 by omega)
 have WA := Lib.hid wa
 have WT := Lib.hid wt
 have WF := Lib.hid wf
 have WL := Lib.hid wl
 have HCK := Lib.hid hck
 have HROK := Lib.hid hr
 have OB := Lib.hid hobj
 have FA := Lib.hid hfa
 have hsh : (r.bare = false ∧ r.gone = false ∧ flagsOf r = 0) ∨ (r.bare = true ∧ r.gone = false ∧ flagsOf r = 1) ∨ (r.bare = false ∧ r.gone = true ∧ flagsOf r = 2) := by
  unfold flagsOf
  have hb := hr.both
  cases h1 : r.bare <;> cases h2 : r.gone
  ·exact .inl ⟨rfl, rfl, rfl⟩
  ·exact .inr (.inr ⟨rfl, rfl, rfl⟩)
  ·exact .inr (.inl ⟨rfl, rfl, rfl⟩)
  ·exact (hb ⟨h1, h2⟩).elim
 have o1 : bits .or .i64 0 1 = 1 := by kernel_rfl
 have o2 : bits .or .i64 0 2 = 2 := by kernel_rfl
 clear h hck hr wa wt wf wl hobj hfa
 obtain ⟨R, hR⟩ : ∃ R, Hid (R = r) := ⟨_, Lib.hid rfl⟩
 have hEnc : Hid (encS r = encS R) := Lib.hid (by rw [hR.out])
 have hEn : Hid (encHead R = putS r.at' ++ putS r.tm ++ putS (flagsOf r) ++ textS r.key ++ textS r.val ++ putS r.hs.length ∧ R.hs = r.hs) := Lib.hid (by rw [hR.out]; exact ⟨rfl, rfl⟩)
 rw [hEnc.out]
 have hRO : Hid (RecOK R) := Lib.hid (by rw [hR.out]; exact HROK.out)
 clear hEnc HROK hR
 generalize hfl : flagsOf r = fl at *
 obtain ⟨rat, rtm, rbare, rkey, rgone, rval, rhs⟩ := r
 unfold recV at *
 dsimp only at *
 clear hfl
 rcases hsh with ⟨rfl, rfl, rfl⟩ | ⟨rfl, rfl, rfl⟩ | ⟨rfl, rfl, rfl⟩
 ·go_enter Tryz.func198, Tryz.ntmps198
  go_wp2_with fail
  refine HCK.out.mono ?_
  rintro e w2 ⟨rfl, hf2⟩
  have hb2 := (hf2.block _ (lt_of_heap OB.out) fun h => h).trans OB.out
  have F2 := Lib.hid (FA.out.tr hf2)
  have OB2 := Lib.hid hb2
  have d2 := (cell_of hb2 2).trans rfl
  have d4 := (cell_of hb2 4).trans rfl
  have fb := (Fr.same w2).alloc (.cells #[.pointer none, .slice none 0 0] 358)
  have c0 := fb.cel ((cell_of hb2 0).trans rfl)
  have c1 := fb.cel ((cell_of hb2 1).trans rfl)
  simp [recObj] at d2 d4 c0 c1
  clear hf2 hb2
  have hwb : w.heap.size ≤ w2.heap.size := F2.out.size
  have hwl : w.heap.size < w2.heap.size := lt_of_heap OB2.out
  have BB0 := Lib.hid ((BldR.made w2).old ((Fr.same _).alloc (.cells #[.int .i64 rat, .int .i64 rtm, .int .i64 0] 3)))
  have AR0 : Hid (((w2.alloc (.cells #[.pointer none, .slice none 0 0] 358)).alloc (.cells #[.int .i64 rat, .int .i64 rtm, .int .i64 0] 3)).heap[w2.heap.size + 1]? = some (.cells #[.int .i64 rat, .int .i64 rtm, .int .i64 0] 3 (0, 0))) :=
   Lib.hid (by have := heap_alloc_self (w2.alloc (.cells #[.pointer none, .slice none 0 0] 358)) (.cells #[.int .i64 rat, .int .i64 rtm, .int .i64 0] 3); simpa using this)
  have hff := (Fr.alloc fb (.cells #[.int .i64 rat, .int .i64 rtm, .int .i64 0] 3))
  have FF0 := Lib.hid (F2.out.tr hff)
  have OR0 := Lib.hid ((hff.block _ (lt_of_heap OB2.out) fun h => h).trans OB2.out)
  clear hff
  go_wp2_with fail
  clear c0 c1 d2 d4 fb
  generalize (w2.alloc (.cells #[.pointer none, .slice none 0 0] 358)).alloc (.cells #[.int .i64 rat, .int .i64 rtm, .int .i64 0] 3) = W3 at *
  generalize w2.heap.size = b at *
  refine wp_loop_rounds 4 ?_
  rw [rounds_succ]
  have n0 := (cell_of AR0.out 0).trans rfl
  simp at n0
  go_wp2_with fail
  refine (put_walk _ _ WA.out).mono ?_
  rintro e wp0 ⟨rfl, hfp⟩
  have FP0 := Lib.hid (FF0.out.tr hfp)
  have BP0 := Lib.hid (BB0.out.old hfp)
  have AP0 := Lib.hid ((hfp.block _ (lt_of_heap AR0.out) fun h => h).trans AR0.out)
  have OP0 := Lib.hid ((hfp.block _ (lt_of_heap OR0.out) fun h => h).trans OR0.out)
  clear hfp n0
  go_wp2_with fail
  refine (bwrite_walk b _ _ _ BP0.out (by simp only [ByteArray.size_append, ByteArray.size_empty]; omega)).mono ?_
  rintro e ww0 ⟨rfl, hbw, hbl, hkp⟩
  have FF1 := Lib.hid (below_tr FP0.out hbl hwb)
  have BB1 := Lib.hid hbw
  have AR1 := Lib.hid (hkp _ _ _ _ (by omega) (by decide) AP0.out)
  have OR1 := Lib.hid (hkp _ _ _ _ (by omega) (by decide) OP0.out)
  clear hbw hbl hkp FP0 BP0 AP0 OP0 FF0 BB0 AR0 OR0
  go_wp2_with fail
  rw [rounds_succ]
  have n1 := (cell_of AR1.out 1).trans rfl
  simp at n1
  go_wp2_with fail
  refine (put_walk _ _ WT.out).mono ?_
  rintro e wp1 ⟨rfl, hfp⟩
  have FP1 := Lib.hid (FF1.out.tr hfp)
  have BP1 := Lib.hid (BB1.out.old hfp)
  have AP1 := Lib.hid ((hfp.block _ (lt_of_heap AR1.out) fun h => h).trans AR1.out)
  have OP1 := Lib.hid ((hfp.block _ (lt_of_heap OR1.out) fun h => h).trans OR1.out)
  clear hfp n1
  go_wp2_with fail
  refine (bwrite_walk b _ _ _ BP1.out (by simp only [ByteArray.size_append, ByteArray.size_empty]; omega)).mono ?_
  rintro e ww1 ⟨rfl, hbw, hbl, hkp⟩
  have FF2 := Lib.hid (below_tr FP1.out hbl hwb)
  have BB2 := Lib.hid hbw
  have AR2 := Lib.hid (hkp _ _ _ _ (by omega) (by decide) AP1.out)
  have OR2 := Lib.hid (hkp _ _ _ _ (by omega) (by decide) OP1.out)
  clear hbw hbl hkp FP1 BP1 AP1 OP1 FF1 BB1 AR1 OR1
  go_wp2_with fail
  rw [rounds_succ]
  have n2 := (cell_of AR2.out 2).trans rfl
  simp at n2
  go_wp2_with fail
  refine (put_walk _ _ WF.out).mono ?_
  rintro e wp2 ⟨rfl, hfp⟩
  have FP2 := Lib.hid (FF2.out.tr hfp)
  have BP2 := Lib.hid (BB2.out.old hfp)
  have AP2 := Lib.hid ((hfp.block _ (lt_of_heap AR2.out) fun h => h).trans AR2.out)
  have OP2 := Lib.hid ((hfp.block _ (lt_of_heap OR2.out) fun h => h).trans OR2.out)
  clear hfp n2
  go_wp2_with fail
  refine (bwrite_walk b _ _ _ BP2.out (by simp only [ByteArray.size_append, ByteArray.size_empty]; omega)).mono ?_
  rintro e ww2 ⟨rfl, hbw, hbl, hkp⟩
  have FF3 := Lib.hid (below_tr FP2.out hbl hwb)
  have BB3 := Lib.hid hbw
  have AR3 := Lib.hid (hkp _ _ _ _ (by omega) (by decide) AP2.out)
  have OR3 := Lib.hid (hkp _ _ _ _ (by omega) (by decide) OP2.out)
  clear hbw hbl hkp FP2 BP2 AP2 OP2 FF2 BB2 AR2 OR2
  go_wp2_with fail
  rw [rounds_succ]
  go_wp2_with fail
  have fput : ∀ w1 (n : Int), (Lit.int .i64 n).wf = true → ∀ y : Lcl.InS (fun w' => Fr (fun _ => False) w1 w'), Calls Tryz.prog 185 #[.int .i64 n] y.w fun e w' => e = .returned (.string (putS n)) ∧ ∃ y : Lcl.InS (fun w' => Fr (fun _ => False) w1 w'), w' = y.w := fun w1 n hn y => quietly y (put_walk n _ hn)
  have ftext : ∀ w1 (t : ByteArray), t.size ≤ 1000000000 → ∀ y : Lcl.InS (fun w' => Fr (fun _ => False) w1 w'), Calls Tryz.prog 186 #[.string t] y.w fun e w' => e = .returned (.string (textS t)) ∧ ∃ y : Lcl.InS (fun w' => Fr (fun _ => False) w1 w'), w' = y.w := fun w1 t ht y => quietly y (text_walk t _ ht)
  have x3 : ∀ y : Lcl.InS (fun w' => Fr (fun _ => False) ww2 w'), y.w.cell? ⟨w.heap.size, 3, none⟩ = some (.string rkey) := fun y => y.h.cel ((cell_of OR3.out 3).trans rfl)
  have x5 : ∀ y : Lcl.InS (fun w' => Fr (fun _ => False) ww2 w'), y.w.cell? ⟨w.heap.size, 5, none⟩ = some (.string rval) := fun y => y.h.cel ((cell_of OR3.out 5).trans rfl)
  have x6 : ∀ y : Lcl.InS (fun w' => Fr (fun _ => False) ww2 w'), y.w.cell? ⟨w.heap.size, 6, none⟩ = some (.slice oa rhs.length cap) := fun y => y.h.cel ((cell_of OR3.out 6).trans rfl)
  have a1 := fun w => strAdd w (textS rkey) (textS rval) (by omega)
  have a2 := fun w => strAdd w (textS rkey ++ textS rval) (putS rhs.length) (by rw [ByteArray.size_append]; omega)
  refine Lcl.wp_region_part (C := fun w' => ∃ y : Lcl.InS (fun w' => Fr (fun _ => False) ww2 w'), w' = y.w) (by kernel_rfl) [(false, [0, 1, 2, 3, 4, 5, 6, 7, 8, 9, 10, 11])] #[0, 1, 3, 0, 8, 31, 63, 0, 128, 384, 959, 2047, 4095] 1 #[true, true, true, true, true, true, true, true, true, true, true, true, false] (by kernel_rfl) (by kernel_rfl) (by kernel_rfl) ⟨⟨ww2.drew, (Fr.same ww2).drew⟩, rfl⟩ (fun d c a v w h => by cases d <;> exact h) ?_
  simp only [Lcl.opsOf, List.map_cons, List.map_nil, List.getElem?_toArray, List.getElem?_cons_succ, List.getElem?_cons_zero, Option.getD_some]
  refine Lcl.wpSegs_f ?_
  repeat (go_big_quiet_step (first | with_reducible rfl | exact ftext _ _ (by omega) _ | exact fput _ _ WL.out _))
  refine wpQuiet_nil ?_
  refine Lcl.wpSegs_nil ?_
  rintro _ ⟨y, rfl⟩
  clear fput ftext x3 x5 x6 a1 a2
  refine Lcl.wpAny_of_G (S := fun _ => True) (need := fun j => ([] : List Nat).contains j) _ _ _ _ ?_
  refine Lcl.wpG_run (needs := []) [12] _ _ _ (by kernel_rfl) ?_
  simp only [List.map_cons, List.map_nil, List.getElem?_toArray, List.getElem?_cons_succ, List.getElem?_cons_zero, Option.getD_some]
  have BP3 := Lib.hid (BB3.out.old y.h)
  have FP3 := Lib.hid (FF3.out.tr y.h)
  have OP3 := Lib.hid ((y.h.block _ (lt_of_heap OR3.out) fun h => h).trans OR3.out)
  generalize y.w = wy at *
  clear y
  go_wp2_with fail
  refine (bwrite_walk b _ _ _ BP3.out (by simp only [ByteArray.size_append, ByteArray.size_empty]; omega)).mono ?_
  rintro e w4 ⟨rfl, hbw, hbl, hkp⟩
  have FF4 := Lib.hid (below_tr FP3.out hbl hwb)
  have BB4 := Lib.hid hbw
  have OR4 := Lib.hid (hkp _ _ _ _ (by omega) (by decide) OP3.out)
  clear hbw hbl hkp FP3 BP3 OP3 FF3 BB3 AR3 OR3
  have hT : ByteArray.empty ++ putS rat ++ putS rtm ++ putS 0 ++ (textS rkey ++ textS rval ++ putS rhs.length) = encTo R 0 := by
   show _ = encHead R
   rw [hEn.out.1]
   simp only [ByteArray.append_assoc, ByteArray.empty_append]
  rw [hT] at BB4
  clear hT
  have e6 := (cell_of OR4.out 6).trans rfl
  simp at e6
  go_wp2_with fail
  clear e6 HCK OB FA OB2 F2 OR4
  have hRh := hEn.out.2
  have HRH := Lib.hid hRh
  clear hRh hEn
  go_loopw [55] (fun i wr => ∃ k : Nat, i = .int .i64 k ∧ k ≤ rhs.length ∧ Fr (fun _ => False) w wr ∧ BldR wr b (encTo R k)) (fun i _ => rhs.length - (intOf i).toNat)
  case atStart => exact ⟨0, rfl, Nat.zero_le _, FF4.out, BB4.out⟩
  case round =>
   clear FF4 BB4
   obtain ⟨k, rfl, hk', hf, hbb⟩ := hrel
   have F := Lib.hid hf
   have BB := Lib.hid hbb
   clear hf hbb
   have esz := encTo_size hRO.out k (by rw [HRH.out]; exact hk')
   rcases Nat.lt_or_ge k rhs.length with hlt | hge
   ·obtain ⟨x, hx⟩ := get_of_lt hlt
    obtain ⟨a, rfl, -, c0, c1⟩ := H.out k x hx
    have c0 := F.out.cel c0
    have c1 := F.out.cel c1
    obtain ⟨g1, g2, g3⟩ := hRO.out.hdrs x (List.mem_of_getElem? (by rw [HRH.out]; exact hx))
    have hTo : Hid (encTo R (k + 1) = encTo R k ++ (textS x.key ++ textS x.val)) := Lib.hid (by simp only [encTo, HRH.out, hx, ByteArray.append_assoc])
    have HX := Lib.hid hx
    have xk := textS_size (show x.key.size ≤ 1000000000 by omega)
    have xv := textS_size (show x.val.size ≤ 1000000000 by omega)
    have hf2 := (Fr.same wr).alloc (.cells #[.string x.key, .string x.val] 97)
    have F2 := Lib.hid (F.out.tr hf2)
    have OH := Lib.hid (heap_alloc_self wr (.cells #[.string x.key, .string x.val] 97))
    have BB2 := Lib.hid (BB.out.old hf2)
    clear hx hf2
    go_wp2_with fail
    clear c0 c1
    generalize hwh : wr.alloc (.cells #[.string x.key, .string x.val] 97) = wh at *
    clear hwh
    have ftext : ∀ w1 (t : ByteArray), t.size ≤ 1000000000 → ∀ y : Lcl.InS (fun w' => Fr (fun _ => False) w1 w'), Calls Tryz.prog 186 #[.string t] y.w fun e w' => e = .returned (.string (textS t)) ∧ ∃ y : Lcl.InS (fun w' => Fr (fun _ => False) w1 w'), w' = y.w := fun w1 t ht y => quietly y (text_walk t _ ht)
    have x0 : ∀ y : Lcl.InS (fun w' => Fr (fun _ => False) wh w'), y.w.cell? ⟨wr.heap.size, 0, none⟩ = some (.string x.key) := fun y => y.h.cel ((cell_of OH.out 0).trans rfl)
    have x1 : ∀ y : Lcl.InS (fun w' => Fr (fun _ => False) wh w'), y.w.cell? ⟨wr.heap.size, 1, none⟩ = some (.string x.val) := fun y => y.h.cel ((cell_of OH.out 1).trans rfl)
    have a1 := fun w => strAdd w (textS x.key) (textS x.val) (by omega)
    refine Lcl.wp_region_part (C := fun w' => ∃ y : Lcl.InS (fun w' => Fr (fun _ => False) wh w'), w' = y.w) (by kernel_rfl) [(false, [0, 1, 2, 3, 4, 5, 6])] #[0, 1, 3, 0, 8, 31, 63, 127] 1 #[true, true, true, true, true, true, true, false] (by kernel_rfl) (by kernel_rfl) (by kernel_rfl) ⟨⟨wh.drew, (Fr.same wh).drew⟩, rfl⟩ (fun d c a v w h => by cases d <;> exact h) ?_
    simp only [Lcl.opsOf, List.map_cons, List.map_nil, List.getElem?_toArray, List.getElem?_cons_succ, List.getElem?_cons_zero, Option.getD_some]
    refine Lcl.wpSegs_f ?_
    repeat (go_big_quiet_step (first | with_reducible rfl | exact ftext _ _ (by omega) _))
    refine wpQuiet_nil ?_
    refine Lcl.wpSegs_nil ?_
    rintro _ ⟨y, rfl⟩
    clear ftext x0 x1 a1
    refine Lcl.wpAny_of_G (S := fun _ => True) (need := fun j => ([] : List Nat).contains j) _ _ _ _ ?_
    refine Lcl.wpG_run (needs := []) [7] _ _ _ (by kernel_rfl) ?_
    simp only [List.map_cons, List.map_nil, List.getElem?_toArray, List.getElem?_cons_succ, List.getElem?_cons_zero, Option.getD_some]
    have BP5 := Lib.hid (BB2.out.old y.h)
    have FP5 := Lib.hid (F2.out.tr y.h)
    generalize y.w = wy2 at *
    clear y
    go_wp2_with fail
    refine (bwrite_walk b _ _ _ BP5.out (by simp only [ByteArray.size_append]; omega)).mono ?_
    rintro e w5 ⟨rfl, hbw, hbl, hkp⟩
    have FF5 := Lib.hid (below_tr FP5.out hbl hwb)
    rw [← hTo.out] at hbw
    have BB5 := Lib.hid hbw
    clear hbw hbl hkp FP5 BP5
    go_wp2_with fail
    go_roundw
    case rel => exact ⟨k + 1, by go_num, by omega, FF5.out, BB5.out⟩
    case measure => simp [intOf]; omega
   ·have hkl : k = rhs.length := by omega
    subst hkl
    go_wp2_with fail
    refine (bstring_walk b _ _ BB.out).mono ?_
    rintro e w5 ⟨rfl, hbl⟩
    have FF5 := Lib.hid (below_tr F.out hbl hwb)
    have hEq : encS R = encTo R rhs.length := by unfold encS; rw [HRH.out]
    have HEQ := Lib.hid hEq
    clear hbl hEq
    go_wp2_with fail
    go_ret2
    exact ⟨by rw [HEQ.out]; rfl, FF5.out⟩
 ·go_enter Tryz.func198, Tryz.ntmps198
  go_wp2_with fail
  refine HCK.out.mono ?_
  rintro e w2 ⟨rfl, hf2⟩
  have hb2 := (hf2.block _ (lt_of_heap OB.out) fun h => h).trans OB.out
  have F2 := Lib.hid (FA.out.tr hf2)
  have OB2 := Lib.hid hb2
  have d2 := (cell_of hb2 2).trans rfl
  have d4 := (cell_of hb2 4).trans rfl
  have fb := (Fr.same w2).alloc (.cells #[.pointer none, .slice none 0 0] 358)
  have c0 := fb.cel ((cell_of hb2 0).trans rfl)
  have c1 := fb.cel ((cell_of hb2 1).trans rfl)
  simp [recObj] at d2 d4 c0 c1
  clear hf2 hb2
  have hwb : w.heap.size ≤ w2.heap.size := F2.out.size
  have hwl : w.heap.size < w2.heap.size := lt_of_heap OB2.out
  have BB0 := Lib.hid ((BldR.made w2).old ((Fr.same _).alloc (.cells #[.int .i64 rat, .int .i64 rtm, .int .i64 1] 3)))
  have AR0 : Hid (((w2.alloc (.cells #[.pointer none, .slice none 0 0] 358)).alloc (.cells #[.int .i64 rat, .int .i64 rtm, .int .i64 1] 3)).heap[w2.heap.size + 1]? = some (.cells #[.int .i64 rat, .int .i64 rtm, .int .i64 1] 3 (0, 0))) :=
   Lib.hid (by have := heap_alloc_self (w2.alloc (.cells #[.pointer none, .slice none 0 0] 358)) (.cells #[.int .i64 rat, .int .i64 rtm, .int .i64 1] 3); simpa using this)
  have hff := (Fr.alloc fb (.cells #[.int .i64 rat, .int .i64 rtm, .int .i64 1] 3))
  have FF0 := Lib.hid (F2.out.tr hff)
  have OR0 := Lib.hid ((hff.block _ (lt_of_heap OB2.out) fun h => h).trans OB2.out)
  clear hff
  go_wp2_with fail
  clear c0 c1 d2 d4 fb
  generalize (w2.alloc (.cells #[.pointer none, .slice none 0 0] 358)).alloc (.cells #[.int .i64 rat, .int .i64 rtm, .int .i64 1] 3) = W3 at *
  generalize w2.heap.size = b at *
  refine wp_loop_rounds 4 ?_
  rw [rounds_succ]
  have n0 := (cell_of AR0.out 0).trans rfl
  simp at n0
  go_wp2_with fail
  refine (put_walk _ _ WA.out).mono ?_
  rintro e wp0 ⟨rfl, hfp⟩
  have FP0 := Lib.hid (FF0.out.tr hfp)
  have BP0 := Lib.hid (BB0.out.old hfp)
  have AP0 := Lib.hid ((hfp.block _ (lt_of_heap AR0.out) fun h => h).trans AR0.out)
  have OP0 := Lib.hid ((hfp.block _ (lt_of_heap OR0.out) fun h => h).trans OR0.out)
  clear hfp n0
  go_wp2_with fail
  refine (bwrite_walk b _ _ _ BP0.out (by simp only [ByteArray.size_append, ByteArray.size_empty]; omega)).mono ?_
  rintro e ww0 ⟨rfl, hbw, hbl, hkp⟩
  have FF1 := Lib.hid (below_tr FP0.out hbl hwb)
  have BB1 := Lib.hid hbw
  have AR1 := Lib.hid (hkp _ _ _ _ (by omega) (by decide) AP0.out)
  have OR1 := Lib.hid (hkp _ _ _ _ (by omega) (by decide) OP0.out)
  clear hbw hbl hkp FP0 BP0 AP0 OP0 FF0 BB0 AR0 OR0
  go_wp2_with fail
  rw [rounds_succ]
  have n1 := (cell_of AR1.out 1).trans rfl
  simp at n1
  go_wp2_with fail
  refine (put_walk _ _ WT.out).mono ?_
  rintro e wp1 ⟨rfl, hfp⟩
  have FP1 := Lib.hid (FF1.out.tr hfp)
  have BP1 := Lib.hid (BB1.out.old hfp)
  have AP1 := Lib.hid ((hfp.block _ (lt_of_heap AR1.out) fun h => h).trans AR1.out)
  have OP1 := Lib.hid ((hfp.block _ (lt_of_heap OR1.out) fun h => h).trans OR1.out)
  clear hfp n1
  go_wp2_with fail
  refine (bwrite_walk b _ _ _ BP1.out (by simp only [ByteArray.size_append, ByteArray.size_empty]; omega)).mono ?_
  rintro e ww1 ⟨rfl, hbw, hbl, hkp⟩
  have FF2 := Lib.hid (below_tr FP1.out hbl hwb)
  have BB2 := Lib.hid hbw
  have AR2 := Lib.hid (hkp _ _ _ _ (by omega) (by decide) AP1.out)
  have OR2 := Lib.hid (hkp _ _ _ _ (by omega) (by decide) OP1.out)
  clear hbw hbl hkp FP1 BP1 AP1 OP1 FF1 BB1 AR1 OR1
  go_wp2_with fail
  rw [rounds_succ]
  have n2 := (cell_of AR2.out 2).trans rfl
  simp at n2
  go_wp2_with fail
  refine (put_walk _ _ WF.out).mono ?_
  rintro e wp2 ⟨rfl, hfp⟩
  have FP2 := Lib.hid (FF2.out.tr hfp)
  have BP2 := Lib.hid (BB2.out.old hfp)
  have AP2 := Lib.hid ((hfp.block _ (lt_of_heap AR2.out) fun h => h).trans AR2.out)
  have OP2 := Lib.hid ((hfp.block _ (lt_of_heap OR2.out) fun h => h).trans OR2.out)
  clear hfp n2
  go_wp2_with fail
  refine (bwrite_walk b _ _ _ BP2.out (by simp only [ByteArray.size_append, ByteArray.size_empty]; omega)).mono ?_
  rintro e ww2 ⟨rfl, hbw, hbl, hkp⟩
  have FF3 := Lib.hid (below_tr FP2.out hbl hwb)
  have BB3 := Lib.hid hbw
  have AR3 := Lib.hid (hkp _ _ _ _ (by omega) (by decide) AP2.out)
  have OR3 := Lib.hid (hkp _ _ _ _ (by omega) (by decide) OP2.out)
  clear hbw hbl hkp FP2 BP2 AP2 OP2 FF2 BB2 AR2 OR2
  go_wp2_with fail
  rw [rounds_succ]
  go_wp2_with fail
  have fput : ∀ w1 (n : Int), (Lit.int .i64 n).wf = true → ∀ y : Lcl.InS (fun w' => Fr (fun _ => False) w1 w'), Calls Tryz.prog 185 #[.int .i64 n] y.w fun e w' => e = .returned (.string (putS n)) ∧ ∃ y : Lcl.InS (fun w' => Fr (fun _ => False) w1 w'), w' = y.w := fun w1 n hn y => quietly y (put_walk n _ hn)
  have ftext : ∀ w1 (t : ByteArray), t.size ≤ 1000000000 → ∀ y : Lcl.InS (fun w' => Fr (fun _ => False) w1 w'), Calls Tryz.prog 186 #[.string t] y.w fun e w' => e = .returned (.string (textS t)) ∧ ∃ y : Lcl.InS (fun w' => Fr (fun _ => False) w1 w'), w' = y.w := fun w1 t ht y => quietly y (text_walk t _ ht)
  have x3 : ∀ y : Lcl.InS (fun w' => Fr (fun _ => False) ww2 w'), y.w.cell? ⟨w.heap.size, 3, none⟩ = some (.string rkey) := fun y => y.h.cel ((cell_of OR3.out 3).trans rfl)
  have x5 : ∀ y : Lcl.InS (fun w' => Fr (fun _ => False) ww2 w'), y.w.cell? ⟨w.heap.size, 5, none⟩ = some (.string rval) := fun y => y.h.cel ((cell_of OR3.out 5).trans rfl)
  have x6 : ∀ y : Lcl.InS (fun w' => Fr (fun _ => False) ww2 w'), y.w.cell? ⟨w.heap.size, 6, none⟩ = some (.slice oa rhs.length cap) := fun y => y.h.cel ((cell_of OR3.out 6).trans rfl)
  have a1 := fun w => strAdd w (textS rkey) (textS rval) (by omega)
  have a2 := fun w => strAdd w (textS rkey ++ textS rval) (putS rhs.length) (by rw [ByteArray.size_append]; omega)
  refine Lcl.wp_region_part (C := fun w' => ∃ y : Lcl.InS (fun w' => Fr (fun _ => False) ww2 w'), w' = y.w) (by kernel_rfl) [(false, [0, 1, 2, 3, 4, 5, 6, 7, 8, 9, 10, 11])] #[0, 1, 3, 0, 8, 31, 63, 0, 128, 384, 959, 2047, 4095] 1 #[true, true, true, true, true, true, true, true, true, true, true, true, false] (by kernel_rfl) (by kernel_rfl) (by kernel_rfl) ⟨⟨ww2.drew, (Fr.same ww2).drew⟩, rfl⟩ (fun d c a v w h => by cases d <;> exact h) ?_
  simp only [Lcl.opsOf, List.map_cons, List.map_nil, List.getElem?_toArray, List.getElem?_cons_succ, List.getElem?_cons_zero, Option.getD_some]
  refine Lcl.wpSegs_f ?_
  repeat (go_big_quiet_step (first | with_reducible rfl | exact ftext _ _ (by omega) _ | exact fput _ _ WL.out _))
  refine wpQuiet_nil ?_
  refine Lcl.wpSegs_nil ?_
  rintro _ ⟨y, rfl⟩
  clear fput ftext x3 x5 x6 a1 a2
  refine Lcl.wpAny_of_G (S := fun _ => True) (need := fun j => ([] : List Nat).contains j) _ _ _ _ ?_
  refine Lcl.wpG_run (needs := []) [12] _ _ _ (by kernel_rfl) ?_
  simp only [List.map_cons, List.map_nil, List.getElem?_toArray, List.getElem?_cons_succ, List.getElem?_cons_zero, Option.getD_some]
  have BP3 := Lib.hid (BB3.out.old y.h)
  have FP3 := Lib.hid (FF3.out.tr y.h)
  have OP3 := Lib.hid ((y.h.block _ (lt_of_heap OR3.out) fun h => h).trans OR3.out)
  generalize y.w = wy at *
  clear y
  go_wp2_with fail
  refine (bwrite_walk b _ _ _ BP3.out (by simp only [ByteArray.size_append, ByteArray.size_empty]; omega)).mono ?_
  rintro e w4 ⟨rfl, hbw, hbl, hkp⟩
  have FF4 := Lib.hid (below_tr FP3.out hbl hwb)
  have BB4 := Lib.hid hbw
  have OR4 := Lib.hid (hkp _ _ _ _ (by omega) (by decide) OP3.out)
  clear hbw hbl hkp FP3 BP3 OP3 FF3 BB3 AR3 OR3
  have hT : ByteArray.empty ++ putS rat ++ putS rtm ++ putS 1 ++ (textS rkey ++ textS rval ++ putS rhs.length) = encTo R 0 := by
   show _ = encHead R
   rw [hEn.out.1]
   simp only [ByteArray.append_assoc, ByteArray.empty_append]
  rw [hT] at BB4
  clear hT
  have e6 := (cell_of OR4.out 6).trans rfl
  simp at e6
  go_wp2_with fail
  clear e6 HCK OB FA OB2 F2 OR4
  have hRh := hEn.out.2
  have HRH := Lib.hid hRh
  clear hRh hEn
  go_loopw [55] (fun i wr => ∃ k : Nat, i = .int .i64 k ∧ k ≤ rhs.length ∧ Fr (fun _ => False) w wr ∧ BldR wr b (encTo R k)) (fun i _ => rhs.length - (intOf i).toNat)
  case atStart => exact ⟨0, rfl, Nat.zero_le _, FF4.out, BB4.out⟩
  case round =>
   clear FF4 BB4
   obtain ⟨k, rfl, hk', hf, hbb⟩ := hrel
   have F := Lib.hid hf
   have BB := Lib.hid hbb
   clear hf hbb
   have esz := encTo_size hRO.out k (by rw [HRH.out]; exact hk')
   rcases Nat.lt_or_ge k rhs.length with hlt | hge
   ·obtain ⟨x, hx⟩ := get_of_lt hlt
    obtain ⟨a, rfl, -, c0, c1⟩ := H.out k x hx
    have c0 := F.out.cel c0
    have c1 := F.out.cel c1
    obtain ⟨g1, g2, g3⟩ := hRO.out.hdrs x (List.mem_of_getElem? (by rw [HRH.out]; exact hx))
    have hTo : Hid (encTo R (k + 1) = encTo R k ++ (textS x.key ++ textS x.val)) := Lib.hid (by simp only [encTo, HRH.out, hx, ByteArray.append_assoc])
    have HX := Lib.hid hx
    have xk := textS_size (show x.key.size ≤ 1000000000 by omega)
    have xv := textS_size (show x.val.size ≤ 1000000000 by omega)
    have hf2 := (Fr.same wr).alloc (.cells #[.string x.key, .string x.val] 97)
    have F2 := Lib.hid (F.out.tr hf2)
    have OH := Lib.hid (heap_alloc_self wr (.cells #[.string x.key, .string x.val] 97))
    have BB2 := Lib.hid (BB.out.old hf2)
    clear hx hf2
    go_wp2_with fail
    clear c0 c1
    generalize hwh : wr.alloc (.cells #[.string x.key, .string x.val] 97) = wh at *
    clear hwh
    have ftext : ∀ w1 (t : ByteArray), t.size ≤ 1000000000 → ∀ y : Lcl.InS (fun w' => Fr (fun _ => False) w1 w'), Calls Tryz.prog 186 #[.string t] y.w fun e w' => e = .returned (.string (textS t)) ∧ ∃ y : Lcl.InS (fun w' => Fr (fun _ => False) w1 w'), w' = y.w := fun w1 t ht y => quietly y (text_walk t _ ht)
    have x0 : ∀ y : Lcl.InS (fun w' => Fr (fun _ => False) wh w'), y.w.cell? ⟨wr.heap.size, 0, none⟩ = some (.string x.key) := fun y => y.h.cel ((cell_of OH.out 0).trans rfl)
    have x1 : ∀ y : Lcl.InS (fun w' => Fr (fun _ => False) wh w'), y.w.cell? ⟨wr.heap.size, 1, none⟩ = some (.string x.val) := fun y => y.h.cel ((cell_of OH.out 1).trans rfl)
    have a1 := fun w => strAdd w (textS x.key) (textS x.val) (by omega)
    refine Lcl.wp_region_part (C := fun w' => ∃ y : Lcl.InS (fun w' => Fr (fun _ => False) wh w'), w' = y.w) (by kernel_rfl) [(false, [0, 1, 2, 3, 4, 5, 6])] #[0, 1, 3, 0, 8, 31, 63, 127] 1 #[true, true, true, true, true, true, true, false] (by kernel_rfl) (by kernel_rfl) (by kernel_rfl) ⟨⟨wh.drew, (Fr.same wh).drew⟩, rfl⟩ (fun d c a v w h => by cases d <;> exact h) ?_
    simp only [Lcl.opsOf, List.map_cons, List.map_nil, List.getElem?_toArray, List.getElem?_cons_succ, List.getElem?_cons_zero, Option.getD_some]
    refine Lcl.wpSegs_f ?_
    repeat (go_big_quiet_step (first | with_reducible rfl | exact ftext _ _ (by omega) _))
    refine wpQuiet_nil ?_
    refine Lcl.wpSegs_nil ?_
    rintro _ ⟨y, rfl⟩
    clear ftext x0 x1 a1
    refine Lcl.wpAny_of_G (S := fun _ => True) (need := fun j => ([] : List Nat).contains j) _ _ _ _ ?_
    refine Lcl.wpG_run (needs := []) [7] _ _ _ (by kernel_rfl) ?_
    simp only [List.map_cons, List.map_nil, List.getElem?_toArray, List.getElem?_cons_succ, List.getElem?_cons_zero, Option.getD_some]
    have BP5 := Lib.hid (BB2.out.old y.h)
    have FP5 := Lib.hid (F2.out.tr y.h)
    generalize y.w = wy2 at *
    clear y
    go_wp2_with fail
    refine (bwrite_walk b _ _ _ BP5.out (by simp only [ByteArray.size_append]; omega)).mono ?_
    rintro e w5 ⟨rfl, hbw, hbl, hkp⟩
    have FF5 := Lib.hid (below_tr FP5.out hbl hwb)
    rw [← hTo.out] at hbw
    have BB5 := Lib.hid hbw
    clear hbw hbl hkp FP5 BP5
    go_wp2_with fail
    go_roundw
    case rel => exact ⟨k + 1, by go_num, by omega, FF5.out, BB5.out⟩
    case measure => simp [intOf]; omega
   ·have hkl : k = rhs.length := by omega
    subst hkl
    go_wp2_with fail
    refine (bstring_walk b _ _ BB.out).mono ?_
    rintro e w5 ⟨rfl, hbl⟩
    have FF5 := Lib.hid (below_tr F.out hbl hwb)
    have hEq : encS R = encTo R rhs.length := by unfold encS; rw [HRH.out]
    have HEQ := Lib.hid hEq
    clear hbl hEq
    go_wp2_with fail
    go_ret2
    exact ⟨by rw [HEQ.out]; rfl, FF5.out⟩
 ·go_enter Tryz.func198, Tryz.ntmps198
  go_wp2_with fail
  refine HCK.out.mono ?_
  rintro e w2 ⟨rfl, hf2⟩
  have hb2 := (hf2.block _ (lt_of_heap OB.out) fun h => h).trans OB.out
  have F2 := Lib.hid (FA.out.tr hf2)
  have OB2 := Lib.hid hb2
  have d2 := (cell_of hb2 2).trans rfl
  have d4 := (cell_of hb2 4).trans rfl
  have fb := (Fr.same w2).alloc (.cells #[.pointer none, .slice none 0 0] 358)
  have c0 := fb.cel ((cell_of hb2 0).trans rfl)
  have c1 := fb.cel ((cell_of hb2 1).trans rfl)
  simp [recObj] at d2 d4 c0 c1
  clear hf2 hb2
  have hwb : w.heap.size ≤ w2.heap.size := F2.out.size
  have hwl : w.heap.size < w2.heap.size := lt_of_heap OB2.out
  have BB0 := Lib.hid ((BldR.made w2).old ((Fr.same _).alloc (.cells #[.int .i64 rat, .int .i64 rtm, .int .i64 2] 3)))
  have AR0 : Hid (((w2.alloc (.cells #[.pointer none, .slice none 0 0] 358)).alloc (.cells #[.int .i64 rat, .int .i64 rtm, .int .i64 2] 3)).heap[w2.heap.size + 1]? = some (.cells #[.int .i64 rat, .int .i64 rtm, .int .i64 2] 3 (0, 0))) :=
   Lib.hid (by have := heap_alloc_self (w2.alloc (.cells #[.pointer none, .slice none 0 0] 358)) (.cells #[.int .i64 rat, .int .i64 rtm, .int .i64 2] 3); simpa using this)
  have hff := (Fr.alloc fb (.cells #[.int .i64 rat, .int .i64 rtm, .int .i64 2] 3))
  have FF0 := Lib.hid (F2.out.tr hff)
  have OR0 := Lib.hid ((hff.block _ (lt_of_heap OB2.out) fun h => h).trans OB2.out)
  clear hff
  go_wp2_with fail
  clear c0 c1 d2 d4 fb
  generalize (w2.alloc (.cells #[.pointer none, .slice none 0 0] 358)).alloc (.cells #[.int .i64 rat, .int .i64 rtm, .int .i64 2] 3) = W3 at *
  generalize w2.heap.size = b at *
  refine wp_loop_rounds 4 ?_
  rw [rounds_succ]
  have n0 := (cell_of AR0.out 0).trans rfl
  simp at n0
  go_wp2_with fail
  refine (put_walk _ _ WA.out).mono ?_
  rintro e wp0 ⟨rfl, hfp⟩
  have FP0 := Lib.hid (FF0.out.tr hfp)
  have BP0 := Lib.hid (BB0.out.old hfp)
  have AP0 := Lib.hid ((hfp.block _ (lt_of_heap AR0.out) fun h => h).trans AR0.out)
  have OP0 := Lib.hid ((hfp.block _ (lt_of_heap OR0.out) fun h => h).trans OR0.out)
  clear hfp n0
  go_wp2_with fail
  refine (bwrite_walk b _ _ _ BP0.out (by simp only [ByteArray.size_append, ByteArray.size_empty]; omega)).mono ?_
  rintro e ww0 ⟨rfl, hbw, hbl, hkp⟩
  have FF1 := Lib.hid (below_tr FP0.out hbl hwb)
  have BB1 := Lib.hid hbw
  have AR1 := Lib.hid (hkp _ _ _ _ (by omega) (by decide) AP0.out)
  have OR1 := Lib.hid (hkp _ _ _ _ (by omega) (by decide) OP0.out)
  clear hbw hbl hkp FP0 BP0 AP0 OP0 FF0 BB0 AR0 OR0
  go_wp2_with fail
  rw [rounds_succ]
  have n1 := (cell_of AR1.out 1).trans rfl
  simp at n1
  go_wp2_with fail
  refine (put_walk _ _ WT.out).mono ?_
  rintro e wp1 ⟨rfl, hfp⟩
  have FP1 := Lib.hid (FF1.out.tr hfp)
  have BP1 := Lib.hid (BB1.out.old hfp)
  have AP1 := Lib.hid ((hfp.block _ (lt_of_heap AR1.out) fun h => h).trans AR1.out)
  have OP1 := Lib.hid ((hfp.block _ (lt_of_heap OR1.out) fun h => h).trans OR1.out)
  clear hfp n1
  go_wp2_with fail
  refine (bwrite_walk b _ _ _ BP1.out (by simp only [ByteArray.size_append, ByteArray.size_empty]; omega)).mono ?_
  rintro e ww1 ⟨rfl, hbw, hbl, hkp⟩
  have FF2 := Lib.hid (below_tr FP1.out hbl hwb)
  have BB2 := Lib.hid hbw
  have AR2 := Lib.hid (hkp _ _ _ _ (by omega) (by decide) AP1.out)
  have OR2 := Lib.hid (hkp _ _ _ _ (by omega) (by decide) OP1.out)
  clear hbw hbl hkp FP1 BP1 AP1 OP1 FF1 BB1 AR1 OR1
  go_wp2_with fail
  rw [rounds_succ]
  have n2 := (cell_of AR2.out 2).trans rfl
  simp at n2
  go_wp2_with fail
  refine (put_walk _ _ WF.out).mono ?_
  rintro e wp2 ⟨rfl, hfp⟩
  have FP2 := Lib.hid (FF2.out.tr hfp)
  have BP2 := Lib.hid (BB2.out.old hfp)
  have AP2 := Lib.hid ((hfp.block _ (lt_of_heap AR2.out) fun h => h).trans AR2.out)
  have OP2 := Lib.hid ((hfp.block _ (lt_of_heap OR2.out) fun h => h).trans OR2.out)
  clear hfp n2
  go_wp2_with fail
  refine (bwrite_walk b _ _ _ BP2.out (by simp only [ByteArray.size_append, ByteArray.size_empty]; omega)).mono ?_
  rintro e ww2 ⟨rfl, hbw, hbl, hkp⟩
  have FF3 := Lib.hid (below_tr FP2.out hbl hwb)
  have BB3 := Lib.hid hbw
  have AR3 := Lib.hid (hkp _ _ _ _ (by omega) (by decide) AP2.out)
  have OR3 := Lib.hid (hkp _ _ _ _ (by omega) (by decide) OP2.out)
  clear hbw hbl hkp FP2 BP2 AP2 OP2 FF2 BB2 AR2 OR2
  go_wp2_with fail
  rw [rounds_succ]
  go_wp2_with fail
  have fput : ∀ w1 (n : Int), (Lit.int .i64 n).wf = true → ∀ y : Lcl.InS (fun w' => Fr (fun _ => False) w1 w'), Calls Tryz.prog 185 #[.int .i64 n] y.w fun e w' => e = .returned (.string (putS n)) ∧ ∃ y : Lcl.InS (fun w' => Fr (fun _ => False) w1 w'), w' = y.w := fun w1 n hn y => quietly y (put_walk n _ hn)
  have ftext : ∀ w1 (t : ByteArray), t.size ≤ 1000000000 → ∀ y : Lcl.InS (fun w' => Fr (fun _ => False) w1 w'), Calls Tryz.prog 186 #[.string t] y.w fun e w' => e = .returned (.string (textS t)) ∧ ∃ y : Lcl.InS (fun w' => Fr (fun _ => False) w1 w'), w' = y.w := fun w1 t ht y => quietly y (text_walk t _ ht)
  have x3 : ∀ y : Lcl.InS (fun w' => Fr (fun _ => False) ww2 w'), y.w.cell? ⟨w.heap.size, 3, none⟩ = some (.string rkey) := fun y => y.h.cel ((cell_of OR3.out 3).trans rfl)
  have x5 : ∀ y : Lcl.InS (fun w' => Fr (fun _ => False) ww2 w'), y.w.cell? ⟨w.heap.size, 5, none⟩ = some (.string rval) := fun y => y.h.cel ((cell_of OR3.out 5).trans rfl)
  have x6 : ∀ y : Lcl.InS (fun w' => Fr (fun _ => False) ww2 w'), y.w.cell? ⟨w.heap.size, 6, none⟩ = some (.slice oa rhs.length cap) := fun y => y.h.cel ((cell_of OR3.out 6).trans rfl)
  have a1 := fun w => strAdd w (textS rkey) (textS rval) (by omega)
  have a2 := fun w => strAdd w (textS rkey ++ textS rval) (putS rhs.length) (by rw [ByteArray.size_append]; omega)
  refine Lcl.wp_region_part (C := fun w' => ∃ y : Lcl.InS (fun w' => Fr (fun _ => False) ww2 w'), w' = y.w) (by kernel_rfl) [(false, [0, 1, 2, 3, 4, 5, 6, 7, 8, 9, 10, 11])] #[0, 1, 3, 0, 8, 31, 63, 0, 128, 384, 959, 2047, 4095] 1 #[true, true, true, true, true, true, true, true, true, true, true, true, false] (by kernel_rfl) (by kernel_rfl) (by kernel_rfl) ⟨⟨ww2.drew, (Fr.same ww2).drew⟩, rfl⟩ (fun d c a v w h => by cases d <;> exact h) ?_
  simp only [Lcl.opsOf, List.map_cons, List.map_nil, List.getElem?_toArray, List.getElem?_cons_succ, List.getElem?_cons_zero, Option.getD_some]
  refine Lcl.wpSegs_f ?_
  repeat (go_big_quiet_step (first | with_reducible rfl | exact ftext _ _ (by omega) _ | exact fput _ _ WL.out _))
  refine wpQuiet_nil ?_
  refine Lcl.wpSegs_nil ?_
  rintro _ ⟨y, rfl⟩
  clear fput ftext x3 x5 x6 a1 a2
  refine Lcl.wpAny_of_G (S := fun _ => True) (need := fun j => ([] : List Nat).contains j) _ _ _ _ ?_
  refine Lcl.wpG_run (needs := []) [12] _ _ _ (by kernel_rfl) ?_
  simp only [List.map_cons, List.map_nil, List.getElem?_toArray, List.getElem?_cons_succ, List.getElem?_cons_zero, Option.getD_some]
  have BP3 := Lib.hid (BB3.out.old y.h)
  have FP3 := Lib.hid (FF3.out.tr y.h)
  have OP3 := Lib.hid ((y.h.block _ (lt_of_heap OR3.out) fun h => h).trans OR3.out)
  generalize y.w = wy at *
  clear y
  go_wp2_with fail
  refine (bwrite_walk b _ _ _ BP3.out (by simp only [ByteArray.size_append, ByteArray.size_empty]; omega)).mono ?_
  rintro e w4 ⟨rfl, hbw, hbl, hkp⟩
  have FF4 := Lib.hid (below_tr FP3.out hbl hwb)
  have BB4 := Lib.hid hbw
  have OR4 := Lib.hid (hkp _ _ _ _ (by omega) (by decide) OP3.out)
  clear hbw hbl hkp FP3 BP3 OP3 FF3 BB3 AR3 OR3
  have hT : ByteArray.empty ++ putS rat ++ putS rtm ++ putS 2 ++ (textS rkey ++ textS rval ++ putS rhs.length) = encTo R 0 := by
   show _ = encHead R
   rw [hEn.out.1]
   simp only [ByteArray.append_assoc, ByteArray.empty_append]
  rw [hT] at BB4
  clear hT
  have e6 := (cell_of OR4.out 6).trans rfl
  simp at e6
  go_wp2_with fail
  clear e6 HCK OB FA OB2 F2 OR4
  have hRh := hEn.out.2
  have HRH := Lib.hid hRh
  clear hRh hEn
  go_loopw [55] (fun i wr => ∃ k : Nat, i = .int .i64 k ∧ k ≤ rhs.length ∧ Fr (fun _ => False) w wr ∧ BldR wr b (encTo R k)) (fun i _ => rhs.length - (intOf i).toNat)
  case atStart => exact ⟨0, rfl, Nat.zero_le _, FF4.out, BB4.out⟩
  case round =>
   clear FF4 BB4
   obtain ⟨k, rfl, hk', hf, hbb⟩ := hrel
   have F := Lib.hid hf
   have BB := Lib.hid hbb
   clear hf hbb
   have esz := encTo_size hRO.out k (by rw [HRH.out]; exact hk')
   rcases Nat.lt_or_ge k rhs.length with hlt | hge
   ·obtain ⟨x, hx⟩ := get_of_lt hlt
    obtain ⟨a, rfl, -, c0, c1⟩ := H.out k x hx
    have c0 := F.out.cel c0
    have c1 := F.out.cel c1
    obtain ⟨g1, g2, g3⟩ := hRO.out.hdrs x (List.mem_of_getElem? (by rw [HRH.out]; exact hx))
    have hTo : Hid (encTo R (k + 1) = encTo R k ++ (textS x.key ++ textS x.val)) := Lib.hid (by simp only [encTo, HRH.out, hx, ByteArray.append_assoc])
    have HX := Lib.hid hx
    have xk := textS_size (show x.key.size ≤ 1000000000 by omega)
    have xv := textS_size (show x.val.size ≤ 1000000000 by omega)
    have hf2 := (Fr.same wr).alloc (.cells #[.string x.key, .string x.val] 97)
    have F2 := Lib.hid (F.out.tr hf2)
    have OH := Lib.hid (heap_alloc_self wr (.cells #[.string x.key, .string x.val] 97))
    have BB2 := Lib.hid (BB.out.old hf2)
    clear hx hf2
    go_wp2_with fail
    clear c0 c1
    generalize hwh : wr.alloc (.cells #[.string x.key, .string x.val] 97) = wh at *
    clear hwh
    have ftext : ∀ w1 (t : ByteArray), t.size ≤ 1000000000 → ∀ y : Lcl.InS (fun w' => Fr (fun _ => False) w1 w'), Calls Tryz.prog 186 #[.string t] y.w fun e w' => e = .returned (.string (textS t)) ∧ ∃ y : Lcl.InS (fun w' => Fr (fun _ => False) w1 w'), w' = y.w := fun w1 t ht y => quietly y (text_walk t _ ht)
    have x0 : ∀ y : Lcl.InS (fun w' => Fr (fun _ => False) wh w'), y.w.cell? ⟨wr.heap.size, 0, none⟩ = some (.string x.key) := fun y => y.h.cel ((cell_of OH.out 0).trans rfl)
    have x1 : ∀ y : Lcl.InS (fun w' => Fr (fun _ => False) wh w'), y.w.cell? ⟨wr.heap.size, 1, none⟩ = some (.string x.val) := fun y => y.h.cel ((cell_of OH.out 1).trans rfl)
    have a1 := fun w => strAdd w (textS x.key) (textS x.val) (by omega)
    refine Lcl.wp_region_part (C := fun w' => ∃ y : Lcl.InS (fun w' => Fr (fun _ => False) wh w'), w' = y.w) (by kernel_rfl) [(false, [0, 1, 2, 3, 4, 5, 6])] #[0, 1, 3, 0, 8, 31, 63, 127] 1 #[true, true, true, true, true, true, true, false] (by kernel_rfl) (by kernel_rfl) (by kernel_rfl) ⟨⟨wh.drew, (Fr.same wh).drew⟩, rfl⟩ (fun d c a v w h => by cases d <;> exact h) ?_
    simp only [Lcl.opsOf, List.map_cons, List.map_nil, List.getElem?_toArray, List.getElem?_cons_succ, List.getElem?_cons_zero, Option.getD_some]
    refine Lcl.wpSegs_f ?_
    repeat (go_big_quiet_step (first | with_reducible rfl | exact ftext _ _ (by omega) _))
    refine wpQuiet_nil ?_
    refine Lcl.wpSegs_nil ?_
    rintro _ ⟨y, rfl⟩
    clear ftext x0 x1 a1
    refine Lcl.wpAny_of_G (S := fun _ => True) (need := fun j => ([] : List Nat).contains j) _ _ _ _ ?_
    refine Lcl.wpG_run (needs := []) [7] _ _ _ (by kernel_rfl) ?_
    simp only [List.map_cons, List.map_nil, List.getElem?_toArray, List.getElem?_cons_succ, List.getElem?_cons_zero, Option.getD_some]
    have BP5 := Lib.hid (BB2.out.old y.h)
    have FP5 := Lib.hid (F2.out.tr y.h)
    generalize y.w = wy2 at *
    clear y
    go_wp2_with fail
    refine (bwrite_walk b _ _ _ BP5.out (by simp only [ByteArray.size_append]; omega)).mono ?_
    rintro e w5 ⟨rfl, hbw, hbl, hkp⟩
    have FF5 := Lib.hid (below_tr FP5.out hbl hwb)
    rw [← hTo.out] at hbw
    have BB5 := Lib.hid hbw
    clear hbw hbl hkp FP5 BP5
    go_wp2_with fail
    go_roundw
    case rel => exact ⟨k + 1, by go_num, by omega, FF5.out, BB5.out⟩
    case measure => simp [intOf]; omega
   ·have hkl : k = rhs.length := by omega
    subst hkl
    go_wp2_with fail
    refine (bstring_walk b _ _ BB.out).mono ?_
    rintro e w5 ⟨rfl, hbl⟩
    have FF5 := Lib.hid (below_tr F.out hbl hwb)
    have hEq : encS R = encTo R rhs.length := by unfold encS; rw [HRH.out]
    have HEQ := Lib.hid hEq
    clear hbl hEq
    go_wp2_with fail
    go_ret2
    exact ⟨by rw [HEQ.out]; rfl, FF5.out⟩
set_option maxRecDepth 100000 in
set_option maxHeartbeats 4000000 in
theorem encode_no (K : Nat → Prop) (r : Rec) (hv : Value) (w : World) (h : HdsR K w hv r.hs) (hr : ¬ RecOK r) :
  Calls Tryz.prog 198 #[recV r hv] w fun e w' => e = .returned (.tuple #[.string ByteArray.empty, .int .i64 1]) ∧ Fr (fun _ => False) w w' := by
 have hck := rcheck_no K r hv (w.alloc (recObj r hv)) (h.old ((Fr.same w).alloc _)) hr
 obtain ⟨oa, cap, rfl, h⟩ := h
 have hobj := heap_alloc_self w (recObj r (.slice oa r.hs.length cap))
 have hfa := (Fr.same w).alloc (recObj r (.slice oa r.hs.length cap))
 have HCK := Lib.hid hck
 have OB := Lib.hid hobj
 have FA := Lib.hid hfa
 clear h hck hr hobj hfa
 obtain ⟨rat, rtm, rbare, rkey, rgone, rval, rhs⟩ := r
 unfold recV at *
 dsimp only at *
 go_enter Tryz.func198, Tryz.ntmps198
 go_wp2_with fail
 refine HCK.out.mono ?_
 rintro e w2 ⟨rfl, hf2⟩
 have F2 := Lib.hid (FA.out.tr hf2)
 clear hf2
 go_wp2_with fail
 go_ret2
 exact ⟨rfl, F2.out⟩
end Go.Proofs.YtfdhofabgdkkkaaGreatDoor
