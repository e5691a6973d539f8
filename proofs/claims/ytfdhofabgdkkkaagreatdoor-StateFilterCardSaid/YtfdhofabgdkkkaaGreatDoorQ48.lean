/- A partition: fetch with any filter. -/
import Derived.Test.YtfdhofabgdkkkaaGreatDoorQ47
namespace Go.Proofs.YtfdhofabgdkkkaaGreatDoor
open Go.RowKit Go.Fm Go.BigFrame Go.Shelf Go.Maps
set_option linter.unusedVariables false
set_option linter.unusedSimpArgs false
set_option maxRecDepth 100000
section
variable {w w' : World} {S : Nat → Prop} {K K2 : Nat → Prop}
def pickB (f : Rec → Bool) (b : Bat) : Bat := { b with recs := b.recs.filter f }
def FetchPostA (f : Rec → Bool) (w : World) (d : PartD) (at' cnt : Int) (e : Ending) (w' : World) : Prop :=
 (¬ (d.st ≤ at' ∧ at' ≤ d.en) ∧ e = .returned (tellV 12 0) ∧ Fr (fun _ => False) w w') ∨
 ((d.st ≤ at' ∧ at' ≤ d.en) ∧ ∃ bv, e = .returned (.agg (repA 0 0 d.st d.en 0 0 0 bv (.slice none 0 0) (.slice none 0 0))) ∧ BatsR (fun b => w.heap.size ≤ b) w' bv ((fetchF at' cnt d.bats 0 []).map (pickB f)) ∧ Fr (fun _ => False) w w')
set_option maxHeartbeats 64000000 in
theorem fetch_any {d : PartD} (h : PartA w d) (hb : ∀ b ∈ d.bats, BatOK b) (hl : d.bats.length ≤ 100000) (q : Req) (rv tv : Value) (K1 : Nat → Prop) (ks : Fst) (oe : Option Addr) (ce : Nat) (hkid : KidR K1 w (.slice oe ks.len ce) ks) (hkb : ∀ i, K1 i → i < w.heap.size) (hck : checkB q.fop q.fnm q.fvl ks = true) (hcw : hasCw w) (hst : StepsOK w) :
  Calls Tryz.prog 38 #[.pointer (some ⟨d.xb, 0, none⟩), .agg (reqC q rv (.slice oe ks.len ce) tv)] w (FetchPostA (letB hasWF q.fop q.fnm q.fvl ks) w d q.from' q.count) := by
 have f2 := ((Fr.same w).alloc (.cells #[.int .i64 q.kind, .string q.name, .int .i64 q.index, .int .i64 q.count, .int .i64 q.from', .bool q.flag, .int .i64 q.bat.base, .int .i64 q.bat.span, .int .i64 q.bat.prod, .int .i64 q.bat.epoch, .int .i64 q.bat.seq, rv, .int .i64 q.fop, .string q.fnm, .string q.fvl, .slice oe ks.len ce, .string q.group, .int .i64 q.member, .int .i64 q.gen, tv] 41)).alloc (.cells #[.int .i64 0, .int .i64 0, .int .i64 0, .int .i64 0, .int .i64 0, .int .i64 0, .int .i64 0, .slice none 0 0, .slice none 0 0, .slice none 0 0] 31)
 have s1 : (w.alloc (.cells #[.int .i64 q.kind, .string q.name, .int .i64 q.index, .int .i64 q.count, .int .i64 q.from', .bool q.flag, .int .i64 q.bat.base, .int .i64 q.bat.span, .int .i64 q.bat.prod, .int .i64 q.bat.epoch, .int .i64 q.bat.seq, rv, .int .i64 q.fop, .string q.fnm, .string q.fvl, .slice oe ks.len ce, .string q.group, .int .i64 q.member, .int .i64 q.gen, tv] 41)).heap.size = w.heap.size + 1 := by simp
 have x1 := heap_alloc_self (w.alloc (.cells #[.int .i64 q.kind, .string q.name, .int .i64 q.index, .int .i64 q.count, .int .i64 q.from', .bool q.flag, .int .i64 q.bat.base, .int .i64 q.bat.span, .int .i64 q.bat.prod, .int .i64 q.bat.epoch, .int .i64 q.bat.seq, rv, .int .i64 q.fop, .string q.fnm, .string q.fvl, .slice oe ks.len ce, .string q.group, .int .i64 q.member, .int .i64 q.gen, tv] 41)) (.cells #[.int .i64 0, .int .i64 0, .int .i64 0, .int .i64 0, .int .i64 0, .int .i64 0, .int .i64 0, .slice none 0 0, .slice none 0 0, .slice none 0 0] 31)
 rw [s1] at x1
 have X1 := Lib.hid x1
 have X0 := Lib.hid ((heap_alloc_lt (.cells #[.int .i64 0, .int .i64 0, .int .i64 0, .int .i64 0, .int .i64 0, .int .i64 0, .int .i64 0, .slice none 0 0, .slice none 0 0, .slice none 0 0] 31) (lt_of_heap (heap_alloc_self w (.cells #[.int .i64 q.kind, .string q.name, .int .i64 q.index, .int .i64 q.count, .int .i64 q.from', .bool q.flag, .int .i64 q.bat.base, .int .i64 q.bat.span, .int .i64 q.bat.prod, .int .i64 q.bat.epoch, .int .i64 q.bat.seq, rv, .int .i64 q.fop, .string q.fnm, .string q.fvl, .slice oe ks.len ce, .string q.group, .int .i64 q.member, .int .i64 q.gen, tv] 41)))).trans (heap_alloc_self w (.cells #[.int .i64 q.kind, .string q.name, .int .i64 q.index, .int .i64 q.count, .int .i64 q.from', .bool q.flag, .int .i64 q.bat.base, .int .i64 q.bat.span, .int .i64 q.bat.prod, .int .i64 q.bat.epoch, .int .i64 q.bat.seq, rv, .int .i64 q.fop, .string q.fnm, .string q.fvl, .slice oe ks.len ce, .string q.group, .int .i64 q.member, .int .i64 q.gen, tv] 41)))
 have P2 := Lib.hid (h.old f2)
 have S2 := Lib.hid (hst.old f2)
 have F2 := Lib.hid f2
 have P0 := Lib.hid h
 have HB := Lib.hid hb
 have KW0 := Lib.hid hkid
 have HW0 := Lib.hid hkb
 have HX0 := Lib.hid hck
 have CW0 := Lib.hid hcw
 clear hkid hkb hck hcw
 have IN := Lib.hid (inside_walk d.xb d.st d.en q.from' ((w.alloc (.cells #[.int .i64 q.kind, .string q.name, .int .i64 q.index, .int .i64 q.count, .int .i64 q.from', .bool q.flag, .int .i64 q.bat.base, .int .i64 q.bat.span, .int .i64 q.bat.prod, .int .i64 q.bat.epoch, .int .i64 q.bat.seq, rv, .int .i64 q.fop, .string q.fnm, .string q.fvl, .slice oe ks.len ce, .string q.group, .int .i64 q.member, .int .i64 q.gen, tv] 41)).alloc (.cells #[.int .i64 0, .int .i64 0, .int .i64 0, .int .i64 0, .int .i64 0, .int .i64 0, .int .i64 0, .slice none 0 0, .slice none 0 0, .slice none 0 0] 31)) ((cell_of P2.out.b 0).trans rfl) ((cell_of P2.out.b 1).trans rfl))
 clear f2 s1 x1 h hst hb
 unfold reqC
 have d0 := fun j => cell_of X0.out j
 go_enter Tryz.func38, Tryz.ntmps38
 go_wp2_with fail
 generalize ((w.alloc (.cells #[.int .i64 q.kind, .string q.name, .int .i64 q.index, .int .i64 q.count, .int .i64 q.from', .bool q.flag, .int .i64 q.bat.base, .int .i64 q.bat.span, .int .i64 q.bat.prod, .int .i64 q.bat.epoch, .int .i64 q.bat.seq, rv, .int .i64 q.fop, .string q.fnm, .string q.fvl, .slice oe ks.len ce, .string q.group, .int .i64 q.member, .int .i64 q.gen, tv] 41)).alloc (.cells #[.int .i64 0, .int .i64 0, .int .i64 0, .int .i64 0, .int .i64 0, .int .i64 0, .int .i64 0, .slice none 0 0, .slice none 0 0, .slice none 0 0] 31)) = w2 at *
 have X1lt := lt_of_heap X1.out
 by_cases hin : d.st ≤ q.from' ∧ q.from' ≤ d.en
 ·rw [decide_eq_true hin] at IN
  refine IN.out.mono ?_
  rintro e w3 ⟨rfl, rfl⟩
  have HIN := Lib.hid hin
  clear hin IN
  go_wp2_with fail
  have z0 : ∀ y : Lcl.InS (fun w' => Fr (fun _ => False) w3 w'), y.w.cell? ⟨d.xb, 0, none⟩ = some (.int .i64 d.st) := fun y => y.h.cel ((cell_of P2.out.b 0).trans rfl)
  have z1 : ∀ y : Lcl.InS (fun w' => Fr (fun _ => False) w3 w'), y.w.cell? ⟨d.xb, 1, none⟩ = some (.int .i64 d.en) := fun y => y.h.cel ((cell_of P2.out.b 1).trans rfl)
  refine Lcl.wp_region_calm (by kernel_rfl) [(true, [0, 1, 2, 4, 5, 6]), (false, [3, 7]), (true, [8])] #[0, 1, 3, 7, 0, 16, 48, 112, 255, 0, 1023] [0, 1, 2, 3, 4, 5, 6, 7, 9] 2 #[true, true, true, true, true, true, true, true, true, false, false] (by kernel_rfl) (by kernel_rfl) (by kernel_rfl) (fun w' => Fr (fun _ => False) w3 w') (Fr.same w3).drew (fun d c a v w h => by cases d <;> exact h) ?_
  simp only [Lcl.opsOf, List.map_cons, List.map_nil, List.getElem?_toArray, List.getElem?_cons_succ, List.getElem?_cons_zero, Option.getD_some]
  refine Lcl.wpCalm_t ?_
  repeat (go_big_quiet_step (rfl))
  refine wpQuiet_nil ?_
  refine Lcl.wpCalm_f ?_
  repeat (go_big_quiet_step (rfl))
  refine wpQuiet_nil ?_
  refine Lcl.wpCalm_t ?_
  repeat (go_big_quiet_step (rfl))
  refine wpQuiet_nil ?_
  refine Lcl.wpCalm_nil ?_
  clear z0 z1 d0
  have D3 := Lib.hid (Fr.same w3).drew
  have P2 := Lib.hid (P2.out.old D3.out)
  have S2 := Lib.hid (S2.out.old D3.out)
  have F3 := Lib.hid (F2.out.tr D3.out)
  have X1 := Lib.hid ((D3.out.block _ (lt_of_heap X1.out) fun h => h).trans X1.out)
  have X0 := Lib.hid ((D3.out.block _ (lt_of_heap X0.out) fun h => h).trans X0.out)
  have X1lt4 : w.heap.size + 1 < w3.drew.heap.size := X1lt
  generalize w3.drew = w4 at *
  refine Lcl.wpG_one 9 rfl (by kernel_rfl) ?_
  have fa := (Fr.same w4).alloc (.cells #[.int .i64 0, .int .i64 0, .int .i64 0, .int .i64 0, .int .i64 0, .int .i64 0, .int .i64 0, .slice none 0 0, .slice none 0 0, .slice none 0 0] 31)
  have xa := heap_alloc_self w4 (.cells #[.int .i64 0, .int .i64 0, .int .i64 0, .int .i64 0, .int .i64 0, .int .i64 0, .int .i64 0, .slice none 0 0, .slice none 0 0, .slice none 0 0] 31)
  have fb := frRow fa (g := w4.heap.size) (.inr (Nat.le_refl _)) (repA 0 0 d.st d.en 0 0 0 (.slice none 0 0) (.slice none 0 0) (.slice none 0 0))
  have XR := Lib.hid (setRow_heap _ w4.heap.size _ (repA 0 0 d.st d.en 0 0 0 (.slice none 0 0) (.slice none 0 0) (.slice none 0 0)) 31 (0, 0) xa)
  have XA := Lib.hid xa
  have D4 := Lib.hid (D3.out.tr fa)
  have P2 := Lib.hid (P2.out.old fb)
  have S2 := Lib.hid (S2.out.old fb)
  have F5 := Lib.hid (F3.out.tr fb)
  have X1 := Lib.hid ((fb.block _ (lt_of_heap X1.out) fun h => h).trans X1.out)
  have X0 := Lib.hid ((fb.block _ (lt_of_heap X0.out) fun h => h).trans X0.out)
  have LW := Lib.hid (show w.heap.size + 1 < w4.heap.size ∧ w4.heap.size < ((w4.alloc (.cells #[.int .i64 0, .int .i64 0, .int .i64 0, .int .i64 0, .int .i64 0, .int .i64 0, .int .i64 0, .slice none 0 0, .slice none 0 0, .slice none 0 0] 31)).setRow w4.heap.size (repA 0 0 d.st d.en 0 0 0 (.slice none 0 0) (.slice none 0 0) (.slice none 0 0))).heap.size from ⟨X1lt4, lt_of_heap XR.out⟩)
  clear fa xa fb F3 D3 F2 X1lt X1lt4
  go_wp2_with fail
  refine ⟨fun _ _ => D4.out, ?_⟩
  refine Lcl.wpG_run [10] _ _ _ (by kernel_rfl) ?_
  simp only [List.map_cons, List.map_nil, List.getElem?_toArray, List.getElem?_cons_succ, List.getElem?_cons_zero, Option.getD_some]
  have d5 := cell_of P2.out.b 2
  obtain ⟨ob, cb, hbv⟩ := ownB_slice P2.out.own
  rw [show (#[.int .i64 d.st, .int .i64 d.en, d.bv, .pointer (some ⟨d.pb, 0, none⟩)] : Array Value)[2]? = some d.bv from rfl, hbv] at d5
  have BR := Lib.hid ((OwnBats.reads (K' := fun i => i < w.heap.size) P0.out.own (fun _ _ h => h) fun _ _ h => h).old F5.out)
  rw [hbv] at BR
  clear hbv
  go_wp2_with (refine wpList_store31g rfl _ _ rfl w4.heap.size 0 0 d.st d.en (.slice none 0 0) rfl rfl rfl _ XA.out rfl ?_)
  generalize ((w4.alloc (.cells #[.int .i64 0, .int .i64 0, .int .i64 0, .int .i64 0, .int .i64 0, .int .i64 0, .int .i64 0, .slice none 0 0, .slice none 0 0, .slice none 0 0] 31)).setRow w4.heap.size (repA 0 0 d.st d.en 0 0 0 (.slice none 0 0) (.slice none 0 0) (.slice none 0 0))) = w5 at *
  clear d5 XA D4
  go_loopw [6, 31] (fun n i wr => ∃ k m : Nat, ∃ (acc : List Bat) (oc : Option Addr) (cc : Nat), n = .int .i64 m ∧ i = .int .i64 k ∧ k ≤ d.bats.length ∧ wr.heap[w4.heap.size]? = some (.cells (repA 0 0 d.st d.en 0 0 0 (.slice oc acc.length cc) (.slice none 0 0) (.slice none 0 0)) 31 (0, 0)) ∧ OwnBats (fun b => w5.heap.size ≤ b) w5.heap.size wr (.slice oc acc.length cc) (acc.map (pickB (letB hasWF q.fop q.fnm q.fvl ks))) ∧ fetchF q.from' q.count (d.bats.drop k) m acc = fetchF q.from' q.count d.bats 0 [] ∧ acc.length ≤ k ∧ mLe m k ∧ Fr (fun i => i = w4.heap.size) w5 wr) (fun _ i _ => d.bats.length - (intOf i).toNat)
  case atStart => exact ⟨0, 0, [], none, 0, rfl, rfl, Nat.zero_le _, XR.out, OwnBats.nil _ _ _, rfl, Nat.le_refl _, Nat.zero_le _, Fr.refl _ _⟩
  case round =>
   obtain ⟨k, m, acc, oc, cc, rfl, rfl, hk, hrb, ho, hfe, hak, hmk, hf⟩ := hrel
   have RB := Lib.hid hrb
   have O := Lib.hid ho
   have FE := Lib.hid hfe
   have F := Lib.hid hf
   have lw := LW.out
   have LR := Lib.hid (show w4.heap.size < w5.heap.size from lw.2)
   have XQ := Lib.hid ((hf.block _ (lt_of_heap X0.out) (by omega)).trans X0.out)
   have XZ := Lib.hid ((hf.block _ (lt_of_heap X1.out) (by omega)).trans X1.out)
   have SW := Lib.hid (S2.out.fr hf (by omega))
   have BW := Lib.hid (BR.out.fr hf fun i hi e => by omega)
   have HM := Lib.hid hmk
   have HA := Lib.hid hak
   clear hrb ho hfe hf hmk hak lw
   rcases Nat.lt_or_ge k d.bats.length with hlt | hge
   ·obtain ⟨x, hx⟩ := get_of_lt hlt
    obtain ⟨oa, cap, a, rvx, hsl, rfl, hab, hat, hrr⟩ := batsR_at BW.out hx
    injection hsl with e1 e2 e3
    subst e1 e3
    obtain ⟨ra, rc, rfl, -⟩ := id hrr
    have hok := HB.out x (List.mem_of_getElem? hx)
    have OK := Lib.hid hok
    have HX := Lib.hid hx
    have hdrop : d.bats.drop k = x :: d.bats.drop (k + 1) := by have h9 := List.drop_eq_getElem_cons hlt; rw [h9, (List.getElem?_eq_some_iff.1 hx).2]
    have FE1 := Lib.hid (show fetchF q.from' q.count (x :: d.bats.drop (k + 1)) m acc = fetchF q.from' q.count d.bats 0 [] by rw [← hdrop]; exact FE.out)
    have HRX := Lib.hid hrr
    obtain ⟨c0, c1, c2, c3, c4, c5⟩ := hat
    have fa := (Fr.same wr).alloc (.cells #[.int .i64 x.base, .int .i64 x.span, .int .i64 x.prod, .int .i64 x.epoch, .int .i64 x.seq, .slice ra x.recs.length rc] 35)
    have xa := heap_alloc_self wr (.cells #[.int .i64 x.base, .int .i64 x.span, .int .i64 x.prod, .int .i64 x.epoch, .int .i64 x.seq, .slice ra x.recs.length rc] 35)
    have XA := Lib.hid xa
    have FA := Lib.hid fa
    have XQ1 := Lib.hid ((fa.block _ (lt_of_heap XQ.out) fun h => h).trans XQ.out)
    have XZ1 := Lib.hid ((fa.block _ (lt_of_heap XZ.out) fun h => h).trans XZ.out)
    have RB1 := Lib.hid ((fa.block _ (lt_of_heap RB.out) fun h => h).trans RB.out)
    have R1 := Lib.hid (HRX.out.old fa)
    have O1 := Lib.hid (O.out.old fa)
    have S1 := Lib.hid (SW.out.old fa)
    have dq := fun j => cell_of XQ1.out j
    have b0 := hok.base0
    have b1 := hok.base1
    have s0 := hok.span0
    have s1 := hok.span1
    clear hx hrr fa xa hdrop hok
    by_cases hsk : x.base + x.span ≤ q.from'
    ·have FE2 := Lib.hid ((fetchF_skip hsk).symm.trans FE1.out)
     have F1 := Lib.hid (F.out.trans FA.out fun _ h => h.elim)
     go_wp2_with fail
     go_roundw
     case rel => exact ⟨k + 1, m, acc, oc, cc, rfl, by go_num, by omega, RB1.out, O1.out, FE2.out, by have := HA.out; omega, mLe_same HM.out, F1.out⟩
     case measure => simp [intOf]; omega
    ·have HSK := Lib.hid hsk
     have EW := Lib.hid (bencode_walk _ x _ (wr.alloc (.cells #[.int .i64 x.base, .int .i64 x.span, .int .i64 x.prod, .int .i64 x.epoch, .int .i64 x.seq, .slice ra x.recs.length rc] 35)) R1.out S1.out)
     unfold batV at EW
     go_wp2_with fail
     generalize (wr.alloc (.cells #[.int .i64 x.base, .int .i64 x.span, .int .i64 x.prod, .int .i64 x.epoch, .int .i64 x.seq, .slice ra x.recs.length rc] 35)) = w6 at *
     refine EW.out.mono ?_
     rintro e w7 ⟨hcase, hf7⟩
     rcases hcase with ⟨-, rfl⟩ | ⟨hno, -⟩
     case inr => exact absurd OK.out hno
     have F7 := Lib.hid (FA.out.tr hf7)
     have XQ1 := Lib.hid ((hf7.block _ (lt_of_heap XQ1.out) fun h => h).trans XQ1.out)
     have XZ1 := Lib.hid ((hf7.block _ (lt_of_heap XZ1.out) fun h => h).trans XZ1.out)
     have RB1 := Lib.hid ((hf7.block _ (lt_of_heap RB1.out) fun h => h).trans RB1.out)
     have XA := Lib.hid ((hf7.block _ (lt_of_heap XA.out) fun h => h).trans XA.out)
     have R7 := Lib.hid (R1.out.old hf7)
     have O7 := Lib.hid (O1.out.old hf7)
     have dq := fun j => cell_of XQ1.out j
     have dr := fun j => cell_of RB1.out j
     have dx := fun j => cell_of XA.out j
     unfold repA at dr
     have hsz := batS_top OK.out
     generalize hT : batS x = T at *
     have HT := Lib.hid hT
     have SZT := Lib.hid hsz
     have XA7 := XA
     have hmm := mLe_top HM.out (by omega)
     clear hf7 EW c0 c1 c2 c3 c4 c5 hT R1 O1 S1
     by_cases ha0 : acc.length = 0
     ·obtain rfl : acc = [] := List.eq_nil_of_length_eq_zero ha0
      clear ha0
      have FEN := Lib.hid ((fetchF_more (by have := HSK.out; omega) (fun h => by simp at h)).symm.trans FE1.out)
      rw [HT.out] at FEN
      go_wp2_with fail
      have F07 := F5.out.trans ((F.out.trans F7.out fun _ h => h.elim)) (fun i e => .inr (by have := LW.out; omega))
      refine (pick_any _ K1 q.fop q.fnm q.fvl ks oe ce x.recs _ R7.out (by have := OK.out.len; omega) (fun r hr => by obtain ⟨i, hi⟩ := List.mem_iff_getElem?.1 hr; exact (OK.out.recs i r hi).ok) (KW0.out.old F07) (fun i hi => Nat.lt_of_lt_of_le (HW0.out i hi) F07.size) HX0.out (hasCw_fr _ _ CW0.out F07)).mono ?_
      rintro e w8 ⟨rv8, rfl, hr8, hf8⟩
      clear F07
      obtain ⟨ys, hys⟩ : ∃ ys, ys = x.recs.filter (letB hasWF q.fop q.fnm q.fvl ks) := ⟨_, rfl⟩
      rw [← hys] at hr8
      have YS := Lib.hid hys
      clear hys
      obtain ⟨ra8, rc8, rfl, -⟩ := id hr8
      have XQ1 := Lib.hid ((hf8.block _ (lt_of_heap XQ1.out) fun h => h).trans XQ1.out)
      have XZ1 := Lib.hid ((hf8.block _ (lt_of_heap XZ1.out) fun h => h).trans XZ1.out)
      have RB1 := Lib.hid ((hf8.block _ (lt_of_heap RB1.out) fun h => h).trans RB1.out)
      have XA := Lib.hid ((hf8.block _ (lt_of_heap XA.out) fun h => h).trans XA.out)
      have lr := LR.out
      have s7 := F7.out.size
      have s8 := hf8.size
      have O8 := (ownB_cut (K' := fun b => w5.heap.size ≤ b ∧ b < wr.heap.size) O.out fun k h1 h2 => ⟨h1, h2⟩).old (F7.out.tr hf8)
      have f9 : Fr (fun i => i = wr.heap.size) w8 (w8.setCell ⟨wr.heap.size, 5, none⟩ (.slice ra8 ys.length rc8)) := (Fr.refl (fun i => i = wr.heap.size) w8).setCell (p := ⟨wr.heap.size, 5, none⟩) (.inl rfl) _
      have x9 := (heap_setCell_self XA.out (o := 5) (.slice ra8 ys.length rc8)).trans (show _ = some (.cells #[.int .i64 x.base, .int .i64 x.span, .int .i64 x.prod, .int .i64 x.epoch, .int .i64 x.seq, .slice ra8 ys.length rc8] 35 (0, 0)) from rfl)
      have dx := fun j => cell_of XA.out j
      have zx := fun j => fz_of XA.out j
      have O9 := Lib.hid (ownB_cut (K' := fun b => w5.heap.size ≤ b) (ownB_fr O8 f9 (fun k hk e => by have := (O.out.lt hk).2; omega) fun k hk e => by have := hk.2; omega) fun k hk _ => hk.1)
      have R9 := Lib.hid (hr8.fr f9 fun k hk e => by have := lt_of_heap XA7.out; omega)
      have RB9 := Lib.hid ((f9.block _ (lt_of_heap RB1.out) (by have := lt_of_heap RB.out; omega)).trans RB1.out)
      have F9 := Lib.hid (F.out.trans ((F7.out.tr hf8).trans (S' := fun i => i = wr.heap.size) f9 fun i e => .inr (by omega)) fun i h => h.elim)
      have sz9 : (w8.setCell ⟨wr.heap.size, 5, none⟩ (.slice ra8 ys.length rc8)).heap.size = w8.heap.size := by simp [World.setCell]
      have ha := fun j => cell_alloc_new (w8.setCell ⟨wr.heap.size, 5, none⟩ (.slice ra8 ys.length rc8)) #[.int .i64 x.base, .int .i64 x.span, .int .i64 x.prod, .int .i64 x.epoch, .int .i64 x.seq, .slice ra8 ys.length rc8] 35 j
      rw [sz9] at ha
      have fA := (Fr.same (w8.setCell ⟨wr.heap.size, 5, none⟩ (.slice ra8 ys.length rc8))).alloc (.cells #[.int .i64 x.base, .int .i64 x.span, .int .i64 x.prod, .int .i64 x.epoch, .int .i64 x.seq, .slice ra8 ys.length rc8] 35)
      have c9 := fun j => cell_of x9 j
      have r9 := fun j => cell_of RB9.out j
      unfold repA at r9
      have OA := Lib.hid (O9.out.old fA)
      have RAA := Lib.hid (R9.out.old fA)
      have RBA := Lib.hid ((fA.block _ (lt_of_heap RB9.out) fun h => h).trans RB9.out)
      have HA2 := Lib.hid ha
      have FA2 := Lib.hid (F9.out.trans fA fun _ h => h.elim)
      have SZ := Lib.hid (show w5.heap.size ≤ wr.heap.size ∧ wr.heap.size < w7.heap.size ∧ w7.heap.size ≤ w8.heap.size from ⟨F.out.size, lt_of_heap XA7.out, s8⟩)
      have SA := Lib.hid fA.size
      have S9 := Lib.hid sz9
      clear hr8 hf8 O8 f9 x9 ha fA dr lr s7 s8 sz9
      go_wp2_with (at_builtin; refine wpList_push_bat _ rfl (.tmp 79) (.tmp 81) rfl (fun b => w5.heap.size ≤ b) w5.heap.size (.slice oc 0 cc) [] rfl OA.out w8.heap.size 1 rfl { x with recs := ys } (.slice ra8 ys.length rc8) HA2.out ?c1 rfl ?c2 ?c3 ?_)
      case c1 => exact RAA.out.mono fun b hb _ => ⟨by have := SZ.out; omega, fun e => by have := (O.out.lt e).2; have := SZ.out; omega⟩
      case c2 => try rw [List.length_map]
                 have := HA.out; omega
      case c3 => have := SZ.out; have := SA.out; have := S9.out; omega
      intro v11 w11 ho11 hg11 hb11
      obtain ⟨o11, c11, hv11⟩ := ownB_slice ho11
      replace hv11 := hv11.trans (show _ = Value.slice o11 (1) c11 by simp)
      subst hv11
      have F11 := FA2.out.grown hg11 fun k hk => .inr (O.out.lt hk).1
      have RB11 := (hg11.block _ (lt_of_heap RBA.out) (fun e => by have := (O.out.lt e.symm).1; have := LR.out; omega)).trans RBA.out
      have O11 := Lib.hid ho11
      have f12 : Fr (fun i => i = w4.heap.size) w11 (w11.setCell ⟨w4.heap.size, 7, none⟩ (.slice o11 (1) c11)) := (Fr.refl (fun i => i = w4.heap.size) w11).setCell (p := ⟨w4.heap.size, 7, none⟩) (.inl rfl) _
      have RB12 := Lib.hid ((heap_setCell_self RB11 (o := 7) (.slice o11 (1) c11)).trans (show _ = some (.cells (repA 0 0 d.st d.en 0 0 0 (.slice o11 (1) c11) (.slice none 0 0) (.slice none 0 0)) 31 (0, 0)) from rfl))
      have O12 := Lib.hid (ownB_fr O11.out f12 (fun k hk e => by have := (O11.out.lt hk).1; have := LR.out; omega) fun k hk e => by have := LR.out; have hk : w5.heap.size ≤ k := hk; omega)
      have F12 := Lib.hid (F11.trans f12 fun i e => .inl e)
      have dr := fun j => cell_of RB11 j
      have zr := fun j => fz_of RB11 j
      unfold repA at dr
      clear ho11 hg11 hb11 F11 RB11 f12 r9 c9 dx zx
      go_wp2_with fail
      go_roundw
      case rel =>
       have LE1 : (([] : List Bat) ++ [x]).length = 1 := by simp
       have EQ : ([] ++ [x] : List Bat).map (pickB (letB hasWF q.fop q.fnm q.fvl ks)) = [] ++ [{ x with recs := ys }] := by rw [YS.out]; rfl
       refine ⟨k + 1, m + T.size, [] ++ [x], o11, c11, by go_num, by go_num, by omega, by rw [LE1]; exact RB12.out, by rw [LE1, EQ]; exact O12.out, FEN.out, by rw [LE1]; have := HA.out; omega, mLe_more HM.out SZT.out, F12.out⟩
      case measure => simp [intOf]; omega
     ·have HA0 := Lib.hid (show 0 < acc.length by omega)
      have hpos : (0 : Int) < (acc.length : Int) := by omega
      clear ha0
      by_cases hc : q.count ≤ 30000
      ·have HC := Lib.hid hc
       by_cases hm : q.count < (m : Int) + (T.size : Int)
       ·have FEN := Lib.hid ((fetchF_stop (by have := HSK.out; omega) ⟨HA0.out, .inl (by rw [HT.out]; have := HC.out; omega)⟩).symm.trans FE1.out)
        have RBX := RB1.out
        have XZX := XZ1.out
        have R9 := setRow_heap w7 (w.heap.size + 1) _ (repA 0 0 d.st d.en 0 0 0 (.slice oc acc.length cc) (.slice none 0 0) (.slice none 0 0)) 31 (0, 0) XZX
        have fE := frRow (S := fun i => i = w.heap.size + 1) (Fr.refl _ w7) (.inl rfl) (repA 0 0 d.st d.en 0 0 0 (.slice oc acc.length cc) (.slice none 0 0) (.slice none 0 0))
        have BE := Lib.hid (((OwnBats.reads (K' := fun b => w5.heap.size ≤ b) O7.out (fun _ h _ => h) fun _ h _ => h).fr fE fun b hb e => by have hb : w5.heap.size ≤ b := hb; have := LW.out; have := LR.out; omega).mono (K' := fun b => w.heap.size ≤ b) fun b hb _ => Nat.le_trans F5.out.size hb)
        have FF := Lib.hid (((F5.out.trans ((F.out.trans F7.out fun _ h => h.elim)) (fun i e => .inr (by have := LW.out; omega))).trans fE fun i e => .inr (by omega)))
        clear fE
        go_wp2_with (first | (refine wpList_load_row rfl 31 _ rfl w4.heap.size rfl 31 _ (0, 0) _ RBX Tryz.underlying31 rfl (by kernel_rfl) ?_) | (refine wpList_store31g rfl _ _ rfl (w.heap.size + 1) 0 0 d.st d.en (.slice oc acc.length cc) rfl rfl rfl _ XZX rfl ?_))
        try simp only [Exit.inBlock, Exit.then]
        refine bodyPost_ret (results_cell_row rfl _ _ (w.heap.size + 1) 31 _ (0, 0) _ rfl R9 Tryz.underlying31 rfl (by kernel_rfl)) rfl ?_
        exact .inr ⟨HIN.out, _, rfl, by rw [← FEN.out]; exact BE.out, FF.out⟩
       ·have HM2 := Lib.hid hm
        by_cases h1 : acc.length = 100
        ·have FEN := Lib.hid ((fetchF_stop (by have := HSK.out; omega) ⟨HA0.out, .inr h1⟩).symm.trans FE1.out)
         have h100 : ((acc.length : Int) == 100) = true := by rw [h1]; rfl
         clear h1
         have RBX := RB1.out
         have XZX := XZ1.out
         have R9 := setRow_heap w7 (w.heap.size + 1) _ (repA 0 0 d.st d.en 0 0 0 (.slice oc acc.length cc) (.slice none 0 0) (.slice none 0 0)) 31 (0, 0) XZX
         have fE := frRow (S := fun i => i = w.heap.size + 1) (Fr.refl _ w7) (.inl rfl) (repA 0 0 d.st d.en 0 0 0 (.slice oc acc.length cc) (.slice none 0 0) (.slice none 0 0))
         have BE := Lib.hid (((OwnBats.reads (K' := fun b => w5.heap.size ≤ b) O7.out (fun _ h _ => h) fun _ h _ => h).fr fE fun b hb e => by have hb : w5.heap.size ≤ b := hb; have := LW.out; have := LR.out; omega).mono (K' := fun b => w.heap.size ≤ b) fun b hb _ => Nat.le_trans F5.out.size hb)
         have FF := Lib.hid (((F5.out.trans ((F.out.trans F7.out fun _ h => h.elim)) (fun i e => .inr (by have := LW.out; omega))).trans fE fun i e => .inr (by omega)))
         clear fE
         go_wp2_with (first | (refine wpList_load_row rfl 31 _ rfl w4.heap.size rfl 31 _ (0, 0) _ RBX Tryz.underlying31 rfl (by kernel_rfl) ?_) | (refine wpList_store31g rfl _ _ rfl (w.heap.size + 1) 0 0 d.st d.en (.slice oc acc.length cc) rfl rfl rfl _ XZX rfl ?_))
         try simp only [Exit.inBlock, Exit.then]
         refine bodyPost_ret (results_cell_row rfl _ _ (w.heap.size + 1) 31 _ (0, 0) _ rfl R9 Tryz.underlying31 rfl (by kernel_rfl)) rfl ?_
         exact .inr ⟨HIN.out, _, rfl, by rw [← FEN.out]; exact BE.out, FF.out⟩
        ·have FEN := Lib.hid ((fetchF_more (by have := HSK.out; omega) (fun h => by rw [HT.out] at h; have := HC.out; have := HM2.out; rcases h.2 with h | h <;> omega)).symm.trans FE1.out)
         rw [HT.out] at FEN
         have h100 : ((acc.length : Int) == 100) = false := by simp; omega
         clear h1
         go_wp2_with fail
         have F07 := F5.out.trans ((F.out.trans F7.out fun _ h => h.elim)) (fun i e => .inr (by have := LW.out; omega))
         refine (pick_any _ K1 q.fop q.fnm q.fvl ks oe ce x.recs _ R7.out (by have := OK.out.len; omega) (fun r hr => by obtain ⟨i, hi⟩ := List.mem_iff_getElem?.1 hr; exact (OK.out.recs i r hi).ok) (KW0.out.old F07) (fun i hi => Nat.lt_of_lt_of_le (HW0.out i hi) F07.size) HX0.out (hasCw_fr _ _ CW0.out F07)).mono ?_
         rintro e w8 ⟨rv8, rfl, hr8, hf8⟩
         clear F07
         obtain ⟨ys, hys⟩ : ∃ ys, ys = x.recs.filter (letB hasWF q.fop q.fnm q.fvl ks) := ⟨_, rfl⟩
         rw [← hys] at hr8
         have YS := Lib.hid hys
         clear hys
         obtain ⟨ra8, rc8, rfl, -⟩ := id hr8
         have XQ1 := Lib.hid ((hf8.block _ (lt_of_heap XQ1.out) fun h => h).trans XQ1.out)
         have XZ1 := Lib.hid ((hf8.block _ (lt_of_heap XZ1.out) fun h => h).trans XZ1.out)
         have RB1 := Lib.hid ((hf8.block _ (lt_of_heap RB1.out) fun h => h).trans RB1.out)
         have XA := Lib.hid ((hf8.block _ (lt_of_heap XA.out) fun h => h).trans XA.out)
         have lr := LR.out
         have s7 := F7.out.size
         have s8 := hf8.size
         have O8 := (ownB_cut (K' := fun b => w5.heap.size ≤ b ∧ b < wr.heap.size) O.out fun k h1 h2 => ⟨h1, h2⟩).old (F7.out.tr hf8)
         have f9 : Fr (fun i => i = wr.heap.size) w8 (w8.setCell ⟨wr.heap.size, 5, none⟩ (.slice ra8 ys.length rc8)) := (Fr.refl (fun i => i = wr.heap.size) w8).setCell (p := ⟨wr.heap.size, 5, none⟩) (.inl rfl) _
         have x9 := (heap_setCell_self XA.out (o := 5) (.slice ra8 ys.length rc8)).trans (show _ = some (.cells #[.int .i64 x.base, .int .i64 x.span, .int .i64 x.prod, .int .i64 x.epoch, .int .i64 x.seq, .slice ra8 ys.length rc8] 35 (0, 0)) from rfl)
         have dx := fun j => cell_of XA.out j
         have zx := fun j => fz_of XA.out j
         have O9 := Lib.hid (ownB_cut (K' := fun b => w5.heap.size ≤ b) (ownB_fr O8 f9 (fun k hk e => by have := (O.out.lt hk).2; omega) fun k hk e => by have := hk.2; omega) fun k hk _ => hk.1)
         have R9 := Lib.hid (hr8.fr f9 fun k hk e => by have := lt_of_heap XA7.out; omega)
         have RB9 := Lib.hid ((f9.block _ (lt_of_heap RB1.out) (by have := lt_of_heap RB.out; omega)).trans RB1.out)
         have F9 := Lib.hid (F.out.trans ((F7.out.tr hf8).trans (S' := fun i => i = wr.heap.size) f9 fun i e => .inr (by omega)) fun i h => h.elim)
         have sz9 : (w8.setCell ⟨wr.heap.size, 5, none⟩ (.slice ra8 ys.length rc8)).heap.size = w8.heap.size := by simp [World.setCell]
         have ha := fun j => cell_alloc_new (w8.setCell ⟨wr.heap.size, 5, none⟩ (.slice ra8 ys.length rc8)) #[.int .i64 x.base, .int .i64 x.span, .int .i64 x.prod, .int .i64 x.epoch, .int .i64 x.seq, .slice ra8 ys.length rc8] 35 j
         rw [sz9] at ha
         have fA := (Fr.same (w8.setCell ⟨wr.heap.size, 5, none⟩ (.slice ra8 ys.length rc8))).alloc (.cells #[.int .i64 x.base, .int .i64 x.span, .int .i64 x.prod, .int .i64 x.epoch, .int .i64 x.seq, .slice ra8 ys.length rc8] 35)
         have c9 := fun j => cell_of x9 j
         have r9 := fun j => cell_of RB9.out j
         unfold repA at r9
         have OA := Lib.hid (O9.out.old fA)
         have RAA := Lib.hid (R9.out.old fA)
         have RBA := Lib.hid ((fA.block _ (lt_of_heap RB9.out) fun h => h).trans RB9.out)
         have HA2 := Lib.hid ha
         have FA2 := Lib.hid (F9.out.trans fA fun _ h => h.elim)
         have SZ := Lib.hid (show w5.heap.size ≤ wr.heap.size ∧ wr.heap.size < w7.heap.size ∧ w7.heap.size ≤ w8.heap.size from ⟨F.out.size, lt_of_heap XA7.out, s8⟩)
         have SA := Lib.hid fA.size
         have S9 := Lib.hid sz9
         clear hr8 hf8 O8 f9 x9 ha fA dr lr s7 s8 sz9
         go_wp2_with (at_builtin; refine wpList_push_bat _ rfl (.tmp 79) (.tmp 81) rfl (fun b => w5.heap.size ≤ b) w5.heap.size (.slice oc acc.length cc) (acc.map (pickB (letB hasWF q.fop q.fnm q.fvl ks))) rfl OA.out w8.heap.size 1 rfl { x with recs := ys } (.slice ra8 ys.length rc8) HA2.out ?c1 rfl ?c2 ?c3 ?_)
         case c1 => exact RAA.out.mono fun b hb _ => ⟨by have := SZ.out; omega, fun e => by have := (O.out.lt e).2; have := SZ.out; omega⟩
         case c2 => try rw [List.length_map]
                    have := HA.out; omega
         case c3 => have := SZ.out; have := SA.out; have := S9.out; omega
         intro v11 w11 ho11 hg11 hb11
         obtain ⟨o11, c11, hv11⟩ := ownB_slice ho11
         replace hv11 := hv11.trans (show _ = Value.slice o11 (acc.length + 1) c11 by simp)
         subst hv11
         have F11 := FA2.out.grown hg11 fun k hk => .inr (O.out.lt hk).1
         have RB11 := (hg11.block _ (lt_of_heap RBA.out) (fun e => by have := (O.out.lt e.symm).1; have := LR.out; omega)).trans RBA.out
         have O11 := Lib.hid ho11
         have f12 : Fr (fun i => i = w4.heap.size) w11 (w11.setCell ⟨w4.heap.size, 7, none⟩ (.slice o11 (acc.length + 1) c11)) := (Fr.refl (fun i => i = w4.heap.size) w11).setCell (p := ⟨w4.heap.size, 7, none⟩) (.inl rfl) _
         have RB12 := Lib.hid ((heap_setCell_self RB11 (o := 7) (.slice o11 (acc.length + 1) c11)).trans (show _ = some (.cells (repA 0 0 d.st d.en 0 0 0 (.slice o11 (acc.length + 1) c11) (.slice none 0 0) (.slice none 0 0)) 31 (0, 0)) from rfl))
         have O12 := Lib.hid (ownB_fr O11.out f12 (fun k hk e => by have := (O11.out.lt hk).1; have := LR.out; omega) fun k hk e => by have := LR.out; have hk : w5.heap.size ≤ k := hk; omega)
         have F12 := Lib.hid (F11.trans f12 fun i e => .inl e)
         have dr := fun j => cell_of RB11 j
         have zr := fun j => fz_of RB11 j
         unfold repA at dr
         clear ho11 hg11 hb11 F11 RB11 f12 r9 c9 dx zx
         go_wp2_with fail
         go_roundw
         case rel =>
          have LE1 : ((acc : List Bat) ++ [x]).length = acc.length + 1 := by simp
          have EQ : (acc ++ [x]).map (pickB (letB hasWF q.fop q.fnm q.fvl ks)) = acc.map (pickB (letB hasWF q.fop q.fnm q.fvl ks)) ++ [{ x with recs := ys }] := by rw [List.map_append, YS.out]; rfl
          refine ⟨k + 1, m + T.size, acc ++ [x], o11, c11, by go_num, by go_num, by omega, by rw [LE1]; exact RB12.out, by rw [LE1, EQ]; exact O12.out, FEN.out, by rw [LE1]; have := HA.out; omega, mLe_more HM.out SZT.out, F12.out⟩
         case measure => simp [intOf]; omega
      ·have HC := Lib.hid hc
       by_cases hm : 30000 < (m : Int) + (T.size : Int)
       ·have FEN := Lib.hid ((fetchF_stop (by have := HSK.out; omega) ⟨HA0.out, .inl (by rw [HT.out]; have := HC.out; omega)⟩).symm.trans FE1.out)
        have RBX := RB1.out
        have XZX := XZ1.out
        have R9 := setRow_heap w7 (w.heap.size + 1) _ (repA 0 0 d.st d.en 0 0 0 (.slice oc acc.length cc) (.slice none 0 0) (.slice none 0 0)) 31 (0, 0) XZX
        have fE := frRow (S := fun i => i = w.heap.size + 1) (Fr.refl _ w7) (.inl rfl) (repA 0 0 d.st d.en 0 0 0 (.slice oc acc.length cc) (.slice none 0 0) (.slice none 0 0))
        have BE := Lib.hid (((OwnBats.reads (K' := fun b => w5.heap.size ≤ b) O7.out (fun _ h _ => h) fun _ h _ => h).fr fE fun b hb e => by have hb : w5.heap.size ≤ b := hb; have := LW.out; have := LR.out; omega).mono (K' := fun b => w.heap.size ≤ b) fun b hb _ => Nat.le_trans F5.out.size hb)
        have FF := Lib.hid (((F5.out.trans ((F.out.trans F7.out fun _ h => h.elim)) (fun i e => .inr (by have := LW.out; omega))).trans fE fun i e => .inr (by omega)))
        clear fE
        go_wp2_with (first | (refine wpList_load_row rfl 31 _ rfl w4.heap.size rfl 31 _ (0, 0) _ RBX Tryz.underlying31 rfl (by kernel_rfl) ?_) | (refine wpList_store31g rfl _ _ rfl (w.heap.size + 1) 0 0 d.st d.en (.slice oc acc.length cc) rfl rfl rfl _ XZX rfl ?_))
        try simp only [Exit.inBlock, Exit.then]
        refine bodyPost_ret (results_cell_row rfl _ _ (w.heap.size + 1) 31 _ (0, 0) _ rfl R9 Tryz.underlying31 rfl (by kernel_rfl)) rfl ?_
        exact .inr ⟨HIN.out, _, rfl, by rw [← FEN.out]; exact BE.out, FF.out⟩
       ·have HM2 := Lib.hid hm
        by_cases h1 : acc.length = 100
        ·have FEN := Lib.hid ((fetchF_stop (by have := HSK.out; omega) ⟨HA0.out, .inr h1⟩).symm.trans FE1.out)
         have h100 : ((acc.length : Int) == 100) = true := by rw [h1]; rfl
         clear h1
         have RBX := RB1.out
         have XZX := XZ1.out
         have R9 := setRow_heap w7 (w.heap.size + 1) _ (repA 0 0 d.st d.en 0 0 0 (.slice oc acc.length cc) (.slice none 0 0) (.slice none 0 0)) 31 (0, 0) XZX
         have fE := frRow (S := fun i => i = w.heap.size + 1) (Fr.refl _ w7) (.inl rfl) (repA 0 0 d.st d.en 0 0 0 (.slice oc acc.length cc) (.slice none 0 0) (.slice none 0 0))
         have BE := Lib.hid (((OwnBats.reads (K' := fun b => w5.heap.size ≤ b) O7.out (fun _ h _ => h) fun _ h _ => h).fr fE fun b hb e => by have hb : w5.heap.size ≤ b := hb; have := LW.out; have := LR.out; omega).mono (K' := fun b => w.heap.size ≤ b) fun b hb _ => Nat.le_trans F5.out.size hb)
         have FF := Lib.hid (((F5.out.trans ((F.out.trans F7.out fun _ h => h.elim)) (fun i e => .inr (by have := LW.out; omega))).trans fE fun i e => .inr (by omega)))
         clear fE
         go_wp2_with (first | (refine wpList_load_row rfl 31 _ rfl w4.heap.size rfl 31 _ (0, 0) _ RBX Tryz.underlying31 rfl (by kernel_rfl) ?_) | (refine wpList_store31g rfl _ _ rfl (w.heap.size + 1) 0 0 d.st d.en (.slice oc acc.length cc) rfl rfl rfl _ XZX rfl ?_))
         try simp only [Exit.inBlock, Exit.then]
         refine bodyPost_ret (results_cell_row rfl _ _ (w.heap.size + 1) 31 _ (0, 0) _ rfl R9 Tryz.underlying31 rfl (by kernel_rfl)) rfl ?_
         exact .inr ⟨HIN.out, _, rfl, by rw [← FEN.out]; exact BE.out, FF.out⟩
        ·have FEN := Lib.hid ((fetchF_more (by have := HSK.out; omega) (fun h => by rw [HT.out] at h; have := HC.out; have := HM2.out; rcases h.2 with h | h <;> omega)).symm.trans FE1.out)
         rw [HT.out] at FEN
         have h100 : ((acc.length : Int) == 100) = false := by simp; omega
         clear h1
         go_wp2_with fail
         have F07 := F5.out.trans ((F.out.trans F7.out fun _ h => h.elim)) (fun i e => .inr (by have := LW.out; omega))
         refine (pick_any _ K1 q.fop q.fnm q.fvl ks oe ce x.recs _ R7.out (by have := OK.out.len; omega) (fun r hr => by obtain ⟨i, hi⟩ := List.mem_iff_getElem?.1 hr; exact (OK.out.recs i r hi).ok) (KW0.out.old F07) (fun i hi => Nat.lt_of_lt_of_le (HW0.out i hi) F07.size) HX0.out (hasCw_fr _ _ CW0.out F07)).mono ?_
         rintro e w8 ⟨rv8, rfl, hr8, hf8⟩
         clear F07
         obtain ⟨ys, hys⟩ : ∃ ys, ys = x.recs.filter (letB hasWF q.fop q.fnm q.fvl ks) := ⟨_, rfl⟩
         rw [← hys] at hr8
         have YS := Lib.hid hys
         clear hys
         obtain ⟨ra8, rc8, rfl, -⟩ := id hr8
         have XQ1 := Lib.hid ((hf8.block _ (lt_of_heap XQ1.out) fun h => h).trans XQ1.out)
         have XZ1 := Lib.hid ((hf8.block _ (lt_of_heap XZ1.out) fun h => h).trans XZ1.out)
         have RB1 := Lib.hid ((hf8.block _ (lt_of_heap RB1.out) fun h => h).trans RB1.out)
         have XA := Lib.hid ((hf8.block _ (lt_of_heap XA.out) fun h => h).trans XA.out)
         have lr := LR.out
         have s7 := F7.out.size
         have s8 := hf8.size
         have O8 := (ownB_cut (K' := fun b => w5.heap.size ≤ b ∧ b < wr.heap.size) O.out fun k h1 h2 => ⟨h1, h2⟩).old (F7.out.tr hf8)
         have f9 : Fr (fun i => i = wr.heap.size) w8 (w8.setCell ⟨wr.heap.size, 5, none⟩ (.slice ra8 ys.length rc8)) := (Fr.refl (fun i => i = wr.heap.size) w8).setCell (p := ⟨wr.heap.size, 5, none⟩) (.inl rfl) _
         have x9 := (heap_setCell_self XA.out (o := 5) (.slice ra8 ys.length rc8)).trans (show _ = some (.cells #[.int .i64 x.base, .int .i64 x.span, .int .i64 x.prod, .int .i64 x.epoch, .int .i64 x.seq, .slice ra8 ys.length rc8] 35 (0, 0)) from rfl)
         have dx := fun j => cell_of XA.out j
         have zx := fun j => fz_of XA.out j
         have O9 := Lib.hid (ownB_cut (K' := fun b => w5.heap.size ≤ b) (ownB_fr O8 f9 (fun k hk e => by have := (O.out.lt hk).2; omega) fun k hk e => by have := hk.2; omega) fun k hk _ => hk.1)
         have R9 := Lib.hid (hr8.fr f9 fun k hk e => by have := lt_of_heap XA7.out; omega)
         have RB9 := Lib.hid ((f9.block _ (lt_of_heap RB1.out) (by have := lt_of_heap RB.out; omega)).trans RB1.out)
         have F9 := Lib.hid (F.out.trans ((F7.out.tr hf8).trans (S' := fun i => i = wr.heap.size) f9 fun i e => .inr (by omega)) fun i h => h.elim)
         have sz9 : (w8.setCell ⟨wr.heap.size, 5, none⟩ (.slice ra8 ys.length rc8)).heap.size = w8.heap.size := by simp [World.setCell]
         have ha := fun j => cell_alloc_new (w8.setCell ⟨wr.heap.size, 5, none⟩ (.slice ra8 ys.length rc8)) #[.int .i64 x.base, .int .i64 x.span, .int .i64 x.prod, .int .i64 x.epoch, .int .i64 x.seq, .slice ra8 ys.length rc8] 35 j
         rw [sz9] at ha
         have fA := (Fr.same (w8.setCell ⟨wr.heap.size, 5, none⟩ (.slice ra8 ys.length rc8))).alloc (.cells #[.int .i64 x.base, .int .i64 x.span, .int .i64 x.prod, .int .i64 x.epoch, .int .i64 x.seq, .slice ra8 ys.length rc8] 35)
         have c9 := fun j => cell_of x9 j
         have r9 := fun j => cell_of RB9.out j
         unfold repA at r9
         have OA := Lib.hid (O9.out.old fA)
         have RAA := Lib.hid (R9.out.old fA)
         have RBA := Lib.hid ((fA.block _ (lt_of_heap RB9.out) fun h => h).trans RB9.out)
         have HA2 := Lib.hid ha
         have FA2 := Lib.hid (F9.out.trans fA fun _ h => h.elim)
         have SZ := Lib.hid (show w5.heap.size ≤ wr.heap.size ∧ wr.heap.size < w7.heap.size ∧ w7.heap.size ≤ w8.heap.size from ⟨F.out.size, lt_of_heap XA7.out, s8⟩)
         have SA := Lib.hid fA.size
         have S9 := Lib.hid sz9
         clear hr8 hf8 O8 f9 x9 ha fA dr lr s7 s8 sz9
         go_wp2_with (at_builtin; refine wpList_push_bat _ rfl (.tmp 79) (.tmp 81) rfl (fun b => w5.heap.size ≤ b) w5.heap.size (.slice oc acc.length cc) (acc.map (pickB (letB hasWF q.fop q.fnm q.fvl ks))) rfl OA.out w8.heap.size 1 rfl { x with recs := ys } (.slice ra8 ys.length rc8) HA2.out ?c1 rfl ?c2 ?c3 ?_)
         case c1 => exact RAA.out.mono fun b hb _ => ⟨by have := SZ.out; omega, fun e => by have := (O.out.lt e).2; have := SZ.out; omega⟩
         case c2 => try rw [List.length_map]
                    have := HA.out; omega
         case c3 => have := SZ.out; have := SA.out; have := S9.out; omega
         intro v11 w11 ho11 hg11 hb11
         obtain ⟨o11, c11, hv11⟩ := ownB_slice ho11
         replace hv11 := hv11.trans (show _ = Value.slice o11 (acc.length + 1) c11 by simp)
         subst hv11
         have F11 := FA2.out.grown hg11 fun k hk => .inr (O.out.lt hk).1
         have RB11 := (hg11.block _ (lt_of_heap RBA.out) (fun e => by have := (O.out.lt e.symm).1; have := LR.out; omega)).trans RBA.out
         have O11 := Lib.hid ho11
         have f12 : Fr (fun i => i = w4.heap.size) w11 (w11.setCell ⟨w4.heap.size, 7, none⟩ (.slice o11 (acc.length + 1) c11)) := (Fr.refl (fun i => i = w4.heap.size) w11).setCell (p := ⟨w4.heap.size, 7, none⟩) (.inl rfl) _
         have RB12 := Lib.hid ((heap_setCell_self RB11 (o := 7) (.slice o11 (acc.length + 1) c11)).trans (show _ = some (.cells (repA 0 0 d.st d.en 0 0 0 (.slice o11 (acc.length + 1) c11) (.slice none 0 0) (.slice none 0 0)) 31 (0, 0)) from rfl))
         have O12 := Lib.hid (ownB_fr O11.out f12 (fun k hk e => by have := (O11.out.lt hk).1; have := LR.out; omega) fun k hk e => by have := LR.out; have hk : w5.heap.size ≤ k := hk; omega)
         have F12 := Lib.hid (F11.trans f12 fun i e => .inl e)
         have dr := fun j => cell_of RB11 j
         have zr := fun j => fz_of RB11 j
         unfold repA at dr
         clear ho11 hg11 hb11 F11 RB11 f12 r9 c9 dx zx
         go_wp2_with fail
         go_roundw
         case rel =>
          have LE1 : ((acc : List Bat) ++ [x]).length = acc.length + 1 := by simp
          have EQ : (acc ++ [x]).map (pickB (letB hasWF q.fop q.fnm q.fvl ks)) = acc.map (pickB (letB hasWF q.fop q.fnm q.fvl ks)) ++ [{ x with recs := ys }] := by rw [List.map_append, YS.out]; rfl
          refine ⟨k + 1, m + T.size, acc ++ [x], o11, c11, by go_num, by go_num, by omega, by rw [LE1]; exact RB12.out, by rw [LE1, EQ]; exact O12.out, FEN.out, by rw [LE1]; have := HA.out; omega, mLe_more HM.out SZT.out, F12.out⟩
         case measure => simp [intOf]; omega
   ·obtain rfl : k = d.bats.length := by omega
    have FEN := Lib.hid (show acc = fetchF q.from' q.count d.bats 0 [] by have h := FE.out; rw [List.drop_length] at h; exact h)
    have RBX := RB.out
    have XZX := XZ.out
    have R9 := setRow_heap wr (w.heap.size + 1) _ (repA 0 0 d.st d.en 0 0 0 (.slice oc acc.length cc) (.slice none 0 0) (.slice none 0 0)) 31 (0, 0) XZX
    have fE := frRow (S := fun i => i = w.heap.size + 1) (Fr.refl _ wr) (.inl rfl) (repA 0 0 d.st d.en 0 0 0 (.slice oc acc.length cc) (.slice none 0 0) (.slice none 0 0))
    have BE := Lib.hid (((OwnBats.reads (K' := fun b => w5.heap.size ≤ b) O.out (fun _ h _ => h) fun _ h _ => h).fr fE fun b hb e => by have hb : w5.heap.size ≤ b := hb; have := LW.out; have := LR.out; omega).mono (K' := fun b => w.heap.size ≤ b) fun b hb _ => Nat.le_trans F5.out.size hb)
    have FF := Lib.hid (((F5.out.trans (F.out) (fun i e => .inr (by have := LW.out; omega))).trans fE fun i e => .inr (by omega)))
    clear fE
    go_wp2_with (first | (refine wpList_load_row rfl 31 _ rfl w4.heap.size rfl 31 _ (0, 0) _ RBX Tryz.underlying31 rfl (by kernel_rfl) ?_) | (refine wpList_store31g rfl _ _ rfl (w.heap.size + 1) 0 0 d.st d.en (.slice oc acc.length cc) rfl rfl rfl _ XZX rfl ?_))
    try simp only [Exit.inBlock, Exit.then]
    refine bodyPost_ret (results_cell_row rfl _ _ (w.heap.size + 1) 31 _ (0, 0) _ rfl R9 Tryz.underlying31 rfl (by kernel_rfl)) rfl ?_
    exact .inr ⟨HIN.out, _, rfl, by rw [← FEN.out]; exact BE.out, FF.out⟩
 ·rw [decide_eq_false hin] at IN
  have HIN := Lib.hid hin
  refine IN.out.mono ?_
  rintro e w3 ⟨rfl, rfl⟩
  clear hin IN
  go_wp2_with fail
  refine (tells_bad 0 12 (by decide) w3).mono ?_
  rintro e w8 ⟨rfl, hf8⟩
  have X8 := (hf8.block _ (lt_of_heap X1.out) fun h => h).trans X1.out
  have F9 := Lib.hid (frRow (F2.out.tr hf8) (g := w.heap.size + 1) (.inr (by omega)) (repA 12 0 0 0 0 0 0 (.slice none 0 0) (.slice none 0 0) (.slice none 0 0)))
  have R9 := setRow_heap w8 (w.heap.size + 1) _ (repA 12 0 0 0 0 0 0 (.slice none 0 0) (.slice none 0 0) (.slice none 0 0)) 31 (0, 0) X8
  clear hf8
  go_wp2_with (refine wpList_store31 rfl _ _ rfl (w.heap.size + 1) 12 0 rfl rfl _ X8 rfl ?_)
  try simp only [Exit.inBlock, Exit.then]
  refine bodyPost_ret (results_cell_row rfl _ _ (w.heap.size + 1) 31 _ (0, 0) _ rfl R9 Tryz.underlying31 rfl (by kernel_rfl)) rfl ?_
  exact .inl ⟨HIN.out, rfl, F9.out⟩
end
end Go.Proofs.YtfdhofabgdkkkaaGreatDoor
