/- The walk of StateFilter. -/
import Derived.Test.YtfdhofabgdkkkaaGreatDoorQ50
import Derived.Test.YtfdhofabgdkkkaaGreatDoorQ51
namespace Go.Proofs.YtfdhofabgdkkkaaGreatDoor
open Go.RowKit Go.Fm Go.BigFrame Go.Shelf Go.Maps
set_option linter.unusedVariables false
set_option linter.unusedSimpArgs false
set_option maxRecDepth 100000
section
variable {w w' : World} {S : Nat → Prop}
theorem ForR.mono {K K' : Nat → Prop} (hK : ∀ i, K i → K' i) : ∀ {F : Fst} {a : Addr} {i : Nat}, ForR K w F a i → ForR K' w F a i
 | .nil, _, _, _ => trivial
 | .cons op nm vl ks r, a, i, ⟨⟨hk, oa, cap, hp, hml, hks⟩, hr⟩ => ⟨⟨hK _ hk, oa, cap, hp, hml, hks.imp id fun ⟨b, e, h⟩ => ⟨b, e, ForR.mono hK h⟩⟩, ForR.mono hK hr⟩
theorem KidR.mono {K K' : Nat → Prop} (hK : ∀ i, K i → K' i) {v : Value} {ks : Fst} (h : KidR K w v ks) : KidR K' w v ks := by
 obtain ⟨oa, cap, e, hm, h1⟩ := h
 exact ⟨oa, cap, e, hm, h1.imp id fun ⟨b, e, h⟩ => ⟨b, e, ForR.mono hK h⟩⟩
theorem fetchF_length {a c : Int} : ∀ (l : List Bat) (n : Nat) (acc : List Bat), (fetchF a c l n acc).length ≤ acc.length + l.length
 | [], n, acc => Nat.le_refl _
 | x :: l, n, acc => by
  rw [fetchF]
  split
  ·exact Nat.le_trans (fetchF_length l n acc) (by simp)
  ·split
   ·exact Nat.le_add_right _ _
   ·refine Nat.le_trans (fetchF_length l _ _) ?_
    simp only [List.length_append, List.length_cons, List.length_nil]
    omega
def filQ (op : Int) (nm vl : ByteArray) : Req := ⟨0, ⟨#[]⟩, 0, 0, 0, false, zeroB, op, nm, vl, ⟨#[]⟩, 0, 0⟩
set_option maxHeartbeats 64000000 in
theorem filter_walk (l : List Bat) (v : Value) (op : Int) (nm vl : ByteArray) (ks : Fst) (kv : Value) (w : World) (hl : BatsR (fun _ => True) w v l) (hkid : KidR (fun i => i < w.heap.size) w kv ks) (hst : StepsOK w) (hcw : hasCw w) :
  Calls Tryz.prog 6 #[v, exV op nm vl kv] w fun e w' => e = .returned (.bool true) ∧ Fr (fun _ => False) w w' := by
 have hl2 := hl.mono (K' := fun b => b < w.heap.size) fun b _ h => h
 clear hl
 obtain ⟨oa, cap, rfl, -⟩ := id hl2
 obtain ⟨oe, ce, rfl, -⟩ := id hkid
 have fx := (Fr.same w).alloc (.cells #[.int .i64 op, .string nm, .string vl, .slice oe ks.len ce] 38)
 have x0 := heap_alloc_self w (.cells #[.int .i64 op, .string nm, .string vl, .slice oe ks.len ce] 38)
 have BL := Lib.hid (hl2.old fx)
 have KW := Lib.hid hkid
 have CW := Lib.hid hcw
 have ST := Lib.hid hst
 have X0 := Lib.hid x0
 have FX := Lib.hid fx
 have SM := Lib.hid (rsmall_walk (w := w.alloc (.cells #[.int .i64 op, .string nm, .string vl, .slice oe ks.len ce] 38)) (K := fun _ => False) (filQ op nm vl) none 0 0 (.slice oe ks.len ce) none 0 0 ks ⟨none, 0, rfl, fun _ _ h => by simp [filQ, zeroB] at h⟩ (hkid.old fx) fun i hi => Nat.lt_of_lt_of_le hi fx.size)
 unfold reqC filQ zeroB at SM
 dsimp only at SM
 have d0 := fun j => cell_of x0 j
 clear hl2 hst hkid hcw fx x0
 unfold exV
 have LV := fun (w1 : World) (f : Fr (fun _ => False) w w1) => live_walk (ST.out.old f) (by have := f.size; have := CW.out.2; omega)
 have LV := Lib.hid LV
 by_cases h8 : l.length ≤ 8
 ·go_enter Tryz.func6, Tryz.ntmps6
  go_wp2_with fail
  generalize (w.alloc (.cells #[.int .i64 op, .string nm, .string vl, .slice oe ks.len ce] 38)) = w0 at *
  refine SM.out.mono ?_
  rintro e w2 ⟨⟨b, rfl⟩, f2⟩
  have F2 := Lib.hid (FX.out.tr f2)
  have X2 := Lib.hid (blk X0.out f2 fun h => h)
  have BL2 := Lib.hid (BL.out.old f2)
  clear f2 SM X0 FX d0
  cases b with
  | false =>
   go_wp2_with fail
   refine (LV.out _ F2.out).mono ?_
   rintro e w5 ⟨rfl, f5⟩
   have F5 := Lib.hid (F2.out.tr f5)
   clear f5
   go_wp2_with fail
   go_ret
   exact ⟨rfl, F5.out⟩
  | true =>
   go_wp2_with fail
   refine (snew_ok 10 10 (by omega) (by have := F2.out.size; have := CW.out.2; omega)).mono ?_
   rintro e w3 ⟨mb, tb, tmb, pm, cv, rfl, hM1, hg, f1⟩
   have M1 := Lib.hid hM1
   have F1 := Lib.hid f1
   have GE := Lib.hid hg
   have X3 := Lib.hid (blk X2.out f1 fun h => h)
   have C1 := Lib.hid (made (w0 := w2) hM1 hg f1 (ST.out.old F2.out) 1 (by omega))
   unfold plainV tS at C1
   clear hM1 f1 hg
   go_wp2_with fail
   refine C1.out.mono ?_
   rintro e w4 ⟨rfl, m3, hO, hnew, hno⟩
   obtain ⟨d0, hd0, hnp0⟩ := hnew 0 (by omega) (by omega)
   have L4 := Lib.hid (fil_new hO hd0 hnp0)
   clear hO hnew hd0 hnp0 hno C1 M1 GE
   have ST2 := Lib.hid (ST.out.old F2.out)
   go_wp2_with fail
   go_loopw [7] (fun i wr => ∃ (k : Nat) (m : MachD) (d : PartD), i = .int .i64 k ∧ k ≤ l.length ∧ FilSt w2 wr mb m d k) (fun i _ => l.length - (intOf i).toNat)
   case atStart => exact ⟨0, m3, d0, rfl, Nat.zero_le _, L4.out⟩
   case round =>
    obtain ⟨k, m, d, rfl, hk, hF⟩ := hrel
    have FS := Lib.hid hF
    have BW := Lib.hid (BL2.out.old hF.o.n.f)
    clear hF
    rcases Nat.lt_or_ge k l.length with hlt | hge
    ·have lenk := hk
     obtain ⟨x, hx⟩ := get_of_lt hlt
     obtain ⟨oa', cap', a, rvx, hsl, rfl, hab, hat, hrr⟩ := batsR_at BW.out hx
     injection hsl with e1 e2 e3
     subst e1 e3
     clear e2
     obtain ⟨ra, rc, rfl, -⟩ := id hrr
     have HAT := Lib.hid hat
     have HRR := Lib.hid hrr
     have SM := Lib.hid (small_walk _ x _ wr hrr)
     unfold batV at SM
     obtain ⟨c0, c1, c2, c3, c4, c5⟩ := hat
     clear hrr hx lenk
     go_wp2_with fail
     refine SM.out.mono ?_
     rintro e w5 ⟨c, rfl, hcs, f5⟩
     have S5 := Lib.hid (FS.out.old f5)
     have H5 := Lib.hid (HAT.out.to (f5.block _ HAT.out.lt fun h => h))
     have R5 := Lib.hid (HRR.out.old f5)
     clear hcs f5 SM c0 c1 c2 c3 c4 c5
     cases c with
     | false =>
      go_wp2_with fail
      refine (LV.out _ (F2.out.tr S5.out.o.n.f)).mono ?_
      rintro e w6 ⟨rfl, f6⟩
      have F6 := Lib.hid ((F2.out.tr S5.out.o.n.f).tr f6)
      clear f6
      go_wp2_with fail
      go_ret
      exact ⟨rfl, F6.out⟩
     | true =>
      obtain ⟨c0, c1, c2, c3, c4, c5⟩ := H5.out
      have PS := Lib.hid (fil_prod S5.out ST2.out (by omega) x _ (R5.out.mono (K' := fun i => i < w5.heap.size) fun i _ h => h))
      rw [prodV] at PS
      unfold tS at PS
      go_wp2_with fail
      refine PS.out.mono ?_
      rintro e w6 ⟨ee, cc, rfl, m6, d6, hS6, -, -⟩
      have S6 := Lib.hid hS6
      clear hS6 PS c0 c1 c2 c3 c4 c5
      go_wp2_with fail
      go_roundw
      case rel => exact ⟨k + 1, m6, d6, by go_num, by omega, S6.out⟩
      case measure => simp [intOf]; omega
    ·obtain rfl : k = l.length := by omega
     have hA := FS.out.o.n.f
     have X := Lib.hid (blk X2.out hA fun h => h)
     have FP := Lib.hid (fil_plain FS.out ST2.out (by omega))
     unfold plainV tS at FP
     clear hA BW
     go_wp2_with fail
     refine FP.out.mono ?_
     rintro e w5 ⟨bv, rfl, hb5, hS5, f5⟩
     obtain ⟨oa5, c5, rfl, -⟩ := id hb5
     have HZ := heap_alloc_self w5 (.cells #[.int .i64 0, .int .i64 0, .int .i64 0, .int .i64 0, .int .i64 0, .int .i64 0, .int .i64 0, .slice none 0 0, .slice none 0 0, .slice none 0 0] 31)
     obtain ⟨bf, bx⟩ := box31 w5 (repA 0 0 0 d.en 0 0 0 (.slice oa5 (fetchF 0 20000 d.bats 0 []).length c5) (.slice none 0 0) (.slice none 0 0))
     have G6 := Lib.hid bx
     have X := Lib.hid (blk (blk X.out f5 fun h => h) bf fun h => h)
     have S6 := Lib.hid (hS5.old bf)
     have B6 := Lib.hid (hb5.old bf)
     have F6 := Lib.hid bf.size
     have KW2 := Lib.hid (KidR.mono (K' := fun i => i < w2.heap.size) (fun i hi => Nat.lt_of_lt_of_le hi F2.out.size) (KW.out.old F2.out))
     have FG := Lib.hid (fil_fetch S6.out ST2.out (by omega) op nm vl ks oe ce KW2.out (hasCw_fr _ _ CW.out F2.out))
     have dx := fun j => cell_of X.out j
     unfold reqC filR zeroB tS at FG
     dsimp only at FG
     clear bf bx hb5 hS5 f5 FP
     go_wp2_with (refine wpList_store31g rfl _ _ rfl w5.heap.size 0 0 0 d.en (.slice oa5 (fetchF 0 20000 d.bats 0 []).length c5) rfl rfl rfl _ HZ rfl ?_)
     clear HZ
     generalize ((w5.alloc (.cells #[.int .i64 0, .int .i64 0, .int .i64 0, .int .i64 0, .int .i64 0, .int .i64 0, .int .i64 0, .slice none 0 0, .slice none 0 0, .slice none 0 0] 31)).setRow w5.heap.size (repA 0 0 0 d.en 0 0 0 (.slice oa5 (fetchF 0 20000 d.bats 0 []).length c5) (.slice none 0 0) (.slice none 0 0))) = w6 at *
     refine FG.out.mono ?_
     rintro e w7 ⟨hcase, hS7, f7⟩
     rcases hcase with ⟨hck, rfl⟩ | ⟨hck, bv, rfl, hb7⟩
     ·have HZ := heap_alloc_self w7 (.cells #[.int .i64 0, .int .i64 0, .int .i64 0, .int .i64 0, .int .i64 0, .int .i64 0, .int .i64 0, .slice none 0 0, .slice none 0 0, .slice none 0 0] 31)
      obtain ⟨bf, bx⟩ := box31 w7 (repA 1 0 0 0 0 0 0 (.slice none 0 0) (.slice none 0 0) (.slice none 0 0))
      have y0 := (cell_of bx 0).trans (show _ = some (Value.int .i64 1) from rfl)
      have X8 := Lib.hid (blk (blk X.out f7 fun h => h) bf fun h => h)
      have dx8 := fun j => cell_of X8.out j
      have F8 := Lib.hid ((F2.out.tr hS7.o.n.f).tr bf)
      have XC := Lib.hid (xcheck_walk op nm vl (.slice oe ks.len ce) ks (KW.out.old F8.out) fun i hi => Nat.lt_of_lt_of_le hi F8.out.size)
      rw [hck] at XC
      unfold exV at XC
      clear hS7 f7 bf bx FG dx
      go_wp2_with (refine wpList_store31 rfl _ _ rfl w7.heap.size 1 0 rfl rfl _ HZ rfl ?_)
      clear HZ
      generalize ((w7.alloc (.cells #[.int .i64 0, .int .i64 0, .int .i64 0, .int .i64 0, .int .i64 0, .int .i64 0, .int .i64 0, .slice none 0 0, .slice none 0 0, .slice none 0 0] 31)).setRow w7.heap.size (repA 1 0 0 0 0 0 0 (.slice none 0 0) (.slice none 0 0) (.slice none 0 0))) = w8 at *
      refine XC.out.mono ?_
      rintro e w9 ⟨rfl, f9⟩
      have F9 := Lib.hid (F8.out.tr f9)
      clear f9 XC y0 dx8
      go_wp2_with fail
      refine (LV.out _ F9.out).mono ?_
      rintro e w10 ⟨rfl, f10⟩
      have F10 := Lib.hid (F9.out.tr f10)
      clear f10
      go_wp2_with fail
      go_ret
      exact ⟨rfl, F10.out⟩
     ·obtain ⟨oa7, c7, rfl, -⟩ := id hb7
      have HZ := heap_alloc_self w7 (.cells #[.int .i64 0, .int .i64 0, .int .i64 0, .int .i64 0, .int .i64 0, .int .i64 0, .int .i64 0, .slice none 0 0, .slice none 0 0, .slice none 0 0] 31)
      have hlen : ((fetchF 0 20000 d.bats 0 []).map (pickB (letB hasWF op nm vl ks))).length = (fetchF 0 20000 d.bats 0 []).length := List.length_map ..
      rw [hlen] at *
      obtain ⟨bf, bx⟩ := box31 w7 (repA 0 0 0 d.en 0 0 0 (.slice oa7 (fetchF 0 20000 d.bats 0 []).length c7) (.slice none 0 0) (.slice none 0 0))
      have G8 := Lib.hid bx
      have GA := Lib.hid (blk (blk G6.out f7 fun h => h) bf fun h => h)
      have X8 := Lib.hid (blk (blk X.out f7 fun h => h) bf fun h => h)
      have y0 := (cell_of G8.out 0).trans (show _ = some (Value.int .i64 0) from rfl)
      have y7 := (cell_of G8.out 7).trans (show _ = some (Value.slice oa7 (fetchF 0 20000 d.bats 0 []).length c7) from rfl)
      have a0 := (cell_of GA.out 0).trans (show _ = some (Value.int .i64 0) from rfl)
      have a7 := (cell_of GA.out 7).trans (show _ = some (Value.slice oa5 (fetchF 0 20000 d.bats 0 []).length c5) from rfl)
      have F8 := Lib.hid ((F2.out.tr hS7.o.n.f).tr bf)
      have BA := Lib.hid ((B6.out.old f7).old bf)
      have BB := Lib.hid (hb7.old bf)
      have HCK := Lib.hid hck
      clear hb7 hS7 f7 bf bx FG dx hlen hck
      go_wp2_with (refine wpList_store31g rfl _ _ rfl w7.heap.size 0 0 0 d.en (.slice oa7 (fetchF 0 20000 d.bats 0 []).length c7) rfl rfl rfl _ HZ rfl ?_)
      clear HZ
      generalize ((w7.alloc (.cells #[.int .i64 0, .int .i64 0, .int .i64 0, .int .i64 0, .int .i64 0, .int .i64 0, .int .i64 0, .slice none 0 0, .slice none 0 0, .slice none 0 0] 31)).setRow w7.heap.size (repA 0 0 0 d.en 0 0 0 (.slice oa7 (fetchF 0 20000 d.bats 0 []).length c7) (.slice none 0 0) (.slice none 0 0))) = w8 at *
      clear y0 y7 a0 a7
      go_loopw [10] (fun i wr => ∃ k : Nat, i = .int .i64 k ∧ k ≤ (fetchF 0 20000 d.bats 0 []).length ∧ Fr (fun _ => False) w8 wr) (fun i _ => (fetchF 0 20000 d.bats 0 []).length - (intOf i).toNat)
      case atStart => exact ⟨0, rfl, Nat.zero_le _, Fr.same _⟩
      case round =>
       obtain ⟨j, rfl, hj, hf⟩ := hrel
       have FL := Lib.hid hf
       have LB := Lib.hid (show (fetchF 0 20000 d.bats 0 []).length ≤ 100000 from by have h1 := fetchF_length (a := 0) (c := 20000) d.bats 0 []; have h2 := FS.out.len; have h3 : l.length ≤ 8 := h8; simp only [List.length_nil, Nat.zero_add] at h1; omega)
       have a7 := hf.cel ((cell_of GA.out 7).trans (show _ = some (Value.slice oa5 (fetchF 0 20000 d.bats 0 []).length c5) from rfl))
       clear hf
       rcases Nat.lt_or_ge j (fetchF 0 20000 d.bats 0 []).length with hlt | hge
       ·obtain ⟨x, hx⟩ := get_of_lt hlt
        have hBA := BA.out.old FL.out
        have hBB := BB.out.old FL.out
        obtain ⟨oa', cap', a, rvx, hsl, rfl, hab, hat, hrr⟩ := batsR_at hBA hx
        injection hsl with e1 e2 e3
        subst e1 e3
        clear e2
        obtain ⟨ra, rc, rfl, -⟩ := id hrr
        obtain ⟨ob', capb', a', rvy, hsl', rfl, hab', hat', hrr'⟩ := batsR_at hBB (k := j) (b := pickB (letB hasWF op nm vl ks) x) (by rw [List.getElem?_map, hx]; rfl)
        injection hsl' with e1 e2 e3
        subst e1 e3
        clear e2
        obtain ⟨ra', rc', rfl, -⟩ := id hrr'
        have OK := Lib.hid (FS.out.ok x ((fetchF_mem _ _ _ _ (List.mem_of_getElem? hx)).elim (fun h => by cases h) id))
        have HAT := Lib.hid hat
        have HRR := Lib.hid hrr
        have HAT' := Lib.hid hat'
        have HRR' := Lib.hid hrr'
        have XL := Lib.hid (blk X8.out FL.out fun h => h)
        clear hBA hBB hab hab' hat hat' hrr hrr' hx
        go_wp2_with fail
        have z1 : ∀ y : Lcl.InS (fun w' => Fr (fun _ => False) wr w'), y.w.cell? ⟨w5.heap.size, 7, none⟩ = some (.slice (some a) (fetchF 0 20000 d.bats 0 []).length c5) := fun y => y.h.cel a7
        have x0 : ∀ y : Lcl.InS (fun w' => Fr (fun _ => False) wr w'), y.w.cell? ⟨w.heap.size, 0, none⟩ = some (.int .i64 op) := fun y => y.h.cel ((cell_of XL.out 0).trans rfl)
        have x1 : ∀ y : Lcl.InS (fun w' => Fr (fun _ => False) wr w'), y.w.cell? ⟨w.heap.size, 1, none⟩ = some (.string nm) := fun y => y.h.cel ((cell_of XL.out 1).trans rfl)
        have x2 : ∀ y : Lcl.InS (fun w' => Fr (fun _ => False) wr w'), y.w.cell? ⟨w.heap.size, 2, none⟩ = some (.string vl) := fun y => y.h.cel ((cell_of XL.out 2).trans rfl)
        have x3 : ∀ y : Lcl.InS (fun w' => Fr (fun _ => False) wr w'), y.w.cell? ⟨w.heap.size, 3, none⟩ = some (.slice oe ks.len ce) := fun y => y.h.cel ((cell_of XL.out 3).trans rfl)
        have u5 := fun (y : Lcl.InS (fun w' => Fr (fun _ => False) wr w')) => y.h.cel HAT.out.c5
        refine Lcl.wp_region_calm (by kernel_rfl) [(true, [1, 3]), (false, [0, 2]), (true, [4, 5]), (false, [6])] #[0, 0, 2, 0, 14, 30, 62, 127, 255, 511, 511, 1023, 4095] [0, 1, 2, 3, 4, 5, 6] 6 #[true, true, true, true, true, true, true, false, false, false, false, false, false] (by kernel_rfl) (by kernel_rfl) (by kernel_rfl) (fun w' => Fr (fun _ => False) wr w') (Fr.same wr).drew (fun d c a v w h => by cases d <;> exact h) ?_
        simp only [Lcl.opsOf, List.map_cons, List.map_nil, List.getElem?_toArray, List.getElem?_cons_succ, List.getElem?_cons_zero, Option.getD_some]
        refine Lcl.wpCalm_t ?_
        repeat (go_big_quiet_step (rfl))
        refine wpQuiet_nil ?_
        refine Lcl.wpCalm_f ?_
        repeat (go_big_quiet_step (rfl))
        refine wpQuiet_nil ?_
        refine Lcl.wpCalm_t ?_
        repeat (go_big_quiet_step (rfl))
        refine wpQuiet_nil ?_
        refine Lcl.wpCalm_f ?_
        repeat (go_big_quiet_step (rfl))
        refine wpQuiet_nil ?_
        refine Lcl.wpCalm_nil ?_
        clear z1 x0 x1 x2 x3 u5
        have D := Lib.hid ((Fr.same wr).drew)
        have FD := (F8.out.tr FL.out).tr D.out
        have PK := Lib.hid (pick_any _ (fun i => i < w.heap.size) op nm vl ks oe ce x.recs _ (HRR.out.old D.out) (by have := OK.out.len; omega) (fun r hr => by obtain ⟨i, hi⟩ := List.mem_iff_getElem?.1 hr; exact (OK.out.recs i r hi).ok) (KW.out.old FD) (fun i hi => Nat.lt_of_lt_of_le hi FD.size) HCK.out (hasCw_fr _ _ CW.out FD))
        clear FD
        refine Lcl.wpG_one 7 rfl (by kernel_rfl) ?_
        go_wp2_with fail
        refine PK.out.mono ?_
        rintro e w9 ⟨rv9, rfl, hr9, f9⟩
        obtain ⟨ys, hys⟩ : ∃ ys, ys = x.recs.filter (letB hasWF op nm vl ks) := ⟨_, rfl⟩
        rw [← hys] at hr9
        obtain ⟨ra9, rc9, rfl, -⟩ := id hr9
        have hp : pickB (letB hasWF op nm vl ks) x = { x with recs := ys } := by unfold pickB; rw [← hys]
        rw [hp] at HAT' HRR'
        dsimp only at HAT' HRR'
        have YL := Lib.hid (show ys.length ≤ 100 ∧ ∀ r ∈ ys, r.hs.length ≤ 100 from ⟨by have := List.length_filter_le (letB hasWF op nm vl ks) x.recs; rw [← hys] at this; have := OK.out.len; omega, fun r hr => by rw [hys] at hr; obtain ⟨i, hi⟩ := List.mem_iff_getElem?.1 (List.mem_filter.1 hr).1; have := (OK.out.recs i r hi).ok.hs; omega⟩)
        have R9 := Lib.hid hr9
        have D9 := Lib.hid (D.out.tr f9)
        clear hys hp hr9 f9 PK
        go_wp2_with fail
        refine ⟨fun _ _ => D9.out, ?_⟩
        refine Lcl.wpG_calm (m := #[0, 0, 2, 0, 14, 30, 62, 127, 255, 511, 511, 1023, 4095]) (needs := [0, 1, 2, 3, 4, 5, 6]) (fuel := 0) (by kernel_rfl) ?hqA (D9.out) [(true, [8, 9, 10, 11, 12])] _ _ ?k1A ?k2A ?k3A ?k4A
        case hqA => exact fun d c a v w h => by cases d <;> exact h
        case k1A => kernel_rfl
        case k2A => rfl
        case k3A => kernel_rfl
        simp only [Lcl.opsOf, List.map_cons, List.map_nil, List.getElem?_toArray, List.getElem?_cons_succ, List.getElem?_cons_zero, Option.getD_some]
        refine Lcl.wpCalm_t ?_
        repeat (go_big_quiet_step (rfl))
        refine wpQuiet_nil ?_
        refine Lcl.wpCalm_nil ?_
        refine Lcl.wpG_run [] _ _ _ (by kernel_rfl) ?_
        simp only [List.map_cons, List.map_nil, List.getElem?_toArray, List.getElem?_cons_succ, List.getElem?_cons_zero, Option.getD_some]
        have a79 := D9.out.cel a7
        have H9 := HAT.out.to (D9.out.block _ HAT.out.lt fun h => h)
        obtain ⟨c0, c1, c2, c3, c4, c5⟩ := H9
        have XB := Lib.hid (heap_alloc_self w9 (.cells #[.int .i64 x.base, .int .i64 x.span, .int .i64 x.prod, .int .i64 x.epoch, .int .i64 x.seq, .slice ra9 ys.length rc9] 35))
        have fB := (Fr.same w9).alloc (.cells #[.int .i64 x.base, .int .i64 x.span, .int .i64 x.prod, .int .i64 x.epoch, .int .i64 x.seq, .slice ra9 ys.length rc9] 35)
        have RB9 := Lib.hid (R9.out.old fB)
        have FB := Lib.hid (D9.out.tr fB)
        have RB9' := Lib.hid (HRR'.out.old FB.out)
        have HB9 := Lib.hid (HAT'.out.to (FB.out.block _ HAT'.out.lt fun h => h))
        have b7 := FB.out.cel (FL.out.cel ((cell_of G8.out 7).trans (show _ = some (Value.slice (some a') (fetchF 0 20000 d.bats 0 []).length c7) from rfl)))
        clear fB
        go_wp2_with fail
        generalize (w9.alloc (.cells #[.int .i64 x.base, .int .i64 x.span, .int .i64 x.prod, .int .i64 x.epoch, .int .i64 x.seq, .slice ra9 ys.length rc9] 35)) = wB at *
        have z2 : ∀ y : Lcl.InS (fun w' => Fr (fun _ => False) wB w'), y.w.cell? ⟨w7.heap.size, 7, none⟩ = some (.slice (some a') (fetchF 0 20000 d.bats 0 []).length c7) := fun y => y.h.cel b7
        have t0 : ∀ y : Lcl.InS (fun w' => Fr (fun _ => False) wB w'), y.w.cell? ⟨w9.heap.size, 0, none⟩ = some (.int .i64 x.base) := fun y => y.h.cel ((cell_of XB.out 0).trans rfl)
        have t1 : ∀ y : Lcl.InS (fun w' => Fr (fun _ => False) wB w'), y.w.cell? ⟨w9.heap.size, 1, none⟩ = some (.int .i64 x.span) := fun y => y.h.cel ((cell_of XB.out 1).trans rfl)
        have t2 : ∀ y : Lcl.InS (fun w' => Fr (fun _ => False) wB w'), y.w.cell? ⟨w9.heap.size, 2, none⟩ = some (.int .i64 x.prod) := fun y => y.h.cel ((cell_of XB.out 2).trans rfl)
        have t3 : ∀ y : Lcl.InS (fun w' => Fr (fun _ => False) wB w'), y.w.cell? ⟨w9.heap.size, 3, none⟩ = some (.int .i64 x.epoch) := fun y => y.h.cel ((cell_of XB.out 3).trans rfl)
        have t4 : ∀ y : Lcl.InS (fun w' => Fr (fun _ => False) wB w'), y.w.cell? ⟨w9.heap.size, 4, none⟩ = some (.int .i64 x.seq) := fun y => y.h.cel ((cell_of XB.out 4).trans rfl)
        have t5 : ∀ y : Lcl.InS (fun w' => Fr (fun _ => False) wB w'), y.w.cell? ⟨w9.heap.size, 5, none⟩ = some (.slice ra9 ys.length rc9) := fun y => y.h.cel ((cell_of XB.out 5).trans rfl)
        have u0 := fun (y : Lcl.InS (fun w' => Fr (fun _ => False) wB w')) => y.h.cel HB9.out.c0
        have u1 := fun (y : Lcl.InS (fun w' => Fr (fun _ => False) wB w')) => y.h.cel HB9.out.c1
        have u2 := fun (y : Lcl.InS (fun w' => Fr (fun _ => False) wB w')) => y.h.cel HB9.out.c2
        have u3 := fun (y : Lcl.InS (fun w' => Fr (fun _ => False) wB w')) => y.h.cel HB9.out.c3
        have u4 := fun (y : Lcl.InS (fun w' => Fr (fun _ => False) wB w')) => y.h.cel HB9.out.c4
        have u5 := fun (y : Lcl.InS (fun w' => Fr (fun _ => False) wB w')) => y.h.cel HB9.out.c5
        dsimp only at u0 u1 u2 u3 u4 u5
        refine Lcl.wp_region_calm (by kernel_rfl) [(true, [0, 1, 2, 4, 6]), (false, [3, 5]), (true, [7]), (false, [8])] #[0, 1, 3, 7, 7, 23, 7, 119, 247, 511, 1023, 2047] [0, 1, 2, 3, 4, 5, 6, 7, 8] 3 #[true, true, true, true, true, true, true, true, true, false, false, false] (by kernel_rfl) (by kernel_rfl) (by kernel_rfl) (fun w' => Fr (fun _ => False) wB w') (Fr.same wB).drew (fun d c a v w h => by cases d <;> exact h) ?_
        simp only [Lcl.opsOf, List.map_cons, List.map_nil, List.getElem?_toArray, List.getElem?_cons_succ, List.getElem?_cons_zero, Option.getD_some]
        refine Lcl.wpCalm_t ?_
        repeat (go_big_quiet_step (rfl))
        refine wpQuiet_nil ?_
        refine Lcl.wpCalm_f ?_
        repeat (go_big_quiet_step (rfl))
        refine wpQuiet_nil ?_
        refine Lcl.wpCalm_t ?_
        repeat (go_big_quiet_step (rfl))
        refine wpQuiet_nil ?_
        refine Lcl.wpCalm_f ?_
        repeat (go_big_quiet_step (rfl))
        refine wpQuiet_nil ?_
        refine Lcl.wpCalm_nil ?_
        clear z2 t0 t1 t2 t3 t4 t5 u0 u1 u2 u3 u4 u5
        have DB := Lib.hid (Fr.same wB).drew
        have SMW := Lib.hid (same_bat _ _ { x with recs := ys } _ _ wB.drew (RB9.out.old DB.out) (RB9'.out.old DB.out) YL.out.1 YL.out.2)
        unfold batV at SMW
        dsimp only at SMW
        have FE := Lib.hid (FL.out.tr (FB.out.tr DB.out))
        refine Lcl.wpG_one 9 rfl (by kernel_rfl) ?_
        go_wp2_with fail
        refine SMW.out.mono ?_
        rintro e wd ⟨rfl, fd⟩
        have FG := Lib.hid (FE.out.tr fd)
        have DD := Lib.hid (DB.out.tr fd)
        clear fd SMW
        go_wp2_with fail
        refine ⟨fun _ _ => DD.out, ?_⟩
        refine Lcl.wpG_run [10, 11] _ _ _ (by kernel_rfl) ?_
        simp only [List.map_cons, List.map_nil, List.getElem?_toArray, List.getElem?_cons_succ, List.getElem?_cons_zero, Option.getD_some]
        have hlb := LB.out
        have hjn : (j : Int) < 100000 := by omega
        go_wp2_with fail
        go_roundw
        case rel => exact ⟨j + 1, by go_num, by omega, FG.out⟩
        case measure => simp [intOf]; omega
       ·obtain rfl : j = (fetchF 0 20000 d.bats 0 []).length := by omega
        go_wp2_with fail
        refine (LV.out _ (F8.out.tr FL.out)).mono ?_
        rintro e w10 ⟨rfl, f10⟩
        have F10 := Lib.hid ((F8.out.tr FL.out).tr f10)
        clear f10
        go_wp2_with fail
        go_ret
        exact ⟨rfl, F10.out⟩
 ·go_enter Tryz.func6, Tryz.ntmps6
  go_wp2_with fail
  refine (LV.out _ FX.out).mono ?_
  rintro e w5 ⟨rfl, f5⟩
  have F5 := Lib.hid (FX.out.tr f5)
  clear f5
  go_wp2_with fail
  go_ret
  exact ⟨rfl, F5.out⟩
end
end Go.Proofs.YtfdhofabgdkkkaaGreatDoor
