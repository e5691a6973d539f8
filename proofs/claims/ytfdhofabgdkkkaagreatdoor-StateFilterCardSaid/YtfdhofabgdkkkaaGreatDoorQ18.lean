/- What producers have sent: the walk of Note. -/
import Derived.Test.YtfdhofabgdkkkaaGreatDoorQ17
namespace Go.Proofs.YtfdhofabgdkkkaaGreatDoor
open Go.RowKit Go.Fm Go.BigFrame Go.Shelf Go.Maps
set_option linter.unusedVariables false
set_option linter.unusedSimpArgs false
set_option maxRecDepth 100000
section
variable {w w' : World} {pb mb : Nat} {S : Nat → Prop}
theorem prodS_cons {L : List (Int × Hrd)} {k : Int} {x : Hrd} {i : Nat} (h : prodS pb mb ((k, x) :: L.filter fun r => r.1 ≠ k) i) : prodS pb mb L i ∨ i = x.hb := by
 rcases h with h | h | ⟨y, hy, e⟩
 ·exact .inl (.inl h)
 ·exact .inl (.inr (.inl h))
 ·rcases List.mem_cons.1 hy with rfl | hy
  ·exact .inr e
  ·exact .inl (.inr (.inr ⟨y, (List.mem_filter.1 hy).1, e⟩))
theorem prodS_set {L : List (Int × Hrd)} {k : Int} {x : Hrd} {i : Nat} (h : prodS pb mb (setH L k x) i) : prodS pb mb L i ∨ i = x.hb := by
 rcases h with h | h | ⟨y, hy, e⟩
 ·exact .inl (.inl h)
 ·exact .inl (.inr (.inl h))
 ·unfold setH at hy
  obtain ⟨z, hz, rfl⟩ := List.mem_map.1 hy
  by_cases e2 : z.1 = k
  ·rw [if_pos e2] at e; exact .inr e
  ·rw [if_neg e2] at e; exact .inl (.inr (.inr ⟨z, hz, e⟩))
/-- The last step: the producer at hand has one more. -/
theorem note_end {L : List (Int × Hrd)} {k : Int} {x : Hrd} {n : Nat} {F : ProdF} {s : Sent} {e : Ending} (h : ProdA w pb mb L) (hR : ∀ y ∈ L, RingOK y.2.r y.2.f) (hS : ∀ i, prodS pb mb L i → S i) (hF : ∀ k, F k = (findH L k).map absH) (hn : L.length ≤ n)
  (hk : findH L k = some x) (hp : AddPost w x.hb x.ep (winL x.r x.f x.c) s e w') : e = .returned (.tuple #[]) ∧ ProdW w' pb S n (updP F k (x.ep, pushW (winL x.r x.f x.c) s)) ∧ Fr S w w' := by
 obtain ⟨rfl, ⟨r', f', c', hh, hr, hw⟩, hf⟩ := hp
 have hm := findH_mem hk
 refine ⟨rfl, ⟨mb, _, h.turn hk hf hh, ?_, ?_, ?_, ?_⟩, hf.mono fun i e => .inl (hS i (.inr (.inr ⟨_, hm, e⟩)))⟩
 ·intro y hy
  unfold setH at hy
  obtain ⟨z, hz, rfl⟩ := List.mem_map.1 hy
  by_cases e2 : z.1 = k
  ·rw [if_pos e2]; exact hr
  ·rw [if_neg e2]; exact hR z hz
 ·intro i hi
  rcases prodS_set hi with h1 | h1
  ·exact hS i h1
  ·exact hS i (.inr (.inr ⟨_, hm, h1⟩))
 ·intro i
  unfold updP
  rw [findH_set hk]
  by_cases e2 : i = k
  ·rw [if_pos e2, if_pos e2, ← hw]; rfl
  ·rw [if_neg e2, if_neg e2]; exact hF i
 ·unfold setH; rw [List.length_map]; exact hn
set_option maxHeartbeats 32000000 in
theorem inote_walk {n : Nat} {F : ProdF} (h : ProdW w pb S n F) (hn : n < 100000) (b : Bat) (oa : Option Addr) (m cap : Nat) : Calls Tryz.prog 78 #[.pointer (some ⟨pb, 0, none⟩), batV b (.slice oa m cap)] w (NotePost w pb S n (noteP F b)) := by
 obtain ⟨mb, L, hA, hR, hS, hF, hL⟩ := h
 have H := Lib.hid hA
 have HR := Lib.hid hR
 have HS := Lib.hid hS
 have HF := Lib.hid hF
 clear hA hR hS hF
 have fa := (Fr.same w).alloc (.cells #[.int .i64 b.base, .int .i64 b.span, .int .i64 b.prod, .int .i64 b.epoch, .int .i64 b.seq, .slice oa m cap] 35)
 have xa := heap_alloc_self w (.cells #[.int .i64 b.base, .int .i64 b.span, .int .i64 b.prod, .int .i64 b.epoch, .int .i64 b.seq, .slice oa m cap] 35)
 have FA := Lib.hid fa
 have XA := Lib.hid xa
 have HM := Lib.hid (imay_walk b oa m cap (w.alloc (.cells #[.int .i64 b.base, .int .i64 b.span, .int .i64 b.prod, .int .i64 b.epoch, .int .i64 b.seq, .slice oa m cap] 35)))
 unfold batV at HM ⊢
 clear fa xa
 by_cases hmay : IMay b
 ·have MAY := Lib.hid hmay
  clear hmay
  go_enter Tryz.func78, Tryz.ntmps78
  go_wp2_with fail
  generalize (w.alloc (.cells #[.int .i64 b.base, .int .i64 b.span, .int .i64 b.prod, .int .i64 b.epoch, .int .i64 b.seq, .slice oa m cap] 35)) = W at *
  refine HM.out.mono ?_
  rintro e w2 ⟨c, rfl, hc, hf2⟩
  obtain rfl : c = true := hc.2 MAY.out
  have F2 := Lib.hid (FA.out.tr hf2)
  have X2 := Lib.hid ((hf2.block _ (lt_of_heap XA.out) fun h => h).trans XA.out)
  have c2 : w2.cell? ⟨w.heap.size, 2, none⟩ = some (.int .i64 b.prod) := (cell_of X2.out 2).trans rfl
  have HOF := Lib.hid (iof_walk (H.out.old F2.out) b.prod (by have h9 : 0 ≤ b.prod ∧ b.prod ≤ 1073741824 := MAY.out.1; simp [Lit.wf, IntKind.min, IntKind.max, IntKind.signed, IntKind.bits]; omega))
  clear hf2 HM hc
  go_wp2_with fail
  refine HOF.out.mono ?_
  rintro e w3 hp
  have HB : ∃ hb ep r f c, e = .returned (.pointer (some ⟨hb, 0, none⟩)) ∧ HearA w3 hb ep r f c ∧ Fr (fun _ => False) w2 w3 ∧ ((∃ x, findH L b.prod = some x ∧ x = ⟨hb, ep, r, f, c⟩) ∨ (findH L b.prod = none ∧ ep = -1)) := by
   rcases hp with ⟨x, hx, rfl, hf⟩ | ⟨hn, hb, -, rfl, hh, hf⟩
   ·exact ⟨x.hb, x.ep, x.r, x.f, x.c, rfl, (H.out.el _ (findH_mem hx)).1.old (F2.out.tr hf), hf, .inl ⟨x, hx, rfl⟩⟩
   ·exact ⟨hb, -1, zeros15, 0, 0, rfl, hh, hf, .inr ⟨hn, rfl⟩⟩
  obtain ⟨hb, ep, r, f, c, rfl, hh, hf3, hcase⟩ := HB
  have CASE := Lib.hid hcase
  have F3 := Lib.hid (F2.out.tr hf3)
  have X3 := Lib.hid ((hf3.block _ (lt_of_heap X2.out) fun h => h).trans X2.out)
  have HH := Lib.hid hh
  clear hp hh hf3 HOF c2 hcase X2 F2
  have z0 : ∀ y : Lcl.InS (fun w' => Fr (fun _ => False) w3 w'), y.w.cell? ⟨w.heap.size, 3, none⟩ = some (.int .i64 b.epoch) := fun y => y.h.cel ((cell_of X3.out 3).trans rfl)
  have z1 : ∀ y : Lcl.InS (fun w' => Fr (fun _ => False) w3 w'), y.w.cell? ⟨hb, 0, none⟩ = some (.int .i64 ep) := fun y => y.h.cel HH.out.epoch
  go_wp2_with fail
  refine Lcl.wp_region_calm (by kernel_rfl) [(true, [0, 2, 3, 4]), (false, [1, 5]), (true, [6])] #[0, 1, 0, 4, 12, 28, 63] [0, 1, 2, 3, 4, 5] 0 #[true, true, true, true, true, true, true] (by kernel_rfl) (by kernel_rfl) (by kernel_rfl) (fun w' => Fr (fun _ => False) w3 w') (Fr.same w3).drew (fun d c a v w h => by cases d <;> exact h) ?_
  simp only [Lcl.opsOf, List.map_cons, List.map_nil, List.getElem?_toArray, List.getElem?_cons_succ, List.getElem?_cons_zero, Option.getD_some]
  refine Lcl.wpCalm_t ?_
  repeat (go_big_quiet_step (rfl))
  refine wpQuiet_nil ?_
  refine Lcl.wpCalm_f ?_
  repeat (go_big_quiet_step (rfl))
  refine wpQuiet_nil ?_
  refine Lcl.wpCalm_t ?_
  repeat (go_big_quiet_step (rfl))
  refine wpQuiet_nil ?_
  refine Lcl.wpCalm_nil ?_
  refine Lcl.wpG_run [] _ _ _ (by kernel_rfl) ?_
  simp only [List.map_cons, List.map_nil, List.getElem?_toArray, List.getElem?_cons_succ, List.getElem?_cons_zero, Option.getD_some]
  clear z0 z1
  have F4 := Lib.hid F3.out.drew
  have H4 := Lib.hid (HH.out.old (Fr.same w3).drew)
  have X4 := Lib.hid (((Fr.same w3).drew.block _ (lt_of_heap X3.out) fun h => h).trans X3.out)
  clear X3 HH F3
  generalize w3.drew = w4 at *
  by_cases he : b.epoch < ep
  ·have HN : noteP F b = F := by
    unfold noteP
    rw [if_pos MAY.out, HF.out]
    rcases CASE.out with ⟨x, hx, rfl⟩ | ⟨hx, e⟩
    ·rw [hx]; simp only [Option.map, absH]; rw [if_pos he]
    ·exfalso; have := MAY.out.2.1.1; omega
   have HN := Lib.hid HN
   go_wp2_with fail
   go_end0
   rw [HN.out]
   exact ⟨rfl, ⟨mb, L, H.out.old F4.out, HR.out, fun i hi => .inl (HS.out i hi), HF.out, by omega⟩, F4.out.mono fun _ h => h.elim⟩
  ·have HE := Lib.hid he
   have z0 : ∀ y : Lcl.InS (fun w' => Fr (fun _ => False) w4 w'), y.w.cell? ⟨w.heap.size, 3, none⟩ = some (.int .i64 b.epoch) := fun y => y.h.cel ((cell_of X4.out 3).trans rfl)
   have z1 : ∀ y : Lcl.InS (fun w' => Fr (fun _ => False) w4 w'), y.w.cell? ⟨hb, 0, none⟩ = some (.int .i64 ep) := fun y => y.h.cel H4.out.epoch
   go_wp2_with fail
   refine Lcl.wp_region_calm (by kernel_rfl) [(true, [0, 2, 3, 4]), (false, [1, 5]), (true, [6])] #[0, 1, 0, 4, 12, 28, 63] [0, 1, 2, 3, 4, 5] 0 #[true, true, true, true, true, true, true] (by kernel_rfl) (by kernel_rfl) (by kernel_rfl) (fun w' => Fr (fun _ => False) w4 w') (Fr.same w4).drew (fun d c a v w h => by cases d <;> exact h) ?_
   simp only [Lcl.opsOf, List.map_cons, List.map_nil, List.getElem?_toArray, List.getElem?_cons_succ, List.getElem?_cons_zero, Option.getD_some]
   refine Lcl.wpCalm_t ?_
   repeat (go_big_quiet_step (rfl))
   refine wpQuiet_nil ?_
   refine Lcl.wpCalm_f ?_
   repeat (go_big_quiet_step (rfl))
   refine wpQuiet_nil ?_
   refine Lcl.wpCalm_t ?_
   repeat (go_big_quiet_step (rfl))
   refine wpQuiet_nil ?_
   refine Lcl.wpCalm_nil ?_
   refine Lcl.wpG_run [] _ _ _ (by kernel_rfl) ?_
   simp only [List.map_cons, List.map_nil, List.getElem?_toArray, List.getElem?_cons_succ, List.getElem?_cons_zero, Option.getD_some]
   clear z0 z1
   have F5 := Lib.hid F4.out.drew
   have H5 := Lib.hid (H4.out.old (Fr.same w4).drew)
   have X5 := Lib.hid (((Fr.same w4).drew.block _ (lt_of_heap X4.out) fun h => h).trans X4.out)
   clear X4 H4 F4
   generalize w4.drew = w5 at *
   have d1 : w5.cell? ⟨w.heap.size, 4, none⟩ = some (.int .i64 b.seq) := (cell_of X5.out 4).trans rfl
   have d2 : w5.cell? ⟨w.heap.size, 0, none⟩ = some (.int .i64 b.base) := (cell_of X5.out 0).trans rfl
   have d3 : w5.cell? ⟨w.heap.size, 1, none⟩ = some (.int .i64 b.span) := (cell_of X5.out 1).trans rfl
   have d4 : w5.cell? ⟨w.heap.size, 3, none⟩ = some (.int .i64 b.epoch) := (cell_of X5.out 3).trans rfl
   by_cases hq : ep < b.epoch
   ·have hfn := (Fr.same w5).alloc (.cells #[.int .i64 b.epoch, .int .i64 0, .int .i64 0, .int .i64 0, .int .i64 0, .int .i64 0, .int .i64 0, .int .i64 0, .int .i64 0, .int .i64 0, .int .i64 0, .int .i64 0, .int .i64 0, .int .i64 0, .int .i64 0, .int .i64 0, .int .i64 0, .int .i64 0] 255)
    have hxn := heap_alloc_self w5 (.cells #[.int .i64 b.epoch, .int .i64 0, .int .i64 0, .int .i64 0, .int .i64 0, .int .i64 0, .int .i64 0, .int .i64 0, .int .i64 0, .int .i64 0, .int .i64 0, .int .i64 0, .int .i64 0, .int .i64 0, .int .i64 0, .int .i64 0, .int .i64 0, .int .i64 0] 255)
    have FN := Lib.hid hfn
    have HNW := Lib.hid (show HearA _ w5.heap.size b.epoch zeros15 0 0 from ⟨hxn, rfl, by omega, by omega⟩)
    clear hfn hxn
    go_wp2_with fail
    generalize (w5.alloc (.cells #[.int .i64 b.epoch, .int .i64 0, .int .i64 0, .int .i64 0, .int .i64 0, .int .i64 0, .int .i64 0, .int .i64 0, .int .i64 0, .int .i64 0, .int .i64 0, .int .i64 0, .int .i64 0, .int .i64 0, .int .i64 0, .int .i64 0, .int .i64 0, .int .i64 0] 255)) = w6 at *
    clear d1 d2 d3 d4
    have F6 := Lib.hid (F5.out.tr FN.out)
    have X6 := Lib.hid ((FN.out.block _ (lt_of_heap X5.out) fun h => h).trans X5.out)
    have HP6 := Lib.hid (H.out.old F6.out)
    have hs5 : w.heap.size < w5.heap.size := lt_of_heap X5.out
    have S5 := Lib.hid hs5
    have z0 : ∀ y : Lcl.InS (fun w' => Fr (fun _ => False) w6 w'), y.w.cell? ⟨pb, 0, none⟩ = some (.map (some mb)) := fun y => y.h.cel ((cell_of HP6.out.b 0).trans rfl)
    have z1 : ∀ y : Lcl.InS (fun w' => Fr (fun _ => False) w6 w'), y.w.cell? ⟨w.heap.size, 2, none⟩ = some (.int .i64 b.prod) := fun y => y.h.cel ((cell_of X6.out 2).trans rfl)
    clear hs5
    refine Lcl.wp_region_calm (by kernel_rfl) [(true, [0, 1, 2, 4, 6]), (false, [3, 5])] #[0, 1, 3, 7, 0, 16, 0, 127] [0, 1, 2, 3, 4, 5, 6] 1 #[true, true, true, true, true, true, true, false] (by kernel_rfl) (by kernel_rfl) (by kernel_rfl) (fun w' => Fr (fun _ => False) w6 w') (Fr.same w6).drew (fun d c a v w h => by cases d <;> exact h) ?_
    simp only [Lcl.opsOf, List.map_cons, List.map_nil, List.getElem?_toArray, List.getElem?_cons_succ, List.getElem?_cons_zero, Option.getD_some]
    refine Lcl.wpCalm_t ?_
    repeat (go_big_quiet_step (rfl))
    refine wpQuiet_nil ?_
    refine Lcl.wpCalm_f ?_
    repeat (go_big_quiet_step (rfl))
    refine wpQuiet_nil ?_
    refine Lcl.wpCalm_nil ?_
    refine Lcl.wpG_run [7] _ _ _ (by kernel_rfl) ?_
    simp only [List.map_cons, List.map_nil, List.getElem?_toArray, List.getElem?_cons_succ, List.getElem?_cons_zero, Option.getD_some]
    clear z0 z1
    have F7 := Lib.hid F6.out.drew
    have H7 := Lib.hid (HP6.out.old (Fr.same w6).drew)
    have N7 := Lib.hid (HNW.out.old (Fr.same w6).drew)
    have X7 := Lib.hid (((Fr.same w6).drew.block _ (lt_of_heap X6.out) fun h => h).trans X6.out)
    clear X6 HP6 F6 HNW FN
    generalize w6.drew = w7 at *
    refine wpList_putG intLaw _ rfl 238 249 Tryz.underlying238 (.tmp 37) (.tmp 39) (.tmp 40) rfl mb (hrows L) rfl H7.out.m (by unfold hrows; rw [List.length_map]; omega) b.prod rfl (by have h9 : 0 ≤ b.prod ∧ b.prod ≤ 1073741824 := MAY.out.1; simp [intK, Lit.wf, IntKind.min, IntKind.max, IntKind.signed, IntKind.bits]; omega) (hptr ⟨w5.heap.size, b.epoch, zeros15, 0, 0⟩) rfl ?_
    intro w8 hm8 hg8
    have hf8 : Fr (fun i => i = mb) w7 w8 := Fr.grown (Fr.refl _ _) hg8 fun x e => .inl (Option.some.inj e).symm
    have hmb : mb < w.heap.size := H.out.m.lt
    have hpb : pb < w.heap.size := lt_of_heap H.out.b
    have X8 := (hf8.block _ (lt_of_heap X7.out) (by omega)).trans X7.out
    have A8 := Lib.hid (H7.out.anew (x := ⟨w5.heap.size, b.epoch, zeros15, 0, 0⟩) hm8 hf8 (N7.out.fr hf8 (by have := S5.out; omega)) (show w5.heap.size ≠ pb by have := S5.out; omega) (show w5.heap.size ≠ mb by have := S5.out; omega) (fun y hy => show y.2.hb ≠ w5.heap.size by have h1 := lt_of_heap (H.out.el y hy).1.b; have := S5.out; omega))
    have N8 := Lib.hid (N7.out.fr hf8 (by have := S5.out; omega))
    have F8S := Lib.hid ((F7.out.mono (S' := S) fun _ h => h.elim).trans hf8 fun i e => .inl (HS.out i (.inr (.inl e))))
    have d1 : w8.cell? ⟨w.heap.size, 4, none⟩ = some (.int .i64 b.seq) := (cell_of X8 4).trans rfl
    have d2 : w8.cell? ⟨w.heap.size, 0, none⟩ = some (.int .i64 b.base) := (cell_of X8 0).trans rfl
    have d3 : w8.cell? ⟨w.heap.size, 1, none⟩ = some (.int .i64 b.span) := (cell_of X8 1).trans rfl
    have HAD := Lib.hid (hadd_walk N8.out ring_zero b.seq b.base b.span MAY.out.2.2.1 ⟨by have := MAY.out.2.2.2.1.1; omega, MAY.out.2.2.2.1.2⟩)
    clear hm8 hg8 hf8 hmb hpb X8 X7 N7 H7 F7
    have HN := Lib.hid (show noteP F b = updP F b.prod (b.epoch, pushW (winL zeros15 0 0) (b.seq, b.base, b.span)) by
     unfold noteP
     rw [if_pos MAY.out, HF.out]
     rcases CASE.out with ⟨x, hx, rfl⟩ | ⟨hx, e⟩
     ·rw [hx]; simp only [Option.map, absH]; rw [if_neg (by omega), if_neg (by omega)]; rfl
     ·rw [hx]; rfl)
    go_wp2_with fail
    refine HAD.out.mono ?_
    rintro e w9 hp
    have hps := fun i (hi : prodS pb mb ((b.prod, (⟨w5.heap.size, b.epoch, zeros15, 0, 0⟩ : Hrd)) :: L.filter fun r => r.1 ≠ b.prod) i) => (prodS_cons hi)
    have o1 : ∀ y ∈ ((b.prod, (⟨w5.heap.size, b.epoch, zeros15, 0, 0⟩ : Hrd)) :: L.filter fun r => r.1 ≠ b.prod), RingOK y.2.r y.2.f := by
     intro y hy
     rcases List.mem_cons.1 hy with rfl | hy
     ·exact ring_zero
     ·exact HR.out y (List.mem_filter.1 hy).1
    have o2 : ∀ i, prodS pb mb ((b.prod, (⟨w5.heap.size, b.epoch, zeros15, 0, 0⟩ : Hrd)) :: L.filter fun r => r.1 ≠ b.prod) i → S i ∨ w.heap.size ≤ i := by
     intro i hi
     rcases hps i hi with h | h
     ·exact .inl (HS.out i h)
     ·exact .inr (by have := S5.out; have h : i = w5.heap.size := h; omega)
    have o3 : ∀ k, updP F b.prod (b.epoch, []) k = (findH ((b.prod, (⟨w5.heap.size, b.epoch, zeros15, 0, 0⟩ : Hrd)) :: L.filter fun r => r.1 ≠ b.prod) k).map absH := by
     intro k
     rw [findH_cons]
     unfold updP
     by_cases e : k = b.prod
     ·rw [if_pos e, if_pos e]; rfl
     ·rw [if_neg e, if_neg e]; exact HF.out k
    have o4 : ((b.prod, (⟨w5.heap.size, b.epoch, zeros15, 0, 0⟩ : Hrd)) :: L.filter fun r => r.1 ≠ b.prod).length ≤ n + 1 := by
     rw [List.length_cons]
     have := List.length_filter_le (fun r : Int × Hrd => decide (r.1 ≠ b.prod)) L
     omega
    obtain ⟨rfl, hpw, hf9⟩ := note_end A8.out o1 o2 o3 o4 (show findH _ b.prod = some ⟨w5.heap.size, b.epoch, zeros15, 0, 0⟩ by rw [findH_cons, if_pos rfl]) hp
    have PW := Lib.hid hpw
    have F9 := Lib.hid hf9
    clear hp hpw hf9 HAD d1 d2 d3 hps o1 o2 o3 o4
    go_wp2_with fail
    go_end0
    rw [HN.out]
    have he2 : updP (updP F b.prod (b.epoch, [])) b.prod (b.epoch, pushW (winL zeros15 0 0) (b.seq, b.base, b.span)) = updP F b.prod (b.epoch, pushW (winL zeros15 0 0) (b.seq, b.base, b.span)) := by
     funext k; unfold updP; split <;> rfl
    have P9 := PW.out
    rw [he2] at P9
    refine ⟨rfl, P9, F8S.out.trans F9.out fun i h => ?_⟩
    rcases h with h | h
    ·exact .inl h
    ·exact .inr h
   ·obtain rfl : b.epoch = ep := by have := HE.out; omega
    have HX : ∃ x, findH L b.prod = some x ∧ x = ⟨hb, b.epoch, r, f, c⟩ := by
     rcases CASE.out with h | ⟨-, h⟩
     ·exact h
     ·exfalso; have := MAY.out.2.1.1; omega
    obtain ⟨x, hx, hxe⟩ := HX
    subst hxe
    have HX := Lib.hid hx
    have HAD := Lib.hid (hadd_walk H5.out (HR.out _ (findH_mem hx)) b.seq b.base b.span MAY.out.2.2.1 ⟨by have := MAY.out.2.2.2.1.1; omega, MAY.out.2.2.2.1.2⟩)
    have HN := Lib.hid (show noteP F b = updP F b.prod (b.epoch, pushW (winL r f c) (b.seq, b.base, b.span)) by
     unfold noteP
     rw [if_pos MAY.out, HF.out, hx]
     simp only [Option.map, absH]
     rw [if_neg (by omega)]; simp)
    clear hx CASE
    go_wp2_with fail
    refine HAD.out.mono ?_
    rintro e w7 hp
    obtain ⟨rfl, hpw, hf7⟩ := note_end (H.out.old F5.out) HR.out HS.out HF.out hL HX.out hp
    have PW := Lib.hid hpw
    have F7 := Lib.hid hf7
    clear hp hpw hf7 HAD d1 d2 d3 d4
    go_wp2_with fail
    go_end0
    rw [HN.out]
    exact ⟨rfl, prodW_more PW.out (fun i hi => .inl hi) (by omega), (F5.out.mono (S' := S) fun _ h => h.elim).trans F7.out fun _ h => .inl h⟩
 ·have MAY := Lib.hid hmay
  clear hmay
  go_enter Tryz.func78, Tryz.ntmps78
  go_wp2_with fail
  generalize (w.alloc (.cells #[.int .i64 b.base, .int .i64 b.span, .int .i64 b.prod, .int .i64 b.epoch, .int .i64 b.seq, .slice oa m cap] 35)) = W at *
  refine HM.out.mono ?_
  rintro e w2 ⟨c, rfl, hc, hf2⟩
  obtain rfl : c = false := by
   cases c with
   | false => rfl
   | true => exact absurd (hc.1 rfl) MAY.out
  have F2 := Lib.hid (FA.out.tr hf2)
  clear hf2 HM hc
  go_wp2_with fail
  go_end0
  have HN : noteP F b = F := by unfold noteP; rw [if_neg MAY.out]
  rw [HN]
  exact ⟨rfl, ⟨mb, L, H.out.old F2.out, HR.out, fun i hi => .inl (HS.out i hi), HF.out, by omega⟩, F2.out.mono fun _ h => h.elim⟩
end
end Go.Proofs.YtfdhofabgdkkkaaGreatDoor
