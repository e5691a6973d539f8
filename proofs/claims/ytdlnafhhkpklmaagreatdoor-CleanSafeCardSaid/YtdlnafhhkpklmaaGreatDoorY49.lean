/- One step of cleaning: laws, the walk. -/
import Derived.Test.YtdlnafhhkpklmaaGreatDoorY48
namespace Go.Proofs.YtdlnafhhkpklmaaGreatDoor
open Go.RowKit Go.Fm Go.BigFrame Go.Shelf Go.Maps
set_option linter.unusedVariables false
set_option linter.unusedSimpArgs false
set_option maxRecDepth 100000
section
variable {B : Nat} {w w' w1 w2 W wr : World} {lb db mb cb lim : Nat} {p : ByteArray} {ev : Nat} {beg : Int} {es : List PE} {own : Bool} {L L' L0 : List Row} {S S' S0 : Nat → Prop} {room used fuse : Int} {F F' : ByteArray → ByteArray × Nat} {n j : Nat} {ss : List Seg} {lf : List (List Bat)} {s : Seg} {l : List Bat}
/-- A segment behind its step. -/
def updS (s : Seg) (l : List Bat) : Seg := if 0 < l.length ∧ cntL l < cntL s.l then ⟨s.base, 20, l⟩ else s
def updZ (ss : List Seg) (lf : List (List Bat)) (j : Nat) : List Seg := List.zipWith updS (ss.take j) (lf.take j)
/-- The segments behind some steps. -/
def updN (ss : List Seg) (lf : List (List Bat)) (j : Nat) : List Seg := updZ ss lf j ++ ss.drop j
theorem updZ_len (h1 : j ≤ ss.length) (h2 : j ≤ lf.length) : (updZ ss lf j).length = j := by
 unfold updZ
 rw [List.length_zipWith, List.length_take, List.length_take]
 omega
theorem updN_split (hs : ss[j]? = some s) (hl : lf[j]? = some l) : updN ss lf j = updZ ss lf j ++ s :: ss.drop (j + 1) ∧ updN ss lf (j + 1) = updZ ss lf j ++ updS s l :: ss.drop (j + 1) ∧ (updZ ss lf j).length = j := by
 obtain ⟨h1, e1⟩ := List.getElem?_eq_some_iff.1 hs
 obtain ⟨h2, e2⟩ := List.getElem?_eq_some_iff.1 hl
 refine ⟨?_, ?_, updZ_len (by omega) (by omega)⟩
 ·unfold updN
  rw [List.drop_eq_getElem_cons h1, e1]
 ·unfold updN
  have h3 : updZ ss lf (j + 1) = updZ ss lf j ++ [updS s l] := by
   unfold updZ
   rw [take_snoc' hs, take_snoc' hl, List.zipWith_append (by rw [List.length_take, List.length_take]; omega)]
   rfl
  rw [h3, List.append_assoc]
  rfl
theorem segs_split {Z C : List Seg} (h : segsOf es = Z ++ s :: C) : ∃ e0 x e1, es = e0 ++ x :: e1 ∧ segsOf e0 = Z ∧ x.s = s ∧ segsOf e1 = C := by
 unfold segsOf at h ⊢
 obtain ⟨e0, e1, rfl, h1, h2⟩ := List.map_eq_append_iff.1 h
 obtain ⟨x, e2, rfl, h3, h4⟩ := List.map_eq_cons_iff.1 h2
 exact ⟨e0, x, e2, rfl, h1, h3, h4⟩
/-- A log that is being cleaned. -/
structure CSt (B : Nat) (W wr : World) (lb db mb cb lim : Nat) (ss : List Seg) (lf : List (List Bat)) (S0 : Nat → Prop) (L0 : List Row) (j : Nat) (es : List PE) (L : List Row) (S : Nat → Prop) (used fuse : Int) (F : ByteArray → ByteArray × Nat) (n : Nat) (v : Value) : Prop where
 d : LogD B wr lb db mb pS lim 20 0 es true L S 400000 used fuse F n
 x : wr.heap[cb]? = some (clObj lb 0 j v)
 r : BatssR (fun b => cb < b ∧ b < W.heap.size) wr v lf
 ap : ∀ i, S i ∨ DkS db mb L i → i < cb ∨ W.heap.size ≤ i
 cw : cb < W.heap.size
 c1 : 1 ≤ cb
 sg : segsOf es = updN ss lf j
 ls : LastSafe pS (segsOf es) L F
 us : used ≤ 130000
 n1 : n < 600
 jl : j ≤ lf.length
 fr : Fr (fun i => i = cb ∨ S0 i ∨ DkS db mb L0 i) W wr
 so : ∀ i, S i ∨ DkS db mb L i → S0 i ∨ DkS db mb L0 i ∨ W.heap.size ≤ i
theorem CSt.old {v : Value} (h : CSt B W wr lb db mb cb lim ss lf S0 L0 j es L S used fuse F n v) (hf : Fr (fun _ => False) wr w') : CSt B W w' lb db mb cb lim ss lf S0 L0 j es L S used fuse F n v :=
 ⟨h.d.old hf, (hf.block cb (lt_of_heap h.x) fun h => h).trans h.x, h.r.old hf, h.ap, h.cw, h.c1, h.sg, h.ls, h.us, h.n1, h.jl, h.fr.trans hf fun i h => h.elim, h.so⟩
/-- What is left of segments that may be swapped in. -/
def LeftOK (ss : List Seg) (lf : List (List Bat)) : Prop := ∀ (q : Nat) (s : Seg) (l : List Bat), ss[q]? = some s → lf[q]? = some l → l ≠ [] → Chn s.base l ∧ endOf s.base l ≤ s.end' ∧ (∀ b ∈ l, BatOK b) ∧ sumB l ≤ sumB s.l ∧ l.length ≤ s.l.length
def StepPost (B : Nat) (W wr : World) (lb db mb cb lim : Nat) (ss : List Seg) (lf : List (List Bat)) (S0 : Nat → Prop) (L0 : List Row) (j : Nat) (es : List PE) (L : List Row) (S : Nat → Prop) (used fuse : Int) (F : ByteArray → ByteArray × Nat) (n : Nat) (v : Value) (e : Ending) (w' : World) : Prop :=
 (j = lf.length ∧ e = .returned (.tuple #[.bool false, .int .i64 0]) ∧ CSt B W w' lb db mb cb lim ss lf S0 L0 j es L S used fuse F n v) ∨
 (j < lf.length ∧ e = .returned (.tuple #[.bool true, .int .i64 0]) ∧ ∃ es' L' S' used' fuse' F', CSt B W w' lb db mb cb lim ss lf S0 L0 (j + 1) es' L' S' used' fuse' F' n v ∧ (fuse = -1 → fuse' = -1)) ∨
 (j < lf.length ∧ fuse ≠ -1 ∧ ∃ c : Int, c ≠ 0 ∧ e = .returned (.tuple #[.bool false, .int .i64 c]) ∧ ∃ q L' used' fuse' F', q ≤ lf.length ∧ DiskLg B w' db mb pS 0 (updN ss lf q) L' 400000 used' fuse' F' (n + 1) ∧ LastSafe pS (updN ss lf q) L' F' ∧ Fr (fun i => i = cb ∨ S0 i ∨ DkS db mb L0 i) W w' ∧ ∀ i, DkS db mb L' i → DkS db mb L0 i ∨ S0 i ∨ W.heap.size ≤ i)
theorem file_used (D : LogD B w lb db mb p lim ev beg es own L S room used fuse F n) {x : PE} (hx : x ∈ es) (hne : x.s.l ≠ []) : (sumB x.s.l : Int) ≤ used := by
 have hm : x.s ∈ segsOf es := List.mem_map.2 ⟨x, hx, rfl⟩
 have h1 := D.fl.has hm hne
 obtain ⟨fb, hg⟩ := Option.isSome_iff_exists.1 h1
 have h2 := D.fl.file x.s hm
 rw [curF_some hg] at h2
 have h3 := usd_mem (F := F) (getL_some hg)
 have h4 := D.us
 dsimp only at h3
 rw [h2, catB_size] at h3
 omega
theorem listsOf_get {es : List PE} {k : Nat} {l : List Bat} (h : (listsOf es)[k]? = some l) : ∃ x, es[k]? = some x ∧ x.s.l = l := by
 unfold listsOf at h
 rw [List.getElem?_map, Option.map_eq_some_iff] at h
 exact h
set_option maxHeartbeats 32000000 in
theorem cstep_walk {v : Value} (C0 : CSt B W wr lb db mb cb lim ss lf S0 L0 j es L S used fuse F n v) (hst : StepsOK wr) (hss : lf = [] ∨ ss.length = lf.length + 1) (hl8 : lf.length ≤ 8) (hne : ∀ s ∈ ss, s.l ≠ []) (hs8 : ∀ s ∈ ss, s.l.length ≤ 8 ∧ ∀ b ∈ s.l, BatOK b) (hok : LeftOK ss lf) :
  Calls Tryz.prog 32 #[.pointer (some ⟨cb, 0, none⟩)] wr (StepPost B W wr lb db mb cb lim ss lf S0 L0 j es L S used fuse F n v) := by
 have C := Lib.hid C0
 have HST := Lib.hid hst
 have HNE := Lib.hid hne
 have HS8 := Lib.hid hs8
 have HOK := Lib.hid hok
 have HSS := Lib.hid hss
 obtain ⟨vo, vcap, hv, -, -⟩ := C0.r
 subst hv
 have z0 : ∀ y : Lcl.InS (fun w' => Fr (fun _ => False) wr w'), y.w.cell? ⟨cb, 0, none⟩ = some (.pointer (some ⟨lb, 0, none⟩)) := fun y => y.h.cel ((cell_of C0.x 0).trans rfl)
 have z1 : ∀ y : Lcl.InS (fun w' => Fr (fun _ => False) wr w'), y.w.cell? ⟨cb, 1, none⟩ = some (.int .i64 0) := fun y => y.h.cel ((cell_of C0.x 1).trans rfl)
 have hjl := C0.jl
 clear C0 hst hne hs8 hok hss
 go_enter Tryz.func32, Tryz.ntmps32
 go_wp2_with fail
 refine Lcl.wp_region_calm (by kernel_rfl) [(true, [0, 1, 2, 3, 4, 5, 8, 9, 10]), (false, [6, 11])] #[0, 1, 3, 7, 15, 31, 63, 127, 7, 263, 775, 1799, 4095, 8191, 16383] [0, 1, 2, 3, 4, 5, 6, 7, 8, 9, 10, 11] 4 #[true, true, true, true, true, true, true, false, true, true, true, true, false, false, false] (by kernel_rfl) (by kernel_rfl) (by kernel_rfl) (fun w' => Fr (fun _ => False) wr w') (Fr.same wr).drew (fun d c a v w h => by cases d <;> exact h) ?_
 simp only [Lcl.opsOf, List.map_cons, List.map_nil, List.getElem?_toArray, List.getElem?_cons_succ, List.getElem?_cons_zero, Option.getD_some]
 refine Lcl.wpCalm_t ?_
 repeat (go_big_quiet_step (rfl))
 refine wpQuiet_nil ?_
 refine Lcl.wpCalm_f ?_
 repeat (go_big_quiet_step (rfl))
 refine wpQuiet_nil ?_
 refine Lcl.wpCalm_nil ?_
 clear z0 z1
 refine Lcl.wpG_one 7 rfl (by kernel_rfl) ?_
 go_wp2_with fail
 refine (lstart_walk (C.out.d.lg.old (Fr.same wr).drew)).mono ?_
 rintro e w2 ⟨rfl, hf2⟩
 have F2 := Lib.hid ((Fr.same wr).drew.tr hf2)
 clear hf2
 go_wp2_with fail
 refine ⟨fun _ _ => F2.out, ?_⟩
 refine Lcl.wpG_run [12, 13, 14] _ _ _ (by kernel_rfl) ?_
 simp only [List.map_cons, List.map_nil, List.getElem?_toArray, List.getElem?_cons_succ, List.getElem?_cons_zero, Option.getD_some]
 have C2 := Lib.hid (C.out.old F2.out)
 have z2 : ∀ y : Lcl.InS (fun w' => Fr (fun _ => False) w2 w'), y.w.cell? ⟨cb, 2, none⟩ = some (.int .i64 j) := fun y => y.h.cel ((cell_of C2.out.x 2).trans rfl)
 have z3 : ∀ y : Lcl.InS (fun w' => Fr (fun _ => False) w2 w'), y.w.cell? ⟨cb, 3, none⟩ = some (.slice vo lf.length vcap) := fun y => y.h.cel ((cell_of C2.out.x 3).trans rfl)
 rcases Nat.lt_or_ge j lf.length with hlt | hge
 ·go_wp2_with fail
  refine Lcl.wp_region_calm (by kernel_rfl) [(true, [0, 1, 2, 4, 5, 6]), (false, [3, 7]), (true, [8, 9, 10])] #[0, 1, 3, 7, 0, 16, 48, 112, 240, 511, 1023] [0, 1, 2, 3, 4, 5, 6, 7, 8] 0 #[true, true, true, true, true, true, true, true, true, true, true] (by kernel_rfl) (by kernel_rfl) (by kernel_rfl) (fun w' => Fr (fun _ => False) w2 w') (Fr.same w2).drew (fun d c a v w h => by cases d <;> exact h) ?_
  simp only [Lcl.opsOf, List.map_cons, List.map_nil, List.getElem?_toArray, List.getElem?_cons_succ, List.getElem?_cons_zero, Option.getD_some]
  refine Lcl.wpCalm_t ?_
  repeat (go_big_quiet_step (rfl))
  refine wpQuiet_nil ?_
  refine Lcl.wpCalm_f ?_
  repeat (go_big_quiet_step (rfl))
  refine wpQuiet_nil ?_
  refine Lcl.wpCalm_t ?_
  repeat (go_big_quiet_step (rfl))
  refine wpQuiet_nil ?_
  refine Lcl.wpCalm_nil ?_
  clear z2 z3
  refine Lcl.wpG_run [] _ _ _ (by kernel_rfl) ?_
  simp only [List.map_cons, List.map_nil, List.getElem?_toArray, List.getElem?_cons_succ, List.getElem?_cons_zero, Option.getD_some]
  have C3 := Lib.hid (C2.out.old (Fr.same w2).drew)
  have fz := fz_of C3.out.x 2
  have c0 : w2.drew.cell? ⟨cb, 0, none⟩ = some (.pointer (some ⟨lb, 0, none⟩)) := (cell_of C3.out.x 0).trans rfl
  have c2 : w2.drew.cell? ⟨cb, 2, none⟩ = some (.int .i64 j) := (cell_of C3.out.x 2).trans rfl
  have hcS : ∀ i, S i ∨ DkS db mb L i → ¬ i = cb := fun i hi e => by have := C3.out.ap i hi; have := C3.out.cw; omega
  have fs4 : Fr (fun i => i = cb) w2.drew ((w2.setCell ⟨cb, 2, none⟩ (.int .i64 ((j : Int) + 1))).drew) := show Fr (fun i => i = cb) w2.drew (w2.drew.setCell ⟨cb, 2, none⟩ (.int .i64 ((j : Int) + 1))) from Fr.setCell (S := fun i => i = cb) (p := ⟨cb, 2, none⟩) (Fr.refl _ _) (.inl rfl) _
  have hx4 : ((w2.setCell ⟨cb, 2, none⟩ (.int .i64 ((j : Int) + 1))).drew).heap[cb]? = some (clObj lb 0 (j + 1) (.slice vo lf.length vcap)) := by show (w2.setCell ⟨cb, 2, none⟩ (.int .i64 ((j : Int) + 1))).heap[cb]? = _; rw [heap_setCell_self C2.out.x]; rfl
  have X4 := Lib.hid hx4
  have D4 := Lib.hid (C3.out.d.fr fs4 hcS)
  have R4 := Lib.hid (C3.out.r.fr fs4 fun i (hi : cb < i ∧ i < W.heap.size) (e : i = cb) => by omega)
  have F4 := Lib.hid (show Fr (fun i => i = cb ∨ S0 i ∨ DkS db mb L0 i) W ((w2.setCell ⟨cb, 2, none⟩ (.int .i64 ((j : Int) + 1))).drew) from C3.out.fr.trans fs4 fun i hi => .inl (.inl hi))
  have F4r := Lib.hid (show Fr (fun i => i = cb) wr ((w2.setCell ⟨cb, 2, none⟩ (.int .i64 ((j : Int) + 1))).drew) from ((F2.out.tr (Fr.same w2).drew).mono (S' := fun i => i = cb) fun i h => h.elim).trans fs4 fun i h => .inl h)
  have k0 := (cell_of hx4 0).trans rfl
  have HSEG := Lib.hid (lseg_all D4.out.lg j)
  have HCS := Lib.hid hcS
  clear fs4 hx4 hcS
  go_wp2_with fail
  generalize ((w2.setCell ⟨cb, 2, none⟩ (.int .i64 ((j : Int) + 1))).drew) = W4 at *
  have hsl : ss.length = lf.length + 1 := by
   rcases HSS.out with h | h
   ·rw [h] at hlt; cases hlt
   ·exact h
  obtain ⟨s, hs⟩ := get_of_lt (show j < ss.length by omega)
  obtain ⟨l, hl⟩ := get_of_lt hlt
  obtain ⟨u1, u2, u3⟩ := updN_split hs hl
  have hsg := C.out.sg
  rw [u1] at hsg
  obtain ⟨e0, x, e1, hes, hse0, hxs, hse1⟩ := segs_split hsg
  have he0 : e0.length = j := by
   have := congrArg List.length hse0
   unfold segsOf at this
   rw [List.length_map] at this
   omega
  have he1 : e1 ≠ [] := fun h => by
   rw [h] at hse1
   have h9 := congrArg List.length hse1
   rw [List.length_drop] at h9
   have h10 : (segsOf []).length = 0 := rfl
   omega
  have hxj : es[j]? = some x := by rw [hes, ← he0]; simp
  have hsne := HNE.out s (List.mem_of_getElem? hs)
  have hs8 := HS8.out s (List.mem_of_getElem? hs)
  have HU := Lib.hid (And.intro u1 (And.intro u2 (And.intro hes (And.intro hse0 (And.intro hxs (And.intro hse1 (And.intro he0 (And.intro he1 (And.intro hsne (And.intro hs8 (And.intro hs hl)))))))))))
  refine HSEG.out.mono ?_
  rintro e w5 hp
  have hp2 : ∃ oa cap, e = .returned (.tuple #[.slice oa s.l.length cap, .bool true]) ∧ BatsR (fun b => W4.heap.size ≤ b) w5 (.slice oa s.l.length cap) s.l ∧ Fr (fun _ => False) W4 w5 := by
   rcases hp with ⟨l0, hl0, oa, cap, he, hb, hf⟩ | ⟨hle, -, -⟩
   ·obtain ⟨x', hx', e'⟩ := listsOf_get hl0
    rw [hxj] at hx'
    injection hx' with hx'
    subst hx'
    rw [hxs] at e'
    subst e'
    exact ⟨oa, cap, he, hb, hf⟩
   ·exfalso
    have := (List.getElem?_eq_some_iff.1 hxj).1
    omega
  obtain ⟨oa, cap, rfl, hbs, hf5⟩ := hp2
  have X5 := Lib.hid ((hf5.block cb (lt_of_heap X4.out) fun h => h).trans X4.out)
  have D5 := Lib.hid (D4.out.old hf5)
  have R5 := Lib.hid (R4.out.old hf5)
  have F5 := Lib.hid (F4.out.trans hf5 fun i h => h.elim)
  have BS5 := Lib.hid hbs
  have F5r := Lib.hid (F4r.out.trans hf5 fun i h => h.elim)
  have h0 : w5.cell? ⟨cb, 0, none⟩ = some (.pointer (some ⟨lb, 0, none⟩)) := (cell_of X5.out 0).trans rfl
  have h3 : w5.cell? ⟨cb, 3, none⟩ = some (.slice vo lf.length vcap) := (cell_of X5.out 3).trans rfl
  obtain ⟨vo2, vcap2, e2, -, hel⟩ := R5.out
  injection e2 with e2 _ e4
  subst e2 e4
  obtain ⟨a, bv, rfl, -, hcell, hbl⟩ := hel j l hl
  have hbb := hbl
  obtain ⟨la, lcap, rfl, -⟩ := hbb
  have BL5 := Lib.hid hbl
  have FIN := Lib.hid (fun (w6 : World) (h6 : Fr (fun _ => False) w5 w6) (hu : updS s l = s) => show StepPost B W wr lb db mb cb lim ss lf S0 L0 j es L S used fuse F n (.slice (some a) lf.length vcap) (.returned (.tuple #[.bool true, .int .i64 0])) w6 from .inr (.inl ⟨hlt, rfl, es, L, S, used, fuse, F, ⟨D5.out.old h6, (h6.block cb (lt_of_heap X5.out) fun h => h).trans X5.out, R5.out.old h6, C.out.ap, C.out.cw, C.out.c1, by rw [HU.out.2.1, hu, ← HU.out.1]; exact C.out.sg, C.out.ls, C.out.us, C.out.n1, hlt, F5.out.trans h6 fun i h => h.elim, C.out.so⟩, id⟩))
  clear hp hbs hf5 hel hbl HSEG hs hl u1 u2 u3 hsg hse0 hse1 hxj c0 c2 fz k0
  by_cases hl0 : 0 < l.length
  ·have hlo := HOK.out j s l HU.out.2.2.2.2.2.2.2.2.2.2.1 HU.out.2.2.2.2.2.2.2.2.2.2.2 (fun e => by rw [e] at hl0; cases hl0)
   have HLO := Lib.hid hlo
   have hl50 : ∀ b ∈ l, b.recs.length ≤ 50 := fun b hb => (hlo.2.2.1 b hb).len
   have hs50 : ∀ b ∈ s.l, b.recs.length ≤ 50 := fun b hb => (hs8.2 b hb).len
   have hll := hlo.2.2.2.2
   have hs88 := hs8.1
   have HC1 := Lib.hid (count_walk _ l _ _ BL5.out hl50 (by omega))
   have S50 := Lib.hid hs50
   have HL0 := Lib.hid hl0
   clear hlo hl50 hs50 hs8 hsne
   go_wp2_with fail
   refine HC1.out.mono ?_
   rintro e w6 ⟨rfl, hf6⟩
   have F6 := Lib.hid hf6
   have HC2 := Lib.hid (count_walk _ s.l _ _ (BS5.out.old hf6) S50.out (by omega))
   have BL6 := Lib.hid (BL5.out.old hf6)
   clear hf6 HC1
   go_wp2_with fail
   refine HC2.out.mono ?_
   rintro e w7 ⟨rfl, hf7⟩
   have F7 := Lib.hid (F6.out.tr hf7)
   have BL7 := Lib.hid (BL6.out.old hf7)
   clear hf7 HC2
   by_cases hcn : cntL l < cntL s.l
   ·have D7 := D5.out.old F7.out
    rw [HU.out.2.2.1] at D7
    have hxl : x.s.l ≠ [] := by rw [HU.out.2.2.2.2.1]; exact HU.out.2.2.2.2.2.2.2.2.1
    have hfu := file_used D7 (x := x) (by simp) hxl
    rw [HU.out.2.2.2.2.1] at hfu
    have h4 := HLO.out.2.2.2.1
    have hus := C.out.us
    have hn6 := C.out.n1
    have HSW := Lib.hid (lswap_walk D7 (HST.out.fr (F5r.out.trans F7.out fun i h => h.elim) fun h => by have := C.out.c1; have h9 : 0 = cb := h; omega) HU.out.2.2.2.2.2.2.2.1 l _ _ BL7.out (fun e => by rw [e] at hl0; cases hl0) (by rw [HU.out.2.2.2.2.1]; exact HLO.out.1) (by rw [HU.out.2.2.2.2.1]; exact HLO.out.2.1) (by omega) (by omega) (by omega) hxl (by rw [HU.out.2.2.2.2.1]; exact hll))
    rw [he0] at HSW
    have X7 := Lib.hid ((F7.out.block cb (lt_of_heap X5.out) fun h => h).trans X5.out)
    have h07 : w7.cell? ⟨cb, 0, none⟩ = some (.pointer (some ⟨lb, 0, none⟩)) := (cell_of X7.out 0).trans rfl
    have R7 := Lib.hid (R5.out.old F7.out)
    have F7f := Lib.hid (F5.out.trans F7.out fun i h => h.elim)
    have hcn2 : cntL l < cntL s.l := hcn
    have hu : updS s l = ⟨s.base, 20, l⟩ := by unfold updS; rw [if_pos ⟨hl0, hcn⟩]
    have HUU := Lib.hid hu
    clear hu D7 hxl hfu h4 hus hn6 hes
    go_wp2_with fail
    refine HSW.out.mono ?_
    rintro e w8 ⟨c, rfl, hfr8, hok8, hno8⟩
    have hW7 : W.heap.size ≤ w7.heap.size := F7f.out.size
    have hf8 : Fr (fun i => i = cb ∨ S0 i ∨ DkS db mb L0 i) W w8 := F7f.out.trans hfr8 fun i hi => by
     rcases C.out.so i hi with h | h | h
     ·exact .inl (.inr (.inl h))
     ·exact .inl (.inr (.inr h))
     ·exact .inr h
    by_cases hc : c = 0
    ·subst hc
     obtain ⟨sb', S1, L', S', us', fu', F', hD8, hfu8, hub8, hls8, hfo8⟩ := hok8 rfl
     have hx8 := (hfr8.block cb (lt_of_heap X7.out) fun h => HCS.out cb h rfl).trans X7.out
     have hr8 := R7.out.fr hfr8 fun i (hi : cb < i ∧ i < W.heap.size) h => by have := C.out.ap i h; omega
     have hap8 : ∀ i, S' i ∨ DkS db mb L' i → i < cb ∨ W.heap.size ≤ i := fun i hi => by
      rcases hi with hi | hi
      ·rcases hfo8.1 i hi with h | h
       ·exact C.out.ap i (.inl h)
       ·exact .inr (by omega)
      ·rcases hfo8.2 i hi with h | h
       ·exact C.out.ap i (.inr h)
       ·exact .inr (by omega)
     have hso8 : ∀ i, S' i ∨ DkS db mb L' i → S0 i ∨ DkS db mb L0 i ∨ W.heap.size ≤ i := fun i hi => by
      rcases hi with hi | hi
      ·rcases hfo8.1 i hi with h | h
       ·exact C.out.so i (.inl h)
       ·exact .inr (.inr (by omega))
      ·rcases hfo8.2 i hi with h | h
       ·exact C.out.so i (.inr h)
       ·exact .inr (.inr (by omega))
     have hsg8 : segsOf (e0 ++ ⟨sb', ⟨x.s.base, 20, l⟩, S1⟩ :: e1) = updN ss lf (j + 1) := by
      rw [segs_mid, HU.out.2.2.2.1, HU.out.2.2.2.2.2.1, HU.out.2.1, HUU.out, HU.out.2.2.2.2.1]
     have hls : LastSafe pS (segsOf (e0 ++ x :: e1)) L F := by
      have h := C.out.ls
      rwa [HU.out.2.2.1] at h
     have HPOST := Lib.hid (show StepPost B W wr lb db mb cb lim ss lf S0 L0 j es L S used fuse F n (.slice (some a) lf.length vcap) (.returned (.tuple #[.bool true, .int .i64 0])) w8 from .inr (.inl ⟨hlt, rfl, _, L', S', us', fu', F', ⟨hD8, hx8, hr8, hap8, C.out.cw, C.out.c1, hsg8, hls8 hls, by have h1 := C.out.us; have h2 := HLO.out.2.2.2.1; rw [HU.out.2.2.2.2.1] at hub8; omega, C.out.n1, hlt, hf8, hso8⟩, hfu8⟩))
     clear hok8 hno8 hD8 hfu8 hub8 hls8 hfo8 hx8 hr8 hap8 hso8 hsg8 hls hf8 hfr8
     go_wp2_with fail
     go_ret2
     exact HPOST.out
    ·obtain ⟨hfu8, ss', L', us', fu', F', hd8, hss8, hls8, hdk8⟩ := hno8 hc
     have hls : LastSafe pS (segsOf (e0 ++ x :: e1)) L F := by
      have h := C.out.ls
      rwa [HU.out.2.2.1] at h
     have hq : ∃ q, q ≤ lf.length ∧ ss' = updN ss lf q := by
      rcases hss8 with h | h
      ·exact ⟨j, by omega, by rw [h, segs_mid, HU.out.2.2.2.1, HU.out.2.2.2.2.2.1, HU.out.2.2.2.2.1, HU.out.1]⟩
      ·exact ⟨j + 1, hlt, by rw [h, HU.out.2.2.2.1, HU.out.2.2.2.2.2.1, HU.out.2.1, HUU.out, HU.out.2.2.2.2.1]⟩
     obtain ⟨q, hq1, rfl⟩ := hq
     have HPOST := Lib.hid (show StepPost B W wr lb db mb cb lim ss lf S0 L0 j es L S used fuse F n (.slice (some a) lf.length vcap) (.returned (.tuple #[.bool false, .int .i64 c])) w8 from .inr (.inr ⟨hlt, hfu8, c, hc, rfl, q, L', us', fu', F', hq1, hd8, hls8 hls, hf8, fun i hi => by
      rcases hdk8 i hi with h | h
      ·rcases C.out.so i (.inr h) with h | h | h
       ·exact .inr (.inl h)
       ·exact .inl h
       ·exact .inr (.inr h)
      ·exact .inr (.inr (by omega))⟩))
     clear hok8 hno8 hd8 hss8 hls8 hdk8 hls hf8 hfr8
     go_wp2_with fail
     go_ret2
     exact HPOST.out
   ·have hu : updS s l = s := by unfold updS; rw [if_neg fun h => hcn h.2]
    have HPOST := Lib.hid (FIN.out w7 F7.out hu)
    clear hu
    go_wp2_with fail
    go_ret2
    exact HPOST.out
  ·have hz : l.length = 0 := by omega
   have hu : updS s l = s := by unfold updS; rw [if_neg fun h => hl0 h.1]
   have HPOST := Lib.hid (FIN.out w5 (Fr.same _) hu)
   clear hu
   go_wp2_with fail
   go_ret2
   exact HPOST.out
 ·obtain rfl : j = lf.length := by omega
  have C3 := Lib.hid (C2.out.old (Fr.same w2).drew)
  have hdec : decide ((lf.length : Int) ≤ (lf.length : Int)) = true := by simp
  go_wp2_with fail
  refine Lcl.wp_region_calm (by kernel_rfl) [(true, [0, 1, 2, 4, 5, 6]), (false, [3, 7]), (true, [8, 9, 10])] #[0, 1, 3, 7, 0, 16, 48, 112, 240, 511, 1023] [0, 1, 2, 3, 4, 5, 6, 7, 8] 0 #[true, true, true, true, true, true, true, true, true, true, true] (by kernel_rfl) (by kernel_rfl) (by kernel_rfl) (fun w' => Fr (fun _ => False) w2 w') (Fr.same w2).drew (fun d c a v w h => by cases d <;> exact h) ?_
  simp only [Lcl.opsOf, List.map_cons, List.map_nil, List.getElem?_toArray, List.getElem?_cons_succ, List.getElem?_cons_zero, Option.getD_some]
  refine Lcl.wpCalm_t ?_
  repeat (go_big_quiet_step (rfl))
  refine wpQuiet_nil ?_
  refine Lcl.wpCalm_f ?_
  repeat (go_big_quiet_step (rfl))
  refine wpQuiet_nil ?_
  refine Lcl.wpCalm_t ?_
  repeat (go_big_quiet_step (rfl))
  refine wpQuiet_nil ?_
  refine Lcl.wpCalm_nil ?_
  clear z2 z3
  refine Lcl.wpG_run [] _ _ _ (by kernel_rfl) ?_
  simp only [List.map_cons, List.map_nil, List.getElem?_toArray, List.getElem?_cons_succ, List.getElem?_cons_zero, Option.getD_some]
  go_wp2_with fail
  go_ret2
  exact .inl ⟨rfl, rfl, C3.out⟩
end
end Go.Proofs.YtdlnafhhkpklmaaGreatDoor
