/- Requests as bytes: Encode. -/
import Derived.Test.YtfdhofabgdkkkaaGreatDoorQ24
import Derived.Laws.EntriesVeiled
namespace Go.Proofs.YtfdhofabgdkkkaaGreatDoor
open Go.RowKit Go.Fm Go.BigFrame Go.Shelf Go.Maps
set_option linter.unusedVariables false
set_option linter.unusedSimpArgs false
set_option maxRecDepth 100000
section
variable {w w' : World} {cb xb : Nat} {s : ByteArray} {bad : Bool} {S : Nat → Prop}
def encV (t : ByteArray) (ok : Bool) : Value := if ok then .tuple #[.string t, .int .i64 0] else .tuple #[.string ByteArray.empty, .int .i64 1]
/-- What goes through a filter and the topics, wherever the request lies. -/
def FilG (w : World) (q : Req) (rv kv tv : Value) (ft : ByteArray) (fok : Bool) : Prop := ∀ (w' : World) (cb xb : Nat), Fr (fun _ => False) w w' → w.heap.size ≤ cb → w.heap.size ≤ xb → xb ≠ cb → ReqA w' xb q rv kv tv → FilC w' cb xb ft fok
def TopG (w : World) (q : Req) (rv kv tv : Value) (lt : ByteArray) (lok : Bool) : Prop := ∀ (w' : World) (cb xb : Nat), Fr (fun _ => False) w w' → w.heap.size ≤ cb → w.heap.size ≤ xb → xb ≠ cb → ReqA w' xb q rv kv tv → TopC w' cb xb lt lok
structure EncIn (w : World) (q : Req) (rv kv tv : Value) (K : Nat → Prop) (ft lt : ByteArray) (fok lok : Bool) : Prop where
 recs : RecsR K w rv q.bat.recs
 old : ∀ i, K i → i < w.heap.size
 wf : ReqWf q
 steps : StepsOK w
 fts : ft.size ≤ 200000000000000
 fil : FilG w q rv kv tv ft fok
 top : TopG w q rv kv tv lt lok
noncomputable def encOk (q : Req) (ft lt : ByteArray) (fok lok : Bool) : Bool := !reqB false q fok lok && decide ((reqS ByteArray.empty q ft lt).size ≤ 60000)
set_option maxHeartbeats 32000000 in
theorem cwrite_walk' (q : Req) (rv kv tv : Value) (K : Nat → Prop) (ft lt : ByteArray) (fok lok : Bool) (h : EncIn w q rv kv tv K ft lt fok lok) :
  Calls Tryz.prog 67 #[.agg (reqC q rv kv tv), .func (.func 68) #[] #[]] w fun e w' => e = .returned (encV (reqS ByteArray.empty q ft lt) (encOk q ft lt fok lok)) ∧ Fr (fun _ => False) w w' := by
 have f1 := (Fr.same w).alloc (.cells (reqC q rv kv tv) 41)
 have x1 : ReqA _ w.heap.size q rv kv tv := ⟨heap_alloc_self w (.cells (reqC q rv kv tv) 41)⟩
 have f2 := (Fr.same (w.alloc (.cells (reqC q rv kv tv) 41))).alloc (.cells #[.string ⟨#[]⟩, .int .i64 0, .bool false, .bool false] 221)
 have x2 := x1.old f2
 have s2 : (w.alloc (.cells (reqC q rv kv tv) 41)).heap.size = w.heap.size + 1 := by simp
 have cd : CodA ((w.alloc (.cells (reqC q rv kv tv) 41)).alloc (.cells #[.string ⟨#[]⟩, .int .i64 0, .bool false, .bool false] 221)) (w.heap.size + 1) ByteArray.empty false := by rw [← s2]; exact heap_alloc_self (w.alloc (.cells (reqC q rv kv tv) 41)) (.cells #[.string ⟨#[]⟩, .int .i64 0, .bool false, .bool false] 221)
 have f12 := f1.tr f2
 have CW := Lib.hid (crequest_walk cd q rv kv tv x2 K (h.recs.old f12) (fun hk => by have := h.old _ hk; omega) (by omega) (by omega) h.wf (Nat.zero_le _) (h.steps.old f12) ft lt fok lok h.fts (h.fil _ _ _ f12 (by omega) (Nat.le_refl _) (by omega) x2) (h.top _ _ _ f12 (by omega) (Nat.le_refl _) (by omega) x2))
 have F := Lib.hid f12
 clear f1 x1 f2 x2 cd f12 h
 unfold reqC at *
 go_enter Tryz.func67, Tryz.ntmps67
 go_wp2_with fail
 generalize ((w.alloc (.cells #[.int .i64 q.kind, .string q.name, .int .i64 q.index, .int .i64 q.count, .int .i64 q.from', .bool q.flag, .int .i64 q.bat.base, .int .i64 q.bat.span, .int .i64 q.bat.prod, .int .i64 q.bat.epoch, .int .i64 q.bat.seq, rv, .int .i64 q.fop, .string q.fnm, .string q.fvl, kv, .string q.group, .int .i64 q.member, .int .i64 q.gen, tv] 41)).alloc (.cells #[.string ⟨#[]⟩, .int .i64 0, .bool false, .bool false] 221)) = W at *
 refine CW.out.mono ?_
 rintro e w3 ⟨rfl, ⟨s3, h3, heq, hsz⟩, f3⟩
 have F3 := Lib.hid (((F.out.mono (S' := fun i => i = w.heap.size + 1) fun _ h => h.elim).trans f3 fun _ h => .inl h).mono (S' := fun _ => False) fun i e => .inr (by omega))
 have dd := fun j => cell_of h3 j
 have L1 := hsz
 clear f3 CW h3 s2
 generalize hS : reqS ByteArray.empty q ft lt = T at *
 have HS := Lib.hid hS
 clear hS
 cases hB : reqB false q fok lok with
 | true =>
  have OK := Lib.hid (show encOk q ft lt fok lok = false by unfold encOk; rw [hB]; rfl)
  rw [hB] at dd
  clear hB
  go_wp2_with fail
  go_ret2
  rw [HS.out, OK.out]
  exact ⟨rfl, F3.out⟩
 | false =>
  rw [hB] at dd
  obtain rfl : T = s3 := (heq hB).symm
  by_cases hl : T.size ≤ 60000
  ·have OK := Lib.hid (show encOk q ft lt fok lok = true by unfold encOk; rw [hB, HS.out, decide_eq_true hl]; rfl)
   have h5 : decide ((60000 : Int) < (T.size : Int)) = false := decide_eq_false (by omega)
   clear hB
   go_wp2_with fail
   go_ret2
   rw [HS.out, OK.out]
   exact ⟨rfl, F3.out⟩
  ·have OK := Lib.hid (show encOk q ft lt fok lok = false by unfold encOk; rw [hB, HS.out, decide_eq_false hl]; rfl)
   have h5 : decide ((60000 : Int) < (T.size : Int)) = true := decide_eq_true (by omega)
   have h6 : (60000 : Int) < (T.size : Int) := by omega
   clear hB hl
   go_wp2_with fail
   go_ret2
   rw [HS.out, OK.out]
   exact ⟨rfl, F3.out⟩
set_option maxHeartbeats 32000000 in
theorem wencode_gen (v0 v1 v2 v3 v4 v5 v6 v7 v8 v9 v10 v11 v12 v13 v14 v15 v16 v17 v18 v19 : Value) (T : ByteArray) (ok : Bool)
  (h : Calls Tryz.prog 67 #[.agg #[v0, v1, v2, v3, v4, v5, v6, v7, v8, v9, v10, v11, v12, v13, v14, v15, v16, v17, v18, v19], .func (.func 68) #[] #[]] (w.alloc (.cells #[v0, v1, v2, v3, v4, v5, v6, v7, v8, v9, v10, v11, v12, v13, v14, v15, v16, v17, v18, v19] 41)) fun e w' => e = .returned (encV T ok) ∧ Fr (fun _ => False) (w.alloc (.cells #[v0, v1, v2, v3, v4, v5, v6, v7, v8, v9, v10, v11, v12, v13, v14, v15, v16, v17, v18, v19] 41)) w') :
  Calls Tryz.prog 31 #[.agg #[v0, v1, v2, v3, v4, v5, v6, v7, v8, v9, v10, v11, v12, v13, v14, v15, v16, v17, v18, v19]] w fun e w' => e = .returned (encV T ok) ∧ Fr (fun _ => False) w w' := by
 have f1 := (Fr.same w).alloc (.cells #[v0, v1, v2, v3, v4, v5, v6, v7, v8, v9, v10, v11, v12, v13, v14, v15, v16, v17, v18, v19] 41)
 have CW := Lib.hid h
 have hx := heap_alloc_self w (.cells #[v0, v1, v2, v3, v4, v5, v6, v7, v8, v9, v10, v11, v12, v13, v14, v15, v16, v17, v18, v19] 41)
 have F := Lib.hid f1
 clear f1 h
 go_enter Tryz.func31, Tryz.ntmps31
 go_wp2_with (refine wpList_load_row rfl 41 _ rfl w.heap.size rfl 41 _ (0, 0) _ hx Tryz.underlying41 rfl (by kernel_rfl) ?_)
 clear hx
 generalize (w.alloc (.cells #[v0, v1, v2, v3, v4, v5, v6, v7, v8, v9, v10, v11, v12, v13, v14, v15, v16, v17, v18, v19] 41)) = W at *
 refine CW.out.mono ?_
 rintro e w3 ⟨rfl, f3⟩
 have F3 := Lib.hid (F.out.tr f3)
 clear f3 CW
 unfold encV
 cases ok
 all_goals
  simp only [if_true, if_false, Bool.false_eq_true]
  go_wp2_with fail
  go_ret2
  exact ⟨rfl, F3.out⟩
theorem wencode_walk' (q : Req) (rv kv tv : Value) (K : Nat → Prop) (ft lt : ByteArray) (fok lok : Bool) (h : EncIn w q rv kv tv K ft lt fok lok) :
  Calls Tryz.prog 31 #[.agg (reqC q rv kv tv)] w fun e w' => e = .returned (encV (reqS ByteArray.empty q ft lt) (encOk q ft lt fok lok)) ∧ Fr (fun _ => False) w w' := by
 have f1 := (Fr.same w).alloc (.cells (reqC q rv kv tv) 41)
 exact wencode_gen _ _ _ _ _ _ _ _ _ _ _ _ _ _ _ _ _ _ _ _ _ _ (cwrite_walk' q rv kv tv K ft lt fok lok ⟨h.recs.old f1, fun i hi => by have := h.old i hi; simp; omega, h.wf, h.steps.old f1, h.fts, fun w' cb xb hf a1 a2 => h.fil w' cb xb (f1.tr hf) (by simp at a1; omega) (by simp at a2; omega), fun w' cb xb hf a1 a2 => h.top w' cb xb (f1.tr hf) (by simp at a1; omega) (by simp at a2; omega)⟩)
theorem wencode_walk (q : Req) (rv kv tv : Value) (K : Nat → Prop) (ft lt : ByteArray) (fok lok : Bool) (h : EncIn w q rv kv tv K ft lt fok lok) (hlt : (reqS ByteArray.empty q ft lt).size ≤ 2000000000000000) :
  Calls Tryz.prog 31 #[.agg (reqC q rv kv tv)] w fun e w' => e = .returned (encV (reqS ByteArray.empty q ft lt) (encOk q ft lt fok lok)) ∧ Fr (fun _ => False) w w' :=
 wencode_walk' q rv kv tv K ft lt fok lok h
end
end Go.Proofs.YtfdhofabgdkkkaaGreatDoor
/- The filter that lets all through: Size, all, Check, Print. -/
namespace Go.Proofs.YtfdhofabgdkkkaaGreatDoor
open Go.RowKit Go.Fm Go.BigFrame Go.Shelf Go.Maps
set_option linter.unusedVariables false
set_option linter.unusedSimpArgs false
set_option maxRecDepth 100000
section
variable {w w' : World} {cb xb : Nat} {s : ByteArray} {bad : Bool} {S : Nat → Prop}
set_option maxHeartbeats 16000000 in
theorem size1_zero (nb wb : Nat) (n : Int) (hn : 0 ≤ n ∧ n ≤ 1000) (h : w.heap[nb]? = some (.cells #[.int .i64 n] 3 (0, 0))) : Calls Tryz.prog 91 #[.agg #[.int .i64 0, .string ⟨#[]⟩, .string ⟨#[]⟩, .slice none 0 0], .pointer (some ⟨nb, 0, none⟩), .pointer (some ⟨wb, 0, none⟩)] w fun e w' =>
  e = .returned (.tuple #[]) ∧ w'.heap[nb]? = some (.cells #[.int .i64 (n + 1)] 3 (0, 0)) ∧ Fr (fun i => i = nb) w w' := by
 obtain ⟨hn0, hn1⟩ := hn
 have hlt := lt_of_heap h
 have f1 := (Fr.same w).alloc (.cells #[.int .i64 0, .string ⟨#[]⟩, .string ⟨#[]⟩, .slice none 0 0] 38)
 have h1 := (f1.block _ hlt fun h => h).trans h
 have dd := fun j => cell_of h1 j
 have fz := fun j => fz_of h1 j
 have h2 := Lib.hid ((heap_alloc_lt (w := w.setCell ⟨nb, 0, none⟩ (.int .i64 (n + 1))) (.cells #[.int .i64 0, .string ⟨#[]⟩, .string ⟨#[]⟩, .slice none 0 0] 38) (by simp [World.setCell]; exact hlt)).trans ((heap_setCell_self h (o := 0) (.int .i64 (n + 1))).trans rfl))
 have F := Lib.hid (((Fr.refl (fun i => i = nb) w).setCell (p := ⟨nb, 0, none⟩) (.inl rfl) (.int .i64 (n + 1))).alloc (.cells #[.int .i64 0, .string ⟨#[]⟩, .string ⟨#[]⟩, .slice none 0 0] 38))
 clear f1 h h1
 go_enter Tryz.func91, Tryz.ntmps91
 go_wp2_with fail
 refine wp_loop_rounds 1 ?_
 rw [rounds_succ]
 go_wp2_with fail
 go_end0
 exact ⟨rfl, h2.out, F.out⟩
set_option maxHeartbeats 16000000 in
theorem size_zero : Calls Tryz.prog 46 #[.agg #[.int .i64 0, .string ⟨#[]⟩, .string ⟨#[]⟩, .slice none 0 0]] w fun e w' => e = .returned (.int .i64 1) ∧ Fr (fun _ => False) w w' := by
 have f1 := (Fr.same w).alloc (.cells #[.int .i64 0, .string ⟨#[]⟩, .string ⟨#[]⟩, .slice none 0 0] 38)
 have f2 := f1.alloc (.cells #[.int .i64 0] 3)
 have s1 : (w.alloc (.cells #[.int .i64 0, .string ⟨#[]⟩, .string ⟨#[]⟩, .slice none 0 0] 38)).heap.size = w.heap.size + 1 := by simp
 have s2 : ((w.alloc (.cells #[.int .i64 0, .string ⟨#[]⟩, .string ⟨#[]⟩, .slice none 0 0] 38)).alloc (.cells #[.int .i64 0] 3)).heap.size = w.heap.size + 1 + 1 := by simp
 have x2 : ((w.alloc (.cells #[.int .i64 0, .string ⟨#[]⟩, .string ⟨#[]⟩, .slice none 0 0] 38)).alloc (.cells #[.int .i64 0] 3)).heap[w.heap.size + 1]? = some (.cells #[.int .i64 0] 3 (0, 0)) := by rw [← s1]; exact heap_alloc_self _ _
 have f3 := f2.alloc (.cells #[.func (.func 91) #[] #[.pointer (some ⟨w.heap.size + 1, 0, none⟩), .pointer (some ⟨w.heap.size + 1 + 1, 0, none⟩)]] 185)
 have x3 := (heap_alloc_lt (.cells #[.func (.func 91) #[] #[.pointer (some ⟨w.heap.size + 1, 0, none⟩), .pointer (some ⟨w.heap.size + 1 + 1, 0, none⟩)]] 185) (lt_of_heap x2)).trans x2
 have CW := Lib.hid (size1_zero (w.heap.size + 1) (w.heap.size + 1 + 1) 0 (by omega) x3)
 have F3 := Lib.hid f3
 clear f1 f2 s1 s2 x2 f3 x3
 go_enter Tryz.func46, Tryz.ntmps46
 go_wp2_with fail
 generalize (((w.alloc (.cells #[.int .i64 0, .string ⟨#[]⟩, .string ⟨#[]⟩, .slice none 0 0] 38)).alloc (.cells #[.int .i64 0] 3)).alloc (.cells #[.func (.func 91) #[] #[.pointer (some ⟨w.heap.size + 1, 0, none⟩), .pointer (some ⟨w.heap.size + 1 + 1, 0, none⟩)]] 185)) = W at *
 refine CW.out.mono ?_
 rintro e w4 ⟨rfl, h4, f4⟩
 have c4 := cell_of h4 0
 have F4 := Lib.hid (((F3.out.mono (S' := fun i => i = w.heap.size + 1) fun _ h => h.elim).trans f4 fun _ h => .inl h).mono (S' := fun _ => False) fun i e => .inr (by omega))
 clear f4 CW h4
 go_wp2_with fail
 go_ret
 exact ⟨rfl, F4.out⟩
set_option maxHeartbeats 16000000 in
theorem fits_zero : Calls Tryz.prog 92 #[.agg #[.int .i64 0, .string ⟨#[]⟩, .string ⟨#[]⟩, .slice none 0 0]] w fun e w' => e = .returned (.bool true) ∧ Fr (fun _ => False) w w' := by
 have f1 := Lib.hid ((Fr.same w).alloc (.cells #[.int .i64 0, .string ⟨#[]⟩, .string ⟨#[]⟩, .slice none 0 0] 38))
 have z0 : ∀ y : Lcl.InS (fun w' => Fr (fun _ => False) (w.alloc (.cells #[.int .i64 0, .string ⟨#[]⟩, .string ⟨#[]⟩, .slice none 0 0] 38)) w'), y.w.cell? ⟨w.heap.size, 1, none⟩ = some (.string ⟨#[]⟩) := fun y => y.h.cel (cell_alloc_new w _ 38 1)
 have z1 : ∀ y : Lcl.InS (fun w' => Fr (fun _ => False) (w.alloc (.cells #[.int .i64 0, .string ⟨#[]⟩, .string ⟨#[]⟩, .slice none 0 0] 38)) w'), y.w.cell? ⟨w.heap.size, 2, none⟩ = some (.string ⟨#[]⟩) := fun y => y.h.cel (cell_alloc_new w _ 38 2)
 have dd := fun j => cell_alloc_new w #[.int .i64 0, .string ⟨#[]⟩, .string ⟨#[]⟩, .slice none 0 0] 38 j
 go_enter Tryz.func92, Tryz.ntmps92
 go_wp2_with fail
 generalize (w.alloc (.cells #[.int .i64 0, .string ⟨#[]⟩, .string ⟨#[]⟩, .slice none 0 0] 38)) = W at *
 refine Lcl.wp_region_calm (by kernel_rfl) [(true, [0, 3]), (false, [1, 4]), (true, [2, 5, 6, 7])] #[0, 1, 3, 0, 8, 24, 7, 127] [0, 1, 2, 3, 4, 5, 6] 0 #[true, true, true, true, true, true, true, true] (by kernel_rfl) (by kernel_rfl) (by kernel_rfl) (fun w' => Fr (fun _ => False) W w') (Fr.same W).drew (fun d c a v w h => by cases d <;> exact h) ?_
 simp only [Lcl.opsOf, List.map_cons, List.map_nil, List.getElem?_toArray, List.getElem?_cons_succ, List.getElem?_cons_zero, Option.getD_some]
 refine Lcl.wpCalm_t ?_
 repeat (go_big_quiet_step (rfl))
 refine wpQuiet_nil ?_
 refine Lcl.wpCalm_f ?_
 repeat (go_big_quiet_step (rfl))
 refine wpQuiet_nil ?_
 refine Lcl.wpCalm_t ?_
 repeat (go_big_quiet_step (rfl))
 refine wpQuiet_nil ?_
 refine Lcl.wpCalm_nil ?_
 refine Lcl.wpG_run [] _ _ _ (by kernel_rfl) ?_
 simp only [List.map_cons, List.map_nil, List.getElem?_toArray, List.getElem?_cons_succ, List.getElem?_cons_zero, Option.getD_some]
 clear z0 z1
 have d2 : ∀ j, W.drew.cell? ⟨w.heap.size, j, none⟩ = (#[.int .i64 0, .string ⟨#[]⟩, .string ⟨#[]⟩, .slice none 0 0] : Array Value)[j]? := fun j => dd j
 have F2 := Lib.hid f1.out.drew
 clear dd
 generalize W.drew = W2 at *
 go_wp2_with fail
 go_ret
 exact ⟨rfl, F2.out⟩
set_option maxHeartbeats 16000000 in
theorem all_zero : Calls Tryz.prog 47 #[.agg #[.int .i64 0, .string ⟨#[]⟩, .string ⟨#[]⟩, .slice none 0 0], .int .i64 6] w fun e w' => e = .returned (.bool true) ∧ Fr (fun _ => False) w w' := by
 have f1 := Lib.hid ((Fr.same w).alloc (.cells #[.int .i64 0, .string ⟨#[]⟩, .string ⟨#[]⟩, .slice none 0 0] 38))
 have dd := fun j => cell_alloc_new w #[.int .i64 0, .string ⟨#[]⟩, .string ⟨#[]⟩, .slice none 0 0] 38 j
 have CW := Lib.hid (fits_zero (w := w.alloc (.cells #[.int .i64 0, .string ⟨#[]⟩, .string ⟨#[]⟩, .slice none 0 0] 38)))
 have X1 := Lib.hid (heap_alloc_self w (.cells #[.int .i64 0, .string ⟨#[]⟩, .string ⟨#[]⟩, .slice none 0 0] 38))
 go_enter Tryz.func47, Tryz.ntmps47
 go_wp2_with fail
 generalize (w.alloc (.cells #[.int .i64 0, .string ⟨#[]⟩, .string ⟨#[]⟩, .slice none 0 0] 38)) = W at *
 refine CW.out.mono ?_
 rintro e w2 ⟨rfl, f2⟩
 have F2 := Lib.hid (f1.out.tr f2)
 have X2 := (f2.block _ (lt_of_heap X1.out) fun h => h).trans X1.out
 have d2 := fun j => cell_of X2 j
 clear f2 CW dd X1 X2
 go_wp2_with fail
 refine wp_loop_rounds 1 ?_
 rw [rounds_succ]
 go_wp2_with fail
 go_ret
 exact ⟨rfl, F2.out⟩
set_option maxHeartbeats 16000000 in
theorem xcheck_zero : Calls Tryz.prog 19 #[.agg #[.int .i64 0, .string ⟨#[]⟩, .string ⟨#[]⟩, .slice none 0 0]] w fun e w' => e = .returned (.int .i64 0) ∧ Fr (fun _ => False) w w' := by
 have f1 := Lib.hid ((Fr.same w).alloc (.cells #[.int .i64 0, .string ⟨#[]⟩, .string ⟨#[]⟩, .slice none 0 0] 38))
 have CW := Lib.hid (size_zero (w := w.alloc (.cells #[.int .i64 0, .string ⟨#[]⟩, .string ⟨#[]⟩, .slice none 0 0] 38)))
 have X1 := Lib.hid (heap_alloc_self w (.cells #[.int .i64 0, .string ⟨#[]⟩, .string ⟨#[]⟩, .slice none 0 0] 38))
 go_enter Tryz.func19, Tryz.ntmps19
 go_wp2_with fail
 generalize (w.alloc (.cells #[.int .i64 0, .string ⟨#[]⟩, .string ⟨#[]⟩, .slice none 0 0] 38)) = W at *
 refine CW.out.mono ?_
 rintro e w2 ⟨rfl, f2⟩
 have F2 := Lib.hid (f1.out.tr f2)
 have X2 := (f2.block _ (lt_of_heap X1.out) fun h => h).trans X1.out
 have d2 := fun j => cell_of X2 j
 clear f2 CW X1 X2
 go_wp2_with fail
 refine (all_zero (w := w2)).mono ?_
 rintro e w3 ⟨rfl, f3⟩
 have F3 := Lib.hid (F2.out.tr f3)
 clear f3
 go_wp2_with fail
 go_ret
 exact ⟨rfl, F3.out⟩
end
end Go.Proofs.YtfdhofabgdkkkaaGreatDoor
