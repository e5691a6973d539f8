/- Requests as bytes: Encode. -/
import Derived.Test.YtfdhofabgdkkkaaGreatDoorZ32
namespace Go.Proofs.YtfdhofabgdkkkaaGreatDoor
open Go.RowKit Go.Fm Go.BigFrame Go.Shelf Go.Maps
set_option linter.unusedVariables false
set_option linter.unusedSimpArgs false
set_option maxRecDepth 100000
section
variable {w w' : World} {cb xb : Nat} {s : ByteArray} {bad : Bool} {S : Nat → Prop}
def encV (t : ByteArray) (ok : Bool) : Value := if ok then .tuple #[.string t, .int .i64 0] else .tuple #[.string ByteArray.empty, .int .i64 1]
/-- What goes through a filter and the topics, wherever the request lies. -/
def FilG (w : World) (q : Req) (rv kv tv : Value) (ft : ByteArray) (fok : Bool) : Prop := ∀ (w' : World) (cb xb : Nat), Fr (fun _ => False) w w' → w.heap.size ≤ cb → w.heap.size ≤ xb → xb ≠ cb → ReqA w' xb q rv kv tv → FilC w' cb xb ft fok
def TopG (w : World) (q : Req) (rv kv tv : Value) (lt : ByteArray) (lok : Bool) : Prop := ∀ (w' : World) (cb xb : Nat), Fr (fun _ => False) w w' → w.heap.size ≤ cb → w.heap.size ≤ xb → xb ≠ cb → ReqA w' xb q rv kv tv → TopC w' cb xb lt lok
structure EncIn (w : World) (q : Req) (rv kv tv : Value) (K : Nat → Prop) (ft lt : ByteArray) (fok lok : Bool) : Prop where
 recs : RecsR K w rv q.bat.recs
 old : ∀ i, K i → i < w.heap.size
 wf : ReqWf q
 steps : StepsOK w
 fts : ft.size ≤ 100000
 fil : FilG w q rv kv tv ft fok
 top : TopG w q rv kv tv lt lok
noncomputable def encOk (q : Req) (ft lt : ByteArray) (fok lok : Bool) : Bool := !reqB false q fok lok && decide ((reqS ByteArray.empty q ft lt).size ≤ 60000)
set_option maxHeartbeats 32000000 in
theorem cwrite_walk (q : Req) (rv kv tv : Value) (K : Nat → Prop) (ft lt : ByteArray) (fok lok : Bool) (h : EncIn w q rv kv tv K ft lt fok lok) (hlt : (reqS ByteArray.empty q ft lt).size ≤ 1000000) :
  Calls Tryz.prog 67 #[.agg (reqC q rv kv tv), .func (.func 68) #[] #[]] w fun e w' => e = .returned (encV (reqS ByteArray.empty q ft lt) (encOk q ft lt fok lok)) ∧ Fr (fun _ => False) w w' := by
 have f1 := (Fr.same w).alloc (.cells (reqC q rv kv tv) 41)
 have x1 : ReqA _ w.heap.size q rv kv tv := ⟨heap_alloc_self w (.cells (reqC q rv kv tv) 41)⟩
 have f2 := (Fr.same (w.alloc (.cells (reqC q rv kv tv) 41))).alloc (.cells #[.string ⟨#[]⟩, .int .i64 0, .bool false, .bool false] 221)
 have x2 := x1.old f2
 have s2 : (w.alloc (.cells (reqC q rv kv tv) 41)).heap.size = w.heap.size + 1 := by simp
 have cd : CodA ((w.alloc (.cells (reqC q rv kv tv) 41)).alloc (.cells #[.string ⟨#[]⟩, .int .i64 0, .bool false, .bool false] 221)) (w.heap.size + 1) ByteArray.empty false := by rw [← s2]; exact heap_alloc_self (w.alloc (.cells (reqC q rv kv tv) 41)) (.cells #[.string ⟨#[]⟩, .int .i64 0, .bool false, .bool false] 221)
 have f12 := f1.tr f2
 have CW := Lib.hid (crequest_walk cd q rv kv tv x2 K (h.recs.old f12) (fun hk => by have := h.old _ hk; omega) (by omega) (by omega) h.wf (Nat.zero_le _) (h.steps.old f12) ft lt fok lok h.fts (h.fil _ _ _ f12 (by omega) (Nat.le_refl _) (by omega) x2) (h.top _ _ _ f12 (by omega) (Nat.le_refl _) (by omega) x2))
 have F := Lib.hid f12
 have LT := Lib.hid hlt
 clear f1 x1 f2 x2 cd f12 h hlt
 unfold reqC at *
 go_enter Tryz.func67, Tryz.ntmps67
 go_wp2_with fail
 generalize ((w.alloc (.cells #[.int .i64 q.kind, .string q.name, .int .i64 q.index, .int .i64 q.count, .int .i64 q.from', .bool q.flag, .int .i64 q.bat.base, .int .i64 q.bat.span, .int .i64 q.bat.prod, .int .i64 q.bat.epoch, .int .i64 q.bat.seq, rv, .int .i64 q.fop, .string q.fnm, .string q.fvl, kv, .string q.group, .int .i64 q.member, .int .i64 q.gen, tv] 41)).alloc (.cells #[.string ⟨#[]⟩, .int .i64 0, .bool false, .bool false] 221)) = W at *
 refine CW.out.mono ?_
 rintro e w3 ⟨rfl, h3, f3⟩
 have F3 := Lib.hid (((F.out.mono (S' := fun i => i = w.heap.size + 1) fun _ h => h.elim).trans f3 fun _ h => .inl h).mono (S' := fun _ => False) fun i e => .inr (by omega))
 have dd := fun j => cell_of h3 j
 have L1 := LT.out
 clear f3 CW h3 s2
 generalize hS : reqS ByteArray.empty q ft lt = T at *
 have HS := Lib.hid hS
 clear hS
 cases hB : reqB false q fok lok with
 | true =>
  have OK := Lib.hid (show encOk q ft lt fok lok = false by unfold encOk; rw [hB]; rfl)
  rw [hB] at dd
  clear hB
  go_wp2_with fail
  go_ret2
  rw [HS.out, OK.out]
  exact ⟨rfl, F3.out⟩
 | false =>
  rw [hB] at dd
  by_cases hl : T.size ≤ 60000
  ·have OK := Lib.hid (show encOk q ft lt fok lok = true by unfold encOk; rw [hB, HS.out, decide_eq_true hl]; rfl)
   have h5 : decide ((60000 : Int) < (T.size : Int)) = false := decide_eq_false (by omega)
   clear hB
   go_wp2_with fail
   go_ret2
   rw [HS.out, OK.out]
   exact ⟨rfl, F3.out⟩
  ·have OK := Lib.hid (show encOk q ft lt fok lok = false by unfold encOk; rw [hB, HS.out, decide_eq_false hl]; rfl)
   have h5 : decide ((60000 : Int) < (T.size : Int)) = true := decide_eq_true (by omega)
   have h6 : (60000 : Int) < (T.size : Int) := by omega
   clear hB hl
   go_wp2_with fail
   go_ret2
   rw [HS.out, OK.out]
   exact ⟨rfl, F3.out⟩
set_option maxHeartbeats 32000000 in
theorem wencode_gen (v0 v1 v2 v3 v4 v5 v6 v7 v8 v9 v10 v11 v12 v13 v14 v15 v16 v17 v18 v19 : Value) (T : ByteArray) (ok : Bool)
  (h : Calls Tryz.prog 67 #[.agg #[v0, v1, v2, v3, v4, v5, v6, v7, v8, v9, v10, v11, v12, v13, v14, v15, v16, v17, v18, v19], .func (.func 68) #[] #[]] (w.alloc (.cells #[v0, v1, v2, v3, v4, v5, v6, v7, v8, v9, v10, v11, v12, v13, v14, v15, v16, v17, v18, v19] 41)) fun e w' => e = .returned (encV T ok) ∧ Fr (fun _ => False) (w.alloc (.cells #[v0, v1, v2, v3, v4, v5, v6, v7, v8, v9, v10, v11, v12, v13, v14, v15, v16, v17, v18, v19] 41)) w') :
  Calls Tryz.prog 31 #[.agg #[v0, v1, v2, v3, v4, v5, v6, v7, v8, v9, v10, v11, v12, v13, v14, v15, v16, v17, v18, v19]] w fun e w' => e = .returned (encV T ok) ∧ Fr (fun _ => False) w w' := by
 have f1 := (Fr.same w).alloc (.cells #[v0, v1, v2, v3, v4, v5, v6, v7, v8, v9, v10, v11, v12, v13, v14, v15, v16, v17, v18, v19] 41)
 have CW := Lib.hid h
 have hx := heap_alloc_self w (.cells #[v0, v1, v2, v3, v4, v5, v6, v7, v8, v9, v10, v11, v12, v13, v14, v15, v16, v17, v18, v19] 41)
 have F := Lib.hid f1
 clear f1 h
 go_enter Tryz.func31, Tryz.ntmps31
 go_wp2_with (refine wpList_load_row rfl 41 _ rfl w.heap.size rfl 41 _ (0, 0) _ hx Tryz.underlying41 rfl (by kernel_rfl) ?_)
 clear hx
 generalize (w.alloc (.cells #[v0, v1, v2, v3, v4, v5, v6, v7, v8, v9, v10, v11, v12, v13, v14, v15, v16, v17, v18, v19] 41)) = W at *
 refine CW.out.mono ?_
 rintro e w3 ⟨rfl, f3⟩
 have F3 := Lib.hid (F.out.tr f3)
 clear f3 CW
 unfold encV
 cases ok
 all_goals
  simp only [if_true, if_false, Bool.false_eq_true]
  go_wp2_with fail
  go_ret2
  exact ⟨rfl, F3.out⟩
theorem wencode_walk (q : Req) (rv kv tv : Value) (K : Nat → Prop) (ft lt : ByteArray) (fok lok : Bool) (h : EncIn w q rv kv tv K ft lt fok lok) (hlt : (reqS ByteArray.empty q ft lt).size ≤ 1000000) :
  Calls Tryz.prog 31 #[.agg (reqC q rv kv tv)] w fun e w' => e = .returned (encV (reqS ByteArray.empty q ft lt) (encOk q ft lt fok lok)) ∧ Fr (fun _ => False) w w' := by
 have f1 := (Fr.same w).alloc (.cells (reqC q rv kv tv) 41)
 exact wencode_gen _ _ _ _ _ _ _ _ _ _ _ _ _ _ _ _ _ _ _ _ _ _ (cwrite_walk q rv kv tv K ft lt fok lok ⟨h.recs.old f1, fun i hi => by have := h.old i hi; simp; omega, h.wf, h.steps.old f1, h.fts, fun w' cb xb hf a1 a2 => h.fil w' cb xb (f1.tr hf) (by simp at a1; omega) (by simp at a2; omega), fun w' cb xb hf a1 a2 => h.top w' cb xb (f1.tr hf) (by simp at a1; omega) (by simp at a2; omega)⟩ hlt)
end
end Go.Proofs.YtfdhofabgdkkkaaGreatDoor
