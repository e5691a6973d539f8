/- Requests as bytes: a request. -/
import Derived.Test.YtfdhofabgdkkkaaGreatDoorQ23
namespace Go.Proofs.YtfdhofabgdkkkaaGreatDoor
open Go.RowKit Go.Fm Go.BigFrame Go.Shelf Go.Maps
set_option linter.unusedVariables false
set_option linter.unusedSimpArgs false
set_option maxRecDepth 100000
/-- A request: all but what its filter's Kids and its Topics are. -/
structure Req where
 kind : Int
 name : ByteArray
 index : Int
 count : Int
 from' : Int
 flag : Bool
 bat : Bat
 fop : Int
 fnm : ByteArray
 fvl : ByteArray
 group : ByteArray
 member : Int
 gen : Int
def reqC (q : Req) (rv kv tv : Value) : Array Value := #[.int .i64 q.kind, .string q.name, .int .i64 q.index, .int .i64 q.count, .int .i64 q.from', .bool q.flag,
 .int .i64 q.bat.base, .int .i64 q.bat.span, .int .i64 q.bat.prod, .int .i64 q.bat.epoch, .int .i64 q.bat.seq, rv, .int .i64 q.fop, .string q.fnm, .string q.fvl, kv, .string q.group, .int .i64 q.member, .int .i64 q.gen, tv]
structure ReqWf (q : Req) : Prop where
 kind : (Lit.int .i64 q.kind).wf = true
 index : (Lit.int .i64 q.index).wf = true
 count : (Lit.int .i64 q.count).wf = true
 from' : (Lit.int .i64 q.from').wf = true
 member : (Lit.int .i64 q.member).wf = true
 gen : (Lit.int .i64 q.gen).wf = true
 name : q.name.size ≤ 200000000000000
 group : q.group.size ≤ 200000000000000
 bat : (optT q.bat).size ≤ 60008
/-- The bytes of a request; ft, lt: its filter's, its topics'. -/
noncomputable def reqS (s : ByteArray) (q : Req) (ft lt : ByteArray) : ByteArray :=
 plS (plS (s ++ putS q.kind ++ textS q.name) [q.index, q.count, q.from'] ++ putS (if q.flag then 1 else 0) ++ textS (optT q.bat) ++ ft ++ textS q.group) [q.member, q.gen] ++ lt
noncomputable def reqB (bad : Bool) (q : Req) (fok lok : Bool) : Bool :=
 plB ((((plB ((bad || !okN q.kind 1 14) || !okT q.name 100) [q.index, q.count, q.from']) || !optOk q.bat) || !fok) || !okT q.group 100) [q.member, q.gen] || !lok
section
variable {w w' : World} {cb xb : Nat} {s : ByteArray} {bad : Bool} {S : Nat → Prop}
structure ReqA (w : World) (xb : Nat) (q : Req) (rv kv tv : Value) : Prop where
 b : w.heap[xb]? = some (.cells (reqC q rv kv tv) 41 (0, 0))
theorem ReqA.fr {q : Req} {rv kv tv : Value} (h : ReqA w xb q rv kv tv) (hf : Fr S w w') (h1 : ¬ S xb) : ReqA w' xb q rv kv tv := ⟨(hf.block _ (lt_of_heap h.b) h1).trans h.b⟩
theorem ReqA.old {q : Req} {rv kv tv : Value} (h : ReqA w xb q rv kv tv) (hf : Fr (fun _ => False) w w') : ReqA w' xb q rv kv tv := h.fr hf fun h => h
theorem ReqA.cell {q : Req} {rv kv tv : Value} (h : ReqA w xb q rv kv tv) (j : Nat) : w.cell? ⟨xb, j, none⟩ = (reqC q rv kv tv)[j]? := cell_of h.b j
theorem ReqA.batAt {q : Req} {rv kv tv : Value} (h : ReqA w xb q rv kv tv) : BatAt w ⟨xb, 6, none⟩ q.bat rv := ⟨h.cell 6, h.cell 7, h.cell 8, h.cell 9, h.cell 10, h.cell 11⟩
def CBox (w : World) (bx cb : Nat) : Prop := w.heap[bx]? = some (.cells #[.pointer (some ⟨cb, 0, none⟩)] 146 (0, 0))
theorem CBox.fr {bx : Nat} (h : CBox w bx cb) (hf : Fr S w w') (h1 : ¬ S bx) : CBox w' bx cb := (hf.block _ (lt_of_heap h) h1).trans h
/-- What goes through the filter does. -/
def FilC (w : World) (cb xb : Nat) (ft : ByteArray) (fok : Bool) : Prop := ∀ (w' : World) (s : ByteArray) (bad : Bool), Fr (fun i => i = cb) w w' → CodA w' cb s bad → s.size ≤ 1600000000000000 → Calls Tryz.prog 123 #[.pointer (some ⟨cb, 0, none⟩), .pointer (some ⟨xb, 12, none⟩)] w' (CodPost w' cb (s ++ ft) (bad || !fok))
/-- What is written stands there, unless something may not be. -/
def CodIf (w : World) (cb : Nat) (T : ByteArray) (bad : Bool) (e : Ending) (w' : World) : Prop := e = .returned (.tuple #[]) ∧ (∃ s', CodA w' cb s' bad ∧ (bad = false → s' = T) ∧ s'.size ≤ 4000000000000000000) ∧ Fr (fun i => i = cb) w w'
/-- What goes through the topics does. -/
def TopC (w : World) (cb xb : Nat) (lt : ByteArray) (lok : Bool) : Prop := ∀ (w' : World) (bx : Nat) (s : ByteArray) (bad : Bool), Fr (fun i => i = cb) w w' → CodA w' cb s bad → CBox w' bx cb → bx ≠ cb → s.size ≤ 1600000000000000 → Calls Tryz.prog 124 #[.pointer (some ⟨cb, 0, none⟩), .pointer (some ⟨xb, 19, none⟩), .int .i64 20, .func (.func 125) #[] #[.pointer (some ⟨bx, 0, none⟩)]] w' (CodIf w' cb (s ++ lt) (bad || !lok))
set_option maxHeartbeats 64000000 in
theorem crequest_walk (h : CodA w cb s bad) (q : Req) (rv kv tv : Value) (hx : ReqA w xb q rv kv tv) (K : Nat → Prop) (hr : RecsR K w rv q.bat.recs) (hK : ¬ K cb) (hne : xb ≠ cb) (hcs : 0 ≠ cb) (hwf : ReqWf q) (hs : s.size ≤ 20000000000000) (hst : StepsOK w) (ft lt : ByteArray) (fok lok : Bool)
  (hft : ft.size ≤ 200000000000000) (hfil : FilC w cb xb ft fok) (htop : TopC w cb xb lt lok) :
  Calls Tryz.prog 68 #[.pointer (some ⟨cb, 0, none⟩), .pointer (some ⟨xb, 0, none⟩)] w (CodIf w cb (reqS s q ft lt) (reqB bad q fok lok)) := by
 have hcb := lt_of_heap h
 have hxb := lt_of_heap hx.b
 have f0 := (Fr.same w).alloc (.cells #[.pointer (some ⟨cb, 0, none⟩)] 146)
 have BX := Lib.hid (show CBox _ w.heap.size cb from heap_alloc_self w (.cells #[.pointer (some ⟨cb, 0, none⟩)] 146))
 have H := Lib.hid (h.old f0)
 have X := Lib.hid (hx.old f0)
 have R := Lib.hid (hr.old f0)
 have ST := Lib.hid (hst.old f0)
 have F := Lib.hid (f0.mono (S' := fun i => i = cb) fun _ h => h.elim)
 have WF := Lib.hid hwf
 have FIL := Lib.hid hfil
 have TOP := Lib.hid htop
 have KF : ∀ (i : Nat), K i → i ≠ cb := fun i hi e => hK (e ▸ hi)
 have KC := Lib.hid KF
 clear f0 h hx hr hst hwf hfil htop hK KF
 have p1 := putS_size WF.out.kind
 have p2 := textS_sizeX (show q.name.size ≤ 1000000000000000000 by have := WF.out.name; omega)
 have p5 := textS_sizeX (show (optT q.bat).size ≤ 1000000000000000000 by have := WF.out.bat; omega)
 have p7 := textS_sizeX (show q.group.size ≤ 1000000000000000000 by have := WF.out.group; omega)
 have w2 := WF.out.name
 have w5 := WF.out.bat
 have w7 := WF.out.group
 have SZ := Lib.hid (show (s ++ putS q.kind).size ≤ 200000000000000 ∧ (s ++ putS q.kind ++ textS q.name).size ≤ 400000000000000 by simp only [ByteArray.size_append]; omega)
 have q3 := plS_size [q.index, q.count, q.from'] (s ++ putS q.kind ++ textS q.name) (by
  intro n hn
  rcases List.mem_cons.1 hn with rfl | hn
  ·exact WF.out.index
  rcases List.mem_cons.1 hn with rfl | hn
  ·exact WF.out.count
  rcases List.mem_cons.1 hn with rfl | hn
  ·exact WF.out.from'
  ·cases hn)
 have SZ3 := Lib.hid (show (plS (s ++ putS q.kind ++ textS q.name) [q.index, q.count, q.from']).size ≤ 420000000000000 by have := SZ.out.2; simp only [List.length_cons, List.length_nil] at q3; omega)
 have p4 := putS_size (show (Lit.int .i64 (if q.flag then 1 else 0)).wf = true by cases q.flag <;> rfl)
 have SZ4 := Lib.hid (show (plS (s ++ putS q.kind ++ textS q.name) [q.index, q.count, q.from'] ++ putS (if q.flag then 1 else 0)).size ≤ 440000000000000 by rw [ByteArray.size_append]; have := SZ3.out; omega)
 have SZ5 := Lib.hid (show (plS (s ++ putS q.kind ++ textS q.name) [q.index, q.count, q.from'] ++ putS (if q.flag then 1 else 0) ++ textS (optT q.bat)).size ≤ 600000000000000 by rw [ByteArray.size_append]; have := SZ4.out; omega)
 have SZ6 := Lib.hid (show (plS (s ++ putS q.kind ++ textS q.name) [q.index, q.count, q.from'] ++ putS (if q.flag then 1 else 0) ++ textS (optT q.bat) ++ ft).size ≤ 800000000000000 by rw [ByteArray.size_append]; have := SZ5.out; omega)
 have SZ7 := Lib.hid (show (plS (s ++ putS q.kind ++ textS q.name) [q.index, q.count, q.from'] ++ putS (if q.flag then 1 else 0) ++ textS (optT q.bat) ++ ft ++ textS q.group).size ≤ 1020000000000000 by rw [ByteArray.size_append]; have := SZ6.out; omega)
 have q8 := plS_size [q.member, q.gen] (plS (s ++ putS q.kind ++ textS q.name) [q.index, q.count, q.from'] ++ putS (if q.flag then 1 else 0) ++ textS (optT q.bat) ++ ft ++ textS q.group) (by
  intro n hn
  rcases List.mem_cons.1 hn with rfl | hn
  ·exact WF.out.member
  rcases List.mem_cons.1 hn with rfl | hn
  ·exact WF.out.gen
  ·cases hn)
 have SZ8 := Lib.hid (show (plS (plS (s ++ putS q.kind ++ textS q.name) [q.index, q.count, q.from'] ++ putS (if q.flag then 1 else 0) ++ textS (optT q.bat) ++ ft ++ textS q.group) [q.member, q.gen]).size ≤ 1200000000000000 by have := SZ7.out; simp only [List.length_cons, List.length_nil] at q8; omega)
 clear p1 p2 p5 p7 w2 w5 w7 q3 p4 q8 hs hft
 go_enter Tryz.func68, Tryz.ntmps68
 go_wp2_with fail
 generalize (w.alloc (.cells #[.pointer (some ⟨cb, 0, none⟩)] 146)) = W1 at *
 generalize hbx : w.heap.size = bx at *
 clear hbx
 have z0 : ∀ y : Lcl.InS (fun w' => Fr (fun _ => False) W1 w'), y.w.cell? ⟨bx, 0, none⟩ = some (.pointer (some ⟨cb, 0, none⟩)) := fun y => y.h.cel ((cell_of BX.out 0).trans rfl)
 refine Lcl.wp_region_calm (by kernel_rfl) [(true, [1, 2, 3]), (false, [0])] #[0, 0, 2, 6, 15] [0, 1, 2, 3] 1 #[true, true, true, true, false] (by kernel_rfl) (by kernel_rfl) (by kernel_rfl) (fun w' => Fr (fun _ => False) W1 w') (Fr.same W1).drew (fun d c a v w h => by cases d <;> exact h) ?_
 simp only [Lcl.opsOf, List.map_cons, List.map_nil, List.getElem?_toArray, List.getElem?_cons_succ, List.getElem?_cons_zero, Option.getD_some]
 refine Lcl.wpCalm_t ?_
 repeat (go_big_quiet_step (rfl))
 refine wpQuiet_nil ?_
 refine Lcl.wpCalm_f ?_
 repeat (go_big_quiet_step (rfl))
 refine wpQuiet_nil ?_
 refine Lcl.wpCalm_nil ?_
 clear z0
 have BX := Lib.hid (BX.out.fr (Fr.same W1).drew fun h => h)
 have H := Lib.hid (H.out.old (Fr.same W1).drew)
 have X := Lib.hid (X.out.old (Fr.same W1).drew)
 have R := Lib.hid (R.out.old (Fr.same W1).drew)
 have ST := Lib.hid (ST.out.old (Fr.same W1).drew)
 have F := Lib.hid F.out.drew
 generalize W1.drew = V1 at *
 refine Lcl.wpG_run [4] _ _ _ (by kernel_rfl) ?_
 simp only [List.map_cons, List.map_nil, List.getElem?_toArray, List.getElem?_cons_succ, List.getElem?_cons_zero, Option.getD_some]
 have CW := Lib.hid (cnumber_walk H.out ⟨xb, 0, none⟩ q.kind 1 14 WF.out.kind (X.out.cell 0) hne (by have := SZ.out.1; have := ByteArray.size_append (a := s) (b := putS q.kind); omega))
 go_wp2_with fail
 refine CW.out.mono ?_
 rintro e W2 ⟨rfl, hh, hf⟩
 have H := Lib.hid hh
 have X := Lib.hid (X.out.fr hf (by omega))
 have R := Lib.hid (R.out.fr hf (fun i hi => KC.out i hi))
 have ST := Lib.hid (ST.out.fr hf hcs)
 have BX := Lib.hid (BX.out.fr hf (by omega))
 have F := Lib.hid (F.out.trans hf fun _ h => .inl h)
 clear hh hf CW
 go_wp2_with fail
 have z0 : ∀ y : Lcl.InS (fun w' => Fr (fun _ => False) W2 w'), y.w.cell? ⟨bx, 0, none⟩ = some (.pointer (some ⟨cb, 0, none⟩)) := fun y => y.h.cel ((cell_of BX.out 0).trans rfl)
 refine Lcl.wp_region_calm (by kernel_rfl) [(true, [1, 2, 3]), (false, [0])] #[0, 0, 2, 6, 15] [0, 1, 2, 3] 1 #[true, true, true, true, false] (by kernel_rfl) (by kernel_rfl) (by kernel_rfl) (fun w' => Fr (fun _ => False) W2 w') (Fr.same W2).drew (fun d c a v w h => by cases d <;> exact h) ?_
 simp only [Lcl.opsOf, List.map_cons, List.map_nil, List.getElem?_toArray, List.getElem?_cons_succ, List.getElem?_cons_zero, Option.getD_some]
 refine Lcl.wpCalm_t ?_
 repeat (go_big_quiet_step (rfl))
 refine wpQuiet_nil ?_
 refine Lcl.wpCalm_f ?_
 repeat (go_big_quiet_step (rfl))
 refine wpQuiet_nil ?_
 refine Lcl.wpCalm_nil ?_
 clear z0
 have BX := Lib.hid (BX.out.fr (Fr.same W2).drew fun h => h)
 have H := Lib.hid (H.out.old (Fr.same W2).drew)
 have X := Lib.hid (X.out.old (Fr.same W2).drew)
 have R := Lib.hid (R.out.old (Fr.same W2).drew)
 have ST := Lib.hid (ST.out.old (Fr.same W2).drew)
 have F := Lib.hid F.out.drew
 generalize W2.drew = V2 at *
 refine Lcl.wpG_run [4] _ _ _ (by kernel_rfl) ?_
 simp only [List.map_cons, List.map_nil, List.getElem?_toArray, List.getElem?_cons_succ, List.getElem?_cons_zero, Option.getD_some]
 have CW := Lib.hid (ctext_walk H.out ⟨xb, 1, none⟩ q.name 100 (by have := WF.out.name; omega) (X.out.cell 1) hne (by have := SZ.out.1; omega))
 go_wp2_with fail
 refine CW.out.mono ?_
 rintro e W3 ⟨rfl, hh, hf⟩
 have H := Lib.hid hh
 have X := Lib.hid (X.out.fr hf (by omega))
 have R := Lib.hid (R.out.fr hf (fun i hi => KC.out i hi))
 have ST := Lib.hid (ST.out.fr hf hcs)
 have BX := Lib.hid (BX.out.fr hf (by omega))
 have F := Lib.hid (F.out.trans hf fun _ h => .inl h)
 clear hh hf CW
 go_wp2_with fail
 have z0 : ∀ y : Lcl.InS (fun w' => Fr (fun _ => False) W3 w'), y.w.cell? ⟨bx, 0, none⟩ = some (.pointer (some ⟨cb, 0, none⟩)) := fun y => y.h.cel ((cell_of BX.out 0).trans rfl)
 refine Lcl.wp_region_calm (by kernel_rfl) [(true, [1, 2, 3, 4, 5, 6, 7, 8, 9]), (false, [0])] #[0, 0, 2, 6, 0, 16, 48, 0, 128, 384, 1022, 2047] [0, 1, 2, 3, 4, 5, 6, 7, 8, 9, 10] 2 #[true, true, true, true, true, true, true, true, true, true, false, false] (by kernel_rfl) (by kernel_rfl) (by kernel_rfl) (fun w' => Fr (fun _ => False) W3 w') (Fr.same W3).drew (fun d c a v w h => by cases d <;> exact h) ?_
 simp only [Lcl.opsOf, List.map_cons, List.map_nil, List.getElem?_toArray, List.getElem?_cons_succ, List.getElem?_cons_zero, Option.getD_some]
 refine Lcl.wpCalm_t ?_
 repeat (go_big_quiet_step (rfl))
 refine wpQuiet_nil ?_
 refine Lcl.wpCalm_f ?_
 repeat (go_big_quiet_step (rfl))
 refine wpQuiet_nil ?_
 refine Lcl.wpCalm_nil ?_
 clear z0
 have BX := Lib.hid (BX.out.fr (Fr.same W3).drew fun h => h)
 have H := Lib.hid (H.out.old (Fr.same W3).drew)
 have X := Lib.hid (X.out.old (Fr.same W3).drew)
 have R := Lib.hid (R.out.old (Fr.same W3).drew)
 have ST := Lib.hid (ST.out.old (Fr.same W3).drew)
 have F := Lib.hid F.out.drew
 have DR := Lib.hid (Fr.same W3).drew
 generalize W3.drew = V3 at *
 refine Lcl.wpG_one 10 rfl (by kernel_rfl) ?_
 have fa := (Fr.same V3).alloc (.cells #[.pointer (some ⟨xb, 2, none⟩), .pointer (some ⟨xb, 3, none⟩), .pointer (some ⟨xb, 4, none⟩)] 224)
 have xa := heap_alloc_self V3 (.cells #[.pointer (some ⟨xb, 2, none⟩), .pointer (some ⟨xb, 3, none⟩), .pointer (some ⟨xb, 4, none⟩)] 224)
 have AX := Lib.hid (cell_of xa)
 have hltB := lt_of_heap BX.out
 have hltX := lt_of_heap X.out.b
 have hltC := lt_of_heap H.out
 have AB := Lib.hid (show cb < V3.heap.size ∧ bx < V3.heap.size ∧ xb < V3.heap.size from ⟨hltC, hltB, hltX⟩)
 clear hltB hltX hltC
 have BX := Lib.hid (BX.out.fr fa fun h => h)
 have H := Lib.hid (H.out.old fa)
 have X := Lib.hid (X.out.old fa)
 have R := Lib.hid (R.out.old fa)
 have ST := Lib.hid (ST.out.old fa)
 have F := Lib.hid (F.out.trans fa fun _ h => h.elim)
 have DR := Lib.hid (DR.out.tr fa)
 clear fa xa
 go_wp2_with fail
 refine ⟨fun _ _ => DR.out, ?_⟩
 generalize (V3.alloc (.cells #[.pointer (some ⟨xb, 2, none⟩), .pointer (some ⟨xb, 3, none⟩), .pointer (some ⟨xb, 4, none⟩)] 224)) = U3 at *
 refine Lcl.wpG_run [11] _ _ _ (by kernel_rfl) ?_
 simp only [List.map_cons, List.map_nil, List.getElem?_toArray, List.getElem?_cons_succ, List.getElem?_cons_zero, Option.getD_some]
 have CW := Lib.hid (cplain_walk H.out ⟨V3.heap.size, 0, none⟩ [((⟨xb, 2, none⟩ : Addr), q.index), ((⟨xb, 3, none⟩ : Addr), q.count), ((⟨xb, 4, none⟩ : Addr), q.from')] (by simp) (by
  intro i x hx
  rcases i with _ | _ | _ | i
  ·obtain rfl := Option.some.inj hx
   exact ⟨by rw [add_lit]; exact (AX.out 0).trans rfl, X.out.cell 2, hne, WF.out.index⟩
  ·obtain rfl := Option.some.inj hx
   exact ⟨by rw [add_lit]; exact (AX.out 1).trans rfl, X.out.cell 3, hne, WF.out.count⟩
  ·obtain rfl := Option.some.inj hx
   exact ⟨by rw [add_lit]; exact (AX.out 2).trans rfl, X.out.cell 4, hne, WF.out.from'⟩
  all_goals simp at hx) (by show V3.heap.size ≠ cb; have := AB.out.1; omega) (by have := SZ.out.2; omega))
 simp only [List.map_cons, List.map_nil] at CW
 go_wp2_with fail
 refine CW.out.mono ?_
 rintro e W4 ⟨rfl, hh, hf⟩
 have H := Lib.hid hh
 have X := Lib.hid (X.out.fr hf (by omega))
 have R := Lib.hid (R.out.fr hf (fun i hi => KC.out i hi))
 have ST := Lib.hid (ST.out.fr hf hcs)
 have BX := Lib.hid (BX.out.fr hf (by omega))
 have F := Lib.hid (F.out.trans hf fun _ h => .inl h)
 clear hh hf CW
 go_wp2_with fail
 have z0 : ∀ y : Lcl.InS (fun w' => Fr (fun _ => False) W4 w'), y.w.cell? ⟨bx, 0, none⟩ = some (.pointer (some ⟨cb, 0, none⟩)) := fun y => y.h.cel ((cell_of BX.out 0).trans rfl)
 refine Lcl.wp_region_calm (by kernel_rfl) [(true, [1, 2, 3]), (false, [0])] #[0, 0, 2, 6, 15] [0, 1, 2, 3] 1 #[true, true, true, true, false] (by kernel_rfl) (by kernel_rfl) (by kernel_rfl) (fun w' => Fr (fun _ => False) W4 w') (Fr.same W4).drew (fun d c a v w h => by cases d <;> exact h) ?_
 simp only [Lcl.opsOf, List.map_cons, List.map_nil, List.getElem?_toArray, List.getElem?_cons_succ, List.getElem?_cons_zero, Option.getD_some]
 refine Lcl.wpCalm_t ?_
 repeat (go_big_quiet_step (rfl))
 refine wpQuiet_nil ?_
 refine Lcl.wpCalm_f ?_
 repeat (go_big_quiet_step (rfl))
 refine wpQuiet_nil ?_
 refine Lcl.wpCalm_nil ?_
 clear z0
 have BX := Lib.hid (BX.out.fr (Fr.same W4).drew fun h => h)
 have H := Lib.hid (H.out.old (Fr.same W4).drew)
 have X := Lib.hid (X.out.old (Fr.same W4).drew)
 have R := Lib.hid (R.out.old (Fr.same W4).drew)
 have ST := Lib.hid (ST.out.old (Fr.same W4).drew)
 have F := Lib.hid F.out.drew
 generalize W4.drew = V4 at *
 refine Lcl.wpG_run [4] _ _ _ (by kernel_rfl) ?_
 simp only [List.map_cons, List.map_nil, List.getElem?_toArray, List.getElem?_cons_succ, List.getElem?_cons_zero, Option.getD_some]
 have CW := Lib.hid (cflag_walk H.out xb 5 _ 41 q.flag X.out.b rfl hne (by have := SZ3.out; omega))
 go_wp2_with fail
 refine CW.out.mono ?_
 rintro e W5 ⟨rfl, hh, hf⟩
 have H := Lib.hid hh
 have X := Lib.hid (X.out.fr hf (by omega))
 have R := Lib.hid (R.out.fr hf (fun i hi => KC.out i hi))
 have ST := Lib.hid (ST.out.fr hf hcs)
 have BX := Lib.hid (BX.out.fr hf (by omega))
 have F := Lib.hid (F.out.trans hf fun _ h => .inl h)
 clear hh hf CW
 go_wp2_with fail
 have z0 : ∀ y : Lcl.InS (fun w' => Fr (fun _ => False) W5 w'), y.w.cell? ⟨bx, 0, none⟩ = some (.pointer (some ⟨cb, 0, none⟩)) := fun y => y.h.cel ((cell_of BX.out 0).trans rfl)
 refine Lcl.wp_region_calm (by kernel_rfl) [(true, [1, 2, 3]), (false, [0])] #[0, 0, 2, 6, 15] [0, 1, 2, 3] 1 #[true, true, true, true, false] (by kernel_rfl) (by kernel_rfl) (by kernel_rfl) (fun w' => Fr (fun _ => False) W5 w') (Fr.same W5).drew (fun d c a v w h => by cases d <;> exact h) ?_
 simp only [Lcl.opsOf, List.map_cons, List.map_nil, List.getElem?_toArray, List.getElem?_cons_succ, List.getElem?_cons_zero, Option.getD_some]
 refine Lcl.wpCalm_t ?_
 repeat (go_big_quiet_step (rfl))
 refine wpQuiet_nil ?_
 refine Lcl.wpCalm_f ?_
 repeat (go_big_quiet_step (rfl))
 refine wpQuiet_nil ?_
 refine Lcl.wpCalm_nil ?_
 clear z0
 have BX := Lib.hid (BX.out.fr (Fr.same W5).drew fun h => h)
 have H := Lib.hid (H.out.old (Fr.same W5).drew)
 have X := Lib.hid (X.out.old (Fr.same W5).drew)
 have R := Lib.hid (R.out.old (Fr.same W5).drew)
 have ST := Lib.hid (ST.out.old (Fr.same W5).drew)
 have F := Lib.hid F.out.drew
 generalize W5.drew = V5 at *
 refine Lcl.wpG_run [4] _ _ _ (by kernel_rfl) ?_
 simp only [List.map_cons, List.map_nil, List.getElem?_toArray, List.getElem?_cons_succ, List.getElem?_cons_zero, Option.getD_some]
 have CW := Lib.hid (cbatch_walk H.out xb 6 K q.bat rv X.out.batAt R.out hne (fun h => KC.out _ h rfl) (by have := SZ4.out; omega) ST.out)
 go_wp2_with fail
 refine CW.out.mono ?_
 rintro e W6 ⟨rfl, hh, hf⟩
 have H := Lib.hid hh
 have X := Lib.hid (X.out.fr hf (by omega))
 have R := Lib.hid (R.out.fr hf (fun i hi => KC.out i hi))
 have ST := Lib.hid (ST.out.fr hf hcs)
 have BX := Lib.hid (BX.out.fr hf (by omega))
 have F := Lib.hid (F.out.trans hf fun _ h => .inl h)
 clear hh hf CW
 go_wp2_with fail
 have z0 : ∀ y : Lcl.InS (fun w' => Fr (fun _ => False) W6 w'), y.w.cell? ⟨bx, 0, none⟩ = some (.pointer (some ⟨cb, 0, none⟩)) := fun y => y.h.cel ((cell_of BX.out 0).trans rfl)
 refine Lcl.wp_region_calm (by kernel_rfl) [(true, [1, 2, 3]), (false, [0])] #[0, 0, 2, 6, 15] [0, 1, 2, 3] 1 #[true, true, true, true, false] (by kernel_rfl) (by kernel_rfl) (by kernel_rfl) (fun w' => Fr (fun _ => False) W6 w') (Fr.same W6).drew (fun d c a v w h => by cases d <;> exact h) ?_
 simp only [Lcl.opsOf, List.map_cons, List.map_nil, List.getElem?_toArray, List.getElem?_cons_succ, List.getElem?_cons_zero, Option.getD_some]
 refine Lcl.wpCalm_t ?_
 repeat (go_big_quiet_step (rfl))
 refine wpQuiet_nil ?_
 refine Lcl.wpCalm_f ?_
 repeat (go_big_quiet_step (rfl))
 refine wpQuiet_nil ?_
 refine Lcl.wpCalm_nil ?_
 clear z0
 have BX := Lib.hid (BX.out.fr (Fr.same W6).drew fun h => h)
 have H := Lib.hid (H.out.old (Fr.same W6).drew)
 have X := Lib.hid (X.out.old (Fr.same W6).drew)
 have R := Lib.hid (R.out.old (Fr.same W6).drew)
 have ST := Lib.hid (ST.out.old (Fr.same W6).drew)
 have F := Lib.hid F.out.drew
 generalize W6.drew = V6 at *
 refine Lcl.wpG_run [4] _ _ _ (by kernel_rfl) ?_
 simp only [List.map_cons, List.map_nil, List.getElem?_toArray, List.getElem?_cons_succ, List.getElem?_cons_zero, Option.getD_some]
 have CW := Lib.hid (FIL.out _ _ _ F.out H.out (by have := SZ5.out; omega))
 go_wp2_with fail
 refine CW.out.mono ?_
 rintro e W7 ⟨rfl, hh, hf⟩
 have H := Lib.hid hh
 have X := Lib.hid (X.out.fr hf (by omega))
 have R := Lib.hid (R.out.fr hf (fun i hi => KC.out i hi))
 have ST := Lib.hid (ST.out.fr hf hcs)
 have BX := Lib.hid (BX.out.fr hf (by omega))
 have F := Lib.hid (F.out.trans hf fun _ h => .inl h)
 clear hh hf CW
 go_wp2_with fail
 have z0 : ∀ y : Lcl.InS (fun w' => Fr (fun _ => False) W7 w'), y.w.cell? ⟨bx, 0, none⟩ = some (.pointer (some ⟨cb, 0, none⟩)) := fun y => y.h.cel ((cell_of BX.out 0).trans rfl)
 refine Lcl.wp_region_calm (by kernel_rfl) [(true, [1, 2, 3]), (false, [0])] #[0, 0, 2, 6, 15] [0, 1, 2, 3] 1 #[true, true, true, true, false] (by kernel_rfl) (by kernel_rfl) (by kernel_rfl) (fun w' => Fr (fun _ => False) W7 w') (Fr.same W7).drew (fun d c a v w h => by cases d <;> exact h) ?_
 simp only [Lcl.opsOf, List.map_cons, List.map_nil, List.getElem?_toArray, List.getElem?_cons_succ, List.getElem?_cons_zero, Option.getD_some]
 refine Lcl.wpCalm_t ?_
 repeat (go_big_quiet_step (rfl))
 refine wpQuiet_nil ?_
 refine Lcl.wpCalm_f ?_
 repeat (go_big_quiet_step (rfl))
 refine wpQuiet_nil ?_
 refine Lcl.wpCalm_nil ?_
 clear z0
 have BX := Lib.hid (BX.out.fr (Fr.same W7).drew fun h => h)
 have H := Lib.hid (H.out.old (Fr.same W7).drew)
 have X := Lib.hid (X.out.old (Fr.same W7).drew)
 have R := Lib.hid (R.out.old (Fr.same W7).drew)
 have ST := Lib.hid (ST.out.old (Fr.same W7).drew)
 have F := Lib.hid F.out.drew
 generalize W7.drew = V7 at *
 refine Lcl.wpG_run [4] _ _ _ (by kernel_rfl) ?_
 simp only [List.map_cons, List.map_nil, List.getElem?_toArray, List.getElem?_cons_succ, List.getElem?_cons_zero, Option.getD_some]
 have CW := Lib.hid (ctext_walk H.out ⟨xb, 16, none⟩ q.group 100 (by have := WF.out.group; omega) (X.out.cell 16) hne (by have := SZ6.out; omega))
 go_wp2_with fail
 refine CW.out.mono ?_
 rintro e W8 ⟨rfl, hh, hf⟩
 have H := Lib.hid hh
 have X := Lib.hid (X.out.fr hf (by omega))
 have R := Lib.hid (R.out.fr hf (fun i hi => KC.out i hi))
 have ST := Lib.hid (ST.out.fr hf hcs)
 have BX := Lib.hid (BX.out.fr hf (by omega))
 have F := Lib.hid (F.out.trans hf fun _ h => .inl h)
 clear hh hf CW
 go_wp2_with fail
 have z0 : ∀ y : Lcl.InS (fun w' => Fr (fun _ => False) W8 w'), y.w.cell? ⟨bx, 0, none⟩ = some (.pointer (some ⟨cb, 0, none⟩)) := fun y => y.h.cel ((cell_of BX.out 0).trans rfl)
 refine Lcl.wp_region_calm (by kernel_rfl) [(true, [1, 2, 3, 4, 5, 6]), (false, [0])] #[0, 0, 2, 6, 0, 16, 48, 126, 255] [0, 1, 2, 3, 4, 5, 6, 7] 2 #[true, true, true, true, true, true, true, false, false] (by kernel_rfl) (by kernel_rfl) (by kernel_rfl) (fun w' => Fr (fun _ => False) W8 w') (Fr.same W8).drew (fun d c a v w h => by cases d <;> exact h) ?_
 simp only [Lcl.opsOf, List.map_cons, List.map_nil, List.getElem?_toArray, List.getElem?_cons_succ, List.getElem?_cons_zero, Option.getD_some]
 refine Lcl.wpCalm_t ?_
 repeat (go_big_quiet_step (rfl))
 refine wpQuiet_nil ?_
 refine Lcl.wpCalm_f ?_
 repeat (go_big_quiet_step (rfl))
 refine wpQuiet_nil ?_
 refine Lcl.wpCalm_nil ?_
 clear z0
 have BX := Lib.hid (BX.out.fr (Fr.same W8).drew fun h => h)
 have H := Lib.hid (H.out.old (Fr.same W8).drew)
 have X := Lib.hid (X.out.old (Fr.same W8).drew)
 have R := Lib.hid (R.out.old (Fr.same W8).drew)
 have ST := Lib.hid (ST.out.old (Fr.same W8).drew)
 have F := Lib.hid F.out.drew
 have DR := Lib.hid (Fr.same W8).drew
 generalize W8.drew = V8 at *
 refine Lcl.wpG_one 7 rfl (by kernel_rfl) ?_
 have fa := (Fr.same V8).alloc (.cells #[.pointer (some ⟨xb, 17, none⟩), .pointer (some ⟨xb, 18, none⟩)] 224)
 have xa := heap_alloc_self V8 (.cells #[.pointer (some ⟨xb, 17, none⟩), .pointer (some ⟨xb, 18, none⟩)] 224)
 have AX := Lib.hid (cell_of xa)
 have hltB := lt_of_heap BX.out
 have hltX := lt_of_heap X.out.b
 have hltC := lt_of_heap H.out
 have AB := Lib.hid (show cb < V8.heap.size ∧ bx < V8.heap.size ∧ xb < V8.heap.size from ⟨hltC, hltB, hltX⟩)
 clear hltB hltX hltC
 have BX := Lib.hid (BX.out.fr fa fun h => h)
 have H := Lib.hid (H.out.old fa)
 have X := Lib.hid (X.out.old fa)
 have R := Lib.hid (R.out.old fa)
 have ST := Lib.hid (ST.out.old fa)
 have F := Lib.hid (F.out.trans fa fun _ h => h.elim)
 have DR := Lib.hid (DR.out.tr fa)
 clear fa xa
 go_wp2_with fail
 refine ⟨fun _ _ => DR.out, ?_⟩
 generalize (V8.alloc (.cells #[.pointer (some ⟨xb, 17, none⟩), .pointer (some ⟨xb, 18, none⟩)] 224)) = U8 at *
 refine Lcl.wpG_run [8] _ _ _ (by kernel_rfl) ?_
 simp only [List.map_cons, List.map_nil, List.getElem?_toArray, List.getElem?_cons_succ, List.getElem?_cons_zero, Option.getD_some]
 have CW := Lib.hid (cplain_walk H.out ⟨V8.heap.size, 0, none⟩ [((⟨xb, 17, none⟩ : Addr), q.member), ((⟨xb, 18, none⟩ : Addr), q.gen)] (by simp) (by
  intro i x hx
  rcases i with _ | _ | _ | i
  ·obtain rfl := Option.some.inj hx
   exact ⟨by rw [add_lit]; exact (AX.out 0).trans rfl, X.out.cell 17, hne, WF.out.member⟩
  ·obtain rfl := Option.some.inj hx
   exact ⟨by rw [add_lit]; exact (AX.out 1).trans rfl, X.out.cell 18, hne, WF.out.gen⟩
  all_goals simp at hx) (by show V8.heap.size ≠ cb; have := AB.out.1; omega) (by have := SZ7.out; omega))
 simp only [List.map_cons, List.map_nil] at CW
 go_wp2_with fail
 refine CW.out.mono ?_
 rintro e W9 ⟨rfl, hh, hf⟩
 have H := Lib.hid hh
 have X := Lib.hid (X.out.fr hf (by omega))
 have R := Lib.hid (R.out.fr hf (fun i hi => KC.out i hi))
 have ST := Lib.hid (ST.out.fr hf hcs)
 have BX := Lib.hid (BX.out.fr hf (by omega))
 have F := Lib.hid (F.out.trans hf fun _ h => .inl h)
 clear hh hf CW
 go_wp2_with fail
 have z0 : ∀ y : Lcl.InS (fun w' => Fr (fun _ => False) W9 w'), y.w.cell? ⟨bx, 0, none⟩ = some (.pointer (some ⟨cb, 0, none⟩)) := fun y => y.h.cel ((cell_of BX.out 0).trans rfl)
 refine Lcl.wp_region_calm (by kernel_rfl) [(true, [1, 2, 3]), (false, [0])] #[0, 0, 2, 6, 0, 31] [0, 1, 2, 3, 4] 2 #[true, true, true, true, false, false] (by kernel_rfl) (by kernel_rfl) (by kernel_rfl) (fun w' => Fr (fun _ => False) W9 w') (Fr.same W9).drew (fun d c a v w h => by cases d <;> exact h) ?_
 simp only [Lcl.opsOf, List.map_cons, List.map_nil, List.getElem?_toArray, List.getElem?_cons_succ, List.getElem?_cons_zero, Option.getD_some]
 refine Lcl.wpCalm_t ?_
 repeat (go_big_quiet_step (rfl))
 refine wpQuiet_nil ?_
 refine Lcl.wpCalm_f ?_
 repeat (go_big_quiet_step (rfl))
 refine wpQuiet_nil ?_
 refine Lcl.wpCalm_nil ?_
 clear z0
 have BX := Lib.hid (BX.out.fr (Fr.same W9).drew fun h => h)
 have H := Lib.hid (H.out.old (Fr.same W9).drew)
 have X := Lib.hid (X.out.old (Fr.same W9).drew)
 have R := Lib.hid (R.out.old (Fr.same W9).drew)
 have ST := Lib.hid (ST.out.old (Fr.same W9).drew)
 have F := Lib.hid F.out.drew
 have DR := Lib.hid (Fr.same W9).drew
 generalize W9.drew = V9 at *
 refine Lcl.wpG_one 4 rfl (by kernel_rfl) ?_
 go_wp2_with fail
 refine ⟨fun _ _ => DR.out, ?_⟩
 refine Lcl.wpG_run [5] _ _ _ (by kernel_rfl) ?_
 simp only [List.map_cons, List.map_nil, List.getElem?_toArray, List.getElem?_cons_succ, List.getElem?_cons_zero, Option.getD_some]
 have CW := Lib.hid (TOP.out _ bx _ _ F.out H.out BX.out (by omega) (by have := SZ8.out; omega))
 go_wp2_with fail
 refine CW.out.mono ?_
 rintro e W10 ⟨rfl, ⟨s9, hh, heq, hsz⟩, hf⟩
 have HEQ := Lib.hid heq
 have HSZ := Lib.hid hsz
 clear heq hsz
 have H := Lib.hid hh
 have X := Lib.hid (X.out.fr hf (by omega))
 have R := Lib.hid (R.out.fr hf (fun i hi => KC.out i hi))
 have ST := Lib.hid (ST.out.fr hf hcs)
 have BX := Lib.hid (BX.out.fr hf (by omega))
 have F := Lib.hid (F.out.trans hf fun _ h => .inl h)
 clear hh hf CW
 go_wp2_with fail
 go_end0
 unfold reqS reqB
 exact ⟨rfl, ⟨s9, H.out, HEQ.out, HSZ.out⟩, F.out⟩
end
end Go.Proofs.YtfdhofabgdkkkaaGreatDoor
