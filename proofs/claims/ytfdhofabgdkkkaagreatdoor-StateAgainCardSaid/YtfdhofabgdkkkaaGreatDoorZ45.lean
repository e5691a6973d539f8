/- A machine: Do, of a request that makes a topic, that asks for a number. -/
import Derived.Test.YtfdhofabgdkkkaaGreatDoorZ44
namespace Go.Proofs.YtfdhofabgdkkkaaGreatDoor
open Go.RowKit Go.Fm Go.BigFrame Go.Shelf Go.Maps
set_option linter.unusedVariables false
set_option linter.unusedSimpArgs false
set_option maxRecDepth 100000
section
variable {w w' : World} {S : Nat → Prop}
set_option maxHeartbeats 64000000 in
theorem do_none {m : MachD} (hM : MachA w m) (q : Req) (rv kv tv : Value) (K : Nat → Prop) (ft lt : ByteArray) (fok lok : Bool) (hE : EncIn w q rv kv tv K ft lt fok lok) (hsz : (reqS ByteArray.empty q ft lt).size ≤ 1000000) (he : encOk q ft lt fok lok = true) (hk : q.kind = 5) (hd : findM m q.name q.index = none) (now : Int) :
  Calls Tryz.prog 12 #[.pointer (some ⟨m.mb, 0, none⟩), .agg (reqC q rv kv tv), .int .i64 now] w fun e w' => e = .returned (tellV 6 0) ∧ MachA w' m ∧ Fr (fun _ => False) w w' := by
 have f2 := ((Fr.same w).alloc (.cells #[.int .i64 5, .string q.name, .int .i64 q.index, .int .i64 q.count, .int .i64 q.from', .bool q.flag, .int .i64 q.bat.base, .int .i64 q.bat.span, .int .i64 q.bat.prod, .int .i64 q.bat.epoch, .int .i64 q.bat.seq, rv, .int .i64 q.fop, .string q.fnm, .string q.fvl, kv, .string q.group, .int .i64 q.member, .int .i64 q.gen, tv] 41)).alloc (.cells #[.int .i64 0, .int .i64 0, .int .i64 0, .int .i64 0, .int .i64 0, .int .i64 0, .int .i64 0, .slice none 0 0, .slice none 0 0, .slice none 0 0] 31)
 have s1 : (w.alloc (.cells #[.int .i64 5, .string q.name, .int .i64 q.index, .int .i64 q.count, .int .i64 q.from', .bool q.flag, .int .i64 q.bat.base, .int .i64 q.bat.span, .int .i64 q.bat.prod, .int .i64 q.bat.epoch, .int .i64 q.bat.seq, rv, .int .i64 q.fop, .string q.fnm, .string q.fvl, kv, .string q.group, .int .i64 q.member, .int .i64 q.gen, tv] 41)).heap.size = w.heap.size + 1 := by simp
 have x1 := heap_alloc_self (w.alloc (.cells #[.int .i64 5, .string q.name, .int .i64 q.index, .int .i64 q.count, .int .i64 q.from', .bool q.flag, .int .i64 q.bat.base, .int .i64 q.bat.span, .int .i64 q.bat.prod, .int .i64 q.bat.epoch, .int .i64 q.bat.seq, rv, .int .i64 q.fop, .string q.fnm, .string q.fvl, kv, .string q.group, .int .i64 q.member, .int .i64 q.gen, tv] 41)) (.cells #[.int .i64 0, .int .i64 0, .int .i64 0, .int .i64 0, .int .i64 0, .int .i64 0, .int .i64 0, .slice none 0 0, .slice none 0 0, .slice none 0 0] 31)
 rw [s1] at x1
 have X1 := Lib.hid x1
 have xq := (heap_alloc_lt (.cells #[.int .i64 0, .int .i64 0, .int .i64 0, .int .i64 0, .int .i64 0, .int .i64 0, .int .i64 0, .slice none 0 0, .slice none 0 0, .slice none 0 0] 31) (lt_of_heap (heap_alloc_self w (.cells #[.int .i64 5, .string q.name, .int .i64 q.index, .int .i64 q.count, .int .i64 q.from', .bool q.flag, .int .i64 q.bat.base, .int .i64 q.bat.span, .int .i64 q.bat.prod, .int .i64 q.bat.epoch, .int .i64 q.bat.seq, rv, .int .i64 q.fop, .string q.fnm, .string q.fvl, kv, .string q.group, .int .i64 q.member, .int .i64 q.gen, tv] 41)))).trans (heap_alloc_self w (.cells #[.int .i64 5, .string q.name, .int .i64 q.index, .int .i64 q.count, .int .i64 q.from', .bool q.flag, .int .i64 q.bat.base, .int .i64 q.bat.span, .int .i64 q.bat.prod, .int .i64 q.bat.epoch, .int .i64 q.bat.seq, rv, .int .i64 q.fop, .string q.fnm, .string q.fvl, kv, .string q.group, .int .i64 q.member, .int .i64 q.gen, tv] 41))
 have XQ := Lib.hid xq
 have M2 := Lib.hid (hM.old f2)
 have LOW := Lib.hid hM.low
 have E2 := hE.keep f2
 have EN := Lib.hid E2
 have CW := Lib.hid (wencode_walk q rv kv tv K ft lt fok lok E2 hsz)
 have F2 := Lib.hid f2
 have WF := Lib.hid hE.wf
 clear f2 s1 x1 hM hE E2 hsz
 unfold reqC at CW ⊢
 rw [hk] at CW ⊢
 go_enter Tryz.func12, Tryz.ntmps12
 go_wp2_with (refine wpList_load_row rfl 41 _ rfl w.heap.size rfl 41 _ (0, 0) _ xq Tryz.underlying41 rfl (by kernel_rfl) ?_)
 clear xq
 generalize ((w.alloc (.cells #[.int .i64 5, .string q.name, .int .i64 q.index, .int .i64 q.count, .int .i64 q.from', .bool q.flag, .int .i64 q.bat.base, .int .i64 q.bat.span, .int .i64 q.bat.prod, .int .i64 q.bat.epoch, .int .i64 q.bat.seq, rv, .int .i64 q.fop, .string q.fnm, .string q.fvl, kv, .string q.group, .int .i64 q.member, .int .i64 q.gen, tv] 41)).alloc (.cells #[.int .i64 0, .int .i64 0, .int .i64 0, .int .i64 0, .int .i64 0, .int .i64 0, .int .i64 0, .slice none 0 0, .slice none 0 0, .slice none 0 0] 31)) = w2 at *
 refine CW.out.mono ?_
 rintro e w3 ⟨rfl, hf3⟩
 have M3 := Lib.hid (M2.out.old hf3)
 have E3 := Lib.hid (EN.out.keep hf3)
 have X1 := Lib.hid ((hf3.block _ (lt_of_heap X1.out) fun h => h).trans X1.out)
 have XQ := Lib.hid ((hf3.block _ (lt_of_heap XQ.out) fun h => h).trans XQ.out)
 have F3 := Lib.hid (F2.out.tr hf3)
 have LR := Lib.hid (lt_of_heap X1.out)
 clear hf3 CW M2 EN F2
 have henc : ∃ b, b = encOk q ft lt fok lok := ⟨_, rfl⟩
 obtain ⟨enc, henc⟩ := henc
 rw [← henc]
 have HENC := Lib.hid henc
 clear henc
 cases enc
 ·exact absurd (HENC.out.trans he) (by decide)
 ·unfold encV
  simp only [if_true]
  have FW := Lib.hid (mfind_walk M3.out q.name q.index (by have := WF.out.name; unfold maxLen; omega) WF.out.index)
  rw [hd] at FW
  unfold pptr at FW
  have dq := fun j => cell_of XQ.out j
  go_wp2_with fail
  refine FW.out.mono ?_
  rintro e w4 ⟨rfl, hf4⟩
  have M4 := Lib.hid (M3.out.old hf4)
  have E4 := Lib.hid (E3.out.keep hf4)
  have X1 := Lib.hid ((hf4.block _ (lt_of_heap X1.out) fun h => h).trans X1.out)
  have XQ := Lib.hid ((hf4.block _ (lt_of_heap XQ.out) fun h => h).trans XQ.out)
  have F4 := Lib.hid (F3.out.tr hf4)
  clear hf4 FW M3 E3 F3 dq
  have dq := fun j => cell_of XQ.out j
  go_wp2_with fail
  refine (tells_bad 0 6 (by decide) w4).mono ?_
  rintro e w8 ⟨rfl, hf8⟩
  have X8 := (hf8.block _ (lt_of_heap X1.out) fun h => h).trans X1.out
  have R9 := setRow_heap w8 (w.heap.size + 1) _ (repA 6 0 0 0 0 0 0 (.slice none 0 0) (.slice none 0 0) (.slice none 0 0)) 31 (0, 0) X8
  have fE := frRow (S := fun i => i = w.heap.size + 1) (Fr.refl _ w8) (.inl rfl) (repA 6 0 0 0 0 0 0 (.slice none 0 0) (.slice none 0 0) (.slice none 0 0))
  have MF := Lib.hid ((M4.out.old hf8).fr fE (fun i hi e => by have := LOW.out.1 i hi; omega) fun x hx i hi e => by have := LOW.out.2 x hx i hi; omega)
  have FF := Lib.hid ((F4.out.tr hf8).trans fE fun i e => .inr (by omega))
  clear hf8 fE
  go_wp2_with (refine wpList_store31 rfl _ _ rfl (w.heap.size + 1) 6 0 rfl rfl _ X8 rfl ?_)
  try simp only [Exit.inBlock, Exit.then]
  refine bodyPost_ret (results_cell_row rfl _ _ (w.heap.size + 1) 31 _ (0, 0) _ rfl R9 Tryz.underlying31 rfl (by kernel_rfl)) rfl ?_
  exact ⟨rfl, MF.out, FF.out⟩
set_option maxHeartbeats 64000000 in
theorem do_identify {m : MachD} (hM : MachA w m) (q : Req) (rv kv tv : Value) (K : Nat → Prop) (ft lt : ByteArray) (fok lok : Bool) (hE : EncIn w q rv kv tv K ft lt fok lok) (hsz : (reqS ByteArray.empty q ft lt).size ≤ 1000000) (he : encOk q ft lt fok lok = true) (hk : q.kind = 14) (hn : m.next < 1073741824) (now : Int) :
  Calls Tryz.prog 12 #[.pointer (some ⟨m.mb, 0, none⟩), .agg (reqC q rv kv tv), .int .i64 now] w fun e w' => e = .returned (tellV 0 m.next) ∧ MachA w' { m with next := m.next + 1 } ∧ Fr (fun i => i = m.mb) w w' := by
 have f2 := ((Fr.same w).alloc (.cells #[.int .i64 14, .string q.name, .int .i64 q.index, .int .i64 q.count, .int .i64 q.from', .bool q.flag, .int .i64 q.bat.base, .int .i64 q.bat.span, .int .i64 q.bat.prod, .int .i64 q.bat.epoch, .int .i64 q.bat.seq, rv, .int .i64 q.fop, .string q.fnm, .string q.fvl, kv, .string q.group, .int .i64 q.member, .int .i64 q.gen, tv] 41)).alloc (.cells #[.int .i64 0, .int .i64 0, .int .i64 0, .int .i64 0, .int .i64 0, .int .i64 0, .int .i64 0, .slice none 0 0, .slice none 0 0, .slice none 0 0] 31)
 have s1 : (w.alloc (.cells #[.int .i64 14, .string q.name, .int .i64 q.index, .int .i64 q.count, .int .i64 q.from', .bool q.flag, .int .i64 q.bat.base, .int .i64 q.bat.span, .int .i64 q.bat.prod, .int .i64 q.bat.epoch, .int .i64 q.bat.seq, rv, .int .i64 q.fop, .string q.fnm, .string q.fvl, kv, .string q.group, .int .i64 q.member, .int .i64 q.gen, tv] 41)).heap.size = w.heap.size + 1 := by simp
 have x1 := heap_alloc_self (w.alloc (.cells #[.int .i64 14, .string q.name, .int .i64 q.index, .int .i64 q.count, .int .i64 q.from', .bool q.flag, .int .i64 q.bat.base, .int .i64 q.bat.span, .int .i64 q.bat.prod, .int .i64 q.bat.epoch, .int .i64 q.bat.seq, rv, .int .i64 q.fop, .string q.fnm, .string q.fvl, kv, .string q.group, .int .i64 q.member, .int .i64 q.gen, tv] 41)) (.cells #[.int .i64 0, .int .i64 0, .int .i64 0, .int .i64 0, .int .i64 0, .int .i64 0, .int .i64 0, .slice none 0 0, .slice none 0 0, .slice none 0 0] 31)
 rw [s1] at x1
 have X1 := Lib.hid x1
 have xq := (heap_alloc_lt (.cells #[.int .i64 0, .int .i64 0, .int .i64 0, .int .i64 0, .int .i64 0, .int .i64 0, .int .i64 0, .slice none 0 0, .slice none 0 0, .slice none 0 0] 31) (lt_of_heap (heap_alloc_self w (.cells #[.int .i64 14, .string q.name, .int .i64 q.index, .int .i64 q.count, .int .i64 q.from', .bool q.flag, .int .i64 q.bat.base, .int .i64 q.bat.span, .int .i64 q.bat.prod, .int .i64 q.bat.epoch, .int .i64 q.bat.seq, rv, .int .i64 q.fop, .string q.fnm, .string q.fvl, kv, .string q.group, .int .i64 q.member, .int .i64 q.gen, tv] 41)))).trans (heap_alloc_self w (.cells #[.int .i64 14, .string q.name, .int .i64 q.index, .int .i64 q.count, .int .i64 q.from', .bool q.flag, .int .i64 q.bat.base, .int .i64 q.bat.span, .int .i64 q.bat.prod, .int .i64 q.bat.epoch, .int .i64 q.bat.seq, rv, .int .i64 q.fop, .string q.fnm, .string q.fvl, kv, .string q.group, .int .i64 q.member, .int .i64 q.gen, tv] 41))
 have XQ := Lib.hid xq
 have M2 := Lib.hid (hM.old f2)
 have LOW := Lib.hid hM.low
 have E2 := hE.keep f2
 have EN := Lib.hid E2
 have CW := Lib.hid (wencode_walk q rv kv tv K ft lt fok lok E2 hsz)
 have F2 := Lib.hid f2
 have WF := Lib.hid hE.wf
 clear f2 s1 x1 hM hE E2 hsz
 unfold reqC at CW ⊢
 rw [hk] at CW ⊢
 go_enter Tryz.func12, Tryz.ntmps12
 go_wp2_with (refine wpList_load_row rfl 41 _ rfl w.heap.size rfl 41 _ (0, 0) _ xq Tryz.underlying41 rfl (by kernel_rfl) ?_)
 clear xq
 generalize ((w.alloc (.cells #[.int .i64 14, .string q.name, .int .i64 q.index, .int .i64 q.count, .int .i64 q.from', .bool q.flag, .int .i64 q.bat.base, .int .i64 q.bat.span, .int .i64 q.bat.prod, .int .i64 q.bat.epoch, .int .i64 q.bat.seq, rv, .int .i64 q.fop, .string q.fnm, .string q.fvl, kv, .string q.group, .int .i64 q.member, .int .i64 q.gen, tv] 41)).alloc (.cells #[.int .i64 0, .int .i64 0, .int .i64 0, .int .i64 0, .int .i64 0, .int .i64 0, .int .i64 0, .slice none 0 0, .slice none 0 0, .slice none 0 0] 31)) = w2 at *
 refine CW.out.mono ?_
 rintro e w3 ⟨rfl, hf3⟩
 have M3 := Lib.hid (M2.out.old hf3)
 have E3 := Lib.hid (EN.out.keep hf3)
 have X1 := Lib.hid ((hf3.block _ (lt_of_heap X1.out) fun h => h).trans X1.out)
 have XQ := Lib.hid ((hf3.block _ (lt_of_heap XQ.out) fun h => h).trans XQ.out)
 have F3 := Lib.hid (F2.out.tr hf3)
 have LR := Lib.hid (lt_of_heap X1.out)
 clear hf3 CW M2 EN F2
 have henc : ∃ b, b = encOk q ft lt fok lok := ⟨_, rfl⟩
 obtain ⟨enc, henc⟩ := henc
 rw [← henc]
 have HENC := Lib.hid henc
 clear henc
 cases enc
 ·exact absurd (HENC.out.trans he) (by decide)
 ·unfold encV
  simp only [if_true]
  have FW := Lib.hid (mfind_walk M3.out q.name q.index (by have := WF.out.name; unfold maxLen; omega) WF.out.index)
  obtain ⟨fd, hfd⟩ : ∃ fd, fd = findM m q.name q.index := ⟨_, rfl⟩
  rw [← hfd] at FW
  clear hfd
  have hpv : ∃ pa, pptr fd = .pointer pa := by cases fd <;> exact ⟨_, rfl⟩
  obtain ⟨pa, hpv⟩ := hpv
  rw [hpv] at FW
  clear hpv
  have dq := fun j => cell_of XQ.out j
  go_wp2_with fail
  refine FW.out.mono ?_
  rintro e w4 ⟨rfl, hf4⟩
  have M4 := Lib.hid (M3.out.old hf4)
  have E4 := Lib.hid (E3.out.keep hf4)
  have X1 := Lib.hid ((hf4.block _ (lt_of_heap X1.out) fun h => h).trans X1.out)
  have XQ := Lib.hid ((hf4.block _ (lt_of_heap XQ.out) fun h => h).trans XQ.out)
  have F4 := Lib.hid (F3.out.tr hf4)
  clear hf4 FW M3 E3 F3 dq
  have dq := fun j => cell_of XQ.out j
  have dm := fun j => cell_of M4.out.b j
  have zm := fun j => fz_of M4.out.b j
  have hnx := M4.out.nx
  have XM := Lib.hid (show MachA (w4.setCell ⟨m.mb, 2, none⟩ (.int .i64 (m.next + 1))) { m with next := m.next + 1 } from by
   have hf : Fr (fun i => i = m.mb) w4 (w4.setCell ⟨m.mb, 2, none⟩ (.int .i64 (m.next + 1))) := (Fr.refl (fun i => i = m.mb) w4).setCell (p := ⟨m.mb, 2, none⟩) (.inl rfl) _
   have h := M4.out
   obtain ⟨n1, n2, n3, n4, n5⟩ := h.n1
   exact ⟨(heap_setCell_self h.b _).trans rfl, h.top.fr hf (by omega) (by omega), h.map.fr hf (by omega), h.n1, h.pos, fun x hx => (h.part x hx).fr hf fun i hi e => h.off x hx i hi (.inl e), h.off, h.dis, h.ids, h.tn, by have := h.nx; dsimp only; omega⟩)
  have FX := Lib.hid ((F4.out.mono (S' := fun i => i = m.mb) fun _ h => h.elim).trans ((Fr.refl (fun i => i = m.mb) w4).setCell (p := ⟨m.mb, 2, none⟩) (.inl rfl) (.int .i64 (m.next + 1))) fun i e => .inl e)
  have lmb := LOW.out.1 _ (.inl rfl)
  have X1 := Lib.hid ((heap_setCell_ne w4 (show w.heap.size + 1 ≠ m.mb by omega) (o := 2) (.int .i64 (m.next + 1))).trans X1.out)
  have c2 : (w4.setCell ⟨m.mb, 2, none⟩ (.int .i64 (m.next + 1))).cell? ⟨m.mb, 2, none⟩ = some (.int .i64 (m.next + 1)) := (cell_of ((heap_setCell_self M4.out.b (o := 2) (.int .i64 (m.next + 1))).trans rfl) 2).trans rfl
  have e1 : m.next + 1 - 1 = m.next := by omega
  go_wp2_with fail
  try rw [e1]
  generalize (w4.setCell ⟨m.mb, 2, none⟩ (.int .i64 (m.next + 1))) = w5 at *
  refine (tells_ok m.next w5).mono ?_
  rintro e w8 ⟨rfl, hf8⟩
  have X8 := (hf8.block _ (lt_of_heap X1.out) fun h => h).trans X1.out
  have R9 := setRow_heap w8 (w.heap.size + 1) _ (repA 0 m.next 0 0 0 0 0 (.slice none 0 0) (.slice none 0 0) (.slice none 0 0)) 31 (0, 0) X8
  have fE := frRow (S := fun i => i = w.heap.size + 1) (Fr.refl _ w8) (.inl rfl) (repA 0 m.next 0 0 0 0 0 (.slice none 0 0) (.slice none 0 0) (.slice none 0 0))
  have MF := Lib.hid ((XM.out.old hf8).fr fE (fun i hi e => by have := LOW.out.1 i hi; omega) fun x hx i hi e => by have := LOW.out.2 x hx i hi; omega)
  have FF := Lib.hid ((FX.out.trans hf8 fun _ h => h.elim).trans fE fun i e => .inr (by omega))
  clear hf8 fE
  go_wp2_with (refine wpList_store31 rfl _ _ rfl (w.heap.size + 1) 0 m.next rfl rfl _ X8 rfl ?_)
  try simp only [Exit.inBlock, Exit.then]
  refine bodyPost_ret (results_cell_row rfl _ _ (w.heap.size + 1) 31 _ (0, 0) _ rfl R9 Tryz.underlying31 rfl (by kernel_rfl)) rfl ?_
  exact ⟨rfl, MF.out, FF.out⟩
end
end Go.Proofs.YtfdhofabgdkkkaaGreatDoor
