/- A machine: Do, of a request that produces: the walk. -/
import Derived.Test.YtfdhofabgdkkkaaGreatDoorQ31
namespace Go.Proofs.YtfdhofabgdkkkaaGreatDoor
open Go.RowKit Go.Fm Go.BigFrame Go.Shelf Go.Maps
set_option linter.unusedVariables false
set_option linter.unusedSimpArgs false
set_option maxRecDepth 100000
theorem EncIn.keep {w w' : World} {q : Req} {rv kv tv : Value} {K : Nat → Prop} {ft lt : ByteArray} {fok lok : Bool} (h : EncIn w q rv kv tv K ft lt fok lok) (hf : Fr (fun _ => False) w w') : EncIn w' q rv kv tv K ft lt fok lok :=
 ⟨h.recs.old hf, fun i hi => Nat.lt_of_lt_of_le (h.old i hi) hf.size, h.wf, h.steps.old hf, h.fts, fun w2 cb xb h1 h2 h3 => h.fil w2 cb xb (hf.tr h1) (Nat.le_trans hf.size h2) (Nat.le_trans hf.size h3), fun w2 cb xb h1 h2 h3 => h.top w2 cb xb (hf.tr h1) (Nat.le_trans hf.size h2) (Nat.le_trans hf.size h3)⟩
section
variable {w w' : World} {S : Nat → Prop}
theorem prod_fr {d : PartD} {b0 : Bat} {e : Ending} (h : ProdPost w d b0 e w') : Fr d.T w w' := by
 rcases h with ⟨-, -, h⟩ | ⟨-, x, ag, c, -, ⟨-, -, h⟩ | ⟨-, -, -, d', -, -, -, -, -, -, -, -, h⟩⟩
 ·exact h.mono fun _ h => h.elim
 ·exact h.mono fun _ h => h.elim
 ·exact h
set_option maxHeartbeats 64000000 in
theorem do_produce {m : MachD} (hM : MachA w m) (q : Req) (rv kv tv : Value) (K : Nat → Prop) (ft lt : ByteArray) (fok lok : Bool) (hE : EncIn w q rv kv tv K ft lt fok lok) (hsz : (reqS ByteArray.empty q ft lt).size ≤ 2000000000000000) (hk : q.kind = 4)
  {d : PartD} (hd : findM m q.name q.index = some d) {p : Place} (hp : (p, d) ∈ m.L) (hen : 0 ≤ d.en ∧ d.en ≤ 1099511627776) (hn : d.n < 100000) (hb : d.bats.length < 100000) (now : Int) :
  Calls Tryz.prog 12 #[.pointer (some ⟨m.mb, 0, none⟩), .agg (reqC q rv kv tv), .int .i64 now] w (DoProd w m p d q.bat (encOk q ft lt fok lok)) := by
 have f2 := ((Fr.same w).alloc (.cells #[.int .i64 4, .string q.name, .int .i64 q.index, .int .i64 q.count, .int .i64 q.from', .bool q.flag, .int .i64 q.bat.base, .int .i64 q.bat.span, .int .i64 q.bat.prod, .int .i64 q.bat.epoch, .int .i64 q.bat.seq, rv, .int .i64 q.fop, .string q.fnm, .string q.fvl, kv, .string q.group, .int .i64 q.member, .int .i64 q.gen, tv] 41)).alloc (.cells #[.int .i64 0, .int .i64 0, .int .i64 0, .int .i64 0, .int .i64 0, .int .i64 0, .int .i64 0, .slice none 0 0, .slice none 0 0, .slice none 0 0] 31)
 have s1 : (w.alloc (.cells #[.int .i64 4, .string q.name, .int .i64 q.index, .int .i64 q.count, .int .i64 q.from', .bool q.flag, .int .i64 q.bat.base, .int .i64 q.bat.span, .int .i64 q.bat.prod, .int .i64 q.bat.epoch, .int .i64 q.bat.seq, rv, .int .i64 q.fop, .string q.fnm, .string q.fvl, kv, .string q.group, .int .i64 q.member, .int .i64 q.gen, tv] 41)).heap.size = w.heap.size + 1 := by simp
 have x1 := heap_alloc_self (w.alloc (.cells #[.int .i64 4, .string q.name, .int .i64 q.index, .int .i64 q.count, .int .i64 q.from', .bool q.flag, .int .i64 q.bat.base, .int .i64 q.bat.span, .int .i64 q.bat.prod, .int .i64 q.bat.epoch, .int .i64 q.bat.seq, rv, .int .i64 q.fop, .string q.fnm, .string q.fvl, kv, .string q.group, .int .i64 q.member, .int .i64 q.gen, tv] 41)) (.cells #[.int .i64 0, .int .i64 0, .int .i64 0, .int .i64 0, .int .i64 0, .int .i64 0, .int .i64 0, .slice none 0 0, .slice none 0 0, .slice none 0 0] 31)
 rw [s1] at x1
 have X1 := Lib.hid x1
 have xq := (heap_alloc_lt (.cells #[.int .i64 0, .int .i64 0, .int .i64 0, .int .i64 0, .int .i64 0, .int .i64 0, .int .i64 0, .slice none 0 0, .slice none 0 0, .slice none 0 0] 31) (lt_of_heap (heap_alloc_self w (.cells #[.int .i64 4, .string q.name, .int .i64 q.index, .int .i64 q.count, .int .i64 q.from', .bool q.flag, .int .i64 q.bat.base, .int .i64 q.bat.span, .int .i64 q.bat.prod, .int .i64 q.bat.epoch, .int .i64 q.bat.seq, rv, .int .i64 q.fop, .string q.fnm, .string q.fvl, kv, .string q.group, .int .i64 q.member, .int .i64 q.gen, tv] 41)))).trans (heap_alloc_self w (.cells #[.int .i64 4, .string q.name, .int .i64 q.index, .int .i64 q.count, .int .i64 q.from', .bool q.flag, .int .i64 q.bat.base, .int .i64 q.bat.span, .int .i64 q.bat.prod, .int .i64 q.bat.epoch, .int .i64 q.bat.seq, rv, .int .i64 q.fop, .string q.fnm, .string q.fvl, kv, .string q.group, .int .i64 q.member, .int .i64 q.gen, tv] 41))
 have XQ := Lib.hid xq
 have M2 := Lib.hid (hM.old f2)
 have LOW := Lib.hid hM.low
 have E2 := hE.keep f2
 have EN := Lib.hid E2
 have CW := Lib.hid (wencode_walk q rv kv tv K ft lt fok lok E2 hsz)
 have F2 := Lib.hid f2
 have WF := Lib.hid hE.wf
 clear f2 s1 x1 hM hE E2 hsz
 unfold reqC at CW ⊢
 rw [hk] at CW ⊢
 go_enter Tryz.func12, Tryz.ntmps12
 go_wp2_with (refine wpList_load_row rfl 41 _ rfl w.heap.size rfl 41 _ (0, 0) _ xq Tryz.underlying41 rfl (by kernel_rfl) ?_)
 clear xq
 generalize ((w.alloc (.cells #[.int .i64 4, .string q.name, .int .i64 q.index, .int .i64 q.count, .int .i64 q.from', .bool q.flag, .int .i64 q.bat.base, .int .i64 q.bat.span, .int .i64 q.bat.prod, .int .i64 q.bat.epoch, .int .i64 q.bat.seq, rv, .int .i64 q.fop, .string q.fnm, .string q.fvl, kv, .string q.group, .int .i64 q.member, .int .i64 q.gen, tv] 41)).alloc (.cells #[.int .i64 0, .int .i64 0, .int .i64 0, .int .i64 0, .int .i64 0, .int .i64 0, .int .i64 0, .slice none 0 0, .slice none 0 0, .slice none 0 0] 31)) = w2 at *
 refine CW.out.mono ?_
 rintro e w3 ⟨rfl, hf3⟩
 have M3 := Lib.hid (M2.out.old hf3)
 have E3 := Lib.hid (EN.out.keep hf3)
 have X1 := Lib.hid ((hf3.block _ (lt_of_heap X1.out) fun h => h).trans X1.out)
 have XQ := Lib.hid ((hf3.block _ (lt_of_heap XQ.out) fun h => h).trans XQ.out)
 have F3 := Lib.hid (F2.out.tr hf3)
 have LR := Lib.hid (lt_of_heap X1.out)
 clear hf3 CW M2 EN F2
 have henc : ∃ b, b = encOk q ft lt fok lok := ⟨_, rfl⟩
 obtain ⟨enc, henc⟩ := henc
 rw [← henc]
 have HENC := Lib.hid henc
 clear henc
 cases enc
 ·unfold encV
  simp only [Bool.false_eq_true, if_false]
  go_wp2_with fail
  refine (tells_bad 0 1 (by decide) w3).mono ?_
  rintro e w8 ⟨rfl, hf8⟩
  have X8 := (hf8.block _ (lt_of_heap X1.out) fun h => h).trans X1.out
  have R9 := setRow_heap w8 (w.heap.size + 1) _ (repA 1 0 0 0 0 0 0 (.slice none 0 0) (.slice none 0 0) (.slice none 0 0)) 31 (0, 0) X8
  have fE := frRow (S := fun i => i = w.heap.size + 1) (Fr.refl _ w8) (.inl rfl) (repA 1 0 0 0 0 0 0 (.slice none 0 0) (.slice none 0 0) (.slice none 0 0))
  have MF := Lib.hid ((M3.out.old hf8).fr fE (fun i hi e => by have := LOW.out.1 i hi; omega) fun x hx i hi e => by have := LOW.out.2 x hx i hi; omega)
  have FF := Lib.hid ((F3.out.tr hf8).trans fE fun i e => .inr (by omega))
  clear hf8 fE
  go_wp2_with (refine wpList_store31 rfl _ _ rfl (w.heap.size + 1) 1 0 rfl rfl _ X8 rfl ?_)
  try simp only [Exit.inBlock, Exit.then]
  refine bodyPost_ret (results_cell_row rfl _ _ (w.heap.size + 1) 31 _ (0, 0) _ rfl R9 Tryz.underlying31 rfl (by kernel_rfl)) rfl ?_
  exact ⟨1, 0, rfl, .inl ⟨.inl HENC.out.symm, rfl, rfl, MF.out, FF.out⟩⟩
 ·unfold encV
  simp only [if_true]
  have FW := Lib.hid (mfind_walk M3.out q.name q.index (by have := WF.out.name; unfold maxLen; omega) WF.out.index)
  rw [hd] at FW
  unfold pptr at FW
  have dq := fun j => cell_of XQ.out j
  go_wp2_with fail
  refine FW.out.mono ?_
  rintro e w4 ⟨rfl, hf4⟩
  have M4 := Lib.hid (M3.out.old hf4)
  have E4 := Lib.hid (E3.out.keep hf4)
  have X1 := Lib.hid ((hf4.block _ (lt_of_heap X1.out) fun h => h).trans X1.out)
  have XQ := Lib.hid ((hf4.block _ (lt_of_heap XQ.out) fun h => h).trans XQ.out)
  have F4 := Lib.hid (F3.out.tr hf4)
  clear hf4 FW M3 E3 F3 dq
  have dq := fun j => cell_of XQ.out j
  have hmm := @run_makeMap Tryz.prog
  obtain ⟨w6, w7, w8, w9, r6, r7, r8, r9, l4, l5, f6, f7, f8, f9⟩ := four w4 d.xb
  have XQ9 := (f9.block _ (lt_of_heap XQ.out) fun h => h).trans XQ.out
  have q9 := cell_of XQ9 0
  have q6 := cell_of ((f8.block _ (lt_of_heap XQ.out) fun h => h).trans XQ.out) 0
  have F9 := Lib.hid f9
  have E9 := Lib.hid (E4.out.keep f9)
  have M9 := Lib.hid (M4.out.old f9)
  clear f6 f7 f8 f9 l5
  go_wp2_with (refine wpList_load_row rfl 41 _ rfl w.heap.size rfl 41 _ (0, 0) _ XQ9 Tryz.underlying41 rfl (by kernel_rfl) ?_)
  have PW := Lib.hid (produce_walk (M9.out.part _ hp) q rv kv tv K E9.out.recs E9.out.steps hen hn hb)
  unfold reqC at PW
  rw [hk] at PW
  refine PW.out.mono ?_
  rintro e w10 hpp
  have hfr := prod_fr hpp
  obtain ⟨ee, cc, rfl⟩ := prod_tell hpp
  have PP := Lib.hid hpp
  have X9 := (F9.out.block _ (lt_of_heap X1.out) fun h => h).trans X1.out
  have X10 := (hfr.block _ (lt_of_heap X9) (fun h => by have := LOW.out.2 _ hp _ h; omega)).trans X9
  have RBL := Lib.hid (lt_of_heap X9)
  have R10 := setRow_heap w10 (w.heap.size + 1) _ (repA ee cc 0 0 0 0 0 (.slice none 0 0) (.slice none 0 0) (.slice none 0 0)) 31 (0, 0) X10
  clear hpp hfr PW X9 XQ9 q9 q6 r6 r7 r8 r9 l4 hmm dq
  go_wp2_with (refine wpList_store31 rfl _ _ rfl (w.heap.size + 1) ee cc rfl rfl _ X10 rfl ?_)
  try simp only [Exit.inBlock, Exit.then]
  refine bodyPost_ret (results_cell_row rfl _ _ (w.heap.size + 1) 31 _ (0, 0) _ rfl R10 Tryz.underlying31 rfl (by kernel_rfl)) rfl ?_
  rw [← HENC.out]
  exact prod_do hp M9.out (F4.out.tr F9.out) PP.out LOW.out (fun i => i = w.heap.size + 1) (fun i e => ⟨by omega, by have := RBL.out; omega⟩) (frRow (S := fun i => i = w.heap.size + 1) (g := w.heap.size + 1) (Fr.refl _ w10) (.inl rfl) _)
end
end Go.Proofs.YtfdhofabgdkkkaaGreatDoor
/- A machine: Do, of a request that makes a topic, that asks for a number. -/
namespace Go.Proofs.YtfdhofabgdkkkaaGreatDoor
open Go.RowKit Go.Fm Go.BigFrame Go.Shelf Go.Maps
set_option linter.unusedVariables false
set_option linter.unusedSimpArgs false
set_option maxRecDepth 100000
section
variable {w w' : World} {S : Nat → Prop}
set_option maxHeartbeats 64000000 in
theorem do_none {m : MachD} (hM : MachA w m) (q : Req) (rv kv tv : Value) (K : Nat → Prop) (ft lt : ByteArray) (fok lok : Bool) (hE : EncIn w q rv kv tv K ft lt fok lok) (hsz : (reqS ByteArray.empty q ft lt).size ≤ 2000000000000000) (he : encOk q ft lt fok lok = true) (hk : q.kind = 5) (hd : findM m q.name q.index = none) (now : Int) :
  Calls Tryz.prog 12 #[.pointer (some ⟨m.mb, 0, none⟩), .agg (reqC q rv kv tv), .int .i64 now] w fun e w' => e = .returned (tellV 6 0) ∧ MachA w' m ∧ Fr (fun _ => False) w w' := by
 have f2 := ((Fr.same w).alloc (.cells #[.int .i64 5, .string q.name, .int .i64 q.index, .int .i64 q.count, .int .i64 q.from', .bool q.flag, .int .i64 q.bat.base, .int .i64 q.bat.span, .int .i64 q.bat.prod, .int .i64 q.bat.epoch, .int .i64 q.bat.seq, rv, .int .i64 q.fop, .string q.fnm, .string q.fvl, kv, .string q.group, .int .i64 q.member, .int .i64 q.gen, tv] 41)).alloc (.cells #[.int .i64 0, .int .i64 0, .int .i64 0, .int .i64 0, .int .i64 0, .int .i64 0, .int .i64 0, .slice none 0 0, .slice none 0 0, .slice none 0 0] 31)
 have s1 : (w.alloc (.cells #[.int .i64 5, .string q.name, .int .i64 q.index, .int .i64 q.count, .int .i64 q.from', .bool q.flag, .int .i64 q.bat.base, .int .i64 q.bat.span, .int .i64 q.bat.prod, .int .i64 q.bat.epoch, .int .i64 q.bat.seq, rv, .int .i64 q.fop, .string q.fnm, .string q.fvl, kv, .string q.group, .int .i64 q.member, .int .i64 q.gen, tv] 41)).heap.size = w.heap.size + 1 := by simp
 have x1 := heap_alloc_self (w.alloc (.cells #[.int .i64 5, .string q.name, .int .i64 q.index, .int .i64 q.count, .int .i64 q.from', .bool q.flag, .int .i64 q.bat.base, .int .i64 q.bat.span, .int .i64 q.bat.prod, .int .i64 q.bat.epoch, .int .i64 q.bat.seq, rv, .int .i64 q.fop, .string q.fnm, .string q.fvl, kv, .string q.group, .int .i64 q.member, .int .i64 q.gen, tv] 41)) (.cells #[.int .i64 0, .int .i64 0, .int .i64 0, .int .i64 0, .int .i64 0, .int .i64 0, .int .i64 0, .slice none 0 0, .slice none 0 0, .slice none 0 0] 31)
 rw [s1] at x1
 have X1 := Lib.hid x1
 have xq := (heap_alloc_lt (.cells #[.int .i64 0, .int .i64 0, .int .i64 0, .int .i64 0, .int .i64 0, .int .i64 0, .int .i64 0, .slice none 0 0, .slice none 0 0, .slice none 0 0] 31) (lt_of_heap (heap_alloc_self w (.cells #[.int .i64 5, .string q.name, .int .i64 q.index, .int .i64 q.count, .int .i64 q.from', .bool q.flag, .int .i64 q.bat.base, .int .i64 q.bat.span, .int .i64 q.bat.prod, .int .i64 q.bat.epoch, .int .i64 q.bat.seq, rv, .int .i64 q.fop, .string q.fnm, .string q.fvl, kv, .string q.group, .int .i64 q.member, .int .i64 q.gen, tv] 41)))).trans (heap_alloc_self w (.cells #[.int .i64 5, .string q.name, .int .i64 q.index, .int .i64 q.count, .int .i64 q.from', .bool q.flag, .int .i64 q.bat.base, .int .i64 q.bat.span, .int .i64 q.bat.prod, .int .i64 q.bat.epoch, .int .i64 q.bat.seq, rv, .int .i64 q.fop, .string q.fnm, .string q.fvl, kv, .string q.group, .int .i64 q.member, .int .i64 q.gen, tv] 41))
 have XQ := Lib.hid xq
 have M2 := Lib.hid (hM.old f2)
 have LOW := Lib.hid hM.low
 have E2 := hE.keep f2
 have EN := Lib.hid E2
 have CW := Lib.hid (wencode_walk q rv kv tv K ft lt fok lok E2 hsz)
 have F2 := Lib.hid f2
 have WF := Lib.hid hE.wf
 clear f2 s1 x1 hM hE E2 hsz
 unfold reqC at CW ⊢
 rw [hk] at CW ⊢
 go_enter Tryz.func12, Tryz.ntmps12
 go_wp2_with (refine wpList_load_row rfl 41 _ rfl w.heap.size rfl 41 _ (0, 0) _ xq Tryz.underlying41 rfl (by kernel_rfl) ?_)
 clear xq
 generalize ((w.alloc (.cells #[.int .i64 5, .string q.name, .int .i64 q.index, .int .i64 q.count, .int .i64 q.from', .bool q.flag, .int .i64 q.bat.base, .int .i64 q.bat.span, .int .i64 q.bat.prod, .int .i64 q.bat.epoch, .int .i64 q.bat.seq, rv, .int .i64 q.fop, .string q.fnm, .string q.fvl, kv, .string q.group, .int .i64 q.member, .int .i64 q.gen, tv] 41)).alloc (.cells #[.int .i64 0, .int .i64 0, .int .i64 0, .int .i64 0, .int .i64 0, .int .i64 0, .int .i64 0, .slice none 0 0, .slice none 0 0, .slice none 0 0] 31)) = w2 at *
 refine CW.out.mono ?_
 rintro e w3 ⟨rfl, hf3⟩
 have M3 := Lib.hid (M2.out.old hf3)
 have E3 := Lib.hid (EN.out.keep hf3)
 have X1 := Lib.hid ((hf3.block _ (lt_of_heap X1.out) fun h => h).trans X1.out)
 have XQ := Lib.hid ((hf3.block _ (lt_of_heap XQ.out) fun h => h).trans XQ.out)
 have F3 := Lib.hid (F2.out.tr hf3)
 have LR := Lib.hid (lt_of_heap X1.out)
 clear hf3 CW M2 EN F2
 have henc : ∃ b, b = encOk q ft lt fok lok := ⟨_, rfl⟩
 obtain ⟨enc, henc⟩ := henc
 rw [← henc]
 have HENC := Lib.hid henc
 clear henc
 cases enc
 ·exact absurd (HENC.out.trans he) (by decide)
 ·unfold encV
  simp only [if_true]
  have FW := Lib.hid (mfind_walk M3.out q.name q.index (by have := WF.out.name; unfold maxLen; omega) WF.out.index)
  rw [hd] at FW
  unfold pptr at FW
  have dq := fun j => cell_of XQ.out j
  go_wp2_with fail
  refine FW.out.mono ?_
  rintro e w4 ⟨rfl, hf4⟩
  have M4 := Lib.hid (M3.out.old hf4)
  have E4 := Lib.hid (E3.out.keep hf4)
  have X1 := Lib.hid ((hf4.block _ (lt_of_heap X1.out) fun h => h).trans X1.out)
  have XQ := Lib.hid ((hf4.block _ (lt_of_heap XQ.out) fun h => h).trans XQ.out)
  have F4 := Lib.hid (F3.out.tr hf4)
  clear hf4 FW M3 E3 F3 dq
  have dq := fun j => cell_of XQ.out j
  go_wp2_with fail
  refine (tells_bad 0 6 (by decide) w4).mono ?_
  rintro e w8 ⟨rfl, hf8⟩
  have X8 := (hf8.block _ (lt_of_heap X1.out) fun h => h).trans X1.out
  have R9 := setRow_heap w8 (w.heap.size + 1) _ (repA 6 0 0 0 0 0 0 (.slice none 0 0) (.slice none 0 0) (.slice none 0 0)) 31 (0, 0) X8
  have fE := frRow (S := fun i => i = w.heap.size + 1) (Fr.refl _ w8) (.inl rfl) (repA 6 0 0 0 0 0 0 (.slice none 0 0) (.slice none 0 0) (.slice none 0 0))
  have MF := Lib.hid ((M4.out.old hf8).fr fE (fun i hi e => by have := LOW.out.1 i hi; omega) fun x hx i hi e => by have := LOW.out.2 x hx i hi; omega)
  have FF := Lib.hid ((F4.out.tr hf8).trans fE fun i e => .inr (by omega))
  clear hf8 fE
  go_wp2_with (refine wpList_store31 rfl _ _ rfl (w.heap.size + 1) 6 0 rfl rfl _ X8 rfl ?_)
  try simp only [Exit.inBlock, Exit.then]
  refine bodyPost_ret (results_cell_row rfl _ _ (w.heap.size + 1) 31 _ (0, 0) _ rfl R9 Tryz.underlying31 rfl (by kernel_rfl)) rfl ?_
  exact ⟨rfl, MF.out, FF.out⟩
end
end Go.Proofs.YtfdhofabgdkkkaaGreatDoor
