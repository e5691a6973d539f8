/- A filter as text: Print; a request's filter. -/
import Derived.Test.YtfdhofabgdkkkaaGreatDoorU45
namespace Go.Proofs.YtfdhofabgdkkkaaGreatDoor
open Go.RowKit Go.Fm Go.BigFrame Go.Shelf Go.Maps
set_option linter.unusedVariables false
set_option linter.unusedSimpArgs false
set_option maxRecDepth 100000
section
variable {w w' : World} {S : Nat → Prop} {K : Nat → Prop}
theorem capF_sz : ∀ (F : Fst) (n : Nat), capF F n < 100 → capF F n = n + F.sz
 | .nil, n, h => by simp [capF, Fst.sz]
 | .cons op nm vl ks r, n, h => by
  rw [capF_cons] at h ⊢
  by_cases h1 : 100 ≤ n
  ·rw [if_pos h1] at h; omega
  ·rw [if_neg h1] at h ⊢
   have h2 := capF_ge r (capF ks (n + 1))
   have h3 := capF_sz ks (n + 1) (by omega)
   have h4 := capF_sz r _ h
   rw [h4, h3]
   simp only [Fst.sz]
   omega
theorem exL_len {op : Int} {nm vl : ByteArray} {ks : Fst} (h : checkB op nm vl ks = true) : (exL op nm vl ks).length ≤ 60630 := by
 unfold checkB at h
 simp only [Bool.and_eq_true, decide_eq_true_eq] at h
 obtain ⟨h1, h2⟩ := h
 obtain ⟨h3, h4⟩ := part_fits h2
 have e := capF_sz ks 1 (by omega)
 have := opL_len (fits_in h3)
 have := exK_len ks _ h4
 unfold exL
 rw [List.length_append]
 omega
def exS (op : Int) (nm vl : ByteArray) (ks : Fst) : ByteArray := ⟨(exL op nm vl ks).toArray⟩
theorem exS_size (op : Int) (nm vl : ByteArray) (ks : Fst) : (exS op nm vl ks).size = (exL op nm vl ks).length := by simp [exS, ByteArray.size]
/-- What Print tells: whether a filter may be, and its bytes. -/
def PrPost (ok : Bool) (s : ByteArray) (w : World) (e : Ending) (w' : World) : Prop := e = .returned (.tuple #[.string (if ok then s else ⟨#[]⟩), .int .i64 (if ok then 0 else 1)]) ∧ Fr (fun _ => False) w w'
set_option maxHeartbeats 32000000 in
theorem print_walk (op : Int) (nm vl : ByteArray) (kv : Value) (ks : Fst) (hk : KidR K w kv ks) (ho : ∀ i, K i → i < w.heap.size) : Calls Tryz.prog 189 #[exV op nm vl kv] w (PrPost (checkB op nm vl ks) (exS op nm vl ks) w) := by
 obtain ⟨oa, cap, rfl, -⟩ := id hk
 have f1 := (Fr.same w).alloc (.cells #[.int .i64 op, .string nm, .string vl, .slice oa ks.len cap] 38)
 have CH := Lib.hid (xcheck_walk op nm vl _ ks (hk.old f1) fun i hi => Nat.lt_of_lt_of_le (ho i hi) f1.size)
 have F1 := Lib.hid f1
 have X1 := Lib.hid (heap_alloc_self w (.cells #[.int .i64 op, .string nm, .string vl, .slice oa ks.len cap] 38))
 have KW := Lib.hid hk
 have dx := cell_alloc_new w #[.int .i64 op, .string nm, .string vl, .slice oa ks.len cap] 38
 unfold exV at CH ⊢
 clear f1 hk
 go_enter Tryz.func189, Tryz.ntmps189
 go_wp2_with fail
 generalize (w.alloc (.cells #[.int .i64 op, .string nm, .string vl, .slice oa ks.len cap] 38)) = w1 at *
 refine CH.out.mono ?_
 rintro e w2 ⟨rfl, f2⟩
 have F2 := Lib.hid (F1.out.tr f2)
 have X2 := Lib.hid (blk X1.out f2 fun h => h)
 clear f2 CH dx F1 X1
 obtain ⟨cb, hcb⟩ : ∃ cb, cb = checkB op nm vl ks := ⟨_, rfl⟩
 rw [← hcb]
 have HCB := Lib.hid hcb
 clear hcb
 cases cb with
 | false =>
  simp only [Bool.false_eq_true, if_false]
  go_wp2_with fail
  go_ret2
  refine ⟨?_, F2.out⟩
  rw [← HCB.out]
  rfl
 | true =>
  simp only [if_true]
  have hp : partB op nm vl ks 6 = true := by
   have := HCB.out.symm
   unfold checkB at this
   simp only [Bool.and_eq_true] at this
   exact this.2
  have hl := exL_len HCB.out.symm
  have WW := Lib.hid (xwrite_walk (K := K) w2.heap.size (fun i hi => Nat.lt_of_lt_of_le (ho i hi) F2.out.size) (ks.sz + 1) ks op nm vl _ 6 (.slice none 0 0) [] w2 (by omega) hp (by simp; omega) (KW.out.old F2.out) (Nat.le_refl _) (World.ownsRow_nil _ _ _ _))
  unfold exV at WW
  have dx := cell_of X2.out
  go_wp2_with fail
  refine WW.out.mono ?_
  rintro e w3 ⟨v3, rfl, o3, g3⟩
  have F3 := Lib.hid (F2.out.tr g3.top)
  rw [List.nil_append] at o3
  unfold Own5 at o3
  obtain ⟨L, hL⟩ : ∃ L, L = exL op nm vl ks := ⟨_, rfl⟩
  rw [← hL] at o3
  have hpos : 0 < L.length := by rw [hL]; unfold exL opL; simp
  have HL := Lib.hid hL
  obtain ⟨og, cg, rfl, hat⟩ := own_at o3
  obtain ⟨gg, rfl, -, -, hcell⟩ := hat hpos
  have hconv := run_convert_bytes_back (P := Tryz.prog) w3 305 9 5 ⟨gg, 0, none⟩ cg L Tryz.underlying305 Tryz.underlying5 Tryz.underlying9 (fun j hj => by
   rw [add_lit]
   refine hcell j _ ?_
   rw [List.getElem?_map, List.getElem?_eq_getElem hj]; rfl)
  clear o3 g3 WW dx hat hcell hL hpos hp hl
  go_wp2_with fail
  go_ret2
  refine ⟨?_, F3.out⟩
  rw [← HCB.out]
  unfold exS
  rw [← HL.out]
  rfl
end
end Go.Proofs.YtfdhofabgdkkkaaGreatDoor
/- A machine that is none; what goes to it, and comes back. -/
namespace Go.Proofs.YtfdhofabgdkkkaaGreatDoor
open Go.RowKit Go.Fm Go.BigFrame Go.Shelf Go.Maps
set_option linter.unusedVariables false
set_option linter.unusedSimpArgs false
set_option maxRecDepth 100000
section
variable {P : Program} {w : World}
/-- A struct that stands within a greater one is loaded. -/
theorem run_loadVar_at (p : Addr) (ty : TypeId) (vs : List Value) (d : TypeDesc) (hc : ∀ j v, vs[j]? = some v → w.cell? (p.add j) = some v)
  (hu : P.underlying ty = some d) (hd : (match d with | .struct _ | .array _ _ => true | _ => false) = true) (hi : (P.info? ty).map (·.size) = some vs.length) :
  (loadVar ty p).run P w = .ok (.agg vs.toArray) w := by
 have hl : (loadCells p vs.length).run P w = .ok vs.toArray w := run_loadCells_list (P := P) w p vs hc
 cases hq : P.info? ty with
 | none => simp [hq] at hi
 | some i =>
  have hs : i.size = vs.length := by simpa [hq] using hi
  have hagg : (isAgg ty).run P w = .ok true w := by
   unfold isAgg
   rw [Sem.run_bind, run_underlying hu w]
   cases d <;> simp_all
  simp [loadVar, Sem.run_bind, hagg, sizeOf, typeInfo, hq, hs, hl]
theorem wpList_load_at {ops : Array Oper} {rest : List Oper} {o : Oper} {a : Act} {Q : Exit → Act → World → Prop} (hgd : o.guard = none) (ty : TypeId) (x : Operand) (ho : o.op = .load ty x)
  (p : Addr) (hx : a.eval x = .pointer (some p)) (vs : List Value) (d : TypeDesc) (hc : ∀ j v, vs[j]? = some v → w.cell? (p.add j) = some v)
  (hu : P.underlying ty = some d) (hd : (match d with | .struct _ | .array _ _ => true | _ => false) = true) (hi : (P.info? ty).map (·.size) = some vs.length)
  (h : wpList P ops Q rest (a.put o.dst (.agg vs.toArray)) w) : wpList P ops Q (o :: rest) a w :=
 wpList_plain hgd fun _ hK => by
  unfold Oper.wp execOp
  simp only [ho, hx, Instr.loadAt, Instr.sureAddr, Sem.run_bind, Sem.run_pure, Result.andThen_ok, run_loadVar_at p ty vs d hc hu hd hi]
  exact hK _ _ h
theorem wpQuiet_load_at {ops : Array Oper} {rest : List Oper} {o : Oper} {a : Act} {Q : Act → Prop} {C : World → Prop} (hgd : o.guard = none) (ty : TypeId) (x : Operand) (ho : o.op = .load ty x)
  (p : Addr) (hx : a.eval x = .pointer (some p)) (vs : List Value) (d : TypeDesc) (hc : ∀ w, C w → ∀ j v, vs[j]? = some v → w.cell? (p.add j) = some v)
  (hu : P.underlying ty = some d) (hd : (match d with | .struct _ | .array _ _ => true | _ => false) = true) (hi : (P.info? ty).map (·.size) = some vs.length)
  (h : wpQuiet P ops C Q rest (a.put o.dst (.agg vs.toArray))) : wpQuiet P ops C Q (o :: rest) a := by
 refine BigFrame.wpQuiet_want (by unfold Region.wanted; rw [hgd]) fun K hK => ⟨.agg vs.toArray, fun w hw => ?_, hK _ h⟩
 unfold Oper.quietAt execOp
 simp only [ho, hx, Instr.loadAt, Instr.sureAddr, Sem.run_bind, Sem.run_pure, Result.andThen_ok, run_loadVar_at p ty vs d (hc w hw) hu hd hi]
 exact ⟨rfl, rfl⟩
end
section
variable {w w' : World} {S : Nat → Prop} {K : Nat → Prop}
theorem tick_none (now : Int) : Calls Tryz.prog 23 #[.pointer none, .int .i64 now] w fun e w' => e = .returned (.tuple #[]) ∧ w' = w := by
 go_enter Tryz.func23, Tryz.ntmps23
 go_wp2_with fail
 go_end0
 exact ⟨rfl, rfl⟩
theorem end_none (name : ByteArray) (ix : Int) : Calls Tryz.prog 16 #[.pointer none, .string name, .int .i64 ix] w fun e w' => e = .returned (.int .i64 (-1)) ∧ w' = w := by
 go_enter Tryz.func16, Tryz.ntmps16
 go_wp2_with fail
 go_ret
 exact ⟨rfl, rfl⟩
/-- A request for a machine that is none. -/
theorem do_nil (q : Req) (rv kv tv : Value) (K : Nat → Prop) (ft lt : ByteArray) (fok lok : Bool) (hE : EncIn w q rv kv tv K ft lt fok lok) (now : Int) :
  Calls Tryz.prog 12 #[.pointer none, .agg (reqC q rv kv tv), .int .i64 now] w fun e w' => e = .returned (tellV 1 0) ∧ Fr (fun _ => False) w w' := by
 have f2 := ((Fr.same w).alloc (.cells #[.int .i64 q.kind, .string q.name, .int .i64 q.index, .int .i64 q.count, .int .i64 q.from', .bool q.flag, .int .i64 q.bat.base, .int .i64 q.bat.span, .int .i64 q.bat.prod, .int .i64 q.bat.epoch, .int .i64 q.bat.seq, rv, .int .i64 q.fop, .string q.fnm, .string q.fvl, kv, .string q.group, .int .i64 q.member, .int .i64 q.gen, tv] 41)).alloc (.cells #[.int .i64 0, .int .i64 0, .int .i64 0, .int .i64 0, .int .i64 0, .int .i64 0, .int .i64 0, .slice none 0 0, .slice none 0 0, .slice none 0 0] 31)
 have s1 : (w.alloc (.cells #[.int .i64 q.kind, .string q.name, .int .i64 q.index, .int .i64 q.count, .int .i64 q.from', .bool q.flag, .int .i64 q.bat.base, .int .i64 q.bat.span, .int .i64 q.bat.prod, .int .i64 q.bat.epoch, .int .i64 q.bat.seq, rv, .int .i64 q.fop, .string q.fnm, .string q.fvl, kv, .string q.group, .int .i64 q.member, .int .i64 q.gen, tv] 41)).heap.size = w.heap.size + 1 := by simp
 have x1 := heap_alloc_self (w.alloc (.cells #[.int .i64 q.kind, .string q.name, .int .i64 q.index, .int .i64 q.count, .int .i64 q.from', .bool q.flag, .int .i64 q.bat.base, .int .i64 q.bat.span, .int .i64 q.bat.prod, .int .i64 q.bat.epoch, .int .i64 q.bat.seq, rv, .int .i64 q.fop, .string q.fnm, .string q.fvl, kv, .string q.group, .int .i64 q.member, .int .i64 q.gen, tv] 41)) (.cells #[.int .i64 0, .int .i64 0, .int .i64 0, .int .i64 0, .int .i64 0, .int .i64 0, .int .i64 0, .slice none 0 0, .slice none 0 0, .slice none 0 0] 31)
 rw [s1] at x1
 have X1 := Lib.hid x1
 have xq := (heap_alloc_lt (.cells #[.int .i64 0, .int .i64 0, .int .i64 0, .int .i64 0, .int .i64 0, .int .i64 0, .int .i64 0, .slice none 0 0, .slice none 0 0, .slice none 0 0] 31) (lt_of_heap (heap_alloc_self w (.cells #[.int .i64 q.kind, .string q.name, .int .i64 q.index, .int .i64 q.count, .int .i64 q.from', .bool q.flag, .int .i64 q.bat.base, .int .i64 q.bat.span, .int .i64 q.bat.prod, .int .i64 q.bat.epoch, .int .i64 q.bat.seq, rv, .int .i64 q.fop, .string q.fnm, .string q.fvl, kv, .string q.group, .int .i64 q.member, .int .i64 q.gen, tv] 41)))).trans (heap_alloc_self w (.cells #[.int .i64 q.kind, .string q.name, .int .i64 q.index, .int .i64 q.count, .int .i64 q.from', .bool q.flag, .int .i64 q.bat.base, .int .i64 q.bat.span, .int .i64 q.bat.prod, .int .i64 q.bat.epoch, .int .i64 q.bat.seq, rv, .int .i64 q.fop, .string q.fnm, .string q.fvl, kv, .string q.group, .int .i64 q.member, .int .i64 q.gen, tv] 41))
 have E2 := hE.keep f2
 have CW := Lib.hid (wencode_walk' q rv kv tv K ft lt fok lok E2)
 have F2 := Lib.hid f2
 clear f2 s1 x1 hE E2
 unfold reqC at CW ⊢
 go_enter Tryz.func12, Tryz.ntmps12
 go_wp2_with (refine wpList_load_row rfl 41 _ rfl w.heap.size rfl 41 _ (0, 0) _ xq Tryz.underlying41 rfl (by kernel_rfl) ?_)
 clear xq
 generalize ((w.alloc (.cells #[.int .i64 q.kind, .string q.name, .int .i64 q.index, .int .i64 q.count, .int .i64 q.from', .bool q.flag, .int .i64 q.bat.base, .int .i64 q.bat.span, .int .i64 q.bat.prod, .int .i64 q.bat.epoch, .int .i64 q.bat.seq, rv, .int .i64 q.fop, .string q.fnm, .string q.fvl, kv, .string q.group, .int .i64 q.member, .int .i64 q.gen, tv] 41)).alloc (.cells #[.int .i64 0, .int .i64 0, .int .i64 0, .int .i64 0, .int .i64 0, .int .i64 0, .int .i64 0, .slice none 0 0, .slice none 0 0, .slice none 0 0] 31)) = w2 at *
 refine CW.out.mono ?_
 rintro e w3 ⟨rfl, hf3⟩
 have X1 := Lib.hid ((hf3.block _ (lt_of_heap X1.out) fun h => h).trans X1.out)
 have F3 := Lib.hid (F2.out.tr hf3)
 have LR := Lib.hid (lt_of_heap X1.out)
 clear hf3 CW F2
 obtain ⟨v0, v1, hv⟩ : ∃ v0 v1, encV (reqS ByteArray.empty q ft lt) (encOk q ft lt fok lok) = .tuple #[v0, v1] := by
  unfold encV
  split <;> exact ⟨_, _, rfl⟩
 rw [hv]
 clear hv
 go_wp2_with fail
 refine (tells_bad 0 1 (by decide) w3).mono ?_
 rintro e w8 ⟨rfl, hf8⟩
 have X8 := (hf8.block _ (lt_of_heap X1.out) fun h => h).trans X1.out
 have R9 := setRow_heap w8 (w.heap.size + 1) _ (repA 1 0 0 0 0 0 0 (.slice none 0 0) (.slice none 0 0) (.slice none 0 0)) 31 (0, 0) X8
 have fE := frRow (S := fun i => i = w.heap.size + 1) (Fr.refl _ w8) (.inl rfl) (repA 1 0 0 0 0 0 0 (.slice none 0 0) (.slice none 0 0) (.slice none 0 0))
 have FF := Lib.hid ((F3.out.tr hf8).trans fE fun i e => .inr (by omega))
 clear hf8 fE
 go_wp2_with (refine wpList_store31 rfl _ _ rfl (w.heap.size + 1) 1 0 rfl rfl _ X8 rfl ?_)
 try simp only [Exit.inBlock, Exit.then]
 refine bodyPost_ret (results_cell_row rfl _ _ (w.heap.size + 1) 31 _ (0, 0) _ rfl R9 Tryz.underlying31 rfl (by kernel_rfl)) rfl ?_
 exact ⟨rfl, FF.out⟩
end
end Go.Proofs.YtfdhofabgdkkkaaGreatDoor
