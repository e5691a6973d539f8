/- The filter that lets all through: Print; what goes through it and no topics. -/
import Derived.Test.YtfdhofabgdkkkaaGreatDoorU29
namespace Go.Proofs.YtfdhofabgdkkkaaGreatDoor
open Go.RowKit Go.Fm Go.BigFrame Go.Shelf Go.Maps
set_option linter.unusedVariables false
set_option linter.unusedSimpArgs false
set_option maxRecDepth 100000
section
variable {w w' : World} {cb xb : Nat} {s : ByteArray} {bad : Bool} {S : Nat → Prop}
def WrPost (w : World) (bs : List UInt8) (e : Ending) (w' : World) : Prop := ∃ v, e = .returned v ∧ w'.ownsRow w.heap.size 5 1 v bs.length (bs.map byteVal) ∧ Fr (fun _ => False) w w'
set_option maxHeartbeats 16000000 in
theorem xwrite_zero : Calls Tryz.prog 237 #[.slice none 0 0, .agg #[.int .i64 0, .string ⟨#[]⟩, .string ⟨#[]⟩, .slice none 0 0]] w (WrPost w [0]) := by
 obtain ⟨i, hi, hz, h1, h2⟩ := info_parts info5
 have f1 := (Fr.same w).alloc (.cells #[.int .i64 0, .string ⟨#[]⟩, .string ⟨#[]⟩, .slice none 0 0] 38)
 have s1 : (w.alloc (.cells #[.int .i64 0, .string ⟨#[]⟩, .string ⟨#[]⟩, .slice none 0 0] 38)).heap.size = w.heap.size + 1 := by simp
 have x1 := heap_alloc_self w (.cells #[.int .i64 0, .string ⟨#[]⟩, .string ⟨#[]⟩, .slice none 0 0] 38)
 have f2 := f1.alloc (.cells #[.int .u8 0] 5)
 have x2 := (heap_alloc_lt (.cells #[.int .u8 0] 5) (lt_of_heap x1)).trans x1
 have c2 : ((w.alloc (.cells #[.int .i64 0, .string ⟨#[]⟩, .string ⟨#[]⟩, .slice none 0 0] 38)).alloc (.cells #[.int .u8 0] 5)).cell? ⟨w.heap.size + 1, 0, none⟩ = some (.int .u8 0) := by rw [← s1]; exact cell_alloc_new _ _ 5 0
 have C2 := Lib.hid c2
 have F2 := Lib.hid f2
 have X2 := Lib.hid x2
 have D1 := fun j => cell_alloc_new w #[.int .i64 0, .string ⟨#[]⟩, .string ⟨#[]⟩, .slice none 0 0] 38 j
 have D2 := fun j => cell_of x2 j
 clear f1 s1 x1 f2 x2 c2
 go_enter Tryz.func237, Tryz.ntmps237
 go_wp2_with (at_builtin; refine wpList_append_own2 _ rfl (.tmp 7) (.tmp 11) 305 rfl w.heap.size 5 i (.int .u8 0) 1 1 Tryz.underlying305 hi hz h1 h2 rfl (by decide) (.slice none 0 0) 0 [] rfl (World.ownsRow_nil _ _ _ _) ⟨w.heap.size + 1, 0, none⟩ 1 1 [byteVal 0] rfl rfl ?c1 ?c2 ?c3 ?c4 ?c5 ?_)
 case c1 =>
  intro j u hj
  match j, hj with
  | 0, hj => simp at hj; subst hj; rw [add_lit]; exact C2.out
  | j + 1, hj => simp at hj
 case c2 => intro u hu; simp at hu; subst hu; rfl
 case c3 => unfold maxLen; omega
 case c4 => omega
 case c5 => exact F2.out.size
 intro v7 w7 ho7 hg7 hb7
 have hf7 : Fr (fun _ => False) w w7 := F2.out.grown hg7 fun k hk => by cases hk
 have X7 := (hg7.block _ (lt_of_heap X2.out) (by intro h; cases h)).trans X2.out
 have D7 := fun j => cell_of X7 j
 have O7 := Lib.hid ho7
 have F7 := Lib.hid hf7
 clear ho7 hg7 hf7 D1 D2 X7 hb7
 go_wp2_with fail
 refine wp_loop_rounds 1 ?_
 rw [rounds_succ]
 go_wp2_with fail
 go_ret
 exact ⟨_, rfl, O7.out, F7.out⟩
set_option maxHeartbeats 16000000 in
theorem xprint_zero : Calls Tryz.prog 189 #[.agg #[.int .i64 0, .string ⟨#[]⟩, .string ⟨#[]⟩, .slice none 0 0]] w fun e w' => e = .returned (.tuple #[.string ⟨#[0]⟩, .int .i64 0]) ∧ Fr (fun _ => False) w w' := by
 have f1 := Lib.hid ((Fr.same w).alloc (.cells #[.int .i64 0, .string ⟨#[]⟩, .string ⟨#[]⟩, .slice none 0 0] 38))
 have X1 := Lib.hid (heap_alloc_self w (.cells #[.int .i64 0, .string ⟨#[]⟩, .string ⟨#[]⟩, .slice none 0 0] 38))
 have D1 := fun j => cell_alloc_new w #[.int .i64 0, .string ⟨#[]⟩, .string ⟨#[]⟩, .slice none 0 0] 38 j
 go_enter Tryz.func189, Tryz.ntmps189
 go_wp2_with fail
 generalize (w.alloc (.cells #[.int .i64 0, .string ⟨#[]⟩, .string ⟨#[]⟩, .slice none 0 0] 38)) = W at *
 refine (xcheck_zero (w := W)).mono ?_
 rintro e w2 ⟨rfl, f2⟩
 have F2 := Lib.hid (f1.out.tr f2)
 have X2 := (f2.block _ (lt_of_heap X1.out) fun h => h).trans X1.out
 have d2 := fun j => cell_of X2 j
 clear f2 X1 X2 D1
 go_wp2_with fail
 refine (xwrite_zero (w := w2)).mono ?_
 rintro e w3 ⟨v, rfl, ho, f3⟩
 have F3 := Lib.hid (F2.out.tr f3)
 change w3.ownsRow w2.heap.size 5 1 v 1 _ at ho
 obtain ⟨og, cg, rfl, hat⟩ := own_at ho
 obtain ⟨gg, rfl, -, -, hcell⟩ := hat (by simp)
 have hconv := run_convert_bytes_back (P := Tryz.prog) w3 305 9 5 ⟨gg, 0, none⟩ cg [0] Tryz.underlying305 Tryz.underlying5 Tryz.underlying9 (fun j hj => by
  rw [add_lit]
  refine hcell j _ ?_
  rw [List.getElem?_map, List.getElem?_eq_getElem hj]; rfl)
 simp only [List.length_cons, List.length_nil, Nat.zero_add] at hconv
 clear f3 ho hat hcell d2
 go_wp2_with fail
 go_ret2
 exact ⟨rfl, F3.out⟩
set_option maxHeartbeats 16000000 in
theorem cfilter_zero (h : CodA w cb s bad) (q : Req) (rv tv : Value) (hx : ReqA w xb q rv (.slice none 0 0) tv) (h1 : q.fop = 0) (h2 : q.fnm = ⟨#[]⟩) (h3 : q.fvl = ⟨#[]⟩) (hne : xb ≠ cb) (hs : s.size ≤ 1600000000000000) :
  Calls Tryz.prog 123 #[.pointer (some ⟨cb, 0, none⟩), .pointer (some ⟨xb, 12, none⟩)] w (CodPost w cb (s ++ textS ⟨#[0]⟩) (bad || !true)) := by
 have hcb := lt_of_heap h
 have f0 := (Fr.same w).alloc (.cells #[.string ⟨#[]⟩] 9)
 have x0 := heap_alloc_self w (.cells #[.string ⟨#[]⟩] 9)
 have c0 : (w.alloc (.cells #[.string ⟨#[]⟩] 9)).cell? ⟨xb, 12, none⟩ = some (.int .i64 0) := f0.cel ((hx.cell 12).trans (by show some (Value.int .i64 q.fop) = _; rw [h1]))
 have c1 : (w.alloc (.cells #[.string ⟨#[]⟩] 9)).cell? ⟨xb, 13, none⟩ = some (.string ⟨#[]⟩) := f0.cel ((hx.cell 13).trans (by show some (Value.string q.fnm) = _; rw [h2]))
 have c2 : (w.alloc (.cells #[.string ⟨#[]⟩] 9)).cell? ⟨xb, 14, none⟩ = some (.string ⟨#[]⟩) := f0.cel ((hx.cell 14).trans (by show some (Value.string q.fvl) = _; rw [h3]))
 have c3 : (w.alloc (.cells #[.string ⟨#[]⟩] 9)).cell? ⟨xb, 15, none⟩ = some (.slice none 0 0) := f0.cel (hx.cell 15)
 have dd := fun j => cell_of (h.old f0) j
 have H0 := Lib.hid (h.old f0)
 have X0 := Lib.hid x0
 have F0 := Lib.hid f0
 clear f0 x0 h hx h1 h2 h3
 go_enter Tryz.func123, Tryz.ntmps123
 go_wp2_with fail
 generalize (w.alloc (.cells #[.string ⟨#[]⟩] 9)) = w0 at *
 refine (xprint_zero (w := w0)).mono ?_
 rintro e w1 ⟨rfl, f1⟩
 have H1 := Lib.hid (H0.out.old f1)
 have X1 := Lib.hid ((f1.block _ (lt_of_heap X0.out) fun h => h).trans X0.out)
 have F1 := Lib.hid (F0.out.tr f1)
 clear f1 c0 c1 c2 c3 dd H0 X0 F0
 have W := Lib.hid (cwant_walk H1.out true)
 go_wp2_with fail
 refine W.out.mono ?_
 rintro e w3 ⟨rfl, h3, f3⟩
 have X3 := (f3.block _ (lt_of_heap X1.out) (by omega)).trans X1.out
 have dd := fun j => cell_of X3 j
 have fz := fun j => fz_of X3 j
 have hf4 : Fr (fun i => i = w.heap.size) w3 (w3.setCell ⟨w.heap.size, 0, none⟩ (.string ⟨#[0]⟩)) := (Fr.refl (fun i => i = w.heap.size) w3).setCell (p := ⟨w.heap.size, 0, none⟩) (.inl rfl) _
 have x4 := heap_setCell_self X3 (o := 0) (.string ⟨#[0]⟩)
 have h4 := h3.fr hf4 (by omega)
 have F4 := Lib.hid (((F1.out.mono (S' := fun i => i = cb) fun _ h => h.elim).trans f3 fun _ h => .inl h).trans hf4 fun i h => .inr (by omega))
 have W4 := Lib.hid (ctext_walk h4 ⟨w.heap.size, 0, none⟩ ⟨#[0]⟩ 60000 (by decide) ((cell_of x4 0).trans rfl) (by show w.heap.size ≠ cb; omega) (by omega))
 rw [show ((bad || !true) || !okT ⟨#[0]⟩ 60000) = (bad || !true) by cases bad <;> rfl] at W4
 clear W h3 f3 X3 hf4 x4 h4
 go_wp2_with fail
 refine W4.out.mono ?_
 rintro e w5 ⟨rfl, h5, f5⟩
 have H5 := Lib.hid h5
 have F5 := Lib.hid (F4.out.trans f5 fun _ h => .inl h)
 have d5 := fun j => cell_of h5 j
 clear h5 f5 W4 dd fz
 go_wp2_with fail
 go_end0
 exact ⟨rfl, H5.out, F5.out⟩
set_option maxHeartbeats 16000000 in
theorem clist_nil (h : CodA w cb s bad) (q : Req) (rv kv : Value) (hx : ReqA w xb q rv kv (.slice none 0 0)) (bx : Nat) (hne : xb ≠ cb) (hs : s.size ≤ 1600000000000000) :
  Calls Tryz.prog 124 #[.pointer (some ⟨cb, 0, none⟩), .pointer (some ⟨xb, 19, none⟩), .int .i64 20, .func (.func 125) #[] #[.pointer (some ⟨bx, 0, none⟩)]] w (CodIf w cb (s ++ putS 0) (bad || !true)) := by
 have hcb := lt_of_heap h
 have c19 : w.cell? ⟨xb, 19, none⟩ = some (.slice none 0 0) := hx.cell 19
 have f0 := (Fr.same w).alloc (.cells #[.int .i64 0] 3)
 have x0 := heap_alloc_self w (.cells #[.int .i64 0] 3)
 have CW := Lib.hid (cnumber_walk (h.old f0) ⟨w.heap.size, 0, none⟩ 0 0 20 rfl ((cell_of x0 0).trans rfl) (by show w.heap.size ≠ cb; omega) (by omega))
 rw [show okN 0 0 20 = true from rfl] at CW
 have X0 := Lib.hid x0
 have F0 := Lib.hid f0
 clear f0 x0 h hx
 go_enter Tryz.func124, Tryz.ntmps124
 go_wp2_with fail
 generalize (w.alloc (.cells #[.int .i64 0] 3)) = w0 at *
 refine CW.out.mono ?_
 rintro e w1 ⟨rfl, h1, f1⟩
 have H1 := Lib.hid h1
 have d1 := fun j => cell_of h1 j
 have X1 := (f1.block _ (lt_of_heap X0.out) (by omega)).trans X0.out
 have e1 := fun j => cell_of X1 j
 have F1 := Lib.hid ((F0.out.mono (S' := fun i => i = cb) fun _ h => h.elim).trans f1 fun _ h => .inl h)
 clear f1 h1 CW X1 X0
 go_wp2_with fail
 refine wp_loop_rounds 1 ?_
 rw [rounds_succ]
 go_wp2_with fail
 go_end0
 exact ⟨rfl, ⟨_, H1.out, fun _ => rfl, by have := putS_size (n := 0) rfl; rw [ByteArray.size_append]; omega⟩, F1.out⟩
theorem filG_zero (q : Req) (rv tv : Value) (h1 : q.fop = 0) (h2 : q.fnm = ⟨#[]⟩) (h3 : q.fvl = ⟨#[]⟩) : FilG w q rv (.slice none 0 0) tv (textS ⟨#[0]⟩) true :=
 fun w1 cb xb hf h4 h5 hne hx w2 s bad hf2 hc hs => cfilter_zero hc q rv tv (hx.fr hf2 hne) h1 h2 h3 hne hs
theorem topG_nil (q : Req) (rv kv : Value) : TopG w q rv kv (.slice none 0 0) (putS 0) true :=
 fun w1 cb xb hf h4 h5 hne hx w2 bx s bad hf2 hc hb hbn hs => clist_nil hc q rv kv (hx.fr hf2 hne) bx hne hs
end
end Go.Proofs.YtfdhofabgdkkkaaGreatDoor
