/- The filter that lets all through: Print; what goes through it and no topics. -/
import Derived.Test.YtfdhofabgdkkkaaGreatDoorQ25
namespace Go.Proofs.YtfdhofabgdkkkaaGreatDoor
open Go.RowKit Go.Fm Go.BigFrame Go.Shelf Go.Maps
set_option linter.unusedVariables false
set_option linter.unusedSimpArgs false
set_option maxRecDepth 100000
section
variable {w w' : World} {cb xb : Nat} {s : ByteArray} {bad : Bool} {S : Nat → Prop}
def WrPost (w : World) (bs : List UInt8) (e : Ending) (w' : World) : Prop := ∃ v, e = .returned v ∧ w'.ownsRow w.heap.size 5 1 v bs.length (bs.map byteVal) ∧ Fr (fun _ => False) w w'
set_option maxHeartbeats 16000000 in
theorem xwrite_zero : Calls Tryz.prog 237 #[.slice none 0 0, .agg #[.int .i64 0, .string ⟨#[]⟩, .string ⟨#[]⟩, .slice none 0 0]] w (WrPost w [0]) := by
 obtain ⟨i, hi, hz, h1, h2⟩ := info_parts info5
 have f1 := (Fr.same w).alloc (.cells #[.int .i64 0, .string ⟨#[]⟩, .string ⟨#[]⟩, .slice none 0 0] 38)
 have s1 : (w.alloc (.cells #[.int .i64 0, .string ⟨#[]⟩, .string ⟨#[]⟩, .slice none 0 0] 38)).heap.size = w.heap.size + 1 := by simp
 have x1 := heap_alloc_self w (.cells #[.int .i64 0, .string ⟨#[]⟩, .string ⟨#[]⟩, .slice none 0 0] 38)
 have f2 := f1.alloc (.cells #[.int .u8 0] 5)
 have x2 := (heap_alloc_lt (.cells #[.int .u8 0] 5) (lt_of_heap x1)).trans x1
 have c2 : ((w.alloc (.cells #[.int .i64 0, .string ⟨#[]⟩, .string ⟨#[]⟩, .slice none 0 0] 38)).alloc (.cells #[.int .u8 0] 5)).cell? ⟨w.heap.size + 1, 0, none⟩ = some (.int .u8 0) := by rw [← s1]; exact cell_alloc_new _ _ 5 0
 have C2 := Lib.hid c2
 have F2 := Lib.hid f2
 have X2 := Lib.hid x2
 have D1 := fun j => cell_alloc_new w #[.int .i64 0, .string ⟨#[]⟩, .string ⟨#[]⟩, .slice none 0 0] 38 j
 have D2 := fun j => cell_of x2 j
 clear f1 s1 x1 f2 x2 c2
 go_enter Tryz.func237, Tryz.ntmps237
 go_wp2_with (at_builtin; refine wpList_append_own2 _ rfl (.tmp 7) (.tmp 11) 305 rfl w.heap.size 5 i (.int .u8 0) 1 1 Tryz.underlying305 hi hz h1 h2 rfl (by decide) (.slice none 0 0) 0 [] rfl (World.ownsRow_nil _ _ _ _) ⟨w.heap.size + 1, 0, none⟩ 1 1 [byteVal 0] rfl rfl ?c1 ?c2 ?c3 ?c4 ?c5 ?_)
 case c1 =>
  intro j u hj
  match j, hj with
  | 0, hj => simp at hj; subst hj; rw [add_lit]; exact C2.out
  | j + 1, hj => simp at hj
 case c2 => intro u hu; simp at hu; subst hu; rfl
 case c3 => unfold maxLen; omega
 case c4 => omega
 case c5 => exact F2.out.size
 intro v7 w7 ho7 hg7 hb7
 have hf7 : Fr (fun _ => False) w w7 := F2.out.grown hg7 fun k hk => by cases hk
 have X7 := (hg7.block _ (lt_of_heap X2.out) (by intro h; cases h)).trans X2.out
 have D7 := fun j => cell_of X7 j
 have O7 := Lib.hid ho7
 have F7 := Lib.hid hf7
 clear ho7 hg7 hf7 D1 D2 X7 hb7
 go_wp2_with fail
 refine wp_loop_rounds 1 ?_
 rw [rounds_succ]
 go_wp2_with fail
 go_ret
 exact ⟨_, rfl, O7.out, F7.out⟩
set_option maxHeartbeats 16000000 in
theorem xprint_zero : Calls Tryz.prog 189 #[.agg #[.int .i64 0, .string ⟨#[]⟩, .string ⟨#[]⟩, .slice none 0 0]] w fun e w' => e = .returned (.tuple #[.string ⟨#[0]⟩, .int .i64 0]) ∧ Fr (fun _ => False) w w' := by
 have f1 := Lib.hid ((Fr.same w).alloc (.cells #[.int .i64 0, .string ⟨#[]⟩, .string ⟨#[]⟩, .slice none 0 0] 38))
 have X1 := Lib.hid (heap_alloc_self w (.cells #[.int .i64 0, .string ⟨#[]⟩, .string ⟨#[]⟩, .slice none 0 0] 38))
 have D1 := fun j => cell_alloc_new w #[.int .i64 0, .string ⟨#[]⟩, .string ⟨#[]⟩, .slice none 0 0] 38 j
 go_enter Tryz.func189, Tryz.ntmps189
 go_wp2_with fail
 generalize (w.alloc (.cells #[.int .i64 0, .string ⟨#[]⟩, .string ⟨#[]⟩, .slice none 0 0] 38)) = W at *
 refine (xcheck_zero (w := W)).mono ?_
 rintro e w2 ⟨rfl, f2⟩
 have F2 := Lib.hid (f1.out.tr f2)
 have X2 := (f2.block _ (lt_of_heap X1.out) fun h => h).trans X1.out
 have d2 := fun j => cell_of X2 j
 clear f2 X1 X2 D1
 go_wp2_with fail
 refine (xwrite_zero (w := w2)).mono ?_
 rintro e w3 ⟨v, rfl, ho, f3⟩
 have F3 := Lib.hid (F2.out.tr f3)
 change w3.ownsRow w2.heap.size 5 1 v 1 _ at ho
 obtain ⟨og, cg, rfl, hat⟩ := own_at ho
 obtain ⟨gg, rfl, -, -, hcell⟩ := hat (by simp)
 have hconv := run_convert_bytes_back (P := Tryz.prog) w3 305 9 5 ⟨gg, 0, none⟩ cg [0] Tryz.underlying305 Tryz.underlying5 Tryz.underlying9 (fun j hj => by
  rw [add_lit]
  refine hcell j _ ?_
  rw [List.getElem?_map, List.getElem?_eq_getElem hj]; rfl)
 simp only [List.length_cons, List.length_nil, Nat.zero_add] at hconv
 clear f3 ho hat hcell d2
 go_wp2_with fail
 go_ret2
 exact ⟨rfl, F3.out⟩
set_option maxHeartbeats 16000000 in
theorem cfilter_zero (h : CodA w cb s bad) (q : Req) (rv tv : Value) (hx : ReqA w xb q rv (.slice none 0 0) tv) (h1 : q.fop = 0) (h2 : q.fnm = ⟨#[]⟩) (h3 : q.fvl = ⟨#[]⟩) (hne : xb ≠ cb) (hs : s.size ≤ 1600000000000000) :
  Calls Tryz.prog 123 #[.pointer (some ⟨cb, 0, none⟩), .pointer (some ⟨xb, 12, none⟩)] w (CodPost w cb (s ++ textS ⟨#[0]⟩) (bad || !true)) := by
 have hcb := lt_of_heap h
 have f0 := (Fr.same w).alloc (.cells #[.string ⟨#[]⟩] 9)
 have x0 := heap_alloc_self w (.cells #[.string ⟨#[]⟩] 9)
 have c0 : (w.alloc (.cells #[.string ⟨#[]⟩] 9)).cell? ⟨xb, 12, none⟩ = some (.int .i64 0) := f0.cel ((hx.cell 12).trans (by show some (Value.int .i64 q.fop) = _; rw [h1]))
 have c1 : (w.alloc (.cells #[.string ⟨#[]⟩] 9)).cell? ⟨xb, 13, none⟩ = some (.string ⟨#[]⟩) := f0.cel ((hx.cell 13).trans (by show some (Value.string q.fnm) = _; rw [h2]))
 have c2 : (w.alloc (.cells #[.string ⟨#[]⟩] 9)).cell? ⟨xb, 14, none⟩ = some (.string ⟨#[]⟩) := f0.cel ((hx.cell 14).trans (by show some (Value.string q.fvl) = _; rw [h3]))
 have c3 : (w.alloc (.cells #[.string ⟨#[]⟩] 9)).cell? ⟨xb, 15, none⟩ = some (.slice none 0 0) := f0.cel (hx.cell 15)
 have dd := fun j => cell_of (h.old f0) j
 have H0 := Lib.hid (h.old f0)
 have X0 := Lib.hid x0
 have F0 := Lib.hid f0
 clear f0 x0 h hx h1 h2 h3
 go_enter Tryz.func123, Tryz.ntmps123
 go_wp2_with fail
 generalize (w.alloc (.cells #[.string ⟨#[]⟩] 9)) = w0 at *
 refine (xprint_zero (w := w0)).mono ?_
 rintro e w1 ⟨rfl, f1⟩
 have H1 := Lib.hid (H0.out.old f1)
 have X1 := Lib.hid ((f1.block _ (lt_of_heap X0.out) fun h => h).trans X0.out)
 have F1 := Lib.hid (F0.out.tr f1)
 clear f1 c0 c1 c2 c3 dd H0 X0 F0
 have W := Lib.hid (cwant_walk H1.out true)
 go_wp2_with fail
 refine W.out.mono ?_
 rintro e w3 ⟨rfl, h3, f3⟩
 have X3 := (f3.block _ (lt_of_heap X1.out) (by omega)).trans X1.out
 have dd := fun j => cell_of X3 j
 have fz := fun j => fz_of X3 j
 have hf4 : Fr (fun i => i = w.heap.size) w3 (w3.setCell ⟨w.heap.size, 0, none⟩ (.string ⟨#[0]⟩)) := (Fr.refl (fun i => i = w.heap.size) w3).setCell (p := ⟨w.heap.size, 0, none⟩) (.inl rfl) _
 have x4 := heap_setCell_self X3 (o := 0) (.string ⟨#[0]⟩)
 have h4 := h3.fr hf4 (by omega)
 have F4 := Lib.hid (((F1.out.mono (S' := fun i => i = cb) fun _ h => h.elim).trans f3 fun _ h => .inl h).trans hf4 fun i h => .inr (by omega))
 have W4 := Lib.hid (ctext_walk h4 ⟨w.heap.size, 0, none⟩ ⟨#[0]⟩ 60000 (by decide) ((cell_of x4 0).trans rfl) (by show w.heap.size ≠ cb; omega) (by omega))
 rw [show ((bad || !true) || !okT ⟨#[0]⟩ 60000) = (bad || !true) by cases bad <;> rfl] at W4
 clear W h3 f3 X3 hf4 x4 h4
 go_wp2_with fail
 refine W4.out.mono ?_
 rintro e w5 ⟨rfl, h5, f5⟩
 have H5 := Lib.hid h5
 have F5 := Lib.hid (F4.out.trans f5 fun _ h => .inl h)
 have d5 := fun j => cell_of h5 j
 clear h5 f5 W4 dd fz
 go_wp2_with fail
 go_end0
 exact ⟨rfl, H5.out, F5.out⟩
set_option maxHeartbeats 16000000 in
theorem clist_nil (h : CodA w cb s bad) (q : Req) (rv kv : Value) (hx : ReqA w xb q rv kv (.slice none 0 0)) (bx : Nat) (hne : xb ≠ cb) (hs : s.size ≤ 1600000000000000) :
  Calls Tryz.prog 124 #[.pointer (some ⟨cb, 0, none⟩), .pointer (some ⟨xb, 19, none⟩), .int .i64 20, .func (.func 125) #[] #[.pointer (some ⟨bx, 0, none⟩)]] w (CodIf w cb (s ++ putS 0) (bad || !true)) := by
 have hcb := lt_of_heap h
 have c19 : w.cell? ⟨xb, 19, none⟩ = some (.slice none 0 0) := hx.cell 19
 have f0 := (Fr.same w).alloc (.cells #[.int .i64 0] 3)
 have x0 := heap_alloc_self w (.cells #[.int .i64 0] 3)
 have CW := Lib.hid (cnumber_walk (h.old f0) ⟨w.heap.size, 0, none⟩ 0 0 20 rfl ((cell_of x0 0).trans rfl) (by show w.heap.size ≠ cb; omega) (by omega))
 rw [show okN 0 0 20 = true from rfl] at CW
 have X0 := Lib.hid x0
 have F0 := Lib.hid f0
 clear f0 x0 h hx
 go_enter Tryz.func124, Tryz.ntmps124
 go_wp2_with fail
 generalize (w.alloc (.cells #[.int .i64 0] 3)) = w0 at *
 refine CW.out.mono ?_
 rintro e w1 ⟨rfl, h1, f1⟩
 have H1 := Lib.hid h1
 have d1 := fun j => cell_of h1 j
 have X1 := (f1.block _ (lt_of_heap X0.out) (by omega)).trans X0.out
 have e1 := fun j => cell_of X1 j
 have F1 := Lib.hid ((F0.out.mono (S' := fun i => i = cb) fun _ h => h.elim).trans f1 fun _ h => .inl h)
 clear f1 h1 CW X1 X0
 go_wp2_with fail
 refine wp_loop_rounds 1 ?_
 rw [rounds_succ]
 go_wp2_with fail
 go_end0
 exact ⟨rfl, ⟨_, H1.out, fun _ => rfl, by have := putS_size (n := 0) rfl; rw [ByteArray.size_append]; omega⟩, F1.out⟩
theorem filG_zero (q : Req) (rv tv : Value) (h1 : q.fop = 0) (h2 : q.fnm = ⟨#[]⟩) (h3 : q.fvl = ⟨#[]⟩) : FilG w q rv (.slice none 0 0) tv (textS ⟨#[0]⟩) true :=
 fun w1 cb xb hf h4 h5 hne hx w2 s bad hf2 hc hs => cfilter_zero hc q rv tv (hx.fr hf2 hne) h1 h2 h3 hne hs
theorem topG_nil (q : Req) (rv kv : Value) : TopG w q rv kv (.slice none 0 0) (putS 0) true :=
 fun w1 cb xb hf h4 h5 hne hx w2 bx s bad hf2 hc hb hbn hs => clist_nil hc q rv kv (hx.fr hf2 hne) bx hne hs
end
end Go.Proofs.YtfdhofabgdkkkaaGreatDoor
/- A machine, a coordinator, a group, made new. -/
namespace Go.Proofs.YtfdhofabgdkkkaaGreatDoor
open Go.RowKit Go.Fm Go.BigFrame Go.Shelf Go.Maps
set_option linter.unusedVariables false
set_option linter.unusedSimpArgs false
set_option maxRecDepth 100000
section
variable {w w' : World} {S : Nat → Prop}
set_option maxHeartbeats 16000000 in
theorem gnew_ok (a b : Int) (h : (1 ≤ a ∧ a ≤ 100000) ∧ 1 ≤ b ∧ b ≤ 100000) : Calls Tryz.prog 65 #[.int .i64 a, .int .i64 b] w fun e w' => (∃ p, e = .returned (.tuple #[.pointer p, .int .i64 0])) ∧ Fr (fun _ => False) w w' := by
 obtain ⟨⟨h1, h2⟩, h3, h4⟩ := h
 have FF := Lib.hid ((Fr.same w).alloc (.cells #[.int .i64 a, .int .i64 b, .int .i64 0, .int .i64 0, .int .i64 0, .int .i64 0, .slice none 0 0] 216))
 go_enter Tryz.func65, Tryz.ntmps65
 go_wp2_with fail
 go_ret2
 exact ⟨⟨_, rfl⟩, FF.out⟩
set_option maxHeartbeats 16000000 in
theorem gnew_zero : Calls Tryz.prog 65 #[.int .i64 0, .int .i64 0] w fun e w' => e = .returned (.tuple #[.pointer none, .int .i64 1]) ∧ w' = w := by
 go_enter Tryz.func65, Tryz.ntmps65
 go_wp2_with fail
 go_ret2
 exact ⟨rfl, rfl⟩
set_option maxHeartbeats 16000000 in
theorem onew_walk : Calls Tryz.prog 66 #[.int .i64 1000] w fun e w' => (∃ p, e = .returned (.tuple #[.pointer p, .int .i64 0])) ∧ Fr (fun _ => False) w w' := by
 have f1 := (Fr.same w).alloc (.map #[] 0)
 have FF := Lib.hid (f1.alloc (.cells #[.int .i64 1000, .map (some w.heap.size)] 219))
 have hmm := @run_makeMap Tryz.prog
 clear f1
 go_enter Tryz.func66, Tryz.ntmps66
 go_wp2_with fail
 go_ret2
 exact ⟨⟨_, rfl⟩, FF.out⟩
set_option maxHeartbeats 16000000 in
theorem cnew_ok (a b : Int) (h : (1 ≤ a ∧ a ≤ 100000) ∧ 1 ≤ b ∧ b ≤ 100000) : Calls Tryz.prog 29 #[.int .i64 a, .int .i64 b] w fun e w' => (∃ p, e = .returned (.tuple #[.pointer p, .int .i64 0])) ∧ Fr (fun _ => False) w w' := by
 have HG := Lib.hid h
 clear h
 go_enter Tryz.func29, Tryz.ntmps29
 go_wp2_with fail
 refine (gnew_ok a b HG.out).mono ?_
 rintro e w1 ⟨⟨p, rfl⟩, f1⟩
 have F1 := Lib.hid f1
 clear f1
 go_wp2_with fail
 refine onew_walk.mono ?_
 rintro e w2 ⟨⟨q, rfl⟩, f2⟩
 have F2 := Lib.hid (((F1.out.tr f2).alloc (.map #[] 0)).alloc (.cells #[.int .i64 a, .int .i64 b, .map (some w2.heap.size), .pointer q] 139))
 have hmm := @run_makeMap Tryz.prog
 clear f2
 go_wp2_with fail
 go_ret2
 exact ⟨⟨_, rfl⟩, F2.out⟩
set_option maxHeartbeats 16000000 in
theorem cnew_zero : Calls Tryz.prog 29 #[.int .i64 0, .int .i64 0] w fun e w' => e = .returned (.tuple #[.pointer none, .int .i64 1]) ∧ w' = w := by
 go_enter Tryz.func29, Tryz.ntmps29
 go_wp2_with fail
 refine gnew_zero.mono ?_
 rintro e w1 ⟨rfl, rfl⟩
 go_wp2_with fail
 go_ret2
 exact ⟨rfl, rfl⟩
set_option maxHeartbeats 16000000 in
theorem snew_zero : Calls Tryz.prog 11 #[.int .i64 0, .int .i64 0] w fun e w' => e = .returned (.tuple #[.pointer none, .int .i64 1]) ∧ w' = w := by
 go_enter Tryz.func11, Tryz.ntmps11
 go_wp2_with fail
 refine cnew_zero.mono ?_
 rintro e w1 ⟨rfl, rfl⟩
 go_wp2_with fail
 go_ret2
 exact ⟨rfl, rfl⟩
/-- A partition: where it lies, where it starts and ends, its batches and the slice of them, its producers; T: the blocks that are its own. -/
structure PartD where
 xb : Nat
 st : Int
 en : Int
 bats : List Bat
 bv : Value
 pb : Nat
 F : ProdF
 n : Nat
 K : Nat → Prop
 S : Nat → Prop
def PartD.T (d : PartD) : Nat → Prop := fun i => i = d.xb ∨ d.bv.ownBlock = some i ∨ d.K i ∨ d.S i
structure PartA (w : World) (d : PartD) : Prop where
 b : w.heap[d.xb]? = some (.cells #[.int .i64 d.st, .int .i64 d.en, d.bv, .pointer (some ⟨d.pb, 0, none⟩)] 102 (0, 0))
 own : OwnBats d.K 1 w d.bv d.bats
 prod : ProdW w d.pb d.S d.n d.F
 lt : ∀ i, d.T i → 0 < i ∧ i < w.heap.size
 x1 : d.bv.ownBlock ≠ some d.xb
 x2 : ¬ d.K d.xb
 x3 : ¬ d.S d.xb
 s1 : ∀ k, d.bv.ownBlock = some k → ¬ d.S k
 s2 : ∀ k, d.K k → ¬ d.S k
theorem PartA.fr {d : PartD} (h : PartA w d) (hf : Fr S w w') (hS : ∀ i, d.T i → ¬ S i) : PartA w' d :=
 ⟨(hf.block _ (lt_of_heap h.b) (hS _ (.inl rfl))).trans h.b, by
  obtain ⟨zs, e, h1, h2⟩ := h.own
  refine ⟨zs, e, own_eq h1 fun k hk => hf.block k (own_lt h1 hk).2 (hS _ (.inr (.inl hk))), fun z hz => (h2 z hz).fr hf fun k hk => hS _ (.inr (.inr (.inl hk.1)))⟩,
  h.prod.fr hf fun i hi => hS _ (.inr (.inr (.inr hi))), fun i hi => ⟨(h.lt i hi).1, Nat.lt_of_lt_of_le (h.lt i hi).2 hf.size⟩, h.x1, h.x2, h.x3, h.s1, h.s2⟩
theorem PartA.old {d : PartD} (h : PartA w d) (hf : Fr (fun _ => False) w w') : PartA w' d := h.fr hf fun _ _ h => h
/-- A machine: its block, its topics, the map of its partitions. -/
structure MachD where
 mb : Nat
 tb : Nat
 tmb : Nat
 pm : Nat
 tn : Int
 TL : List (ByteArray × Value)
 cv : Value
 next : Int
 L : List (Place × PartD)
def prows (L : List (Place × PartD)) : List (Place × Value) := L.map fun x => (x.1, .pointer (some ⟨x.2.xb, 0, none⟩))
def MachD.B (m : MachD) : Nat → Prop := fun i => i = m.mb ∨ i = m.tb ∨ i = m.tmb ∨ i = m.pm
structure MachA (w : World) (m : MachD) : Prop where
 b : w.heap[m.mb]? = some (.cells #[.pointer (some ⟨m.tb, 0, none⟩), m.cv, .int .i64 m.next, .map (some m.pm)] 83 (0, 0))
 top : TopA w m.tb m.tmb m.tn m.TL
 map : MapG placeK w m.pm (prows m.L)
 n1 : m.mb ≠ m.tb ∧ m.mb ≠ m.tmb ∧ m.mb ≠ m.pm ∧ m.tb ≠ m.pm ∧ m.tmb ≠ m.pm
 pos : 0 < m.mb ∧ 0 < m.tb ∧ 0 < m.tmb ∧ 0 < m.pm
 part : ∀ x ∈ m.L, PartA w x.2
 off : ∀ x ∈ m.L, ∀ i, x.2.T i → ¬ m.B i
 dis : m.L.Pairwise fun x y => ∀ i, x.2.T i → ¬ y.2.T i
 ids : ∀ r ∈ m.TL, ∃ i p, r.2 = oneV i p ∧ 0 ≤ i ∧ i < m.tn
 tn : 0 ≤ m.tn ∧ m.tn ≤ 1073741824
 nx : 0 ≤ m.next ∧ m.next ≤ 1073741824
theorem MachA.fr {m : MachD} (h : MachA w m) (hf : Fr S w w') (h1 : ∀ i, m.B i → ¬ S i) (h2 : ∀ x ∈ m.L, ∀ i, x.2.T i → ¬ S i) : MachA w' m :=
 ⟨(hf.block _ (lt_of_heap h.b) (h1 _ (.inl rfl))).trans h.b, h.top.fr hf (h1 _ (.inr (.inl rfl))) (h1 _ (.inr (.inr (.inl rfl)))), h.map.fr hf (h1 _ (.inr (.inr (.inr rfl)))), h.n1, h.pos, fun x hx => (h.part x hx).fr hf (h2 x hx), h.off, h.dis, h.ids, h.tn, h.nx⟩
theorem MachA.old {m : MachD} (h : MachA w m) (hf : Fr (fun _ => False) w w') : MachA w' m := h.fr hf (fun _ _ h => h) fun _ _ _ _ h => h
def NewPost (w : World) (e : Ending) (w' : World) : Prop := ∃ mb tb tmb pm cv, e = .returned (.tuple #[.pointer (some ⟨mb, 0, none⟩), .int .i64 0]) ∧ MachA w' ⟨mb, tb, tmb, pm, 0, [], cv, 0, []⟩ ∧ (w.heap.size ≤ mb ∧ w.heap.size ≤ tb ∧ w.heap.size ≤ tmb ∧ w.heap.size ≤ pm) ∧ Fr (fun _ => False) w w'
set_option maxHeartbeats 16000000 in
theorem snew_ok (a b : Int) (h : (1 ≤ a ∧ a ≤ 100000) ∧ 1 ≤ b ∧ b ≤ 100000) (h0 : 0 < w.heap.size) : Calls Tryz.prog 11 #[.int .i64 a, .int .i64 b] w (NewPost w) := by
 have HG := Lib.hid h
 clear h
 go_enter Tryz.func11, Tryz.ntmps11
 go_wp2_with fail
 refine (cnew_ok a b HG.out).mono ?_
 rintro e w1 ⟨⟨p, rfl⟩, f1⟩
 have F1 := Lib.hid f1
 clear f1
 go_wp2_with fail
 refine (tnew_walk w1).mono ?_
 rintro e w2 ⟨tb, tmb, rfl, ht, h1, h2, f2⟩
 have f3 := (Fr.same w2).alloc (.map #[] 0)
 have m3 := MapG.made placeK w2
 have f4 := (Fr.same (w2.alloc (.map #[] 0))).alloc (.cells #[.pointer (some ⟨tb, 0, none⟩), .pointer p, .int .i64 0, .map (some w2.heap.size)] 83)
 have x4 := heap_alloc_self (w2.alloc (.map #[] 0)) (.cells #[.pointer (some ⟨tb, 0, none⟩), .pointer p, .int .i64 0, .map (some w2.heap.size)] 83)
 have s3 : (w2.alloc (.map #[] 0)).heap.size = w2.heap.size + 1 := by simp
 rw [s3] at x4
 have T4 := Lib.hid ((ht.old f3).old f4)
 have M4 := Lib.hid (m3.fr f4 fun h => h)
 have X4 := Lib.hid x4
 have lt1 := lt_of_heap ht.b
 have lt2 := ht.m.lt
 have S1 := F1.out.size
 have S2 := f2.size
 have F4 := Lib.hid (((F1.out.tr f2).tr f3).tr f4)
 have LT := Lib.hid (show tb < w2.heap.size ∧ tmb < w2.heap.size ∧ w.heap.size ≤ w1.heap.size ∧ w1.heap.size ≤ w2.heap.size from ⟨lt1, lt2, S1, S2⟩)
 have HH := Lib.hid (show w1.heap.size ≤ tb ∧ w1.heap.size ≤ tmb ∧ 0 < w.heap.size from ⟨h1, h2, h0⟩)
 clear ht f2 f3 m3 f4 x4 s3 lt1 lt2 S1 S2 h1 h2 h0
 have hmm := @run_makeMap Tryz.prog
 go_wp2_with fail
 go_ret2
 obtain ⟨a1, a2, a3, a4⟩ := LT.out
 obtain ⟨b1, b2, b3⟩ := HH.out
 have hne := T4.out.ne
 refine ⟨w2.heap.size + 1, tb, tmb, w2.heap.size, .pointer p, rfl, ⟨X4.out, T4.out, M4.out, ⟨?_, ?_, ?_, ?_, ?_⟩, ⟨?_, ?_, ?_, ?_⟩, ?_, ?_, List.Pairwise.nil, ?_, ?_, ?_⟩, ⟨?_, ?_, ?_, ?_⟩, F4.out⟩
 all_goals (try dsimp only)
 all_goals first | omega | (intro x hx; cases hx)
end
end Go.Proofs.YtfdhofabgdkkkaaGreatDoor
/- A machine: find, End. -/
namespace Go.Proofs.YtfdhofabgdkkkaaGreatDoor
open Go.RowKit Go.Fm Go.BigFrame Go.Shelf Go.Maps
set_option linter.unusedVariables false
set_option linter.unusedSimpArgs false
set_option maxRecDepth 100000
section
variable {w w' : World} {S : Nat → Prop}
def idOf (v : Value) : Int := match v with | .agg a => intOf (a.getD 0 undef) | _ => 0
theorem idOf_one (i p : Int) : idOf (oneV i p) = i := rfl
def findP (L : List (Place × PartD)) (p : Place) : Option PartD := (L.find? fun x => x.1 = p).map (·.2)
def findM (m : MachD) (name : ByteArray) (index : Int) : Option PartD := (getG m.TL name).bind fun v => findP m.L ⟨idOf v, index⟩
def pptr (o : Option PartD) : Value := match o with | some d => .pointer (some ⟨d.xb, 0, none⟩) | none => .pointer none
theorem prows_get (L : List (Place × PartD)) (p : Place) : (getG (prows L) p).getD (.pointer none) = pptr (findP L p) := by
 unfold getG prows findP
 rw [List.find?_map]
 cases h : L.find? ((fun r : Place × Value => decide (r.1 = p)) ∘ fun x => (x.1, Value.pointer (some ⟨x.2.xb, 0, none⟩))) with
 | none =>
  have h2 : L.find? (fun x => decide (x.1 = p)) = none := h
  rw [h2]; rfl
 | some x =>
  have h2 : L.find? (fun x => decide (x.1 = p)) = some x := h
  rw [h2]; rfl
theorem findP_mem {L : List (Place × PartD)} {p : Place} {d : PartD} (h : findP L p = some d) : (p, d) ∈ L := by
 unfold findP at h
 cases hf : L.find? fun x => x.1 = p with
 | none => rw [hf] at h; cases h
 | some r =>
  rw [hf] at h
  have h1 := List.find?_some hf
  have h2 := List.mem_of_find?_eq_some hf
  simp at h h1
  obtain ⟨a, y⟩ := r
  simp at h h1
  subst h h1
  exact h2
theorem findM_mem {m : MachD} {name : ByteArray} {index : Int} {d : PartD} (h : findM m name index = some d) : ∃ p, (p, d) ∈ m.L := by
 unfold findM at h
 cases hg : getG m.TL name with
 | none => rw [hg] at h; cases h
 | some v => rw [hg] at h; exact ⟨_, findP_mem h⟩
theorem zeroPP (w : World) : (zeroValue 87).run Tryz.prog w = .ok (.pointer none) w := by kernel_rfl
set_option maxHeartbeats 16000000 in
theorem mfind_walk {m : MachD} (h : MachA w m) (name : ByteArray) (index : Int) (hn : name.size ≤ maxLen) (hi : (Lit.int .i64 index).wf = true) : Calls Tryz.prog 33 #[.pointer (some ⟨m.mb, 0, none⟩), .string name, .int .i64 index] w fun e w' => e = .returned (pptr (findM m name index)) ∧ Fr (fun _ => False) w w' := by
 have dd := fun j => cell_of h.b j
 have H := Lib.hid h
 have HI := Lib.hid hi
 have CW := Lib.hid (tfind_walk h.top name hn)
 clear h hi
 go_enter Tryz.func33, Tryz.ntmps33
 go_wp2_with fail
 refine CW.out.mono ?_
 rintro e w2 ⟨hcase, hf2⟩
 have F2 := Lib.hid hf2
 have H2 := Lib.hid (H.out.old hf2)
 clear hf2 dd CW
 rcases hcase with ⟨i, p, hg, rfl⟩ | ⟨hg, rfl⟩
 ·obtain ⟨i', p', he, h0, h1⟩ := H.out.ids _ (getG_some hg)
  have he : oneV i p = oneV i' p' := he
  have hii : i = i' := by have := congrArg idOf he; simpa [idOf_one] using this
  subst hii
  have ht := H.out.tn
  have PK : PlaceOK ⟨i, index⟩ := ⟨by simp [Lit.wf, IntKind.min, IntKind.max, IntKind.signed, IntKind.bits]; omega, HI.out⟩
  have hlk := H2.out.map.look1 placeLaw Tryz.underlying81 (zeroPP w2) PK
  rw [prows_get] at hlk
  have RES := Lib.hid (show findM m name index = findP m.L ⟨i, index⟩ by unfold findM; rw [hg]; rfl)
  have dd := fun j => cell_of H2.out.b j
  dsimp only [placeK, placeV] at hlk
  clear he h0 h1 ht PK hg
  cases hf : findP m.L ⟨i, index⟩ with
  | none =>
   rw [hf] at hlk RES
   dsimp only [pptr] at hlk
   clear hf
   go_wp2_with fail
   go_ret
   exact ⟨by rw [RES.out]; rfl, F2.out⟩
  | some d =>
   rw [hf] at hlk RES
   dsimp only [pptr] at hlk
   clear hf
   go_wp2_with fail
   go_ret
   exact ⟨by rw [RES.out]; rfl, F2.out⟩
 ·have RES := Lib.hid (show findM m name index = none by unfold findM; rw [hg]; rfl)
  clear hg
  go_wp2_with fail
  go_ret
  exact ⟨by rw [RES.out]; rfl, F2.out⟩
def endM (m : MachD) (name : ByteArray) (index : Int) : Int := match findM m name index with | some d => d.en | none => -1
set_option maxHeartbeats 16000000 in
theorem mend_walk {m : MachD} (h : MachA w m) (name : ByteArray) (index : Int) (hn : name.size ≤ maxLen) (hi : (Lit.int .i64 index).wf = true) : Calls Tryz.prog 16 #[.pointer (some ⟨m.mb, 0, none⟩), .string name, .int .i64 index] w fun e w' => e = .returned (.int .i64 (endM m name index)) ∧ Fr (fun _ => False) w w' := by
 have CW := Lib.hid (mfind_walk h name index hn hi)
 have H := Lib.hid h
 clear h
 go_enter Tryz.func16, Tryz.ntmps16
 go_wp2_with fail
 refine CW.out.mono ?_
 rintro e w2 ⟨rfl, hf2⟩
 have F2 := Lib.hid hf2
 have H2 := Lib.hid (H.out.old hf2)
 clear hf2 CW
 cases hf : findM m name index with
 | none =>
  have RES := Lib.hid (show endM m name index = -1 by unfold endM; rw [hf])
  dsimp only [pptr]
  clear hf
  go_wp2_with fail
  go_ret
  exact ⟨by rw [RES.out]; rfl, F2.out⟩
 | some d =>
  obtain ⟨p, hm⟩ := findM_mem hf
  have dd := fun j => cell_of (H2.out.part _ hm).b j
  have RES := Lib.hid (show endM m name index = d.en by unfold endM; rw [hf])
  dsimp only [pptr] at dd ⊢
  clear hf hm
  go_wp2_with fail
  go_ret
  exact ⟨by rw [RES.out]; rfl, F2.out⟩
end
end Go.Proofs.YtfdhofabgdkkkaaGreatDoor
