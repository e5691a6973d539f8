/- Is a word one of a text's? -/
import Derived.Test.YtfdhofabgdkkkaaGreatDoorQ45
namespace Go.Proofs.YtfdhofabgdkkkaaGreatDoor
open Go.RowKit Go.Fm Go.BigFrame Go.Shelf Go.Maps
set_option linter.unusedVariables false
set_option linter.unusedSimpArgs false
set_option maxRecDepth 100000
section
variable {w w' : World} {S : Nat → Prop}
noncomputable def hasWF (s word : ByteArray) : Bool := (wordsS s).any fun x => x.toList == (foldS word).toList
theorem each_walk (s : ByteArray) : Calls Tryz.prog 218 #[.string s] w fun e w' => e = .returned (.func (.func 263) #[] #[.pointer (some ⟨w.heap.size, 0, none⟩)]) ∧ w' = w.alloc (.cells #[.string s] 9) := by
 go_enter Tryz.func218, Tryz.ntmps218
 go_wp2_with fail
 go_ret
 exact ⟨rfl, rfl⟩
theorem keepC_t {A B C : World} (h : KeepC A B) (k : KeepC B C) : KeepC A C := ⟨h.1.trans k.1, Nat.le_trans h.2.1 k.2.1, fun i o hi ho => k.2.2 i o (h.2.2 i o hi ho) ho⟩
theorem keepC_b {w : World} (W : World) (l : Nat) (o o' : Obj) (hl : w.heap.size ≤ l) (h : W.heap[l]? = some o) (hc : o.isCells = false) (hw : o.isWalk = false) : KeepC W (W.putObj l o') := by
 refine ⟨KeepsWalks.putObj _ h hw, by simp, fun k u hk hu => ?_⟩
 have hne : k ≠ l := fun e => by subst e; rw [h] at hk; cases hk; rw [hc] at hu; cases hu
 rw [World.putObj_heap_other hne]
 exact hk
structure HasI (w0 : World) (wb rb : Nat) (fw : ByteArray) (v : Bool) (W : World) : Prop where
 wd : W.heap[wb]? = some (.cells #[.string fw] 9 (0, 0))
 rs : W.heap[rb]? = some (.cells #[.bool v] 4 (0, 0))
 b : Below w0.heap.size w0 W
theorem HasI.grown {w0 W W' : World} {wb rb : Nat} {fw : ByteArray} {v : Bool} {row : Option Nat} (h : HasI w0 wb rb fw v W) (hg : W.grownBy W' row) (hr : ∀ r, row = some r → w0.heap.size ≤ r ∧ ∃ o : Obj, W.heap[r]? = some o ∧ o.isCells = false) : HasI w0 wb rb fw v W' := by
 refine ⟨(hg.block wb (lt_of_heap h.wd) fun e => ?_).trans h.wd, (hg.block rb (lt_of_heap h.rs) fun e => ?_).trans h.rs, h.b.grown hg h.b.size fun k hk => (hr k hk).1⟩
 ·obtain ⟨-, o, ho, hc⟩ := hr wb e.symm
  rw [h.wd] at ho; cases ho; cases hc
 ·obtain ⟨-, o, ho, hc⟩ := hr rb e.symm
  rw [h.rs] at ho; cases ho; cases hc
theorem results_cell_bool {fn : Func} {p : Tmp} (h : fn.results = #[.cell p 4]) (tmps : Array Value) (w : World) (a : Addr) (b : Bool)
  (hp : tmps.getD p undef = .pointer (some a)) (hc : w.cell? a = some (.bool b)) : (results fn tmps).run Tryz.prog w = .ok (.bool b) w := by
 have hp' : tmps[p]?.getD undef = .pointer (some a) := by simpa using hp
 simp [results, h, hp', asAddr, loadVar, Tryz.underlying4, hc, Sem.run_bind, Result.andThen]
set_option maxRecDepth 100000 in
set_option maxHeartbeats 8000000 in
theorem has_in (s word : ByteArray) (hs : s.size ≤ 100000) (hw : word.size ≤ 100000) (w : World) (hT : Lib.Utf8Tabs 1 2 w) (h2 : 2 < w.heap.size) :
  CallsIn Fence.wide 3 Tryz.prog 154 #[.string s, .string word] w fun e w' => e = .returned (.bool (hasWF s word)) ∧ Below w.heap.size w w' := by
 have FW := Lib.hid (fold_walk word (by omega) (w := (w.alloc (.cells #[.string word] 9)).alloc (.cells #[.bool false] 4)))
 refine callsIn_of_wp_marks Tryz.func154 rfl trivial ?_ rfl
 simp only [Tryz.ntmps154, List.size_toArray, List.length_cons, List.length_nil, Nat.reduceAdd, Nat.reduceSub, Array.replicate_succ, Array.replicate_zero, List.push_toArray, List.append_toArray, List.nil_append, List.cons_append]
 have f0 := ((Fr.same w).alloc (.cells #[.string word] 9)).alloc (.cells #[.bool false] 4)
 have s1 : (w.alloc (.cells #[.string word] 9)).heap.size = w.heap.size + 1 := by simp
 have x0 := (heap_alloc_lt (.cells #[.bool false] 4) (lt_of_heap (heap_alloc_self w (.cells #[.string word] 9)))).trans (heap_alloc_self w (.cells #[.string word] 9))
 have y0 := heap_alloc_self (w.alloc (.cells #[.string word] 9)) (.cells #[.bool false] 4)
 rw [s1] at y0
 have dx := cell_of x0 0
 gi_wp2_with (fail)
 refine ⟨trivial, CallsIn.mono (callsIn_wide.2 FW.out) ?_⟩
 rintro e w2 ⟨rfl, f2⟩
 have x2 := blk x0 f2 fun h => h
 have y2 := blk y0 f2 fun h => h
 have dx2 := cell_of x2 0
 have fz2 := fz_of x2 0
 have hf3 : Fr (fun i => i = w.heap.size) w2 (w2.setCell ⟨w.heap.size, 0, none⟩ (.string (foldS word))) := (Fr.refl (fun i => i = w.heap.size) w2).setCell (p := ⟨w.heap.size, 0, none⟩) (.inl rfl) _
 have x3 := (heap_setCell_self x2 (o := 0) (.string (foldS word))).trans (show _ = some (.cells #[.string (foldS word)] 9 (0, 0)) from rfl)
 have y3 := (hf3.block (w.heap.size + 1) (lt_of_heap y2) (by omega)).trans y2
 have F3 := (f0.tr f2).trans hf3 fun i e => .inr (by omega)
 gi_wp2_with (fail)
 generalize (w2.setCell ⟨w.heap.size, 0, none⟩ (.string (foldS word))) = w3 at *
 refine ⟨trivial, CallsIn.mono (callsIn_wide.2 (each_walk s)) ?_⟩
 rintro e w4 ⟨rfl, rfl⟩
 gi_wp2_with (fail)
 have f5 := (Fr.same w3).alloc (.cells #[.string s] 9)
 have F5 := Lib.hid (F3.tr f5)
 have X5 := Lib.hid (blk x3 f5 fun h => h)
 have Y5 := Lib.hid (blk y3 f5 fun h => h)
 have c5 := cell_alloc_new w3 #[.string s] 9 0
 have hst := each_stops 2 (by omega) w3.heap.size s (by omega) (w3.alloc (.cells #[.string s] 9)) (by simp) (c5.trans rfl) (Utf8Tabs_below hT (F5.out.below (Nat.le_refl _) fun k hk => hk.elim)) (Nat.lt_of_lt_of_le h2 F5.out.size)
 have szw : w.heap.size ≤ (w3.alloc (.cells #[.string s] 9)).heap.size := F5.out.size
 clear f0 s1 x0 y0 dx x2 y2 dx2 fz2 hf3 x3 y3 F3 f5 c5 f2 FW
 refine wpIn_rangeFunc_ownF rfl (by omega) (gf := 263) (lb := #[.pointer (some ⟨w3.heap.size, 0, none⟩)]) rfl trivial (enters_of Tryz.func263 (by kernel_rfl) rfl)
  hst keepC_t keepC_b (Below.refl _ _) (fun _ => rfl)
  (fun pre W => HasI w w.heap.size (w.heap.size + 1) (foldS word) false W ∧ ∀ x ∈ pre, (x.toList == (foldS word).toList) = false)
  (fun c pre W => c = .ret ∧ HasI w w.heap.size (w.heap.size + 1) (foldS word) true W ∧ ∃ x ∈ pre, (x.toList == (foldS word).toList) = true)
  ?ownI ?ownX ⟨⟨X5.out, Y5.out, F5.out.below (Nat.le_refl _) fun k hk => hk.elim⟩, fun x hx => by cases hx⟩
  (fun x => { tmps := #[.string s, .string word, undef, .pointer (some ⟨w.heap.size, 0, none⟩), .pointer (some ⟨w.heap.size + 1, 0, none⟩), .string x, .string word, .string (foldS word), .string s, .func (.func 263) #[] #[.pointer (some ⟨w3.heap.size, 0, none⟩)], .string x, undef, undef, undef], defers := [] })
  ?assign ?body ?done ?stop
 case ownI => exact fun pre A B row h hg hr => ⟨h.1.grown hg fun r e => ⟨Nat.le_trans szw (hr r e).1, (hr r e).2⟩, h.2⟩
 case ownX => exact fun c pre A B row h hg hr => ⟨h.1, h.2.1.grown hg fun r e => ⟨Nat.le_trans szw (hr r e).1, (hr r e).2⟩, h.2.2⟩
 case assign =>
  intro l x W K hK
  gi_wp2_with (rw [Oper.semAt_eq _ _ _ (fun c h => by cases h)]; go_simp; try go_bits)
  exact hK
 case body =>
  intro l pre x W hI hlt
  have c0 := (cell_of hI.1.wd 0).trans (show _ = some (Value.string (foldS word)) from rfl)
  have c1 := cell_of hI.1.rs 0
  have z1 := fz_of hI.1.rs 0
  have HI := Lib.hid hI
  clear hI hst
  cases heq : (x.toList == (foldS word).toList) with
  | false =>
   gi_wp2_with (rw [Oper.semAt_eq _ _ _ (fun c h => by cases h)]; go_simp; try go_bits)
   exact ⟨KeepsOthers.refl _, ⟨KeepsWalks.refl _, Nat.le_refl _, fun _ _ h _ => h⟩, HI.out.1, fun y hy => (List.mem_append.1 hy).elim (HI.out.2 y) fun h => by rw [List.mem_singleton.1 h]; exact heq⟩
  | true =>
   gi_wp2_with (rw [Oper.semAt_eq _ _ _ (fun c h => by cases h)]; go_simp; try go_bits)
   exact ⟨KeepsOthers.setCell _ _ _, rfl, ⟨(heap_setCell_ne W (o := 0) (show w.heap.size ≠ w.heap.size + 1 by omega) (.bool true)).trans HI.out.1.wd, (heap_setCell_self HI.out.1.rs (o := 0) (.bool true)).trans rfl, HI.out.1.b.setCell (p := ⟨w.heap.size + 1, 0, none⟩) (Nat.le_succ _) (.bool true)⟩, x, List.mem_append.2 (.inr (List.mem_singleton.2 rfl)), heq⟩
 case done =>
  rintro D ys W hD hS ⟨hI, hno⟩ hK
  have c1 := cell_of hI.rs 0
  have z1 := fz_of hI.rs 0
  have hne : w.heap.size + 1 ≠ D := fun e => by subst e; rw [hI.rs] at hK; cases hK
  have hK' : (W.setCell ⟨w.heap.size + 1, 0, none⟩ (.bool false)).heap[D]? = some (.deferred (some [])) := (heap_setCell_ne W (o := 0) (Ne.symm hne) (.bool false)).trans hK
  have hR' : (W.setCell ⟨w.heap.size + 1, 0, none⟩ (.bool false)).heap[w.heap.size + 1]? = some (.cells #[.bool false] 4 (0, 0)) := (heap_setCell_self hI.rs (o := 0) (.bool false)).trans rfl
  have hw : hasWF s word = false := by unfold hasWF; rw [← hS]; exact List.any_eq_false.2 fun x hx h => by rw [hno x hx] at h; cases h
  have hB' : Below w.heap.size w (W.setCell ⟨w.heap.size + 1, 0, none⟩ (.bool false)) := hI.b.setCell (p := ⟨w.heap.size + 1, 0, none⟩) (Nat.le_succ _) _
  gi_wp2_with (fail)
  refine ⟨by simp, .inl ⟨_, _, rfl, run_takeDeferred hK', ?_⟩⟩
  refine ⟨_, results_cell_bool rfl _ _ ⟨w.heap.size + 1, 0, none⟩ false rfl ?_, by rw [hw], ?_⟩
  ·exact cell_of ((World.putObj_heap_other hne).trans hR') 0
  ·exact hB'.trans (belowK_b (w := w) (Nat.le_refl _) _ D _ _ (by have := szw; omega) hK' rfl rfl)
 case stop =>
  rintro D c pre W hD hS ⟨rfl, hI, hyes⟩ hK
  gi_wp2_with (fail)
  refine ⟨by simp, .inl ⟨_, _, rfl, run_takeDeferred hK, ?_⟩⟩
  have hne : w.heap.size + 1 ≠ D := fun e => by subst e; rw [hI.rs] at hK; cases hK
  have hw : hasWF s word = true := by
   obtain ⟨x, hx, he⟩ := hyes
   exact List.any_eq_true.2 ⟨x, hS.subset hx, he⟩
  refine ⟨_, results_cell_bool rfl _ _ ⟨w.heap.size + 1, 0, none⟩ true rfl ?_, by rw [hw], ?_⟩
  ·exact cell_of ((World.putObj_heap_other hne).trans hI.rs) 0
  ·exact hI.b.trans (belowK_b (w := w) (Nat.le_refl _) W D _ _ (by have := szw; omega) hK rfl rfl)
end
end Go.Proofs.YtfdhofabgdkkkaaGreatDoor
/- A filter's word, of any make. -/
namespace Go.Proofs.YtfdhofabgdkkkaaGreatDoor
open Go.RowKit Go.Fm Go.BigFrame Go.Shelf Go.Maps
set_option linter.unusedVariables false
set_option linter.unusedSimpArgs false
set_option maxRecDepth 100000
section
variable {w w' : World} {K K2 : Nat → Prop}
def hasCw (w : World) : Prop := Lib.Utf8Tabs 1 2 w ∧ 2 < w.heap.size
theorem has_C : HasC hasWF hasCw := fun w s t hc hs ht => (callsIn_wide.1 (has_in s t hs ht w hc.1 hc.2)).mono fun _ _ h => ⟨h.1, Fr.of_below h.2 (Nat.le_refl _)⟩
theorem hasCw_fr : ∀ w w', hasCw w → Fr (fun _ => False) w w' → hasCw w' := fun _ _ h hf => ⟨Utf8Tabs_below h.1 (hf.below (Nat.le_refl _) fun _ hk => hk.elim), Nat.lt_of_lt_of_le h.2 hf.size⟩
theorem lets_calls (ks : Fst) (op : Int) (nm vl : ByteArray) (kv : Value) (r : Rec) (hv : Value) (w : World) (hk : KidR K w kv ks) (hh : HdsR K2 w hv r.hs) (hl : r.hs.length ≤ 1000) (hz : SmE vl ks r) (hc : hasCw w) :
  Calls Tryz.prog 94 #[exV op nm vl kv, recV r hv] w (BoolPost (letB hasWF op nm vl ks r) w) :=
 lets_walk has_C hasCw_fr (ks.sz + 1) ks op nm vl kv r hv w (Nat.lt_succ_self _) hk hh hl hz (Nat.zero_le _) hc
end
end Go.Proofs.YtfdhofabgdkkkaaGreatDoor
