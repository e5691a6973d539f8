/- The inner part of a batch's Decode, of what Encode has written: the walk. -/
import Derived.Test.YtfdhofabgdkkkaaGreatDoorQ21
namespace Go.Proofs.YtfdhofabgdkkkaaGreatDoor
open Go.RowKit Go.Fm Go.BigFrame Go.Shelf
set_option linter.unusedVariables false
set_option linter.unusedSimpArgs false
def batZ : Array Value := #[.int .i64 0, .int .i64 0, .int .i64 0, .int .i64 0, .int .i64 0, .slice none 0 0]
def batX (b : Bat) (rv : Value) : Array Value := #[.int .i64 b.base, .int .i64 b.span, .int .i64 b.prod, .int .i64 b.epoch, .int .i64 b.seq, rv]
def ptrs6 (bb cb : Nat) : Array Value := #[.pointer (some ⟨bb, 0, none⟩), .pointer (some ⟨bb, 1, none⟩), .pointer (some ⟨bb, 2, none⟩), .pointer (some ⟨bb, 3, none⟩), .pointer (some ⟨bb, 4, none⟩), .pointer (some ⟨cb, 0, none⟩)]
/-- The boxes of 'inner'. -/
structure InSt (w : World) (bb cb pb : Nat) (W : World) (X : Array Value) (c : Int) : Prop where
 fr : Fr (fun _ => False) w W
 b : W.heap[bb]? = some (.cells X 35 (0, 0))
 c : W.heap[cb]? = some (.cells #[.int .i64 c] 3 (0, 0))
 p : W.heap[pb]? = some (.cells (ptrs6 bb cb) 224 (0, 0))
 lo : w.heap.size ≤ bb
 l1 : bb < cb
 l2 : cb < pb
section
variable {w : World} {bb cb pb : Nat} {W W' : World} {X : Array Value} {c : Int}
theorem InSt.setB (h : InSt w bb cb pb W X c) (j : Nat) (v : Value) : InSt w bb cb pb (W.setCell ⟨bb, j, none⟩ v) (X.setIfInBounds j v) c := by
 have h1 := h.l1
 have h2 := h.l2
 have h3 := h.lo
 exact ⟨h.fr.setCell (.inr h3) _, heap_setCell_self h.b v, (heap_setCell_ne W (by omega) v).trans h.c, (heap_setCell_ne W (by omega) v).trans h.p, h3, h1, h2⟩
theorem InSt.setC (h : InSt w bb cb pb W X c) (n : Int) : InSt w bb cb pb (W.setCell ⟨cb, 0, none⟩ (.int .i64 n)) X n := by
 have h1 := h.l1
 have h2 := h.l2
 have h3 := h.lo
 exact ⟨h.fr.setCell (.inr (by show _ ≤ cb; omega)) _, (heap_setCell_ne W (by omega) _).trans h.b, heap_setCell_self h.c _, (heap_setCell_ne W (by omega) _).trans h.p, h3, h1, h2⟩
theorem InSt.old (h : InSt w bb cb pb W X c) (hf : Fr (fun _ => False) W W') : InSt w bb cb pb W' X c :=
 ⟨h.fr.tr hf, (hf.block _ (lt_of_heap h.b) fun h => h).trans h.b, (hf.block _ (lt_of_heap h.c) fun h => h).trans h.c, (hf.block _ (lt_of_heap h.p) fun h => h).trans h.p, h.lo, h.l1, h.l2⟩
theorem InSt.grown (h : InSt w bb cb pb W X c) {row : Option Nat} (hg : W.grownBy W' row) (hr : ∀ k, row = some k → pb < k) : InSt w bb cb pb W' X c := by
 have h1 := h.l1
 have h2 := h.l2
 have h3 := h.lo
 have hb : ∀ k, k < W.heap.size → k ≤ pb → W'.heap[k]? = W.heap[k]? := fun k hk hle => hg.block k hk fun e => by have := hr k e.symm; omega
 exact ⟨h.fr.grown hg fun k e => .inr (by have := hr k e; omega), (hb _ (lt_of_heap h.b) (by omega)).trans h.b, (hb _ (lt_of_heap h.c) (by omega)).trans h.c, (hb _ (lt_of_heap h.p) (by omega)).trans h.p, h3, h1, h2⟩
end
theorem OwnRecs.fr {K : Nat → Prop} {B : Nat} {w w' : World} {v : Value} {rs : List Rec} {S : Nat → Prop} (h : OwnRecs K B w v rs) (hf : Fr S w w') (hK : ∀ k, K k → ¬ S k) (ho : ∀ k, v.ownBlock = some k → ¬ S k) : OwnRecs K B w' v rs := by
 obtain ⟨zs, h1, h2, h3⟩ := h
 exact ⟨zs, h1, own_eq h2 fun k hk => hf.block k (own_lt h2 hk).2 (ho k hk), fun z hz => (h3 z hz).fr hf fun k hk => hK k hk.1⟩
def InnerPost (w : World) (b : Bat) (e : Ending) (w' : World) : Prop :=
 ∃ rv, e = .returned (.tuple #[batV b rv, .bool true]) ∧ RecsR (fun b => w.heap.size ≤ b) w' rv b.recs ∧ rv.oneCell' = true ∧ Fr (fun _ => False) w w'
theorem bcheck_ok (K : Nat → Prop) (b : Bat) (v : Value) (w : World) (h : RecsR K w v b.recs) (hb : BatOK b) : Calls Tryz.prog 202 #[batV b v] w fun e w' => e = .returned (.int .i64 0) ∧ Fr (fun _ => False) w w' :=
 (bcheck_walk K b v w h).mono fun e w' ⟨c, h1, h2, h3⟩ => by
  rcases h2 with ⟨rfl, -⟩ | ⟨-, h⟩
  ·exact ⟨h1, h3⟩
  ·exact (h hb).elim
theorem gets_is {s : ByteArray} {a n a' : Int} (h : getS s a = (n, a', 0)) (w : World) (hs : s.size ≤ maxLen) : Calls Tryz.prog 183 #[.string s, .int .i64 a] w fun e w' => e = .returned (.tuple #[.int .i64 n, .int .i64 a', .int .i64 0]) ∧ w = w' :=
 (gets_walk s a w hs).mono fun e w' ⟨h1, h2⟩ => ⟨by rw [h] at h1; exact h1, h2⟩
set_option maxRecDepth 100000 in
set_option maxHeartbeats 16000000 in
theorem inner_ok (s : ByteArray) (b : Bat) (hb : BatOK b) {p1 p2 p3 p4 p5 : Int} {q : Nat → Nat} (hI : BodyIs s b p1 p2 p3 p4 p5 q) (w : World) (hs : s.size ≤ maxLen) :
  Calls Tryz.prog 137 #[.string s] w (InnerPost w b) := by
 have HB := Lib.hid hb
 have HI := Lib.hid hI
 have HS := Lib.hid hs
 clear hb hI hs
 have ST : InSt w w.heap.size (w.heap.size + 1) (w.heap.size + 1 + 1) (((w.alloc (.cells batZ 35)).alloc (.cells #[.int .i64 0] 3)).alloc (.cells (ptrs6 w.heap.size (w.heap.size + 1)) 224)) batZ 0 :=
  ⟨(((Fr.same w).alloc _).alloc _).alloc _, by rw [heap_alloc_lt _ (by simp; omega), heap_alloc_lt _ (by simp), heap_alloc_self], by
   rw [heap_alloc_lt _ (by simp), show w.heap.size + 1 = (w.alloc (.cells batZ 35)).heap.size by simp, heap_alloc_self], by
   rw [show w.heap.size + 1 + 1 = ((w.alloc (.cells batZ 35)).alloc (.cells #[.int .i64 0] 3)).heap.size by simp]; exact heap_alloc_self _ _, Nat.le_refl _, by omega, by omega⟩
 have ST : Hid _ := Lib.hid ST
 go_enter Tryz.func137, Tryz.ntmps137
 go_wp2_with fail
 unfold batZ ptrs6 at ST
 generalize ((w.alloc (.cells #[.int .i64 0, .int .i64 0, .int .i64 0, .int .i64 0, .int .i64 0, .slice none 0 0] 35)).alloc (.cells #[.int .i64 0] 3)).alloc (.cells #[.pointer (some ⟨w.heap.size, 0, none⟩), .pointer (some ⟨w.heap.size, 1, none⟩), .pointer (some ⟨w.heap.size, 2, none⟩), .pointer (some ⟨w.heap.size, 3, none⟩), .pointer (some ⟨w.heap.size, 4, none⟩), .pointer (some ⟨w.heap.size + 1, 0, none⟩)] 224) = W0 at *
 generalize w.heap.size = bb at *
 generalize bb + 1 = cb at *
 generalize cb + 1 = pb at *
 have S0 : Hid (InSt w bb cb pb W0 #[.int .i64 0, .int .i64 0, .int .i64 0, .int .i64 0, .int .i64 0, .slice none 0 0] 0) := ST
 clear ST
 refine wp_loop_rounds 7 ?_
 have e0 : W0.cell? ⟨pb, 0, none⟩ = some (.pointer (some ⟨bb, 0, none⟩)) := (cell_of S0.out.p 0).trans rfl
 have e1 : W0.cell? ⟨bb, 0, none⟩ = some (.int .i64 0) := (cell_of S0.out.b 0).trans rfl
 have e2 := fz_of S0.out.b 0
 have T : Hid (InSt w bb cb pb (W0.setCell ⟨bb, 0, none⟩ (.int .i64 b.base)) #[.int .i64 b.base, .int .i64 0, .int .i64 0, .int .i64 0, .int .i64 0, .slice none 0 0] 0) := Lib.hid (S0.out.setB 0 (.int .i64 b.base))
 rw [rounds_succ]
 go_wp2_with fail
 refine (gets_is HI.out.base _ HS.out).mono ?_
 rintro e w' ⟨rfl, rfl⟩
 go_wp2_with fail
 clear e0 e1 e2 S0
 generalize hW1 : W0.setCell ⟨bb, 0, none⟩ (.int .i64 b.base) = W1 at *
 clear hW1
 have S1 := T
 clear T
 have e0 : W1.cell? ⟨pb, 1, none⟩ = some (.pointer (some ⟨bb, 1, none⟩)) := (cell_of S1.out.p 1).trans rfl
 have e1 : W1.cell? ⟨bb, 1, none⟩ = some (.int .i64 0) := (cell_of S1.out.b 1).trans rfl
 have e2 := fz_of S1.out.b 1
 have T : Hid (InSt w bb cb pb (W1.setCell ⟨bb, 1, none⟩ (.int .i64 b.span)) #[.int .i64 b.base, .int .i64 b.span, .int .i64 0, .int .i64 0, .int .i64 0, .slice none 0 0] 0) := Lib.hid (S1.out.setB 1 (.int .i64 b.span))
 rw [rounds_succ]
 go_wp2_with fail
 refine (gets_is HI.out.span _ HS.out).mono ?_
 rintro e w' ⟨rfl, rfl⟩
 go_wp2_with fail
 clear e0 e1 e2 S1
 generalize hW2 : W1.setCell ⟨bb, 1, none⟩ (.int .i64 b.span) = W2 at *
 clear hW2
 have S2 := T
 clear T
 have e0 : W2.cell? ⟨pb, 2, none⟩ = some (.pointer (some ⟨bb, 2, none⟩)) := (cell_of S2.out.p 2).trans rfl
 have e1 : W2.cell? ⟨bb, 2, none⟩ = some (.int .i64 0) := (cell_of S2.out.b 2).trans rfl
 have e2 := fz_of S2.out.b 2
 have T : Hid (InSt w bb cb pb (W2.setCell ⟨bb, 2, none⟩ (.int .i64 b.prod)) #[.int .i64 b.base, .int .i64 b.span, .int .i64 b.prod, .int .i64 0, .int .i64 0, .slice none 0 0] 0) := Lib.hid (S2.out.setB 2 (.int .i64 b.prod))
 rw [rounds_succ]
 go_wp2_with fail
 refine (gets_is HI.out.prod _ HS.out).mono ?_
 rintro e w' ⟨rfl, rfl⟩
 go_wp2_with fail
 clear e0 e1 e2 S2
 generalize hW3 : W2.setCell ⟨bb, 2, none⟩ (.int .i64 b.prod) = W3 at *
 clear hW3
 have S3 := T
 clear T
 have e0 : W3.cell? ⟨pb, 3, none⟩ = some (.pointer (some ⟨bb, 3, none⟩)) := (cell_of S3.out.p 3).trans rfl
 have e1 : W3.cell? ⟨bb, 3, none⟩ = some (.int .i64 0) := (cell_of S3.out.b 3).trans rfl
 have e2 := fz_of S3.out.b 3
 have T : Hid (InSt w bb cb pb (W3.setCell ⟨bb, 3, none⟩ (.int .i64 b.epoch)) #[.int .i64 b.base, .int .i64 b.span, .int .i64 b.prod, .int .i64 b.epoch, .int .i64 0, .slice none 0 0] 0) := Lib.hid (S3.out.setB 3 (.int .i64 b.epoch))
 rw [rounds_succ]
 go_wp2_with fail
 refine (gets_is HI.out.epoch _ HS.out).mono ?_
 rintro e w' ⟨rfl, rfl⟩
 go_wp2_with fail
 clear e0 e1 e2 S3
 generalize hW4 : W3.setCell ⟨bb, 3, none⟩ (.int .i64 b.epoch) = W4 at *
 clear hW4
 have S4 := T
 clear T
 have e0 : W4.cell? ⟨pb, 4, none⟩ = some (.pointer (some ⟨bb, 4, none⟩)) := (cell_of S4.out.p 4).trans rfl
 have e1 : W4.cell? ⟨bb, 4, none⟩ = some (.int .i64 0) := (cell_of S4.out.b 4).trans rfl
 have e2 := fz_of S4.out.b 4
 have T : Hid (InSt w bb cb pb (W4.setCell ⟨bb, 4, none⟩ (.int .i64 b.seq)) #[.int .i64 b.base, .int .i64 b.span, .int .i64 b.prod, .int .i64 b.epoch, .int .i64 b.seq, .slice none 0 0] 0) := Lib.hid (S4.out.setB 4 (.int .i64 b.seq))
 rw [rounds_succ]
 go_wp2_with fail
 refine (gets_is HI.out.seq _ HS.out).mono ?_
 rintro e w' ⟨rfl, rfl⟩
 go_wp2_with fail
 clear e0 e1 e2 S4
 generalize hW5 : W4.setCell ⟨bb, 4, none⟩ (.int .i64 b.seq) = W5 at *
 clear hW5
 have S5 := T
 clear T
 have e0 : W5.cell? ⟨pb, 5, none⟩ = some (.pointer (some ⟨cb, 0, none⟩)) := (cell_of S5.out.p 5).trans rfl
 have e1 : W5.cell? ⟨cb, 0, none⟩ = some (.int .i64 0) := (cell_of S5.out.c 0).trans rfl
 have e2 := fz_of S5.out.c 0
 have T : Hid (InSt w bb cb pb (W5.setCell ⟨cb, 0, none⟩ (.int .i64 b.recs.length)) (batX b (.slice none 0 0)) b.recs.length) := Lib.hid (S5.out.setC b.recs.length)
 rw [rounds_succ]
 go_wp2_with fail
 refine (gets_is HI.out.num _ HS.out).mono ?_
 rintro e w' ⟨rfl, rfl⟩
 go_wp2_with fail
 clear e0 e1 e2 S5
 generalize hW6 : W5.setCell ⟨cb, 0, none⟩ (.int .i64 b.recs.length) = W6 at *
 clear hW6
 have S6 := T
 clear T
 rw [rounds_succ]
 have e1 : W6.cell? ⟨cb, 0, none⟩ = some (.int .i64 b.recs.length) := (cell_of S6.out.c 0).trans rfl
 go_wp2_with fail
 have hlen := HB.out.len
 refine (within_yes _ _ _ _ (by omega)).mono ?_
 rintro e w' ⟨rfl, rfl⟩
 have HLEN := Lib.hid hlen
 clear hlen
 go_wp2_with fail
 clear e1 ST
 generalize w' = W6 at *
 go_loopw [4, 41] (fun av iv wr => ∃ (k : Nat) (rv : Value), iv = .int .i64 k ∧ av = .int .i64 (q k) ∧ k ≤ b.recs.length ∧ OwnRecs (fun i => pb + 1 ≤ i) (pb + 1) wr rv (b.recs.take k) ∧ InSt w bb cb pb wr (batX b rv) b.recs.length) (fun _ iv _ => b.recs.length - (intOf iv).toNat)
 case atStart => exact ⟨0, _, rfl, rfl, Nat.zero_le _, OwnRecs.nil _ _ _, S6.out⟩
 case round =>
  obtain ⟨k, rv, rfl, rfl, hk, hown, hst⟩ := hrel
  have O := Lib.hid hown
  have S := Lib.hid hst
  clear hown hst S6
  rcases Nat.lt_or_ge k b.recs.length with hlt | hge
  ·obtain ⟨r, hr⟩ := get_of_lt hlt
   obtain ⟨⟨r1, r2, r3, r4, r5, q', m, hri⟩, hq⟩ := HI.out.each k r hr
   have HRI := Lib.hid hri
   have HR := Lib.hid hr
   have HQK := Lib.hid hq
   have HOK := Lib.hid (HB.out.recs k r hr).ok
   clear hri hr hq
   go_wp2_with fail
   refine (rdecode_ok s _ r HOK.out HRI.out _ HS.out).mono ?_
   rintro e w8 ⟨hv, rfl, hhd, h1c, hf⟩
   rw [HRI.out.last] at *
   have hpb := lt_of_heap S.out.p
   have hl8 := hf.size
   have HH8 := hhd.mono (K' := fun i => (pb + 1 ≤ i) ∧ rv.ownBlock ≠ some i) fun i hi hl => ⟨by omega, fun e => by have := (O.out.lt e).2; omega⟩
   have O8 := Lib.hid (O.out.old hf)
   have S8 := Lib.hid (S.out.old hf)
   have HH8 := Lib.hid HH8
   obtain ⟨oa, cap, rfl, -⟩ := hhd
   have HP := Lib.hid (Nat.lt_of_lt_of_le hpb hl8)
   clear hf hl8 hpb S O
   obtain ⟨RC, hRC⟩ : ∃ RC : Array Value, RC = #[.int .i64 r.at', .int .i64 r.tm, .bool r.bare, .string r.key, .bool r.gone, .string r.val, .slice oa r.hs.length cap] := ⟨_, rfl⟩
   have hfa : Fr (fun _ => False) w8 ((w8.alloc (.cells RC 95)).alloc (.cells RC 95)) := ((Fr.same w8).alloc _).alloc _
   have O9 := Lib.hid (O8.out.old hfa)
   have S9 := Lib.hid (S8.out.old hfa)
   have HH9 := Lib.hid (HH8.out.old hfa)
   have hsz9 : ((w8.alloc (.cells RC 95)).alloc (.cells RC 95)).heap.size = w8.heap.size + 1 + 1 := by simp
   have HSZ := Lib.hid hsz9
   have hc9 : ∀ j, ((w8.alloc (.cells RC 95)).alloc (.cells RC 95)).cell? ⟨w8.heap.size + 1, j, none⟩ = (recCells r (.slice oa r.hs.length cap)).toArray[j]? := fun j => by
    have := cell_alloc_new (w8.alloc (.cells RC 95)) RC 95 j
    rw [show (w8.alloc (.cells RC 95)).heap.size = w8.heap.size + 1 by simp] at this
    rw [this, hRC]
    rfl
   have HC9 := Lib.hid hc9
   clear hsz9 hc9 hfa HH8
   have d5 : (w8.alloc (.cells RC 95)).cell? ⟨bb, 5, none⟩ = some rv := (cell_of (S8.out.old ((Fr.same w8).alloc _)).b 5).trans rfl
   subst hRC
   clear O8 S8
   unfold recV
   go_wp2_with (at_builtin; refine wpList_push_rec _ rfl (.tmp 54) (.tmp 56) rfl (fun i => pb + 1 ≤ i) (pb + 1) rv (b.recs.take k) rfl O9.out (w8.heap.size + 1) 1 rfl r (.slice oa r.hs.length cap) HC9.out HH9.out rfl ?c2 ?c3 ?_)
   case c2 => have := HLEN.out; simp; omega
   case c3 => rw [HSZ.out]; have := HP.out; omega
   intro v' w11 hown hg hcase
   have S11 := S9.out.grown hg fun k hk => (O9.out.lt hk).1
   clear d5 S9 O9 HH9 HC9
   have f5 := fz_of S11.b 5
   have e5 : w11.cell? ⟨bb, 5, none⟩ = some rv := (cell_of S11.b 5).trans rfl
   have S12 : Hid (InSt w bb cb pb _ (batX b v') b.recs.length) := Lib.hid (S11.setB 5 v')
   have hl1 := S11.l1
   have hl2 := S11.l2
   have O12 := OwnRecs.fr (S := fun i => i = bb) (w' := w11.setCell ⟨bb, 5, none⟩ v') hown (Fr.setCell (S := fun i => i = bb) (p := ⟨bb, 5, none⟩) (Fr.refl _ _) (.inl rfl) _) (fun i hi e => by omega) (fun i hi e => by have := (hown.lt hi).1; omega)
   have ht : b.recs.take k ++ [r] = b.recs.take (k + 1) := by rw [List.take_add_one, HR.out]; rfl
   rw [ht] at O12
   have hq1 : ((q k : Int) + ((encS r).size : Int)) = ((q (k + 1) : Nat) : Int) := by rw [HQK.out, Int.natCast_add]
   obtain ⟨oa', cap', hv'⟩ := hown.slice
   rw [show (b.recs.take k ++ [r]).length = k + 1 by simp; omega] at hv'
   subst hv'
   have O12 := Lib.hid O12
   have hlen := HLEN.out
   clear hown hg hcase S11 ht hl1 hl2
   go_wp2_with fail
   go_roundw
   case rel => exact ⟨k + 1, _, by go_num, by rw [hq1], by omega, O12.out, S12.out⟩
   case measure => simp [intOf]; omega
  ·have hkeq : k = b.recs.length := by omega
   subst hkeq
   have hall : b.recs.take b.recs.length = b.recs := List.take_length
   rw [hall] at O
   have hlast := HI.out.last
   rw [hlast]
   obtain ⟨oa, cap, rfl⟩ := O.out.slice
   clear hall hge hk hlast
   go_wp2_with fail
   have hdx : ∀ y : Lcl.InS (fun w' => Fr (fun _ => False) wr w'), y.w.heap[bb]? = some (.cells (batX b (.slice oa b.recs.length cap)) 35 (0, 0)) := fun y => (y.h.block _ (lt_of_heap S.out.b) fun h => h).trans S.out.b
   have x0 : ∀ y : Lcl.InS (fun w' => Fr (fun _ => False) wr w'), y.w.cell? ⟨bb, 0, none⟩ = some (.int .i64 b.base) := fun y => (cell_of (hdx y) 0).trans rfl
   have x1 : ∀ y : Lcl.InS (fun w' => Fr (fun _ => False) wr w'), y.w.cell? ⟨bb, 1, none⟩ = some (.int .i64 b.span) := fun y => (cell_of (hdx y) 1).trans rfl
   have x2 : ∀ y : Lcl.InS (fun w' => Fr (fun _ => False) wr w'), y.w.cell? ⟨bb, 2, none⟩ = some (.int .i64 b.prod) := fun y => (cell_of (hdx y) 2).trans rfl
   have x3 : ∀ y : Lcl.InS (fun w' => Fr (fun _ => False) wr w'), y.w.cell? ⟨bb, 3, none⟩ = some (.int .i64 b.epoch) := fun y => (cell_of (hdx y) 3).trans rfl
   have x4 : ∀ y : Lcl.InS (fun w' => Fr (fun _ => False) wr w'), y.w.cell? ⟨bb, 4, none⟩ = some (.int .i64 b.seq) := fun y => (cell_of (hdx y) 4).trans rfl
   have x5 : ∀ y : Lcl.InS (fun w' => Fr (fun _ => False) wr w'), y.w.cell? ⟨bb, 5, none⟩ = some (.slice oa b.recs.length cap) := fun y => (cell_of (hdx y) 5).trans rfl
   have fchk : ∀ y : Lcl.InS (fun w' => Fr (fun _ => False) wr w'), Calls Tryz.prog 202 #[.agg #[.int .i64 b.base, .int .i64 b.span, .int .i64 b.prod, .int .i64 b.epoch, .int .i64 b.seq, .slice oa b.recs.length cap]] y.w fun e w' => e = .returned (.int .i64 0) ∧ ∃ y : Lcl.InS (fun w' => Fr (fun _ => False) wr w'), w' = y.w := fun y => quietly y (bcheck_ok (fun i => pb + 1 ≤ i) b _ _ ((O.out.old y.h).reads (fun i h _ => h) fun i h _ => h) HB.out)
   clear hdx
   refine Lcl.wp_region_part (C := fun w' => ∃ y : Lcl.InS (fun w' => Fr (fun _ => False) wr w'), w' = y.w) (by kernel_rfl) [(true, [1, 2, 3, 4, 5]), (false, [0, 6, 7]), (true, [8, 9])] #[0, 0, 0, 4, 14, 30, 62, 126, 254, 510, 255, 2047] 2 #[true, true, true, true, true, true, true, true, true, true, false, false] (by kernel_rfl) (by kernel_rfl) (by kernel_rfl) ⟨⟨wr.drew, (Fr.same wr).drew⟩, rfl⟩ (fun d c a v w h => by cases d <;> exact h) ?_
   simp only [Lcl.opsOf, List.map_cons, List.map_nil, List.getElem?_toArray, List.getElem?_cons_succ, List.getElem?_cons_zero, Option.getD_some]
   refine Lcl.wpSegs_t ?_
   repeat (go_big_quiet_step (with_reducible rfl))
   refine wpQuiet_nil ?_
   refine Lcl.wpSegs_f ?_
   repeat (go_big_quiet_step (first | with_reducible rfl | exact fchk _))
   refine wpQuiet_nil ?_
   refine Lcl.wpSegs_t ?_
   repeat (go_big_quiet_step (with_reducible rfl))
   refine wpQuiet_nil ?_
   refine Lcl.wpSegs_nil ?_
   rintro _ ⟨y, rfl⟩
   clear fchk x0 x1 x2 x3 x4 x5
   refine Lcl.wpAny_of_G (S := fun _ => True) (need := fun j => ([] : List Nat).contains j) _ _ _ _ ?_
   refine Lcl.wpG_run (needs := []) [10, 11] _ _ _ (by kernel_rfl) ?_
   simp only [List.map_cons, List.map_nil, List.getElem?_toArray, List.getElem?_cons_succ, List.getElem?_cons_zero, Option.getD_some]
   have S9 := S.out.old y.h
   have O9 := O.out.old y.h
   have hlo := S9.lo
   have hl1 := S9.l1
   have hl2 := S9.l2
   generalize y.w = w9 at *
   refine wpList_store_all rfl 35 (.tmp 2) (.tmp 61) rfl bb rfl 35 (batX b (.slice oa b.recs.length cap)) (batV b (.slice oa b.recs.length cap)) rfl S9.b rfl (by kernel_rfl) rfl ?_
   intro w10 hb hg
   have hf10 : Fr (fun _ => False) w w10 := S9.fr.grown hg fun k e => by cases e; exact .inr hlo
   have hr10 : RecsR (fun b => w.heap.size ≤ b) w10 (.slice oa b.recs.length cap) b.recs :=
    (O9.fr (S := fun i => i = bb) (Fr.grown (Fr.refl _ w9) hg fun k e => by cases e; exact .inl rfl) (fun i hi e => by omega) (fun i hi e => by have := (O9.lt hi).1; omega)).reads (fun i h _ => by omega) fun i h _ => by omega
   have FF := Lib.hid hf10
   have RR := Lib.hid hr10
   have HB10 := Lib.hid hb
   clear hb hg hf10 hr10 S9 O9 hlo hl1 hl2 S O
   have d0 : w10.cell? ⟨bb, 0, none⟩ = some (.int .i64 b.base) := (cell_of HB10.out 0).trans rfl
   have d1 : w10.cell? ⟨bb, 1, none⟩ = some (.int .i64 b.span) := (cell_of HB10.out 1).trans rfl
   have d2 : w10.cell? ⟨bb, 2, none⟩ = some (.int .i64 b.prod) := (cell_of HB10.out 2).trans rfl
   have d3 : w10.cell? ⟨bb, 3, none⟩ = some (.int .i64 b.epoch) := (cell_of HB10.out 3).trans rfl
   have d4 : w10.cell? ⟨bb, 4, none⟩ = some (.int .i64 b.seq) := (cell_of HB10.out 4).trans rfl
   have d5 : w10.cell? ⟨bb, 5, none⟩ = some (.slice oa b.recs.length cap) := (cell_of HB10.out 5).trans rfl
   go_wp2_with fail
   refine bodyPost_ret (v := .tuple #[batV b (.slice oa b.recs.length cap), .bool true]) (by
    simp [results, Tryz.f137, go_sem, batV, d0, d1, d2, d3, d4, d5]) rfl ⟨_, rfl, RR.out, rfl, FF.out⟩
end Go.Proofs.YtfdhofabgdkkkaaGreatDoor
