/- latest, the end of a kept batch, note: the walks. -/
import Derived.Test.YtdlnafhhkpklmaaGreatDoorY24
namespace Go.Proofs.YtdlnafhhkpklmaaGreatDoor
open Go.RowKit Go.Fm Go.BigFrame Go.Shelf Go.Maps
set_option linter.unusedVariables false
set_option linter.unusedSimpArgs false
set_option maxRecDepth 100000
theorem take_snoc' {α : Type} {l : List α} {k : Nat} {x : α} (h : l[k]? = some x) : l.take (k + 1) = l.take k ++ [x] := by
 obtain ⟨hk, rfl⟩ := List.getElem?_eq_some_iff.1 h
 exact List.take_succ_eq_append_getElem hk
set_option maxHeartbeats 4000000 in
theorem latest_walk (K : Nat → Prop) (b : Bat) (v : Value) (w : World) (h : RecsR K w v b.recs) (hl : b.recs.length ≤ 1000000) :
  Calls Tryz.prog 101 #[batV b v] w fun e w' => e = .returned (.int .i64 (latest b.recs)) ∧ Fr (fun _ => False) w w' := by
 obtain ⟨oa, cap, rfl, h⟩ := h
 have H := Lib.hid h
 clear h
 have hf0 := (Fr.same w).alloc (.cells (batBox b (.slice oa b.recs.length cap)) 36)
 have F0 := Lib.hid hf0
 clear hf0
 unfold batV
 go_enter Tryz.func101, Tryz.ntmps101
 go_wp2_with fail
 unfold batBox at F0
 generalize (w.alloc (.cells #[.int .i64 b.base, .int .i64 b.span, .int .i64 b.prod, .int .i64 b.epoch, .int .i64 b.seq, .slice oa b.recs.length cap] 36)) = W at *
 go_loopw [3, 9] (fun n i wr => ∃ k : Nat, i = .int .i64 k ∧ k ≤ b.recs.length ∧ n = .int .i64 (latest (b.recs.take k)) ∧ Fr (fun _ => False) W wr) (fun _ i _ => b.recs.length - (intOf i).toNat)
 case atStart => exact ⟨0, rfl, Nat.zero_le _, rfl, Fr.same _⟩
 case round =>
  obtain ⟨k, rfl, hk, rfl, hf⟩ := hrel
  have F := Lib.hid hf
  clear hf
  rcases Nat.lt_or_ge k b.recs.length with hlt | hge
  ·obtain ⟨x, hx⟩ := get_of_lt hlt
   obtain ⟨a, hv, rfl, -, hc, hr⟩ := H.out k x hx
   have hfw := F0.out.tr F.out
   obtain ⟨c0, c1, c2, c3, c4, c5, c6⟩ := hc.to (hfw.block _ hc.lt fun h => h)
   have hlat := latest_snoc (b.recs.take k) x
   rw [← take_snoc' hx] at hlat
   have HL := Lib.hid hlat
   have hfa := (Fr.same wr).alloc (.cells (recCells x hv).toArray 79)
   obtain ⟨ha, hcap, rfl, -⟩ := hr
   have d1 : (wr.alloc (.cells (recCells x (.slice ha x.hs.length hcap)).toArray 79)).cell? ⟨wr.heap.size, 1, none⟩ = some (.int .i64 x.tm) := cell_alloc_new wr _ 79 1
   have FA := Lib.hid (F.out.tr hfa)
   clear hx hc hfw hlat hfa
   unfold recCells at FA d1
   go_wp2_with fail
   go_roundw
   case rel => exact ⟨k + 1, by go_num, by omega, by rw [HL.out], FA.out⟩
   case measure => simp [intOf]; omega
  ·have e : b.recs.take k = b.recs := List.take_of_length_le hge
   rw [e]
   clear e
   go_wp2_with fail
   go_ret
   exact ⟨rfl, F0.out.tr F.out⟩
set_option maxHeartbeats 4000000 in
theorem kend_walk (k : Kep) (oa : Option Addr) (n cap : Nat) (w : World) (h0 : 0 ≤ k.b.base) (h1 : k.b.base ≤ 1099511627776) (h2 : 0 ≤ k.b.span) (h3 : k.b.span ≤ 1000) :
  Calls Tryz.prog 93 #[kepV k (.slice oa n cap)] w fun e w' => e = .returned (.int .i64 (k.b.base + k.b.span)) ∧ Fr (fun _ => False) w w' := by
 unfold kepV
 go_enter Tryz.func93, Tryz.ntmps93
 go_wp2_with fail
 go_ret
 exact ⟨rfl, (Fr.same _).alloc _⟩
def NotePost (B : Nat) (w : World) (sb db : Nat) (nm : ByteArray) (s : Seg) (S : Nat → Prop) (e : Ending) (w' : World) : Prop :=
 e = .returned (.tuple #[]) ∧ Sg B w' sb db nm s (fun k => S k ∨ (w.heap.size ≤ k ∧ k < w'.heap.size)) ∧ Fr S w w'
set_option maxHeartbeats 16000000 in
/-- One batch more. -/
theorem note_walk {B : Nat} {w : World} {sb db : Nat} {nm : ByteArray} {s : Seg} {S : Nat → Prop} (h : Sg B w sb db nm s S) (b : Bat) (rv : Value) (Kb : Nat → Prop) (hb : BatOK b) (he : s.end' ≤ b.base) (hr : RecsR Kb w rv b.recs)
  (hKb : ∀ k, Kb k → B ≤ k ∧ k < w.heap.size ∧ ¬ S k) (hn : s.l.length < 800) (hsum : sumB s.l + bsz b ≤ 1000000000) (hB : B ≤ w.heap.size) :
  Calls Tryz.prog 82 #[.pointer (some ⟨sb, 0, none⟩), batV b rv, .int .i64 (bsz b)] w (NotePost B w sb db nm (s.push b) (fun k => S k ∨ Kb k)) := by
 obtain ⟨bv, ib, K, T, V, OK, hS⟩ := h
 obtain ⟨oa, cap, hbv⟩ := V.ks.slice
 rw [keps_len] at hbv
 have hh := hr
 obtain ⟨ra, rcap, rfl, -⟩ := hh
 have hf0 := (Fr.same w).alloc (.cells (batBox b (.slice ra b.recs.length rcap)) 36)
 have hx0 : (w.alloc (.cells (batBox b (.slice ra b.recs.length rcap)) 36)).heap[w.heap.size]? = some (.cells (batBox b (.slice ra b.recs.length rcap)) 36 (0, 0)) := heap_alloc_self _ _
 have F0 := Lib.hid hf0
 have X0 := Lib.hid hx0
 have HB := Lib.hid hb
 have HR := Lib.hid hr
 have HV := Lib.hid V
 have HOK := Lib.hid OK
 have HS := Lib.hid hS
 have HKB := Lib.hid hKb
 have HE := Lib.hid he
 have hsb := (lt_of_heap V.hb)
 have HSB := Lib.hid hsb
 have o1 := (hf0.block _ hsb fun h => h).trans V.hb
 have O1 := Lib.hid o1
 have hwsz : (w.alloc (.cells (batBox b (.slice ra b.recs.length rcap)) 36)).heap.size = w.heap.size + 1 := by simp
 have HWS := Lib.hid hwsz
 clear hf0 hx0 hb hr V OK hS hKb he hsb o1 hwsz
 subst hbv
 unfold batV
 unfold batBox at F0 X0 O1 HWS
 go_enter Tryz.func82, Tryz.ntmps82
 go_wp2_with fail
 generalize (w.alloc (.cells #[.int .i64 b.base, .int .i64 b.span, .int .i64 b.prod, .int .i64 b.epoch, .int .i64 b.seq, .slice ra b.recs.length rcap] 36)) = W at *
 have y5 : ∀ y : Lcl.InS (fun w' => Fr (fun _ => False) W w'), y.w.cell? ⟨sb, 5, none⟩ = some (.slice oa s.l.length cap) := fun y => y.h.cel ((cell_of O1.out 5).trans rfl)
 have y4 : ∀ y : Lcl.InS (fun w' => Fr (fun _ => False) W w'), y.w.cell? ⟨sb, 4, none⟩ = some (.int .i64 (sumB s.l)) := fun y => y.h.cel ((cell_of O1.out 4).trans rfl)
 have x0 : ∀ y : Lcl.InS (fun w' => Fr (fun _ => False) W w'), y.w.cell? ⟨w.heap.size, 0, none⟩ = some (.int .i64 b.base) := fun y => y.h.cel ((cell_of X0.out 0).trans rfl)
 have x1 : ∀ y : Lcl.InS (fun w' => Fr (fun _ => False) W w'), y.w.cell? ⟨w.heap.size, 1, none⟩ = some (.int .i64 b.span) := fun y => y.h.cel ((cell_of X0.out 1).trans rfl)
 have x2 : ∀ y : Lcl.InS (fun w' => Fr (fun _ => False) W w'), y.w.cell? ⟨w.heap.size, 2, none⟩ = some (.int .i64 b.prod) := fun y => y.h.cel ((cell_of X0.out 2).trans rfl)
 have x3 : ∀ y : Lcl.InS (fun w' => Fr (fun _ => False) W w'), y.w.cell? ⟨w.heap.size, 3, none⟩ = some (.int .i64 b.epoch) := fun y => y.h.cel ((cell_of X0.out 3).trans rfl)
 have x4 : ∀ y : Lcl.InS (fun w' => Fr (fun _ => False) W w'), y.w.cell? ⟨w.heap.size, 4, none⟩ = some (.int .i64 b.seq) := fun y => y.h.cel ((cell_of X0.out 4).trans rfl)
 have x5 : ∀ y : Lcl.InS (fun w' => Fr (fun _ => False) W w'), y.w.cell? ⟨w.heap.size, 5, none⟩ = some (.slice ra b.recs.length rcap) := fun y => y.h.cel ((cell_of X0.out 5).trans rfl)
 refine Lcl.wp_region_calm (by kernel_rfl) [(true, [0, 1, 2, 3, 6, 7, 8, 10]), (false, [4, 5, 9]), (true, [11])] #[0, 0, 2, 6, 14, 0, 0, 64, 192, 448, 0, 2016, 4064, 8190, 16383, 32767, 65535] [0, 1, 2, 3, 4, 5, 6, 7, 8, 9, 10, 11, 12] 5 #[true, true, true, true, true, true, true, true, true, true, true, true, false, false, false, false, false] (by kernel_rfl) (by kernel_rfl) (by kernel_rfl) (fun w' => Fr (fun _ => False) W w') (Fr.same W).drew (fun d c a v w h => by cases d <;> exact h) ?_
 simp only [Lcl.opsOf, List.map_cons, List.map_nil, List.getElem?_toArray, List.getElem?_cons_succ, List.getElem?_cons_zero, Option.getD_some]
 refine Lcl.wpCalm_t ?_
 repeat (go_big_quiet_step (rfl))
 refine wpQuiet_nil ?_
 refine Lcl.wpCalm_f ?_
 repeat (go_big_quiet_step (rfl))
 refine wpQuiet_nil ?_
 refine Lcl.wpCalm_t ?_
 repeat (go_big_quiet_step (rfl))
 refine wpQuiet_nil ?_
 refine Lcl.wpCalm_nil ?_
 clear x0 x1 x2 x3 x4 x5 y4 y5
 refine Lcl.wpG_one 12 rfl (by kernel_rfl) ?_
 go_wp2_with fail
 refine ⟨fun _ h => h.alloc _, ?_⟩
 refine Lcl.wpG_run [13, 14, 15, 16] _ _ _ (by kernel_rfl) ?_
 simp only [List.map_cons, List.map_nil, List.getElem?_toArray, List.getElem?_cons_succ, List.getElem?_cons_zero, Option.getD_some]
 have hfa : Fr (fun _ => False) W (W.alloc (.cells (kepCells ⟨b, sumB s.l, bsz b⟩ (.slice ra b.recs.length rcap)).toArray 152)).drew := ((Fr.same W).alloc _).drew
 have hca : ∀ j, (W.alloc (.cells (kepCells ⟨b, sumB s.l, bsz b⟩ (.slice ra b.recs.length rcap)).toArray 152)).drew.cell? ⟨W.heap.size, j, none⟩ = (kepCells ⟨b, sumB s.l, bsz b⟩ (.slice ra b.recs.length rcap)).toArray[j]? := fun j => cell_alloc_new W _ 152 j
 have hsa : (W.alloc (.cells (kepCells ⟨b, sumB s.l, bsz b⟩ (.slice ra b.recs.length rcap)).toArray 152)).drew.heap.size = w.heap.size + 2 := by
  have := HWS.out
  show (W.alloc _).heap.size = _
  simp [this]
 have FA := Lib.hid (F0.out.tr hfa)
 have CA := Lib.hid hca
 have O2 := Lib.hid ((hfa.block _ (lt_of_heap O1.out) fun h => h).trans O1.out)
 have X2 := Lib.hid ((hfa.block _ (lt_of_heap X0.out) fun h => h).trans X0.out)
 have SA := Lib.hid hsa
 clear hfa hca hsa F0 O1 X0
 unfold kepCells batCells at FA CA O2 X2 SA
 dsimp only [List.cons_append, List.nil_append] at FA CA O2 X2 SA
 generalize (W.alloc (.cells #[.int .i64 b.base, .int .i64 b.span, .int .i64 b.prod, .int .i64 b.epoch, .int .i64 b.seq, .slice ra b.recs.length rcap, .int .i64 (sumB s.l), .int .i64 (bsz b)] 152)).drew = W2 at *
 have OWN := Lib.hid ((HV.out.ks.mono (K' := fun k => K k ∨ Kb k) fun _ h _ => .inl h).old FA.out)
 have RR := Lib.hid ((HR.out.old FA.out).mono (K' := fun k => (K k ∨ Kb k) ∧ (Value.slice oa s.l.length cap).ownBlock ≠ some k) fun k hk _ => ⟨.inr hk, fun e => (HKB.out k hk).2.2 (HS.out k (.inr (.inl e)))⟩)
 go_wp2_with (at_builtin; refine wpList_push_kep _ rfl (.tmp 10) (.tmp 18) rfl (fun k => K k ∨ Kb k) B (.slice oa s.l.length cap) (keps 0 s.l) rfl OWN.out W.heap.size 1 rfl ⟨b, sumB s.l, bsz b⟩ (.slice ra b.recs.length rcap) CA.out RR.out rfl ?len ?hB ?_)
 case len => rw [keps_len]; omega
 case hB => have := SA.out; omega
 intro v3 w3 ho3 hg3 hb3
 obtain ⟨oa3, cap3, hv3⟩ := ho3.slice
 rw [List.length_append, keps_len, List.length_singleton] at hv3
 subst hv3
 have hsb3 : w3.heap[sb]? = some (segObj db nm s (.slice oa s.l.length cap) ib) := (hg3.block sb (lt_of_heap O2.out) fun e => HV.out.sv e.symm).trans O2.out
 have hx3 := (hg3.block w.heap.size (lt_of_heap X2.out) fun e => by have := (HV.out.ks.lt e.symm).2; omega).trans X2.out
 have hnob : ∀ k, (Value.slice oa3 (s.l.length + 1) cap3).ownBlock = some k → ((Value.slice oa s.l.length cap).ownBlock = some k ∨ k = w.heap.size + 2) := fun k hk => by
  rcases hb3 with h | h
  ·exact .inl (h ▸ hk)
  ·rw [h] at hk; injection hk with hk; have := SA.out; exact .inr (by omega)
 have NOB := Lib.hid hnob
 have f5 := fz_of hsb3 5
 have c5 : w3.cell? ⟨sb, 5, none⟩ = some (.slice oa s.l.length cap) := (cell_of hsb3 5).trans rfl
 have hst : Fr (fun i => i = sb) w3 (w3.setCell ⟨sb, 5, none⟩ (.slice oa3 (s.l.length + 1) cap3)) := Fr.setCell (S := fun i => i = sb) (p := ⟨sb, 5, none⟩) (Fr.refl _ _) (.inl rfl) _
 have hne3 : (Value.slice oa3 (s.l.length + 1) cap3).ownBlock ≠ some sb := fun e => by
  rcases hnob sb e with h | h
  ·exact HV.out.sv h
  ·have := HSB.out; omega
 have OW4 := Lib.hid (ho3.fr hst (fun k hk e => hk.elim (fun hk => HV.out.sK (e ▸ hk)) fun hk => (HKB.out k hk).2.2 (HS.out k (.inl e))) fun k hk e => hne3 (e ▸ hk))
 have O4 := Lib.hid (heap_setCell_self (o := 5) hsb3 (.slice oa3 (s.l.length + 1) cap3))
 have X4 := Lib.hid ((hst.block _ (lt_of_heap hx3) fun e => by have := HSB.out; omega).trans hx3)
 have hF4 : Fr (fun k => k = sb ∨ (Value.slice oa s.l.length cap).ownBlock = some k) w (w3.setCell ⟨sb, 5, none⟩ (.slice oa3 (s.l.length + 1) cap3)) :=
  ((FA.out.mono (S' := fun k => k = sb ∨ (Value.slice oa s.l.length cap).ownBlock = some k) fun _ h => h.elim).grown hg3 fun k e => .inl (.inr e)).trans hst fun i e => .inl (.inl e)
 have F4 := Lib.hid hF4
 have hix : Ix.rep B (w3.setCell ⟨sb, 5, none⟩ (.slice oa3 (s.l.length + 1) cap3)) ib s.ix T := HV.out.ix.kept fun k hk => hF4.block k (HV.out.ix.lt hk).2 fun h => by
  rcases h with rfl | h
  ·exact HV.out.sT hk
  ·exact HV.out.vT k h hk
 have IX := Lib.hid hix
 have SZ4 := Lib.hid (show w.heap.size + 2 ≤ (w3.setCell ⟨sb, 5, none⟩ (.slice oa3 (s.l.length + 1) cap3)).heap.size from Nat.le_trans (by have := hg3.size; have := SA.out; omega) hst.size)
 clear ho3 hg3 hb3 hsb3 hx3 hnob hst hne3 hF4 hix OWN RR CA O2 X2 FA
 go_wp2_with fail
 clear f5 c5
 generalize w3.setCell ⟨sb, 5, none⟩ (.slice oa3 (s.l.length + 1) cap3) = w4 at *
 simp only [List.setIfInBounds_toArray, List.set_cons_succ, List.set_cons_zero] at O4
 have y6 : ∀ y : Lcl.InS (fun w' => Fr (fun _ => False) w4 w'), y.w.cell? ⟨sb, 6, none⟩ = some (.pointer (some ⟨ib, 0, none⟩)) := fun y => y.h.cel ((cell_of O4.out 6).trans rfl)
 have y4 : ∀ y : Lcl.InS (fun w' => Fr (fun _ => False) w4 w'), y.w.cell? ⟨sb, 4, none⟩ = some (.int .i64 (sumB s.l)) := fun y => y.h.cel ((cell_of O4.out 4).trans rfl)
 have x0 : ∀ y : Lcl.InS (fun w' => Fr (fun _ => False) w4 w'), y.w.cell? ⟨w.heap.size, 0, none⟩ = some (.int .i64 b.base) := fun y => y.h.cel ((cell_of X4.out 0).trans rfl)
 have x1 : ∀ y : Lcl.InS (fun w' => Fr (fun _ => False) w4 w'), y.w.cell? ⟨w.heap.size, 1, none⟩ = some (.int .i64 b.span) := fun y => y.h.cel ((cell_of X4.out 1).trans rfl)
 have x2 : ∀ y : Lcl.InS (fun w' => Fr (fun _ => False) w4 w'), y.w.cell? ⟨w.heap.size, 2, none⟩ = some (.int .i64 b.prod) := fun y => y.h.cel ((cell_of X4.out 2).trans rfl)
 have x3 : ∀ y : Lcl.InS (fun w' => Fr (fun _ => False) w4 w'), y.w.cell? ⟨w.heap.size, 3, none⟩ = some (.int .i64 b.epoch) := fun y => y.h.cel ((cell_of X4.out 3).trans rfl)
 have x4 : ∀ y : Lcl.InS (fun w' => Fr (fun _ => False) w4 w'), y.w.cell? ⟨w.heap.size, 4, none⟩ = some (.int .i64 b.seq) := fun y => y.h.cel ((cell_of X4.out 4).trans rfl)
 have x5 : ∀ y : Lcl.InS (fun w' => Fr (fun _ => False) w4 w'), y.w.cell? ⟨w.heap.size, 5, none⟩ = some (.slice ra b.recs.length rcap) := fun y => y.h.cel ((cell_of X4.out 5).trans rfl)
 refine Lcl.wp_region_calm (by kernel_rfl) [(true, [0, 1, 2, 4, 6, 7, 8]), (false, [3, 5, 9, 10])] #[0, 1, 3, 7, 0, 16, 0, 64, 192, 448, 0, 1024, 3072, 8191] [0, 1, 2, 3, 4, 5, 6, 7, 8, 9, 10, 11, 12] 3 #[true, true, true, true, true, true, true, true, true, true, true, false, false, false] (by kernel_rfl) (by kernel_rfl) (by kernel_rfl) (fun w' => Fr (fun _ => False) w4 w') (Fr.same w4).drew (fun d c a v w h => by cases d <;> exact h) ?_
 simp only [Lcl.opsOf, List.map_cons, List.map_nil, List.getElem?_toArray, List.getElem?_cons_succ, List.getElem?_cons_zero, Option.getD_some]
 refine Lcl.wpCalm_t ?_
 repeat (go_big_quiet_step (rfl))
 refine wpQuiet_nil ?_
 refine Lcl.wpCalm_f ?_
 repeat (go_big_quiet_step (rfl))
 refine wpQuiet_nil ?_
 refine Lcl.wpCalm_nil ?_
 clear x0 x1 x2 x3 x4 x5 y4 y6
 have RB := Lib.hid ((HR.out.mono (K' := Kb) fun _ h _ => h).to (K' := fun _ => True) (w' := w4) fun k hk hl => ⟨trivial, F4.out.block k hl fun h => by
  rcases h with rfl | h
  ·exact (HKB.out k hk).2.2 (HS.out k (.inl rfl))
  ·exact (HKB.out k hk).2.2 (HS.out k (.inr (.inl h)))⟩)
 refine Lcl.wpG_one 11 rfl (by kernel_rfl) ?_
 go_wp2_with fail
 refine (latest_walk _ b (.slice ra b.recs.length rcap) _ (RB.out.old (Fr.same w4).drew) (by have := HB.out.len; omega)).mono ?_
 rintro e w5 ⟨rfl, hf5⟩
 have F5 := Lib.hid ((Fr.same w4).drew.tr hf5)
 clear hf5
 go_wp2_with fail
 refine ⟨fun _ _ => F5.out, ?_⟩
 refine Lcl.wpG_one 12 rfl (by kernel_rfl) ?_
 go_wp2_with fail
 refine ⟨fun _ h => h, ?_⟩
 refine Lcl.wpG_run [13] _ _ _ (by kernel_rfl) ?_
 simp only [List.map_cons, List.map_nil, List.getElem?_toArray, List.getElem?_cons_succ, List.getElem?_cons_zero, Option.getD_some]
 have hgood : s.ix.good := ix_good _ HOK.out.e1 HOK.out.e2 _
 have hlen : s.ix.es.length ≤ 900 := by
  have := ix_len s.every (keps 0 s.l)
  rw [keps_len] at this
  exact Nat.le_trans this (by omega)
 have hix5 : Ix.rep B w5 ib s.ix T := IX.out.kept fun k hk => F5.out.block k (IX.out.lt hk).2 fun h => h
 have HA := Lib.hid (add_any hix5 hgood hlen (by have := SZ4.out; have := F5.out.size; omega) b.base (sumB s.l) (max (latest b.recs) 0))
 clear hgood hlen hix5
 go_wp2_with fail
 refine HA.out.mono ?_
 rintro e w6 ⟨rfl, T', hix6, hT6, hf6⟩
 have hnT : ¬ T w.heap.size := fun h => by have := (HV.out.ix.lt h).2; omega
 have hsb6 := (hf6.block sb (Nat.lt_of_lt_of_le (lt_of_heap O4.out) F5.out.size) HV.out.sT).trans ((F5.out.block _ (lt_of_heap O4.out) fun h => h).trans O4.out)
 have hx6 := (hf6.block w.heap.size (Nat.lt_of_lt_of_le (lt_of_heap X4.out) F5.out.size) hnT).trans ((F5.out.block _ (lt_of_heap X4.out) fun h => h).trans X4.out)
 have c4 : w6.cell? ⟨sb, 4, none⟩ = some (.int .i64 (sumB s.l)) := (cell_of hsb6 4).trans rfl
 have f4 := fz_of hsb6 4
 have hsb7 := heap_setCell_self (o := 4) hsb6 (.int .i64 ((sumB s.l : Int) + (bsz b : Int)))
 have hne : sb ≠ w.heap.size := Nat.ne_of_lt HSB.out
 have hx7 := (heap_setCell_ne w6 (b := sb) (o := 4) (k := w.heap.size) (fun e => hne e.symm) (.int .i64 ((sumB s.l : Int) + (bsz b : Int)))).trans hx6
 have c3 : (w6.setCell ⟨sb, 4, none⟩ (.int .i64 ((sumB s.l : Int) + (bsz b : Int)))).cell? ⟨sb, 3, none⟩ = some (.int .i64 s.end') := (cell_of hsb7 3).trans rfl
 have f3 := fz_of hsb7 3
 have x0 : (w6.setCell ⟨sb, 4, none⟩ (.int .i64 ((sumB s.l : Int) + (bsz b : Int)))).cell? ⟨w.heap.size, 0, none⟩ = some (.int .i64 b.base) := (cell_of hx7 0).trans rfl
 have x1 : (w6.setCell ⟨sb, 4, none⟩ (.int .i64 ((sumB s.l : Int) + (bsz b : Int)))).cell? ⟨w.heap.size, 1, none⟩ = some (.int .i64 b.span) := (cell_of hx7 1).trans rfl
 have HX6 := Lib.hid hix6
 have HT6 := Lib.hid hT6
 have HF6 := Lib.hid hf6
 have HS6 := Lib.hid hsb6
 clear hix6 hT6 hf6 hsb6 hsb7 hx6 hx7 HA hnT
 have b0 := HB.out.base0
 have b1 := HB.out.base1
 have b2 := HB.out.span0
 have b3 := HB.out.span1
 go_wp2_with fail
 go_end0
 clear c4 f4 c3 f3 x0 x1
 have hfs : Fr (fun k => k = sb) w6 ((w6.setCell ⟨sb, 4, none⟩ (.int .i64 ((sumB s.l : Int) + (bsz b : Int)))).setCell ⟨sb, 3, none⟩ (.int .i64 (b.base + b.span))) := Fr.setCell (S := fun i => i = sb) (p := ⟨sb, 3, none⟩) (Fr.setCell (S := fun i => i = sb) (p := ⟨sb, 4, none⟩) (Fr.refl _ _) (.inl rfl) _) (.inl rfl) _
 have hob : ((w6.setCell ⟨sb, 4, none⟩ (.int .i64 ((sumB s.l : Int) + (bsz b : Int)))).setCell ⟨sb, 3, none⟩ (.int .i64 (b.base + b.span))).heap[sb]? = some (segObj db nm (s.push b) (.slice oa3 (s.l.length + 1) cap3) ib) := by
  rw [heap_setCell_self (heap_setCell_self HS6.out _)]
  unfold segObj
  rw [s.end_push b, show sumB (s.push b).l = sumB s.l + bsz b from sumB_snoc _ _, Int.natCast_add]
  rfl
 generalize (w6.setCell ⟨sb, 4, none⟩ (.int .i64 ((sumB s.l : Int) + (bsz b : Int)))).setCell ⟨sb, 3, none⟩ (.int .i64 (b.base + b.span)) = w8 at *
 have hTS : ∀ k, T k → S k := fun k hk => HS.out k (.inr (.inr (.inr hk)))
 have hw45 := F5.out.size
 have hw56 := HF6.out.size
 have hw68 := hfs.size
 have hw4 := SZ4.out
 have hTlt : ∀ k, T k → k < w.heap.size := fun k hk => (HV.out.ix.lt hk).2
 have hK : ∀ k, (K k ∨ Kb k) → B ≤ k ∧ k < w.heap.size ∧ ¬ T k ∧ k ≠ sb := fun k hk => by
  rcases hk with hk | hk
  ·exact ⟨(HV.out.kb k hk).1, (HV.out.kb k hk).2, HV.out.vK k hk, fun e => HV.out.sK (e ▸ hk)⟩
  ·have := HKB.out k hk
   exact ⟨this.1, this.2.1, fun h => this.2.2 (hTS k h), fun e => this.2.2 (HS.out k (.inl e))⟩
 have hO : ∀ k, (Value.slice oa3 (s.l.length + 1) cap3).ownBlock = some k → ¬ T k ∧ k ≠ sb ∧ k < w4.heap.size ∧ ((Value.slice oa s.l.length cap).ownBlock = some k ∨ w.heap.size ≤ k) := fun k hk => by
  have h2 := (OW4.out.lt hk).2
  rcases NOB.out k hk with h | h
  ·exact ⟨HV.out.vT k h, fun e => HV.out.sv (e ▸ h), h2, .inl h⟩
  ·exact ⟨fun e => by have := hTlt k e; omega, fun e => by have := HSB.out; omega, h2, .inr (by omega)⟩
 have hT' : ∀ k, T' k → k ≠ sb := fun k hk e => by
  rcases HT6.out k hk with h | h
  ·exact HV.out.sT (e ▸ h)
  ·have := HSB.out; omega
 have hks : OwnKeps (fun k => K k ∨ Kb k) B w8 (.slice oa3 (s.l.length + 1) cap3) (keps 0 (s.push b).l) := by
  have h1 := ((OW4.out.old F5.out).fr HF6.out (fun k hk => (hK k hk).2.2.1) fun k hk => (hO k hk).1).fr hfs (fun k hk => (hK k hk).2.2.2) fun k hk => (hO k hk).2.1
  rw [show (s.push b).l = s.l ++ [b] from rfl, keps_snoc, Nat.zero_add]
  exact h1
 have hbatch := HOK.out.ch.snoc HB.out HE.out
 refine ⟨rfl, ⟨_, ib, fun k => K k ∨ Kb k, T', ⟨hob, hks, ?_, fun k hk => ⟨(hK k hk).1, by have := (hK k hk).2.1; omega⟩, HV.out.hB, fun h => (hK sb h).2.2.2 rfl, fun h => hT' sb h rfl, fun h => (hO sb h).2.1 rfl, fun k hk h => ?_, fun k hk h => ?_⟩, ⟨HOK.out.e1, HOK.out.e2, HOK.out.b1, hbatch, ?_, ?_⟩, fun k hk => ?_⟩, ?_⟩
 ·rw [s.ix_push b]
  exact HX6.out.kept fun k hk => hfs.block k (HX6.out.lt hk).2 fun e => hT' k hk e
 ·rcases HT6.out k h with h1 | h1
  ·exact (hO k hk).1 h1
  ·have := (hO k hk).2.2.1; omega
 ·rcases HT6.out k h with h1 | h1
  ·exact (hK k hk).2.2.1 h1
  ·have := (hK k hk).2.1; omega
 ·show (s.l ++ [b]).length ≤ 800
  rw [List.length_append, List.length_singleton]; omega
 ·rw [show (s.push b).l = s.l ++ [b] from rfl, sumB_snoc]; exact hsum
 ·rcases hk with rfl | hk | hk | hk
  ·exact .inl (.inl (HS.out _ (.inl rfl)))
  ·obtain ⟨-, -, h3, h4⟩ := hO k hk
   rcases h4 with h4 | h4
   ·exact .inl (.inl (HS.out k (.inr (.inl h4))))
   ·exact .inr ⟨h4, by omega⟩
  ·rcases hk with hk | hk
   ·exact .inl (.inl (HS.out k (.inr (.inr (.inl hk)))))
   ·exact .inl (.inr hk)
  ·rcases HT6.out k hk with h1 | h1
   ·exact .inl (.inl (hTS k h1))
   ·have := (HX6.out.lt hk).2
    exact .inr ⟨by omega, by omega⟩
 ·have h1 : Fr (fun k => S k ∨ Kb k) w w4 := F4.out.mono fun i h => by
   rcases h with rfl | h
   ·exact .inl (.inl (HS.out _ (.inl rfl)))
   ·exact .inl (.inl (HS.out _ (.inr (.inl h))))
  exact ((h1.trans F5.out fun _ h => h.elim).trans HF6.out fun i h => .inl (.inl (hTS i h))).trans hfs fun i e => .inl (.inl (HS.out i (.inl e)))
end Go.Proofs.YtdlnafhhkpklmaaGreatDoor
