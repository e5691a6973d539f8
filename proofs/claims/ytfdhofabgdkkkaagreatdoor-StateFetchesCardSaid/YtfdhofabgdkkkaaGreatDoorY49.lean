/- The document's copies of records and batches: the walks. -/
import Derived.Test.YtfdhofabgdkkkaaGreatDoorY48
import Derived.Test.YtfdhofabgdkkkaaGreatDoorY37
namespace Go.Proofs.YtfdhofabgdkkkaaGreatDoor
open Go.RowKit Go.Fm Go.BigFrame
set_option linter.unusedVariables false
set_option linter.unusedSimpArgs false
set_option maxRecDepth 100000
def RecPost (w : World) (r : Rec) (e : Ending) (w' : World) : Prop := ∃ hv, e = .returned (recV r hv) ∧ HdsR (fun b => w.heap.size ≤ b) w' hv r.hs ∧ Fr (fun _ => False) w w'
def RecsPost (w : World) (rs : List Rec) (e : Ending) (w' : World) : Prop := ∃ v, e = .returned v ∧ RecsR (fun b => w.heap.size ≤ b) w' v rs ∧ Fr (fun _ => False) w w'
theorem append_none (t e : TypeId) (i : TypeInfo) (ht : Tryz.prog.underlying t = some (.slice e)) (hi : Tryz.prog.info? e = some i) (ty : TypeId) (c : Nat) (w : World) :
  (Builtin.append_ #[t, t] ty #[.slice none 0 0, .slice none 0 c]).run Tryz.prog w = .ok (.slice none 0 0) w := by
 simp [Builtin.append_, run_underlying ht, sizeOf, typeInfo, hi, Builtin.lenOf, Builtin.firstCells]
/-- A record's copy. -/
theorem copy_rec (K : Nat → Prop) (r : Rec) (hv : Value) (w : World) (h : HdsR K w hv r.hs) (hl : r.hs.length ≤ 1000) :
  Calls Tryz.prog 87 #[recV r hv] w (RecPost w r) := by
 obtain ⟨i, hi, hz, h1, h2⟩ := info_parts info55
 have hh := h
 obtain ⟨oa, cap, rfl, -⟩ := hh
 unfold recV
 have hf : ∀ cells1 cells2 cells3 : Array Value, Fr (fun _ => False) w (((w.alloc (.cells cells1 95)).alloc (.cells cells2 95)).alloc (.cells cells3 95)) := fun _ _ _ => (((Fr.same w).alloc _).alloc _).alloc _
 cases oa with
 | none =>
  obtain ⟨e0, -⟩ := hds_none h
  have e1 : r.hs.length = 0 := by rw [e0]; rfl
  have happ := fun w => append_none 93 97 i Tryz.underlying93 hi 37 cap w
  have E0 := Lib.hid e0
  have HF := Lib.hid hf
  clear h e0 hf
  rw [e1]
  go_enter Tryz.func87, Tryz.ntmps87
  go_wp2_with fail
  refine bodyPost_ret (v := recV r (.slice none 0 0)) (by simp [results, Tryz.f87, go_sem, recV]) rfl ⟨_, rfl, ?_, ?_⟩
  ·rw [E0.out]; exact hds_nil _ _
  ·exact HF.out _ _ _
 | some a =>
  obtain ⟨-, hcells⟩ := hds_cells h
  have HC := Lib.hid hcells
  have HF := Lib.hid hf
  clear h hcells hf
  go_enter Tryz.func87, Tryz.ntmps87
  go_wp2_with (at_builtin; refine wpList_append_own2 _ rfl (.tmp 7) (.tmp 9) 93 rfl w.heap.size 97 i _ 2 32 Tryz.underlying93 hi hz h1 h2 rfl (by decide) _ 0 [] rfl (World.ownsRow_nil _ _ _ _) a r.hs.length cap (r.hs.flatMap hdrCells) rfl (flat_len hdrCells 2 hdr_n r.hs) ?c1 (hdr_cells_one r.hs) ?c3 ?c4 (HF.out _ _ _).size ?_)
  case c1 => exact fun j u hj => (HF.out _ _ _).cel (HC.out j u hj)
  case c3 => unfold maxLen; omega
  case c4 => omega
  intro v' w' ho hg hb
  have hfr : Fr (fun _ => False) w w' := (HF.out _ _ _).grown hg fun k hk => .inr (by simp [Value.ownBlock] at hk)
  have hr := hds_of_own ho (by simp)
  have k2 : w'.heap[w.heap.size + 1 + 1]? = some (.cells #[.int .i64 r.at', .int .i64 r.tm, .bool r.bare, .string r.key, .bool r.gone, .string r.val, .slice none 0 0] 95 (0, 0)) :=
   (hg.block _ (by simp) (by simp [Value.ownBlock])).trans (by simpa using heap_alloc_self ((w.alloc _).alloc _) _)
  have k1 : w'.heap[w.heap.size + 1]? = some (.cells #[.int .i64 0, .int .i64 0, .bool false, .string ⟨#[]⟩, .bool false, .string ⟨#[]⟩, .slice none 0 0] 95 (0, 0)) :=
   (hg.block _ (by simp) (by simp [Value.ownBlock])).trans ((heap_alloc_lt _ (by simp)).trans (by simpa using heap_alloc_self (w.alloc _) _))
  have f2 : ∀ j, w'.frozen? ⟨w.heap.size + 1 + 1, j, none⟩ = false := by intro j; simp [World.frozen?, k2]
  have f1 : ∀ j, w'.frozen? ⟨w.heap.size + 1, j, none⟩ = false := by intro j; simp [World.frozen?, k1]
  have d2 : ∀ j, w'.cell? ⟨w.heap.size + 1 + 1, j, none⟩ = (#[.int .i64 r.at', .int .i64 r.tm, .bool r.bare, .string r.key, .bool r.gone, .string r.val, .slice none 0 0] : Array Value)[j]? := by intro j; simp [World.cell?, k2]
  have d1 : ∀ j, w'.cell? ⟨w.heap.size + 1, j, none⟩ = (#[.int .i64 0, .int .i64 0, .bool false, .string ⟨#[]⟩, .bool false, .string ⟨#[]⟩, .slice none 0 0] : Array Value)[j]? := by intro j; simp [World.cell?, k1]
  have HR := Lib.hid hr
  have HF2 := Lib.hid hfr
  have HB := Lib.hid hb
  clear ho hfr hr hb hg k1 k2
  obtain ⟨oa', cap', rfl, -⟩ := HR.out
  go_wp2_with fail
  refine bodyPost_ret (v := recV r (.slice oa' r.hs.length cap')) (by simp [results, Tryz.f87, go_sem, recV, d1]) rfl ⟨_, rfl, ?_, ?_⟩
  ·refine (HR.out.fr (S := fun k => k = w.heap.size + 1 ∨ k = w.heap.size + 1 + 1) ?_ ?_).mono fun b hb _ => hb.1
   ·repeat' (refine Fr.setCell ?_ (.inl (by simp)) _)
    exact Fr.refl _ _
   ·intro k hk
    have h9 := hk.2
    rcases HB.out with h | h
    ·rw [h9] at h; simp [Value.ownBlock] at h
    ·rw [h9] at h; injection h with h; omega
  ·repeat' (refine Fr.setCell ?_ (.inr (by simp; try omega)) _)
   exact HF2.out
set_option maxHeartbeats 4000000 in
/-- A list of records, copied. -/
theorem copy_recs (K : Nat → Prop) (rs : List Rec) (v : Value) (w : World) (h : RecsR K w v rs) (hl : rs.length ≤ 1000) (hs : ∀ r ∈ rs, r.hs.length ≤ 1000) :
  Calls Tryz.prog 42 #[v] w (RecsPost w rs) := by
 obtain ⟨oa, cap, rfl, h⟩ := h
 have H := Lib.hid h
 have HS := Lib.hid hs
 clear h hs
 go_enter Tryz.func42, Tryz.ntmps42
 go_wp2_with fail
 go_loopw [3, 4] (fun o i wr => ∃ k : Nat, i = .int .i64 k ∧ k ≤ rs.length ∧ OwnRecs (fun b => w.heap.size ≤ b) w.heap.size wr o (rs.take k) ∧ Fr (fun _ => False) w wr) (fun _ i _ => rs.length - (intOf i).toNat)
 case atStart => exact ⟨0, rfl, Nat.zero_le _, OwnRecs.nil _ _ _, Fr.same _⟩
 case round =>
  obtain ⟨k, rfl, hk, ho, hf⟩ := hrel
  have F := Lib.hid hf
  have O := Lib.hid ho
  clear hf ho
  rcases Nat.lt_or_ge k rs.length with hlt | hge
  ·obtain ⟨x, hx⟩ := get_of_lt hlt
   obtain ⟨a, hv, rfl, -, hc, hr⟩ := H.out k x hx
   have hc1 := hc.to (F.out.block _ hc.lt fun h => h)
   obtain ⟨c0, c1, c2, c3, c4, c5, c6⟩ := hc1
   have hb := HS.out x (List.mem_of_getElem? hx)
   have HX := Lib.hid hx
   obtain ⟨ob, ocap, hob⟩ := O.out.slice
   rw [List.length_take_of_le hk] at hob
   subst hob
   clear hx hc
   go_wp2_with fail
   refine (copy_rec K x hv _ (hr.old F.out) hb).mono ?_
   rintro e w2 ⟨hv2, rfl, hr2, hf2⟩
   have ha : ∀ j, (w2.alloc (.cells (recCells x hv2).toArray 95)).cell? ⟨w2.heap.size, j, none⟩ = (recCells x hv2).toArray[j]? := fun j => cell_alloc_new w2 _ 95 j
   have hf3 := hf2.alloc (.cells (recCells x hv2).toArray 95)
   have hr3 := hr2.old ((Fr.same w2).alloc (.cells (recCells x hv2).toArray 95))
   have HA := Lib.hid ha
   have HR := Lib.hid hr3
   have HF := Lib.hid hf3
   clear c0 c1 c2 c3 c4 c5 c6 hr hr2 hf2 ha hr3 hf3
   unfold recV
   go_wp2_with (at_builtin; refine wpList_push_rec _ rfl (.tmp 11) (.tmp 17) rfl (fun b => w.heap.size ≤ b) w.heap.size (.slice ob k ocap) (rs.take k) rfl (O.out.old HF.out) w2.heap.size 1 rfl x hv2 HA.out ?c1 (hds_one HR.out) ?c2 ?c3 ?_)
   case c1 => exact HR.out.mono fun b hb _ => ⟨Nat.le_trans F.out.size hb, fun e => by have := (O.out.lt e).2; omega⟩
   case c2 => rw [List.length_take_of_le hk]; omega
   case c3 => exact Nat.le_trans F.out.size HF.out.size
   intro v4 w4 ho4 hg4 hb4
   have hf4 : Fr (fun _ => False) w w4 := (F.out.tr HF.out).grown hg4 fun k hk => .inr (O.out.lt hk).1
   rw [← take_snoc' HX.out] at ho4
   have F4 := Lib.hid hf4
   have O4 := Lib.hid ho4
   clear hf4 ho4 hg4 hb4
   go_wp2_with fail
   go_roundw
   case rel => exact ⟨k + 1, by go_num, by omega, O4.out, F4.out⟩
   case measure => simp [intOf]; omega
  ·go_wp2_with fail
   go_ret
   refine ⟨_, rfl, ?_, F.out⟩
   have := O.out
   rw [List.take_of_length_le hge] at this
   exact this.reads (fun b hb _ => hb) fun b hb _ => hb
set_option maxHeartbeats 4000000 in
/-- A batch's copy. -/
theorem copy_bat (K : Nat → Prop) (b : Bat) (v : Value) (w : World) (h : RecsR K w v b.recs) (hl : b.recs.length ≤ 1000) (hs : ∀ r ∈ b.recs, r.hs.length ≤ 1000) :
  Calls Tryz.prog 14 #[batV b v] w (BatPost w b) := by
 have hh := h
 obtain ⟨oa, cap, rfl, -⟩ := hh
 have H := Lib.hid h
 clear h
 unfold batV
 have hf : ∀ cells1 cells2 cells3 : Array Value, Fr (fun _ => False) w (((w.alloc (.cells cells1 35)).alloc (.cells cells2 35)).alloc (.cells cells3 35)) := fun _ _ _ => (((Fr.same w).alloc _).alloc _).alloc _
 have HF := Lib.hid hf
 clear hf
 go_enter Tryz.func14, Tryz.ntmps14
 go_wp2_with fail
 refine (copy_recs K b.recs _ _ (H.out.old (HF.out _ _ _)) hl hs).mono ?_
 rintro e w' ⟨v', rfl, hr, hg⟩
 have hfr : Fr (fun _ => False) w w' := (HF.out _ _ _).tr hg
 have k2 : w'.heap[w.heap.size + 1 + 1]? = some (.cells #[.int .i64 b.base, .int .i64 b.span, .int .i64 b.prod, .int .i64 b.epoch, .int .i64 b.seq, .slice oa b.recs.length cap] 35 (0, 0)) :=
  (hg.block _ (by simp) (fun h => h)).trans (by simpa using heap_alloc_self ((w.alloc _).alloc _) _)
 have k1 : w'.heap[w.heap.size + 1]? = some (.cells #[.int .i64 0, .int .i64 0, .int .i64 0, .int .i64 0, .int .i64 0, .slice none 0 0] 35 (0, 0)) :=
  (hg.block _ (by simp) (fun h => h)).trans ((heap_alloc_lt _ (by simp)).trans (by simpa using heap_alloc_self (w.alloc _) _))
 have f2 : ∀ j, w'.frozen? ⟨w.heap.size + 1 + 1, j, none⟩ = false := by intro j; simp [World.frozen?, k2]
 have f1 : ∀ j, w'.frozen? ⟨w.heap.size + 1, j, none⟩ = false := by intro j; simp [World.frozen?, k1]
 have d2 : ∀ j, w'.cell? ⟨w.heap.size + 1 + 1, j, none⟩ = (#[.int .i64 b.base, .int .i64 b.span, .int .i64 b.prod, .int .i64 b.epoch, .int .i64 b.seq, .slice oa b.recs.length cap] : Array Value)[j]? := by intro j; simp [World.cell?, k2]
 have d1 : ∀ j, w'.cell? ⟨w.heap.size + 1, j, none⟩ = (#[.int .i64 0, .int .i64 0, .int .i64 0, .int .i64 0, .int .i64 0, .slice none 0 0] : Array Value)[j]? := by intro j; simp [World.cell?, k1]
 have HR := Lib.hid hr
 have HF2 := Lib.hid hfr
 obtain ⟨oa', cap', rfl, -⟩ := HR.out
 clear hr hfr hg k1 k2
 go_wp2_with fail
 refine bodyPost_ret (v := batV b (.slice oa' b.recs.length cap')) (by simp [results, Tryz.f14, go_sem, batV, d1]) rfl ⟨_, rfl, ?_, ?_⟩
 ·refine (HR.out.fr (S := fun k => k = w.heap.size + 1 ∨ k = w.heap.size + 1 + 1) ?_ ?_).mono fun b hb _ => ?_
  ·repeat' (refine Fr.setCell ?_ (.inl (by simp)) _)
   exact Fr.refl _ _
  ·intro k hk
   simp at hk
   omega
  ·simp at hb
   omega
 ·repeat' (refine Fr.setCell ?_ (.inr (by simp; try omega)) _)
  exact HF2.out
end Go.Proofs.YtfdhofabgdkkkaaGreatDoor
