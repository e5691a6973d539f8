/- Copies of lists: the walks. -/
import Derived.Test.YtcnmggmfehdfoaaDoorC1
namespace Go.Proofs.YtcnmggmfehdfoaaDoor
open Go.RowKit Go.Fm Go.BigFrame
set_option linter.unusedVariables false
set_option linter.unusedSimpArgs false

theorem take_snoc {α : Type} {l : List α} {k : Nat} {x : α} (h : l[k]? = some x) : l.take (k + 1) = l.take k ++ [x] := by
  obtain ⟨hk, rfl⟩ := List.getElem?_eq_some_iff.1 h
  exact List.take_succ_eq_append_getElem hk

set_option maxHeartbeats 4000000 in
/-- A list of records, copied. -/
theorem copy_recs (K : Nat → Prop) (rs : List Rec) (v : Value) (w : World) (h : RecsR K w v rs) (hl : rs.length ≤ 1000) (hs : ∀ r ∈ rs, r.hs.length ≤ 1000) :
    Calls Tryd.prog 18 #[v] w (RecsPost w rs) := by
  obtain ⟨oa, cap, rfl, h⟩ := h
  have H := Lib.hid h
  have HS := Lib.hid hs
  clear h hs
  go_enter Tryd.func18, Tryd.ntmps18
  go_wp2_with fail
  go_loopw [3, 4] (fun o i wr => ∃ k : Nat, i = .int .i64 k ∧ k ≤ rs.length ∧ OwnRecs (fun b => w.heap.size ≤ b) w.heap.size wr o (rs.take k) ∧ Fr (fun _ => False) w wr) (fun _ i _ => rs.length - (intOf i).toNat)
  case atStart => exact ⟨0, rfl, Nat.zero_le _, OwnRecs.nil _ _ _, Fr.same _⟩
  case round =>
    obtain ⟨k, rfl, hk, ho, hf⟩ := hrel
    have F := Lib.hid hf
    have O := Lib.hid ho
    clear hf ho
    rcases Nat.lt_or_ge k rs.length with hlt | hge
    · obtain ⟨x, hx⟩ := get_of_lt hlt
      obtain ⟨a, hv, rfl, -, hc, hr⟩ := H.out k x hx
      have hc1 := hc.to (F.out.block _ hc.lt fun h => h)
      obtain ⟨c0, c1, c2, c3, c4, c5, c6⟩ := hc1
      have hb := HS.out x (List.mem_of_getElem? hx)
      have HX := Lib.hid hx
      obtain ⟨ob, ocap, hob⟩ := O.out.slice
      rw [List.length_take_of_le hk] at hob
      subst hob
      clear hx hc
      go_wp2_with fail
      refine (copy_rec K x hv _ (hr.old F.out) hb).mono ?_
      rintro e w2 ⟨hv2, rfl, hr2, hf2⟩
      have ha : ∀ j, (w2.alloc (.cells (recCells x hv2).toArray 39)).cell? ⟨w2.heap.size, j, none⟩ = (recCells x hv2).toArray[j]? := fun j => cell_alloc_new w2 _ 39 j
      have hf3 := hf2.alloc (.cells (recCells x hv2).toArray 39)
      have hr3 := hr2.old ((Fr.same w2).alloc (.cells (recCells x hv2).toArray 39))
      have HA := Lib.hid ha
      have HR := Lib.hid hr3
      have HF := Lib.hid hf3
      clear c0 c1 c2 c3 c4 c5 c6 hr hr2 hf2 ha hr3 hf3
      unfold recV
      go_wp2_with (at_builtin; refine wpList_push_rec _ rfl (.tmp 11) (.tmp 17) rfl (fun b => w.heap.size ≤ b) w.heap.size (.slice ob k ocap) (rs.take k) rfl (O.out.old HF.out) w2.heap.size 1 rfl x hv2 HA.out ?c1 (hds_one HR.out) ?c2 ?c3 ?_)
      case c1 => exact HR.out.mono fun b hb _ => ⟨Nat.le_trans F.out.size hb, fun e => by have := (O.out.lt e).2; omega⟩
      case c2 => rw [List.length_take_of_le hk]; omega
      case c3 => exact Nat.le_trans F.out.size HF.out.size
      intro v4 w4 ho4 hg4 hb4
      have hf4 : Fr (fun _ => False) w w4 := (F.out.tr HF.out).grown hg4 fun k hk => .inr (O.out.lt hk).1
      rw [← take_snoc HX.out] at ho4
      have F4 := Lib.hid hf4
      have O4 := Lib.hid ho4
      clear hf4 ho4 hg4 hb4
      go_wp2_with fail
      go_roundw
      case rel => exact ⟨k + 1, by go_num, by omega, O4.out, F4.out⟩
      case measure => simp [intOf]; omega
    · go_wp2_with fail
      go_ret
      refine ⟨_, rfl, ?_, F.out⟩
      have := O.out
      rw [List.take_of_length_le hge] at this
      exact this.reads (fun b hb _ => hb) fun b hb _ => hb

set_option maxHeartbeats 4000000 in
/-- A batch's copy. -/
theorem copy_bat (K : Nat → Prop) (b : Bat) (v : Value) (w : World) (h : RecsR K w v b.recs) (hl : b.recs.length ≤ 1000) (hs : ∀ r ∈ b.recs, r.hs.length ≤ 1000) :
    Calls Tryd.prog 8 #[batV b v] w (BatPost w b) := by
  have hh := h
  obtain ⟨oa, cap, rfl, -⟩ := hh
  have H := Lib.hid h
  clear h
  unfold batV
  have hf : ∀ cells1 cells2 cells3 : Array Value, Fr (fun _ => False) w (((w.alloc (.cells cells1 29)).alloc (.cells cells2 29)).alloc (.cells cells3 29)) := fun _ _ _ => (((Fr.same w).alloc _).alloc _).alloc _
  have HF := Lib.hid hf
  clear hf
  go_enter Tryd.func8, Tryd.ntmps8
  go_wp2_with fail
  refine (copy_recs K b.recs _ _ (H.out.old (HF.out _ _ _)) hl hs).mono ?_
  rintro e w' ⟨v', rfl, hr, hg⟩
  have hfr : Fr (fun _ => False) w w' := (HF.out _ _ _).tr hg
  have k2 : w'.heap[w.heap.size + 1 + 1]? = some (.cells #[.int .i64 b.base, .int .i64 b.span, .int .i64 b.prod, .int .i64 b.epoch, .int .i64 b.seq, .slice oa b.recs.length cap] 29 (0, 0)) :=
    (hg.block _ (by simp) (fun h => h)).trans (by simpa using heap_alloc_self ((w.alloc _).alloc _) _)
  have k1 : w'.heap[w.heap.size + 1]? = some (.cells #[.int .i64 0, .int .i64 0, .int .i64 0, .int .i64 0, .int .i64 0, .slice none 0 0] 29 (0, 0)) :=
    (hg.block _ (by simp) (fun h => h)).trans ((heap_alloc_lt _ (by simp)).trans (by simpa using heap_alloc_self (w.alloc _) _))
  have f2 : ∀ j, w'.frozen? ⟨w.heap.size + 1 + 1, j, none⟩ = false := by intro j; simp [World.frozen?, k2]
  have f1 : ∀ j, w'.frozen? ⟨w.heap.size + 1, j, none⟩ = false := by intro j; simp [World.frozen?, k1]
  have d2 : ∀ j, w'.cell? ⟨w.heap.size + 1 + 1, j, none⟩ = (#[.int .i64 b.base, .int .i64 b.span, .int .i64 b.prod, .int .i64 b.epoch, .int .i64 b.seq, .slice oa b.recs.length cap] : Array Value)[j]? := by intro j; simp [World.cell?, k2]
  have d1 : ∀ j, w'.cell? ⟨w.heap.size + 1, j, none⟩ = (#[.int .i64 0, .int .i64 0, .int .i64 0, .int .i64 0, .int .i64 0, .slice none 0 0] : Array Value)[j]? := by intro j; simp [World.cell?, k1]
  have HR := Lib.hid hr
  have HF2 := Lib.hid hfr
  obtain ⟨oa', cap', rfl, -⟩ := HR.out
  clear hr hfr hg k1 k2
  go_wp2_with fail
  refine bodyPost_ret (v := batV b (.slice oa' b.recs.length cap')) (by simp [results, Tryd.f8, go_sem, batV, d1]) rfl ⟨_, rfl, ?_, ?_⟩
  · refine (HR.out.fr (S := fun k => k = w.heap.size + 1 ∨ k = w.heap.size + 1 + 1) ?_ ?_).mono fun b hb _ => ?_
    · repeat' (refine Fr.setCell ?_ (.inl (by simp)) _)
      exact Fr.refl _ _
    · intro k hk
      simp at hk
      omega
    · simp at hb
      omega
  · repeat' (refine Fr.setCell ?_ (.inr (by simp; try omega)) _)
    exact HF2.out
end Go.Proofs.YtcnmggmfehdfoaaDoor
